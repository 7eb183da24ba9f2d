/- Part of the proof of TranslateStable: layer. -/
import Derived.Test.YtffcgfpaakhbjaaGreatDoorL6
set_option linter.all false
namespace Go.jN
open Go
def ub{α:Type}(f:Nat->α){i j:Nat}(h:i≠j)(x y:α):eO (eO f i x) j y=eO (eO f j y) i x:=by
 funext k
 simp only[eO]
 by_cases b:k=j
 ·subst b;rw[bX rfl,bV (λe=>h e.symm),bX rfl]
 ·rw[bV b]
  by_cases a:k=i
  ·rw[bX a,bX a]
  ·rw[bV a,bV a,bV b]
def jo(fr:Fr)(d:Nat)(cs:List AV):Fr:=
 {fr with env:=eO fr.env d (.gx d (fr.gen d+1) 0),box:=eO fr.box d (some cs),gen:=eO fr.gen d (fr.gen d+1)}
def vk(P:Program)(T:cV)(fr:Fr)(o:Oper):Option (List AV):=
 match o.op with
 |.alloc t=>fY P t|.box _ x=>if dn (ev T fr x) then some (ev T fr x).cells else none|_=>none
inductive lk where
 |grow (tag:Tag) (l m:List AV)|same (l:List AV)
def lk.fr(fr:Fr)(d:Nat):lk->Fr
 |.grow tag l m=>grown fr d tag l m|.same l=>fr.put (some d) (.slice .gY l)
def KV(P:Program)(T:cV)(fr:Fr)(c:Call)(x:lk):Prop:=
 ∃s y t e sz tag tag' l m,c.args.toList=[s,y]/\c.argTypes.toList=[t,t]/\nS P t=some (e,sz)/\ev T fr s=.slice tag l/\ev T fr y=.slice tag' m/\jm sz l=true/\jm sz m=true/\l.length+m.length<=hS/\(nO fr tag l=true/\x=.grow tag l m\/nO fr tag l=false/\m=[]/\x=.same l)
section
variable{P:Program} {T:cV} {E:List Nat} {ops:List Oper} {opsA:Array Oper} {q:Qt} {soft soft1 soft2:Bool} {o o1 o2:Oper} {K:Fr->cc->Prop} {fr fr1 fr2 fr':Fr} {H H1 H2 H':cc}
def Uu{c:Call}{dst:Option Nat}(h:lD P T c dst (λf h=>f=fr'/\h=H') fr H):∃d x,dst=some d/\KV P T fr c x/\fr'=x.fr fr d/\H'=H:=by
 unfold lD at h
 split at h
 ·rename_i d s y t i a b
  split at h
  ·rename_i e sz tag l tag' m j k n;obtain⟨rfl,g2,g3,g4,g5⟩:=h
   split at g5
   ·rename_i g;exact⟨d,.grow tag l m,rfl,⟨s,y,i,e,sz,tag,tag',l,m,a,b,j,k,n,g2,g3,g4,.inl ⟨g,rfl⟩⟩,g5.1.symm,g5.2.symm⟩
   ·rename_i g;exact⟨d,.same l,rfl,⟨s,y,i,e,sz,tag,tag',l,m,a,b,j,k,n,g2,g3,g4,.inr ⟨by simpa using g,g5.1,rfl⟩⟩,g5.2.1.symm,g5.2.2.symm⟩
  ·exact h.elim
 ·exact h.elim
def WX{c:Call}{d:Nat}{x:lk}(f:KV P T fr c x)(b:K (x.fr fr d) H):lD P T c (some d) K fr H:=by
 obtain⟨s,y,t,e,sz,tag,tag',l,m,g,h,i,j,k,n,o,p,q⟩:=f;unfold lD;rw[g,h];simp only[i,j,k];refine⟨trivial,n,o,p,?_⟩;rcases q with⟨a,rfl⟩|⟨a,hm,rfl⟩
 ·rw[bX a];exact b
 ·rw[bV (by simp[a])];exact⟨hm,b⟩
def KV.congr{c:Call}{x:lk}(d:KV P T fr c x)(he:∀y∈c.args.toList,ev T fr y=ev T fr' y)(f:fr'.r_=fr.r_)(hg:fr'.dv=fr.dv):KV P T fr' c x:=by
 obtain⟨s,y,t,e,sz,tag,tag',l,m,a,g,h,i,j,k,n,o,p⟩:=d
 have b:nO fr' tag l=nO fr tag l:=by unfold nO;rw[f,hg]
 exact⟨s,y,t,e,sz,tag,tag',l,m,a,g,h,by rw[<-he s (by rw[a];simp)];exact i,by rw[<-he y (by rw[a];simp)];exact j,k,n,o,by rw[b];exact p⟩
def vt(a:dA E ops o=.val\/∃r,dA E ops o=.load r)(h:mB P T E ops q soft o fr H fr' H'):∃v,la P T E ops q soft fr H o=some v/\fr'=fr.put o.dst v/\H'=H:=by
 unfold mB at h;obtain⟨dst,op,type,pos,after,guard⟩:=o
 have key:∀{x:Option AV},(match x with|some v=>(λf h=>f=fr'/\h=H') (fr.put dst v) H|none=>False)->∃v,x=some v/\fr'=fr.put dst v/\H'=H:=by
  intro x d
  split at d
  ·exact⟨_,rfl,d.1.symm,d.2.symm⟩
  ·exact d.elim
 cases op with
 |alloc t=>simp only[dA] at a;split at a<;>(try split at a)<;>simp at a
 |box t x=>simp only[dA] at a;split at a<;>(try split at a)<;>simp at a
 |store t x y=>simp[dA] at a
 |call c=>
  obtain⟨callee,args,N4⟩:=c;cases callee with
  |builtin b=>cases b<;>first|(simp[dA] at a;done)|(simp only[fk] at h;exact key h)
  |value f=>simp[dA] at a
  |invoke r m=>simp[dA] at a
 |_=>simp only[fk] at h;exact key h
def ze{v:AV}(h:la P T E ops q soft fr H o=some v):mB P T E ops q soft o fr H (fr.put o.dst v) H:=by
 unfold mB;obtain⟨dst,op,type,pos,after,guard⟩:=o;cases op with
 |alloc t=>simp[la] at h
 |box t x=>simp[la] at h
 |store t x y=>simp[la] at h
 |call c=>
  obtain⟨callee,args,N4⟩:=c;cases callee with
  |builtin b=>cases b<;>first|(simp[la] at h;done)|(simp only[fk];rw[h];first|exact⟨rfl,rfl⟩|exact⟨rfl,trivial⟩)
  |value f=>simp[la] at h
  |invoke r m=>simp[la] at h
 |_=>simp only[fk];rw[h];first|exact⟨rfl,rfl⟩|exact⟨rfl,trivial⟩
def tK{d:Option Nat}(g:dA E ops o=.alloc d)(h:mB P T E ops q soft o fr H fr' H'):∃a cs,d=some a/\o.dst=some a/\E.contains a=false/\vk P T fr o=some cs/\fr'=jo fr a cs/\H'=H:=by
 unfold mB at h;obtain⟨dst,op,type,pos,after,guard⟩:=o
 have key:∀{cs:List AV} {a:Nat},dst=some a->E.contains a=false->jl E dst cs (λf h=>f=fr'/\h=H') fr H->fr'=jo fr a cs/\H'=H:=by
  intro cs a s l i;subst s;unfold jl at i;simp only at i;rw[bV (by simp only[l];simp)] at i;exact⟨i.1.symm,i.2.symm⟩
 have e:(∃t,op=.alloc t)\/(∃t x,op=.box t x)->∃a,d=some a/\dst=some a/\E.contains a=false:=by
  intro n
  have:(match dst with|some d=>if E.contains d then Th.zB else .alloc (some d)|none=>.zB)=.alloc d:=by
   rcases n with⟨t,rfl⟩|⟨t,x,rfl⟩<;>exact g
  split at this
  ·rename_i a
   split at this
   ·cases this
   ·rename_i l;cases this;exact⟨a,rfl,rfl,by simpa using l⟩
  ·cases this
 cases op with
 |alloc t=>
  obtain⟨a,p,j,k⟩:=e (.inl ⟨t,rfl⟩);simp only[fk] at h
  split at h
  ·rename_i z u;obtain⟨g1,g2⟩:=key j k h.2;exact⟨a,_,p,j,k,by simp only[vk,u],g1,g2⟩
  ·exact h.elim
 |box t x=>
  obtain⟨a,p,j,k⟩:=e (.inr ⟨t,x,rfl⟩);simp only[fk] at h;obtain⟨g1,g2⟩:=key j k h.2.2;exact⟨a,_,p,j,k,by simp only[vk];rw[bX h.1],g1,g2⟩
 |call c=>
  obtain⟨callee,args,N4⟩:=c;cases callee with
  |builtin b=>cases b<;>simp[dA] at g
  |value f=>simp[dA] at g
  |invoke r m=>simp[dA] at g
 |_=>simp[dA] at g
def uV{d:Nat}{cs:List AV}(b:o.dst=some d)(a:E.contains d=false)(h:vk P T fr o=some cs):mB P T E ops q soft o fr H (jo fr d cs) H:=by
 unfold mB;obtain⟨dst,op,type,pos,after,guard⟩:=o;simp only at b;subst b
 have key:∀cs,jl E (some d) cs (λf h=>f=jo fr d cs/\h=H) fr H:=by
  intro cs;unfold jl;simp only;rw[bV (by simp only[a];simp)]
  first|exact⟨rfl,rfl⟩|exact⟨rfl,trivial⟩
 cases op with
 |alloc t=>
  simp only[vk] at h;simp only[fk,h];exact⟨λ_=>by simpa using a,key _⟩
 |box t x=>
  simp only[vk] at h
  split at h
  ·rename_i c;cases h;simp only[fk];exact⟨c,λ_=>by simpa using a,key _⟩
  ·cases h
 |_=>simp[vk] at h
def sO(h:∀x∈o.op.operands,ev T fr x=ev T fr' x):vk P T fr o=vk P T fr' o:=by
 obtain⟨dst,op,type,pos,after,guard⟩:=o;cases op with
 |box t x=>simp only[vk];rw[h x (by simp[Op.operands])]|_=>rfl
def AY(s:dA E ops o=.zB)(h:mB P T E ops q soft o fr H fr' H'):∃r,fr'=fr.put o.dst r/\(soft=true->QK q H H')/\∀f:Fr,(∀x∈o.op.operands,ev T fr x=ev T f x)->mB P T E ops q soft o f H (f.put o.dst r) H':=by
 unfold mB at h;obtain⟨dst,op,type,pos,after,guard⟩:=o
 have a:∀{cs:List AV},((∃t,op=.alloc t)\/(∃t x,op=.box t x))->jl E dst cs (λf h=>f=fr'/\h=H') fr H->∃d,dst=some d/\E.contains d=true/\fr'=fr.put dst (.di H.length 0)/\H'=H++[cs.map AV.gA]/\∀f:Fr,jl E dst cs (λA h=>A=f.put dst (.di H.length 0)/\h=H') f H:=by
  intro cs u i
  have hm:(match dst with|some d=>if E.contains d then Th.zB else .alloc (some d)|none=>.zB)=.zB:=by
   rcases u with⟨t,rfl⟩|⟨t,x,rfl⟩<;>exact s
  unfold jl at i
  split at i
  ·rename_i d
   split at i
   ·rename_i p;refine⟨d,rfl,p,i.1.symm,i.2.symm,λf=>?_⟩;unfold jl;simp only;rw[bX p];exact⟨rfl,i.2⟩
   ·rename_i p;simp only[bV p] at hm;cases hm
  ·exact i.elim
 cases op with
 |alloc t=>
  simp only[fk] at h
  split at h
  ·rename_i z B;obtain⟨d,k,j,l,v,w⟩:=a (.inl ⟨t,rfl⟩) h.2;refine⟨_,l,?_,λf n=>?_⟩
   ·intro hs;have:=h.1 hs;rw[k] at this;exact absurd this (by simp only[Wu,j];simp)
   ·unfold mB;simp only[fk,B];exact⟨h.1,w f⟩
  ·exact h.elim
 |box t x=>
  simp only[fk] at h;obtain⟨d,k,j,l,v,w⟩:=a (.inr ⟨t,x,rfl⟩) h.2.2;refine⟨_,l,?_,λf n=>?_⟩
  ·intro hs;have:=h.2.1 hs;rw[k] at this;exact absurd this (by simp only[Wu,j];simp)
  ·unfold mB;simp only[fk];have e:=n x (by simp[Op.operands]);refine⟨by rw[<-e];exact h.1,h.2.1,?_⟩;rw[<-e];exact w f
 |call c=>
  obtain⟨callee,args,N4⟩:=c;cases callee with
  |builtin b=>cases b<;>simp[dA] at s
  |value g=>
   simp only[fk] at h;obtain⟨r,y,k,j,l,v⟩:=h;subst v;refine⟨r,l.symm,j,λf n=>?_⟩;unfold mB;simp only[fk];refine⟨r,y,?_,j,rfl,rfl⟩
   have C:(args.toList.map λx=>(ev T fr x).norm)=args.toList.map λx=>(ev T f x).norm:=
    qf λx D=>by rw[n x (by simp[Op.operands,Call.operands,uX.1 D])]
   rw[<-C,<-n g (by simp[Op.operands,Call.operands])];exact k
  |invoke r m=>simp only[fk] at h
 |_=>simp[dA] at s
def A'(a:dA E ops o=.app)(h:mB P T E ops q soft o fr H fr' H'):∃d x,o.dst=some d/\fr'=lk.fr fr d x/\H'=H/\∀(f:Fr) (h:cc),(∀x∈o.op.operands,ev T fr x=ev T f x)->f.r_=fr.r_->f.dv=fr.dv->mB P T E ops q soft o f h (lk.fr f d x) h:=by
 unfold mB at h;obtain⟨dst,op,type,pos,after,guard⟩:=o;cases op with
 |call c=>
  obtain⟨callee,args,N4⟩:=c;cases callee with
  |builtin b=>
   cases b with
   |append=>
    simp only[fk] at h;obtain⟨d,x,e,i,j,k⟩:=Uu h;subst e;refine⟨d,x,rfl,j,k,λf h he l hg=>?_⟩;unfold mB;simp only[fk];refine WX (i.congr (λy hy=>he y ?_) l hg) ⟨rfl,rfl⟩;simp only at hy;simp[Op.operands,Call.operands,uX.1 hy]
   |_=>simp[dA] at a
  |value g=>simp[dA] at a
  |invoke r m=>simp[dA] at a
 |alloc t=>simp only[dA] at a;split at a<;>(try split at a)<;>simp at a
 |box t x=>simp only[dA] at a;split at a<;>(try split at a)<;>simp at a
 |_=>simp[dA] at a
def RL{r:Option Nat}(a:dA E ops o=.J8 r)(h:mB P T E ops q soft o fr H fr' H'):fr'.env=fr.env/\fr'.gen=fr.gen/\fr'.r_=fr.r_/\fr'.dv=fr.dv/\o.dst=none/\(∀b,r≠some b->fr'.box b=fr.box b)/\(soft=true->H'=H):=by
 unfold mB at h;obtain⟨dst,op,type,pos,after,guard⟩:=o;cases op with
 |store t x y=>
  simp only[dA,Th.J8.injEq] at a;simp only[fk] at h;obtain⟨j,e,l,d⟩:=h;unfold ky at d
  split at d
  ·exact d.elim
  ·split at d
   ·rename_i b g off f
    split at d
    ·obtain⟨_,_,_,_,g1,g2⟩:=d;subst g1;subst g2;refine⟨rfl,rfl,rfl,rfl,j,λk i=>?_,λ_=>rfl⟩
     have:r=some b:=by
      rw[f] at e;simp only[pF,Uk] at e;rw[<-a];exact e
     subst this;show eO fr.box b _ k=fr.box k;rw[yC];rintro rfl;exact i rfl
    ·exact d.elim
   ·rename_i o' off f
    split at d
    ·obtain⟨_,_,_,_,g1,g2⟩:=d;subst g1;subst g2;refine⟨rfl,rfl,rfl,rfl,j,λ_ _=>rfl,λhs=>?_⟩;have:=l hs;rw[f] at this;simp[isL] at this
    ·exact d.elim
   ·exact d.elim
 |call c=>
  obtain⟨callee,args,N4⟩:=c;cases callee with
  |builtin b=>cases b<;>simp[dA] at a
  |value g=>simp[dA] at a
  |invoke r m=>simp[dA] at a
 |alloc t=>simp only[dA] at a;split at a<;>(try split at a)<;>simp at a
 |box t x=>simp only[dA] at a;split at a<;>(try split at a)<;>simp at a
 |_=>simp[dA] at a
def BF(fr:Fr)(d:Nat):fr.put (some d) (fr.env d)=fr:=by
 simp only[Fr.put]
 have:eO fr.env d (fr.env d)=fr.env:=by
  funext j
  simp only[eO]
  split
  ·rename_i h;rw[h]
  ·rfl
 rw[this]
def EA(fr:Fr)(d:Nat)(x y:AV):(fr.put (some d) x).put (some d) y=fr.put (some d) y:=by
 simp only[Fr.put,JW]
structure Left (c:Th) (dst:Option Nat) (soft:Bool) (q:Qt) (fr:Fr) (H:cc) (fr':Fr) (H':cc):Prop where
 env:∀t,dst≠some t->fr'.env t=fr.env t
 box:∀b,c≠ .alloc (some b)->c≠ .J8 (some b)->fr'.box b=fr.box b/\fr'.gen b=fr.gen b
 heap:c≠ .zB->(∀r,c=.J8 r->soft=true)->H'=H
 quiet:soft=true->QK q H H'
def lk.left(fr:Fr)(d:Nat)(x:lk):(∀t,t≠d->(lk.fr fr d x).env t=fr.env t)/\(lk.fr fr d x).box=fr.box/\(lk.fr fr d x).gen=fr.gen:=by
 cases x with
 |grow tag l m=>exact⟨λt a=>by show eO _ _ _ t=_;rw[yC _ _ _ _ a],rfl,rfl⟩|same l=>exact⟨λt a=>by show eO _ _ _ t=_;rw[yC _ _ _ _ a],rfl,rfl⟩
def oE(h:mB P T E ops q soft o fr H fr' H'):Left (dA E ops o) o.dst soft q fr H fr' H':=by
 have a:∀(v:AV) (t:Nat),o.dst≠some t->(fr.put o.dst v).env t=fr.env t:=by
  intro v t i;rw[Fr.rX,bV i]
 cases g:dA E ops o with
 |val=>
  obtain⟨v,_,rfl,rfl⟩:=vt (.inl g) h;obtain⟨c,f,_,_⟩:=Fr.v_ fr o.dst v;exact⟨a v,λb _ _=>⟨by rw[c],by rw[f]⟩,λ_ _=>rfl,λ_=>.refl⟩
 |load r=>
  obtain⟨v,_,rfl,rfl⟩:=vt (.inr ⟨r,g⟩) h;obtain⟨c,f,_,_⟩:=Fr.v_ fr o.dst v;exact⟨a v,λb _ _=>⟨by rw[c],by rw[f]⟩,λ_ _=>rfl,λ_=>.refl⟩
 |alloc d=>
  obtain⟨n,cs,rfl,k,_,_,rfl,rfl⟩:=tK g h;refine⟨λt i=>?_,λb l _=>?_,λ_ _=>rfl,λ_=>.refl⟩
  ·show eO _ _ _ t=_;rw[yC];rintro rfl;exact i k
  ·have j:b≠n:=by rintro rfl;exact l rfl
   exact⟨yC _ _ _ _ j,yC _ _ _ _ j⟩
 |zB=>
  obtain⟨r,rfl,p,_⟩:=AY g h;obtain⟨c,f,_,_⟩:=Fr.v_ fr o.dst r;exact⟨a r,λb _ _=>⟨by rw[c],by rw[f]⟩,λhn _=>absurd rfl hn,p⟩
 |app=>
  obtain⟨d,x,k,rfl,rfl,_⟩:=A' g h;obtain⟨g1,g2,g3⟩:=lk.left fr d x;exact⟨λt i=>g1 t (by rintro rfl;exact i k),λb _ _=>⟨by rw[g2],by rw[g3]⟩,λ_ _=>rfl,λ_=>.refl⟩
 |J8 r=>
  obtain⟨c,f,u,w,y,s,m⟩:=RL g h;exact⟨λt _=>by rw[c],λb _ l=>⟨s b (λe=>l (by rw[e])),by rw[f]⟩,λ_ hs=>m (hs r rfl),λhs=>by rw[m hs];exact .refl⟩
def LR{d:Nat}(v:AV)(c:d∉o.looksAt opsA)(a:o.dst≠some d)(h:mB P T E ops q soft o fr H fr' H'):mB P T E ops q soft o (fr.put (some d) v) H (fr'.put (some d) v) H':=by
 have e:fk P T E ops q soft o (λf h=>f=fr'/\h=H') ((fr.put (some d) v).put (some d) (fr.env d)) H:=by
  rw[EA,BF];exact h
 obtain⟨f,k,b,g,i⟩:=ri (IC (opsA:=opsA) c a e);subst i;have he:=(oE b).env d a
 have j:f=fr'.put (some d) v:=by
  rw[<-g,EA]
  have:(fr.put (some d) v).env d=v:=by rw[Fr.rX,bX rfl]
  rw[this] at he;rw[<-he,BF]
 rw[<-j];exact b
def E2{d:Nat}{v:AV}(b:d∉o.looksAt opsA)(a:o.dst≠some d)(h:mB P T E ops q soft o (fr.put (some d) v) H fr' H'):∃f,mB P T E ops q soft o fr H f H'/\f.put (some d) v=fr':=by
 obtain⟨f,i,c,e,g⟩:=ri (IC (opsA:=opsA) b a h);subst g;exact⟨f,c,e⟩
def Fl{x:Operand}{t:Nat}(a:x∈o.op.operands)(b:x=.tmp t):t∈o.looksAt opsA:=by
 subst b;exact Ub _ (ZU.2 ⟨.tmp t,by simpa using a,rfl⟩)
def Bj{c:Th}{dst:Option Nat}(a:Left c dst soft q fr H fr' H')(b:∀d,dst=some d->d∉o.looksAt opsA):∀x∈o.op.operands,ev T fr x=ev T fr' x:=by
 intro x e;refine Bu λt f=>?_;rw[a.env];intro g;exact b t g (Fl e f)
def CS{c:Th}{dst:Option Nat}(m:Left c dst soft2 q fr H fr' H')(z:∀d,dst=some d->d∉o.looksAt opsA)(e:uL (dA E ops o) c=true)
  (hs:∀r,dA E ops o=.load r->(c=.zB->soft=true/\soft2=true)/\(∀A,c=.J8 A->soft2=true)) {v:AV} (hv:la P T E ops q soft fr H o=some v\/la P T E ops q soft fr' H' o=some v):la P T E ops q soft fr H o=la P T E ops q soft fr' H' o:=by
 have n:=Bj (T:=T) (opsA:=opsA) m z
 by_cases j:∃t x,o.op=.load t x
 ·obtain⟨t,x,a⟩:=j;have B:=n x (by rw[a];simp[Op.operands])
  have k:dA E ops o=.load (CK ops x):=by unfold dA;rw[a]
  obtain⟨p,s⟩:=hs _ k;rw[k] at e
  have l:pF ops x (ev T fr x)=true/\(!soft||q.ok (ev T fr x))=true:=by
   have:∀(f:Fr) (h:cc),la P T E ops q soft f h o=some v->ev T f x=ev T fr x->pF ops x (ev T fr x)=true/\(!soft||q.ok (ev T fr x))=true:=by
    intro f h hv he;unfold la at hv;rw[a] at hv;simp only at hv
    split at hv
    ·rename_i w;rw[he] at w;simpa using w
    ·cases hv
   rcases hv with hv|hv
   ·exact this fr H hv rfl
   ·exact this fr' H' hv B.symm
  refine xb n (λG I he=>?_) (λ_ _ _ _ he=>by rw[a] at he;cases he);rw[a] at he;injection he with C D;subst C;subst D;refine⟨λb g off F=>?_,λo' y hg=>?_⟩
  ·have u:CK ops x=some b:=by
    have:=l.1;rw[F] at this;simpa[pF] using this
   rw[u] at e;have:=m.box b (by rintro rfl;simp[uL] at e) (by rintro rfl;simp[uL] at e);exact⟨this.1.symm,this.2.symm⟩
  ·by_cases he:c=.zB
   ·obtain⟨g1,g2⟩:=p he
    have hq:q.all=true\/q.st o'=true:=by
     have:=l.2;rw[g1,hg] at this;simpa[Qt.ok] using this
    rcases hq with hq|hq
    ·rw[(m.quiet g2).1 hq]
    ·exact((m.quiet g2).2 o' hq).symm
   ·rw[m.heap he s]
 ·refine xb n (λt x he=>absurd ⟨t,x,he⟩ j) λt x i ok a=>?_
  have k:dA E ops o=.load none:=by unfold dA;rw[a]
  obtain⟨p,s⟩:=hs _ k
  have hq:(!soft||q.all)=true:=by
   have:∀(f:Fr) (h:cc),la P T E ops q soft f h o=some v->(!soft||q.all)=true:=by
    intro f h hv;unfold la at hv;rw[a] at hv;simp only at hv
    split at hv
    ·rename_i w;exact w
    ·cases hv
   rcases hv with hv|hv
   ·exact this _ _ hv
   ·exact this _ _ hv
  by_cases he:c=.zB
  ·obtain⟨g1,g2⟩:=p he;rw[g1] at hq;exact((m.quiet g2).1 (by simpa using hq)).symm
  ·exact(m.heap he s).symm
def Kc(fr:Fr){d b:Nat}(h:d≠b)(cs a:List AV):jo (jo fr d cs) b a=jo (jo fr b a) d cs:=by
 simp only[jo,yC _ _ _ _ h,yC _ _ _ _ h.symm];rw[ub fr.env h,ub fr.box h,ub fr.gen h]
def yS(fr:Fr){d:Nat}{d2:Option Nat}(h:d2≠some d)(cs:List AV)(r:AV):(jo fr d cs).put d2 r=jo (fr.put d2 r) d cs:=by
 cases d2 with
 |none=>rfl|some b=>
  have a:d≠b:=λe=>h (by rw[e]);simp only[jo,Fr.put];rw[ub fr.env a]
def OM(fr:Fr){d:Nat}{d2:Option Nat}(h:d2≠some d)(x:lk)(r:AV):lk.fr (fr.put d2 r) d x=(lk.fr fr d x).put d2 r:=by
 cases d2 with
 |none=>rfl|some b=>
  have a:b≠d:=λe=>h (by rw[e]);cases x with
  |grow tag l m=>
   simp only[lk.fr,grown,Fr.put];rw[ub fr.env a]
  |same l=>exact lK fr a r (.slice .gY l)
def DA(fr:Fr){d a:Nat}(h:d≠a)(cs:List AV)(x:lk):lk.fr (jo fr d cs) a x=jo (lk.fr fr a x) d cs:=by
 cases x with
 |grow tag l m=>
  simp only[lk.fr,grown,jo];rw[ub fr.env h]
 |same l=>
  simp only[lk.fr,Fr.put,jo];rw[ub fr.env h]
def PH(R:o1.apart opsA o2=true)(b:uL (dA E ops o1) (dA E ops o2)=true)
  (S:∀r,dA E ops o1=.load r->(dA E ops o2=.zB->soft1=true/\soft2=true)/\(∀L,dA E ops o2=.J8 L->soft2=true))
  (U:∀r,dA E ops o2=.load r->(dA E ops o1=.zB->soft2=true/\soft1=true)/\(∀L,dA E ops o1=.J8 L->soft1=true))
  (G:mB P T E ops q soft1 o1 fr H fr1 H1) (D:mB P T E ops q soft2 o2 fr1 H1 fr2 H2):∃f h,mB P T E ops q soft2 o2 fr H f h/\mB P T E ops q soft1 o1 f h fr2 H2:=by
 obtain⟨a1,a2,a3⟩:=Oper.apart_spec R
 by_cases I:dA E ops o1=.val\/∃r,dA E ops o1=.load r
 ·obtain⟨v,M,c,J⟩:=vt I G;subst J
  have V:∃f,mB P T E ops q soft2 o2 fr H1 f H2/\f.put o1.dst v=fr2:=by
   cases u:o1.dst with
   |none=>rw[u] at c;subst c;exact⟨fr2,D,rfl⟩
   |some d=>rw[u] at c;subst c;exact E2 (opsA:=opsA) (a1 d u) (a2 d u) D
  obtain⟨f,N,W⟩:=V;have w:uL (dA E ops o1) (dA E ops o2)=true:=b;have:=CS (o:=o1) (soft:=soft1) (oE N) a3 w S (.inl M);refine⟨f,H2,N,?_⟩;rw[<-W];exact ze (by rw[<-this];exact M)
 ·--aa second one only K
  by_cases n:dA E ops o2=.val\/∃r,dA E ops o2=.load r
  ·obtain⟨v,M,c,J⟩:=vt n D;subst J
   have w:uL (dA E ops o2) (dA E ops o1)=true:=by
    revert b
    cases dA E ops o1<;>cases dA E ops o2<;>simp[uL]<;>(intro h e;exact h e.symm)
   have:=CS (o:=o2) (soft:=soft2) (oE G) a1 w U (.inr M);refine⟨fr.put o2.dst v,H,ze (by rw[this];exact M),?_⟩;rw[c];cases u:o2.dst with
   |none=>exact G|some d=>exact LR (opsA:=opsA) v (a3 d u) (λe=>a2 d e u) G
  ·--O
   have X:=oE G;have j:∀x∈o2.op.operands,ev T fr x=ev T fr1 x:=Bj (T:=T) (opsA:=opsA) X a1;have s:∀{f:Fr} {h:cc} (Q:mB P T E ops q soft2 o2 fr H f h),∀x∈o1.op.operands,ev T fr x=ev T f x:=λQ=>Bj (T:=T) (opsA:=opsA) (oE Q) a3;cases k:dA E ops o1 with
   |val=>exact absurd (.inl k) I|load r=>exact absurd (.inr ⟨r,k⟩) I|J8 r=>
    rw[k] at b;cases a:dA E ops o2 with
    |val=>exact absurd (.inl a) n|load L=>exact absurd (.inr ⟨L,a⟩) n|_=>rw[a] at b;simp[uL] at b
   |alloc d1=>
    obtain⟨d,cs,rfl,u,Y,Z,c,J⟩:=tK k G;subst J
    have back:∀{f:Fr} {h:cc} (Q:mB P T E ops q soft2 o2 fr H1 f h),mB P T E ops q soft1 o1 f h (jo f d cs) h:=λQ=>
     uV u Y (by rw[<-sO (s Q)];exact Z)
    cases a:dA E ops o2 with
    |val=>exact absurd (.inl a) n|load r=>exact absurd (.inr ⟨r,a⟩) n|J8 r=>rw[k,a] at b;simp[uL] at b
    |alloc d2=>
     obtain⟨z,A,rfl,i,B,t,g,p⟩:=tK a D;subst p;have C:d≠z:=λe=>a2 d u (by rw[i,e]);have hn:mB P T E ops q soft2 o2 fr H2 (jo fr z A) H2:=uV i B (by rw[sO j];exact t);refine⟨_,_,hn,?_⟩;rw[g,c,Kc fr C];exact back hn
    |zB=>
     obtain⟨r,g,_,l⟩:=AY a D;have hn:=l fr λx F=>(j x F).symm;refine⟨_,_,hn,?_⟩;rw[g,c,yS fr (λe=>a2 d u e)];exact back hn
    |app=>
     obtain⟨z,x,i,g,p,l⟩:=A' a D;subst p;have C:d≠z:=λe=>a2 d u (by rw[i,e]);have hn:=l fr H2 (λx F=>(j x F).symm) (by rw[c];rfl) (by rw[c];rfl);refine⟨_,_,hn,?_⟩;rw[g,c,DA fr C];exact back hn
   |zB=>
    obtain⟨r,c,_,m⟩:=AY k G;cases a:dA E ops o2 with
    |val=>exact absurd (.inl a) n|load r=>exact absurd (.inr ⟨r,a⟩) n|J8 r=>rw[k,a] at b;simp[uL] at b
    |zB=>rw[k,a] at b;simp[uL] at b
    |alloc d2=>
     obtain⟨z,A,rfl,i,B,t,g,p⟩:=tK a D;subst p;have hn:mB P T E ops q soft2 o2 fr H (jo fr z A) H:=uV i B (by rw[sO j];exact t);refine⟨_,_,hn,?_⟩;rw[g,c,<-yS fr (λe=>a2 z e i)];exact m _ λx F=>s hn x F
    |app=>
     obtain⟨z,x,i,g,p,l⟩:=A' a D;subst p;obtain⟨e1,e2,e3,e4⟩:=Fr.v_ fr o1.dst r;have hn:=l fr H (λx F=>(j x F).symm) (by rw[c,e3]) (by rw[c,e4]);refine⟨_,_,hn,?_⟩;rw[g,c,OM fr (λe=>a2 z e i)];exact m _ λx F=>s hn x F
   |app=>
    obtain⟨d,x,u,c,J,m⟩:=A' k G;subst J;cases a:dA E ops o2 with
    |val=>exact absurd (.inl a) n|load r=>exact absurd (.inr ⟨r,a⟩) n|J8 r=>rw[k,a] at b;simp[uL] at b
    |app=>rw[k,a] at b;simp[uL] at b
    |alloc d2=>
     obtain⟨z,A,rfl,i,B,t,g,p⟩:=tK a D;subst p;have C:z≠d:=λe=>a2 d u (by rw[i,e]);have hn:mB P T E ops q soft2 o2 fr H2 (jo fr z A) H2:=uV i B (by rw[sO j];exact t);refine⟨_,_,hn,?_⟩;rw[g,c,<-DA fr C];exact m _ _ (λy hy=>s hn y hy) rfl rfl
    |zB=>
     obtain⟨r,g,_,l⟩:=AY a D;have hn:=l fr λy hy=>(j y hy).symm;obtain⟨e1,e2,e3,e4⟩:=Fr.v_ fr o2.dst r;refine⟨_,_,hn,?_⟩;rw[g,c,<-OM fr (λe=>a2 d u e)];exact m _ _ (λy hy=>s hn y hy) e3 e4
end
end Go.jN
namespace Go.jN
open Go
def fE(opsA:Array Oper)(o:Oper)(fr:Fr):Option Bool:=
 match o.guard with
 |none=>some true|some (j,want)=>
  match(opsA[j]?).bind (·.dst)with
  |some d=>match fr.env d with
   |.sc (.bool b)=>some (b==want)|.tuple _=>some false|_=>none
  |none=>none
def jg(E:List Nat)(o:Oper):Bool:=
 match o.op with
 |.call c=>(match c.callee with
  |.builtin .append=>o.dst.any E.contains|.value _=>o.dst.any E.contains|_=>false)
 |_=>false
def Td(c:Call):Bool:=
 match c.callee with
 |.value _=>true|_=>false
def V0(P:Program)(T:cV)(q:Qt)(soft:Bool)(a:AV)(as:List AV)(dst:Option Nat)(K:Fr->cc->Prop)(fr:Fr)(H:cc):Prop:=
 ∃Post:AV->cc->Prop,kA P T a as H Post/\(∃r h,Post r h)/\∀r h,Post r h->(soft=true->QK q H h)/\K (fr.put dst r) h
def mE(P:Program)(T:cV)(q:Qt)(soft:Bool)(c:Call)(dst:Option Nat)(K:Fr->cc->Prop)(fr:Fr)(H:cc):Prop:=
 match c.callee with
 |.value f=>V0 P T q soft (ev T fr f) (c.args.toList.map λx=>(ev T fr x).norm) dst K fr H|_=>nJ P T c dst K fr H
def N7(E:List Nat)(q:Qt)(x:Operand)(v:AV):Prop:=E.contains 999999=true->∃a off t,v=.di a off/\x=.tmp t/\q.cl a=t
@[simp] theorem Y1(E:List Nat)(q:Qt)(t a off:Nat):N7 E q (.tmp t) (.di a off)=(E.contains 999999=true->q.cl a=t):=by
 refine propext ⟨λh b=>?_,λh b=>⟨a,off,t,rfl,rfl,h b⟩⟩;obtain⟨f,e,i,c,d,g⟩:=h b;injection c with c;injection d with d;subst c;subst d;exact g
@[simp] theorem abL{E:List Nat}{q:Qt}{x:Operand}{v:AV}(h:E.contains 999999=false):N7 E q x v=True:=eq_true λa=>by rw[h] at a;cases a
def BY(T:cV)(E:List Nat)(q:Qt)(fr:Fr)(o:Oper):Prop:=
 match o.op with
 |.store _ x _=>N7 E q x (ev T fr x)|_=>True
def nH(o:Oper):Option Nat:=
 match o.op with
 |.store _ (.tmp t) _=>some t|_=>none
def xL(o:Oper):Bool:=
 match o.op with
 |.store _ _ _=>true|_=>false
def p9(P:Program)(T:cV)(E:List Nat)(ops:List Oper)(q:Qt)(soft:Bool)(o:Oper)(K:Fr->cc->Prop)(fr:Fr)(H:cc):Prop:=
 if jg E o then(match o.op with
  |.call c=>mE P T q soft c o.dst K fr H|_=>False)else if xL o then(BY T E q fr o/\fk P T E ops q soft o K fr H)else fk P T E ops q soft o K fr H
def fJ(P:Program)(T:cV)(E:List Nat)(opsA:Array Oper)(q:Qt)(soft:Bool)(o:Oper)(K:Fr->cc->Prop)(fr:Fr)(H:cc):Prop:=
 match fE opsA o fr with
 |some true=>p9 P T E opsA.toList q soft o K fr H|some false=>K (fr.put o.dst (.tuple [])) H|none=>False
def Jk(P:Program)(T:cV)(E:List Nat)(opsA:Array Oper)(q:Qt)(sf:Nat->Bool):List Nat->(Fr->cc->Prop)->Fr->cc->Prop
 |[],K,fr,H=>K fr H|i::rest,K,fr,H=>match opsA[i]?with
  |some o=>fJ P T E opsA q (sf i) o (λfr H=>Jk P T E opsA q sf rest K fr H) fr H|none=>False
section
variable{P:Program} {T:cV} {E:List Nat} {opsA:Array Oper} {q:Qt} {soft soft1 soft2:Bool} {o o1 o2:Oper} {K K':Fr->cc->Prop} {fr fr':Fr} {H H':cc}
def zp(h:jg E o=true):∃c d,o.op=.call c/\(c.callee=.builtin .append\/∃f,c.callee=.value f)/\o.dst=some d:=by
 unfold jg at h
 split at h
 ·rename_i c e
  have a:o.dst.any E.contains=true->∃d,o.dst=some d:=by
   intro h;cases a:o.dst with
   |none=>rw[a] at h;simp at h
   |some d=>exact⟨d,rfl⟩
  split at h
  ·rename_i b;obtain⟨d,a⟩:=a h;exact⟨c,d,e,.inl b,a⟩
  ·rename_i f b;obtain⟨d,a⟩:=a h;exact⟨c,d,e,.inr ⟨f,b⟩,a⟩
  ·cases h
 ·cases h
def oS{ops:List Oper}{c:Call}(h:jg E o=true)(a:o.op=.call c):p9 P T E ops q soft o K fr H=mE P T q soft c o.dst K fr H:=by
 unfold p9;rw[bX h,a]
def np{ops:List Oper}(h:jg E o=false):p9 P T E ops q soft o K fr H=(BY T E q fr o/\fk P T E ops q soft o K fr H):=by
 unfold p9;rw[bV (by simp[h])];cases hs:xL o with
 |true=>rw[bX rfl]|false=>
  rw[bV aas]
  have a:BY T E q fr o:=by
   unfold BY
   split
   ·rename_i b;unfold xL at hs;rw[b] at hs;cases hs
   ·trivial
  exact propext ⟨λh=>⟨a,h⟩,λh=>h.2⟩
def Sr{ops:List Oper}(h:dA E ops o=.val\/∃r,dA E ops o=.load r):BY T E q fr o:=by
 unfold BY
 split
 ·rename_i t x y a;unfold dA at h;rw[a] at h;rcases h with h|⟨r,h⟩<;>cases h
 ·trivial
def wJ{f:Fr}(he:∀x∈o.op.operands,ev T fr x=ev T f x)(h:BY T E q fr o):BY T E q f o:=by
 unfold BY N7 at*
 split
 ·rename_i t x y a;rw[a] at h;intro b;obtain⟨c,off,s,d,e,g⟩:=h b;exact⟨c,off,s,by rw[<-he x (by rw[a];simp[Op.operands])];exact d,e,g⟩
 ·trivial
def zf{ops a:List Oper}(h:jg E o=false)(b:dA E a o=.val\/∃r,dA E a o=.load r):p9 P T E ops q soft o K fr H=fk P T E ops q soft o K fr H:=by
 rw[np h];exact propext ⟨λh=>h.2,λh=>⟨Sr b,h⟩⟩
def JO{c:Call}{dst:Option Nat}(b:∀r h,K (fr.put dst r) h->K' (fr.put dst r) h)(h:nJ P T c dst K fr H):nJ P T c dst K' fr H:=by
 unfold nJ at*
 split at h
 ·split at h
  ·obtain⟨d,e,f,g,h⟩:=h;refine⟨d,e,f,g,?_⟩
   split at h
   ·exact⟨h.1,h.2.1,λcap a=>b _ _ (h.2.2 cap a)⟩
   ·exact⟨h.1,λcap a=>b _ _ (h.2 cap a)⟩
   ·refine⟨h.1,h.2.1,?_⟩;have h:=h.2.2
    split at h
    ·exact⟨h.1,h.2.1,λa=>b _ _ (h.2.2.1 a),λcap d e=>b _ _ (h.2.2.2 cap d e)⟩
    ·exact h
   ·exact h
  ·exact h
 ·exact h
def N5{c:Call}{dst:Option Nat}(h:nJ P T c dst K fr H):∃r a,K (fr.put dst r) a:=by
 unfold nJ at h
 split at h
 ·split at h
  ·rename_i e sz tag' m b d;obtain⟨_,_,_,_,h⟩:=h
   split at h
   ·exact⟨_,_,h.2.2 _ (fT _)⟩
   ·exact⟨_,_,h.2 _ (fT _)⟩
   ·rename_i o off len cap hs;obtain⟨_,_,h⟩:=h
    split at h
    ·obtain⟨_,_,f,g⟩:=h
     by_cases i:len+m.length<=cap
     ·exact⟨_,_,f i⟩
     ·exact⟨_,_,g _ VW (fT _)⟩
    ·exact h.elim
   ·exact h.elim
  ·exact h.elim
 ·exact h.elim
def KQ{c:Call}{dst:Option Nat}{d:Nat}{v:AV}(g:∀x∈c.args.toList,ev T (fr.put (some d) v) x=ev T fr x)(j:dst≠some d)(h:nJ P T c dst K (fr.put (some d) v) H):nJ P T c dst (λf h=>K (f.put (some d) v) h) fr H:=by
 unfold nJ at*
 split at h
 ·rename_i k s x t r b o;have l:k≠d:=λe=>j (by rw[e]);have a:∀y:AV,(fr.put (some k) y).put (some d) v=(fr.put (some d) v).put (some k) y:=λy=>lK fr l y v;rw[g s (by rw[b];simp),g x (by rw[b];simp)] at h
  split at h
  ·obtain⟨m,n,p,q,h⟩:=h;refine⟨m,n,p,q,?_⟩
   split at h
   ·refine⟨h.1,h.2.1,λcap i=>?_⟩;simp only[a];exact h.2.2 cap i
   ·refine⟨h.1,λcap i=>?_⟩;simp only[a];exact h.2 cap i
   ·refine⟨h.1,h.2.1,?_⟩;have h:=h.2.2
    split at h
    ·refine⟨h.1,h.2.1,λi=>?_,λcap m n=>?_⟩
     ·simp only[a];exact h.2.2.1 i
     ·simp only[a];exact h.2.2.2 cap m n
    ·exact h
   ·exact h
  ·exact h
 ·exact h
def kA.mono{a:AV}{as:List AV}{Post Post':AV->cc->Prop}(h:kA P T a as H Post)(b:∀r h,Post r h->Post' r h):kA P T a as H Post':=by
 unfold kA at*
 split at h
 ·exact h.mono b
 ·exact h
def wE{c:Call}{dst:Option Nat}(g:∀r h,(Td c=true->soft=true->QK q H h)->K (fr.put dst r) h->K' (fr.put dst r) h)(h:mE P T q soft c dst K fr H):mE P T q soft c dst K' fr H:=by
 unfold mE at*
 split at h
 ·rename_i f i;obtain⟨Post,j,k,a⟩:=h;exact⟨Post,j,k,λr h b=>⟨(a r h b).1,g r h (λ_=>(a r h b).1) (a r h b).2⟩⟩
 ·rename_i i
  exact JO (λr h=>g r h λd=>by
   unfold Td at d
   split at d
   ·rename_i f e;exact(i f e).elim
   ·cases d) h
def Rz{c:Call}{dst:Option Nat}(h:mE P T q soft c dst K fr H):∃r a,(Td c=true->soft=true->QK q H a)/\K (fr.put dst r) a:=by
 unfold mE at h
 split at h
 ·obtain⟨Post,k,⟨r,a,e⟩,g⟩:=h;exact⟨r,a,λ_=>(g _ _ e).1,(g _ _ e).2⟩
 ·rename_i i;obtain⟨r,a,j⟩:=N5 h;refine⟨r,a,λb=>?_,j⟩;unfold Td at b
  split at b
  ·rename_i f d;exact(i f d).elim
  ·cases b
def Iy{c:Call}{dst:Option Nat}{d:Nat}{v:AV}(b:∀x∈c.operands.toList,ev T (fr.put (some d) v) x=ev T fr x)(i:dst≠some d)(h:mE P T q soft c dst K (fr.put (some d) v) H):mE P T q soft c dst (λf h=>K (f.put (some d) v) h) fr H:=by
 have a:∀x∈c.args.toList,ev T (fr.put (some d) v) x=ev T fr x:=λx j=>b x (by
  unfold Call.operands;rw[Array.toList_append]
  exact UJ _ j)
 unfold mE at*
 split at h
 ·rename_i f n;obtain⟨Post,k,o,l⟩:=h;rw[b f (by unfold Call.operands;rw[n];simp),qf (g:=λx=>(ev T fr x).norm) (λx j=>by rw[a x j])] at k;refine⟨Post,k,o,λr h m=>⟨(l r h m).1,?_⟩⟩;have:=(l r h m).2;cases dst with
  |none=>exact this|some p=>
   show K ((fr.put (some p) r).put (some d) v) h;rw[lK fr (λe=>i (by rw[e]))];exact this
 ·exact KQ a i h
def FV(a:∀fr H,K fr H->K' fr H)(h:fJ P T E opsA q soft o K fr H):fJ P T E opsA q soft o K' fr H:=by
 unfold fJ at*
 split at h
 ·cases hg:jg E o with
  |true=>
   obtain⟨c,d,b,_,e⟩:=zp hg;rw[oS hg b] at h|-;exact wE (λr h _=>a _ _) h
  |false=>
   rw[np hg] at h|-;exact⟨h.1,FZ a h.2⟩
 ·exact a _ _ h
 ·exact h
def Df(h:p9 P T E opsA.toList q soft o K fr H):p8 P T E o K fr H:=by
 cases hg:jg E o with
 |true=>
  obtain⟨c,d,b,a,j⟩:=zp hg;rw[oS hg b] at h;unfold p8;rw[b];rcases a with a|⟨f,a⟩
  ·simp only[a];unfold mE at h;rw[a] at h;exact .inr (.inr h)
  ·simp only[a];unfold mE at h;rw[a] at h;obtain⟨Post,e,_,g⟩:=h;exact e.mono λr h i=>(g r h i).2
 |false=>
  rw[np hg] at h;exact Ky h.2
def L0(h:fJ P T E opsA q soft o K fr H):DB P T E opsA o K fr H:=by
 unfold fJ fE at h;unfold DB;cases hg:o.guard with
 |none=>rw[hg] at h;exact Df h
 |some p=>
  obtain⟨j,want⟩:=p;rw[hg] at h;simp only at h|-
  cases g:(opsA[j]?).bind (·.dst)with
  |none=>rw[g] at h;exact h
  |some d=>
   rw[g] at h;simp only at h|-
   split
   ·rename_i b a;rw[a] at h;simp only at h
    by_cases hw:b=want
    ·subst hw;rw[bX rfl];simp only[beq_self_eq_true] at h;exact Df h
    ·rw[bV hw]
     have:(b==want)=false:=by simpa using hw
     rw[this] at h;exact h
   ·rename_i l e;rw[e] at h;exact h
   ·rename_i c f
    split at h
    ·rename_i he
     split at he
     ·rename_i b a;exact(c b a).elim
     ·cases he
     ·cases he
    ·rename_i he
     split at he
     ·rename_i b a;exact(c b a).elim
     ·rename_i l e;exact(f l e).elim
     ·cases he
    ·exact h
def xo(h:∀t,t∈o.looksAt opsA->fr'.env t=fr.env t):fE opsA o fr'=fE opsA o fr:=by
 unfold fE;cases hg:o.guard with
 |none=>rfl|some p=>
  obtain⟨j,want⟩:=p;simp only
  cases a:(opsA[j]?).bind (·.dst)with
  |none=>rfl|some d=>
   simp only
   have:d∈o.looksAt opsA:=by
    unfold Oper.looksAt;rw[hg];refine UJ _ ?_
    show d∈((opsA[j]?).bind (·.dst)).toList
    rw[a];simp
   rw[h d this]
def iZ{d:Option Nat}{v:AV}(h:∀a,d=some a->a∉o.looksAt opsA):fE opsA o (fr.put d v)=fE opsA o fr:=by
 refine xo λt b=>?_;rw[Fr.rX,bV];rintro rfl;exact h t rfl b
def Aq{c:Th}{dst:Option Nat}(b:Left c dst soft q fr H fr' H')(h:∀a,dst=some a->a∉o.looksAt opsA):fE opsA o fr'=fE opsA o fr:=by
 refine xo λt d=>b.env t ?_;rintro rfl;exact h t rfl d
def VT(E:List Nat)(opsA:Array Oper)(s1 s2:Bool)(o1 o2:Oper):Bool:=
 o1.apart opsA o2&&uL (dA E opsA.toList o1) (dA E opsA.toList o2)&&
 (match dA E opsA.toList o1,dA E opsA.toList o2 with
  |.load _,.zB=>s1&&s2|.zB,.load _=>s1&&s2|.load _,.J8 _=>s2|.J8 _,.load _=>s1|_,_=>true)
def Ee(o:Oper):Bool:=
 match o.op with
 |.call c=>Td c|_=>false
def IL(E:List Nat)(o:Oper):Bool:=
 match o.op,o.dst with
 |.alloc _,some d=>!E.contains d|_,_=>false
def HM(h:IL E o=true):∃t d,o.op=.alloc t/\o.dst=some d/\E.contains d=false:=by
 unfold IL at h
 split at h
 ·rename_i t d a b;exact⟨t,d,a,b,by simpa using h⟩
 ·cases h
def UR(E:List Nat)(opsA:Array Oper)(s1 s2:Bool)(o1 o2:Oper):Bool:=
 match dA E opsA.toList o2 with
 |.val=>true|.load _=>Ee o1&&s1&&s2|.alloc _=>Ee o1&&IL E o2|_=>false
def Kl{s1 s2:Bool}(h:UR E opsA s1 s2 o1 o2=true):(dA E opsA.toList o2=.val\/(∃r,dA E opsA.toList o2=.load r)/\Ee o1=true/\s1=true/\s2=true)\/Ee o1=true/\IL E o2=true:=by
 unfold UR at h
 split at h
 ·rename_i a;exact .inl (.inl a)
 ·rename_i r a;simp only[eg] at h;exact .inl (.inr ⟨⟨r,a⟩,h.1.1,h.1.2,h.2⟩)
 ·rename_i r a;simp only[eg] at h;exact .inr h
 ·cases h
def UN(E:List Nat)(opsA:Array Oper)(s1 s2:Bool)(o1 o2:Oper):Bool:=
 if jg E o1||jg E o2 then
  o1.apart opsA o2&&(jg E o1&&!jg E o2&&UR E opsA s1 s2 o1 o2||jg E o2&&!jg E o1&&UR E opsA s2 s1 o2 o1)
 else if E.contains 999999&&(nH o1).isSome&&(nH o2).isSome&&nH o1 !=nH o2&&o1.dst==none&&o2.dst==none then true
 else VT E opsA s1 s2 o1 o2
def Rq{f:Fr}{h:cc}(a:dA E opsA.toList o=.val)(he:∀x∈o.op.operands,ev T fr x=ev T f x):la P T E opsA.toList q soft fr H o=la P T E opsA.toList q soft f h o:=by
 refine xb he (λt x b=>?_) λt x i ok b=>?_
 ·unfold dA at a;rw[b] at a;cases a
 ·unfold dA at a;rw[b] at a;cases a
def Ff{d:Option Nat}{v:AV}(b:∀a,d=some a->a∉o.looksAt opsA):∀x∈o.op.operands,ev T fr x=ev T (fr.put d v) x:=by
 intro x c;refine Bu λt e=>?_;rw[Fr.rX,bV];rintro rfl;exact b t rfl (Fl c e)
def CA{d1 d2:Option Nat}(h:∀d,d1=some d->d2≠some d)(x y:AV):(fr.put d1 x).put d2 y=(fr.put d2 y).put d1 x:=by
 cases d1 with
 |none=>rfl|some a=>
  cases d2 with
  |none=>rfl|some b=>exact lK fr (λe=>h a rfl (by rw[e])) x y
def PI{c:Call}(a:o.op=.call c){x:Operand}(b:x∈c.args.toList):x∈o.op.operands:=by
 rw[a];simp[Op.operands,Call.operands,uX.1 b]
def kD(h:fJ P T E opsA q soft o K fr H):fE opsA o fr=some true/\p9 P T E opsA.toList q soft o K fr H\/fE opsA o fr=some false/\K (fr.put o.dst (.tuple [])) H:=by
 unfold fJ at h
 split at h
 ·rename_i hg;exact .inl ⟨hg,h⟩
 ·rename_i hg;exact .inr ⟨hg,h⟩
 ·exact h.elim
def qS(hg:fE opsA o fr=some true)(h:p9 P T E opsA.toList q soft o K fr H):fJ P T E opsA q soft o K fr H:=by
 unfold fJ;rw[hg];exact h
def qz(hg:fE opsA o fr=some false)(h:K (fr.put o.dst (.tuple [])) H):fJ P T E opsA q soft o K fr H:=by
 unfold fJ;rw[hg];exact h
def Gw{c:Call}(a:o.op=.call c){x:Operand}(b:x∈c.operands.toList):x∈o.op.operands:=by
 rw[a];exact uX.1 b
def VS{c:Call}(a:dA E opsA.toList o2=.val\/(∃r,dA E opsA.toList o2=.load r)/\Ee o1=true/\soft1=true/\soft2=true)(j:o1.op=.call c)(i:∀d,o1.dst=some d->d∉o2.looksAt opsA){r:AV}{e:cc}
  (k:Td c=true->soft1=true->QK q H e) {v:AV} (l:la P T E opsA.toList q soft2 fr H o2=some v\/la P T E opsA.toList q soft2 (fr.put o1.dst r) e o2=some v):la P T E opsA.toList q soft2 fr H o2=la P T E opsA.toList q soft2 (fr.put o1.dst r) e o2:=by
 rcases a with a|⟨⟨rr,a⟩,f,m,n⟩
 ·exact Rq a (Ff i)
 ·have g:Td c=true:=by unfold Ee at f;rw[j] at f;exact f
  have p:Left .zB o1.dst true q fr H (fr.put o1.dst r) e:=⟨λt s=>by rw[Fr.rX,bV s],λb _ _=>⟨by cases o1.dst<;>rfl,by cases o1.dst<;>rfl⟩,λh=>(h rfl).elim,λ_=>k g m⟩;refine CS (o:=o2) (opsA:=opsA) p i (by rw[a];rfl) (λ_ _=>⟨λ_=>⟨n,rfl⟩,λ_ h=>by cases h⟩) l
def Mc(s:o1.apart opsA o2=true)(w:dA E opsA.toList o1=.val\/(∃r,dA E opsA.toList o1=.load r)/\Ee o2=true/\soft2=true/\soft1=true)(n:jg E o1=false)(i:jg E o2=true)(h:fJ P T E opsA q soft1 o1 (λfr H=>fJ P T E opsA q soft2 o2 K fr H) fr H):fJ P T E opsA q soft2 o2 (λfr H=>fJ P T E opsA q soft1 o1 K fr H) fr H:=by
 obtain⟨a1,a2,a3⟩:=Oper.apart_spec s;obtain⟨c,d2,p,_,A⟩:=zp i;have j:dA E opsA.toList o1=.val\/∃r,dA E opsA.toList o1=.load r:=w.imp id λh=>h.1
 have key:∃v,(∀r h,(Td c=true->soft2=true->QK q H h)->K ((fr.put o2.dst r).put o1.dst v) h->fJ P T E opsA q soft1 o1 K (fr.put o2.dst r) h)/\fJ P T E opsA q soft2 o2 K (fr.put o1.dst v) H:=by
  rcases kD h with⟨k,m⟩|⟨k,m⟩
  ·rw[zf n j] at m;obtain⟨f1,H1,t,b⟩:=ri m;obtain⟨v,y,B,C⟩:=vt j t;rw[B,C] at b;refine⟨v,λr z u l=>qS (by rw[iZ a3,k]) ?_,b⟩;rw[zf n j];exact tO (ze (by rw[<-VS w p a3 u (.inl y)];exact y)) l
  ·exact⟨_,λr z _ l=>qz (by rw[iZ a3,k]) l,m⟩
 obtain⟨v,back,m⟩:=key;rcases kD m with⟨a,b⟩|⟨a,b⟩
 ·rw[iZ a1] at a;rw[oS i p] at b;refine qS a ?_;rw[oS i p]
  have D:mE P T q soft2 c o2.dst (λf h=>K (f.put o1.dst v) h) fr H:=by
   cases g:o1.dst with
   |none=>rw[g] at b;exact b
   |some d=>rw[g] at b;exact Iy (λx F=>(Ff (o:=o2) (opsA:=opsA) (d:=some d) (λG e=>by cases e;exact a1 d g) x (Gw p F)).symm) (a2 d g) b
  exact wE (λr z u l=>back _ _ u l) D
 ·rw[iZ a1] at a
  have l:K ((fr.put o2.dst (.tuple [])).put o1.dst v) H:=by
   rw[<-CA a2];exact b
  exact qz a (back _ _ (λ_ _=>QK.refl) l)
def Lu(z:o1.apart opsA o2=true)(G:dA E opsA.toList o2=.val\/(∃r,dA E opsA.toList o2=.load r)/\Ee o1=true/\soft1=true/\soft2=true)(l:jg E o1=true)(t:jg E o2=false)(h:fJ P T E opsA q soft1 o1 (λfr H=>fJ P T E opsA q soft2 o2 K fr H) fr H):fJ P T E opsA q soft2 o2 (λfr H=>fJ P T E opsA q soft1 o1 K fr H) fr H:=by
 obtain⟨a1,a2,a3⟩:=Oper.apart_spec z;obtain⟨c,d1,y,_,I⟩:=zp l;have m:dA E opsA.toList o2=.val\/∃r,dA E opsA.toList o2=.load r:=G.imp id λh=>h.1
 have inv:∀{r:AV} {s:cc} {n:Fr->cc->Prop},(Td c=true->soft1=true->QK q H s)->fJ P T E opsA q soft2 o2 n (fr.put o1.dst r) s->∃v,(fE opsA o2 fr=some true/\la P T E opsA.toList q soft2 fr H o2=some v\/fE opsA o2 fr=some false/\v=.tuple [])/\n ((fr.put o1.dst r).put o2.dst v) s:=by
  intro r s n A J;rcases kD J with⟨a,b⟩|⟨a,b⟩
  ·rw[zf t m] at b;obtain⟨f1,H1,B,g⟩:=ri b;obtain⟨v,i,C,L⟩:=vt m B;rw[C,L] at g;exact⟨v,.inl ⟨by rw[<-iZ (o:=o2) a1];exact a,by rw[VS G y a1 A (.inr i)];exact i⟩,g⟩
  ·exact⟨_,.inr ⟨by rw[<-iZ (o:=o2) a1];exact a,rfl⟩,b⟩
 have fwd:∀{v:AV} {n:Fr->cc->Prop},(fE opsA o2 fr=some true/\la P T E opsA.toList q soft2 fr H o2=some v\/fE opsA o2 fr=some false/\v=.tuple [])->n (fr.put o2.dst v) H->fJ P T E opsA q soft2 o2 n fr H:=by
  intro v n i j;rcases i with⟨a,i⟩|⟨a,rfl⟩
  ·refine qS a ?_;rw[zf t m];exact tO (ze i) j
  ·exact qz a j
 have uniq:∀{v w:AV},(fE opsA o2 fr=some true/\la P T E opsA.toList q soft2 fr H o2=some v\/fE opsA o2 fr=some false/\v=.tuple [])->(fE opsA o2 fr=some true/\la P T E opsA.toList q soft2 fr H o2=some w\/fE opsA o2 fr=some false/\w=.tuple [])->v=w:=by
  intro v w b g;rcases b with⟨g1,b⟩|⟨g1,rfl⟩<;>rcases g with⟨g2,g⟩|⟨g2,rfl⟩
  ·rw[b] at g;exact fS g
  ·rw[g1] at g2;cases g2
  ·rw[g1] at g2;cases g2
  ·rfl
 rcases kD h with⟨p,b⟩|⟨p,b⟩
 ·rw[oS l y] at b;obtain⟨Q,R,D,F⟩:=Rz b;obtain⟨v,i,_⟩:=inv D F;refine fwd i (qS (by rw[iZ a3,p]) ?_);rw[oS l y]
  have g:mE P T q soft1 c o1.dst (λf h=>K (f.put o2.dst v) h) fr H:=wE (λr s A j=>by
   obtain⟨w,hw,j⟩:=inv A j;rw[uniq i hw]
   exact j) b
  cases k:o2.dst with
  |none=>rw[k] at g;exact g
  |some d=>
   rw[k] at g;have u:o1.dst≠some d:=λe=>a2 d e k
   have M:mE P T q soft1 c o1.dst (λf h=>K (f.put (some d) v) h) ((fr.put (some d) v).put (some d) (fr.env d)) H:=by
    rw[EA,BF];exact g
   have N:=Iy (λx O=>(by
    have:=Ff (o:=o1) (opsA:=opsA) (T:=T) (fr:=fr.put (some d) v) (d:=some d) (v:=fr.env d) (λS e=>by cases e;exact a3 d k) x (Gw y O)
    exact this.symm)) u M
   refine wE (λr s _ j=>?_) N
   have C:(((fr.put (some d) v).put o1.dst r).put (some d) (fr.env d)).put (some d) v=(fr.put (some d) v).put o1.dst r:=by
    rw[EA];have hs:=BF ((fr.put (some d) v).put o1.dst r) d
    have he:((fr.put (some d) v).put o1.dst r).env d=v:=by
     rw[Fr.rX,bV u,Fr.rX,bX rfl]
    rw[he] at hs;exact hs
   rw[C] at j;exact j
 ·obtain⟨v,i,j⟩:=inv (λ_ _=>QK.refl) b;refine fwd i (qz (by rw[iZ a3,p]) ?_);rw[<-CA a2];exact j
def Tn(d:Nat)(b:Bool)(z:List AV)(fr:Fr):Fr:=if b then jo fr d z else fr.put (some d) (.tuple [])
def Od{d t:Nat}{b:Bool}{z:List AV}(h:t≠d):(Tn d b z fr).env t=fr.env t:=by
 unfold Tn
 split
 ·show eO fr.env d _ t=_;unfold eO;rw[bV h]
 ·rw[Fr.rX,bV λe=>h (fS e).symm]
def Ex{d:Nat}{b:Bool}{z:List AV}{c:Option Nat}(h:c≠some d)(v:AV):(Tn d b z fr).put c v=Tn d b z (fr.put c v):=by
 unfold Tn
 split
 ·exact yS fr h z v
 ·exact CA (λa f=>λe=>h (by rw[<-f] at e;exact e)) _ _
def uU{t:TypeId}{d:Nat}(a:o.op=.alloc t)(c:o.dst=some d)(g:E.contains d=false):fJ P T E opsA q soft o K fr H↔∃b z,fE opsA o fr=some b/\(b=true->fY P t=some z)/\K (Tn d b z fr) H:=by
 have hn:jg E o=false:=by unfold jg;rw[a]
 have hs:p9 P T E opsA.toList q soft o K fr H=(match fY P t with|some z=>K (jo fr d z) H|none=>False):=by
  unfold p9 xL;rw[hn,a];simp only[gX,fL];unfold fk;rw[a];simp only;cases fY P t with
  |none=>rfl|some z=>
   simp only;unfold jl;rw[c];simp only;rw[bV (by rw[g];decide)];refine propext ⟨λh=>h.2,λh=>⟨λ_=>?_,h⟩⟩;show E.contains d=false;exact g
 constructor
 ·intro h;rcases kD h with⟨hg,h⟩|⟨hg,h⟩
  ·rw[hs] at h
   split at h
   ·rename_i z f;exact⟨true,z,hg,λ_=>f,h⟩
   ·exact h.elim
  ·rw[c] at h;exact⟨false,[],hg,(λe=>by cases e),h⟩
 ·rintro⟨b,z,hg,f,h⟩;cases b with
  |true=>
   refine qS hg ?_;rw[hs,f rfl];exact h
  |false=>
   refine qz hg ?_;rw[c];exact h
def Z_{d:Nat}{b:Bool}{z:List AV}(a:d∉o.looksAt opsA):∀x∈o.op.operands,ev T (Tn d b z fr) x=ev T fr x:=by
 intro x c;refine Bu λt e=>Od ?_;rintro rfl;exact a (Fl c e)
def Ba{d:Nat}{b:Bool}{z:List AV}(a:d∉o.looksAt opsA):fE opsA o (Tn d b z fr)=fE opsA o fr:=by
 refine xo λt c=>Od ?_;rintro rfl;exact a c
def KW(h:Ee o=true):∃c f,o.op=.call c/\c.callee=.value f:=by
 unfold Ee at h
 split at h
 ·rename_i c a;unfold Td at h
  split at h
  ·rename_i f b;exact⟨c,f,a,b⟩
  ·cases h
 ·cases h
def SG{c:Call}{f:Operand}{d:Nat}{b:Bool}{z:List AV}(e:o.op=.call c)(g:c.callee=.value f)(h:d∉o.looksAt opsA):ev T (Tn d b z fr) f=ev T fr f/\(c.args.toList.map λx=>(ev T (Tn d b z fr) x).norm)=c.args.toList.map λx=>(ev T fr x).norm:=by
 have he:=λx a=>Z_ (T:=T) (fr:=fr) (b:=b) (z:=z) h x a;refine⟨he f (Gw e (by unfold Call.operands;rw[g];simp)),qf λx a=>?_⟩;rw[he x (PI e a)]
def KT(j:o1.apart opsA o2=true)(k:IL E o1=true)(l:Ee o2=true)(m:jg E o2=true)(h:fJ P T E opsA q soft1 o1 (λfr H=>fJ P T E opsA q soft2 o2 K fr H) fr H):fJ P T E opsA q soft2 o2 (λfr H=>fJ P T E opsA q soft1 o1 K fr H) fr H:=by
 obtain⟨a1,a2,a3⟩:=Oper.apart_spec j;obtain⟨t,d,n,g,o⟩:=HM k;obtain⟨c,f,p,s⟩:=KW l;have i:o2.dst≠some d:=a2 d g;obtain⟨b,z,hg,u,h⟩:=(uU n g o).1 h;rcases kD h with⟨a,e⟩|⟨a,e⟩
 ·rw[Ba (a1 d g)] at a;refine qS a ?_;rw[oS m p] at e|-;unfold mE at e|-;rw[s] at e|-;simp only at e|-;obtain⟨y,A⟩:=SG (T:=T) (fr:=fr) (b:=b) (z:=z) p s (a1 d g);rw[y,A] at e;obtain⟨Post,B,C,v⟩:=e;refine⟨Post,B,C,λr w x=>⟨(v r w x).1,(uU n g o).2 ⟨b,z,by rw[iZ a3,hg],u,?_⟩⟩⟩;rw[<-Ex i];exact(v r w x).2
 ·rw[Ba (a1 d g)] at a;refine qz a ((uU n g o).2 ⟨b,z,by rw[iZ a3,hg],u,?_⟩);rw[<-Ex i];exact e
def Lq(s:o1.apart opsA o2=true)(u:Ee o1=true)(v:IL E o2=true)(j:jg E o1=true)(h:fJ P T E opsA q soft1 o1 (λfr H=>fJ P T E opsA q soft2 o2 K fr H) fr H):fJ P T E opsA q soft2 o2 (λfr H=>fJ P T E opsA q soft1 o1 K fr H) fr H:=by
 obtain⟨a1,a2,a3⟩:=Oper.apart_spec s;obtain⟨t,d,k,a,l⟩:=HM v;obtain⟨c,f,w,x⟩:=KW u;have m:o1.dst≠some d:=λe=>a2 d e a;rcases kD h with⟨g,i⟩|⟨g,i⟩
 ·rw[oS j w] at i;unfold mE at i;rw[x] at i;simp only at i;obtain⟨Post,I,⟨B,C,D⟩,y⟩:=i;obtain⟨b,z,hg,o,_⟩:=(uU k a l).1 (y B C D).2;rw[iZ a1] at hg;refine(uU k a l).2 ⟨b,z,hg,o,qS (by rw[Ba (a3 d a),g]) ?_⟩;rw[oS j w];unfold mE;rw[x];simp only;obtain⟨J,L⟩:=SG (T:=T) (fr:=fr) (b:=b) (z:=z) w x (a3 d a);rw[J,L];refine⟨Post,I,⟨B,C,D⟩,λr F G=>⟨(y r F G).1,?_⟩⟩;obtain⟨M,N,n,A,p⟩:=(uU k a l).1 (y r F G).2;rw[iZ a1,hg] at n;obtain rfl:b=M:=fS n;rw[Ex m];cases b with
  |true=>
   obtain rfl:z=N:=fS (by rw[<-o rfl,<-A rfl]);exact p
  |false=>exact p
 ·obtain⟨b,z,hg,o,p⟩:=(uU k a l).1 i;rw[iZ a1] at hg;refine(uU k a l).2 ⟨b,z,hg,o,qz (by rw[Ba (a3 d a),g]) ?_⟩;rw[Ex m];exact p
def ZC{t:TypeId}{a off:Nat}{v:AV}:ky P t (.di a off) v K fr H↔∃agg n cs,dE P t=some (agg,n)/\H[a]?=some cs/\(mg cs=true/\v.cells.length=n/\off+n<=cs.length/\dn v=true)/\K fr (H.set a (setCells cs off v.norm.cells)):=by
 unfold ky;constructor
 ·intro h
  split at h
  ·exact h.elim
  ·rename_i agg n b;simp only at h
   split at h
   ·rename_i cs c;exact⟨agg,n,cs,b,c,⟨h.1,h.2.1,h.2.2.1,h.2.2.2.1⟩,h.2.2.2.2⟩
   ·exact h.elim
 ·rintro⟨agg,n,cs,b,c,h,d⟩;rw[b];simp only[c];exact⟨h.1,h.2.1,h.2.2.1,h.2.2.2,d⟩
def Du{s:Nat}(h:nH o=some s):∃t y,o.op=.store t (.tmp s) y:=by
 unfold nH at h
 split at h
 ·rename_i t b y a;cases h;exact⟨t,y,a⟩
 ·cases h
def TY{s:Nat}(h:nH o=some s):jg E o=false:=by
 obtain⟨t,y,a⟩:=Du h;unfold jg;rw[a]
def q8{ops:List Oper}{s:Nat}(j:E.contains 999999=true)(hs:nH o=some s):p9 P T E ops q soft o K fr H↔
  ∃t y a off agg n cs,o.op=.store t (.tmp s) y/\o.dst=none/\ev T fr (.tmp s)=.di a off/\q.cl a=s/\pF ops (.tmp s) (.di a off)=true/\soft=false/\dE P t=some (agg,n)/\H[a]?=some cs/\(mg cs=true/\(ev T fr y).cells.length=n/\off+n<=cs.length/\dn (ev T fr y)=true)/\K fr (H.set a (setCells cs off (ev T fr y).norm.cells)):=by
 obtain⟨t,y,k⟩:=Du hs;rw[np (TY hs)];unfold BY N7 fk;rw[k];simp only;constructor
 ·rintro⟨l,f,d,e,i⟩;obtain⟨a,off,u,c,g,h⟩:=l j;injection g with g;subst g;rw[c] at d e i;obtain⟨agg,n,cs,g1,g2,g3,g4⟩:=ZC.1 i;refine⟨t,y,a,off,agg,n,cs,rfl,f,c,h,d,?_,g1,g2,g3,g4⟩;cases b:soft with
  |false=>rfl|true=>have:=e b;simp[isL] at this
 ·rintro⟨v,w,a,off,agg,n,cs,m,f,c,h,d,e,g1,g2,g3,g4⟩;injection m with p x r;subst p;subst r;refine⟨λ_=>⟨a,off,s,c,rfl,h⟩,f,by rw[c];exact d,λb=>?_,?_⟩
  ·rw[e] at b;cases b
  ·rw[c];exact ZC.2 ⟨agg,n,cs,g1,g2,g3,g4⟩
def LN{s1 s2:Nat}(j:E.contains 999999=true)(k:nH o1=some s1)(g:nH o2=some s2)(p:s1≠s2)(h:fJ P T E opsA q soft1 o1 (λfr H=>fJ P T E opsA q soft2 o2 K fr H) fr H)(r:o1.dst=none)(s:o2.dst=none):fJ P T E opsA q soft2 o2 (λfr H=>fJ P T E opsA q soft1 o1 K fr H) fr H:=by
 have u:∀v,fr.put o1.dst v=fr:=λv=>by rw[r];rfl
 have B:∀v,fr.put o2.dst v=fr:=λv=>by rw[s];rfl
 rcases kD h with⟨c,o⟩|⟨c,o⟩
 ·obtain⟨t,y,w,off,agg,n,cs,C,D,F,x,G,I,J,L,M,o⟩:=(q8 j k).1 o;rcases kD o with⟨a,b⟩|⟨a,b⟩
  ·obtain⟨z,A,i,d,f,n',l,f0,f1,f2,f3,f4,f5,f6,f7,f8,b⟩:=(q8 j g).1 b
   have m:w≠i:=by rintro rfl;exact p (x.symm.trans f3)
   rw[yZ m] at f7;refine qS a ((q8 j g).2 ⟨z,A,i,d,f,n',l,f0,f1,f2,f3,f4,f5,f6,f7,f8,?_⟩);refine qS c ((q8 j k).2 ⟨t,y,w,off,agg,n,cs,C,D,F,x,G,I,J,?_,M,?_⟩)
   ·rw[yZ (λe=>m e.symm)];exact L
   ·rw[List.set_comm _ _ (λe=>m e.symm)];exact b
  ·refine qz a ?_;rw[B] at b|-;exact qS c ((q8 j k).2 ⟨t,y,w,off,agg,n,cs,C,D,F,x,G,I,J,L,M,b⟩)
 ·rw[u] at o;rcases kD o with⟨a,b⟩|⟨a,b⟩
  ·obtain⟨z,A,i,d,f,n',l,f0,f1,f2,f3,f4,f5,f6,f7,f8,b⟩:=(q8 j g).1 b;exact qS a ((q8 j g).2 ⟨z,A,i,d,f,n',l,f0,f1,f2,f3,f4,f5,f6,f7,f8,qz c (by rw[u];exact b)⟩)
  ·refine qz a ?_;show fJ P T E opsA q soft1 o1 K (fr.put o2.dst (.tuple [])) H;rw[B] at b|-;exact qz c (by rw[u];exact b)
def Nv(c:UN E opsA soft1 soft2 o1 o2=true)(h:fJ P T E opsA q soft1 o1 (λfr H=>fJ P T E opsA q soft2 o2 K fr H) fr H):fJ P T E opsA q soft2 o2 (λfr H=>fJ P T E opsA q soft1 o1 K fr H) fr H:=by
 unfold UN at c
 by_cases hG:(jg E o1||jg E o2)=true
 ·rw[bX hG] at c;simp only[eg,o0,T6] at c;obtain⟨b,⟨⟨g1,g2⟩,g3⟩|⟨⟨g1,g2⟩,g3⟩⟩:=c
  ·rcases Kl g3 with g3|⟨g3,g4⟩
   ·exact Lu b g3 g1 g2 h
   ·exact Lq b g3 g4 g1 h
  ·rcases Kl g3 with g3|⟨g3,g4⟩
   ·exact Mc b g3 g2 g1 h
   ·exact KT b g4 g3 g1 h
 rw[bV hG] at c
 by_cases F:(E.contains 999999&&(nH o1).isSome&&(nH o2).isSome&&nH o1 !=nH o2&&o1.dst==none&&o2.dst==none)=true
 ·simp only[eg,Option.isSome_iff_exists,bne_iff_ne,ne_eq,Uk] at F;obtain⟨⟨⟨⟨⟨O,s1,m⟩,s2,n⟩,G⟩,t⟩,u⟩:=F;exact LN O m n (by rintro rfl;exact G (by rw[m,n])) h t u
 rw[bV F] at c
 have v:jg E o1=false:=by cases Q:jg E o1<;>simp_all
 have w:jg E o2=false:=by cases Q:jg E o2<;>simp_all
 unfold VT at c;simp only[eg] at c;obtain⟨⟨b,z⟩,a⟩:=c;obtain⟨a1,a2,a3⟩:=Oper.apart_spec b
 have m:∀r,dA E opsA.toList o1=.load r->(dA E opsA.toList o2=.zB->soft1=true/\soft2=true)/\(∀A,dA E opsA.toList o2=.J8 A->soft2=true):=by
  intro r I;rw[I] at a;refine⟨λhe=>?_,λA he=>?_⟩<;>rw[he] at a
  ·simpa using a
  ·exact a
 have n:∀r,dA E opsA.toList o2=.load r->(dA E opsA.toList o1=.zB->soft2=true/\soft1=true)/\(∀A,dA E opsA.toList o1=.J8 A->soft1=true):=by
  intro r I;rw[I] at a;refine⟨λhe=>?_,λA he=>?_⟩<;>rw[he] at a
  ·have:soft1=true/\soft2=true:=by simpa using a
   exact⟨this.2,this.1⟩
  ·exact a
 unfold fJ at h;simp only[np v,np w] at h
 split at h
 ·--J first one is carried out
  rename_i i;obtain⟨s,h⟩:=h;obtain⟨f1,H1,o,h⟩:=ri h;have B:=oE o;have y:fE opsA o2 f1=fE opsA o2 fr:=Aq B a1;rw[y] at h;unfold fJ;simp only[np v,np w]
  split at h
  ·rename_i j;obtain⟨k,h⟩:=h;obtain⟨f2,H2,g,L⟩:=ri h;obtain⟨f,R,l,C⟩:=PH b z m n o g;refine⟨wJ (λx c=>(Bj (T:=T) (opsA:=opsA) B a1 x c).symm) k,tO l ?_⟩;have:fE opsA o1 f=fE opsA o1 fr:=Aq (oE l) a3;rw[this,i];exact⟨wJ (Bj (T:=T) (opsA:=opsA) (oE l) a3) s,tO C L⟩
  ·rename_i j
   show match fE opsA o1 (fr.put o2.dst (.tuple []))with
    |some true=>BY T E q (fr.put o2.dst (.tuple [])) o1/\fk P T E opsA.toList q soft1 o1 K (fr.put o2.dst (.tuple [])) H|some false=>K ((fr.put o2.dst (.tuple [])).put o1.dst (.tuple [])) H|none=>False
   rw[iZ a3,i];simp only;refine⟨wJ (Ff a3) s,?_⟩;cases p:o2.dst with
   |none=>rw[p] at h;exact tO o h
   |some d=>rw[p] at h;exact tO (LR (opsA:=opsA) _ (a3 d p) (λe=>a2 d e p) o) h
  ·exact h.elim
 ·--J first one is left out
  rename_i i;have y:fE opsA o2 (fr.put o1.dst (.tuple []))=fE opsA o2 fr:=iZ a1;rw[y] at h;unfold fJ;simp only[np v,np w]
  split at h
  ·rename_i j;obtain⟨k,h⟩:=h;obtain⟨f2,H2,g,L⟩:=ri h
   have M:∃f,mB P T E opsA.toList q soft2 o2 fr H f H2/\f.put o1.dst (.tuple [])=f2:=by
    cases p:o1.dst with
    |none=>rw[p] at g;exact⟨f2,g,rfl⟩
    |some d=>rw[p] at g;exact E2 (opsA:=opsA) (a1 d p) (a2 d p) g
   obtain⟨f,D,N⟩:=M;refine⟨wJ (λx c=>(Ff a1 x c).symm) k,tO D ?_⟩;have:fE opsA o1 f=fE opsA o1 fr:=Aq (oE D) a3;rw[this,i];show K (f.put o1.dst (.tuple [])) H2;rw[N];exact L
  ·rename_i j
   show match fE opsA o1 (fr.put o2.dst (.tuple []))with
    |some true=>BY T E q (fr.put o2.dst (.tuple [])) o1/\fk P T E opsA.toList q soft1 o1 K (fr.put o2.dst (.tuple [])) H|some false=>K ((fr.put o2.dst (.tuple [])).put o1.dst (.tuple [])) H|none=>False
   rw[iZ a3,i];simp only
   have:(fr.put o2.dst (.tuple [])).put o1.dst (.tuple [])=(fr.put o1.dst (.tuple [])).put o2.dst (.tuple []):=by
    cases t:o1.dst with
    |none=>rfl|some d1=>
     cases u:o2.dst with
     |none=>rfl|some d2=>exact lK fr (λe=>a2 d1 t (by rw[u,e])) _ _
   rw[this];exact h
  ·exact h.elim
 ·exact h.elim
def NV{sf:Nat->Bool}{i:Nat}(hi:opsA[i]?=some o)(post:List Nat):∀(pre:List Nat) (fr:Fr) (H:cc),(∀j∈pre,∀a,opsA[j]?=some a->UN E opsA (sf j) (sf i) a o=true)->Jk P T E opsA q sf (pre++i::post) K fr H->fJ P T E opsA q (sf i) o (λfr H=>Jk P T E opsA q sf (pre++post) K fr H) fr H:=by
 intro pre
 induction pre with
 |nil=>
  intro fr H _ h;simp only[m6,Jk,hi] at h;exact h
 |cons j pre b=>
  intro fr H hex h;simp only[WO,Jk] at h|-
  split at h
  ·rename_i a c;have d:=FV (λfr H h=>b fr H (λk e=>hex k aau) h) h;have f:=Nv (hex j aas a c) d;exact f
  ·exact h.elim
end
def vO(opsA:Array Oper):Bool:=opsA.toList.zipIdx.all λ(o,i)=>o.after.all λe=>!Region.binds .any e||decide (e.on<i)
def JL(opsA:Array Oper)(M:Array Nat):Bool:=
 (List.range opsA.size).all λi=>(List.range opsA.size).all λj=>!(M.getD i 0).testBit j||
  (opsA.getD i default).after.toList.any λe=>Region.binds .any e&&(e.on==j||(M.getD e.on 0).testBit j)
def x8(E:List Nat)(opsA:Array Oper)(sf:Nat->Bool):Bool:=
 let M:=Region.before opsA
 vO opsA&&JL opsA M&&
 (List.range opsA.size).all λi=>(List.range i).all λj=>(M.getD i 0).testBit j||UN E opsA (sf j) (sf i) (opsA.getD j default) (opsA.getD i default)
section
variable{P:Program} {T:cV} {E:List Nat} {opsA:Array Oper} {q:Qt} {sf:Nat->Bool} {K:Fr->cc->Prop}
def tV(opsA:Array Oper)(listed:Array Bool):List Nat:=(List.range opsA.size).filter λi=>!listed.getD i true
def Oj{listed:Array Bool}{i:Nat}:i∈tV opsA listed↔i<opsA.size/\listed.getD i true=false:=by
 simp[tV]
def Rl(M:Array Nat)(opsA:Array Oper)(listed:Array Bool):Prop:=∀i j,i<opsA.size->j<opsA.size->listed.getD i false=true->(M.getD i 0).testBit j=true->listed.getD j false=true
def zR{listed:Array Bool}{i:Nat}(d:Bool)(h:i<listed.size):(listed.setIfInBounds i true).getD i d=true:=by
 simp[h]
def J0{opsA:Array Oper}(a:vO opsA=true){listed:Array Bool}(f:listed.size=opsA.size){i:Nat}(hi:i<opsA.size)(d:listed.getD i true=false)
  (b:∀j,j<i->listed.getD j false=true):i∈Region.ready .any opsA listed:=by
 rw[mem_ready];refine⟨d,opsA[i],SB hi,λe he g=>?_⟩;refine b _ ?_;unfold vO at a;rw[im] at a
 have c:(opsA[i],i)∈opsA.toList.zipIdx:=by
  rw[abi];simp[hi]
 have:=a _ c;simp only[HI] at this;have:=this e he;rw[g] at this;simpa using this
def DC{opsA:Array Oper}{M:Array Nat}(f:JL opsA M=true)(a:vO opsA=true){listed:Array Bool}(g:Rl M opsA listed){i:Nat}(p:i∈Region.ready .any opsA listed){j:Nat}(m:j<opsA.size)
  (q:(M.getD i 0).testBit j=true):listed.getD j false=true:=by
 obtain⟨r,o,h,b⟩:=mem_ready.1 p;have hi:i<opsA.size:=(PM.1 h).1;unfold JL at f;rw[im] at f;have:=f i (by simpa using hi);rw[im] at this;have:=this j (by simpa using m);rw[q] at this;simp only[Bool.not_true,S7,List.any_eq_true,uX,eg,o0,Uk] at this;obtain⟨e,he,c,hor⟩:=this
 have k:opsA.getD i default=o:=by rw[Jz,h];rfl
 rw[k] at he;have n:=b e he c;rcases hor with rfl|hor
 ·exact n
 ·have l:e.on<opsA.size:=by
   unfold vO at a;rw[im] at a
   have d:(o,i)∈opsA.toList.zipIdx:=by
    rw[abi];simpa using h
   have:=a _ d;simp only[HI] at this;have:=this e he;rw[c] at this
   have:e.on<i:=by simpa using this
   omega
  exact g e.on j l m n hor
def Pc{listed:Array Bool}(d:listed.size=opsA.size){i:Nat}(hi:i<opsA.size)(b:listed.getD i true=false):∃pre post,tV opsA listed=pre++i::post/\tV opsA (listed.setIfInBounds i true)=pre++post/\∀j∈pre,j<i/\listed.getD j true=false:=by
 have c:List.range opsA.size=List.range i++i::(List.range' (i+1) (opsA.size-i-1)):=by
  rw[UG,UG]
  have:opsA.size=i+(1+(opsA.size-i-1)):=VW
  conv=>lhs;rw[this]
  rw[<-List.range'_append_1]
  congr 1
  rw[show 1+(opsA.size-i-1)=(opsA.size-i-1)+1 by omega,XN];simp
 refine⟨(List.range i).filter (λj=>!listed.getD j true),(List.range' (i+1) (opsA.size-i-1)).filter (λj=>!listed.getD j true),?_,?_,?_⟩
 ·unfold tV;rw[c,abb,List.filter_cons_of_pos (by simp[b])]
 ·unfold tV;rw[c,abb,List.filter_cons_of_neg (by rw[zR _ VW];simp)]
  congr 1
  ·refine ZF λj a=>?_
   have:j<i:=by simpa using a
   rw[getD_set_ne true VW]
  ·refine ZF λj a=>?_;have:=(List.mem_range'_1.1 a).1;rw[getD_set_ne true VW]
 ·intro j a;rw[Tr] at a;exact⟨by simpa using a.1,by simpa using a.2⟩
variable{n:Nat} {G0:Nat->Nat} {F0:js} {n0:Nat} {w0:World}
def xE{listed:Array Bool}{i:Nat}(hi:i<listed.size):listed.getD i false=listed.getD i true:=by
 simp[hi]
def St{Q:Exit->Act->World->Prop}(p:x8 E opsA sf=true)(x:yW n opsA=true)(S:∀fr' H' F w',K fr' H'->SR T n G0 F0 n0 w0 fr' H' F w'->Q .normal F w'):∀(fuel:Nat) (listed:Array Bool) (fr:Fr) (H:cc) (a:Act) (w:World),listed.size=opsA.size->Rl (Region.before opsA) opsA listed->(tV opsA listed).length<=fuel->SR T n G0 F0 n0 w0 fr H a w->Jk P T E opsA q sf (tV opsA listed) K fr H->wpAny P .any opsA Q fuel listed a w:=by
 unfold x8 at p;simp only[eg] at p;obtain⟨⟨c,U⟩,d⟩:=p
 have r:∀{listed:Array Bool},listed.size=opsA.size->Region.ready .any opsA listed=[]->tV opsA listed=[]:=by
  intro listed f y;cases b:tV opsA listed with
  |nil=>rfl|cons i rest=>
   exfalso
   have m:i∈tV opsA listed:=by rw[b];simp
   have hex:∃k,k<opsA.size/\listed.getD k true=false:=⟨i,Oj.1 m⟩
   obtain⟨k,⟨G,I⟩,z⟩:∃k,(k<opsA.size/\listed.getD k true=false)/\∀j,j<k->¬(j<opsA.size/\listed.getD j true=false):=by
    clear b m;obtain⟨k,hk⟩:=hex
    induction k using Nat.strongRecOn with
    |_ k J=>
     by_cases h:∃j,j<k/\(j<opsA.size/\listed.getD j true=false)
     ·obtain⟨j,s,t⟩:=h;exact J j s t
     ·exact⟨k,hk,λj A hc=>h ⟨j,A,hc⟩⟩
   have:=J0 c f G I λj A=>by
    have hn:=z j A
    have L:j<opsA.size:=VW
    rw[xE VW];cases hb:listed.getD j true with
    |true=>rfl|false=>exact absurd ⟨L,hb⟩ hn
   rw[y] at this;cases this
 intro fuel
 induction fuel with
 |zero=>
  intro listed fr H a w f g hlen hs h;have b:tV opsA listed=[]:=zI VW;rw[b] at h;refine⟨?_,S _ _ _ _ h hs⟩;cases y:Region.ready .any opsA listed with
  |nil=>rfl|cons i rest=>
   have hm:i∈Region.ready .any opsA listed:=by rw[y];simp
   obtain⟨u,o,v,_⟩:=mem_ready.1 hm;have:i∈tV opsA listed:=Oj.2 ⟨(PM.1 v).1,u⟩;rw[b] at this;cases this
 |succ fuel J=>
  intro listed fr H a w f g hlen hs h;refine⟨λy=>?_,λi hi=>?_⟩
  ·rw[r f y] at h;exact S _ _ _ _ h hs
  ·obtain⟨u,o,v,V⟩:=mem_ready.1 hi;have B:i<opsA.size:=(PM.1 v).1;obtain⟨pre,post,W,X,h3⟩:=Pc f B u;rw[W] at h
   have l:=NV (P:=P) (T:=T) (E:=E) (opsA:=opsA) (q:=q) (K:=K) (sf:=sf) v post pre fr H (by
    intro j A oj M;obtain⟨s,t⟩:=h3 j A;rw[im] at d;have:=d i (by simpa using B);rw[im] at this;have:=this j (by simpa using s);simp only[o0] at this
    have e1:opsA.getD j default=oj:=by rw[Jz,M];rfl
    have e2:opsA.getD i default=o:=by rw[Jz,v];rfl
    rw[e1,e2] at this;rcases this with hb|hb
    ·have:=DC U c g hi VW hb;rw[xE VW,t] at this;cases this
    ·exact hb) h
   have N:qh n o=true:=HI.1 x o (R4 v);refine DS v N hs (L0 l) ?_;intro fr' H' F w' hK O;refine J (listed.setIfInBounds i true) fr' H' F w' (by simpa using f) ?_ ?_ O (by rw[X];exact hK)
   ·--still closed
    intro Y Z R C hl hb
    by_cases he:Z=i
    ·subst he;exact zR _ VW
    ·rw[getD_set_ne false (λe=>he e.symm)]
     by_cases D:Y=i
     ·subst D;exact DC U c g hi C hb
     ·rw[getD_set_ne false (λe=>D e.symm)] at hl;exact g Y Z R C hl hb
   ·rw[W] at hlen;rw[X];simp only[ni,j0] at hlen|-;omega
end
section
variable{P:Program} {T:cV} {n:Nat} {Q:Exit->Fr->cc->Prop} {fr:Fr} {H:cc}
def SR.drew{G0:Nat->Nat}{F0:js}{n0:Nat}{w0:World}{a:Act}{w:World}(hs:SR T n G0 F0 n0 w0 fr H a w):SR T n G0 F0 n0 w0 fr H a w.drew:=by
 obtain⟨ρ,F,R,hw,b⟩:=hs;exact⟨ρ,F,R,hw.drew,b.drew⟩
def fA.Q0{id:Nat}{ops:Array Oper}(E:List Nat)(q:Qt)(sf:Nat->Bool)(hm:P.follows .mixedOrders=true)(c:yW n ops=true)(d:x8 E ops sf=true)
  (h:Jk P T E ops q sf (List.range ops.size) (Q .normal) fr H):fA P T n (.region id ops true) Q fr H:=by
 intro G0 F0 n0 w0 a w hs;refine wp_region_any hm ?_
 have b:tV ops (Array.replicate ops.size false)=List.range ops.size:=by
  unfold tV;rw[ZD];intro i hi
  have:i<ops.size:=by simpa using hi
  simp[this]
 have:=St (Q:=λe f w'=>∃fr' H',Q e fr' H'/\SR T n G0 F0 n0 w0 fr' H' f w') d c (λfr' H' f w' g k=>⟨fr',H',g,k⟩) ops.size (Array.replicate ops.size false) fr H a w.drew aas
  (by intro i j hi m l;simp[hi] at l) (by rw[b];simp) hs.drew (by rw[b];exact h)
 exact this
end
end Go.jN
namespace Go.jN
open Go
section
variable{P:Program} {T:cV} {n:Nat} {Q:Exit->Fr->cc->Prop} {fr:Fr} {H:cc}
def fA.Ah{x y:Code}(h:∀K:Fr->cc->Prop,(∀fr H,fA P T n y Q fr H->K fr H)->fA P T n x (BG K Q) fr H):fA P T n (.seq x y) Q fr H:=
 fA.seq (h _ λ_ _ h=>h)
def fA.Cy{id:Nat}{c:Code}(h:∀Q':Exit->Fr->cc->Prop,(∀fr H,Q .normal fr H->Q' .normal fr H)->(∀fr H,Q .normal fr H->Q' (.exit id) fr H)->(∀a fr H,a≠id->Q (.exit a) fr H->Q' (.exit a) fr H)->(∀fr H,Q .ret fr H->Q' .ret fr H)->fA P T n c Q' fr H):fA P T n (.block id c) Q fr H:=by
 refine fA.block (h (FA id Q) (λ_ _ h=>h) (λ_ _ h=>?_) (λa _ _ b h=>?_) (λ_ _ h=>h))
 ·simp only[FA,if_true];exact h
 ·simp only[FA,bV b];exact h
end
@[simp] theorem UO(K:Fr->cc->Prop)(Q:Exit->Fr->cc->Prop):BG K Q .normal=K:=rfl
@[simp] theorem X3(K:Fr->cc->Prop)(Q:Exit->Fr->cc->Prop)(id:Nat):BG K Q (.exit id)=Q (.exit id):=rfl
@[simp] theorem YJ(K:Fr->cc->Prop)(Q:Exit->Fr->cc->Prop):BG K Q .ret=Q .ret:=rfl
end Go.jN
