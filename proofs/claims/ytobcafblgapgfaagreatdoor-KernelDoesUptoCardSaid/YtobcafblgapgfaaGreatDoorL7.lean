/- Part of the proof of KernelAccepts, KernelDoes: layer. -/
import Derived.Test.YtobcafblgapgfaaGreatDoorL6
set_option linter.all false
namespace Go.ke
open Go
def uD{α:Type}(f:Nat->α){i j:Nat}(h:i≠j)(x y:α):fN (fN f i x) j y=fN (fN f j y) i x:=by
 funext k
 simp only[fN]
 by_cases h1:k=j
 ·subst h1;rw[cO rfl,cK (λe=>h e.symm),cO rfl]
 ·rw[cK h1]
  by_cases a:k=i
  ·rw[cO a,cO a]
  ·rw[cK a,cK a,cK h1]
def kI(fr:Fr)(d:Nat)(cs:List AV):Fr:=
 {fr with env:=fN fr.env d (.fC d (fr.gen d+1) 0),box:=fN fr.box d (some cs),gen:=fN fr.gen d (fr.gen d+1)}
def wk(P:Program)(T:dx)(fr:Fr)(o:Oper):Option (List AV):=
 match o.op with
 |.alloc t=>js P t|.box _ x=>if dY (ev T fr x) then some (ev T fr x).cells else none|_=>none
inductive ma where
 |grow (tag:Tag) (l m:List AV)|same (l:List AV)
def ma.fr(fr:Fr)(d:Nat):ma->Fr
 |.grow tag l m=>grown fr d tag l m|.same l=>fr.put (some d) (.slice .hY l)
def LZ(P:Program)(T:dx)(fr:Fr)(c:Call)(x:ma):Prop:=
 ∃s y t e sz tag a l m,c.args.toList=[s,y]/\c.argTypes.toList=[t,t]/\nT P t=some (e,sz)/\ev T fr s=.slice tag l/\ev T fr y=.slice a m/\jq sz l=true/\jq sz m=true/\l.length+m.length<=ie/\(oV fr tag l=true/\x=.grow tag l m\/oV fr tag l=false/\m=[]/\x=.same l)
section
variable{P:Program} {T:dx} {E:List Nat} {ops:List Oper} {opsA:Array Oper} {q:Qt} {soft soft1 soft2:Bool} {o o1 o2:Oper} {K:Fr->cW->Prop} {fr fr1 fr2 fr':Fr} {H H1 H2 H':cW}
def UH{c:Call}{dst:Option Nat}(h:mO P T c dst (λf h=>f=fr'/\h=H') fr H):∃d x,dst=some d/\LZ P T fr c x/\fr'=x.fr fr d/\H'=H:=by
 unfold mO at h
 split at h
 ·rename_i d s y t j a b
  split at h
  ·rename_i e sz tag l g m h1 k n;obtain⟨rfl,g2,g3,g4,g5⟩:=h
   split at g5
   ·rename_i i;exact⟨d,.grow tag l m,rfl,⟨s,y,j,e,sz,tag,g,l,m,a,b,h1,k,n,g2,g3,g4,.inl ⟨i,rfl⟩⟩,g5.1.symm,g5.2.symm⟩
   ·rename_i i;exact⟨d,.same l,rfl,⟨s,y,j,e,sz,tag,g,l,m,a,b,h1,k,n,g2,g3,g4,.inr ⟨by simpa using i,g5.1,rfl⟩⟩,g5.2.1.symm,g5.2.2.symm⟩
  ·exact h.elim
 ·exact h.elim
def XZ{c:Call}{d:Nat}{x:ma}(g:LZ P T fr c x)(b:K (x.fr fr d) H):mO P T c (some d) K fr H:=by
 obtain⟨s,y,t,e,sz,tag,f,l,m,h1,h,i,j,k,n,o,p,q⟩:=g;unfold mO;rw[h1,h];simp only[i,j,k];refine⟨trivial,n,o,p,?_⟩;rcases q with⟨a,rfl⟩|⟨a,hm,rfl⟩
 ·rw[cO a];exact b
 ·rw[cK (by simp[a])];exact⟨hm,b⟩
def LZ.congr{c:Call}{x:ma}(d:LZ P T fr c x)(he:∀y∈c.args.toList,ev T fr y=ev T fr' y)(f:fr'.tm=fr.tm)(hg:fr'.ei=fr.ei):LZ P T fr' c x:=by
 obtain⟨s,y,t,e,sz,tag,a,l,m,h1,g,h,i,j,k,n,o,p⟩:=d
 have b:oV fr' tag l=oV fr tag l:=by unfold oV;rw[f,hg]
 exact⟨s,y,t,e,sz,tag,a,l,m,h1,g,h,by rw[<-he s (by rw[h1];simp)];exact i,by rw[<-he y (by rw[h1];simp)];exact j,k,n,o,by rw[b];exact p⟩
def xf(a:eE E ops o=.val\/∃r,eE E ops o=.load r)(h:nG P T E ops q soft o fr H fr' H'):∃v,lI P T E ops q soft fr H o=some v/\fr'=fr.put o.dst v/\H'=H:=by
 unfold nG at h;obtain⟨dst,op,type,pos,after,guard⟩:=o
 have key:∀{x:Option AV},(match x with|some v=>(λf h=>f=fr'/\h=H') (fr.put dst v) H|none=>False)->∃v,x=some v/\fr'=fr.put dst v/\H'=H:=by
  intro x d
  split at d
  ·exact⟨_,rfl,d.1.symm,d.2.symm⟩
  ·exact d.elim
 cases op with
 |alloc t=>simp only[eE] at a;split at a<;>(try split at a)<;>simp at a
 |box t x=>simp only[eE] at a;split at a<;>(try split at a)<;>simp at a
 |store t x y=>simp[eE] at a
 |call c=>
  obtain⟨callee,args,Mn⟩:=c;cases callee with
  |builtin b=>cases b<;>first|(simp[eE] at a;done)|(simp only[fO] at h;exact key h)
  |value f=>simp[eE] at a
  |invoke r m=>simp[eE] at a
 |_=>simp only[fO] at h;exact key h
def zE{v:AV}(h:lI P T E ops q soft fr H o=some v):nG P T E ops q soft o fr H (fr.put o.dst v) H:=by
 unfold nG;obtain⟨dst,op,type,pos,after,guard⟩:=o;cases op with
 |alloc t=>simp[lI] at h
 |box t x=>simp[lI] at h
 |store t x y=>simp[lI] at h
 |call c=>
  obtain⟨callee,args,Mn⟩:=c;cases callee with
  |builtin b=>cases b<;>first|(simp[lI] at h;done)|(simp only[fO];rw[h];first|exact⟨rfl,rfl⟩|exact⟨rfl,trivial⟩)
  |value f=>simp[lI] at h
  |invoke r m=>simp[lI] at h
 |_=>simp only[fO];rw[h];first|exact⟨rfl,rfl⟩|exact⟨rfl,trivial⟩
def vj{d:Option Nat}(g:eE E ops o=.alloc d)(h:nG P T E ops q soft o fr H fr' H'):∃a cs,d=some a/\o.dst=some a/\E.contains a=false/\wk P T fr o=some cs/\fr'=kI fr a cs/\H'=H:=by
 unfold nG at h;obtain⟨dst,op,type,pos,after,guard⟩:=o
 have key:∀{cs:List AV} {a:Nat},dst=some a->E.contains a=false->j_ E dst cs (λf h=>f=fr'/\h=H') fr H->fr'=kI fr a cs/\H'=H:=by
  intro cs a hd l i;subst hd;unfold j_ at i;simp only at i;rw[cK (by simp only[l];simp)] at i;exact⟨i.1.symm,i.2.symm⟩
 have e:(∃t,op=.alloc t)\/(∃t x,op=.box t x)->∃a,d=some a/\dst=some a/\E.contains a=false:=by
  intro n
  have:(match dst with|some d=>if E.contains d then Ti.z8 else .alloc (some d)|none=>.z8)=.alloc d:=by
   rcases n with⟨t,rfl⟩|⟨t,x,rfl⟩<;>exact g
  split at this
  ·rename_i a
   split at this
   ·cases this
   ·rename_i l;cases this;exact⟨a,rfl,rfl,by simpa using l⟩
  ·cases this
 cases op with
 |alloc t=>
  obtain⟨a,h1,j,k⟩:=e (.inl ⟨t,rfl⟩);simp only[fO] at h
  split at h
  ·rename_i z p;obtain⟨g1,g2⟩:=key j k h.2;exact⟨a,_,h1,j,k,by simp only[wk,p],g1,g2⟩
  ·exact h.elim
 |box t x=>
  obtain⟨a,h1,j,k⟩:=e (.inr ⟨t,x,rfl⟩);simp only[fO] at h;obtain⟨g1,g2⟩:=key j k h.2.2;exact⟨a,_,h1,j,k,by simp only[wk];rw[cO h.1],g1,g2⟩
 |call c=>
  obtain⟨callee,args,Mn⟩:=c;cases callee with
  |builtin b=>cases b<;>simp[eE] at g
  |value f=>simp[eE] at g
  |invoke r m=>simp[eE] at g
 |_=>simp[eE] at g
def vJ{d:Nat}{cs:List AV}(hd:o.dst=some d)(a:E.contains d=false)(h:wk P T fr o=some cs):nG P T E ops q soft o fr H (kI fr d cs) H:=by
 unfold nG;obtain⟨dst,op,type,pos,after,guard⟩:=o;simp only at hd;subst hd
 have key:∀cs,j_ E (some d) cs (λf h=>f=kI fr d cs/\h=H) fr H:=by
  intro cs;unfold j_;simp only;rw[cK (by simp only[a];simp)]
  first|exact⟨rfl,rfl⟩|exact⟨rfl,trivial⟩
 cases op with
 |alloc t=>
  simp only[wk] at h;simp only[fO,h];exact⟨λ_=>by simpa using a,key _⟩
 |box t x=>
  simp only[wk] at h
  split at h
  ·rename_i b;cases h;simp only[fO];exact⟨b,λ_=>by simpa using a,key _⟩
  ·cases h
 |_=>simp[wk] at h
def tK(h:∀x∈o.op.operands,ev T fr x=ev T fr' x):wk P T fr o=wk P T fr' o:=by
 obtain⟨dst,op,type,pos,after,guard⟩:=o;cases op with
 |box t x=>simp only[wk];rw[h x (by simp[Op.operands])]|_=>rfl
def B1(p:eE E ops o=.z8)(h:nG P T E ops q soft o fr H fr' H'):∃r,fr'=fr.put o.dst r/\(soft=true->QK q H H')/\∀f:Fr,(∀x∈o.op.operands,ev T fr x=ev T f x)->nG P T E ops q soft o f H (f.put o.dst r) H':=by
 unfold nG at h;obtain⟨dst,op,type,pos,after,guard⟩:=o
 have a:∀{cs:List AV},((∃t,op=.alloc t)\/(∃t x,op=.box t x))->j_ E dst cs (λf h=>f=fr'/\h=H') fr H->∃d,dst=some d/\E.contains d=true/\fr'=fr.put dst (.dM H.length 0)/\H'=H++[cs.map AV.h_]/\∀f:Fr,j_ E dst cs (λy h=>y=f.put dst (.dM H.length 0)/\h=H') f H:=by
  intro cs s i
  have hm:(match dst with|some d=>if E.contains d then Ti.z8 else .alloc (some d)|none=>.z8)=.z8:=by
   rcases s with⟨t,rfl⟩|⟨t,x,rfl⟩<;>exact p
  unfold j_ at i
  split at i
  ·rename_i d
   split at i
   ·rename_i n;refine⟨d,rfl,n,i.1.symm,i.2.symm,λf=>?_⟩;unfold j_;simp only;rw[cO n];exact⟨rfl,i.2⟩
   ·rename_i n;simp only[cK n] at hm;cases hm
  ·exact i.elim
 cases op with
 |alloc t=>
  simp only[fO] at h
  split at h
  ·rename_i z A;obtain⟨d,h1,j,k,u,v⟩:=a (.inl ⟨t,rfl⟩) h.2;refine⟨_,k,?_,λf l=>?_⟩
   ·intro hs;have:=h.1 hs;rw[h1] at this;exact absurd this (by simp only[Up,j];simp)
   ·unfold nG;simp only[fO,A];exact⟨h.1,v f⟩
  ·exact h.elim
 |box t x=>
  simp only[fO] at h;obtain⟨d,h1,j,k,u,v⟩:=a (.inr ⟨t,x,rfl⟩) h.2.2;refine⟨_,k,?_,λf l=>?_⟩
  ·intro hs;have:=h.2.1 hs;rw[h1] at this;exact absurd this (by simp only[Up,j];simp)
  ·unfold nG;simp only[fO];have e:=l x (by simp[Op.operands]);refine⟨by rw[<-e];exact h.1,h.2.1,?_⟩;rw[<-e];exact v f
 |call c=>
  obtain⟨callee,args,Mn⟩:=c;cases callee with
  |builtin b=>cases b<;>simp[eE] at p
  |value g=>
   simp only[fO] at h;obtain⟨r,w,h1,j,k,u⟩:=h;subst u;refine⟨r,k.symm,j,λf l=>?_⟩;unfold nG;simp only[fO];refine⟨r,w,?_,j,rfl,rfl⟩
   have B:(args.toList.map λx=>(ev T fr x).norm)=args.toList.map λx=>(ev T f x).norm:=
    vW λx C=>by rw[l x (by simp[Op.operands,Call.operands,wS.1 C])]
   rw[<-B,<-l g (by simp[Op.operands,Call.operands])];exact h1
  |invoke r m=>simp only[fO] at h
 |_=>simp[eE] at p
def Cu(a:eE E ops o=.app)(h:nG P T E ops q soft o fr H fr' H'):∃d x,o.dst=some d/\fr'=ma.fr fr d x/\H'=H/\∀(f:Fr) (h:cW),(∀x∈o.op.operands,ev T fr x=ev T f x)->f.tm=fr.tm->f.ei=fr.ei->nG P T E ops q soft o f h (ma.fr f d x) h:=by
 unfold nG at h;obtain⟨dst,op,type,pos,after,guard⟩:=o;cases op with
 |call c=>
  obtain⟨callee,args,Mn⟩:=c;cases callee with
  |builtin b=>
   cases b with
   |append=>
    simp only[fO] at h;obtain⟨d,x,h1,e,i,j⟩:=UH h;subst h1;refine⟨d,x,rfl,i,j,λf h he k hg=>?_⟩;unfold nG;simp only[fO];refine XZ (e.congr (λy hy=>he y ?_) k hg) ⟨rfl,rfl⟩;simp only at hy;simp[Op.operands,Call.operands,wS.1 hy]
   |_=>simp[eE] at a
  |value g=>simp[eE] at a
  |invoke r m=>simp[eE] at a
 |alloc t=>simp only[eE] at a;split at a<;>(try split at a)<;>simp at a
 |box t x=>simp only[eE] at a;split at a<;>(try split at a)<;>simp at a
 |_=>simp[eE] at a
def S4{r:Option Nat}(a:eE E ops o=.Kl r)(h:nG P T E ops q soft o fr H fr' H'):fr'.env=fr.env/\fr'.gen=fr.gen/\fr'.tm=fr.tm/\fr'.ei=fr.ei/\o.dst=none/\(∀b,r≠some b->fr'.box b=fr.box b)/\(soft=true->H'=H):=by
 unfold nG at h;obtain⟨dst,op,type,pos,after,guard⟩:=o;cases op with
 |store t x y=>
  simp only[eE,Ti.Kl.injEq] at a;simp only[fO] at h;obtain⟨h1,e,k,d⟩:=h;unfold ld at d
  split at d
  ·exact d.elim
  ·split at d
   ·rename_i b g off f
    split at d
    ·obtain⟨_,_,_,_,g1,g2⟩:=d;subst g1;subst g2;refine⟨rfl,rfl,rfl,rfl,h1,λj i=>?_,λ_=>rfl⟩
     have:r=some b:=by
      rw[f] at e;simp only[pT,O8] at e;rw[<-a];exact e
     subst this;show fN fr.box b _ j=fr.box j;rw[zz];rintro rfl;exact i rfl
    ·exact d.elim
   ·rename_i o' off f
    split at d
    ·obtain⟨_,_,_,_,g1,g2⟩:=d;subst g1;subst g2;refine⟨rfl,rfl,rfl,rfl,h1,λ_ _=>rfl,λhs=>?_⟩;have:=k hs;rw[f] at this;simp[Y_] at this
    ·exact d.elim
   ·exact d.elim
 |call c=>
  obtain⟨callee,args,Mn⟩:=c;cases callee with
  |builtin b=>cases b<;>simp[eE] at a
  |value g=>simp[eE] at a
  |invoke r m=>simp[eE] at a
 |alloc t=>simp only[eE] at a;split at a<;>(try split at a)<;>simp at a
 |box t x=>simp only[eE] at a;split at a<;>(try split at a)<;>simp at a
 |_=>simp[eE] at a
def BL(fr:Fr)(d:Nat):fr.put (some d) (fr.env d)=fr:=by
 simp only[Fr.put]
 have:fN fr.env d (fr.env d)=fr.env:=by
  funext j
  simp only[fN]
  split
  ·rename_i h;rw[h]
  ·rfl
 rw[this]
def E8(fr:Fr)(d:Nat)(x y:AV):(fr.put (some d) x).put (some d) y=fr.put (some d) y:=by
 simp only[Fr.put,Kh]
structure Left (c:Ti) (dst:Option Nat) (soft:Bool) (q:Qt) (fr:Fr) (H:cW) (fr':Fr) (H':cW):Prop where
 env:∀t,dst≠some t->fr'.env t=fr.env t
 box:∀b,c≠ .alloc (some b)->c≠ .Kl (some b)->fr'.box b=fr.box b/\fr'.gen b=fr.gen b
 heap:c≠ .z8->(∀r,c=.Kl r->soft=true)->H'=H
 quiet:soft=true->QK q H H'
def ma.left(fr:Fr)(d:Nat)(x:ma):(∀t,t≠d->(ma.fr fr d x).env t=fr.env t)/\(ma.fr fr d x).box=fr.box/\(ma.fr fr d x).gen=fr.gen:=by
 cases x with
 |grow tag l m=>exact⟨λt a=>by show fN _ _ _ t=_;rw[zz _ _ _ _ a],rfl,rfl⟩|same l=>exact⟨λt a=>by show fN _ _ _ t=_;rw[zz _ _ _ _ a],rfl,rfl⟩
def p5(h:nG P T E ops q soft o fr H fr' H'):Left (eE E ops o) o.dst soft q fr H fr' H':=by
 have a:∀(v:AV) (t:Nat),o.dst≠some t->(fr.put o.dst v).env t=fr.env t:=by
  intro v t i;rw[Fr.tR,cK i]
 cases g:eE E ops o with
 |val=>
  obtain⟨v,_,rfl,rfl⟩:=xf (.inl g) h;obtain⟨c,f,_,_⟩:=Fr.xb fr o.dst v;exact⟨a v,λb _ _=>⟨by rw[c],by rw[f]⟩,λ_ _=>rfl,λ_=>.refl⟩
 |load r=>
  obtain⟨v,_,rfl,rfl⟩:=xf (.inr ⟨r,g⟩) h;obtain⟨c,f,_,_⟩:=Fr.xb fr o.dst v;exact⟨a v,λb _ _=>⟨by rw[c],by rw[f]⟩,λ_ _=>rfl,λ_=>.refl⟩
 |alloc d=>
  obtain⟨m,cs,rfl,hd,_,_,rfl,rfl⟩:=vj g h;refine⟨λt i=>?_,λb k _=>?_,λ_ _=>rfl,λ_=>.refl⟩
  ·show fN _ _ _ t=_;rw[zz];rintro rfl;exact i hd
  ·have j:b≠m:=by rintro rfl;exact k rfl
   exact⟨zz _ _ _ _ j,zz _ _ _ _ j⟩
 |z8=>
  obtain⟨r,rfl,n,_⟩:=B1 g h;obtain⟨c,f,_,_⟩:=Fr.xb fr o.dst r;exact⟨a r,λb _ _=>⟨by rw[c],by rw[f]⟩,λhn _=>absurd rfl hn,n⟩
 |app=>
  obtain⟨d,x,hd,rfl,rfl,_⟩:=Cu g h;obtain⟨g1,g2,g3⟩:=ma.left fr d x;exact⟨λt i=>g1 t (by rintro rfl;exact i hd),λb _ _=>⟨by rw[g2],by rw[g3]⟩,λ_ _=>rfl,λ_=>.refl⟩
 |Kl r=>
  obtain⟨c,f,s,u,w,p,l⟩:=S4 g h;exact⟨λt _=>by rw[c],λb _ k=>⟨p b (λe=>k (by rw[e])),by rw[f]⟩,λ_ hs=>l (hs r rfl),λhs=>by rw[l hs];exact .refl⟩
def LG{d:Nat}(v:AV)(hd:d∉o.looksAt opsA)(a:o.dst≠some d)(h:nG P T E ops q soft o fr H fr' H'):nG P T E ops q soft o (fr.put (some d) v) H (fr'.put (some d) v) H':=by
 have b:fO P T E ops q soft o (λf h=>f=fr'/\h=H') ((fr.put (some d) v).put (some d) (fr.env d)) H:=by
  rw[E8,BL];exact h
 obtain⟨f,i,h1,c,e⟩:=sk (I7 (opsA:=opsA) hd a b);subst e;have he:=(p5 h1).env d a
 have g:f=fr'.put (some d) v:=by
  rw[<-c,E8]
  have:(fr.put (some d) v).env d=v:=by rw[Fr.tR,cO rfl]
  rw[this] at he;rw[<-he,BL]
 rw[<-g];exact h1
def FP{d:Nat}{v:AV}(hd:d∉o.looksAt opsA)(a:o.dst≠some d)(h:nG P T E ops q soft o (fr.put (some d) v) H fr' H'):∃f,nG P T E ops q soft o fr H f H'/\f.put (some d) v=fr':=by
 obtain⟨f,e,h1,b,c⟩:=sk (I7 (opsA:=opsA) hd a h);subst c;exact⟨f,h1,b⟩
def KW{x:Operand}{t:Nat}(a:x∈o.op.operands)(b:x=.tmp t):t∈o.looksAt opsA:=by
 subst b;exact Zf _ (XB.2 ⟨.tmp t,by simpa using a,rfl⟩)
def BT{c:Ti}{dst:Option Nat}(a:Left c dst soft q fr H fr' H')(b:∀d,dst=some d->d∉o.looksAt opsA):∀x∈o.op.operands,ev T fr x=ev T fr' x:=by
 intro x e;refine FI λt f=>?_;rw[a.env];intro hd;exact b t hd (KW e f)
def CO{c:Ti}{dst:Option Nat}(m:Left c dst soft2 q fr H fr' H')(y:∀d,dst=some d->d∉o.looksAt opsA)(e:vy (eE E ops o) c=true)
  (hs:∀r,eE E ops o=.load r->(c=.z8->soft=true/\soft2=true)/\(∀z,c=.Kl z->soft2=true)) {v:AV} (hv:lI P T E ops q soft fr H o=some v\/lI P T E ops q soft fr' H' o=some v):lI P T E ops q soft fr H o=lI P T E ops q soft fr' H' o:=by
 have n:=BT (T:=T) (opsA:=opsA) m y
 by_cases j:∃t x,o.op=.load t x
 ·obtain⟨t,x,a⟩:=j;have A:=n x (by rw[a];simp[Op.operands])
  have k:eE E ops o=.load (DD ops x):=by unfold eE;rw[a]
  obtain⟨p,s⟩:=hs _ k;rw[k] at e
  have l:pT ops x (ev T fr x)=true/\(!soft||q.ok (ev T fr x))=true:=by
   have:∀(f:Fr) (h:cW),lI P T E ops q soft f h o=some v->ev T f x=ev T fr x->pT ops x (ev T fr x)=true/\(!soft||q.ok (ev T fr x))=true:=by
    intro f h hv he;unfold lI at hv;rw[a] at hv;simp only at hv
    split at hv
    ·rename_i w;rw[he] at w;simpa using w
    ·cases hv
   rcases hv with hv|hv
   ·exact this fr H hv rfl
   ·exact this fr' H' hv A.symm
  refine xh n (λF G he=>?_) (λ_ _ _ _ he=>by rw[a] at he;cases he);rw[a] at he;injection he with B C;subst B;subst C;refine⟨λb g off D=>?_,λo' off' hg=>?_⟩
  ·have u:DD ops x=some b:=by
    have:=l.1;rw[D] at this;simpa[pT] using this
   rw[u] at e;have:=m.box b (by rintro rfl;simp[vy] at e) (by rintro rfl;simp[vy] at e);exact⟨this.1.symm,this.2.symm⟩
  ·by_cases he:c=.z8
   ·obtain⟨g1,g2⟩:=p he
    have hq:q.all=true\/q.st o'=true:=by
     have:=l.2;rw[g1,hg] at this;simpa[Qt.ok] using this
    rcases hq with hq|hq
    ·rw[(m.quiet g2).1 hq]
    ·exact((m.quiet g2).2 o' hq).symm
   ·rw[m.heap he s]
 ·refine xh n (λt x he=>absurd ⟨t,x,he⟩ j) λt x i ok a=>?_
  have k:eE E ops o=.load none:=by unfold eE;rw[a]
  obtain⟨p,s⟩:=hs _ k
  have hq:(!soft||q.all)=true:=by
   have:∀(f:Fr) (h:cW),lI P T E ops q soft f h o=some v->(!soft||q.all)=true:=by
    intro f h hv;unfold lI at hv;rw[a] at hv;simp only at hv
    split at hv
    ·rename_i w;exact w
    ·cases hv
   rcases hv with hv|hv
   ·exact this _ _ hv
   ·exact this _ _ hv
  by_cases he:c=.z8
  ·obtain⟨g1,g2⟩:=p he;rw[g1] at hq;exact((m.quiet g2).1 (by simpa using hq)).symm
  ·exact(m.heap he s).symm
def Kz(fr:Fr){d b:Nat}(h:d≠b)(cs a:List AV):kI (kI fr d cs) b a=kI (kI fr b a) d cs:=by
 simp only[kI,zz _ _ _ _ h,zz _ _ _ _ h.symm];rw[uD fr.env h,uD fr.box h,uD fr.gen h]
def DU(fr:Fr){d:Nat}{d2:Option Nat}(h:d2≠some d)(cs:List AV)(r:AV):(kI fr d cs).put d2 r=kI (fr.put d2 r) d cs:=by
 cases d2 with
 |none=>rfl|some b=>
  have a:d≠b:=λe=>h (by rw[e]);simp only[kI,Fr.put];rw[uD fr.env a]
def OI(fr:Fr){d:Nat}{d2:Option Nat}(h:d2≠some d)(x:ma)(r:AV):ma.fr (fr.put d2 r) d x=(ma.fr fr d x).put d2 r:=by
 cases d2 with
 |none=>rfl|some b=>
  have a:b≠d:=λe=>h (by rw[e]);cases x with
  |grow tag l m=>
   simp only[ma.fr,grown,Fr.put];rw[uD fr.env a]
  |same l=>exact mA fr a r (.slice .hY l)
def Ef(fr:Fr){d a:Nat}(h:d≠a)(cs:List AV)(x:ma):ma.fr (kI fr d cs) a x=kI (ma.fr fr a x) d cs:=by
 cases x with
 |grow tag l m=>
  simp only[ma.fr,grown,kI];rw[uD fr.env h]
 |same l=>
  simp only[ma.fr,Fr.put,kI];rw[uD fr.env h]
def P4(O:o1.apart opsA o2=true)(b:vy (eE E ops o1) (eE E ops o2)=true)
  (Q:∀r,eE E ops o1=.load r->(eE E ops o2=.z8->soft1=true/\soft2=true)/\(∀J,eE E ops o2=.Kl J->soft2=true))
  (R:∀r,eE E ops o2=.load r->(eE E ops o1=.z8->soft2=true/\soft1=true)/\(∀J,eE E ops o1=.Kl J->soft1=true))
  (h1:nG P T E ops q soft1 o1 fr H fr1 H1) (C:nG P T E ops q soft2 o2 fr1 H1 fr2 H2):∃f h,nG P T E ops q soft2 o2 fr H f h/\nG P T E ops q soft1 o1 f h fr2 H2:=by
 obtain⟨a1,a2,a3⟩:=Oper.apart_spec O
 by_cases F:eE E ops o1=.val\/∃r,eE E ops o1=.load r
 ·obtain⟨v,K,c,G⟩:=xf F h1;subst G
  have S:∃f,nG P T E ops q soft2 o2 fr H1 f H2/\f.put o1.dst v=fr2:=by
   cases hd:o1.dst with
   |none=>rw[hd] at c;subst c;exact⟨fr2,C,rfl⟩
   |some d=>rw[hd] at c;subst c;exact FP (opsA:=opsA) (a1 d hd) (a2 d hd) C
  obtain⟨f,L,U⟩:=S;have u:vy (eE E ops o1) (eE E ops o2)=true:=b;have:=CO (o:=o1) (soft:=soft1) (p5 L) a3 u Q (.inl K);refine⟨f,H2,L,?_⟩;rw[<-U];exact zE (by rw[<-this];exact K)
 ·--aa second one only I
  by_cases n:eE E ops o2=.val\/∃r,eE E ops o2=.load r
  ·obtain⟨v,K,c,G⟩:=xf n C;subst G
   have u:vy (eE E ops o2) (eE E ops o1)=true:=by
    revert b
    cases eE E ops o1<;>cases eE E ops o2<;>simp[vy]<;>(intro h e;exact h e.symm)
   have:=CO (o:=o2) (soft:=soft2) (p5 h1) a1 u R (.inr K);refine⟨fr.put o2.dst v,H,zE (by rw[this];exact K),?_⟩;rw[c];cases hd:o2.dst with
   |none=>exact h1|some d=>exact LG (opsA:=opsA) v (a3 d hd) (λe=>a2 d e hd) h1
  ·--M
   have V:=p5 h1;have j:∀x∈o2.op.operands,ev T fr x=ev T fr1 x:=BT (T:=T) (opsA:=opsA) V a1;have s:∀{f:Fr} {h:cW} (N:nG P T E ops q soft2 o2 fr H f h),∀x∈o1.op.operands,ev T fr x=ev T f x:=λN=>BT (T:=T) (opsA:=opsA) (p5 N) a3;cases k:eE E ops o1 with
   |val=>exact absurd (.inl k) F|load r=>exact absurd (.inr ⟨r,k⟩) F|Kl r=>
    rw[k] at b;cases a:eE E ops o2 with
    |val=>exact absurd (.inl a) n|load J=>exact absurd (.inr ⟨J,a⟩) n|_=>rw[a] at b;simp[vy] at b
   |alloc d1=>
    obtain⟨d,cs,rfl,hd,W,X,c,G⟩:=vj k h1;subst G
    have back:∀{f:Fr} {h:cW} (N:nG P T E ops q soft2 o2 fr H1 f h),nG P T E ops q soft1 o1 f h (kI f d cs) h:=λN=>
     vJ hd W (by rw[<-tK (s N)];exact X)
    cases a:eE E ops o2 with
    |val=>exact absurd (.inl a) n|load r=>exact absurd (.inr ⟨r,a⟩) n|Kl r=>rw[k,a] at b;simp[vy] at b
    |alloc d2=>
     obtain⟨w,z,rfl,i,A,t,g,p⟩:=vj a C;subst p;have B:d≠w:=λe=>a2 d hd (by rw[i,e]);have hn:nG P T E ops q soft2 o2 fr H2 (kI fr w z) H2:=vJ i A (by rw[tK j];exact t);refine⟨_,_,hn,?_⟩;rw[g,c,Kz fr B];exact back hn
    |z8=>
     obtain⟨r,g,_,l⟩:=B1 a C;have hn:=l fr λx D=>(j x D).symm;refine⟨_,_,hn,?_⟩;rw[g,c,DU fr (λe=>a2 d hd e)];exact back hn
    |app=>
     obtain⟨w,x,i,g,p,l⟩:=Cu a C;subst p;have B:d≠w:=λe=>a2 d hd (by rw[i,e]);have hn:=l fr H2 (λx D=>(j x D).symm) (by rw[c];rfl) (by rw[c];rfl);refine⟨_,_,hn,?_⟩;rw[g,c,Ef fr B];exact back hn
   |z8=>
    obtain⟨r,c,_,m⟩:=B1 k h1;cases a:eE E ops o2 with
    |val=>exact absurd (.inl a) n|load r=>exact absurd (.inr ⟨r,a⟩) n|Kl r=>rw[k,a] at b;simp[vy] at b
    |z8=>rw[k,a] at b;simp[vy] at b
    |alloc d2=>
     obtain⟨w,z,rfl,i,A,t,g,p⟩:=vj a C;subst p;have hn:nG P T E ops q soft2 o2 fr H (kI fr w z) H:=vJ i A (by rw[tK j];exact t);refine⟨_,_,hn,?_⟩;rw[g,c,<-DU fr (λe=>a2 w e i)];exact m _ λx D=>s hn x D
    |app=>
     obtain⟨w,x,i,g,p,l⟩:=Cu a C;subst p;obtain⟨e1,e2,Y,Z⟩:=Fr.xb fr o1.dst r;have hn:=l fr H (λx D=>(j x D).symm) (by rw[c,Y]) (by rw[c,Z]);refine⟨_,_,hn,?_⟩;rw[g,c,OI fr (λe=>a2 w e i)];exact m _ λx D=>s hn x D
   |app=>
    obtain⟨d,x,hd,c,G,m⟩:=Cu k h1;subst G;cases a:eE E ops o2 with
    |val=>exact absurd (.inl a) n|load r=>exact absurd (.inr ⟨r,a⟩) n|Kl r=>rw[k,a] at b;simp[vy] at b
    |app=>rw[k,a] at b;simp[vy] at b
    |alloc d2=>
     obtain⟨w,z,rfl,i,A,t,g,p⟩:=vj a C;subst p;have B:w≠d:=λe=>a2 d hd (by rw[i,e]);have hn:nG P T E ops q soft2 o2 fr H2 (kI fr w z) H2:=vJ i A (by rw[tK j];exact t);refine⟨_,_,hn,?_⟩;rw[g,c,<-Ef fr B];exact m _ _ (λy hy=>s hn y hy) rfl rfl
    |z8=>
     obtain⟨r,g,_,l⟩:=B1 a C;have hn:=l fr λy hy=>(j y hy).symm;obtain⟨e1,e2,Y,Z⟩:=Fr.xb fr o2.dst r;refine⟨_,_,hn,?_⟩;rw[g,c,<-OI fr (λe=>a2 d hd e)];exact m _ _ (λy hy=>s hn y hy) Y Z
end
end Go.ke
namespace Go.ke
open Go
def gi(opsA:Array Oper)(o:Oper)(fr:Fr):Option Bool:=
 match o.guard with
 |none=>some true|some (j,want)=>
  match(opsA[j]?).bind (·.dst)with
  |some d=>match fr.env d with
   |.sc (.bool b)=>some (b==want)|.tuple _=>some false|_=>none
  |none=>none
def jT(E:List Nat)(o:Oper):Bool:=
 match o.op with
 |.call c=>(match c.callee with
  |.builtin .append=>o.dst.any E.contains|.value _=>o.dst.any E.contains|_=>false)
 |_=>false
def TX(c:Call):Bool:=
 match c.callee with
 |.value _=>true|_=>false
def QH(P:Program)(T:dx)(q:Qt)(soft:Bool)(a:AV)(as:List AV)(dst:Option Nat)(K:Fr->cW->Prop)(fr:Fr)(H:cW):Prop:=
 ∃Post:AV->cW->Prop,k0 P T a as H Post/\(∃r h,Post r h)/\∀r h,Post r h->(soft=true->QK q H h)/\K (fr.put dst r) h
def nF(P:Program)(T:dx)(q:Qt)(soft:Bool)(c:Call)(dst:Option Nat)(K:Fr->cW->Prop)(fr:Fr)(H:cW):Prop:=
 match c.callee with
 |.value f=>QH P T q soft (ev T fr f) (c.args.toList.map λx=>(ev T fr x).norm) dst K fr H|_=>oP P T c dst K fr H
def PK(E:List Nat)(q:Qt)(x:Operand)(v:AV):Prop:=E.contains 999999=true->∃a off t,v=.dM a off/\x=.tmp t/\q.cl a=t
@[simp] theorem abh{E:List Nat}{q:Qt}{x:Operand}{v:AV}(h:E.contains 999999=false):PK E q x v=True:=eq_true λa=>by rw[h] at a;cases a
def BK(T:dx)(E:List Nat)(q:Qt)(fr:Fr)(o:Oper):Prop:=
 match o.op with
 |.store _ x _=>PK E q x (ev T fr x)|_=>True
def oX(o:Oper):Option Nat:=
 match o.op with
 |.store _ (.tmp t) _=>some t|_=>none
def uB(o:Oper):Bool:=
 match o.op with
 |.store _ _ _=>true|_=>false
def qa(P:Program)(T:dx)(E:List Nat)(ops:List Oper)(q:Qt)(soft:Bool)(o:Oper)(K:Fr->cW->Prop)(fr:Fr)(H:cW):Prop:=
 if jT E o then(match o.op with
  |.call c=>nF P T q soft c o.dst K fr H|_=>False)else if uB o then(BK T E q fr o/\fO P T E ops q soft o K fr H)else fO P T E ops q soft o K fr H
def gB(P:Program)(T:dx)(E:List Nat)(opsA:Array Oper)(q:Qt)(soft:Bool)(o:Oper)(K:Fr->cW->Prop)(fr:Fr)(H:cW):Prop:=
 match gi opsA o fr with
 |some true=>qa P T E opsA.toList q soft o K fr H|some false=>K (fr.put o.dst (.tuple [])) H|none=>False
def F2(P:Program)(T:dx)(E:List Nat)(opsA:Array Oper)(q:Qt)(sf:Nat->Bool):List Nat->(Fr->cW->Prop)->Fr->cW->Prop
 |[],K,fr,H=>K fr H|i::rest,K,fr,H=>match opsA[i]?with
  |some o=>gB P T E opsA q (sf i) o (λfr H=>F2 P T E opsA q sf rest K fr H) fr H|none=>False
section
variable{P:Program} {T:dx} {E:List Nat} {opsA:Array Oper} {q:Qt} {soft soft1 soft2:Bool} {o o1 o2:Oper} {K K':Fr->cW->Prop} {fr fr':Fr} {H H':cW}
def zW(h:jT E o=true):∃c d,o.op=.call c/\(c.callee=.builtin .append\/∃f,c.callee=.value f)/\o.dst=some d:=by
 unfold jT at h
 split at h
 ·rename_i c b
  have hd:o.dst.any E.contains=true->∃d,o.dst=some d:=by
   intro h;cases hd:o.dst with
   |none=>rw[hd] at h;simp at h
   |some d=>exact⟨d,rfl⟩
  split at h
  ·rename_i a;obtain⟨d,hd⟩:=hd h;exact⟨c,d,b,.inl a,hd⟩
  ·rename_i f a;obtain⟨d,hd⟩:=hd h;exact⟨c,d,b,.inr ⟨f,a⟩,hd⟩
  ·cases h
 ·cases h
def ue{ops:List Oper}{c:Call}(h:jT E o=true)(a:o.op=.call c):qa P T E ops q soft o K fr H=nF P T q soft c o.dst K fr H:=by
 unfold qa;rw[cO h,a]
def oF{ops:List Oper}(h:jT E o=false):qa P T E ops q soft o K fr H=(BK T E q fr o/\fO P T E ops q soft o K fr H):=by
 unfold qa;rw[cK (by simp[h])];cases hs:uB o with
 |true=>rw[cO rfl]|false=>
  rw[cK aa4]
  have a:BK T E q fr o:=by
   unfold BK
   split
   ·rename_i b;unfold uB at hs;rw[b] at hs;cases hs
   ·trivial
  exact propext ⟨λh=>⟨a,h⟩,λh=>h.2⟩
def R2{ops:List Oper}(h:eE E ops o=.val\/∃r,eE E ops o=.load r):BK T E q fr o:=by
 unfold BK
 split
 ·rename_i t x y a;unfold eE at h;rw[a] at h;rcases h with h|⟨r,h⟩<;>cases h
 ·trivial
def xQ{f:Fr}(he:∀x∈o.op.operands,ev T fr x=ev T f x)(h:BK T E q fr o):BK T E q f o:=by
 unfold BK PK at*
 split
 ·rename_i t x y a;rw[a] at h;intro b;obtain⟨c,off,s,h1,d,e⟩:=h b;exact⟨c,off,s,by rw[<-he x (by rw[a];simp[Op.operands])];exact h1,d,e⟩
 ·trivial
def zX{ops a:List Oper}(h:jT E o=false)(b:eE E a o=.val\/∃r,eE E a o=.load r):qa P T E ops q soft o K fr H=fO P T E ops q soft o K fr H:=by
 rw[oF h];exact propext ⟨λh=>h.2,λh=>⟨R2 b,h⟩⟩
def J1{c:Call}{dst:Option Nat}(b:∀r h,K (fr.put dst r) h->K' (fr.put dst r) h)(h:oP P T c dst K fr H):oP P T c dst K' fr H:=by
 unfold oP at*
 split at h
 ·split at h
  ·obtain⟨h1,d,e,f,h⟩:=h;refine⟨h1,d,e,f,?_⟩
   split at h
   ·exact⟨h.1,h.2.1,λcap a=>b _ _ (h.2.2 cap a)⟩
   ·exact⟨h.1,λcap a=>b _ _ (h.2 cap a)⟩
   ·refine⟨h.1,h.2.1,?_⟩;have h:=h.2.2
    split at h
    ·exact⟨h.1,h.2.1,λa=>b _ _ (h.2.2.1 a),λcap h1 d=>b _ _ (h.2.2.2 cap h1 d)⟩
    ·exact h
   ·exact h
  ·exact h
 ·exact h
def ML{c:Call}{dst:Option Nat}(h:oP P T c dst K fr H):∃r b,K (fr.put dst r) b:=by
 unfold oP at h
 split at h
 ·split at h
  ·rename_i e sz a m d f;obtain⟨_,_,_,_,h⟩:=h
   split at h
   ·exact⟨_,_,h.2.2 _ (gu _)⟩
   ·exact⟨_,_,h.2 _ (gu _)⟩
   ·rename_i o off len cap hs;obtain⟨_,_,h⟩:=h
    split at h
    ·obtain⟨_,_,h1,g⟩:=h
     by_cases i:len+m.length<=cap
     ·exact⟨_,_,h1 i⟩
     ·exact⟨_,_,g _ VW (gu _)⟩
    ·exact h.elim
   ·exact h.elim
  ·exact h.elim
 ·exact h.elim
def L_{c:Call}{dst:Option Nat}{d:Nat}{v:AV}(g:∀x∈c.args.toList,ev T (fr.put (some d) v) x=ev T fr x)(j:dst≠some d)(h:oP P T c dst K (fr.put (some d) v) H):oP P T c dst (λf h=>K (f.put (some d) v) h) fr H:=by
 unfold oP at*
 split at h
 ·rename_i k s x t q b n;have l:k≠d:=λe=>j (by rw[e]);have a:∀y:AV,(fr.put (some k) y).put (some d) v=(fr.put (some d) v).put (some k) y:=λy=>mA fr l y v;rw[g s (by rw[b];simp),g x (by rw[b];simp)] at h
  split at h
  ·obtain⟨h1,m,o,p,h⟩:=h;refine⟨h1,m,o,p,?_⟩
   split at h
   ·refine⟨h.1,h.2.1,λcap i=>?_⟩;simp only[a];exact h.2.2 cap i
   ·refine⟨h.1,λcap i=>?_⟩;simp only[a];exact h.2 cap i
   ·refine⟨h.1,h.2.1,?_⟩;have h:=h.2.2
    split at h
    ·refine⟨h.1,h.2.1,λi=>?_,λcap h1 m=>?_⟩
     ·simp only[a];exact h.2.2.1 i
     ·simp only[a];exact h.2.2.2 cap h1 m
    ·exact h
   ·exact h
  ·exact h
 ·exact h
def k0.mono{a:AV}{as:List AV}{Post Post':AV->cW->Prop}(h:k0 P T a as H Post)(b:∀r h,Post r h->Post' r h):k0 P T a as H Post':=by
 unfold k0 at*
 split at h
 ·exact h.mono b
 ·exact h
def xN{c:Call}{dst:Option Nat}(g:∀r h,(TX c=true->soft=true->QK q H h)->K (fr.put dst r) h->K' (fr.put dst r) h)(h:nF P T q soft c dst K fr H):nF P T q soft c dst K' fr H:=by
 unfold nF at*
 split at h
 ·rename_i f i;obtain⟨Post,h1,j,a⟩:=h;exact⟨Post,h1,j,λr h b=>⟨(a r h b).1,g r h (λ_=>(a r h b).1) (a r h b).2⟩⟩
 ·rename_i i
  exact J1 (λr h=>g r h λd=>by
   unfold TX at d
   split at d
   ·rename_i f e;exact(i f e).elim
   ·cases d) h
def Sy{c:Call}{dst:Option Nat}(h:nF P T q soft c dst K fr H):∃r a,(TX c=true->soft=true->QK q H a)/\K (fr.put dst r) a:=by
 unfold nF at h
 split at h
 ·obtain⟨Post,h1,⟨r,a,e⟩,g⟩:=h;exact⟨r,a,λ_=>(g _ _ e).1,(g _ _ e).2⟩
 ·rename_i i;obtain⟨r,a,j⟩:=ML h;refine⟨r,a,λb=>?_,j⟩;unfold TX at b
  split at b
  ·rename_i f d;exact(i f d).elim
  ·cases b
def ID{c:Call}{dst:Option Nat}{d:Nat}{v:AV}(b:∀x∈c.operands.toList,ev T (fr.put (some d) v) x=ev T fr x)(i:dst≠some d)(h:nF P T q soft c dst K (fr.put (some d) v) H):nF P T q soft c dst (λf h=>K (f.put (some d) v) h) fr H:=by
 have a:∀x∈c.args.toList,ev T (fr.put (some d) v) x=ev T fr x:=λx j=>b x (by
  unfold Call.operands;rw[Array.toList_append]
  exact Z' _ j)
 unfold nF at*
 split at h
 ·rename_i f m;obtain⟨Post,h1,n,k⟩:=h;rw[b f (by unfold Call.operands;rw[m];simp),vW (g:=λx=>(ev T fr x).norm) (λx j=>by rw[a x j])] at h1;refine⟨Post,h1,n,λr h l=>⟨(k r h l).1,?_⟩⟩;have:=(k r h l).2;cases dst with
  |none=>exact this|some o=>
   show K ((fr.put (some o) r).put (some d) v) h;rw[mA fr (λe=>i (by rw[e]))];exact this
 ·exact L_ a i h
def AR(a:∀fr H,K fr H->K' fr H)(h:gB P T E opsA q soft o K fr H):gB P T E opsA q soft o K' fr H:=by
 unfold gB at*
 split at h
 ·cases hg:jT E o with
  |true=>
   obtain⟨c,d,b,_,hd⟩:=zW hg;rw[ue hg b] at h|-;exact xN (λr h _=>a _ _) h
  |false=>
   rw[oF hg] at h|-;exact⟨h.1,Fl a h.2⟩
 ·exact a _ _ h
 ·exact h
def DX(h:qa P T E opsA.toList q soft o K fr H):qi P T E o K fr H:=by
 cases hg:jT E o with
 |true=>
  obtain⟨c,d,b,a,hd⟩:=zW hg;rw[ue hg b] at h;unfold qi;rw[b];rcases a with a|⟨f,a⟩
  ·simp only[a];unfold nF at h;rw[a] at h;exact .inr (.inr h)
  ·simp only[a];unfold nF at h;rw[a] at h;obtain⟨Post,h1,_,e⟩:=h;exact h1.mono λr h g=>(e r h g).2
 |false=>
  rw[oF hg] at h;exact Md h.2
def Ly(h:gB P T E opsA q soft o K fr H):BQ P T E opsA o K fr H:=by
 unfold gB gi at h;unfold BQ;cases hg:o.guard with
 |none=>rw[hg] at h;exact DX h
 |some p=>
  obtain⟨j,want⟩:=p;rw[hg] at h;simp only at h|-
  cases hd:(opsA[j]?).bind (·.dst)with
  |none=>rw[hd] at h;exact h
  |some d=>
   rw[hd] at h;simp only at h|-
   split
   ·rename_i b a;rw[a] at h;simp only at h
    by_cases hw:b=want
    ·subst hw;rw[cO rfl];simp only[beq_self_eq_true] at h;exact DX h
    ·rw[cK hw]
     have:(b==want)=false:=by simpa using hw
     rw[this] at h;exact h
   ·rename_i l e;rw[e] at h;exact h
   ·rename_i c f
    split at h
    ·rename_i he
     split at he
     ·rename_i b a;exact(c b a).elim
     ·cases he
     ·cases he
    ·rename_i he
     split at he
     ·rename_i b a;exact(c b a).elim
     ·rename_i l e;exact(f l e).elim
     ·cases he
    ·exact h
def Cr(h:∀t,t∈o.looksAt opsA->fr'.env t=fr.env t):gi opsA o fr'=gi opsA o fr:=by
 unfold gi;cases hg:o.guard with
 |none=>rfl|some p=>
  obtain⟨j,want⟩:=p;simp only
  cases hd:(opsA[j]?).bind (·.dst)with
  |none=>rfl|some d=>
   simp only
   have:d∈o.looksAt opsA:=by
    unfold Oper.looksAt;rw[hg];refine Z' _ ?_
    show d∈((opsA[j]?).bind (·.dst)).toList
    rw[hd];simp
   rw[h d this]
def nb{d:Option Nat}{v:AV}(h:∀a,d=some a->a∉o.looksAt opsA):gi opsA o (fr.put d v)=gi opsA o fr:=by
 refine Cr λt b=>?_;rw[Fr.tR,cK];rintro rfl;exact h t rfl b
def Bm{c:Ti}{dst:Option Nat}(b:Left c dst soft q fr H fr' H')(h:∀a,dst=some a->a∉o.looksAt opsA):gi opsA o fr'=gi opsA o fr:=by
 refine Cr λt d=>b.env t ?_;rintro rfl;exact h t rfl d
def Vj(E:List Nat)(opsA:Array Oper)(s1 s2:Bool)(o1 o2:Oper):Bool:=
 o1.apart opsA o2&&vy (eE E opsA.toList o1) (eE E opsA.toList o2)&&
 (match eE E opsA.toList o1,eE E opsA.toList o2 with
  |.load _,.z8=>s1&&s2|.z8,.load _=>s1&&s2|.load _,.Kl _=>s2|.Kl _,.load _=>s1|_,_=>true)
def Ph(o:Oper):Bool:=
 match o.op with
 |.call c=>TX c|_=>false
def Tx(E:List Nat)(opsA:Array Oper)(s1 s2:Bool)(o1 o2:Oper):Bool:=
 match eE E opsA.toList o2 with
 |.val=>true|.load _=>Ph o1&&s1&&s2|_=>false
def LB{s1 s2:Bool}(h:Tx E opsA s1 s2 o1 o2=true):eE E opsA.toList o2=.val\/(∃r,eE E opsA.toList o2=.load r)/\Ph o1=true/\s1=true/\s2=true:=by
 unfold Tx at h
 split at h
 ·rename_i a;exact .inl a
 ·rename_i r a;simp only[ft] at h;exact .inr ⟨⟨r,a⟩,h.1.1,h.1.2,h.2⟩
 ·cases h
def TN(E:List Nat)(opsA:Array Oper)(s1 s2:Bool)(o1 o2:Oper):Bool:=
 if jT E o1||jT E o2 then
  o1.apart opsA o2&&(jT E o1&&!jT E o2&&Tx E opsA s1 s2 o1 o2||jT E o2&&!jT E o1&&Tx E opsA s2 s1 o2 o1)
 else if E.contains 999999&&(oX o1).isSome&&(oX o2).isSome&&oX o1 !=oX o2&&o1.dst==none&&o2.dst==none then true
 else Vj E opsA s1 s2 o1 o2
def RD{f:Fr}{h:cW}(a:eE E opsA.toList o=.val)(he:∀x∈o.op.operands,ev T fr x=ev T f x):lI P T E opsA.toList q soft fr H o=lI P T E opsA.toList q soft f h o:=by
 refine xh he (λt x b=>?_) λt x i ok b=>?_
 ·unfold eE at a;rw[b] at a;cases a
 ·unfold eE at a;rw[b] at a;cases a
def GX{d:Option Nat}{v:AV}(b:∀a,d=some a->a∉o.looksAt opsA):∀x∈o.op.operands,ev T fr x=ev T (fr.put d v) x:=by
 intro x c;refine FI λt e=>?_;rw[Fr.tR,cK];rintro rfl;exact b t rfl (KW c e)
def IY{d1 d2:Option Nat}(h:∀d,d1=some d->d2≠some d)(x y:AV):(fr.put d1 x).put d2 y=(fr.put d2 y).put d1 x:=by
 cases d1 with
 |none=>rfl|some a=>
  cases d2 with
  |none=>rfl|some b=>exact mA fr (λe=>h a rfl (by rw[e])) x y
def o7(h:gB P T E opsA q soft o K fr H):gi opsA o fr=some true/\qa P T E opsA.toList q soft o K fr H\/gi opsA o fr=some false/\K (fr.put o.dst (.tuple [])) H:=by
 unfold gB at h
 split at h
 ·rename_i hg;exact .inl ⟨hg,h⟩
 ·rename_i hg;exact .inr ⟨hg,h⟩
 ·exact h.elim
def vt(hg:gi opsA o fr=some true)(h:qa P T E opsA.toList q soft o K fr H):gB P T E opsA q soft o K fr H:=by
 unfold gB;rw[hg];exact h
def vF(hg:gi opsA o fr=some false)(h:K (fr.put o.dst (.tuple [])) H):gB P T E opsA q soft o K fr H:=by
 unfold gB;rw[hg];exact h
def LL{c:Call}(a:o.op=.call c){x:Operand}(b:x∈c.operands.toList):x∈o.op.operands:=by
 rw[a];exact wS.1 b
def Vc{c:Call}(a:eE E opsA.toList o2=.val\/(∃r,eE E opsA.toList o2=.load r)/\Ph o1=true/\soft1=true/\soft2=true)(i:o1.op=.call c)(g:∀d,o1.dst=some d->d∉o2.looksAt opsA){r:AV}{e:cW}
  (j:TX c=true->soft1=true->QK q H e) {v:AV} (k:lI P T E opsA.toList q soft2 fr H o2=some v\/lI P T E opsA.toList q soft2 (fr.put o1.dst r) e o2=some v):lI P T E opsA.toList q soft2 fr H o2=lI P T E opsA.toList q soft2 (fr.put o1.dst r) e o2:=by
 rcases a with a|⟨⟨rr,a⟩,h1,l,m⟩
 ·exact RD a (GX g)
 ·have f:TX c=true:=by unfold Ph at h1;rw[i] at h1;exact h1
  have n:Left .z8 o1.dst true q fr H (fr.put o1.dst r) e:=⟨λt p=>by rw[Fr.tR,cK p],λb _ _=>⟨by cases o1.dst<;>rfl,by cases o1.dst<;>rfl⟩,λh=>(h rfl).elim,λ_=>j f l⟩;refine CO (o:=o2) (opsA:=opsA) n g (by rw[a];rfl) (λ_ _=>⟨λ_=>⟨m,rfl⟩,λ_ h=>by cases h⟩) k
def L2(p:o1.apart opsA o2=true)(u:eE E opsA.toList o1=.val\/(∃r,eE E opsA.toList o1=.load r)/\Ph o2=true/\soft2=true/\soft1=true)(m:jT E o1=false)(i:jT E o2=true)(h:gB P T E opsA q soft1 o1 (λfr H=>gB P T E opsA q soft2 o2 K fr H) fr H):gB P T E opsA q soft2 o2 (λfr H=>gB P T E opsA q soft1 o1 K fr H) fr H:=by
 obtain⟨a1,a2,a3⟩:=Oper.apart_spec p;obtain⟨c,d2,n,_,z⟩:=zW i;have j:eE E opsA.toList o1=.val\/∃r,eE E opsA.toList o1=.load r:=u.imp id λh=>h.1
 have key:∃v,(∀r h,(TX c=true->soft2=true->QK q H h)->K ((fr.put o2.dst r).put o1.dst v) h->gB P T E opsA q soft1 o1 K (fr.put o2.dst r) h)/\gB P T E opsA q soft2 o2 K (fr.put o1.dst v) H:=by
  rcases o7 h with⟨k,h1⟩|⟨k,h1⟩
  ·rw[zX m j] at h1;obtain⟨f1,H1,s,b⟩:=sk h1;obtain⟨v,w,A,B⟩:=xf j s;rw[A,B] at b;refine⟨v,λr y t l=>vt (by rw[nb a3,k]) ?_,b⟩;rw[zX m j];exact vk (zE (by rw[<-Vc u n a3 t (.inl w)];exact w)) l
  ·exact⟨_,λr y _ l=>vF (by rw[nb a3,k]) l,h1⟩
 obtain⟨v,back,h1⟩:=key;rcases o7 h1 with⟨a,b⟩|⟨a,b⟩
 ·rw[nb a1] at a;rw[ue i n] at b;refine vt a ?_;rw[ue i n]
  have C:nF P T q soft2 c o2.dst (λf h=>K (f.put o1.dst v) h) fr H:=by
   cases g:o1.dst with
   |none=>rw[g] at b;exact b
   |some d=>rw[g] at b;exact ID (λx D=>(GX (o:=o2) (opsA:=opsA) (d:=some d) (λF e=>by cases e;exact a1 d g) x (LL n D)).symm) (a2 d g) b
  exact xN (λr y t l=>back _ _ t l) C
 ·rw[nb a1] at a
  have l:K ((fr.put o2.dst (.tuple [])).put o1.dst v) H:=by
   rw[<-IY a2];exact b
  exact vF a (back _ _ (λ_ _=>QK.refl) l)
def KI(y:o1.apart opsA o2=true)(F:eE E opsA.toList o2=.val\/(∃r,eE E opsA.toList o2=.load r)/\Ph o1=true/\soft1=true/\soft2=true)(k:jT E o1=true)(s:jT E o2=false)(h:gB P T E opsA q soft1 o1 (λfr H=>gB P T E opsA q soft2 o2 K fr H) fr H):gB P T E opsA q soft2 o2 (λfr H=>gB P T E opsA q soft1 o1 K fr H) fr H:=by
 obtain⟨a1,a2,a3⟩:=Oper.apart_spec y;obtain⟨c,d1,u,_,G⟩:=zW k;have l:eE E opsA.toList o2=.val\/∃r,eE E opsA.toList o2=.load r:=F.imp id λh=>h.1
 have inv:∀{r:AV} {p:cW} {m:Fr->cW->Prop},(TX c=true->soft1=true->QK q H p)->gB P T E opsA q soft2 o2 m (fr.put o1.dst r) p->∃v,(gi opsA o2 fr=some true/\lI P T E opsA.toList q soft2 fr H o2=some v\/gi opsA o2 fr=some false/\v=.tuple [])/\m ((fr.put o1.dst r).put o2.dst v) p:=by
  intro r p m z I;rcases o7 I with⟨a,h1⟩|⟨a,h1⟩
  ·rw[zX s l] at h1;obtain⟨f1,H1,A,b⟩:=sk h1;obtain⟨v,g,B,J⟩:=xf l A;rw[B,J] at b;exact⟨v,.inl ⟨by rw[<-nb (o:=o2) a1];exact a,by rw[Vc F u a1 z (.inr g)];exact g⟩,b⟩
  ·exact⟨_,.inr ⟨by rw[<-nb (o:=o2) a1];exact a,rfl⟩,h1⟩
 have fwd:∀{v:AV} {m:Fr->cW->Prop},(gi opsA o2 fr=some true/\lI P T E opsA.toList q soft2 fr H o2=some v\/gi opsA o2 fr=some false/\v=.tuple [])->m (fr.put o2.dst v) H->gB P T E opsA q soft2 o2 m fr H:=by
  intro v m g i;rcases g with⟨a,g⟩|⟨a,rfl⟩
  ·refine vt a ?_;rw[zX s l];exact vk (zE g) i
  ·exact vF a i
 have uniq:∀{v w:AV},(gi opsA o2 fr=some true/\lI P T E opsA.toList q soft2 fr H o2=some v\/gi opsA o2 fr=some false/\v=.tuple [])->(gi opsA o2 fr=some true/\lI P T E opsA.toList q soft2 fr H o2=some w\/gi opsA o2 fr=some false/\w=.tuple [])->v=w:=by
  intro v w h1 b;rcases h1 with⟨g1,h1⟩|⟨g1,rfl⟩<;>rcases b with⟨g2,b⟩|⟨g2,rfl⟩
  ·rw[h1] at b;exact gh b
  ·rw[g1] at g2;cases g2
  ·rw[g1] at g2;cases g2
  ·rfl
 rcases o7 h with⟨n,h1⟩|⟨n,h1⟩
 ·rw[ue k u] at h1;obtain⟨O,Q,C,D⟩:=Sy h1;obtain⟨v,g,_⟩:=inv C D;refine fwd g (vt (by rw[nb a3,n]) ?_);rw[ue k u]
  have b:nF P T q soft1 c o1.dst (λf h=>K (f.put o2.dst v) h) fr H:=xN (λr p z i=>by
   obtain⟨w,hw,i⟩:=inv z i;rw[uniq g hw]
   exact i) h1
  cases j:o2.dst with
  |none=>rw[j] at b;exact b
  |some d=>
   rw[j] at b;have t:o1.dst≠some d:=λe=>a2 d e j
   have L:nF P T q soft1 c o1.dst (λf h=>K (f.put (some d) v) h) ((fr.put (some d) v).put (some d) (fr.env d)) H:=by
    rw[E8,BL];exact b
   have M:=ID (λx N=>(by
    have:=GX (o:=o1) (opsA:=opsA) (T:=T) (fr:=fr.put (some d) v) (d:=some d) (v:=fr.env d) (λR e=>by cases e;exact a3 d j) x (LL u N)
    exact this.symm)) t L
   refine xN (λr p _ i=>?_) M
   have B:(((fr.put (some d) v).put o1.dst r).put (some d) (fr.env d)).put (some d) v=(fr.put (some d) v).put o1.dst r:=by
    rw[E8];have hs:=BL ((fr.put (some d) v).put o1.dst r) d
    have he:((fr.put (some d) v).put o1.dst r).env d=v:=by
     rw[Fr.tR,cK t,Fr.tR,cO rfl]
    rw[he] at hs;exact hs
   rw[B] at i;exact i
 ·obtain⟨v,g,i⟩:=inv (λ_ _=>QK.refl) h1;refine fwd g (vF (by rw[nb a3,n]) ?_);rw[<-IY a2];exact i
def YW{t:TypeId}{a off:Nat}{v:AV}:ld P t (.dM a off) v K fr H↔∃agg n cs,eO P t=some (agg,n)/\H[a]?=some cs/\(lj cs=true/\v.cells.length=n/\off+n<=cs.length/\dY v=true)/\K fr (H.set a (setCells cs off v.norm.cells)):=by
 unfold ld;constructor
 ·intro h
  split at h
  ·exact h.elim
  ·rename_i agg n b;simp only at h
   split at h
   ·rename_i cs c;exact⟨agg,n,cs,b,c,⟨h.1,h.2.1,h.2.2.1,h.2.2.2.1⟩,h.2.2.2.2⟩
   ·exact h.elim
 ·rintro⟨agg,n,cs,b,c,h,d⟩;rw[b];simp only[c];exact⟨h.1,h.2.1,h.2.2.1,h.2.2.2,d⟩
def Es{s:Nat}(h:oX o=some s):∃t y,o.op=.store t (.tmp s) y:=by
 unfold oX at h
 split at h
 ·rename_i t b y a;cases h;exact⟨t,y,a⟩
 ·cases h
def TE{s:Nat}(h:oX o=some s):jT E o=false:=by
 obtain⟨t,y,a⟩:=Es h;unfold jT;rw[a]
def sH{ops:List Oper}{s:Nat}(j:E.contains 999999=true)(hs:oX o=some s):qa P T E ops q soft o K fr H↔
  ∃t y a off agg n cs,o.op=.store t (.tmp s) y/\o.dst=none/\ev T fr (.tmp s)=.dM a off/\q.cl a=s/\pT ops (.tmp s) (.dM a off)=true/\soft=false/\eO P t=some (agg,n)/\H[a]?=some cs/\(lj cs=true/\(ev T fr y).cells.length=n/\off+n<=cs.length/\dY (ev T fr y)=true)/\K fr (H.set a (setCells cs off (ev T fr y).norm.cells)):=by
 obtain⟨t,y,k⟩:=Es hs;rw[oF (TE hs)];unfold BK PK fO;rw[k];simp only;constructor
 ·rintro⟨h1,f,d,e,i⟩;obtain⟨a,off,r,c,g,h⟩:=h1 j;injection g with g;subst g;rw[c] at d e i;obtain⟨agg,n,cs,g1,g2,g3,g4⟩:=YW.1 i;refine⟨t,y,a,off,agg,n,cs,rfl,f,c,h,d,?_,g1,g2,g3,g4⟩;cases b:soft with
  |false=>rfl|true=>have:=e b;simp[Y_] at this
 ·rintro⟨u,v,a,off,agg,n,cs,l,f,c,h,d,e,g1,g2,g3,g4⟩;injection l with m w p;subst m;subst p;refine⟨λ_=>⟨a,off,s,c,rfl,h⟩,f,by rw[c];exact d,λb=>?_,?_⟩
  ·rw[e] at b;cases b
  ·rw[c];exact YW.2 ⟨agg,n,cs,g1,g2,g3,g4⟩
def KV{s1 s2:Nat}(i:E.contains 999999=true)(j:oX o1=some s1)(f:oX o2=some s2)(m:s1≠s2)(h:gB P T E opsA q soft1 o1 (λfr H=>gB P T E opsA q soft2 o2 K fr H) fr H)(o:o1.dst=none)(p:o2.dst=none):gB P T E opsA q soft2 o2 (λfr H=>gB P T E opsA q soft1 o1 K fr H) fr H:=by
 have r:∀v,fr.put o1.dst v=fr:=λv=>by rw[o];rfl
 have z:∀v,fr.put o2.dst v=fr:=λv=>by rw[p];rfl
 rcases o7 h with⟨c,h1⟩|⟨c,h1⟩
 ·obtain⟨t,y,s,off,agg,n,cs,A,B,C,u,D,F,G,I,J,h1⟩:=(sH i j).1 h1;rcases o7 h1 with⟨a,b⟩|⟨a,b⟩
  ·obtain⟨w,x,g,off',d,n',k,f0,f1,f2,f3,f4,f5,f6,f7,f8,b⟩:=(sH i f).1 b
   have l:s≠g:=by rintro rfl;exact m (u.symm.trans f3)
   rw[Dm l] at f7;refine vt a ((sH i f).2 ⟨w,x,g,off',d,n',k,f0,f1,f2,f3,f4,f5,f6,f7,f8,?_⟩);refine vt c ((sH i j).2 ⟨t,y,s,off,agg,n,cs,A,B,C,u,D,F,G,?_,J,?_⟩)
   ·rw[Dm (λe=>l e.symm)];exact I
   ·rw[List.set_comm _ _ (λe=>l e.symm)];exact b
  ·refine vF a ?_;rw[z] at b|-;exact vt c ((sH i j).2 ⟨t,y,s,off,agg,n,cs,A,B,C,u,D,F,G,I,J,b⟩)
 ·rw[r] at h1;rcases o7 h1 with⟨a,b⟩|⟨a,b⟩
  ·obtain⟨w,x,g,off',d,n',k,f0,f1,f2,f3,f4,f5,f6,f7,f8,b⟩:=(sH i f).1 b;exact vt a ((sH i f).2 ⟨w,x,g,off',d,n',k,f0,f1,f2,f3,f4,f5,f6,f7,f8,vF c (by rw[r];exact b)⟩)
  ·refine vF a ?_;show gB P T E opsA q soft1 o1 K (fr.put o2.dst (.tuple [])) H;rw[z] at b|-;exact vF c (by rw[r];exact b)
def Ns(b:TN E opsA soft1 soft2 o1 o2=true)(h:gB P T E opsA q soft1 o1 (λfr H=>gB P T E opsA q soft2 o2 K fr H) fr H):gB P T E opsA q soft2 o2 (λfr H=>gB P T E opsA q soft1 o1 K fr H) fr H:=by
 unfold TN at b
 by_cases hG:(jT E o1||jT E o2)=true
 ·rw[cO hG] at b;simp only[ft,r5,U1] at b;obtain⟨g,⟨⟨g1,g2⟩,g3⟩|⟨⟨g1,g2⟩,g3⟩⟩:=b
  ·exact KI g (LB g3) g1 g2 h
  ·exact L2 g (LB g3) g2 g1 h
 rw[cK hG] at b
 by_cases D:(E.contains 999999&&(oX o1).isSome&&(oX o2).isSome&&oX o1 !=oX o2&&o1.dst==none&&o2.dst==none)=true
 ·simp only[ft,Option.isSome_iff_exists,bne_iff_ne,ne_eq,O8] at D;obtain⟨⟨⟨⟨⟨N,s1,m⟩,s2,n⟩,F⟩,s⟩,t⟩:=D;exact KV N m n (by rintro rfl;exact F (by rw[m,n])) h s t
 rw[cK D] at b
 have u:jT E o1=false:=by cases O:jT E o1<;>simp_all
 have v:jT E o2=false:=by cases O:jT E o2<;>simp_all
 unfold Vj at b;simp only[ft] at b;obtain⟨⟨g,y⟩,a⟩:=b;obtain⟨a1,a2,a3⟩:=Oper.apart_spec g
 have m:∀r,eE E opsA.toList o1=.load r->(eE E opsA.toList o2=.z8->soft1=true/\soft2=true)/\(∀z,eE E opsA.toList o2=.Kl z->soft2=true):=by
  intro r G;rw[G] at a;refine⟨λhe=>?_,λz he=>?_⟩<;>rw[he] at a
  ·simpa using a
  ·exact a
 have n:∀r,eE E opsA.toList o2=.load r->(eE E opsA.toList o1=.z8->soft2=true/\soft1=true)/\(∀z,eE E opsA.toList o1=.Kl z->soft1=true):=by
  intro r G;rw[G] at a;refine⟨λhe=>?_,λz he=>?_⟩<;>rw[he] at a
  ·have:soft1=true/\soft2=true:=by simpa using a
   exact⟨this.2,this.1⟩
  ·exact a
 unfold gB at h;simp only[oF u,oF v] at h
 split at h
 ·--I first one is carried out
  rename_i i;obtain⟨p,h⟩:=h;obtain⟨f1,H1,o,h⟩:=sk h;have A:=p5 o;have w:gi opsA o2 f1=gi opsA o2 fr:=Bm A a1;rw[w] at h;unfold gB;simp only[oF u,oF v]
  split at h
  ·rename_i j;obtain⟨k,h⟩:=h;obtain⟨f2,H2,c,J⟩:=sk h;obtain⟨f,Q,l,B⟩:=P4 g y m n o c;refine⟨xQ (λx b=>(BT (T:=T) (opsA:=opsA) A a1 x b).symm) k,vk l ?_⟩;have:gi opsA o1 f=gi opsA o1 fr:=Bm (p5 l) a3;rw[this,i];exact⟨xQ (BT (T:=T) (opsA:=opsA) (p5 l) a3) p,vk B J⟩
  ·rename_i j
   show match gi opsA o1 (fr.put o2.dst (.tuple []))with
    |some true=>BK T E q (fr.put o2.dst (.tuple [])) o1/\fO P T E opsA.toList q soft1 o1 K (fr.put o2.dst (.tuple [])) H|some false=>K ((fr.put o2.dst (.tuple [])).put o1.dst (.tuple [])) H|none=>False
   rw[nb a3,i];simp only;refine⟨xQ (GX a3) p,?_⟩;cases hd:o2.dst with
   |none=>rw[hd] at h;exact vk o h
   |some d=>rw[hd] at h;exact vk (LG (opsA:=opsA) _ (a3 d hd) (λe=>a2 d e hd) o) h
  ·exact h.elim
 ·--I first one is left out
  rename_i i;have w:gi opsA o2 (fr.put o1.dst (.tuple []))=gi opsA o2 fr:=nb a1;rw[w] at h;unfold gB;simp only[oF u,oF v]
  split at h
  ·rename_i j;obtain⟨k,h⟩:=h;obtain⟨f2,H2,c,J⟩:=sk h
   have L:∃f,nG P T E opsA.toList q soft2 o2 fr H f H2/\f.put o1.dst (.tuple [])=f2:=by
    cases hd:o1.dst with
    |none=>rw[hd] at c;exact⟨f2,c,rfl⟩
    |some d=>rw[hd] at c;exact FP (opsA:=opsA) (a1 d hd) (a2 d hd) c
   obtain⟨f,C,M⟩:=L;refine⟨xQ (λx b=>(GX a1 x b).symm) k,vk C ?_⟩;have:gi opsA o1 f=gi opsA o1 fr:=Bm (p5 C) a3;rw[this,i];show K (f.put o1.dst (.tuple [])) H2;rw[M];exact J
  ·rename_i j
   show match gi opsA o1 (fr.put o2.dst (.tuple []))with
    |some true=>BK T E q (fr.put o2.dst (.tuple [])) o1/\fO P T E opsA.toList q soft1 o1 K (fr.put o2.dst (.tuple [])) H|some false=>K ((fr.put o2.dst (.tuple [])).put o1.dst (.tuple [])) H|none=>False
   rw[nb a3,i];simp only
   have:(fr.put o2.dst (.tuple [])).put o1.dst (.tuple [])=(fr.put o1.dst (.tuple [])).put o2.dst (.tuple []):=by
    cases s:o1.dst with
    |none=>rfl|some d1=>
     cases t:o2.dst with
     |none=>rfl|some d2=>exact mA fr (λe=>a2 d1 s (by rw[t,e])) _ _
   rw[this];exact h
  ·exact h.elim
 ·exact h.elim
def Oa{sf:Nat->Bool}{i:Nat}(hi:opsA[i]?=some o)(post:List Nat):∀(pre:List Nat) (fr:Fr) (H:cW),(∀j∈pre,∀a,opsA[j]?=some a->TN E opsA (sf j) (sf i) a o=true)->F2 P T E opsA q sf (pre++i::post) K fr H->gB P T E opsA q (sf i) o (λfr H=>F2 P T E opsA q sf (pre++post) K fr H) fr H:=by
 intro pre
 induction pre with
 |nil=>
  intro fr H _ h;simp only[mR,F2,hi] at h;exact h
 |cons j pre b=>
  intro fr H hex h;simp only[W6,F2] at h|-
  split at h
  ·rename_i a c;have h1:=AR (λfr H h=>b fr H (λk d=>hex k (by simp[d])) h) h;have e:=Ns (hex j aa4 a c) h1;exact e
  ·exact h.elim
end
def wF(opsA:Array Oper):Bool:=opsA.toList.zipIdx.all λ(o,i)=>o.after.all λe=>!Region.binds .any e||decide (e.on<i)
def J5(opsA:Array Oper)(M:Array Nat):Bool:=
 (List.range opsA.size).all λi=>(List.range opsA.size).all λj=>!(M.getD i 0).testBit j||
  (opsA.getD i default).after.toList.any λe=>Region.binds .any e&&(e.on==j||(M.getD e.on 0).testBit j)
def wI(E:List Nat)(opsA:Array Oper)(sf:Nat->Bool):Bool:=
 let M:=Region.before opsA
 wF opsA&&J5 opsA M&&
 (List.range opsA.size).all λi=>(List.range i).all λj=>(M.getD i 0).testBit j||TN E opsA (sf j) (sf i) (opsA.getD j default) (opsA.getD i default)
section
variable{P:Program} {T:dx} {E:List Nat} {opsA:Array Oper} {q:Qt} {sf:Nat->Bool} {K:Fr->cW->Prop}
def uI(opsA:Array Oper)(listed:Array Bool):List Nat:=(List.range opsA.size).filter λi=>!listed.getD i true
def OS{listed:Array Bool}{i:Nat}:i∈uI opsA listed↔i<opsA.size/\listed.getD i true=false:=by
 simp[uI]
def Ri(M:Array Nat)(opsA:Array Oper)(listed:Array Bool):Prop:=∀i j,i<opsA.size->j<opsA.size->listed.getD i false=true->(M.getD i 0).testBit j=true->listed.getD j false=true
def Av{listed:Array Bool}{i:Nat}(d:Bool)(h:i<listed.size):(listed.setIfInBounds i true).getD i d=true:=by
 simp[h]
def Kb{opsA:Array Oper}(a:wF opsA=true){listed:Array Bool}(f:listed.size=opsA.size){i:Nat}(hi:i<opsA.size)(d:listed.getD i true=false)
  (b:∀j,j<i->listed.getD j false=true):i∈Region.ready .any opsA listed:=by
 rw[mem_ready];refine⟨d,opsA[i],Pe hi,λe he g=>?_⟩;refine b _ ?_;unfold wF at a;rw[j7] at a
 have c:(opsA[i],i)∈opsA.toList.zipIdx:=by
  rw[Tk];simp[hi]
 have:=a _ c;simp only[HJ] at this;have:=this e he;rw[g] at this;simpa using this
def Eh{opsA:Array Oper}{M:Array Nat}(f:J5 opsA M=true)(a:wF opsA=true){listed:Array Bool}(g:Ri M opsA listed){i:Nat}(p:i∈Region.ready .any opsA listed){j:Nat}(m:j<opsA.size)
  (q:(M.getD i 0).testBit j=true):listed.getD j false=true:=by
 obtain⟨r,o,h,b⟩:=mem_ready.1 p;have hi:i<opsA.size:=(MC.1 h).1;unfold J5 at f;rw[j7] at f;have:=f i (by simpa using hi);rw[j7] at this;have:=this j (by simpa using m);rw[q] at this;simp only[O5,aaw,List.any_eq_true,wS,ft,r5,O8] at this;obtain⟨e,he,c,hor⟩:=this
 have k:opsA.getD i default=o:=by rw[Jj,h];rfl
 rw[k] at he;have n:=b e he c;rcases hor with rfl|hor
 ·exact n
 ·have l:e.on<opsA.size:=by
   unfold wF at a;rw[j7] at a
   have d:(o,i)∈opsA.toList.zipIdx:=by
    rw[Tk];simpa using h
   have:=a _ d;simp only[HJ] at this;have:=this e he;rw[c] at this
   have:e.on<i:=by simpa using this
   omega
  exact g e.on j l m n hor
def Pu{listed:Array Bool}(d:listed.size=opsA.size){i:Nat}(hi:i<opsA.size)(b:listed.getD i true=false):∃pre post,uI opsA listed=pre++i::post/\uI opsA (listed.setIfInBounds i true)=pre++post/\∀j∈pre,j<i/\listed.getD j true=false:=by
 have c:List.range opsA.size=List.range i++i::(List.range' (i+1) (opsA.size-i-1)):=by
  rw[PL,PL]
  have:opsA.size=i+(1+(opsA.size-i-1)):=VW
  conv=>lhs;rw[this]
  rw[<-List.range'_append_1]
  congr 1
  rw[show 1+(opsA.size-i-1)=(opsA.size-i-1)+1 by omega,Ta];simp
 refine⟨(List.range i).filter (λj=>!listed.getD j true),(List.range' (i+1) (opsA.size-i-1)).filter (λj=>!listed.getD j true),?_,?_,?_⟩
 ·unfold uI;rw[c,aas,List.filter_cons_of_pos (by simp[b])]
 ·unfold uI;rw[c,aas,List.filter_cons_of_neg (by rw[Av _ VW];simp)]
  congr 1
  ·refine Re λj a=>?_
   have:j<i:=by simpa using a
   rw[getD_set_ne true VW]
  ·refine Re λj a=>?_;have:=(List.mem_range'_1.1 a).1;rw[getD_set_ne true VW]
 ·intro j a;rw[aah] at a;exact⟨by simpa using a.1,by simpa using a.2⟩
variable{n:Nat} {G0:Nat->Nat} {F0:jY} {n0:Nat} {w0:World}
def x'{listed:Array Bool}{i:Nat}(hi:i<listed.size):listed.getD i false=listed.getD i true:=by
 simp[hi]
def SI{Q:Exit->Act->World->Prop}(p:wI E opsA sf=true)(x:xA n opsA=true)(R:∀fr' H' F w',K fr' H'->SR T n G0 F0 n0 w0 fr' H' F w'->Q .normal F w'):∀(fuel:Nat) (listed:Array Bool) (fr:Fr) (H:cW) (a:Act) (w:World),listed.size=opsA.size->Ri (Region.before opsA) opsA listed->(uI opsA listed).length<=fuel->SR T n G0 F0 n0 w0 fr H a w->F2 P T E opsA q sf (uI opsA listed) K fr H->wpAny P .any opsA Q fuel listed a w:=by
 unfold wI at p;simp only[ft] at p;obtain⟨⟨c,S⟩,d⟩:=p
 have r:∀{listed:Array Bool},listed.size=opsA.size->Region.ready .any opsA listed=[]->uI opsA listed=[]:=by
  intro listed f y;cases b:uI opsA listed with
  |nil=>rfl|cons i rest=>
   exfalso
   have m:i∈uI opsA listed:=by rw[b];simp
   have hex:∃k,k<opsA.size/\listed.getD k true=false:=⟨i,OS.1 m⟩
   obtain⟨k,⟨G,I⟩,z⟩:∃k,(k<opsA.size/\listed.getD k true=false)/\∀j,j<k->¬(j<opsA.size/\listed.getD j true=false):=by
    clear b m;obtain⟨k,Z⟩:=hex
    induction k using Nat.strongRecOn with
    |_ k J=>
     by_cases h:∃j,j<k/\(j<opsA.size/\listed.getD j true=false)
     ·obtain⟨j,s,t⟩:=h;exact J j s t
     ·exact⟨k,Z,λj A hc=>h ⟨j,A,hc⟩⟩
   have:=Kb c f G I λj A=>by
    have hn:=z j A
    have L:j<opsA.size:=VW
    rw[x' VW];cases hb:listed.getD j true with
    |true=>rfl|false=>exact absurd ⟨L,hb⟩ hn
   rw[y] at this;cases this
 intro fuel
 induction fuel with
 |zero=>
  intro listed fr H a w f g hlen hs h;have b:uI opsA listed=[]:=Aa VW;rw[b] at h;refine⟨?_,R _ _ _ _ h hs⟩;cases y:Region.ready .any opsA listed with
  |nil=>rfl|cons i rest=>
   have hm:i∈Region.ready .any opsA listed:=by rw[y];simp
   obtain⟨u,o,v,_⟩:=mem_ready.1 hm;have:i∈uI opsA listed:=OS.2 ⟨(MC.1 v).1,u⟩;rw[b] at this;cases this
 |succ fuel J=>
  intro listed fr H a w f g hlen hs h;refine⟨λy=>?_,λi hi=>?_⟩
  ·rw[r f y] at h;exact R _ _ _ _ h hs
  ·obtain⟨u,o,v,U⟩:=mem_ready.1 hi;have B:i<opsA.size:=(MC.1 v).1;obtain⟨pre,post,h1,V,h3⟩:=Pu f B u;rw[h1] at h
   have l:=Oa (P:=P) (T:=T) (E:=E) (opsA:=opsA) (q:=q) (K:=K) (sf:=sf) v post pre fr H (by
    intro j A oj M;obtain⟨s,t⟩:=h3 j A;rw[j7] at d;have:=d i (by simpa using B);rw[j7] at this;have:=this j (by simpa using s);simp only[r5] at this
    have e1:opsA.getD j default=oj:=by rw[Jj,M];rfl
    have e2:opsA.getD i default=o:=by rw[Jj,v];rfl
    rw[e1,e2] at this;rcases this with hb|hb
    ·have:=Eh S c g hi VW hb;rw[x' VW,t] at this;cases this
    ·exact hb) h
   have N:rV n o=true:=HJ.1 x o (Sx v);refine D9 v N hs (Ly l) ?_;intro fr' H' F w' hK O;refine J (listed.setIfInBounds i true) fr' H' F w' (by simpa using f) ?_ ?_ O (by rw[V];exact hK)
   ·--still closed
    intro W X hi' C Y hb
    by_cases he:X=i
    ·subst he;exact Av _ VW
    ·rw[getD_set_ne false (λe=>he e.symm)]
     by_cases D:W=i
     ·subst D;exact Eh S c g hi C hb
     ·rw[getD_set_ne false (λe=>D e.symm)] at Y;exact g W X hi' C Y hb
   ·rw[h1] at hlen;rw[V];simp only[oJ,kN] at hlen|-;omega
end
section
variable{P:Program} {T:dx} {n:Nat} {Q:Exit->Fr->cW->Prop} {fr:Fr} {H:cW}
def SR.drew{G0:Nat->Nat}{F0:jY}{n0:Nat}{w0:World}{a:Act}{w:World}(hs:SR T n G0 F0 n0 w0 fr H a w):SR T n G0 F0 n0 w0 fr H a w.drew:=by
 obtain⟨ρ,F,R,hw,b⟩:=hs;exact⟨ρ,F,R,hw.drew,b.drew⟩
def fg.LJ{id:Nat}{ops:Array Oper}(E:List Nat)(q:Qt)(sf:Nat->Bool)(hm:P.follows .mixedOrders=true)(c:xA n ops=true)(d:wI E ops sf=true)
  (h:F2 P T E ops q sf (List.range ops.size) (Q .normal) fr H):fg P T n (.region id ops true) Q fr H:=by
 intro G0 F0 n0 w0 a w hs;refine wp_region_any hm ?_
 have b:uI ops (Array.replicate ops.size false)=List.range ops.size:=by
  unfold uI;rw[FW];intro i hi
  have:i<ops.size:=by simpa using hi
  simp[this]
 have:=SI (Q:=λe f w'=>∃fr' H',Q e fr' H'/\SR T n G0 F0 n0 w0 fr' H' f w') d c (λfr' H' f w' h1 g=>⟨fr',H',h1,g⟩) ops.size (Array.replicate ops.size false) fr H a w.drew aa4
  (by intro i j hi l k;simp[hi] at k) (by rw[b];simp) hs.drew (by rw[b];exact h)
 exact this
def qF(P:Program)(T:dx)(E:List Nat)(opsA:Array Oper)(q:Qt):List Oper->(Fr->cW->Prop)->Fr->cW->Prop
 |[],K,fr,H=>K fr H|o::rest,K,fr,H=>gB P T E opsA q true o (λfr H=>qF P T E opsA q rest K fr H) fr H
def J6{E:List Nat}{ops:Array Oper}{q:Qt}{K:Fr->cW->Prop}:∀(l:List Oper) (k:Nat) (fr:Fr) (H:cW),l=ops.toList.drop k->qF P T E ops q l K fr H->F2 P T E ops q (λ_=>true) (List.range' k l.length) K fr H:=by
 intro l
 induction l with
 |nil=>intro k fr H _ h;exact h|cons o l c=>
  intro k fr H b h
  have a:k<ops.toList.length:=by
   rcases qu k ops.toList.length with h'|h'
   ·exact h'
   ·rw[Da h'] at b;cases b
  have hd:=JK a;rw[hd] at b;injection b with h1 d
  have hi:ops[k]?=some o:=by
   rw[h1];simp only[UW];exact Pe (by simpa using a)
  simp only[kN,Ta,F2,hi];exact AR (λfr H h=>c (k+1) fr H d h) h
def fg.UE{id:Nat}{ops:Array Oper}(E:List Nat)(q:Qt)(hm:P.follows .mixedOrders=true)(a:xA n ops=true)(b:wI E ops (λ_=>true)=true)
  (h:qF P T E ops q ops.toList (Q .normal) fr H):fg P T n (.region id ops true) Q fr H:=by
 refine fg.LJ E q (λ_=>true) hm a b ?_;have:=J6 (K:=Q .normal) ops.toList 0 fr H aa4 h;rw[PL];simpa using this
end
end Go.ke
namespace Go.ke
open Go
section
variable{P:Program} {T:dx} {n:Nat} {Q:Exit->Fr->cW->Prop} {fr:Fr} {H:cW}
def fg.tx{x y:Code}(h:∀K:Fr->cW->Prop,(∀fr H,fg P T n y Q fr H->K fr H)->fg P T n x (Ft K Q) fr H):fg P T n (.seq x y) Q fr H:=
 fg.seq (h _ λ_ _ h=>h)
def fg.zx{id:Nat}{c:Code}(h:∀Q':Exit->Fr->cW->Prop,(∀fr H,Q .normal fr H->Q' .normal fr H)->(∀fr H,Q .normal fr H->Q' (.exit id) fr H)->(∀a fr H,a≠id->Q (.exit a) fr H->Q' (.exit a) fr H)->(∀fr H,Q .ret fr H->Q' .ret fr H)->fg P T n c Q' fr H):fg P T n (.block id c) Q fr H:=by
 refine fg.block (h (FY id Q) (λ_ _ h=>h) (λ_ _ h=>?_) (λa _ _ b h=>?_) (λ_ _ h=>h))
 ·simp only[FY,if_true];exact h
 ·simp only[FY,cK b];exact h
end
@[simp] theorem T_(K:Fr->cW->Prop)(Q:Exit->Fr->cW->Prop):Ft K Q .normal=K:=rfl
end Go.ke
