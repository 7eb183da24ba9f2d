/- Part of the proof of TranslateWitness: layer. -/
import Derived.Test.YtffcgfpaakhbjaaGreatDoorL6
set_option linter.all false
namespace Go.jX
open Go
def sY{α:Type}(f:Nat->α){i j:Nat}(h:i≠j)(x y:α):eH (eH f i x) j y=eH (eH f j y) i x:=by
 funext k
 simp only[eH]
 by_cases b:k=j
 ·subst b;rw[bX rfl,bV (λe=>h e.symm),bX rfl]
 ·rw[bV b]
  by_cases a:k=i
  ·rw[bX a,bX a]
  ·rw[bV a,bV a,bV b]
def jG(fr:Fr)(d:Nat)(cs:List AV):Fr:=
 {fr with env:=eH fr.env d (.gJ d (fr.gen d+1) 0),box:=eH fr.box d (some cs),gen:=eH fr.gen d (fr.gen d+1)}
def uC(P:Program)(T:cW)(fr:Fr)(o:Oper):Option (List AV):=
 match o.op with
 |.alloc t=>fV P t|.box _ x=>if dj (ev T fr x) then some (ev T fr x).cells else none|_=>none
inductive kJ where
 |grow (tag:Tag) (l m:List AV)|same (l:List AV)
def kJ.fr(fr:Fr)(d:Nat):kJ->Fr
 |.grow tag l m=>grown fr d tag l m|.same l=>fr.put (some d) (.slice .ja l)
def Kj(P:Program)(T:cW)(fr:Fr)(c:Call)(x:kJ):Prop:=
 ∃s y t e sz tag tag' l m,c.args.toList=[s,y]/\c.argTypes.toList=[t,t]/\ng P t=some (e,sz)/\ev T fr s=.slice tag l/\ev T fr y=.slice tag' m/\iU sz l=true/\iU sz m=true/\l.length+m.length<=gN/\(m_ fr tag l=true/\x=.grow tag l m\/m_ fr tag l=false/\m=[]/\x=.same l)
section
variable{P:Program} {T:cW} {E:List Nat} {ops:List Oper} {opsA:Array Oper} {q:Qt} {soft soft1 soft2:Bool} {o o1 o2:Oper} {K:Fr->cd->Prop} {fr fr1 fr2 fr':Fr} {H H1 H2 H':cd}
def SC{c:Call}{dst:Option Nat}(h:ld P T c dst (λf h=>f=fr'/\h=H') fr H):∃d x,dst=some d/\Kj P T fr c x/\fr'=x.fr fr d/\H'=H:=by
 unfold ld at h
 split at h
 ·rename_i d s y t i a b
  split at h
  ·rename_i e sz tag l tag' m j k n;obtain⟨rfl,g2,g3,g4,g5⟩:=h
   split at g5
   ·rename_i g;exact⟨d,.grow tag l m,rfl,⟨s,y,i,e,sz,tag,tag',l,m,a,b,j,k,n,g2,g3,g4,.inl ⟨g,rfl⟩⟩,g5.1.symm,g5.2.symm⟩
   ·rename_i g;exact⟨d,.same l,rfl,⟨s,y,i,e,sz,tag,tag',l,m,a,b,j,k,n,g2,g3,g4,.inr ⟨by simpa using g,g5.1,rfl⟩⟩,g5.2.1.symm,g5.2.2.symm⟩
  ·exact h.elim
 ·exact h.elim
def Vq{c:Call}{d:Nat}{x:kJ}(f:Kj P T fr c x)(b:K (x.fr fr d) H):ld P T c (some d) K fr H:=by
 obtain⟨s,y,t,e,sz,tag,tag',l,m,g,h,i,j,k,n,o,p,q⟩:=f;unfold ld;rw[g,h];simp only[i,j,k];refine⟨trivial,n,o,p,?_⟩;rcases q with⟨a,rfl⟩|⟨a,hm,rfl⟩
 ·rw[bX a];exact b
 ·rw[bV (by simp[a])];exact⟨hm,b⟩
def Kj.congr{c:Call}{x:kJ}(d:Kj P T fr c x)(he:∀y∈c.args.toList,ev T fr y=ev T fr' y)(f:fr'.rq=fr.rq)(hg:fr'.ds=fr.ds):Kj P T fr' c x:=by
 obtain⟨s,y,t,e,sz,tag,tag',l,m,a,g,h,i,j,k,n,o,p⟩:=d
 have b:m_ fr' tag l=m_ fr tag l:=by unfold m_;rw[f,hg]
 exact⟨s,y,t,e,sz,tag,tag',l,m,a,g,h,by rw[<-he s (by rw[a];simp)];exact i,by rw[<-he y (by rw[a];simp)];exact j,k,n,o,by rw[b];exact p⟩
def vg(a:dx E ops o=.val\/∃r,dx E ops o=.load r)(h:lW P T E ops q soft o fr H fr' H'):∃v,kF P T E ops q soft fr H o=some v/\fr'=fr.put o.dst v/\H'=H:=by
 unfold lW at h;obtain⟨dst,op,type,pos,after,guard⟩:=o
 have key:∀{x:Option AV},(match x with|some v=>(λf h=>f=fr'/\h=H') (fr.put dst v) H|none=>False)->∃v,x=some v/\fr'=fr.put dst v/\H'=H:=by
  intro x d
  split at d
  ·exact⟨_,rfl,d.1.symm,d.2.symm⟩
  ·exact d.elim
 cases op with
 |alloc t=>simp only[dx] at a;split at a<;>(try split at a)<;>simp at a
 |box t x=>simp only[dx] at a;split at a<;>(try split at a)<;>simp at a
 |store t x y=>simp[dx] at a
 |call c=>
  obtain⟨callee,args,Mn⟩:=c;cases callee with
  |builtin b=>cases b<;>first|(simp[dx] at a;done)|(simp only[eN] at h;exact key h)
  |value f=>simp[dx] at a
  |invoke r m=>simp[dx] at a
 |_=>simp only[eN] at h;exact key h
def yu{v:AV}(h:kF P T E ops q soft fr H o=some v):lW P T E ops q soft o fr H (fr.put o.dst v) H:=by
 unfold lW;obtain⟨dst,op,type,pos,after,guard⟩:=o;cases op with
 |alloc t=>simp[kF] at h
 |box t x=>simp[kF] at h
 |store t x y=>simp[kF] at h
 |call c=>
  obtain⟨callee,args,Mn⟩:=c;cases callee with
  |builtin b=>cases b<;>first|(simp[kF] at h;done)|(simp only[eN];rw[h];first|exact⟨rfl,rfl⟩|exact⟨rfl,trivial⟩)
  |value f=>simp[kF] at h
  |invoke r m=>simp[kF] at h
 |_=>simp only[eN];rw[h];first|exact⟨rfl,rfl⟩|exact⟨rfl,trivial⟩
def tl{d:Option Nat}(g:dx E ops o=.alloc d)(h:lW P T E ops q soft o fr H fr' H'):∃a cs,d=some a/\o.dst=some a/\E.contains a=false/\uC P T fr o=some cs/\fr'=jG fr a cs/\H'=H:=by
 unfold lW at h;obtain⟨dst,op,type,pos,after,guard⟩:=o
 have key:∀{cs:List AV} {a:Nat},dst=some a->E.contains a=false->iS E dst cs (λf h=>f=fr'/\h=H') fr H->fr'=jG fr a cs/\H'=H:=by
  intro cs a s l i;subst s;unfold iS at i;simp only at i;rw[bV (by simp only[l];simp)] at i;exact⟨i.1.symm,i.2.symm⟩
 have e:(∃t,op=.alloc t)\/(∃t x,op=.box t x)->∃a,d=some a/\dst=some a/\E.contains a=false:=by
  intro n
  have:(match dst with|some d=>if E.contains d then RW.yy else .alloc (some d)|none=>.yy)=.alloc d:=by
   rcases n with⟨t,rfl⟩|⟨t,x,rfl⟩<;>exact g
  split at this
  ·rename_i a
   split at this
   ·cases this
   ·rename_i l;cases this;exact⟨a,rfl,rfl,by simpa using l⟩
  ·cases this
 cases op with
 |alloc t=>
  obtain⟨a,p,j,k⟩:=e (.inl ⟨t,rfl⟩);simp only[eN] at h
  split at h
  ·rename_i z u;obtain⟨g1,g2⟩:=key j k h.2;exact⟨a,_,p,j,k,by simp only[uC,u],g1,g2⟩
  ·exact h.elim
 |box t x=>
  obtain⟨a,p,j,k⟩:=e (.inr ⟨t,x,rfl⟩);simp only[eN] at h;obtain⟨g1,g2⟩:=key j k h.2.2;exact⟨a,_,p,j,k,by simp only[uC];rw[bX h.1],g1,g2⟩
 |call c=>
  obtain⟨callee,args,Mn⟩:=c;cases callee with
  |builtin b=>cases b<;>simp[dx] at g
  |value f=>simp[dx] at g
  |invoke r m=>simp[dx] at g
 |_=>simp[dx] at g
def ue{d:Nat}{cs:List AV}(b:o.dst=some d)(a:E.contains d=false)(h:uC P T fr o=some cs):lW P T E ops q soft o fr H (jG fr d cs) H:=by
 unfold lW;obtain⟨dst,op,type,pos,after,guard⟩:=o;simp only at b;subst b
 have key:∀cs,iS E (some d) cs (λf h=>f=jG fr d cs/\h=H) fr H:=by
  intro cs;unfold iS;simp only;rw[bV (by simp only[a];simp)]
  first|exact⟨rfl,rfl⟩|exact⟨rfl,trivial⟩
 cases op with
 |alloc t=>
  simp only[uC] at h;simp only[eN,h];exact⟨λ_=>by simpa using a,key _⟩
 |box t x=>
  simp only[uC] at h
  split at h
  ·rename_i c;cases h;simp only[eN];exact⟨c,λ_=>by simpa using a,key _⟩
  ·cases h
 |_=>simp[uC] at h
def r8(h:∀x∈o.op.operands,ev T fr x=ev T fr' x):uC P T fr o=uC P T fr' o:=by
 obtain⟨dst,op,type,pos,after,guard⟩:=o;cases op with
 |box t x=>simp only[uC];rw[h x (by simp[Op.operands])]|_=>rfl
def Al(s:dx E ops o=.yy)(h:lW P T E ops q soft o fr H fr' H'):∃r,fr'=fr.put o.dst r/\(soft=true->QK q H H')/\∀f:Fr,(∀x∈o.op.operands,ev T fr x=ev T f x)->lW P T E ops q soft o f H (f.put o.dst r) H':=by
 unfold lW at h;obtain⟨dst,op,type,pos,after,guard⟩:=o
 have a:∀{cs:List AV},((∃t,op=.alloc t)\/(∃t x,op=.box t x))->iS E dst cs (λf h=>f=fr'/\h=H') fr H->∃d,dst=some d/\E.contains d=true/\fr'=fr.put dst (.de H.length 0)/\H'=H++[cs.map AV.gS]/\∀f:Fr,iS E dst cs (λA h=>A=f.put dst (.de H.length 0)/\h=H') f H:=by
  intro cs u i
  have hm:(match dst with|some d=>if E.contains d then RW.yy else .alloc (some d)|none=>.yy)=.yy:=by
   rcases u with⟨t,rfl⟩|⟨t,x,rfl⟩<;>exact s
  unfold iS at i
  split at i
  ·rename_i d
   split at i
   ·rename_i p;refine⟨d,rfl,p,i.1.symm,i.2.symm,λf=>?_⟩;unfold iS;simp only;rw[bX p];exact⟨rfl,i.2⟩
   ·rename_i p;simp only[bV p] at hm;cases hm
  ·exact i.elim
 cases op with
 |alloc t=>
  simp only[eN] at h
  split at h
  ·rename_i z B;obtain⟨d,k,j,l,v,w⟩:=a (.inl ⟨t,rfl⟩) h.2;refine⟨_,l,?_,λf n=>?_⟩
   ·intro hs;have:=h.1 hs;rw[k] at this;exact absurd this (by simp only[Vc,j];simp)
   ·unfold lW;simp only[eN,B];exact⟨h.1,w f⟩
  ·exact h.elim
 |box t x=>
  simp only[eN] at h;obtain⟨d,k,j,l,v,w⟩:=a (.inr ⟨t,x,rfl⟩) h.2.2;refine⟨_,l,?_,λf n=>?_⟩
  ·intro hs;have:=h.2.1 hs;rw[k] at this;exact absurd this (by simp only[Vc,j];simp)
  ·unfold lW;simp only[eN];have e:=n x (by simp[Op.operands]);refine⟨by rw[<-e];exact h.1,h.2.1,?_⟩;rw[<-e];exact w f
 |call c=>
  obtain⟨callee,args,Mn⟩:=c;cases callee with
  |builtin b=>cases b<;>simp[dx] at s
  |value g=>
   simp only[eN] at h;obtain⟨r,y,k,j,l,v⟩:=h;subst v;refine⟨r,l.symm,j,λf n=>?_⟩;unfold lW;simp only[eN];refine⟨r,y,?_,j,rfl,rfl⟩
   have C:(args.toList.map λx=>(ev T fr x).norm)=args.toList.map λx=>(ev T f x).norm:=
    qg λx D=>by rw[n x (by simp[Op.operands,Call.operands,uS.1 D])]
   rw[<-C,<-n g (by simp[Op.operands,Call.operands])];exact k
  |invoke r m=>simp only[eN] at h
 |_=>simp[dx] at s
def z7(a:dx E ops o=.app)(h:lW P T E ops q soft o fr H fr' H'):∃d x,o.dst=some d/\fr'=kJ.fr fr d x/\H'=H/\∀(f:Fr) (h:cd),(∀x∈o.op.operands,ev T fr x=ev T f x)->f.rq=fr.rq->f.ds=fr.ds->lW P T E ops q soft o f h (kJ.fr f d x) h:=by
 unfold lW at h;obtain⟨dst,op,type,pos,after,guard⟩:=o;cases op with
 |call c=>
  obtain⟨callee,args,Mn⟩:=c;cases callee with
  |builtin b=>
   cases b with
   |append=>
    simp only[eN] at h;obtain⟨d,x,e,i,j,k⟩:=SC h;subst e;refine⟨d,x,rfl,j,k,λf h he l hg=>?_⟩;unfold lW;simp only[eN];refine Vq (i.congr (λy hy=>he y ?_) l hg) ⟨rfl,rfl⟩;simp only at hy;simp[Op.operands,Call.operands,uS.1 hy]
   |_=>simp[dx] at a
  |value g=>simp[dx] at a
  |invoke r m=>simp[dx] at a
 |alloc t=>simp only[dx] at a;split at a<;>(try split at a)<;>simp at a
 |box t x=>simp only[dx] at a;split at a<;>(try split at a)<;>simp at a
 |_=>simp[dx] at a
def RM{r:Option Nat}(a:dx E ops o=.Ie r)(h:lW P T E ops q soft o fr H fr' H'):fr'.env=fr.env/\fr'.gen=fr.gen/\fr'.rq=fr.rq/\fr'.ds=fr.ds/\o.dst=none/\(∀b,r≠some b->fr'.box b=fr.box b)/\(soft=true->H'=H):=by
 unfold lW at h;obtain⟨dst,op,type,pos,after,guard⟩:=o;cases op with
 |store t x y=>
  simp only[dx,RW.Ie.injEq] at a;simp only[eN] at h;obtain⟨j,e,l,d⟩:=h;unfold j0 at d
  split at d
  ·exact d.elim
  ·split at d
   ·rename_i b g off f
    split at d
    ·obtain⟨_,_,_,_,g1,g2⟩:=d;subst g1;subst g2;refine⟨rfl,rfl,rfl,rfl,j,λk i=>?_,λ_=>rfl⟩
     have:r=some b:=by
      rw[f] at e;simp only[oP,Ss] at e;rw[<-a];exact e
     subst this;show eH fr.box b _ k=fr.box k;rw[w8];rintro rfl;exact i rfl
    ·exact d.elim
   ·rename_i o' off f
    split at d
    ·obtain⟨_,_,_,_,g1,g2⟩:=d;subst g1;subst g2;refine⟨rfl,rfl,rfl,rfl,j,λ_ _=>rfl,λhs=>?_⟩;have:=l hs;rw[f] at this;simp[Zl] at this
    ·exact d.elim
   ·exact d.elim
 |call c=>
  obtain⟨callee,args,Mn⟩:=c;cases callee with
  |builtin b=>cases b<;>simp[dx] at a
  |value g=>simp[dx] at a
  |invoke r m=>simp[dx] at a
 |alloc t=>simp only[dx] at a;split at a<;>(try split at a)<;>simp at a
 |box t x=>simp only[dx] at a;split at a<;>(try split at a)<;>simp at a
 |_=>simp[dx] at a
def zQ(fr:Fr)(d:Nat):fr.put (some d) (fr.env d)=fr:=by
 simp only[Fr.put]
 have:eH fr.env d (fr.env d)=fr.env:=by
  funext j
  simp only[eH]
  split
  ·rename_i h;rw[h]
  ·rfl
 rw[this]
def Dq(fr:Fr)(d:Nat)(x y:AV):(fr.put (some d) x).put (some d) y=fr.put (some d) y:=by
 simp only[Fr.put,Iu]
structure Left (c:RW) (dst:Option Nat) (soft:Bool) (q:Qt) (fr:Fr) (H:cd) (fr':Fr) (H':cd):Prop where
 env:∀t,dst≠some t->fr'.env t=fr.env t
 box:∀b,c≠ .alloc (some b)->c≠ .Ie (some b)->fr'.box b=fr.box b/\fr'.gen b=fr.gen b
 heap:c≠ .yy->(∀r,c=.Ie r->soft=true)->H'=H
 quiet:soft=true->QK q H H'
def kJ.left(fr:Fr)(d:Nat)(x:kJ):(∀t,t≠d->(kJ.fr fr d x).env t=fr.env t)/\(kJ.fr fr d x).box=fr.box/\(kJ.fr fr d x).gen=fr.gen:=by
 cases x with
 |grow tag l m=>exact⟨λt a=>by show eH _ _ _ t=_;rw[w8 _ _ _ _ a],rfl,rfl⟩|same l=>exact⟨λt a=>by show eH _ _ _ t=_;rw[w8 _ _ _ _ a],rfl,rfl⟩
def oh(h:lW P T E ops q soft o fr H fr' H'):Left (dx E ops o) o.dst soft q fr H fr' H':=by
 have a:∀(v:AV) (t:Nat),o.dst≠some t->(fr.put o.dst v).env t=fr.env t:=by
  intro v t i;rw[Fr.r5,bV i]
 cases g:dx E ops o with
 |val=>
  obtain⟨v,_,rfl,rfl⟩:=vg (.inl g) h;obtain⟨c,f,_,_⟩:=Fr.vl fr o.dst v;exact⟨a v,λb _ _=>⟨by rw[c],by rw[f]⟩,λ_ _=>rfl,λ_=>.refl⟩
 |load r=>
  obtain⟨v,_,rfl,rfl⟩:=vg (.inr ⟨r,g⟩) h;obtain⟨c,f,_,_⟩:=Fr.vl fr o.dst v;exact⟨a v,λb _ _=>⟨by rw[c],by rw[f]⟩,λ_ _=>rfl,λ_=>.refl⟩
 |alloc d=>
  obtain⟨n,cs,rfl,k,_,_,rfl,rfl⟩:=tl g h;refine⟨λt i=>?_,λb l _=>?_,λ_ _=>rfl,λ_=>.refl⟩
  ·show eH _ _ _ t=_;rw[w8];rintro rfl;exact i k
  ·have j:b≠n:=by rintro rfl;exact l rfl
   exact⟨w8 _ _ _ _ j,w8 _ _ _ _ j⟩
 |yy=>
  obtain⟨r,rfl,p,_⟩:=Al g h;obtain⟨c,f,_,_⟩:=Fr.vl fr o.dst r;exact⟨a r,λb _ _=>⟨by rw[c],by rw[f]⟩,λhn _=>absurd rfl hn,p⟩
 |app=>
  obtain⟨d,x,k,rfl,rfl,_⟩:=z7 g h;obtain⟨g1,g2,g3⟩:=kJ.left fr d x;exact⟨λt i=>g1 t (by rintro rfl;exact i k),λb _ _=>⟨by rw[g2],by rw[g3]⟩,λ_ _=>rfl,λ_=>.refl⟩
 |Ie r=>
  obtain⟨c,f,u,w,y,s,m⟩:=RM g h;exact⟨λt _=>by rw[c],λb _ l=>⟨s b (λe=>l (by rw[e])),by rw[f]⟩,λ_ hs=>m (hs r rfl),λhs=>by rw[m hs];exact .refl⟩
def J0{d:Nat}(v:AV)(c:d∉o.looksAt opsA)(a:o.dst≠some d)(h:lW P T E ops q soft o fr H fr' H'):lW P T E ops q soft o (fr.put (some d) v) H (fr'.put (some d) v) H':=by
 have e:eN P T E ops q soft o (λf h=>f=fr'/\h=H') ((fr.put (some d) v).put (some d) (fr.env d)) H:=by
  rw[Dq,zQ];exact h
 obtain⟨f,k,b,g,i⟩:=qG (G1 (opsA:=opsA) c a e);subst i;have he:=(oh b).env d a
 have j:f=fr'.put (some d) v:=by
  rw[<-g,Dq]
  have:(fr.put (some d) v).env d=v:=by rw[Fr.r5,bX rfl]
  rw[this] at he;rw[<-he,zQ]
 rw[<-j];exact b
def DR{d:Nat}{v:AV}(b:d∉o.looksAt opsA)(a:o.dst≠some d)(h:lW P T E ops q soft o (fr.put (some d) v) H fr' H'):∃f,lW P T E ops q soft o fr H f H'/\f.put (some d) v=fr':=by
 obtain⟨f,i,c,e,g⟩:=qG (G1 (opsA:=opsA) b a h);subst g;exact⟨f,c,e⟩
def Kc{x:Operand}{t:Nat}(a:x∈o.op.operands)(b:x=.tmp t):t∈o.looksAt opsA:=by
 subst b;exact Tj _ (Yj.2 ⟨.tmp t,by simpa using a,rfl⟩)
def Av{c:RW}{dst:Option Nat}(a:Left c dst soft q fr H fr' H')(b:∀d,dst=some d->d∉o.looksAt opsA):∀x∈o.op.operands,ev T fr x=ev T fr' x:=by
 intro x e;refine D9 λt f=>?_;rw[a.env];intro g;exact b t g (Kc e f)
def Bh{c:RW}{dst:Option Nat}(m:Left c dst soft2 q fr H fr' H')(z:∀d,dst=some d->d∉o.looksAt opsA)(e:tR (dx E ops o) c=true)
  (hs:∀r,dx E ops o=.load r->(c=.yy->soft=true/\soft2=true)/\(∀A,c=.Ie A->soft2=true)) {v:AV} (hv:kF P T E ops q soft fr H o=some v\/kF P T E ops q soft fr' H' o=some v):kF P T E ops q soft fr H o=kF P T E ops q soft fr' H' o:=by
 have n:=Av (T:=T) (opsA:=opsA) m z
 by_cases j:∃t x,o.op=.load t x
 ·obtain⟨t,x,a⟩:=j;have B:=n x (by rw[a];simp[Op.operands])
  have k:dx E ops o=.load (BT ops x):=by unfold dx;rw[a]
  obtain⟨p,s⟩:=hs _ k;rw[k] at e
  have l:oP ops x (ev T fr x)=true/\(!soft||q.ok (ev T fr x))=true:=by
   have:∀(f:Fr) (h:cd),kF P T E ops q soft f h o=some v->ev T f x=ev T fr x->oP ops x (ev T fr x)=true/\(!soft||q.ok (ev T fr x))=true:=by
    intro f h hv he;unfold kF at hv;rw[a] at hv;simp only at hv
    split at hv
    ·rename_i w;rw[he] at w;simpa using w
    ·cases hv
   rcases hv with hv|hv
   ·exact this fr H hv rfl
   ·exact this fr' H' hv B.symm
  refine vK n (λG I he=>?_) (λ_ _ _ _ he=>by rw[a] at he;cases he);rw[a] at he;injection he with C D;subst C;subst D;refine⟨λb g off F=>?_,λo' y hg=>?_⟩
  ·have u:BT ops x=some b:=by
    have:=l.1;rw[F] at this;simpa[oP] using this
   rw[u] at e;have:=m.box b (by rintro rfl;simp[tR] at e) (by rintro rfl;simp[tR] at e);exact⟨this.1.symm,this.2.symm⟩
  ·by_cases he:c=.yy
   ·obtain⟨g1,g2⟩:=p he
    have hq:q.all=true\/q.st o'=true:=by
     have:=l.2;rw[g1,hg] at this;simpa[Qt.ok] using this
    rcases hq with hq|hq
    ·rw[(m.quiet g2).1 hq]
    ·exact((m.quiet g2).2 o' hq).symm
   ·rw[m.heap he s]
 ·refine vK n (λt x he=>absurd ⟨t,x,he⟩ j) λt x i ok a=>?_
  have k:dx E ops o=.load none:=by unfold dx;rw[a]
  obtain⟨p,s⟩:=hs _ k
  have hq:(!soft||q.all)=true:=by
   have:∀(f:Fr) (h:cd),kF P T E ops q soft f h o=some v->(!soft||q.all)=true:=by
    intro f h hv;unfold kF at hv;rw[a] at hv;simp only at hv
    split at hv
    ·rename_i w;exact w
    ·cases hv
   rcases hv with hv|hv
   ·exact this _ _ hv
   ·exact this _ _ hv
  by_cases he:c=.yy
  ·obtain⟨g1,g2⟩:=p he;rw[g1] at hq;exact((m.quiet g2).1 (by simpa using hq)).symm
  ·exact(m.heap he s).symm
def HH(fr:Fr){d b:Nat}(h:d≠b)(cs a:List AV):jG (jG fr d cs) b a=jG (jG fr b a) d cs:=by
 simp only[jG,w8 _ _ _ _ h,w8 _ _ _ _ h.symm];rw[sY fr.env h,sY fr.box h,sY fr.gen h]
def Cy(fr:Fr){d:Nat}{d2:Option Nat}(h:d2≠some d)(cs:List AV)(r:AV):(jG fr d cs).put d2 r=jG (fr.put d2 r) d cs:=by
 cases d2 with
 |none=>rfl|some b=>
  have a:d≠b:=λe=>h (by rw[e]);simp only[jG,Fr.put];rw[sY fr.env a]
def M9(fr:Fr){d:Nat}{d2:Option Nat}(h:d2≠some d)(x:kJ)(r:AV):kJ.fr (fr.put d2 r) d x=(kJ.fr fr d x).put d2 r:=by
 cases d2 with
 |none=>rfl|some b=>
  have a:b≠d:=λe=>h (by rw[e]);cases x with
  |grow tag l m=>
   simp only[kJ.fr,grown,Fr.put];rw[sY fr.env a]
  |same l=>exact kN fr a r (.slice .ja l)
def CK(fr:Fr){d a:Nat}(h:d≠a)(cs:List AV)(x:kJ):kJ.fr (jG fr d cs) a x=jG (kJ.fr fr a x) d cs:=by
 cases x with
 |grow tag l m=>
  simp only[kJ.fr,grown,jG];rw[sY fr.env h]
 |same l=>
  simp only[kJ.fr,Fr.put,jG];rw[sY fr.env h]
def OK(R:o1.apart opsA o2=true)(b:tR (dx E ops o1) (dx E ops o2)=true)
  (S:∀r,dx E ops o1=.load r->(dx E ops o2=.yy->soft1=true/\soft2=true)/\(∀L,dx E ops o2=.Ie L->soft2=true))
  (U:∀r,dx E ops o2=.load r->(dx E ops o1=.yy->soft2=true/\soft1=true)/\(∀L,dx E ops o1=.Ie L->soft1=true))
  (G:lW P T E ops q soft1 o1 fr H fr1 H1) (D:lW P T E ops q soft2 o2 fr1 H1 fr2 H2):∃f h,lW P T E ops q soft2 o2 fr H f h/\lW P T E ops q soft1 o1 f h fr2 H2:=by
 obtain⟨a1,a2,a3⟩:=Oper.apart_spec R
 by_cases I:dx E ops o1=.val\/∃r,dx E ops o1=.load r
 ·obtain⟨v,M,c,J⟩:=vg I G;subst J
  have V:∃f,lW P T E ops q soft2 o2 fr H1 f H2/\f.put o1.dst v=fr2:=by
   cases u:o1.dst with
   |none=>rw[u] at c;subst c;exact⟨fr2,D,rfl⟩
   |some d=>rw[u] at c;subst c;exact DR (opsA:=opsA) (a1 d u) (a2 d u) D
  obtain⟨f,N,W⟩:=V;have w:tR (dx E ops o1) (dx E ops o2)=true:=b;have:=Bh (o:=o1) (soft:=soft1) (oh N) a3 w S (.inl M);refine⟨f,H2,N,?_⟩;rw[<-W];exact yu (by rw[<-this];exact M)
 ·--aa second one only K
  by_cases n:dx E ops o2=.val\/∃r,dx E ops o2=.load r
  ·obtain⟨v,M,c,J⟩:=vg n D;subst J
   have w:tR (dx E ops o2) (dx E ops o1)=true:=by
    revert b
    cases dx E ops o1<;>cases dx E ops o2<;>simp[tR]<;>(intro h e;exact h e.symm)
   have:=Bh (o:=o2) (soft:=soft2) (oh G) a1 w U (.inr M);refine⟨fr.put o2.dst v,H,yu (by rw[this];exact M),?_⟩;rw[c];cases u:o2.dst with
   |none=>exact G|some d=>exact J0 (opsA:=opsA) v (a3 d u) (λe=>a2 d e u) G
  ·--O
   have X:=oh G;have j:∀x∈o2.op.operands,ev T fr x=ev T fr1 x:=Av (T:=T) (opsA:=opsA) X a1;have s:∀{f:Fr} {h:cd} (Q:lW P T E ops q soft2 o2 fr H f h),∀x∈o1.op.operands,ev T fr x=ev T f x:=λQ=>Av (T:=T) (opsA:=opsA) (oh Q) a3;cases k:dx E ops o1 with
   |val=>exact absurd (.inl k) I|load r=>exact absurd (.inr ⟨r,k⟩) I|Ie r=>
    rw[k] at b;cases a:dx E ops o2 with
    |val=>exact absurd (.inl a) n|load L=>exact absurd (.inr ⟨L,a⟩) n|_=>rw[a] at b;simp[tR] at b
   |alloc d1=>
    obtain⟨d,cs,rfl,u,Y,Z,c,J⟩:=tl k G;subst J
    have back:∀{f:Fr} {h:cd} (Q:lW P T E ops q soft2 o2 fr H1 f h),lW P T E ops q soft1 o1 f h (jG f d cs) h:=λQ=>
     ue u Y (by rw[<-r8 (s Q)];exact Z)
    cases a:dx E ops o2 with
    |val=>exact absurd (.inl a) n|load r=>exact absurd (.inr ⟨r,a⟩) n|Ie r=>rw[k,a] at b;simp[tR] at b
    |alloc d2=>
     obtain⟨z,A,rfl,i,B,t,g,p⟩:=tl a D;subst p;have C:d≠z:=λe=>a2 d u (by rw[i,e]);have hn:lW P T E ops q soft2 o2 fr H2 (jG fr z A) H2:=ue i B (by rw[r8 j];exact t);refine⟨_,_,hn,?_⟩;rw[g,c,HH fr C];exact back hn
    |yy=>
     obtain⟨r,g,_,l⟩:=Al a D;have hn:=l fr λx F=>(j x F).symm;refine⟨_,_,hn,?_⟩;rw[g,c,Cy fr (λe=>a2 d u e)];exact back hn
    |app=>
     obtain⟨z,x,i,g,p,l⟩:=z7 a D;subst p;have C:d≠z:=λe=>a2 d u (by rw[i,e]);have hn:=l fr H2 (λx F=>(j x F).symm) (by rw[c];rfl) (by rw[c];rfl);refine⟨_,_,hn,?_⟩;rw[g,c,CK fr C];exact back hn
   |yy=>
    obtain⟨r,c,_,m⟩:=Al k G;cases a:dx E ops o2 with
    |val=>exact absurd (.inl a) n|load r=>exact absurd (.inr ⟨r,a⟩) n|Ie r=>rw[k,a] at b;simp[tR] at b
    |yy=>rw[k,a] at b;simp[tR] at b
    |alloc d2=>
     obtain⟨z,A,rfl,i,B,t,g,p⟩:=tl a D;subst p;have hn:lW P T E ops q soft2 o2 fr H (jG fr z A) H:=ue i B (by rw[r8 j];exact t);refine⟨_,_,hn,?_⟩;rw[g,c,<-Cy fr (λe=>a2 z e i)];exact m _ λx F=>s hn x F
    |app=>
     obtain⟨z,x,i,g,p,l⟩:=z7 a D;subst p;obtain⟨e1,e2,e3,e4⟩:=Fr.vl fr o1.dst r;have hn:=l fr H (λx F=>(j x F).symm) (by rw[c,e3]) (by rw[c,e4]);refine⟨_,_,hn,?_⟩;rw[g,c,M9 fr (λe=>a2 z e i)];exact m _ λx F=>s hn x F
   |app=>
    obtain⟨d,x,u,c,J,m⟩:=z7 k G;subst J;cases a:dx E ops o2 with
    |val=>exact absurd (.inl a) n|load r=>exact absurd (.inr ⟨r,a⟩) n|Ie r=>rw[k,a] at b;simp[tR] at b
    |app=>rw[k,a] at b;simp[tR] at b
    |alloc d2=>
     obtain⟨z,A,rfl,i,B,t,g,p⟩:=tl a D;subst p;have C:z≠d:=λe=>a2 d u (by rw[i,e]);have hn:lW P T E ops q soft2 o2 fr H2 (jG fr z A) H2:=ue i B (by rw[r8 j];exact t);refine⟨_,_,hn,?_⟩;rw[g,c,<-CK fr C];exact m _ _ (λy hy=>s hn y hy) rfl rfl
    |yy=>
     obtain⟨r,g,_,l⟩:=Al a D;have hn:=l fr λy hy=>(j y hy).symm;obtain⟨e1,e2,e3,e4⟩:=Fr.vl fr o2.dst r;refine⟨_,_,hn,?_⟩;rw[g,c,<-M9 fr (λe=>a2 d u e)];exact m _ _ (λy hy=>s hn y hy) e3 e4
end
end Go.jX
namespace Go.jX
open Go
def fw(opsA:Array Oper)(o:Oper)(fr:Fr):Option Bool:=
 match o.guard with
 |none=>some true|some (j,want)=>
  match(opsA[j]?).bind (·.dst)with
  |some d=>match fr.env d with
   |.sc (.bool b)=>some (b==want)|.tuple _=>some false|_=>none
  |none=>none
def jB(E:List Nat)(o:Oper):Bool:=
 match o.op with
 |.call c=>(match c.callee with
  |.builtin .append=>o.dst.any E.contains|.value _=>o.dst.any E.contains|_=>false)
 |_=>false
def R0(c:Call):Bool:=
 match c.callee with
 |.value _=>true|_=>false
def Wl(P:Program)(T:cW)(q:Qt)(soft:Bool)(a:AV)(as:List AV)(dst:Option Nat)(K:Fr->cd->Prop)(fr:Fr)(H:cd):Prop:=
 ∃Post:AV->cd->Prop,jo P T a as H Post/\(∃r h,Post r h)/\∀r h,Post r h->(soft=true->QK q H h)/\K (fr.put dst r) h
def m0(P:Program)(T:cW)(q:Qt)(soft:Bool)(c:Call)(dst:Option Nat)(K:Fr->cd->Prop)(fr:Fr)(H:cd):Prop:=
 match c.callee with
 |.value f=>Wl P T q soft (ev T fr f) (c.args.toList.map λx=>(ev T fr x).norm) dst K fr H|_=>m4 P T c dst K fr H
def Lz(E:List Nat)(q:Qt)(x:Operand)(v:AV):Prop:=E.contains 999999=true->∃a off t,v=.de a off/\x=.tmp t/\q.cl a=t
@[simp] theorem Xu(E:List Nat)(q:Qt)(t a off:Nat):Lz E q (.tmp t) (.de a off)=(E.contains 999999=true->q.cl a=t):=by
 refine propext ⟨λh b=>?_,λh b=>⟨a,off,t,rfl,rfl,h b⟩⟩;obtain⟨f,e,i,c,d,g⟩:=h b;injection c with c;injection d with d;subst c;subst d;exact g
@[simp] theorem aat{E:List Nat}{q:Qt}{x:Operand}{v:AV}(h:E.contains 999999=false):Lz E q x v=True:=eq_true λa=>by rw[h] at a;cases a
def z_(T:cW)(E:List Nat)(q:Qt)(fr:Fr)(o:Oper):Prop:=
 match o.op with
 |.store _ x _=>Lz E q x (ev T fr x)|_=>True
def mZ(o:Oper):Option Nat:=
 match o.op with
 |.store _ (.tmp t) _=>some t|_=>none
def wN(o:Oper):Bool:=
 match o.op with
 |.store _ _ _=>true|_=>false
def pV(P:Program)(T:cW)(E:List Nat)(ops:List Oper)(q:Qt)(soft:Bool)(o:Oper)(K:Fr->cd->Prop)(fr:Fr)(H:cd):Prop:=
 if jB E o then(match o.op with
  |.call c=>m0 P T q soft c o.dst K fr H|_=>False)else if wN o then(z_ T E q fr o/\eN P T E ops q soft o K fr H)else eN P T E ops q soft o K fr H
def gd(P:Program)(T:cW)(E:List Nat)(opsA:Array Oper)(q:Qt)(soft:Bool)(o:Oper)(K:Fr->cd->Prop)(fr:Fr)(H:cd):Prop:=
 match fw opsA o fr with
 |some true=>pV P T E opsA.toList q soft o K fr H|some false=>K (fr.put o.dst (.tuple [])) H|none=>False
def HS(P:Program)(T:cW)(E:List Nat)(opsA:Array Oper)(q:Qt)(sf:Nat->Bool):List Nat->(Fr->cd->Prop)->Fr->cd->Prop
 |[],K,fr,H=>K fr H|i::rest,K,fr,H=>match opsA[i]?with
  |some o=>gd P T E opsA q (sf i) o (λfr H=>HS P T E opsA q sf rest K fr H) fr H|none=>False
section
variable{P:Program} {T:cW} {E:List Nat} {opsA:Array Oper} {q:Qt} {soft soft1 soft2:Bool} {o o1 o2:Oper} {K K':Fr->cd->Prop} {fr fr':Fr} {H H':cd}
def yv(h:jB E o=true):∃c d,o.op=.call c/\(c.callee=.builtin .append\/∃f,c.callee=.value f)/\o.dst=some d:=by
 unfold jB at h
 split at h
 ·rename_i c e
  have a:o.dst.any E.contains=true->∃d,o.dst=some d:=by
   intro h;cases a:o.dst with
   |none=>rw[a] at h;simp at h
   |some d=>exact⟨d,rfl⟩
  split at h
  ·rename_i b;obtain⟨d,a⟩:=a h;exact⟨c,d,e,.inl b,a⟩
  ·rename_i f b;obtain⟨d,a⟩:=a h;exact⟨c,d,e,.inr ⟨f,b⟩,a⟩
  ·cases h
 ·cases h
def sg{ops:List Oper}{c:Call}(h:jB E o=true)(a:o.op=.call c):pV P T E ops q soft o K fr H=m0 P T q soft c o.dst K fr H:=by
 unfold pV;rw[bX h,a]
def mP{ops:List Oper}(h:jB E o=false):pV P T E ops q soft o K fr H=(z_ T E q fr o/\eN P T E ops q soft o K fr H):=by
 unfold pV;rw[bV (by simp[h])];cases hs:wN o with
 |true=>rw[bX rfl]|false=>
  rw[bV th]
  have a:z_ T E q fr o:=by
   unfold z_
   split
   ·rename_i b;unfold wN at hs;rw[b] at hs;cases hs
   ·trivial
  exact propext ⟨λh=>⟨a,h⟩,λh=>h.2⟩
def RK{ops:List Oper}(h:dx E ops o=.val\/∃r,dx E ops o=.load r):z_ T E q fr o:=by
 unfold z_
 split
 ·rename_i t x y a;unfold dx at h;rw[a] at h;rcases h with h|⟨r,h⟩<;>cases h
 ·trivial
def wE{f:Fr}(he:∀x∈o.op.operands,ev T fr x=ev T f x)(h:z_ T E q fr o):z_ T E q f o:=by
 unfold z_ Lz at*
 split
 ·rename_i t x y a;rw[a] at h;intro b;obtain⟨c,off,s,d,e,g⟩:=h b;exact⟨c,off,s,by rw[<-he x (by rw[a];simp[Op.operands])];exact d,e,g⟩
 ·trivial
def x_{ops a:List Oper}(h:jB E o=false)(b:dx E a o=.val\/∃r,dx E a o=.load r):pV P T E ops q soft o K fr H=eN P T E ops q soft o K fr H:=by
 rw[mP h];exact propext ⟨λh=>h.2,λh=>⟨RK b,h⟩⟩
def Iy{c:Call}{dst:Option Nat}(b:∀r h,K (fr.put dst r) h->K' (fr.put dst r) h)(h:m4 P T c dst K fr H):m4 P T c dst K' fr H:=by
 unfold m4 at*
 split at h
 ·split at h
  ·obtain⟨d,e,f,g,h⟩:=h;refine⟨d,e,f,g,?_⟩
   split at h
   ·exact⟨h.1,h.2.1,λcap a=>b _ _ (h.2.2 cap a)⟩
   ·exact⟨h.1,λcap a=>b _ _ (h.2 cap a)⟩
   ·refine⟨h.1,h.2.1,?_⟩;have h:=h.2.2
    split at h
    ·exact⟨h.1,h.2.1,λa=>b _ _ (h.2.2.1 a),λcap d e=>b _ _ (h.2.2.2 cap d e)⟩
    ·exact h
   ·exact h
  ·exact h
 ·exact h
def LI{c:Call}{dst:Option Nat}(h:m4 P T c dst K fr H):∃r a,K (fr.put dst r) a:=by
 unfold m4 at h
 split at h
 ·split at h
  ·rename_i e sz tag' m b d;obtain⟨_,_,_,_,h⟩:=h
   split at h
   ·exact⟨_,_,h.2.2 _ (fC _)⟩
   ·exact⟨_,_,h.2 _ (fC _)⟩
   ·rename_i o off len cap hs;obtain⟨_,_,h⟩:=h
    split at h
    ·obtain⟨_,_,f,g⟩:=h
     by_cases i:len+m.length<=cap
     ·exact⟨_,_,f i⟩
     ·exact⟨_,_,g _ cw (fC _)⟩
    ·exact h.elim
   ·exact h.elim
  ·exact h.elim
 ·exact h.elim
def Ja{c:Call}{dst:Option Nat}{d:Nat}{v:AV}(g:∀x∈c.args.toList,ev T (fr.put (some d) v) x=ev T fr x)(j:dst≠some d)(h:m4 P T c dst K (fr.put (some d) v) H):m4 P T c dst (λf h=>K (f.put (some d) v) h) fr H:=by
 unfold m4 at*
 split at h
 ·rename_i k s x t r b o;have l:k≠d:=λe=>j (by rw[e]);have a:∀y:AV,(fr.put (some k) y).put (some d) v=(fr.put (some d) v).put (some k) y:=λy=>kN fr l y v;rw[g s (by rw[b];simp),g x (by rw[b];simp)] at h
  split at h
  ·obtain⟨m,n,p,q,h⟩:=h;refine⟨m,n,p,q,?_⟩
   split at h
   ·refine⟨h.1,h.2.1,λcap i=>?_⟩;simp only[a];exact h.2.2 cap i
   ·refine⟨h.1,λcap i=>?_⟩;simp only[a];exact h.2 cap i
   ·refine⟨h.1,h.2.1,?_⟩;have h:=h.2.2
    split at h
    ·refine⟨h.1,h.2.1,λi=>?_,λcap m n=>?_⟩
     ·simp only[a];exact h.2.2.1 i
     ·simp only[a];exact h.2.2.2 cap m n
    ·exact h
   ·exact h
  ·exact h
 ·exact h
def jo.mono{a:AV}{as:List AV}{Post Post':AV->cd->Prop}(h:jo P T a as H Post)(b:∀r h,Post r h->Post' r h):jo P T a as H Post':=by
 unfold jo at*
 split at h
 ·exact h.mono b
 ·exact h
def vI{c:Call}{dst:Option Nat}(g:∀r h,(R0 c=true->soft=true->QK q H h)->K (fr.put dst r) h->K' (fr.put dst r) h)(h:m0 P T q soft c dst K fr H):m0 P T q soft c dst K' fr H:=by
 unfold m0 at*
 split at h
 ·rename_i f i;obtain⟨Post,j,k,a⟩:=h;exact⟨Post,j,k,λr h b=>⟨(a r h b).1,g r h (λ_=>(a r h b).1) (a r h b).2⟩⟩
 ·rename_i i
  exact Iy (λr h=>g r h λd=>by
   unfold R0 at d
   split at d
   ·rename_i f e;exact(i f e).elim
   ·cases d) h
def PM{c:Call}{dst:Option Nat}(h:m0 P T q soft c dst K fr H):∃r a,(R0 c=true->soft=true->QK q H a)/\K (fr.put dst r) a:=by
 unfold m0 at h
 split at h
 ·obtain⟨Post,k,⟨r,a,e⟩,g⟩:=h;exact⟨r,a,λ_=>(g _ _ e).1,(g _ _ e).2⟩
 ·rename_i i;obtain⟨r,a,j⟩:=LI h;refine⟨r,a,λb=>?_,j⟩;unfold R0 at b
  split at b
  ·rename_i f d;exact(i f d).elim
  ·cases b
def G3{c:Call}{dst:Option Nat}{d:Nat}{v:AV}(b:∀x∈c.operands.toList,ev T (fr.put (some d) v) x=ev T fr x)(i:dst≠some d)(h:m0 P T q soft c dst K (fr.put (some d) v) H):m0 P T q soft c dst (λf h=>K (f.put (some d) v) h) fr H:=by
 have a:∀x∈c.args.toList,ev T (fr.put (some d) v) x=ev T fr x:=λx j=>b x (by
  unfold Call.operands;rw[Array.toList_append]
  exact Tz _ j)
 unfold m0 at*
 split at h
 ·rename_i f n;obtain⟨Post,k,o,l⟩:=h;rw[b f (by unfold Call.operands;rw[n];simp),qg (g:=λx=>(ev T fr x).norm) (λx j=>by rw[a x j])] at k;refine⟨Post,k,o,λr h m=>⟨(l r h m).1,?_⟩⟩;have:=(l r h m).2;cases dst with
  |none=>exact this|some p=>
   show K ((fr.put (some p) r).put (some d) v) h;rw[kN fr (λe=>i (by rw[e]))];exact this
 ·exact Ja a i h
def Fi(a:∀fr H,K fr H->K' fr H)(h:gd P T E opsA q soft o K fr H):gd P T E opsA q soft o K' fr H:=by
 unfold gd at*
 split at h
 ·cases hg:jB E o with
  |true=>
   obtain⟨c,d,b,_,e⟩:=yv hg;rw[sg hg b] at h|-;exact vI (λr h _=>a _ _) h
  |false=>
   rw[mP hg] at h|-;exact⟨h.1,EM a h.2⟩
 ·exact a _ _ h
 ·exact h
def CC(h:pV P T E opsA.toList q soft o K fr H):o_ P T E o K fr H:=by
 cases hg:jB E o with
 |true=>
  obtain⟨c,d,b,a,j⟩:=yv hg;rw[sg hg b] at h;unfold o_;rw[b];rcases a with a|⟨f,a⟩
  ·simp only[a];unfold m0 at h;rw[a] at h;exact .inr (.inr h)
  ·simp only[a];unfold m0 at h;rw[a] at h;obtain⟨Post,e,_,g⟩:=h;exact e.mono λr h i=>(g r h i).2
 |false=>
  rw[mP hg] at h;exact Kr h.2
def Kl(h:gd P T E opsA q soft o K fr H):Ch P T E opsA o K fr H:=by
 unfold gd fw at h;unfold Ch;cases hg:o.guard with
 |none=>rw[hg] at h;exact CC h
 |some p=>
  obtain⟨j,want⟩:=p;rw[hg] at h;simp only at h|-
  cases g:(opsA[j]?).bind (·.dst)with
  |none=>rw[g] at h;exact h
  |some d=>
   rw[g] at h;simp only at h|-
   split
   ·rename_i b a;rw[a] at h;simp only at h
    by_cases hw:b=want
    ·subst hw;rw[bX rfl];simp only[beq_self_eq_true] at h;exact CC h
    ·rw[bV hw]
     have:(b==want)=false:=by simpa using hw
     rw[this] at h;exact h
   ·rename_i l e;rw[e] at h;exact h
   ·rename_i c f
    split at h
    ·rename_i he
     split at he
     ·rename_i b a;exact(c b a).elim
     ·cases he
     ·cases he
    ·rename_i he
     split at he
     ·rename_i b a;exact(c b a).elim
     ·rename_i l e;exact(f l e).elim
     ·cases he
    ·exact h
def AM(h:∀t,t∈o.looksAt opsA->fr'.env t=fr.env t):fw opsA o fr'=fw opsA o fr:=by
 unfold fw;cases hg:o.guard with
 |none=>rfl|some p=>
  obtain⟨j,want⟩:=p;simp only
  cases a:(opsA[j]?).bind (·.dst)with
  |none=>rfl|some d=>
   simp only
   have:d∈o.looksAt opsA:=by
    unfold Oper.looksAt;rw[hg];refine Tz _ ?_
    show d∈((opsA[j]?).bind (·.dst)).toList
    rw[a];simp
   rw[h d this]
def lF{d:Option Nat}{v:AV}(h:∀a,d=some a->a∉o.looksAt opsA):fw opsA o (fr.put d v)=fw opsA o fr:=by
 refine AM λt b=>?_;rw[Fr.r5,bV];rintro rfl;exact h t rfl b
def zm{c:RW}{dst:Option Nat}(b:Left c dst soft q fr H fr' H')(h:∀a,dst=some a->a∉o.looksAt opsA):fw opsA o fr'=fw opsA o fr:=by
 refine AM λt d=>b.env t ?_;rintro rfl;exact h t rfl d
def UA(E:List Nat)(opsA:Array Oper)(s1 s2:Bool)(o1 o2:Oper):Bool:=
 o1.apart opsA o2&&tR (dx E opsA.toList o1) (dx E opsA.toList o2)&&
 (match dx E opsA.toList o1,dx E opsA.toList o2 with
  |.load _,.yy=>s1&&s2|.yy,.load _=>s1&&s2|.load _,.Ie _=>s2|.Ie _,.load _=>s1|_,_=>true)
def OE(o:Oper):Bool:=
 match o.op with
 |.call c=>R0 c|_=>false
def SK(E:List Nat)(opsA:Array Oper)(s1 s2:Bool)(o1 o2:Oper):Bool:=
 match dx E opsA.toList o2 with
 |.val=>true|.load _=>OE o1&&s1&&s2|_=>false
def JE{s1 s2:Bool}(h:SK E opsA s1 s2 o1 o2=true):dx E opsA.toList o2=.val\/(∃r,dx E opsA.toList o2=.load r)/\OE o1=true/\s1=true/\s2=true:=by
 unfold SK at h
 split at h
 ·rename_i a;exact .inl a
 ·rename_i r a;simp only[ed] at h;exact .inr ⟨⟨r,a⟩,h.1.1,h.1.2,h.2⟩
 ·cases h
def SP(E:List Nat)(opsA:Array Oper)(s1 s2:Bool)(o1 o2:Oper):Bool:=
 if jB E o1||jB E o2 then
  o1.apart opsA o2&&(jB E o1&&!jB E o2&&SK E opsA s1 s2 o1 o2||jB E o2&&!jB E o1&&SK E opsA s2 s1 o2 o1)
 else if E.contains 999999&&(mZ o1).isSome&&(mZ o2).isSome&&mZ o1 !=mZ o2&&o1.dst==none&&o2.dst==none then true
 else UA E opsA s1 s2 o1 o2
def RF{f:Fr}{h:cd}(a:dx E opsA.toList o=.val)(he:∀x∈o.op.operands,ev T fr x=ev T f x):kF P T E opsA.toList q soft fr H o=kF P T E opsA.toList q soft f h o:=by
 refine vK he (λt x b=>?_) λt x i ok b=>?_
 ·unfold dx at a;rw[b] at a;cases a
 ·unfold dx at a;rw[b] at a;cases a
def EL{d:Option Nat}{v:AV}(b:∀a,d=some a->a∉o.looksAt opsA):∀x∈o.op.operands,ev T fr x=ev T (fr.put d v) x:=by
 intro x c;refine D9 λt e=>?_;rw[Fr.r5,bV];rintro rfl;exact b t rfl (Kc c e)
def Hd{d1 d2:Option Nat}(h:∀d,d1=some d->d2≠some d)(x y:AV):(fr.put d1 x).put d2 y=(fr.put d2 y).put d1 x:=by
 cases d1 with
 |none=>rfl|some a=>
  cases d2 with
  |none=>rfl|some b=>exact kN fr (λe=>h a rfl (by rw[e])) x y
def nB(h:gd P T E opsA q soft o K fr H):fw opsA o fr=some true/\pV P T E opsA.toList q soft o K fr H\/fw opsA o fr=some false/\K (fr.put o.dst (.tuple [])) H:=by
 unfold gd at h
 split at h
 ·rename_i hg;exact .inl ⟨hg,h⟩
 ·rename_i hg;exact .inr ⟨hg,h⟩
 ·exact h.elim
def ub(hg:fw opsA o fr=some true)(h:pV P T E opsA.toList q soft o K fr H):gd P T E opsA q soft o K fr H:=by
 unfold gd;rw[hg];exact h
def t_(hg:fw opsA o fr=some false)(h:K (fr.put o.dst (.tuple [])) H):gd P T E opsA q soft o K fr H:=by
 unfold gd;rw[hg];exact h
def I3{c:Call}(a:o.op=.call c){x:Operand}(b:x∈c.operands.toList):x∈o.op.operands:=by
 rw[a];exact uS.1 b
def Uv{c:Call}(a:dx E opsA.toList o2=.val\/(∃r,dx E opsA.toList o2=.load r)/\OE o1=true/\soft1=true/\soft2=true)(j:o1.op=.call c)(i:∀d,o1.dst=some d->d∉o2.looksAt opsA){r:AV}{e:cd}
  (k:R0 c=true->soft1=true->QK q H e) {v:AV} (l:kF P T E opsA.toList q soft2 fr H o2=some v\/kF P T E opsA.toList q soft2 (fr.put o1.dst r) e o2=some v):kF P T E opsA.toList q soft2 fr H o2=kF P T E opsA.toList q soft2 (fr.put o1.dst r) e o2:=by
 rcases a with a|⟨⟨rr,a⟩,f,m,n⟩
 ·exact RF a (EL i)
 ·have g:R0 c=true:=by unfold OE at f;rw[j] at f;exact f
  have p:Left .yy o1.dst true q fr H (fr.put o1.dst r) e:=⟨λt s=>by rw[Fr.r5,bV s],λb _ _=>⟨by cases o1.dst<;>rfl,by cases o1.dst<;>rfl⟩,λh=>(h rfl).elim,λ_=>k g m⟩;refine Bh (o:=o2) (opsA:=opsA) p i (by rw[a];rfl) (λ_ _=>⟨λ_=>⟨n,rfl⟩,λ_ h=>by cases h⟩) l
def Jl(s:o1.apart opsA o2=true)(w:dx E opsA.toList o1=.val\/(∃r,dx E opsA.toList o1=.load r)/\OE o2=true/\soft2=true/\soft1=true)(n:jB E o1=false)(i:jB E o2=true)(h:gd P T E opsA q soft1 o1 (λfr H=>gd P T E opsA q soft2 o2 K fr H) fr H):gd P T E opsA q soft2 o2 (λfr H=>gd P T E opsA q soft1 o1 K fr H) fr H:=by
 obtain⟨a1,a2,a3⟩:=Oper.apart_spec s;obtain⟨c,d2,p,_,A⟩:=yv i;have j:dx E opsA.toList o1=.val\/∃r,dx E opsA.toList o1=.load r:=w.imp id λh=>h.1
 have key:∃v,(∀r h,(R0 c=true->soft2=true->QK q H h)->K ((fr.put o2.dst r).put o1.dst v) h->gd P T E opsA q soft1 o1 K (fr.put o2.dst r) h)/\gd P T E opsA q soft2 o2 K (fr.put o1.dst v) H:=by
  rcases nB h with⟨k,m⟩|⟨k,m⟩
  ·rw[x_ n j] at m;obtain⟨f1,H1,t,b⟩:=qG m;obtain⟨v,y,B,C⟩:=vg j t;rw[B,C] at b;refine⟨v,λr z u l=>ub (by rw[lF a3,k]) ?_,b⟩;rw[x_ n j];exact s9 (yu (by rw[<-Uv w p a3 u (.inl y)];exact y)) l
  ·exact⟨_,λr z _ l=>t_ (by rw[lF a3,k]) l,m⟩
 obtain⟨v,back,m⟩:=key;rcases nB m with⟨a,b⟩|⟨a,b⟩
 ·rw[lF a1] at a;rw[sg i p] at b;refine ub a ?_;rw[sg i p]
  have D:m0 P T q soft2 c o2.dst (λf h=>K (f.put o1.dst v) h) fr H:=by
   cases g:o1.dst with
   |none=>rw[g] at b;exact b
   |some d=>rw[g] at b;exact G3 (λx F=>(EL (o:=o2) (opsA:=opsA) (d:=some d) (λG e=>by cases e;exact a1 d g) x (I3 p F)).symm) (a2 d g) b
  exact vI (λr z u l=>back _ _ u l) D
 ·rw[lF a1] at a
  have l:K ((fr.put o2.dst (.tuple [])).put o1.dst v) H:=by
   rw[<-Hd a2];exact b
  exact t_ a (back _ _ (λ_ _=>QK.refl) l)
def Kb(z:o1.apart opsA o2=true)(G:dx E opsA.toList o2=.val\/(∃r,dx E opsA.toList o2=.load r)/\OE o1=true/\soft1=true/\soft2=true)(l:jB E o1=true)(t:jB E o2=false)(h:gd P T E opsA q soft1 o1 (λfr H=>gd P T E opsA q soft2 o2 K fr H) fr H):gd P T E opsA q soft2 o2 (λfr H=>gd P T E opsA q soft1 o1 K fr H) fr H:=by
 obtain⟨a1,a2,a3⟩:=Oper.apart_spec z;obtain⟨c,d1,y,_,I⟩:=yv l;have m:dx E opsA.toList o2=.val\/∃r,dx E opsA.toList o2=.load r:=G.imp id λh=>h.1
 have inv:∀{r:AV} {s:cd} {n:Fr->cd->Prop},(R0 c=true->soft1=true->QK q H s)->gd P T E opsA q soft2 o2 n (fr.put o1.dst r) s->∃v,(fw opsA o2 fr=some true/\kF P T E opsA.toList q soft2 fr H o2=some v\/fw opsA o2 fr=some false/\v=.tuple [])/\n ((fr.put o1.dst r).put o2.dst v) s:=by
  intro r s n A J;rcases nB J with⟨a,b⟩|⟨a,b⟩
  ·rw[x_ t m] at b;obtain⟨f1,H1,B,g⟩:=qG b;obtain⟨v,i,C,L⟩:=vg m B;rw[C,L] at g;exact⟨v,.inl ⟨by rw[<-lF (o:=o2) a1];exact a,by rw[Uv G y a1 A (.inr i)];exact i⟩,g⟩
  ·exact⟨_,.inr ⟨by rw[<-lF (o:=o2) a1];exact a,rfl⟩,b⟩
 have fwd:∀{v:AV} {n:Fr->cd->Prop},(fw opsA o2 fr=some true/\kF P T E opsA.toList q soft2 fr H o2=some v\/fw opsA o2 fr=some false/\v=.tuple [])->n (fr.put o2.dst v) H->gd P T E opsA q soft2 o2 n fr H:=by
  intro v n i j;rcases i with⟨a,i⟩|⟨a,rfl⟩
  ·refine ub a ?_;rw[x_ t m];exact s9 (yu i) j
  ·exact t_ a j
 have uniq:∀{v w:AV},(fw opsA o2 fr=some true/\kF P T E opsA.toList q soft2 fr H o2=some v\/fw opsA o2 fr=some false/\v=.tuple [])->(fw opsA o2 fr=some true/\kF P T E opsA.toList q soft2 fr H o2=some w\/fw opsA o2 fr=some false/\w=.tuple [])->v=w:=by
  intro v w b g;rcases b with⟨g1,b⟩|⟨g1,rfl⟩<;>rcases g with⟨g2,g⟩|⟨g2,rfl⟩
  ·rw[b] at g;exact gv g
  ·rw[g1] at g2;cases g2
  ·rw[g1] at g2;cases g2
  ·rfl
 rcases nB h with⟨p,b⟩|⟨p,b⟩
 ·rw[sg l y] at b;obtain⟨Q,R,D,F⟩:=PM b;obtain⟨v,i,_⟩:=inv D F;refine fwd i (ub (by rw[lF a3,p]) ?_);rw[sg l y]
  have g:m0 P T q soft1 c o1.dst (λf h=>K (f.put o2.dst v) h) fr H:=vI (λr s A j=>by
   obtain⟨w,hw,j⟩:=inv A j;rw[uniq i hw]
   exact j) b
  cases k:o2.dst with
  |none=>rw[k] at g;exact g
  |some d=>
   rw[k] at g;have u:o1.dst≠some d:=λe=>a2 d e k
   have M:m0 P T q soft1 c o1.dst (λf h=>K (f.put (some d) v) h) ((fr.put (some d) v).put (some d) (fr.env d)) H:=by
    rw[Dq,zQ];exact g
   have N:=G3 (λx O=>(by
    have:=EL (o:=o1) (opsA:=opsA) (T:=T) (fr:=fr.put (some d) v) (d:=some d) (v:=fr.env d) (λS e=>by cases e;exact a3 d k) x (I3 y O)
    exact this.symm)) u M
   refine vI (λr s _ j=>?_) N
   have C:(((fr.put (some d) v).put o1.dst r).put (some d) (fr.env d)).put (some d) v=(fr.put (some d) v).put o1.dst r:=by
    rw[Dq];have hs:=zQ ((fr.put (some d) v).put o1.dst r) d
    have he:((fr.put (some d) v).put o1.dst r).env d=v:=by
     rw[Fr.r5,bV u,Fr.r5,bX rfl]
    rw[he] at hs;exact hs
   rw[C] at j;exact j
 ·obtain⟨v,i,j⟩:=inv (λ_ _=>QK.refl) b;refine fwd i (t_ (by rw[lF a3,p]) ?_);rw[<-Hd a2];exact j
def YQ{t:TypeId}{a off:Nat}{v:AV}:j0 P t (.de a off) v K fr H↔∃agg n cs,dL P t=some (agg,n)/\H[a]?=some cs/\(lT cs=true/\v.cells.length=n/\off+n<=cs.length/\dj v=true)/\K fr (H.set a (setCells cs off v.norm.cells)):=by
 unfold j0;constructor
 ·intro h
  split at h
  ·exact h.elim
  ·rename_i agg n b;simp only at h
   split at h
   ·rename_i cs c;exact⟨agg,n,cs,b,c,⟨h.1,h.2.1,h.2.2.1,h.2.2.2.1⟩,h.2.2.2.2⟩
   ·exact h.elim
 ·rintro⟨agg,n,cs,b,c,h,d⟩;rw[b];simp only[c];exact⟨h.1,h.2.1,h.2.2.1,h.2.2.2,d⟩
def Cm{s:Nat}(h:mZ o=some s):∃t y,o.op=.store t (.tmp s) y:=by
 unfold mZ at h
 split at h
 ·rename_i t b y a;cases h;exact⟨t,y,a⟩
 ·cases h
def R8{s:Nat}(h:mZ o=some s):jB E o=false:=by
 obtain⟨t,y,a⟩:=Cm h;unfold jB;rw[a]
def qE{ops:List Oper}{s:Nat}(j:E.contains 999999=true)(hs:mZ o=some s):pV P T E ops q soft o K fr H↔
  ∃t y a off agg n cs,o.op=.store t (.tmp s) y/\o.dst=none/\ev T fr (.tmp s)=.de a off/\q.cl a=s/\oP ops (.tmp s) (.de a off)=true/\soft=false/\dL P t=some (agg,n)/\H[a]?=some cs/\(lT cs=true/\(ev T fr y).cells.length=n/\off+n<=cs.length/\dj (ev T fr y)=true)/\K fr (H.set a (setCells cs off (ev T fr y).norm.cells)):=by
 obtain⟨t,y,k⟩:=Cm hs;rw[mP (R8 hs)];unfold z_ Lz eN;rw[k];simp only;constructor
 ·rintro⟨l,f,d,e,i⟩;obtain⟨a,off,u,c,g,h⟩:=l j;injection g with g;subst g;rw[c] at d e i;obtain⟨agg,n,cs,g1,g2,g3,g4⟩:=YQ.1 i;refine⟨t,y,a,off,agg,n,cs,rfl,f,c,h,d,?_,g1,g2,g3,g4⟩;cases b:soft with
  |false=>rfl|true=>have:=e b;simp[Zl] at this
 ·rintro⟨v,w,a,off,agg,n,cs,m,f,c,h,d,e,g1,g2,g3,g4⟩;injection m with p x r;subst p;subst r;refine⟨λ_=>⟨a,off,s,c,rfl,h⟩,f,by rw[c];exact d,λb=>?_,?_⟩
  ·rw[e] at b;cases b
  ·rw[c];exact YQ.2 ⟨agg,n,cs,g1,g2,g3,g4⟩
def Jj{s1 s2:Nat}(j:E.contains 999999=true)(k:mZ o1=some s1)(g:mZ o2=some s2)(p:s1≠s2)(h:gd P T E opsA q soft1 o1 (λfr H=>gd P T E opsA q soft2 o2 K fr H) fr H)(r:o1.dst=none)(s:o2.dst=none):gd P T E opsA q soft2 o2 (λfr H=>gd P T E opsA q soft1 o1 K fr H) fr H:=by
 have u:∀v,fr.put o1.dst v=fr:=λv=>by rw[r];rfl
 have B:∀v,fr.put o2.dst v=fr:=λv=>by rw[s];rfl
 rcases nB h with⟨c,o⟩|⟨c,o⟩
 ·obtain⟨t,y,w,off,agg,n,cs,C,D,F,x,G,I,J,L,M,o⟩:=(qE j k).1 o;rcases nB o with⟨a,b⟩|⟨a,b⟩
  ·obtain⟨z,A,i,d,f,n',l,f0,f1,f2,f3,f4,f5,f6,f7,f8,b⟩:=(qE j g).1 b
   have m:w≠i:=by rintro rfl;exact p (x.symm.trans f3)
   rw[w4 m] at f7;refine ub a ((qE j g).2 ⟨z,A,i,d,f,n',l,f0,f1,f2,f3,f4,f5,f6,f7,f8,?_⟩);refine ub c ((qE j k).2 ⟨t,y,w,off,agg,n,cs,C,D,F,x,G,I,J,?_,M,?_⟩)
   ·rw[w4 (λe=>m e.symm)];exact L
   ·rw[List.set_comm _ _ (λe=>m e.symm)];exact b
  ·refine t_ a ?_;rw[B] at b|-;exact ub c ((qE j k).2 ⟨t,y,w,off,agg,n,cs,C,D,F,x,G,I,J,L,M,b⟩)
 ·rw[u] at o;rcases nB o with⟨a,b⟩|⟨a,b⟩
  ·obtain⟨z,A,i,d,f,n',l,f0,f1,f2,f3,f4,f5,f6,f7,f8,b⟩:=(qE j g).1 b;exact ub a ((qE j g).2 ⟨z,A,i,d,f,n',l,f0,f1,f2,f3,f4,f5,f6,f7,f8,t_ c (by rw[u];exact b)⟩)
  ·refine t_ a ?_;show gd P T E opsA q soft1 o1 K (fr.put o2.dst (.tuple [])) H;rw[B] at b|-;exact t_ c (by rw[u];exact b)
def L5(b:SP E opsA soft1 soft2 o1 o2=true)(h:gd P T E opsA q soft1 o1 (λfr H=>gd P T E opsA q soft2 o2 K fr H) fr H):gd P T E opsA q soft2 o2 (λfr H=>gd P T E opsA q soft1 o1 K fr H) fr H:=by
 unfold SP at b
 by_cases hG:(jB E o1||jB E o2)=true
 ·rw[bX hG] at b;simp only[ed,pE,Tq] at b;obtain⟨g,⟨⟨g1,g2⟩,g3⟩|⟨⟨g1,g2⟩,g3⟩⟩:=b
  ·exact Kb g (JE g3) g1 g2 h
  ·exact Jl g (JE g3) g2 g1 h
 rw[bV hG] at b
 by_cases F:(E.contains 999999&&(mZ o1).isSome&&(mZ o2).isSome&&mZ o1 !=mZ o2&&o1.dst==none&&o2.dst==none)=true
 ·simp only[ed,Option.isSome_iff_exists,bne_iff_ne,ne_eq,Ss] at F;obtain⟨⟨⟨⟨⟨O,s1,m⟩,s2,n⟩,G⟩,t⟩,u⟩:=F;exact Jj O m n (by rintro rfl;exact G (by rw[m,n])) h t u
 rw[bV F] at b
 have v:jB E o1=false:=by cases Q:jB E o1<;>simp_all
 have w:jB E o2=false:=by cases Q:jB E o2<;>simp_all
 unfold UA at b;simp only[ed] at b;obtain⟨⟨g,z⟩,a⟩:=b;obtain⟨a1,a2,a3⟩:=Oper.apart_spec g
 have m:∀r,dx E opsA.toList o1=.load r->(dx E opsA.toList o2=.yy->soft1=true/\soft2=true)/\(∀A,dx E opsA.toList o2=.Ie A->soft2=true):=by
  intro r I;rw[I] at a;refine⟨λhe=>?_,λA he=>?_⟩<;>rw[he] at a
  ·simpa using a
  ·exact a
 have n:∀r,dx E opsA.toList o2=.load r->(dx E opsA.toList o1=.yy->soft2=true/\soft1=true)/\(∀A,dx E opsA.toList o1=.Ie A->soft1=true):=by
  intro r I;rw[I] at a;refine⟨λhe=>?_,λA he=>?_⟩<;>rw[he] at a
  ·have:soft1=true/\soft2=true:=by simpa using a
   exact⟨this.2,this.1⟩
  ·exact a
 unfold gd at h;simp only[mP v,mP w] at h
 split at h
 ·--J first one is carried out
  rename_i i;obtain⟨s,h⟩:=h;obtain⟨f1,H1,o,h⟩:=qG h;have B:=oh o;have y:fw opsA o2 f1=fw opsA o2 fr:=zm B a1;rw[y] at h;unfold gd;simp only[mP v,mP w]
  split at h
  ·rename_i j;obtain⟨k,h⟩:=h;obtain⟨f2,H2,c,L⟩:=qG h;obtain⟨f,R,l,C⟩:=OK g z m n o c;refine⟨wE (λx b=>(Av (T:=T) (opsA:=opsA) B a1 x b).symm) k,s9 l ?_⟩;have:fw opsA o1 f=fw opsA o1 fr:=zm (oh l) a3;rw[this,i];exact⟨wE (Av (T:=T) (opsA:=opsA) (oh l) a3) s,s9 C L⟩
  ·rename_i j
   show match fw opsA o1 (fr.put o2.dst (.tuple []))with
    |some true=>z_ T E q (fr.put o2.dst (.tuple [])) o1/\eN P T E opsA.toList q soft1 o1 K (fr.put o2.dst (.tuple [])) H|some false=>K ((fr.put o2.dst (.tuple [])).put o1.dst (.tuple [])) H|none=>False
   rw[lF a3,i];simp only;refine⟨wE (EL a3) s,?_⟩;cases p:o2.dst with
   |none=>rw[p] at h;exact s9 o h
   |some d=>rw[p] at h;exact s9 (J0 (opsA:=opsA) _ (a3 d p) (λe=>a2 d e p) o) h
  ·exact h.elim
 ·--J first one is left out
  rename_i i;have y:fw opsA o2 (fr.put o1.dst (.tuple []))=fw opsA o2 fr:=lF a1;rw[y] at h;unfold gd;simp only[mP v,mP w]
  split at h
  ·rename_i j;obtain⟨k,h⟩:=h;obtain⟨f2,H2,c,L⟩:=qG h
   have M:∃f,lW P T E opsA.toList q soft2 o2 fr H f H2/\f.put o1.dst (.tuple [])=f2:=by
    cases p:o1.dst with
    |none=>rw[p] at c;exact⟨f2,c,rfl⟩
    |some d=>rw[p] at c;exact DR (opsA:=opsA) (a1 d p) (a2 d p) c
   obtain⟨f,D,N⟩:=M;refine⟨wE (λx b=>(EL a1 x b).symm) k,s9 D ?_⟩;have:fw opsA o1 f=fw opsA o1 fr:=zm (oh D) a3;rw[this,i];show K (f.put o1.dst (.tuple [])) H2;rw[N];exact L
  ·rename_i j
   show match fw opsA o1 (fr.put o2.dst (.tuple []))with
    |some true=>z_ T E q (fr.put o2.dst (.tuple [])) o1/\eN P T E opsA.toList q soft1 o1 K (fr.put o2.dst (.tuple [])) H|some false=>K ((fr.put o2.dst (.tuple [])).put o1.dst (.tuple [])) H|none=>False
   rw[lF a3,i];simp only
   have:(fr.put o2.dst (.tuple [])).put o1.dst (.tuple [])=(fr.put o1.dst (.tuple [])).put o2.dst (.tuple []):=by
    cases t:o1.dst with
    |none=>rfl|some d1=>
     cases u:o2.dst with
     |none=>rfl|some d2=>exact kN fr (λe=>a2 d1 t (by rw[u,e])) _ _
   rw[this];exact h
  ·exact h.elim
 ·exact h.elim
def MA{sf:Nat->Bool}{i:Nat}(hi:opsA[i]?=some o)(post:List Nat):∀(pre:List Nat) (fr:Fr) (H:cd),(∀j∈pre,∀a,opsA[j]?=some a->SP E opsA (sf j) (sf i) a o=true)->HS P T E opsA q sf (pre++i::post) K fr H->gd P T E opsA q (sf i) o (λfr H=>HS P T E opsA q sf (pre++post) K fr H) fr H:=by
 intro pre
 induction pre with
 |nil=>
  intro fr H _ h;simp only[mw,HS,hi] at h;exact h
 |cons j pre b=>
  intro fr H hex h;simp only[W4,HS] at h|-
  split at h
  ·rename_i a c;have d:=Fi (λfr H h=>b fr H (λk e=>hex k VW) h) h;have f:=L5 (hex j th a c) d;exact f
  ·exact h.elim
end
def u7(opsA:Array Oper):Bool:=opsA.toList.zipIdx.all λ(o,i)=>o.after.all λe=>!Region.binds .any e||decide (e.on<i)
def IN(opsA:Array Oper)(M:Array Nat):Bool:=
 (List.range opsA.size).all λi=>(List.range opsA.size).all λj=>!(M.getD i 0).testBit j||
  (opsA.getD i default).after.toList.any λe=>Region.binds .any e&&(e.on==j||(M.getD e.on 0).testBit j)
def xE(E:List Nat)(opsA:Array Oper)(sf:Nat->Bool):Bool:=
 let M:=Region.before opsA
 u7 opsA&&IN opsA M&&
 (List.range opsA.size).all λi=>(List.range i).all λj=>(M.getD i 0).testBit j||SP E opsA (sf j) (sf i) (opsA.getD j default) (opsA.getD i default)
section
variable{P:Program} {T:cW} {E:List Nat} {opsA:Array Oper} {q:Qt} {sf:Nat->Bool} {K:Fr->cd->Prop}
def sQ(opsA:Array Oper)(listed:Array Bool):List Nat:=(List.range opsA.size).filter λi=>!listed.getD i true
def MP{listed:Array Bool}{i:Nat}:i∈sQ opsA listed↔i<opsA.size/\listed.getD i true=false:=by
 simp[sQ]
def P1(M:Array Nat)(opsA:Array Oper)(listed:Array Bool):Prop:=∀i j,i<opsA.size->j<opsA.size->listed.getD i false=true->(M.getD i 0).testBit j=true->listed.getD j false=true
def y5{listed:Array Bool}{i:Nat}(d:Bool)(h:i<listed.size):(listed.setIfInBounds i true).getD i d=true:=by
 simp[h]
def Hz{opsA:Array Oper}(a:u7 opsA=true){listed:Array Bool}(f:listed.size=opsA.size){i:Nat}(hi:i<opsA.size)(d:listed.getD i true=false)
  (b:∀j,j<i->listed.getD j false=true):i∈Region.ready .any opsA listed:=by
 rw[mem_ready];refine⟨d,opsA[i],Qu hi,λe he g=>?_⟩;refine b _ ?_;unfold u7 at a;rw[ie] at a
 have c:(opsA[i],i)∈opsA.toList.zipIdx:=by
  rw[YY];simp[hi]
 have:=a _ c;simp only[F1] at this;have:=this e he;rw[g] at this;simpa using this
def B8{opsA:Array Oper}{M:Array Nat}(f:IN opsA M=true)(a:u7 opsA=true){listed:Array Bool}(g:P1 M opsA listed){i:Nat}(p:i∈Region.ready .any opsA listed){j:Nat}(m:j<opsA.size)
  (q:(M.getD i 0).testBit j=true):listed.getD j false=true:=by
 obtain⟨r,o,h,b⟩:=mem_ready.1 p;have hi:i<opsA.size:=(Ok.1 h).1;unfold IN at f;rw[ie] at f;have:=f i (by simpa using hi);rw[ie] at this;have:=this j (by simpa using m);rw[q] at this;simp only[S4,PK,List.any_eq_true,uS,ed,pE,Ss] at this;obtain⟨e,he,c,hor⟩:=this
 have k:opsA.getD i default=o:=by rw[H7,h];rfl
 rw[k] at he;have n:=b e he c;rcases hor with rfl|hor
 ·exact n
 ·have l:e.on<opsA.size:=by
   unfold u7 at a;rw[ie] at a
   have d:(o,i)∈opsA.toList.zipIdx:=by
    rw[YY];simpa using h
   have:=a _ d;simp only[F1] at this;have:=this e he;rw[c] at this
   have:e.on<i:=by simpa using this
   omega
  exact g e.on j l m n hor
def NO{listed:Array Bool}(d:listed.size=opsA.size){i:Nat}(hi:i<opsA.size)(b:listed.getD i true=false):∃pre post,sQ opsA listed=pre++i::post/\sQ opsA (listed.setIfInBounds i true)=pre++post/\∀j∈pre,j<i/\listed.getD j true=false:=by
 have c:List.range opsA.size=List.range i++i::(List.range' (i+1) (opsA.size-i-1)):=by
  rw[Tf,Tf]
  have:opsA.size=i+(1+(opsA.size-i-1)):=cw
  conv=>lhs;rw[this]
  rw[<-List.range'_append_1]
  congr 1
  rw[show 1+(opsA.size-i-1)=(opsA.size-i-1)+1 by omega,WS];simp
 refine⟨(List.range i).filter (λj=>!listed.getD j true),(List.range' (i+1) (opsA.size-i-1)).filter (λj=>!listed.getD j true),?_,?_,?_⟩
 ·unfold sQ;rw[c,YH,List.filter_cons_of_pos (by simp[b])]
 ·unfold sQ;rw[c,YH,List.filter_cons_of_neg (by rw[y5 _ cw];simp)]
  congr 1
  ·refine Zd λj a=>?_
   have:j<i:=by simpa using a
   rw[getD_set_ne true cw]
  ·refine Zd λj a=>?_;have:=(List.mem_range'_1.1 a).1;rw[getD_set_ne true cw]
 ·intro j a;rw[TC] at a;exact⟨by simpa using a.1,by simpa using a.2⟩
variable{n:Nat} {G0:Nat->Nat} {F0:jf} {n0:Nat} {w0:World}
def wQ{listed:Array Bool}{i:Nat}(hi:i<listed.size):listed.getD i false=listed.getD i true:=by
 simp[hi]
def Qr{Q:Exit->Act->World->Prop}(p:xE E opsA sf=true)(x:xr n opsA=true)(S:∀fr' H' F w',K fr' H'->SR T n G0 F0 n0 w0 fr' H' F w'->Q .normal F w'):∀(fuel:Nat) (listed:Array Bool) (fr:Fr) (H:cd) (a:Act) (w:World),listed.size=opsA.size->P1 (Region.before opsA) opsA listed->(sQ opsA listed).length<=fuel->SR T n G0 F0 n0 w0 fr H a w->HS P T E opsA q sf (sQ opsA listed) K fr H->wpAny P .any opsA Q fuel listed a w:=by
 unfold xE at p;simp only[ed] at p;obtain⟨⟨c,U⟩,d⟩:=p
 have r:∀{listed:Array Bool},listed.size=opsA.size->Region.ready .any opsA listed=[]->sQ opsA listed=[]:=by
  intro listed f y;cases b:sQ opsA listed with
  |nil=>rfl|cons i rest=>
   exfalso
   have m:i∈sQ opsA listed:=by rw[b];simp
   have hex:∃k,k<opsA.size/\listed.getD k true=false:=⟨i,MP.1 m⟩
   obtain⟨k,⟨G,I⟩,z⟩:∃k,(k<opsA.size/\listed.getD k true=false)/\∀j,j<k->¬(j<opsA.size/\listed.getD j true=false):=by
    clear b m;obtain⟨k,hk⟩:=hex
    induction k using Nat.strongRecOn with
    |_ k J=>
     by_cases h:∃j,j<k/\(j<opsA.size/\listed.getD j true=false)
     ·obtain⟨j,s,t⟩:=h;exact J j s t
     ·exact⟨k,hk,λj A hc=>h ⟨j,A,hc⟩⟩
   have:=Hz c f G I λj A=>by
    have hn:=z j A
    have L:j<opsA.size:=cw
    rw[wQ cw];cases hb:listed.getD j true with
    |true=>rfl|false=>exact absurd ⟨L,hb⟩ hn
   rw[y] at this;cases this
 intro fuel
 induction fuel with
 |zero=>
  intro listed fr H a w f g hlen hs h;have b:sQ opsA listed=[]:=yD cw;rw[b] at h;refine⟨?_,S _ _ _ _ h hs⟩;cases y:Region.ready .any opsA listed with
  |nil=>rfl|cons i rest=>
   have hm:i∈Region.ready .any opsA listed:=by rw[y];simp
   obtain⟨u,o,v,_⟩:=mem_ready.1 hm;have:i∈sQ opsA listed:=MP.2 ⟨(Ok.1 v).1,u⟩;rw[b] at this;cases this
 |succ fuel J=>
  intro listed fr H a w f g hlen hs h;refine⟨λy=>?_,λi hi=>?_⟩
  ·rw[r f y] at h;exact S _ _ _ _ h hs
  ·obtain⟨u,o,v,V⟩:=mem_ready.1 hi;have B:i<opsA.size:=(Ok.1 v).1;obtain⟨pre,post,W,X,h3⟩:=NO f B u;rw[W] at h
   have l:=MA (P:=P) (T:=T) (E:=E) (opsA:=opsA) (q:=q) (K:=K) (sf:=sf) v post pre fr H (by
    intro j A oj M;obtain⟨s,t⟩:=h3 j A;rw[ie] at d;have:=d i (by simpa using B);rw[ie] at this;have:=this j (by simpa using s);simp only[pE] at this
    have e1:opsA.getD j default=oj:=by rw[H7,M];rfl
    have e2:opsA.getD i default=o:=by rw[H7,v];rfl
    rw[e1,e2] at this;rcases this with hb|hb
    ·have:=B8 U c g hi cw hb;rw[wQ cw,t] at this;cases this
    ·exact hb) h
   have N:p6 n o=true:=F1.1 x o (QI v);refine B6 v N hs (Kl l) ?_;intro fr' H' F w' hK O;refine J (listed.setIfInBounds i true) fr' H' F w' (by simpa using f) ?_ ?_ O (by rw[X];exact hK)
   ·--still closed
    intro Y Z R C hl hb
    by_cases he:Z=i
    ·subst he;exact y5 _ cw
    ·rw[getD_set_ne false (λe=>he e.symm)]
     by_cases D:Y=i
     ·subst D;exact B8 U c g hi C hb
     ·rw[getD_set_ne false (λe=>D e.symm)] at hl;exact g Y Z R C hl hb
   ·rw[W] at hlen;rw[X];simp only[nd,jK] at hlen|-;omega
end
section
variable{P:Program} {T:cW} {n:Nat} {Q:Exit->Fr->cd->Prop} {fr:Fr} {H:cd}
def SR.drew{G0:Nat->Nat}{F0:jf}{n0:Nat}{w0:World}{a:Act}{w:World}(hs:SR T n G0 F0 n0 w0 fr H a w):SR T n G0 F0 n0 w0 fr H a w.drew:=by
 obtain⟨ρ,F,R,hw,b⟩:=hs;exact⟨ρ,F,R,hw.drew,b.drew⟩
def fb.QB{id:Nat}{ops:Array Oper}(E:List Nat)(q:Qt)(sf:Nat->Bool)(hm:P.follows .mixedOrders=true)(c:xr n ops=true)(d:xE E ops sf=true)
  (h:HS P T E ops q sf (List.range ops.size) (Q .normal) fr H):fb P T n (.region id ops true) Q fr H:=by
 intro G0 F0 n0 w0 a w hs;refine wp_region_any hm ?_
 have b:sQ ops (Array.replicate ops.size false)=List.range ops.size:=by
  unfold sQ;rw[Ze];intro i hi
  have:i<ops.size:=by simpa using hi
  simp[this]
 have:=Qr (Q:=λe f w'=>∃fr' H',Q e fr' H'/\SR T n G0 F0 n0 w0 fr' H' f w') d c (λfr' H' f w' g k=>⟨fr',H',g,k⟩) ops.size (Array.replicate ops.size false) fr H a w.drew th
  (by intro i j hi m l;simp[hi] at l) (by rw[b];simp) hs.drew (by rw[b];exact h)
 exact this
end
end Go.jX
namespace Go.jX
open Go
section
variable{P:Program} {T:cW} {n:Nat} {Q:Exit->Fr->cd->Prop} {fr:Fr} {H:cd}
def fb.zJ{x y:Code}(h:∀K:Fr->cd->Prop,(∀fr H,fb P T n y Q fr H->K fr H)->fb P T n x (AH K Q) fr H):fb P T n (.seq x y) Q fr H:=
 fb.seq (h _ λ_ _ h=>h)
def fb.BQ{id:Nat}{c:Code}(h:∀Q':Exit->Fr->cd->Prop,(∀fr H,Q .normal fr H->Q' .normal fr H)->(∀fr H,Q .normal fr H->Q' (.exit id) fr H)->(∀a fr H,a≠id->Q (.exit a) fr H->Q' (.exit a) fr H)->(∀fr H,Q .ret fr H->Q' .ret fr H)->fb P T n c Q' fr H):fb P T n (.block id c) Q fr H:=by
 refine fb.block (h (E2 id Q) (λ_ _ h=>h) (λ_ _ h=>?_) (λa _ _ b h=>?_) (λ_ _ h=>h))
 ·simp only[E2,if_true];exact h
 ·simp only[E2,bV b];exact h
end
@[simp] theorem Ta(K:Fr->cd->Prop)(Q:Exit->Fr->cd->Prop):AH K Q .normal=K:=rfl
@[simp] theorem UO(K:Fr->cd->Prop)(Q:Exit->Fr->cd->Prop)(id:Nat):AH K Q (.exit id)=Q (.exit id):=rfl
@[simp] theorem Xt(K:Fr->cd->Prop)(Q:Exit->Fr->cd->Prop):AH K Q .ret=Q .ret:=rfl
end Go.jX
