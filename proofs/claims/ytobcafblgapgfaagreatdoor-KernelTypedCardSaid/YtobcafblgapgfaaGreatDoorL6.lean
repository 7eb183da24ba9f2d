/- Part of the proof of KernelTyped: layer. -/
import Derived.Test.YtobcafblgapgfaaGreatDoorL5
set_option linter.all false
namespace Go.m7
open Go
theorem vr{α:Type}(f:Nat->α){i j:Nat}(h:i≠j)(x y:α):hS (hS f i x) j y=hS (hS f j y) i x:=by grind[hS]
def l6(fr:Fr)(d:Nat)(cs:List AV):Fr:=
 {fr with env:=hS fr.env d (.eC d (fr.gen d+1) 0),box:=hS fr.box d (some cs),gen:=hS fr.gen d (fr.gen d+1)}
def wX(P:Program)(T:fa)(fr:Fr)(o:Oper):Option (List AV):=
 match o.op with
 |.alloc t=>lA P t|.box _ x=>if fZ (ev T fr x)=true then some (ev T fr x).cells else none|_=>none
inductive nu where
 |grow (tag:Tag) (l m:List AV)|same (l:List AV)
def nu.fr(fr:Fr)(d:Nat):nu->Fr
 |.grow tag l m=>grown fr d tag l m|.same l=>fr.put (some d) (.slice .iP l)
def Mm(P:Program)(T:fa)(fr:Fr)(c:Call)(x:nu):Prop:=
 ∃s y t e sz tag a l m,c.args.toList=[s,y]/\c.argTypes.toList=[t,t]/\qG P t=some (e,sz)/\ev T fr s=.slice tag l/\ev T fr y=.slice a m/\mA sz l=true/\mA sz m=true/\l.length+m.length<=nU/\(pW fr tag l=true/\x=.grow tag l m\/pW fr tag l=false/\m=[]/\x=.same l)
section
variable{P:Program} {T:fa} {E:List Nat} {ops:List Oper} {opsA:Array Oper} {q soft soft1 soft2:Bool} {o o1 o2:Oper} {K:Fr->eD->Prop} {fr fr1 fr2 fr':Fr} {H H1 H2 H':eD}
def UG{c:Call}{dst:Option Nat}(h:nM P T c dst (λf h=>f=fr'/\h=H') fr H):∃d x,dst=some d/\Mm P T fr c x/\fr'=x.fr fr d/\H'=H:=by
 unfold nM at h
 split at h
 ·rename_i d s y t j a b
  split at h
  ·rename_i e sz tag l g m k n o;obtain⟨rfl,g2,g3,g4,g5⟩:=h
   split at g5
   ·rename_i i;exact⟨d,.grow tag l m,rfl,⟨s,y,j,e,sz,tag,g,l,m,a,b,k,n,o,g2,g3,g4,.inl ⟨i,rfl⟩⟩,g5.1.symm,g5.2.symm⟩
   ·rename_i i;exact⟨d,.same l,rfl,⟨s,y,j,e,sz,tag,g,l,m,a,b,k,n,o,g2,g3,g4,.inr ⟨by simpa using i,g5.1,rfl⟩⟩,g5.2.1.symm,g5.2.2.symm⟩
  ·grind
 ·exact h.elim
def VS{c:Call}{d:Nat}{x:nu}(g:Mm P T fr c x)(b:K (x.fr fr d) H):nM P T c (some d) K fr H:=by
 obtain⟨s,y,t,e,sz,tag,f,l,m,h,i,j,k,n,o,p,q,r⟩:=g;unfold nM;rw[h,i];simp only[j,k,n];refine⟨trivial,o,p,q,?_⟩;rcases r with⟨a,rfl⟩|⟨a,hm,rfl⟩
 ·rw[ee a];exact b
 ·rw[ea (by simp[a])];exact⟨hm,b⟩
def Mm.congr{c:Call}{x:nu}(f:Mm P T fr c x)(he:∀y∈c.args.toList,ev T fr y=ev T fr' y)(g:fr'.tM=fr.tM)(hg:fr'.fN=fr.fN):Mm P T fr' c x:=by
 obtain⟨s,y,t,e,sz,tag,a,l,m,b,h,i,j,k,n,o,p,q⟩:=f
 have d:pW fr' tag l=pW fr tag l:=by unfold pW;rw[g,hg]
 exact⟨s,y,t,e,sz,tag,a,l,m,b,h,i,by rw[<-he s (by rw[b];simp)];exact j,by rw[<-he y (by rw[b];simp)];exact k,n,o,p,by rw[d];exact q⟩
def CT(a:g_ E ops o=.val\/∃r,g_ E ops o=.load r)(h:oI P T E ops q soft o fr H fr' H'):∃v,pP P T E ops q soft fr H o=some v/\fr'=fr.put o.dst v/\H'=H:=by grind[oI,g_,ie]
def JP{v:AV}(h:pP P T E ops q soft fr H o=some v):oI P T E ops q soft o fr H (fr.put o.dst v) H:=by grind[oI,pP,ie]
def vm{d:Option Nat}(k:g_ E ops o=.alloc d)(h:oI P T E ops q soft o fr H fr' H'):∃a cs,d=some a/\o.dst=some a/\E.contains a=false/\wX P T fr o=some cs/\fr'=l6 fr a cs/\H'=H:=by
 unfold oI at h;obtain⟨dst,op,type,pos,after,guard⟩:=o
 have key:∀{cs:List AV} {a:Nat},dst=some a->E.contains a=false->lu E dst cs (λf h=>f=fr'/\h=H') fr H->fr'=l6 fr a cs/\H'=H:=by
  intro cs a m n e;subst m;unfold lu at e;simp only at e;rw[ea (by simp only[n];simp)] at e;exact⟨e.1.symm,e.2.symm⟩
 have b:(∃t,op=.alloc t)\/(∃t x,op=.box t x)->∃a,d=some a/\dst=some a/\E.contains a=false:=by
  intro g
  have:(match dst with|some d=>if E.contains d=true then Tu.A2 else .alloc (some d)|none=>.A2)=.alloc d:=by
   rcases g with⟨t,rfl⟩|⟨t,x,rfl⟩<;>exact k
  grind
 cases op with
 |alloc t=>
  obtain⟨a,l,i,j⟩:=b (.inl ⟨t,rfl⟩)
  grind[ie,wX]
 |box t x=>
  obtain⟨a,l,i,j⟩:=b (.inr ⟨t,x,rfl⟩);simp only[ie] at h;obtain⟨g1,g2⟩:=key i j h.2.2;exact⟨a,_,l,i,j,by simp only[wX];rw[ee h.1],g1,g2⟩
 |call c=>grind[g_]|_=>simp[g_] at k
def wJ{d:Nat}{cs:List AV}(a:o.dst=some d)(b:E.contains d=false)(h:wX P T fr o=some cs):oI P T E ops q soft o fr H (l6 fr d cs) H:=by grind[oI,lu,l6,wX,ie]
def uE(h:∀x∈o.op.operands,ev T fr x=ev T fr' x):wX P T fr o=wX P T fr' o:=by
 obtain⟨dst,op,type,pos,after,guard⟩:=o;cases op with
 |box t x=>simp only[wX];rw[h x (by simp[Op.operands])]|_=>rfl
def B6(s:g_ E ops o=.A2)(h:oI P T E ops q soft o fr H fr' H'):∃r,fr'=fr.put o.dst r/\(soft=true->q=true->H'=H)/\∀f:Fr,(∀x∈o.op.operands,ev T fr x=ev T f x)->oI P T E ops q soft o f H (f.put o.dst r) H':=by
 unfold oI at h;obtain⟨dst,op,type,pos,after,guard⟩:=o
 have a:∀{cs:List AV},((∃t,op=.alloc t)\/(∃t x,op=.box t x))->lu E dst cs (λf h=>f=fr'/\h=H') fr H->∃d,dst=some d/\E.contains d=true/\fr'=fr.put dst (.fO H.length 0)/\H'=H++[cs.map AV.lz]/\∀f:Fr,lu E dst cs (λA h=>A=f.put dst (.fO H.length 0)/\h=H') f H:=by
  intro cs u i
  have hm:(match dst with|some d=>if E.contains d=true then Tu.A2 else .alloc (some d)|none=>.A2)=.A2:=by
   rcases u with⟨t,rfl⟩|⟨t,x,rfl⟩<;>exact s
  unfold lu at i
  split at i
  ·rename_i d
   split at i
   ·rename_i k;refine⟨d,rfl,k,i.1.symm,i.2.symm,λf=>?_⟩;unfold lu;simp only;rw[ee k];exact⟨rfl,i.2⟩
   ·rename_i k;simp only[ea k] at hm;cases hm
  ·exact i.elim
 cases op with
 |alloc t=>
  simp only[ie] at h
  split at h
  ·rename_i z D;obtain⟨d,l,j,n,v,y⟩:=a (.inl ⟨t,rfl⟩) h.2
   grind[oI,ie]
  ·exact h.elim
 |box t x=>
  simp only[ie] at h;obtain⟨d,l,j,n,v,y⟩:=a (.inr ⟨t,x,rfl⟩) h.2.2;refine⟨_,n,?_,λf p=>?_⟩
  ·intro hs F;have:=h.2.1 hs;rw[l] at this;exact absurd this (by simp only[Option.any_some,j];simp)
  ·unfold oI;simp only[ie];have e:=p x (by simp[Op.operands]);refine⟨by rw[<-e];exact h.1,h.2.1,?_⟩;rw[<-e];exact y f
 |call c=>
  obtain⟨callee,args,N7⟩:=c;cases callee with
  |builtin b=>cases b<;>simp[g_] at s
  |value g=>
   simp only[ie] at h;obtain⟨r,w,l,j,n,v⟩:=h;subst v;refine⟨r,n.symm,j,λf p=>?_⟩;unfold oI;simp only[ie];refine⟨r,w,?_,j,rfl,rfl⟩
   have B:(args.toList.map λx=>(ev T fr x).norm)=args.toList.map λx=>(ev T f x).norm:=
    xV λx C=>by rw[p x (by simp[Op.operands,Call.operands,yh.1 C])]
   rw[<-B,<-p g (by simp[Op.operands,Call.operands])];exact l
  |invoke r m=>simp only[ie] at h
 |_=>simp[g_] at s
theorem CO(a:g_ E ops o=.app)(h:oI P T E ops q soft o fr H fr' H'):∃d x,o.dst=some d/\fr'=nu.fr fr d x/\H'=H/\∀(f:Fr) (h:eD),(∀x∈o.op.operands,ev T fr x=ev T f x)->f.tM=fr.tM->f.fN=fr.fN->oI P T E ops q soft o f h (nu.fr f d x) h:=by
 unfold oI at h;obtain⟨dst,op,type,pos,after,guard⟩:=o;cases op with
 |call c=>
  obtain⟨callee,args,N7⟩:=c;cases callee with
  |builtin b=>
   cases b with
   |append=>
    simp only[ie] at h;obtain⟨d,x,e,i,j,k⟩:=UG h;subst e;refine⟨d,x,rfl,j,k,λf h he l hg=>?_⟩;unfold oI;simp only[ie];refine VS (i.congr (λy hy=>he y ?_) l hg) ⟨rfl,rfl⟩;simp only at hy;simp[Op.operands,Call.operands,yh.1 hy]
   |_=>simp[g_] at a
  |value g=>simp[g_] at a
  |invoke r m=>simp[g_] at a
 |alloc t=>grind[g_]|box t x=>grind[g_]|_=>simp[g_] at a
def RJ{r:Option Nat}(d:g_ E ops o=.J4 r)(h:oI P T E ops q soft o fr H fr' H'):fr'.env=fr.env/\fr'.gen=fr.gen/\fr'.tM=fr.tM/\fr'.fN=fr.fN/\o.dst=none/\(∀b,r≠some b->fr'.box b=fr.box b)/\(soft=true->H'=H):=by
 unfold oI at h;obtain⟨dst,op,type,pos,after,guard⟩:=o;cases op with
 |store t x y=>
  simp only[g_,Tu.J4.injEq] at d;simp only[ie] at h;obtain⟨e,f,i,a⟩:=h;unfold nw at a
  split at a
  ·exact a.elim
  ·split at a
   ·rename_i b g off j
    split at a
    ·obtain⟨_,_,_,_,g1,g2⟩:=a;subst g1;subst g2
     grind[rq,hS,yX]
    ·exact a.elim
   all_goals grind[isL]
 |call c=>grind[g_]|alloc t=>grind[g_]|box t x=>simp only[g_] at d;split at d<;>(try split at d)<;>simp at d
 |_=>simp[g_] at d
theorem MQ(fr:Fr)(d:Nat):fr.put (some d) (fr.env d)=fr:=by
 simp only[Fr.put]
 have:hS fr.env d (fr.env d)=fr.env:=by grind[hS]
 rw[this]
theorem OS(fr:Fr)(d:Nat)(x y:AV):(fr.put (some d) x).put (some d) y=fr.put (some d) y:=by grind[Fr.put,JV]
structure Left (c:Tu) (dst:Option Nat) (soft q:Bool) (fr:Fr) (H:eD) (fr':Fr) (H':eD):Prop where
 env:∀t,dst≠some t->fr'.env t=fr.env t
 box:∀b,c≠ .alloc (some b)->c≠ .J4 (some b)->fr'.box b=fr.box b/\fr'.gen b=fr.gen b
 heap:c≠ .A2->(∀r,c=.J4 r->soft=true)->H'=H
 quiet:soft=true->q=true->H'=H
def nu.left(fr:Fr)(d:Nat)(x:nu):(∀t,t≠d->(nu.fr fr d x).env t=fr.env t)/\(nu.fr fr d x).box=fr.box/\(nu.fr fr d x).gen=fr.gen:=by
 cases x with
 |grow tag l m=>exact⟨λt a=>by show hS _ _ _ t=_;rw[yX _ _ _ _ a],rfl,rfl⟩|same l=>exact⟨λt a=>by show hS _ _ _ t=_;rw[yX _ _ _ _ a],rfl,rfl⟩
def rP(h:oI P T E ops q soft o fr H fr' H'):Left (g_ E ops o) o.dst soft q fr H fr' H':=by
 have a:∀(v:AV) (t:Nat),o.dst≠some t->(fr.put o.dst v).env t=fr.env t:=by
  intro v t i;rw[Fr.C',ea i]
 cases g:g_ E ops o with
 |val=>
  obtain⟨v,_,rfl,rfl⟩:=CT (.inl g) h;obtain⟨c,f,_,_⟩:=Fr.xX fr o.dst v;exact⟨a v,λb _ _=>⟨by rw[c],by rw[f]⟩,λ_ _=>rfl,λ_ _=>rfl⟩
 |load r=>
  obtain⟨v,_,rfl,rfl⟩:=CT (.inr ⟨r,g⟩) h;obtain⟨c,f,_,_⟩:=Fr.xX fr o.dst v;exact⟨a v,λb _ _=>⟨by rw[c],by rw[f]⟩,λ_ _=>rfl,λ_ _=>rfl⟩
 |alloc d=>
  obtain⟨n,cs,rfl,k,_,_,rfl,rfl⟩:=vm g h;refine⟨λt i=>?_,λb l _=>?_,λ_ _=>rfl,λ_ _=>rfl⟩
  ·show hS _ _ _ t=_;rw[yX];rintro rfl;exact i k
  ·have j:b≠n:=by rintro rfl;exact l rfl
   exact⟨yX _ _ _ _ j,yX _ _ _ _ j⟩
 |A2=>
  obtain⟨r,rfl,p,_⟩:=B6 g h;obtain⟨c,f,_,_⟩:=Fr.xX fr o.dst r;exact⟨a r,λb _ _=>⟨by rw[c],by rw[f]⟩,λhn _=>absurd rfl hn,p⟩
 |app=>
  obtain⟨d,x,k,rfl,rfl,_⟩:=CO g h;obtain⟨g1,g2,g3⟩:=nu.left fr d x;exact⟨λt i=>g1 t (by rintro rfl;exact i k),λb _ _=>⟨by rw[g2],by rw[g3]⟩,λ_ _=>rfl,λ_ _=>rfl⟩
 |J4 r=>
  obtain⟨c,f,u,w,y,s,m⟩:=RJ g h;exact⟨λt _=>by rw[c],λb _ l=>⟨s b (λe=>l (by rw[e])),by rw[f]⟩,λ_ hs=>m (hs r rfl),λhs _=>m hs⟩
def MO{d:Nat}(v:AV)(b:d∉o.looksAt opsA)(a:o.dst≠some d)(h:oI P T E ops q soft o fr H fr' H'):oI P T E ops q soft o (fr.put (some d) v) H (fr'.put (some d) v) H':=by
 have c:ie P T E ops q soft o (λf h=>f=fr'/\h=H') ((fr.put (some d) v).put (some d) (fr.env d)) H:=by
  rw[OS,MQ];exact h
 obtain⟨f,g,e,i,j⟩:=xH (JL (opsA:=opsA) b a c);have he:=(rP e).env d a
 grind[OS,Fr.C',MQ]
def F_{d:Nat}{v:AV}(b:d∉o.looksAt opsA)(a:o.dst≠some d)(h:oI P T E ops q soft o (fr.put (some d) v) H fr' H'):∃f,oI P T E ops q soft o fr H f H'/\f.put (some d) v=fr':=by
 obtain⟨f,c,e,g,i⟩:=xH (JL (opsA:=opsA) b a h)
 grind
theorem Sk{x:Operand}{t:Nat}(a:x∈o.op.operands)(b:x=.tmp t):t∈o.looksAt opsA:=by
 subst b;exact UT _ (VX.2 ⟨.tmp t,by simpa using a,rfl⟩)
def Kq{c:Tu}{dst:Option Nat}(a:Left c dst soft q fr H fr' H')(b:∀d,dst=some d->d∉o.looksAt opsA):∀x∈o.op.operands,ev T fr x=ev T fr' x:=by
 intro x e;refine LG λt f=>?_;rw[a.env]
 grind[Sk]
def Jw{c:Tu}{dst:Option Nat}(u:Left c dst soft2 q fr H fr' H')(y:∀d,dst=some d->d∉o.looksAt opsA)(e:wx (g_ E ops o) c=true)
  (hs:∀r,g_ E ops o=.load r->(c=.A2->soft=true/\soft2=true)/\(∀z,c=.J4 z->soft2=true)) {v:AV} (hv:pP P T E ops q soft fr H o=some v\/pP P T E ops q soft fr' H' o=some v):pP P T E ops q soft fr H o=pP P T E ops q soft fr' H' o:=by
 have m:=Kq (T:=T) (opsA:=opsA) u y
 by_cases j:∃t x,o.op=.load t x
 ·obtain⟨t,x,a⟩:=j;have A:=m x (by rw[a];simp[Op.operands])
  have k:g_ E ops o=.load (DV ops x):=by unfold g_;rw[a]
  obtain⟨n,p⟩:=hs _ k;rw[k] at e
  have l:rq ops x (ev T fr x)=true/\(!soft||q||!VC (ev T fr x))=true:=by
   have:∀(f:Fr) (h:eD),pP P T E ops q soft f h o=some v->ev T f x=ev T fr x->rq ops x (ev T fr x)=true/\(!soft||q||!VC (ev T fr x))=true:=by grind[pP]
   rcases hv with hv|hv
   ·exact this fr H hv rfl
   ·exact this fr' H' hv A.symm
  refine Br m (λG I he=>?_) (λ_ _ _ _ he=>by rw[a] at he;cases he);rw[a] at he;injection he with B C;subst B;subst C;refine⟨λb g off D=>?_,λhg=>?_⟩
  ·have s:DV ops x=some b:=by
    have:=l.1;rw[D] at this;simpa[rq] using this
   rw[s] at e;have:=u.box b (by rintro rfl;simp[wx] at e) (by rintro rfl;simp[wx] at e);exact⟨this.1.symm,this.2.symm⟩
  ·by_cases he:c=.A2
   ·obtain⟨g1,g2⟩:=n he
    have w:q=true:=by
     have:=l.2;rw[g1,hg] at this;simpa using this
    exact(u.quiet g2 w).symm
   ·exact(u.heap he p).symm
 ·refine Br m (λt x he=>absurd ⟨t,x,he⟩ j) λt x i ok a=>?_
  have k:g_ E ops o=.load none:=by unfold g_;rw[a]
  obtain⟨n,p⟩:=hs _ k
  have w:(!soft||q)=true:=by
   have:∀(f:Fr) (h:eD),pP P T E ops q soft f h o=some v->(!soft||q)=true:=by
    intro f h hv;unfold pP at hv;rw[a] at hv;simp only at hv
    split at hv
    ·rename_i F;exact F
    ·cases hv
   rcases hv with hv|hv
   ·exact this _ _ hv
   ·exact this _ _ hv
  by_cases he:c=.A2
  ·obtain⟨g1,g2⟩:=n he;rw[g1] at w;exact(u.quiet g2 (by simpa using w)).symm
  ·exact(u.heap he p).symm
def JS(fr:Fr){d b:Nat}(h:d≠b)(cs a:List AV):l6 (l6 fr d cs) b a=l6 (l6 fr b a) d cs:=by
 simp only[l6,yX _ _ _ _ h,yX _ _ _ _ h.symm]
 grind[vr]
def Eu(fr:Fr){d:Nat}{d2:Option Nat}(h:d2≠some d)(cs:List AV)(r:AV):(l6 fr d cs).put d2 r=l6 (fr.put d2 r) d cs:=by
 cases d2 with
 |none=>rfl|some a=>grind[l6,Fr.put,vr]
theorem Pp(fr:Fr){d:Nat}{d2:Option Nat}(h:d2≠some d)(x:nu)(r:AV):nu.fr (fr.put d2 r) d x=(nu.fr fr d x).put d2 r:=by
 cases d2 with
 |none=>rfl|some b=>
  have a:b≠d:=λe=>h (by rw[e]);cases x with
  |grow tag l m=>
   simp only[nu.fr,grown,Fr.put]
   grind[vr]
  |same l=>exact sC fr a r (.slice .iP l)
def Ej(fr:Fr){d a:Nat}(h:d≠a)(cs:List AV)(x:nu):nu.fr (l6 fr d cs) a x=l6 (nu.fr fr a x) d cs:=by
 cases x with
 |grow tag l m=>
  simp only[nu.fr,grown,l6]
  grind[vr]
 |same l=>grind[nu.fr,Fr.put,l6,vr]
def Qa(R:o1.apart opsA o2=true)(a:wx (g_ E ops o1) (g_ E ops o2)=true)
  (S:∀r,g_ E ops o1=.load r->(g_ E ops o2=.A2->soft1=true/\soft2=true)/\(∀K,g_ E ops o2=.J4 K->soft2=true))
  (U:∀r,g_ E ops o2=.load r->(g_ E ops o1=.A2->soft2=true/\soft1=true)/\(∀K,g_ E ops o1=.J4 K->soft1=true))
  (F:oI P T E ops q soft1 o1 fr H fr1 H1) (D:oI P T E ops q soft2 o2 fr1 H1 fr2 H2):∃f h,oI P T E ops q soft2 o2 fr H f h/\oI P T E ops q soft1 o1 f h fr2 H2:=by
 obtain⟨a1,a2,a3⟩:=Oper.apart_spec R
 by_cases G:g_ E ops o1=.val\/∃r,g_ E ops o1=.load r
 ·obtain⟨v,L,c,I⟩:=CT G F;subst I
  have V:∃f,oI P T E ops q soft2 o2 fr H1 f H2/\f.put o1.dst v=fr2:=by
   cases s:o1.dst with
   |none=>rw[s] at c;subst c;exact⟨fr2,D,rfl⟩
   |some d=>rw[s] at c;subst c;exact F_ (opsA:=opsA) (a1 d s) (a2 d s) D
  obtain⟨f,M,W⟩:=V;have t:wx (g_ E ops o1) (g_ E ops o2)=true:=a;have:=Jw (o:=o1) (soft:=soft1) (rP M) a3 t S (.inl L);refine⟨f,H2,M,?_⟩;rw[<-W];exact JP (by rw[<-this];exact L)
 ·--aa second one only J
  by_cases l:g_ E ops o2=.val\/∃r,g_ E ops o2=.load r
  ·obtain⟨v,L,c,I⟩:=CT l D;subst I
   have t:wx (g_ E ops o2) (g_ E ops o1)=true:=by
    revert a
    cases g_ E ops o1<;>cases g_ E ops o2<;>simp[wx]<;>(intro h e;exact h e.symm)
   have:=Jw (o:=o2) (soft:=soft2) (rP F) a1 t U (.inr L);refine⟨fr.put o2.dst v,H,JP (by rw[this];exact L),?_⟩;rw[c];cases s:o2.dst with
   |none=>exact F|some d=>exact MO (opsA:=opsA) v (a3 d s) (λe=>a2 d e s) F
  ·--N
   have X:=rP F;have k:∀x∈o2.op.operands,ev T fr x=ev T fr1 x:=Kq (T:=T) (opsA:=opsA) X a1;have w:∀{f:Fr} {h:eD} (O:oI P T E ops q soft2 o2 fr H f h),∀x∈o1.op.operands,ev T fr x=ev T f x:=λO=>Kq (T:=T) (opsA:=opsA) (rP O) a3;cases i:g_ E ops o1 with
   |val=>exact absurd (.inl i) G|load r=>exact absurd (.inr ⟨r,i⟩) G|J4 r=>
    rw[i] at a;cases b:g_ E ops o2 with
    |val=>exact absurd (.inl b) l|load K=>exact absurd (.inr ⟨K,b⟩) l|_=>rw[b] at a;simp[wx] at a
   |alloc d1=>
    obtain⟨d,cs,rfl,s,Y,Z,c,I⟩:=vm i F;subst I
    have back:∀{f:Fr} {h:eD} (O:oI P T E ops q soft2 o2 fr H1 f h),oI P T E ops q soft1 o1 f h (l6 f d cs) h:=λO=>
     wJ s Y (by rw[<-uE (w O)];exact Z)
    cases b:g_ E ops o2 with
    |val=>exact absurd (.inl b) l|load r=>exact absurd (.inr ⟨r,b⟩) l|J4 r=>rw[i,b] at a;simp[wx] at a
    |alloc d2=>
     obtain⟨C,z,rfl,j,A,n,g,u⟩:=vm b D;subst u;have B:d≠C:=λe=>a2 d s (by rw[j,e]);have hn:oI P T E ops q soft2 o2 fr H2 (l6 fr C z) H2:=wJ j A (by rw[uE k];exact n);refine⟨_,_,hn,?_⟩;rw[g,c,JS fr B];exact back hn
    |A2=>
     obtain⟨r,g,_,p⟩:=B6 b D;have hn:=p fr λx Q=>(k x Q).symm;refine⟨_,_,hn,?_⟩;rw[g,c,Eu fr (λe=>a2 d s e)];exact back hn
    |app=>
     obtain⟨C,x,j,g,u,p⟩:=CO b D;subst u;have B:d≠C:=λe=>a2 d s (by rw[j,e]);have hn:=p fr H2 (λx Q=>(k x Q).symm) (by rw[c];rfl) (by rw[c];rfl);refine⟨_,_,hn,?_⟩;rw[g,c,Ej fr B];exact back hn
   |A2=>
    obtain⟨r,c,_,m⟩:=B6 i F;cases b:g_ E ops o2 with
    |val=>exact absurd (.inl b) l|load r=>exact absurd (.inr ⟨r,b⟩) l|J4 r=>rw[i,b] at a;simp[wx] at a
    |A2=>rw[i,b] at a;simp[wx] at a
    |alloc d2=>
     obtain⟨C,z,rfl,j,A,n,g,u⟩:=vm b D;subst u;have hn:oI P T E ops q soft2 o2 fr H (l6 fr C z) H:=wJ j A (by rw[uE k];exact n);refine⟨_,_,hn,?_⟩;rw[g,c,<-Eu fr (λe=>a2 C e j)];exact m _ λx Q=>w hn x Q
    |app=>grind[CO,Fr.xX,Pp]
   |app=>
    obtain⟨d,x,s,c,I,m⟩:=CO i F;subst I;cases b:g_ E ops o2 with
    |val=>exact absurd (.inl b) l|load r=>exact absurd (.inr ⟨r,b⟩) l|J4 r=>rw[i,b] at a;simp[wx] at a
    |app=>rw[i,b] at a;simp[wx] at a
    |alloc d2=>
     obtain⟨C,z,rfl,j,A,n,g,u⟩:=vm b D;subst u;have B:C≠d:=λe=>a2 d s (by rw[j,e]);have hn:oI P T E ops q soft2 o2 fr H2 (l6 fr C z) H2:=wJ j A (by rw[uE k];exact n);refine⟨_,_,hn,?_⟩;rw[g,c,<-Ej fr B];exact m _ _ (λy hy=>w hn y hy) rfl rfl
    |A2=>
     obtain⟨r,g,_,p⟩:=B6 b D;have hn:=p fr λy hy=>(k y hy).symm;obtain⟨e1,e2,e3,e4⟩:=Fr.xX fr o2.dst r;refine⟨_,_,hn,?_⟩;rw[g,c,<-Pp fr (λe=>a2 d s e)];exact m _ _ (λy hy=>w hn y hy) e3 e4
end
end Go.m7
namespace Go.m7
open Go
def j_(opsA:Array Oper)(o:Oper)(fr:Fr):Option Bool:=
 match o.guard with
 |none=>some true|some (j,want)=>
  match(opsA[j]?).bind (·.dst)with
  |some d=>match fr.env d with
   |.sc (.bool b)=>some (b==want)|.tuple _=>some false|_=>none
  |none=>none
def nr(P:Program)(T:fa)(E:List Nat)(opsA:Array Oper)(q soft:Bool)(o:Oper)(K:Fr->eD->Prop)(fr:Fr)(H:eD):Prop:=
 match j_ opsA o fr with
 |some true=>ie P T E opsA.toList q soft o K fr H|some false=>K (fr.put o.dst (.tuple [])) H|none=>False
def Hu(P:Program)(T:fa)(E:List Nat)(opsA:Array Oper)(q:Bool)(sf:Nat->Bool):List Nat->(Fr->eD->Prop)->Fr->eD->Prop
 |[],K,fr,H=>K fr H|i::rest,K,fr,H=>match opsA[i]?with
  |some o=>nr P T E opsA q (sf i) o (λfr H=>Hu P T E opsA q sf rest K fr H) fr H|none=>False
section
variable{P:Program} {T:fa} {E:List Nat} {opsA:Array Oper} {q soft soft1 soft2:Bool} {o o1 o2:Oper} {K K':Fr->eD->Prop} {fr fr':Fr} {H H':eD}
theorem BL(a:∀fr H,K fr H->K' fr H)(h:nr P T E opsA q soft o K fr H):nr P T E opsA q soft o K' fr H:=by grind[nr,He]
def L_(h:nr P T E opsA q soft o K fr H):Cm P T E opsA o K fr H:=by grind[nr,j_,Cm,EH]
theorem B9(h:∀t,t∈o.looksAt opsA->fr'.env t=fr.env t):j_ opsA o fr'=j_ opsA o fr:=by
 unfold j_;cases hg:o.guard with
 |none=>rfl|some p=>
  obtain⟨j,want⟩:=p;simp only
  cases a:(opsA[j]?).bind (·.dst)with
  |none=>rfl|some d=>
   simp only
   have:d∈o.looksAt opsA:=by
    unfold Oper.looksAt
    grind
   rw[h d this]
def DS{d:Option Nat}{v:AV}(h:∀a,d=some a->a∉o.looksAt opsA):j_ opsA o (fr.put d v)=j_ opsA o fr:=by grind[B9,Fr.C']
def Bk{c:Tu}{dst:Option Nat}(b:Left c dst soft q fr H fr' H')(h:∀a,dst=some a->a∉o.looksAt opsA):j_ opsA o fr'=j_ opsA o fr:=by
 refine B9 λt d=>b.env t ?_
 grind
def TI(E:List Nat)(opsA:Array Oper)(s1 s2:Bool)(o1 o2:Oper):Bool:=
 o1.apart opsA o2&&wx (g_ E opsA.toList o1) (g_ E opsA.toList o2)&&
 (match g_ E opsA.toList o1,g_ E opsA.toList o2 with
  |.load _,.A2=>s1&&s2|.A2,.load _=>s1&&s2|.load _,.J4 _=>s2|.J4 _,.load _=>s1|_,_=>true)
theorem Ok(t:TI E opsA soft1 soft2 o1 o2=true)(h:nr P T E opsA q soft1 o1 (λfr H=>nr P T E opsA q soft2 o2 K fr H) fr H):nr P T E opsA q soft2 o2 (λfr H=>nr P T E opsA q soft1 o1 K fr H) fr H:=by
 unfold TI at t;simp only[gI] at t;obtain⟨⟨m,n⟩,a⟩:=t;obtain⟨a1,a2,a3⟩:=Oper.apart_spec m
 have u:∀r,g_ E opsA.toList o1=.load r->(g_ E opsA.toList o2=.A2->soft1=true/\soft2=true)/\(∀o,g_ E opsA.toList o2=.J4 o->soft2=true):=by
  intro r v;rw[v] at a;refine⟨λhe=>?_,λo he=>?_⟩<;>rw[he] at a
  ·simpa using a
  ·exact a
 have w:∀r,g_ E opsA.toList o2=.load r->(g_ E opsA.toList o1=.A2->soft2=true/\soft1=true)/\(∀o,g_ E opsA.toList o1=.J4 o->soft1=true):=by
  intro r v;rw[v] at a;refine⟨λhe=>?_,λo he=>?_⟩<;>rw[he] at a
  ·have:soft1=true/\soft2=true:=by simpa using a
   exact⟨this.2,this.1⟩
  ·exact a
 unfold nr at h
 split at h
 ·--x first one is carried out
  rename_i c;obtain⟨f1,H1,i,h⟩:=xH h;have y:=rP i;have l:j_ opsA o2 f1=j_ opsA o2 fr:=Bk y a1;rw[l] at h;unfold nr
  split at h
  ·rename_i g;obtain⟨f2,H2,b,z⟩:=xH h;obtain⟨f,F,k,p⟩:=Qa m n u w i b;refine zN k ?_;have:j_ opsA o1 f=j_ opsA o1 fr:=Bk (rP k) a3;rw[this,c];exact zN p z
  ·rename_i g
   show match j_ opsA o1 (fr.put o2.dst (.tuple []))with
    |some true=>ie P T E opsA.toList q soft1 o1 K (fr.put o2.dst (.tuple [])) H|some false=>K ((fr.put o2.dst (.tuple [])).put o1.dst (.tuple [])) H|none=>False
   rw[DS a3,c];simp only;cases j:o2.dst with
   |none=>rw[j] at h;exact zN i h
   |some d=>rw[j] at h;exact zN (MO (opsA:=opsA) _ (a3 d j) (λe=>a2 d e j) i) h
  ·exact h.elim
 ·--x first one is left out
  rename_i c;have l:j_ opsA o2 (fr.put o1.dst (.tuple []))=j_ opsA o2 fr:=DS a1;rw[l] at h;unfold nr
  split at h
  ·rename_i g;obtain⟨f2,H2,b,z⟩:=xH h
   have A:∃f,oI P T E opsA.toList q soft2 o2 fr H f H2/\f.put o1.dst (.tuple [])=f2:=by
    cases j:o1.dst with
    |none=>rw[j] at b;exact⟨f2,b,rfl⟩
    |some d=>rw[j] at b;exact F_ (opsA:=opsA) (a1 d j) (a2 d j) b
   obtain⟨f,s,B⟩:=A;refine zN s ?_;have:j_ opsA o1 f=j_ opsA o1 fr:=Bk (rP s) a3;rw[this,c];show K (f.put o1.dst (.tuple [])) H2;rw[B];exact z
  ·rename_i g
   show match j_ opsA o1 (fr.put o2.dst (.tuple []))with
    |some true=>ie P T E opsA.toList q soft1 o1 K (fr.put o2.dst (.tuple [])) H|some false=>K ((fr.put o2.dst (.tuple [])).put o1.dst (.tuple [])) H|none=>False
   rw[DS a3,c];simp only
   have:(fr.put o2.dst (.tuple [])).put o1.dst (.tuple [])=(fr.put o1.dst (.tuple [])).put o2.dst (.tuple []):=by
    cases C:o1.dst with
    |none=>rfl|some d1=>
     cases D:o2.dst with
     |none=>rfl|some d2=>exact sC fr (λe=>a2 d1 C (by rw[D,e])) _ _
   rw[this];exact h
  ·exact h.elim
 ·exact h.elim
def Nj{sf:Nat->Bool}{i:Nat}(hi:opsA[i]?=some o)(post:List Nat):∀(pre:List Nat) (fr:Fr) (H:eD),(∀j∈pre,∀a,opsA[j]?=some a->TI E opsA (sf j) (sf i) a o=true)->Hu P T E opsA q sf (pre++i::post) K fr H->nr P T E opsA q (sf i) o (λfr H=>Hu P T E opsA q sf (pre++post) K fr H) fr H:=by
 intro pre
 induction pre with
 |nil=>grind[Hu]|cons j pre b=>
  intro fr H hex h;simp only[Xq,Hu] at h|-
  split at h
  all_goals grind[BL,Ok]
end
def xt(opsA:Array Oper):Bool:=opsA.toList.zipIdx.all λ(o,i)=>o.after.all λe=>!Region.binds .any e||decide (e.on<i)
def J5(opsA:Array Oper)(M:Array Nat):Bool:=
 (List.range opsA.size).all λi=>(List.range opsA.size).all λj=>!(M.getD i 0).testBit j||
  (opsA.getD i default).after.toList.any λe=>Region.binds .any e&&(e.on==j||(M.getD e.on 0).testBit j)
def xz(E:List Nat)(opsA:Array Oper)(sf:Nat->Bool):Bool:=
 let M:=Region.before opsA
 xt opsA&&J5 opsA M&&
 (List.range opsA.size).all λi=>(List.range i).all λj=>(M.getD i 0).testBit j||TI E opsA (sf j) (sf i) (opsA.getD j default) (opsA.getD i default)
section
variable{P:Program} {T:fa} {E:List Nat} {opsA:Array Oper} {q:Bool} {sf:Nat->Bool} {K:Fr->eD->Prop}
def vL(opsA:Array Oper)(listed:Array Bool):List Nat:=(List.range opsA.size).filter λi=>!listed.getD i true
def OO{listed:Array Bool}{i:Nat}:i∈vL opsA listed↔i<opsA.size/\listed.getD i true=false:=by
 simp[vL]
def Sb(M:Array Nat)(opsA:Array Oper)(listed:Array Bool):Prop:=∀i j,i<opsA.size->j<opsA.size->listed.getD i false=true->(M.getD i 0).testBit j=true->listed.getD j false=true
def AQ{listed:Array Bool}{i:Nat}(d:Bool)(h:i<listed.size):(listed.setIfInBounds i true).getD i d=true:=by
 simp[h]
def Ki{opsA:Array Oper}(a:xt opsA=true){listed:Array Bool}(f:listed.size=opsA.size){i:Nat}(hi:i<opsA.size)(d:listed.getD i true=false)
  (b:∀j,j<i->listed.getD j false=true):i∈Region.ready .any opsA listed:=by
 rw[mem_ready];refine⟨d,opsA[i],LI hi,λe he g=>?_⟩;refine b _ ?_;unfold xt at a;rw[kF] at a
 have c:(opsA[i],i)∈opsA.toList.zipIdx:=by
  rw[UQ];simp[hi]
 have:=a _ c;simp only[IS] at this;have:=this e he;rw[g] at this;simpa using this
def Ee{opsA:Array Oper}{M:Array Nat}(f:J5 opsA M=true)(a:xt opsA=true){listed:Array Bool}(g:Sb M opsA listed){i:Nat}(p:i∈Region.ready .any opsA listed){j:Nat}(m:j<opsA.size)
  (q:(M.getD i 0).testBit j=true):listed.getD j false=true:=by
 obtain⟨r,o,h,b⟩:=mem_ready.1 p;have hi:i<opsA.size:=(Nh.1 h).1;unfold J5 at f;rw[kF] at f;have:=f i (by simpa using hi);rw[kF] at this;have:=this j (by simpa using m);rw[q] at this;simp only[So,Sd,List.any_eq_true,yh,gI,pO,beq_iff_eq] at this;obtain⟨e,he,c,hor⟩:=this
 have k:opsA.getD i default=o:=by rw[Rb,h];rfl
 rw[k] at he;have n:=b e he c;rcases hor with rfl|hor
 ·exact n
 ·have l:e.on<opsA.size:=by
   unfold xt at a;rw[kF] at a
   have d:(o,i)∈opsA.toList.zipIdx:=by
    rw[UQ];simpa using h
   have:=a _ d;simp only[IS] at this;have:=this e he;rw[c] at this
   have:e.on<i:=by simpa using this
   omega
  exact g e.on j l m n hor
def P_{listed:Array Bool}(d:listed.size=opsA.size){i:Nat}(hi:i<opsA.size)(b:listed.getD i true=false):∃pre post,vL opsA listed=pre++i::post/\vL opsA (listed.setIfInBounds i true)=pre++post/\∀j∈pre,j<i/\listed.getD j true=false:=by
 have c:List.range opsA.size=List.range i++i::(List.range' (i+1) (opsA.size-i-1)):=by
  rw[We,We]
  have:opsA.size=i+(1+(opsA.size-i-1)):=by omega
  conv=>lhs;rw[this]
  rw[<-List.range'_append_1]
  congr 1
  rw[show 1+(opsA.size-i-1)=(opsA.size-i-1)+1 by omega,Rn];simp
 refine⟨(List.range i).filter (λj=>!listed.getD j true),(List.range' (i+1) (opsA.size-i-1)).filter (λj=>!listed.getD j true),?_,?_,?_⟩
 ·unfold vL;rw[c,UH,List.filter_cons_of_pos (by simp[b])]
 ·unfold vL;rw[c,UH,List.filter_cons_of_neg (by rw[AQ _ (by omega)];simp)]
  congr 1
  ·refine YT λj a=>?_
   have:j<i:=by simpa using a
   rw[getD_set_ne true (by omega)]
  ·refine YT λj a=>?_;have:=(List.mem_range'_1.1 a).1;rw[getD_set_ne true (by omega)]
 ·intro j a;rw[Xy] at a;exact⟨by simpa using a.1,by simpa using a.2⟩
variable{n:Nat} {G0:Nat->Nat} {F0:lF} {n0:Nat} {w0:World}
def yN{listed:Array Bool}{i:Nat}(hi:i<listed.size):listed.getD i false=listed.getD i true:=by grind
def Rl{Q:Exit->Act->World->Prop}(p:xz E opsA sf=true)(x:x' n opsA=true)(R:∀fr' H' F w',K fr' H'->SR T n G0 F0 n0 w0 fr' H' F w'->Q .normal F w'):∀(fuel:Nat) (listed:Array Bool) (fr:Fr) (H:eD) (a:Act) (w:World),listed.size=opsA.size->Sb (Region.before opsA) opsA listed->(vL opsA listed).length<=fuel->SR T n G0 F0 n0 w0 fr H a w->Hu P T E opsA q sf (vL opsA listed) K fr H->wpAny P .any opsA Q fuel listed a w:=by
 unfold xz at p;simp only[gI] at p;obtain⟨⟨c,S⟩,d⟩:=p
 have r:∀{listed:Array Bool},listed.size=opsA.size->Region.ready .any opsA listed=[]->vL opsA listed=[]:=by
  intro listed f y;cases b:vL opsA listed with
  |nil=>rfl|cons i rest=>
   exfalso
   have m:i∈vL opsA listed:=by rw[b];simp
   have hex:∃k,k<opsA.size/\listed.getD k true=false:=⟨i,OO.1 m⟩
   obtain⟨k,⟨G,I⟩,z⟩:∃k,(k<opsA.size/\listed.getD k true=false)/\∀j,j<k->¬(j<opsA.size/\listed.getD j true=false):=by
    clear b m;obtain⟨k,hk⟩:=hex
    induction k using Nat.strongRecOn with
    |_ k J=>
     by_cases h:∃j,j<k/\(j<opsA.size/\listed.getD j true=false)
     ·obtain⟨j,s,t⟩:=h;exact J j s t
     ·exact⟨k,hk,λj A hc=>h ⟨j,A,hc⟩⟩
   have:=Ki c f G I λj A=>by
    have hn:=z j A
    have L:j<opsA.size:=by omega
    rw[yN (by omega)];cases hb:listed.getD j true with
    |true=>rfl|false=>exact absurd ⟨L,hb⟩ hn
   rw[y] at this;cases this
 intro fuel
 induction fuel with
 |zero=>
  intro listed fr H a w f g hlen hs h;have b:vL opsA listed=[]:=CW (by omega);rw[b] at h;refine⟨?_,R _ _ _ _ h hs⟩;cases y:Region.ready .any opsA listed with
  |nil=>rfl|cons i rest=>
   have hm:i∈Region.ready .any opsA listed:=by rw[y];simp
   obtain⟨u,o,v,_⟩:=mem_ready.1 hm;have:i∈vL opsA listed:=OO.2 ⟨(Nh.1 v).1,u⟩;rw[b] at this;cases this
 |succ fuel J=>
  intro listed fr H a w f g hlen hs h;refine⟨λy=>?_,λi hi=>?_⟩
  ·rw[r f y] at h;exact R _ _ _ _ h hs
  ·obtain⟨u,o,v,U⟩:=mem_ready.1 hi;have B:i<opsA.size:=(Nh.1 v).1;obtain⟨pre,post,V,W,h3⟩:=P_ f B u;rw[V] at h
   have l:=Nj (P:=P) (T:=T) (E:=E) (opsA:=opsA) (q:=q) (K:=K) (sf:=sf) v post pre fr H (by
    intro j A oj M;obtain⟨s,t⟩:=h3 j A;rw[kF] at d;have:=d i (by simpa using B);rw[kF] at this;have:=this j (by simpa using s);simp only[pO] at this
    have e1:opsA.getD j default=oj:=by rw[Rb,M];rfl
    have e2:opsA.getD i default=o:=by rw[Rb,v];rfl
    rw[e1,e2] at this;rcases this with hb|hb
    ·have:=Ee S c g hi (by omega) hb;rw[yN (by omega),t] at this;cases this
    ·exact hb) h
   have N:sl n o=true:=IS.1 x o (ON v);refine El v N hs (L_ l) ?_;intro fr' H' F w' hK O;refine J (listed.setIfInBounds i true) fr' H' F w' (by simpa using f) ?_ ?_ O (by rw[W];exact hK)
   ·--still closed
    intro X Y hi' C Z hb
    by_cases he:Y=i
    ·subst he;exact AQ _ (by omega)
    ·rw[getD_set_ne false (λe=>he e.symm)]
     by_cases D:X=i
     ·subst D;exact Ee S c g hi C hb
     ·rw[getD_set_ne false (λe=>D e.symm)] at Z;exact g X Y hi' C Z hb
   ·rw[V] at hlen;rw[W];simp only[qY,ld] at hlen|-;omega
end
section
variable{P:Program} {T:fa} {n:Nat} {Q:Exit->Fr->eD->Prop} {fr:Fr} {H:eD}
def SR.drew{G0:Nat->Nat}{F0:lF}{n0:Nat}{w0:World}{a:Act}{w:World}(hs:SR T n G0 F0 n0 w0 fr H a w):SR T n G0 F0 n0 w0 fr H a w.drew:=by
 obtain⟨ρ,F,R,hw,b⟩:=hs;exact⟨ρ,F,R,hw.drew,b.drew⟩
def gJ.MX{id:Nat}{ops:Array Oper}(E:List Nat)(q:Bool)(sf:Nat->Bool)(hm:P.follows .mixedOrders=true)(c:x' n ops=true)(d:xz E ops sf=true)
  (h:Hu P T E ops q sf (List.range ops.size) (Q .normal) fr H):gJ P T n (.region id ops true) Q fr H:=by
 intro G0 F0 n0 w0 a w hs;refine wp_region_any hm ?_
 have b:vL ops (Array.replicate ops.size false)=List.range ops.size:=by
  unfold vL
  simp_all
 have:=Rl (Q:=λe f w'=>∃fr' H',Q e fr' H'/\SR T n G0 F0 n0 w0 fr' H' f w') d c (λfr' H' f w' g k=>⟨fr',H',g,k⟩) ops.size (Array.replicate ops.size false) fr H a w.drew (by simp)
  (by intro i j hi m l;simp[hi] at l) (by rw[b];simp) hs.drew (by rw[b];exact h)
 exact this
def se(P:Program)(T:fa)(E:List Nat)(opsA:Array Oper)(q:Bool):List Oper->(Fr->eD->Prop)->Fr->eD->Prop
 |[],K,fr,H=>K fr H|o::rest,K,fr,H=>nr P T E opsA q true o (λfr H=>se P T E opsA q rest K fr H) fr H
def J3{E:List Nat}{ops:Array Oper}{q:Bool}{K:Fr->eD->Prop}:∀(l:List Oper) (k:Nat) (fr:Fr) (H:eD),l=ops.toList.drop k->se P T E ops q l K fr H->Hu P T E ops q (λ_=>true) (List.range' k l.length) K fr H:=by
 intro l
 induction l with
 |nil=>intro k fr H _ h;exact h|cons o l c=>
  intro k fr H a h
  have b:k<ops.toList.length:=by
   rcases sH k ops.toList.length with h'|h'
   ·exact h'
   ·rw[IM h'] at a;cases a
  have d:=J1 b;rw[d] at a;injection a with f e
  have hi:ops[k]?=some o:=by grind
  simp only[ld,Rn,Hu,hi];exact BL (λfr H h=>c (k+1) fr H e h) h
def gJ.T5{id:Nat}{ops:Array Oper}(E:List Nat)(q:Bool)(hm:P.follows .mixedOrders=true)(a:x' n ops=true)(b:xz E ops (λ_=>true)=true)
  (h:se P T E ops q ops.toList (Q .normal) fr H):gJ P T n (.region id ops true) Q fr H:=by
 refine gJ.MX E q (λ_=>true) hm a b ?_;have:=J3 (K:=Q .normal) ops.toList 0 fr H (by simp) h;rw[We]
 grind
end
end Go.m7
namespace Go.m7
open Go
section
variable{P:Program} {T:fa} {n:Nat} {Q:Exit->Fr->eD->Prop} {fr:Fr} {H:eD}
def gJ.ud{x y:Code}(h:∀K:Fr->eD->Prop,(∀fr H,gJ P T n y Q fr H->K fr H)->gJ P T n x (G5 K Q) fr H):gJ P T n (.seq x y) Q fr H:=
 gJ.seq (h _ λ_ _ h=>h)
def gJ.yZ{id:Nat}{c:Code}(h:∀Q':Exit->Fr->eD->Prop,(∀fr H,Q .normal fr H->Q' .normal fr H)->(∀fr H,Q .normal fr H->Q' (.exit id) fr H)->(∀a fr H,a≠id->Q (.exit a) fr H->Q' (.exit a) fr H)->(∀fr H,Q .ret fr H->Q' .ret fr H)->gJ P T n c Q' fr H):gJ P T n (.block id c) Q fr H:=by
 refine gJ.block (h (G3 id Q) (λ_ _ h=>h) (λ_ _ h=>?_) (λa _ _ b h=>?_) (λ_ _ h=>h))
 ·simp only[G3,if_true];exact h
 ·simp only[G3,ea b];exact h
end
@[simp] theorem U4(K:Fr->eD->Prop)(Q:Exit->Fr->eD->Prop):G5 K Q .normal=K:=rfl
end Go.m7
