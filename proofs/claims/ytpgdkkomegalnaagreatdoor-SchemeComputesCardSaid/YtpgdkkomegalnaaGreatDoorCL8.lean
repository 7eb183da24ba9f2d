/- Part of the proof of SchemeComputes: layer. -/
import Derived.Test.YtpgdkkomegalnaaGreatDoorCL7
set_option linter.all false
namespace Go.ld
open Go
theorem AU{α:Type}(f:Nat->α){i j:Nat}(h:i≠j)(x y:α):gL (gL f i x) j y=gL (gL f j y) i x:=by grind[gL]
def kV(fr:Fr)(d:Nat)(cs:List AV):Fr:=
 {fr with env:=gL fr.env d (.ie d (fr.gen d+1) 0),box:=gL fr.box d (some cs),gen:=gL fr.gen d (fr.gen d+1)}
def BM(P:Program)(T:eO)(fr:Fr)(o:Oper):Option (List AV):=
 match o.op with
 |.alloc t=>kj P t|.box _ x=>if fC (ev T fr x) then some (ev T fr x).cells else none|_=>none
inductive mO where
 |grow (tag:Tag) (l m:List AV)|same (l:List AV)
def mO.fr(fr:Fr)(d:Nat):mO->Fr
 |.grow tag l m=>grown fr d tag l m|.same l=>fr.put (some d) (.slice .gK l)
def Og(P:Program)(T:eO)(fr:Fr)(c:Call)(x:mO):Prop:=
 ∃s y t e sz tag a l m,c.args.toList=[s,y]/\c.argTypes.toList=[t,t]/\oM P t=some (e,sz)/\ev T fr s=.slice tag l/\ev T fr y=.slice a m/\lp sz l=true/\lp sz m=true/\l.length+m.length<=kG/\(o6 fr tag l=true/\x=.grow tag l m\/o6 fr tag l=false/\m=[]/\x=.same l)
section
variable{P:Program} {T:eO} {E:List Nat} {ops:List Oper} {opsA:Array Oper} {q:Qt} {soft soft1 soft2:Bool} {o o1 o2:Oper} {K:Fr->dZ->Prop} {fr fr1 fr2 fr':Fr} {H H1 H2 H':dZ}
def abB{c:Call}{dst:Option Nat}(h:nj P T c dst (λf h=>f=fr'/\h=H') fr H):∃d x,dst=some d/\Og P T fr c x/\fr'=x.fr fr d/\H'=H:=by
 unfold nj at h
 split at h
 ·rename_i d s y t k a b
  split at h
  ·rename_i e sz tag l i m n o q;obtain⟨rfl,g2,g3,g4,g5⟩:=h
   split at g5
   ·rename_i j;exact⟨d,.grow tag l m,rfl,⟨s,y,k,e,sz,tag,i,l,m,a,b,n,o,q,g2,g3,g4,.inl ⟨j,rfl⟩⟩,g5.1.symm,g5.2.symm⟩
   ·rename_i j;exact⟨d,.same l,rfl,⟨s,y,k,e,sz,tag,i,l,m,a,b,n,o,q,g2,g3,g4,.inr ⟨by simpa using j,g5.1,rfl⟩⟩,g5.2.1.symm,g5.2.2.symm⟩
  ·grind
 ·exact h.elim
def afQ{c:Call}{d:Nat}{x:mO}(h:Og P T fr c x)(b:K (x.fr fr d) H):nj P T c (some d) K fr H:=by
 obtain⟨s,y,t,e,sz,tag,f,l,m,i,j,k,n,o,q,r,u,v⟩:=h;unfold nj;rw[i,j];simp only[k,n,o];refine⟨trivial,q,r,u,?_⟩;rcases v with⟨a,rfl⟩|⟨a,hm,rfl⟩
 ·rw[dR a];exact b
 ·rw[dK (by simp[a])];exact⟨hm,b⟩
def Og.congr{c:Call}{x:mO}(f:Og P T fr c x)(he:∀y∈c.args.toList,ev T fr y=ev T fr' y)(h:fr'.qs=fr.qs)(hg:fr'.fo=fr.fo):Og P T fr' c x:=by
 obtain⟨s,y,t,e,sz,tag,a,l,m,b,i,j,k,n,o,q,r,u⟩:=f
 have d:o6 fr' tag l=o6 fr tag l:=by unfold o6;rw[h,hg]
 exact⟨s,y,t,e,sz,tag,a,l,m,b,i,j,by rw[<-he s (by rw[b];simp)];exact k,by rw[<-he y (by rw[b];simp)];exact n,o,q,r,by rw[d];exact u⟩
def yT(a:gf E ops o=.val\/∃r,gf E ops o=.load r)(h:od P T E ops q soft o fr H fr' H'):∃v,nH P T E ops q soft fr H o=some v/\fr'=fr.put o.dst v/\H'=H:=by grind[od,gf,hV]
def Cd{v:AV}(h:nH P T E ops q soft fr H o=some v):od P T E ops q soft o fr H (fr.put o.dst v) H:=by grind[od,nH,hV]
def xe{d:Option Nat}(k:gf E ops o=.alloc d)(h:od P T E ops q soft o fr H fr' H'):∃a cs,d=some a/\o.dst=some a/\E.contains a=false/\BM P T fr o=some cs/\fr'=kV fr a cs/\H'=H:=by
 unfold od at h;obtain⟨dst,op,type,pos,after,guard⟩:=o
 have key:∀{cs:List AV} {a:Nat},dst=some a->E.contains a=false->k7 E dst cs (λf h=>f=fr'/\h=H') fr H->fr'=kV fr a cs/\H'=H:=by
  intro cs a l n i;subst l;unfold k7 at i;simp only at i;rw[dK (by simp only[n];simp)] at i;exact⟨i.1.symm,i.2.symm⟩
 have b:(∃t,op=.alloc t)\/(∃t x,op=.box t x)->∃a,d=some a/\dst=some a/\E.contains a=false:=by
  intro j
  have:(match dst with|some d=>if E.contains d then Zw.CB else .alloc (some d)|none=>.CB)=.alloc d:=by
   rcases j with⟨t,rfl⟩|⟨t,x,rfl⟩<;>exact k
  grind
 cases op with
 |alloc t=>
  obtain⟨a,r,s,u⟩:=b (.inl ⟨t,rfl⟩)
  grind[hV,BM]
 |box t x=>
  obtain⟨a,r,s,u⟩:=b (.inr ⟨t,x,rfl⟩)
  grind[hV,BM]
 |call c=>grind[gf]|_=>simp[gf] at k
def xG{d:Nat}{cs:List AV}(a:o.dst=some d)(b:E.contains d=false)(h:BM P T fr o=some cs):od P T E ops q soft o fr H (kV fr d cs) H:=by grind[od,k7,kV,BM,hV]
def vI(h:∀x∈o.op.operands,ev T fr x=ev T fr' x):BM P T fr o=BM P T fr' o:=by
 obtain⟨dst,op,type,pos,after,guard⟩:=o;cases op with
 |box t x=>simp only[BM];rw[h x (by simp[Op.operands])]|_=>rfl
def ET(u:gf E ops o=.CB)(h:od P T E ops q soft o fr H fr' H'):∃r,fr'=fr.put o.dst r/\(soft=true->QK q H H')/\∀f:Fr,(∀x∈o.op.operands,ev T fr x=ev T f x)->od P T E ops q soft o f H (f.put o.dst r) H':=by
 unfold od at h;obtain⟨dst,op,type,pos,after,guard⟩:=o
 have a:∀{cs:List AV},((∃t,op=.alloc t)\/(∃t x,op=.box t x))->k7 E dst cs (λf h=>f=fr'/\h=H') fr H->∃d,dst=some d/\E.contains d=true/\fr'=fr.put dst (.fh H.length 0)/\H'=H++[cs.map AV.kq]/\∀f:Fr,k7 E dst cs (λB h=>B=f.put dst (.fh H.length 0)/\h=H') f H:=by
  intro cs v i
  have hm:(match dst with|some d=>if E.contains d then Zw.CB else .alloc (some d)|none=>.CB)=.CB:=by
   rcases v with⟨t,rfl⟩|⟨t,x,rfl⟩<;>exact u
  unfold k7 at i
  split at i
  ·rename_i d
   split at i
   ·rename_i s;refine⟨d,rfl,s,i.1.symm,i.2.symm,λf=>?_⟩;unfold k7;simp only;rw[dR s];exact⟨rfl,i.2⟩
   ·rename_i s;simp only[dK s] at hm;cases hm
  ·exact i.elim
 cases op with
 |alloc t=>
  simp only[hV] at h
  split at h
  ·rename_i z C;obtain⟨d,k,j,l,w,y⟩:=a (.inl ⟨t,rfl⟩) h.2;refine⟨_,l,?_,λf n=>?_⟩
   ·intro hs;have:=h.1 hs;rw[k] at this;exact absurd this (by simp only[adL,j];simp)
   ·unfold od;simp only[hV,C];exact⟨h.1,y f⟩
  ·exact h.elim
 |box t x=>
  simp only[hV] at h;obtain⟨d,k,j,l,w,y⟩:=a (.inr ⟨t,x,rfl⟩) h.2.2;refine⟨_,l,?_,λf n=>?_⟩
  ·intro hs;have:=h.2.1 hs;rw[k] at this;exact absurd this (by simp only[adL,j];simp)
  ·unfold od;simp only[hV];have e:=n x (by simp[Op.operands]);refine⟨by rw[<-e];exact h.1,h.2.1,?_⟩;rw[<-e];exact y f
 |call c=>
  obtain⟨callee,args,tys⟩:=c;cases callee with
  |builtin b=>cases b<;>simp[gf] at u
  |value g=>
   simp only[hV] at h;obtain⟨r,A,k,j,l,w⟩:=h;subst w;refine⟨r,l.symm,j,λf n=>?_⟩;unfold od;simp only[hV];refine⟨r,A,?_,j,rfl,rfl⟩
   have D:(args.toList.map λx=>(ev T fr x).norm)=args.toList.map λx=>(ev T f x).norm:=
    tN λx F=>by rw[n x (by simp[Op.operands,Call.operands,yp.1 F])]
   rw[<-D,<-n g (by simp[Op.operands,Call.operands])];exact k
  |invoke r m=>simp only[hV] at h
 |_=>simp[gf] at u
theorem D4(a:gf E ops o=.app)(h:od P T E ops q soft o fr H fr' H'):∃d x,o.dst=some d/\fr'=mO.fr fr d x/\H'=H/\∀(f:Fr) (h:dZ),(∀x∈o.op.operands,ev T fr x=ev T f x)->f.qs=fr.qs->f.fo=fr.fo->od P T E ops q soft o f h (mO.fr f d x) h:=by
 unfold od at h;obtain⟨dst,op,type,pos,after,guard⟩:=o;cases op with
 |call c=>
  obtain⟨callee,args,tys⟩:=c;cases callee with
  |builtin b=>
   cases b with
   |append=>
    obtain⟨d,x,j,k,l,n⟩:=abB h;subst j;refine⟨d,x,rfl,l,n,λf h he s hg=>?_⟩;unfold od;simp only[hV];refine afQ (k.congr (λy i=>he y ?_) s hg) ⟨rfl,rfl⟩;simp only at i;simp[Op.operands,Call.operands,yp.1 i]
   |_=>simp[gf] at a
  |value g=>simp[gf] at a
  |invoke r m=>simp[gf] at a
 |alloc t=>grind[gf]|box t x=>grind[gf]|_=>simp[gf] at a
def Yb{r:Option Nat}(d:gf E ops o=.Ni r)(h:od P T E ops q soft o fr H fr' H'):fr'.env=fr.env/\fr'.gen=fr.gen/\fr'.qs=fr.qs/\fr'.fo=fr.fo/\o.dst=none/\(∀b,r≠some b->fr'.box b=fr.box b)/\(soft=true->H'=H):=by
 unfold od at h;obtain⟨dst,op,type,pos,after,guard⟩:=o;cases op with
 |store t x y=>
  simp only[gf,Zw.Ni.injEq] at d;simp only[hV] at h;obtain⟨f,i,j,a⟩:=h;unfold l_ at a
  split at a
  ·exact a.elim
  ·split at a
   ·rename_i b g off k
    split at a
    ·obtain⟨_,_,_,_,g1,g2⟩:=a;subst g1;subst g2
     grind[rl,gL,Bt]
    ·exact a.elim
   all_goals grind[isL]
 |call c=>grind[gf]|alloc t=>grind[gf]|box t x=>grind[gf]|_=>simp[gf] at d
theorem Ev(fr:Fr)(d:Nat):fr.put (some d) (fr.env d)=fr:=by
 simp only[Fr.put]
 have:gL fr.env d (fr.env d)=fr.env:=by grind[gL]
 rw[this]
theorem IG(fr:Fr)(d:Nat)(x y:AV):(fr.put (some d) x).put (some d) y=fr.put (some d) y:=by grind[Fr.put,NB]
structure Left (c:Zw) (dst:Option Nat) (soft:Bool) (q:Qt) (fr:Fr) (H:dZ) (fr':Fr) (H':dZ):Prop where
 env:∀t,dst≠some t->fr'.env t=fr.env t
 box:∀b,c≠ .alloc (some b)->c≠ .Ni (some b)->fr'.box b=fr.box b/\fr'.gen b=fr.gen b
 heap:c≠ .CB->(∀r,c=.Ni r->soft=true)->H'=H
 quiet:soft=true->QK q H H'
def mO.left(fr:Fr)(d:Nat)(x:mO):(∀t,t≠d->(mO.fr fr d x).env t=fr.env t)/\(mO.fr fr d x).box=fr.box/\(mO.fr fr d x).gen=fr.gen:=by
 cases x with
 |grow tag l m=>exact⟨λt a=>by show gL _ _ _ t=_;rw[Bt _ _ _ _ a],rfl,rfl⟩|same l=>exact⟨λt a=>by show gL _ _ _ t=_;rw[Bt _ _ _ _ a],rfl,rfl⟩
def qb(h:od P T E ops q soft o fr H fr' H'):Left (gf E ops o) o.dst soft q fr H fr' H':=by
 have a:∀(v:AV) (t:Nat),o.dst≠some t->(fr.put o.dst v).env t=fr.env t:=by
  intro v t j;rw[Fr.uo,dK j]
 cases i:gf E ops o with
 |val=>
  obtain⟨v,_,rfl,rfl⟩:=yT (.inl i) h;obtain⟨c,f,_,_⟩:=Fr.yB fr o.dst v;exact⟨a v,λb _ _=>⟨by rw[c],by rw[f]⟩,λ_ _=>rfl,λ_=>.refl⟩
 |load r=>
  obtain⟨v,_,rfl,rfl⟩:=yT (.inr ⟨r,i⟩) h;obtain⟨c,f,_,_⟩:=Fr.yB fr o.dst v;exact⟨a v,λb _ _=>⟨by rw[c],by rw[f]⟩,λ_ _=>rfl,λ_=>.refl⟩
 |alloc d=>
  obtain⟨u,cs,rfl,l,_,_,rfl,rfl⟩:=xe i h;refine⟨λt j=>?_,λb n _=>?_,λ_ _=>rfl,λ_=>.refl⟩
  ·show gL _ _ _ t=_;rw[Bt];rintro rfl;exact j l
  ·have k:b≠u:=by rintro rfl;exact n rfl
   exact⟨Bt _ _ _ _ k,Bt _ _ _ _ k⟩
 |CB=>
  obtain⟨r,rfl,w,_⟩:=ET i h;obtain⟨c,f,_,_⟩:=Fr.yB fr o.dst r;exact⟨a r,λb _ _=>⟨by rw[c],by rw[f]⟩,λhn _=>absurd rfl hn,w⟩
 |app=>
  obtain⟨d,x,l,rfl,rfl,_⟩:=D4 i h;obtain⟨g1,g2,g3⟩:=mO.left fr d x;exact⟨λt j=>g1 t (by rintro rfl;exact j l),λb _ _=>⟨by rw[g2],by rw[g3]⟩,λ_ _=>rfl,λ_=>.refl⟩
 |Ni r=>
  obtain⟨c,f,A,B,C,y,s⟩:=Yb i h;exact⟨λt _=>by rw[c],λb _ n=>⟨y b (λe=>n (by rw[e])),by rw[f]⟩,λ_ hs=>s (hs r rfl),λhs=>by rw[s hs];exact .refl⟩
def O_{d:Nat}(v:AV)(b:d∉o.looksAt opsA)(a:o.dst≠some d)(h:od P T E ops q soft o fr H fr' H'):od P T E ops q soft o (fr.put (some d) v) H (fr'.put (some d) v) H':=by
 have c:hV P T E ops q soft o (λf h=>f=fr'/\h=H') ((fr.put (some d) v).put (some d) (fr.env d)) H:=by
  rw[IG,Ev];exact h
 obtain⟨f,j,i,k,l⟩:=tR (Ms (opsA:=opsA) b a c);have he:=(qb i).env d a
 grind[IG,Fr.uo,Ev]
def JG{d:Nat}{v:AV}(b:d∉o.looksAt opsA)(a:o.dst≠some d)(h:od P T E ops q soft o (fr.put (some d) v) H fr' H'):∃f,od P T E ops q soft o fr H f H'/\f.put (some d) v=fr':=by
 obtain⟨f,c,i,j,k⟩:=tR (Ms (opsA:=opsA) b a h)
 grind
theorem Ja{x:Operand}{t:Nat}(a:x∈o.op.operands)(b:x=.tmp t):t∈o.looksAt opsA:=by
 subst b;exact ahJ _ (ahp.2 ⟨.tmp t,by simpa using a,rfl⟩)
def Fx{c:Zw}{dst:Option Nat}(a:Left c dst soft q fr H fr' H')(b:∀d,dst=some d->d∉o.looksAt opsA):∀x∈o.op.operands,ev T fr x=ev T fr' x:=by
 intro x f;refine Fh λt h=>?_;rw[a.env]
 grind[Ja]
def GK{c:Zw}{dst:Option Nat}(s:Left c dst soft2 q fr H fr' H')(D:∀d,dst=some d->d∉o.looksAt opsA)(j:xA (gf E ops o) c=true)
  (hs:∀r,gf E ops o=.load r->(c=.CB->soft=true/\soft2=true)/\(∀F,c=.Ni F->soft2=true)) {v:AV} (hv:nH P T E ops q soft fr H o=some v\/nH P T E ops q soft fr' H' o=some v):nH P T E ops q soft fr H o=nH P T E ops q soft fr' H' o:=by
 have u:=Fx (T:=T) (opsA:=opsA) s D
 by_cases k:∃t x,o.op=.load t x
 ·obtain⟨t,x,a⟩:=k;have G:=u x (by rw[a];simp[Op.operands])
  have l:gf E ops o=.load (Gz ops x):=by unfold gf;rw[a]
  obtain⟨w,y⟩:=hs _ l;rw[l] at j
  have n:rl ops x (ev T fr x)=true/\(!soft||q.ok (ev T fr x))=true:=by
   have:∀(f:Fr) (h:dZ),nH P T E ops q soft f h o=some v->ev T f x=ev T fr x->rl ops x (ev T fr x)=true/\(!soft||q.ok (ev T fr x))=true:=by
    intro f h hv he;unfold nH at hv;rw[a] at hv;simp only at hv
    split at hv
    ·rename_i B;rw[he] at B;simpa using B
    ·cases hv
   rcases hv with hv|hv
   ·exact this fr H hv rfl
   ·exact this fr' H' hv G.symm
  refine zv u (λL M he=>?_) (λ_ _ _ _ he=>by rw[a] at he;cases he);rw[a] at he;injection he with I J;subst I;subst J;refine⟨λb g off K=>?_,λo' C hg=>?_⟩
  ·have A:Gz ops x=some b:=by
    have:=n.1;rw[K] at this;simpa[rl] using this
   rw[A] at j;have:=s.box b (by rintro rfl;simp[xA] at j) (by rintro rfl;simp[xA] at j);exact⟨this.1.symm,this.2.symm⟩
  ·by_cases he:c=.CB
   ·obtain⟨g1,g2⟩:=w he
    have hq:q.all=true\/q.st o'=true:=by
     have:=n.2;rw[g1,hg] at this;simpa[Qt.ok] using this
    rcases hq with hq|hq
    ·rw[(s.quiet g2).1 hq]
    ·exact((s.quiet g2).2 o' hq).symm
   ·rw[s.heap he y]
 ·refine zv u (λt x he=>absurd ⟨t,x,he⟩ k) λt x i ok a=>?_
  have l:gf E ops o=.load none:=by unfold gf;rw[a]
  obtain⟨w,y⟩:=hs _ l
  have hq:(!soft||q.all)=true:=by
   have:∀(f:Fr) (h:dZ),nH P T E ops q soft f h o=some v->(!soft||q.all)=true:=by
    intro f h hv;unfold nH at hv;rw[a] at hv;simp only at hv
    split at hv
    ·rename_i B;exact B
    ·cases hv
   rcases hv with hv|hv
   ·exact this _ _ hv
   ·exact this _ _ hv
  by_cases he:c=.CB
  ·obtain⟨g1,g2⟩:=w he;rw[g1] at hq;exact((s.quiet g2).1 (by simpa using hq)).symm
  ·exact(s.heap he y).symm
def Nf(fr:Fr){d b:Nat}(h:d≠b)(cs a:List AV):kV (kV fr d cs) b a=kV (kV fr b a) d cs:=by
 simp only[kV,Bt _ _ _ _ h,Bt _ _ _ _ h.symm]
 grind[AU]
theorem BF(fr:Fr){d:Nat}{d2:Option Nat}(h:d2≠some d)(cs:List AV)(r:AV):(kV fr d cs).put d2 r=kV (fr.put d2 r) d cs:=by
 cases d2 with
 |none=>rfl|some a=>grind[kV,Fr.put,AU]
theorem Sk(fr:Fr){d:Nat}{d2:Option Nat}(h:d2≠some d)(x:mO)(r:AV):mO.fr (fr.put d2 r) d x=(mO.fr fr d x).put d2 r:=by
 cases d2 with
 |none=>rfl|some b=>
  have a:b≠d:=λe=>h (by rw[e]);cases x with
  |grow tag l m=>
   simp only[mO.fr,grown,Fr.put]
   grind[AU]
  |same l=>exact m7 fr a r (.slice .gK l)
def Hj(fr:Fr){d a:Nat}(h:d≠a)(cs:List AV)(x:mO):mO.fr (kV fr d cs) a x=kV (mO.fr fr a x) d cs:=by
 cases x with
 |grow tag l m=>
  simp only[mO.fr,grown,kV]
  grind[AU]
 |same l=>grind[mO.fr,Fr.put,kV,AU]
def UL(X:o1.apart opsA o2=true)(a:xA (gf E ops o1) (gf E ops o2)=true)
  (Y:∀r,gf E ops o1=.load r->(gf E ops o2=.CB->soft1=true/\soft2=true)/\(∀O,gf E ops o2=.Ni O->soft2=true))
  (Z:∀r,gf E ops o2=.load r->(gf E ops o1=.CB->soft2=true/\soft1=true)/\(∀O,gf E ops o1=.Ni O->soft1=true))
  (K:od P T E ops q soft1 o1 fr H fr1 H1) (J:od P T E ops q soft2 o2 fr1 H1 fr2 H2):∃f h,od P T E ops q soft2 o2 fr H f h/\od P T E ops q soft1 o1 f h fr2 H2:=by
 obtain⟨a1,a2,a3⟩:=Oper.apart_spec X
 by_cases L:gf E ops o1=.val\/∃r,gf E ops o1=.load r
 ·obtain⟨v,Q,c,M⟩:=yT L K;subst M
  have ad:∃f,od P T E ops q soft2 o2 fr H1 f H2/\f.put o1.dst v=fr2:=by
   cases w:o1.dst with
   |none=>rw[w] at c;subst c;exact⟨fr2,J,rfl⟩
   |some d=>rw[w] at c;subst c;exact JG (opsA:=opsA) (a1 d w) (a2 d w) J
  obtain⟨f,R,ae⟩:=ad;have A:xA (gf E ops o1) (gf E ops o2)=true:=a;have:=GK (o:=o1) (soft:=soft1) (qb R) a3 A Y (.inl Q);refine⟨f,H2,R,?_⟩;rw[<-ae];exact Cd (by rw[<-this];exact Q)
 ·--ak second one only N
  by_cases n:gf E ops o2=.val\/∃r,gf E ops o2=.load r
  ·obtain⟨v,Q,c,M⟩:=yT n J;subst M
   have A:xA (gf E ops o2) (gf E ops o1)=true:=by
    revert a
    cases gf E ops o1<;>cases gf E ops o2<;>simp[xA]<;>(intro h e;exact h e.symm)
   have:=GK (o:=o2) (soft:=soft2) (qb K) a1 A Z (.inr Q);refine⟨fr.put o2.dst v,H,Cd (by rw[this];exact Q),?_⟩;rw[c];cases w:o2.dst with
   |none=>exact K|some d=>exact O_ (opsA:=opsA) v (a3 d w) (λe=>a2 d e w) K
  ·--S
   have af:=qb K;have l:∀x∈o2.op.operands,ev T fr x=ev T fr1 x:=Fx (T:=T) (opsA:=opsA) af a1;have C:∀{f:Fr} {h:dZ} (U:od P T E ops q soft2 o2 fr H f h),∀x∈o1.op.operands,ev T fr x=ev T f x:=λU=>Fx (T:=T) (opsA:=opsA) (qb U) a3;cases j:gf E ops o1 with
   |val=>exact absurd (.inl j) L|load r=>exact absurd (.inr ⟨r,j⟩) L|Ni r=>
    rw[j] at a;cases b:gf E ops o2 with
    |val=>exact absurd (.inl b) n|load O=>exact absurd (.inr ⟨O,b⟩) n|_=>rw[b] at a;simp[xA] at a
   |alloc d1=>
    obtain⟨d,cs,rfl,w,ah,ai,c,M⟩:=xe j K;subst M
    have back:∀{f:Fr} {h:dZ} (U:od P T E ops q soft2 o2 fr H1 f h),od P T E ops q soft1 o1 f h (kV f d cs) h:=λU=>
     xG w ah (by rw[<-vI (C U)];exact ai)
    cases b:gf E ops o2 with
    |val=>exact absurd (.inl b) n|load r=>exact absurd (.inr ⟨r,b⟩) n|Ni r=>rw[j,b] at a;simp[xA] at a
    |alloc d2=>
     obtain⟨I,D,rfl,k,F,t,i,B⟩:=xe b J;subst B;have G:d≠I:=λe=>a2 d w (by rw[k,e]);have hn:od P T E ops q soft2 o2 fr H2 (kV fr I D) H2:=xG k F (by rw[vI l];exact t);refine⟨_,_,hn,?_⟩;rw[i,c,Nf fr G];exact back hn
    |CB=>
     obtain⟨r,i,_,u⟩:=ET b J;have hn:=u fr λx V=>(l x V).symm;refine⟨_,_,hn,?_⟩;rw[i,c,BF fr (λe=>a2 d w e)];exact back hn
    |app=>
     obtain⟨I,x,k,i,B,u⟩:=D4 b J;subst B;have G:d≠I:=λe=>a2 d w (by rw[k,e]);have hn:=u fr H2 (λx V=>(l x V).symm) (by rw[c];rfl) (by rw[c];rfl);refine⟨_,_,hn,?_⟩;rw[i,c,Hj fr G];exact back hn
   |CB=>
    obtain⟨r,c,_,s⟩:=ET j K;cases b:gf E ops o2 with
    |val=>exact absurd (.inl b) n|load r=>exact absurd (.inr ⟨r,b⟩) n|Ni r=>rw[j,b] at a;simp[xA] at a
    |CB=>rw[j,b] at a;simp[xA] at a
    |alloc d2=>
     obtain⟨I,D,rfl,k,F,t,i,B⟩:=xe b J;subst B;have hn:od P T E ops q soft2 o2 fr H (kV fr I D) H:=xG k F (by rw[vI l];exact t);refine⟨_,_,hn,?_⟩;rw[i,c,<-BF fr (λe=>a2 I e k)];exact s _ λx V=>C hn x V
    |app=>grind[D4,Fr.yB,Sk]
   |app=>
    obtain⟨d,x,w,c,M,s⟩:=D4 j K;subst M;cases b:gf E ops o2 with
    |val=>exact absurd (.inl b) n|load r=>exact absurd (.inr ⟨r,b⟩) n|Ni r=>rw[j,b] at a;simp[xA] at a
    |app=>rw[j,b] at a;simp[xA] at a
    |alloc d2=>
     obtain⟨I,D,rfl,k,F,t,i,B⟩:=xe b J;subst B;have G:I≠d:=λe=>a2 d w (by rw[k,e]);have hn:od P T E ops q soft2 o2 fr H2 (kV fr I D) H2:=xG k F (by rw[vI l];exact t);refine⟨_,_,hn,?_⟩;rw[i,c,<-Hj fr G];exact s _ _ (λy W=>C hn y W) rfl rfl
    |CB=>
     obtain⟨r,i,_,u⟩:=ET b J;have hn:=u fr λy W=>(l y W).symm;obtain⟨e1,e2,e3,e4⟩:=Fr.yB fr o2.dst r;refine⟨_,_,hn,?_⟩;rw[i,c,<-Sk fr (λe=>a2 d w e)];exact s _ _ (λy W=>C hn y W) e3 e4
end
end Go.ld
namespace Go.ld
open Go
def hY(opsA:Array Oper)(o:Oper)(fr:Fr):Option Bool:=
 match o.guard with
 |none=>some true|some (j,want)=>
  match(opsA[j]?).bind (·.dst)with
  |some d=>match fr.env d with
   |.sc (.bool b)=>some (b==want)|.tuple _=>some false|_=>none
  |none=>none
def kA(E:List Nat)(o:Oper):Bool:=
 match o.op with
 |.call c=>(match c.callee with
  |.builtin .append=>o.dst.any E.contains|.value _=>o.dst.any E.contains|_=>false)
 |_=>false
def Zf(c:Call):Bool:=
 match c.callee with
 |.value _=>true|_=>false
def afs(P:Program)(T:eO)(q:Qt)(soft:Bool)(a:AV)(as:List AV)(dst:Option Nat)(K:Fr->dZ->Prop)(fr:Fr)(H:dZ):Prop:=
 ∃Post:AV->dZ->Prop,o7 P T a as H Post/\(∃r h,Post r h)/\∀r h,Post r h->(soft=true->QK q H h)/\K (fr.put dst r) h
def nX(P:Program)(T:eO)(q:Qt)(soft:Bool)(c:Call)(dst:Option Nat)(K:Fr->dZ->Prop)(fr:Fr)(H:dZ):Prop:=
 match c.callee with
 |.value f=>afs P T q soft (ev T fr f) (c.args.toList.map λx=>(ev T fr x).norm) dst K fr H|_=>pd P T c dst K fr H
def Vp(E:List Nat)(q:Qt)(x:Operand)(v:AV):Prop:=E.contains 999999=true->∃a off t,v=.fh a off/\x=.tmp t/\q.cl a=t
@[simp] theorem ajy{E:List Nat}{q:Qt}{x:Operand}{v:AV}(h:E.contains 999999=false):Vp E q x v=True:=eq_true λa=>by rw[h] at a;cases a
def FW(T:eO)(E:List Nat)(q:Qt)(fr:Fr)(o:Oper):Prop:=
 match o.op with
 |.store _ x _=>Vp E q x (ev T fr x)|_=>True
def o5(o:Oper):Option Nat:=
 match o.op with
 |.store _ (.tmp t) _=>some t|_=>none
def Ac(o:Oper):Bool:=
 match o.op with
 |.store _ _ _=>true|_=>false
def qU(P:Program)(T:eO)(E:List Nat)(ops:List Oper)(q:Qt)(soft:Bool)(o:Oper)(K:Fr->dZ->Prop)(fr:Fr)(H:dZ):Prop:=
 if kA E o then(match o.op with
  |.call c=>nX P T q soft c o.dst K fr H|_=>False)else if Ac o then(FW T E q fr o/\hV P T E ops q soft o K fr H)else hV P T E ops q soft o K fr H
def ib(P:Program)(T:eO)(E:List Nat)(opsA:Array Oper)(q:Qt)(soft:Bool)(o:Oper)(K:Fr->dZ->Prop)(fr:Fr)(H:dZ):Prop:=
 match hY opsA o fr with
 |some true=>qU P T E opsA.toList q soft o K fr H|some false=>K (fr.put o.dst (.tuple [])) H|none=>False
def MP(P:Program)(T:eO)(E:List Nat)(opsA:Array Oper)(q:Qt)(sf:Nat->Bool):List Nat->(Fr->dZ->Prop)->Fr->dZ->Prop
 |[],K,fr,H=>K fr H|i::rest,K,fr,H=>match opsA[i]?with
  |some o=>ib P T E opsA q (sf i) o (λfr H=>MP P T E opsA q sf rest K fr H) fr H|none=>False
section
variable{P:Program} {T:eO} {E:List Nat} {opsA:Array Oper} {q:Qt} {soft soft1 soft2:Bool} {o o1 o2:Oper} {K K':Fr->dZ->Prop} {fr fr':Fr} {H H':dZ}
def Ca(h:kA E o=true):∃c d,o.op=.call c/\(c.callee=.builtin .append\/∃f,c.callee=.value f)/\o.dst=some d:=by
 unfold kA at h
 split at h
 ·have a:o.dst.any E.contains=true->∃d,o.dst=some d:=by
   intro h;cases a:o.dst with
   |none=>grind|some d=>exact⟨d,rfl⟩
  grind
 ·cases h
def qn{ops:List Oper}{c:Call}(h:kA E o=true)(a:o.op=.call c):qU P T E ops q soft o K fr H=nX P T q soft c o.dst K fr H:=by grind[qU]
theorem oT{ops:List Oper}(h:kA E o=false):qU P T E ops q soft o K fr H=(FW T E q fr o/\hV P T E ops q soft o K fr H):=by grind[qU,Ac,FW]
theorem WL{ops:List Oper}(h:gf E ops o=.val\/∃r,gf E ops o=.load r):FW T E q fr o:=by grind[FW,gf]
def zj{f:Fr}(he:∀x∈o.op.operands,ev T fr x=ev T f x)(h:FW T E q fr o):FW T E q f o:=by
 unfold FW Vp at*
 split
 ·rename_i t x y a;rw[a] at h;intro b;obtain⟨c,off,s,d,i,j⟩:=h b;exact⟨c,off,s,by rw[<-he x (by rw[a];simp[Op.operands])];exact d,i,j⟩
 ·trivial
def BX{ops a:List Oper}(h:kA E o=false)(b:gf E a o=.val\/∃r,gf E a o=.load r):qU P T E ops q soft o K fr H=hV P T E ops q soft o K fr H:=by grind[oT,WL]
theorem NL{c:Call}{dst:Option Nat}(i:∀r h,K (fr.put dst r) h->K' (fr.put dst r) h)(h:pd P T c dst K fr H):pd P T c dst K' fr H:=by
 unfold pd at*
 split at h
 ·split at h
  ·obtain⟨a,b,d,f,h⟩:=h;refine⟨a,b,d,f,?_⟩
   grind
  ·exact h
 ·exact h
theorem Rv{c:Call}{dst:Option Nat}(h:pd P T c dst K fr H):∃r a,K (fr.put dst r) a:=by
 unfold pd at h
 split at h
 all_goals grind
def PQ{c:Call}{dst:Option Nat}{d:Nat}{v:AV}(n:∀x∈c.args.toList,ev T (fr.put (some d) v) x=ev T fr x)(a:dst≠some d)(h:pd P T c dst K (fr.put (some d) v) H):pd P T c dst (λf h=>K (f.put (some d) v) h) fr H:=by
 unfold pd at*
 split at h
 ·rename_i b s x t o i l;have j:b≠d:=λe=>a (by rw[e]);have k:∀y:AV,(fr.put (some b) y).put (some d) v=(fr.put (some d) v).put (some b) y:=λy=>m7 fr j y v
  simp_all
 ·exact h
theorem o7.mono{a:AV}{as:List AV}{Post Post':AV->dZ->Prop}(h:o7 P T a as H Post)(b:∀r h,Post r h->Post' r h):o7 P T a as H Post':=by
 unfold o7 at*
 split at h
 ·exact h.mono b
 ·exact h
theorem zV{c:Call}{dst:Option Nat}(d:∀r h,(Zf c=true->soft=true->QK q H h)->K (fr.put dst r) h->K' (fr.put dst r) h)(h:nX P T q soft c dst K fr H):nX P T q soft c dst K' fr H:=by
 unfold nX at*
 split at h
 ·obtain⟨Post,f,i,a⟩:=h;exact⟨Post,f,i,λr h b=>⟨(a r h b).1,d r h (λ_=>(a r h b).1) (a r h b).2⟩⟩
 ·grind[NL,Zf]
def WN{c:Call}{dst:Option Nat}(h:nX P T q soft c dst K fr H):∃r a,(Zf c=true->soft=true->QK q H a)/\K (fr.put dst r) a:=by
 unfold nX at h
 split at h
 ·obtain⟨Post,b,⟨r,a,d⟩,f⟩:=h
  grind
 ·grind[Rv,Zf]
def L5{c:Call}{dst:Option Nat}{d:Nat}{v:AV}(b:∀x∈c.operands.toList,ev T (fr.put (some d) v) x=ev T fr x)(i:dst≠some d)(h:nX P T q soft c dst K (fr.put (some d) v) H):nX P T q soft c dst (λf h=>K (f.put (some d) v) h) fr H:=by
 have a:∀x∈c.args.toList,ev T (fr.put (some d) v) x=ev T fr x:=λx j=>b x (by
  unfold Call.operands;rw[Array.toList_append]
  exact List.mem_append_right _ j)
 unfold nX at*
 split at h
 ·rename_i f o;obtain⟨Post,k,s,l⟩:=h;rw[b f (by unfold Call.operands;rw[o];simp),tN (g:=λx=>(ev T fr x).norm) (λx j=>by rw[a x j])] at k;refine⟨Post,k,s,λr h n=>⟨(l r h n).1,?_⟩⟩;have:=(l r h n).2;cases dst with
  |none=>exact this|some t=>grind[m7]
 ·exact PQ a i h
theorem J3(a:∀fr H,K fr H->K' fr H)(h:ib P T E opsA q soft o K fr H):ib P T E opsA q soft o K' fr H:=by
 unfold ib at*
 split at h
 ·cases hg:kA E o with
  |true=>
   obtain⟨c,d,b,_,f⟩:=Ca hg;rw[qn hg b] at h|-
   grind[zV]
  |false=>grind[oT,JC]
 ·exact a _ _ h
 ·exact h
theorem Ok(h:qU P T E opsA.toList q soft o K fr H):q9 P T E o K fr H:=by
 cases hg:kA E o with
 |true=>
  obtain⟨c,d,b,a,l⟩:=Ca hg;rw[qn hg b] at h;unfold q9;rw[b];rcases a with a|⟨f,a⟩
  ·grind[nX]
  ·simp only[a];unfold nX at h;rw[a] at h;obtain⟨Post,i,_,j⟩:=h;exact i.mono λr h k=>(j r h k).2
 |false=>
  rw[oT hg] at h;exact Pg h.2
def OD(h:ib P T E opsA q soft o K fr H):ES P T E opsA o K fr H:=by grind[ib,hY,ES,Ok]
theorem za(h:∀t,t∈o.looksAt opsA->fr'.env t=fr.env t):hY opsA o fr'=hY opsA o fr:=by
 unfold hY;cases hg:o.guard with
 |none=>rfl|some p=>
  obtain⟨j,want⟩:=p;simp only
  cases a:(opsA[j]?).bind (·.dst)with
  |none=>rfl|some d=>
   have:d∈o.looksAt opsA:=by
    unfold Oper.looksAt
    grind
   grind
theorem kJ{d:Option Nat}{v:AV}(h:∀a,d=some a->a∉o.looksAt opsA):hY opsA o (fr.put d v)=hY opsA o fr:=by grind[za,Fr.uo]
def Dj{c:Zw}{dst:Option Nat}(b:Left c dst soft q fr H fr' H')(h:∀a,dst=some a->a∉o.looksAt opsA):hY opsA o fr'=hY opsA o fr:=by
 refine za λt d=>b.env t ?_
 grind
def acK(E:List Nat)(opsA:Array Oper)(s1 s2:Bool)(o1 o2:Oper):Bool:=
 o1.apart opsA o2&&xA (gf E opsA.toList o1) (gf E opsA.toList o2)&&
 (match gf E opsA.toList o1,gf E opsA.toList o2 with
  |.load _,.CB=>s1&&s2|.CB,.load _=>s1&&s2|.load _,.Ni _=>s2|.Ni _,.load _=>s1|_,_=>true)
def HK(o:Oper):Bool:=
 match o.op with
 |.call c=>Zf c|_=>false
def LP(E:List Nat)(o:Oper):Bool:=
 match o.op,o.dst with
 |.alloc _,some d=>!E.contains d|_,_=>false
def LD(h:LP E o=true):∃t d,o.op=.alloc t/\o.dst=some d/\E.contains d=false:=by grind[LP]
def aca(E:List Nat)(opsA:Array Oper)(s1 s2:Bool)(o1 o2:Oper):Bool:=
 match gf E opsA.toList o2 with
 |.val=>true|.load _=>HK o1&&s1&&s2|.alloc _=>HK o1&&LP E o2|_=>false
def PS{s1 s2:Bool}(h:aca E opsA s1 s2 o1 o2=true):(gf E opsA.toList o2=.val\/(∃r,gf E opsA.toList o2=.load r)/\HK o1=true/\s1=true/\s2=true)\/HK o1=true/\LP E o2=true:=by grind[aca]
def abz(E:List Nat)(opsA:Array Oper)(s1 s2:Bool)(o1 o2:Oper):Bool:=
 if kA E o1||kA E o2 then
  o1.apart opsA o2&&(kA E o1&&!kA E o2&&aca E opsA s1 s2 o1 o2||kA E o2&&!kA E o1&&aca E opsA s2 s1 o2 o1)
 else if E.contains 999999&&(o5 o1).isSome&&(o5 o2).isSome&&o5 o1 !=o5 o2&&o1.dst==none&&o2.dst==none then true
 else acK E opsA s1 s2 o1 o2
def Ya{f:Fr}{h:dZ}(b:gf E opsA.toList o=.val)(he:∀x∈o.op.operands,ev T fr x=ev T f x):nH P T E opsA.toList q soft fr H o=nH P T E opsA.toList q soft f h o:=by
 refine zv he (λt x a=>?_) λt x i ok a=>?_
 all_goals grind[gf]
def JV{d:Option Nat}{v:AV}(b:∀a,d=some a->a∉o.looksAt opsA):∀x∈o.op.operands,ev T fr x=ev T (fr.put d v) x:=by grind[Fh,Fr.uo,Ja]
theorem GS{d1 d2:Option Nat}(h:∀d,d1=some d->d2≠some d)(x y:AV):(fr.put d1 x).put d2 y=(fr.put d2 y).put d1 x:=by
 cases d1 with
 |none=>rfl|some a=>
  cases d2 with
  |none=>rfl|some b=>grind[m7]
theorem UE{c:Call}(a:o.op=.call c){x:Operand}(b:x∈c.args.toList):x∈o.op.operands:=by
 rw[a];simp[Op.operands,Call.operands,yp.1 b]
def mj(h:ib P T E opsA q soft o K fr H):hY opsA o fr=some true/\qU P T E opsA.toList q soft o K fr H\/hY opsA o fr=some false/\K (fr.put o.dst (.tuple [])) H:=by grind[ib]
def s5(hg:hY opsA o fr=some true)(h:qU P T E opsA.toList q soft o K fr H):ib P T E opsA q soft o K fr H:=by grind[ib]
theorem ui(hg:hY opsA o fr=some false)(h:K (fr.put o.dst (.tuple [])) H):ib P T E opsA q soft o K fr H:=by grind[ib]
def KD{c:Call}(a:o.op=.call c){x:Operand}(b:x∈c.operands.toList):x∈o.op.operands:=by
 rw[a];exact yp.1 b
def ac5{c:Call}(a:gf E opsA.toList o2=.val\/(∃r,gf E opsA.toList o2=.load r)/\HK o1=true/\soft1=true/\soft2=true)(l:o1.op=.call c)(k:∀d,o1.dst=some d->d∉o2.looksAt opsA){r:AV}{f:dZ}
  (n:Zf c=true->soft1=true->QK q H f) {v:AV} (s:nH P T E opsA.toList q soft2 fr H o2=some v\/nH P T E opsA.toList q soft2 (fr.put o1.dst r) f o2=some v):nH P T E opsA.toList q soft2 fr H o2=nH P T E opsA.toList q soft2 (fr.put o1.dst r) f o2:=by
 rcases a with a|⟨⟨rr,a⟩,i,u,w⟩
 ·exact Ya a (JV k)
 ·have j:Zf c=true:=by unfold HK at i;rw[l] at i;exact i
  have x:Left .CB o1.dst true q fr H (fr.put o1.dst r) f:=⟨λt y=>by rw[Fr.uo,dK y],λb _ _=>⟨by cases o1.dst<;>rfl,by cases o1.dst<;>rfl⟩,λh=>(h rfl).elim,λ_=>n j u⟩;refine GK (o:=o2) (opsA:=opsA) x k (by rw[a];rfl) (λ_ _=>⟨λ_=>⟨w,rfl⟩,λ_ h=>by cases h⟩) s
def OZ(w:o1.apart opsA o2=true)(B:gf E opsA.toList o1=.val\/(∃r,gf E opsA.toList o1=.load r)/\HK o2=true/\soft2=true/\soft1=true)(s:kA E o1=false)(i:kA E o2=true)(h:ib P T E opsA q soft1 o1 (λfr H=>ib P T E opsA q soft2 o2 K fr H) fr H):ib P T E opsA q soft2 o2 (λfr H=>ib P T E opsA q soft1 o1 K fr H) fr H:=by
 obtain⟨a1,a2,a3⟩:=Oper.apart_spec w;obtain⟨c,d2,u,_,F⟩:=Ca i;have j:gf E opsA.toList o1=.val\/∃r,gf E opsA.toList o1=.load r:=B.imp id λh=>h.1
 have key:∃v,(∀r h,(Zf c=true->soft2=true->QK q H h)->K ((fr.put o2.dst r).put o1.dst v) h->ib P T E opsA q soft1 o1 K (fr.put o2.dst r) h)/\ib P T E opsA q soft2 o2 K (fr.put o1.dst v) H:=by
  rcases mj h with⟨k,n⟩|⟨k,n⟩
  ·rw[BX s j] at n;obtain⟨f1,H1,y,a⟩:=tR n;obtain⟨v,C,G,I⟩:=yT j y;rw[G,I] at a;refine⟨v,λr D A t=>s5 (by rw[kJ a3,k]) ?_,a⟩;rw[BX s j];exact wM (Cd (by rw[<-ac5 B u a3 A (.inl C)];exact C)) t
  ·exact⟨_,λr D _ t=>ui (by rw[kJ a3,k]) t,n⟩
 obtain⟨v,back,n⟩:=key;rcases mj n with⟨l,a⟩|⟨l,a⟩
 ·rw[kJ a1] at l;rw[qn i u] at a;refine s5 l ?_;rw[qn i u]
  have J:nX P T q soft2 c o2.dst (λf h=>K (f.put o1.dst v) h) fr H:=by
   cases b:o1.dst with
   |none=>rw[b] at a;exact a
   |some d=>rw[b] at a;exact L5 (λx L=>(JV (o:=o2) (opsA:=opsA) (d:=some d) (λM e=>by cases e;exact a1 d b) x (KD u L)).symm) (a2 d b) a
  exact zV (λr D A t=>back _ _ A t) J
 ·grind[kJ,GS,ui,QK.refl]
def Qc(D:o1.apart opsA o2=true)(M:gf E opsA.toList o2=.val\/(∃r,gf E opsA.toList o2=.load r)/\HK o1=true/\soft1=true/\soft2=true)(n:kA E o1=true)(A:kA E o2=false)(h:ib P T E opsA q soft1 o1 (λfr H=>ib P T E opsA q soft2 o2 K fr H) fr H):ib P T E opsA q soft2 o2 (λfr H=>ib P T E opsA q soft1 o1 K fr H) fr H:=by
 obtain⟨a1,a2,a3⟩:=Oper.apart_spec D;obtain⟨c,d1,C,_,N⟩:=Ca n;have s:gf E opsA.toList o2=.val\/∃r,gf E opsA.toList o2=.load r:=M.imp id λh=>h.1
 have inv:∀{r:AV} {y:dZ} {t:Fr->dZ->Prop},(Zf c=true->soft1=true->QK q H y)->ib P T E opsA q soft2 o2 t (fr.put o1.dst r) y->∃v,(hY opsA o2 fr=some true/\nH P T E opsA.toList q soft2 fr H o2=some v\/hY opsA o2 fr=some false/\v=.tuple [])/\t ((fr.put o1.dst r).put o2.dst v) y:=by
  intro r y t F O;rcases mj O with⟨a,b⟩|⟨a,b⟩
  ·rw[BX A s] at b;obtain⟨f1,H1,G,i⟩:=tR b;obtain⟨v,j,I,Q⟩:=yT s G;rw[I,Q] at i;exact⟨v,.inl ⟨by rw[<-kJ (o:=o2) a1];exact a,by rw[ac5 M C a1 F (.inr j)];exact j⟩,i⟩
  ·exact⟨_,.inr ⟨by rw[<-kJ (o:=o2) a1];exact a,rfl⟩,b⟩
 have fwd:∀{v:AV} {t:Fr->dZ->Prop},(hY opsA o2 fr=some true/\nH P T E opsA.toList q soft2 fr H o2=some v\/hY opsA o2 fr=some false/\v=.tuple [])->t (fr.put o2.dst v) H->ib P T E opsA q soft2 o2 t fr H:=by
  intro v t j k;rcases j with⟨a,j⟩|⟨a,rfl⟩
  ·refine s5 a ?_;rw[BX A s];exact wM (Cd j) k
  ·exact ui a k
 have uniq:∀{v w:AV},(hY opsA o2 fr=some true/\nH P T E opsA.toList q soft2 fr H o2=some v\/hY opsA o2 fr=some false/\v=.tuple [])->(hY opsA o2 fr=some true/\nH P T E opsA.toList q soft2 fr H o2=some w\/hY opsA o2 fr=some false/\w=.tuple [])->v=w:=by
  intro v w b i;rcases b with⟨g1,b⟩|⟨g1,rfl⟩<;>rcases i with⟨g2,i⟩|⟨g2,rfl⟩
  ·rw[b] at i;exact kX i
  ·rw[g1] at g2;cases g2
  ·rw[g1] at g2;cases g2
  ·rfl
 rcases mj h with⟨u,b⟩|⟨u,b⟩
 ·rw[qn n C] at b;obtain⟨V,W,J,L⟩:=WN b;obtain⟨v,j,_⟩:=inv J L;refine fwd j (s5 (by rw[kJ a3,u]) ?_);rw[qn n C]
  have i:nX P T q soft1 c o1.dst (λf h=>K (f.put o2.dst v) h) fr H:=zV (λr y F k=>by
   obtain⟨w,hw,k⟩:=inv F k;rw[uniq j hw]
   exact k) b
  cases l:o2.dst with
  |none=>rw[l] at i;exact i
  |some d=>
   rw[l] at i;have B:o1.dst≠some d:=λe=>a2 d e l
   have R:nX P T q soft1 c o1.dst (λf h=>K (f.put (some d) v) h) ((fr.put (some d) v).put (some d) (fr.env d)) H:=by
    rw[IG,Ev];exact i
   have S:=L5 (λx U=>(by
    have:=JV (o:=o1) (opsA:=opsA) (T:=T) (fr:=fr.put (some d) v) (d:=some d) (v:=fr.env d) (λX e=>by cases e;exact a3 d l) x (KD C U)
    exact this.symm)) B R
   refine zV (λr y _ k=>?_) S
   have I:(((fr.put (some d) v).put o1.dst r).put (some d) (fr.env d)).put (some d) v=(fr.put (some d) v).put o1.dst r:=by
    rw[IG];have hs:=Ev ((fr.put (some d) v).put o1.dst r) d
    have he:((fr.put (some d) v).put o1.dst r).env d=v:=by
     rw[Fr.uo,dK B,Fr.uo,dR rfl]
    rw[he] at hs;exact hs
   rw[I] at k;exact k
 ·obtain⟨v,j,k⟩:=inv (λ_ _=>QK.refl) b;refine fwd j (ui (by rw[kJ a3,u]) ?_);rw[<-GS a2];exact k
def Y'(d:Nat)(b:Bool)(z:List AV)(fr:Fr):Fr:=if b then kV fr d z else fr.put (some d) (.tuple [])
theorem TD{d t:Nat}{b:Bool}{z:List AV}(h:t≠d):(Y' d b z fr).env t=fr.env t:=by
 unfold Y'
 split
 ·show gL fr.env d _ t=_
  grind[gL]
 ·grind[Fr.uo]
theorem Ix{d:Nat}{b:Bool}{z:List AV}{a:Option Nat}(h:a≠some d)(v:AV):(Y' d b z fr).put a v=Y' d b z (fr.put a v):=by grind[Y',BF,GS]
theorem zD{t:TypeId}{d:Nat}(a:o.op=.alloc t)(c:o.dst=some d)(i:E.contains d=false):ib P T E opsA q soft o K fr H↔∃b z,hY opsA o fr=some b/\(b=true->kj P t=some z)/\K (Y' d b z fr) H:=by
 have hn:kA E o=false:=by unfold kA;rw[a]
 have hs:qU P T E opsA.toList q soft o K fr H=(match kj P t with|some z=>K (kV fr d z) H|none=>False):=by
  unfold qU Ac;rw[hn,a];simp only[ox,jb];unfold hV;rw[a];simp only;cases kj P t with
  |none=>rfl|some z=>
   simp only;unfold k7;rw[c];simp only;rw[dK (by rw[i];decide)];refine propext ⟨λh=>h.2,λh=>⟨λ_=>?_,h⟩⟩;show E.contains d=false;exact i
 constructor
 ·intro h;rcases mj h with⟨hg,h⟩|⟨hg,h⟩
  ·rw[hs] at h
   split at h
   ·rename_i z f;exact⟨true,z,hg,λ_=>f,h⟩
   ·exact h.elim
  ·rw[c] at h;exact⟨false,[],hg,(λe=>by cases e),h⟩
 ·rintro⟨b,z,hg,f,h⟩;cases b with
  |true=>
   refine s5 hg ?_;rw[hs,f rfl];exact h
  |false=>
   refine ui hg ?_;rw[c];exact h
def ahR{d:Nat}{b:Bool}{z:List AV}(a:d∉o.looksAt opsA):∀x∈o.op.operands,ev T (Y' d b z fr) x=ev T fr x:=by grind[Fh,TD,Ja]
theorem En{d:Nat}{b:Bool}{z:List AV}(a:d∉o.looksAt opsA):hY opsA o (Y' d b z fr)=hY opsA o fr:=by grind[za,TD]
def N3(h:HK o=true):∃c f,o.op=.call c/\c.callee=.value f:=by grind[HK,Zf]
def WJ{c:Call}{f:Operand}{d:Nat}{b:Bool}{z:List AV}(h:o.op=.call c)(i:c.callee=.value f)(j:d∉o.looksAt opsA):ev T (Y' d b z fr) f=ev T fr f/\(c.args.toList.map λx=>(ev T (Y' d b z fr) x).norm)=c.args.toList.map λx=>(ev T fr x).norm:=by
 have he:=λx a=>ahR (T:=T) (fr:=fr) (b:=b) (z:=z) j x a;refine⟨he f (KD h (by unfold Call.operands;rw[i];simp)),tN λx a=>?_⟩
 grind[UE]
def NY(k:o1.apart opsA o2=true)(l:LP E o1=true)(n:HK o2=true)(o:kA E o2=true)(h:ib P T E opsA q soft1 o1 (λfr H=>ib P T E opsA q soft2 o2 K fr H) fr H):ib P T E opsA q soft2 o2 (λfr H=>ib P T E opsA q soft1 o1 K fr H) fr H:=by
 obtain⟨a1,a2,a3⟩:=Oper.apart_spec k;obtain⟨t,d,u,j,v⟩:=LD l;obtain⟨c,f,w,x⟩:=N3 n;have s:o2.dst≠some d:=a2 d j;obtain⟨b,z,hg,C,h⟩:=(zD u j v).1 h;rcases mj h with⟨a,i⟩|⟨a,i⟩
 ·rw[En (a1 d j)] at a;refine s5 a ?_;rw[qn o w] at i|-;unfold nX at i|-;rw[x] at i|-;simp only at i|-;obtain⟨D,F⟩:=WJ (T:=T) (fr:=fr) (b:=b) (z:=z) w x (a1 d j);rw[D,F] at i;obtain⟨Post,G,I,y⟩:=i;refine⟨Post,G,I,λr A B=>⟨(y r A B).1,(zD u j v).2 ⟨b,z,by rw[kJ a3,hg],C,?_⟩⟩⟩;rw[<-Ix s];exact(y r A B).2
 ·grind[En,ui,zD,kJ,Ix]
def PX(n:o1.apart opsA o2=true)(o:HK o1=true)(s:LP E o2=true)(j:kA E o1=true)(h:ib P T E opsA q soft1 o1 (λfr H=>ib P T E opsA q soft2 o2 K fr H) fr H):ib P T E opsA q soft2 o2 (λfr H=>ib P T E opsA q soft1 o1 K fr H) fr H:=by
 obtain⟨a1,a2,a3⟩:=Oper.apart_spec n;obtain⟨t,d,u,a,v⟩:=LD s;obtain⟨c,f,w,x⟩:=N3 o;have y:o1.dst≠some d:=λe=>a2 d e a;rcases mj h with⟨k,i⟩|⟨k,i⟩
 ·rw[qn j w] at i;unfold nX at i;rw[x] at i;simp only at i;obtain⟨Post,M,⟨C,D,F⟩,A⟩:=i;obtain⟨b,z,hg,G,_⟩:=(zD u a v).1 (A C D F).2;rw[kJ a1] at hg;refine(zD u a v).2 ⟨b,z,hg,G,s5 (by rw[En (a3 d a),k]) ?_⟩;rw[qn j w];unfold nX;rw[x];simp only;obtain⟨N,O⟩:=WJ (T:=T) (fr:=fr) (b:=b) (z:=z) w x (a3 d a);rw[N,O];refine⟨Post,M,⟨C,D,F⟩,λr I J=>⟨(A r I J).1,?_⟩⟩;obtain⟨Q,R,l,B,L⟩:=(zD u a v).1 (A r I J).2;rw[kJ a1,hg] at l;obtain rfl:b=Q:=kX l;rw[Ix y];cases b with
  |true=>
   obtain rfl:z=R:=kX (by rw[<-G rfl,<-B rfl]);exact L
  |false=>exact L
 ·grind[zD,kJ,ui,En,Ix]
def ahL{t:TypeId}{a off:Nat}{v:AV}:l_ P t (.fh a off) v K fr H↔∃agg n cs,gb P t=some (agg,n)/\H[a]?=some cs/\(vu cs=true/\v.cells.length=n/\off+n<=cs.length/\fC v=true)/\K fr (H.set a (setCells cs off v.norm.cells)):=by grind[l_]
theorem G4{s:Nat}(h:o5 o=some s):∃t y,o.op=.store t (.tmp s) y:=by grind[o5]
def abp{s:Nat}(h:o5 o=some s):kA E o=false:=by grind[G4,kA]
def tT{ops:List Oper}{s:Nat}(l:E.contains 999999=true)(hs:o5 o=some s):qU P T E ops q soft o K fr H↔
  ∃t y a off agg n cs,o.op=.store t (.tmp s) y/\o.dst=none/\ev T fr (.tmp s)=.fh a off/\q.cl a=s/\rl ops (.tmp s) (.fh a off)=true/\soft=false/\gb P t=some (agg,n)/\H[a]?=some cs/\(vu cs=true/\(ev T fr y).cells.length=n/\off+n<=cs.length/\fC (ev T fr y)=true)/\K fr (H.set a (setCells cs off (ev T fr y).norm.cells)):=by
 obtain⟨t,y,r⟩:=G4 hs;rw[oT (abp hs)];unfold FW Vp hV;rw[r];simp only;constructor
 ·rintro⟨u,h,d,f,k⟩;obtain⟨a,off,A,c,i,j⟩:=u l;injection i with i;subst i;rw[c] at d f k;obtain⟨agg,n,cs,g1,g2,g3,g4⟩:=ahL.1 k;refine⟨t,y,a,off,agg,n,cs,rfl,h,c,j,d,?_,g1,g2,g3,g4⟩;cases b:soft with
  |false=>rfl|true=>have:=f b;simp[isL] at this
 ·rintro⟨B,C,a,off,agg,n,cs,v,h,c,j,d,f,g1,g2,g3,g4⟩;injection v with w D x;subst w;subst x;refine⟨λ_=>⟨a,off,s,c,rfl,j⟩,h,by rw[c];exact d,λb=>?_,?_⟩
  ·rw[f] at b;cases b
  ·rw[c];exact ahL.2 ⟨agg,n,cs,g1,g2,g3,g4⟩
def P1{s1 s2:Nat}(k:E.contains 999999=true)(l:o5 o1=some s1)(f:o5 o2=some s2)(u:s1≠s2)(h:ib P T E opsA q soft1 o1 (λfr H=>ib P T E opsA q soft2 o2 K fr H) fr H)(w:o1.dst=none)(x:o2.dst=none):ib P T E opsA q soft2 o2 (λfr H=>ib P T E opsA q soft1 o1 K fr H) fr H:=by
 have F:∀v,fr.put o1.dst v=fr:=λv=>by rw[w];rfl
 have R:∀v,fr.put o2.dst v=fr:=λv=>by rw[x];rfl
 rcases mj h with⟨i,s⟩|⟨i,s⟩
 ·obtain⟨t,y,A,off,agg,n,cs,G,I,J,B,L,M,N,O,Q,s⟩:=(tT k l).1 s;rcases mj s with⟨a,b⟩|⟨a,b⟩
  ·obtain⟨C,D,j,c,d,n',o,f0,f1,f2,f3,f4,f5,f6,f7,f8,b⟩:=(tT k f).1 b
   have r:A≠j:=by rintro rfl;exact u (B.symm.trans f3)
   rw[XD r] at f7;refine s5 a ((tT k f).2 ⟨C,D,j,c,d,n',o,f0,f1,f2,f3,f4,f5,f6,f7,f8,?_⟩);refine s5 i ((tT k l).2 ⟨t,y,A,off,agg,n,cs,G,I,J,B,L,M,N,?_,Q,?_⟩)
   ·rw[XD (λe=>r e.symm)];exact O
   ·rw[List.set_comm _ _ (λe=>r e.symm)];exact b
  ·refine ui a ?_;rw[R] at b|-;exact s5 i ((tT k l).2 ⟨t,y,A,off,agg,n,cs,G,I,J,B,L,M,N,O,Q,b⟩)
 ·rw[F] at s;rcases mj s with⟨a,b⟩|⟨a,b⟩
  ·obtain⟨C,D,j,c,d,n',o,f0,f1,f2,f3,f4,f5,f6,f7,f8,b⟩:=(tT k f).1 b;exact s5 a ((tT k f).2 ⟨C,D,j,c,d,n',o,f0,f1,f2,f3,f4,f5,f6,f7,f8,ui i (by rw[F];exact b)⟩)
  ·grind[ui,ib]
theorem Rp(c:abz E opsA soft1 soft2 o1 o2=true)(h:ib P T E opsA q soft1 o1 (λfr H=>ib P T E opsA q soft2 o2 K fr H) fr H):ib P T E opsA q soft2 o2 (λfr H=>ib P T E opsA q soft1 o1 K fr H) fr H:=by
 unfold abz at c
 by_cases hG:(kA E o1||kA E o2)=true
 ·rw[dR hG] at c;simp only[hE,tH,af6] at c;obtain⟨b,⟨⟨g1,g2⟩,g3⟩|⟨⟨g1,g2⟩,g3⟩⟩:=c
  ·rcases PS g3 with g3|⟨g3,g4⟩
   ·exact Qc b g3 g1 g2 h
   ·exact PX b g3 g4 g1 h
  ·rcases PS g3 with g3|⟨g3,g4⟩
   ·exact OZ b g3 g2 g1 h
   ·exact NY b g4 g3 g1 h
 rw[dK hG] at c
 by_cases L:(E.contains 999999&&(o5 o1).isSome&&(o5 o2).isSome&&o5 o1 !=o5 o2&&o1.dst==none&&o2.dst==none)=true
 ·simp only[hE,Option.isSome_iff_exists,bne_iff_ne,ne_eq,afj] at L;obtain⟨⟨⟨⟨⟨U,s1,o⟩,s2,s⟩,M⟩,w⟩,y⟩:=L;exact P1 U o s (by rintro rfl;exact M (by rw[o,s])) h w y
 rw[dK L] at c
 have A:kA E o1=false:=by cases V:kA E o1<;>simp_all
 have B:kA E o2=false:=by cases V:kA E o2<;>simp_all
 unfold acK at c;simp only[hE] at c;obtain⟨⟨b,D⟩,a⟩:=c;obtain⟨a1,a2,a3⟩:=Oper.apart_spec b
 have o:∀r,gf E opsA.toList o1=.load r->(gf E opsA.toList o2=.CB->soft1=true/\soft2=true)/\(∀F,gf E opsA.toList o2=.Ni F->soft2=true):=by
  intro r N;rw[N] at a;refine⟨λhe=>?_,λF he=>?_⟩<;>rw[he] at a
  ·simpa using a
  ·exact a
 have s:∀r,gf E opsA.toList o2=.load r->(gf E opsA.toList o1=.CB->soft2=true/\soft1=true)/\(∀F,gf E opsA.toList o1=.Ni F->soft1=true):=by
  intro r N;rw[N] at a;refine⟨λhe=>?_,λF he=>?_⟩<;>rw[he] at a
  ·have:soft1=true/\soft2=true:=by simpa using a
   exact⟨this.2,this.1⟩
  ·exact a
 unfold ib at h;simp only[oT A,oT B] at h
 split at h
 ·--O first one is carried out
  rename_i j;obtain⟨v,h⟩:=h;obtain⟨f1,H1,t,h⟩:=tR h;have G:=qb t;have C:hY opsA o2 f1=hY opsA o2 fr:=Dj G a1;rw[C] at h;unfold ib;simp only[oT A,oT B]
  split at h
  ·rename_i k;obtain⟨l,h⟩:=h;obtain⟨f2,H2,i,Q⟩:=tR h;obtain⟨f,W,n,I⟩:=UL b D o s t i;refine⟨zj (λx c=>(Fx (T:=T) (opsA:=opsA) G a1 x c).symm) l,wM n ?_⟩;have:hY opsA o1 f=hY opsA o1 fr:=Dj (qb n) a3;rw[this,j];exact⟨zj (Fx (T:=T) (opsA:=opsA) (qb n) a3) v,wM I Q⟩
  ·rename_i k
   show match hY opsA o1 (fr.put o2.dst (.tuple []))with
    |some true=>FW T E q (fr.put o2.dst (.tuple [])) o1/\hV P T E opsA.toList q soft1 o1 K (fr.put o2.dst (.tuple [])) H|some false=>K ((fr.put o2.dst (.tuple [])).put o1.dst (.tuple [])) H|none=>False
   rw[kJ a3,j];simp only;refine⟨zj (JV a3) v,?_⟩;cases u:o2.dst with
   |none=>rw[u] at h;exact wM t h
   |some d=>rw[u] at h;exact wM (O_ (opsA:=opsA) _ (a3 d u) (λe=>a2 d e u) t) h
  ·exact h.elim
 ·--O first one is left out
  rename_i j;have C:hY opsA o2 (fr.put o1.dst (.tuple []))=hY opsA o2 fr:=kJ a1;rw[C] at h;unfold ib;simp only[oT A,oT B]
  split at h
  ·rename_i k;obtain⟨l,h⟩:=h;obtain⟨f2,H2,i,Q⟩:=tR h
   have R:∃f,od P T E opsA.toList q soft2 o2 fr H f H2/\f.put o1.dst (.tuple [])=f2:=by
    cases u:o1.dst with
    |none=>rw[u] at i;exact⟨f2,i,rfl⟩
    |some d=>rw[u] at i;exact JG (opsA:=opsA) (a1 d u) (a2 d u) i
   obtain⟨f,J,S⟩:=R;refine⟨zj (λx c=>(JV a1 x c).symm) l,wM J ?_⟩;have:hY opsA o1 f=hY opsA o1 fr:=Dj (qb J) a3;rw[this,j];show K (f.put o1.dst (.tuple [])) H2;rw[S];exact Q
  ·rename_i k
   show match hY opsA o1 (fr.put o2.dst (.tuple []))with
    |some true=>FW T E q (fr.put o2.dst (.tuple [])) o1/\hV P T E opsA.toList q soft1 o1 K (fr.put o2.dst (.tuple [])) H|some false=>K ((fr.put o2.dst (.tuple [])).put o1.dst (.tuple [])) H|none=>False
   rw[kJ a3,j];simp only
   have:(fr.put o2.dst (.tuple [])).put o1.dst (.tuple [])=(fr.put o1.dst (.tuple [])).put o2.dst (.tuple []):=by
    cases w:o1.dst with
    |none=>rfl|some d1=>
     cases y:o2.dst with
     |none=>rfl|some d2=>exact m7 fr (λe=>a2 d1 w (by rw[y,e])) _ _
   rw[this];exact h
  ·exact h.elim
 ·exact h.elim
def QN{sf:Nat->Bool}{i:Nat}(hi:opsA[i]?=some o)(post:List Nat):∀(pre:List Nat) (fr:Fr) (H:dZ),(∀j∈pre,∀a,opsA[j]?=some a->abz E opsA (sf j) (sf i) a o=true)->MP P T E opsA q sf (pre++i::post) K fr H->ib P T E opsA q (sf i) o (λfr H=>MP P T E opsA q sf (pre++post) K fr H) fr H:=by
 intro pre
 induction pre with
 |nil=>grind[MP]|cons j pre ih=>
  intro fr H hex h;simp only[ad',MP] at h|-
  split at h
  all_goals grind[J3,Rp]
end
def yP(opsA:Array Oper):Bool:=opsA.toList.zipIdx.all λ(o,i)=>o.after.all λe=>!Region.binds .any e||decide (e.on<i)
def MG(opsA:Array Oper)(M:Array Nat):Bool:=
 (List.range opsA.size).all λi=>(List.range opsA.size).all λj=>!(M.getD i 0).testBit j||
  (opsA.getD i default).after.toList.any λe=>Region.binds .any e&&(e.on==j||(M.getD e.on 0).testBit j)
def By(E:List Nat)(opsA:Array Oper)(sf:Nat->Bool):Bool:=
 let M:=Region.before opsA
 yP opsA&&MG opsA M&&
 (List.range opsA.size).all λi=>(List.range i).all λj=>(M.getD i 0).testBit j||abz E opsA (sf j) (sf i) (opsA.getD j default) (opsA.getD i default)
section
variable{P:Program} {T:eO} {E:List Nat} {opsA:Array Oper} {q:Qt} {sf:Nat->Bool} {K:Fr->dZ->Prop}
def wu(opsA:Array Oper)(listed:Array Bool):List Nat:=(List.range opsA.size).filter λi=>!listed.getD i true
def TF{listed:Array Bool}{i:Nat}:i∈wu opsA listed↔i<opsA.size/\listed.getD i true=false:=by
 simp[wu]
def XY(M:Array Nat)(opsA:Array Oper)(listed:Array Bool):Prop:=∀i j,i<opsA.size->j<opsA.size->listed.getD i false=true->(M.getD i 0).testBit j=true->listed.getD j false=true
def C8{listed:Array Bool}{i:Nat}(d:Bool)(h:i<listed.size):(listed.setIfInBounds i true).getD i d=true:=by
 simp[h]
def Na{opsA:Array Oper}(a:yP opsA=true){listed:Array Bool}(d:listed.size=opsA.size){i:Nat}(hi:i<opsA.size)(f:listed.getD i true=false)
  (c:∀j,j<i->listed.getD j false=true):i∈Region.ready .any opsA listed:=by
 rw[mem_ready];unfold yP at a;rw[ll] at a
 have b:(opsA[i],i)∈opsA.toList.zipIdx:=by grind
 have:=a _ b;simp only[Lq] at this
 grind
def Hf{opsA:Array Oper}{M:Array Nat}(d:MG opsA M=true)(a:yP opsA=true){listed:Array Bool}(f:XY M opsA listed){i:Nat}(s:i∈Region.ready .any opsA listed){j:Nat}(n:j<opsA.size)
  (t:(M.getD i 0).testBit j=true):listed.getD j false=true:=by
 obtain⟨u,o,q,b⟩:=mem_ready.1 s;have hi:i<opsA.size:=(Vc.1 q).1;unfold MG at d;rw[ll] at d;have:=d i (by simpa using hi);rw[ll] at this;have:=this j (by simpa using n);rw[t] at this;simp only[aeF,WY,List.any_eq_true,yp,hE,tH,afj] at this;obtain⟨e,he,h,hor⟩:=this
 have k:opsA.getD i default=o:=by rw[OY,q];rfl
 rw[k] at he;have r:=b e he h;rcases hor with rfl|hor
 ·exact r
 ·have l:e.on<opsA.size:=by
   unfold yP at a;rw[ll] at a
   have c:(o,i)∈opsA.toList.zipIdx:=by grind
   have:=a _ c;simp only[Lq] at this
   grind
  exact f e.on j l n r hor
def UQ{listed:Array Bool}(d:listed.size=opsA.size){i:Nat}(hi:i<opsA.size)(a:listed.getD i true=false):∃pre post,wu opsA listed=pre++i::post/\wu opsA (listed.setIfInBounds i true)=pre++post/\∀j∈pre,j<i/\listed.getD j true=false:=by
 have c:List.range opsA.size=List.range i++i::(List.range' (i+1) (opsA.size-i-1)):=by
  rw[aam,aam]
  have:opsA.size=i+(1+(opsA.size-i-1)):=VW
  conv=>lhs;rw[this]
  rw[<-List.range'_append_1]
  congr 1
  rw[show 1+(opsA.size-i-1)=(opsA.size-i-1)+1 by omega,aeT];simp
 refine⟨(List.range i).filter (λj=>!listed.getD j true),(List.range' (i+1) (opsA.size-i-1)).filter (λj=>!listed.getD j true),?_,?_,?_⟩
 ·unfold wu;rw[c,aiq,List.filter_cons_of_pos (by simp[a])]
 ·unfold wu;rw[c,aiq,List.filter_cons_of_neg (by rw[C8 _ VW];simp)]
  congr 1
  ·refine aiR λj b=>?_
   have:j<i:=by simpa using b
   rw[getD_set_ne true VW]
  ·refine aiR λj b=>?_;have:=(List.mem_range'_1.1 b).1;rw[getD_set_ne true VW]
 ·grind
variable{n:Nat} {G0:Nat->Nat} {F0:kT} {n0:Nat} {w0:World}
def Al{listed:Array Bool}{i:Nat}(hi:i<listed.size):listed.getD i false=listed.getD i true:=by grind
def YI{Q:Exit->Act->World->Prop}(t:By E opsA sf=true)(B:Bu n opsA=true)(V:∀fr' H' L w',K fr' H'->SR T n G0 F0 n0 w0 fr' H' L w'->Q .normal L w'):∀(fuel:Nat) (listed:Array Bool) (fr:Fr) (H:dZ) (a:Act) (w:World),listed.size=opsA.size->XY (Region.before opsA) opsA listed->(wu opsA listed).length<=fuel->SR T n G0 F0 n0 w0 fr H a w->MP P T E opsA q sf (wu opsA listed) K fr H->wpAny P .any opsA Q fuel listed a w:=by
 unfold By at t;simp only[hE] at t;obtain⟨⟨c,W⟩,d⟩:=t
 have u:∀{listed:Array Bool},listed.size=opsA.size->Region.ready .any opsA listed=[]->wu opsA listed=[]:=by
  intro listed f C;cases b:wu opsA listed with
  |nil=>rfl|cons i rest=>
   exfalso
   have s:i∈wu opsA listed:=by rw[b];simp
   have hex:∃k,k<opsA.size/\listed.getD k true=false:=⟨i,TF.1 s⟩
   obtain⟨k,⟨M,N⟩,D⟩:∃k,(k<opsA.size/\listed.getD k true=false)/\∀j,j<k->¬(j<opsA.size/\listed.getD j true=false):=by
    clear b s;obtain⟨k,hk⟩:=hex
    induction k using Nat.strongRecOn with
    |_ k ih=>
     by_cases h:∃j,j<k/\(j<opsA.size/\listed.getD j true=false)
     ·obtain⟨j,v,x⟩:=h;exact ih j v x
     ·exact⟨k,hk,λj F hc=>h ⟨j,F,hc⟩⟩
   have:=Na c f M N λj F=>by
    have hn:=D j F
    have O:j<opsA.size:=VW
    rw[Al VW];cases hb:listed.getD j true with
    |true=>rfl|false=>exact absurd ⟨O,hb⟩ hn
   rw[C] at this;cases this
 intro fuel
 induction fuel with
 |zero=>
  intro listed fr H a w f l hlen hs h;have b:wu opsA listed=[]:=Cw VW;rw[b] at h;refine⟨?_,V _ _ _ _ h hs⟩;cases C:Region.ready .any opsA listed with
  |nil=>rfl|cons i rest=>
   have hm:i∈Region.ready .any opsA listed:=by rw[C];simp
   obtain⟨y,o,A,_⟩:=mem_ready.1 hm;have:i∈wu opsA listed:=TF.2 ⟨(Vc.1 A).1,y⟩;rw[b] at this;cases this
 |succ fuel ih=>
  intro listed fr H a w f l hlen hs h;refine⟨λC=>?_,λi hi=>?_⟩
  ·rw[u f C] at h;exact V _ _ _ _ h hs
  ·obtain⟨y,o,A,X⟩:=mem_ready.1 hi;have G:i<opsA.size:=(Vc.1 A).1;obtain⟨pre,post,Y,Z,h3⟩:=UQ f G y;rw[Y] at h
   have r:=QN (P:=P) (T:=T) (E:=E) (opsA:=opsA) (q:=q) (K:=K) (sf:=sf) A post pre fr H (by
    intro j F oj R;obtain⟨v,x⟩:=h3 j F;rw[ll] at d;have:=d i (by simpa using G);rw[ll] at this;have:=this j (by simpa using v);simp only[tH] at this
    have e1:opsA.getD j default=oj:=by rw[OY,R];rfl
    have e2:opsA.getD i default=o:=by rw[OY,A];rfl
    rw[e1,e2] at this;rcases this with hb|hb
    ·have:=Hf W c l hi VW hb;rw[Al VW,x] at this;cases this
    ·exact hb) h
   have S:sM n o=true:=Lq.1 B o (aac A);refine GZ A S hs (OD r) ?_;intro fr' H' L w' hK U;refine ih (listed.setIfInBounds i true) fr' H' L w' (by simpa using f) ?_ ?_ U (by rw[Z];exact hK)
   ·--still closed
    intro i' j' hi' I hl hb
    by_cases he:j'=i
    ·subst he;exact C8 _ VW
    ·rw[getD_set_ne false (λe=>he e.symm)]
     by_cases J:i'=i
     ·subst J;exact Hf W c l hi I hb
     ·rw[getD_set_ne false (λe=>J e.symm)] at hl;exact l i' j' hi' I hl hb
   ·rw[Y] at hlen;rw[Z];simp only[nB,mN] at hlen|-;omega
end
section
variable{P:Program} {T:eO} {n:Nat} {Q:Exit->Fr->dZ->Prop} {fr:Fr} {H:dZ}
def SR.drew{G0:Nat->Nat}{F0:kT}{n0:Nat}{w0:World}{a:Act}{w:World}(hs:SR T n G0 F0 n0 w0 fr H a w):SR T n G0 F0 n0 w0 fr H a w.drew:=by
 obtain⟨ρ,F,R,hw,b⟩:=hs;exact⟨ρ,F,R,hw.drew,b.drew⟩
def h9.XF{id:Nat}{ops:Array Oper}(E:List Nat)(q:Qt)(sf:Nat->Bool)(hm:P.follows .mixedOrders=true)(c:Bu n ops=true)(d:By E ops sf=true)
  (h:MP P T E ops q sf (List.range ops.size) (Q .normal) fr H):h9 P T n (.region id ops true) Q fr H:=by
 intro G0 F0 n0 w0 a w hs;refine wp_region_any hm ?_
 have b:wu ops (Array.replicate ops.size false)=List.range ops.size:=by
  unfold wu
  simp_all
 have:=YI (Q:=λe f w'=>∃fr' H',Q e fr' H'/\SR T n G0 F0 n0 w0 fr' H' f w') d c (λfr' H' f w' k l=>⟨fr',H',k,l⟩) ops.size (Array.replicate ops.size false) fr H a w.drew aaA
  (by intro i j hi r o;simp[hi] at o) (by rw[b];simp) hs.drew (by rw[b];exact h)
 exact this
end
end Go.ld
namespace Go.ld
open Go
section
variable{P:Program} {T:eO} {n:Nat} {Q:Exit->Fr->dZ->Prop} {fr:Fr} {H:dZ}
def h9.DM{x y:Code}(h:∀K:Fr->dZ->Prop,(∀fr H,h9 P T n y Q fr H->K fr H)->h9 P T n x (IM K Q) fr H):h9 P T n (.seq x y) Q fr H:=
 h9.seq (h _ λ_ _ h=>h)
def h9.GJ{id:Nat}{c:Code}(h:∀Q':Exit->Fr->dZ->Prop,(∀fr H,Q .normal fr H->Q' .normal fr H)->(∀fr H,Q .normal fr H->Q' (.exit id) fr H)->(∀a fr H,a≠id->Q (.exit a) fr H->Q' (.exit a) fr H)->(∀fr H,Q .ret fr H->Q' .ret fr H)->h9 P T n c Q' fr H):h9 P T n (.block id c) Q fr H:=by
 refine h9.block (h (I6 id Q) (λ_ _ h=>h) (λ_ _ h=>?_) (λa _ _ b h=>?_) (λ_ _ h=>h))
 ·simp only[I6,if_true];exact h
 ·simp only[I6,dK b];exact h
end
@[simp] theorem abG(K:Fr->dZ->Prop)(Q:Exit->Fr->dZ->Prop):IM K Q .normal=K:=rfl
end Go.ld
