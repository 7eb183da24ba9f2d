/- Part of the proof of KernelLifts, KernelPuts, KernelCuts: layer. -/
import Derived.Test.YtobcafblgapgfaaGreatDoorL5
set_option linter.all false
namespace Go.tq
open Go
theorem JN{α:Type}(f:Nat->α){i j:Nat}(h:i≠j)(x y:α):kQ (kQ f i x) j y=kQ (kQ f j y) i x:=by grind[kQ]
def ss(fr:Fr)(d:Nat)(cs:List AV):Fr:=
 {fr with env:=kQ fr.env d (.mD d (fr.gen d+1) 0),box:=kQ fr.box d (some cs),gen:=kQ fr.gen d (fr.gen d+1)}
def Js(P:Program)(T:fx)(fr:Fr)(o:Oper):Option (List AV):=
 match o.op with
 |.alloc t=>q_ P t|.box _ x=>if iu (ev T fr x) then some (ev T fr x).cells else none|_=>none
inductive uk where
 |grow (tag:Tag) (l m:List AV)|same (l:List AV)
def uk.fr(fr:Fr)(d:Nat):uk->Fr
 |.grow tag l m=>grown fr d tag l m|.same l=>fr.put (some d) (.slice .pw l)
def SL(P:Program)(T:fx)(fr:Fr)(c:Call)(x:uk):Prop:=
 ∃s y t e sz tag a l m,c.args.toList=[s,y]/\c.argTypes.toList=[t,t]/\zb P t=some (e,sz)/\ev T fr s=.slice tag l/\ev T fr y=.slice a m/\ui sz l=true/\ui sz m=true/\l.length+m.length<=uM/\(xP fr tag l=true/\x=.grow tag l m\/xP fr tag l=false/\m=[]/\x=.same l)
section
variable{P:Program} {T:fx} {E:List Nat} {ops:List Oper} {opsA:Array Oper} {q soft soft1 soft2:Bool} {o o1 o2:Oper} {K:Fr->dM->Prop} {fr fr1 fr2 fr':Fr} {H H1 H2 H':dM}
def YG{c:Call}{dst:Option Nat}(h:uU P T c dst (λf h=>f=fr'/\h=H') fr H):∃d x,dst=some d/\SL P T fr c x/\fr'=x.fr fr d/\H'=H:=by
 unfold uU at h
 split at h
 ·rename_i d s y t j a b
  split at h
  ·rename_i e sz tag l g m k n o;obtain⟨rfl,g2,g3,g4,g5⟩:=h
   split at g5
   ·rename_i i;exact⟨d,.grow tag l m,rfl,⟨s,y,j,e,sz,tag,g,l,m,a,b,k,n,o,g2,g3,g4,.inl ⟨i,rfl⟩⟩,g5.1.symm,g5.2.symm⟩
   ·rename_i i;exact⟨d,.same l,rfl,⟨s,y,j,e,sz,tag,g,l,m,a,b,k,n,o,g2,g3,g4,.inr ⟨by simpa using i,g5.1,rfl⟩⟩,g5.2.1.symm,g5.2.2.symm⟩
  ·grind
 ·exact h.elim
def ZK{c:Call}{d:Nat}{x:uk}(g:SL P T fr c x)(b:K (x.fr fr d) H):uU P T c (some d) K fr H:=by
 obtain⟨s,y,t,e,sz,tag,f,l,m,h,i,j,k,n,o,p,q,r⟩:=g;unfold uU;rw[h,i];simp only[j,k,n];refine⟨trivial,o,p,q,?_⟩;rcases r with⟨a,rfl⟩|⟨a,hm,rfl⟩
 ·rw[cL a];exact b
 ·rw[cJ (by simp[a])];exact⟨hm,b⟩
def SL.congr{c:Call}{x:uk}(f:SL P T fr c x)(he:∀y∈c.args.toList,ev T fr y=ev T fr' y)(g:fr'.CX=fr.CX)(hg:fr'.gN=fr.gN):SL P T fr' c x:=by
 obtain⟨s,y,t,e,sz,tag,a,l,m,b,h,i,j,k,n,o,p,q⟩:=f
 have d:xP fr' tag l=xP fr tag l:=by unfold xP;rw[g,hg]
 exact⟨s,y,t,e,sz,tag,a,l,m,b,h,i,by rw[<-he s (by rw[b];simp)];exact j,by rw[<-he y (by rw[b];simp)];exact k,n,o,p,by rw[d];exact q⟩
def Lq(a:ld E ops o=.val\/∃r,ld E ops o=.load r)(h:wy P T E ops q soft o fr H fr' H'):∃v,z_ P T E ops q soft fr H o=some v/\fr'=fr.put o.dst v/\H'=H:=by grind[wy,ld,lN]
def Rp{v:AV}(h:z_ P T E ops q soft fr H o=some v):wy P T E ops q soft o fr H (fr.put o.dst v) H:=by grind[wy,z_,lN]
def ER{d:Option Nat}(k:ld E ops o=.alloc d)(h:wy P T E ops q soft o fr H fr' H'):∃a cs,d=some a/\o.dst=some a/\E.contains a=false/\Js P T fr o=some cs/\fr'=ss fr a cs/\H'=H:=by
 unfold wy at h;obtain⟨dst,op,type,pos,after,guard⟩:=o
 have key:∀{cs:List AV} {a:Nat},dst=some a->E.contains a=false->rG E dst cs (λf h=>f=fr'/\h=H') fr H->fr'=ss fr a cs/\H'=H:=by
  intro cs a m n e;subst m;unfold rG at e;simp only at e;rw[cJ (by simp only[n];simp)] at e;exact⟨e.1.symm,e.2.symm⟩
 have b:(∃t,op=.alloc t)\/(∃t x,op=.box t x)->∃a,d=some a/\dst=some a/\E.contains a=false:=by
  intro g
  have:(match dst with|some d=>if E.contains d then X5.Km else .alloc (some d)|none=>.Km)=.alloc d:=by
   rcases g with⟨t,rfl⟩|⟨t,x,rfl⟩<;>exact k
  grind
 cases op with
 |alloc t=>
  obtain⟨a,l,i,j⟩:=b (.inl ⟨t,rfl⟩)
  grind[lN,Js]
 |box t x=>
  obtain⟨a,l,i,j⟩:=b (.inr ⟨t,x,rfl⟩);simp only[lN] at h;obtain⟨g1,g2⟩:=key i j h.2.2;exact⟨a,_,l,i,j,by simp only[Js];rw[cL h.1],g1,g2⟩
 |call c=>grind[ld]|_=>simp[ld] at k
def FC{d:Nat}{cs:List AV}(a:o.dst=some d)(b:E.contains d=false)(h:Js P T fr o=some cs):wy P T E ops q soft o fr H (ss fr d cs) H:=by grind[wy,rG,ss,Js,lN]
def DK(h:∀x∈o.op.operands,ev T fr x=ev T fr' x):Js P T fr o=Js P T fr' o:=by
 obtain⟨dst,op,type,pos,after,guard⟩:=o;cases op with
 |box t x=>simp only[Js];rw[h x (by simp[Op.operands])]|_=>rfl
def Lh(s:ld E ops o=.Km)(h:wy P T E ops q soft o fr H fr' H'):∃r,fr'=fr.put o.dst r/\(soft=true->q=true->H'=H)/\∀f:Fr,(∀x∈o.op.operands,ev T fr x=ev T f x)->wy P T E ops q soft o f H (f.put o.dst r) H':=by
 unfold wy at h;obtain⟨dst,op,type,pos,after,guard⟩:=o
 have a:∀{cs:List AV},((∃t,op=.alloc t)\/(∃t x,op=.box t x))->rG E dst cs (λf h=>f=fr'/\h=H') fr H->∃d,dst=some d/\E.contains d=true/\fr'=fr.put dst (.gS H.length 0)/\H'=H++[cs.map AV.ra]/\∀f:Fr,rG E dst cs (λf' h=>f'=f.put dst (.gS H.length 0)/\h=H') f H:=by
  intro cs u i
  have hm:(match dst with|some d=>if E.contains d then X5.Km else .alloc (some d)|none=>.Km)=.Km:=by
   rcases u with⟨t,rfl⟩|⟨t,x,rfl⟩<;>exact s
  unfold rG at i
  split at i
  ·rename_i d
   split at i
   ·rename_i k;refine⟨d,rfl,k,i.1.symm,i.2.symm,λf=>?_⟩;unfold rG;simp only;rw[cL k];exact⟨rfl,i.2⟩
   ·rename_i k;simp only[cJ k] at hm;cases hm
  ·exact i.elim
 cases op with
 |alloc t=>
  simp only[lN] at h
  split at h
  ·rename_i z C;obtain⟨d,l,j,n,v,y⟩:=a (.inl ⟨t,rfl⟩) h.2
   grind[wy,lN]
  ·exact h.elim
 |box t x=>
  simp only[lN] at h;obtain⟨d,l,j,n,v,y⟩:=a (.inr ⟨t,x,rfl⟩) h.2.2;refine⟨_,n,?_,λf p=>?_⟩
  ·intro hs D;have:=h.2.1 hs;rw[l] at this;exact absurd this (by simp only[Option.any_some,j];simp)
  ·unfold wy;simp only[lN];have e:=p x (by simp[Op.operands]);refine⟨by rw[<-e];exact h.1,h.2.1,?_⟩;rw[<-e];exact y f
 |call c=>
  obtain⟨callee,args,QR⟩:=c;cases callee with
  |builtin b=>cases b<;>simp[ld] at s
  |value g=>
   simp only[lN] at h;obtain⟨r,w,l,j,n,v⟩:=h;subst v;refine⟨r,n.symm,j,λf p=>?_⟩;unfold wy;simp only[lN];refine⟨r,w,?_,j,rfl,rfl⟩
   have A:(args.toList.map λx=>(ev T fr x).norm)=args.toList.map λx=>(ev T f x).norm:=
    pg λx B=>by rw[p x (by simp[Op.operands,Call.operands,Ib.1 B])]
   rw[<-A,<-p g (by simp[Op.operands,Call.operands])];exact l
  |invoke r m=>simp only[lN] at h
 |_=>simp[ld] at s
theorem Ll(a:ld E ops o=.app)(h:wy P T E ops q soft o fr H fr' H'):∃d x,o.dst=some d/\fr'=uk.fr fr d x/\H'=H/\∀(f:Fr) (h:dM),(∀x∈o.op.operands,ev T fr x=ev T f x)->f.CX=fr.CX->f.gN=fr.gN->wy P T E ops q soft o f h (uk.fr f d x) h:=by
 unfold wy at h;obtain⟨dst,op,type,pos,after,guard⟩:=o;cases op with
 |call c=>
  obtain⟨callee,args,QR⟩:=c;cases callee with
  |builtin b=>
   cases b with
   |append=>
    simp only[lN] at h;obtain⟨d,x,e,i,j,k⟩:=YG h;subst e;refine⟨d,x,rfl,j,k,λf h he l hg=>?_⟩;unfold wy;simp only[lN];refine ZK (i.congr (λy hy=>he y ?_) l hg) ⟨rfl,rfl⟩;simp only at hy;simp[Op.operands,Call.operands,Ib.1 hy]
   |_=>simp[ld] at a
  |value g=>simp[ld] at a
  |invoke r m=>simp[ld] at a
 |alloc t=>grind[ld]|box t x=>grind[ld]|_=>simp[ld] at a
def Xb{r:Option Nat}(d:ld E ops o=.R4 r)(h:wy P T E ops q soft o fr H fr' H'):fr'.env=fr.env/\fr'.gen=fr.gen/\fr'.CX=fr.CX/\fr'.gN=fr.gN/\o.dst=none/\(∀b,r≠some b->fr'.box b=fr.box b)/\(soft=true->H'=H):=by
 unfold wy at h;obtain⟨dst,op,type,pos,after,guard⟩:=o;cases op with
 |store t x y=>
  simp only[ld,X5.R4.injEq] at d;simp only[lN] at h;obtain⟨e,f,i,a⟩:=h;unfold uh at a
  split at a
  ·exact a.elim
  ·split at a
   ·rename_i b g off j
    split at a
    ·obtain⟨_,_,_,_,g1,g2⟩:=a;subst g1;subst g2
     grind[Ac,kQ,Jq]
    ·exact a.elim
   all_goals grind[isL]
 |call c=>grind[ld]|alloc t=>grind[ld]|box t x=>simp only[ld] at d;split at d<;>(try split at d)<;>simp at d
 |_=>simp[ld] at d
theorem SH(fr:Fr)(d:Nat):fr.put (some d) (fr.env d)=fr:=by
 simp only[Fr.put]
 have:kQ fr.env d (fr.env d)=fr.env:=by grind[kQ]
 rw[this]
theorem Vi(fr:Fr)(d:Nat)(x y:AV):(fr.put (some d) x).put (some d) y=fr.put (some d) y:=by grind[Fr.put,RH]
structure Left (c:X5) (dst:Option Nat) (soft q:Bool) (fr:Fr) (H:dM) (fr':Fr) (H':dM):Prop where
 env:∀t,dst≠some t->fr'.env t=fr.env t
 box:∀b,c≠ .alloc (some b)->c≠ .R4 (some b)->fr'.box b=fr.box b/\fr'.gen b=fr.gen b
 heap:c≠ .Km->(∀r,c=.R4 r->soft=true)->H'=H
 quiet:soft=true->q=true->H'=H
def uk.left(fr:Fr)(d:Nat)(x:uk):(∀t,t≠d->(uk.fr fr d x).env t=fr.env t)/\(uk.fr fr d x).box=fr.box/\(uk.fr fr d x).gen=fr.gen:=by
 cases x with
 |grow tag l m=>exact⟨λt a=>by show kQ _ _ _ t=_;rw[Jq _ _ _ _ a],rfl,rfl⟩|same l=>exact⟨λt a=>by show kQ _ _ _ t=_;rw[Jq _ _ _ _ a],rfl,rfl⟩
def Ar(h:wy P T E ops q soft o fr H fr' H'):Left (ld E ops o) o.dst soft q fr H fr' H':=by
 have a:∀(v:AV) (t:Nat),o.dst≠some t->(fr.put o.dst v).env t=fr.env t:=by
  intro v t i;rw[Fr.Lk,cJ i]
 cases g:ld E ops o with
 |val=>
  obtain⟨v,_,rfl,rfl⟩:=Lq (.inl g) h;obtain⟨c,f,_,_⟩:=Fr.Gi fr o.dst v;exact⟨a v,λb _ _=>⟨by rw[c],by rw[f]⟩,λ_ _=>rfl,λ_ _=>rfl⟩
 |load r=>
  obtain⟨v,_,rfl,rfl⟩:=Lq (.inr ⟨r,g⟩) h;obtain⟨c,f,_,_⟩:=Fr.Gi fr o.dst v;exact⟨a v,λb _ _=>⟨by rw[c],by rw[f]⟩,λ_ _=>rfl,λ_ _=>rfl⟩
 |alloc d=>
  obtain⟨n,cs,rfl,k,_,_,rfl,rfl⟩:=ER g h;refine⟨λt i=>?_,λb l _=>?_,λ_ _=>rfl,λ_ _=>rfl⟩
  ·show kQ _ _ _ t=_;rw[Jq];rintro rfl;exact i k
  ·have j:b≠n:=by rintro rfl;exact l rfl
   exact⟨Jq _ _ _ _ j,Jq _ _ _ _ j⟩
 |Km=>
  obtain⟨r,rfl,p,_⟩:=Lh g h;obtain⟨c,f,_,_⟩:=Fr.Gi fr o.dst r;exact⟨a r,λb _ _=>⟨by rw[c],by rw[f]⟩,λhn _=>absurd rfl hn,p⟩
 |app=>
  obtain⟨d,x,k,rfl,rfl,_⟩:=Ll g h;obtain⟨g1,g2,g3⟩:=uk.left fr d x;exact⟨λt i=>g1 t (by rintro rfl;exact i k),λb _ _=>⟨by rw[g2],by rw[g3]⟩,λ_ _=>rfl,λ_ _=>rfl⟩
 |R4 r=>
  obtain⟨c,f,u,w,y,s,m⟩:=Xb g h;exact⟨λt _=>by rw[c],λb _ l=>⟨s b (λe=>l (by rw[e])),by rw[f]⟩,λ_ hs=>m (hs r rfl),λhs _=>m hs⟩
def TE{d:Nat}(v:AV)(b:d∉o.looksAt opsA)(a:o.dst≠some d)(h:wy P T E ops q soft o fr H fr' H'):wy P T E ops q soft o (fr.put (some d) v) H (fr'.put (some d) v) H':=by
 have c:lN P T E ops q soft o (λf h=>f=fr'/\h=H') ((fr.put (some d) v).put (some d) (fr.env d)) H:=by
  rw[Vi,SH];exact h
 obtain⟨f,g,e,i,j⟩:=Hc (Q9 (opsA:=opsA) b a c);have he:=(Ar e).env d a
 grind[Vi,Fr.Lk,SH]
def PD{d:Nat}{v:AV}(b:d∉o.looksAt opsA)(a:o.dst≠some d)(h:wy P T E ops q soft o (fr.put (some d) v) H fr' H'):∃f,wy P T E ops q soft o fr H f H'/\f.put (some d) v=fr':=by
 obtain⟨f,c,e,g,i⟩:=Hc (Q9 (opsA:=opsA) b a h)
 grind
theorem Xz{x:Operand}{t:Nat}(a:x∈o.op.operands)(b:x=.tmp t):t∈o.looksAt opsA:=by
 subst b;exact YP _ (ab5.2 ⟨.tmp t,by simpa using a,rfl⟩)
def R2{c:X5}{dst:Option Nat}(a:Left c dst soft q fr H fr' H')(b:∀d,dst=some d->d∉o.looksAt opsA):∀x∈o.op.operands,ev T fr x=ev T fr' x:=by
 intro x e;refine TQ λt f=>?_;rw[a.env]
 grind[Xz]
def Q0{c:X5}{dst:Option Nat}(u:Left c dst soft2 q fr H fr' H')(y:∀d,dst=some d->d∉o.looksAt opsA)(e:Fx (ld E ops o) c=true)
  (hs:∀r,ld E ops o=.load r->(c=.Km->soft=true/\soft2=true)/\(∀z,c=.R4 z->soft2=true)) {v:AV} (hv:z_ P T E ops q soft fr H o=some v\/z_ P T E ops q soft fr' H' o=some v):z_ P T E ops q soft fr H o=z_ P T E ops q soft fr' H' o:=by
 have m:=R2 (T:=T) (opsA:=opsA) u y
 by_cases j:∃t x,o.op=.load t x
 ·obtain⟨t,x,a⟩:=j;have A:=m x (by rw[a];simp[Op.operands])
  have k:ld E ops o=.load (ME ops x):=by unfold ld;rw[a]
  obtain⟨n,p⟩:=hs _ k;rw[k] at e
  have l:Ac ops x (ev T fr x)=true/\(!soft||q||!Zw (ev T fr x))=true:=by
   have:∀(f:Fr) (h:dM),z_ P T E ops q soft f h o=some v->ev T f x=ev T fr x->Ac ops x (ev T fr x)=true/\(!soft||q||!Zw (ev T fr x))=true:=by grind[z_]
   rcases hv with hv|hv
   ·exact this fr H hv rfl
   ·exact this fr' H' hv A.symm
  refine Kq m (λG I he=>?_) (λ_ _ _ _ he=>by rw[a] at he;cases he);rw[a] at he;injection he with B C;subst B;subst C;refine⟨λb g off D=>?_,λhg=>?_⟩
  ·have s:ME ops x=some b:=by
    have:=l.1;rw[D] at this;simpa[Ac] using this
   rw[s] at e;have:=u.box b (by rintro rfl;simp[Fx] at e) (by rintro rfl;simp[Fx] at e);exact⟨this.1.symm,this.2.symm⟩
  ·by_cases he:c=.Km
   ·obtain⟨g1,g2⟩:=n he
    have w:q=true:=by
     have:=l.2;rw[g1,hg] at this;simpa using this
    exact(u.quiet g2 w).symm
   ·exact(u.heap he p).symm
 ·refine Kq m (λt x he=>absurd ⟨t,x,he⟩ j) λt x i ok a=>?_
  have k:ld E ops o=.load none:=by unfold ld;rw[a]
  obtain⟨n,p⟩:=hs _ k
  have w:(!soft||q)=true:=by
   have:∀(f:Fr) (h:dM),z_ P T E ops q soft f h o=some v->(!soft||q)=true:=by
    intro f h hv;unfold z_ at hv;rw[a] at hv;simp only at hv
    split at hv
    ·rename_i F;exact F
    ·cases hv
   rcases hv with hv|hv
   ·exact this _ _ hv
   ·exact this _ _ hv
  by_cases he:c=.Km
  ·obtain⟨g1,g2⟩:=n he;rw[g1] at w;exact(u.quiet g2 (by simpa using w)).symm
  ·exact(u.heap he p).symm
def Si(fr:Fr){d b:Nat}(h:d≠b)(cs a:List AV):ss (ss fr d cs) b a=ss (ss fr b a) d cs:=by
 simp only[ss,Jq _ _ _ _ h,Jq _ _ _ _ h.symm]
 grind[JN]
def Nc(fr:Fr){d:Nat}{d2:Option Nat}(h:d2≠some d)(cs:List AV)(r:AV):(ss fr d cs).put d2 r=ss (fr.put d2 r) d cs:=by
 cases d2 with
 |none=>rfl|some a=>grind[ss,Fr.put,JN]
theorem U4(fr:Fr){d:Nat}{d2:Option Nat}(h:d2≠some d)(x:uk)(r:AV):uk.fr (fr.put d2 r) d x=(uk.fr fr d x).put d2 r:=by
 cases d2 with
 |none=>rfl|some b=>
  have a:b≠d:=λe=>h (by rw[e]);cases x with
  |grow tag l m=>
   simp only[uk.fr,grown,Fr.put]
   grind[JN]
  |same l=>exact A7 fr a r (.slice .pw l)
def Nh(fr:Fr){d a:Nat}(h:d≠a)(cs:List AV)(x:uk):uk.fr (ss fr d cs) a x=ss (uk.fr fr a x) d cs:=by
 cases x with
 |grow tag l m=>
  simp only[uk.fr,grown,ss]
  grind[JN]
 |same l=>grind[uk.fr,Fr.put,ss,JN]
def VV(R:o1.apart opsA o2=true)(a:Fx (ld E ops o1) (ld E ops o2)=true)
  (S:∀r,ld E ops o1=.load r->(ld E ops o2=.Km->soft1=true/\soft2=true)/\(∀K,ld E ops o2=.R4 K->soft2=true))
  (U:∀r,ld E ops o2=.load r->(ld E ops o1=.Km->soft2=true/\soft1=true)/\(∀K,ld E ops o1=.R4 K->soft1=true))
  (F:wy P T E ops q soft1 o1 fr H fr1 H1) (D:wy P T E ops q soft2 o2 fr1 H1 fr2 H2):∃f h,wy P T E ops q soft2 o2 fr H f h/\wy P T E ops q soft1 o1 f h fr2 H2:=by
 obtain⟨a1,a2,a3⟩:=Oper.apart_spec R
 by_cases G:ld E ops o1=.val\/∃r,ld E ops o1=.load r
 ·obtain⟨v,L,c,I⟩:=Lq G F;subst I
  have V:∃f,wy P T E ops q soft2 o2 fr H1 f H2/\f.put o1.dst v=fr2:=by
   cases s:o1.dst with
   |none=>rw[s] at c;subst c;exact⟨fr2,D,rfl⟩
   |some d=>rw[s] at c;subst c;exact PD (opsA:=opsA) (a1 d s) (a2 d s) D
  obtain⟨f,M,W⟩:=V;have t:Fx (ld E ops o1) (ld E ops o2)=true:=a;have:=Q0 (o:=o1) (soft:=soft1) (Ar M) a3 t S (.inl L);refine⟨f,H2,M,?_⟩;rw[<-W];exact Rp (by rw[<-this];exact L)
 ·--aa second one only J
  by_cases l:ld E ops o2=.val\/∃r,ld E ops o2=.load r
  ·obtain⟨v,L,c,I⟩:=Lq l D;subst I
   have t:Fx (ld E ops o2) (ld E ops o1)=true:=by
    revert a
    cases ld E ops o1<;>cases ld E ops o2<;>simp[Fx]<;>(intro h e;exact h e.symm)
   have:=Q0 (o:=o2) (soft:=soft2) (Ar F) a1 t U (.inr L);refine⟨fr.put o2.dst v,H,Rp (by rw[this];exact L),?_⟩;rw[c];cases s:o2.dst with
   |none=>exact F|some d=>exact TE (opsA:=opsA) v (a3 d s) (λe=>a2 d e s) F
  ·--N
   have X:=Ar F;have k:∀x∈o2.op.operands,ev T fr x=ev T fr1 x:=R2 (T:=T) (opsA:=opsA) X a1;have w:∀{f:Fr} {h:dM} (O:wy P T E ops q soft2 o2 fr H f h),∀x∈o1.op.operands,ev T fr x=ev T f x:=λO=>R2 (T:=T) (opsA:=opsA) (Ar O) a3;cases i:ld E ops o1 with
   |val=>exact absurd (.inl i) G|load r=>exact absurd (.inr ⟨r,i⟩) G|R4 r=>
    rw[i] at a;cases b:ld E ops o2 with
    |val=>exact absurd (.inl b) l|load K=>exact absurd (.inr ⟨K,b⟩) l|_=>rw[b] at a;simp[Fx] at a
   |alloc d1=>
    obtain⟨d,cs,rfl,s,Y,Z,c,I⟩:=ER i F;subst I
    have back:∀{f:Fr} {h:dM} (O:wy P T E ops q soft2 o2 fr H1 f h),wy P T E ops q soft1 o1 f h (ss f d cs) h:=λO=>
     FC s Y (by rw[<-DK (w O)];exact Z)
    cases b:ld E ops o2 with
    |val=>exact absurd (.inl b) l|load r=>exact absurd (.inr ⟨r,b⟩) l|R4 r=>rw[i,b] at a;simp[Fx] at a
    |alloc d2=>
     obtain⟨C,z,rfl,j,A,n,g,u⟩:=ER b D;subst u;have B:d≠C:=λe=>a2 d s (by rw[j,e]);have hn:wy P T E ops q soft2 o2 fr H2 (ss fr C z) H2:=FC j A (by rw[DK k];exact n);refine⟨_,_,hn,?_⟩;rw[g,c,Si fr B];exact back hn
    |Km=>
     obtain⟨r,g,_,p⟩:=Lh b D;have hn:=p fr λx Q=>(k x Q).symm;refine⟨_,_,hn,?_⟩;rw[g,c,Nc fr (λe=>a2 d s e)];exact back hn
    |app=>
     obtain⟨C,x,j,g,u,p⟩:=Ll b D;subst u;have B:d≠C:=λe=>a2 d s (by rw[j,e]);have hn:=p fr H2 (λx Q=>(k x Q).symm) (by rw[c];rfl) (by rw[c];rfl);refine⟨_,_,hn,?_⟩;rw[g,c,Nh fr B];exact back hn
   |Km=>
    obtain⟨r,c,_,m⟩:=Lh i F;cases b:ld E ops o2 with
    |val=>exact absurd (.inl b) l|load r=>exact absurd (.inr ⟨r,b⟩) l|R4 r=>rw[i,b] at a;simp[Fx] at a
    |Km=>rw[i,b] at a;simp[Fx] at a
    |alloc d2=>
     obtain⟨C,z,rfl,j,A,n,g,u⟩:=ER b D;subst u;have hn:wy P T E ops q soft2 o2 fr H (ss fr C z) H:=FC j A (by rw[DK k];exact n);refine⟨_,_,hn,?_⟩;rw[g,c,<-Nc fr (λe=>a2 C e j)];exact m _ λx Q=>w hn x Q
    |app=>grind[Ll,Fr.Gi,U4]
   |app=>
    obtain⟨d,x,s,c,I,m⟩:=Ll i F;subst I;cases b:ld E ops o2 with
    |val=>exact absurd (.inl b) l|load r=>exact absurd (.inr ⟨r,b⟩) l|R4 r=>rw[i,b] at a;simp[Fx] at a
    |app=>rw[i,b] at a;simp[Fx] at a
    |alloc d2=>
     obtain⟨C,z,rfl,j,A,n,g,u⟩:=ER b D;subst u;have B:C≠d:=λe=>a2 d s (by rw[j,e]);have hn:wy P T E ops q soft2 o2 fr H2 (ss fr C z) H2:=FC j A (by rw[DK k];exact n);refine⟨_,_,hn,?_⟩;rw[g,c,<-Nh fr B];exact m _ _ (λy hy=>w hn y hy) rfl rfl
    |Km=>
     obtain⟨r,g,_,p⟩:=Lh b D;have hn:=p fr λy hy=>(k y hy).symm;obtain⟨e1,e2,e3,e4⟩:=Fr.Gi fr o2.dst r;refine⟨_,_,hn,?_⟩;rw[g,c,<-U4 fr (λe=>a2 d s e)];exact m _ _ (λy hy=>w hn y hy) e3 e4
end
end Go.tq
namespace Go.tq
open Go
def pk(opsA:Array Oper)(o:Oper)(fr:Fr):Option Bool:=
 match o.guard with
 |none=>some true|some (j,want)=>
  match(opsA[j]?).bind (·.dst)with
  |some d=>match fr.env d with
   |.sc (.bool b)=>some (b==want)|.tuple _=>some false|_=>none
  |none=>none
def uf(P:Program)(T:fx)(E:List Nat)(opsA:Array Oper)(q soft:Bool)(o:Oper)(K:Fr->dM->Prop)(fr:Fr)(H:dM):Prop:=
 match pk opsA o fr with
 |some true=>lN P T E opsA.toList q soft o K fr H|some false=>K (fr.put o.dst (.tuple [])) H|none=>False
def O_(P:Program)(T:fx)(E:List Nat)(opsA:Array Oper)(q:Bool)(sf:Nat->Bool):List Nat->(Fr->dM->Prop)->Fr->dM->Prop
 |[],K,fr,H=>K fr H|i::rest,K,fr,H=>match opsA[i]?with
  |some o=>uf P T E opsA q (sf i) o (λfr H=>O_ P T E opsA q sf rest K fr H) fr H|none=>False
section
variable{P:Program} {T:fx} {E:List Nat} {opsA:Array Oper} {q soft soft1 soft2:Bool} {o o1 o2:Oper} {K K':Fr->dM->Prop} {fr fr':Fr} {H H':dM}
theorem Ku(a:∀fr H,K fr H->K' fr H)(h:uf P T E opsA q soft o K fr H):uf P T E opsA q soft o K' fr H:=by grind[uf,Qa]
def Tv(h:uf P T E opsA q soft o K fr H):LD P T E opsA o K fr H:=by grind[uf,pk,LD,Ti]
theorem LS(h:∀t,t∈o.looksAt opsA->fr'.env t=fr.env t):pk opsA o fr'=pk opsA o fr:=by
 unfold pk;cases hg:o.guard with
 |none=>rfl|some p=>
  obtain⟨j,want⟩:=p;simp only
  cases a:(opsA[j]?).bind (·.dst)with
  |none=>rfl|some d=>
   have:d∈o.looksAt opsA:=by
    unfold Oper.looksAt
    grind
   grind
def Mx{d:Option Nat}{v:AV}(h:∀a,d=some a->a∉o.looksAt opsA):pk opsA o (fr.put d v)=pk opsA o fr:=by grind[LS,Fr.Lk]
def Kx{c:X5}{dst:Option Nat}(b:Left c dst soft q fr H fr' H')(h:∀a,dst=some a->a∉o.looksAt opsA):pk opsA o fr'=pk opsA o fr:=by
 refine LS λt d=>b.env t ?_
 grind
def Yj(E:List Nat)(opsA:Array Oper)(s1 s2:Bool)(o1 o2:Oper):Bool:=
 o1.apart opsA o2&&Fx (ld E opsA.toList o1) (ld E opsA.toList o2)&&
 (match ld E opsA.toList o1,ld E opsA.toList o2 with
  |.load _,.Km=>s1&&s2|.Km,.load _=>s1&&s2|.load _,.R4 _=>s2|.R4 _,.load _=>s1|_,_=>true)
theorem UK(t:Yj E opsA soft1 soft2 o1 o2=true)(h:uf P T E opsA q soft1 o1 (λfr H=>uf P T E opsA q soft2 o2 K fr H) fr H):uf P T E opsA q soft2 o2 (λfr H=>uf P T E opsA q soft1 o1 K fr H) fr H:=by
 unfold Yj at t;simp only[ew] at t;obtain⟨⟨m,n⟩,a⟩:=t;obtain⟨a1,a2,a3⟩:=Oper.apart_spec m
 have u:∀r,ld E opsA.toList o1=.load r->(ld E opsA.toList o2=.Km->soft1=true/\soft2=true)/\(∀s,ld E opsA.toList o2=.R4 s->soft2=true):=by
  intro r D;rw[D] at a;refine⟨λhe=>?_,λs he=>?_⟩<;>rw[he] at a
  ·simpa using a
  ·exact a
 have v:∀r,ld E opsA.toList o2=.load r->(ld E opsA.toList o1=.Km->soft2=true/\soft1=true)/\(∀s,ld E opsA.toList o1=.R4 s->soft1=true):=by grind
 unfold uf at h
 split at h
 ·--w first one is carried out
  rename_i c;obtain⟨f1,H1,i,h⟩:=Hc h;have x:=Ar i;have l:pk opsA o2 f1=pk opsA o2 fr:=Kx x a1;rw[l] at h;unfold uf
  split at h
  ·rename_i g;obtain⟨f2,H2,b,y⟩:=Hc h;obtain⟨f,F,k,o⟩:=VV m n u v i b;refine I4 k ?_;have:pk opsA o1 f=pk opsA o1 fr:=Kx (Ar k) a3;rw[this,c];exact I4 o y
  ·rename_i g
   show match pk opsA o1 (fr.put o2.dst (.tuple []))with
    |some true=>lN P T E opsA.toList q soft1 o1 K (fr.put o2.dst (.tuple [])) H|some false=>K ((fr.put o2.dst (.tuple [])).put o1.dst (.tuple [])) H|none=>False
   rw[Mx a3,c];simp only;cases j:o2.dst with
   |none=>rw[j] at h;exact I4 i h
   |some d=>rw[j] at h;exact I4 (TE (opsA:=opsA) _ (a3 d j) (λe=>a2 d e j) i) h
  ·exact h.elim
 ·--w first one is left out
  rename_i c;have l:pk opsA o2 (fr.put o1.dst (.tuple []))=pk opsA o2 fr:=Mx a1;rw[l] at h;unfold uf
  split at h
  ·rename_i g;obtain⟨f2,H2,b,y⟩:=Hc h
   have z:∃f,wy P T E opsA.toList q soft2 o2 fr H f H2/\f.put o1.dst (.tuple [])=f2:=by
    cases j:o1.dst with
    |none=>rw[j] at b;exact⟨f2,b,rfl⟩
    |some d=>rw[j] at b;exact PD (opsA:=opsA) (a1 d j) (a2 d j) b
   obtain⟨f,p,A⟩:=z;refine I4 p ?_;have:pk opsA o1 f=pk opsA o1 fr:=Kx (Ar p) a3;rw[this,c];show K (f.put o1.dst (.tuple [])) H2;rw[A];exact y
  ·rename_i g
   show match pk opsA o1 (fr.put o2.dst (.tuple []))with
    |some true=>lN P T E opsA.toList q soft1 o1 K (fr.put o2.dst (.tuple [])) H|some false=>K ((fr.put o2.dst (.tuple [])).put o1.dst (.tuple [])) H|none=>False
   rw[Mx a3,c];simp only
   have:(fr.put o2.dst (.tuple [])).put o1.dst (.tuple [])=(fr.put o1.dst (.tuple [])).put o2.dst (.tuple []):=by
    cases B:o1.dst with
    |none=>rfl|some d1=>
     cases C:o2.dst with
     |none=>rfl|some d2=>exact A7 fr (λe=>a2 d1 B (by rw[C,e])) _ _
   rw[this];exact h
  ·exact h.elim
 ·exact h.elim
def US{sf:Nat->Bool}{i:Nat}(hi:opsA[i]?=some o)(post:List Nat):∀(pre:List Nat) (fr:Fr) (H:dM),(∀j∈pre,∀a,opsA[j]?=some a->Yj E opsA (sf j) (sf i) a o=true)->O_ P T E opsA q sf (pre++i::post) K fr H->uf P T E opsA q (sf i) o (λfr H=>O_ P T E opsA q sf (pre++post) K fr H) fr H:=by
 intro pre
 induction pre with
 |nil=>grind[O_]|cons j pre b=>
  intro fr H hex h;simp only[XU,O_] at h|-
  split at h
  all_goals grind[Ku,UK]
end
def GX(opsA:Array Oper):Bool:=opsA.toList.zipIdx.all λ(o,i)=>o.after.all λe=>!Region.binds .any e||decide (e.on<i)
def R5(opsA:Array Oper)(M:Array Nat):Bool:=
 (List.range opsA.size).all λi=>(List.range opsA.size).all λj=>!(M.getD i 0).testBit j||
  (opsA.getD i default).after.toList.any λe=>Region.binds .any e&&(e.on==j||(M.getD e.on 0).testBit j)
def GK(E:List Nat)(opsA:Array Oper)(sf:Nat->Bool):Bool:=
 let M:=Region.before opsA
 GX opsA&&R5 opsA M&&
 (List.range opsA.size).all λi=>(List.range i).all λj=>(M.getD i 0).testBit j||Yj E opsA (sf j) (sf i) (opsA.getD j default) (opsA.getD i default)
section
variable{P:Program} {T:fx} {E:List Nat} {opsA:Array Oper} {q:Bool} {sf:Nat->Bool} {K:Fr->dM->Prop}
def Ep(opsA:Array Oper)(listed:Array Bool):List Nat:=(List.range opsA.size).filter λi=>!listed.getD i true
def U7{listed:Array Bool}{i:Nat}:i∈Ep opsA listed↔i<opsA.size/\listed.getD i true=false:=by
 simp[Ep]
def XY(M:Array Nat)(opsA:Array Oper)(listed:Array Bool):Prop:=∀i j,i<opsA.size->j<opsA.size->listed.getD i false=true->(M.getD i 0).testBit j=true->listed.getD j false=true
def Kf{listed:Array Bool}{i:Nat}(d:Bool)(h:i<listed.size):(listed.setIfInBounds i true).getD i d=true:=by
 simp[h]
def St{opsA:Array Oper}(a:GX opsA=true){listed:Array Bool}(d:listed.size=opsA.size){i:Nat}(hi:i<opsA.size)(e:listed.getD i true=false)
  (c:∀j,j<i->listed.getD j false=true):i∈Region.ready .any opsA listed:=by
 rw[mem_ready];unfold GX at a;rw[gR] at a
 have b:(opsA[i],i)∈opsA.toList.zipIdx:=by grind
 have:=a _ b;simp only[QF] at this
 grind
def NC{opsA:Array Oper}{M:Array Nat}(d:R5 opsA M=true)(a:GX opsA=true){listed:Array Bool}(f:XY M opsA listed){i:Nat}(p:i∈Region.ready .any opsA listed){j:Nat}(l:j<opsA.size)
  (q:(M.getD i 0).testBit j=true):listed.getD j false=true:=by
 obtain⟨r,o,m,b⟩:=mem_ready.1 p;have hi:i<opsA.size:=(VC.1 m).1;unfold R5 at d;rw[gR] at d;have:=d i (by simpa using hi);rw[gR] at this;have:=this j (by simpa using l);rw[q] at this;simp only[YJ,QL,List.any_eq_true,Ib,ew,mu,beq_iff_eq] at this;obtain⟨e,he,g,hor⟩:=this
 have h:opsA.getD i default=o:=by rw[TB,m];rfl
 rw[h] at he;have n:=b e he g;rcases hor with rfl|hor
 ·exact n
 ·have k:e.on<opsA.size:=by
   unfold GX at a;rw[gR] at a
   have c:(o,i)∈opsA.toList.zipIdx:=by grind
   have:=a _ c;simp only[QF] at this
   grind
  exact f e.on j k l n hor
def V9{listed:Array Bool}(d:listed.size=opsA.size){i:Nat}(hi:i<opsA.size)(a:listed.getD i true=false):∃pre post,Ep opsA listed=pre++i::post/\Ep opsA (listed.setIfInBounds i true)=pre++post/\∀j∈pre,j<i/\listed.getD j true=false:=by
 have c:List.range opsA.size=List.range i++i::(List.range' (i+1) (opsA.size-i-1)):=by
  rw[XI,XI]
  have:opsA.size=i+(1+(opsA.size-i-1)):=Zb
  conv=>lhs;rw[this]
  rw[<-List.range'_append_1]
  congr 1
  rw[show 1+(opsA.size-i-1)=(opsA.size-i-1)+1 by omega,YQ];simp
 refine⟨(List.range i).filter (λj=>!listed.getD j true),(List.range' (i+1) (opsA.size-i-1)).filter (λj=>!listed.getD j true),?_,?_,?_⟩
 ·unfold Ep;rw[c,ade,List.filter_cons_of_pos (by simp[a])]
 ·unfold Ep;rw[c,ade,List.filter_cons_of_neg (by rw[Kf _ Zb];simp)]
  congr 1
  ·refine adq λj b=>?_
   have:j<i:=by simpa using b
   rw[getD_set_ne true Zb]
  ·refine adq λj b=>?_;have:=(List.mem_range'_1.1 b).1;rw[getD_set_ne true Zb]
 ·grind
variable{n:Nat} {G0:Nat->Nat} {F0:rv} {n0:Nat} {w0:World}
def H4{listed:Array Bool}{i:Nat}(hi:i<listed.size):listed.getD i false=listed.getD i true:=by grind
def WG{Q:Exit->Act->World->Prop}(p:GK E opsA sf=true)(x:HO n opsA=true)(R:∀fr' H' F w',K fr' H'->SR T n G0 F0 n0 w0 fr' H' F w'->Q .normal F w'):∀(fuel:Nat) (listed:Array Bool) (fr:Fr) (H:dM) (a:Act) (w:World),listed.size=opsA.size->XY (Region.before opsA) opsA listed->(Ep opsA listed).length<=fuel->SR T n G0 F0 n0 w0 fr H a w->O_ P T E opsA q sf (Ep opsA listed) K fr H->wpAny P .any opsA Q fuel listed a w:=by
 unfold GK at p;simp only[ew] at p;obtain⟨⟨c,S⟩,d⟩:=p
 have r:∀{listed:Array Bool},listed.size=opsA.size->Region.ready .any opsA listed=[]->Ep opsA listed=[]:=by
  intro listed f y;cases b:Ep opsA listed with
  |nil=>rfl|cons i rest=>
   exfalso
   have m:i∈Ep opsA listed:=by rw[b];simp
   have hex:∃k,k<opsA.size/\listed.getD k true=false:=⟨i,U7.1 m⟩
   obtain⟨k,⟨G,I⟩,z⟩:∃k,(k<opsA.size/\listed.getD k true=false)/\∀j,j<k->¬(j<opsA.size/\listed.getD j true=false):=by
    clear b m;obtain⟨k,hk⟩:=hex
    induction k using Nat.strongRecOn with
    |_ k J=>
     by_cases h:∃j,j<k/\(j<opsA.size/\listed.getD j true=false)
     ·obtain⟨j,s,t⟩:=h;exact J j s t
     ·exact⟨k,hk,λj A hc=>h ⟨j,A,hc⟩⟩
   have:=St c f G I λj A=>by
    have hn:=z j A
    have L:j<opsA.size:=Zb
    rw[H4 Zb];cases hb:listed.getD j true with
    |true=>rfl|false=>exact absurd ⟨L,hb⟩ hn
   rw[y] at this;cases this
 intro fuel
 induction fuel with
 |zero=>
  intro listed fr H a w f g hlen hs h;have b:Ep opsA listed=[]:=Df Zb;rw[b] at h;refine⟨?_,R _ _ _ _ h hs⟩;cases y:Region.ready .any opsA listed with
  |nil=>rfl|cons i rest=>
   have hm:i∈Region.ready .any opsA listed:=by rw[y];simp
   obtain⟨u,o,v,_⟩:=mem_ready.1 hm;have:i∈Ep opsA listed:=U7.2 ⟨(VC.1 v).1,u⟩;rw[b] at this;cases this
 |succ fuel J=>
  intro listed fr H a w f g hlen hs h;refine⟨λy=>?_,λi hi=>?_⟩
  ·rw[r f y] at h;exact R _ _ _ _ h hs
  ·obtain⟨u,o,v,U⟩:=mem_ready.1 hi;have B:i<opsA.size:=(VC.1 v).1;obtain⟨pre,post,V,W,h3⟩:=V9 f B u;rw[V] at h
   have l:=US (P:=P) (T:=T) (E:=E) (opsA:=opsA) (q:=q) (K:=K) (sf:=sf) v post pre fr H (by
    intro j A oj M;obtain⟨s,t⟩:=h3 j A;rw[gR] at d;have:=d i (by simpa using B);rw[gR] at this;have:=this j (by simpa using s);simp only[mu] at this
    have e1:opsA.getD j default=oj:=by rw[TB,M];rfl
    have e2:opsA.getD i default=o:=by rw[TB,v];rfl
    rw[e1,e2] at this;rcases this with hb|hb
    ·have:=NC S c g hi Zb hb;rw[H4 Zb,t] at this;cases this
    ·exact hb) h
   have N:Bs n o=true:=QF.1 x o (VE v);refine Nq v N hs (Tv l) ?_;intro fr' H' F w' hK O;refine J (listed.setIfInBounds i true) fr' H' F w' (by simpa using f) ?_ ?_ O (by rw[W];exact hK)
   ·--still closed
    intro X Y hi' C Z hb
    by_cases he:Y=i
    ·subst he;exact Kf _ Zb
    ·rw[getD_set_ne false (λe=>he e.symm)]
     by_cases D:X=i
     ·subst D;exact NC S c g hi C hb
     ·rw[getD_set_ne false (λe=>D e.symm)] at Z;exact g X Y hi' C Z hb
   ·rw[V] at hlen;rw[W];simp only[oG,hQ] at hlen|-;omega
end
section
variable{P:Program} {T:fx} {n:Nat} {Q:Exit->Fr->dM->Prop} {fr:Fr} {H:dM}
def SR.drew{G0:Nat->Nat}{F0:rv}{n0:Nat}{w0:World}{a:Act}{w:World}(hs:SR T n G0 F0 n0 w0 fr H a w):SR T n G0 F0 n0 w0 fr H a w.drew:=by
 obtain⟨ρ,F,R,hw,b⟩:=hs;exact⟨ρ,F,R,hw.drew,b.drew⟩
def jF.T'{id:Nat}{ops:Array Oper}(E:List Nat)(q:Bool)(sf:Nat->Bool)(hm:P.follows .mixedOrders=true)(c:HO n ops=true)(d:GK E ops sf=true)
  (h:O_ P T E ops q sf (List.range ops.size) (Q .normal) fr H):jF P T n (.region id ops true) Q fr H:=by
 intro G0 F0 n0 w0 a w hs;refine wp_region_any hm ?_
 have b:Ep ops (Array.replicate ops.size false)=List.range ops.size:=by
  unfold Ep
  simp_all
 have:=WG (Q:=λe f w'=>∃fr' H',Q e fr' H'/\SR T n G0 F0 n0 w0 fr' H' f w') d c (λfr' H' f w' g k=>⟨fr',H',g,k⟩) ops.size (Array.replicate ops.size false) fr H a w.drew aae
  (by intro i j hi m l;simp[hi] at l) (by rw[b];simp) hs.drew (by rw[b];exact h)
 exact this
def Bh(P:Program)(T:fx)(E:List Nat)(opsA:Array Oper)(q:Bool):List Oper->(Fr->dM->Prop)->Fr->dM->Prop
 |[],K,fr,H=>K fr H|o::rest,K,fr,H=>uf P T E opsA q true o (λfr H=>Bh P T E opsA q rest K fr H) fr H
def Sc{E:List Nat}{ops:Array Oper}{q:Bool}{K:Fr->dM->Prop}:∀(l:List Oper) (k:Nat) (fr:Fr) (H:dM),l=ops.toList.drop k->Bh P T E ops q l K fr H->O_ P T E ops q (λ_=>true) (List.range' k l.length) K fr H:=by
 intro l
 induction l with
 |nil=>intro k fr H _ h;exact h|cons o l c=>
  intro k fr H a h
  have b:k<ops.toList.length:=by
   rcases zj k ops.toList.length with h'|h'
   ·exact h'
   ·rw[Od h'] at a;cases a
  have d:=MC b;rw[d] at a;injection a with f e
  have hi:ops[k]?=some o:=by grind
  simp only[hQ,YQ,O_,hi];exact Ku (λfr H h=>c (k+1) fr H e h) h
def jF.Yg{id:Nat}{ops:Array Oper}(E:List Nat)(q:Bool)(hm:P.follows .mixedOrders=true)(a:HO n ops=true)(b:GK E ops (λ_=>true)=true)
  (h:Bh P T E ops q ops.toList (Q .normal) fr H):jF P T n (.region id ops true) Q fr H:=by
 refine jF.T' E q (λ_=>true) hm a b ?_;have:=Sc (K:=Q .normal) ops.toList 0 fr H aae h;rw[XI]
 grind
end
end Go.tq
namespace Go.tq
open Go
section
variable{P:Program} {T:fx} {n:Nat} {Q:Exit->Fr->dM->Prop} {fr:Fr} {H:dM}
def jF.Dh{x y:Code}(h:∀K:Fr->dM->Prop,(∀fr H,jF P T n y Q fr H->K fr H)->jF P T n x (PC K Q) fr H):jF P T n (.seq x y) Q fr H:=
 jF.seq (h _ λ_ _ h=>h)
def jF.JE{id:Nat}{c:Code}(h:∀Q':Exit->Fr->dM->Prop,(∀fr H,Q .normal fr H->Q' .normal fr H)->(∀fr H,Q .normal fr H->Q' (.exit id) fr H)->(∀a fr H,a≠id->Q (.exit a) fr H->Q' (.exit a) fr H)->(∀fr H,Q .ret fr H->Q' .ret fr H)->jF P T n c Q' fr H):jF P T n (.block id c) Q fr H:=by
 refine jF.block (h (Px id Q) (λ_ _ h=>h) (λ_ _ h=>?_) (λa _ _ b h=>?_) (λ_ _ h=>h))
 ·simp only[Px,if_true];exact h
 ·simp only[Px,cJ b];exact h
end
@[simp] theorem Yk(K:Fr->dM->Prop)(Q:Exit->Fr->dM->Prop):PC K Q .normal=K:=rfl
end Go.tq
