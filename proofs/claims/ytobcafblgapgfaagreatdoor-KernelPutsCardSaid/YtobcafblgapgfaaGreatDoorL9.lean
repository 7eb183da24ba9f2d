/- Part of the proof of KernelLifts, KernelPuts, KernelCuts: layer. -/
import Derived.Test.YtobcafblgapgfaaGreatDoorL8
set_option linter.all false
namespace Go.tq
open Go
mutual
def AV.low(k:Nat):AV->Bool
 |.undef=>true|.sc _=>true|.tB x=>x.low k|.mD _ _ _=>true|.gS o _=>decide (o<k)|.slice _ l=>AV.nk k l|.agg l=>AV.nk k l|.tuple l=>AV.nk k l|.func _ f c=>AV.nk k f&&AV.nk k c|.iface _ x=>x.low k|.FZ _ _ _ _=>true|.vu o=>decide (o<k)|.Iv o _ _ _=>decide (o<k)|.Dd _ xs=>AV.nk k xs|.ue o _ _=>decide (o<k)
def AV.nk(k:Nat):List AV->Bool
 |[]=>true|x::l=>x.low k&&AV.nk k l
end
def AV.GJ{k:Nat}:∀{l:List AV},AV.nk k l=true↔∀x∈l,x.low k=true
 |[]=>by simp[AV.nk]|x::l=>by simp[AV.nk,AV.GJ (l:=l)]
def AV.Ru{k:Nat}{x:AV}(h:x.low k=true):AV.nk k x.cells=true:=by
 cases x<;>simp_all [AV.low,AV.cells,AV.nk]
def AV.Wt{k:Nat}{l:List AV}(h:AV.nk k l=true):AV.nk k (l.flatMap AV.cells)=true:=by
 rw[AV.GJ] at h|-;intro x a;obtain⟨y,hy,a⟩:=YD.1 a;exact AV.GJ.1 (AV.Ru (h y hy)) x a
@[simp] theorem AV.ad1{α:Type}{k:Nat}(f:α->Value)(l:List α):AV.nk k (List.map (λn=>AV.sc (f n)) l)=true:=by
 rw[AV.GJ];intro x a;obtain⟨y,_,rfl⟩:=nj.1 a;rfl
section
variable{F:rv} {G:Nat->Nat} {n k:Nat}
mutual
def k5.lower:∀{x v},k5 F G n x v->x.low k=true->k5 F G k x v
 |_,_,.undef h,_=>.undef h|_,_,.sc h,_=>.sc h|_,_,.tB b c d,a=>.tB (b.lower (AV.Ru (by simpa[AV.low] using a))) c d|_,_,.gS h,a=>.gS (by simpa[AV.low] using a)|_,_,.vu h,a=>.vu (by simpa[AV.low] using a)|_,_,.Iv h c d,a=>.Iv (by simpa[AV.low] using a) c d|_,_,.slice b c d e f g i j,a=>.slice (b.lower (AV.Wt (by simpa[AV.low] using a))) c d e f g i j|_,_,.agg b c,a=>.agg (b.lower (by simpa[AV.low] using a)) c|_,_,.tuple b,a=>.tuple (b.lower (by simpa[AV.low] using a))|_,_,.func b c,a=>by
  simp only[AV.low,ew] at a;exact .func (b.lower a.1) (c.lower a.2)
 |_,_,.iface b,a=>.iface (b.lower (by simpa[AV.low] using a))
def kR.lower:∀{xs vs},kR F G n xs vs->AV.nk k xs=true->kR F G k xs vs
 |_,_,.nil,_=>.nil|_,_,.cons b c,a=>by
  simp only[AV.nk,ew] at a;exact .cons (b.lower a.1) (c.lower a.2)
end
end
def sQ.lower{F:rv}{G:Nat->Nat}{n k:Nat}{cs d}(h:sQ F G n cs d)(a:AV.nk k cs=true):sQ F G k cs d:=by
 cases h with
 |cells e b c=>exact .cells e ((kR.xU b).lower a).DL c|map b c f g i=>exact .map b ((kR.xU c).lower (by simpa[AV.nk,AV.low] using a)).DL f g i|iter h=>exact .iter (by simpa[AV.nk,AV.low] using a)|dead=>exact .dead
def gG.drop{P:Program}{T:fx}{f:FuncId}{args:List AV}{H:dM}{Post Post':AV->dM->Prop}(h:gG P T f args H Post)
  (u:∀r H',Post r H'->∃a X,H'=a++X/\H.length<=a.length/\r.low a.length=true/\(∀cs∈a,AV.nk a.length cs=true)/\Post' r a):gG P T f args H Post':=by
 refine⟨h.1,λG F w vs hg y=>(h.2 G F w vs hg y).mono ?_⟩;rintro e w' ⟨r,H',v,G',F',m,rfl,k,z,c⟩;obtain⟨a,X,rfl,hlen,A,n,B⟩:=u r H' m
 have l:∀b o v,F b o=some v->F' b o=some v:=by
  intro b o v p
  have hb:b<w.heap.size:=by
   rcases zj b w.heap.size with hb|hb
   ·exact hb
   ·rw[hg.fresh b o hb] at p;cases p
  exact c.mF b o v hb p
 have i:∀o,o<a.length->o<(a++X).length:=λo d=>by rw[oG];omega
 refine⟨r,a,v,G',F',B,rfl,?_,z.lower A,?_⟩
 ·refine⟨k.NK,?_,λo o' d q=>k.inj o o' (i o d) (i o' q),λo j d s=>k.gF o j (i o d) (by rw[uj d];exact s),k.fresh,λg x C=>?_,k.row⟩
  ·intro o cs d;have t:o<a.length:=(qR.1 d).1;obtain⟨D,E,I⟩:=k.sN o cs (by rw[uj t];exact d);exact⟨D,E,I.lower (n cs (AY d))⟩
  ·exact(hg.J4 g x C).grow ⟨l,hlen,λo d=>c.hG o d⟩
 ·exact⟨c.os,c.tape,c.output,c.size,hlen,c.hG,λo m J=>c.R3 o m (i o J),c.hF,c.mF,c.heap⟩
end Go.tq
namespace Go.tq
open Go
def AV.Lm{k:Nat}{x:AV}(h:AV.nk k x.cells=true):x.low k=true:=by
 cases x<;>simp_all [AV.low,AV.cells,AV.nk]
def AV.RE{k:Nat}{l:List AV}(h:AV.nk k (l.flatMap AV.cells)=true):AV.nk k l=true:=by
 rw[AV.GJ] at h|-;intro x a;exact AV.Lm (AV.GJ.2 λy hy=>h y (YD.2 ⟨x,a,hy⟩))
section
variable{F:rv} {G:Nat->Nat} {n:Nat}
mutual
def k5.Ey:∀{x v},k5 F G n x v->x.low n=true
 |_,_,.undef _=>rfl|_,_,.sc _=>rfl|_,_,.tB a _ _=>by simpa[AV.low] using AV.Lm a.Ey|_,_,.gS h=>by simpa[AV.low] using h|_,_,.vu h=>by simpa[AV.low] using h|_,_,.Iv h _ _=>by simpa[AV.low] using h|_,_,.slice a _ _ _ _ _ _ _=>by simpa[AV.low] using AV.RE a.Ey|_,_,.agg a _=>by simpa[AV.low] using a.Ey|_,_,.tuple a=>by simpa[AV.low] using a.Ey|_,_,.func a b=>by simp[AV.low,a.Ey,b.Ey]|_,_,.iface a=>by simpa[AV.low] using a.Ey
def kR.Ey:∀{xs vs},kR F G n xs vs->AV.nk n xs=true
 |_,_,.nil=>rfl|_,_,.cons a b=>by simp[AV.nk,a.Ey,b.Ey]
end
end
def sQ.Ey{F:rv}{G:Nat->Nat}{n:Nat}{cs c}(h:sQ F G n cs c):AV.nk n cs=true:=by
 cases h with
 |cells d a b=>exact(kR.xU a).Ey|map a b e f g=>simpa[AV.nk,AV.low] using(kR.xU b).Ey|iter h=>simpa[AV.nk,AV.low] using h|dead=>rfl
def gG.Dq{P:Program}{T:fx}{f:FuncId}{args:List AV}{H:dM}{Post Post':AV->dM->Prop}(h:gG P T f args H Post)
  (d:∀r H',Post r H'->∃X,H'=H++X/\r.low H.length=true/\Post' r H):gG P T f args H Post':=by
 refine⟨h.1,λG F w vs hg g=>?_⟩
 have a:∀cs∈H,AV.nk H.length cs=true:=by
  intro cs b;obtain⟨o,i⟩:=Yv.1 b;obtain⟨m,_,j⟩:=hg.sN o cs i;exact j.Ey
 exact(gG.drop (Post':=Post') h λr H' k=>by
  obtain⟨X,e,l,c⟩:=d r H' k
  exact⟨H,X,e,jM _,l,a,c⟩).2 G F w vs hg g
end Go.tq
namespace Go.tq
open Go Go.eD
mutual
def AV.Ov{k n:Nat}(h:k<=n):∀{x:AV},x.low k=true->x.low n=true
 |.undef,_=>rfl|.sc _,_=>rfl|.tB x,a=>by simpa[AV.low] using AV.Ov h (x:=x) (by simpa[AV.low] using a)|.mD _ _ _,_=>rfl|.gS o _,a=>by simp[AV.low] at a|-;omega
 |.Iv o _ _ _,a=>by simp[AV.low] at a|-;omega
 |.slice _ l,a=>by simpa[AV.low] using AV.AU h (l:=l) (by simpa[AV.low] using a)|.agg l,a=>by simpa[AV.low] using AV.AU h (l:=l) (by simpa[AV.low] using a)|.tuple l,a=>by simpa[AV.low] using AV.AU h (l:=l) (by simpa[AV.low] using a)|.func _ f c,a=>by
  simp only[AV.low,ew] at a|-;exact⟨AV.AU h a.1,AV.AU h a.2⟩
 |.iface _ x,a=>by simpa[AV.low] using AV.Ov h (x:=x) (by simpa[AV.low] using a)|.FZ _ _ _ _,_=>rfl|.vu o,a=>by simp[AV.low] at a|-;omega
 |.Dd _ l,a=>by simpa[AV.low] using AV.AU h (l:=l) (by simpa[AV.low] using a)|.ue o _ _,a=>by simp[AV.low] at a|-;omega
def AV.AU{k n:Nat}(h:k<=n):∀{l:List AV},AV.nk k l=true->AV.nk n l=true
 |[],_=>rfl|x::l,a=>by
  simp only[AV.nk,ew] at a|-;exact⟨AV.Ov h a.1,AV.AU h a.2⟩
end
def QZ{H:dM}{o:Nat}{c:List AV}(h:H[o]?=some c):o<H.length:=(qR.1 h).1
def Q4{H:dM}{o:Nat}{c:List AV}(h:H[o]?=some c):iE H o c=H:=by
 apply WV;intro i;simp only[iE];rw[acb]
 split
 ·rename_i e;subst e;rw[cL (QZ h),h]
 ·rfl
def Inb(H:dM)(o:Nat):Prop:=o<H.length
def ie{H:dM}{o:Nat}{c:List AV}(h:H[o]?=some c):Inb H o:=QZ h
@[simp] theorem ab7(H:dM)(o o':Nat)(c:List AV):Inb (iE H o c) o'=Inb H o':=by simp[Inb]
def Xi{H:dM}{o:Nat}{c:List AV}(h:Inb H o):(iE H o c)[o]?=some c:=by simp[iE,show o<H.length from h]
def Tt{H:dM}{o o':Nat}{c:List AV}(h:o≠o'):(iE H o c)[o']?=H[o']?:=by simp[iE,acb,h]
def VO{H:dM}{o o':Nat}{c d e:List AV}(h:o≠o'):iE (iE (iE H o c) o' d) o e=iE (iE H o e) o' d:=by
 simp only[iE];rw[List.set_comm _ _ h.symm,List.set_set]
def Um{A B:dM}{o:Nat}(h:Inb A o):(A++B)[o]?=A[o]?:=uj h
def TU{A B:dM}{o:Nat}{c:List AV}(h:Inb A o):iE (A++B) o c=iE A o c++B:=by simp[iE,List.set_append,show o<A.length from h]
def PA{A B:dM}{k i:Nat}(h:A.length=k):(A++B)[k+i]?=B[i]?:=by
 subst h;rw[xo Zb]
 congr 1
 omega
def UG{A B:dM}{k:Nat}(h:A.length=k):(A++B)[k]?=B[0]?:=PA (i:=0) h
def Nb{A B:dM}{k i:Nat}{c:List AV}(h:A.length=k):iE (A++B) (k+i) c=A++iE B i c:=by
 subst h;simp[iE,List.set_append]
def TV{A B:dM}{k:Nat}{c:List AV}(h:A.length=k):iE (A++B) k c=A++iE B 0 c:=Nb (i:=0) h
@[simp] theorem abc(a:List AV)(l:dM)(c:List AV):iE (a::l) 0 c=c::l:=rfl
@[simp] theorem aa3(a:List AV)(l:dM)(i:Nat)(c:List AV):iE (a::l) (i+1) c=a::iE l i c:=rfl
def XO{H:dM}{o:Nat}{c cs:List AV}(h:cs∈iE H o c):cs∈H\/cs=c:=by
 simp only[iE] at h;exact adz h
def gG.Qi{P:Program}{T:fx}{f:FuncId}{args:List AV}{H:dM}{o:Nat}{c:List AV}{Post:AV->dM->Prop}(h:H[o]?=some c)(a:gG P T f args (iE H o c) Post):gG P T f args H Post:=by
 rwa [Q4 h] at a
structure KV {S:Type} (st:S->dM) (k:Nat):Prop where
 len:∀s,(st s).length=k
 low:∀s s' cs,cs∈st s'->cs∈st s\/AV.nk k cs=true
def KV.const{S:Type}(H:dM):KV (λ_:S=>H) H.length:=⟨λ_=>rfl,λ_ _ _ h=>.inl h⟩
def KV.ext{S:Type}{st:S->dM}{k:Nat}(h:KV st k)(X:dM){n:Nat}(hn:k+X.length=n):KV (λs=>st s++X) n:=by
 subst hn;refine⟨λs=>by rw[oG,h.len],λs a cs hc=>?_⟩;rcases tA.1 hc with hc|hc
 ·rcases h.low s a cs hc with h1|h1
  ·exact .inl (YP _ h1)
  ·exact .inr (AV.AU Zb h1)
 ·exact .inl (acX _ hc)
def KV.WU{S:Type}(H:dM)(f:S->dM)(n:Nat)(hn:∀s,(f s).length=n)(b:∀s a cs,cs∈f a->cs∈f s\/AV.nk (H.length+n) cs=true):KV (λs=>H++f s) (H.length+n):=by
 refine⟨λs=>by rw[oG,hn],λs a cs hc=>?_⟩;rcases tA.1 hc with hc|hc
 ·exact .inl (YP _ hc)
 ·rcases b s a cs hc with h1|h1
  ·exact .inl (acX _ h1)
  ·exact .inr h1
def gG.Zm{P:Program}{T:fx}{f:FuncId}{args:List AV}{H:dM}{Post Post':AV->dM->Prop}(h:gG P T f args H Post)
  (g:∀r H',Post r H'->∃b X,H'=b++X/\b.length=H.length/\r.low H.length=true/\(∀cs∈b,cs∈H\/AV.nk H.length cs=true)/\Post' r b):gG P T f args H Post':=by
 refine⟨h.1,λG F w vs hg i=>?_⟩
 have c:∀cs∈H,AV.nk H.length cs=true:=by
  intro cs a;obtain⟨o,j⟩:=Yv.1 a;obtain⟨p,_,k⟩:=hg.sN o cs j;exact k.Ey
 refine(gG.drop (Post':=Post') h λr H' l=>?_).2 G F w vs hg i;obtain⟨b,X,e,hlen,m,a,d⟩:=g r H' l;refine⟨b,X,e,Zb,by rw[hlen];exact m,λcs n=>?_,d⟩;rw[hlen];rcases a cs n with h1|h1
 ·exact c cs h1
 ·exact h1
def gG.Zo{P:Program}{T:fx}{f:FuncId}{args:List AV}{S:Type}{st:S->dM}{k:Nat}(hF:KV st k){s:S}{Post Post':AV->dM->Prop}(h:gG P T f args (st s) Post)
  (c:∀r H',Post r H'->∃a X,H'=st a++X/\r.low k=true/\Post' r (st a)):gG P T f args (st s) Post':=
 gG.Zm h λr H' d=>by
  obtain⟨a,X,e,g,b⟩:=c r H' d;exact⟨st a,X,e,by rw[hF.len,hF.len],by rw[hF.len];exact g,λcs i=>by rw[hF.len];exact hF.low s a cs i,b⟩
@[simp] theorem acC(H:List (List AV))(o:Nat)(c:List AV):List.set H o c=iE H o c:=rfl
attribute [simp] Xi Tt VO Um TU PA UG Nb TV
end Go.tq
namespace Go.tq
open Go Go.eD
def jC(P:Program)(T:fx)(E:List Nat)(opsA:Array Oper)(q:Bool):List Bool->List Oper->(Fr->dM->Prop)->Fr->dM->Prop
 |_,[],K,fr,H=>K fr H|[],o::rest,K,fr,H=>uf P T E opsA q true o (λfr H=>jC P T E opsA q [] rest K fr H) fr H|b::bs,o::rest,K,fr,H=>uf P T E opsA q b o (λfr H=>jC P T E opsA q bs rest K fr H) fr H
def QO{E:List Nat}{ops:Array Oper}{q:Bool}{P:Program}{T:fx}{K:Fr->dM->Prop}(a:List Bool):∀(l:List Oper) (k:Nat) (fr:Fr) (H:dM),l=ops.toList.drop k->jC P T E ops q (a.drop k) l K fr H->O_ P T E ops q (λi=>a.getD i true) (List.range' k l.length) K fr H:=by
 intro l
 induction l with
 |nil=>
  intro k fr H _ h;cases d:a.drop k<;>rw[d] at h<;>exact h
 |cons o l e=>
  intro k fr H c h
  have b:k<ops.toList.length:=by
   rcases zj k ops.toList.length with h'|h'
   ·exact h'
   ·rw[Od h'] at c;cases c
  have f:=MC b;rw[f] at c;injection c with g j
  have hi:ops[k]?=some o:=by
   rw[g];simp only[Array.getElem_toList];exact aaZ (by simpa using b)
  simp only[hQ,YQ,O_,hi]
  have m:a.getD k true=(a.drop k).headD true:=by
   simp only[List.getD,List.headD_eq_head?_getD,List.head?_drop]
  have n:a.drop (k+1)=(a.drop k).tail:=by rw[List.tail_drop]
  rw[m];refine Ku (K:=λfr H=>jC P T E ops q (a.drop (k+1)) l K fr H) (λfr H h=>e (k+1) fr H j h) ?_;rw[n];cases d:a.drop k<;>rw[d] at h<;>exact h
def jF.YF{P:Program}{T:fx}{n:Nat}{Q:Exit->Fr->dM->Prop}{fr:Fr}{H:dM}{id:Nat}{ops:Array Oper}(E:List Nat)(q:Bool)(b:List Bool)(hm:P.follows .mixedOrders=true)(a:HO n ops=true)(c:GK E ops (λi=>b.getD i true)=true)
  (h:jC P T E ops q b ops.toList (Q .normal) fr H):jF P T n (.region id ops true) Q fr H:=by
 refine jF.T' E q (λi=>b.getD i true) hm a c ?_;have:=QO (P:=P) (T:=T) (E:=E) (ops:=ops) (q:=q) (K:=Q .normal) b ops.toList 0 fr H (by rw[Ts]) (by rw[Ts];exact h);rw[XI];simpa using this
def vx(P:Program)(T:fx)(E:List Nat)(ops:Array Oper)(q:Bool)(bs:List Bool)(a:AV)(as:List AV)(d:Option Nat)(rest:List Oper)(K:Fr->dM->Prop)(fr:Fr)(H:dM):Prop:=
 ∃r H',yt P T a as H r H'/\(q=true->H'=H)/\jC P T E ops q bs rest K (fr.put d r) H'
def LC(P:Program)(T:fx)(E:List Nat)(ops:Array Oper)(q:Bool)(bs:List Bool)(a:AV)(as:List AV)(d:Option Nat)(rest:List Oper)(K:Fr->dM->Prop)(fr:Fr)(H:dM):Prop:=
 ∃r H',yt P T a as H r H'/\jC P T E ops q bs rest K (fr.put d r) H'
section
variable{P:Program} {T:fx} {E:List Nat} {ops:Array Oper} {q:Bool} {bs:List Bool} {rest:List Oper} {K:Fr->dM->Prop} {fr:Fr} {H H':dM} {d:Option Nat} {ty:TypeId} {pos:String} {after:Array Edge}
def vx.fn{g:FuncId}{as:List AV}{r:AV}(h:fg P T g as H r H')(a:q=true->H'=H)(b:jC P T E ops q bs rest K (fr.put d r) H'):vx P T E ops q bs (.func (.func g) [] []) as d rest K fr H:=by
 refine⟨r,H',?_,a,b⟩;unfold yt BL;simp only[k9,Dn];exact h
def vx.YA{g:FuncId}{b c as a:List AV}{r:AV}(e:b++as++c=a)(h:fg P T g a H r H')(f:q=true->H'=H)(i:jC P T E ops q bs rest K (fr.put d r) H'):vx P T E ops q bs (.func (.func g) b c) as d rest K fr H:=by
 subst e;exact⟨r,H',h,f,i⟩
def LC.fn{g:FuncId}{as:List AV}{r:AV}(h:fg P T g as H r H')(a:jC P T E ops q bs rest K (fr.put d r) H'):LC P T E ops q bs (.func (.func g) [] []) as d rest K fr H:=by
 refine⟨r,H',?_,a⟩;unfold yt BL;simp only[k9,Dn];exact h
@[simp] theorem Y6{f:Operand}{as:Array Operand}{ts:Array TypeId}:jC P T E ops q (false::bs) ({dst:=d,op:=.call {callee:=.value f,args:=as,argTypes:=ts},type:=ty,pos:=pos,after:=after,guard:=none}::rest) K fr H=LC P T E ops q bs (ev T fr f) (as.toList.map λx=>(ev T fr x).norm) d rest K fr H:=by
 simp only[jC,uf,pk,lN,LC,qa,false_implies,ry]
@[simp] theorem abr(bs:List Bool):jC P T E ops q bs [] K fr H=K fr H:=by cases bs<;>rfl
@[simp] theorem Zd{t:TypeId}{x:Operand}:jC P T E ops q (false::bs) ({dst:=d,op:=.load t x,type:=ty,pos:=pos,after:=after,guard:=none}::rest) K fr H=if Ac ops.toList x (ev T fr x)then(match Ds P fr H t (ev T fr x)with|some v=>jC P T E ops q bs rest K (fr.put d v) H|none=>False)else False:=by
 simp only[jC,uf,pk,lN,z_,Bool.not_false,Bool.true_or,BT]
 split
 ·rename_i v a
  split at a
  ·rename_i b;rw[cL b,a]
  ·cases a
 ·rename_i a
  split at a
  ·rename_i b;rw[cL b,a]
  ·rename_i b;rw[cJ b]
@[simp] theorem Yt{t:TypeId}{x y:Operand}:jC P T E ops q (false::bs) ({dst:=none,op:=.store t x y,type:=ty,pos:=pos,after:=after,guard:=none}::rest) K fr H=(Ac ops.toList x (ev T fr x)=true/\uh P t (ev T fr x) (ev T fr y) (jC P T E ops q bs rest K) fr H):=by
 simp only[jC,uf,pk,lN,ry,qa,false_implies]
@[simp] theorem aam{x:Operand}:jC P T E ops q (true::bs) ({dst:=d,op:=.move x,type:=ty,pos:=pos,after:=after,guard:=none}::rest) K fr H=jC P T E ops q bs rest K (fr.put d (ev T fr x)) H:=rfl
@[simp] theorem Yo{x:Operand}:jC P T E ops q (true::bs) ({dst:=d,op:=.assign x,type:=ty,pos:=pos,after:=after,guard:=none}::rest) K fr H=jC P T E ops q bs rest K (fr.put d (ev T fr x)) H:=rfl
@[simp] theorem Y8{t:TypeId}:jC P T E ops q (true::bs) ({dst:=d,op:=.alloc t,type:=ty,pos:=pos,after:=after,guard:=none}::rest) K fr H=match q_ P t with|some z=>d.any E.contains=false/\rG E d z (jC P T E ops q bs rest K) fr H|none=>False:=by
 simp only[jC,uf,pk,lN,Ys];rfl
@[simp] theorem aaj{t:TypeId}{x:Operand}:jC P T E ops q (true::bs) ({dst:=d,op:=.load t x,type:=ty,pos:=pos,after:=after,guard:=none}::rest) K fr H=if Ac ops.toList x (ev T fr x)&&(q||!Zw (ev T fr x))then(match Ds P fr H t (ev T fr x)with|some v=>jC P T E ops q bs rest K (fr.put d v) H|none=>False)else False:=by
 simp only[jC,uf,pk,lN,z_,YJ,QL]
 split
 ·rename_i v a
  split at a
  ·rename_i b;rw[cL b,a]
  ·cases a
 ·rename_i a
  split at a
  ·rename_i b;rw[cL b,a]
  ·rename_i b;rw[cJ b]
@[simp] theorem Zv{t:TypeId}{x y:Operand}:jC P T E ops q (true::bs) ({dst:=none,op:=.store t x y,type:=ty,pos:=pos,after:=after,guard:=none}::rest) K fr H=(Ac ops.toList x (ev T fr x)=true/\isL (ev T fr x)=true/\uh P t (ev T fr x) (ev T fr y) (jC P T E ops q bs rest K) fr H):=by
 simp only[jC,uf,pk,lN,Ys,ry]
@[simp] theorem V8{t n:Nat}{ps:Array (Nat×Operand)}:jC P T E ops q (true::bs) ({dst:=d,op:=.buildSlice t n ps,type:=ty,pos:=pos,after:=after,guard:=none}::rest) K fr H=if d.any E.contains then False else match uL P t n (ps.toList.map λp=>(p.1,ev T fr p.2))with|some v=>jC P T E ops q bs rest K (fr.put d v) H|none=>False:=by
 simp only[jC,uf,pk,lN,z_]
 split
 ·rename_i v a
  split at a
  ·cases a
  ·rename_i b;rw[cJ b,a]
 ·rename_i a
  split at a
  ·rename_i b;rw[cL b]
  ·rename_i b;rw[cJ b,a]
@[simp] theorem YK{t:TypeId}{x i:Operand}{ok:Bool}:jC P T E ops q (true::bs) ({dst:=d,op:=.lookup t x i ok,type:=ty,pos:=pos,after:=after,guard:=none}::rest) K fr H=if q then(match Dz P H t (ev T fr x) (ev T fr i) ok with|some v=>jC P T E ops q bs rest K (fr.put d v) H|none=>False)else False:=by
 simp only[jC,uf,pk,lN,z_,YJ,QL]
 split
 ·rename_i v a
  split at a
  ·rename_i b;rw[cL b,a]
  ·cases a
 ·rename_i a
  split at a
  ·rename_i b;rw[cL b,a]
  ·rename_i b;rw[cJ b]
def vx.val{a:AV}{as:List AV}{r:AV}(h:yt P T a as H r H')(b:q=true->H'=H)(c:jC P T E ops q bs rest K (fr.put d r) H'):vx P T E ops q bs a as d rest K fr H:=⟨r,H',h,b,c⟩
@[simp] theorem Ym{x y:Operand}{t d:Nat}:jC P T E ops q (true::bs) ({dst:=some d,op:=.call {callee:=.builtin .append,args:=#[x,y],argTypes:=#[t,t]},type:=ty,pos:=pos,after:=after,guard:=none}::rest) K fr H=Kc P t (ev T fr x) (ev T fr y) d (jC P T E ops q bs rest K) fr H:=by
 simp only[jC,uf,pk,lN];exact PF
@[simp] theorem aac{f:Operand}{as:Array Operand}{ts:Array TypeId}:jC P T E ops q (true::bs) ({dst:=d,op:=.call {callee:=.value f,args:=as,argTypes:=ts},type:=ty,pos:=pos,after:=after,guard:=none}::rest) K fr H=vx P T E ops q bs (ev T fr f) (as.toList.map λx=>(ev T fr x).norm) d rest K fr H:=by
 simp only[jC,uf,pk,lN,Ys,vx]
@[simp] theorem abN{as:Array Operand}{ts:Array TypeId}:jC P T E ops q (true::bs) ({dst:=d,op:=.call {callee:=.builtin .len,args:=as,argTypes:=ts},type:=ty,pos:=pos,after:=after,guard:=none}::rest) K fr H=match Fp P T fr {callee:=.builtin .len,args:=as,argTypes:=ts}with|some v=>jC P T E ops q bs rest K (fr.put d v) H|none=>False:=rfl
@[simp] theorem abk{as:Array Operand}{ts:Array TypeId}:jC P T E ops q (true::bs) ({dst:=d,op:=.call {callee:=.builtin .max,args:=as,argTypes:=ts},type:=ty,pos:=pos,after:=after,guard:=none}::rest) K fr H=match Fp P T fr {callee:=.builtin .max,args:=as,argTypes:=ts}with|some v=>jC P T E ops q bs rest K (fr.put d v) H|none=>False:=rfl
@[simp] theorem abf{c a b:Operand}:jC P T E ops q (true::bs) ({dst:=d,op:=.pick c a b,type:=ty,pos:=pos,after:=after,guard:=none}::rest) K fr H=match Hx P T fr {dst:=d,op:=.pick c a b,type:=ty,pos:=pos,after:=after,guard:=none}with|some v=>jC P T E ops q bs rest K (fr.put d v) H|none=>False:=rfl
@[simp] theorem Zx{t:TypeId}{ps:Array (Nat×Operand)}:jC P T E ops q (true::bs) ({dst:=d,op:=.build t ps,type:=ty,pos:=pos,after:=after,guard:=none}::rest) K fr H=match MB P t (ps.toList.map λp=>(p.1,ev T fr p.2))with|some v=>jC P T E ops q bs rest K (fr.put d v) H|none=>False:=rfl
@[simp] theorem ZA{o:BinOp}{t u:TypeId}{x y:Operand}:jC P T E ops q (true::bs) ({dst:=d,op:=.binOp o t x y u,type:=ty,pos:=pos,after:=after,guard:=none}::rest) K fr H=match RG P o t y (ev T fr x) (ev T fr y)with|some v=>jC P T E ops q bs rest K (fr.put d v) H|none=>False:=rfl
@[simp] theorem aaH{o:UnOp}{t:TypeId}{x:Operand}:jC P T E ops q (true::bs) ({dst:=d,op:=.unOp o t x,type:=ty,pos:=pos,after:=after,guard:=none}::rest) K fr H=match unA o (ev T fr x)with|some v=>jC P T E ops q bs rest K (fr.put d v) H|none=>False:=rfl
@[simp] theorem Wl{t i:Nat}{x:Operand}:jC P T E ops q (true::bs) ({dst:=d,op:=.fieldAddr t x i,type:=ty,pos:=pos,after:=after,guard:=none}::rest) K fr H=match Al P t (ev T fr x) i with|some v=>jC P T E ops q bs rest K (fr.put d v) H|none=>False:=rfl
@[simp] theorem Wm{t:TypeId}{x i:Operand}:jC P T E ops q (true::bs) ({dst:=d,op:=.indexAddr t x i,type:=ty,pos:=pos,after:=after,guard:=none}::rest) K fr H=match jN P t (ev T fr x) (ev T fr i)with|some v=>jC P T E ops q bs rest K (fr.put d v) H|none=>False:=rfl
@[simp] theorem Y3{t:TypeId}{x:Operand}{lo hi a:Option Operand}:jC P T E ops q (true::bs) ({dst:=d,op:=.slice t x lo hi a,type:=ty,pos:=pos,after:=after,guard:=none}::rest) K fr H=match vp P t (ev T fr x) (lo.map (ev T fr)) (hi.map (ev T fr)) (a.map (ev T fr))with|some v=>jC P T E ops q bs rest K (fr.put d v) H|none=>False:=rfl
@[simp] theorem X7{i:Nat}{x:Operand}:jC P T E ops q (true::bs) ({dst:=d,op:=.extract x i,type:=ty,pos:=pos,after:=after,guard:=none}::rest) K fr H=match Hx P T fr {dst:=d,op:=.extract x i,type:=ty,pos:=pos,after:=after,guard:=none}with|some v=>jC P T E ops q bs rest K (fr.put d v) H|none=>False:=rfl
@[simp] theorem Xm{x:Operand}:jC P T E ops q (true::bs) ({dst:=d,op:=.nilCheck x,type:=ty,pos:=pos,after:=after,guard:=none}::rest) K fr H=match Hx P T fr {dst:=d,op:=.nilCheck x,type:=ty,pos:=pos,after:=after,guard:=none}with|some v=>jC P T E ops q bs rest K (fr.put d v) H|none=>False:=rfl
@[simp] theorem Y5{op:Op}{j:Nat}{want:Bool}:jC P T E ops q (true::bs) ({dst:=d,op:=op,type:=ty,pos:=pos,after:=after,guard:=some (j,want)}::rest) K fr H=match(ops[j]?).bind (·.dst)with
  |some g=>match fr.env g with
   |.sc (.bool b)=>if b=want then jC P T E ops q (true::bs) ({dst:=d,op:=op,type:=ty,pos:=pos,after:=after,guard:=none}::rest) K fr H else jC P T E ops q bs rest K (fr.put d (.tuple [])) H|.tuple _=>jC P T E ops q bs rest K (fr.put d (.tuple [])) H|_=>False
  |none=>False:=by
 simp only[jC,uf,pk]
 cases a:(ops[j]?).bind (·.dst)with
 |none=>rfl|some g=>
  simp only;cases he:fr.env g with
  |sc v=>
   cases v with
   |bool b=>
    simp only
    by_cases hw:b=want
    ·subst hw;simp only[beq_self_eq_true,if_true];rfl
    ·rw[cJ hw]
     have:(b==want)=false:=by simpa using hw
     rw[this]
   |_=>rfl
  |_=>rfl
end
end Go.tq
namespace Go.tq
open Go Go.eD
def tR(k:Nat):Option Nat->AV
 |none=>.sc (.pointer none)|some p=>.gS (k+p) 0
@[simp] theorem acs(k:Nat):tR k none=.sc (.pointer none):=rfl
@[simp] theorem ada(k p:Nat):tR k (some p)=.gS (k+p) 0:=rfl
@[simp] theorem adY(k:Nat)(x:Option Nat):(tR k x).k7=true:=by cases x<;>rfl
@[simp] theorem abp(k:Nat)(x:Option Nat):(tR k x).cells=[tR k x]:=by cases x<;>rfl
@[simp] theorem aeg(k:Nat)(x:Option Nat):iu (tR k x)=true:=by cases x<;>rfl
@[simp] theorem aca(k:Nat)(x:Option Nat):(tR k x).norm=tR k x:=by cases x<;>rfl
@[simp] theorem abJ(k:Nat)(x:Option Nat):(tR k x).ra=tR k x:=by cases x<;>rfl
@[simp] theorem acL(P:Program)(ty:TypeId)(k:Nat)(x:Option Nat):BJ P ty (tR k x)=match jd P ty with|some (false,_)=>true|_=>false:=by
 cases x with
 |none=>exact Yh P ty _|some p=>exact Wc P ty _ _
def Fa{C:Type}(c:Nat->C->List AV)(k:Nat)(l:List C):dM:=l.map (c k)
@[simp] theorem YH{C:Type}(c:Nat->C->List AV)(k:Nat)(l:List C):(Fa c k l).length=l.length:=by simp[Fa]
@[simp] theorem abB{C:Type}(c:Nat->C->List AV)(k:Nat)(l:List C)(p:Nat):(Fa c k l)[p]?=(l[p]?).map (c k):=by simp[Fa]
def yF{C:Type}{c:Nat->C->List AV}{k:Nat}{l:List C}{p:Nat}{x:C}{cs:List AV}(h:cs=c k x):iE (Fa c k l) p cs=Fa c k (l.set p x):=by
 subst h;simp only[iE,Fa,List.map_set]
def Rm{C:Type}{c:Nat->C->List AV}{k:Nat}{l:List C}{x:C}{cs:List AV}(h:cs=c k x):Fa c k l++[cs]=Fa c k (l++[x]):=by
 subst h;simp[Fa]
def Ft{C:Type}{l:List C}{p:Nat}{x y:C}(h:l[p]?=some y):(l.set p x)[p]?=some x:=by
 have:p<l.length:=(qR.1 h).1;simp[this]
def Vb{C:Type}{l:List C}{x:C}:(l++[x])[l.length]?=some x:=aae
def gG.VD{C:Type}{c:Nat->C->List AV}{P:Program}{T:fx}{f:FuncId}{args:List AV}{H:dM}{Post:AV->dM->Prop}(h:gG P T f args (H++Fa c H.length []) Post):gG P T f args H Post:=by
 simpa[Fa] using h
section
variable{P:Program} {t e:TypeId} {k:Nat} {x:Option Nat}
def Xk(hu:P.underlying t=some (.pointer e)):wx P .eql t (tR k x) (.sc (.pointer none))=some (.sc (.bool x.isNone)):=by
 cases x<;>simp[wx,BO,hu]
def XP(hu:P.underlying t=some (.pointer e)):wx P .neq t (tR k x) (.sc (.pointer none))=some (.sc (.bool x.isSome)):=by
 cases x<;>simp[wx,BO,hu]
end
end Go.tq
namespace Go.tq
open Go Go.eD
def CG{α:Type}(f:α->AV)(L:List α)(k:Nat):List AV:=(L.map f).flatMap AV.cells++NF k
@[irreducible] def Ua(i sz:Nat):Nat:=i*sz
def Oi(i sz:Nat):Ua i sz=i*sz:=by unfold Ua;rfl
section
variable{α:Type} {f:α->AV} {L:List α} {k sz:Nat}
def zd(h:∀x,(f x).cells.length=sz)(L:List α):((L.map f).flatMap AV.cells).length=L.length*sz:=by
 rw[Ax (sz:=sz)]
 ·simp
 ·intro x a;obtain⟨y,_,rfl⟩:=nj.1 a;exact h y
def FF(h:∀x,(f x).cells.length=sz):(CG f L k).length=L.length*sz+k:=by
 unfold CG;rw[oG,zd h];simp[NF]
def JW(h:∀x,(f x).cells.length=sz):(CG f L k).take (L.length*sz)=(L.map f).flatMap AV.cells:=by
 unfold CG;rw[ZT (by rw[zd h];exact jM _),ZV (by rw[zd h];exact jM _)]
def Wu(h:∀x,(f x).cells.length=sz){i:Nat}{y:α}(hi:i<L.length):setCells (CG f L k) (i*sz) (f y).cells=CG f (L.set i y) k:=by
 unfold setCells CG;have hlen:=zd h L
 have hle:i*sz+sz<=L.length*sz:=by
  rw[<-V2];exact NX _ hi
 rw[h y,ZT Zb,List.drop_append_of_le_length Zb,<-ml]
 congr 1
 have a:L.set i y=L.take i++y::L.drop (i+1):=List.set_eq_take_append_cons_drop▸(by rw[cL hi]);rw[a,SW,jc,X1,P_]
 have hm:∀x∈L.map f,x.cells.length=sz:=by
  intro x b;obtain⟨z,_,rfl⟩:=nj.1 b;exact h z
 have c:i*sz+sz=(i+1)*sz:=by rw[V2]
 rw[c,<-Lf hm,<-HG hm,List.map_take,List.map_drop,ml]
end
def P6{α:Type}{f:α->AV}(a:∀x,(f x).cells.map AV.ra=(f x).cells)(L:List α):(L.map f).flatMap AV.cells=((L.map f).flatMap AV.cells).map AV.ra:=by
 induction L with
 |nil=>rfl|cons x L b=>simp only[jc,P_,SW,a,<-b]
def Bf.ZR{P:Program}{t e sz d:Nat}{s x:AV}{K:Fr->dM->Prop}{fr:Fr}{H:dM}{α:Type}{f:α->AV}(m:List α){b:Tag}
  (c:zb P t=some (e,sz)) (g:∃k,q_ P e=some k) (h:∀x,(f x).cells.length=sz) (hlen:wM m=true) (hs:s=.slice .full []) (o:x=.slice b (m.map f))
  (p:∀cap,m.length<=cap->K {fr with env:=kQ fr.env d (.FZ d (fr.gen d+1) m.length cap),box:=kQ fr.box d (some (CG f m ((cap-m.length)*sz))),gen:=kQ fr.gen d (fr.gen d+1)} H):Bf P t s x d K fr H:=by
 subst hs;subst o
 have n:0<m.length/\m.length<=m0:=by simpa[wM] using hlen
 have i:∀l:List α,ui sz (l.map f)=true:=λl=>by cases l with|nil=>rfl|cons a l=>simp[h]
 obtain⟨k,g⟩:=g;refine .inr ?_;unfold WC;rw[c];refine⟨i m,by rw[g];rfl,by simpa using n.1,rfl,by simpa[uM,m0] using n.2,λcap q=>?_⟩
 have j:m.length<=cap:=by simpa using q
 have:=p cap j;simp only[HP,List.flatMap_nil,k9,o7,sZ,EB];exact this
theorem Bf.gA{P:Program}{t e sz d:Nat}{s x:AV}{K:Fr->dM->Prop}{fr:Fr}{H:dM}{α:Type}{f:α->AV}(L m:List α){cap:Nat}{n:Tag}
  (o:zb P t=some (e,sz)) (p:∃y,q_ P e=some y) (c:∀x,(f x).cells.length=sz) (hlen:eZ L m=true) (hm:0<m.length) (hs:s=.FZ d (fr.gen d) L.length cap) (B:x=.slice n (m.map f))
  (C:fr.box d=some (CG f L ((cap-L.length)*sz))) (q:L.length<=cap)
  (z:∀A b,(fK L m).length<=b->K {fr with env:=kQ fr.env d (.FZ d A (fK L m).length b),box:=kQ fr.box d (some (CG f (fK L m) ((b-(fK L m).length)*sz))),gen:=kQ fr.gen d A} H):Bf P t s x d K fr H:=by
 subst hs;subst B;have D:L.length+m.length<=m0:=SX hlen
 have r:∀l:List α,ui sz (l.map f)=true:=λl=>by cases l with|nil=>rfl|cons a l=>simp[c]
 obtain⟨y,p⟩:=p;have u:=zd c L;have v:=zd c m;have g:(fK L m).length=L.length+m.length:=Fj L m
 have i:(L.map f).flatMap AV.cells++(m.map f).flatMap AV.cells=((fK L m).map f).flatMap AV.cells:=by simp[fK]
 refine .inr ?_;unfold WC;rw[o];refine⟨r m,by rw[p];rfl,by simpa using hm,rfl,by simpa[uM,m0] using D,?_⟩;rw[C];simp only[EB];refine⟨?_,λE=>?_,λb I F=>?_⟩
 ·rw[FF c,Nat.sub_mul];have:=NX sz q;omega
 ·have k:=z (fr.gen d) cap (by rw[g];exact E)
  have G:kQ fr.gen d (fr.gen d)=fr.gen:=by
   funext j
   simp only[kQ]
   split
   ·rename_i h;rw[h]
   ·rfl
  have w:setCells (CG f L ((cap-L.length)*sz)) (L.length*sz) ((m.map f).flatMap AV.cells)=CG f (fK L m) ((cap-(fK L m).length)*sz):=by
   unfold setCells;rw[JW c];unfold CG;rw[<-i,aa',Od Zb,k9,u,v,g]
   have:L.length*sz+m.length*sz-L.length*sz=m.length*sz:=Zb
   rw[this];unfold NF;rw[List.drop_replicate,<-Nat.sub_mul,Nat.sub_sub]
  rw[G,<-w,g] at k;exact k
 ·have k:=z (fr.gen d+1) b (by rw[g];exact F)
  have w:(CG f L ((cap-L.length)*sz)).take (L.length*sz)++(m.map f).flatMap AV.cells++NF ((b-(L.length+m.length))*sz)=CG f (fK L m) ((b-(fK L m).length)*sz):=by
   rw[JW c,g];unfold CG;rw[i]
  unfold HP;rw[w,<-g];exact k
@[simp] theorem ab'{P:Program}{t:TypeId}{b g n c:Nat}:Qu P t (.FZ b g n c)=match P.underlying t with|some (.slice _)=>some (.sc (.int .i64 n))|some (.array n _)=>some (.sc (.int .i64 n))|_=>none:=by
 unfold Qu;cases P.underlying t with
 |none=>rfl|some y=>cases y<;>rfl
@[simp] theorem WQ{P:Program}{t:TypeId}{k:IntKind}{a:Int}{b g n c:Nat}:jN P t (.FZ b g n c) (.sc (.int k a))=match P.underlying t with
  |some (.slice e)=>match jd P e with
   |some (_,sz)=>if 0<=a/\a<(n:Int)then some (.mD b g (Ua a.toNat sz))else none|none=>none
  |_=>none:=by
 unfold jN;simp only[Oi];cases P.underlying t with
 |none=>rfl|some y=>cases y<;>rfl
def Ie(P:Program)(t:TypeId)(b g i sz:Nat)(v:AV)(K:Fr->dM->Prop)(fr:Fr)(H:dM):Prop:=uh P t (.mD b g (Ua i sz)) v K fr H
@[simp high] theorem Zr{P:Program}{t:TypeId}{b g i sz:Nat}{v:AV}{K:Fr->dM->Prop}{fr:Fr}{H:dM}:uh P t (.mD b g (Ua i sz)) v K fr H=Ie P t b g i sz v K fr H:=rfl
def Ie.arr{P:Program}{t:TypeId}{b g sz k:Nat}{a:Int}{bl:Bool}{v:AV}{K:Fr->dM->Prop}{fr:Fr}{H:dM}{α:Type}{f:α->AV}{L:List α}{x:α}(y:α)(h:jd P t=some (bl,sz))(c:∀x,(f x).cells.length=sz)
  (e:iu (f y)=true) (hi:du L a=some x) (hg:g=fr.gen b) (i:fr.box b=some (CG f L k)) (j:v=f y) (l:K {fr with box:=kQ fr.box b (some (CG f (ya L a y) k))} H):Ie P t b g a.toNat sz v K fr H:=by
 subst j;have hi':=Tr hi;have d:=(qR.1 hi').1
 have hle:a.toNat*sz+sz<=L.length*sz:=by
  rw[<-V2];exact NX _ d
 unfold Ie;simp only[uh,h,i];refine⟨hg,c y,by rw[Oi,FF c];omega,e,?_⟩;rw[Oi,Wu c d];exact l
def lY.SK{α β:Type}{R:α->β->Prop}:∀{as:List α} {bs:List β} {i:Nat} {a0 a:α},lY R as bs->as[i]?=some a0->(∀b,bs[i]?=some b->R a b)->lY R (as.set i a) bs
 |_,_,_,_,_,.nil,h,_=>by simp at h
 |_,_,0,_,_,.cons d c,_,h=>.cons (h _ rfl) c|_,_,i+1,_,_,.cons d c,e,h=>.cons d (lY.SK c (by simpa using e) (λb f=>h b (by simpa using f)))
section
variable{P:Program} {T:fx} {n B0:Nat} {ρ:Maps} {F:rv} {R:Nat->x0} {fr:Fr} {H:dM} {a:Act} {w:World}
def WR.unbox(h:WR T n B0 ρ F R fr H a w){d:Nat}{cs:List AV}(x:fr.box d=some cs):∃p,p (ρ.L d (fr.gen d))=.free/\WR T n B0 ρ F p {fr with box:=kQ fr.box d none} H a w:=by
 obtain⟨D,y,E,vs,ty,G,I⟩:=h.box d cs x
 let p:Nat->x0:=kQ R (ρ.L d (fr.gen d)) .free
 have i:∀b,R b≠ .box d->p b=R b:=by
  intro b f;show kQ R (ρ.L d (fr.gen d)) .free b=R b;unfold kQ;rw[cJ];rintro rfl;exact f y
 refine⟨p,by show kQ R _ _ _=_;simp[kQ],⟨h.g,h.size,h.defers,h.env,h.hn,h.lg,h.ag,?_,?_,?_,?_,?_,h.Ag⟩⟩
 ·intro r s l;simp only[kQ] at l
  by_cases he:r=d
  ·subst he;simp at l
  ·rw[cJ he] at l;obtain⟨t,q,u⟩:=h.box r s l;exact⟨t,by rw[i _ (by rw[q];simp[he])];exact q,u⟩
 ·intro k m z b c sz A;obtain⟨t,q,u⟩:=h.tok k m z b c sz A;exact⟨t,by rw[i _ (by rw[q];simp)];exact q,u⟩
 ·intro b j v B
  by_cases f:b=ρ.L d (fr.gen d)
  ·subst f;intro r;show kQ R _ _ _≠_;simp[kQ]
  ·have e:p b=R b:=by show kQ R _ _ _=_;simp[kQ,f]
   rw[e];exact h.AG b j v B
 ·intro o C;have:=h.vQ o C;rw[i _ (by rw[this];simp)];exact this
 ·intro b f;have:=h.tf b f;rw[i _ (by rw[this];simp)];exact this
def lY.V_{F:rv}{ρ:Maps}{cs:List AV}{vs:List Value}(h:lY (pj F ρ) cs vs):lY (k5 F ρ.G ρ.n) (cs.map AV.ra) vs:=h.G1 AV.ra λ_ _ _ h=>h.ra
def WR.Rr(h:WR T n B0 ρ F R fr H a w){d len cap sz:Nat}{cs els:List AV}(z:fr.box d=some cs)(D:els.length=len)(hs:∀x∈els,x.cells.length=sz)
  (A:els.flatMap AV.cells=(cs.take (len*sz)).map AV.ra) (hle:len*sz<=cs.length) (E:len<=cap) (q:cap<=maxLen):∃F' r,Dr F F' ρ ρ/\(∀b j,b<B0->F' b j=F b j)/\WR T n B0 ρ F' r {fr with box:=kQ fr.box d none} H a w/\k5 F' ρ.G ρ.n (.slice .pw els) (.slice (some ⟨ρ.L d (fr.gen d),0,none⟩) len cap):=by
 obtain⟨P,I,B,vs,ty,J,s⟩:=h.box d cs z;obtain⟨r,i,hw⟩:=h.unbox z
 have hF:∀j,F (ρ.L d (fr.gen d)) j=none:=by
  intro j;cases K:F (ρ.L d (fr.gen d)) j with
  |none=>rfl|some v=>
   exact absurd I (h.AG _ j v K d)
 have M:vs.toList.length=cs.length:=s.length.symm
 have N:(vs.toList.take (len*sz)).length=len*sz:=by rw[Kn];omega
 obtain⟨m,t⟩:=hw.freeze (us:=vs.toList.take (len*sz)) (k:=(vs.toList.take (len*sz)).length) i hF J (λu hu=>qd s B u hu) (by
  intro j v _ p;rw[VG] at p
  split at p
  ·simpa using p
  ·cases p)
 refine⟨_,r,m,λb j O=>Gd Zb,t,?_⟩
 have e:lY (k5 F ρ.G ρ.n) (els.flatMap AV.cells) (vs.toList.take (len*sz)):=by
  rw[A];exact(s.take (len*sz)).V_
 have C:=k5.slice (F:=rj F (ρ.L d (fr.gen d)) (vs.toList.take (len*sz)).length (vs.toList.take (len*sz))) (G:=ρ.G) (n:=ρ.n) (tag:=.pw) (l:=els) (b:=ρ.L d (fr.gen d)) (o:=0)
  (base:=some ⟨ρ.L d (fr.gen d),0,none⟩) (cap:=cap) (sz:=sz) (vs:=vs.toList.take (len*sz)) (.xU (e.mono λ_ _ _ h=>h.grow m.g)) (IY _ _ _) (λ_=>rfl) hs (by
   intro c f;rw[A] at f
   exact JT (λc y=>B c (MG y)) c f) Zb q (.inl rfl)
 rw[D] at C;exact C
def jF.adp{α:Type}{c:Code}{Q:Exit->Fr->dM->Prop}{f:α->AV}(t:Nat){L:List α}{k sz d g cap:Nat}(l:∀x,(f x).cells.length=sz)(o:∀x,(f x).cells.map AV.ra=(f x).cells)
  (he:fr.env t=.FZ d g L.length cap) (hg:g=fr.gen d) (C:fr.box d=some (CG f L k))
  (h:jF P T n c Q {fr with env:=kQ fr.env t (.slice .pw (L.map f)),box:=kQ fr.box d none} H):jF P T n c Q fr H:=by
 intro G0 F0 n0 w0 a w hs;refine h G0 F0 n0 w0 a w ?_;obtain⟨ρ,F,R,hw,q⟩:=hs;have m:=hw.env t;rw[he] at m;obtain⟨D,E,r,s⟩:=JF m
 have u:∀x∈L.map f,x.cells.length=sz:=by
  intro x q;obtain⟨y,_,rfl⟩:=nj.1 q;exact l y
 obtain⟨F',G,v,z,i,I⟩:=hw.Rr (els:=L.map f) (len:=L.length) (cap:=cap) (sz:=sz) C aae u (by rw[JW l];exact P6 o L) (by rw[FF l];omega) r s;refine⟨ρ,F',G,⟨i.g,i.size,i.defers,?_,i.hn,i.lg,i.ag,i.box,i.tok,i.AG,i.vQ,i.tf,i.Ag⟩,?_⟩
 ·intro B;show kI F' ρ (kQ fr.env t (.slice .pw (L.map f)) B) _;simp only[kQ]
  split
  ·rename_i e;subst e;rw[D,hg];exact .p I
  ·exact(hw.env B).grow v
 ·exact q.freeze λb j A=>z b j A
def jF.aek{α:Type}{c:Code}{Q:Exit->Fr->dM->Prop}{f:α->AV}(d2 i:Nat){cs2:List AV}{L:List α}{k sz d g cap:Nat}(m:∀x,(f x).cells.length=sz)(t:∀x,(f x).cells.map AV.ra=(f x).cells)
  (v:d2≠d) (he:fr.box d2=some cs2) (hi:cs2[i]?=some (.FZ d g L.length cap)) (hg:g=fr.gen d) (V:fr.box d=some (CG f L k))
  (h:jF P T n c Q {fr with box:=kQ (kQ fr.box d none) d2 (some (cs2.set i (.slice .pw (L.map f))))} H):jF P T n c Q fr H:=by
 intro G0 F0 n0 w0 a w hs;refine h G0 F0 n0 w0 a w ?_;obtain⟨ρ,F,R,hw,z⟩:=hs;obtain⟨_,_,A,B,W,C,D⟩:=hw.box d2 cs2 he;obtain⟨u,hu,E⟩:=D.get hi;obtain⟨X,Y,G,I⟩:=JF (.cell E)
 have J:∀x∈L.map f,x.cells.length=sz:=by
  intro x z;obtain⟨y,_,rfl⟩:=nj.1 z;exact m y
 obtain⟨F',Z,aa,K,e,hp⟩:=hw.Rr (els:=L.map f) (len:=L.length) (cap:=cap) (sz:=sz) V aae J (by rw[JW m];exact P6 t L) (by rw[FF m];omega) G I
 have M:({fr with box:=kQ fr.box d none}:Fr).box d2=some cs2:=by simp[kQ,v,he]
 refine⟨ρ,F',Z,⟨e.g,e.size,e.defers,e.env,e.hn,e.lg,e.ag,?_,e.tok,e.AG,e.vQ,e.tf,e.Ag⟩,?_⟩
 ·intro o N l;simp only[kQ] at l
  by_cases q:o=d2
  ·subst q;simp only[if_true,zq] at l;subst l;obtain⟨e1,e2,e3,vs',r,U,e5⟩:=e.box o cs2 M;refine⟨e1,e2,?_,vs',r,U,?_⟩
   ·intro c hc;rcases adz hc with h'|h'
    ·exact e3 c h'
    ·rw[h'];rfl
   ·have O:vs'.toList=B.toList:=by
     have:w.heap[ρ.L o (fr.gen o)]?=some (.cells vs' r (0,0)):=U;rw[C] at this;injection this with this;injection this with this;rw[this]
    refine lY.SK e5 hi ?_;intro u' s;rw[O,hu] at s;obtain rfl:=hZ s;rw[X,hg];exact .p hp
  ·simp only[cJ q] at l;exact e.box o N (by simpa[kQ] using l)
 ·exact z.freeze λb j S=>K b j S
end
end Go.tq
