/- Part of the proof of KernelChoice: layer. -/
import Derived.Test.YtobcafblgapgfaaGreatDoorL8
set_option linter.all false
namespace Go.ky
open Go
mutual
def AV.low(k:Nat):AV->Bool
 |.undef=>true|.sc _=>true|.kN x=>x.low k|.dc _ _ _=>true|.ei o _=>decide (o<k)|.slice _ l=>AV.hS k l|.agg l=>AV.hS k l|.tuple l=>AV.hS k l|.func _ f c=>AV.hS k f&&AV.hS k c|.iface _ x=>x.low k|.wG _ _ _ _=>true|.oa o=>decide (o<k)|.yx o _ _ _=>decide (o<k)|.sC _ xs=>AV.hS k xs|.u' o _ _=>decide (o<k)
def AV.hS(k:Nat):List AV->Bool
 |[]=>true|x::l=>x.low k&&AV.hS k l
end
def AV.uy{k:Nat}:∀{l:List AV},AV.hS k l=true↔∀x∈l,x.low k=true
 |[]=>by simp[AV.hS]|x::l=>by simp[AV.hS,AV.uy (l:=l)]
def AV.FR{k:Nat}{x:AV}(h:x.low k=true):AV.hS k x.cells=true:=by
 cases x<;>simp_all [AV.low,AV.cells,AV.hS]
def AV.Oq{k:Nat}{l:List AV}(h:AV.hS k l=true):AV.hS k (l.flatMap AV.cells)=true:=by
 rw[AV.uy] at h|-;intro x a;obtain⟨y,hy,a⟩:=PK.1 a;exact AV.uy.1 (AV.FR (h y hy)) x a
@[simp] theorem AV.YT{α:Type}{k:Nat}(f:α->Value)(l:List α):AV.hS k (List.map (λn=>AV.sc (f n)) l)=true:=by
 rw[AV.uy];intro x a;obtain⟨y,_,rfl⟩:=mO.1 a;rfl
section
variable{F:jH} {G:Nat->Nat} {n k:Nat}
mutual
def fB.lower:∀{x v},fB F G n x v->x.low k=true->fB F G k x v
 |_,_,.undef h,_=>.undef h|_,_,.sc h,_=>.sc h|_,_,.kN b c d,a=>.kN (b.lower (AV.FR (by simpa[AV.low] using a))) c d|_,_,.ei h,a=>.ei (by simpa[AV.low] using a)|_,_,.oa h,a=>.oa (by simpa[AV.low] using a)|_,_,.yx h c d,a=>.yx (by simpa[AV.low] using a) c d|_,_,.slice b c d e f g i j,a=>.slice (b.lower (AV.Oq (by simpa[AV.low] using a))) c d e f g i j|_,_,.agg b c,a=>.agg (b.lower (by simpa[AV.low] using a)) c|_,_,.tuple b,a=>.tuple (b.lower (by simpa[AV.low] using a))|_,_,.func b c,a=>by
  simp only[AV.low,eJ] at a;exact .func (b.lower a.1) (c.lower a.2)
 |_,_,.iface b,a=>.iface (b.lower (by simpa[AV.low] using a))
def fC.lower:∀{xs vs},fC F G n xs vs->AV.hS k xs=true->fC F G k xs vs
 |_,_,.nil,_=>.nil|_,_,.cons b c,a=>by
  simp only[AV.hS,eJ] at a;exact .cons (b.lower a.1) (c.lower a.2)
end
end
def j4.lower{F:jH}{G:Nat->Nat}{n k:Nat}{cs d}(h:j4 F G n cs d)(a:AV.hS k cs=true):j4 F G k cs d:=by
 cases h with
 |cells e b c=>exact .cells e ((fC.nJ b).lower a).rP c|map b c f g i=>exact .map b ((fC.nJ c).lower (by simpa[AV.hS,AV.low] using a)).rP f g i|iter h=>exact .iter (by simpa[AV.hS,AV.low] using a)|dead=>exact .dead
def ej.drop{P:Program}{T:dA}{f:FuncId}{args:List AV}{H:cV}{Post Post':AV->cV->Prop}(h:ej P T f args H Post)
  (u:∀r H',Post r H'->∃a X,H'=a++X/\H.length<=a.length/\r.low a.length=true/\(∀cs∈a,AV.hS a.length cs=true)/\Post' r a):ej P T f args H Post':=by
 refine⟨h.1,λG F w vs hg y=>(h.2 G F w vs hg y).mono ?_⟩;rintro e w' ⟨r,H',v,G',F',m,rfl,k,z,c⟩;obtain⟨a,X,rfl,hlen,A,n,B⟩:=u r H' m
 have l:∀b o v,F b o=some v->F' b o=some v:=by
  intro b o v p
  have hb:b<w.heap.size:=by
   rcases p4 b w.heap.size with hb|hb
   ·exact hb
   ·rw[hg.fresh b o hb] at p;cases p
  exact c.mF b o v hb p
 have i:∀o,o<a.length->o<(a++X).length:=λo d=>by rw[pJ];omega
 refine⟨r,a,v,G',F',B,rfl,?_,z.lower A,?_⟩
 ·refine⟨k.Ce,?_,λo o' d q=>k.inj o o' (i o d) (i o' q),λo j d s=>k.gF o j (i o d) (by rw[rf d];exact s),k.fresh,λg x C=>?_,k.row⟩
  ·intro o cs d;have t:o<a.length:=(oM.1 d).1;obtain⟨D,E,I⟩:=k.ka o cs (by rw[rf t];exact d);exact⟨D,E,I.lower (n cs (DP d))⟩
  ·exact(hg.x0 g x C).grow ⟨l,hlen,λo d=>c.hG o d⟩
 ·exact⟨c.os,c.tape,c.output,c.size,hlen,c.hG,λo m J=>c.Hi o m (i o J),c.hF,c.mF,c.heap⟩
end Go.ky
namespace Go.ky
open Go
def AV.zj{k:Nat}{x:AV}(h:AV.hS k x.cells=true):x.low k=true:=by
 cases x<;>simp_all [AV.low,AV.cells,AV.hS]
def AV.GN{k:Nat}{l:List AV}(h:AV.hS k (l.flatMap AV.cells)=true):AV.hS k l=true:=by
 rw[AV.uy] at h|-;intro x a;exact AV.zj (AV.uy.2 λy hy=>h y (PK.2 ⟨x,a,hy⟩))
section
variable{F:jH} {G:Nat->Nat} {n:Nat}
mutual
def fB.r_:∀{x v},fB F G n x v->x.low n=true
 |_,_,.undef _=>rfl|_,_,.sc _=>rfl|_,_,.kN a _ _=>by simpa[AV.low] using AV.zj a.r_|_,_,.ei h=>by simpa[AV.low] using h|_,_,.oa h=>by simpa[AV.low] using h|_,_,.yx h _ _=>by simpa[AV.low] using h|_,_,.slice a _ _ _ _ _ _ _=>by simpa[AV.low] using AV.GN a.r_|_,_,.agg a _=>by simpa[AV.low] using a.r_|_,_,.tuple a=>by simpa[AV.low] using a.r_|_,_,.func a b=>by simp[AV.low,a.r_,b.r_]|_,_,.iface a=>by simpa[AV.low] using a.r_
def fC.r_:∀{xs vs},fC F G n xs vs->AV.hS n xs=true
 |_,_,.nil=>rfl|_,_,.cons a b=>by simp[AV.hS,a.r_,b.r_]
end
end
def j4.r_{F:jH}{G:Nat->Nat}{n:Nat}{cs c}(h:j4 F G n cs c):AV.hS n cs=true:=by
 cases h with
 |cells d a b=>exact(fC.nJ a).r_|map a b e f g=>simpa[AV.hS,AV.low] using(fC.nJ b).r_|iter h=>simpa[AV.hS,AV.low] using h|dead=>rfl
def ej.ur{P:Program}{T:dA}{f:FuncId}{args:List AV}{H:cV}{Post Post':AV->cV->Prop}(h:ej P T f args H Post)
  (d:∀r H',Post r H'->∃X,H'=H++X/\r.low H.length=true/\Post' r H):ej P T f args H Post':=by
 refine⟨h.1,λG F w vs hg g=>?_⟩
 have a:∀cs∈H,AV.hS H.length cs=true:=by
  intro cs b;obtain⟨o,i⟩:=TF.1 b;obtain⟨m,_,j⟩:=hg.ka o cs i;exact j.r_
 exact(ej.drop (Post':=Post') h λr H' k=>by
  obtain⟨X,e,l,c⟩:=d r H' k
  exact⟨H,X,e,hO _,l,a,c⟩).2 G F w vs hg g
end Go.ky
namespace Go.ky
open Go Go.fg
mutual
def AV.Dy{k n:Nat}(h:k<=n):∀{x:AV},x.low k=true->x.low n=true
 |.undef,_=>rfl|.sc _,_=>rfl|.kN x,a=>by simpa[AV.low] using AV.Dy h (x:=x) (by simpa[AV.low] using a)|.dc _ _ _,_=>rfl|.ei o _,a=>by simp[AV.low] at a|-;omega
 |.yx o _ _ _,a=>by simp[AV.low] at a|-;omega
 |.slice _ l,a=>by simpa[AV.low] using AV.o7 h (l:=l) (by simpa[AV.low] using a)|.agg l,a=>by simpa[AV.low] using AV.o7 h (l:=l) (by simpa[AV.low] using a)|.tuple l,a=>by simpa[AV.low] using AV.o7 h (l:=l) (by simpa[AV.low] using a)|.func _ f c,a=>by
  simp only[AV.low,eJ] at a|-;exact⟨AV.o7 h a.1,AV.o7 h a.2⟩
 |.iface _ x,a=>by simpa[AV.low] using AV.Dy h (x:=x) (by simpa[AV.low] using a)|.wG _ _ _ _,_=>rfl|.oa o,a=>by simp[AV.low] at a|-;omega
 |.sC _ l,a=>by simpa[AV.low] using AV.o7 h (l:=l) (by simpa[AV.low] using a)|.u' o _ _,a=>by simp[AV.low] at a|-;omega
def AV.o7{k n:Nat}(h:k<=n):∀{l:List AV},AV.hS k l=true->AV.hS n l=true
 |[],_=>rfl|x::l,a=>by
  simp only[AV.hS,eJ] at a|-;exact⟨AV.Dy h a.1,AV.o7 h a.2⟩
end
def F5{H:cV}{o:Nat}{c:List AV}(h:H[o]?=some c):o<H.length:=(oM.1 h).1
def Mm{H:cV}{o:Nat}{c:List AV}(h:H[o]?=some c):fu H o c=H:=by
 apply KA;intro i;simp only[fu];rw[Oi]
 split
 ·rename_i e;subst e;rw[cG (F5 h),h]
 ·rfl
def Y1(H:cV)(o:Nat):Prop:=o<H.length
def eP{H:cV}{o:Nat}{c:List AV}(h:H[o]?=some c):Y1 H o:=F5 h
def Og{H:cV}{o:Nat}{c:List AV}(h:Y1 H o):(fu H o c)[o]?=some c:=by simp[fu,show o<H.length from h]
def Jh{H:cV}{o o':Nat}{c:List AV}(h:o≠o'):(fu H o c)[o']?=H[o']?:=by simp[fu,Oi,h]
def LI{H:cV}{o o':Nat}{c d e:List AV}(h:o≠o'):fu (fu (fu H o c) o' d) o e=fu (fu H o e) o' d:=by
 simp only[fu];rw[List.set_comm _ _ h.symm,List.set_set]
def KO{A B:cV}{o:Nat}(h:Y1 A o):(A++B)[o]?=A[o]?:=rf h
def Je{A B:cV}{o:Nat}{c:List AV}(h:Y1 A o):fu (A++B) o c=fu A o c++B:=by simp[fu,List.set_append,show o<A.length from h]
def C_{A B:cV}{k i:Nat}(h:A.length=k):(A++B)[k+i]?=B[i]?:=by
 subst h;rw[vu (by omega)]
 congr 1
 omega
def J4{A B:cV}{k:Nat}(h:A.length=k):(A++B)[k]?=B[0]?:=C_ (i:=0) h
def Bs{A B:cV}{k i:Nat}{c:List AV}(h:A.length=k):fu (A++B) (k+i) c=A++fu B i c:=by
 subst h;simp[fu,List.set_append]
def IE{A B:cV}{k:Nat}{c:List AV}(h:A.length=k):fu (A++B) k c=A++fu B 0 c:=Bs (i:=0) h
@[simp] theorem Ui(a:List AV)(l:cV)(c:List AV):fu (a::l) 0 c=c::l:=rfl
@[simp] theorem TW(a:List AV)(l:cV)(i:Nat)(c:List AV):fu (a::l) (i+1) c=a::fu l i c:=rfl
def ej.L7{P:Program}{T:dA}{f:FuncId}{args:List AV}{H:cV}{o:Nat}{c:List AV}{Post:AV->cV->Prop}(h:H[o]?=some c)(a:ej P T f args (fu H o c) Post):ej P T f args H Post:=by
 rwa [Mm h] at a
structure yw {S:Type} (st:S->cV) (k:Nat):Prop where
 len:∀s,(st s).length=k
 low:∀s s' cs,cs∈st s'->cs∈st s\/AV.hS k cs=true
def yw.const{S:Type}(H:cV):yw (λ_:S=>H) H.length:=⟨λ_=>rfl,λ_ _ _ h=>.inl h⟩
def yw.ext{S:Type}{st:S->cV}{k:Nat}(h:yw st k)(X:cV){n:Nat}(hn:k+X.length=n):yw (λs=>st s++X) n:=by
 subst hn;refine⟨λs=>by rw[pJ,h.len],λs a cs hc=>?_⟩;rcases qW.1 hc with hc|hc
 ·rcases h.low s a cs hc with h1|h1
  ·exact .inl (ND _ h1)
  ·exact .inr (AV.o7 (by omega) h1)
 ·exact .inl (Q3 _ hc)
def yw.Nb{S:Type}(H:cV)(f:S->cV)(n:Nat)(hn:∀s,(f s).length=n)(b:∀s a cs,cs∈f a->cs∈f s\/AV.hS (H.length+n) cs=true):yw (λs=>H++f s) (H.length+n):=by
 refine⟨λs=>by rw[pJ,hn],λs a cs hc=>?_⟩;rcases qW.1 hc with hc|hc
 ·exact .inl (ND _ hc)
 ·rcases b s a cs hc with h1|h1
  ·exact .inl (Q3 _ h1)
  ·exact .inr h1
def ej.W3{P:Program}{T:dA}{f:FuncId}{args:List AV}{H:cV}{Post Post':AV->cV->Prop}(h:ej P T f args H Post)
  (g:∀r H',Post r H'->∃b X,H'=b++X/\b.length=H.length/\r.low H.length=true/\(∀cs∈b,cs∈H\/AV.hS H.length cs=true)/\Post' r b):ej P T f args H Post':=by
 refine⟨h.1,λG F w vs hg i=>?_⟩
 have c:∀cs∈H,AV.hS H.length cs=true:=by
  intro cs a;obtain⟨o,j⟩:=TF.1 a;obtain⟨p,_,k⟩:=hg.ka o cs j;exact k.r_
 refine(ej.drop (Post':=Post') h λr H' l=>?_).2 G F w vs hg i;obtain⟨b,X,e,hlen,m,a,d⟩:=g r H' l;refine⟨b,X,e,by omega,by rw[hlen];exact m,λcs n=>?_,d⟩;rw[hlen];rcases a cs n with h1|h1
 ·exact c cs h1
 ·exact h1
def ej.Rr{P:Program}{T:dA}{f:FuncId}{args:List AV}{S:Type}{st:S->cV}{k:Nat}(hF:yw st k){s:S}{Post Post':AV->cV->Prop}(h:ej P T f args (st s) Post)
  (c:∀r H',Post r H'->∃a X,H'=st a++X/\r.low k=true/\Post' r (st a)):ej P T f args (st s) Post':=
 ej.W3 h λr H' d=>by
  obtain⟨a,X,e,g,b⟩:=c r H' d;exact⟨st a,X,e,by rw[hF.len,hF.len],by rw[hF.len];exact g,λcs i=>by rw[hF.len];exact hF.low s a cs i,b⟩
@[simp] theorem Wv(H:List (List AV))(o:Nat)(c:List AV):List.set H o c=fu H o c:=rfl
attribute [simp] Og Jh LI KO Je C_ J4 Bs IE
end Go.ky
namespace Go.ky
open Go Go.fg
def eM(P:Program)(T:dA)(E:List Nat)(opsA:Array Oper)(q:Bool):List Bool->List Oper->(Fr->cV->Prop)->Fr->cV->Prop
 |_,[],K,fr,H=>K fr H|[],o::rest,K,fr,H=>kP P T E opsA q true o (λfr H=>eM P T E opsA q [] rest K fr H) fr H|b::bs,o::rest,K,fr,H=>kP P T E opsA q b o (λfr H=>eM P T E opsA q bs rest K fr H) fr H
def EF{E:List Nat}{ops:Array Oper}{q:Bool}{P:Program}{T:dA}{K:Fr->cV->Prop}(a:List Bool):∀(l:List Oper) (k:Nat) (fr:Fr) (H:cV),l=ops.toList.drop k->eM P T E ops q (a.drop k) l K fr H->DR P T E ops q (λi=>a.getD i true) (List.range' k l.length) K fr H:=by
 intro l
 induction l with
 |nil=>
  intro k fr H _ h;cases d:a.drop k<;>rw[d] at h<;>exact h
 |cons o l e=>
  intro k fr H c h
  have b:k<ops.toList.length:=by
   rcases p4 k ops.toList.length with h'|h'
   ·exact h'
   ·rw[IT h'] at c;cases c
  have f:=Kz b;rw[f] at c;injection c with g j
  have hi:ops[k]?=some o:=by
   rw[g];simp only[P'];exact L9 (by simpa using b)
  simp only[jW,TP,DR,hi]
  have m:a.getD k true=(a.drop k).headD true:=by
   simp only[List.getD,List.headD_eq_head?_getD,List.head?_drop]
  have n:a.drop (k+1)=(a.drop k).tail:=by rw[List.tail_drop]
  rw[m];refine xV (K:=λfr H=>eM P T E ops q (a.drop (k+1)) l K fr H) (λfr H h=>e (k+1) fr H j h) ?_;rw[n];cases d:a.drop k<;>rw[d] at h<;>exact h
def g_.QT{P:Program}{T:dA}{n:Nat}{Q:Exit->Fr->cV->Prop}{fr:Fr}{H:cV}{id:Nat}{ops:Array Oper}(E:List Nat)(q:Bool)(b:List Bool)(hm:P.follows .mixedOrders=true)(a:uI n ops=true)(c:uv E ops (λi=>b.getD i true)=true)
  (h:eM P T E ops q b ops.toList (Q .normal) fr H):g_ P T n (.region id ops true) Q fr H:=by
 refine g_.IL E q (λi=>b.getD i true) hm a c ?_;have:=EF (P:=P) (T:=T) (E:=E) (ops:=ops) (q:=q) (K:=Q .normal) b ops.toList 0 fr H (by rw[B8]) (by rw[B8];exact h);rw[T9];simpa using this
def nL(P:Program)(T:dA)(E:List Nat)(ops:Array Oper)(q:Bool)(bs:List Bool)(a:AV)(as:List AV)(d:Option Nat)(rest:List Oper)(K:Fr->cV->Prop)(fr:Fr)(H:cV):Prop:=
 ∃r H',nj P T a as H r H'/\(q=true->H'=H)/\eM P T E ops q bs rest K (fr.put d r) H'
def yK(P:Program)(T:dA)(E:List Nat)(ops:Array Oper)(q:Bool)(bs:List Bool)(a:AV)(as:List AV)(d:Option Nat)(rest:List Oper)(K:Fr->cV->Prop)(fr:Fr)(H:cV):Prop:=
 ∃r H',nj P T a as H r H'/\eM P T E ops q bs rest K (fr.put d r) H'
section
variable{P:Program} {T:dA} {E:List Nat} {ops:Array Oper} {q:Bool} {bs:List Bool} {rest:List Oper} {K:Fr->cV->Prop} {fr:Fr} {H H':cV} {d:Option Nat} {ty:TypeId} {pos:String} {after:Array Edge}
def nL.fn{g:FuncId}{as:List AV}{r:AV}(h:dy P T g as H r H')(a:q=true->H'=H)(b:eM P T E ops q bs rest K (fr.put d r) H'):nL P T E ops q bs (.func (.func g) [] []) as d rest K fr H:=by
 refine⟨r,H',?_,a,b⟩;unfold nj oF;simp only[mI,xm];exact h
def nL.P6{g:FuncId}{b c as a:List AV}{r:AV}(e:b++as++c=a)(h:dy P T g a H r H')(f:q=true->H'=H)(i:eM P T E ops q bs rest K (fr.put d r) H'):nL P T E ops q bs (.func (.func g) b c) as d rest K fr H:=by
 subst e;exact⟨r,H',h,f,i⟩
def yK.fn{g:FuncId}{as:List AV}{r:AV}(h:dy P T g as H r H')(a:eM P T E ops q bs rest K (fr.put d r) H'):yK P T E ops q bs (.func (.func g) [] []) as d rest K fr H:=by
 refine⟨r,H',?_,a⟩;unfold nj oF;simp only[mI,xm];exact h
@[simp] theorem Ry{f:Operand}{as:Array Operand}{ts:Array TypeId}:eM P T E ops q (false::bs) ({dst:=d,op:=.call {callee:=.value f,args:=as,argTypes:=ts},type:=ty,pos:=pos,after:=after,guard:=none}::rest) K fr H=yK P T E ops q bs (ev T fr f) (as.toList.map λx=>(ev T fr x).norm) d rest K fr H:=by
 simp only[eM,kP,ig,fD,yK,qJ,false_implies,Xh]
@[simp] theorem VX(bs:List Bool):eM P T E ops q bs [] K fr H=K fr H:=by cases bs<;>rfl
@[simp] theorem RC{t:TypeId}{x:Operand}:eM P T E ops q (false::bs) ({dst:=d,op:=.load t x,type:=ty,pos:=pos,after:=after,guard:=none}::rest) K fr H=if oK ops.toList x (ev T fr x)then(match tZ P fr H t (ev T fr x)with|some v=>eM P T E ops q bs rest K (fr.put d v) H|none=>False)else False:=by
 simp only[eM,kP,ig,fD,mN,Bool.not_false,Bool.true_or,xl]
 split
 ·rename_i v a
  split at a
  ·rename_i b;rw[cG b,a]
  ·cases a
 ·rename_i a
  split at a
  ·rename_i b;rw[cG b,a]
  ·rename_i b;rw[cB b]
@[simp] theorem QK{t:TypeId}{x y:Operand}:eM P T E ops q (false::bs) ({dst:=none,op:=.store t x y,type:=ty,pos:=pos,after:=after,guard:=none}::rest) K fr H=(oK ops.toList x (ev T fr x)=true/\lA P t (ev T fr x) (ev T fr y) (eM P T E ops q bs rest K) fr H):=by
 simp only[eM,kP,ig,fD,Xh,qJ,false_implies]
@[simp] theorem Si{x:Operand}:eM P T E ops q (true::bs) ({dst:=d,op:=.move x,type:=ty,pos:=pos,after:=after,guard:=none}::rest) K fr H=eM P T E ops q bs rest K (fr.put d (ev T fr x)) H:=rfl
@[simp] theorem P9{x:Operand}:eM P T E ops q (true::bs) ({dst:=d,op:=.assign x,type:=ty,pos:=pos,after:=after,guard:=none}::rest) K fr H=eM P T E ops q bs rest K (fr.put d (ev T fr x)) H:=rfl
@[simp] theorem Ru{t:TypeId}:eM P T E ops q (true::bs) ({dst:=d,op:=.alloc t,type:=ty,pos:=pos,after:=after,guard:=none}::rest) K fr H=match jM P t with|some z=>d.any E.contains=false/\jx E d z (eM P T E ops q bs rest K) fr H|none=>False:=by
 simp only[eM,kP,ig,fD,sE];rfl
@[simp] theorem UJ{t:TypeId}{x:Operand}:eM P T E ops q (true::bs) ({dst:=d,op:=.load t x,type:=ty,pos:=pos,after:=after,guard:=none}::rest) K fr H=if oK ops.toList x (ev T fr x)&&(q||!Rg (ev T fr x))then(match tZ P fr H t (ev T fr x)with|some v=>eM P T E ops q bs rest K (fr.put d v) H|none=>False)else False:=by
 simp only[eM,kP,ig,fD,mN,Ul,X3]
 split
 ·rename_i v a
  split at a
  ·rename_i b;rw[cG b,a]
  ·cases a
 ·rename_i a
  split at a
  ·rename_i b;rw[cG b,a]
  ·rename_i b;rw[cB b]
@[simp] theorem RK{t:TypeId}{x y:Operand}:eM P T E ops q (true::bs) ({dst:=none,op:=.store t x y,type:=ty,pos:=pos,after:=after,guard:=none}::rest) K fr H=(oK ops.toList x (ev T fr x)=true/\Yt (ev T fr x)=true/\lA P t (ev T fr x) (ev T fr y) (eM P T E ops q bs rest K) fr H):=by
 simp only[eM,kP,ig,fD,sE,Xh]
@[simp] theorem Ma{t n:Nat}{ps:Array (Nat×Operand)}:eM P T E ops q (true::bs) ({dst:=d,op:=.buildSlice t n ps,type:=ty,pos:=pos,after:=after,guard:=none}::rest) K fr H=if d.any E.contains=true then False else match k1 P t n (ps.toList.map λp=>(p.1,ev T fr p.2))with|some v=>eM P T E ops q bs rest K (fr.put d v) H|none=>False:=by
 simp only[eM,kP,ig,fD,mN]
 split
 ·rename_i v a
  split at a
  ·cases a
  ·rename_i b;rw[cB b,a]
 ·rename_i a
  split at a
  ·rename_i b;rw[cG b]
  ·rename_i b;rw[cB b,a]
@[simp] theorem Qh{t:TypeId}{x i:Operand}{ok:Bool}:eM P T E ops q (true::bs) ({dst:=d,op:=.lookup t x i ok,type:=ty,pos:=pos,after:=after,guard:=none}::rest) K fr H=if q=true then(match re P H t (ev T fr x) (ev T fr i) ok with|some v=>eM P T E ops q bs rest K (fr.put d v) H|none=>False)else False:=by
 simp only[eM,kP,ig,fD,mN,Ul,X3]
 split
 ·rename_i v a
  split at a
  ·rename_i b;rw[cG b,a]
  ·cases a
 ·rename_i a
  split at a
  ·rename_i b;rw[cG b,a]
  ·rename_i b;rw[cB b]
def nL.val{a:AV}{as:List AV}{r:AV}(h:nj P T a as H r H')(b:q=true->H'=H)(c:eM P T E ops q bs rest K (fr.put d r) H'):nL P T E ops q bs a as d rest K fr H:=⟨r,H',h,b,c⟩
@[simp] theorem PV{x y:Operand}{t d:Nat}:eM P T E ops q (true::bs) ({dst:=some d,op:=.call {callee:=.builtin .append,args:=#[x,y],argTypes:=#[t,t]},type:=ty,pos:=pos,after:=after,guard:=none}::rest) K fr H=xF P t (ev T fr x) (ev T fr y) d (eM P T E ops q bs rest K) fr H:=by
 simp only[eM,kP,ig,fD];exact C8
@[simp] theorem UL{f:Operand}{as:Array Operand}{ts:Array TypeId}:eM P T E ops q (true::bs) ({dst:=d,op:=.call {callee:=.value f,args:=as,argTypes:=ts},type:=ty,pos:=pos,after:=after,guard:=none}::rest) K fr H=nL P T E ops q bs (ev T fr f) (as.toList.map λx=>(ev T fr x).norm) d rest K fr H:=by
 simp only[eM,kP,ig,fD,sE,nL]
@[simp] theorem V8{as:Array Operand}{ts:Array TypeId}:eM P T E ops q (true::bs) ({dst:=d,op:=.call {callee:=.builtin .len,args:=as,argTypes:=ts},type:=ty,pos:=pos,after:=after,guard:=none}::rest) K fr H=match sN P T fr {callee:=.builtin .len,args:=as,argTypes:=ts}with|some v=>eM P T E ops q bs rest K (fr.put d v) H|none=>False:=rfl
@[simp] theorem We{as:Array Operand}{ts:Array TypeId}:eM P T E ops q (true::bs) ({dst:=d,op:=.call {callee:=.builtin .max,args:=as,argTypes:=ts},type:=ty,pos:=pos,after:=after,guard:=none}::rest) K fr H=match sN P T fr {callee:=.builtin .max,args:=as,argTypes:=ts}with|some v=>eM P T E ops q bs rest K (fr.put d v) H|none=>False:=rfl
@[simp] theorem Up{c a b:Operand}:eM P T E ops q (true::bs) ({dst:=d,op:=.pick c a b,type:=ty,pos:=pos,after:=after,guard:=none}::rest) K fr H=match uH P T fr {dst:=d,op:=.pick c a b,type:=ty,pos:=pos,after:=after,guard:=none}with|some v=>eM P T E ops q bs rest K (fr.put d v) H|none=>False:=rfl
@[simp] theorem Re{t:TypeId}{ps:Array (Nat×Operand)}:eM P T E ops q (true::bs) ({dst:=d,op:=.build t ps,type:=ty,pos:=pos,after:=after,guard:=none}::rest) K fr H=match z' P t (ps.toList.map λp=>(p.1,ev T fr p.2))with|some v=>eM P T E ops q bs rest K (fr.put d v) H|none=>False:=rfl
@[simp] theorem RF{o:BinOp}{t u:TypeId}{x y:Operand}:eM P T E ops q (true::bs) ({dst:=d,op:=.binOp o t x y u,type:=ty,pos:=pos,after:=after,guard:=none}::rest) K fr H=match GO P o t y (ev T fr x) (ev T fr y)with|some v=>eM P T E ops q bs rest K (fr.put d v) H|none=>False:=rfl
@[simp] theorem SI{o:UnOp}{t:TypeId}{x:Operand}:eM P T E ops q (true::bs) ({dst:=d,op:=.unOp o t x,type:=ty,pos:=pos,after:=after,guard:=none}::rest) K fr H=match Vp o (ev T fr x)with|some v=>eM P T E ops q bs rest K (fr.put d v) H|none=>False:=rfl
@[simp] theorem M7{t i:Nat}{x:Operand}:eM P T E ops q (true::bs) ({dst:=d,op:=.fieldAddr t x i,type:=ty,pos:=pos,after:=after,guard:=none}::rest) K fr H=match oQ P t (ev T fr x) i with|some v=>eM P T E ops q bs rest K (fr.put d v) H|none=>False:=rfl
@[simp] theorem M6{t:TypeId}{x i:Operand}:eM P T E ops q (true::bs) ({dst:=d,op:=.indexAddr t x i,type:=ty,pos:=pos,after:=after,guard:=none}::rest) K fr H=match eL P t (ev T fr x) (ev T fr i)with|some v=>eM P T E ops q bs rest K (fr.put d v) H|none=>False:=rfl
@[simp] theorem RN{t:TypeId}{x:Operand}{lo hi a:Option Operand}:eM P T E ops q (true::bs) ({dst:=d,op:=.slice t x lo hi a,type:=ty,pos:=pos,after:=after,guard:=none}::rest) K fr H=match mo P t (ev T fr x) (lo.map (ev T fr)) (hi.map (ev T fr)) (a.map (ev T fr))with|some v=>eM P T E ops q bs rest K (fr.put d v) H|none=>False:=rfl
@[simp] theorem PF{i:Nat}{x:Operand}:eM P T E ops q (true::bs) ({dst:=d,op:=.extract x i,type:=ty,pos:=pos,after:=after,guard:=none}::rest) K fr H=match uH P T fr {dst:=d,op:=.extract x i,type:=ty,pos:=pos,after:=after,guard:=none}with|some v=>eM P T E ops q bs rest K (fr.put d v) H|none=>False:=rfl
@[simp] theorem Od{x:Operand}:eM P T E ops q (true::bs) ({dst:=d,op:=.nilCheck x,type:=ty,pos:=pos,after:=after,guard:=none}::rest) K fr H=match uH P T fr {dst:=d,op:=.nilCheck x,type:=ty,pos:=pos,after:=after,guard:=none}with|some v=>eM P T E ops q bs rest K (fr.put d v) H|none=>False:=rfl
@[simp] theorem RE{op:Op}{j:Nat}{want:Bool}:eM P T E ops q (true::bs) ({dst:=d,op:=op,type:=ty,pos:=pos,after:=after,guard:=some (j,want)}::rest) K fr H=match(ops[j]?).bind (·.dst)with
  |some g=>match fr.env g with
   |.sc (.bool b)=>if b=want then eM P T E ops q (true::bs) ({dst:=d,op:=op,type:=ty,pos:=pos,after:=after,guard:=none}::rest) K fr H else eM P T E ops q bs rest K (fr.put d (.tuple [])) H|.tuple _=>eM P T E ops q bs rest K (fr.put d (.tuple [])) H|_=>False
  |none=>False:=by
 simp only[eM,kP,ig]
 cases a:(ops[j]?).bind (·.dst)with
 |none=>rfl|some g=>
  simp only;cases he:fr.env g with
  |sc v=>
   cases v with
   |bool b=>
    simp only
    by_cases hw:b=want
    ·subst hw;simp only[beq_self_eq_true,if_true];rfl
    ·rw[cB hw]
     have:(b==want)=false:=by simpa using hw
     rw[this]
   |_=>rfl
  |_=>rfl
end
end Go.ky
namespace Go.ky
open Go Go.fg
def kG(k:Nat):Option Nat->AV
 |none=>.sc (.pointer none)|some p=>.ei (k+p) 0
@[simp] theorem XN(k:Nat):kG k none=.sc (.pointer none):=rfl
@[simp] theorem X_(k p:Nat):kG k (some p)=.ei (k+p) 0:=rfl
@[simp] theorem Y7(k:Nat)(x:Option Nat):(kG k x).fA=true:=by cases x<;>rfl
@[simp] theorem VT(k:Nat)(x:Option Nat):(kG k x).cells=[kG k x]:=by cases x<;>rfl
@[simp] theorem ZQ(k:Nat)(x:Option Nat):ek (kG k x)=true:=by cases x<;>rfl
@[simp] theorem XC(k:Nat)(x:Option Nat):(kG k x).norm=kG k x:=by cases x<;>rfl
@[simp] theorem Vr(k:Nat)(x:Option Nat):(kG k x).jU=kG k x:=by cases x<;>rfl
@[simp] theorem WE(P:Program)(ty:TypeId)(k:Nat)(x:Option Nat):oz P ty (kG k x)=match eB P ty with|some (false,_)=>true|_=>false:=by
 cases x with
 |none=>exact QV P ty _|some p=>exact LY P ty _ _
def s7{C:Type}(c:Nat->C->List AV)(k:Nat)(l:List C):cV:=l.map (c k)
@[simp] theorem PI{C:Type}(c:Nat->C->List AV)(k:Nat)(l:List C):(s7 c k l).length=l.length:=by simp[s7]
@[simp] theorem VL{C:Type}(c:Nat->C->List AV)(k:Nat)(l:List C)(p:Nat):(s7 c k l)[p]?=(l[p]?).map (c k):=by simp[s7]
def nx{C:Type}{c:Nat->C->List AV}{k:Nat}{l:List C}{p:Nat}{x:C}{cs:List AV}(h:cs=c k x):fu (s7 c k l) p cs=s7 c k (l.set p x):=by
 subst h;simp only[fu,s7,List.map_set]
def FG{C:Type}{c:Nat->C->List AV}{k:Nat}{l:List C}{x:C}{cs:List AV}(h:cs=c k x):s7 c k l++[cs]=s7 c k (l++[x]):=by
 subst h;simp[s7]
def sX{C:Type}{l:List C}{p:Nat}{x y:C}(h:l[p]?=some y):(l.set p x)[p]?=some x:=by
 have:p<l.length:=(oM.1 h).1;simp[this]
def Li{C:Type}{l:List C}{x:C}:(l++[x])[l.length]?=some x:=by simp
def ej.Yi{C:Type}{c:Nat->C->List AV}{P:Program}{T:dA}{f:FuncId}{args:List AV}{H:cV}{Post:AV->cV->Prop}(h:ej P T f args (H++s7 c H.length []) Post):ej P T f args H Post:=by
 simpa[s7] using h
section
variable{P:Program} {t e:TypeId} {k:Nat} {x:Option Nat}
def O6(hu:P.underlying t=some (.pointer e)):lX P .eql t (kG k x) (.sc (.pointer none))=some (.sc (.bool x.isNone)):=by
 cases x<;>simp[lX,pw,hu]
def Pt(hu:P.underlying t=some (.pointer e)):lX P .neq t (kG k x) (.sc (.pointer none))=some (.sc (.bool x.isSome)):=by
 cases x<;>simp[lX,pw,hu]
end
end Go.ky
namespace Go.ky
open Go Go.fg
def D9{α:Type}(f:α->AV)(L:List α)(k:Nat):List AV:=(L.map f).flatMap AV.cells++Dd k
@[irreducible] def P5(i sz:Nat):Nat:=i*sz
def GP(i sz:Nat):P5 i sz=i*sz:=by unfold P5;rfl
section
variable{α:Type} {f:α->AV} {L:List α} {k sz:Nat}
def q_(h:∀x,(f x).cells.length=sz)(L:List α):((L.map f).flatMap AV.cells).length=L.length*sz:=by
 rw[pd (sz:=sz)]
 ·simp
 ·intro x a;obtain⟨y,_,rfl⟩:=mO.1 a;exact h y
def Bz(h:∀x,(f x).cells.length=sz):(D9 f L k).length=L.length*sz+k:=by
 unfold D9;rw[pJ,q_ h];simp[Dd]
def M0(h:∀x,(f x).cells.length=sz):(D9 f L k).take (L.length*sz)=(L.map f).flatMap AV.cells:=by
 unfold D9;rw[QO (by rw[q_ h];exact hO _),Qg (by rw[q_ h];exact hO _)]
def Po(h:∀x,(f x).cells.length=sz){i:Nat}{y:α}(hi:i<L.length):setCells (D9 f L k) (i*sz) (f y).cells=D9 f (L.set i y) k:=by
 unfold setCells D9;have hlen:=q_ h L
 have hle:i*sz+sz<=L.length*sz:=by
  rw[<-QX];exact HO _ hi
 rw[h y,QO (by omega),List.drop_append_of_le_length (by omega),<-so]
 congr 1
 have a:L.set i y=L.take i++y::L.drop (i+1):=List.set_eq_take_append_cons_drop▸(by rw[cG hi]);rw[a,Tz,mi,Cv,xY]
 have hm:∀x∈L.map f,x.cells.length=sz:=by
  intro x b;obtain⟨z,_,rfl⟩:=mO.1 b;exact h z
 have c:i*sz+sz=(i+1)*sz:=by rw[QX]
 rw[c,<-yT hm,<-uR hm,List.map_take,List.map_drop,so]
end
def Ku{α:Type}{f:α->AV}(a:∀x,(f x).cells.map AV.jU=(f x).cells)(L:List α):(L.map f).flatMap AV.cells=((L.map f).flatMap AV.cells).map AV.jU:=by
 induction L with
 |nil=>rfl|cons x L b=>simp only[mi,xY,Tz,a,<-b]
def uQ.Z9{P:Program}{t e sz d:Nat}{s x:AV}{K:Fr->cV->Prop}{fr:Fr}{H:cV}{α:Type}{f:α->AV}(m:List α){b:Tag}
  (c:nM P t=some (e,sz)) (g:∃k,jM P e=some k) (h:∀x,(f x).cells.length=sz) (hlen:vA m=true) (hs:s=.slice .full []) (o:x=.slice b (m.map f))
  (p:∀cap,m.length<=cap->K {fr with env:=fF fr.env d (.wG d (fr.gen d+1) m.length cap),box:=fF fr.box d (some (D9 f m ((cap-m.length)*sz))),gen:=fF fr.gen d (fr.gen d+1)} H):uQ P t s x d K fr H:=by
 subst hs;subst o
 have n:0<m.length/\m.length<=MG:=by simpa[vA] using hlen
 have i:∀l:List α,kg sz (l.map f)=true:=λl=>by cases l with|nil=>rfl|cons a l=>simp[h]
 obtain⟨k,g⟩:=g;refine .inr ?_;unfold PO;rw[c];refine⟨i m,by rw[g];rfl,by simpa using n.1,rfl,by simpa[kM,MG] using n.2,λcap q=>?_⟩
 have j:m.length<=cap:=by simpa using q
 have:=p cap j;simp only[vp,List.flatMap_nil,mI,tH,sy,BK];exact this
@[simp] theorem NZ{P:Program}{t:TypeId}{k:IntKind}{a:Int}{b g n c:Nat}:eL P t (.wG b g n c) (.sc (.int k a))=match P.underlying t with
  |some (.slice e)=>match eB P e with
   |some (_,sz)=>if 0<=a/\a<(n:Int)then some (.dc b g (P5 a.toNat sz))else none|none=>none
  |_=>none:=by
 unfold eL;simp only[GP];cases P.underlying t with
 |none=>rfl|some y=>cases y<;>rfl
def Hb(P:Program)(t:TypeId)(b g i sz:Nat)(v:AV)(K:Fr->cV->Prop)(fr:Fr)(H:cV):Prop:=lA P t (.dc b g (P5 i sz)) v K fr H
@[simp high] theorem abm{P:Program}{t:TypeId}{b g i sz:Nat}{v:AV}{K:Fr->cV->Prop}{fr:Fr}{H:cV}:lA P t (.dc b g (P5 i sz)) v K fr H=Hb P t b g i sz v K fr H:=rfl
def Hb.arr{P:Program}{t:TypeId}{b g sz k:Nat}{a:Int}{bl:Bool}{v:AV}{K:Fr->cV->Prop}{fr:Fr}{H:cV}{α:Type}{f:α->AV}{L:List α}{x:α}(y:α)(h:eB P t=some (bl,sz))(c:∀x,(f x).cells.length=sz)
  (e:ek (f y)=true) (hi:c_ L a=some x) (hg:g=fr.gen b) (i:fr.box b=some (D9 f L k)) (j:v=f y) (l:K {fr with box:=fF fr.box b (some (D9 f (yH L a y) k))} H):Hb P t b g a.toNat sz v K fr H:=by
 subst j;have hi':=N4 hi;have d:=(oM.1 hi').1
 have hle:a.toNat*sz+sz<=L.length*sz:=by
  rw[<-QX];exact HO _ d
 unfold Hb;simp only[lA,h,i];refine⟨hg,c y,by rw[GP,Bz c];omega,e,?_⟩;rw[GP,Po c d];exact l
section
variable{P:Program} {T:dA} {n B0:Nat} {ρ:Maps} {F:jH} {R:Nat->mU} {fr:Fr} {H:cV} {a:Act} {w:World}
def WR.unbox(h:WR T n B0 ρ F R fr H a w){d:Nat}{cs:List AV}(x:fr.box d=some cs):∃p,p (ρ.L d (fr.gen d))=.free/\WR T n B0 ρ F p {fr with box:=fF fr.box d none} H a w:=by
 obtain⟨D,y,E,vs,ty,G,I⟩:=h.box d cs x
 let p:Nat->mU:=fF R (ρ.L d (fr.gen d)) .free
 have i:∀b,R b≠ .box d->p b=R b:=by
  intro b f;show fF R (ρ.L d (fr.gen d)) .free b=R b;unfold fF;rw[cB];rintro rfl;exact f y
 refine⟨p,by show fF R _ _ _=_;simp[fF],⟨h.g,h.size,h.defers,h.env,h.hn,h.lg,h.ag,?_,?_,?_,?_,?_,h.p5⟩⟩
 ·intro r s l;simp only[fF] at l
  by_cases he:r=d
  ·subst he;simp at l
  ·rw[cB he] at l;obtain⟨t,q,u⟩:=h.box r s l;exact⟨t,by rw[i _ (by rw[q];simp[he])];exact q,u⟩
 ·intro k m z b c sz A;obtain⟨t,q,u⟩:=h.tok k m z b c sz A;exact⟨t,by rw[i _ (by rw[q];simp)];exact q,u⟩
 ·intro b j v B
  by_cases f:b=ρ.L d (fr.gen d)
  ·subst f;intro r;show fF R _ _ _≠_;simp[fF]
  ·have e:p b=R b:=by show fF R _ _ _=_;simp[fF,f]
   rw[e];exact h.qK b j v B
 ·intro o C;have:=h.nZ o C;rw[i _ (by rw[this];simp)];exact this
 ·intro b f;have:=h.lz b f;rw[i _ (by rw[this];simp)];exact this
def gi.MC{F:jH}{ρ:Maps}{cs:List AV}{vs:List Value}(h:gi (iR F ρ) cs vs):gi (fB F ρ.G ρ.n) (cs.map AV.jU) vs:=h.tR AV.jU λ_ _ _ h=>h.jU
def WR.Mi(h:WR T n B0 ρ F R fr H a w){d len cap sz:Nat}{cs els:List AV}(z:fr.box d=some cs)(D:els.length=len)(hs:∀x∈els,x.cells.length=sz)
  (A:els.flatMap AV.cells=(cs.take (len*sz)).map AV.jU) (hle:len*sz<=cs.length) (E:len<=cap) (q:cap<=maxLen):∃F' r,ta F F' ρ ρ/\(∀b j,b<B0->F' b j=F b j)/\WR T n B0 ρ F' r {fr with box:=fF fr.box d none} H a w/\fB F' ρ.G ρ.n (.slice .eh els) (.slice (some ⟨ρ.L d (fr.gen d),0,none⟩) len cap):=by
 obtain⟨P,I,B,vs,ty,J,s⟩:=h.box d cs z;obtain⟨r,i,hw⟩:=h.unbox z
 have hF:∀j,F (ρ.L d (fr.gen d)) j=none:=by
  intro j;cases K:F (ρ.L d (fr.gen d)) j with
  |none=>rfl|some v=>
   exact absurd I (h.qK _ j v K d)
 have M:vs.toList.length=cs.length:=s.length.symm
 have N:(vs.toList.take (len*sz)).length=len*sz:=by rw[AK];omega
 obtain⟨m,t⟩:=hw.freeze (us:=vs.toList.take (len*sz)) (k:=(vs.toList.take (len*sz)).length) i hF J (λu hu=>jG s B u hu) (by
  intro j v _ p;rw[He] at p
  split at p
  ·simpa using p
  ·cases p)
 refine⟨_,r,m,λb j O=>th (by omega),t,?_⟩
 have e:gi (fB F ρ.G ρ.n) (els.flatMap AV.cells) (vs.toList.take (len*sz)):=by
  rw[A];exact(s.take (len*sz)).MC
 have C:=fB.slice (F:=jE F (ρ.L d (fr.gen d)) (vs.toList.take (len*sz)).length (vs.toList.take (len*sz))) (G:=ρ.G) (n:=ρ.n) (tag:=.eh) (l:=els) (b:=ρ.L d (fr.gen d)) (o:=0)
  (base:=some ⟨ρ.L d (fr.gen d),0,none⟩) (cap:=cap) (sz:=sz) (vs:=vs.toList.take (len*sz)) (.nJ (e.mono λ_ _ _ h=>h.grow m.g)) (vQ _ _ _) (λ_=>rfl) hs (by
   intro c f;rw[A] at f
   exact wY (λc y=>B c (Ac y)) c f) (by omega) q (.inl rfl)
 rw[D] at C;exact C
def g_.Zf{α:Type}{c:Code}{Q:Exit->Fr->cV->Prop}{f:α->AV}(t:Nat){L:List α}{k sz d g cap:Nat}(l:∀x,(f x).cells.length=sz)(o:∀x,(f x).cells.map AV.jU=(f x).cells)
  (he:fr.env t=.wG d g L.length cap) (hg:g=fr.gen d) (C:fr.box d=some (D9 f L k))
  (h:g_ P T n c Q {fr with env:=fF fr.env t (.slice .eh (L.map f)),box:=fF fr.box d none} H):g_ P T n c Q fr H:=by
 intro G0 F0 n0 w0 a w hs;refine h G0 F0 n0 w0 a w ?_;obtain⟨ρ,F,R,hw,q⟩:=hs;have m:=hw.env t;rw[he] at m;obtain⟨D,E,r,s⟩:=yX m
 have u:∀x∈L.map f,x.cells.length=sz:=by
  intro x q;obtain⟨y,_,rfl⟩:=mO.1 q;exact l y
 obtain⟨F',G,v,z,i,I⟩:=hw.Mi (els:=L.map f) (len:=L.length) (cap:=cap) (sz:=sz) C (by simp) u (by rw[M0 l];exact Ku o L) (by rw[Bz l];omega) r s;refine⟨ρ,F',G,⟨i.g,i.size,i.defers,?_,i.hn,i.lg,i.ag,i.box,i.tok,i.qK,i.nZ,i.lz,i.p5⟩,?_⟩
 ·intro B;show fl F' ρ (fF fr.env t (.slice .eh (L.map f)) B) _;simp only[fF]
  split
  ·rename_i e;subst e;rw[D,hg];exact .p I
  ·exact(hw.env B).grow v
 ·exact q.freeze λb j A=>z b j A
end
end Go.ky
