/- Part of the proof of KernelAccepts, KernelDoes: layer. -/
import Derived.Test.YtobcafblgapgfaaGreatDoorL9
set_option linter.all false
namespace Go.ke
open Go
mutual
def AV.low(k:Nat):AV->Bool
 |.undef=>true|.sc _=>true|.lG x=>x.low k|.fC _ _ _=>true|.dM o _=>decide (o<k)|.slice _ l=>AV.gA k l|.agg l=>AV.gA k l|.tuple l=>AV.gA k l|.func _ f c=>AV.gA k f&&AV.gA k c|.iface _ x=>x.low k|.vM _ _ _ _=>true|.mU o=>decide (o<k)|.pQ o _ _ _=>decide (o<k)|.HK=>true|.td _ xs=>AV.gA k xs|.l_ o _ _=>decide (o<k)
def AV.gA(k:Nat):List AV->Bool
 |[]=>true|x::l=>x.low k&&AV.gA k l
end
def AV.w_{k:Nat}:∀{l:List AV},AV.gA k l=true↔∀x∈l,x.low k=true
 |[]=>by simp[AV.gA]|x::l=>by simp[AV.gA,AV.w_ (l:=l)]
def AV.IZ{k:Nat}{x:AV}(h:x.low k=true):AV.gA k x.cells=true:=by
 cases x<;>simp_all [AV.low,AV.cells,AV.gA]
def AV.LI{k:Nat}{l:List AV}(h:AV.gA k l=true):AV.gA k (l.flatMap AV.cells)=true:=by
 rw[AV.w_] at h|-;intro x a;obtain⟨y,hy,a⟩:=Sl.1 a;exact AV.w_.1 (AV.IZ (h y hy)) x a
@[simp] theorem AV.abe{α:Type}{k:Nat}(f:α->Value)(l:List α):AV.gA k (List.map (λn=>AV.sc (f n)) l)=true:=by
 rw[AV.w_];intro x a;obtain⟨y,_,rfl⟩:=l8.1 a;rfl
section
variable{F:jY} {G:Nat->Nat} {n k:Nat}
mutual
def fF.lower:∀{x v},fF F G n x v->x.low k=true->fF F G k x v
 |_,_,.undef h,_=>.undef h|_,_,.sc h,_=>.sc h|_,_,.lG h1 b c,a=>.lG (h1.lower (AV.IZ (by simpa[AV.low] using a))) b c|_,_,.dM h,a=>.dM (by simpa[AV.low] using a)|_,_,.mU h,a=>.mU (by simpa[AV.low] using a)|_,_,.pQ h b c,a=>.pQ (by simpa[AV.low] using a) b c|_,_,.slice h1 b c d e f g i,a=>.slice (h1.lower (AV.LI (by simpa[AV.low] using a))) b c d e f g i|_,_,.HK,_=>.HK|_,_,.agg h1 b,a=>.agg (h1.lower (by simpa[AV.low] using a)) b|_,_,.tuple h1,a=>.tuple (h1.lower (by simpa[AV.low] using a))|_,_,.func h1 b,a=>by
  simp only[AV.low,ft] at a;exact .func (h1.lower a.1) (b.lower a.2)
 |_,_,.iface h1,a=>.iface (h1.lower (by simpa[AV.low] using a))
def fq.lower:∀{xs vs},fq F G n xs vs->AV.gA k xs=true->fq F G k xs vs
 |_,_,.nil,_=>.nil|_,_,.cons h1 b,a=>by
  simp only[AV.gA,ft] at a;exact .cons (h1.lower a.1) (b.lower a.2)
end
end
def kQ.lower{F:jY}{G:Nat->Nat}{n k:Nat}{cs c}(h:kQ F G n cs c)(a:AV.gA k cs=true):kQ F G k cs c:=by
 cases h with
 |cells d h1 b=>exact .cells d ((fq.m6 h1).lower a).sF b|map h1 b e f g=>exact .map h1 ((fq.m6 b).lower (by simpa[AV.gA,AV.low] using a)).sF e f g|iter h=>exact .iter (by simpa[AV.gA,AV.low] using a)|dead=>exact .dead
def dL.drop{P:Program}{T:dx}{f:FuncId}{args:List AV}{H:cW}{Post Post':AV->cW->Prop}(h:dL P T f args H Post)
  (t:∀r H',Post r H'->∃a X,H'=a++X/\H.length<=a.length/\r.low a.length=true/\(∀cs∈a,AV.gA a.length cs=true)/\Post' r a):dL P T f args H Post':=by
 refine⟨h.1,λG F w vs hg u=>(h.2 G F w vs hg u).mono ?_⟩;rintro e w' ⟨r,H',v,G',F',h1,rfl,k,y,c⟩;obtain⟨a,X,rfl,hlen,z,m,A⟩:=t r H' h1
 have l:∀b o v,F b o=some v->F' b o=some v:=by
  intro b o v n
  have hb:b<w.heap.size:=by
   rcases qu b w.heap.size with hb|hb
   ·exact hb
   ·rw[hg.fresh b o hb] at n;cases n
  exact c.mF b o v hb n
 have i:∀o,o<a.length->o<(a++X).length:=λo d=>by rw[oJ];omega
 refine⟨r,a,v,G',F',A,rfl,?_,y.lower z,?_⟩
 ·refine⟨k.BF,?_,λo o' d p=>k.inj o o' (i o d) (i o' p),λo j d q=>k.gF o j (i o d) (by rw[p4 d];exact q),k.fresh,λg x B=>?_,k.row⟩
  ·intro o cs d;have s:o<a.length:=(kj.1 d).1;obtain⟨C,D,E⟩:=k.jX o cs (by rw[p4 s];exact d);exact⟨C,D,E.lower (m cs (z6 d))⟩
  ·exact(hg.yI g x B).grow ⟨l,hlen,λo d=>c.hG o d⟩
 ·exact⟨c.os,c.tape,c.output,c.size,hlen,c.hG,λo h1 I=>c.G9 o h1 (i o I),c.hF,c.mF,c.heap⟩
end Go.ke
namespace Go.ke
open Go
def AV.Bw{k:Nat}{x:AV}(h:AV.gA k x.cells=true):x.low k=true:=by
 cases x<;>simp_all [AV.low,AV.cells,AV.gA]
def AV.Ji{k:Nat}{l:List AV}(h:AV.gA k (l.flatMap AV.cells)=true):AV.gA k l=true:=by
 rw[AV.w_] at h|-;intro x a;exact AV.Bw (AV.w_.2 λy hy=>h y (Sl.2 ⟨x,a,hy⟩))
section
variable{F:jY} {G:Nat->Nat} {n:Nat}
mutual
def fF.tF:∀{x v},fF F G n x v->x.low n=true
 |_,_,.undef _=>rfl|_,_,.sc _=>rfl|_,_,.lG h1 _ _=>by simpa[AV.low] using AV.Bw h1.tF|_,_,.dM h=>by simpa[AV.low] using h|_,_,.mU h=>by simpa[AV.low] using h|_,_,.pQ h _ _=>by simpa[AV.low] using h|_,_,.slice h1 _ _ _ _ _ _ _=>by simpa[AV.low] using AV.Ji h1.tF|_,_,.HK=>rfl|_,_,.agg h1 _=>by simpa[AV.low] using h1.tF|_,_,.tuple h1=>by simpa[AV.low] using h1.tF|_,_,.func h1 a=>by simp[AV.low,h1.tF,a.tF]|_,_,.iface h1=>by simpa[AV.low] using h1.tF
def fq.tF:∀{xs vs},fq F G n xs vs->AV.gA n xs=true
 |_,_,.nil=>rfl|_,_,.cons h1 a=>by simp[AV.gA,h1.tF,a.tF]
end
end
def kQ.tF{F:jY}{G:Nat->Nat}{n:Nat}{cs b}(h:kQ F G n cs b):AV.gA n cs=true:=by
 cases h with
 |cells c h1 a=>exact(fq.m6 h1).tF|map h1 a d e f=>simpa[AV.gA,AV.low] using(fq.m6 a).tF|iter h=>simpa[AV.gA,AV.low] using h|dead=>rfl
def dL.tJ{P:Program}{T:dx}{f:FuncId}{args:List AV}{H:cW}{Post Post':AV->cW->Prop}(h:dL P T f args H Post)
  (d:∀r H',Post r H'->∃X,H'=H++X/\r.low H.length=true/\Post' r H):dL P T f args H Post':=by
 refine⟨h.1,λG F w vs hg g=>?_⟩
 have a:∀cs∈H,AV.gA H.length cs=true:=by
  intro cs b;obtain⟨o,i⟩:=Wd.1 b;obtain⟨m,_,j⟩:=hg.jX o cs i;exact j.tF
 exact(dL.drop (Post':=Post') h λr H' k=>by
  obtain⟨X,e,l,c⟩:=d r H' k
  exact⟨H,X,e,gu _,l,a,c⟩).2 G F w vs hg g
end Go.ke
namespace Go.ke
open Go Go.fB
mutual
def AV.FC{k n:Nat}(h:k<=n):∀{x:AV},x.low k=true->x.low n=true
 |.undef,_=>rfl|.sc _,_=>rfl|.lG x,a=>by simpa[AV.low] using AV.FC h (x:=x) (by simpa[AV.low] using a)|.fC _ _ _,_=>rfl|.dM o _,a=>by simp[AV.low] at a|-;omega
 |.pQ o _ _ _,a=>by simp[AV.low] at a|-;omega
 |.slice _ l,a=>by simpa[AV.low] using AV.rm h (l:=l) (by simpa[AV.low] using a)|.agg l,a=>by simpa[AV.low] using AV.rm h (l:=l) (by simpa[AV.low] using a)|.tuple l,a=>by simpa[AV.low] using AV.rm h (l:=l) (by simpa[AV.low] using a)|.func _ f c,a=>by
  simp only[AV.low,ft] at a|-;exact⟨AV.rm h a.1,AV.rm h a.2⟩
 |.iface _ x,a=>by simpa[AV.low] using AV.FC h (x:=x) (by simpa[AV.low] using a)|.vM _ _ _ _,_=>rfl|.HK,_=>rfl|.mU o,a=>by simp[AV.low] at a|-;omega
 |.td _ l,a=>by simpa[AV.low] using AV.rm h (l:=l) (by simpa[AV.low] using a)|.l_ o _ _,a=>by simp[AV.low] at a|-;omega
def AV.rm{k n:Nat}(h:k<=n):∀{l:List AV},AV.gA k l=true->AV.gA n l=true
 |[],_=>rfl|x::l,a=>by
  simp only[AV.gA,ft] at a|-;exact⟨AV.FC h a.1,AV.rm h a.2⟩
end
def IQ{H:cW}{o:Nat}{c:List AV}(h:H[o]?=some c):o<H.length:=(kj.1 h).1
def I0{H:cW}{o:Nat}{c:List AV}(h:H[o]?=some c):dH H o c=H:=by
 apply Qm;intro i;simp only[dH];rw[Ps]
 split
 ·rename_i e;subst e;rw[cO (IQ h),h]
 ·rfl
def XJ(H:cW)(o:Nat):Prop:=o<H.length
def eB{H:cW}{o:Nat}{c:List AV}(h:H[o]?=some c):XJ H o:=IQ h
@[simp] theorem Z_(H:cW)(o o':Nat)(c:List AV):XJ (dH H o c) o'=XJ H o':=by simp[XJ]
def RP{H:cW}{o:Nat}{c:List AV}(h:XJ H o):(dH H o c)[o]?=some c:=by simp[dH,show o<H.length from h]
def Lg{H:cW}{o o':Nat}{c:List AV}(h:o≠o'):(dH H o c)[o']?=H[o']?:=by simp[dH,Ps,h]
def PN{H:cW}{o o':Nat}{c d e:List AV}(h:o≠o'):dH (dH (dH H o c) o' d) o e=dH (dH H o e) o' d:=by
 simp only[dH];rw[List.set_comm _ _ h.symm,List.set_set]
def NV{A B:cW}{o:Nat}(h:XJ A o):(A++B)[o]?=A[o]?:=p4 h
def Lv{A B:cW}{o:Nat}{c:List AV}(h:XJ A o):dH (A++B) o c=dH A o c++B:=by simp[dH,List.set_append,show o<A.length from h]
def FR{A B:cW}{k i:Nat}(h:A.length=k):(A++B)[k+i]?=B[i]?:=by
 subst h;rw[wc VW]
 congr 1
 omega
def MK{A B:cW}{k:Nat}(h:A.length=k):(A++B)[k]?=B[0]?:=FR (i:=0) h
def Ex{A B:cW}{k i:Nat}{c:List AV}(h:A.length=k):dH (A++B) (k+i) c=A++dH B i c:=by
 subst h;simp[dH,List.set_append]
def LO{A B:cW}{k:Nat}{c:List AV}(h:A.length=k):dH (A++B) k c=A++dH B 0 c:=Ex (i:=0) h
@[simp] theorem V3(a:List AV)(l:cW)(c:List AV):dH (a::l) 0 c=c::l:=rfl
@[simp] theorem X2(a:List AV)(l:cW)(i:Nat)(c:List AV):dH (a::l) (i+1) c=a::dH l i c:=rfl
def QJ{H:cW}{o:Nat}{c cs:List AV}(h:cs∈dH H o c):cs∈H\/cs=c:=by
 simp only[dH] at h;exact Gm h
def dL.Je{P:Program}{T:dx}{f:FuncId}{args:List AV}{H:cW}{o:Nat}{c:List AV}{Post:AV->cW->Prop}(h:H[o]?=some c)(a:dL P T f args (dH H o c) Post):dL P T f args H Post:=by
 rwa [I0 h] at a
structure Bo {S:Type} (st:S->cW) (k:Nat):Prop where
 len:∀s,(st s).length=k
 low:∀s s' cs,cs∈st s'->cs∈st s\/AV.gA k cs=true
def Bo.const{S:Type}(H:cW):Bo (λ_:S=>H) H.length:=⟨λ_=>rfl,λ_ _ _ h=>.inl h⟩
def Bo.ext{S:Type}{st:S->cW}{k:Nat}(h:Bo st k)(X:cW){n:Nat}(hn:k+X.length=n):Bo (λs=>st s++X) n:=by
 subst hn;refine⟨λs=>by rw[oJ,h.len],λs a cs hc=>?_⟩;rcases qA.1 hc with hc|hc
 ·rcases h.low s a cs hc with h1|h1
  ·exact .inl (Zf _ h1)
  ·exact .inr (AV.rm VW h1)
 ·exact .inl (Z' _ hc)
def Bo.R4{S:Type}(H:cW)(f:S->cW)(n:Nat)(hn:∀s,(f s).length=n)(b:∀s a cs,cs∈f a->cs∈f s\/AV.gA (H.length+n) cs=true):Bo (λs=>H++f s) (H.length+n):=by
 refine⟨λs=>by rw[oJ,hn],λs a cs hc=>?_⟩;rcases qA.1 hc with hc|hc
 ·exact .inl (Zf _ hc)
 ·rcases b s a cs hc with h1|h1
  ·exact .inl (Z' _ h1)
  ·exact .inr h1
def dL.U6{P:Program}{T:dx}{f:FuncId}{args:List AV}{H:cW}{Post Post':AV->cW->Prop}(h:dL P T f args H Post)
  (g:∀r H',Post r H'->∃b X,H'=b++X/\b.length=H.length/\r.low H.length=true/\(∀cs∈b,cs∈H\/AV.gA H.length cs=true)/\Post' r b):dL P T f args H Post':=by
 refine⟨h.1,λG F w vs hg i=>?_⟩
 have c:∀cs∈H,AV.gA H.length cs=true:=by
  intro cs a;obtain⟨o,j⟩:=Wd.1 a;obtain⟨p,_,k⟩:=hg.jX o cs j;exact k.tF
 refine(dL.drop (Post':=Post') h λr H' l=>?_).2 G F w vs hg i;obtain⟨b,X,e,hlen,m,a,d⟩:=g r H' l;refine⟨b,X,e,VW,by rw[hlen];exact m,λcs n=>?_,d⟩;rw[hlen];rcases a cs n with h1|h1
 ·exact c cs h1
 ·exact h1
def dL.VR{P:Program}{T:dx}{f:FuncId}{args:List AV}{S:Type}{st:S->cW}{k:Nat}(hF:Bo st k){s:S}{Post Post':AV->cW->Prop}(h:dL P T f args (st s) Post)
  (c:∀r H',Post r H'->∃a X,H'=st a++X/\r.low k=true/\Post' r (st a)):dL P T f args (st s) Post':=
 dL.U6 h λr H' d=>by
  obtain⟨a,X,e,g,b⟩:=c r H' d;exact⟨st a,X,e,by rw[hF.len,hF.len],by rw[hF.len];exact g,λcs i=>by rw[hF.len];exact hF.low s a cs i,b⟩
@[simp] theorem aaq(H:List (List AV))(o:Nat)(c:List AV):List.set H o c=dH H o c:=rfl
attribute [simp] RP Lg PN NV Lv FR MK Ex LO
end Go.ke
namespace Go.ke
open Go Go.fB
def eR(P:Program)(T:dx)(E:List Nat)(opsA:Array Oper)(q:Qt):List Bool->List Oper->(Fr->cW->Prop)->Fr->cW->Prop
 |_,[],K,fr,H=>K fr H|[],o::rest,K,fr,H=>gB P T E opsA q true o (λfr H=>eR P T E opsA q [] rest K fr H) fr H|b::bs,o::rest,K,fr,H=>gB P T E opsA q b o (λfr H=>eR P T E opsA q bs rest K fr H) fr H
def HS{E:List Nat}{ops:Array Oper}{q:Qt}{P:Program}{T:dx}{K:Fr->cW->Prop}(a:List Bool):∀(l:List Oper) (k:Nat) (fr:Fr) (H:cW),l=ops.toList.drop k->eR P T E ops q (a.drop k) l K fr H->F2 P T E ops q (λi=>a.getD i true) (List.range' k l.length) K fr H:=by
 intro l
 induction l with
 |nil=>
  intro k fr H _ h;cases d:a.drop k<;>rw[d] at h<;>exact h
 |cons o l e=>
  intro k fr H c h
  have b:k<ops.toList.length:=by
   rcases qu k ops.toList.length with h'|h'
   ·exact h'
   ·rw[Da h'] at c;cases c
  have hd:=JK b;rw[hd] at c;injection c with h1 f
  have hi:ops[k]?=some o:=by
   rw[h1];simp only[UW];exact Pe (by simpa using b)
  simp only[kN,Ta,F2,hi]
  have g:a.getD k true=(a.drop k).headD true:=by
   simp only[List.getD,List.headD_eq_head?_getD,List.head?_drop]
  have j:a.drop (k+1)=(a.drop k).tail:=by rw[List.tail_drop]
  rw[g];refine AR (K:=λfr H=>eR P T E ops q (a.drop (k+1)) l K fr H) (λfr H h=>e (k+1) fr H f h) ?_;rw[j];cases d:a.drop k<;>rw[d] at h<;>exact h
def fg.Ug{P:Program}{T:dx}{n:Nat}{Q:Exit->Fr->cW->Prop}{fr:Fr}{H:cW}{id:Nat}{ops:Array Oper}(E:List Nat)(q:Qt)(b:List Bool)(hm:P.follows .mixedOrders=true)(a:xA n ops=true)(c:wI E ops (λi=>b.getD i true)=true)
  (h:eR P T E ops q b ops.toList (Q .normal) fr H):fg P T n (.region id ops true) Q fr H:=by
 refine fg.LJ E q (λi=>b.getD i true) hm a c ?_;have:=HS (P:=P) (T:=T) (E:=E) (ops:=ops) (q:=q) (K:=Q .normal) b ops.toList 0 fr H (by rw[aaa]) (by rw[aaa];exact h);rw[PL];simpa using this
def jD(P:Program)(T:dx)(E:List Nat)(ops:Array Oper)(q:Qt)(bs:List Bool)(a:AV)(as:List AV)(d:Option Nat)(rest:List Oper)(K:Fr->cW->Prop)(fr:Fr)(H:cW):Prop:=
 if d.any E.contains then QH P T q true a as d (eR P T E ops q bs rest K) fr H else∃r H',mI P T a as H r H'/\(QK q H H')/\eR P T E ops q bs rest K (fr.put d r) H'
def tS(P:Program)(T:dx)(E:List Nat)(ops:Array Oper)(q:Qt)(bs:List Bool)(a:AV)(as:List AV)(d:Option Nat)(rest:List Oper)(K:Fr->cW->Prop)(fr:Fr)(H:cW):Prop:=
 if d.any E.contains then QH P T q false a as d (eR P T E ops q bs rest K) fr H else∃r H',mI P T a as H r H'/\eR P T E ops q bs rest K (fr.put d r) H'
section
variable{P:Program} {T:dx} {E:List Nat} {ops:Array Oper} {q:Qt} {bs:List Bool} {rest:List Oper} {K:Fr->cW->Prop} {fr:Fr} {H H':cW} {d:Option Nat} {ty:TypeId} {pos:String} {after:Array Edge}
def jD.val{a:AV}{as:List AV}{r:AV}(h:mI P T a as H r H')(b:QK q H H')(c:eR P T E ops q bs rest K (fr.put d r) H'):jD P T E ops q bs a as d rest K fr H:=by
 unfold jD
 split
 ·exact Kj h (λ_=>b) c
 ·exact⟨r,H',h,b,c⟩
def tS.val{a:AV}{as:List AV}{r:AV}(h:mI P T a as H r H')(b:eR P T E ops q bs rest K (fr.put d r) H'):tS P T E ops q bs a as d rest K fr H:=by
 unfold tS
 split
 ·exact Kj h (λh=>by cases h) b
 ·exact⟨r,H',h,b⟩
def jD.rel{g:FuncId}{as:List AV}{Post:AV->cW->Prop}(h:dL P T g as H Post)(hex:∃r h,Post r h)(c:d.any E.contains=true)(a:∀r h,Post r h->QK q H h/\eR P T E ops q bs rest K (fr.put d r) h):jD P T E ops q bs (.func (.func g) [] []) as d rest K fr H:=by
 unfold jD;rw[cO c];refine⟨Post,?_,hex,λr h b=>⟨λ_=>(a r h b).1,(a r h b).2⟩⟩;unfold k0;simp only[mR,wT];exact h
def jD.fn{g:FuncId}{as:List AV}{r:AV}(h:du P T g as H r H')(a:QK q H H')(b:eR P T E ops q bs rest K (fr.put d r) H'):jD P T E ops q bs (.func (.func g) [] []) as d rest K fr H:=by
 refine jD.val ?_ a b;unfold mI k0;simp only[mR,wT];exact h
def jD.Uf{g:FuncId}{b c as a:List AV}{r:AV}(e:b++as++c=a)(h:du P T g a H r H')(f:QK q H H')(i:eR P T E ops q bs rest K (fr.put d r) H'):jD P T E ops q bs (.func (.func g) b c) as d rest K fr H:=by
 subst e;exact jD.val h f i
def tS.fn{g:FuncId}{as:List AV}{r:AV}(h:du P T g as H r H')(a:eR P T E ops q bs rest K (fr.put d r) H'):tS P T E ops q bs (.func (.func g) [] []) as d rest K fr H:=by
 refine tS.val ?_ a;unfold mI k0;simp only[mR,wT];exact h
@[simp] theorem VE{f:Operand}{as:Array Operand}{ts:Array TypeId}:eR P T E ops q (false::bs) ({dst:=d,op:=.call {callee:=.value f,args:=as,argTypes:=ts},type:=ty,pos:=pos,after:=after,guard:=none}::rest) K fr H=tS P T E ops q bs (ev T fr f) (as.toList.map λx=>(ev T fr x).norm) d rest K fr H:=by
 simp only[eR,gB,gi,qa,jT,nF,uB,oZ,kY,fO,tS,oZ,false_implies,TA]
@[simp] theorem Yz(bs:List Bool):eR P T E ops q bs [] K fr H=K fr H:=by cases bs<;>rfl
@[simp] theorem VN{t:TypeId}{x:Operand}:eR P T E ops q (false::bs) ({dst:=d,op:=.load t x,type:=ty,pos:=pos,after:=after,guard:=none}::rest) K fr H=if pT ops.toList x (ev T fr x)then(match sY P fr H t (ev T fr x)with|some v=>eR P T E ops q bs rest K (fr.put d v) H|none=>False)else False:=by
 simp only[eR,gB,gi,qa,jT,nF,uB,oZ,kY,fO,lI,Bool.not_false,Bool.true_or,HG]
 split
 ·rename_i v a
  split at a
  ·rename_i b;rw[cO b,a]
  ·cases a
 ·rename_i a
  split at a
  ·rename_i b;rw[cO b,a]
  ·rename_i b;rw[cK b]
@[simp] theorem Uj{t:TypeId}{x y:Operand}:eR P T E ops q (false::bs) ({dst:=none,op:=.store t x y,type:=ty,pos:=pos,after:=after,guard:=none}::rest) K fr H=(PK E q x (ev T fr x)/\pT ops.toList x (ev T fr x)=true/\ld P t (ev T fr x) (ev T fr y) (eR P T E ops q bs rest K) fr H):=by
 simp only[eR,gB,gi,qa,jT,nF,uB,oZ,kY,fO,TA,oZ,false_implies,if_true,BK]
@[simp] theorem X0{x:Operand}:eR P T E ops q (true::bs) ({dst:=d,op:=.move x,type:=ty,pos:=pos,after:=after,guard:=none}::rest) K fr H=eR P T E ops q bs rest K (fr.put d (ev T fr x)) H:=rfl
@[simp] theorem TM{x:Operand}:eR P T E ops q (true::bs) ({dst:=d,op:=.assign x,type:=ty,pos:=pos,after:=after,guard:=none}::rest) K fr H=eR P T E ops q bs rest K (fr.put d (ev T fr x)) H:=rfl
@[simp] theorem VI{t:TypeId}:eR P T E ops q (true::bs) ({dst:=d,op:=.alloc t,type:=ty,pos:=pos,after:=after,guard:=none}::rest) K fr H=match js P t with|some z=>d.any E.contains=false/\j_ E d z (eR P T E ops q bs rest K) fr H|none=>False:=by
 simp only[eR,gB,gi,qa,jT,nF,uB,oZ,kY,fO,ZK];rfl
@[simp] theorem V0{t:TypeId}{x:Operand}:eR P T E ops q (true::bs) ({dst:=d,op:=.load t x,type:=ty,pos:=pos,after:=after,guard:=none}::rest) K fr H=if pT ops.toList x (ev T fr x)&&q.ok (ev T fr x)then(match sY P fr H t (ev T fr x)with|some v=>eR P T E ops q bs rest K (fr.put d v) H|none=>False)else False:=by
 simp only[eR,gB,gi,qa,jT,nF,uB,oZ,kY,fO,lI,O5,aaw]
 split
 ·rename_i v a
  split at a
  ·rename_i b;rw[cO b,a]
  ·cases a
 ·rename_i a
  split at a
  ·rename_i b;rw[cO b,a]
  ·rename_i b;rw[cK b]
@[simp] theorem Vl{t:TypeId}{x y:Operand}:eR P T E ops q (true::bs) ({dst:=none,op:=.store t x y,type:=ty,pos:=pos,after:=after,guard:=none}::rest) K fr H=(PK E q x (ev T fr x)/\pT ops.toList x (ev T fr x)=true/\Y_ (ev T fr x)=true/\ld P t (ev T fr x) (ev T fr y) (eR P T E ops q bs rest K) fr H):=by
 simp only[eR,gB,gi,qa,jT,nF,uB,oZ,kY,fO,ZK,TA,if_true,BK]
@[simp] theorem P'{t n:Nat}{ps:Array (Nat×Operand)}:eR P T E ops q (true::bs) ({dst:=d,op:=.buildSlice t n ps,type:=ty,pos:=pos,after:=after,guard:=none}::rest) K fr H=if d.any E.contains then False else match mH P t n (ps.toList.map λp=>(p.1,ev T fr p.2))with|some v=>eR P T E ops q bs rest K (fr.put d v) H|none=>False:=by
 simp only[eR,gB,gi,qa,jT,nF,uB,oZ,kY,fO,lI]
 split
 ·rename_i v a
  split at a
  ·cases a
  ·rename_i b;rw[cK b,a]
 ·rename_i a
  split at a
  ·rename_i b;rw[cO b]
  ·rename_i b;rw[cK b,a]
@[simp] theorem UB{t:TypeId}{x i:Operand}{ok:Bool}:eR P T E ops q (true::bs) ({dst:=d,op:=.lookup t x i ok,type:=ty,pos:=pos,after:=after,guard:=none}::rest) K fr H=if q.all then(match tT P H t (ev T fr x) (ev T fr i) ok with|some v=>eR P T E ops q bs rest K (fr.put d v) H|none=>False)else False:=by
 simp only[eR,gB,gi,qa,jT,nF,uB,oZ,kY,fO,lI,O5,aaw]
 split
 ·rename_i v a
  split at a
  ·rename_i b;rw[cO b,a]
  ·cases a
 ·rename_i a
  split at a
  ·rename_i b;rw[cO b,a]
  ·rename_i b;rw[cK b]
@[simp] theorem Tl{x y:Operand}{t d:Nat}:eR P T E ops q (true::bs) ({dst:=some d,op:=.call {callee:=.builtin .append,args:=#[x,y],argTypes:=#[t,t]},type:=ty,pos:=pos,after:=after,guard:=none}::rest) K fr H=if E.contains d then BV P t (ev T fr x) (ev T fr y) d (eR P T E ops q bs rest K) fr H else Ay P t (ev T fr x) (ev T fr y) d (eR P T E ops q bs rest K) fr H:=by
 simp only[eR,gB,gi,qa,jT,nF,uB,oZ,kY,fO,Up]
 split
 ·rename_i a;first|exact AL|(simp only[a,↓reduceIte];exact AL)
 ·rename_i a;first|exact AS|(simp only[a,↓reduceIte];exact AS)
@[simp] theorem W7{f:Operand}{as:Array Operand}{ts:Array TypeId}:eR P T E ops q (true::bs) ({dst:=d,op:=.call {callee:=.value f,args:=as,argTypes:=ts},type:=ty,pos:=pos,after:=after,guard:=none}::rest) K fr H=jD P T E ops q bs (ev T fr f) (as.toList.map λx=>(ev T fr x).norm) d rest K fr H:=by
 simp only[eR,gB,gi,qa,jT,nF,uB,oZ,kY,fO,ZK,jD]
@[simp] theorem Yk{as:Array Operand}{ts:Array TypeId}:eR P T E ops q (true::bs) ({dst:=d,op:=.call {callee:=.builtin .len,args:=as,argTypes:=ts},type:=ty,pos:=pos,after:=after,guard:=none}::rest) K fr H=match vL P T fr {callee:=.builtin .len,args:=as,argTypes:=ts}with|some v=>eR P T E ops q bs rest K (fr.put d v) H|none=>False:=rfl
@[simp] theorem Yd{as:Array Operand}{ts:Array TypeId}:eR P T E ops q (true::bs) ({dst:=d,op:=.call {callee:=.builtin .max,args:=as,argTypes:=ts},type:=ty,pos:=pos,after:=after,guard:=none}::rest) K fr H=match vL P T fr {callee:=.builtin .max,args:=as,argTypes:=ts}with|some v=>eR P T E ops q bs rest K (fr.put d v) H|none=>False:=rfl
@[simp] theorem W1{c a b:Operand}:eR P T E ops q (true::bs) ({dst:=d,op:=.pick c a b,type:=ty,pos:=pos,after:=after,guard:=none}::rest) K fr H=match xL P T fr {dst:=d,op:=.pick c a b,type:=ty,pos:=pos,after:=after,guard:=none}with|some v=>eR P T E ops q bs rest K (fr.put d v) H|none=>False:=rfl
@[simp] theorem VA{t:TypeId}{ps:Array (Nat×Operand)}:eR P T E ops q (true::bs) ({dst:=d,op:=.build t ps,type:=ty,pos:=pos,after:=after,guard:=none}::rest) K fr H=match Dh P t (ps.toList.map λp=>(p.1,ev T fr p.2))with|some v=>eR P T E ops q bs rest K (fr.put d v) H|none=>False:=rfl
@[simp] theorem Vp{o:BinOp}{t u:TypeId}{x y:Operand}:eR P T E ops q (true::bs) ({dst:=d,op:=.binOp o t x y u,type:=ty,pos:=pos,after:=after,guard:=none}::rest) K fr H=match Jm P o t y (ev T fr x) (ev T fr y)with|some v=>eR P T E ops q bs rest K (fr.put d v) H|none=>False:=rfl
@[simp] theorem Xs{o:UnOp}{t:TypeId}{x:Operand}:eR P T E ops q (true::bs) ({dst:=d,op:=.unOp o t x,type:=ty,pos:=pos,after:=after,guard:=none}::rest) K fr H=match Yv o (ev T fr x)with|some v=>eR P T E ops q bs rest K (fr.put d v) H|none=>False:=rfl
@[simp] theorem Qw{t i:Nat}{x:Operand}:eR P T E ops q (true::bs) ({dst:=d,op:=.fieldAddr t x i,type:=ty,pos:=pos,after:=after,guard:=none}::rest) K fr H=match qR P t (ev T fr x) i with|some v=>eR P T E ops q bs rest K (fr.put d v) H|none=>False:=rfl
@[simp] theorem QA{t:TypeId}{x i:Operand}:eR P T E ops q (true::bs) ({dst:=d,op:=.indexAddr t x i,type:=ty,pos:=pos,after:=after,guard:=none}::rest) K fr H=match fl P t (ev T fr x) (ev T fr i)with|some v=>eR P T E ops q bs rest K (fr.put d v) H|none=>False:=rfl
@[simp] theorem U9{t:TypeId}{x:Operand}{lo hi a:Option Operand}:eR P T E ops q (true::bs) ({dst:=d,op:=.slice t x lo hi a,type:=ty,pos:=pos,after:=after,guard:=none}::rest) K fr H=match o8 P t (ev T fr x) (lo.map (ev T fr)) (hi.map (ev T fr)) (a.map (ev T fr))with|some v=>eR P T E ops q bs rest K (fr.put d v) H|none=>False:=rfl
@[simp] theorem Tj{i:Nat}{x:Operand}:eR P T E ops q (true::bs) ({dst:=d,op:=.extract x i,type:=ty,pos:=pos,after:=after,guard:=none}::rest) K fr H=match xL P T fr {dst:=d,op:=.extract x i,type:=ty,pos:=pos,after:=after,guard:=none}with|some v=>eR P T E ops q bs rest K (fr.put d v) H|none=>False:=rfl
@[simp] theorem SN{x:Operand}:eR P T E ops q (true::bs) ({dst:=d,op:=.nilCheck x,type:=ty,pos:=pos,after:=after,guard:=none}::rest) K fr H=match xL P T fr {dst:=d,op:=.nilCheck x,type:=ty,pos:=pos,after:=after,guard:=none}with|some v=>eR P T E ops q bs rest K (fr.put d v) H|none=>False:=rfl
@[simp] theorem VD{op:Op}{j:Nat}{want:Bool}:eR P T E ops q (true::bs) ({dst:=d,op:=op,type:=ty,pos:=pos,after:=after,guard:=some (j,want)}::rest) K fr H=match(ops[j]?).bind (·.dst)with
  |some g=>match fr.env g with
   |.sc (.bool b)=>if b=want then eR P T E ops q (true::bs) ({dst:=d,op:=op,type:=ty,pos:=pos,after:=after,guard:=none}::rest) K fr H else eR P T E ops q bs rest K (fr.put d (.tuple [])) H|.tuple _=>eR P T E ops q bs rest K (fr.put d (.tuple [])) H|_=>False
  |none=>False:=by
 simp only[eR,gB,gi]
 cases hd:(ops[j]?).bind (·.dst)with
 |none=>rfl|some g=>
  simp only;cases he:fr.env g with
  |sc v=>
   cases v with
   |bool b=>
    simp only
    by_cases hw:b=want
    ·subst hw;simp only[beq_self_eq_true,if_true];rfl
    ·rw[cK hw]
     have:(b==want)=false:=by simpa using hw
     rw[this]
   |_=>rfl
  |_=>rfl
end
end Go.ke
namespace Go.ke
open Go Go.fB
def lP(k:Nat):Option Nat->AV
 |none=>.sc (.pointer none)|some p=>.dM (k+p) 0
@[simp] theorem aaV(k:Nat):lP k none=.sc (.pointer none):=rfl
@[simp] theorem aat(k p:Nat):lP k (some p)=.dM (k+p) 0:=rfl
@[simp] theorem abm(k:Nat)(x:Option Nat):(lP k x).eD=true:=by cases x<;>rfl
@[simp] theorem YO(k:Nat)(x:Option Nat):(lP k x).cells=[lP k x]:=by cases x<;>rfl
@[simp] theorem abG(k:Nat)(x:Option Nat):dY (lP k x)=true:=by cases x<;>rfl
@[simp] theorem Z1(k:Nat)(x:Option Nat):(lP k x).norm=lP k x:=by cases x<;>rfl
@[simp] theorem YC(k:Nat)(x:Option Nat):(lP k x).h_=lP k x:=by cases x<;>rfl
@[simp] theorem aaL(P:Program)(ty:TypeId)(k:Nat)(x:Option Nat):rD P ty (lP k x)=match eO P ty with|some (false,_)=>true|_=>false:=by
 cases x with
 |none=>exact Tw P ty _|some p=>exact Pm P ty _ _
def vw{C:Type}(c:Nat->C->List AV)(k:Nat)(l:List C):cW:=l.map (c k)
@[simp] theorem TK{C:Type}(c:Nat->C->List AV)(k:Nat)(l:List C):(vw c k l).length=l.length:=by simp[vw]
@[simp] theorem Yc{C:Type}(c:Nat->C->List AV)(k:Nat)(l:List C)(p:Nat):(vw c k l)[p]?=(l[p]?).map (c k):=by simp[vw]
def pj{C:Type}{c:Nat->C->List AV}{k:Nat}{l:List C}{p:Nat}{x:C}{cs:List AV}(h:cs=c k x):dH (vw c k l) p cs=vw c k (l.set p x):=by
 subst h;simp only[dH,vw,List.map_set]
def I_{C:Type}{c:Nat->C->List AV}{k:Nat}{l:List C}{x:C}{cs:List AV}(h:cs=c k x):vw c k l++[cs]=vw c k (l++[x]):=by
 subst h;simp[vw]
def vH{C:Type}{l:List C}{p:Nat}{x y:C}(h:l[p]?=some y):(l.set p x)[p]?=some x:=by
 have:p<l.length:=(kj.1 h).1;simp[this]
def O0{C:Type}{l:List C}{x:C}:(l++[x])[l.length]?=some x:=aa4
def dL.Zo{C:Type}{c:Nat->C->List AV}{P:Program}{T:dx}{f:FuncId}{args:List AV}{H:cW}{Post:AV->cW->Prop}(h:dL P T f args (H++vw c H.length []) Post):dL P T f args H Post:=by
 simpa[vw] using h
section
variable{P:Program} {t e:TypeId} {k:Nat} {x:Option Nat}
def SX(hu:P.underlying t=some (.pointer e)):nH P .eql t (lP k x) (.sc (.pointer none))=some (.sc (.bool x.isNone)):=by
 cases x<;>simp[nH,rJ,hu]
def SU(hu:P.underlying t=some (.pointer e)):nH P .neq t (lP k x) (.sc (.pointer none))=some (.sc (.bool x.isSome)):=by
 cases x<;>simp[nH,rJ,hu]
end
end Go.ke
namespace Go.ke
open Go Go.fB
def gO{α:Type}(f:α->AV)(L:List α)(k:Nat):List AV:=(L.map f).flatMap AV.cells++uq k
@[irreducible] def Mu(i sz:Nat):Nat:=i*sz
def Fa(i sz:Nat):Mu i sz=i*sz:=by unfold Mu;rfl
section
variable{α:Type} {f:α->AV} {L:List α} {k sz:Nat}
def nQ(h:∀x,(f x).cells.length=sz)(L:List α):((L.map f).flatMap AV.cells).length=L.length*sz:=by
 rw[nI (sz:=sz)]
 ·simp
 ·intro x a;obtain⟨y,_,rfl⟩:=l8.1 a;exact h y
def lq(h:∀x,(f x).cells.length=sz):(gO f L k).length=L.length*sz+k:=by
 unfold gO;rw[oJ,nQ h];simp[uq]
def ud(h:∀x,(f x).cells.length=sz):(gO f L k).take (L.length*sz)=(L.map f).flatMap AV.cells:=by
 unfold gO;rw[Tv (by rw[nQ h];exact gu _),PU (by rw[nQ h];exact gu _)]
def U3(h:∀x,(f x).cells.length=sz){i:Nat}{x:α}(hi:L[i]?=some x):((gO f L k).drop (i*sz)).take sz=(f x).cells:=by
 have a:=(kj.1 hi).1
 have h1:i*sz+sz<=((L.map f).flatMap AV.cells).length:=by
  rw[nQ h,<-W_];exact CP _ a
 unfold gO;rw[Y2 VW,Tv (by rw[My];omega)]
 exact D3 (sz:=sz) (by
  intro y hy;obtain⟨z,_,rfl⟩:=l8.1 hy
  exact h z) (by simp[hi])
def FQ(h:∀x,(f x).cells.length=sz){i:Nat}{y:α}(hi:i<L.length):setCells (gO f L k) (i*sz) (f y).cells=gO f (L.set i y) k:=by
 unfold setCells gO;have hlen:=nQ h L
 have hle:i*sz+sz<=L.length*sz:=by
  rw[<-W_];exact CP _ hi
 rw[h y,Tv VW,Y2 VW,<-tE]
 congr 1
 have a:L.set i y=L.take i++y::L.drop (i+1):=List.set_eq_take_append_cons_drop▸(by rw[cO hi]);rw[a,Ah,wb,WS,vP]
 have hm:∀x∈L.map f,x.cells.length=sz:=by
  intro x b;obtain⟨z,_,rfl⟩:=l8.1 b;exact h z
 have c:i*sz+sz=(i+1)*sz:=by rw[W_]
 rw[c,<-CH hm,<-xC hm,List.map_take,List.map_drop,tE]
end
def Gp{α:Type}{f:α->AV}(a:∀x,(f x).cells.map AV.h_=(f x).cells)(L:List α):(L.map f).flatMap AV.cells=((L.map f).flatMap AV.cells).map AV.h_:=by
 induction L with
 |nil=>rfl|cons x L b=>simp only[wb,vP,Ah,a,<-b]
def rC.X_{P:Program}{t e sz d:Nat}{s x:AV}{K:Fr->cW->Prop}{fr:Fr}{H:cW}{α:Type}{f:α->AV}(m:List α){b:Tag}
  (c:nT P t=some (e,sz)) (g:∃k,js P e=some k) (h:∀x,(f x).cells.length=sz) (hlen:yk m=true) (hs:s=.slice .full []) (o:x=.slice b (m.map f))
  (p:∀cap,m.length<=cap->K {fr with env:=fN fr.env d (.vM d (fr.gen d+1) m.length cap),box:=fN fr.box d (some (gO f m ((cap-m.length)*sz))),gen:=fN fr.gen d (fr.gen d+1)} H):rC P t s x d K fr H:=by
 subst hs;subst o
 have n:0<m.length/\m.length<=JV:=by simpa[yk] using hlen
 have i:∀l:List α,jq sz (l.map f)=true:=λl=>by cases l with|nil=>rfl|cons a l=>simp[h]
 obtain⟨k,g⟩:=g;refine .inl (.inr ?_);unfold Sz;rw[c];refine⟨i m,by rw[g];rfl,by simpa using n.1,rfl,by simpa[ie,JV] using n.2,λcap q=>?_⟩
 have j:m.length<=cap:=by simpa using q
 have:=p cap j;simp only[xI,RU,mR,vo,r_,AP];exact this
theorem rC.lA{P:Program}{t e sz d:Nat}{s x:AV}{K:Fr->cW->Prop}{fr:Fr}{H:cW}{α:Type}{f:α->AV}(L m:List α){cap:Nat}{n:Tag}
  (o:nT P t=some (e,sz)) (p:∃y,js P e=some y) (c:∀x,(f x).cells.length=sz) (hlen:eJ L m=true) (hm:0<m.length) (hs:s=.vM d (fr.gen d) L.length cap) (B:x=.slice n (m.map f))
  (C:fr.box d=some (gO f L ((cap-L.length)*sz))) (q:L.length<=cap)
  (z:∀A b,(fa L m).length<=b->K {fr with env:=fN fr.env d (.vM d A (fa L m).length b),box:=fN fr.box d (some (gO f (fa L m) ((b-(fa L m).length)*sz))),gen:=fN fr.gen d A} H):rC P t s x d K fr H:=by
 subst hs;subst B;have D:L.length+m.length<=JV:=Lw hlen
 have r:∀l:List α,jq sz (l.map f)=true:=λl=>by cases l with|nil=>rfl|cons a l=>simp[c]
 obtain⟨y,p⟩:=p;have u:=nQ c L;have v:=nQ c m;have g:(fa L m).length=L.length+m.length:=y7 L m
 have i:(L.map f).flatMap AV.cells++(m.map f).flatMap AV.cells=((fa L m).map f).flatMap AV.cells:=by simp[fa]
 refine .inl (.inr ?_);unfold Sz;rw[o];refine⟨r m,by rw[p];rfl,by simpa using hm,rfl,by simpa[ie,JV] using D,?_⟩;rw[C];simp only[AP];refine⟨?_,λE=>?_,λb h1 F=>?_⟩
 ·rw[lq c,Nat.sub_mul];have:=CP sz q;omega
 ·have k:=z (fr.gen d) cap (by rw[g];exact E)
  have G:fN fr.gen d (fr.gen d)=fr.gen:=by
   funext j
   simp only[fN]
   split
   ·rename_i h;rw[h]
   ·rfl
  have w:setCells (gO f L ((cap-L.length)*sz)) (L.length*sz) ((m.map f).flatMap AV.cells)=gO f (fa L m) ((cap-(fa L m).length)*sz):=by
   unfold setCells;rw[ud c];unfold gO;rw[<-i,TD,Da VW,mR,u,v,g]
   have:L.length*sz+m.length*sz-L.length*sz=m.length*sz:=VW
   rw[this];unfold uq;rw[List.drop_replicate,<-Nat.sub_mul,Nat.sub_sub]
  rw[G,<-w,g] at k;exact k
 ·have k:=z (fr.gen d+1) b (by rw[g];exact F)
  have w:(gO f L ((cap-L.length)*sz)).take (L.length*sz)++(m.map f).flatMap AV.cells++uq ((b-(L.length+m.length))*sz)=gO f (fa L m) ((b-(fa L m).length)*sz):=by
   rw[ud c,g];unfold gO;rw[i]
  unfold xI;rw[w,<-g];exact k
@[simp] theorem aaI{P:Program}{t:TypeId}{b g n c:Nat}:Cz P t (.vM b g n c)=match P.underlying t with|some (.slice _)=>some (.sc (.int .i64 n))|some (.array n _)=>some (.sc (.int .i64 n))|_=>none:=by
 unfold Cz;cases P.underlying t with
 |none=>rfl|some y=>cases y<;>rfl
@[simp] theorem SV{P:Program}{t:TypeId}{k:IntKind}{a:Int}{b g n c:Nat}:fl P t (.vM b g n c) (.sc (.int k a))=match P.underlying t with
  |some (.slice e)=>match eO P e with
   |some (_,sz)=>if 0<=a/\a<(n:Int)then some (.fC b g (Mu a.toNat sz))else none|none=>none
  |_=>none:=by
 unfold fl;simp only[Fa];cases P.underlying t with
 |none=>rfl|some y=>cases y<;>rfl
def yN(P:Program)(t:TypeId)(b g i sz:Nat)(v:AV)(K:Fr->cW->Prop)(fr:Fr)(H:cW):Prop:=ld P t (.fC b g (Mu i sz)) v K fr H
@[simp high] theorem Vb{P:Program}{t:TypeId}{b g i sz:Nat}{v:AV}{K:Fr->cW->Prop}{fr:Fr}{H:cW}:ld P t (.fC b g (Mu i sz)) v K fr H=yN P t b g i sz v K fr H:=rfl
def yN.arr{P:Program}{t:TypeId}{b g sz k:Nat}{a:Int}{bl:Bool}{v:AV}{K:Fr->cW->Prop}{fr:Fr}{H:cW}{α:Type}{f:α->AV}{L:List α}{x:α}(y:α)(h:eO P t=some (bl,sz))(c:∀x,(f x).cells.length=sz)
  (e:dY (f y)=true) (hi:de L a=some x) (hg:g=fr.gen b) (i:fr.box b=some (gO f L k)) (j:v=f y) (l:K {fr with box:=fN fr.box b (some (gO f (wy L a y) k))} H):yN P t b g a.toNat sz v K fr H:=by
 subst j;have hi':=KR hi;have d:=(kj.1 hi').1
 have hle:a.toNat*sz+sz<=L.length*sz:=by
  rw[<-W_];exact CP _ d
 unfold yN;simp only[ld,h,i];refine⟨hg,c y,by rw[Fa,lq c];omega,e,?_⟩;rw[Fa,FQ c d];exact l
def f_.Mf{α β:Type}{R:α->β->Prop}:∀{as:List α} {bs:List β} {i:Nat} {a0 a:α},f_ R as bs->as[i]?=some a0->(∀b,bs[i]?=some b->R a b)->f_ R (as.set i a) bs
 |_,_,_,_,_,.nil,h,_=>by simp at h
 |_,_,0,_,_,.cons h1 c,_,h=>.cons (h _ rfl) c|_,_,i+1,_,_,.cons h1 c,d,h=>.cons h1 (f_.Mf c (by simpa using d) (λb e=>h b (by simpa using e)))
section
variable{P:Program} {T:dx} {n B0:Nat} {ρ:Maps} {F:jY} {R:Nat->oM} {fr:Fr} {H:cW} {a:Act} {w:World}
def WR.unbox(h:WR T n B0 ρ F R fr H a w){d:Nat}{cs:List AV}(x:fr.box d=some cs):∃p,p (ρ.L d (fr.gen d))=.free/\WR T n B0 ρ F p {fr with box:=fN fr.box d none} H a w:=by
 obtain⟨D,y,E,vs,ty,G,I⟩:=h.box d cs x
 let p:Nat->oM:=fN R (ρ.L d (fr.gen d)) .free
 have i:∀b,R b≠ .box d->p b=R b:=by
  intro b f;show fN R (ρ.L d (fr.gen d)) .free b=R b;unfold fN;rw[cK];rintro rfl;exact f y
 refine⟨p,by show fN R _ _ _=_;simp[fN],⟨h.g,h.size,h.defers,h.env,h.hn,h.lg,h.ag,?_,?_,?_,?_,?_,h.qT⟩⟩
 ·intro r s l;simp only[fN] at l
  by_cases he:r=d
  ·subst he;simp at l
  ·rw[cK he] at l;obtain⟨t,q,u⟩:=h.box r s l;exact⟨t,by rw[i _ (by rw[q];simp[he])];exact q,u⟩
 ·intro k m z b c sz A;obtain⟨t,q,u⟩:=h.tok k m z b c sz A;exact⟨t,by rw[i _ (by rw[q];simp)];exact q,u⟩
 ·intro b j v B
  by_cases f:b=ρ.L d (fr.gen d)
  ·subst f;intro r;show fN R _ _ _≠_;simp[fN]
  ·have e:p b=R b:=by show fN R _ _ _=_;simp[fN,f]
   rw[e];exact h.rf b j v B
 ·intro o C;have:=h.nE o C;rw[i _ (by rw[this];simp)];exact this
 ·intro b f;have:=h.lb b f;rw[i _ (by rw[this];simp)];exact this
def f_.Pd{F:jY}{ρ:Maps}{cs:List AV}{vs:List Value}(h:f_ (iL F ρ) cs vs):f_ (fF F ρ.G ρ.n) (cs.map AV.h_) vs:=h.wQ AV.h_ λ_ _ _ h=>h.h_
def WR.Iw(h:WR T n B0 ρ F R fr H a w){d len cap sz:Nat}{cs els:List AV}(z:fr.box d=some cs)(D:els.length=len)(hs:∀x∈els,x.cells.length=sz)
  (A:els.flatMap AV.cells=(cs.take (len*sz)).map AV.h_) (hle:len*sz<=cs.length) (E:len<=cap) (q:cap<=maxLen):∃F' r,tI F F' ρ ρ/\(∀b j,b<B0->F' b j=F b j)/\WR T n B0 ρ F' r {fr with box:=fN fr.box d none} H a w/\fF F' ρ.G ρ.n (.slice .hY els) (.slice (some ⟨ρ.L d (fr.gen d),0,none⟩) len cap):=by
 obtain⟨P,I,B,vs,ty,J,s⟩:=h.box d cs z;obtain⟨r,i,hw⟩:=h.unbox z
 have hF:∀j,F (ρ.L d (fr.gen d)) j=none:=by
  intro j;cases K:F (ρ.L d (fr.gen d)) j with
  |none=>rfl|some v=>
   exact absurd I (h.rf _ j v K d)
 have M:vs.toList.length=cs.length:=s.length.symm
 have N:(vs.toList.take (len*sz)).length=len*sz:=by rw[xZ];omega
 obtain⟨m,t⟩:=hw.freeze (us:=vs.toList.take (len*sz)) (k:=(vs.toList.take (len*sz)).length) i hF J (λu hu=>iT s B u hu) (by
  intro j v _ p;rw[DG] at p
  split at p
  ·simpa using p
  ·cases p)
 refine⟨_,r,m,λb j O=>vO VW,t,?_⟩
 have e:f_ (fF F ρ.G ρ.n) (els.flatMap AV.cells) (vs.toList.take (len*sz)):=by
  rw[A];exact(s.take (len*sz)).Pd
 have C:=fF.slice (F:=kh F (ρ.L d (fr.gen d)) (vs.toList.take (len*sz)).length (vs.toList.take (len*sz))) (G:=ρ.G) (n:=ρ.n) (tag:=.hY) (l:=els) (b:=ρ.L d (fr.gen d)) (o:=0)
  (base:=some ⟨ρ.L d (fr.gen d),0,none⟩) (cap:=cap) (sz:=sz) (vs:=vs.toList.take (len*sz)) (.m6 (e.mono λ_ _ _ h=>h.grow m.g)) (zf _ _ _) (λ_=>rfl) hs (by
   intro c f;rw[A] at f
   exact zB (λc y=>B c (Ab y)) c f) VW q (.inl rfl)
 rw[D] at C;exact C
def fg.Zp{α:Type}{c:Code}{Q:Exit->Fr->cW->Prop}{f:α->AV}(t:Nat){L:List α}{k sz d g cap:Nat}(l:∀x,(f x).cells.length=sz)(o:∀x,(f x).cells.map AV.h_=(f x).cells)
  (he:fr.env t=.vM d g L.length cap) (hg:g=fr.gen d) (C:fr.box d=some (gO f L k))
  (h:fg P T n c Q {fr with env:=fN fr.env t (.slice .hY (L.map f)),box:=fN fr.box d none} H):fg P T n c Q fr H:=by
 intro G0 F0 n0 w0 a w hs;refine h G0 F0 n0 w0 a w ?_;obtain⟨ρ,F,R,hw,q⟩:=hs;have m:=hw.env t;rw[he] at m;obtain⟨D,E,r,s⟩:=zt m
 have u:∀x∈L.map f,x.cells.length=sz:=by
  intro x q;obtain⟨y,_,rfl⟩:=l8.1 q;exact l y
 obtain⟨F',G,v,z,i,I⟩:=hw.Iw (els:=L.map f) (len:=L.length) (cap:=cap) (sz:=sz) C aa4 u (by rw[ud l];exact Gp o L) (by rw[lq l];omega) r s;refine⟨ρ,F',G,⟨i.g,i.size,i.defers,?_,i.hn,i.lg,i.ag,i.box,i.tok,i.rf,i.nE,i.lb,i.qT⟩,?_⟩
 ·intro B;show fG F' ρ (fN fr.env t (.slice .hY (L.map f)) B) _;simp only[fN]
  split
  ·rename_i e;subst e;rw[D,hg];exact .p I
  ·exact(hw.env B).grow v
 ·exact q.freeze λb j A=>z b j A
def fg.ace{α:Type}{c:Code}{Q:Exit->Fr->cW->Prop}{f:α->AV}(d2 i:Nat){cs2:List AV}{L:List α}{k sz d g cap:Nat}(m:∀x,(f x).cells.length=sz)(t:∀x,(f x).cells.map AV.h_=(f x).cells)
  (v:d2≠d) (he:fr.box d2=some cs2) (hi:cs2[i]?=some (.vM d g L.length cap)) (hg:g=fr.gen d) (V:fr.box d=some (gO f L k))
  (h:fg P T n c Q {fr with box:=fN (fN fr.box d none) d2 (some (cs2.set i (.slice .hY (L.map f))))} H):fg P T n c Q fr H:=by
 intro G0 F0 n0 w0 a w hs;refine h G0 F0 n0 w0 a w ?_;obtain⟨ρ,F,R,hw,z⟩:=hs;obtain⟨_,_,A,B,W,C,D⟩:=hw.box d2 cs2 he;obtain⟨u,hu,E⟩:=D.get hi;obtain⟨X,Y,G,I⟩:=zt (.cell E)
 have J:∀x∈L.map f,x.cells.length=sz:=by
  intro x z;obtain⟨y,_,rfl⟩:=l8.1 z;exact m y
 obtain⟨F',Z,aa,K,e,hp⟩:=hw.Iw (els:=L.map f) (len:=L.length) (cap:=cap) (sz:=sz) V aa4 J (by rw[ud m];exact Gp t L) (by rw[lq m];omega) G I
 have M:({fr with box:=fN fr.box d none}:Fr).box d2=some cs2:=by simp[fN,v,he]
 refine⟨ρ,F',Z,⟨e.g,e.size,e.defers,e.env,e.hn,e.lg,e.ag,?_,e.tok,e.rf,e.nE,e.lb,e.qT⟩,?_⟩
 ·intro o N l;simp only[fN] at l
  by_cases q:o=d2
  ·subst q;simp only[if_true,sy] at l;subst l;obtain⟨e1,e2,e3,vs',r,U,e5⟩:=e.box o cs2 M;refine⟨e1,e2,?_,vs',r,U,?_⟩
   ·intro c hc;rcases Gm hc with h'|h'
    ·exact e3 c h'
    ·rw[h'];rfl
   ·have O:vs'.toList=B.toList:=by
     have:w.heap[ρ.L o (fr.gen o)]?=some (.cells vs' r (0,0)):=U;rw[C] at this;injection this with this;injection this with this;rw[this]
    refine f_.Mf e5 hi ?_;intro u' s;rw[O,hu] at s;obtain rfl:=gh s;rw[X,hg];exact .p hp
  ·simp only[cK q] at l;exact e.box o N (by simpa[fN] using l)
 ·exact z.freeze λb j S=>K b j S
end
end Go.ke
