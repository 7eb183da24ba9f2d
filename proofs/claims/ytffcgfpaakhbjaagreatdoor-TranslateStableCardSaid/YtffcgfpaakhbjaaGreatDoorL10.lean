/- Part of the proof of TranslateStable: layer. -/
import Derived.Test.YtffcgfpaakhbjaaGreatDoorL9
set_option linter.all false
namespace Go.jN
open Go
mutual
def AV.low(k:Nat):AV->Bool
 |.undef=>true|.sc _=>true|.ju x=>x.low k|.gx _ _ _=>true|.di o _=>decide (o<k)|.slice _ l=>AV.gw k l|.agg l=>AV.gw k l|.tuple l=>AV.gw k l|.func _ f c=>AV.gw k f&&AV.gw k c|.iface _ x=>x.low k|.um _ _ _ _=>true|.nR o=>decide (o<k)|.oZ o _ _ _=>decide (o<k)|.DI=>true|.vp _ xs=>AV.gw k xs|.lb o _ _=>decide (o<k)
def AV.gw(k:Nat):List AV->Bool
 |[]=>true|x::l=>x.low k&&AV.gw k l
end
def AV.tq{k:Nat}:∀{l:List AV},AV.gw k l=true↔∀x∈l,x.low k=true
 |[]=>by simp[AV.gw]|x::l=>by simp[AV.gw,AV.tq (l:=l)]
def AV.Ic{k:Nat}{x:AV}(h:x.low k=true):AV.gw k x.cells=true:=by
 cases x<;>simp_all [AV.low,AV.cells,AV.gw]
def AV.Sf{k:Nat}{l:List AV}(h:AV.gw k l=true):AV.gw k (l.flatMap AV.cells)=true:=by
 rw[AV.tq] at h|-;intro x a;obtain⟨y,hy,a⟩:=TB.1 a;exact AV.tq.1 (AV.Ic (h y hy)) x a
@[simp] theorem AV.abY{α:Type}{k:Nat}(f:α->Value)(l:List α):AV.gw k (List.map (λn=>AV.sc (f n)) l)=true:=by
 rw[AV.tq];intro x a;obtain⟨y,_,rfl⟩:=ll.1 a;rfl
section
variable{F:js} {G:Nat->Nat} {n k:Nat}
mutual
def eZ.lower:∀{x v},eZ F G n x v->x.low k=true->eZ F G k x v
 |_,_,.undef h,_=>.undef h|_,_,.sc h,_=>.sc h|_,_,.ju b c d,a=>.ju (b.lower (AV.Ic (by simpa[AV.low] using a))) c d|_,_,.di h,a=>.di (by simpa[AV.low] using a)|_,_,.nR h,a=>.nR (by simpa[AV.low] using a)|_,_,.oZ h c d,a=>.oZ (by simpa[AV.low] using a) c d|_,_,.slice b c d e f g i j,a=>.slice (b.lower (AV.Sf (by simpa[AV.low] using a))) c d e f g i j|_,_,.DI,_=>.DI|_,_,.agg b c,a=>.agg (b.lower (by simpa[AV.low] using a)) c|_,_,.tuple b,a=>.tuple (b.lower (by simpa[AV.low] using a))|_,_,.func b c,a=>by
  simp only[AV.low,eg] at a;exact .func (b.lower a.1) (c.lower a.2)
 |_,_,.iface b,a=>.iface (b.lower (by simpa[AV.low] using a))
def ft.lower:∀{xs vs},ft F G n xs vs->AV.gw k xs=true->ft F G k xs vs
 |_,_,.nil,_=>.nil|_,_,.cons b c,a=>by
  simp only[AV.gw,eg] at a;exact .cons (b.lower a.1) (c.lower a.2)
end
end
def kc.lower{F:js}{G:Nat->Nat}{n k:Nat}{cs d}(h:kc F G n cs d)(a:AV.gw k cs=true):kc F G k cs d:=by
 cases h with
 |cells e b c=>exact .cells e ((ft.nK b).lower a).sy c|map b c f g i=>exact .map b ((ft.nK c).lower (by simpa[AV.gw,AV.low] using a)).sy f g i|iter h=>exact .iter (by simpa[AV.gw,AV.low] using a)|dead=>exact .dead
def dj.drop{P:Program}{T:cV}{f:FuncId}{args:List AV}{H:cc}{Post Post':AV->cc->Prop}(h:dj P T f args H Post)
  (t:∀r H',Post r H'->∃H0 X,H'=H0++X/\H.length<=H0.length/\r.low H0.length=true/\(∀cs∈H0,AV.gw H0.length cs=true)/\Post' r H0):dj P T f args H Post':=by
 refine⟨h.1,λG F w vs hg u=>(h.2 G F w vs hg u).mono ?_⟩;rintro e w' ⟨r,H',v,G',F',l,rfl,i,y,a⟩;obtain⟨H0,X,rfl,hlen,z,m,A⟩:=t r H' l
 have k:∀b o v,F b o=some v->F' b o=some v:=by
  intro b o v n
  have hb:b<w.heap.size:=by
   rcases sA b w.heap.size with hb|hb
   ·exact hb
   ·rw[hg.fresh b o hb] at n;cases n
  exact a.mF b o v hb n
 have d:∀o,o<H0.length->o<(H0++X).length:=λo c=>by rw[ni];omega
 refine⟨r,H0,v,G',F',A,rfl,?_,y.lower z,?_⟩
 ·refine⟨i.Fz,?_,λo o' c p=>i.inj o o' (d o c) (d o' p),λo j c q=>i.gF o j (d o c) (by rw[oy c];exact q),i.fresh,λg x B=>?_,i.row⟩
  ·intro o cs c;have s:o<H0.length:=(jj.1 c).1;obtain⟨C,D,E⟩:=i.kQ o cs (by rw[oy s];exact c);exact⟨C,D,E.lower (m cs (Bh c))⟩
  ·exact(hg.DW g x B).grow ⟨k,hlen,λo c=>a.hG o c⟩
 ·exact⟨a.os,a.tape,a.output,a.size,hlen,a.hG,λo l I=>a.Lh o l (d o I),a.hF,a.mF,a.heap⟩
end Go.jN
namespace Go.jN
open Go
def AV.B4{k:Nat}{x:AV}(h:AV.gw k x.cells=true):x.low k=true:=by
 cases x<;>simp_all [AV.low,AV.cells,AV.gw]
def AV.J'{k:Nat}{l:List AV}(h:AV.gw k (l.flatMap AV.cells)=true):AV.gw k l=true:=by
 rw[AV.tq] at h|-;intro x a;exact AV.B4 (AV.tq.2 λy hy=>h y (TB.2 ⟨x,a,hy⟩))
section
variable{F:js} {G:Nat->Nat} {n:Nat}
mutual
def eZ.tM:∀{x v},eZ F G n x v->x.low n=true
 |_,_,.undef _=>rfl|_,_,.sc _=>rfl|_,_,.ju a _ _=>by simpa[AV.low] using AV.B4 a.tM|_,_,.di h=>by simpa[AV.low] using h|_,_,.nR h=>by simpa[AV.low] using h|_,_,.oZ h _ _=>by simpa[AV.low] using h|_,_,.slice a _ _ _ _ _ _ _=>by simpa[AV.low] using AV.J' a.tM|_,_,.DI=>rfl|_,_,.agg a _=>by simpa[AV.low] using a.tM|_,_,.tuple a=>by simpa[AV.low] using a.tM|_,_,.func a b=>by simp[AV.low,a.tM,b.tM]|_,_,.iface a=>by simpa[AV.low] using a.tM
def ft.tM:∀{xs vs},ft F G n xs vs->AV.gw n xs=true
 |_,_,.nil=>rfl|_,_,.cons a b=>by simp[AV.gw,a.tM,b.tM]
end
end
def kc.tM{F:js}{G:Nat->Nat}{n:Nat}{cs c}(h:kc F G n cs c):AV.gw n cs=true:=by
 cases h with
 |cells d a b=>exact(ft.nK a).tM|map a b e f g=>simpa[AV.gw,AV.low] using(ft.nK b).tM|iter h=>simpa[AV.gw,AV.low] using h|dead=>rfl
def dj.sH{P:Program}{T:cV}{f:FuncId}{args:List AV}{H:cc}{Post Post':AV->cc->Prop}(h:dj P T f args H Post)
  (d:∀r H',Post r H'->∃X,H'=H++X/\r.low H.length=true/\Post' r H):dj P T f args H Post':=by
 refine⟨h.1,λG F w vs hg g=>?_⟩
 have a:∀cs∈H,AV.gw H.length cs=true:=by
  intro cs b;obtain⟨o,i⟩:=TA.1 b;obtain⟨m,_,j⟩:=hg.kQ o cs i;exact j.tM
 exact(dj.drop (Post':=Post') h λr H' k=>by
  obtain⟨X,e,l,c⟩:=d r H' k
  exact⟨H,X,e,fT _,l,a,c⟩).2 G F w vs hg g
end Go.jN
namespace Go.jN
open Go Go.dG
mutual
def AV.Gy{k n:Nat}(h:k<=n):∀{x:AV},x.low k=true->x.low n=true
 |.undef,_=>rfl|.sc _,_=>rfl|.ju x,a=>by simpa[AV.low] using AV.Gy h (x:=x) (by simpa[AV.low] using a)|.gx _ _ _,_=>rfl|.di o _,a=>by simp[AV.low] at a|-;omega
 |.oZ o _ _ _,a=>by simp[AV.low] at a|-;omega
 |.slice _ l,a=>by simpa[AV.low] using AV.pY h (l:=l) (by simpa[AV.low] using a)|.agg l,a=>by simpa[AV.low] using AV.pY h (l:=l) (by simpa[AV.low] using a)|.tuple l,a=>by simpa[AV.low] using AV.pY h (l:=l) (by simpa[AV.low] using a)|.func _ f c,a=>by
  simp only[AV.low,eg] at a|-;exact⟨AV.pY h a.1,AV.pY h a.2⟩
 |.iface _ x,a=>by simpa[AV.low] using AV.Gy h (x:=x) (by simpa[AV.low] using a)|.um _ _ _ _,_=>rfl|.DI,_=>rfl|.nR o,a=>by simp[AV.low] at a|-;omega
 |.vp _ l,a=>by simpa[AV.low] using AV.pY h (l:=l) (by simpa[AV.low] using a)|.lb o _ _,a=>by simp[AV.low] at a|-;omega
def AV.pY{k n:Nat}(h:k<=n):∀{l:List AV},AV.gw k l=true->AV.gw n l=true
 |[],_=>rfl|x::l,a=>by
  simp only[AV.gw,eg] at a|-;exact⟨AV.Gy h a.1,AV.pY h a.2⟩
end
def Iu{H:cc}{o:Nat}{c:List AV}(h:H[o]?=some c):o<H.length:=(jj.1 h).1
def IH{H:cc}{o:Nat}{c:List AV}(h:H[o]?=some c):dx H o c=H:=by
 apply SE;intro i;simp only[dx];rw[T1]
 split
 ·rename_i e;subst e;rw[bX (Iu h),h]
 ·rfl
def Inb(H:cc)(o:Nat):Prop:=o<H.length
def eo{H:cc}{o:Nat}{c:List AV}(h:H[o]?=some c):Inb H o:=Iu h
def SX{H:cc}{o:Nat}{c:List AV}(h:Inb H o):(dx H o c)[o]?=some c:=by simp[dx,show o<H.length from h]
def KY{H:cc}{o o':Nat}{c:List AV}(h:o≠o'):(dx H o c)[o']?=H[o']?:=by simp[dx,T1,h]
def O_{H:cc}{o o':Nat}{c d e:List AV}(h:o≠o'):dx (dx (dx H o c) o' d) o e=dx (dx H o e) o' d:=by
 simp only[dx];rw[List.set_comm _ _ h.symm,List.set_set]
def MM{A B:cc}{o:Nat}(h:Inb A o):(A++B)[o]?=A[o]?:=oy h
def KR{A B:cc}{o:Nat}{c:List AV}(h:Inb A o):dx (A++B) o c=dx A o c++B:=by simp[dx,List.set_append,show o<A.length from h]
def Gx{A B:cc}{k i:Nat}(h:A.length=k):(A++B)[k+i]?=B[i]?:=by
 subst h;rw[qU VW]
 congr 1
 omega
def NH{A B:cc}{k:Nat}(h:A.length=k):(A++B)[k]?=B[0]?:=Gx (i:=0) h
def Dc{A B:cc}{k i:Nat}{c:List AV}(h:A.length=k):dx (A++B) (k+i) c=A++dx B i c:=by
 subst h;simp[dx,List.set_append]
def Kk{A B:cc}{k:Nat}{c:List AV}(h:A.length=k):dx (A++B) k c=A++dx B 0 c:=Dc (i:=0) h
@[simp] theorem Yh(a:List AV)(l:cc)(c:List AV):dx (a::l) 0 c=c::l:=rfl
@[simp] theorem Xj(a:List AV)(l:cc)(i:Nat)(c:List AV):dx (a::l) (i+1) c=a::dx l i c:=rfl
@[simp] theorem VR(a:List AV)(l:cc)(c:List AV):dx (a::l) 1 c=a::dx l 0 c:=rfl
@[simp] theorem Vf(a:List AV)(l:cc)(c:List AV):dx (a::l) 2 c=a::dx l 1 c:=rfl
@[simp] theorem Vg(a:List AV)(l:cc)(c:List AV):dx (a::l) 3 c=a::dx l 2 c:=rfl
@[simp] theorem VA(a:List AV)(l:cc)(c:List AV):dx (a::l) 4 c=a::dx l 3 c:=rfl
@[simp] theorem Vq(a:List AV)(l:cc)(c:List AV):dx (a::l) 5 c=a::dx l 4 c:=rfl
def dj.PS{P:Program}{T:cV}{f:FuncId}{args:List AV}{H:cc}{o:Nat}{c:List AV}{Post:AV->cc->Prop}(h:H[o]?=some c)(a:dj P T f args (dx H o c) Post):dj P T f args H Post:=by
 rwa [IH h] at a
structure Bn {S:Type} (st:S->cc) (k:Nat):Prop where
 len:∀s,(st s).length=k
 low:∀s s' cs,cs∈st s'->cs∈st s\/AV.gw k cs=true
def Bn.const{S:Type}(H:cc):Bn (λ_:S=>H) H.length:=⟨λ_=>rfl,λ_ _ _ h=>.inl h⟩
def Bn.ext{S:Type}{st:S->cc}{k:Nat}(h:Bn st k)(X:cc){n:Nat}(hn:k+X.length=n):Bn (λs=>st s++X) n:=by
 subst hn;refine⟨λs=>by rw[ni,h.len],λs a cs hc=>?_⟩;rcases qO.1 hc with hc|hc
 ·rcases h.low s a cs hc with h1|h1
  ·exact .inl (Ub _ h1)
  ·exact .inr (AV.pY VW h1)
 ·exact .inl (UJ _ hc)
def Bn.UP{S:Type}(H:cc)(f:S->cc)(n:Nat)(hn:∀s,(f s).length=n)(b:∀s a cs,cs∈f a->cs∈f s\/AV.gw (H.length+n) cs=true):Bn (λs=>H++f s) (H.length+n):=by
 refine⟨λs=>by rw[ni,hn],λs a cs hc=>?_⟩;rcases qO.1 hc with hc|hc
 ·exact .inl (Ub _ hc)
 ·rcases b s a cs hc with h1|h1
  ·exact .inl (UJ _ h1)
  ·exact .inr h1
def dj.aaz{P:Program}{T:cV}{f:FuncId}{args:List AV}{H:cc}{Post Post':AV->cc->Prop}(h:dj P T f args H Post)
  (d:∀r H',Post r H'->∃H0 X,H'=H0++X/\H0.length=H.length/\r.low H.length=true/\(∀cs∈H0,cs∈H\/AV.gw H.length cs=true)/\Post' r H0):dj P T f args H Post':=by
 refine⟨h.1,λG F w vs hg g=>?_⟩
 have b:∀cs∈H,AV.gw H.length cs=true:=by
  intro cs a;obtain⟨o,i⟩:=TA.1 a;obtain⟨n,_,j⟩:=hg.kQ o cs i;exact j.tM
 refine(dj.drop (Post':=Post') h λr H' k=>?_).2 G F w vs hg g;obtain⟨H0,X,e,hlen,l,a,c⟩:=d r H' k;refine⟨H0,X,e,VW,by rw[hlen];exact l,λcs m=>?_,c⟩;rw[hlen];rcases a cs m with h1|h1
 ·exact b cs h1
 ·exact h1
def dj.U7{P:Program}{T:cV}{f:FuncId}{args:List AV}{S:Type}{st:S->cc}{k:Nat}(hF:Bn st k){s:S}{Post Post':AV->cc->Prop}(h:dj P T f args (st s) Post)
  (c:∀r H',Post r H'->∃a X,H'=st a++X/\r.low k=true/\Post' r (st a)):dj P T f args (st s) Post':=
 dj.aaz h λr H' d=>by
  obtain⟨a,X,e,g,b⟩:=c r H' d;exact⟨st a,X,e,by rw[hF.len,hF.len],by rw[hF.len];exact g,λcs i=>by rw[hF.len];exact hF.low s a cs i,b⟩
@[simp] theorem aab(H:List (List AV))(o:Nat)(c:List AV):List.set H o c=dx H o c:=rfl
attribute [simp] SX KY O_ MM KR Gx NH Dc Kk
end Go.jN
namespace Go.jN
open Go Go.dG
def dF(P:Program)(T:cV)(E:List Nat)(opsA:Array Oper)(q:Qt):List Bool->List Oper->(Fr->cc->Prop)->Fr->cc->Prop
 |_,[],K,fr,H=>K fr H|[],o::rest,K,fr,H=>fJ P T E opsA q true o (λfr H=>dF P T E opsA q [] rest K fr H) fr H|b::bs,o::rest,K,fr,H=>fJ P T E opsA q b o (λfr H=>dF P T E opsA q bs rest K fr H) fr H
def HL{E:List Nat}{ops:Array Oper}{q:Qt}{P:Program}{T:cV}{K:Fr->cc->Prop}(a:List Bool):∀(l:List Oper) (k:Nat) (fr:Fr) (H:cc),l=ops.toList.drop k->dF P T E ops q (a.drop k) l K fr H->Jk P T E ops q (λi=>a.getD i true) (List.range' k l.length) K fr H:=by
 intro l
 induction l with
 |nil=>
  intro k fr H _ h;cases d:a.drop k<;>rw[d] at h<;>exact h
 |cons o l e=>
  intro k fr H c h
  have b:k<ops.toList.length:=by
   rcases sA k ops.toList.length with h'|h'
   ·exact h'
   ·rw[F_ h'] at c;cases c
  have f:=Ma b;rw[f] at c;injection c with g j
  have hi:ops[k]?=some o:=by
   rw[g];simp only[Z6];exact SB (by simpa using b)
  simp only[j0,XN,Jk,hi]
  have m:a.getD k true=(a.drop k).headD true:=by
   simp only[List.getD,List.headD_eq_head?_getD,List.head?_drop]
  have n:a.drop (k+1)=(a.drop k).tail:=by rw[List.tail_drop]
  rw[m];refine FV (K:=λfr H=>dF P T E ops q (a.drop (k+1)) l K fr H) (λfr H h=>e (k+1) fr H j h) ?_;rw[n];cases d:a.drop k<;>rw[d] at h<;>exact h
def fA.Ot{P:Program}{T:cV}{n:Nat}{Q:Exit->Fr->cc->Prop}{fr:Fr}{H:cc}{id:Nat}{ops:Array Oper}(E:List Nat)(q:Qt)(b:List Bool)(hm:P.follows .mixedOrders=true)(a:yW n ops=true)(c:x8 E ops (λi=>b.getD i true)=true)
  (h:dF P T E ops q b ops.toList (Q .normal) fr H):fA P T n (.region id ops true) Q fr H:=by
 refine fA.Q0 E q (λi=>b.getD i true) hm a c ?_;have:=HL (P:=P) (T:=T) (E:=E) (ops:=ops) (q:=q) (K:=Q .normal) b ops.toList 0 fr H (by rw[Rw]) (by rw[Rw];exact h);rw[UG];simpa using this
def dX(P:Program)(T:cV)(E:List Nat)(ops:Array Oper)(q:Qt)(bs:List Bool)(a:AV)(as:List AV)(d:Option Nat)(rest:List Oper)(K:Fr->cc->Prop)(fr:Fr)(H:cc):Prop:=
 if d.any E.contains then V0 P T q true a as d (dF P T E ops q bs rest K) fr H else∃r H',vw P T a as H r H'/\(QK q H H')/\dF P T E ops q bs rest K (fr.put d r) H'
section
variable{P:Program} {T:cV} {E:List Nat} {ops:Array Oper} {q:Qt} {bs:List Bool} {rest:List Oper} {K:Fr->cc->Prop} {fr:Fr} {H H':cc} {d:Option Nat} {ty:TypeId} {pos:String} {after:Array Edge}
def dX.val{a:AV}{as:List AV}{r:AV}(h:vw P T a as H r H')(b:QK q H H')(c:dF P T E ops q bs rest K (fr.put d r) H'):dX P T E ops q bs a as d rest K fr H:=by
 unfold dX
 split
 ·exact UE h (λ_=>b) c
 ·exact⟨r,H',h,b,c⟩
def dX.rel{g:FuncId}{as:List AV}{Post:AV->cc->Prop}(h:dj P T g as H Post)(hex:∃r h,Post r h)(c:d.any E.contains=true)(a:∀r h,Post r h->QK q H h/\dF P T E ops q bs rest K (fr.put d r) h):dX P T E ops q bs (.func (.func g) [] []) as d rest K fr H:=by
 unfold dX;rw[bX c];refine⟨Post,?_,hex,λr h b=>⟨λ_=>(a r h b).1,(a r h b).2⟩⟩;unfold kA;simp only[m6,zG];exact h
def dX.fn{g:FuncId}{as:List AV}{r:AV}(h:dr P T g as H r H')(a:QK q H H')(b:dF P T E ops q bs rest K (fr.put d r) H'):dX P T E ops q bs (.func (.func g) [] []) as d rest K fr H:=by
 refine dX.val ?_ a b;unfold vw kA;simp only[m6,zG];exact h
def dX.TT{g:FuncId}{b c as a:List AV}{r:AV}(e:b++as++c=a)(h:dr P T g a H r H')(f:QK q H H')(i:dF P T E ops q bs rest K (fr.put d r) H'):dX P T E ops q bs (.func (.func g) b c) as d rest K fr H:=by
 subst e;exact dX.val h f i
@[simp] theorem YL(bs:List Bool):dF P T E ops q bs [] K fr H=K fr H:=by cases bs<;>rfl
@[simp] theorem U8{t:TypeId}{x:Operand}:dF P T E ops q (false::bs) ({dst:=d,op:=.load t x,type:=ty,pos:=pos,after:=after,guard:=none}::rest) K fr H=if pF ops.toList x (ev T fr x)then(match sD P fr H t (ev T fr x)with|some v=>dF P T E ops q bs rest K (fr.put d v) H|none=>False)else False:=by
 simp only[dF,fJ,fE,p9,jg,mE,xL,gX,fL,fk,la,Bool.not_false,Bool.true_or,Fi]
 split
 ·rename_i v a
  split at a
  ·rename_i b;rw[bX b,a]
  ·cases a
 ·rename_i a
  split at a
  ·rename_i b;rw[bX b,a]
  ·rename_i b;rw[bV b]
@[simp] theorem Ts{t:TypeId}{x y:Operand}:dF P T E ops q (false::bs) ({dst:=none,op:=.store t x y,type:=ty,pos:=pos,after:=after,guard:=none}::rest) K fr H=(N7 E q x (ev T fr x)/\pF ops.toList x (ev T fr x)=true/\ky P t (ev T fr x) (ev T fr y) (dF P T E ops q bs rest K) fr H):=by
 simp only[dF,fJ,fE,p9,jg,mE,xL,gX,fL,fk,BR,gX,false_implies,if_true,BY]
@[simp] theorem XD{x:Operand}:dF P T E ops q (true::bs) ({dst:=d,op:=.move x,type:=ty,pos:=pos,after:=after,guard:=none}::rest) K fr H=dF P T E ops q bs rest K (fr.put d (ev T fr x)) H:=rfl
@[simp] theorem TD{x:Operand}:dF P T E ops q (true::bs) ({dst:=d,op:=.assign x,type:=ty,pos:=pos,after:=after,guard:=none}::rest) K fr H=dF P T E ops q bs rest K (fr.put d (ev T fr x)) H:=rfl
@[simp] theorem VV{t:TypeId}:dF P T E ops q (true::bs) ({dst:=d,op:=.alloc t,type:=ty,pos:=pos,after:=after,guard:=none}::rest) K fr H=match fY P t with|some z=>d.any E.contains=false/\jl E d z (dF P T E ops q bs rest K) fr H|none=>False:=by
 simp only[dF,fJ,fE,p9,jg,mE,xL,gX,fL,fk,Wl];rfl
@[simp] theorem WH{t:TypeId}{x:Operand}:dF P T E ops q (true::bs) ({dst:=d,op:=.load t x,type:=ty,pos:=pos,after:=after,guard:=none}::rest) K fr H=if pF ops.toList x (ev T fr x)&&q.ok (ev T fr x)then(match sD P fr H t (ev T fr x)with|some v=>dF P T E ops q bs rest K (fr.put d v) H|none=>False)else False:=by
 simp only[dF,fJ,fE,p9,jg,mE,xL,gX,fL,fk,la,Bool.not_true,S7]
 split
 ·rename_i v a
  split at a
  ·rename_i b;rw[bX b,a]
  ·cases a
 ·rename_i a
  split at a
  ·rename_i b;rw[bX b,a]
  ·rename_i b;rw[bV b]
@[simp] theorem U_{t:TypeId}{x y:Operand}:dF P T E ops q (true::bs) ({dst:=none,op:=.store t x y,type:=ty,pos:=pos,after:=after,guard:=none}::rest) K fr H=(N7 E q x (ev T fr x)/\pF ops.toList x (ev T fr x)=true/\isL (ev T fr x)=true/\ky P t (ev T fr x) (ev T fr y) (dF P T E ops q bs rest K) fr H):=by
 simp only[dF,fJ,fE,p9,jg,mE,xL,gX,fL,fk,Wl,BR,if_true,BY]
@[simp] theorem Qo{t n:Nat}{ps:Array (Nat×Operand)}:dF P T E ops q (true::bs) ({dst:=d,op:=.buildSlice t n ps,type:=ty,pos:=pos,after:=after,guard:=none}::rest) K fr H=if d.any E.contains then False else match lv P t n (ps.toList.map λp=>(p.1,ev T fr p.2))with|some v=>dF P T E ops q bs rest K (fr.put d v) H|none=>False:=by
 simp only[dF,fJ,fE,p9,jg,mE,xL,gX,fL,fk,la]
 split
 ·rename_i v a
  split at a
  ·cases a
  ·rename_i b;rw[bV b,a]
 ·rename_i a
  split at a
  ·rename_i b;rw[bX b]
  ·rename_i b;rw[bV b,a]
@[simp] theorem Ur{x y:Operand}{t d:Nat}:dF P T E ops q (true::bs) ({dst:=some d,op:=.call {callee:=.builtin .append,args:=#[x,y],argTypes:=#[t,t]},type:=ty,pos:=pos,after:=after,guard:=none}::rest) K fr H=if E.contains d then KO P t (ev T fr x) (ev T fr y) d (dF P T E ops q bs rest K) fr H else z8 P t (ev T fr x) (ev T fr y) d (dF P T E ops q bs rest K) fr H:=by
 simp only[dF,fJ,fE,p9,jg,mE,xL,gX,fL,fk,Wu]
 split
 ·rename_i a;first|exact Ay|(simp only[a,↓reduceIte];exact Ay)
 ·rename_i a;first|exact Am|(simp only[a,↓reduceIte];exact Am)
@[simp] theorem Yl{f:Operand}{as:Array Operand}{ts:Array TypeId}:dF P T E ops q (true::bs) ({dst:=d,op:=.call {callee:=.value f,args:=as,argTypes:=ts},type:=ty,pos:=pos,after:=after,guard:=none}::rest) K fr H=dX P T E ops q bs (ev T fr f) (as.toList.map λx=>(ev T fr x).norm) d rest K fr H:=by
 simp only[dF,fJ,fE,p9,jg,mE,xL,gX,fL,fk,Wl,dX]
@[simp] theorem Y_{as:Array Operand}{ts:Array TypeId}:dF P T E ops q (true::bs) ({dst:=d,op:=.call {callee:=.builtin .len,args:=as,argTypes:=ts},type:=ty,pos:=pos,after:=after,guard:=none}::rest) K fr H=match sJ P T fr {callee:=.builtin .len,args:=as,argTypes:=ts}with|some v=>dF P T E ops q bs rest K (fr.put d v) H|none=>False:=rfl
@[simp] theorem YD{as:Array Operand}{ts:Array TypeId}:dF P T E ops q (true::bs) ({dst:=d,op:=.call {callee:=.builtin .max,args:=as,argTypes:=ts},type:=ty,pos:=pos,after:=after,guard:=none}::rest) K fr H=match sJ P T fr {callee:=.builtin .max,args:=as,argTypes:=ts}with|some v=>dF P T E ops q bs rest K (fr.put d v) H|none=>False:=rfl
@[simp] theorem YR{as:Array Operand}{ts:Array TypeId}:dF P T E ops q (true::bs) ({dst:=d,op:=.call {callee:=.builtin .min,args:=as,argTypes:=ts},type:=ty,pos:=pos,after:=after,guard:=none}::rest) K fr H=match sJ P T fr {callee:=.builtin .min,args:=as,argTypes:=ts}with|some v=>dF P T E ops q bs rest K (fr.put d v) H|none=>False:=rfl
@[simp] theorem Wk{c a b:Operand}:dF P T E ops q (true::bs) ({dst:=d,op:=.pick c a b,type:=ty,pos:=pos,after:=after,guard:=none}::rest) K fr H=match vZ P T fr {dst:=d,op:=.pick c a b,type:=ty,pos:=pos,after:=after,guard:=none}with|some v=>dF P T E ops q bs rest K (fr.put d v) H|none=>False:=rfl
@[simp] theorem U9{t:TypeId}{ps:Array (Nat×Operand)}:dF P T E ops q (true::bs) ({dst:=d,op:=.build t ps,type:=ty,pos:=pos,after:=after,guard:=none}::rest) K fr H=match CQ P t (ps.toList.map λp=>(p.1,ev T fr p.2))with|some v=>dF P T E ops q bs rest K (fr.put d v) H|none=>False:=rfl
@[simp] theorem Vr{o:BinOp}{t u:TypeId}{x y:Operand}:dF P T E ops q (true::bs) ({dst:=d,op:=.binOp o t x y u,type:=ty,pos:=pos,after:=after,guard:=none}::rest) K fr H=match Eb P o t y (ev T fr x) (ev T fr y)with|some v=>dF P T E ops q bs rest K (fr.put d v) H|none=>False:=rfl
@[simp] theorem Xz{o:UnOp}{t:TypeId}{x:Operand}:dF P T E ops q (true::bs) ({dst:=d,op:=.unOp o t x,type:=ty,pos:=pos,after:=after,guard:=none}::rest) K fr H=match YI o (ev T fr x)with|some v=>dF P T E ops q bs rest K (fr.put d v) H|none=>False:=rfl
@[simp] theorem To{s t:TypeId}{x:Operand}:dF P T E ops q (true::bs) ({dst:=d,op:=.convert s t x,type:=ty,pos:=pos,after:=after,guard:=none}::rest) K fr H=match KC P s t (ev T fr x)with|some v=>dF P T E ops q bs rest K (fr.put d v) H|none=>False:=rfl
@[simp] theorem QS{fn:Fn}{f c:Array Operand}:dF P T E ops q (true::bs) ({dst:=d,op:=.makeFunc fn f c,type:=ty,pos:=pos,after:=after,guard:=none}::rest) K fr H=dF P T E ops q bs rest K (fr.put d (.func fn (f.toList.map λx=>(ev T fr x).norm) (c.toList.map λx=>(ev T fr x).norm))) H:=rfl
@[simp] theorem QB{t i:Nat}{x:Operand}:dF P T E ops q (true::bs) ({dst:=d,op:=.fieldAddr t x i,type:=ty,pos:=pos,after:=after,guard:=none}::rest) K fr H=match re P t (ev T fr x) i with|some v=>dF P T E ops q bs rest K (fr.put d v) H|none=>False:=rfl
@[simp] theorem VQ{t i:Nat}{x:Operand}:dF P T E ops q (true::bs) ({dst:=d,op:=.field t x i,type:=ty,pos:=pos,after:=after,guard:=none}::rest) K fr H=match CR P t (ev T fr x) i with|some v=>dF P T E ops q bs rest K (fr.put d v) H|none=>False:=rfl
@[simp] theorem QD{t:TypeId}{x i:Operand}:dF P T E ops q (true::bs) ({dst:=d,op:=.indexAddr t x i,type:=ty,pos:=pos,after:=after,guard:=none}::rest) K fr H=match f_ P t (ev T fr x) (ev T fr i)with|some v=>dF P T E ops q bs rest K (fr.put d v) H|none=>False:=rfl
@[simp] theorem Va{t:TypeId}{x i:Operand}:dF P T E ops q (true::bs) ({dst:=d,op:=.index t x i,type:=ty,pos:=pos,after:=after,guard:=none}::rest) K fr H=match Gb P t (ev T fr x) (ev T fr i)with|some v=>dF P T E ops q bs rest K (fr.put d v) H|none=>False:=rfl
@[simp] theorem Vd{t:TypeId}{x:Operand}{lo hi a:Option Operand}:dF P T E ops q (true::bs) ({dst:=d,op:=.slice t x lo hi a,type:=ty,pos:=pos,after:=after,guard:=none}::rest) K fr H=match xl P t (ev T fr x) (lo.map (ev T fr)) (hi.map (ev T fr)) (a.map (ev T fr))with|some v=>dF P T E ops q bs rest K (fr.put d v) H|none=>False:=rfl
@[simp] theorem Tg{i:Nat}{x:Operand}:dF P T E ops q (true::bs) ({dst:=d,op:=.extract x i,type:=ty,pos:=pos,after:=after,guard:=none}::rest) K fr H=match vZ P T fr {dst:=d,op:=.extract x i,type:=ty,pos:=pos,after:=after,guard:=none}with|some v=>dF P T E ops q bs rest K (fr.put d v) H|none=>False:=rfl
@[simp] theorem RR{x:Operand}:dF P T E ops q (true::bs) ({dst:=d,op:=.nilCheck x,type:=ty,pos:=pos,after:=after,guard:=none}::rest) K fr H=match vZ P T fr {dst:=d,op:=.nilCheck x,type:=ty,pos:=pos,after:=after,guard:=none}with|some v=>dF P T E ops q bs rest K (fr.put d v) H|none=>False:=rfl
@[simp] theorem Ml{t:TypeId}{x:Operand}:dF P T E ops q (true::bs) ({dst:=d,op:=.makeInterface t x,type:=ty,pos:=pos,after:=after,guard:=none}::rest) K fr H=match vZ P T fr {dst:=d,op:=.makeInterface t x,type:=ty,pos:=pos,after:=after,guard:=none}with|some v=>dF P T E ops q bs rest K (fr.put d v) H|none=>False:=rfl
@[simp] theorem VI{op:Op}{j:Nat}{want:Bool}:dF P T E ops q (true::bs) ({dst:=d,op:=op,type:=ty,pos:=pos,after:=after,guard:=some (j,want)}::rest) K fr H=match(ops[j]?).bind (·.dst)with
  |some g=>match fr.env g with
   |.sc (.bool b)=>if b=want then dF P T E ops q (true::bs) ({dst:=d,op:=op,type:=ty,pos:=pos,after:=after,guard:=none}::rest) K fr H else dF P T E ops q bs rest K (fr.put d (.tuple [])) H|.tuple _=>dF P T E ops q bs rest K (fr.put d (.tuple [])) H|_=>False
  |none=>False:=by
 simp only[dF,fJ,fE]
 cases a:(ops[j]?).bind (·.dst)with
 |none=>rfl|some g=>
  simp only;cases he:fr.env g with
  |sc v=>
   cases v with
   |bool b=>
    simp only
    by_cases hw:b=want
    ·subst hw;simp only[beq_self_eq_true,if_true];rfl
    ·rw[bV hw]
     have:(b==want)=false:=by simpa using hw
     rw[this]
   |_=>rfl
  |_=>rfl
end
end Go.jN
namespace Go.jN
open Go Go.dG
section
variable{P:Program} {t e:TypeId} {k:Nat} {x:Option Nat}
end
end Go.jN
namespace Go.jN
open Go Go.dG
def iu{α:Type}(f:α->AV)(L:List α)(k:Nat):List AV:=(L.map f).flatMap AV.cells++qj k
@[irreducible] def KE(i sz:Nat):Nat:=i*sz
def EJ(i sz:Nat):KE i sz=i*sz:=by unfold KE;rfl
section
variable{α:Type} {f:α->AV} {L:List α} {k sz:Nat}
def mS(h:∀x,(f x).cells.length=sz)(L:List α):((L.map f).flatMap AV.cells).length=L.length*sz:=by
 rw[mI (sz:=sz)]
 ·simp
 ·intro x a;obtain⟨y,_,rfl⟩:=ll.1 a;exact h y
def kO(h:∀x,(f x).cells.length=sz):(iu f L k).length=L.length*sz+k:=by
 unfold iu;rw[ni,mS h];simp[qj]
def zr(h:∀x,(f x).cells.length=sz):(iu f L k).take (L.length*sz)=(L.map f).flatMap AV.cells:=by
 unfold iu;rw[Ly (by rw[mS h];exact fT _),LO (by rw[mS h];exact fT _)]
def I6(h:∀x,(f x).cells.length=sz){i:Nat}{x:α}(hi:L[i]?=some x):((iu f L k).drop (i*sz)).take sz=(f x).cells:=by
 have a:=(jj.1 hi).1
 have b:i*sz+sz<=((L.map f).flatMap AV.cells).length:=by
  rw[mS h,<-Jd];exact Cb _ a
 unfold iu;rw[ZN VW,Ly (by rw[M1];omega)]
 exact Dd (sz:=sz) (by
  intro y hy;obtain⟨z,_,rfl⟩:=ll.1 hy
  exact h z) (by simp[hi])
def S_(h:∀x,(f x).cells.length=sz){i:Nat}{y:α}(hi:i<L.length):setCells (iu f L k) (i*sz) (f y).cells=iu f (L.set i y) k:=by
 unfold setCells iu;have hlen:=mS h L
 have hle:i*sz+sz<=L.length*sz:=by
  rw[<-Jd];exact Cb _ hi
 rw[h y,Ly VW,ZN VW,<-pQ]
 congr 1
 have a:L.set i y=L.take i++y::L.drop (i+1):=List.set_eq_take_append_cons_drop▸(by rw[bX hi]);rw[a,TC,k_,Sl,xS]
 have hm:∀x∈L.map f,x.cells.length=sz:=by
  intro x b;obtain⟨z,_,rfl⟩:=ll.1 b;exact h z
 have c:i*sz+sz=(i+1)*sz:=by rw[Jd]
 rw[c,<-Bk hm,<-xh hm,List.map_take,List.map_drop,pQ]
end
def FN{α:Type}{f:α->AV}(a:∀x,(f x).cells.map AV.gA=(f x).cells)(L:List α):(L.map f).flatMap AV.cells=((L.map f).flatMap AV.cells).map AV.gA:=by
 induction L with
 |nil=>rfl|cons x L b=>simp only[k_,xS,TC,a,<-b]
def q9.ZM{P:Program}{t e sz d:Nat}{s x:AV}{K:Fr->cc->Prop}{fr:Fr}{H:cc}{α:Type}{f:α->AV}(m:List α){tag':Tag}
  (b:nS P t=some (e,sz)) (c:∃j,fY P e=some j) (g:∀x,(f x).cells.length=sz) (hlen:xH m=true) (hs:s=.slice .full []) (n:x=.slice tag' (m.map f))
  (o:∀cap,m.length<=cap->K {fr with env:=eO fr.env d (.um d (fr.gen d+1) m.length cap),box:=eO fr.box d (some (iu f m ((cap-m.length)*sz))),gen:=eO fr.gen d (fr.gen d+1)} H):q9 P t s x d K fr H:=by
 subst hs;subst n
 have k:0<m.length/\m.length<=xy:=by simpa[xH] using hlen
 have h:∀l:List α,jm sz (l.map f)=true:=λl=>by cases l with|nil=>rfl|cons a l=>simp[g]
 obtain⟨j,c⟩:=c;refine .inl (.inr ?_);unfold Rr;rw[b];refine⟨h m,by rw[c];rfl,by simpa using k.1,rfl,by simpa[hS,xy] using k.2,λcap p=>?_⟩
 have i:m.length<=cap:=by simpa using p
 have:=o cap i;simp only[w9,List.flatMap_nil,m6,tP,tu,Eo];exact this
theorem q9.iH{P:Program}{t e sz d:Nat}{s x:AV}{K:Fr->cc->Prop}{fr:Fr}{H:cc}{α:Type}{f:α->AV}(L m:List α){cap:Nat}{tag':Tag}
  (n:nS P t=some (e,sz)) (o:∃w,fY P e=some w) (c:∀x,(f x).cells.length=sz) (hlen:dZ L m=true) (hm:0<m.length) (hs:s=.um d (fr.gen d) L.length cap) (A:x=.slice tag' (m.map f))
  (B:fr.box d=some (iu f L ((cap-L.length)*sz))) (p:L.length<=cap)
  (y:∀z b,(eA L m).length<=b->K {fr with env:=eO fr.env d (.um d z (eA L m).length b),box:=eO fr.box d (some (iu f (eA L m) ((b-(eA L m).length)*sz))),gen:=eO fr.gen d z} H):q9 P t s x d K fr H:=by
 subst hs;subst A;have C:L.length+m.length<=xy:=Kv hlen
 have q:∀l:List α,jm sz (l.map f)=true:=λl=>by cases l with|nil=>rfl|cons a l=>simp[c]
 obtain⟨w,o⟩:=o;have r:=mS c L;have u:=mS c m;have g:(eA L m).length=L.length+m.length:=yR L m
 have i:(L.map f).flatMap AV.cells++(m.map f).flatMap AV.cells=((eA L m).map f).flatMap AV.cells:=by simp[eA]
 refine .inl (.inr ?_);unfold Rr;rw[n];refine⟨q m,by rw[o];rfl,by simpa using hm,rfl,by simpa[hS,xy] using C,?_⟩;rw[B];simp only[Eo];refine⟨?_,λD=>?_,λb G E=>?_⟩
 ·rw[kO c,Nat.sub_mul];have:=Cb sz p;omega
 ·have k:=y (fr.gen d) cap (by rw[g];exact D)
  have F:eO fr.gen d (fr.gen d)=fr.gen:=by
   funext j
   simp only[eO]
   split
   ·rename_i h;rw[h]
   ·rfl
  have v:setCells (iu f L ((cap-L.length)*sz)) (L.length*sz) ((m.map f).flatMap AV.cells)=iu f (eA L m) ((cap-(eA L m).length)*sz):=by
   unfold setCells;rw[zr c];unfold iu;rw[<-i,PE,F_ VW,m6,r,u,g]
   have:L.length*sz+m.length*sz-L.length*sz=m.length*sz:=VW
   rw[this];unfold qj;rw[List.drop_replicate,<-Nat.sub_mul,Nat.sub_sub]
  rw[F,<-v,g] at k;exact k
 ·have k:=y (fr.gen d+1) b (by rw[g];exact E)
  have v:(iu f L ((cap-L.length)*sz)).take (L.length*sz)++(m.map f).flatMap AV.cells++qj ((b-(L.length+m.length))*sz)=iu f (eA L m) ((b-(eA L m).length)*sz):=by
   rw[zr c,g];unfold iu;rw[i]
  unfold w9;rw[v,<-g];exact k
@[simp] theorem aa2{P:Program}{t:TypeId}{b g n c:Nat}:BE P t (.um b g n c)=match P.underlying t with|some (.slice _)=>some (.sc (.int .i64 n))|some (.array n _)=>some (.sc (.int .i64 n))|_=>none:=by
 unfold BE;cases P.underlying t with
 |none=>rfl|some y=>cases y<;>rfl
@[simp] theorem RS{P:Program}{t:TypeId}{k:IntKind}{a:Int}{b g n c:Nat}:f_ P t (.um b g n c) (.sc (.int k a))=match P.underlying t with
  |some (.slice e)=>match dE P e with
   |some (_,sz)=>if 0<=a/\a<(n:Int)then some (.gx b g (KE a.toNat sz))else none|none=>none
  |_=>none:=by
 unfold f_;simp only[EJ];cases P.underlying t with
 |none=>rfl|some y=>cases y<;>rfl
def Al(P:Program)(t:TypeId)(b g i sz:Nat)(v:AV)(K:Fr->cc->Prop)(fr:Fr)(H:cc):Prop:=ky P t (.gx b g (KE i sz)) v K fr H
@[simp high] theorem U4{P:Program}{t:TypeId}{b g i sz:Nat}{v:AV}{K:Fr->cc->Prop}{fr:Fr}{H:cc}:ky P t (.gx b g (KE i sz)) v K fr H=Al P t b g i sz v K fr H:=rfl
def Al.arr{P:Program}{t:TypeId}{b g sz k:Nat}{a:Int}{bl:Bool}{v:AV}{K:Fr->cc->Prop}{fr:Fr}{H:cc}{α:Type}{f:α->AV}{L:List α}{x:α}(y:α)(i:dE P t=some (bl,sz))(c:∀x,(f x).cells.length=sz)
  (e:dn (f y)=true) (hi:cr L a=some x) (hg:g=fr.gen b) (j:fr.box b=some (iu f L k)) (l:v=f y) (m:K {fr with box:=eO fr.box b (some (iu f (xu L a y) k))} H):Al P t b g a.toNat sz v K fr H:=by
 subst l;have h:=LB hi;have d:=(jj.1 h).1
 have hle:a.toNat*sz+sz<=L.length*sz:=by
  rw[<-Jd];exact Cb _ d
 unfold Al;simp only[ky,i,j];refine⟨hg,c y,by rw[EJ,kO c];omega,e,?_⟩;rw[EJ,S_ c d];exact m
def fi.KD{α β:Type}{R:α->β->Prop}:∀{as:List α} {bs:List β} {i:Nat} {a0 a:α},fi R as bs->as[i]?=some a0->(∀b,bs[i]?=some b->R a b)->fi R (as.set i a) bs
 |_,_,_,_,_,.nil,h,_=>by simp at h
 |_,_,0,_,_,.cons d c,_,h=>.cons (h _ rfl) c|_,_,i+1,_,_,.cons d c,e,h=>.cons d (fi.KD c (by simpa using e) (λb f=>h b (by simpa using f)))
section
variable{P:Program} {T:cV} {n B0:Nat} {ρ:Maps} {F:js} {R:Nat->mP} {fr:Fr} {H:cc} {a:Act} {w:World}
def WR.unbox(h:WR T n B0 ρ F R fr H a w){d:Nat}{cs:List AV}(x:fr.box d=some cs):∃p,p (ρ.L d (fr.gen d))=.free/\WR T n B0 ρ F p {fr with box:=eO fr.box d none} H a w:=by
 obtain⟨D,y,E,vs,ty,G,I⟩:=h.box d cs x
 let p:Nat->mP:=eO R (ρ.L d (fr.gen d)) .free
 have i:∀b,R b≠ .box d->p b=R b:=by
  intro b f;show eO R (ρ.L d (fr.gen d)) .free b=R b;unfold eO;rw[bV];rintro rfl;exact f y
 refine⟨p,by show eO R _ _ _=_;simp[eO],⟨h.g,h.size,h.defers,h.env,h.hn,h.lg,h.ag,?_,?_,?_,?_,?_,h.oY⟩⟩
 ·intro r s l;simp only[eO] at l
  by_cases he:r=d
  ·subst he;simp at l
  ·rw[bV he] at l;obtain⟨t,q,u⟩:=h.box r s l;exact⟨t,by rw[i _ (by rw[q];simp[he])];exact q,u⟩
 ·intro k m z b c sz A;obtain⟨t,q,u⟩:=h.tok k m z b c sz A;exact⟨t,by rw[i _ (by rw[q];simp)];exact q,u⟩
 ·intro b j v B
  by_cases f:b=ρ.L d (fr.gen d)
  ·subst f;intro r;show eO R _ _ _≠_;simp[eO]
  ·have e:p b=R b:=by show eO R _ _ _=_;simp[eO,f]
   rw[e];exact h.oV b j v B
 ·intro o C;have:=h.mL o C;rw[i _ (by rw[this];simp)];exact this
 ·intro b f;have:=h.ki b f;rw[i _ (by rw[this];simp)];exact this
def fi.P6{F:js}{ρ:Maps}{cs:List AV}{vs:List Value}(h:fi (ir F ρ) cs vs):fi (eZ F ρ.G ρ.n) (cs.map AV.gA) vs:=h.tE AV.gA λ_ _ _ h=>h.gA
def WR.II(h:WR T n B0 ρ F R fr H a w){d len cap sz:Nat}{cs els:List AV}(z:fr.box d=some cs)(D:els.length=len)(hs:∀x∈els,x.cells.length=sz)
  (A:els.flatMap AV.cells=(cs.take (len*sz)).map AV.gA) (hle:len*sz<=cs.length) (E:len<=cap) (q:cap<=maxLen):∃F' r,uT F F' ρ ρ/\(∀b j,b<B0->F' b j=F b j)/\WR T n B0 ρ F' r {fr with box:=eO fr.box d none} H a w/\eZ F' ρ.G ρ.n (.slice .gY els) (.slice (some ⟨ρ.L d (fr.gen d),0,none⟩) len cap):=by
 obtain⟨P,I,B,vs,ty,J,s⟩:=h.box d cs z;obtain⟨r,i,hw⟩:=h.unbox z
 have hF:∀j,F (ρ.L d (fr.gen d)) j=none:=by
  intro j;cases K:F (ρ.L d (fr.gen d)) j with
  |none=>rfl|some v=>
   exact absurd I (h.oV _ j v K d)
 have M:vs.toList.length=cs.length:=s.length.symm
 have N:(vs.toList.take (len*sz)).length=len*sz:=by rw[xn];omega
 obtain⟨m,t⟩:=hw.freeze (us:=vs.toList.take (len*sz)) (k:=(vs.toList.take (len*sz)).length) i hF J (λu hu=>ia s B u hu) (by
  intro j v _ p;rw[E6] at p
  split at p
  ·simpa using p
  ·cases p)
 refine⟨_,r,m,λb j O=>rO VW,t,?_⟩
 have e:fi (eZ F ρ.G ρ.n) (els.flatMap AV.cells) (vs.toList.take (len*sz)):=by
  rw[A];exact(s.take (len*sz)).P6
 have C:=eZ.slice (F:=iX F (ρ.L d (fr.gen d)) (vs.toList.take (len*sz)).length (vs.toList.take (len*sz))) (G:=ρ.G) (n:=ρ.n) (tag:=.gY) (l:=els) (b:=ρ.L d (fr.gen d)) (o:=0)
  (base:=some ⟨ρ.L d (fr.gen d),0,none⟩) (cap:=cap) (sz:=sz) (vs:=vs.toList.take (len*sz)) (.nK (e.mono λ_ _ _ h=>h.grow m.g)) (uG _ _ _) (λ_=>rfl) hs (by
   intro c f;rw[A] at f
   exact vy (λc y=>B c (AF y)) c f) VW q (.inl rfl)
 rw[D] at C;exact C
def fA.acO{α:Type}{c:Code}{Q:Exit->Fr->cc->Prop}{f:α->AV}(t:Nat){L:List α}{k sz d g cap:Nat}(l:∀x,(f x).cells.length=sz)(o:∀x,(f x).cells.map AV.gA=(f x).cells)
  (he:fr.env t=.um d g L.length cap) (hg:g=fr.gen d) (C:fr.box d=some (iu f L k))
  (h:fA P T n c Q {fr with env:=eO fr.env t (.slice .gY (L.map f)),box:=eO fr.box d none} H):fA P T n c Q fr H:=by
 intro G0 F0 n0 w0 a w hs;refine h G0 F0 n0 w0 a w ?_;obtain⟨ρ,F,R,hw,q⟩:=hs;have m:=hw.env t;rw[he] at m;obtain⟨D,E,r,s⟩:=xY m
 have u:∀x∈L.map f,x.cells.length=sz:=by
  intro x q;obtain⟨y,_,rfl⟩:=ll.1 q;exact l y
 obtain⟨F',G,v,z,i,I⟩:=hw.II (els:=L.map f) (len:=L.length) (cap:=cap) (sz:=sz) C aas u (by rw[zr l];exact FN o L) (by rw[kO l];omega) r s;refine⟨ρ,F',G,⟨i.g,i.size,i.defers,?_,i.hn,i.lg,i.ag,i.box,i.tok,i.oV,i.mL,i.ki,i.oY⟩,?_⟩
 ·intro B;show eJ F' ρ (eO fr.env t (.slice .gY (L.map f)) B) _;simp only[eO]
  split
  ·rename_i e;subst e;rw[D,hg];exact .p I
  ·exact(hw.env B).grow v
 ·exact q.freeze λb j A=>z b j A
def fA.ab4{α:Type}{c:Code}{Q:Exit->Fr->cc->Prop}{f:α->AV}(d2 i:Nat){cs2:List AV}{L:List α}{k sz d g cap:Nat}(m:∀x,(f x).cells.length=sz)(t:∀x,(f x).cells.map AV.gA=(f x).cells)
  (v:d2≠d) (he:fr.box d2=some cs2) (hi:cs2[i]?=some (.um d g L.length cap)) (hg:g=fr.gen d) (V:fr.box d=some (iu f L k))
  (h:fA P T n c Q {fr with box:=eO (eO fr.box d none) d2 (some (cs2.set i (.slice .gY (L.map f))))} H):fA P T n c Q fr H:=by
 intro G0 F0 n0 w0 a w hs;refine h G0 F0 n0 w0 a w ?_;obtain⟨ρ,F,R,hw,z⟩:=hs;obtain⟨_,_,A,B,W,C,D⟩:=hw.box d2 cs2 he;obtain⟨u,hu,E⟩:=D.get hi;obtain⟨X,Y,G,I⟩:=xY (.cell E)
 have J:∀x∈L.map f,x.cells.length=sz:=by
  intro x z;obtain⟨y,_,rfl⟩:=ll.1 z;exact m y
 obtain⟨F',Z,aa,K,e,hp⟩:=hw.II (els:=L.map f) (len:=L.length) (cap:=cap) (sz:=sz) V aas J (by rw[zr m];exact FN t L) (by rw[kO m];omega) G I
 have M:({fr with box:=eO fr.box d none}:Fr).box d2=some cs2:=by simp[eO,v,he]
 refine⟨ρ,F',Z,⟨e.g,e.size,e.defers,e.env,e.hn,e.lg,e.ag,?_,e.tok,e.oV,e.mL,e.ki,e.oY⟩,?_⟩
 ·intro o N l;simp only[eO] at l
  by_cases q:o=d2
  ·subst q;simp only[if_true,uq] at l;subst l;obtain⟨e1,e2,e3,vs',r,U,e5⟩:=e.box o cs2 M;refine⟨e1,e2,?_,vs',r,U,?_⟩
   ·intro c hc;rcases List.mem_or_eq_of_mem_set hc with h'|h'
    ·exact e3 c h'
    ·rw[h'];rfl
   ·have O:vs'.toList=B.toList:=by
     have:w.heap[ρ.L o (fr.gen o)]?=some (.cells vs' r (0,0)):=U;rw[C] at this;injection this with this;injection this with this;rw[this]
    refine fi.KD e5 hi ?_;intro u' s;rw[O,hu] at s;obtain rfl:=fS s;rw[X,hg];exact .p hp
  ·simp only[bV q] at l;exact e.box o N (by simpa[eO] using l)
 ·exact z.freeze λb j S=>K b j S
end
end Go.jN
