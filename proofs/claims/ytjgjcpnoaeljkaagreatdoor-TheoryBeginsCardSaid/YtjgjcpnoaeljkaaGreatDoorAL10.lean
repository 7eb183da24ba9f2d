/- Part of the proof of TheoryBegins: layer. -/
import Derived.Test.YtjgjcpnoaeljkaaGreatDoorAL9
set_option linter.all false
namespace Go.kQ
open Go
mutual
def AV.low(k:Nat):AV->Bool
 |.undef=>true|.sc _=>true|.lD x=>x.low k|.gv _ _ _=>true|.eb o _=>decide (o<k)|.slice _ l=>AV.gH k l|.agg l=>AV.gH k l|.tuple l=>AV.gH k l|.func _ f c=>AV.gH k f&&AV.gH k c|.iface _ x=>x.low k|.vM _ _ _ _=>true|.kT o=>decide (o<k)|.qY o _ _ _=>decide (o<k)|.Oi=>true|.sW _ xs=>AV.gH k xs|.lU o _ _=>decide (o<k)
def AV.gH(k:Nat):List AV->Bool
 |[]=>true|x::l=>x.low k&&AV.gH k l
end
def AV.wJ{k:Nat}:∀{l:List AV},AV.gH k l=true↔∀x∈l,x.low k=true
 |[]=>by simp[AV.gH]|x::l=>by simp[AV.gH,AV.wJ (l:=l)]
def AV.J2{k:Nat}{x:AV}(h:x.low k=true):AV.gH k x.cells=true:=by
 cases x<;>simp_all [AV.low,AV.cells,AV.gH]
def AV.UM{k:Nat}{l:List AV}(h:AV.gH k l=true):AV.gH k (l.flatMap AV.cells)=true:=by
 rw[AV.wJ] at h|-;intro x a;obtain⟨y,hy,a⟩:=UK.1 a;exact AV.wJ.1 (AV.J2 (h y hy)) x a
@[simp] theorem AV.agL{α:Type}{k:Nat}(f:α->Value)(l:List α):AV.gH k (List.map (λn=>AV.sc (f n)) l)=true:=by
 rw[AV.wJ];intro x a;obtain⟨y,_,rfl⟩:=nj.1 a;rfl
section
variable{F:jo} {G:Nat->Nat} {n k:Nat}
mutual
def fD.lower:∀{x v},fD F G n x v->x.low k=true->fD F G k x v
 |_,_,.undef h,_=>.undef h|_,_,.sc h,_=>.sc h|_,_,.lD b c d,a=>.lD (b.lower (AV.J2 (by simpa[AV.low] using a))) c d|_,_,.eb h,a=>.eb (by simpa[AV.low] using a)|_,_,.kT h,a=>.kT (by simpa[AV.low] using a)|_,_,.qY h c d,a=>.qY (by simpa[AV.low] using a) c d|_,_,.slice b c d f i j l o,a=>.slice (b.lower (AV.UM (by simpa[AV.low] using a))) c d f i j l o|_,_,.Oi,_=>.Oi|_,_,.agg b c,a=>.agg (b.lower (by simpa[AV.low] using a)) c|_,_,.tuple b,a=>.tuple (b.lower (by simpa[AV.low] using a))|_,_,.func b c,a=>by
  simp only[AV.low,fK] at a;exact .func (b.lower a.1) (c.lower a.2)
 |_,_,.iface b,a=>.iface (b.lower (by simpa[AV.low] using a))
def fI.lower:∀{xs vs},fI F G n xs vs->AV.gH k xs=true->fI F G k xs vs
 |_,_,.nil,_=>.nil|_,_,.cons b c,a=>by
  simp only[AV.gH,fK] at a;exact .cons (b.lower a.1) (c.lower a.2)
end
end
def kD.lower{F:jo}{G:Nat->Nat}{n k:Nat}{cs ob}(h:kD F G n cs ob)(a:AV.gH k cs=true):kD F G k cs ob:=by
 cases h with
 |cells d b c=>exact .cells d ((fI.oC b).lower a).sY c|map b c f i j=>exact .map b ((fI.oC c).lower (by simpa[AV.gH,AV.low] using a)).sY f i j|iter h=>exact .iter (by simpa[AV.gH,AV.low] using a)|dead=>exact .dead
def ea.drop{P:Program}{T:dt}{f:FuncId}{args:List AV}{H:cZ}{Post Post':AV->cZ->Prop}(h:ea P T f args H Post)
  (A:∀r H',Post r H'->∃a X,H'=a++X/\H.length<=a.length/\r.low a.length=true/\(∀cs∈a,AV.gH a.length cs=true)/\Post' r a):ea P T f args H Post':=by
 refine⟨h.1,λG F w vs hg B=>(h.2 G F w vs hg B).mono ?_⟩;rintro e w' ⟨r,H',v,G',F',n,rfl,k,C,c⟩;obtain⟨a,X,rfl,hlen,D,q,I⟩:=A r H' n
 have l:∀b o v,F b o=some v->F' b o=some v:=by
  intro b o v s
  have hb:b<w.heap.size:=by
   rcases s8 b w.heap.size with hb|hb
   .exact hb
   .rw[hg.fresh b o hb] at s;cases s
  exact c.mF b o v hb s
 have i:∀o,o<a.length->o<(a++X).length:=λo d=>by rw[qj];omega
 refine⟨r,a,v,G',F',I,rfl,?_,C.lower D,?_⟩
 .refine⟨k.BQ,?_,λo o' d t=>k.inj o o' (i o d) (i o' t),λo j d u=>k.gF o j (i o d) (by rw[tJ d];exact u),k.fresh,λg x J=>?_,k.row⟩
  .intro o cs d;have y:o<a.length:=(mH.1 d).1;obtain⟨ob,K,L⟩:=k.j2 o cs (by rw[tJ y];exact d);exact⟨ob,K,L.lower (q cs (Gt d))⟩
  .exact(hg.x' g x J).grow ⟨l,hlen,λo d=>c.hG o d⟩
 .exact⟨c.os,c.tape,c.output,c.size,hlen,c.hG,λo n M=>c.Ih o n (i o M),c.hF,c.mF,c.heap⟩
end Go.kQ
namespace Go.kQ
open Go
def AV.BX{k:Nat}{x:AV}(h:AV.gH k x.cells=true):x.low k=true:=by
 cases x<;>simp_all [AV.low,AV.cells,AV.gH]
def AV.Ko{k:Nat}{l:List AV}(h:AV.gH k (l.flatMap AV.cells)=true):AV.gH k l=true:=by
 rw[AV.wJ] at h|-;intro x a;exact AV.BX (AV.wJ.2 λy hy=>h y (UK.2 ⟨x,a,hy⟩))
section
variable{F:jo} {G:Nat->Nat} {n:Nat}
mutual
def fD.uO:∀{x v},fD F G n x v->x.low n=true
 |_,_,.undef _=>rfl|_,_,.sc _=>rfl|_,_,.lD a _ _=>by simpa[AV.low] using AV.BX a.uO|_,_,.eb h=>by grind[AV.low]|_,_,.kT h=>by simpa[AV.low] using h|_,_,.qY h _ _=>by simpa[AV.low] using h|_,_,.slice a _ _ _ _ _ _ _=>by simpa[AV.low] using AV.Ko a.uO|_,_,.Oi=>rfl|_,_,.agg a _=>by simpa[AV.low] using a.uO|_,_,.tuple a=>by simpa[AV.low] using a.uO|_,_,.func a b=>by simp[AV.low,a.uO,b.uO]|_,_,.iface a=>by simpa[AV.low] using a.uO
def fI.uO:∀{xs vs},fI F G n xs vs->AV.gH n xs=true
 |_,_,.nil=>rfl|_,_,.cons a b=>by simp[AV.gH,a.uO,b.uO]
end
end
def kD.uO{F:jo}{G:Nat->Nat}{n:Nat}{cs ob}(h:kD F G n cs ob):AV.gH n cs=true:=by
 cases h with
 |cells c a b=>exact(fI.oC a).uO|map a b d f i=>simpa[AV.gH,AV.low] using(fI.oC b).uO|iter h=>grind[AV.gH,AV.low]|dead=>rfl
def ea.qT{P:Program}{T:dt}{f:FuncId}{args:List AV}{H:cZ}{Post Post':AV->cZ->Prop}(h:ea P T f args H Post)
  (d:∀r H',Post r H'->∃X,H'=H++X/\r.low H.length=true/\Post' r H):ea P T f args H Post':=by
 refine⟨h.1,λG F w vs hg i=>?_⟩
 have a:∀cs∈H,AV.gH H.length cs=true:=by
  intro cs b;obtain⟨o,j⟩:=Ye.1 b;obtain⟨ob,_,k⟩:=hg.j2 o cs j;exact k.uO
 exact(ea.drop (Post':=Post') h λr H' l=>by
  obtain⟨X,e,n,c⟩:=d r H' l
  exact⟨H,X,e,gV _,n,a,c⟩).2 G F w vs hg i
end Go.kQ
namespace Go.kQ
open Go Go.eZ
mutual
def AV.Hs{k n:Nat}(h:k<=n):∀{x:AV},x.low k=true->x.low n=true
 |.undef,_=>rfl|.sc _,_=>rfl|.lD x,a=>by simpa[AV.low] using AV.Hs h (x:=x) (by simpa[AV.low] using a)|.gv _ _ _,_=>rfl|.eb o _,a=>by simp[AV.low] at a|-;omega
 |.qY o _ _ _,a=>by simp[AV.low] at a|-;omega
 |.slice _ l,a=>by simpa[AV.low] using AV.qE h (l:=l) (by simpa[AV.low] using a)|.agg l,a=>by simpa[AV.low] using AV.qE h (l:=l) (by simpa[AV.low] using a)|.tuple l,a=>by simpa[AV.low] using AV.qE h (l:=l) (by simpa[AV.low] using a)|.func _ f c,a=>by
  simp only[AV.low,fK] at a|-;exact⟨AV.qE h a.1,AV.qE h a.2⟩
 |.iface _ x,a=>by simpa[AV.low] using AV.Hs h (x:=x) (by simpa[AV.low] using a)|.vM _ _ _ _,_=>rfl|.Oi,_=>rfl|.kT o,a=>by simp[AV.low] at a|-;omega
 |.sW _ l,a=>by simpa[AV.low] using AV.qE h (l:=l) (by simpa[AV.low] using a)|.lU o _ _,a=>by simp[AV.low] at a|-;omega
def AV.qE{k n:Nat}(h:k<=n):∀{l:List AV},AV.gH k l=true->AV.gH n l=true
 |[],_=>rfl|x::l,a=>by
  simp only[AV.gH,fK] at a|-;exact⟨AV.Hs h a.1,AV.qE h a.2⟩
end
def Sb{H:cZ}{o:Nat}{c:List AV}(h:H[o]?=some c):o<H.length:=(mH.1 h).1
theorem Jr{H:cZ}{o:Nat}{c:List AV}(h:H[o]?=some c):eR H o c=H:=by
 apply U9
 grind[eR]
def Inb(H:cZ)(o:Nat):Prop:=o<H.length
def en{H:cZ}{o:Nat}{c:List AV}(h:H[o]?=some c):Inb H o:=Sb h
@[simp] theorem aeC(H:cZ)(o o':Nat)(c:List AV):Inb (eR H o c) o'=Inb H o':=by simp[Inb]
def G4{H:cZ}{o:Nat}{c:List AV}(h:Inb H o):(eR H o c)[o]?=some c:=by simp[eR,show o<H.length from h]
def sF{H:cZ}{o o':Nat}{c:List AV}(h:o≠o'):(eR H o c)[o']?=H[o']?:=by grind[eR]
def SY{H:cZ}{o o':Nat}{c d e:List AV}(h:o≠o'):eR (eR (eR H o c) o' d) o e=eR (eR H o e) o' d:=by
 simp only[eR];rw[List.set_comm _ _ h.symm,List.set_set]
def Qp{A B:cZ}{o:Nat}(h:Inb A o):(A++B)[o]?=A[o]?:=tJ h
def Ob{A B:cZ}{o:Nat}{c:List AV}(h:Inb A o):eR (A++B) o c=eR A o c++B:=by simp[eR,List.set_append,show o<A.length from h]
def Gd{A B:cZ}{k i:Nat}(h:A.length=k):(A++B)[k+i]?=B[i]?:=by grind
def O3{A B:cZ}{k:Nat}(h:A.length=k):(A++B)[k]?=B[0]?:=Gd (i:=0) h
def DX{A B:cZ}{k i:Nat}{c:List AV}(h:A.length=k):eR (A++B) (k+i) c=A++eR B i c:=by grind[eR]
def MK{A B:cZ}{k:Nat}{c:List AV}(h:A.length=k):eR (A++B) k c=A++eR B 0 c:=DX (i:=0) h
@[simp] theorem acf(a:List AV)(l:cZ)(c:List AV):eR (a::l) 0 c=c::l:=rfl
@[simp] theorem adk(a:List AV)(l:cZ)(i:Nat)(c:List AV):eR (a::l) (i+1) c=a::eR l i c:=rfl
def Ur{H:cZ}{o:Nat}{c cs:List AV}(h:cs∈eR H o c):cs∈H\/cs=c:=by grind[eR]
def ea.IC{P:Program}{T:dt}{f:FuncId}{args:List AV}{H:cZ}{o:Nat}{c:List AV}{Post:AV->cZ->Prop}(h:H[o]?=some c)(a:ea P T f args (eR H o c) Post):ea P T f args H Post:=by grind[Jr]
structure y7 {S:Type} (st:S->cZ) (k:Nat):Prop where
 len:∀s,(st s).length=k
 low:∀s s' cs,cs∈st s'->cs∈st s\/AV.gH k cs=true
def y7.const{S:Type}(H:cZ):y7 (λ_:S=>H) H.length:=⟨λ_=>rfl,λ_ _ _ h=>.inl h⟩
def y7.ext{S:Type}{st:S->cZ}{k:Nat}(h:y7 st k)(X:cZ){n:Nat}(hn:k+X.length=n):y7 (λs=>st s++X) n:=by
 subst hn;refine⟨λs=>by rw[qj,h.len],λs a cs hc=>?_⟩;rcases rl.1 hc with hc|hc
 .rcases h.low s a cs hc with h1|h1
  .grind
  .exact .inr (AV.qE VW h1)
 .grind
def y7.Vc{S:Type}(H:cZ)(f:S->cZ)(n:Nat)(hn:∀s,(f s).length=n)(b:∀s a cs,cs∈f a->cs∈f s\/AV.gH (H.length+n) cs=true):y7 (λs=>H++f s) (H.length+n):=by
 refine⟨λs=>by rw[qj,hn],λs a cs c=>?_⟩
 grind
def ea.aaI{P:Program}{T:dt}{f:FuncId}{args:List AV}{H:cZ}{Post Post':AV->cZ->Prop}(h:ea P T f args H Post)
  (k:∀r H',Post r H'->∃a X,H'=a++X/\a.length=H.length/\r.low H.length=true/\(∀cs∈a,cs∈H\/AV.gH H.length cs=true)/\Post' r a):ea P T f args H Post':=by
 refine⟨h.1,λG F w vs hg d=>?_⟩
 have c:∀cs∈H,AV.gH H.length cs=true:=by
  intro cs b;obtain⟨o,i⟩:=Ye.1 b;obtain⟨ob,_,j⟩:=hg.j2 o cs i;exact j.uO
 refine(ea.drop (Post':=Post') h λr H' l=>?_).2 G F w vs hg d
 grind
def ea.ZG{P:Program}{T:dt}{f:FuncId}{args:List AV}{S:Type}{st:S->cZ}{k:Nat}(hF:y7 st k){s:S}{Post Post':AV->cZ->Prop}(h:ea P T f args (st s) Post)
  (c:∀r H',Post r H'->∃a X,H'=st a++X/\r.low k=true/\Post' r (st a)):ea P T f args (st s) Post':=
 ea.aaI h λr H' d=>by
  obtain⟨a,X,e,i,b⟩:=c r H' d;exact⟨st a,X,e,by rw[hF.len,hF.len],by rw[hF.len];exact i,λcs j=>by rw[hF.len];exact hF.low s a cs j,b⟩
@[simp] theorem afv(H:List (List AV))(o:Nat)(c:List AV):List.set H o c=eR H o c:=rfl
attribute [simp] G4 sF SY Qp Ob Gd O3 DX MK
end Go.kQ
namespace Go.kQ
open Go Go.eZ
def eP(P:Program)(T:dt)(E:List Nat)(opsA:Array Oper)(q:Qt):List Bool->List Oper->(Fr->cZ->Prop)->Fr->cZ->Prop
 |_,[],K,fr,H=>K fr H|[],o::rest,K,fr,H=>fY P T E opsA q true o (λfr H=>eP P T E opsA q [] rest K fr H) fr H|b::bs,o::rest,K,fr,H=>fY P T E opsA q b o (λfr H=>eP P T E opsA q bs rest K fr H) fr H
def IT{E:List Nat}{ops:Array Oper}{q:Qt}{P:Program}{T:dt}{K:Fr->cZ->Prop}(a:List Bool):∀(l:List Oper) (k:Nat) (fr:Fr) (H:cZ),l=ops.toList.drop k->eP P T E ops q (a.drop k) l K fr H->F7 P T E ops q (λi=>a.getD i true) (List.range' k l.length) K fr H:=by
 intro l
 induction l with
 |nil=>
  intro k fr H _ h;cases c:a.drop k<;>rw[c] at h<;>exact h
 |cons o l ih=>
  intro k fr H b h
  have d:k<ops.toList.length:=by
   rcases s8 k ops.toList.length with h'|h'
   .exact h'
   .rw[IB h'] at b;cases b
  have f:=KR d;rw[f] at b;injection b with s j
  have hi:ops[k]?=some o:=by grind
  simp only[kL,Y5,F7,hi]
  have n:a.getD k true=(a.drop k).headD true:=by
   simp only[List.getD,List.headD_eq_head?_getD,List.head?_drop]
  have r:a.drop (k+1)=(a.drop k).tail:=by rw[List.tail_drop]
  rw[n];refine AY (K:=λfr H=>eP P T E ops q (a.drop (k+1)) l K fr H) (λfr H h=>ih (k+1) fr H j h) ?_;rw[r];cases c:a.drop k<;>rw[c] at h<;>exact h
def fl.Y9{P:Program}{T:dt}{n:Nat}{Q:Exit->Fr->cZ->Prop}{fr:Fr}{H:cZ}{id:Nat}{ops:Array Oper}(E:List Nat)(q:Qt)(b:List Bool)(hm:P.follows .mixedOrders=true)(a:xB n ops=true)(c:we E ops (λi=>b.getD i true)=true)
  (h:eP P T E ops q b ops.toList (Q .normal) fr H):fl P T n (.region id ops true) Q fr H:=by
 refine fl.Nv E q (λi=>b.getD i true) hm a c ?_;have:=IT (P:=P) (T:=T) (E:=E) (ops:=ops) (q:=q) (K:=Q .normal) b ops.toList 0 fr H (by grind);rw[T6]
 grind
def jA(P:Program)(T:dt)(E:List Nat)(ops:Array Oper)(q:Qt)(bs:List Bool)(a:AV)(as:List AV)(d:Option Nat)(rest:List Oper)(K:Fr->cZ->Prop)(fr:Fr)(H:cZ):Prop:=
 if d.any E.contains then VZ P T q true a as d (eP P T E ops q bs rest K) fr H else∃r H',mi P T a as H r H'/\(QK q H H')/\eP P T E ops q bs rest K (fr.put d r) H'
def tK(P:Program)(T:dt)(E:List Nat)(ops:Array Oper)(q:Qt)(bs:List Bool)(a:AV)(as:List AV)(d:Option Nat)(rest:List Oper)(K:Fr->cZ->Prop)(fr:Fr)(H:cZ):Prop:=
 if d.any E.contains then VZ P T q false a as d (eP P T E ops q bs rest K) fr H else∃r H',mi P T a as H r H'/\eP P T E ops q bs rest K (fr.put d r) H'
section
variable{P:Program} {T:dt} {E:List Nat} {ops:Array Oper} {q:Qt} {bs:List Bool} {rest:List Oper} {K:Fr->cZ->Prop} {fr:Fr} {H H':cZ} {d:Option Nat} {ty:TypeId} {pos:String} {after:Array Edge}
def jA.val{a:AV}{as:List AV}{r:AV}(h:mi P T a as H r H')(b:QK q H H')(c:eP P T E ops q bs rest K (fr.put d r) H'):jA P T E ops q bs a as d rest K fr H:=by grind[jA,LA]
def tK.val{a:AV}{as:List AV}{r:AV}(h:mi P T a as H r H')(b:eP P T E ops q bs rest K (fr.put d r) H'):tK P T E ops q bs a as d rest K fr H:=by grind[tK,LA]
def jA.fn{g:FuncId}{as:List AV}{r:AV}(h:ds P T g as H r H')(a:QK q H H')(b:eP P T E ops q bs rest K (fr.put d r) H'):jA P T E ops q bs (.func (.func g) [] []) as d rest K fr H:=by
 refine jA.val ?_ a b;unfold mi mS;simp only[u7];exact h
def jA.Rb{g:FuncId}{b c as a:List AV}{r:AV}(f:b++as++c=a)(h:ds P T g a H r H')(i:QK q H H')(j:eP P T E ops q bs rest K (fr.put d r) H'):jA P T E ops q bs (.func (.func g) b c) as d rest K fr H:=by
 subst f;exact jA.val h i j
def tK.fn{g:FuncId}{as:List AV}{r:AV}(h:ds P T g as H r H')(a:eP P T E ops q bs rest K (fr.put d r) H'):tK P T E ops q bs (.func (.func g) [] []) as d rest K fr H:=by
 refine tK.val ?_ a;unfold mi mS;simp only[u7];exact h
@[simp] theorem ZQ{f:Operand}{as:Array Operand}{ts:Array TypeId}:eP P T E ops q (false::bs) ({dst:=d,op:=.call {callee:=.value f,args:=as,argTypes:=ts},type:=ty,pos:=pos,after:=after,guard:=none}::rest) K fr H=tK P T E ops q bs (ev T fr f) (as.toList.map λx=>(ev T fr x).norm) d rest K fr H:=by
 simp only[eP,fY,fW,oA,iY,lV,uI,oo,lS,fT,tK,oo,false_implies,N6]
@[simp] theorem adJ(bs:List Bool):eP P T E ops q bs [] K fr H=K fr H:=by cases bs<;>rfl
@[simp] theorem aan{t:TypeId}{x:Operand}:eP P T E ops q (false::bs) ({dst:=d,op:=.load t x,type:=ty,pos:=pos,after:=after,guard:=none}::rest) K fr H=if pK ops.toList x (ev T fr x)then(match sH P fr H t (ev T fr x)with|some v=>eP P T E ops q bs rest K (fr.put d v) H|none=>False)else False:=by
 simp only[eP,fY,fW,oA,iY,lV,uI,oo,lS,fT,mf,Bool.not_false,Bool.true_or,HR]
 split
 .rename_i v a
  split at a
  .rename_i b;rw[cS b,a]
  .cases a
 .rename_i a
  split at a
  .rename_i b;rw[cS b,a]
  .rename_i b;rw[cO b]
@[simp] theorem Y1{t:TypeId}{x y:Operand}:eP P T E ops q (false::bs) ({dst:=none,op:=.store t x y,type:=ty,pos:=pos,after:=after,guard:=none}::rest) K fr H=(Tf E q x (ev T fr x)/\pK ops.toList x (ev T fr x)=true/\kS P t (ev T fr x) (ev T fr y) (eP P T E ops q bs rest K) fr H):=by
 simp only[eP,fY,fW,oA,iY,lV,uI,oo,lS,fT,N6,oo,false_implies,if_true,DF]
@[simp] theorem abC{x:Operand}:eP P T E ops q (true::bs) ({dst:=d,op:=.move x,type:=ty,pos:=pos,after:=after,guard:=none}::rest) K fr H=eP P T E ops q bs rest K (fr.put d (ev T fr x)) H:=rfl
@[simp] theorem Zi{x:Operand}:eP P T E ops q (true::bs) ({dst:=d,op:=.assign x,type:=ty,pos:=pos,after:=after,guard:=none}::rest) K fr H=eP P T E ops q bs rest K (fr.put d (ev T fr x)) H:=rfl
@[simp] theorem aaE{t:TypeId}:eP P T E ops q (true::bs) ({dst:=d,op:=.alloc t,type:=ty,pos:=pos,after:=after,guard:=none}::rest) K fr H=match hS P t with|some z=>d.any E.contains=false/\ki E d z (eP P T E ops q bs rest K) fr H|none=>False:=by
 simp only[eP,fY,fW,oA,iY,lV,uI,oo,lS,fT,Y0];rfl
@[simp] theorem acP{t:TypeId}{x:Operand}:eP P T E ops q (true::bs) ({dst:=d,op:=.load t x,type:=ty,pos:=pos,after:=after,guard:=none}::rest) K fr H=if pK ops.toList x (ev T fr x)&&q.ok (ev T fr x)then(match sH P fr H t (ev T fr x)with|some v=>eP P T E ops q bs rest K (fr.put d v) H|none=>False)else False:=by
 simp only[eP,fY,fW,oA,iY,lV,uI,oo,lS,fT,mf,YM,RI]
 split
 .rename_i v a
  split at a
  .rename_i b;rw[cS b,a]
  .cases a
 .rename_i a
  split at a
  .rename_i b;rw[cS b,a]
  .rename_i b;rw[cO b]
@[simp] theorem Z9{t:TypeId}{x y:Operand}:eP P T E ops q (true::bs) ({dst:=none,op:=.store t x y,type:=ty,pos:=pos,after:=after,guard:=none}::rest) K fr H=(Tf E q x (ev T fr x)/\pK ops.toList x (ev T fr x)=true/\isL (ev T fr x)=true/\kS P t (ev T fr x) (ev T fr y) (eP P T E ops q bs rest K) fr H):=by
 simp only[eP,fY,fW,oA,iY,lV,uI,oo,lS,fT,Y0,N6,if_true,DF]
@[simp] theorem Sk{t n:Nat}{ps:Array (Nat×Operand)}:eP P T E ops q (true::bs) ({dst:=d,op:=.buildSlice t n ps,type:=ty,pos:=pos,after:=after,guard:=none}::rest) K fr H=if d.any E.contains then False else match me P t n (ps.toList.map λp=>(p.1,ev T fr p.2))with|some v=>eP P T E ops q bs rest K (fr.put d v) H|none=>False:=by
 simp only[eP,fY,fW,oA,iY,lV,uI,oo,lS,fT,mf]
 split
 .rename_i v a
  split at a
  .cases a
  .rename_i b;rw[cO b,a]
 .rename_i a
  split at a
  .rename_i b;rw[cS b]
  .rename_i b;rw[cO b,a]
@[simp] theorem Ys{t:TypeId}{x i:Operand}{ok:Bool}:eP P T E ops q (true::bs) ({dst:=d,op:=.lookup t x i ok,type:=ty,pos:=pos,after:=after,guard:=none}::rest) K fr H=if q.all then(match tv P H t (ev T fr x) (ev T fr i) ok with|some v=>eP P T E ops q bs rest K (fr.put d v) H|none=>False)else False:=by
 simp only[eP,fY,fW,oA,iY,lV,uI,oo,lS,fT,mf,YM,RI]
 split
 .rename_i v a
  split at a
  .rename_i b;rw[cS b,a]
  .cases a
 .rename_i a
  split at a
  .rename_i b;rw[cS b,a]
  .rename_i b;rw[cO b]
@[simp] theorem Yl{x y:Operand}{t d:Nat}:eP P T E ops q (true::bs) ({dst:=some d,op:=.call {callee:=.builtin .append,args:=#[x,y],argTypes:=#[t,t]},type:=ty,pos:=pos,after:=after,guard:=none}::rest) K fr H=if E.contains d then X8 P t (ev T fr x) (ev T fr y) d (eP P T E ops q bs rest K) fr H else Ay P t (ev T fr x) (ev T fr y) d (eP P T E ops q bs rest K) fr H:=by
 simp only[eP,fY,fW,oA,iY,lV,uI,oo,lS,fT,abP]
 split
 .rename_i a;first|exact Bb|(simp only[a,↓reduceIte];exact Bb)
 .rename_i a;first|exact Bj|(simp only[a,↓reduceIte];exact Bj)
@[simp] theorem abD{f:Operand}{as:Array Operand}{ts:Array TypeId}:eP P T E ops q (true::bs) ({dst:=d,op:=.call {callee:=.value f,args:=as,argTypes:=ts},type:=ty,pos:=pos,after:=after,guard:=none}::rest) K fr H=jA P T E ops q bs (ev T fr f) (as.toList.map λx=>(ev T fr x).norm) d rest K fr H:=by
 simp only[eP,fY,fW,oA,iY,lV,uI,oo,lS,fT,Y0,jA]
@[simp] theorem adB{as:Array Operand}{ts:Array TypeId}:eP P T E ops q (true::bs) ({dst:=d,op:=.call {callee:=.builtin .len,args:=as,argTypes:=ts},type:=ty,pos:=pos,after:=after,guard:=none}::rest) K fr H=match vw P T fr {callee:=.builtin .len,args:=as,argTypes:=ts}with|some v=>eP P T E ops q bs rest K (fr.put d v) H|none=>False:=rfl
@[simp] theorem adT{as:Array Operand}{ts:Array TypeId}:eP P T E ops q (true::bs) ({dst:=d,op:=.call {callee:=.builtin .max,args:=as,argTypes:=ts},type:=ty,pos:=pos,after:=after,guard:=none}::rest) K fr H=match vw P T fr {callee:=.builtin .max,args:=as,argTypes:=ts}with|some v=>eP P T E ops q bs rest K (fr.put d v) H|none=>False:=rfl
@[simp] theorem ach{c a b:Operand}:eP P T E ops q (true::bs) ({dst:=d,op:=.pick c a b,type:=ty,pos:=pos,after:=after,guard:=none}::rest) K fr H=match xq P T fr {dst:=d,op:=.pick c a b,type:=ty,pos:=pos,after:=after,guard:=none}with|some v=>eP P T E ops q bs rest K (fr.put d v) H|none=>False:=rfl
@[simp] theorem ZF{t:TypeId}{ps:Array (Nat×Operand)}:eP P T E ops q (true::bs) ({dst:=d,op:=.build t ps,type:=ty,pos:=pos,after:=after,guard:=none}::rest) K fr H=match Dj P t (ps.toList.map λp=>(p.1,ev T fr p.2))with|some v=>eP P T E ops q bs rest K (fr.put d v) H|none=>False:=rfl
@[simp] theorem aaF{o:BinOp}{t u:TypeId}{x y:Operand}:eP P T E ops q (true::bs) ({dst:=d,op:=.binOp o t x y u,type:=ty,pos:=pos,after:=after,guard:=none}::rest) K fr H=match FL P o t y (ev T fr x) (ev T fr y)with|some v=>eP P T E ops q bs rest K (fr.put d v) H|none=>False:=rfl
@[simp] theorem abp{o:UnOp}{t:TypeId}{x:Operand}:eP P T E ops q (true::bs) ({dst:=d,op:=.unOp o t x,type:=ty,pos:=pos,after:=after,guard:=none}::rest) K fr H=match unA o (ev T fr x)with|some v=>eP P T E ops q bs rest K (fr.put d v) H|none=>False:=rfl
@[simp] theorem Tv{t i:Nat}{x:Operand}:eP P T E ops q (true::bs) ({dst:=d,op:=.fieldAddr t x i,type:=ty,pos:=pos,after:=after,guard:=none}::rest) K fr H=match qt P t (ev T fr x) i with|some v=>eP P T E ops q bs rest K (fr.put d v) H|none=>False:=rfl
@[simp] theorem TA{t:TypeId}{x i:Operand}:eP P T E ops q (true::bs) ({dst:=d,op:=.indexAddr t x i,type:=ty,pos:=pos,after:=after,guard:=none}::rest) K fr H=match ft P t (ev T fr x) (ev T fr i)with|some v=>eP P T E ops q bs rest K (fr.put d v) H|none=>False:=rfl
@[simp] theorem ZZ{t:TypeId}{x:Operand}{lo hi a:Option Operand}:eP P T E ops q (true::bs) ({dst:=d,op:=.slice t x lo hi a,type:=ty,pos:=pos,after:=after,guard:=none}::rest) K fr H=match la P t (ev T fr x) (lo.map (ev T fr)) (hi.map (ev T fr)) (a.map (ev T fr))with|some v=>eP P T E ops q bs rest K (fr.put d v) H|none=>False:=rfl
@[simp] theorem Xs{i:Nat}{x:Operand}:eP P T E ops q (true::bs) ({dst:=d,op:=.extract x i,type:=ty,pos:=pos,after:=after,guard:=none}::rest) K fr H=match xq P T fr {dst:=d,op:=.extract x i,type:=ty,pos:=pos,after:=after,guard:=none}with|some v=>eP P T E ops q bs rest K (fr.put d v) H|none=>False:=rfl
@[simp] theorem VL{x:Operand}:eP P T E ops q (true::bs) ({dst:=d,op:=.nilCheck x,type:=ty,pos:=pos,after:=after,guard:=none}::rest) K fr H=match xq P T fr {dst:=d,op:=.nilCheck x,type:=ty,pos:=pos,after:=after,guard:=none}with|some v=>eP P T E ops q bs rest K (fr.put d v) H|none=>False:=rfl
@[simp] theorem aao{op:Op}{j:Nat}{want:Bool}:eP P T E ops q (true::bs) ({dst:=d,op:=op,type:=ty,pos:=pos,after:=after,guard:=some (j,want)}::rest) K fr H=match(ops[j]?).bind (·.dst)with
  |some g=>match fr.env g with
   |.sc (.bool b)=>if b=want then eP P T E ops q (true::bs) ({dst:=d,op:=op,type:=ty,pos:=pos,after:=after,guard:=none}::rest) K fr H else eP P T E ops q bs rest K (fr.put d (.tuple [])) H|.tuple _=>eP P T E ops q bs rest K (fr.put d (.tuple [])) H|_=>False
  |none=>False:=by
 simp only[eP,fY,fW]
 cases a:(ops[j]?).bind (·.dst)with
 |none=>rfl|some g=>
  simp only;cases he:fr.env g with
  |sc v=>
   cases v with
   |bool b=>
    simp only
    by_cases hw:b=want
    .subst hw;simp only[beq_self_eq_true,if_true];rfl
    .rw[cO hw]
     have:(b==want)=false:=by simpa using hw
     rw[this]
   |_=>rfl
  |_=>rfl
end
end Go.kQ
namespace Go.kQ
open Go Go.eZ
def nC(k:Nat):Option Nat->AV
 |none=>.sc (.pointer none)|some p=>.eb (k+p) 0
@[simp] theorem afM(k:Nat):nC k none=.sc (.pointer none):=rfl
@[simp] theorem afP(k p:Nat):nC k (some p)=.eb (k+p) 0:=rfl
@[simp] theorem agv(k:Nat)(x:Option Nat):(nC k x).fL=true:=by cases x<;>rfl
@[simp] theorem adK(k:Nat)(x:Option Nat):(nC k x).cells=[nC k x]:=by cases x<;>rfl
@[simp] theorem ahM(k:Nat)(x:Option Nat):er (nC k x)=true:=by cases x<;>rfl
@[simp] theorem aer(k:Nat)(x:Option Nat):(nC k x).norm=nC k x:=by cases x<;>rfl
@[simp] theorem adR(k:Nat)(x:Option Nat):(nC k x).kj=nC k x:=by cases x<;>rfl
@[simp] theorem afs(P:Program)(ty:TypeId)(k:Nat)(x:Option Nat):qH P ty (nC k x)=match eA P ty with|some (false,_)=>true|_=>false:=by
 cases x with
 |none=>exact YH P ty _|some p=>exact S9 P ty _ _
def vn{C:Type}(c:Nat->C->List AV)(k:Nat)(l:List C):cZ:=l.map (c k)
@[simp] theorem Zw{C:Type}(c:Nat->C->List AV)(k:Nat)(l:List C):(vn c k l).length=l.length:=by simp[vn]
@[simp] theorem adv{C:Type}(c:Nat->C->List AV)(k:Nat)(l:List C)(p:Nat):(vn c k l)[p]?=(l[p]?).map (c k):=by simp[vn]
def oV{C:Type}{c:Nat->C->List AV}{k:Nat}{l:List C}{p:Nat}{x:C}{cs:List AV}(h:cs=c k x):eR (vn c k l) p cs=vn c k (l.set p x):=by
 subst h;simp only[eR,vn,List.map_set]
def Jl{C:Type}{c:Nat->C->List AV}{k:Nat}{l:List C}{x:C}{cs:List AV}(h:cs=c k x):vn c k l++[cs]=vn c k (l++[x]):=by
 subst h;simp[vn]
def vx{C:Type}{l:List C}{p:Nat}{x y:C}(h:l[p]?=some y):(l.set p x)[p]?=some x:=by
 have:p<l.length:=(mH.1 h).1;simp[this]
def Ru{C:Type}{l:List C}{x:C}:(l++[x])[l.length]?=some x:=acZ
def ea.nh0{C:Type}{c:Nat->C->List AV}{P:Program}{T:dt}{f:FuncId}{args:List AV}{H:cZ}{Post:AV->cZ->Prop}(h:ea P T f args (H++vn c H.length []) Post):ea P T f args H Post:=by
 simpa[vn] using h
section
variable{P:Program} {t e:TypeId} {k:Nat} {x:Option Nat}
def Vz(hu:P.underlying t=some (.pointer e)):kK P .eql t (nC k x) (.sc (.pointer none))=some (.sc (.bool x.isNone)):=by
 cases x<;>simp[kK,ot,hu]
def Wm(hu:P.underlying t=some (.pointer e)):kK P .neq t (nC k x) (.sc (.pointer none))=some (.sc (.bool x.isSome)):=by
 cases x<;>simp[kK,ot,hu]
end
end Go.kQ
namespace Go.kQ
open Go Go.eZ
def tz{α:Type}(f:α->AV)(L:List α)(k:Nat):List AV:=(L.map f).flatMap AV.cells++wo k
@[irreducible] def LU(i sz:Nat):Nat:=i*sz
theorem FG(i sz:Nat):LU i sz=i*sz:=by unfold LU;rfl
section
variable{α:Type} {f:α->AV} {L:List α} {k sz:Nat}
theorem q9(h:∀x,(f x).cells.length=sz)(L:List α):((L.map f).flatMap AV.cells).length=L.length*sz:=by
 rw[ns (sz:=sz)]
 all_goals grind
def vu(h:∀x,(f x).cells.length=sz):(tz f L k).length=L.length*sz+k:=by grind[tz,q9,wo]
theorem zD(h:∀x,(f x).cells.length=sz):(tz f L k).take (L.length*sz)=(L.map f).flatMap AV.cells:=by grind[tz,q9]
def U7(h:∀x,(f x).cells.length=sz){i:Nat}{y:α}(hi:i<L.length):setCells (tz f L k) (i*sz) (f y).cells=tz f (L.set i y) k:=by
 unfold setCells tz;have hlen:=q9 h L
 have hle:i*sz+sz<=L.length*sz:=by
  rw[<-R1];exact Gg _ hi
 rw[h y,ac9 VW,List.drop_append_of_le_length VW,<-tD]
 congr 1
 have a:L.set i y=L.take i++y::L.drop (i+1):=aej▸(by rw[cS hi]);rw[a,List.map_append,Dk,WL,GA]
 have hm:∀x∈L.map f,x.cells.length=sz:=by grind
 have b:i*sz+sz=(i+1)*sz:=by rw[R1]
 rw[b,<-Cv hm,<-xa hm,List.map_take,List.map_drop,tD]
end
def Ht{α:Type}{f:α->AV}(a:∀x,(f x).cells.map AV.kj=(f x).cells)(L:List α):(L.map f).flatMap AV.cells=((L.map f).flatMap AV.cells).map AV.kj:=by
 induction L with
 |nil=>rfl|cons x L ih=>grind
def rf.aaZ{P:Program}{t e sz d:Nat}{s x:AV}{K:Fr->cZ->Prop}{fr:Fr}{H:cZ}{α:Type}{f:α->AV}(m:List α){b:Tag}
  (c:mO P t=some (e,sz)) (h:∃n,hS P e=some n) (i:∀x,(f x).cells.length=sz) (hlen:xW m=true) (hs:s=.slice .full []) (q:x=.slice b (m.map f))
  (r:∀cap,m.length<=cap->K {fr with env:=fP fr.env d (.vM d (fr.gen d+1) m.length cap),box:=fP fr.box d (some (tz f m ((cap-m.length)*sz))),gen:=fP fr.gen d (fr.gen d+1)} H):rf P t s x d K fr H:=by
 subst hs;subst q
 have o:0<m.length/\m.length<=lim:=by simpa[xW] using hlen
 have j:∀l:List α,kJ sz (l.map f)=true:=λl=>by cases l with|nil=>rfl|cons a l=>simp[i]
 obtain⟨n,h⟩:=h;refine .inl (.inr ?_);unfold Vb;rw[c];refine⟨j m,by rw[h];rfl,by simpa using o.1,rfl,by simpa[jm,lim] using o.2,λcap u=>?_⟩
 have k:m.length<=cap:=by simpa using u
 have:=r cap k;simp only[xp,oE,uz,tg,A1];exact this
theorem rf.lv{P:Program}{t e sz d:Nat}{s x:AV}{K:Fr->cZ->Prop}{fr:Fr}{H:cZ}{α:Type}{f:α->AV}(L m:List α){cap:Nat}{n:Tag}
  (q:mO P t=some (e,sz)) (r:∃A,hS P e=some A) (c:∀x,(f x).cells.length=sz) (hlen:eO L m=true) (hm:0<m.length) (hs:s=.vM d (fr.gen d) L.length cap) (C:x=.slice n (m.map f))
  (D:fr.box d=some (tz f L ((cap-L.length)*sz))) (u:L.length<=cap)
  (F:∀B b,(fu L m).length<=b->K {fr with env:=fP fr.env d (.vM d B (fu L m).length b),box:=fP fr.box d (some (tz f (fu L m) ((b-(fu L m).length)*sz))),gen:=fP fr.gen d B} H):rf P t s x d K fr H:=by
 subst hs;subst C;have G:L.length+m.length<=lim:=MP hlen
 have v:∀l:List α,kJ sz (l.map f)=true:=λl=>by cases l with|nil=>rfl|cons a l=>simp[c]
 obtain⟨A,r⟩:=r;have w:=q9 c L;have y:=q9 c m;have i:(fu L m).length=L.length+m.length:=Ea L m
 have k:(L.map f).flatMap AV.cells++(m.map f).flatMap AV.cells=((fu L m).map f).flatMap AV.cells:=by simp[fu]
 refine .inl (.inr ?_);unfold Vb;rw[q];refine⟨v m,by rw[r];rfl,by simpa using hm,rfl,by simpa[jm,lim] using G,?_⟩;rw[D];simp only[A1];refine⟨?_,λI=>?_,λb N O=>?_⟩
 .rw[vu c,Nat.sub_mul];have:=Gg sz u;omega
 .have o:=F (fr.gen d) cap (by rw[i];exact I)
  have J:fP fr.gen d (fr.gen d)=fr.gen:=by
   funext j
   simp only[fP]
   split
   .rename_i h;rw[h]
   .rfl
  have M:setCells (tz f L ((cap-L.length)*sz)) (L.length*sz) ((m.map f).flatMap AV.cells)=tz f (fu L m) ((cap-(fu L m).length)*sz):=by
   unfold setCells;rw[zD c];unfold tz;rw[<-k,acs,IB VW,oE,w,y,i]
   have:L.length*sz+m.length*sz-L.length*sz=m.length*sz:=VW
   rw[this];unfold wo;rw[List.drop_replicate,<-Nat.sub_mul,Nat.sub_sub]
  rw[J,<-M,i] at o;exact o
 .grind[tz,AV.cells,wo,fu,zD,xp]
@[simp] theorem aev{P:Program}{t:TypeId}{b g n c:Nat}:B1 P t (.vM b g n c)=match P.underlying t with|some (.slice _)=>some (.sc (.int .i64 n))|some (.array n _)=>some (.sc (.int .i64 n))|_=>none:=by
 unfold B1;cases P.underlying t with
 |none=>rfl|some y=>grind
@[simp] theorem VI{P:Program}{t:TypeId}{k:IntKind}{a:Int}{b g n c:Nat}:ft P t (.vM b g n c) (.sc (.int k a))=match P.underlying t with
  |some (.slice e)=>match eA P e with
   |some (_,sz)=>if 0<=a/\a<(n:Int)then some (.gv b g (LU a.toNat sz))else none|none=>none
  |_=>none:=by
 unfold ft;simp only[FG];cases P.underlying t with
 |none=>rfl|some y=>cases y<;>rfl
def zd(P:Program)(t:TypeId)(b g i sz:Nat)(v:AV)(K:Fr->cZ->Prop)(fr:Fr)(H:cZ):Prop:=kS P t (.gv b g (LU i sz)) v K fr H
@[simp high] theorem Z_{P:Program}{t:TypeId}{b g i sz:Nat}{v:AV}{K:Fr->cZ->Prop}{fr:Fr}{H:cZ}:kS P t (.gv b g (LU i sz)) v K fr H=zd P t b g i sz v K fr H:=rfl
def zd.arr{P:Program}{t:TypeId}{b g sz k:Nat}{a:Int}{bl:Bool}{v:AV}{K:Fr->cZ->Prop}{fr:Fr}{H:cZ}{α:Type}{f:α->AV}{L:List α}{x:α}(y:α)(i:eA P t=some (bl,sz))(c:∀x,(f x).cells.length=sz)
  (h:er (f y)=true) (hi:dg L a=some x) (hg:g=fr.gen b) (j:fr.box b=some (tz f L k)) (l:v=f y) (n:K {fr with box:=fP fr.box b (some (tz f (wF L a y) k))} H):zd P t b g a.toNat sz v K fr H:=by
 subst l;have hi':=Mg hi;have d:=(mH.1 hi').1
 have hle:a.toNat*sz+sz<=L.length*sz:=by
  rw[<-R1];exact Gg _ d
 unfold zd;simp only[kS,i,j];refine⟨hg,c y,by rw[FG,vu c];omega,h,?_⟩;rw[FG,U7 c d];exact n
def fV.N'{α β:Type}{R:α->β->Prop}:∀{as:List α} {bs:List β} {i:Nat} {a0 a:α},fV R as bs->as[i]?=some a0->(∀b,bs[i]?=some b->R a b)->fV R (as.set i a) bs
 |_,_,_,_,_,.nil,h,_=>by simp at h
 |_,_,0,_,_,.cons d c,_,h=>.cons (h _ rfl) c|_,_,i+1,_,_,.cons d c,f,h=>.cons d (fV.N' c (by simpa using f) (λb j=>h b (by simpa using j)))
section
variable{P:Program} {T:dt} {n B0:Nat} {ρ:Maps} {F:jo} {R:Nat->np} {fr:Fr} {H:cZ} {a:Act} {w:World}
def WR.unbox(h:WR T n B0 ρ F R fr H a w){d:Nat}{cs:List AV}(y:fr.box d=some cs):∃q,q (ρ.L d (fr.gen d))=.free/\WR T n B0 ρ F q {fr with box:=fP fr.box d none} H a w:=by
 obtain⟨G,I,J,vs,ty,K,M⟩:=h.box d cs y
 let q:Nat->np:=fP R (ρ.L d (fr.gen d)) .free
 have f:∀b,R b≠ .box d->q b=R b:=by grind[fP]
 refine⟨q,by show fP R _ _ _=_;simp[fP],⟨h.g,h.size,h.defers,h.env,h.hn,h.lg,h.ag,?_,?_,?_,?_,?_,h.qq⟩⟩
 .intro s t i;simp only[fP] at i
  by_cases he:s=d
  .subst he;simp at i
  .rw[cO he] at i;obtain⟨u,r,x⟩:=h.box s t i;exact⟨u,by rw[f _ (by rw[r];simp[he])];exact r,x⟩
 .intro k m A b c sz B;obtain⟨u,r,x⟩:=h.tok k m A b c sz B;exact⟨u,by rw[f _ (by rw[r];simp)];exact r,x⟩
 .intro b j v C
  by_cases l:b=ρ.L d (fr.gen d)
  .subst l;intro s;show fP R _ _ _≠_;simp[fP]
  .have e:q b=R b:=by show fP R _ _ _=_;simp[fP,l]
   rw[e];exact h.qN b j v C
 .intro o D;have:=h.ni o D;rw[f _ (by rw[this];simp)];exact this
 .intro b l;have:=h.k9 b l;rw[f _ (by rw[this];simp)];exact this
def fV.RT{F:jo}{ρ:Maps}{cs:List AV}{vs:List Value}(h:fV (iF F ρ) cs vs):fV (fD F ρ.G ρ.n) (cs.map AV.kj) vs:=h.vX AV.kj λ_ _ _ h=>h.kj
def WR.Jx(h:WR T n B0 ρ F R fr H a w){d len cap sz:Nat}{cs els:List AV}(D:fr.box d=some cs)(M:els.length=len)(hs:∀x∈els,x.cells.length=sz)
  (I:els.flatMap AV.cells=(cs.take (len*sz)).map AV.kj) (hle:len*sz<=cs.length) (N:len<=cap) (t:cap<=maxLen):∃F' y,tp F F' ρ ρ/\(∀b j,b<B0->F' b j=F b j)/\WR T n B0 ρ F' y {fr with box:=fP fr.box d none} H a w/\fD F' ρ.G ρ.n (.slice .iB els) (.slice (some ⟨ρ.L d (fr.gen d),0,none⟩) len cap):=by
 obtain⟨V,O,J,vs,ty,P,A⟩:=h.box d cs D;obtain⟨y,q,hw⟩:=h.unbox D
 have hF:∀j,F (ρ.L d (fr.gen d)) j=none:=by
  intro j;cases Q:F (ρ.L d (fr.gen d)) j with
  |none=>rfl|some v=>
   exact absurd O (h.qN _ j v Q d)
 have S:vs.toList.length=cs.length:=A.length.symm
 obtain⟨r,B⟩:=hw.freeze (us:=vs.toList.take (len*sz)) (k:=(vs.toList.take (len*sz)).length) q hF P (λu hu=>iQ A J u hu) (by
  intro j v _ s;rw[NB] at s
  split at s
  .simpa using s
  .cases s)
 refine⟨_,y,r,λb j U=>ll VW,B,?_⟩
 have f:fV (fD F ρ.G ρ.n) (els.flatMap AV.cells) (vs.toList.take (len*sz)):=by
  rw[I];exact(A.take (len*sz)).RT
 have K:=fD.slice (F:=iw F (ρ.L d (fr.gen d)) (vs.toList.take (len*sz)).length (vs.toList.take (len*sz))) (G:=ρ.G) (n:=ρ.n) (tag:=.iB) (l:=els) (b:=ρ.L d (fr.gen d)) (o:=0)
  (base:=some ⟨ρ.L d (fr.gen d),0,none⟩) (cap:=cap) (sz:=sz) (vs:=vs.toList.take (len*sz)) (.oC (f.mono λ_ _ _ h=>h.grow r.g)) (ve _ _ _) (λ_=>rfl) hs (by
   intro c i;rw[I] at i
   exact zK (λc C=>J c (z8 C)) c i) VW t (.inl rfl)
 rw[M] at K;exact K
def fl.ae1{α:Type}{c:Code}{Q:Exit->Fr->cZ->Prop}{f:α->AV}(t:Nat){L:List α}{k sz d g cap:Nat}(l:∀x,(f x).cells.length=sz)(q:∀x,(f x).cells.map AV.kj=(f x).cells)
  (he:fr.env t=.vM d g L.length cap) (hg:g=fr.gen d) (C:fr.box d=some (tz f L k))
  (h:fl P T n c Q {fr with env:=fP fr.env t (.slice .iB (L.map f)),box:=fP fr.box d none} H):fl P T n c Q fr H:=by
 intro G0 F0 n0 w0 a w hs;refine h G0 F0 n0 w0 a w ?_;obtain⟨ρ,F,R,hw,D⟩:=hs;have o:=hw.env t;rw[he] at o;obtain⟨G,I,r,s⟩:=yx o
 have u:∀x∈L.map f,x.cells.length=sz:=by grind
 obtain⟨F',J,v,y,i,K⟩:=hw.Jx (els:=L.map f) (len:=L.length) (cap:=cap) (sz:=sz) C acZ u (by rw[zD l];exact Ht q L) (by rw[vu l];omega) r s;refine⟨ρ,F',J,⟨i.g,i.size,i.defers,?_,i.hn,i.lg,i.ag,i.box,i.tok,i.qN,i.ni,i.k9,i.qq⟩,?_⟩
 .intro B;show fx F' ρ (fP fr.env t (.slice .iB (L.map f)) B) _;simp only[fP]
  split
  .rename_i e;subst e;rw[G,hg];exact .p K
  .exact(hw.env B).grow v
 .exact D.freeze λb j A=>y b j A
def fl.ahk{α:Type}{c:Code}{Q:Exit->Fr->cZ->Prop}{f:α->AV}(d2 i:Nat){cs2:List AV}{L:List α}{k sz d g cap:Nat}(q:∀x,(f x).cells.length=sz)(t:∀x,(f x).cells.map AV.kj=(f x).cells)
  (v:d2≠d) (he:fr.box d2=some cs2) (hi:cs2[i]?=some (.vM d g L.length cap)) (hg:g=fr.gen d) (X:fr.box d=some (tz f L k))
  (h:fl P T n c Q {fr with box:=fP (fP fr.box d none) d2 (some (cs2.set i (.slice .iB (L.map f))))} H):fl P T n c Q fr H:=by
 intro G0 F0 n0 w0 a w hs;refine h G0 F0 n0 w0 a w ?_;obtain⟨ρ,F,R,hw,A⟩:=hs;obtain⟨_,_,B,C,Y,Z,D⟩:=hw.box d2 cs2 he;obtain⟨u,hu,G⟩:=D.get hi;obtain⟨hv,ad,I,J⟩:=yx (.cell G)
 have K:∀x∈L.map f,x.cells.length=sz:=by
  intro x A;obtain⟨y,_,rfl⟩:=nj.1 A;exact q y
 obtain⟨F',R',ae,M,l,hp⟩:=hw.Jx (els:=L.map f) (len:=L.length) (cap:=cap) (sz:=sz) X acZ K (by rw[zD q];exact Ht t L) (by rw[vu q];omega) I J
 have N:({fr with box:=fP fr.box d none}:Fr).box d2=some cs2:=by simp[fP,v,he]
 refine⟨ρ,F',R',⟨l.g,l.size,l.defers,l.env,l.hn,l.lg,l.ag,?_,l.tok,l.qN,l.ni,l.k9,l.qq⟩,?_⟩
 .intro O S o;simp only[fP] at o
  by_cases r:O=d2
  .subst r;simp only[if_true,u9] at o;subst o;obtain⟨e1,e2,e3,vs',U,e4,e5⟩:=l.box O cs2 N;refine⟨e1,e2,?_,vs',U,e4,?_⟩
   .intro c hc;rcases List.mem_or_eq_of_mem_set hc with h'|h'
    .exact e3 c h'
    .rw[h'];rfl
   .have V:vs'.toList=C.toList:=by
     grind
    refine fV.N' e5 hi ?_;intro u' s;rw[V,hu] at s;obtain rfl:=fU s;rw[hv,hg];exact .p hp
  .simp only[cO r] at o;exact l.box O S (by simpa[fP] using o)
 .exact A.freeze λb j W=>M b j W
end
end Go.kQ
