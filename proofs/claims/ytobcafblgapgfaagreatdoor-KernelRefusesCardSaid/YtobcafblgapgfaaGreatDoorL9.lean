/- Part of the proof of KernelRefuses: layer. -/
import Derived.Test.YtobcafblgapgfaaGreatDoorL8
set_option linter.all false
namespace Go.nd
open Go
mutual
def AV.low(k:Nat):AV->Bool
 |.undef=>true|.sc _=>true|.nr x=>x.low k|.eD _ _ _=>true|.fT o _=>decide (o<k)|.slice _ l=>AV.jj k l|.agg l=>AV.jj k l|.tuple l=>AV.jj k l|.func _ f c=>AV.jj k f&&AV.jj k c|.iface _ x=>x.low k|.xe _ _ _ _=>true|.om o=>decide (o<k)|.zo o _ _ _=>decide (o<k)|.tR _ xs=>AV.jj k xs|.nt o _ _=>decide (o<k)
def AV.jj(k:Nat):List AV->Bool
 |[]=>true|x::l=>x.low k&&AV.jj k l
end
def AV.xK{k:Nat}:∀{l:List AV},AV.jj k l=true↔∀x∈l,x.low k=true
 |[]=>by simp[AV.jj]|x::l=>by simp[AV.jj,AV.xK (l:=l)]
def AV.Jw{k:Nat}{x:AV}(h:x.low k=true):AV.jj k x.cells=true:=by
 cases x<;>simp_all [AV.low,AV.cells,AV.jj]
def AV.RQ{k:Nat}{l:List AV}(h:AV.jj k l=true):AV.jj k (l.flatMap AV.cells)=true:=by
 rw[AV.xK] at h|-;intro x a;obtain⟨y,hy,a⟩:=Qi.1 a;exact AV.xK.1 (AV.Jw (h y hy)) x a
@[simp] theorem AV.abe{α:Type}{k:Nat}(f:α->Value)(l:List α):AV.jj k (List.map (λn=>AV.sc (f n)) l)=true:=by
 rw[AV.xK];intro x a;obtain⟨y,_,rfl⟩:=oi.1 a;rfl
section
variable{F:lN} {G:Nat->Nat} {n k:Nat}
mutual
def ic.lower:∀{x v},ic F G n x v->x.low k=true->ic F G k x v
 |_,_,.undef h,_=>.undef h|_,_,.sc h,_=>.sc h|_,_,.nr b c d,a=>.nr (b.lower (AV.Jw (by simpa[AV.low] using a))) c d|_,_,.fT h,a=>.fT (by simpa[AV.low] using a)|_,_,.om h,a=>.om (by simpa[AV.low] using a)|_,_,.zo h c d,a=>.zo (by simpa[AV.low] using a) c d|_,_,.slice b c d e f g i j,a=>.slice (b.lower (AV.RQ (by simpa[AV.low] using a))) c d e f g i j|_,_,.agg b c,a=>.agg (b.lower (by simpa[AV.low] using a)) c|_,_,.tuple b,a=>.tuple (b.lower (by simpa[AV.low] using a))|_,_,.func b c,a=>by
  simp only[AV.low,gO] at a;exact .func (b.lower a.1) (c.lower a.2)
 |_,_,.iface b,a=>.iface (b.lower (by simpa[AV.low] using a))
def hV.lower:∀{xs vs},hV F G n xs vs->AV.jj k xs=true->hV F G k xs vs
 |_,_,.nil,_=>.nil|_,_,.cons b c,a=>by
  simp only[AV.jj,gO] at a;exact .cons (b.lower a.1) (c.lower a.2)
end
end
def mq.lower{F:lN}{G:Nat->Nat}{n k:Nat}{cs d}(h:mq F G n cs d)(a:AV.jj k cs=true):mq F G k cs d:=by
 cases h with
 |cells e b c=>exact .cells e ((hV.pQ b).lower a).uN c|map b c f g i=>exact .map b ((hV.pQ c).lower (by simpa[AV.jj,AV.low] using a)).uN f g i|iter h=>exact .iter (by simpa[AV.jj,AV.low] using a)|dead=>exact .dead
def fQ.drop{P:Program}{T:fh}{f:FuncId}{args:List AV}{H:eB}{Post Post':AV->eB->Prop}(h:fQ P T f args H Post)
  (u:∀r H',Post r H'->∃a X,H'=a++X/\H.length<=a.length/\r.low a.length=true/\(∀cs∈a,AV.jj a.length cs=true)/\Post' r a):fQ P T f args H Post':=by
 refine⟨h.1,λG F w vs hg y=>(h.2 G F w vs hg y).mono ?_⟩;rintro e w' ⟨r,H',v,G',F',m,rfl,k,z,c⟩;obtain⟨a,X,rfl,hlen,A,n,B⟩:=u r H' m
 have l:∀b o v,F b o=some v->F' b o=some v:=by
  intro b o v p
  have hb:b<w.heap.size:=by
   rcases sV b w.heap.size with hb|hb
   ·exact hb
   ·rw[hg.fresh b o hb] at p;cases p
  exact c.mF b o v hb p
 have i:∀o,o<a.length->o<(a++X).length:=λo d=>by rw[sK];omega
 refine⟨r,a,v,G',F',B,rfl,?_,z.lower A,?_⟩
 ·refine⟨k.Fa,?_,λo o' d q=>k.inj o o' (i o d) (i o' q),λo j d s=>k.gF o j (i o d) (by rw[r_ d];exact s),k.fresh,λg x C=>?_,k.row⟩
  ·intro o cs d;have t:o<a.length:=(pK.1 d).1;obtain⟨D,E,I⟩:=k.ml o cs (by rw[r_ t];exact d);exact⟨D,E,I.lower (n cs (CH d))⟩
  ·exact(hg.AS g x C).grow ⟨l,hlen,λo d=>c.hG o d⟩
 ·exact⟨c.os,c.tape,c.output,c.size,hlen,c.hG,λo m J=>c.Kv o m (i o J),c.hF,c.mF,c.heap⟩
end Go.nd
namespace Go.nd
open Go
def AV.CA{k:Nat}{x:AV}(h:AV.jj k x.cells=true):x.low k=true:=by
 cases x<;>simp_all [AV.low,AV.cells,AV.jj]
def AV.Lk{k:Nat}{l:List AV}(h:AV.jj k (l.flatMap AV.cells)=true):AV.jj k l=true:=by
 rw[AV.xK] at h|-;intro x a;exact AV.CA (AV.xK.2 λy hy=>h y (Qi.2 ⟨x,a,hy⟩))
section
variable{F:lN} {G:Nat->Nat} {n:Nat}
mutual
def ic.vF:∀{x v},ic F G n x v->x.low n=true
 |_,_,.undef _=>rfl|_,_,.sc _=>rfl|_,_,.nr a _ _=>by simpa[AV.low] using AV.CA a.vF|_,_,.fT h=>by simpa[AV.low] using h|_,_,.om h=>by simpa[AV.low] using h|_,_,.zo h _ _=>by simpa[AV.low] using h|_,_,.slice a _ _ _ _ _ _ _=>by simpa[AV.low] using AV.Lk a.vF|_,_,.agg a _=>by simpa[AV.low] using a.vF|_,_,.tuple a=>by simpa[AV.low] using a.vF|_,_,.func a b=>by simp[AV.low,a.vF,b.vF]|_,_,.iface a=>by simpa[AV.low] using a.vF
def hV.vF:∀{xs vs},hV F G n xs vs->AV.jj n xs=true
 |_,_,.nil=>rfl|_,_,.cons a b=>by simp[AV.jj,a.vF,b.vF]
end
end
def mq.vF{F:lN}{G:Nat->Nat}{n:Nat}{cs c}(h:mq F G n cs c):AV.jj n cs=true:=by
 cases h with
 |cells d a b=>exact(hV.pQ a).vF|map a b e f g=>simpa[AV.jj,AV.low] using(hV.pQ b).vF|iter h=>simpa[AV.jj,AV.low] using h|dead=>rfl
def fQ.uC{P:Program}{T:fh}{f:FuncId}{args:List AV}{H:eB}{Post Post':AV->eB->Prop}(h:fQ P T f args H Post)
  (d:∀r H',Post r H'->∃X,H'=H++X/\r.low H.length=true/\Post' r H):fQ P T f args H Post':=by
 refine⟨h.1,λG F w vs hg g=>?_⟩
 have a:∀cs∈H,AV.jj H.length cs=true:=by
  intro cs b;obtain⟨o,i⟩:=Sh.1 b;obtain⟨m,_,j⟩:=hg.ml o cs i;exact j.vF
 exact(fQ.drop (Post':=Post') h λr H' k=>by
  obtain⟨X,e,l,c⟩:=d r H' k
  exact⟨H,X,e,jw _,l,a,c⟩).2 G F w vs hg g
end Go.nd
namespace Go.nd
open Go Go.gV
mutual
def AV.GJ{k n:Nat}(h:k<=n):∀{x:AV},x.low k=true->x.low n=true
 |.undef,_=>rfl|.sc _,_=>rfl|.nr x,a=>by simpa[AV.low] using AV.GJ h (x:=x) (by simpa[AV.low] using a)|.eD _ _ _,_=>rfl|.fT o _,a=>by simp[AV.low] at a|-;omega
 |.zo o _ _ _,a=>by simp[AV.low] at a|-;omega
 |.slice _ l,a=>by simpa[AV.low] using AV.rZ h (l:=l) (by simpa[AV.low] using a)|.agg l,a=>by simpa[AV.low] using AV.rZ h (l:=l) (by simpa[AV.low] using a)|.tuple l,a=>by simpa[AV.low] using AV.rZ h (l:=l) (by simpa[AV.low] using a)|.func _ f c,a=>by
  simp only[AV.low,gO] at a|-;exact⟨AV.rZ h a.1,AV.rZ h a.2⟩
 |.iface _ x,a=>by simpa[AV.low] using AV.GJ h (x:=x) (by simpa[AV.low] using a)|.xe _ _ _ _,_=>rfl|.om o,a=>by simp[AV.low] at a|-;omega
 |.tR _ l,a=>by simpa[AV.low] using AV.rZ h (l:=l) (by simpa[AV.low] using a)|.nt o _ _,a=>by simp[AV.low] at a|-;omega
def AV.rZ{k n:Nat}(h:k<=n):∀{l:List AV},AV.jj k l=true->AV.jj n l=true
 |[],_=>rfl|x::l,a=>by
  simp only[AV.jj,gO] at a|-;exact⟨AV.GJ h a.1,AV.rZ h a.2⟩
end
def JI{H:eB}{o:Nat}{c:List AV}(h:H[o]?=some c):o<H.length:=(pK.1 h).1
def JE{H:eB}{o:Nat}{c:List AV}(h:H[o]?=some c):gC H o c=H:=by
 apply OC;intro i;simp only[gC];rw[SK]
 split
 ·rename_i e;subst e;rw[ee (JI h),h]
 ·rfl
def X5(H:eB)(o:Nat):Prop:=o<H.length
def gn{H:eB}{o:Nat}{c:List AV}(h:H[o]?=some c):X5 H o:=JI h
@[simp] theorem aa7(H:eB)(o o':Nat)(c:List AV):X5 (gC H o c) o'=X5 H o':=by simp[X5]
def Sy{H:eB}{o:Nat}{c:List AV}(h:X5 H o):(gC H o c)[o]?=some c:=by simp[gC,show o<H.length from h]
def My{H:eB}{o o':Nat}{c:List AV}(h:o≠o'):(gC H o c)[o']?=H[o']?:=by simp[gC,SK,h]
def PZ{H:eB}{o o':Nat}{c d e:List AV}(h:o≠o'):gC (gC (gC H o c) o' d) o e=gC (gC H o e) o' d:=by
 simp only[gC];rw[List.set_comm _ _ h.symm,List.set_set]
def OO{A B:eB}{o:Nat}(h:X5 A o):(A++B)[o]?=A[o]?:=r_ h
def LS{A B:eB}{o:Nat}{c:List AV}(h:X5 A o):gC (A++B) o c=gC A o c++B:=by simp[gC,List.set_append,show o<A.length from h]
def Gd{A B:eB}{k i:Nat}(h:A.length=k):(A++B)[k+i]?=B[i]?:=by
 subst h;rw[uo (by omega)]
 congr 1
 omega
def Oe{A B:eB}{k:Nat}(h:A.length=k):(A++B)[k]?=B[0]?:=Gd (i:=0) h
def E4{A B:eB}{k i:Nat}{c:List AV}(h:A.length=k):gC (A++B) (k+i) c=A++gC B i c:=by
 subst h;simp[gC,List.set_append]
def M4{A B:eB}{k:Nat}{c:List AV}(h:A.length=k):gC (A++B) k c=A++gC B 0 c:=E4 (i:=0) h
@[simp] theorem WU(a:List AV)(l:eB)(c:List AV):gC (a::l) 0 c=c::l:=rfl
@[simp] theorem Xf(a:List AV)(l:eB)(i:Nat)(c:List AV):gC (a::l) (i+1) c=a::gC l i c:=rfl
def SI{H:eB}{o:Nat}{c cs:List AV}(h:cs∈gC H o c):cs∈H\/cs=c:=by
 simp only[gC] at h;exact Uo h
def fQ.Nq{P:Program}{T:fh}{f:FuncId}{args:List AV}{H:eB}{o:Nat}{c:List AV}{Post:AV->eB->Prop}(h:H[o]?=some c)(a:fQ P T f args (gC H o c) Post):fQ P T f args H Post:=by
 rwa [JE h] at a
structure B2 {S:Type} (st:S->eB) (k:Nat):Prop where
 len:∀s,(st s).length=k
 low:∀s s' cs,cs∈st s'->cs∈st s\/AV.jj k cs=true
def B2.const{S:Type}(H:eB):B2 (λ_:S=>H) H.length:=⟨λ_=>rfl,λ_ _ _ h=>.inl h⟩
def B2.ext{S:Type}{st:S->eB}{k:Nat}(h:B2 st k)(X:eB){n:Nat}(hn:k+X.length=n):B2 (λs=>st s++X) n:=by
 subst hn;refine⟨λs=>by rw[sK,h.len],λs a cs hc=>?_⟩;rcases tj.1 hc with hc|hc
 ·rcases h.low s a cs hc with h1|h1
  ·exact .inl (XM _ h1)
  ·exact .inr (AV.rZ (by omega) h1)
 ·exact .inl (aaT _ hc)
def B2.SD{S:Type}(H:eB)(f:S->eB)(n:Nat)(hn:∀s,(f s).length=n)(b:∀s a cs,cs∈f a->cs∈f s\/AV.jj (H.length+n) cs=true):B2 (λs=>H++f s) (H.length+n):=by
 refine⟨λs=>by rw[sK,hn],λs a cs hc=>?_⟩;rcases tj.1 hc with hc|hc
 ·exact .inl (XM _ hc)
 ·rcases b s a cs hc with h1|h1
  ·exact .inl (aaT _ h1)
  ·exact .inr h1
def fQ.Wi{P:Program}{T:fh}{f:FuncId}{args:List AV}{H:eB}{Post Post':AV->eB->Prop}(h:fQ P T f args H Post)
  (g:∀r H',Post r H'->∃b X,H'=b++X/\b.length=H.length/\r.low H.length=true/\(∀cs∈b,cs∈H\/AV.jj H.length cs=true)/\Post' r b):fQ P T f args H Post':=by
 refine⟨h.1,λG F w vs hg i=>?_⟩
 have c:∀cs∈H,AV.jj H.length cs=true:=by
  intro cs a;obtain⟨o,j⟩:=Sh.1 a;obtain⟨p,_,k⟩:=hg.ml o cs j;exact k.vF
 refine(fQ.drop (Post':=Post') h λr H' l=>?_).2 G F w vs hg i;obtain⟨b,X,e,hlen,m,a,d⟩:=g r H' l;refine⟨b,X,e,by omega,by rw[hlen];exact m,λcs n=>?_,d⟩;rw[hlen];rcases a cs n with h1|h1
 ·exact c cs h1
 ·exact h1
def fQ.VV{P:Program}{T:fh}{f:FuncId}{args:List AV}{S:Type}{st:S->eB}{k:Nat}(hF:B2 st k){s:S}{Post Post':AV->eB->Prop}(h:fQ P T f args (st s) Post)
  (c:∀r H',Post r H'->∃a X,H'=st a++X/\r.low k=true/\Post' r (st a)):fQ P T f args (st s) Post':=
 fQ.Wi h λr H' d=>by
  obtain⟨a,X,e,g,b⟩:=c r H' d;exact⟨st a,X,e,by rw[hF.len,hF.len],by rw[hF.len];exact g,λcs i=>by rw[hF.len];exact hF.low s a cs i,b⟩
@[simp] theorem aau(H:List (List AV))(o:Nat)(c:List AV):List.set H o c=gC H o c:=rfl
attribute [simp] Sy My PZ OO LS Gd Oe E4 M4
end Go.nd
namespace Go.nd
open Go Go.gV
def gR(P:Program)(T:fh)(E:List Nat)(opsA:Array Oper)(q:Bool):List Bool->List Oper->(Fr->eB->Prop)->Fr->eB->Prop
 |_,[],K,fr,H=>K fr H|[],o::rest,K,fr,H=>nu P T E opsA q true o (λfr H=>gR P T E opsA q [] rest K fr H) fr H|b::bs,o::rest,K,fr,H=>nu P T E opsA q b o (λfr H=>gR P T E opsA q bs rest K fr H) fr H
def IH{E:List Nat}{ops:Array Oper}{q:Bool}{P:Program}{T:fh}{K:Fr->eB->Prop}(a:List Bool):∀(l:List Oper) (k:Nat) (fr:Fr) (H:eB),l=ops.toList.drop k->gR P T E ops q (a.drop k) l K fr H->F3 P T E ops q (λi=>a.getD i true) (List.range' k l.length) K fr H:=by
 intro l
 induction l with
 |nil=>
  intro k fr H _ h;cases d:a.drop k<;>rw[d] at h<;>exact h
 |cons o l e=>
  intro k fr H c h
  have b:k<ops.toList.length:=by
   rcases sV k ops.toList.length with h'|h'
   ·exact h'
   ·rw[Iz h'] at c;cases c
  have f:=Kq b;rw[f] at c;injection c with g j
  have hi:ops[k]?=some o:=by
   rw[g];simp only[Array.getElem_toList];exact Ly (by simpa using b)
  simp only[l5,Xv,F3,hi]
  have m:a.getD k true=(a.drop k).headD true:=by
   simp only[List.getD,List.headD_eq_head?_getD,List.head?_drop]
  have n:a.drop (k+1)=(a.drop k).tail:=by rw[List.tail_drop]
  rw[m];refine BH (K:=λfr H=>gR P T E ops q (a.drop (k+1)) l K fr H) (λfr H h=>e (k+1) fr H j h) ?_;rw[n];cases d:a.drop k<;>rw[d] at h<;>exact h
def gJ.Vm{P:Program}{T:fh}{n:Nat}{Q:Exit->Fr->eB->Prop}{fr:Fr}{H:eB}{id:Nat}{ops:Array Oper}(E:List Nat)(q:Bool)(b:List Bool)(hm:P.follows .mixedOrders=true)(a:yo n ops=true)(c:xI E ops (λi=>b.getD i true)=true)
  (h:gR P T E ops q b ops.toList (Q .normal) fr H):gJ P T n (.region id ops true) Q fr H:=by
 refine gJ.MW E q (λi=>b.getD i true) hm a c ?_;have:=IH (P:=P) (T:=T) (E:=E) (ops:=ops) (q:=q) (K:=Q .normal) b ops.toList 0 fr H (by rw[XD]) (by rw[XD];exact h);rw[Xw];simpa using this
def qK(P:Program)(T:fh)(E:List Nat)(ops:Array Oper)(q:Bool)(bs:List Bool)(a:AV)(as:List AV)(d:Option Nat)(rest:List Oper)(K:Fr->eB->Prop)(fr:Fr)(H:eB):Prop:=
 ∃r H',qc P T a as H r H'/\(q=true->H'=H)/\gR P T E ops q bs rest K (fr.put d r) H'
def Dg(P:Program)(T:fh)(E:List Nat)(ops:Array Oper)(q:Bool)(bs:List Bool)(a:AV)(as:List AV)(d:Option Nat)(rest:List Oper)(K:Fr->eB->Prop)(fr:Fr)(H:eB):Prop:=
 ∃r H',qc P T a as H r H'/\gR P T E ops q bs rest K (fr.put d r) H'
section
variable{P:Program} {T:fh} {E:List Nat} {ops:Array Oper} {q:Bool} {bs:List Bool} {rest:List Oper} {K:Fr->eB->Prop} {fr:Fr} {H H':eB} {d:Option Nat} {ty:TypeId} {pos:String} {after:Array Edge}
theorem qK.fn{g:FuncId}{as:List AV}{r:AV}(h:e_ P T g as H r H')(a:q=true->H'=H)(b:gR P T E ops q bs rest K (fr.put d r) H'):qK P T E ops q bs (.func (.func g) [] []) as d rest K fr H:=by
 refine⟨r,H',?_,a,b⟩;unfold qc ru;simp only[pk,yy];exact h
def qK.UG{g:FuncId}{b c as a:List AV}{r:AV}(e:b++as++c=a)(h:e_ P T g a H r H')(f:q=true->H'=H)(i:gR P T E ops q bs rest K (fr.put d r) H'):qK P T E ops q bs (.func (.func g) b c) as d rest K fr H:=by
 subst e;exact⟨r,H',h,f,i⟩
theorem Dg.fn{g:FuncId}{as:List AV}{r:AV}(h:e_ P T g as H r H')(a:gR P T E ops q bs rest K (fr.put d r) H'):Dg P T E ops q bs (.func (.func g) [] []) as d rest K fr H:=by
 refine⟨r,H',?_,a⟩;unfold qc ru;simp only[pk,yy];exact h
@[simp] theorem VR{f:Operand}{as:Array Operand}{ts:Array TypeId}:gR P T E ops q (false::bs) ({dst:=d,op:=.call {callee:=.value f,args:=as,argTypes:=ts},type:=ty,pos:=pos,after:=after,guard:=none}::rest) K fr H=Dg P T E ops q bs (ev T fr f) (as.toList.map λx=>(ev T fr x).norm) d rest K fr H:=by
 simp only[gR,nu,kc,ig,Dg,tQ,false_implies,ZZ]
@[simp] theorem YK(bs:List Bool):gR P T E ops q bs [] K fr H=K fr H:=by cases bs<;>rfl
@[simp] theorem VG{t:TypeId}{x:Operand}:gR P T E ops q (false::bs) ({dst:=d,op:=.load t x,type:=ty,pos:=pos,after:=after,guard:=none}::rest) K fr H=if rk ops.toList x (ev T fr x)then(match uE P fr H t (ev T fr x)with|some v=>gR P T E ops q bs rest K (fr.put d v) H|none=>False)else False:=by
 simp only[gR,nu,kc,ig,pL,Bool.not_false,Bool.true_or,A1]
 split
 ·rename_i v a
  split at a
  ·rename_i b;rw[ee b,a]
  ·cases a
 ·rename_i a
  split at a
  ·rename_i b;rw[ee b,a]
  ·rename_i b;rw[ea b]
@[simp] theorem UP{t:TypeId}{x y:Operand}:gR P T E ops q (false::bs) ({dst:=none,op:=.store t x y,type:=ty,pos:=pos,after:=after,guard:=none}::rest) K fr H=(rk ops.toList x (ev T fr x)=true/\nC P t (ev T fr x) (ev T fr y) (gR P T E ops q bs rest K) fr H):=by
 simp only[gR,nu,kc,ig,ZZ,tQ,false_implies]
@[simp] theorem Yb{x:Operand}:gR P T E ops q (true::bs) ({dst:=d,op:=.move x,type:=ty,pos:=pos,after:=after,guard:=none}::rest) K fr H=gR P T E ops q bs rest K (fr.put d (ev T fr x)) H:=rfl
@[simp] theorem UL{x:Operand}:gR P T E ops q (true::bs) ({dst:=d,op:=.assign x,type:=ty,pos:=pos,after:=after,guard:=none}::rest) K fr H=gR P T E ops q bs rest K (fr.put d (ev T fr x)) H:=rfl
@[simp] theorem VP{t:TypeId}:gR P T E ops q (true::bs) ({dst:=d,op:=.alloc t,type:=ty,pos:=pos,after:=after,guard:=none}::rest) K fr H=match lG P t with|some z=>d.any E.contains=false/\lr E d z (gR P T E ops q bs rest K) fr H|none=>False:=by
 simp only[gR,nu,kc,ig,Ts];rfl
@[simp] theorem WD{t:TypeId}{x:Operand}:gR P T E ops q (true::bs) ({dst:=d,op:=.load t x,type:=ty,pos:=pos,after:=after,guard:=none}::rest) K fr H=if rk ops.toList x (ev T fr x)&&(q||!Wm (ev T fr x))then(match uE P fr H t (ev T fr x)with|some v=>gR P T E ops q bs rest K (fr.put d v) H|none=>False)else False:=by
 simp only[gR,nu,kc,ig,pL,X3,U7]
 split
 ·rename_i v a
  split at a
  ·rename_i b;rw[ee b,a]
  ·cases a
 ·rename_i a
  split at a
  ·rename_i b;rw[ee b,a]
  ·rename_i b;rw[ea b]
@[simp] theorem We{t:TypeId}{x y:Operand}:gR P T E ops q (true::bs) ({dst:=none,op:=.store t x y,type:=ty,pos:=pos,after:=after,guard:=none}::rest) K fr H=(rk ops.toList x (ev T fr x)=true/\isL (ev T fr x)=true/\nC P t (ev T fr x) (ev T fr y) (gR P T E ops q bs rest K) fr H):=by
 simp only[gR,nu,kc,ig,Ts,ZZ]
@[simp] theorem Q0{t n:Nat}{ps:Array (Nat×Operand)}:gR P T E ops q (true::bs) ({dst:=d,op:=.buildSlice t n ps,type:=ty,pos:=pos,after:=after,guard:=none}::rest) K fr H=if d.any E.contains=true then False else match n9 P t n (ps.toList.map λp=>(p.1,ev T fr p.2))with|some v=>gR P T E ops q bs rest K (fr.put d v) H|none=>False:=by
 simp only[gR,nu,kc,ig,pL]
 split
 ·rename_i v a
  split at a
  ·cases a
  ·rename_i b;rw[ea b,a]
 ·rename_i a
  split at a
  ·rename_i b;rw[ee b]
  ·rename_i b;rw[ea b,a]
@[simp] theorem UJ{t:TypeId}{x i:Operand}{ok:Bool}:gR P T E ops q (true::bs) ({dst:=d,op:=.lookup t x i ok,type:=ty,pos:=pos,after:=after,guard:=none}::rest) K fr H=if q=true then(match uV P H t (ev T fr x) (ev T fr i) ok with|some v=>gR P T E ops q bs rest K (fr.put d v) H|none=>False)else False:=by
 simp only[gR,nu,kc,ig,pL,X3,U7]
 split
 ·rename_i v a
  split at a
  ·rename_i b;rw[ee b,a]
  ·cases a
 ·rename_i a
  split at a
  ·rename_i b;rw[ee b,a]
  ·rename_i b;rw[ea b]
def qK.val{a:AV}{as:List AV}{r:AV}(h:qc P T a as H r H')(b:q=true->H'=H)(c:gR P T E ops q bs rest K (fr.put d r) H'):qK P T E ops q bs a as d rest K fr H:=⟨r,H',h,b,c⟩
@[simp] theorem Vy{x y:Operand}{t d:Nat}:gR P T E ops q (true::bs) ({dst:=some d,op:=.call {callee:=.builtin .append,args:=#[x,y],argTypes:=#[t,t]},type:=ty,pos:=pos,after:=after,guard:=none}::rest) K fr H=Bl P t (ev T fr x) (ev T fr y) d (gR P T E ops q bs rest K) fr H:=by
 simp only[gR,nu,kc,ig];exact Hb
@[simp] theorem Yl{f:Operand}{as:Array Operand}{ts:Array TypeId}:gR P T E ops q (true::bs) ({dst:=d,op:=.call {callee:=.value f,args:=as,argTypes:=ts},type:=ty,pos:=pos,after:=after,guard:=none}::rest) K fr H=qK P T E ops q bs (ev T fr f) (as.toList.map λx=>(ev T fr x).norm) d rest K fr H:=by
 simp only[gR,nu,kc,ig,Ts,qK]
@[simp] theorem Y6{as:Array Operand}{ts:Array TypeId}:gR P T E ops q (true::bs) ({dst:=d,op:=.call {callee:=.builtin .len,args:=as,argTypes:=ts},type:=ty,pos:=pos,after:=after,guard:=none}::rest) K fr H=match wL P T fr {callee:=.builtin .len,args:=as,argTypes:=ts}with|some v=>gR P T E ops q bs rest K (fr.put d v) H|none=>False:=rfl
@[simp] theorem YH{as:Array Operand}{ts:Array TypeId}:gR P T E ops q (true::bs) ({dst:=d,op:=.call {callee:=.builtin .max,args:=as,argTypes:=ts},type:=ty,pos:=pos,after:=after,guard:=none}::rest) K fr H=match wL P T fr {callee:=.builtin .max,args:=as,argTypes:=ts}with|some v=>gR P T E ops q bs rest K (fr.put d v) H|none=>False:=rfl
@[simp] theorem Yj{c a b:Operand}:gR P T E ops q (true::bs) ({dst:=d,op:=.pick c a b,type:=ty,pos:=pos,after:=after,guard:=none}::rest) K fr H=match yq P T fr {dst:=d,op:=.pick c a b,type:=ty,pos:=pos,after:=after,guard:=none}with|some v=>gR P T E ops q bs rest K (fr.put d v) H|none=>False:=rfl
@[simp] theorem Wg{t:TypeId}{ps:Array (Nat×Operand)}:gR P T E ops q (true::bs) ({dst:=d,op:=.build t ps,type:=ty,pos:=pos,after:=after,guard:=none}::rest) K fr H=match D_ P t (ps.toList.map λp=>(p.1,ev T fr p.2))with|some v=>gR P T E ops q bs rest K (fr.put d v) H|none=>False:=rfl
@[simp] theorem VF{o:BinOp}{t u:TypeId}{x y:Operand}:gR P T E ops q (true::bs) ({dst:=d,op:=.binOp o t x y u,type:=ty,pos:=pos,after:=after,guard:=none}::rest) K fr H=match K0 P o t y (ev T fr x) (ev T fr y)with|some v=>gR P T E ops q bs rest K (fr.put d v) H|none=>False:=rfl
@[simp] theorem WL{o:UnOp}{t:TypeId}{x:Operand}:gR P T E ops q (true::bs) ({dst:=d,op:=.unOp o t x,type:=ty,pos:=pos,after:=after,guard:=none}::rest) K fr H=match Y9 o (ev T fr x)with|some v=>gR P T E ops q bs rest K (fr.put d v) H|none=>False:=rfl
@[simp] theorem Rf{t i:Nat}{x:Operand}:gR P T E ops q (true::bs) ({dst:=d,op:=.fieldAddr t x i,type:=ty,pos:=pos,after:=after,guard:=none}::rest) K fr H=match ry P t (ev T fr x) i with|some v=>gR P T E ops q bs rest K (fr.put d v) H|none=>False:=rfl
@[simp] theorem Re{t:TypeId}{x i:Operand}:gR P T E ops q (true::bs) ({dst:=d,op:=.indexAddr t x i,type:=ty,pos:=pos,after:=after,guard:=none}::rest) K fr H=match gQ P t (ev T fr x) (ev T fr i)with|some v=>gR P T E ops q bs rest K (fr.put d v) H|none=>False:=rfl
@[simp] theorem VH{t:TypeId}{x:Operand}{lo hi a:Option Operand}:gR P T E ops q (true::bs) ({dst:=d,op:=.slice t x lo hi a,type:=ty,pos:=pos,after:=after,guard:=none}::rest) K fr H=match qa P t (ev T fr x) (lo.map (ev T fr)) (hi.map (ev T fr)) (a.map (ev T fr))with|some v=>gR P T E ops q bs rest K (fr.put d v) H|none=>False:=rfl
@[simp] theorem TZ{i:Nat}{x:Operand}:gR P T E ops q (true::bs) ({dst:=d,op:=.extract x i,type:=ty,pos:=pos,after:=after,guard:=none}::rest) K fr H=match yq P T fr {dst:=d,op:=.extract x i,type:=ty,pos:=pos,after:=after,guard:=none}with|some v=>gR P T E ops q bs rest K (fr.put d v) H|none=>False:=rfl
@[simp] theorem R2{x:Operand}:gR P T E ops q (true::bs) ({dst:=d,op:=.nilCheck x,type:=ty,pos:=pos,after:=after,guard:=none}::rest) K fr H=match yq P T fr {dst:=d,op:=.nilCheck x,type:=ty,pos:=pos,after:=after,guard:=none}with|some v=>gR P T E ops q bs rest K (fr.put d v) H|none=>False:=rfl
@[simp] theorem V'{op:Op}{j:Nat}{want:Bool}:gR P T E ops q (true::bs) ({dst:=d,op:=op,type:=ty,pos:=pos,after:=after,guard:=some (j,want)}::rest) K fr H=match(ops[j]?).bind (·.dst)with
  |some g=>match fr.env g with
   |.sc (.bool b)=>if b=want then gR P T E ops q (true::bs) ({dst:=d,op:=op,type:=ty,pos:=pos,after:=after,guard:=none}::rest) K fr H else gR P T E ops q bs rest K (fr.put d (.tuple [])) H|.tuple _=>gR P T E ops q bs rest K (fr.put d (.tuple [])) H|_=>False
  |none=>False:=by
 simp only[gR,nu,kc]
 cases a:(ops[j]?).bind (·.dst)with
 |none=>rfl|some g=>
  simp only;cases he:fr.env g with
  |sc v=>
   cases v with
   |bool b=>
    simp only
    by_cases hw:b=want
    ·subst hw;simp only[beq_self_eq_true,if_true];rfl
    ·rw[ea hw]
     have:(b==want)=false:=by simpa using hw
     rw[this]
   |_=>rfl
  |_=>rfl
end
end Go.nd
namespace Go.nd
open Go Go.gV
def nb(k:Nat):Option Nat->AV
 |none=>.sc (.pointer none)|some p=>.fT (k+p) 0
@[simp] theorem aaI(k:Nat):nb k none=.sc (.pointer none):=rfl
@[simp] theorem Z0(k p:Nat):nb k (some p)=.fT (k+p) 0:=rfl
@[simp] theorem aa'(k:Nat)(x:Option Nat):(nb k x).h_=true:=by cases x<;>rfl
@[simp] theorem YX(k:Nat)(x:Option Nat):(nb k x).cells=[nb k x]:=by cases x<;>rfl
@[simp] theorem abE(k:Nat)(x:Option Nat):f_ (nb k x)=true:=by cases x<;>rfl
@[simp] theorem Zk(k:Nat)(x:Option Nat):(nb k x).norm=nb k x:=by cases x<;>rfl
@[simp] theorem YY(k:Nat)(x:Option Nat):(nb k x).lH=nb k x:=by cases x<;>rfl
@[simp] theorem aaW(P:Program)(ty:TypeId)(k:Nat)(x:Option Nat):sw P ty (nb k x)=match gq P ty with|some (false,_)=>true|_=>false:=by
 cases x with
 |none=>exact Vc P ty _|some p=>exact Q7 P ty _ _
def wD{C:Type}(c:Nat->C->List AV)(k:Nat)(l:List C):eB:=l.map (c k)
@[simp] theorem Vz{C:Type}(c:Nat->C->List AV)(k:Nat)(l:List C):(wD c k l).length=l.length:=by simp[wD]
@[simp] theorem Y_{C:Type}(c:Nat->C->List AV)(k:Nat)(l:List C)(p:Nat):(wD c k l)[p]?=(l[p]?).map (c k):=by simp[wD]
def qb{C:Type}{c:Nat->C->List AV}{k:Nat}{l:List C}{p:Nat}{x:C}{cs:List AV}(h:cs=c k x):gC (wD c k l) p cs=wD c k (l.set p x):=by
 subst h;simp only[gC,wD,List.map_set]
def JS{C:Type}{c:Nat->C->List AV}{k:Nat}{l:List C}{x:C}{cs:List AV}(h:cs=c k x):wD c k l++[cs]=wD c k (l++[x]):=by
 subst h;simp[wD]
def wI{C:Type}{l:List C}{p:Nat}{x y:C}(h:l[p]?=some y):(l.set p x)[p]?=some x:=by
 have:p<l.length:=(pK.1 h).1;simp[this]
def O4{C:Type}{l:List C}{x:C}:(l++[x])[l.length]?=some x:=by simp
def fQ.Zm{C:Type}{c:Nat->C->List AV}{P:Program}{T:fh}{f:FuncId}{args:List AV}{H:eB}{Post:AV->eB->Prop}(h:fQ P T f args (H++wD c H.length []) Post):fQ P T f args H Post:=by
 simpa[wD] using h
section
variable{P:Program} {t e:TypeId} {k:Nat} {x:Option Nat}
def SP(hu:P.underlying t=some (.pointer e)):oF P .eql t (nb k x) (.sc (.pointer none))=some (.sc (.bool x.isNone)):=by
 cases x<;>simp[oF,sj,hu]
def RK(hu:P.underlying t=some (.pointer e)):oF P .neq t (nb k x) (.sc (.pointer none))=some (.sc (.bool x.isSome)):=by
 cases x<;>simp[oF,sj,hu]
end
end Go.nd
namespace Go.nd
open Go Go.gV
def ub{α:Type}(f:α->AV)(L:List α)(k:Nat):List AV:=(L.map f).flatMap AV.cells++FA k
@[irreducible] def L4(i sz:Nat):Nat:=i*sz
def FM(i sz:Nat):L4 i sz=i*sz:=by unfold L4;rfl
section
variable{α:Type} {f:α->AV} {L:List α} {k sz:Nat}
def qN(h:∀x,(f x).cells.length=sz)(L:List α):((L.map f).flatMap AV.cells).length=L.length*sz:=by
 rw[rM (sz:=sz)]
 ·simp
 ·intro x a;obtain⟨y,_,rfl⟩:=oi.1 a;exact h y
def wB(h:∀x,(f x).cells.length=sz):(ub f L k).length=L.length*sz+k:=by
 unfold ub;rw[sK,qN h];simp[FA]
def AE(h:∀x,(f x).cells.length=sz):(ub f L k).take (L.length*sz)=(L.map f).flatMap AV.cells:=by
 unfold ub;rw[PT (by rw[qN h];exact jw _),X0 (by rw[qN h];exact jw _)]
def S7(h:∀x,(f x).cells.length=sz){i:Nat}{y:α}(hi:i<L.length):setCells (ub f L k) (i*sz) (f y).cells=ub f (L.set i y) k:=by
 unfold setCells ub;have hlen:=qN h L
 have hle:i*sz+sz<=L.length*sz:=by
  rw[<-M6];exact Lv _ hi
 rw[h y,PT (by omega),List.drop_append_of_le_length (by omega),<-qW]
 congr 1
 have a:L.set i y=L.take i++y::L.drop (i+1):=List.set_eq_take_append_cons_drop▸(by rw[ee hi]);rw[a,Zx,wk,aae,BC]
 have hm:∀x∈L.map f,x.cells.length=sz:=by
  intro x b;obtain⟨z,_,rfl⟩:=oi.1 b;exact h z
 have c:i*sz+sz=(i+1)*sz:=by rw[M6]
 rw[c,<-Db hm,<-x0 hm,List.map_take,List.map_drop,qW]
end
def Ge{α:Type}{f:α->AV}(a:∀x,(f x).cells.map AV.lH=(f x).cells)(L:List α):(L.map f).flatMap AV.cells=((L.map f).flatMap AV.cells).map AV.lH:=by
 induction L with
 |nil=>rfl|cons x L b=>simp only[wk,BC,Zx,a,<-b]
def sC.Xk{P:Program}{t e sz d:Nat}{s x:AV}{K:Fr->eB->Prop}{fr:Fr}{H:eB}{α:Type}{f:α->AV}(m:List α){b:Tag}
  (c:qL P t=some (e,sz)) (g:∃k,lG P e=some k) (h:∀x,(f x).cells.length=sz) (hlen:yK m=true) (hs:s=.slice .full []) (o:x=.slice b (m.map f))
  (p:∀cap,m.length<=cap->K {fr with env:=hU fr.env d (.xe d (fr.gen d+1) m.length cap),box:=hU fr.box d (some (ub f m ((cap-m.length)*sz))),gen:=hU fr.gen d (fr.gen d+1)} H):sC P t s x d K fr H:=by
 subst hs;subst o
 have n:0<m.length/\m.length<=Lw:=by simpa[yK] using hlen
 have i:∀l:List α,mJ sz (l.map f)=true:=λl=>by cases l with|nil=>rfl|cons a l=>simp[h]
 obtain⟨k,g⟩:=g;refine .inr ?_;unfold Sl;rw[c];refine⟨i m,by rw[g];rfl,by simpa using n.1,rfl,by simpa[nP,Lw] using n.2,λcap q=>?_⟩
 have j:m.length<=cap:=by simpa using q
 have:=p cap j;simp only[yn,List.flatMap_nil,pk,wv,vl,GU];exact this
theorem sC.l6{P:Program}{t e sz d:Nat}{s x:AV}{K:Fr->eB->Prop}{fr:Fr}{H:eB}{α:Type}{f:α->AV}(L m:List α){cap:Nat}{n:Tag}
  (o:qL P t=some (e,sz)) (p:∃y,lG P e=some y) (c:∀x,(f x).cells.length=sz) (hlen:gy L m=true) (hm:0<m.length) (hs:s=.xe d (fr.gen d) L.length cap) (B:x=.slice n (m.map f))
  (C:fr.box d=some (ub f L ((cap-L.length)*sz))) (q:L.length<=cap)
  (z:∀A b,(gU L m).length<=b->K {fr with env:=hU fr.env d (.xe d A (gU L m).length b),box:=hU fr.box d (some (ub f (gU L m) ((b-(gU L m).length)*sz))),gen:=hU fr.gen d A} H):sC P t s x d K fr H:=by
 subst hs;subst B;have D:L.length+m.length<=Lw:=L6 hlen
 have r:∀l:List α,mJ sz (l.map f)=true:=λl=>by cases l with|nil=>rfl|cons a l=>simp[c]
 obtain⟨y,p⟩:=p;have u:=qN c L;have v:=qN c m;have g:(gU L m).length=L.length+m.length:=zE L m
 have i:(L.map f).flatMap AV.cells++(m.map f).flatMap AV.cells=((gU L m).map f).flatMap AV.cells:=by simp[gU]
 refine .inr ?_;unfold Sl;rw[o];refine⟨r m,by rw[p];rfl,by simpa using hm,rfl,by simpa[nP,Lw] using D,?_⟩;rw[C];simp only[GU];refine⟨?_,λE=>?_,λb I F=>?_⟩
 ·rw[wB c,Nat.sub_mul];have:=Lv sz q;omega
 ·have k:=z (fr.gen d) cap (by rw[g];exact E)
  have G:hU fr.gen d (fr.gen d)=fr.gen:=by
   funext j
   simp only[hU]
   split
   ·rename_i h;rw[h]
   ·rfl
  have w:setCells (ub f L ((cap-L.length)*sz)) (L.length*sz) ((m.map f).flatMap AV.cells)=ub f (gU L m) ((cap-(gU L m).length)*sz):=by
   unfold setCells;rw[AE c];unfold ub;rw[<-i,UU,Iz (by omega),pk,u,v,g]
   have:L.length*sz+m.length*sz-L.length*sz=m.length*sz:=by omega
   rw[this];unfold FA;rw[List.drop_replicate,<-Nat.sub_mul,Nat.sub_sub]
  rw[G,<-w,g] at k;exact k
 ·have k:=z (fr.gen d+1) b (by rw[g];exact F)
  have w:(ub f L ((cap-L.length)*sz)).take (L.length*sz)++(m.map f).flatMap AV.cells++FA ((b-(L.length+m.length))*sz)=ub f (gU L m) ((b-(gU L m).length)*sz):=by
   rw[AE c,g];unfold ub;rw[i]
  unfold yn;rw[w,<-g];exact k
@[simp] theorem aao{P:Program}{t:TypeId}{b g n c:Nat}:H7 P t (.xe b g n c)=match P.underlying t with|some (.slice _)=>some (.sc (.int .i64 n))|some (.array n _)=>some (.sc (.int .i64 n))|_=>none:=by
 unfold H7;cases P.underlying t with
 |none=>rfl|some y=>cases y<;>rfl
@[simp] theorem R5{P:Program}{t:TypeId}{k:IntKind}{a:Int}{b g n c:Nat}:gQ P t (.xe b g n c) (.sc (.int k a))=match P.underlying t with
  |some (.slice e)=>match gq P e with
   |some (_,sz)=>if 0<=a/\a<(n:Int)then some (.eD b g (L4 a.toNat sz))else none|none=>none
  |_=>none:=by
 unfold gQ;simp only[FM];cases P.underlying t with
 |none=>rfl|some y=>cases y<;>rfl
def zN(P:Program)(t:TypeId)(b g i sz:Nat)(v:AV)(K:Fr->eB->Prop)(fr:Fr)(H:eB):Prop:=nC P t (.eD b g (L4 i sz)) v K fr H
@[simp high] theorem VN{P:Program}{t:TypeId}{b g i sz:Nat}{v:AV}{K:Fr->eB->Prop}{fr:Fr}{H:eB}:nC P t (.eD b g (L4 i sz)) v K fr H=zN P t b g i sz v K fr H:=rfl
def zN.arr{P:Program}{t:TypeId}{b g sz k:Nat}{a:Int}{bl:Bool}{v:AV}{K:Fr->eB->Prop}{fr:Fr}{H:eB}{α:Type}{f:α->AV}{L:List α}{x:α}(y:α)(h:gq P t=some (bl,sz))(c:∀x,(f x).cells.length=sz)
  (e:f_ (f y)=true) (hi:eI L a=some x) (hg:g=fr.gen b) (i:fr.box b=some (ub f L k)) (j:v=f y) (l:K {fr with box:=hU fr.box b (some (ub f (xj L a y) k))} H):zN P t b g a.toNat sz v K fr H:=by
 subst j;have hi':=Mx hi;have d:=(pK.1 hi').1
 have hle:a.toNat*sz+sz<=L.length*sz:=by
  rw[<-M6];exact Lv _ d
 unfold zN;simp only[nC,h,i];refine⟨hg,c y,by rw[FM,wB c];omega,e,?_⟩;rw[FM,S7 c d];exact l
def iC.MD{α β:Type}{R:α->β->Prop}:∀{as:List α} {bs:List β} {i:Nat} {a0 a:α},iC R as bs->as[i]?=some a0->(∀b,bs[i]?=some b->R a b)->iC R (as.set i a) bs
 |_,_,_,_,_,.nil,h,_=>by simp at h
 |_,_,0,_,_,.cons d c,_,h=>.cons (h _ rfl) c|_,_,i+1,_,_,.cons d c,e,h=>.cons d (iC.MD c (by simpa using e) (λb f=>h b (by simpa using f)))
section
variable{P:Program} {T:fh} {n B0:Nat} {ρ:Maps} {F:lN} {R:Nat->pV} {fr:Fr} {H:eB} {a:Act} {w:World}
def WR.unbox(h:WR T n B0 ρ F R fr H a w){d:Nat}{cs:List AV}(x:fr.box d=some cs):∃p,p (ρ.L d (fr.gen d))=.free/\WR T n B0 ρ F p {fr with box:=hU fr.box d none} H a w:=by
 obtain⟨D,y,E,vs,ty,G,I⟩:=h.box d cs x
 let p:Nat->pV:=hU R (ρ.L d (fr.gen d)) .free
 have i:∀b,R b≠ .box d->p b=R b:=by
  intro b f;show hU R (ρ.L d (fr.gen d)) .free b=R b;unfold hU;rw[ea];rintro rfl;exact f y
 refine⟨p,by show hU R _ _ _=_;simp[hU],⟨h.g,h.size,h.defers,h.env,h.hn,h.lg,h.ag,?_,?_,?_,?_,?_,h.rz⟩⟩
 ·intro r s l;simp only[hU] at l
  by_cases he:r=d
  ·subst he;simp at l
  ·rw[ea he] at l;obtain⟨t,q,u⟩:=h.box r s l;exact⟨t,by rw[i _ (by rw[q];simp[he])];exact q,u⟩
 ·intro k m z b c sz A;obtain⟨t,q,u⟩:=h.tok k m z b c sz A;exact⟨t,by rw[i _ (by rw[q];simp)];exact q,u⟩
 ·intro b j v B
  by_cases f:b=ρ.L d (fr.gen d)
  ·subst f;intro r;show hU R _ _ _≠_;simp[hU]
  ·have e:p b=R b:=by show hU R _ _ _=_;simp[hU,f]
   rw[e];exact h.rN b j v B
 ·intro o C;have:=h.oB o C;rw[i _ (by rw[this];simp)];exact this
 ·intro b f;have:=h.mH b f;rw[i _ (by rw[this];simp)];exact this
def iC.P5{F:lN}{ρ:Maps}{cs:List AV}{vs:List Value}(h:iC (ka F ρ) cs vs):iC (ic F ρ.G ρ.n) (cs.map AV.lH) vs:=h.xt AV.lH λ_ _ _ h=>h.lH
def WR.JL(h:WR T n B0 ρ F R fr H a w){d len cap sz:Nat}{cs els:List AV}(z:fr.box d=some cs)(D:els.length=len)(hs:∀x∈els,x.cells.length=sz)
  (A:els.flatMap AV.cells=(cs.take (len*sz)).map AV.lH) (hle:len*sz<=cs.length) (E:len<=cap) (q:cap<=maxLen):∃F' r,uz F F' ρ ρ/\(∀b j,b<B0->F' b j=F b j)/\WR T n B0 ρ F' r {fr with box:=hU fr.box d none} H a w/\ic F' ρ.G ρ.n (.slice .iR els) (.slice (some ⟨ρ.L d (fr.gen d),0,none⟩) len cap):=by
 obtain⟨P,I,B,vs,ty,J,s⟩:=h.box d cs z;obtain⟨r,i,hw⟩:=h.unbox z
 have hF:∀j,F (ρ.L d (fr.gen d)) j=none:=by
  intro j;cases K:F (ρ.L d (fr.gen d)) j with
  |none=>rfl|some v=>
   exact absurd I (h.rN _ j v K d)
 have M:vs.toList.length=cs.length:=s.length.symm
 have N:(vs.toList.take (len*sz)).length=len*sz:=by rw[yP];omega
 obtain⟨m,t⟩:=hw.freeze (us:=vs.toList.take (len*sz)) (k:=(vs.toList.take (len*sz)).length) i hF J (λu hu=>kO s B u hu) (by
  intro j v _ p;rw[Iy] at p
  split at p
  ·simpa using p
  ·cases p)
 refine⟨_,r,m,λb j O=>w6 (by omega),t,?_⟩
 have e:iC (ic F ρ.G ρ.n) (els.flatMap AV.cells) (vs.toList.take (len*sz)):=by
  rw[A];exact(s.take (len*sz)).P5
 have C:=ic.slice (F:=lJ F (ρ.L d (fr.gen d)) (vs.toList.take (len*sz)).length (vs.toList.take (len*sz))) (G:=ρ.G) (n:=ρ.n) (tag:=.iR) (l:=els) (b:=ρ.L d (fr.gen d)) (o:=0)
  (base:=some ⟨ρ.L d (fr.gen d),0,none⟩) (cap:=cap) (sz:=sz) (vs:=vs.toList.take (len*sz)) (.pQ (e.mono λ_ _ _ h=>h.grow m.g)) (zU _ _ _) (λ_=>rfl) hs (by
   intro c f;rw[A] at f
   exact Ak (λc y=>B c (Ed y)) c f) (by omega) q (.inl rfl)
 rw[D] at C;exact C
def gJ.Zj{α:Type}{c:Code}{Q:Exit->Fr->eB->Prop}{f:α->AV}(t:Nat){L:List α}{k sz d g cap:Nat}(l:∀x,(f x).cells.length=sz)(o:∀x,(f x).cells.map AV.lH=(f x).cells)
  (he:fr.env t=.xe d g L.length cap) (hg:g=fr.gen d) (C:fr.box d=some (ub f L k))
  (h:gJ P T n c Q {fr with env:=hU fr.env t (.slice .iR (L.map f)),box:=hU fr.box d none} H):gJ P T n c Q fr H:=by
 intro G0 F0 n0 w0 a w hs;refine h G0 F0 n0 w0 a w ?_;obtain⟨ρ,F,R,hw,q⟩:=hs;have m:=hw.env t;rw[he] at m;obtain⟨D,E,r,s⟩:=Aa m
 have u:∀x∈L.map f,x.cells.length=sz:=by
  intro x q;obtain⟨y,_,rfl⟩:=oi.1 q;exact l y
 obtain⟨F',G,v,z,i,I⟩:=hw.JL (els:=L.map f) (len:=L.length) (cap:=cap) (sz:=sz) C (by simp) u (by rw[AE l];exact Ge o L) (by rw[wB l];omega) r s;refine⟨ρ,F',G,⟨i.g,i.size,i.defers,?_,i.hn,i.lg,i.ag,i.box,i.tok,i.rN,i.oB,i.mH,i.rz⟩,?_⟩
 ·intro B;show hQ F' ρ (hU fr.env t (.slice .iR (L.map f)) B) _;simp only[hU]
  split
  ·rename_i e;subst e;rw[D,hg];exact .p I
  ·exact(hw.env B).grow v
 ·exact q.freeze λb j A=>z b j A
def gJ.ace{α:Type}{c:Code}{Q:Exit->Fr->eB->Prop}{f:α->AV}(d2 i:Nat){cs2:List AV}{L:List α}{k sz d g cap:Nat}(m:∀x,(f x).cells.length=sz)(t:∀x,(f x).cells.map AV.lH=(f x).cells)
  (v:d2≠d) (he:fr.box d2=some cs2) (hi:cs2[i]?=some (.xe d g L.length cap)) (hg:g=fr.gen d) (V:fr.box d=some (ub f L k))
  (h:gJ P T n c Q {fr with box:=hU (hU fr.box d none) d2 (some (cs2.set i (.slice .iR (L.map f))))} H):gJ P T n c Q fr H:=by
 intro G0 F0 n0 w0 a w hs;refine h G0 F0 n0 w0 a w ?_;obtain⟨ρ,F,R,hw,z⟩:=hs;obtain⟨_,_,A,B,W,C,D⟩:=hw.box d2 cs2 he;obtain⟨u,hu,E⟩:=D.get hi;obtain⟨X,Y,G,I⟩:=Aa (.cell E)
 have J:∀x∈L.map f,x.cells.length=sz:=by
  intro x z;obtain⟨y,_,rfl⟩:=oi.1 z;exact m y
 obtain⟨F',Z,aa,K,e,hp⟩:=hw.JL (els:=L.map f) (len:=L.length) (cap:=cap) (sz:=sz) V (by simp) J (by rw[AE m];exact Ge t L) (by rw[wB m];omega) G I
 have M:({fr with box:=hU fr.box d none}:Fr).box d2=some cs2:=by simp[hU,v,he]
 refine⟨ρ,F',Z,⟨e.g,e.size,e.defers,e.env,e.hn,e.lg,e.ag,?_,e.tok,e.rN,e.oB,e.mH,e.rz⟩,?_⟩
 ·intro o N l;simp only[hU] at l
  by_cases q:o=d2
  ·subst q;simp only[if_true,tC] at l;subst l;obtain⟨e1,e2,e3,vs',r,U,e5⟩:=e.box o cs2 M;refine⟨e1,e2,?_,vs',r,U,?_⟩
   ·intro c hc;rcases Uo hc with h'|h'
    ·exact e3 c h'
    ·rw[h'];rfl
   ·have O:vs'.toList=B.toList:=by
     have:w.heap[ρ.L o (fr.gen o)]?=some (.cells vs' r (0,0)):=U;rw[C] at this;injection this with this;injection this with this;rw[this]
    refine iC.MD e5 hi ?_;intro u' s;rw[O,hu] at s;obtain rfl:=iD s;rw[X,hg];exact .p hp
  ·simp only[ea q] at l;exact e.box o N (by simpa[hU] using l)
 ·exact z.freeze λb j S=>K b j S
end
end Go.nd
