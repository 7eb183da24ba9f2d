/- Part of the proof of KernelUniform: layer. -/
import Derived.Test.YtobcafblgapgfaaGreatDoorL8
set_option linter.all false
namespace Go.mS
open Go
mutual
def AV.low(k:Nat):AV->Bool
 |.undef=>true|.sc _=>true|.na x=>x.low k|.eB _ _ _=>true|.fE o _=>decide (o<k)|.slice _ l=>AV.jf k l|.agg l=>AV.jf k l|.tuple l=>AV.jf k l|.func _ f c=>AV.jf k f&&AV.jf k c|.iface _ x=>x.low k|.we _ _ _ _=>true|.nZ o=>decide (o<k)|.yZ o _ _ _=>decide (o<k)|.tz _ xs=>AV.jf k xs|.nb o _ _=>decide (o<k)
def AV.jf(k:Nat):List AV->Bool
 |[]=>true|x::l=>x.low k&&AV.jf k l
end
def AV.wS{k:Nat}:∀{l:List AV},AV.jf k l=true↔∀x∈l,x.low k=true
 |[]=>by simp[AV.jf]|x::l=>by simp[AV.jf,AV.wS (l:=l)]
def AV.IT{k:Nat}{x:AV}(h:x.low k=true):AV.jf k x.cells=true:=by
 cases x<;>simp_all [AV.low,AV.cells,AV.jf]
def AV.Ry{k:Nat}{l:List AV}(h:AV.jf k l=true):AV.jf k (l.flatMap AV.cells)=true:=by
 rw[AV.wS] at h|-;intro x a;obtain⟨y,hy,a⟩:=S5.1 a;exact AV.wS.1 (AV.IT (h y hy)) x a
@[simp] theorem AV.ZM{α:Type}{k:Nat}(f:α->Value)(l:List α):AV.jf k (List.map (λn=>AV.sc (f n)) l)=true:=by
 rw[AV.wS];intro x a;obtain⟨y,_,rfl⟩:=od.1 a;rfl
section
variable{F:lE} {G:Nat->Nat} {n k:Nat}
mutual
def ia.lower:∀{x v},ia F G n x v->x.low k=true->ia F G k x v
 |_,_,.undef h,_=>.undef h|_,_,.sc h,_=>.sc h|_,_,.na b c d,a=>.na (b.lower (AV.IT (by simpa[AV.low] using a))) c d|_,_,.fE h,a=>.fE (by simpa[AV.low] using a)|_,_,.nZ h,a=>.nZ (by simpa[AV.low] using a)|_,_,.yZ h c d,a=>.yZ (by simpa[AV.low] using a) c d|_,_,.slice b c d e f g i j,a=>.slice (b.lower (AV.Ry (by simpa[AV.low] using a))) c d e f g i j|_,_,.agg b c,a=>.agg (b.lower (by simpa[AV.low] using a)) c|_,_,.tuple b,a=>.tuple (b.lower (by simpa[AV.low] using a))|_,_,.func b c,a=>by
  simp only[AV.low,gL] at a;exact .func (b.lower a.1) (c.lower a.2)
 |_,_,.iface b,a=>.iface (b.lower (by simpa[AV.low] using a))
def hR.lower:∀{xs vs},hR F G n xs vs->AV.jf k xs=true->hR F G k xs vs
 |_,_,.nil,_=>.nil|_,_,.cons b c,a=>by
  simp only[AV.jf,gL] at a;exact .cons (b.lower a.1) (c.lower a.2)
end
end
def mc.lower{F:lE}{G:Nat->Nat}{n k:Nat}{cs d}(h:mc F G n cs d)(a:AV.jf k cs=true):mc F G k cs d:=by
 cases h with
 |cells e b c=>exact .cells e ((hR.pN b).lower a).uh c|map b c f g i=>exact .map b ((hR.pN c).lower (by simpa[AV.jf,AV.low] using a)).uh f g i|iter h=>exact .iter (by simpa[AV.jf,AV.low] using a)|dead=>exact .dead
def fH.drop{P:Program}{T:fg}{f:FuncId}{args:List AV}{H:eD}{Post Post':AV->eD->Prop}(h:fH P T f args H Post)
  (u:∀r H',Post r H'->∃a X,H'=a++X/\H.length<=a.length/\r.low a.length=true/\(∀cs∈a,AV.jf a.length cs=true)/\Post' r a):fH P T f args H Post':=by
 refine⟨h.1,λG F w vs hg y=>(h.2 G F w vs hg y).mono ?_⟩;rintro e w' ⟨r,H',v,G',F',m,rfl,k,z,c⟩;obtain⟨a,X,rfl,hlen,A,n,B⟩:=u r H' m
 have l:∀b o v,F b o=some v->F' b o=some v:=by
  intro b o v p
  have hb:b<w.heap.size:=by
   rcases sA b w.heap.size with hb|hb
   ·exact hb
   ·rw[hg.fresh b o hb] at p;cases p
  exact c.mF b o v hb p
 have i:∀o,o<a.length->o<(a++X).length:=λo d=>by rw[so];omega
 refine⟨r,a,v,G',F',B,rfl,?_,z.lower A,?_⟩
 ·refine⟨k.Ex,?_,λo o' d q=>k.inj o o' (i o d) (i o' q),λo j d s=>k.gF o j (i o d) (by rw[tD d];exact s),k.fresh,λg x C=>?_,k.row⟩
  ·intro o cs d;have t:o<a.length:=(pG.1 d).1;obtain⟨D,E,I⟩:=k.mb o cs (by rw[tD t];exact d);exact⟨D,E,I.lower (n cs (Dc d))⟩
  ·exact(hg.Ag g x C).grow ⟨l,hlen,λo d=>c.hG o d⟩
 ·exact⟨c.os,c.tape,c.output,c.size,hlen,c.hG,λo m J=>c.J4 o m (i o J),c.hF,c.mF,c.heap⟩
end Go.mS
namespace Go.mS
open Go
def AV.BC{k:Nat}{x:AV}(h:AV.jf k x.cells=true):x.low k=true:=by
 cases x<;>simp_all [AV.low,AV.cells,AV.jf]
def AV.JF{k:Nat}{l:List AV}(h:AV.jf k (l.flatMap AV.cells)=true):AV.jf k l=true:=by
 rw[AV.wS] at h|-;intro x a;exact AV.BC (AV.wS.2 λy hy=>h y (S5.2 ⟨x,a,hy⟩))
section
variable{F:lE} {G:Nat->Nat} {n:Nat}
mutual
def ia.vz:∀{x v},ia F G n x v->x.low n=true
 |_,_,.undef _=>rfl|_,_,.sc _=>rfl|_,_,.na a _ _=>by simpa[AV.low] using AV.BC a.vz|_,_,.fE h=>by simpa[AV.low] using h|_,_,.nZ h=>by simpa[AV.low] using h|_,_,.yZ h _ _=>by simpa[AV.low] using h|_,_,.slice a _ _ _ _ _ _ _=>by simpa[AV.low] using AV.JF a.vz|_,_,.agg a _=>by simpa[AV.low] using a.vz|_,_,.tuple a=>by simpa[AV.low] using a.vz|_,_,.func a b=>by simp[AV.low,a.vz,b.vz]|_,_,.iface a=>by simpa[AV.low] using a.vz
def hR.vz:∀{xs vs},hR F G n xs vs->AV.jf n xs=true
 |_,_,.nil=>rfl|_,_,.cons a b=>by simp[AV.jf,a.vz,b.vz]
end
end
def mc.vz{F:lE}{G:Nat->Nat}{n:Nat}{cs c}(h:mc F G n cs c):AV.jf n cs=true:=by
 cases h with
 |cells d a b=>exact(hR.pN a).vz|map a b e f g=>simpa[AV.jf,AV.low] using(hR.pN b).vz|iter h=>simpa[AV.jf,AV.low] using h|dead=>rfl
def fH.tY{P:Program}{T:fg}{f:FuncId}{args:List AV}{H:eD}{Post Post':AV->eD->Prop}(h:fH P T f args H Post)
  (d:∀r H',Post r H'->∃X,H'=H++X/\r.low H.length=true/\Post' r H):fH P T f args H Post':=by
 refine⟨h.1,λG F w vs hg g=>?_⟩
 have a:∀cs∈H,AV.jf H.length cs=true:=by
  intro cs b;obtain⟨o,i⟩:=TF.1 b;obtain⟨m,_,j⟩:=hg.mb o cs i;exact j.vz
 exact(fH.drop (Post':=Post') h λr H' k=>by
  obtain⟨X,e,l,c⟩:=d r H' k
  exact⟨H,X,e,jh _,l,a,c⟩).2 G F w vs hg g
end Go.mS
namespace Go.mS
open Go Go.hJ
mutual
def AV.F6{k n:Nat}(h:k<=n):∀{x:AV},x.low k=true->x.low n=true
 |.undef,_=>rfl|.sc _,_=>rfl|.na x,a=>by simpa[AV.low] using AV.F6 h (x:=x) (by simpa[AV.low] using a)|.eB _ _ _,_=>rfl|.fE o _,a=>by simp[AV.low] at a|-;omega
 |.yZ o _ _ _,a=>by simp[AV.low] at a|-;omega
 |.slice _ l,a=>by simpa[AV.low] using AV.rR h (l:=l) (by simpa[AV.low] using a)|.agg l,a=>by simpa[AV.low] using AV.rR h (l:=l) (by simpa[AV.low] using a)|.tuple l,a=>by simpa[AV.low] using AV.rR h (l:=l) (by simpa[AV.low] using a)|.func _ f c,a=>by
  simp only[AV.low,gL] at a|-;exact⟨AV.rR h a.1,AV.rR h a.2⟩
 |.iface _ x,a=>by simpa[AV.low] using AV.F6 h (x:=x) (by simpa[AV.low] using a)|.we _ _ _ _,_=>rfl|.nZ o,a=>by simp[AV.low] at a|-;omega
 |.tz _ l,a=>by simpa[AV.low] using AV.rR h (l:=l) (by simpa[AV.low] using a)|.nb o _ _,a=>by simp[AV.low] at a|-;omega
def AV.rR{k n:Nat}(h:k<=n):∀{l:List AV},AV.jf k l=true->AV.jf n l=true
 |[],_=>rfl|x::l,a=>by
  simp only[AV.jf,gL] at a|-;exact⟨AV.F6 h a.1,AV.rR h a.2⟩
end
def IB{H:eD}{o:Nat}{c:List AV}(h:H[o]?=some c):o<H.length:=(pG.1 h).1
def IZ{H:eD}{o:Nat}{c:List AV}(h:H[o]?=some c):gj H o c=H:=by
 apply QD;intro i;simp only[gj];rw[TK]
 split
 ·rename_i e;subst e;rw[ee (IB h),h]
 ·rfl
def US(H:eD)(o:Nat):Prop:=o<H.length
def f_{H:eD}{o:Nat}{c:List AV}(h:H[o]?=some c):US H o:=IB h
@[simp] theorem YA(H:eD)(o o':Nat)(c:List AV):US (gj H o c) o'=US H o':=by simp[US]
def Rm{H:eD}{o:Nat}{c:List AV}(h:US H o):(gj H o c)[o]?=some c:=by simp[gj,show o<H.length from h]
def Mj{H:eD}{o o':Nat}{c:List AV}(h:o≠o'):(gj H o c)[o']?=H[o']?:=by simp[gj,TK,h]
def Pk{H:eD}{o o':Nat}{c d e:List AV}(h:o≠o'):gj (gj (gj H o c) o' d) o e=gj (gj H o e) o' d:=by
 simp only[gj];rw[List.set_comm _ _ h.symm,List.set_set]
def M1{A B:eD}{o:Nat}(h:US A o):(A++B)[o]?=A[o]?:=tD h
def KH{A B:eD}{o:Nat}{c:List AV}(h:US A o):gj (A++B) o c=gj A o c++B:=by simp[gj,List.set_append,show o<A.length from h]
def FP{A B:eD}{k i:Nat}(h:A.length=k):(A++B)[k+i]?=B[i]?:=by
 subst h;rw[xI (by omega)]
 congr 1
 omega
def NI{A B:eD}{k:Nat}(h:A.length=k):(A++B)[k]?=B[0]?:=FP (i:=0) h
def D2{A B:eD}{k i:Nat}{c:List AV}(h:A.length=k):gj (A++B) (k+i) c=A++gj B i c:=by
 subst h;simp[gj,List.set_append]
def Lh{A B:eD}{k:Nat}{c:List AV}(h:A.length=k):gj (A++B) k c=A++gj B 0 c:=D2 (i:=0) h
@[simp] theorem U4(a:List AV)(l:eD)(c:List AV):gj (a::l) 0 c=c::l:=rfl
@[simp] theorem U6(a:List AV)(l:eD)(i:Nat)(c:List AV):gj (a::l) (i+1) c=a::gj l i c:=rfl
def R0{H:eD}{o:Nat}{c cs:List AV}(h:cs∈gj H o c):cs∈H\/cs=c:=by
 simp only[gj] at h;exact Ya h
def fH.I8{P:Program}{T:fg}{f:FuncId}{args:List AV}{H:eD}{o:Nat}{c:List AV}{Post:AV->eD->Prop}(h:H[o]?=some c)(a:fH P T f args (gj H o c) Post):fH P T f args H Post:=by
 rwa [IZ h] at a
structure Bs {S:Type} (st:S->eD) (k:Nat):Prop where
 len:∀s,(st s).length=k
 low:∀s s' cs,cs∈st s'->cs∈st s\/AV.jf k cs=true
def Bs.const{S:Type}(H:eD):Bs (λ_:S=>H) H.length:=⟨λ_=>rfl,λ_ _ _ h=>.inl h⟩
def Bs.ext{S:Type}{st:S->eD}{k:Nat}(h:Bs st k)(X:eD){n:Nat}(hn:k+X.length=n):Bs (λs=>st s++X) n:=by
 subst hn;refine⟨λs=>by rw[so,h.len],λs a cs hc=>?_⟩;rcases sy.1 hc with hc|hc
 ·rcases h.low s a cs hc with h1|h1
  ·exact .inl (TY _ h1)
  ·exact .inr (AV.rR (by omega) h1)
 ·exact .inl (W0 _ hc)
def Bs.Sh{S:Type}(H:eD)(f:S->eD)(n:Nat)(hn:∀s,(f s).length=n)(b:∀s a cs,cs∈f a->cs∈f s\/AV.jf (H.length+n) cs=true):Bs (λs=>H++f s) (H.length+n):=by
 refine⟨λs=>by rw[so,hn],λs a cs hc=>?_⟩;rcases sy.1 hc with hc|hc
 ·exact .inl (TY _ hc)
 ·rcases b s a cs hc with h1|h1
  ·exact .inl (W0 _ h1)
  ·exact .inr h1
def fH.Uc{P:Program}{T:fg}{f:FuncId}{args:List AV}{H:eD}{Post Post':AV->eD->Prop}(h:fH P T f args H Post)
  (g:∀r H',Post r H'->∃b X,H'=b++X/\b.length=H.length/\r.low H.length=true/\(∀cs∈b,cs∈H\/AV.jf H.length cs=true)/\Post' r b):fH P T f args H Post':=by
 refine⟨h.1,λG F w vs hg i=>?_⟩
 have c:∀cs∈H,AV.jf H.length cs=true:=by
  intro cs a;obtain⟨o,j⟩:=TF.1 a;obtain⟨p,_,k⟩:=hg.mb o cs j;exact k.vz
 refine(fH.drop (Post':=Post') h λr H' l=>?_).2 G F w vs hg i;obtain⟨b,X,e,hlen,m,a,d⟩:=g r H' l;refine⟨b,X,e,by omega,by rw[hlen];exact m,λcs n=>?_,d⟩;rw[hlen];rcases a cs n with h1|h1
 ·exact c cs h1
 ·exact h1
def fH.UA{P:Program}{T:fg}{f:FuncId}{args:List AV}{S:Type}{st:S->eD}{k:Nat}(hF:Bs st k){s:S}{Post Post':AV->eD->Prop}(h:fH P T f args (st s) Post)
  (c:∀r H',Post r H'->∃a X,H'=st a++X/\r.low k=true/\Post' r (st a)):fH P T f args (st s) Post':=
 fH.Uc h λr H' d=>by
  obtain⟨a,X,e,g,b⟩:=c r H' d;exact⟨st a,X,e,by rw[hF.len,hF.len],by rw[hF.len];exact g,λcs i=>by rw[hF.len];exact hF.low s a cs i,b⟩
@[simp] theorem Y8(H:List (List AV))(o:Nat)(c:List AV):List.set H o c=gj H o c:=rfl
attribute [simp] Rm Mj Pk M1 KH FP NI D2 Lh
end Go.mS
namespace Go.mS
open Go Go.hJ
def gP(P:Program)(T:fg)(E:List Nat)(opsA:Array Oper)(q:Bool):List Bool->List Oper->(Fr->eD->Prop)->Fr->eD->Prop
 |_,[],K,fr,H=>K fr H|[],o::rest,K,fr,H=>nc P T E opsA q true o (λfr H=>gP P T E opsA q [] rest K fr H) fr H|b::bs,o::rest,K,fr,H=>nc P T E opsA q b o (λfr H=>gP P T E opsA q bs rest K fr H) fr H
def Il{E:List Nat}{ops:Array Oper}{q:Bool}{P:Program}{T:fg}{K:Fr->eD->Prop}(a:List Bool):∀(l:List Oper) (k:Nat) (fr:Fr) (H:eD),l=ops.toList.drop k->gP P T E ops q (a.drop k) l K fr H->FE P T E ops q (λi=>a.getD i true) (List.range' k l.length) K fr H:=by
 intro l
 induction l with
 |nil=>
  intro k fr H _ h;cases d:a.drop k<;>rw[d] at h<;>exact h
 |cons o l e=>
  intro k fr H c h
  have b:k<ops.toList.length:=by
   rcases sA k ops.toList.length with h'|h'
   ·exact h'
   ·rw[Hh h'] at c;cases c
  have f:=Lm b;rw[f] at c;injection c with g j
  have hi:ops[k]?=some o:=by
   rw[g];simp only[VL];exact PU (by simpa using b)
  simp only[lL,TT,FE,hi]
  have m:a.getD k true=(a.drop k).headD true:=by
   simp only[List.getD,List.headD_eq_head?_getD,List.head?_drop]
  have n:a.drop (k+1)=(a.drop k).tail:=by rw[List.tail_drop]
  rw[m];refine Bg (K:=λfr H=>gP P T E ops q (a.drop (k+1)) l K fr H) (λfr H h=>e (k+1) fr H j h) ?_;rw[n];cases d:a.drop k<;>rw[d] at h<;>exact h
def gI.Te{P:Program}{T:fg}{n:Nat}{Q:Exit->Fr->eD->Prop}{fr:Fr}{H:eD}{id:Nat}{ops:Array Oper}(E:List Nat)(q:Bool)(b:List Bool)(hm:P.follows .mixedOrders=true)(a:yc n ops=true)(c:wH E ops (λi=>b.getD i true)=true)
  (h:gP P T E ops q b ops.toList (Q .normal) fr H):gI P T n (.region id ops true) Q fr H:=by
 refine gI.LN E q (λi=>b.getD i true) hm a c ?_;have:=Il (P:=P) (T:=T) (E:=E) (ops:=ops) (q:=q) (K:=Q .normal) b ops.toList 0 fr H (by rw[List.drop_zero]) (by rw[List.drop_zero];exact h);rw[Rj];simpa using this
def qF(P:Program)(T:fg)(E:List Nat)(ops:Array Oper)(q:Bool)(bs:List Bool)(a:AV)(as:List AV)(d:Option Nat)(rest:List Oper)(K:Fr->eD->Prop)(fr:Fr)(H:eD):Prop:=
 ∃r H',qj P T a as H r H'/\(q=true->H'=H)/\gP P T E ops q bs rest K (fr.put d r) H'
def Bz(P:Program)(T:fg)(E:List Nat)(ops:Array Oper)(q:Bool)(bs:List Bool)(a:AV)(as:List AV)(d:Option Nat)(rest:List Oper)(K:Fr->eD->Prop)(fr:Fr)(H:eD):Prop:=
 ∃r H',qj P T a as H r H'/\gP P T E ops q bs rest K (fr.put d r) H'
section
variable{P:Program} {T:fg} {E:List Nat} {ops:Array Oper} {q:Bool} {bs:List Bool} {rest:List Oper} {K:Fr->eD->Prop} {fr:Fr} {H H':eD} {d:Option Nat} {ty:TypeId} {pos:String} {after:Array Edge}
def qF.fn{g:FuncId}{as:List AV}{r:AV}(h:e9 P T g as H r H')(a:q=true->H'=H)(b:gP P T E ops q bs rest K (fr.put d r) H'):qF P T E ops q bs (.func (.func g) [] []) as d rest K fr H:=by
 refine⟨r,H',?_,a,b⟩;unfold qj rb;simp only[oh,Ah];exact h
def qF.SX{g:FuncId}{b c as a:List AV}{r:AV}(e:b++as++c=a)(h:e9 P T g a H r H')(f:q=true->H'=H)(i:gP P T E ops q bs rest K (fr.put d r) H'):qF P T E ops q bs (.func (.func g) b c) as d rest K fr H:=by
 subst e;exact⟨r,H',h,f,i⟩
def Bz.fn{g:FuncId}{as:List AV}{r:AV}(h:e9 P T g as H r H')(a:gP P T E ops q bs rest K (fr.put d r) H'):Bz P T E ops q bs (.func (.func g) [] []) as d rest K fr H:=by
 refine⟨r,H',?_,a⟩;unfold qj rb;simp only[oh,Ah];exact h
@[simp] theorem Ul{f:Operand}{as:Array Operand}{ts:Array TypeId}:gP P T E ops q (false::bs) ({dst:=d,op:=.call {callee:=.value f,args:=as,argTypes:=ts},type:=ty,pos:=pos,after:=after,guard:=none}::rest) K fr H=Bz P T E ops q bs (ev T fr f) (as.toList.map λx=>(ev T fr x).norm) d rest K fr H:=by
 simp only[gP,nc,jX,ib,Bz,tp,false_implies,FK]
@[simp] theorem Xk(bs:List Bool):gP P T E ops q bs [] K fr H=K fr H:=by cases bs<;>rfl
@[simp] theorem UI{t:TypeId}{x:Operand}:gP P T E ops q (false::bs) ({dst:=d,op:=.load t x,type:=ty,pos:=pos,after:=after,guard:=none}::rest) K fr H=if re ops.toList x (ev T fr x)then(match ua P fr H t (ev T fr x)with|some v=>gP P T E ops q bs rest K (fr.put d v) H|none=>False)else False:=by
 simp only[gP,nc,jX,ib,pC,Bool.not_false,Bool.true_or,Ai]
 split
 ·rename_i v a
  split at a
  ·rename_i b;rw[ee b,a]
  ·cases a
 ·rename_i a
  split at a
  ·rename_i b;rw[ee b,a]
  ·rename_i b;rw[ea b]
@[simp] theorem Tz{t:TypeId}{x y:Operand}:gP P T E ops q (false::bs) ({dst:=none,op:=.store t x y,type:=ty,pos:=pos,after:=after,guard:=none}::rest) K fr H=(re ops.toList x (ev T fr x)=true/\nj P t (ev T fr x) (ev T fr y) (gP P T E ops q bs rest K) fr H):=by
 simp only[gP,nc,jX,ib,FK,tp,false_implies]
@[simp] theorem WO{x:Operand}:gP P T E ops q (true::bs) ({dst:=d,op:=.move x,type:=ty,pos:=pos,after:=after,guard:=none}::rest) K fr H=gP P T E ops q bs rest K (fr.put d (ev T fr x)) H:=rfl
@[simp] theorem TA{x:Operand}:gP P T E ops q (true::bs) ({dst:=d,op:=.assign x,type:=ty,pos:=pos,after:=after,guard:=none}::rest) K fr H=gP P T E ops q bs rest K (fr.put d (ev T fr x)) H:=rfl
@[simp] theorem UC{t:TypeId}:gP P T E ops q (true::bs) ({dst:=d,op:=.alloc t,type:=ty,pos:=pos,after:=after,guard:=none}::rest) K fr H=match lv P t with|some z=>d.any E.contains=false/\la E d z (gP P T E ops q bs rest K) fr H|none=>False:=by
 simp only[gP,nc,jX,ib,SF];rfl
@[simp] theorem VZ{t:TypeId}{x:Operand}:gP P T E ops q (true::bs) ({dst:=d,op:=.load t x,type:=ty,pos:=pos,after:=after,guard:=none}::rest) K fr H=if re ops.toList x (ev T fr x)&&(q||!UG (ev T fr x))then(match ua P fr H t (ev T fr x)with|some v=>gP P T E ops q bs rest K (fr.put d v) H|none=>False)else False:=by
 simp only[gP,nc,jX,ib,pC,PC,KL]
 split
 ·rename_i v a
  split at a
  ·rename_i b;rw[ee b,a]
  ·cases a
 ·rename_i a
  split at a
  ·rename_i b;rw[ee b,a]
  ·rename_i b;rw[ea b]
@[simp] theorem Uw{t:TypeId}{x y:Operand}:gP P T E ops q (true::bs) ({dst:=none,op:=.store t x y,type:=ty,pos:=pos,after:=after,guard:=none}::rest) K fr H=(re ops.toList x (ev T fr x)=true/\ZU (ev T fr x)=true/\nj P t (ev T fr x) (ev T fr y) (gP P T E ops q bs rest K) fr H):=by
 simp only[gP,nc,jX,ib,SF,FK]
@[simp] theorem OR{t n:Nat}{ps:Array (Nat×Operand)}:gP P T E ops q (true::bs) ({dst:=d,op:=.buildSlice t n ps,type:=ty,pos:=pos,after:=after,guard:=none}::rest) K fr H=if d.any E.contains=true then False else match nA P t n (ps.toList.map λp=>(p.1,ev T fr p.2))with|some v=>gP P T E ops q bs rest K (fr.put d v) H|none=>False:=by
 simp only[gP,nc,jX,ib,pC]
 split
 ·rename_i v a
  split at a
  ·cases a
  ·rename_i b;rw[ea b,a]
 ·rename_i a
  split at a
  ·rename_i b;rw[ee b]
  ·rename_i b;rw[ea b,a]
@[simp] theorem S9{t:TypeId}{x i:Operand}{ok:Bool}:gP P T E ops q (true::bs) ({dst:=d,op:=.lookup t x i ok,type:=ty,pos:=pos,after:=after,guard:=none}::rest) K fr H=if q=true then(match uy P H t (ev T fr x) (ev T fr i) ok with|some v=>gP P T E ops q bs rest K (fr.put d v) H|none=>False)else False:=by
 simp only[gP,nc,jX,ib,pC,PC,KL]
 split
 ·rename_i v a
  split at a
  ·rename_i b;rw[ee b,a]
  ·cases a
 ·rename_i a
  split at a
  ·rename_i b;rw[ee b,a]
  ·rename_i b;rw[ea b]
def qF.val{a:AV}{as:List AV}{r:AV}(h:qj P T a as H r H')(b:q=true->H'=H)(c:gP P T E ops q bs rest K (fr.put d r) H'):qF P T E ops q bs a as d rest K fr H:=⟨r,H',h,b,c⟩
@[simp] theorem SV{x y:Operand}{t d:Nat}:gP P T E ops q (true::bs) ({dst:=some d,op:=.call {callee:=.builtin .append,args:=#[x,y],argTypes:=#[t,t]},type:=ty,pos:=pos,after:=after,guard:=none}::rest) K fr H=Ay P t (ev T fr x) (ev T fr y) d (gP P T E ops q bs rest K) fr H:=by
 simp only[gP,nc,jX,ib];exact Fl
@[simp] theorem WU{f:Operand}{as:Array Operand}{ts:Array TypeId}:gP P T E ops q (true::bs) ({dst:=d,op:=.call {callee:=.value f,args:=as,argTypes:=ts},type:=ty,pos:=pos,after:=after,guard:=none}::rest) K fr H=qF P T E ops q bs (ev T fr f) (as.toList.map λx=>(ev T fr x).norm) d rest K fr H:=by
 simp only[gP,nc,jX,ib,SF,qF]
@[simp] theorem W8{as:Array Operand}{ts:Array TypeId}:gP P T E ops q (true::bs) ({dst:=d,op:=.call {callee:=.builtin .len,args:=as,argTypes:=ts},type:=ty,pos:=pos,after:=after,guard:=none}::rest) K fr H=match vL P T fr {callee:=.builtin .len,args:=as,argTypes:=ts}with|some v=>gP P T E ops q bs rest K (fr.put d v) H|none=>False:=rfl
@[simp] theorem XC{as:Array Operand}{ts:Array TypeId}:gP P T E ops q (true::bs) ({dst:=d,op:=.call {callee:=.builtin .max,args:=as,argTypes:=ts},type:=ty,pos:=pos,after:=after,guard:=none}::rest) K fr H=match vL P T fr {callee:=.builtin .max,args:=as,argTypes:=ts}with|some v=>gP P T E ops q bs rest K (fr.put d v) H|none=>False:=rfl
@[simp] theorem V'{c a b:Operand}:gP P T E ops q (true::bs) ({dst:=d,op:=.pick c a b,type:=ty,pos:=pos,after:=after,guard:=none}::rest) K fr H=match ya P T fr {dst:=d,op:=.pick c a b,type:=ty,pos:=pos,after:=after,guard:=none}with|some v=>gP P T E ops q bs rest K (fr.put d v) H|none=>False:=rfl
@[simp] theorem Ua{t:TypeId}{ps:Array (Nat×Operand)}:gP P T E ops q (true::bs) ({dst:=d,op:=.build t ps,type:=ty,pos:=pos,after:=after,guard:=none}::rest) K fr H=match CY P t (ps.toList.map λp=>(p.1,ev T fr p.2))with|some v=>gP P T E ops q bs rest K (fr.put d v) H|none=>False:=rfl
@[simp] theorem Ui{o:BinOp}{t u:TypeId}{x y:Operand}:gP P T E ops q (true::bs) ({dst:=d,op:=.binOp o t x y u,type:=ty,pos:=pos,after:=after,guard:=none}::rest) K fr H=match Jg P o t y (ev T fr x) (ev T fr y)with|some v=>gP P T E ops q bs rest K (fr.put d v) H|none=>False:=rfl
@[simp] theorem VD{o:UnOp}{t:TypeId}{x:Operand}:gP P T E ops q (true::bs) ({dst:=d,op:=.unOp o t x,type:=ty,pos:=pos,after:=after,guard:=none}::rest) K fr H=match W7 o (ev T fr x)with|some v=>gP P T E ops q bs rest K (fr.put d v) H|none=>False:=rfl
@[simp] theorem P4{t i:Nat}{x:Operand}:gP P T E ops q (true::bs) ({dst:=d,op:=.fieldAddr t x i,type:=ty,pos:=pos,after:=after,guard:=none}::rest) K fr H=match rh P t (ev T fr x) i with|some v=>gP P T E ops q bs rest K (fr.put d v) H|none=>False:=rfl
@[simp] theorem P3{t:TypeId}{x i:Operand}:gP P T E ops q (true::bs) ({dst:=d,op:=.indexAddr t x i,type:=ty,pos:=pos,after:=after,guard:=none}::rest) K fr H=match gN P t (ev T fr x) (ev T fr i)with|some v=>gP P T E ops q bs rest K (fr.put d v) H|none=>False:=rfl
@[simp] theorem Uf{t:TypeId}{x:Operand}{lo hi a:Option Operand}:gP P T E ops q (true::bs) ({dst:=d,op:=.slice t x lo hi a,type:=ty,pos:=pos,after:=after,guard:=none}::rest) K fr H=match qe P t (ev T fr x) (lo.map (ev T fr)) (hi.map (ev T fr)) (a.map (ev T fr))with|some v=>gP P T E ops q bs rest K (fr.put d v) H|none=>False:=rfl
@[simp] theorem SB{i:Nat}{x:Operand}:gP P T E ops q (true::bs) ({dst:=d,op:=.extract x i,type:=ty,pos:=pos,after:=after,guard:=none}::rest) K fr H=match ya P T fr {dst:=d,op:=.extract x i,type:=ty,pos:=pos,after:=after,guard:=none}with|some v=>gP P T E ops q bs rest K (fr.put d v) H|none=>False:=rfl
@[simp] theorem Sd{x:Operand}:gP P T E ops q (true::bs) ({dst:=d,op:=.nilCheck x,type:=ty,pos:=pos,after:=after,guard:=none}::rest) K fr H=match ya P T fr {dst:=d,op:=.nilCheck x,type:=ty,pos:=pos,after:=after,guard:=none}with|some v=>gP P T E ops q bs rest K (fr.put d v) H|none=>False:=rfl
@[simp] theorem T_{op:Op}{j:Nat}{want:Bool}:gP P T E ops q (true::bs) ({dst:=d,op:=op,type:=ty,pos:=pos,after:=after,guard:=some (j,want)}::rest) K fr H=match(ops[j]?).bind (·.dst)with
  |some g=>match fr.env g with
   |.sc (.bool b)=>if b=want then gP P T E ops q (true::bs) ({dst:=d,op:=op,type:=ty,pos:=pos,after:=after,guard:=none}::rest) K fr H else gP P T E ops q bs rest K (fr.put d (.tuple [])) H|.tuple _=>gP P T E ops q bs rest K (fr.put d (.tuple [])) H|_=>False
  |none=>False:=by
 simp only[gP,nc,jX]
 cases a:(ops[j]?).bind (·.dst)with
 |none=>rfl|some g=>
  simp only;cases he:fr.env g with
  |sc v=>
   cases v with
   |bool b=>
    simp only
    by_cases hw:b=want
    ·subst hw;simp only[beq_self_eq_true,if_true];rfl
    ·rw[ea hw]
     have:(b==want)=false:=by simpa using hw
     rw[this]
   |_=>rfl
  |_=>rfl
end
end Go.mS
namespace Go.mS
open Go Go.hJ
def m5(k:Nat):Option Nat->AV
 |none=>.sc (.pointer none)|some p=>.fE (k+p) 0
@[simp] theorem Yn(k:Nat):m5 k none=.sc (.pointer none):=rfl
@[simp] theorem Zp(k p:Nat):m5 k (some p)=.fE (k+p) 0:=rfl
@[simp] theorem ZB(k:Nat)(x:Option Nat):(m5 k x).hX=true:=by cases x<;>rfl
@[simp] theorem Xg(k:Nat)(x:Option Nat):(m5 k x).cells=[m5 k x]:=by cases x<;>rfl
@[simp] theorem aad(k:Nat)(x:Option Nat):fX (m5 k x)=true:=by cases x<;>rfl
@[simp] theorem YY(k:Nat)(x:Option Nat):(m5 k x).norm=m5 k x:=by cases x<;>rfl
@[simp] theorem Xl(k:Nat)(x:Option Nat):(m5 k x).lr=m5 k x:=by cases x<;>rfl
@[simp] theorem XL(P:Program)(ty:TypeId)(k:Nat)(x:Option Nat):ss P ty (m5 k x)=match gz P ty with|some (false,_)=>true|_=>false:=by
 cases x with
 |none=>exact SE P ty _|some p=>exact ON P ty _ _
def vS{C:Type}(c:Nat->C->List AV)(k:Nat)(l:List C):eD:=l.map (c k)
@[simp] theorem Tq{C:Type}(c:Nat->C->List AV)(k:Nat)(l:List C):(vS c k l).length=l.length:=by simp[vS]
@[simp] theorem Xo{C:Type}(c:Nat->C->List AV)(k:Nat)(l:List C)(p:Nat):(vS c k l)[p]?=(l[p]?).map (c k):=by simp[vS]
def p9{C:Type}{c:Nat->C->List AV}{k:Nat}{l:List C}{p:Nat}{x:C}{cs:List AV}(h:cs=c k x):gj (vS c k l) p cs=vS c k (l.set p x):=by
 subst h;simp only[gj,vS,List.map_set]
def II{C:Type}{c:Nat->C->List AV}{k:Nat}{l:List C}{x:C}{cs:List AV}(h:cs=c k x):vS c k l++[cs]=vS c k (l++[x]):=by
 subst h;simp[vS]
def vZ{C:Type}{l:List C}{p:Nat}{x y:C}(h:l[p]?=some y):(l.set p x)[p]?=some x:=by
 have:p<l.length:=(pG.1 h).1;simp[this]
def Oa{C:Type}{l:List C}{x:C}:(l++[x])[l.length]?=some x:=by simp
def fH.XP{C:Type}{c:Nat->C->List AV}{P:Program}{T:fg}{f:FuncId}{args:List AV}{H:eD}{Post:AV->eD->Prop}(h:fH P T f args (H++vS c H.length []) Post):fH P T f args H Post:=by
 simpa[vS] using h
section
variable{P:Program} {t e:TypeId} {k:Nat} {x:Option Nat}
def R8(hu:P.underlying t=some (.pointer e)):n5 P .eql t (m5 k x) (.sc (.pointer none))=some (.sc (.bool x.isNone)):=by
 cases x<;>simp[n5,rv,hu]
def RE(hu:P.underlying t=some (.pointer e)):n5 P .neq t (m5 k x) (.sc (.pointer none))=some (.sc (.bool x.isSome)):=by
 cases x<;>simp[n5,rv,hu]
end
end Go.mS
namespace Go.mS
open Go Go.hJ
def tu{α:Type}(f:α->AV)(L:List α)(k:Nat):List AV:=(L.map f).flatMap AV.cells++EF k
@[irreducible] def LR(i sz:Nat):Nat:=i*sz
def EY(i sz:Nat):LR i sz=i*sz:=by unfold LR;rfl
section
variable{α:Type} {f:α->AV} {L:List α} {k sz:Nat}
def qD(h:∀x,(f x).cells.length=sz)(L:List α):((L.map f).flatMap AV.cells).length=L.length*sz:=by
 rw[rQ (sz:=sz)]
 ·simp
 ·intro x a;obtain⟨y,_,rfl⟩:=od.1 a;exact h y
def vP(h:∀x,(f x).cells.length=sz):(tu f L k).length=L.length*sz+k:=by
 unfold tu;rw[so,qD h];simp[EF]
def zL(h:∀x,(f x).cells.length=sz):(tu f L k).take (L.length*sz)=(L.map f).flatMap AV.cells:=by
 unfold tu;rw[Wu (by rw[qD h];exact jh _),Tf (by rw[qD h];exact jh _)]
def Qr(h:∀x,(f x).cells.length=sz){i:Nat}{y:α}(hi:i<L.length):setCells (tu f L k) (i*sz) (f y).cells=tu f (L.set i y) k:=by
 unfold setCells tu;have hlen:=qD h L
 have hle:i*sz+sz<=L.length*sz:=by
  rw[<-OV];exact JT _ hi
 rw[h y,Wu (by omega),List.drop_append_of_le_length (by omega),<-ux]
 congr 1
 have a:L.set i y=L.take i++y::L.drop (i+1):=List.set_eq_take_append_cons_drop▸(by rw[ee hi]);rw[a,V6,zf,R5,AZ]
 have hm:∀x∈L.map f,x.cells.length=sz:=by
  intro x b;obtain⟨z,_,rfl⟩:=od.1 b;exact h z
 have c:i*sz+sz=(i+1)*sz:=by rw[OV]
 rw[c,<-CL hm,<-x_ hm,List.map_take,List.map_drop,ux]
end
def Gx{α:Type}{f:α->AV}(a:∀x,(f x).cells.map AV.lr=(f x).cells)(L:List α):(L.map f).flatMap AV.cells=((L.map f).flatMap AV.cells).map AV.lr:=by
 induction L with
 |nil=>rfl|cons x L b=>simp only[zf,AZ,V6,a,<-b]
def si.Wo{P:Program}{t e sz d:Nat}{s x:AV}{K:Fr->eD->Prop}{fr:Fr}{H:eD}{α:Type}{f:α->AV}(m:List α){b:Tag}
  (c:qG P t=some (e,sz)) (g:∃k,lv P e=some k) (h:∀x,(f x).cells.length=sz) (hlen:yl m=true) (hs:s=.slice .full []) (o:x=.slice b (m.map f))
  (p:∀cap,m.length<=cap->K {fr with env:=hQ fr.env d (.we d (fr.gen d+1) m.length cap),box:=hQ fr.box d (some (tu f m ((cap-m.length)*sz))),gen:=hQ fr.gen d (fr.gen d+1)} H):si P t s x d K fr H:=by
 subst hs;subst o
 have n:0<m.length/\m.length<=Kw:=by simpa[yl] using hlen
 have i:∀l:List α,mv sz (l.map f)=true:=λl=>by cases l with|nil=>rfl|cons a l=>simp[h]
 obtain⟨k,g⟩:=g;refine .inr ?_;unfold QE;rw[c];refine⟨i m,by rw[g];rfl,by simpa using n.1,rfl,by simpa[nt,Kw] using n.2,λcap q=>?_⟩
 have j:m.length<=cap:=by simpa using q
 have:=p cap j;simp only[xY,List.flatMap_nil,oh,wE,vt,F8];exact this
def si.mh{P:Program}{t e sz d:Nat}{s x:AV}{K:Fr->eD->Prop}{fr:Fr}{H:eD}{α:Type}{f:α->AV}(L m:List α){cap:Nat}{n:Tag}
  (o:qG P t=some (e,sz)) (p:∃y,lv P e=some y) (c:∀x,(f x).cells.length=sz) (hlen:gf L m=true) (hm:0<m.length) (hs:s=.we d (fr.gen d) L.length cap) (B:x=.slice n (m.map f))
  (C:fr.box d=some (tu f L ((cap-L.length)*sz))) (q:L.length<=cap)
  (z:∀A b,(gv L m).length<=b->K {fr with env:=hQ fr.env d (.we d A (gv L m).length b),box:=hQ fr.box d (some (tu f (gv L m) ((b-(gv L m).length)*sz))),gen:=hQ fr.gen d A} H):si P t s x d K fr H:=by
 subst hs;subst B;have D:L.length+m.length<=Kw:=LO hlen
 have r:∀l:List α,mv sz (l.map f)=true:=λl=>by cases l with|nil=>rfl|cons a l=>simp[c]
 obtain⟨y,p⟩:=p;have u:=qD c L;have v:=qD c m;have g:(gv L m).length=L.length+m.length:=yK L m
 have i:(L.map f).flatMap AV.cells++(m.map f).flatMap AV.cells=((gv L m).map f).flatMap AV.cells:=by simp[gv]
 refine .inr ?_;unfold QE;rw[o];refine⟨r m,by rw[p];rfl,by simpa using hm,rfl,by simpa[nt,Kw] using D,?_⟩;rw[C];simp only[F8];refine⟨?_,λE=>?_,λb I F=>?_⟩
 ·rw[vP c,Nat.sub_mul];have:=JT sz q;omega
 ·have k:=z (fr.gen d) cap (by rw[g];exact E)
  have G:hQ fr.gen d (fr.gen d)=fr.gen:=by
   funext j
   simp only[hQ]
   split
   ·rename_i h;rw[h]
   ·rfl
  have w:setCells (tu f L ((cap-L.length)*sz)) (L.length*sz) ((m.map f).flatMap AV.cells)=tu f (gv L m) ((cap-(gv L m).length)*sz):=by
   unfold setCells;rw[zL c];unfold tu;rw[<-i,Vk,Hh (by omega),oh,u,v,g]
   have:L.length*sz+m.length*sz-L.length*sz=m.length*sz:=by omega
   rw[this];unfold EF;rw[List.drop_replicate,<-Nat.sub_mul,Nat.sub_sub]
  rw[G,<-w,g] at k;exact k
 ·have k:=z (fr.gen d+1) b (by rw[g];exact F)
  have w:(tu f L ((cap-L.length)*sz)).take (L.length*sz)++(m.map f).flatMap AV.cells++EF ((b-(L.length+m.length))*sz)=tu f (gv L m) ((b-(gv L m).length)*sz):=by
   rw[zL c,g];unfold tu;rw[i]
  unfold xY;rw[w,<-g];exact k
@[simp] theorem YR{P:Program}{t:TypeId}{b g n c:Nat}:Ib P t (.we b g n c)=match P.underlying t with|some (.slice _)=>some (.sc (.int .i64 n))|some (.array n _)=>some (.sc (.int .i64 n))|_=>none:=by
 unfold Ib;cases P.underlying t with
 |none=>rfl|some y=>cases y<;>rfl
@[simp] theorem Sa{P:Program}{t:TypeId}{k:IntKind}{a:Int}{b g n c:Nat}:gN P t (.we b g n c) (.sc (.int k a))=match P.underlying t with
  |some (.slice e)=>match gz P e with
   |some (_,sz)=>if 0<=a/\a<(n:Int)then some (.eB b g (LR a.toNat sz))else none|none=>none
  |_=>none:=by
 unfold gN;simp only[EY];cases P.underlying t with
 |none=>rfl|some y=>cases y<;>rfl
def yL(P:Program)(t:TypeId)(b g i sz:Nat)(v:AV)(K:Fr->eD->Prop)(fr:Fr)(H:eD):Prop:=nj P t (.eB b g (LR i sz)) v K fr H
@[simp high] theorem Ut{P:Program}{t:TypeId}{b g i sz:Nat}{v:AV}{K:Fr->eD->Prop}{fr:Fr}{H:eD}:nj P t (.eB b g (LR i sz)) v K fr H=yL P t b g i sz v K fr H:=rfl
def yL.arr{P:Program}{t:TypeId}{b g sz k:Nat}{a:Int}{bl:Bool}{v:AV}{K:Fr->eD->Prop}{fr:Fr}{H:eD}{α:Type}{f:α->AV}{L:List α}{x:α}(y:α)(h:gz P t=some (bl,sz))(c:∀x,(f x).cells.length=sz)
  (e:fX (f y)=true) (hi:eI L a=some x) (hg:g=fr.gen b) (i:fr.box b=some (tu f L k)) (j:v=f y) (l:K {fr with box:=hQ fr.box b (some (tu f (wV L a y) k))} H):yL P t b g a.toNat sz v K fr H:=by
 subst j;have hi':=L' hi;have d:=(pG.1 hi').1
 have hle:a.toNat*sz+sz<=L.length*sz:=by
  rw[<-OV];exact JT _ d
 unfold yL;simp only[nj,h,i];refine⟨hg,c y,by rw[EY,vP c];omega,e,?_⟩;rw[EY,Qr c d];exact l
def iy.Lc{α β:Type}{R:α->β->Prop}:∀{as:List α} {bs:List β} {i:Nat} {a0 a:α},iy R as bs->as[i]?=some a0->(∀b,bs[i]?=some b->R a b)->iy R (as.set i a) bs
 |_,_,_,_,_,.nil,h,_=>by simp at h
 |_,_,0,_,_,.cons d c,_,h=>.cons (h _ rfl) c|_,_,i+1,_,_,.cons d c,e,h=>.cons d (iy.Lc c (by simpa using e) (λb f=>h b (by simpa using f)))
section
variable{P:Program} {T:fg} {n B0:Nat} {ρ:Maps} {F:lE} {R:Nat->pP} {fr:Fr} {H:eD} {a:Act} {w:World}
def WR.unbox(h:WR T n B0 ρ F R fr H a w){d:Nat}{cs:List AV}(x:fr.box d=some cs):∃p,p (ρ.L d (fr.gen d))=.free/\WR T n B0 ρ F p {fr with box:=hQ fr.box d none} H a w:=by
 obtain⟨D,y,E,vs,ty,G,I⟩:=h.box d cs x
 let p:Nat->pP:=hQ R (ρ.L d (fr.gen d)) .free
 have i:∀b,R b≠ .box d->p b=R b:=by
  intro b f;show hQ R (ρ.L d (fr.gen d)) .free b=R b;unfold hQ;rw[ea];rintro rfl;exact f y
 refine⟨p,by show hQ R _ _ _=_;simp[hQ],⟨h.g,h.size,h.defers,h.env,h.hn,h.lg,h.ag,?_,?_,?_,?_,?_,h.rl⟩⟩
 ·intro r s l;simp only[hQ] at l
  by_cases he:r=d
  ·subst he;simp at l
  ·rw[ea he] at l;obtain⟨t,q,u⟩:=h.box r s l;exact⟨t,by rw[i _ (by rw[q];simp[he])];exact q,u⟩
 ·intro k m z b c sz A;obtain⟨t,q,u⟩:=h.tok k m z b c sz A;exact⟨t,by rw[i _ (by rw[q];simp)];exact q,u⟩
 ·intro b j v B
  by_cases f:b=ρ.L d (fr.gen d)
  ·subst f;intro r;show hQ R _ _ _≠_;simp[hQ]
  ·have e:p b=R b:=by show hQ R _ _ _=_;simp[hQ,f]
   rw[e];exact h.rL b j v B
 ·intro o C;have:=h.oi o C;rw[i _ (by rw[this];simp)];exact this
 ·intro b f;have:=h.mu b f;rw[i _ (by rw[this];simp)];exact this
def iy.OM{F:lE}{ρ:Maps}{cs:List AV}{vs:List Value}(h:iy (jY F ρ) cs vs):iy (ia F ρ.G ρ.n) (cs.map AV.lr) vs:=h.w8 AV.lr λ_ _ _ h=>h.lr
def WR.IW(h:WR T n B0 ρ F R fr H a w){d len cap sz:Nat}{cs els:List AV}(z:fr.box d=some cs)(D:els.length=len)(hs:∀x∈els,x.cells.length=sz)
  (A:els.flatMap AV.cells=(cs.take (len*sz)).map AV.lr) (hle:len*sz<=cs.length) (E:len<=cap) (q:cap<=maxLen):∃F' r,tZ F F' ρ ρ/\(∀b j,b<B0->F' b j=F b j)/\WR T n B0 ρ F' r {fr with box:=hQ fr.box d none} H a w/\ia F' ρ.G ρ.n (.slice .iN els) (.slice (some ⟨ρ.L d (fr.gen d),0,none⟩) len cap):=by
 obtain⟨P,I,B,vs,ty,J,s⟩:=h.box d cs z;obtain⟨r,i,hw⟩:=h.unbox z
 have hF:∀j,F (ρ.L d (fr.gen d)) j=none:=by
  intro j;cases K:F (ρ.L d (fr.gen d)) j with
  |none=>rfl|some v=>
   exact absurd I (h.rL _ j v K d)
 have M:vs.toList.length=cs.length:=s.length.symm
 have N:(vs.toList.take (len*sz)).length=len*sz:=by rw[yq];omega
 obtain⟨m,t⟩:=hw.freeze (us:=vs.toList.take (len*sz)) (k:=(vs.toList.take (len*sz)).length) i hF J (λu hu=>ky s B u hu) (by
  intro j v _ p;rw[HW] at p
  split at p
  ·simpa using p
  ·cases p)
 refine⟨_,r,m,λb j O=>v_ (by omega),t,?_⟩
 have e:iy (ia F ρ.G ρ.n) (els.flatMap AV.cells) (vs.toList.take (len*sz)):=by
  rw[A];exact(s.take (len*sz)).OM
 have C:=ia.slice (F:=lB F (ρ.L d (fr.gen d)) (vs.toList.take (len*sz)).length (vs.toList.take (len*sz))) (G:=ρ.G) (n:=ρ.n) (tag:=.iN) (l:=els) (b:=ρ.L d (fr.gen d)) (o:=0)
  (base:=some ⟨ρ.L d (fr.gen d),0,none⟩) (cap:=cap) (sz:=sz) (vs:=vs.toList.take (len*sz)) (.pN (e.mono λ_ _ _ h=>h.grow m.g)) (zl _ _ _) (λ_=>rfl) hs (by
   intro c f;rw[A] at f
   exact zQ (λc y=>B c (DA y)) c f) (by omega) q (.inl rfl)
 rw[D] at C;exact C
def gI.Zy{α:Type}{c:Code}{Q:Exit->Fr->eD->Prop}{f:α->AV}(t:Nat){L:List α}{k sz d g cap:Nat}(l:∀x,(f x).cells.length=sz)(o:∀x,(f x).cells.map AV.lr=(f x).cells)
  (he:fr.env t=.we d g L.length cap) (hg:g=fr.gen d) (C:fr.box d=some (tu f L k))
  (h:gI P T n c Q {fr with env:=hQ fr.env t (.slice .iN (L.map f)),box:=hQ fr.box d none} H):gI P T n c Q fr H:=by
 intro G0 F0 n0 w0 a w hs;refine h G0 F0 n0 w0 a w ?_;obtain⟨ρ,F,R,hw,q⟩:=hs;have m:=hw.env t;rw[he] at m;obtain⟨D,E,r,s⟩:=ze m
 have u:∀x∈L.map f,x.cells.length=sz:=by
  intro x q;obtain⟨y,_,rfl⟩:=od.1 q;exact l y
 obtain⟨F',G,v,z,i,I⟩:=hw.IW (els:=L.map f) (len:=L.length) (cap:=cap) (sz:=sz) C (by simp) u (by rw[zL l];exact Gx o L) (by rw[vP l];omega) r s;refine⟨ρ,F',G,⟨i.g,i.size,i.defers,?_,i.hn,i.lg,i.ag,i.box,i.tok,i.rL,i.oi,i.mu,i.rl⟩,?_⟩
 ·intro B;show hI F' ρ (hQ fr.env t (.slice .iN (L.map f)) B) _;simp only[hQ]
  split
  ·rename_i e;subst e;rw[D,hg];exact .p I
  ·exact(hw.env B).grow v
 ·exact q.freeze λb j A=>z b j A
def gI.Z2{α:Type}{c:Code}{Q:Exit->Fr->eD->Prop}{f:α->AV}(d2 i:Nat){cs2:List AV}{L:List α}{k sz d g cap:Nat}(m:∀x,(f x).cells.length=sz)(t:∀x,(f x).cells.map AV.lr=(f x).cells)
  (v:d2≠d) (he:fr.box d2=some cs2) (hi:cs2[i]?=some (.we d g L.length cap)) (hg:g=fr.gen d) (V:fr.box d=some (tu f L k))
  (h:gI P T n c Q {fr with box:=hQ (hQ fr.box d none) d2 (some (cs2.set i (.slice .iN (L.map f))))} H):gI P T n c Q fr H:=by
 intro G0 F0 n0 w0 a w hs;refine h G0 F0 n0 w0 a w ?_;obtain⟨ρ,F,R,hw,z⟩:=hs;obtain⟨_,_,A,B,W,C,D⟩:=hw.box d2 cs2 he;obtain⟨u,hu,E⟩:=D.get hi;obtain⟨X,Y,G,I⟩:=ze (.cell E)
 have J:∀x∈L.map f,x.cells.length=sz:=by
  intro x z;obtain⟨y,_,rfl⟩:=od.1 z;exact m y
 obtain⟨F',Z,aa,K,e,hp⟩:=hw.IW (els:=L.map f) (len:=L.length) (cap:=cap) (sz:=sz) V (by simp) J (by rw[zL m];exact Gx t L) (by rw[vP m];omega) G I
 have M:({fr with box:=hQ fr.box d none}:Fr).box d2=some cs2:=by simp[hQ,v,he]
 refine⟨ρ,F',Z,⟨e.g,e.size,e.defers,e.env,e.hn,e.lg,e.ag,?_,e.tok,e.rL,e.oi,e.mu,e.rl⟩,?_⟩
 ·intro o N l;simp only[hQ] at l
  by_cases q:o=d2
  ·subst q;simp only[if_true,sH] at l;subst l;obtain⟨e1,e2,e3,vs',r,U,e5⟩:=e.box o cs2 M;refine⟨e1,e2,?_,vs',r,U,?_⟩
   ·intro c hc;rcases Ya hc with h'|h'
    ·exact e3 c h'
    ·rw[h'];rfl
   ·have O:vs'.toList=B.toList:=by
     have:w.heap[ρ.L o (fr.gen o)]?=some (.cells vs' r (0,0)):=U;rw[C] at this;injection this with this;injection this with this;rw[this]
    refine iy.Lc e5 hi ?_;intro u' s;rw[O,hu] at s;obtain rfl:=iw s;rw[X,hg];exact .p hp
  ·simp only[ea q] at l;exact e.box o N (by simpa[hQ] using l)
 ·exact z.freeze λb j S=>K b j S
end
end Go.mS
