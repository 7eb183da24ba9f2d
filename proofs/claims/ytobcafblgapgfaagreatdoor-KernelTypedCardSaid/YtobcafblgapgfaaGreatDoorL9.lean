/- Part of the proof of KernelTyped: layer. -/
import Derived.Test.YtobcafblgapgfaaGreatDoorL8
set_option linter.all false
namespace Go.m7
open Go
mutual
def AV.low(k:Nat):AV->Bool
 |.undef=>true|.sc _=>true|.np x=>x.low k|.eC _ _ _=>true|.fO o _=>decide (o<k)|.slice _ l=>AV.iZ k l|.agg l=>AV.iZ k l|.tuple l=>AV.iZ k l|.func _ f c=>AV.iZ k f&&AV.iZ k c|.iface _ x=>x.low k|.wM _ _ _ _=>true|.mh o=>decide (o<k)|.zz o _ _ _=>decide (o<k)|.tZ _ xs=>AV.iZ k xs|.ns o _ _=>decide (o<k)
def AV.iZ(k:Nat):List AV->Bool
 |[]=>true|x::l=>x.low k&&AV.iZ k l
end
def AV.xJ{k:Nat}:∀{l:List AV},AV.iZ k l=true↔∀x∈l,x.low k=true
 |[]=>by simp[AV.iZ]|x::l=>by simp[AV.iZ,AV.xJ (l:=l)]
def AV.JF{k:Nat}{x:AV}(h:x.low k=true):AV.iZ k x.cells=true:=by
 cases x<;>simp_all [AV.low,AV.cells,AV.iZ]
def AV.S_{k:Nat}{l:List AV}(h:AV.iZ k l=true):AV.iZ k (l.flatMap AV.cells)=true:=by
 rw[AV.xJ] at h|-;intro x a;obtain⟨y,hy,a⟩:=P3.1 a;exact AV.xJ.1 (AV.JF (h y hy)) x a
@[simp] theorem AV.aaF{α:Type}{k:Nat}(f:α->Value)(l:List α):AV.iZ k (List.map (λn=>AV.sc (f n)) l)=true:=by
 rw[AV.xJ];intro x a;obtain⟨y,_,rfl⟩:=oy.1 a;rfl
section
variable{F:lF} {G:Nat->Nat} {n k:Nat}
mutual
def ib.lower:∀{x v},ib F G n x v->x.low k=true->ib F G k x v
 |_,_,.undef h,_=>.undef h|_,_,.sc h,_=>.sc h|_,_,.np b c d,a=>.np (b.lower (AV.JF (by simpa[AV.low] using a))) c d|_,_,.fO h,a=>.fO (by simpa[AV.low] using a)|_,_,.mh h,a=>.mh (by simpa[AV.low] using a)|_,_,.zz h c d,a=>.zz (by simpa[AV.low] using a) c d|_,_,.slice b c d e f g i j,a=>.slice (b.lower (AV.S_ (by simpa[AV.low] using a))) c d e f g i j|_,_,.agg b c,a=>.agg (b.lower (by simpa[AV.low] using a)) c|_,_,.tuple b,a=>.tuple (b.lower (by simpa[AV.low] using a))|_,_,.func b c,a=>by
  simp only[AV.low,gI] at a;exact .func (b.lower a.1) (c.lower a.2)
 |_,_,.iface b,a=>.iface (b.lower (by simpa[AV.low] using a))
def hU.lower:∀{xs vs},hU F G n xs vs->AV.iZ k xs=true->hU F G k xs vs
 |_,_,.nil,_=>.nil|_,_,.cons b c,a=>by
  simp only[AV.iZ,gI] at a;exact .cons (b.lower a.1) (c.lower a.2)
end
end
def mi.lower{F:lF}{G:Nat->Nat}{n k:Nat}{cs d}(h:mi F G n cs d)(a:AV.iZ k cs=true):mi F G k cs d:=by
 cases h with
 |cells e b c=>exact .cells e ((hU.pS b).lower a).uM c|map b c f g i=>exact .map b ((hU.pS c).lower (by simpa[AV.iZ,AV.low] using a)).uM f g i|iter h=>exact .iter (by simpa[AV.iZ,AV.low] using a)|dead=>exact .dead
def fG.drop{P:Program}{T:fa}{f:FuncId}{args:List AV}{H:eD}{Post Post':AV->eD->Prop}(h:fG P T f args H Post)
  (u:∀r H',Post r H'->∃a X,H'=a++X/\H.length<=a.length/\r.low a.length=true/\(∀cs∈a,AV.iZ a.length cs=true)/\Post' r a):fG P T f args H Post':=by
 refine⟨h.1,λG F w vs hg y=>(h.2 G F w vs hg y).mono ?_⟩;rintro e w' ⟨r,H',v,G',F',m,rfl,k,z,c⟩;obtain⟨a,X,rfl,hlen,A,n,B⟩:=u r H' m
 have l:∀b o v,F b o=some v->F' b o=some v:=by
  intro b o v p
  have hb:b<w.heap.size:=by
   rcases sH b w.heap.size with hb|hb
   ·exact hb
   ·rw[hg.fresh b o hb] at p;cases p
  exact c.mF b o v hb p
 have i:∀o,o<a.length->o<(a++X).length:=λo d=>by rw[qY];omega
 refine⟨r,a,v,G',F',B,rfl,?_,z.lower A,?_⟩
 ·refine⟨k.EX,?_,λo o' d q=>k.inj o o' (i o d) (i o' q),λo j d s=>k.gF o j (i o d) (by rw[tF d];exact s),k.fresh,λg x C=>?_,k.row⟩
  ·intro o cs d;have t:o<a.length:=(pz.1 d).1;obtain⟨D,E,I⟩:=k.mc o cs (by rw[tF t];exact d);exact⟨D,E,I.lower (n cs (Be d))⟩
  ·exact(hg.AO g x C).grow ⟨l,hlen,λo d=>c.hG o d⟩
 ·exact⟨c.os,c.tape,c.output,c.size,hlen,c.hG,λo m J=>c.KM o m (i o J),c.hF,c.mF,c.heap⟩
end Go.m7
namespace Go.m7
open Go
def AV.BQ{k:Nat}{x:AV}(h:AV.iZ k x.cells=true):x.low k=true:=by
 cases x<;>simp_all [AV.low,AV.cells,AV.iZ]
def AV.J'{k:Nat}{l:List AV}(h:AV.iZ k (l.flatMap AV.cells)=true):AV.iZ k l=true:=by
 rw[AV.xJ] at h|-;intro x a;exact AV.BQ (AV.xJ.2 λy hy=>h y (P3.2 ⟨x,a,hy⟩))
section
variable{F:lF} {G:Nat->Nat} {n:Nat}
mutual
def ib.u0:∀{x v},ib F G n x v->x.low n=true
 |_,_,.undef _=>rfl|_,_,.sc _=>rfl|_,_,.np a _ _=>by simpa[AV.low] using AV.BQ a.u0|_,_,.fO h=>by simpa[AV.low] using h|_,_,.mh h=>by simpa[AV.low] using h|_,_,.zz h _ _=>by simpa[AV.low] using h|_,_,.slice a _ _ _ _ _ _ _=>by simpa[AV.low] using AV.J' a.u0|_,_,.agg a _=>by simpa[AV.low] using a.u0|_,_,.tuple a=>by simpa[AV.low] using a.u0|_,_,.func a b=>by simp[AV.low,a.u0,b.u0]|_,_,.iface a=>by simpa[AV.low] using a.u0
def hU.u0:∀{xs vs},hU F G n xs vs->AV.iZ n xs=true
 |_,_,.nil=>rfl|_,_,.cons a b=>by simp[AV.iZ,a.u0,b.u0]
end
end
def mi.u0{F:lF}{G:Nat->Nat}{n:Nat}{cs c}(h:mi F G n cs c):AV.iZ n cs=true:=by
 cases h with
 |cells d a b=>exact(hU.pS a).u0|map a b e f g=>simpa[AV.iZ,AV.low] using(hU.pS b).u0|iter h=>simpa[AV.iZ,AV.low] using h|dead=>rfl
def fG.tK{P:Program}{T:fa}{f:FuncId}{args:List AV}{H:eD}{Post Post':AV->eD->Prop}(h:fG P T f args H Post)
  (d:∀r H',Post r H'->∃X,H'=H++X/\r.low H.length=true/\Post' r H):fG P T f args H Post':=by
 refine⟨h.1,λG F w vs hg g=>?_⟩
 have a:∀cs∈H,AV.iZ H.length cs=true:=by
  intro cs b;obtain⟨o,i⟩:=VV.1 b;obtain⟨m,_,j⟩:=hg.mc o cs i;exact j.u0
 exact(fG.drop (Post':=Post') h λr H' k=>by
  obtain⟨X,e,l,c⟩:=d r H' k
  exact⟨H,X,e,jo _,l,a,c⟩).2 G F w vs hg g
end Go.m7
namespace Go.m7
open Go Go.hI
mutual
def AV.Gd{k n:Nat}(h:k<=n):∀{x:AV},x.low k=true->x.low n=true
 |.undef,_=>rfl|.sc _,_=>rfl|.np x,a=>by simpa[AV.low] using AV.Gd h (x:=x) (by simpa[AV.low] using a)|.eC _ _ _,_=>rfl|.fO o _,a=>by simp[AV.low] at a|-;omega
 |.zz o _ _ _,a=>by simp[AV.low] at a|-;omega
 |.slice _ l,a=>by simpa[AV.low] using AV.rR h (l:=l) (by simpa[AV.low] using a)|.agg l,a=>by simpa[AV.low] using AV.rR h (l:=l) (by simpa[AV.low] using a)|.tuple l,a=>by simpa[AV.low] using AV.rR h (l:=l) (by simpa[AV.low] using a)|.func _ f c,a=>by
  simp only[AV.low,gI] at a|-;exact⟨AV.rR h a.1,AV.rR h a.2⟩
 |.iface _ x,a=>by simpa[AV.low] using AV.Gd h (x:=x) (by simpa[AV.low] using a)|.wM _ _ _ _,_=>rfl|.mh o,a=>by simp[AV.low] at a|-;omega
 |.tZ _ l,a=>by simpa[AV.low] using AV.rR h (l:=l) (by simpa[AV.low] using a)|.ns o _ _,a=>by simp[AV.low] at a|-;omega
def AV.rR{k n:Nat}(h:k<=n):∀{l:List AV},AV.iZ k l=true->AV.iZ n l=true
 |[],_=>rfl|x::l,a=>by
  simp only[AV.iZ,gI] at a|-;exact⟨AV.Gd h a.1,AV.rR h a.2⟩
end
def Jo{H:eD}{o:Nat}{c:List AV}(h:H[o]?=some c):o<H.length:=(pz.1 h).1
def JE{H:eD}{o:Nat}{c:List AV}(h:H[o]?=some c):gb H o c=H:=by
 apply NA;intro i;simp only[gb];rw[Ke]
 split
 ·rename_i e;subst e;rw[ee (Jo h),h]
 ·rfl
def XC(H:eD)(o:Nat):Prop:=o<H.length
def fW{H:eD}{o:Nat}{c:List AV}(h:H[o]?=some c):XC H o:=Jo h
@[simp] theorem ZR(H:eD)(o o':Nat)(c:List AV):XC (gb H o c) o'=XC H o':=by simp[XC]
def SP{H:eD}{o:Nat}{c:List AV}(h:XC H o):(gb H o c)[o]?=some c:=by simp[gb,show o<H.length from h]
def LH{H:eD}{o o':Nat}{c:List AV}(h:o≠o'):(gb H o c)[o']?=H[o']?:=by simp[gb,Ke,h]
def QQ{H:eD}{o o':Nat}{c d e:List AV}(h:o≠o'):gb (gb (gb H o c) o' d) o e=gb (gb H o e) o' d:=by
 simp only[gb];rw[List.set_comm _ _ h.symm,List.set_set]
def NZ{A B:eD}{o:Nat}(h:XC A o):(A++B)[o]?=A[o]?:=tF h
def MN{A B:eD}{o:Nat}{c:List AV}(h:XC A o):gb (A++B) o c=gb A o c++B:=by simp[gb,List.set_append,show o<A.length from h]
def GR{A B:eD}{k i:Nat}(h:A.length=k):(A++B)[k+i]?=B[i]?:=by
 subst h;rw[yy (by omega)]
 congr 1
 omega
def N'{A B:eD}{k:Nat}(h:A.length=k):(A++B)[k]?=B[0]?:=GR (i:=0) h
def EG{A B:eD}{k i:Nat}{c:List AV}(h:A.length=k):gb (A++B) (k+i) c=A++gb B i c:=by
 subst h;simp[gb,List.set_append]
def Nb{A B:eD}{k:Nat}{c:List AV}(h:A.length=k):gb (A++B) k c=A++gb B 0 c:=EG (i:=0) h
@[simp] theorem V6(a:List AV)(l:eD)(c:List AV):gb (a::l) 0 c=c::l:=rfl
@[simp] theorem V5(a:List AV)(l:eD)(i:Nat)(c:List AV):gb (a::l) (i+1) c=a::gb l i c:=rfl
def Sh{H:eD}{o:Nat}{c cs:List AV}(h:cs∈gb H o c):cs∈H\/cs=c:=by
 simp only[gb] at h;exact YR h
def fG.Iy{P:Program}{T:fa}{f:FuncId}{args:List AV}{H:eD}{o:Nat}{c:List AV}{Post:AV->eD->Prop}(h:H[o]?=some c)(a:fG P T f args (gb H o c) Post):fG P T f args H Post:=by
 rwa [JE h] at a
structure BO {S:Type} (st:S->eD) (k:Nat):Prop where
 len:∀s,(st s).length=k
 low:∀s s' cs,cs∈st s'->cs∈st s\/AV.iZ k cs=true
def BO.const{S:Type}(H:eD):BO (λ_:S=>H) H.length:=⟨λ_=>rfl,λ_ _ _ h=>.inl h⟩
def BO.ext{S:Type}{st:S->eD}{k:Nat}(h:BO st k)(X:eD){n:Nat}(hn:k+X.length=n):BO (λs=>st s++X) n:=by
 subst hn;refine⟨λs=>by rw[qY,h.len],λs a cs hc=>?_⟩;rcases sR.1 hc with hc|hc
 ·rcases h.low s a cs hc with h1|h1
  ·exact .inl (UT _ h1)
  ·exact .inr (AV.rR (by omega) h1)
 ·exact .inl (Zv _ hc)
def BO.RK{S:Type}(H:eD)(f:S->eD)(n:Nat)(hn:∀s,(f s).length=n)(b:∀s a cs,cs∈f a->cs∈f s\/AV.iZ (H.length+n) cs=true):BO (λs=>H++f s) (H.length+n):=by
 refine⟨λs=>by rw[qY,hn],λs a cs hc=>?_⟩;rcases sR.1 hc with hc|hc
 ·exact .inl (UT _ hc)
 ·rcases b s a cs hc with h1|h1
  ·exact .inl (Zv _ h1)
  ·exact .inr h1
def fG.VI{P:Program}{T:fa}{f:FuncId}{args:List AV}{H:eD}{Post Post':AV->eD->Prop}(h:fG P T f args H Post)
  (g:∀r H',Post r H'->∃b X,H'=b++X/\b.length=H.length/\r.low H.length=true/\(∀cs∈b,cs∈H\/AV.iZ H.length cs=true)/\Post' r b):fG P T f args H Post':=by
 refine⟨h.1,λG F w vs hg i=>?_⟩
 have c:∀cs∈H,AV.iZ H.length cs=true:=by
  intro cs a;obtain⟨o,j⟩:=VV.1 a;obtain⟨p,_,k⟩:=hg.mc o cs j;exact k.u0
 refine(fG.drop (Post':=Post') h λr H' l=>?_).2 G F w vs hg i;obtain⟨b,X,e,hlen,m,a,d⟩:=g r H' l;refine⟨b,X,e,by omega,by rw[hlen];exact m,λcs n=>?_,d⟩;rw[hlen];rcases a cs n with h1|h1
 ·exact c cs h1
 ·exact h1
def fG.VH{P:Program}{T:fa}{f:FuncId}{args:List AV}{S:Type}{st:S->eD}{k:Nat}(hF:BO st k){s:S}{Post Post':AV->eD->Prop}(h:fG P T f args (st s) Post)
  (c:∀r H',Post r H'->∃a X,H'=st a++X/\r.low k=true/\Post' r (st a)):fG P T f args (st s) Post':=
 fG.VI h λr H' d=>by
  obtain⟨a,X,e,g,b⟩:=c r H' d;exact⟨st a,X,e,by rw[hF.len,hF.len],by rw[hF.len];exact g,λcs i=>by rw[hF.len];exact hF.low s a cs i,b⟩
@[simp] theorem ZS(H:List (List AV))(o:Nat)(c:List AV):List.set H o c=gb H o c:=rfl
attribute [simp] SP LH QQ NZ MN GR N' EG Nb
end Go.m7
namespace Go.m7
open Go Go.hI
def gO(P:Program)(T:fa)(E:List Nat)(opsA:Array Oper)(q:Bool):List Bool->List Oper->(Fr->eD->Prop)->Fr->eD->Prop
 |_,[],K,fr,H=>K fr H|[],o::rest,K,fr,H=>nr P T E opsA q true o (λfr H=>gO P T E opsA q [] rest K fr H) fr H|b::bs,o::rest,K,fr,H=>nr P T E opsA q b o (λfr H=>gO P T E opsA q bs rest K fr H) fr H
def IF{E:List Nat}{ops:Array Oper}{q:Bool}{P:Program}{T:fa}{K:Fr->eD->Prop}(a:List Bool):∀(l:List Oper) (k:Nat) (fr:Fr) (H:eD),l=ops.toList.drop k->gO P T E ops q (a.drop k) l K fr H->Hu P T E ops q (λi=>a.getD i true) (List.range' k l.length) K fr H:=by
 intro l
 induction l with
 |nil=>
  intro k fr H _ h;cases d:a.drop k<;>rw[d] at h<;>exact h
 |cons o l e=>
  intro k fr H c h
  have b:k<ops.toList.length:=by
   rcases sH k ops.toList.length with h'|h'
   ·exact h'
   ·rw[IM h'] at c;cases c
  have f:=J1 b;rw[f] at c;injection c with g j
  have hi:ops[k]?=some o:=by
   rw[g];simp only[W4];exact LI (by simpa using b)
  simp only[ld,Rn,Hu,hi]
  have m:a.getD k true=(a.drop k).headD true:=by
   simp only[List.getD,List.headD_eq_head?_getD,List.head?_drop]
  have n:a.drop (k+1)=(a.drop k).tail:=by rw[List.tail_drop]
  rw[m];refine BL (K:=λfr H=>gO P T E ops q (a.drop (k+1)) l K fr H) (λfr H h=>e (k+1) fr H j h) ?_;rw[n];cases d:a.drop k<;>rw[d] at h<;>exact h
def gJ.TW{P:Program}{T:fa}{n:Nat}{Q:Exit->Fr->eD->Prop}{fr:Fr}{H:eD}{id:Nat}{ops:Array Oper}(E:List Nat)(q:Bool)(b:List Bool)(hm:P.follows .mixedOrders=true)(a:x' n ops=true)(c:xz E ops (λi=>b.getD i true)=true)
  (h:gO P T E ops q b ops.toList (Q .normal) fr H):gJ P T n (.region id ops true) Q fr H:=by
 refine gJ.MX E q (λi=>b.getD i true) hm a c ?_;have:=IF (P:=P) (T:=T) (E:=E) (ops:=ops) (q:=q) (K:=Q .normal) b ops.toList 0 fr H (by rw[Tn]) (by rw[Tn];exact h);rw[We];simpa using this
def qJ(P:Program)(T:fa)(E:List Nat)(ops:Array Oper)(q:Bool)(bs:List Bool)(a:AV)(as:List AV)(d:Option Nat)(rest:List Oper)(K:Fr->eD->Prop)(fr:Fr)(H:eD):Prop:=
 ∃r H',qv P T a as H r H'/\(q=true->H'=H)/\gO P T E ops q bs rest K (fr.put d r) H'
def CU(P:Program)(T:fa)(E:List Nat)(ops:Array Oper)(q:Bool)(bs:List Bool)(a:AV)(as:List AV)(d:Option Nat)(rest:List Oper)(K:Fr->eD->Prop)(fr:Fr)(H:eD):Prop:=
 ∃r H',qv P T a as H r H'/\gO P T E ops q bs rest K (fr.put d r) H'
section
variable{P:Program} {T:fa} {E:List Nat} {ops:Array Oper} {q:Bool} {bs:List Bool} {rest:List Oper} {K:Fr->eD->Prop} {fr:Fr} {H H':eD} {d:Option Nat} {ty:TypeId} {pos:String} {after:Array Edge}
def qJ.fn{g:FuncId}{as:List AV}{r:AV}(h:eZ P T g as H r H')(a:q=true->H'=H)(b:gO P T E ops q bs rest K (fr.put d r) H'):qJ P T E ops q bs (.func (.func g) [] []) as d rest K fr H:=by
 refine⟨r,H',?_,a,b⟩;unfold qv rA;simp only[o_,AH];exact h
def qJ.TV{g:FuncId}{b c as a:List AV}{r:AV}(e:b++as++c=a)(h:eZ P T g a H r H')(f:q=true->H'=H)(i:gO P T E ops q bs rest K (fr.put d r) H'):qJ P T E ops q bs (.func (.func g) b c) as d rest K fr H:=by
 subst e;exact⟨r,H',h,f,i⟩
def CU.fn{g:FuncId}{as:List AV}{r:AV}(h:eZ P T g as H r H')(a:gO P T E ops q bs rest K (fr.put d r) H'):CU P T E ops q bs (.func (.func g) [] []) as d rest K fr H:=by
 refine⟨r,H',?_,a⟩;unfold qv rA;simp only[o_,AH];exact h
@[simp] theorem U9{f:Operand}{as:Array Operand}{ts:Array TypeId}:gO P T E ops q (false::bs) ({dst:=d,op:=.call {callee:=.value f,args:=as,argTypes:=ts},type:=ty,pos:=pos,after:=after,guard:=none}::rest) K fr H=CU P T E ops q bs (ev T fr f) (as.toList.map λx=>(ev T fr x).norm) d rest K fr H:=by
 simp only[gO,nr,j_,ie,CU,tY,false_implies,aaq]
@[simp] theorem YB(bs:List Bool):gO P T E ops q bs [] K fr H=K fr H:=by cases bs<;>rfl
@[simp] theorem VM{t:TypeId}{x:Operand}:gO P T E ops q (false::bs) ({dst:=d,op:=.load t x,type:=ty,pos:=pos,after:=after,guard:=none}::rest) K fr H=if rq ops.toList x (ev T fr x)then(match uq P fr H t (ev T fr x)with|some v=>gO P T E ops q bs rest K (fr.put d v) H|none=>False)else False:=by
 simp only[gO,nr,j_,ie,pP,Bool.not_false,Bool.true_or,AI]
 split
 ·rename_i v a
  split at a
  ·rename_i b;rw[ee b,a]
  ·cases a
 ·rename_i a
  split at a
  ·rename_i b;rw[ee b,a]
  ·rename_i b;rw[ea b]
@[simp] theorem UE{t:TypeId}{x y:Operand}:gO P T E ops q (false::bs) ({dst:=none,op:=.store t x y,type:=ty,pos:=pos,after:=after,guard:=none}::rest) K fr H=(rq ops.toList x (ev T fr x)=true/\nw P t (ev T fr x) (ev T fr y) (gO P T E ops q bs rest K) fr H):=by
 simp only[gO,nr,j_,ie,aaq,tY,false_implies]
@[simp] theorem W'{x:Operand}:gO P T E ops q (true::bs) ({dst:=d,op:=.move x,type:=ty,pos:=pos,after:=after,guard:=none}::rest) K fr H=gO P T E ops q bs rest K (fr.put d (ev T fr x)) H:=rfl
@[simp] theorem Ur{x:Operand}:gO P T E ops q (true::bs) ({dst:=d,op:=.assign x,type:=ty,pos:=pos,after:=after,guard:=none}::rest) K fr H=gO P T E ops q bs rest K (fr.put d (ev T fr x)) H:=rfl
@[simp] theorem U'{t:TypeId}:gO P T E ops q (true::bs) ({dst:=d,op:=.alloc t,type:=ty,pos:=pos,after:=after,guard:=none}::rest) K fr H=match lA P t with|some z=>d.any E.contains=false/\lu E d z (gO P T E ops q bs rest K) fr H|none=>False:=by
 simp only[gO,nr,j_,ie,PI];rfl
@[simp] theorem Wt{t:TypeId}{x:Operand}:gO P T E ops q (true::bs) ({dst:=d,op:=.load t x,type:=ty,pos:=pos,after:=after,guard:=none}::rest) K fr H=if rq ops.toList x (ev T fr x)&&(q||!VC (ev T fr x))then(match uq P fr H t (ev T fr x)with|some v=>gO P T E ops q bs rest K (fr.put d v) H|none=>False)else False:=by
 simp only[gO,nr,j_,ie,pP,So,Sd]
 split
 ·rename_i v a
  split at a
  ·rename_i b;rw[ee b,a]
  ·cases a
 ·rename_i a
  split at a
  ·rename_i b;rw[ee b,a]
  ·rename_i b;rw[ea b]
@[simp] theorem U_{t:TypeId}{x y:Operand}:gO P T E ops q (true::bs) ({dst:=none,op:=.store t x y,type:=ty,pos:=pos,after:=after,guard:=none}::rest) K fr H=(rq ops.toList x (ev T fr x)=true/\isL (ev T fr x)=true/\nw P t (ev T fr x) (ev T fr y) (gO P T E ops q bs rest K) fr H):=by
 simp only[gO,nr,j_,ie,PI,aaq]
@[simp] theorem Qt{t n:Nat}{ps:Array (Nat×Operand)}:gO P T E ops q (true::bs) ({dst:=d,op:=.buildSlice t n ps,type:=ty,pos:=pos,after:=after,guard:=none}::rest) K fr H=if d.any E.contains=true then False else match nQ P t n (ps.toList.map λp=>(p.1,ev T fr p.2))with|some v=>gO P T E ops q bs rest K (fr.put d v) H|none=>False:=by
 simp only[gO,nr,j_,ie,pP]
 split
 ·rename_i v a
  split at a
  ·cases a
  ·rename_i b;rw[ea b,a]
 ·rename_i a
  split at a
  ·rename_i b;rw[ee b]
  ·rename_i b;rw[ea b,a]
@[simp] theorem Uf{t:TypeId}{x i:Operand}{ok:Bool}:gO P T E ops q (true::bs) ({dst:=d,op:=.lookup t x i ok,type:=ty,pos:=pos,after:=after,guard:=none}::rest) K fr H=if q=true then(match uP P H t (ev T fr x) (ev T fr i) ok with|some v=>gO P T E ops q bs rest K (fr.put d v) H|none=>False)else False:=by
 simp only[gO,nr,j_,ie,pP,So,Sd]
 split
 ·rename_i v a
  split at a
  ·rename_i b;rw[ee b,a]
  ·cases a
 ·rename_i a
  split at a
  ·rename_i b;rw[ee b,a]
  ·rename_i b;rw[ea b]
def qJ.val{a:AV}{as:List AV}{r:AV}(h:qv P T a as H r H')(b:q=true->H'=H)(c:gO P T E ops q bs rest K (fr.put d r) H'):qJ P T E ops q bs a as d rest K fr H:=⟨r,H',h,b,c⟩
@[simp] theorem U1{x y:Operand}{t d:Nat}:gO P T E ops q (true::bs) ({dst:=some d,op:=.call {callee:=.builtin .append,args:=#[x,y],argTypes:=#[t,t]},type:=ty,pos:=pos,after:=after,guard:=none}::rest) K fr H=AY P t (ev T fr x) (ev T fr y) d (gO P T E ops q bs rest K) fr H:=by
 simp only[gO,nr,j_,ie];exact Gq
@[simp] theorem Xr{f:Operand}{as:Array Operand}{ts:Array TypeId}:gO P T E ops q (true::bs) ({dst:=d,op:=.call {callee:=.value f,args:=as,argTypes:=ts},type:=ty,pos:=pos,after:=after,guard:=none}::rest) K fr H=qJ P T E ops q bs (ev T fr f) (as.toList.map λx=>(ev T fr x).norm) d rest K fr H:=by
 simp only[gO,nr,j_,ie,PI,qJ]
@[simp] theorem X'{as:Array Operand}{ts:Array TypeId}:gO P T E ops q (true::bs) ({dst:=d,op:=.call {callee:=.builtin .len,args:=as,argTypes:=ts},type:=ty,pos:=pos,after:=after,guard:=none}::rest) K fr H=match wk P T fr {callee:=.builtin .len,args:=as,argTypes:=ts}with|some v=>gO P T E ops q bs rest K (fr.put d v) H|none=>False:=rfl
@[simp] theorem YC{as:Array Operand}{ts:Array TypeId}:gO P T E ops q (true::bs) ({dst:=d,op:=.call {callee:=.builtin .max,args:=as,argTypes:=ts},type:=ty,pos:=pos,after:=after,guard:=none}::rest) K fr H=match wk P T fr {callee:=.builtin .max,args:=as,argTypes:=ts}with|some v=>gO P T E ops q bs rest K (fr.put d v) H|none=>False:=rfl
@[simp] theorem WY{c a b:Operand}:gO P T E ops q (true::bs) ({dst:=d,op:=.pick c a b,type:=ty,pos:=pos,after:=after,guard:=none}::rest) K fr H=match x0 P T fr {dst:=d,op:=.pick c a b,type:=ty,pos:=pos,after:=after,guard:=none}with|some v=>gO P T E ops q bs rest K (fr.put d v) H|none=>False:=rfl
@[simp] theorem Vo{t:TypeId}{ps:Array (Nat×Operand)}:gO P T E ops q (true::bs) ({dst:=d,op:=.build t ps,type:=ty,pos:=pos,after:=after,guard:=none}::rest) K fr H=match DH P t (ps.toList.map λp=>(p.1,ev T fr p.2))with|some v=>gO P T E ops q bs rest K (fr.put d v) H|none=>False:=rfl
@[simp] theorem VL{o:BinOp}{t u:TypeId}{x y:Operand}:gO P T E ops q (true::bs) ({dst:=d,op:=.binOp o t x y u,type:=ty,pos:=pos,after:=after,guard:=none}::rest) K fr H=match JT P o t y (ev T fr x) (ev T fr y)with|some v=>gO P T E ops q bs rest K (fr.put d v) H|none=>False:=rfl
@[simp] theorem Xg{o:UnOp}{t:TypeId}{x:Operand}:gO P T E ops q (true::bs) ({dst:=d,op:=.unOp o t x,type:=ty,pos:=pos,after:=after,guard:=none}::rest) K fr H=match Yd o (ev T fr x)with|some v=>gO P T E ops q bs rest K (fr.put d v) H|none=>False:=rfl
@[simp] theorem QS{t i:Nat}{x:Operand}:gO P T E ops q (true::bs) ({dst:=d,op:=.fieldAddr t x i,type:=ty,pos:=pos,after:=after,guard:=none}::rest) K fr H=match rI P t (ev T fr x) i with|some v=>gO P T E ops q bs rest K (fr.put d v) H|none=>False:=rfl
@[simp] theorem QT{t:TypeId}{x i:Operand}:gO P T E ops q (true::bs) ({dst:=d,op:=.indexAddr t x i,type:=ty,pos:=pos,after:=after,guard:=none}::rest) K fr H=match gN P t (ev T fr x) (ev T fr i)with|some v=>gO P T E ops q bs rest K (fr.put d v) H|none=>False:=rfl
@[simp] theorem VE{t:TypeId}{x:Operand}{lo hi a:Option Operand}:gO P T E ops q (true::bs) ({dst:=d,op:=.slice t x lo hi a,type:=ty,pos:=pos,after:=after,guard:=none}::rest) K fr H=match qj P t (ev T fr x) (lo.map (ev T fr)) (hi.map (ev T fr)) (a.map (ev T fr))with|some v=>gO P T E ops q bs rest K (fr.put d v) H|none=>False:=rfl
@[simp] theorem Tx{i:Nat}{x:Operand}:gO P T E ops q (true::bs) ({dst:=d,op:=.extract x i,type:=ty,pos:=pos,after:=after,guard:=none}::rest) K fr H=match x0 P T fr {dst:=d,op:=.extract x i,type:=ty,pos:=pos,after:=after,guard:=none}with|some v=>gO P T E ops q bs rest K (fr.put d v) H|none=>False:=rfl
@[simp] theorem S7{x:Operand}:gO P T E ops q (true::bs) ({dst:=d,op:=.nilCheck x,type:=ty,pos:=pos,after:=after,guard:=none}::rest) K fr H=match x0 P T fr {dst:=d,op:=.nilCheck x,type:=ty,pos:=pos,after:=after,guard:=none}with|some v=>gO P T E ops q bs rest K (fr.put d v) H|none=>False:=rfl
@[simp] theorem VG{op:Op}{j:Nat}{want:Bool}:gO P T E ops q (true::bs) ({dst:=d,op:=op,type:=ty,pos:=pos,after:=after,guard:=some (j,want)}::rest) K fr H=match(ops[j]?).bind (·.dst)with
  |some g=>match fr.env g with
   |.sc (.bool b)=>if b=want then gO P T E ops q (true::bs) ({dst:=d,op:=op,type:=ty,pos:=pos,after:=after,guard:=none}::rest) K fr H else gO P T E ops q bs rest K (fr.put d (.tuple [])) H|.tuple _=>gO P T E ops q bs rest K (fr.put d (.tuple [])) H|_=>False
  |none=>False:=by
 simp only[gO,nr,j_]
 cases a:(ops[j]?).bind (·.dst)with
 |none=>rfl|some g=>
  simp only;cases he:fr.env g with
  |sc v=>
   cases v with
   |bool b=>
    simp only
    by_cases hw:b=want
    ·subst hw;simp only[beq_self_eq_true,if_true];rfl
    ·rw[ea hw]
     have:(b==want)=false:=by simpa using hw
     rw[this]
   |_=>rfl
  |_=>rfl
end
end Go.m7
namespace Go.m7
open Go Go.hI
def m0(k:Nat):Option Nat->AV
 |none=>.sc (.pointer none)|some p=>.fO (k+p) 0
@[simp] theorem ZM(k:Nat):m0 k none=.sc (.pointer none):=rfl
@[simp] theorem Zi(k p:Nat):m0 k (some p)=.fO (k+p) 0:=rfl
@[simp] theorem aaD(k:Nat)(x:Option Nat):(m0 k x).hZ=true:=by cases x<;>rfl
@[simp] theorem X8(k:Nat)(x:Option Nat):(m0 k x).cells=[m0 k x]:=by cases x<;>rfl
@[simp] theorem abB(k:Nat)(x:Option Nat):fZ (m0 k x)=true:=by cases x<;>rfl
@[simp] theorem Zt(k:Nat)(x:Option Nat):(m0 k x).norm=m0 k x:=by cases x<;>rfl
@[simp] theorem Yf(k:Nat)(x:Option Nat):(m0 k x).lz=m0 k x:=by cases x<;>rfl
@[simp] theorem Zb(P:Program)(ty:TypeId)(k:Nat)(x:Option Nat):sy P ty (m0 k x)=match gy P ty with|some (false,_)=>true|_=>false:=by
 cases x with
 |none=>exact U3 P ty _|some p=>exact QB P ty _ _
def wz{C:Type}(c:Nat->C->List AV)(k:Nat)(l:List C):eD:=l.map (c k)
@[simp] theorem U2{C:Type}(c:Nat->C->List AV)(k:Nat)(l:List C):(wz c k l).length=l.length:=by simp[wz]
@[simp] theorem Yp{C:Type}(c:Nat->C->List AV)(k:Nat)(l:List C)(p:Nat):(wz c k l)[p]?=(l[p]?).map (c k):=by simp[wz]
def qo{C:Type}{c:Nat->C->List AV}{k:Nat}{l:List C}{p:Nat}{x:C}{cs:List AV}(h:cs=c k x):gb (wz c k l) p cs=wz c k (l.set p x):=by
 subst h;simp only[gb,wz,List.map_set]
def Ju{C:Type}{c:Nat->C->List AV}{k:Nat}{l:List C}{x:C}{cs:List AV}(h:cs=c k x):wz c k l++[cs]=wz c k (l++[x]):=by
 subst h;simp[wz]
def wD{C:Type}{l:List C}{p:Nat}{x y:C}(h:l[p]?=some y):(l.set p x)[p]?=some x:=by
 have:p<l.length:=(pz.1 h).1;simp[this]
def Pg{C:Type}{l:List C}{x:C}:(l++[x])[l.length]?=some x:=by simp
def fG.Z5{C:Type}{c:Nat->C->List AV}{P:Program}{T:fa}{f:FuncId}{args:List AV}{H:eD}{Post:AV->eD->Prop}(h:fG P T f args (H++wz c H.length []) Post):fG P T f args H Post:=by
 simpa[wz] using h
section
variable{P:Program} {t e:TypeId} {k:Nat} {x:Option Nat}
def Sl(hu:P.underlying t=some (.pointer e)):oJ P .eql t (m0 k x) (.sc (.pointer none))=some (.sc (.bool x.isNone)):=by
 cases x<;>simp[oJ,sq,hu]
def SX(hu:P.underlying t=some (.pointer e)):oJ P .neq t (m0 k x) (.sc (.pointer none))=some (.sc (.bool x.isSome)):=by
 cases x<;>simp[oJ,sq,hu]
end
end Go.m7
namespace Go.m7
open Go Go.hI
def tP{α:Type}(f:α->AV)(L:List α)(k:Nat):List AV:=(L.map f).flatMap AV.cells++E4 k
@[irreducible] def LL(i sz:Nat):Nat:=i*sz
def Fy(i sz:Nat):LL i sz=i*sz:=by unfold LL;rfl
section
variable{α:Type} {f:α->AV} {L:List α} {k sz:Nat}
def qR(h:∀x,(f x).cells.length=sz)(L:List α):((L.map f).flatMap AV.cells).length=L.length*sz:=by
 rw[rK (sz:=sz)]
 ·simp
 ·intro x a;obtain⟨y,_,rfl⟩:=oy.1 a;exact h y
def wm(h:∀x,(f x).cells.length=sz):(tP f L k).length=L.length*sz+k:=by
 unfold tP;rw[qY,qR h];simp[E4]
def Aa(h:∀x,(f x).cells.length=sz):(tP f L k).take (L.length*sz)=(L.map f).flatMap AV.cells:=by
 unfold tP;rw[Hc (by rw[qR h];exact jo _),V7 (by rw[qR h];exact jo _)]
def R2(h:∀x,(f x).cells.length=sz){i:Nat}{y:α}(hi:i<L.length):setCells (tP f L k) (i*sz) (f y).cells=tP f (L.set i y) k:=by
 unfold setCells tP;have hlen:=qR h L
 have hle:i*sz+sz<=L.length*sz:=by
  rw[<-tl];exact KP _ hi
 rw[h y,Hc (by omega),List.drop_append_of_le_length (by omega),<-uN]
 congr 1
 have a:L.set i y=L.take i++y::L.drop (i+1):=List.set_eq_take_append_cons_drop▸(by rw[ee hi]);rw[a,Ue,Aw,Q_,Bo]
 have hm:∀x∈L.map f,x.cells.length=sz:=by
  intro x b;obtain⟨z,_,rfl⟩:=oy.1 b;exact h z
 have c:i*sz+sz=(i+1)*sz:=by rw[tl]
 rw[c,<-CM hm,<-yz hm,List.map_take,List.map_drop,uN]
end
def Hf{α:Type}{f:α->AV}(a:∀x,(f x).cells.map AV.lz=(f x).cells)(L:List α):(L.map f).flatMap AV.cells=((L.map f).flatMap AV.cells).map AV.lz:=by
 induction L with
 |nil=>rfl|cons x L b=>simp only[Aw,Bo,Ue,a,<-b]
def sg.XK{P:Program}{t e sz d:Nat}{s x:AV}{K:Fr->eD->Prop}{fr:Fr}{H:eD}{α:Type}{f:α->AV}(m:List α){b:Tag}
  (c:qG P t=some (e,sz)) (g:∃k,lA P e=some k) (h:∀x,(f x).cells.length=sz) (hlen:yI m=true) (hs:s=.slice .full []) (o:x=.slice b (m.map f))
  (p:∀cap,m.length<=cap->K {fr with env:=hS fr.env d (.wM d (fr.gen d+1) m.length cap),box:=hS fr.box d (some (tP f m ((cap-m.length)*sz))),gen:=hS fr.gen d (fr.gen d+1)} H):sg P t s x d K fr H:=by
 subst hs;subst o
 have n:0<m.length/\m.length<=Lk:=by simpa[yI] using hlen
 have i:∀l:List α,mA sz (l.map f)=true:=λl=>by cases l with|nil=>rfl|cons a l=>simp[h]
 obtain⟨k,g⟩:=g;refine .inr ?_;unfold Ss;rw[c];refine⟨i m,by rw[g];rfl,by simpa using n.1,rfl,by simpa[nU,Lk] using n.2,λcap q=>?_⟩
 have j:m.length<=cap:=by simpa using q
 have:=p cap j;simp only[ye,List.flatMap_nil,o_,um,uK,G9];exact this
theorem sg.mv{P:Program}{t e sz d:Nat}{s x:AV}{K:Fr->eD->Prop}{fr:Fr}{H:eD}{α:Type}{f:α->AV}(L m:List α){cap:Nat}{n:Tag}
  (o:qG P t=some (e,sz)) (p:∃y,lA P e=some y) (c:∀x,(f x).cells.length=sz) (hlen:gr L m=true) (hm:0<m.length) (hs:s=.wM d (fr.gen d) L.length cap) (B:x=.slice n (m.map f))
  (C:fr.box d=some (tP f L ((cap-L.length)*sz))) (q:L.length<=cap)
  (z:∀A b,(gG L m).length<=b->K {fr with env:=hS fr.env d (.wM d A (gG L m).length b),box:=hS fr.box d (some (tP f (gG L m) ((b-(gG L m).length)*sz))),gen:=hS fr.gen d A} H):sg P t s x d K fr H:=by
 subst hs;subst B;have D:L.length+m.length<=Lk:=MZ hlen
 have r:∀l:List α,mA sz (l.map f)=true:=λl=>by cases l with|nil=>rfl|cons a l=>simp[c]
 obtain⟨y,p⟩:=p;have u:=qR c L;have v:=qR c m;have g:(gG L m).length=L.length+m.length:=z7 L m
 have i:(L.map f).flatMap AV.cells++(m.map f).flatMap AV.cells=((gG L m).map f).flatMap AV.cells:=by simp[gG]
 refine .inr ?_;unfold Ss;rw[o];refine⟨r m,by rw[p];rfl,by simpa using hm,rfl,by simpa[nU,Lk] using D,?_⟩;rw[C];simp only[G9];refine⟨?_,λE=>?_,λb I F=>?_⟩
 ·rw[wm c,Nat.sub_mul];have:=KP sz q;omega
 ·have k:=z (fr.gen d) cap (by rw[g];exact E)
  have G:hS fr.gen d (fr.gen d)=fr.gen:=by
   funext j
   simp only[hS]
   split
   ·rename_i h;rw[h]
   ·rfl
  have w:setCells (tP f L ((cap-L.length)*sz)) (L.length*sz) ((m.map f).flatMap AV.cells)=tP f (gG L m) ((cap-(gG L m).length)*sz):=by
   unfold setCells;rw[Aa c];unfold tP;rw[<-i,TN,IM (by omega),o_,u,v,g]
   have:L.length*sz+m.length*sz-L.length*sz=m.length*sz:=by omega
   rw[this];unfold E4;rw[List.drop_replicate,<-Nat.sub_mul,Nat.sub_sub]
  rw[G,<-w,g] at k;exact k
 ·have k:=z (fr.gen d+1) b (by rw[g];exact F)
  have w:(tP f L ((cap-L.length)*sz)).take (L.length*sz)++(m.map f).flatMap AV.cells++E4 ((b-(L.length+m.length))*sz)=tP f (gG L m) ((b-(gG L m).length)*sz):=by
   rw[Aa c,g];unfold tP;rw[i]
  unfold ye;rw[w,<-g];exact k
@[simp] theorem YG{P:Program}{t:TypeId}{b g n c:Nat}:Ig P t (.wM b g n c)=match P.underlying t with|some (.slice _)=>some (.sc (.int .i64 n))|some (.array n _)=>some (.sc (.int .i64 n))|_=>none:=by
 unfold Ig;cases P.underlying t with
 |none=>rfl|some y=>cases y<;>rfl
@[simp] theorem S2{P:Program}{t:TypeId}{k:IntKind}{a:Int}{b g n c:Nat}:gN P t (.wM b g n c) (.sc (.int k a))=match P.underlying t with
  |some (.slice e)=>match gy P e with
   |some (_,sz)=>if 0<=a/\a<(n:Int)then some (.eC b g (LL a.toNat sz))else none|none=>none
  |_=>none:=by
 unfold gN;simp only[Fy];cases P.underlying t with
 |none=>rfl|some y=>cases y<;>rfl
def zc(P:Program)(t:TypeId)(b g i sz:Nat)(v:AV)(K:Fr->eD->Prop)(fr:Fr)(H:eD):Prop:=nw P t (.eC b g (LL i sz)) v K fr H
@[simp high] theorem U6{P:Program}{t:TypeId}{b g i sz:Nat}{v:AV}{K:Fr->eD->Prop}{fr:Fr}{H:eD}:nw P t (.eC b g (LL i sz)) v K fr H=zc P t b g i sz v K fr H:=rfl
def zc.arr{P:Program}{t:TypeId}{b g sz k:Nat}{a:Int}{bl:Bool}{v:AV}{K:Fr->eD->Prop}{fr:Fr}{H:eD}{α:Type}{f:α->AV}{L:List α}{x:α}(y:α)(h:gy P t=some (bl,sz))(c:∀x,(f x).cells.length=sz)
  (e:fZ (f y)=true) (hi:eJ L a=some x) (hg:g=fr.gen b) (i:fr.box b=some (tP f L k)) (j:v=f y) (l:K {fr with box:=hS fr.box b (some (tP f (xl L a y) k))} H):zc P t b g a.toNat sz v K fr H:=by
 subst j;have hi':=Me hi;have d:=(pz.1 hi').1
 have hle:a.toNat*sz+sz<=L.length*sz:=by
  rw[<-tl];exact KP _ d
 unfold zc;simp only[nw,h,i];refine⟨hg,c y,by rw[Fy,wm c];omega,e,?_⟩;rw[Fy,R2 c d];exact l
def iA.LM{α β:Type}{R:α->β->Prop}:∀{as:List α} {bs:List β} {i:Nat} {a0 a:α},iA R as bs->as[i]?=some a0->(∀b,bs[i]?=some b->R a b)->iA R (as.set i a) bs
 |_,_,_,_,_,.nil,h,_=>by simp at h
 |_,_,0,_,_,.cons d c,_,h=>.cons (h _ rfl) c|_,_,i+1,_,_,.cons d c,e,h=>.cons d (iA.LM c (by simpa using e) (λb f=>h b (by simpa using f)))
section
variable{P:Program} {T:fa} {n B0:Nat} {ρ:Maps} {F:lF} {R:Nat->pX} {fr:Fr} {H:eD} {a:Act} {w:World}
def WR.unbox(h:WR T n B0 ρ F R fr H a w){d:Nat}{cs:List AV}(x:fr.box d=some cs):∃p,p (ρ.L d (fr.gen d))=.free/\WR T n B0 ρ F p {fr with box:=hS fr.box d none} H a w:=by
 obtain⟨D,y,E,vs,ty,G,I⟩:=h.box d cs x
 let p:Nat->pX:=hS R (ρ.L d (fr.gen d)) .free
 have i:∀b,R b≠ .box d->p b=R b:=by
  intro b f;show hS R (ρ.L d (fr.gen d)) .free b=R b;unfold hS;rw[ea];rintro rfl;exact f y
 refine⟨p,by show hS R _ _ _=_;simp[hS],⟨h.g,h.size,h.defers,h.env,h.hn,h.lg,h.ag,?_,?_,?_,?_,?_,h.rF⟩⟩
 ·intro r s l;simp only[hS] at l
  by_cases he:r=d
  ·subst he;simp at l
  ·rw[ea he] at l;obtain⟨t,q,u⟩:=h.box r s l;exact⟨t,by rw[i _ (by rw[q];simp[he])];exact q,u⟩
 ·intro k m z b c sz A;obtain⟨t,q,u⟩:=h.tok k m z b c sz A;exact⟨t,by rw[i _ (by rw[q];simp)];exact q,u⟩
 ·intro b j v B
  by_cases f:b=ρ.L d (fr.gen d)
  ·subst f;intro r;show hS R _ _ _≠_;simp[hS]
  ·have e:p b=R b:=by show hS R _ _ _=_;simp[hS,f]
   rw[e];exact h.rZ b j v B
 ·intro o C;have:=h.oz o C;rw[i _ (by rw[this];simp)];exact this
 ·intro b f;have:=h.mB b f;rw[i _ (by rw[this];simp)];exact this
def iA.QH{F:lF}{ρ:Maps}{cs:List AV}{vs:List Value}(h:iA (j8 F ρ) cs vs):iA (ib F ρ.G ρ.n) (cs.map AV.lz) vs:=h.xm AV.lz λ_ _ _ h=>h.lz
def WR.JI(h:WR T n B0 ρ F R fr H a w){d len cap sz:Nat}{cs els:List AV}(z:fr.box d=some cs)(D:els.length=len)(hs:∀x∈els,x.cells.length=sz)
  (A:els.flatMap AV.cells=(cs.take (len*sz)).map AV.lz) (hle:len*sz<=cs.length) (E:len<=cap) (q:cap<=maxLen):∃F' r,ur F F' ρ ρ/\(∀b j,b<B0->F' b j=F b j)/\WR T n B0 ρ F' r {fr with box:=hS fr.box d none} H a w/\ib F' ρ.G ρ.n (.slice .iP els) (.slice (some ⟨ρ.L d (fr.gen d),0,none⟩) len cap):=by
 obtain⟨P,I,B,vs,ty,J,s⟩:=h.box d cs z;obtain⟨r,i,hw⟩:=h.unbox z
 have hF:∀j,F (ρ.L d (fr.gen d)) j=none:=by
  intro j;cases K:F (ρ.L d (fr.gen d)) j with
  |none=>rfl|some v=>
   exact absurd I (h.rZ _ j v K d)
 have M:vs.toList.length=cs.length:=s.length.symm
 have N:(vs.toList.take (len*sz)).length=len*sz:=by rw[yQ];omega
 obtain⟨m,t⟩:=hw.freeze (us:=vs.toList.take (len*sz)) (k:=(vs.toList.take (len*sz)).length) i hF J (λu hu=>kH s B u hu) (by
  intro j v _ p;rw[I2] at p
  split at p
  ·simpa using p
  ·cases p)
 refine⟨_,r,m,λb j O=>wT (by omega),t,?_⟩
 have e:iA (ib F ρ.G ρ.n) (els.flatMap AV.cells) (vs.toList.take (len*sz)):=by
  rw[A];exact(s.take (len*sz)).QH
 have C:=ib.slice (F:=lJ F (ρ.L d (fr.gen d)) (vs.toList.take (len*sz)).length (vs.toList.take (len*sz))) (G:=ρ.G) (n:=ρ.n) (tag:=.iP) (l:=els) (b:=ρ.L d (fr.gen d)) (o:=0)
  (base:=some ⟨ρ.L d (fr.gen d),0,none⟩) (cap:=cap) (sz:=sz) (vs:=vs.toList.take (len*sz)) (.pS (e.mono λ_ _ _ h=>h.grow m.g)) (zB _ _ _) (λ_=>rfl) hs (by
   intro c f;rw[A] at f
   exact Ae (λc y=>B c (DL y)) c f) (by omega) q (.inl rfl)
 rw[D] at C;exact C
def gJ.ZX{α:Type}{c:Code}{Q:Exit->Fr->eD->Prop}{f:α->AV}(t:Nat){L:List α}{k sz d g cap:Nat}(l:∀x,(f x).cells.length=sz)(o:∀x,(f x).cells.map AV.lz=(f x).cells)
  (he:fr.env t=.wM d g L.length cap) (hg:g=fr.gen d) (C:fr.box d=some (tP f L k))
  (h:gJ P T n c Q {fr with env:=hS fr.env t (.slice .iP (L.map f)),box:=hS fr.box d none} H):gJ P T n c Q fr H:=by
 intro G0 F0 n0 w0 a w hs;refine h G0 F0 n0 w0 a w ?_;obtain⟨ρ,F,R,hw,q⟩:=hs;have m:=hw.env t;rw[he] at m;obtain⟨D,E,r,s⟩:=zA m
 have u:∀x∈L.map f,x.cells.length=sz:=by
  intro x q;obtain⟨y,_,rfl⟩:=oy.1 q;exact l y
 obtain⟨F',G,v,z,i,I⟩:=hw.JI (els:=L.map f) (len:=L.length) (cap:=cap) (sz:=sz) C (by simp) u (by rw[Aa l];exact Hf o L) (by rw[wm l];omega) r s;refine⟨ρ,F',G,⟨i.g,i.size,i.defers,?_,i.hn,i.lg,i.ag,i.box,i.tok,i.rZ,i.oz,i.mB,i.rF⟩,?_⟩
 ·intro B;show hO F' ρ (hS fr.env t (.slice .iP (L.map f)) B) _;simp only[hS]
  split
  ·rename_i e;subst e;rw[D,hg];exact .p I
  ·exact(hw.env B).grow v
 ·exact q.freeze λb j A=>z b j A
def gJ.aby{α:Type}{c:Code}{Q:Exit->Fr->eD->Prop}{f:α->AV}(d2 i:Nat){cs2:List AV}{L:List α}{k sz d g cap:Nat}(m:∀x,(f x).cells.length=sz)(t:∀x,(f x).cells.map AV.lz=(f x).cells)
  (v:d2≠d) (he:fr.box d2=some cs2) (hi:cs2[i]?=some (.wM d g L.length cap)) (hg:g=fr.gen d) (V:fr.box d=some (tP f L k))
  (h:gJ P T n c Q {fr with box:=hS (hS fr.box d none) d2 (some (cs2.set i (.slice .iP (L.map f))))} H):gJ P T n c Q fr H:=by
 intro G0 F0 n0 w0 a w hs;refine h G0 F0 n0 w0 a w ?_;obtain⟨ρ,F,R,hw,z⟩:=hs;obtain⟨_,_,A,B,W,C,D⟩:=hw.box d2 cs2 he;obtain⟨u,hu,E⟩:=D.get hi;obtain⟨X,Y,G,I⟩:=zA (.cell E)
 have J:∀x∈L.map f,x.cells.length=sz:=by
  intro x z;obtain⟨y,_,rfl⟩:=oy.1 z;exact m y
 obtain⟨F',Z,aa,K,e,hp⟩:=hw.JI (els:=L.map f) (len:=L.length) (cap:=cap) (sz:=sz) V (by simp) J (by rw[Aa m];exact Hf t L) (by rw[wm m];omega) G I
 have M:({fr with box:=hS fr.box d none}:Fr).box d2=some cs2:=by simp[hS,v,he]
 refine⟨ρ,F',Z,⟨e.g,e.size,e.defers,e.env,e.hn,e.lg,e.ag,?_,e.tok,e.rZ,e.oz,e.mB,e.rF⟩,?_⟩
 ·intro o N l;simp only[hS] at l
  by_cases q:o=d2
  ·subst q;simp only[if_true,s7] at l;subst l;obtain⟨e1,e2,e3,vs',r,U,e5⟩:=e.box o cs2 M;refine⟨e1,e2,?_,vs',r,U,?_⟩
   ·intro c hc;rcases YR hc with h'|h'
    ·exact e3 c h'
    ·rw[h'];rfl
   ·have O:vs'.toList=B.toList:=by
     have:w.heap[ρ.L o (fr.gen o)]?=some (.cells vs' r (0,0)):=U;rw[C] at this;injection this with this;injection this with this;rw[this]
    refine iA.LM e5 hi ?_;intro u' s;rw[O,hu] at s;obtain rfl:=iy s;rw[X,hg];exact .p hp
  ·simp only[ea q] at l;exact e.box o N (by simpa[hS] using l)
 ·exact z.freeze λb j S=>K b j S
end
end Go.m7
