/- Part of the proof of TheoryNeeds: layer. -/
import Derived.Test.YtjgjcpnoaeljkaaGreatDoorNL9
set_option linter.all false
namespace Go.kC
open Go
mutual
def AV.low(k:Nat):AV->Bool
 |.undef=>true|.sc _=>true|.lx x=>x.low k|.gx _ _ _=>true|.eb o _=>decide (o<k)|.slice _ l=>AV.gE k l|.agg l=>AV.gE k l|.tuple l=>AV.gE k l|.func _ f c=>AV.gE k f&&AV.gE k c|.iface _ x=>x.low k|.vH _ _ _ _=>true|.iR o=>decide (o<k)|.qU o _ _ _=>decide (o<k)|.N'=>true|.rG _ xs=>AV.gE k xs|.lM o _ _=>decide (o<k)
def AV.gE(k:Nat):List AV->Bool
 |[]=>true|x::l=>x.low k&&AV.gE k l
end
def AV.vY{k:Nat}:∀{l:List AV},AV.gE k l=true↔∀x∈l,x.low k=true
 |[]=>by simp[AV.gE]|x::l=>by simp[AV.gE,AV.vY (l:=l)]
def AV.JO{k:Nat}{x:AV}(h:x.low k=true):AV.gE k x.cells=true:=by
 cases x<;>simp_all [AV.low,AV.cells,AV.gE]
def AV.V0{k:Nat}{l:List AV}(h:AV.gE k l=true):AV.gE k (l.flatMap AV.cells)=true:=by
 rw[AV.vY] at h|-;intro x a;obtain⟨y,hy,a⟩:=Wk.1 a;exact AV.vY.1 (AV.JO (h y hy)) x a
@[simp] theorem AV.agz{α:Type}{k:Nat}(f:α->Value)(l:List α):AV.gE k (List.map (λn=>AV.sc (f n)) l)=true:=by
 rw[AV.vY];intro x a;obtain⟨y,_,rfl⟩:=nw.1 a;rfl
section
variable{F:jo} {G:Nat->Nat} {n k:Nat}
mutual
def fE.lower:∀{x v},fE F G n x v->x.low k=true->fE F G k x v
 |_,_,.undef h,_=>.undef h|_,_,.sc h,_=>.sc h|_,_,.lx b c d,a=>.lx (b.lower (AV.JO (by simpa[AV.low] using a))) c d|_,_,.eb h,a=>.eb (by simpa[AV.low] using a)|_,_,.iR h,a=>.iR (by simpa[AV.low] using a)|_,_,.qU h c d,a=>.qU (by simpa[AV.low] using a) c d|_,_,.slice b c d f i j l o,a=>.slice (b.lower (AV.V0 (by simpa[AV.low] using a))) c d f i j l o|_,_,.N',_=>.N'|_,_,.agg b c,a=>.agg (b.lower (by simpa[AV.low] using a)) c|_,_,.tuple b,a=>.tuple (b.lower (by simpa[AV.low] using a))|_,_,.func b c,a=>by
  simp only[AV.low,fI] at a;exact .func (b.lower a.1) (c.lower a.2)
 |_,_,.iface b,a=>.iface (b.lower (by simpa[AV.low] using a))
def fG.lower:∀{xs vs},fG F G n xs vs->AV.gE k xs=true->fG F G k xs vs
 |_,_,.nil,_=>.nil|_,_,.cons b c,a=>by
  simp only[AV.gE,fI] at a;exact .cons (b.lower a.1) (c.lower a.2)
end
end
def kB.lower{F:jo}{G:Nat->Nat}{n k:Nat}{cs ob}(h:kB F G n cs ob)(a:AV.gE k cs=true):kB F G k cs ob:=by
 cases h with
 |cells d b c=>exact .cells d ((fG.ox b).lower a).sW c|map b c f i j=>exact .map b ((fG.ox c).lower (by simpa[AV.gE,AV.low] using a)).sW f i j|iter h=>exact .iter (by simpa[AV.gE,AV.low] using a)|dead=>exact .dead
def ec.drop{P:Program}{T:dt}{f:FuncId}{args:List AV}{H:cZ}{Post Post':AV->cZ->Prop}(h:ec P T f args H Post)
  (A:∀r H',Post r H'->∃a X,H'=a++X/\H.length<=a.length/\r.low a.length=true/\(∀cs∈a,AV.gE a.length cs=true)/\Post' r a):ec P T f args H Post':=by
 refine⟨h.1,λG F w vs hg B=>(h.2 G F w vs hg B).mono ?_⟩;rintro e w' ⟨r,H',v,G',F',n,rfl,k,C,c⟩;obtain⟨a,X,rfl,hlen,D,q,I⟩:=A r H' n
 have l:∀b o v,F b o=some v->F' b o=some v:=by
  intro b o v s
  have hb:b<w.heap.size:=by
   rcases sH b w.heap.size with hb|hb
   .exact hb
   .rw[hg.fresh b o hb] at s;cases s
  exact c.mF b o v hb s
 have i:∀o,o<a.length->o<(a++X).length:=λo d=>by rw[rF];omega
 refine⟨r,a,v,G',F',I,rfl,?_,C.lower D,?_⟩
 .refine⟨k.Cp,?_,λo o' d t=>k.inj o o' (i o d) (i o' t),λo j d u=>k.gF o j (i o d) (by rw[tz d];exact u),k.fresh,λg x J=>?_,k.row⟩
  .intro o cs d;have y:o<a.length:=(mI.1 d).1;obtain⟨ob,K,L⟩:=k.jU o cs (by rw[tz y];exact d);exact⟨ob,K,L.lower (q cs (CO d))⟩
  .exact(hg.xX g x J).grow ⟨l,hlen,λo d=>c.hG o d⟩
 .exact⟨c.os,c.tape,c.output,c.size,hlen,c.hG,λo n M=>c.HV o n (i o M),c.hF,c.mF,c.heap⟩
end Go.kC
namespace Go.kC
open Go
def AV.Cn{k:Nat}{x:AV}(h:AV.gE k x.cells=true):x.low k=true:=by
 cases x<;>simp_all [AV.low,AV.cells,AV.gE]
def AV.Lu{k:Nat}{l:List AV}(h:AV.gE k (l.flatMap AV.cells)=true):AV.gE k l=true:=by
 rw[AV.vY] at h|-;intro x a;exact AV.Cn (AV.vY.2 λy hy=>h y (Wk.2 ⟨x,a,hy⟩))
section
variable{F:jo} {G:Nat->Nat} {n:Nat}
mutual
def fE.ur:∀{x v},fE F G n x v->x.low n=true
 |_,_,.undef _=>rfl|_,_,.sc _=>rfl|_,_,.lx a _ _=>by simpa[AV.low] using AV.Cn a.ur|_,_,.eb h=>by grind[AV.low]|_,_,.iR h=>by simpa[AV.low] using h|_,_,.qU h _ _=>by simpa[AV.low] using h|_,_,.slice a _ _ _ _ _ _ _=>by simpa[AV.low] using AV.Lu a.ur|_,_,.N'=>rfl|_,_,.agg a _=>by simpa[AV.low] using a.ur|_,_,.tuple a=>by simpa[AV.low] using a.ur|_,_,.func a b=>by simp[AV.low,a.ur,b.ur]|_,_,.iface a=>by simpa[AV.low] using a.ur
def fG.ur:∀{xs vs},fG F G n xs vs->AV.gE n xs=true
 |_,_,.nil=>rfl|_,_,.cons a b=>by simp[AV.gE,a.ur,b.ur]
end
end
def kB.ur{F:jo}{G:Nat->Nat}{n:Nat}{cs ob}(h:kB F G n cs ob):AV.gE n cs=true:=by
 cases h with
 |cells c a b=>exact(fG.ox a).ur|map a b d f i=>simpa[AV.gE,AV.low] using(fG.ox b).ur|iter h=>grind[AV.gE,AV.low]|dead=>rfl
def ec.ra{P:Program}{T:dt}{f:FuncId}{args:List AV}{H:cZ}{Post Post':AV->cZ->Prop}(h:ec P T f args H Post)
  (d:∀r H',Post r H'->∃X,H'=H++X/\r.low H.length=true/\Post' r H):ec P T f args H Post':=by
 refine⟨h.1,λG F w vs hg i=>?_⟩
 have a:∀cs∈H,AV.gE H.length cs=true:=by
  intro cs b;obtain⟨o,j⟩:=Y4.1 b;obtain⟨ob,_,k⟩:=hg.jU o cs j;exact k.ur
 exact(ec.drop (Post':=Post') h λr H' l=>by
  obtain⟨X,e,n,c⟩:=d r H' l
  exact⟨H,X,e,gO _,n,a,c⟩).2 G F w vs hg i
end Go.kC
namespace Go.kC
open Go Go.eU
mutual
def AV.Gy{k n:Nat}(h:k<=n):∀{x:AV},x.low k=true->x.low n=true
 |.undef,_=>rfl|.sc _,_=>rfl|.lx x,a=>by simpa[AV.low] using AV.Gy h (x:=x) (by simpa[AV.low] using a)|.gx _ _ _,_=>rfl|.eb o _,a=>by simp[AV.low] at a|-;omega
 |.qU o _ _ _,a=>by simp[AV.low] at a|-;omega
 |.slice _ l,a=>by simpa[AV.low] using AV.qN h (l:=l) (by simpa[AV.low] using a)|.agg l,a=>by simpa[AV.low] using AV.qN h (l:=l) (by simpa[AV.low] using a)|.tuple l,a=>by simpa[AV.low] using AV.qN h (l:=l) (by simpa[AV.low] using a)|.func _ f c,a=>by
  simp only[AV.low,fI] at a|-;exact⟨AV.qN h a.1,AV.qN h a.2⟩
 |.iface _ x,a=>by simpa[AV.low] using AV.Gy h (x:=x) (by simpa[AV.low] using a)|.vH _ _ _ _,_=>rfl|.N',_=>rfl|.iR o,a=>by simp[AV.low] at a|-;omega
 |.rG _ l,a=>by simpa[AV.low] using AV.qN h (l:=l) (by simpa[AV.low] using a)|.lM o _ _,a=>by simp[AV.low] at a|-;omega
def AV.qN{k n:Nat}(h:k<=n):∀{l:List AV},AV.gE k l=true->AV.gE n l=true
 |[],_=>rfl|x::l,a=>by
  simp only[AV.gE,fI] at a|-;exact⟨AV.Gy h a.1,AV.qN h a.2⟩
end
def RB{H:cZ}{o:Nat}{c:List AV}(h:H[o]?=some c):o<H.length:=(mI.1 h).1
theorem I7{H:cZ}{o:Nat}{c:List AV}(h:H[o]?=some c):eO H o c=H:=by
 apply Um
 grind[eO]
def Inb(H:cZ)(o:Nat):Prop:=o<H.length
def er{H:cZ}{o:Nat}{c:List AV}(h:H[o]?=some c):Inb H o:=RB h
@[simp] theorem afz(H:cZ)(o o':Nat)(c:List AV):Inb (eO H o c) o'=Inb H o':=by simp[Inb]
def GO{H:cZ}{o:Nat}{c:List AV}(h:Inb H o):(eO H o c)[o]?=some c:=by simp[eO,show o<H.length from h]
def sU{H:cZ}{o o':Nat}{c:List AV}(h:o≠o'):(eO H o c)[o']?=H[o']?:=by grind[eO]
def RO{H:cZ}{o o':Nat}{c d e:List AV}(h:o≠o'):eO (eO (eO H o c) o' d) o e=eO (eO H o e) o' d:=by
 simp only[eO];rw[List.set_comm _ _ h.symm,List.set_set]
def Px{A B:cZ}{o:Nat}(h:Inb A o):(A++B)[o]?=A[o]?:=tz h
def Nn{A B:cZ}{o:Nat}{c:List AV}(h:Inb A o):eO (A++B) o c=eO A o c++B:=by simp[eO,List.set_append,show o<A.length from h]
def GN{A B:cZ}{k i:Nat}(h:A.length=k):(A++B)[k+i]?=B[i]?:=by grind
def Qa{A B:cZ}{k:Nat}(h:A.length=k):(A++B)[k]?=B[0]?:=GN (i:=0) h
def DR{A B:cZ}{k i:Nat}{c:List AV}(h:A.length=k):eO (A++B) (k+i) c=A++eO B i c:=by grind[eO]
def L6{A B:cZ}{k:Nat}{c:List AV}(h:A.length=k):eO (A++B) k c=A++eO B 0 c:=DR (i:=0) h
@[simp] theorem aaD(a:List AV)(l:cZ)(c:List AV):eO (a::l) 0 c=c::l:=rfl
@[simp] theorem ac_(a:List AV)(l:cZ)(i:Nat)(c:List AV):eO (a::l) (i+1) c=a::eO l i c:=rfl
def Va{H:cZ}{o:Nat}{c cs:List AV}(h:cs∈eO H o c):cs∈H\/cs=c:=by grind[eO]
def ec.HQ{P:Program}{T:dt}{f:FuncId}{args:List AV}{H:cZ}{o:Nat}{c:List AV}{Post:AV->cZ->Prop}(h:H[o]?=some c)(a:ec P T f args (eO H o c) Post):ec P T f args H Post:=by grind[I7]
structure zz {S:Type} (st:S->cZ) (k:Nat):Prop where
 len:∀s,(st s).length=k
 low:∀s s' cs,cs∈st s'->cs∈st s\/AV.gE k cs=true
def zz.const{S:Type}(H:cZ):zz (λ_:S=>H) H.length:=⟨λ_=>rfl,λ_ _ _ h=>.inl h⟩
def zz.ext{S:Type}{st:S->cZ}{k:Nat}(h:zz st k)(X:cZ){n:Nat}(hn:k+X.length=n):zz (λs=>st s++X) n:=by
 subst hn;refine⟨λs=>by rw[rF,h.len],λs a cs hc=>?_⟩;rcases rA.1 hc with hc|hc
 .rcases h.low s a cs hc with h1|h1
  .grind
  .exact .inr (AV.qN VW h1)
 .grind
def zz.U6{S:Type}(H:cZ)(f:S->cZ)(n:Nat)(hn:∀s,(f s).length=n)(b:∀s a cs,cs∈f a->cs∈f s\/AV.gE (H.length+n) cs=true):zz (λs=>H++f s) (H.length+n):=by
 refine⟨λs=>by rw[rF,hn],λs a cs c=>?_⟩
 grind
def ec.ZN{P:Program}{T:dt}{f:FuncId}{args:List AV}{H:cZ}{Post Post':AV->cZ->Prop}(h:ec P T f args H Post)
  (k:∀r H',Post r H'->∃a X,H'=a++X/\a.length=H.length/\r.low H.length=true/\(∀cs∈a,cs∈H\/AV.gE H.length cs=true)/\Post' r a):ec P T f args H Post':=by
 refine⟨h.1,λG F w vs hg d=>?_⟩
 have c:∀cs∈H,AV.gE H.length cs=true:=by
  intro cs b;obtain⟨o,i⟩:=Y4.1 b;obtain⟨ob,_,j⟩:=hg.jU o cs i;exact j.ur
 refine(ec.drop (Post':=Post') h λr H' l=>?_).2 G F w vs hg d
 grind
def ec.aat{P:Program}{T:dt}{f:FuncId}{args:List AV}{S:Type}{st:S->cZ}{k:Nat}(hF:zz st k){s:S}{Post Post':AV->cZ->Prop}(h:ec P T f args (st s) Post)
  (c:∀r H',Post r H'->∃a X,H'=st a++X/\r.low k=true/\Post' r (st a)):ec P T f args (st s) Post':=
 ec.ZN h λr H' d=>by
  obtain⟨a,X,e,i,b⟩:=c r H' d;exact⟨st a,X,e,by rw[hF.len,hF.len],by rw[hF.len];exact i,λcs j=>by rw[hF.len];exact hF.low s a cs j,b⟩
@[simp] theorem agc(H:List (List AV))(o:Nat)(c:List AV):List.set H o c=eO H o c:=rfl
attribute [simp] GO sU RO Px Nn GN Qa DR L6
end Go.kC
namespace Go.kC
open Go Go.eU
def eR(P:Program)(T:dt)(E:List Nat)(opsA:Array Oper)(q:Qt):List Bool->List Oper->(Fr->cZ->Prop)->Fr->cZ->Prop
 |_,[],K,fr,H=>K fr H|[],o::rest,K,fr,H=>fY P T E opsA q true o (λfr H=>eR P T E opsA q [] rest K fr H) fr H|b::bs,o::rest,K,fr,H=>fY P T E opsA q b o (λfr H=>eR P T E opsA q bs rest K fr H) fr H
def HL{E:List Nat}{ops:Array Oper}{q:Qt}{P:Program}{T:dt}{K:Fr->cZ->Prop}(a:List Bool):∀(l:List Oper) (k:Nat) (fr:Fr) (H:cZ),l=ops.toList.drop k->eR P T E ops q (a.drop k) l K fr H->FA P T E ops q (λi=>a.getD i true) (List.range' k l.length) K fr H:=by
 intro l
 induction l with
 |nil=>
  intro k fr H _ h;cases c:a.drop k<;>rw[c] at h<;>exact h
 |cons o l ih=>
  intro k fr H b h
  have d:k<ops.toList.length:=by
   rcases sH k ops.toList.length with h'|h'
   .exact h'
   .rw[HE h'] at b;cases b
  have f:=Ko d;rw[f] at b;injection b with s j
  have hi:ops[k]?=some o:=by grind
  simp only[kY,Rr,FA,hi]
  have n:a.getD k true=(a.drop k).headD true:=by
   simp only[List.getD,List.headD_eq_head?_getD,List.head?_drop]
  have r:a.drop (k+1)=(a.drop k).tail:=by rw[List.tail_drop]
  rw[n];refine AM (K:=λfr H=>eR P T E ops q (a.drop (k+1)) l K fr H) (λfr H h=>ih (k+1) fr H j h) ?_;rw[r];cases c:a.drop k<;>rw[c] at h<;>exact h
def fa.X2{P:Program}{T:dt}{n:Nat}{Q:Exit->Fr->cZ->Prop}{fr:Fr}{H:cZ}{id:Nat}{ops:Array Oper}(E:List Nat)(q:Qt)(b:List Bool)(hm:P.follows .mixedOrders=true)(a:vL n ops=true)(c:wQ E ops (λi=>b.getD i true)=true)
  (h:eR P T E ops q b ops.toList (Q .normal) fr H):fa P T n (.region id ops true) Q fr H:=by
 refine fa.N2 E q (λi=>b.getD i true) hm a c ?_;have:=HL (P:=P) (T:=T) (E:=E) (ops:=ops) (q:=q) (K:=Q .normal) b ops.toList 0 fr H (by grind);rw[RZ]
 grind
def jw(P:Program)(T:dt)(E:List Nat)(ops:Array Oper)(q:Qt)(bs:List Bool)(a:AV)(as:List AV)(d:Option Nat)(rest:List Oper)(K:Fr->cZ->Prop)(fr:Fr)(H:cZ):Prop:=
 if d.any E.contains then Ui P T q true a as d (eR P T E ops q bs rest K) fr H else∃r H',lX P T a as H r H'/\(QK q H H')/\eR P T E ops q bs rest K (fr.put d r) H'
def tp(P:Program)(T:dt)(E:List Nat)(ops:Array Oper)(q:Qt)(bs:List Bool)(a:AV)(as:List AV)(d:Option Nat)(rest:List Oper)(K:Fr->cZ->Prop)(fr:Fr)(H:cZ):Prop:=
 if d.any E.contains then Ui P T q false a as d (eR P T E ops q bs rest K) fr H else∃r H',lX P T a as H r H'/\eR P T E ops q bs rest K (fr.put d r) H'
section
variable{P:Program} {T:dt} {E:List Nat} {ops:Array Oper} {q:Qt} {bs:List Bool} {rest:List Oper} {K:Fr->cZ->Prop} {fr:Fr} {H H':cZ} {d:Option Nat} {ty:TypeId} {pos:String} {after:Array Edge}
def jw.val{a:AV}{as:List AV}{r:AV}(h:lX P T a as H r H')(b:QK q H H')(c:eR P T E ops q bs rest K (fr.put d r) H'):jw P T E ops q bs a as d rest K fr H:=by grind[jw,Kh]
def tp.val{a:AV}{as:List AV}{r:AV}(h:lX P T a as H r H')(b:eR P T E ops q bs rest K (fr.put d r) H'):tp P T E ops q bs a as d rest K fr H:=by grind[tp,Kh]
def jw.fn{g:FuncId}{as:List AV}{r:AV}(h:ds P T g as H r H')(a:QK q H H')(b:eR P T E ops q bs rest K (fr.put d r) H'):jw P T E ops q bs (.func (.func g) [] []) as d rest K fr H:=by
 refine jw.val ?_ a b;unfold lX mM;simp only[uF];exact h
def jw.Q7{g:FuncId}{b c as a:List AV}{r:AV}(f:b++as++c=a)(h:ds P T g a H r H')(i:QK q H H')(j:eR P T E ops q bs rest K (fr.put d r) H'):jw P T E ops q bs (.func (.func g) b c) as d rest K fr H:=by
 subst f;exact jw.val h i j
def tp.fn{g:FuncId}{as:List AV}{r:AV}(h:ds P T g as H r H')(a:eR P T E ops q bs rest K (fr.put d r) H'):tp P T E ops q bs (.func (.func g) [] []) as d rest K fr H:=by
 refine tp.val ?_ a;unfold lX mM;simp only[uF];exact h
@[simp] theorem ZS{f:Operand}{as:Array Operand}{ts:Array TypeId}:eR P T E ops q (false::bs) ({dst:=d,op:=.call {callee:=.value f,args:=as,argTypes:=ts},type:=ty,pos:=pos,after:=after,guard:=none}::rest) K fr H=tp P T E ops q bs (ev T fr f) (as.toList.map λx=>(ev T fr x).norm) d rest K fr H:=by
 simp only[eR,fY,fW,oo,iZ,lN,uA,pc,lL,fT,tp,pc,false_implies,N1]
@[simp] theorem adi(bs:List Bool):eR P T E ops q bs [] K fr H=K fr H:=by cases bs<;>rfl
@[simp] theorem aaA{t:TypeId}{x:Operand}:eR P T E ops q (false::bs) ({dst:=d,op:=.load t x,type:=ty,pos:=pos,after:=after,guard:=none}::rest) K fr H=if pG ops.toList x (ev T fr x)then(match sP P fr H t (ev T fr x)with|some v=>eR P T E ops q bs rest K (fr.put d v) H|none=>False)else False:=by
 simp only[eR,fY,fW,oo,iZ,lN,uA,pc,lL,fT,ma,Bool.not_false,Bool.true_or,Hq]
 split
 .rename_i v a
  split at a
  .rename_i b;rw[cS b,a]
  .cases a
 .rename_i a
  split at a
  .rename_i b;rw[cS b,a]
  .rename_i b;rw[cO b]
@[simp] theorem Yz{t:TypeId}{x y:Operand}:eR P T E ops q (false::bs) ({dst:=none,op:=.store t x y,type:=ty,pos:=pos,after:=after,guard:=none}::rest) K fr H=(R_ E q x (ev T fr x)/\pG ops.toList x (ev T fr x)=true/\kQ P t (ev T fr x) (ev T fr y) (eR P T E ops q bs rest K) fr H):=by
 simp only[eR,fY,fW,oo,iZ,lN,uA,pc,lL,fT,N1,pc,false_implies,if_true,DB]
@[simp] theorem aaS{x:Operand}:eR P T E ops q (true::bs) ({dst:=d,op:=.move x,type:=ty,pos:=pos,after:=after,guard:=none}::rest) K fr H=eR P T E ops q bs rest K (fr.put d (ev T fr x)) H:=rfl
@[simp] theorem Zd{x:Operand}:eR P T E ops q (true::bs) ({dst:=d,op:=.assign x,type:=ty,pos:=pos,after:=after,guard:=none}::rest) K fr H=eR P T E ops q bs rest K (fr.put d (ev T fr x)) H:=rfl
@[simp] theorem aad{t:TypeId}:eR P T E ops q (true::bs) ({dst:=d,op:=.alloc t,type:=ty,pos:=pos,after:=after,guard:=none}::rest) K fr H=match hO P t with|some z=>d.any E.contains=false/\j9 E d z (eR P T E ops q bs rest K) fr H|none=>False:=by
 simp only[eR,fY,fW,oo,iZ,lN,uA,pc,lL,fT,XL];rfl
@[simp] theorem aaZ{t:TypeId}{x:Operand}:eR P T E ops q (true::bs) ({dst:=d,op:=.load t x,type:=ty,pos:=pos,after:=after,guard:=none}::rest) K fr H=if pG ops.toList x (ev T fr x)&&q.ok (ev T fr x)then(match sP P fr H t (ev T fr x)with|some v=>eR P T E ops q bs rest K (fr.put d v) H|none=>False)else False:=by
 simp only[eR,fY,fW,oo,iZ,lN,uA,pc,lL,fT,ma,YV,SM]
 split
 .rename_i v a
  split at a
  .rename_i b;rw[cS b,a]
  .cases a
 .rename_i a
  split at a
  .rename_i b;rw[cS b,a]
  .rename_i b;rw[cO b]
@[simp] theorem ZE{t:TypeId}{x y:Operand}:eR P T E ops q (true::bs) ({dst:=none,op:=.store t x y,type:=ty,pos:=pos,after:=after,guard:=none}::rest) K fr H=(R_ E q x (ev T fr x)/\pG ops.toList x (ev T fr x)=true/\isL (ev T fr x)=true/\kQ P t (ev T fr x) (ev T fr y) (eR P T E ops q bs rest K) fr H):=by
 simp only[eR,fY,fW,oo,iZ,lN,uA,pc,lL,fT,XL,N1,if_true,DB]
@[simp] theorem SC{t n:Nat}{ps:Array (Nat×Operand)}:eR P T E ops q (true::bs) ({dst:=d,op:=.buildSlice t n ps,type:=ty,pos:=pos,after:=after,guard:=none}::rest) K fr H=if d.any E.contains then False else match lZ P t n (ps.toList.map λp=>(p.1,ev T fr p.2))with|some v=>eR P T E ops q bs rest K (fr.put d v) H|none=>False:=by
 simp only[eR,fY,fW,oo,iZ,lN,uA,pc,lL,fT,ma]
 split
 .rename_i v a
  split at a
  .cases a
  .rename_i b;rw[cO b,a]
 .rename_i a
  split at a
  .rename_i b;rw[cS b]
  .rename_i b;rw[cO b,a]
@[simp] theorem YO{t:TypeId}{x i:Operand}{ok:Bool}:eR P T E ops q (true::bs) ({dst:=d,op:=.lookup t x i ok,type:=ty,pos:=pos,after:=after,guard:=none}::rest) K fr H=if q.all then(match p6 P H t (ev T fr x) (ev T fr i) ok with|some v=>eR P T E ops q bs rest K (fr.put d v) H|none=>False)else False:=by
 simp only[eR,fY,fW,oo,iZ,lN,uA,pc,lL,fT,ma,YV,SM]
 split
 .rename_i v a
  split at a
  .rename_i b;rw[cS b,a]
  .cases a
 .rename_i a
  split at a
  .rename_i b;rw[cS b,a]
  .rename_i b;rw[cO b]
@[simp] theorem Y8{x y:Operand}{t d:Nat}:eR P T E ops q (true::bs) ({dst:=some d,op:=.call {callee:=.builtin .append,args:=#[x,y],argTypes:=#[t,t]},type:=ty,pos:=pos,after:=after,guard:=none}::rest) K fr H=if E.contains d then YJ P t (ev T fr x) (ev T fr y) d (eR P T E ops q bs rest K) fr H else As P t (ev T fr x) (ev T fr y) d (eR P T E ops q bs rest K) fr H:=by
 simp only[eR,fY,fW,oo,iZ,lN,uA,pc,lL,fT,abI]
 split
 .rename_i a;first|exact AD|(simp only[a,↓reduceIte];exact AD)
 .rename_i a;first|exact AZ|(simp only[a,↓reduceIte];exact AZ)
@[simp] theorem abb{f:Operand}{as:Array Operand}{ts:Array TypeId}:eR P T E ops q (true::bs) ({dst:=d,op:=.call {callee:=.value f,args:=as,argTypes:=ts},type:=ty,pos:=pos,after:=after,guard:=none}::rest) K fr H=jw P T E ops q bs (ev T fr f) (as.toList.map λx=>(ev T fr x).norm) d rest K fr H:=by
 simp only[eR,fY,fW,oo,iZ,lN,uA,pc,lL,fT,XL,jw]
@[simp] theorem adS{as:Array Operand}{ts:Array TypeId}:eR P T E ops q (true::bs) ({dst:=d,op:=.call {callee:=.builtin .len,args:=as,argTypes:=ts},type:=ty,pos:=pos,after:=after,guard:=none}::rest) K fr H=match vo P T fr {callee:=.builtin .len,args:=as,argTypes:=ts}with|some v=>eR P T E ops q bs rest K (fr.put d v) H|none=>False:=rfl
@[simp] theorem ad2{as:Array Operand}{ts:Array TypeId}:eR P T E ops q (true::bs) ({dst:=d,op:=.call {callee:=.builtin .max,args:=as,argTypes:=ts},type:=ty,pos:=pos,after:=after,guard:=none}::rest) K fr H=match vo P T fr {callee:=.builtin .max,args:=as,argTypes:=ts}with|some v=>eR P T E ops q bs rest K (fr.put d v) H|none=>False:=rfl
@[simp] theorem abj{c a b:Operand}:eR P T E ops q (true::bs) ({dst:=d,op:=.pick c a b,type:=ty,pos:=pos,after:=after,guard:=none}::rest) K fr H=match wh P T fr {dst:=d,op:=.pick c a b,type:=ty,pos:=pos,after:=after,guard:=none}with|some v=>eR P T E ops q bs rest K (fr.put d v) H|none=>False:=rfl
@[simp] theorem ZD{t:TypeId}{ps:Array (Nat×Operand)}:eR P T E ops q (true::bs) ({dst:=d,op:=.build t ps,type:=ty,pos:=pos,after:=after,guard:=none}::rest) K fr H=match De P t (ps.toList.map λp=>(p.1,ev T fr p.2))with|some v=>eR P T E ops q bs rest K (fr.put d v) H|none=>False:=rfl
@[simp] theorem Z7{o:BinOp}{t u:TypeId}{x y:Operand}:eR P T E ops q (true::bs) ({dst:=d,op:=.binOp o t x y u,type:=ty,pos:=pos,after:=after,guard:=none}::rest) K fr H=match Fv P o t y (ev T fr x) (ev T fr y)with|some v=>eR P T E ops q bs rest K (fr.put d v) H|none=>False:=rfl
@[simp] theorem acO{o:UnOp}{t:TypeId}{x:Operand}:eR P T E ops q (true::bs) ({dst:=d,op:=.unOp o t x,type:=ty,pos:=pos,after:=after,guard:=none}::rest) K fr H=match unA o (ev T fr x)with|some v=>eR P T E ops q bs rest K (fr.put d v) H|none=>False:=rfl
@[simp] theorem Te{t i:Nat}{x:Operand}:eR P T E ops q (true::bs) ({dst:=d,op:=.fieldAddr t x i,type:=ty,pos:=pos,after:=after,guard:=none}::rest) K fr H=match qt P t (ev T fr x) i with|some v=>eR P T E ops q bs rest K (fr.put d v) H|none=>False:=rfl
@[simp] theorem Th{t:TypeId}{x i:Operand}:eR P T E ops q (true::bs) ({dst:=d,op:=.indexAddr t x i,type:=ty,pos:=pos,after:=after,guard:=none}::rest) K fr H=match fp P t (ev T fr x) (ev T fr i)with|some v=>eR P T E ops q bs rest K (fr.put d v) H|none=>False:=rfl
@[simp] theorem ZK{t:TypeId}{x:Operand}{lo hi a:Option Operand}:eR P T E ops q (true::bs) ({dst:=d,op:=.slice t x lo hi a,type:=ty,pos:=pos,after:=after,guard:=none}::rest) K fr H=match k0 P t (ev T fr x) (lo.map (ev T fr)) (hi.map (ev T fr)) (a.map (ev T fr))with|some v=>eR P T E ops q bs rest K (fr.put d v) H|none=>False:=rfl
@[simp] theorem WQ{i:Nat}{x:Operand}:eR P T E ops q (true::bs) ({dst:=d,op:=.extract x i,type:=ty,pos:=pos,after:=after,guard:=none}::rest) K fr H=match wh P T fr {dst:=d,op:=.extract x i,type:=ty,pos:=pos,after:=after,guard:=none}with|some v=>eR P T E ops q bs rest K (fr.put d v) H|none=>False:=rfl
@[simp] theorem UK{x:Operand}:eR P T E ops q (true::bs) ({dst:=d,op:=.nilCheck x,type:=ty,pos:=pos,after:=after,guard:=none}::rest) K fr H=match wh P T fr {dst:=d,op:=.nilCheck x,type:=ty,pos:=pos,after:=after,guard:=none}with|some v=>eR P T E ops q bs rest K (fr.put d v) H|none=>False:=rfl
@[simp] theorem aaq{op:Op}{j:Nat}{want:Bool}:eR P T E ops q (true::bs) ({dst:=d,op:=op,type:=ty,pos:=pos,after:=after,guard:=some (j,want)}::rest) K fr H=match(ops[j]?).bind (·.dst)with
  |some g=>match fr.env g with
   |.sc (.bool b)=>if b=want then eR P T E ops q (true::bs) ({dst:=d,op:=op,type:=ty,pos:=pos,after:=after,guard:=none}::rest) K fr H else eR P T E ops q bs rest K (fr.put d (.tuple [])) H|.tuple _=>eR P T E ops q bs rest K (fr.put d (.tuple [])) H|_=>False
  |none=>False:=by
 simp only[eR,fY,fW]
 cases a:(ops[j]?).bind (·.dst)with
 |none=>rfl|some g=>
  simp only;cases he:fr.env g with
  |sc v=>
   cases v with
   |bool b=>
    simp only
    by_cases hw:b=want
    .subst hw;simp only[beq_self_eq_true,if_true];rfl
    .rw[cO hw]
     have:(b==want)=false:=by simpa using hw
     rw[this]
   |_=>rfl
  |_=>rfl
end
end Go.kC
namespace Go.kC
open Go Go.eU
def nu(k:Nat):Option Nat->AV
 |none=>.sc (.pointer none)|some p=>.eb (k+p) 0
@[simp] theorem afO(k:Nat):nu k none=.sc (.pointer none):=rfl
@[simp] theorem af6(k p:Nat):nu k (some p)=.eb (k+p) 0:=rfl
@[simp] theorem agq(k:Nat)(x:Option Nat):(nu k x).fJ=true:=by cases x<;>rfl
@[simp] theorem adx(k:Nat)(x:Option Nat):(nu k x).cells=[nu k x]:=by cases x<;>rfl
@[simp] theorem agZ(k:Nat)(x:Option Nat):eo (nu k x)=true:=by cases x<;>rfl
@[simp] theorem aep(k:Nat)(x:Option Nat):(nu k x).norm=nu k x:=by cases x<;>rfl
@[simp] theorem adJ(k:Nat)(x:Option Nat):(nu k x).ke=nu k x:=by cases x<;>rfl
@[simp] theorem ae0(P:Program)(ty:TypeId)(k:Nat)(x:Option Nat):qG P ty (nu k x)=match ew P ty with|some (false,_)=>true|_=>false:=by
 cases x with
 |none=>exact YA P ty _|some p=>exact Sr P ty _ _
def vp{C:Type}(c:Nat->C->List AV)(k:Nat)(l:List C):cZ:=l.map (c k)
@[simp] theorem YR{C:Type}(c:Nat->C->List AV)(k:Nat)(l:List C):(vp c k l).length=l.length:=by simp[vp]
@[simp] theorem adf{C:Type}(c:Nat->C->List AV)(k:Nat)(l:List C)(p:Nat):(vp c k l)[p]?=(l[p]?).map (c k):=by simp[vp]
def o8{C:Type}{c:Nat->C->List AV}{k:Nat}{l:List C}{p:Nat}{x:C}{cs:List AV}(h:cs=c k x):eO (vp c k l) p cs=vp c k (l.set p x):=by
 subst h;simp only[eO,vp,List.map_set]
def JA{C:Type}{c:Nat->C->List AV}{k:Nat}{l:List C}{x:C}{cs:List AV}(h:cs=c k x):vp c k l++[cs]=vp c k (l++[x]):=by
 subst h;simp[vp]
def vk{C:Type}{l:List C}{p:Nat}{x y:C}(h:l[p]?=some y):(l.set p x)[p]?=some x:=by
 have:p<l.length:=(mI.1 h).1;simp[this]
def QJ{C:Type}{l:List C}{x:C}:(l++[x])[l.length]?=some x:=aaL
def ec.nh0{C:Type}{c:Nat->C->List AV}{P:Program}{T:dt}{f:FuncId}{args:List AV}{H:cZ}{Post:AV->cZ->Prop}(h:ec P T f args (H++vp c H.length []) Post):ec P T f args H Post:=by
 simpa[vp] using h
section
variable{P:Program} {t e:TypeId} {k:Nat} {x:Option Nat}
def VI(hu:P.underlying t=some (.pointer e)):kX P .eql t (nu k x) (.sc (.pointer none))=some (.sc (.bool x.isNone)):=by
 cases x<;>simp[kX,oD,hu]
def V3(hu:P.underlying t=some (.pointer e)):kX P .neq t (nu k x) (.sc (.pointer none))=some (.sc (.bool x.isSome)):=by
 cases x<;>simp[kX,oD,hu]
end
end Go.kC
namespace Go.kC
open Go Go.eU
def tu{α:Type}(f:α->AV)(L:List α)(k:Nat):List AV:=(L.map f).flatMap AV.cells++wu k
@[irreducible] def Ma(i sz:Nat):Nat:=i*sz
theorem E3(i sz:Nat):Ma i sz=i*sz:=by unfold Ma;rfl
section
variable{α:Type} {f:α->AV} {L:List α} {k sz:Nat}
theorem rm(h:∀x,(f x).cells.length=sz)(L:List α):((L.map f).flatMap AV.cells).length=L.length*sz:=by
 rw[ni (sz:=sz)]
 all_goals grind
def vq(h:∀x,(f x).cells.length=sz):(tu f L k).length=L.length*sz+k:=by grind[tu,rm,wu]
theorem zL(h:∀x,(f x).cells.length=sz):(tu f L k).take (L.length*sz)=(L.map f).flatMap AV.cells:=by grind[tu,rm]
def TM(h:∀x,(f x).cells.length=sz){i:Nat}{y:α}(hi:i<L.length):setCells (tu f L k) (i*sz) (f y).cells=tu f (L.set i y) k:=by
 unfold setCells tu;have hlen:=rm h L
 have hle:i*sz+sz<=L.length*sz:=by
  rw[<-Rq];exact GM _ hi
 rw[h y,acs VW,List.drop_append_of_le_length VW,<-s6]
 congr 1
 have a:L.set i y=L.take i++y::L.drop (i+1):=aeY▸(by rw[cS hi]);rw[a,List.map_append,CN,Up,Fp]
 have hm:∀x∈L.map f,x.cells.length=sz:=by grind
 have b:i*sz+sz=(i+1)*sz:=by rw[Rq]
 rw[b,<-Ce hm,<-xm hm,List.map_take,List.map_drop,s6]
end
def Gb{α:Type}{f:α->AV}(a:∀x,(f x).cells.map AV.ke=(f x).cells)(L:List α):(L.map f).flatMap AV.cells=((L.map f).flatMap AV.cells).map AV.ke:=by
 induction L with
 |nil=>rfl|cons x L ih=>grind
def rp.abv{P:Program}{t e sz d:Nat}{s x:AV}{K:Fr->cZ->Prop}{fr:Fr}{H:cZ}{α:Type}{f:α->AV}(m:List α){b:Tag}
  (c:mK P t=some (e,sz)) (h:∃n,hO P e=some n) (i:∀x,(f x).cells.length=sz) (hlen:xN m=true) (hs:s=.slice .full []) (q:x=.slice b (m.map f))
  (r:∀cap,m.length<=cap->K {fr with env:=fO fr.env d (.vH d (fr.gen d+1) m.length cap),box:=fO fr.box d (some (tu f m ((cap-m.length)*sz))),gen:=fO fr.gen d (fr.gen d+1)} H):rp P t s x d K fr H:=by
 subst hs;subst q
 have o:0<m.length/\m.length<=lim:=by simpa[xN] using hlen
 have j:∀l:List α,kA sz (l.map f)=true:=λl=>by cases l with|nil=>rfl|cons a l=>simp[i]
 obtain⟨n,h⟩:=h;refine .inl (.inr ?_);unfold Vd;rw[c];refine⟨j m,by rw[h];rfl,by simpa using o.1,rfl,by simpa[jn,lim] using o.2,λcap u=>?_⟩
 have k:m.length<=cap:=by simpa using u
 have:=r cap k;simp only[xa,od,wC,tH,yA];exact this
theorem rp.lh{P:Program}{t e sz d:Nat}{s x:AV}{K:Fr->cZ->Prop}{fr:Fr}{H:cZ}{α:Type}{f:α->AV}(L m:List α){cap:Nat}{n:Tag}
  (q:mK P t=some (e,sz)) (r:∃A,hO P e=some A) (c:∀x,(f x).cells.length=sz) (hlen:eI L m=true) (hm:0<m.length) (hs:s=.vH d (fr.gen d) L.length cap) (C:x=.slice n (m.map f))
  (D:fr.box d=some (tu f L ((cap-L.length)*sz))) (u:L.length<=cap)
  (F:∀B b,(fk L m).length<=b->K {fr with env:=fO fr.env d (.vH d B (fk L m).length b),box:=fO fr.box d (some (tu f (fk L m) ((b-(fk L m).length)*sz))),gen:=fO fr.gen d B} H):rp P t s x d K fr H:=by
 subst hs;subst C;have G:L.length+m.length<=lim:=Mo hlen
 have v:∀l:List α,kA sz (l.map f)=true:=λl=>by cases l with|nil=>rfl|cons a l=>simp[c]
 obtain⟨A,r⟩:=r;have w:=rm c L;have y:=rm c m;have i:(fk L m).length=L.length+m.length:=DT L m
 have k:(L.map f).flatMap AV.cells++(m.map f).flatMap AV.cells=((fk L m).map f).flatMap AV.cells:=by simp[fk]
 refine .inl (.inr ?_);unfold Vd;rw[q];refine⟨v m,by rw[r];rfl,by simpa using hm,rfl,by simpa[jn,lim] using G,?_⟩;rw[D];simp only[yA];refine⟨?_,λI=>?_,λb N O=>?_⟩
 .rw[vq c,Nat.sub_mul];have:=GM sz u;omega
 .have o:=F (fr.gen d) cap (by rw[i];exact I)
  have J:fO fr.gen d (fr.gen d)=fr.gen:=by
   funext j
   simp only[fO]
   split
   .rename_i h;rw[h]
   .rfl
  have M:setCells (tu f L ((cap-L.length)*sz)) (L.length*sz) ((m.map f).flatMap AV.cells)=tu f (fk L m) ((cap-(fk L m).length)*sz):=by
   unfold setCells;rw[zL c];unfold tu;rw[<-k,abC,HE VW,od,w,y,i]
   have:L.length*sz+m.length*sz-L.length*sz=m.length*sz:=VW
   rw[this];unfold wu;rw[List.drop_replicate,<-Nat.sub_mul,Nat.sub_sub]
  rw[J,<-M,i] at o;exact o
 .grind[tu,AV.cells,wu,fk,zL,xa]
@[simp] theorem afu{P:Program}{t:TypeId}{b g n c:Nat}:Cd P t (.vH b g n c)=match P.underlying t with|some (.slice _)=>some (.sc (.int .i64 n))|some (.array n _)=>some (.sc (.int .i64 n))|_=>none:=by
 unfold Cd;cases P.underlying t with
 |none=>rfl|some y=>grind
@[simp] theorem VT{P:Program}{t:TypeId}{k:IntKind}{a:Int}{b g n c:Nat}:fp P t (.vH b g n c) (.sc (.int k a))=match P.underlying t with
  |some (.slice e)=>match ew P e with
   |some (_,sz)=>if 0<=a/\a<(n:Int)then some (.gx b g (Ma a.toNat sz))else none|none=>none
  |_=>none:=by
 unfold fp;simp only[E3];cases P.underlying t with
 |none=>rfl|some y=>cases y<;>rfl
def y_(P:Program)(t:TypeId)(b g i sz:Nat)(v:AV)(K:Fr->cZ->Prop)(fr:Fr)(H:cZ):Prop:=kQ P t (.gx b g (Ma i sz)) v K fr H
@[simp high] theorem Z0{P:Program}{t:TypeId}{b g i sz:Nat}{v:AV}{K:Fr->cZ->Prop}{fr:Fr}{H:cZ}:kQ P t (.gx b g (Ma i sz)) v K fr H=y_ P t b g i sz v K fr H:=rfl
def y_.arr{P:Program}{t:TypeId}{b g sz k:Nat}{a:Int}{bl:Bool}{v:AV}{K:Fr->cZ->Prop}{fr:Fr}{H:cZ}{α:Type}{f:α->AV}{L:List α}{x:α}(y:α)(i:ew P t=some (bl,sz))(c:∀x,(f x).cells.length=sz)
  (h:eo (f y)=true) (hi:dg L a=some x) (hg:g=fr.gen b) (j:fr.box b=some (tu f L k)) (l:v=f y) (n:K {fr with box:=fO fr.box b (some (tu f (wy L a y) k))} H):y_ P t b g a.toNat sz v K fr H:=by
 subst l;have hi':=MY hi;have d:=(mI.1 hi').1
 have hle:a.toNat*sz+sz<=L.length*sz:=by
  rw[<-Rq];exact GM _ d
 unfold y_;simp only[kQ,i,j];refine⟨hg,c y,by rw[E3,vq c];omega,h,?_⟩;rw[E3,TM c d];exact n
def fU.MM{α β:Type}{R:α->β->Prop}:∀{as:List α} {bs:List β} {i:Nat} {a0 a:α},fU R as bs->as[i]?=some a0->(∀b,bs[i]?=some b->R a b)->fU R (as.set i a) bs
 |_,_,_,_,_,.nil,h,_=>by simp at h
 |_,_,0,_,_,.cons d c,_,h=>.cons (h _ rfl) c|_,_,i+1,_,_,.cons d c,f,h=>.cons d (fU.MM c (by simpa using f) (λb j=>h b (by simpa using j)))
section
variable{P:Program} {T:dt} {n B0:Nat} {ρ:Maps} {F:jo} {R:Nat->nb} {fr:Fr} {H:cZ} {a:Act} {w:World}
def WR.unbox(h:WR T n B0 ρ F R fr H a w){d:Nat}{cs:List AV}(y:fr.box d=some cs):∃q,q (ρ.L d (fr.gen d))=.free/\WR T n B0 ρ F q {fr with box:=fO fr.box d none} H a w:=by
 obtain⟨G,I,J,vs,ty,K,M⟩:=h.box d cs y
 let q:Nat->nb:=fO R (ρ.L d (fr.gen d)) .free
 have f:∀b,R b≠ .box d->q b=R b:=by grind[fO]
 refine⟨q,by show fO R _ _ _=_;simp[fO],⟨h.g,h.size,h.defers,h.env,h.hn,h.lg,h.ag,?_,?_,?_,?_,?_,h.qi⟩⟩
 .intro s t i;simp only[fO] at i
  by_cases he:s=d
  .subst he;simp at i
  .rw[cO he] at i;obtain⟨u,r,x⟩:=h.box s t i;exact⟨u,by rw[f _ (by rw[r];simp[he])];exact r,x⟩
 .intro k m A b c sz B;obtain⟨u,r,x⟩:=h.tok k m A b c sz B;exact⟨u,by rw[f _ (by rw[r];simp)];exact r,x⟩
 .intro b j v C
  by_cases l:b=ρ.L d (fr.gen d)
  .subst l;intro s;show fO R _ _ _≠_;simp[fO]
  .have e:q b=R b:=by show fO R _ _ _=_;simp[fO,l]
   rw[e];exact h.qF b j v C
 .intro o D;have:=h.na o D;rw[f _ (by rw[this];simp)];exact this
 .intro b l;have:=h.k4 b l;rw[f _ (by rw[this];simp)];exact this
def fU.Sn{F:jo}{ρ:Maps}{cs:List AV}{vs:List Value}(h:fU (iF F ρ) cs vs):fU (fE F ρ.G ρ.n) (cs.map AV.ke) vs:=h.wI AV.ke λ_ _ _ h=>h.ke
def WR.Jj(h:WR T n B0 ρ F R fr H a w){d len cap sz:Nat}{cs els:List AV}(D:fr.box d=some cs)(M:els.length=len)(hs:∀x∈els,x.cells.length=sz)
  (I:els.flatMap AV.cells=(cs.take (len*sz)).map AV.ke) (hle:len*sz<=cs.length) (N:len<=cap) (t:cap<=maxLen):∃F' y,tk F F' ρ ρ/\(∀b j,b<B0->F' b j=F b j)/\WR T n B0 ρ F' y {fr with box:=fO fr.box d none} H a w/\fE F' ρ.G ρ.n (.slice .iw els) (.slice (some ⟨ρ.L d (fr.gen d),0,none⟩) len cap):=by
 obtain⟨V,O,J,vs,ty,P,A⟩:=h.box d cs D;obtain⟨y,q,hw⟩:=h.unbox D
 have hF:∀j,F (ρ.L d (fr.gen d)) j=none:=by
  intro j;cases Q:F (ρ.L d (fr.gen d)) j with
  |none=>rfl|some v=>
   exact absurd O (h.qF _ j v Q d)
 have S:vs.toList.length=cs.length:=A.length.symm
 obtain⟨r,B⟩:=hw.freeze (us:=vs.toList.take (len*sz)) (k:=(vs.toList.take (len*sz)).length) q hF P (λu hu=>iO A J u hu) (by
  intro j v _ s;rw[Nu] at s
  split at s
  .simpa using s
  .cases s)
 refine⟨_,y,r,λb j U=>la VW,B,?_⟩
 have f:fU (fE F ρ.G ρ.n) (els.flatMap AV.cells) (vs.toList.take (len*sz)):=by
  rw[I];exact(A.take (len*sz)).Sn
 have K:=fE.slice (F:=im F (ρ.L d (fr.gen d)) (vs.toList.take (len*sz)).length (vs.toList.take (len*sz))) (G:=ρ.G) (n:=ρ.n) (tag:=.iw) (l:=els) (b:=ρ.L d (fr.gen d)) (o:=0)
  (base:=some ⟨ρ.L d (fr.gen d),0,none⟩) (cap:=cap) (sz:=sz) (vs:=vs.toList.take (len*sz)) (.ox (f.mono λ_ _ _ h=>h.grow r.g)) (u9 _ _ _) (λ_=>rfl) hs (by
   intro c i;rw[I] at i
   exact zF (λc C=>J c (AF C)) c i) VW t (.inl rfl)
 rw[M] at K;exact K
def fa.aeV{α:Type}{c:Code}{Q:Exit->Fr->cZ->Prop}{f:α->AV}(t:Nat){L:List α}{k sz d g cap:Nat}(l:∀x,(f x).cells.length=sz)(q:∀x,(f x).cells.map AV.ke=(f x).cells)
  (he:fr.env t=.vH d g L.length cap) (hg:g=fr.gen d) (C:fr.box d=some (tu f L k))
  (h:fa P T n c Q {fr with env:=fO fr.env t (.slice .iw (L.map f)),box:=fO fr.box d none} H):fa P T n c Q fr H:=by
 intro G0 F0 n0 w0 a w hs;refine h G0 F0 n0 w0 a w ?_;obtain⟨ρ,F,R,hw,D⟩:=hs;have o:=hw.env t;rw[he] at o;obtain⟨G,I,r,s⟩:=yF o
 have u:∀x∈L.map f,x.cells.length=sz:=by grind
 obtain⟨F',J,v,y,i,K⟩:=hw.Jj (els:=L.map f) (len:=L.length) (cap:=cap) (sz:=sz) C aaL u (by rw[zL l];exact Gb q L) (by rw[vq l];omega) r s;refine⟨ρ,F',J,⟨i.g,i.size,i.defers,?_,i.hn,i.lg,i.ag,i.box,i.tok,i.qF,i.na,i.k4,i.qi⟩,?_⟩
 .intro B;show fv F' ρ (fO fr.env t (.slice .iw (L.map f)) B) _;simp only[fO]
  split
  .rename_i e;subst e;rw[G,hg];exact .p K
  .exact(hw.env B).grow v
 .exact D.freeze λb j A=>y b j A
def fa.ahy{α:Type}{c:Code}{Q:Exit->Fr->cZ->Prop}{f:α->AV}(d2 i:Nat){cs2:List AV}{L:List α}{k sz d g cap:Nat}(q:∀x,(f x).cells.length=sz)(t:∀x,(f x).cells.map AV.ke=(f x).cells)
  (v:d2≠d) (he:fr.box d2=some cs2) (hi:cs2[i]?=some (.vH d g L.length cap)) (hg:g=fr.gen d) (X:fr.box d=some (tu f L k))
  (h:fa P T n c Q {fr with box:=fO (fO fr.box d none) d2 (some (cs2.set i (.slice .iw (L.map f))))} H):fa P T n c Q fr H:=by
 intro G0 F0 n0 w0 a w hs;refine h G0 F0 n0 w0 a w ?_;obtain⟨ρ,F,R,hw,A⟩:=hs;obtain⟨_,_,B,C,Y,Z,D⟩:=hw.box d2 cs2 he;obtain⟨u,hu,G⟩:=D.get hi;obtain⟨hv,ad,I,J⟩:=yF (.cell G)
 have K:∀x∈L.map f,x.cells.length=sz:=by
  intro x A;obtain⟨y,_,rfl⟩:=nw.1 A;exact q y
 obtain⟨F',R',ae,M,l,hp⟩:=hw.Jj (els:=L.map f) (len:=L.length) (cap:=cap) (sz:=sz) X aaL K (by rw[zL q];exact Gb t L) (by rw[vq q];omega) I J
 have N:({fr with box:=fO fr.box d none}:Fr).box d2=some cs2:=by simp[fO,v,he]
 refine⟨ρ,F',R',⟨l.g,l.size,l.defers,l.env,l.hn,l.lg,l.ag,?_,l.tok,l.qF,l.na,l.k4,l.qi⟩,?_⟩
 .intro O S o;simp only[fO] at o
  by_cases r:O=d2
  .subst r;simp only[if_true,uV] at o;subst o;obtain⟨e1,e2,e3,vs',U,e4,e5⟩:=l.box O cs2 N;refine⟨e1,e2,?_,vs',U,e4,?_⟩
   .intro c hc;rcases List.mem_or_eq_of_mem_set hc with h'|h'
    .exact e3 c h'
    .rw[h'];rfl
   .have V:vs'.toList=C.toList:=by
     grind
    refine fU.MM e5 hi ?_;intro u' s;rw[V,hu] at s;obtain rfl:=fQ s;rw[hv,hg];exact .p hp
  .simp only[cO r] at o;exact l.box O S (by simpa[fO] using o)
 .exact A.freeze λb j W=>M b j W
end
end Go.kC
