/- Part of the proof of SchemeChains: layer. -/
import Derived.Test.YtpgdkkomegalnaaGreatDoorHL9
set_option linter.all false
namespace Go.lD
open Go
mutual
def AV.low(k:Nat):AV->Bool
 |.undef=>true|.sc _=>true|.mQ x=>x.low k|.h9 _ _ _=>true|.fg o _=>decide (o<k)|.slice _ l=>AV.iy k l|.agg l=>AV.iy k l|.tuple l=>AV.iy k l|.func _ f c=>AV.iy k f&&AV.iy k c|.iface _ x=>x.low k|.xQ _ _ _ _=>true|.n_ o=>decide (o<k)|.zF o _ _ _=>decide (o<k)|.Ps=>true|.uv _ xs=>AV.iy k xs|.mV o _ _=>decide (o<k)
def AV.iy(k:Nat):List AV->Bool
 |[]=>true|x::l=>x.low k&&AV.iy k l
end
def AV.wY{k:Nat}:∀{l:List AV},AV.iy k l=true↔∀x∈l,x.low k=true
 |[]=>by simp[AV.iy]|x::l=>by simp[AV.iy,AV.wY (l:=l)]
def AV.M0{k:Nat}{x:AV}(h:x.low k=true):AV.iy k x.cells=true:=by
 cases x<;>simp_all [AV.low,AV.cells,AV.iy]
def AV.Z2{k:Nat}{l:List AV}(h:AV.iy k l=true):AV.iy k (l.flatMap AV.cells)=true:=by
 rw[AV.wY] at h|-;intro x a;obtain⟨y,hy,a⟩:=adA.1 a;exact AV.wY.1 (AV.M0 (h y hy)) x a
@[simp] theorem AV.al5{α:Type}{k:Nat}(f:α->Value)(l:List α):AV.iy k (List.map (λn=>AV.sc (f n)) l)=true:=by
 rw[AV.wY];intro x a;obtain⟨y,_,rfl⟩:=ql.1 a;rfl
section
variable{F:la} {G:Nat->Nat} {n k:Nat}
mutual
def gT.lower:∀{x v},gT F G n x v->x.low k=true->gT F G k x v
 |_,_,.undef h,_=>.undef h|_,_,.sc h,_=>.sc h|_,_,.mQ b c d,a=>.mQ (b.lower (AV.M0 (by simpa[AV.low] using a))) c d|_,_,.fg h,a=>.fg (by simpa[AV.low] using a)|_,_,.n_ h,a=>.n_ (by simpa[AV.low] using a)|_,_,.zF h c d,a=>.zF (by simpa[AV.low] using a) c d|_,_,.slice b c d f i j l o,a=>.slice (b.lower (AV.Z2 (by simpa[AV.low] using a))) c d f i j l o|_,_,.Ps,_=>.Ps|_,_,.agg b c,a=>.agg (b.lower (by simpa[AV.low] using a)) c|_,_,.tuple b,a=>.tuple (b.lower (by simpa[AV.low] using a))|_,_,.func b c,a=>by
  simp only[AV.low,gJ] at a;exact .func (b.lower a.1) (c.lower a.2)
 |_,_,.iface b,a=>.iface (b.lower (by simpa[AV.low] using a))
def hO.lower:∀{xs vs},hO F G n xs vs->AV.iy k xs=true->hO F G k xs vs
 |_,_,.nil,_=>.nil|_,_,.cons b c,a=>by
  simp only[AV.iy,gJ] at a;exact .cons (b.lower a.1) (c.lower a.2)
end
end
def lV.lower{F:la}{G:Nat->Nat}{n k:Nat}{cs d}(h:lV F G n cs d)(a:AV.iy k cs=true):lV F G k cs d:=by
 cases h with
 |cells f b c=>exact .cells f ((hO.pV b).lower a).rV c|map b c i j l=>exact .map b ((hO.pV c).lower (by simpa[AV.iy,AV.low] using a)).rV i j l|iter h=>exact .iter (by simpa[AV.iy,AV.low] using a)|dead=>exact .dead
def fv.drop{P:Program}{T:eK}{f:FuncId}{args:List AV}{H:dV}{Post Post':AV->dV->Prop}(h:fv P T f args H Post)
  (A:∀r H',Post r H'->∃a X,H'=a++X/\H.length<=a.length/\r.low a.length=true/\(∀cs∈a,AV.iy a.length cs=true)/\Post' r a):fv P T f args H Post':=by
 refine⟨h.1,λG F w vs hg B=>(h.2 G F w vs hg B).mono ?_⟩;rintro e w' ⟨r,H',v,G',F',n,rfl,k,C,c⟩;obtain⟨a,X,rfl,hlen,D,q,I⟩:=A r H' n
 have l:∀b o v,F b o=some v->F' b o=some v:=by
  intro b o v s
  have hb:b<w.heap.size:=by
   rcases uC b w.heap.size with hb|hb
   .exact hb
   .rw[hg.fresh b o hb] at s;cases s
  exact c.mF b o v hb s
 have i:∀o,o<a.length->o<(a++X).length:=λo d=>by rw[oV];omega
 refine⟨r,a,v,G',F',I,rfl,?_,C.lower D,?_⟩
 .refine⟨k.GL,?_,λo o' d t=>k.inj o o' (i o d) (i o' t),λo j d u=>k.gF o j (i o d) (by rw[uJ d];exact u),k.fresh,λg x J=>?_,k.row⟩
  .intro o cs d;have y:o<a.length:=(ru.1 d).1;obtain⟨K,L,M⟩:=k.ma o cs (by rw[uJ y];exact d);exact⟨K,L,M.lower (q cs (HP d))⟩
  .exact(hg.CO g x J).grow ⟨l,hlen,λo d=>c.hG o d⟩
 .exact⟨c.os,c.tape,c.output,c.size,hlen,c.hG,λo n N=>c.NP o n (i o N),c.hF,c.mF,c.heap⟩
end Go.lD
namespace Go.lD
open Go
def AV.Es{k:Nat}{x:AV}(h:AV.iy k x.cells=true):x.low k=true:=by
 cases x<;>simp_all [AV.low,AV.cells,AV.iy]
def AV.NT{k:Nat}{l:List AV}(h:AV.iy k (l.flatMap AV.cells)=true):AV.iy k l=true:=by
 rw[AV.wY] at h|-;intro x a;exact AV.Es (AV.wY.2 λy hy=>h y (adA.2 ⟨x,a,hy⟩))
section
variable{F:la} {G:Nat->Nat} {n:Nat}
mutual
def gT.vJ:∀{x v},gT F G n x v->x.low n=true
 |_,_,.undef _=>rfl|_,_,.sc _=>rfl|_,_,.mQ a _ _=>by simpa[AV.low] using AV.Es a.vJ|_,_,.fg h=>by grind[AV.low]|_,_,.n_ h=>by simpa[AV.low] using h|_,_,.zF h _ _=>by simpa[AV.low] using h|_,_,.slice a _ _ _ _ _ _ _=>by simpa[AV.low] using AV.NT a.vJ|_,_,.Ps=>rfl|_,_,.agg a _=>by simpa[AV.low] using a.vJ|_,_,.tuple a=>by simpa[AV.low] using a.vJ|_,_,.func a b=>by simp[AV.low,a.vJ,b.vJ]|_,_,.iface a=>by simpa[AV.low] using a.vJ
def hO.vJ:∀{xs vs},hO F G n xs vs->AV.iy n xs=true
 |_,_,.nil=>rfl|_,_,.cons a b=>by simp[AV.iy,a.vJ,b.vJ]
end
end
def lV.vJ{F:la}{G:Nat->Nat}{n:Nat}{cs c}(h:lV F G n cs c):AV.iy n cs=true:=by
 cases h with
 |cells d a b=>exact(hO.pV a).vJ|map a b f i j=>simpa[AV.iy,AV.low] using(hO.pV b).vJ|iter h=>grind[AV.iy,AV.low]|dead=>rfl
def fv.rB{P:Program}{T:eK}{f:FuncId}{args:List AV}{H:dV}{Post Post':AV->dV->Prop}(h:fv P T f args H Post)
  (d:∀r H',Post r H'->∃X,H'=H++X/\r.low H.length=true/\Post' r H):fv P T f args H Post':=by
 refine⟨h.1,λG F w vs hg i=>?_⟩
 have a:∀cs∈H,AV.iy H.length cs=true:=by
  intro cs b;obtain⟨o,j⟩:=adq.1 b;obtain⟨q,_,k⟩:=hg.ma o cs j;exact k.vJ
 exact(fv.drop (Post':=Post') h λr H' l=>by
  obtain⟨X,e,n,c⟩:=d r H' l
  exact⟨H,X,e,gY _,n,a,c⟩).2 G F w vs hg i
end Go.lD
namespace Go.lD
open Go Go.fP
variable{A B H:dV}{P:Program}{T:eK}{f:FuncId}{i k n o o':Nat}
mutual
def AV.IG{k n:Nat}(h:k<=n):∀{x:AV},x.low k=true->x.low n=true
 |.undef,_=>rfl|.sc _,_=>rfl|.mQ x,a=>by simpa[AV.low] using AV.IG h (x:=x) (by simpa[AV.low] using a)|.h9 _ _ _,_=>rfl|.fg o _,a=>by simp[AV.low] at a|-;omega
 |.zF o _ _ _,a=>by simp[AV.low] at a|-;omega
 |.slice _ l,a=>by simpa[AV.low] using AV.r' h (l:=l) (by simpa[AV.low] using a)|.agg l,a=>by simpa[AV.low] using AV.r' h (l:=l) (by simpa[AV.low] using a)|.tuple l,a=>by simpa[AV.low] using AV.r' h (l:=l) (by simpa[AV.low] using a)|.func _ f c,a=>by
  simp only[AV.low,gJ] at a|-;exact⟨AV.r' h a.1,AV.r' h a.2⟩
 |.iface _ x,a=>by simpa[AV.low] using AV.IG h (x:=x) (by simpa[AV.low] using a)|.xQ _ _ _ _,_=>rfl|.Ps,_=>rfl|.n_ o,a=>by simp[AV.low] at a|-;omega
 |.uv _ l,a=>by simpa[AV.low] using AV.r' h (l:=l) (by simpa[AV.low] using a)|.mV o _ _,a=>by simp[AV.low] at a|-;omega
def AV.r'{k n:Nat}(h:k<=n):∀{l:List AV},AV.iy k l=true->AV.iy n l=true
 |[],_=>rfl|x::l,a=>by
  simp only[AV.iy,gJ] at a|-;exact⟨AV.IG h a.1,AV.r' h a.2⟩
end
def Xn{c:List AV}(h:H[o]?=some c):o<H.length:=(ru.1 h).1
theorem M3{c:List AV}(h:H[o]?=some c):gk H o c=H:=by
 apply YU
 grind[gk]
def Inb(H:dV)(o:Nat):Prop:=o<H.length
def eZ{c:List AV}(h:H[o]?=some c):Inb H o:=Xn h
def Ys{c:List AV}(h:Inb H o):(gk H o c)[o]?=some c:=by simp[gk,show o<H.length from h]
theorem QD{c:List AV}(h:o≠o'):(gk H o c)[o']?=H[o']?:=by grind[gk]
def W'{c d e:List AV}(h:o≠o'):gk (gk (gk H o c) o' d) o e=gk (gk H o e) o' d:=by
 simp only[gk];rw[List.set_comm _ _ h.symm,List.set_set]
def Te(h:Inb A o):(A++B)[o]?=A[o]?:=uJ h
def RO{c:List AV}(h:Inb A o):gk (A++B) o c=gk A o c++B:=by simp[gk,List.set_append,show o<A.length from h]
theorem IQ(h:A.length=k):(A++B)[k+i]?=B[i]?:=by grind
def TT(h:A.length=k):(A++B)[k]?=B[0]?:=IQ (i:=0) h
theorem GM{c:List AV}(h:A.length=k):gk (A++B) (k+i) c=A++gk B i c:=by grind[gk]
def Pz{c:List AV}(h:A.length=k):gk (A++B) k c=A++gk B 0 c:=GM (i:=0) h
@[simp] theorem agB(a:List AV)(l:dV)(c:List AV):gk (a::l) 0 c=c::l:=rfl
@[simp] theorem agD(a:List AV)(l:dV)(i:Nat)(c:List AV):gk (a::l) (i+1) c=a::gk l i c:=rfl
theorem fv.Kw{args:List AV}{c:List AV}{Post:AV->dV->Prop}(h:H[o]?=some c)(a:fv P T f args (gk H o c) Post):fv P T f args H Post:=by grind[M3]
structure DC {S:Type} (st:S->dV) (k:Nat):Prop where
 len:∀s,(st s).length=k
 low:∀s s' cs,cs∈st s'->cs∈st s\/AV.iy k cs=true
def DC.const{S:Type}(H:dV):DC (λ_:S=>H) H.length:=⟨λ_=>rfl,λ_ _ _ h=>.inl h⟩
theorem DC.ext{S:Type}{st:S->dV}(h:DC st k)(X:dV)(hn:k+X.length=n):DC (λs=>st s++X) n:=by
 subst hn;refine⟨λs=>by rw[oV,h.len],λs a cs hc=>?_⟩;rcases tl.1 hc with hc|hc
 .rcases h.low s a cs hc with h1|h1
  .grind
  .exact .inr (AV.r' VW h1)
 .grind
theorem DC.Ym{S:Type}(H:dV)(f:S->dV)(n:Nat)(hn:∀s,(f s).length=n)(b:∀s a cs,cs∈f a->cs∈f s\/AV.iy (H.length+n) cs=true):DC (λs=>H++f s) (H.length+n):=by
 refine⟨λs=>by rw[oV,hn],λs a cs c=>?_⟩
 grind
theorem fv.aj9{args:List AV}{Post Post':AV->dV->Prop}(h:fv P T f args H Post)
  (k:∀r H',Post r H'->∃a X,H'=a++X/\a.length=H.length/\r.low H.length=true/\(∀cs∈a,cs∈H\/AV.iy H.length cs=true)/\Post' r a):fv P T f args H Post':=by
 refine⟨h.1,λG F w vs hg d=>?_⟩
 have c:∀cs∈H,AV.iy H.length cs=true:=by
  intro cs b;obtain⟨o,i⟩:=adq.1 b;obtain⟨l,_,j⟩:=hg.ma o cs i;exact j.vJ
 refine(fv.drop (Post':=Post') h λr H' n=>?_).2 G F w vs hg d
 grind
def fv.afH{args:List AV}{S:Type}{st:S->dV}(hF:DC st k){s:S}{Post Post':AV->dV->Prop}(h:fv P T f args (st s) Post)
  (c:∀r H',Post r H'->∃a X,H'=st a++X/\r.low k=true/\Post' r (st a)):fv P T f args (st s) Post':=
 fv.aj9 h λr H' d=>by
  obtain⟨a,X,e,i,b⟩:=c r H' d;exact⟨st a,X,e,by rw[hF.len,hF.len],by rw[hF.len];exact i,λcs j=>by rw[hF.len];exact hF.low s a cs j,b⟩
@[simp] theorem ajB(H:List (List AV))(o:Nat)(c:List AV):List.set H o c=gk H o c:=rfl
attribute [simp] Ys QD W' Te RO IQ TT GM Pz
end Go.lD
namespace Go.lD
open Go Go.fP
variable{E:List Nat}{K:Fr->dV->Prop}{P:Program}{Q:Exit->Fr->dV->Prop}{T:eK}{a r:AV}{as:Array Operand}{f x y:Operand}{g:FuncId}{hi lo:Option Operand}{i j n:Nat}{o:BinOp}{ops:Array Oper}{ps:Array (Nat×Operand)}{t:TypeId}{ts:Array TypeId}
def gf(P:Program)(T:eK)(E:List Nat)(opsA:Array Oper)(q:Qt):List Bool->List Oper->(Fr->dV->Prop)->Fr->dV->Prop
 |_,[],K,fr,H=>K fr H|[],o::rest,K,fr,H=>hQ P T E opsA q true o (λfr H=>gf P T E opsA q [] rest K fr H) fr H|b::bs,o::rest,K,fr,H=>hQ P T E opsA q b o (λfr H=>gf P T E opsA q bs rest K fr H) fr H
theorem KV{q:Qt}(a:List Bool):∀(l:List Oper) (k:Nat) (fr:Fr) (H:dV),l=ops.toList.drop k->gf P T E ops q (a.drop k) l K fr H->JW P T E ops q (λi=>a.getD i true) (List.range' k l.length) K fr H:=by
 intro l
 induction l with
 |nil=>
  intro k fr H _ h;cases c:a.drop k<;>rw[c] at h<;>exact h
 |cons o l ih=>
  intro k fr H b h
  have d:k<ops.toList.length:=by
   rcases uC k ops.toList.length with h'|h'
   .exact h'
   .rw[LI h'] at b;cases b
  have f:=K0 d;rw[f] at b;injection b with s j
  have hi:ops[k]?=some o:=by grind
  simp only[kY,acs,JW,hi]
  have n:a.getD k true=(a.drop k).headD true:=by
   simp only[List.getD,List.headD_eq_head?_getD,List.head?_drop]
  have r:a.drop (k+1)=(a.drop k).tail:=by rw[List.tail_drop]
  rw[n];refine C8 (K:=λfr H=>gf P T E ops q (a.drop (k+1)) l K fr H) (λfr H h=>ih (k+1) fr H j h) ?_;rw[r];cases c:a.drop k<;>rw[c] at h<;>exact h
theorem gv.adn{fr:Fr}{H:dV}{id:Nat}(E:List Nat)(q:Qt)(b:List Bool)(hm:P.follows .mixedOrders=true)(a:zy n ops=true)(c:yw E ops (λi=>b.getD i true)=true)
  (h:gf P T E ops q b ops.toList (Q .normal) fr H):gv P T n (.region id ops true) Q fr H:=by
 refine gv.Qk E q (λi=>b.getD i true) hm a c ?_;have:=KV (P:=P) (T:=T) (E:=E) (ops:=ops) (q:=q) (K:=Q .normal) b ops.toList 0 fr H (by grind);rw[abc]
 grind
def gU(P:Program)(T:eK)(E:List Nat)(ops:Array Oper)(q:Qt)(bs:List Bool)(a:AV)(as:List AV)(d:Option Nat)(rest:List Oper)(K:Fr->dV->Prop)(fr:Fr)(H:dV):Prop:=
 if d.any E.contains then aaq P T q true a as d (gf P T E ops q bs rest K) fr H else∃r H',nu P T a as H r H'/\(QK q H H')/\gf P T E ops q bs rest K (fr.put d r) H'
def vb(P:Program)(T:eK)(E:List Nat)(ops:Array Oper)(q:Qt)(bs:List Bool)(a:AV)(as:List AV)(d:Option Nat)(rest:List Oper)(K:Fr->dV->Prop)(fr:Fr)(H:dV):Prop:=
 if d.any E.contains then aaq P T q false a as d (gf P T E ops q bs rest K) fr H else∃r H',nu P T a as H r H'/\gf P T E ops q bs rest K (fr.put d r) H'
section
variable{P:Program} {T:eK} {E:List Nat} {ops:Array Oper} {q:Qt} {bs:List Bool} {rest:List Oper} {K:Fr->dV->Prop} {fr:Fr} {H H':dV} {d:Option Nat} {ty:TypeId} {pos:String} {after:Array Edge}
theorem gU.val{as:List AV}(h:nu P T a as H r H')(b:QK q H H')(c:gf P T E ops q bs rest K (fr.put d r) H'):gU P T E ops q bs a as d rest K fr H:=by grind[gU,OR]
theorem vb.val{as:List AV}(h:nu P T a as H r H')(b:gf P T E ops q bs rest K (fr.put d r) H'):vb P T E ops q bs a as d rest K fr H:=by grind[vb,OR]
def gU.fn{as:List AV}(h:eG P T g as H r H')(a:QK q H H')(b:gf P T E ops q bs rest K (fr.put d r) H'):gU P T E ops q bs (.func (.func g) [] []) as d rest K fr H:=by
 refine gU.val ?_ a b;unfold nu oa;simp only[yc];exact h
def gU.GP{b c as a:List AV}(f:b++as++c=a)(h:eG P T g a H r H')(i:QK q H H')(j:gf P T E ops q bs rest K (fr.put d r) H'):gU P T E ops q bs (.func (.func g) b c) as d rest K fr H:=by
 subst f;exact gU.val h i j
def vb.fn{as:List AV}(h:eG P T g as H r H')(a:gf P T E ops q bs rest K (fr.put d r) H'):vb P T E ops q bs (.func (.func g) [] []) as d rest K fr H:=by
 refine vb.val ?_ a;unfold nu oa;simp only[yc];exact h
@[simp] theorem aeE:gf P T E ops q (false::bs) ({dst:=d,op:=.call {callee:=.value f,args:=as,argTypes:=ts},type:=ty,pos:=pos,after:=after,guard:=none}::rest) K fr H=vb P T E ops q bs (ev T fr f) (as.toList.map λx=>(ev T fr x).norm) d rest K fr H:=by
 simp only[gf,hQ,hH,pW,j6,mX,wU,pA,jt,hE,vb,pA,false_implies,zT]
@[simp] theorem aiy(bs:List Bool):gf P T E ops q bs [] K fr H=K fr H:=by cases bs<;>rfl
@[simp] theorem afS:gf P T E ops q (false::bs) ({dst:=d,op:=.load t x,type:=ty,pos:=pos,after:=after,guard:=none}::rest) K fr H=if qA ops.toList x (ev T fr x)then(match uy P fr H t (ev T fr x)with|some v=>gf P T E ops q bs rest K (fr.put d v) H|none=>False)else False:=by
 simp only[gf,hQ,hH,pW,j6,mX,wU,pA,jt,hE,nZ,Bool.not_false,agL,Lh]
 split
 .rename_i v a
  split at a
  .rename_i b;rw[dO b,a]
  .cases a
 .rename_i a
  split at a
  .rename_i b;rw[dO b,a]
  .rename_i b;rw[dK b]
@[simp] theorem ac3:gf P T E ops q (false::bs) ({dst:=none,op:=.store t x y,type:=ty,pos:=pos,after:=after,guard:=none}::rest) K fr H=(Xb E q x (ev T fr x)/\qA ops.toList x (ev T fr x)=true/\mj P t (ev T fr x) (ev T fr y) (gf P T E ops q bs rest K) fr H):=by
 simp only[gf,hQ,hH,pW,j6,mX,wU,pA,jt,hE,zT,pA,false_implies,if_true,Ft]
@[simp] theorem aho:gf P T E ops q (true::bs) ({dst:=d,op:=.move x,type:=ty,pos:=pos,after:=after,guard:=none}::rest) K fr H=gf P T E ops q bs rest K (fr.put d (ev T fr x)) H:=rfl
@[simp] theorem aeC:gf P T E ops q (true::bs) ({dst:=d,op:=.assign x,type:=ty,pos:=pos,after:=after,guard:=none}::rest) K fr H=gf P T E ops q bs rest K (fr.put d (ev T fr x)) H:=rfl
@[simp] theorem afI:gf P T E ops q (true::bs) ({dst:=d,op:=.alloc t,type:=ty,pos:=pos,after:=after,guard:=none}::rest) K fr H=match jH P t with|some z=>d.any E.contains=false/\ly E d z (gf P T E ops q bs rest K) fr H|none=>False:=by
 simp only[gf,hQ,hH,pW,j6,mX,wU,pA,jt,hE,aeD];rfl
@[simp] theorem ah0:gf P T E ops q (true::bs) ({dst:=d,op:=.load t x,type:=ty,pos:=pos,after:=after,guard:=none}::rest) K fr H=if qA ops.toList x (ev T fr x)&&q.ok (ev T fr x)then(match uy P fr H t (ev T fr x)with|some v=>gf P T E ops q bs rest K (fr.put d v) H|none=>False)else False:=by
 simp only[gf,hQ,hH,pW,j6,mX,wU,pA,jt,hE,nZ,acA,PN]
 split
 .rename_i v a
  split at a
  .rename_i b;rw[dO b,a]
  .cases a
 .rename_i a
  split at a
  .rename_i b;rw[dO b,a]
  .rename_i b;rw[dK b]
@[simp] theorem ae6:gf P T E ops q (true::bs) ({dst:=none,op:=.store t x y,type:=ty,pos:=pos,after:=after,guard:=none}::rest) K fr H=(Xb E q x (ev T fr x)/\qA ops.toList x (ev T fr x)=true/\isL (ev T fr x)=true/\mj P t (ev T fr x) (ev T fr y) (gf P T E ops q bs rest K) fr H):=by
 simp only[gf,hQ,hH,pW,j6,mX,wU,pA,jt,hE,aeD,zT,if_true,Ft]
@[simp] theorem Xt{t:Nat}:gf P T E ops q (true::bs) ({dst:=d,op:=.buildSlice t n ps,type:=ty,pos:=pos,after:=after,guard:=none}::rest) K fr H=if d.any E.contains then False else match nE P t n (ps.toList.map λp=>(p.1,ev T fr p.2))with|some v=>gf P T E ops q bs rest K (fr.put d v) H|none=>False:=by
 simp only[gf,hQ,hH,pW,j6,mX,wU,pA,jt,hE,nZ]
 split
 .rename_i v a
  split at a
  .cases a
  .rename_i b;rw[dK b,a]
 .rename_i a
  split at a
  .rename_i b;rw[dO b]
  .rename_i b;rw[dK b,a]
@[simp] theorem acG{i:Operand}{ok:Bool}:gf P T E ops q (true::bs) ({dst:=d,op:=.lookup t x i ok,type:=ty,pos:=pos,after:=after,guard:=none}::rest) K fr H=if q.all then(match ve P H t (ev T fr x) (ev T fr i) ok with|some v=>gf P T E ops q bs rest K (fr.put d v) H|none=>False)else False:=by
 simp only[gf,hQ,hH,pW,j6,mX,wU,pA,jt,hE,nZ,acA,PN]
 split
 .rename_i v a
  split at a
  .rename_i b;rw[dO b,a]
  .cases a
 .rename_i a
  split at a
  .rename_i b;rw[dO b,a]
  .rename_i b;rw[dK b]
@[simp] theorem adU{t d:Nat}:gf P T E ops q (true::bs) ({dst:=some d,op:=.call {callee:=.builtin .append,args:=#[x,y],argTypes:=#[t,t]},type:=ty,pos:=pos,after:=after,guard:=none}::rest) K fr H=if E.contains d then acB P t (ev T fr x) (ev T fr y) d (gf P T E ops q bs rest K) fr H else Cn P t (ev T fr x) (ev T fr y) d (gf P T E ops q bs rest K) fr H:=by
 simp only[gf,hQ,hH,pW,j6,mX,wU,pA,jt,hE,aiq]
 split
 .rename_i a;first|exact CJ|(simp only[a,↓reduceIte];exact CJ)
 .rename_i a;first|exact Dw|(simp only[a,↓reduceIte];exact Dw)
@[simp] theorem ahk:gf P T E ops q (true::bs) ({dst:=d,op:=.call {callee:=.value f,args:=as,argTypes:=ts},type:=ty,pos:=pos,after:=after,guard:=none}::rest) K fr H=gU P T E ops q bs (ev T fr f) (as.toList.map λx=>(ev T fr x).norm) d rest K fr H:=by
 simp only[gf,hQ,hH,pW,j6,mX,wU,pA,jt,hE,aeD,gU]
@[simp] theorem ai5:gf P T E ops q (true::bs) ({dst:=d,op:=.call {callee:=.builtin .len,args:=as,argTypes:=ts},type:=ty,pos:=pos,after:=after,guard:=none}::rest) K fr H=match xx P T fr {callee:=.builtin .len,args:=as,argTypes:=ts}with|some v=>gf P T E ops q bs rest K (fr.put d v) H|none=>False:=rfl
@[simp] theorem aiQ:gf P T E ops q (true::bs) ({dst:=d,op:=.call {callee:=.builtin .max,args:=as,argTypes:=ts},type:=ty,pos:=pos,after:=after,guard:=none}::rest) K fr H=match xx P T fr {callee:=.builtin .max,args:=as,argTypes:=ts}with|some v=>gf P T E ops q bs rest K (fr.put d v) H|none=>False:=rfl
@[simp] theorem ah9{c a b:Operand}:gf P T E ops q (true::bs) ({dst:=d,op:=.pick c a b,type:=ty,pos:=pos,after:=after,guard:=none}::rest) K fr H=match zx P T fr {dst:=d,op:=.pick c a b,type:=ty,pos:=pos,after:=after,guard:=none}with|some v=>gf P T E ops q bs rest K (fr.put d v) H|none=>False:=rfl
@[simp] theorem afq:gf P T E ops q (true::bs) ({dst:=d,op:=.build t ps,type:=ty,pos:=pos,after:=after,guard:=none}::rest) K fr H=match FW P t (ps.toList.map λp=>(p.1,ev T fr p.2))with|some v=>gf P T E ops q bs rest K (fr.put d v) H|none=>False:=rfl
@[simp] theorem aeN{u:TypeId}:gf P T E ops q (true::bs) ({dst:=d,op:=.binOp o t x y u,type:=ty,pos:=pos,after:=after,guard:=none}::rest) K fr H=match Nh P o t y (ev T fr x) (ev T fr y)with|some v=>gf P T E ops q bs rest K (fr.put d v) H|none=>False:=rfl
@[simp] theorem ahq{o:UnOp}:gf P T E ops q (true::bs) ({dst:=d,op:=.unOp o t x,type:=ty,pos:=pos,after:=after,guard:=none}::rest) K fr H=match unA o (ev T fr x)with|some v=>gf P T E ops q bs rest K (fr.put d v) H|none=>False:=rfl
@[simp] theorem XR{t:Nat}:gf P T E ops q (true::bs) ({dst:=d,op:=.fieldAddr t x i,type:=ty,pos:=pos,after:=after,guard:=none}::rest) K fr H=match rO P t (ev T fr x) i with|some v=>gf P T E ops q bs rest K (fr.put d v) H|none=>False:=rfl
@[simp] theorem afN{t:Nat}:gf P T E ops q (true::bs) ({dst:=d,op:=.field t x i,type:=ty,pos:=pos,after:=after,guard:=none}::rest) K fr H=match CG P t (ev T fr x) i with|some v=>gf P T E ops q bs rest K (fr.put d v) H|none=>False:=rfl
@[simp] theorem XS{i:Operand}:gf P T E ops q (true::bs) ({dst:=d,op:=.indexAddr t x i,type:=ty,pos:=pos,after:=after,guard:=none}::rest) K fr H=match gL P t (ev T fr x) (ev T fr i)with|some v=>gf P T E ops q bs rest K (fr.put d v) H|none=>False:=rfl
@[simp] theorem ae_{a:Option Operand}:gf P T E ops q (true::bs) ({dst:=d,op:=.slice t x lo hi a,type:=ty,pos:=pos,after:=after,guard:=none}::rest) K fr H=match pL P t (ev T fr x) (lo.map (ev T fr)) (hi.map (ev T fr)) (a.map (ev T fr))with|some v=>gf P T E ops q bs rest K (fr.put d v) H|none=>False:=rfl
@[simp] theorem abN:gf P T E ops q (true::bs) ({dst:=d,op:=.extract x i,type:=ty,pos:=pos,after:=after,guard:=none}::rest) K fr H=match zx P T fr {dst:=d,op:=.extract x i,type:=ty,pos:=pos,after:=after,guard:=none}with|some v=>gf P T E ops q bs rest K (fr.put d v) H|none=>False:=rfl
@[simp] theorem Y':gf P T E ops q (true::bs) ({dst:=d,op:=.nilCheck x,type:=ty,pos:=pos,after:=after,guard:=none}::rest) K fr H=match zx P T fr {dst:=d,op:=.nilCheck x,type:=ty,pos:=pos,after:=after,guard:=none}with|some v=>gf P T E ops q bs rest K (fr.put d v) H|none=>False:=rfl
@[simp] theorem afz{op:Op}{want:Bool}:gf P T E ops q (true::bs) ({dst:=d,op:=op,type:=ty,pos:=pos,after:=after,guard:=some (j,want)}::rest) K fr H=match(ops[j]?).bind (·.dst)with
  |some g=>match fr.env g with
   |.sc (.bool b)=>if b=want then gf P T E ops q (true::bs) ({dst:=d,op:=op,type:=ty,pos:=pos,after:=after,guard:=none}::rest) K fr H else gf P T E ops q bs rest K (fr.put d (.tuple [])) H|.tuple _=>gf P T E ops q bs rest K (fr.put d (.tuple [])) H|_=>False
  |none=>False:=by
 simp only[gf,hQ,hH]
 cases a:(ops[j]?).bind (·.dst)with
 |none=>rfl|some g=>
  simp only;cases he:fr.env g with
  |sc v=>
   cases v with
   |bool b=>
    simp only
    by_cases hw:b=want
    .subst hw;simp only[beq_self_eq_true,if_true];rfl
    .rw[dK hw]
     have:(b==want)=false:=by simpa using hw
     rw[this]
   |_=>rfl
  |_=>rfl
end
end Go.lD
namespace Go.lD
open Go Go.fP
def m8(k:Nat):Option Nat->AV
 |none=>.sc (.pointer none)|some p=>.fg (k+p) 0
@[simp] theorem als(k:Nat):m8 k none=.sc (.pointer none):=rfl
@[simp] theorem aju(k p:Nat):m8 k (some p)=.fg (k+p) 0:=rfl
@[simp] theorem alz(k:Nat)(x:Option Nat):(m8 k x).gO=true:=by cases x<;>rfl
@[simp] theorem aiP(k:Nat)(x:Option Nat):(m8 k x).cells=[m8 k x]:=by cases x<;>rfl
@[simp] theorem amB(k:Nat)(x:Option Nat):fG (m8 k x)=true:=by cases x<;>rfl
@[simp] theorem ale(k:Nat)(x:Option Nat):(m8 k x).norm=m8 k x:=by cases x<;>rfl
@[simp] theorem aiK(k:Nat)(x:Option Nat):(m8 k x).kA=m8 k x:=by cases x<;>rfl
@[simp] theorem akw(P:Program)(ty:TypeId)(k:Nat)(x:Option Nat):rn P ty (m8 k x)=match f' P ty with|some (false,_)=>true|_=>false:=by
 cases x with
 |none=>exact ac8 P ty _|some p=>exact VU P ty _ _
def w9{C:Type}(c:Nat->C->List AV)(k:Nat)(l:List C):dV:=l.map (c k)
@[simp] theorem ado{C:Type}(c:Nat->C->List AV)(k:Nat)(l:List C):(w9 c k l).length=l.length:=by simp[w9]
@[simp] theorem ai8{C:Type}(c:Nat->C->List AV)(k:Nat)(l:List C)(p:Nat):(w9 c k l)[p]?=(l[p]?).map (c k):=by simp[w9]
def qy{C:Type}{c:Nat->C->List AV}{k:Nat}{l:List C}{p:Nat}{x:C}{cs:List AV}(h:cs=c k x):gk (w9 c k l) p cs=w9 c k (l.set p x):=by
 subst h;simp only[gk,w9,List.map_set]
def MX{C:Type}{c:Nat->C->List AV}{k:Nat}{l:List C}{x:C}{cs:List AV}(h:cs=c k x):w9 c k l++[cs]=w9 c k (l++[x]):=by
 subst h;simp[w9]
def xr{C:Type}{l:List C}{p:Nat}{x y:C}(h:l[p]?=some y):(l.set p x)[p]?=some x:=by
 have:p<l.length:=(ru.1 h).1;simp[this]
def Vq{C:Type}{l:List C}{x:C}:(l++[x])[l.length]?=some x:=abm
def fv.nh0{C:Type}{c:Nat->C->List AV}{P:Program}{T:eK}{f:FuncId}{args:List AV}{H:dV}{Post:AV->dV->Prop}(h:fv P T f args (H++w9 c H.length []) Post):fv P T f args H Post:=by
 simpa[w9] using h
section
variable{P:Program} {t e:TypeId} {k:Nat} {x:Option Nat}
def YA(hu:P.underlying t=some (.pointer e)):oB P .eql t (m8 k x) (.sc (.pointer none))=some (.sc (.bool x.isNone)):=by
 cases x<;>simp[oB,sH,hu]
def YD(hu:P.underlying t=some (.pointer e)):oB P .neq t (m8 k x) (.sc (.pointer none))=some (.sc (.bool x.isSome)):=by
 cases x<;>simp[oB,sH,hu]
end
end Go.lD
namespace Go.lD
open Go Go.fP
variable{H:dV}{K:Fr->dV->Prop}{P:Program}{Q:Exit->Fr->dV->Prop}{a:Int}{bl:Bool}{c:Code}{cap d e g i sz:Nat}{cs2 els:List AV}{k:IntKind}{n:Tag}{s v x:AV}{t:TypeId}{vs:List Value}{α:Type}{L:List α}{f:α->AV}
def vi(f:α->AV)(L:List α)(k:Nat):List AV:=(L.map f).flatMap AV.cells++yZ k
@[irreducible] def QX(i sz:Nat):Nat:=i*sz
theorem Ii(i sz:Nat):QX i sz=i*sz:=by unfold QX;rfl
section
variable{α:Type} {f:α->AV} {L:List α} {k sz:Nat}
theorem tc(h:∀x,(f x).cells.length=sz)(L:List α):((L.map f).flatMap AV.cells).length=L.length*sz:=by
 rw[oL (sz:=sz)]
 all_goals grind
theorem xm(h:∀x,(f x).cells.length=sz):(vi f L k).length=L.length*sz+k:=by grind[vi,tc,yZ]
theorem BD(h:∀x,(f x).cells.length=sz):(vi f L k).take (L.length*sz)=(L.map f).flatMap AV.cells:=by grind[vi,tc]
theorem Yc(h:∀x,(f x).cells.length=sz){y:α}(hi:i<L.length):setCells (vi f L k) (i*sz) (f y).cells=vi f (L.set i y) k:=by
 unfold setCells vi;have hlen:=tc h L
 have hle:i*sz+sz<=L.length*sz:=by
  rw[<-Wq];exact Ki _ hi
 rw[h y,List.take_append_of_le_length VW,List.drop_append_of_le_length VW,<-tv]
 congr 1
 have a:L.set i y=L.take i++y::L.drop (i+1):=List.set_eq_take_append_cons_drop▸(by rw[dO hi]);rw[a,ahx,pP,aaZ,I3]
 have hm:∀x∈L.map f,x.cells.length=sz:=by grind
 have b:i*sz+sz=(i+1)*sz:=by rw[Wq]
 rw[b,<-D4 hm,<-zi hm,List.map_take,List.map_drop,tv]
end
theorem JQ(a:∀x,(f x).cells.map AV.kA=(f x).cells)(L:List α):(L.map f).flatMap AV.cells=((L.map f).flatMap AV.cells).map AV.kA:=by
 induction L with
 |nil=>rfl|cons x L ih=>grind
def sV.ago{t:Nat}{fr:Fr}(m:List α){b:Tag}
  (c:oA P t=some (e,sz)) (h:∃n,jH P e=some n) (i:∀x,(f x).cells.length=sz) (hlen:zP m=true) (hs:s=.slice .full []) (q:x=.slice b (m.map f))
  (r:∀cap,m.length<=cap->K {fr with env:=gN fr.env d (.xQ d (fr.gen d+1) m.length cap),box:=gN fr.box d (some (vi f m ((cap-m.length)*sz))),gen:=gN fr.gen d (fr.gen d+1)} H):sV P t s x d K fr H:=by
 subst hs;subst q
 have o:0<m.length/\m.length<=BR:=by simpa[zP] using hlen
 have j:∀l:List α,lG sz (l.map f)=true:=λl=>by cases l with|nil=>rfl|cons a l=>simp[i]
 obtain⟨n,h⟩:=h;refine .inl (.inr ?_);unfold abj;rw[c];refine⟨j m,by rw[h];rfl,by simpa using o.1,rfl,by simpa[kG,BR] using o.2,λcap u=>?_⟩
 have k:m.length<=cap:=by simpa using u
 have:=r cap k;simp only[zb,n9,wZ,vo,Hn];exact this
theorem sV.kC{t:Nat}{fr:Fr}(L m:List α)
  (q:oA P t=some (e,sz)) (r:∃A,jH P e=some A) (c:∀x,(f x).cells.length=sz) (hlen:fM L m=true) (hm:0<m.length) (hs:s=.xQ d (fr.gen d) L.length cap) (C:x=.slice n (m.map f))
  (D:fr.box d=some (vi f L ((cap-L.length)*sz))) (u:L.length<=cap)
  (F:∀B b,(fW L m).length<=b->K {fr with env:=gN fr.env d (.xQ d B (fW L m).length b),box:=gN fr.box d (some (vi f (fW L m) ((b-(fW L m).length)*sz))),gen:=gN fr.gen d B} H):sV P t s x d K fr H:=by
 subst hs;subst C;have G:L.length+m.length<=BR:=RS hlen
 have v:∀l:List α,lG sz (l.map f)=true:=λl=>by cases l with|nil=>rfl|cons a l=>simp[c]
 obtain⟨A,r⟩:=r;have w:=tc c L;have y:=tc c m;have i:(fW L m).length=L.length+m.length:=GA L m
 have k:(L.map f).flatMap AV.cells++(m.map f).flatMap AV.cells=((fW L m).map f).flatMap AV.cells:=by simp[fW]
 refine .inl (.inr ?_);unfold abj;rw[q];refine⟨v m,by rw[r];rfl,by simpa using hm,rfl,by simpa[kG,BR] using G,?_⟩;rw[D];simp only[Hn];refine⟨?_,λI=>?_,λb N O=>?_⟩
 .rw[xm c,Nat.sub_mul];have:=Ki sz u;omega
 .have o:=F (fr.gen d) cap (by rw[i];exact I)
  have J:gN fr.gen d (fr.gen d)=fr.gen:=by
   funext j
   simp only[gN]
   split
   .rename_i h;rw[h]
   .rfl
  have M:setCells (vi f L ((cap-L.length)*sz)) (L.length*sz) ((m.map f).flatMap AV.cells)=vi f (fW L m) ((cap-(fW L m).length)*sz):=by
   unfold setCells;rw[BD c];unfold vi;rw[<-k,af5,LI VW,n9,w,y,i]
   have:L.length*sz+m.length*sz-L.length*sz=m.length*sz:=VW
   rw[this];unfold yZ;rw[List.drop_replicate,<-Nat.sub_mul,Nat.sub_sub]
  rw[J,<-M,i] at o;exact o
 .grind[vi,AV.cells,yZ,fW,BD,zb]
@[simp] theorem akW{b n c:Nat}:HK P t (.xQ b g n c)=match P.underlying t with|some (.slice _)=>some (.sc (.int .i64 n))|some (.array n _)=>some (.sc (.int .i64 n))|_=>none:=by
 unfold HK;cases P.underlying t with
 |none=>rfl|some y=>grind
@[simp] theorem Zz{b n c:Nat}:gL P t (.xQ b g n c) (.sc (.int k a))=match P.underlying t with
  |some (.slice e)=>match f' P e with
   |some (_,sz)=>if 0<=a/\a<(n:Int)then some (.h9 b g (QX a.toNat sz))else none|none=>none
  |_=>none:=by
 unfold gL;simp only[Ii];cases P.underlying t with
 |none=>rfl|some y=>cases y<;>rfl
def AF(P:Program)(t:TypeId)(b g i sz:Nat)(v:AV)(K:Fr->dV->Prop)(fr:Fr)(H:dV):Prop:=mj P t (.h9 b g (QX i sz)) v K fr H
@[simp high] theorem afc{b:Nat}{fr:Fr}:mj P t (.h9 b g (QX i sz)) v K fr H=AF P t b g i sz v K fr H:=rfl
def AF.arr{b k:Nat}{fr:Fr}{x:α}(y:α)(i:f' P t=some (bl,sz))(c:∀x,(f x).cells.length=sz)
  (h:fG (f y)=true) (hi:dW L a=some x) (hg:g=fr.gen b) (j:fr.box b=some (vi f L k)) (l:v=f y) (n:K {fr with box:=gN fr.box b (some (vi f (yb L a y) k))} H):AF P t b g a.toNat sz v K fr H:=by
 subst l;have hi':=PI hi;have d:=(ru.1 hi').1
 have hle:a.toNat*sz+sz<=L.length*sz:=by
  rw[<-Wq];exact Ki _ d
 unfold AF;simp only[mj,i,j];refine⟨hg,c y,by rw[Ii,xm c];omega,h,?_⟩;rw[Ii,Yc c d];exact n
def hS.RH{β:Type}{R:α->β->Prop}:∀{as:List α} {bs:List β} {i:Nat} {a0 a:α},hS R as bs->as[i]?=some a0->(∀b,bs[i]?=some b->R a b)->hS R (as.set i a) bs
 |_,_,_,_,_,.nil,h,_=>by simp at h
 |_,_,0,_,_,.cons d c,_,h=>.cons (h _ rfl) c|_,_,i+1,_,_,.cons d c,f,h=>.cons d (hS.RH c (by simpa using f) (λb j=>h b (by simpa using j)))
section
variable{P:Program} {T:eK} {n B0:Nat} {ρ:Maps} {F:la} {R:Nat->oY} {fr:Fr} {H:dV} {a:Act} {w:World}
theorem WR.unbox(h:WR T n B0 ρ F R fr H a w){cs:List AV}(y:fr.box d=some cs):∃q,q (ρ.L d (fr.gen d))=.free/\WR T n B0 ρ F q {fr with box:=gN fr.box d none} H a w:=by
 obtain⟨G,I,J,vs,ty,K,M⟩:=h.box d cs y
 let q:Nat->oY:=gN R (ρ.L d (fr.gen d)) .free
 have f:∀b,R b≠ .box d->q b=R b:=by grind[gN]
 refine⟨q,by show gN R _ _ _=_;simp[gN],⟨h.g,h.size,h.defers,h.env,h.hn,h.lg,h.ag,?_,?_,?_,?_,?_,h.q8⟩⟩
 .intro s t i;simp only[gN] at i
  by_cases he:s=d
  .subst he;simp at i
  .rw[dK he] at i;obtain⟨u,r,x⟩:=h.box s t i;exact⟨u,by rw[f _ (by rw[r];simp[he])];exact r,x⟩
 .intro k m A b c sz B;obtain⟨u,r,x⟩:=h.tok k m A b c sz B;exact⟨u,by rw[f _ (by rw[r];simp)];exact r,x⟩
 .intro b j v C
  by_cases l:b=ρ.L d (fr.gen d)
  .subst l;intro s;show gN R _ _ _≠_;simp[gN]
  .have e:q b=R b:=by show gN R _ _ _=_;simp[gN,l]
   rw[e];exact h.qV b j v C
 .intro o D;have:=h.oM o D;rw[f _ (by rw[this];simp)];exact this
 .intro b l;have:=h.lZ b l;rw[f _ (by rw[this];simp)];exact this
def hS.W5{F:la}{ρ:Maps}{cs:List AV}(h:hS (j5 F ρ) cs vs):hS (gT F ρ.G ρ.n) (cs.map AV.kA) vs:=h.wH AV.kA λ_ _ _ h=>h.kA
def WR.MO(h:WR T n B0 ρ F R fr H a w){len:Nat}{cs:List AV}(D:fr.box d=some cs)(M:els.length=len)(hs:∀x∈els,x.cells.length=sz)
  (I:els.flatMap AV.cells=(cs.take (len*sz)).map AV.kA) (hle:len*sz<=cs.length) (N:len<=cap) (t:cap<=maxLen):∃F' y,w6 F F' ρ ρ/\(∀b j,b<B0->F' b j=F b j)/\WR T n B0 ρ F' y {fr with box:=gN fr.box d none} H a w/\gT F' ρ.G ρ.n (.slice .gK els) (.slice (some ⟨ρ.L d (fr.gen d),0,none⟩) len cap):=by
 obtain⟨V,O,J,vs,ty,P,A⟩:=h.box d cs D;obtain⟨y,q,hw⟩:=h.unbox D
 have hF:∀j,F (ρ.L d (fr.gen d)) j=none:=by
  intro j;cases Q:F (ρ.L d (fr.gen d)) j with
  |none=>rfl|some v=>
   exact absurd O (h.qV _ j v Q d)
 have S:vs.toList.length=cs.length:=A.length.symm
 obtain⟨r,B⟩:=hw.freeze (us:=vs.toList.take (len*sz)) (k:=(vs.toList.take (len*sz)).length) q hF P (λu hu=>jS A J u hu) (by
  intro j v _ s;rw[TC] at s
  split at s
  .simpa using s
  .cases s)
 refine⟨_,y,r,λb j U=>uf VW,B,?_⟩
 have f:hS (gT F ρ.G ρ.n) (els.flatMap AV.cells) (vs.toList.take (len*sz)):=by
  rw[I];exact(A.take (len*sz)).W5
 have K:=gT.slice (F:=kH F (ρ.L d (fr.gen d)) (vs.toList.take (len*sz)).length (vs.toList.take (len*sz))) (G:=ρ.G) (n:=ρ.n) (tag:=.gK) (l:=els) (b:=ρ.L d (fr.gen d)) (o:=0)
  (base:=some ⟨ρ.L d (fr.gen d),0,none⟩) (cap:=cap) (sz:=sz) (vs:=vs.toList.take (len*sz)) (.pV (f.mono λ_ _ _ h=>h.grow r.g)) (xk _ _ _) (λ_=>rfl) hs (by
   intro c i;rw[I] at i
   exact yo (λc C=>J c (C' C)) c i) VW t (.inl rfl)
 rw[M] at K;exact K
theorem gv.ajs{α:Type}{c:Code}{Q:Exit->Fr->dV->Prop}{f:α->AV}(t:Nat){L:List α}{k sz d g cap:Nat}(l:∀x,(f x).cells.length=sz)(q:∀x,(f x).cells.map AV.kA=(f x).cells)
  (he:fr.env t=.xQ d g L.length cap) (hg:g=fr.gen d) (C:fr.box d=some (vi f L k))
  (h:gv P T n c Q {fr with env:=gN fr.env t (.slice .gK (L.map f)),box:=gN fr.box d none} H):gv P T n c Q fr H:=by
 intro G0 F0 n0 w0 a w hs;refine h G0 F0 n0 w0 a w ?_;obtain⟨ρ,F,R,hw,D⟩:=hs;have o:=hw.env t;rw[he] at o;obtain⟨G,I,r,s⟩:=AA o
 have u:∀x∈L.map f,x.cells.length=sz:=by grind
 obtain⟨F',J,v,y,i,K⟩:=hw.MO (els:=L.map f) (len:=L.length) (cap:=cap) (sz:=sz) C abm u (by rw[BD l];exact JQ q L) (by rw[xm l];omega) r s;refine⟨ρ,F',J,⟨i.g,i.size,i.defers,?_,i.hn,i.lg,i.ag,i.box,i.tok,i.qV,i.oM,i.lZ,i.q8⟩,?_⟩
 .intro B;show gI F' ρ (gN fr.env t (.slice .gK (L.map f)) B) _;simp only[gN]
  split
  .rename_i e;subst e;rw[G,hg];exact .p K
  .exact(hw.env B).grow v
 .exact D.freeze λb j A=>y b j A
theorem gv.aml{α:Type}{c:Code}{Q:Exit->Fr->dV->Prop}{f:α->AV}(d2 i:Nat){cs2:List AV}{L:List α}{k sz d g cap:Nat}(q:∀x,(f x).cells.length=sz)(t:∀x,(f x).cells.map AV.kA=(f x).cells)
  (v:d2≠d) (he:fr.box d2=some cs2) (hi:cs2[i]?=some (.xQ d g L.length cap)) (hg:g=fr.gen d) (X:fr.box d=some (vi f L k))
  (h:gv P T n c Q {fr with box:=gN (gN fr.box d none) d2 (some (cs2.set i (.slice .gK (L.map f))))} H):gv P T n c Q fr H:=by
 intro G0 F0 n0 w0 a w hs;refine h G0 F0 n0 w0 a w ?_;obtain⟨ρ,F,R,hw,A⟩:=hs;obtain⟨_,_,B,C,Y,Z,D⟩:=hw.box d2 cs2 he;obtain⟨u,hu,G⟩:=D.get hi;obtain⟨hv,ad,I,J⟩:=AA (.cell G)
 have K:∀x∈L.map f,x.cells.length=sz:=by
  intro x A;obtain⟨y,_,rfl⟩:=ql.1 A;exact q y
 obtain⟨F',R',ae,M,l,hp⟩:=hw.MO (els:=L.map f) (len:=L.length) (cap:=cap) (sz:=sz) X abm K (by rw[BD q];exact JQ t L) (by rw[xm q];omega) I J
 have N:({fr with box:=gN fr.box d none}:Fr).box d2=some cs2:=by simp[gN,v,he]
 refine⟨ρ,F',R',⟨l.g,l.size,l.defers,l.env,l.hn,l.lg,l.ag,?_,l.tok,l.qV,l.oM,l.lZ,l.q8⟩,?_⟩
 .intro O S o;simp only[gN] at o
  by_cases r:O=d2
  .subst r;simp only[if_true,w5] at o;subst o;obtain⟨e1,e2,e3,vs',U,e4,e5⟩:=l.box O cs2 N;refine⟨e1,e2,?_,vs',U,e4,?_⟩
   .intro c hc;rcases List.mem_or_eq_of_mem_set hc with h'|h'
    .exact e3 c h'
    .rw[h'];rfl
   .have V:vs'.toList=C.toList:=by
     grind
    refine hS.RH e5 hi ?_;intro u' s;rw[V,hu] at s;obtain rfl:=hU s;rw[hv,hg];exact .p hp
  .simp only[dK r] at o;exact l.box O S (by simpa[gN] using o)
 .exact A.freeze λb j W=>M b j W
end
end Go.lD
