/- Part of the proof of SchemeComputes: layer. -/
import Derived.Test.YtpgdkkomegalnaaGreatDoorCL9
set_option linter.all false
namespace Go.ld
open Go
mutual
def AV.low(k:Nat):AV->Bool
 |.undef=>true|.sc _=>true|.mA x=>x.low k|.ie _ _ _=>true|.fh o _=>decide (o<k)|.slice _ l=>AV.iL k l|.agg l=>AV.iL k l|.tuple l=>AV.iL k l|.func _ f c=>AV.iL k f&&AV.iL k c|.iface _ x=>x.low k|.xX _ _ _ _=>true|.nJ o=>decide (o<k)|.z' o _ _ _=>decide (o<k)|.NX=>true|.uS _ xs=>AV.iL k xs|.mL o _ _=>decide (o<k)
def AV.iL(k:Nat):List AV->Bool
 |[]=>true|x::l=>x.low k&&AV.iL k l
end
def AV.wU{k:Nat}:∀{l:List AV},AV.iL k l=true↔∀x∈l,x.low k=true
 |[]=>by simp[AV.iL]|x::l=>by simp[AV.iL,AV.wU (l:=l)]
def AV.L2{k:Nat}{x:AV}(h:x.low k=true):AV.iL k x.cells=true:=by
 cases x<;>simp_all [AV.low,AV.cells,AV.iL]
def AV.X3{k:Nat}{l:List AV}(h:AV.iL k l=true):AV.iL k (l.flatMap AV.cells)=true:=by
 rw[AV.wU] at h|-;intro x a;obtain⟨y,b,a⟩:=ab1.1 a;exact AV.wU.1 (AV.L2 (h y b)) x a
@[simp] theorem AV.ajg{α:Type}{k:Nat}(f:α->Value)(l:List α):AV.iL k (List.map (λn=>AV.sc (f n)) l)=true:=by
 rw[AV.wU];intro x a;obtain⟨y,_,rfl⟩:=qz.1 a;rfl
section
variable{F:kT} {G:Nat->Nat} {n k:Nat}
mutual
def gR.lower:∀{x v},gR F G n x v->x.low k=true->gR F G k x v
 |_,_,.undef h,_=>.undef h|_,_,.sc h,_=>.sc h|_,_,.mA b c d,a=>.mA (b.lower (AV.L2 (by simpa[AV.low] using a))) c d|_,_,.fh h,a=>.fh (by simpa[AV.low] using a)|_,_,.nJ h,a=>.nJ (by simpa[AV.low] using a)|_,_,.z' h c d,a=>.z' (by simpa[AV.low] using a) c d|_,_,.slice b c d f i j l o,a=>.slice (b.lower (AV.X3 (by simpa[AV.low] using a))) c d f i j l o|_,_,.NX,_=>.NX|_,_,.agg b c,a=>.agg (b.lower (by simpa[AV.low] using a)) c|_,_,.tuple b,a=>.tuple (b.lower (by simpa[AV.low] using a))|_,_,.func b c,a=>by
  simp only[AV.low,hE] at a;exact .func (b.lower a.1) (c.lower a.2)
 |_,_,.iface b,a=>.iface (b.lower (by simpa[AV.low] using a))
def hO.lower:∀{xs vs},hO F G n xs vs->AV.iL k xs=true->hO F G k xs vs
 |_,_,.nil,_=>.nil|_,_,.cons b c,a=>by
  simp only[AV.iL,hE] at a;exact .cons (b.lower a.1) (c.lower a.2)
end
end
def lM.lower{F:kT}{G:Nat->Nat}{n k:Nat}{cs d}(h:lM F G n cs d)(a:AV.iL k cs=true):lM F G k cs d:=by
 cases h with
 |cells f b c=>exact .cells f ((hO.pc b).lower a).qF c|map b c i j l=>exact .map b ((hO.pc c).lower (by simpa[AV.iL,AV.low] using a)).qF i j l|iter h=>exact .iter (by simpa[AV.iL,AV.low] using a)|dead=>exact .dead
def fH.drop{P:Program}{T:eO}{f:FuncId}{args:List AV}{H:dZ}{Post Post':AV->dZ->Prop}(h:fH P T f args H Post)
  (A:∀r H',Post r H'->∃a X,H'=a++X/\H.length<=a.length/\r.low a.length=true/\(∀cs∈a,AV.iL a.length cs=true)/\Post' r a):fH P T f args H Post':=by
 refine⟨h.1,λG F w vs hg B=>(h.2 G F w vs hg B).mono ?_⟩;rintro e w' ⟨r,H',v,G',F',n,rfl,k,C,c⟩;obtain⟨a,X,rfl,hlen,D,q,I⟩:=A r H' n
 have l:∀b o v,F b o=some v->F' b o=some v:=by
  intro b o v s
  have hb:b<w.heap.size:=by
   rcases vb b w.heap.size with hb|hb
   ·exact hb
   ·rw[hg.fresh b o hb] at s;cases s
  exact c.mF b o v hb s
 have i:∀o,o<a.length->o<(a++X).length:=λo d=>by rw[nB];omega
 refine⟨r,a,v,G',F',I,rfl,?_,C.lower D,?_⟩
 ·refine⟨k.G5,?_,λo o' d t=>k.inj o o' (i o d) (i o' t),λo j d u=>k.gF o j (i o d) (by rw[vV d];exact u),k.fresh,λg x J=>?_,k.row⟩
  ·intro o cs d;have y:o<a.length:=(s7.1 d).1;obtain⟨K,L,M⟩:=k.lW o cs (by rw[vV y];exact d);exact⟨K,L,M.lower (q cs (H9 d))⟩
  ·exact(hg.DQ g x J).grow ⟨l,hlen,λo d=>c.hG o d⟩
 ·exact⟨c.os,c.tape,c.output,c.size,hlen,c.hG,λo n N=>c.MQ o n (i o N),c.hF,c.mF,c.heap⟩
end Go.ld
namespace Go.ld
open Go
def AV.E6{k:Nat}{x:AV}(h:AV.iL k x.cells=true):x.low k=true:=by
 cases x<;>simp_all [AV.low,AV.cells,AV.iL]
def AV.MV{k:Nat}{l:List AV}(h:AV.iL k (l.flatMap AV.cells)=true):AV.iL k l=true:=by
 rw[AV.wU] at h|-;intro x a;exact AV.E6 (AV.wU.2 λy b=>h y (ab1.2 ⟨x,a,b⟩))
section
variable{F:kT} {G:Nat->Nat} {n:Nat}
mutual
def gR.wE:∀{x v},gR F G n x v->x.low n=true
 |_,_,.undef _=>rfl|_,_,.sc _=>rfl|_,_,.mA a _ _=>by simpa[AV.low] using AV.E6 a.wE|_,_,.fh h=>by grind[AV.low]|_,_,.nJ h=>by simpa[AV.low] using h|_,_,.z' h _ _=>by simpa[AV.low] using h|_,_,.slice a _ _ _ _ _ _ _=>by simpa[AV.low] using AV.MV a.wE|_,_,.NX=>rfl|_,_,.agg a _=>by simpa[AV.low] using a.wE|_,_,.tuple a=>by simpa[AV.low] using a.wE|_,_,.func a b=>by simp[AV.low,a.wE,b.wE]|_,_,.iface a=>by simpa[AV.low] using a.wE
def hO.wE:∀{xs vs},hO F G n xs vs->AV.iL n xs=true
 |_,_,.nil=>rfl|_,_,.cons a b=>by simp[AV.iL,a.wE,b.wE]
end
end
def lM.wE{F:kT}{G:Nat->Nat}{n:Nat}{cs c}(h:lM F G n cs c):AV.iL n cs=true:=by
 cases h with
 |cells d a b=>exact(hO.pc a).wE|map a b f i j=>simpa[AV.iL,AV.low] using(hO.pc b).wE|iter h=>grind[AV.iL,AV.low]|dead=>rfl
def fH.vG{P:Program}{T:eO}{f:FuncId}{args:List AV}{H:dZ}{Post Post':AV->dZ->Prop}(h:fH P T f args H Post)
  (d:∀r H',Post r H'->∃X,H'=H++X/\r.low H.length=true/\Post' r H):fH P T f args H Post':=by
 refine⟨h.1,λG F w vs hg i=>?_⟩
 have a:∀cs∈H,AV.iL H.length cs=true:=by
  intro cs b;obtain⟨o,j⟩:=abQ.1 b;obtain⟨q,_,k⟩:=hg.lW o cs j;exact k.wE
 exact(fH.drop (Post':=Post') h λr H' l=>by
  obtain⟨X,e,n,c⟩:=d r H' l
  exact⟨H,X,e,g_ _,n,a,c⟩).2 G F w vs hg i
end Go.ld
namespace Go.ld
open Go Go.fF
mutual
def AV.Jn{k n:Nat}(h:k<=n):∀{x:AV},x.low k=true->x.low n=true
 |.undef,_=>rfl|.sc _,_=>rfl|.mA x,a=>by simpa[AV.low] using AV.Jn h (x:=x) (by simpa[AV.low] using a)|.ie _ _ _,_=>rfl|.fh o _,a=>by simp[AV.low] at a|-;omega
 |.z' o _ _ _,a=>by simp[AV.low] at a|-;omega
 |.slice _ l,a=>by simpa[AV.low] using AV.rI h (l:=l) (by simpa[AV.low] using a)|.agg l,a=>by simpa[AV.low] using AV.rI h (l:=l) (by simpa[AV.low] using a)|.tuple l,a=>by simpa[AV.low] using AV.rI h (l:=l) (by simpa[AV.low] using a)|.func _ f c,a=>by
  simp only[AV.low,hE] at a|-;exact⟨AV.rI h a.1,AV.rI h a.2⟩
 |.iface _ x,a=>by simpa[AV.low] using AV.Jn h (x:=x) (by simpa[AV.low] using a)|.xX _ _ _ _,_=>rfl|.NX,_=>rfl|.nJ o,a=>by simp[AV.low] at a|-;omega
 |.uS _ l,a=>by simpa[AV.low] using AV.rI h (l:=l) (by simpa[AV.low] using a)|.mL o _ _,a=>by simp[AV.low] at a|-;omega
def AV.rI{k n:Nat}(h:k<=n):∀{l:List AV},AV.iL k l=true->AV.iL n l=true
 |[],_=>rfl|x::l,a=>by
  simp only[AV.iL,hE] at a|-;exact⟨AV.Jn h a.1,AV.rI h a.2⟩
end
def Uj{H:dZ}{o:Nat}{c:List AV}(h:H[o]?=some c):o<H.length:=(s7.1 h).1
theorem LZ{H:dZ}{o:Nat}{c:List AV}(h:H[o]?=some c):gx H o c=H:=by
 apply YL
 grind[gx]
def Inb(H:dZ)(o:Nat):Prop:=o<H.length
def e9{H:dZ}{o:Nat}{c:List AV}(h:H[o]?=some c):Inb H o:=Uj h
def WT{H:dZ}{o:Nat}{c:List AV}(h:Inb H o):(gx H o c)[o]?=some c:=by simp[gx,show o<H.length from h]
def O2{H:dZ}{o o':Nat}{c:List AV}(h:o≠o'):(gx H o c)[o']?=H[o']?:=by grind[gx]
def Uz{H:dZ}{o o':Nat}{c d e:List AV}(h:o≠o'):gx (gx (gx H o c) o' d) o e=gx (gx H o e) o' d:=by
 simp only[gx];rw[List.set_comm _ _ h.symm,List.set_set]
def QJ{A B:dZ}{o:Nat}(h:Inb A o):(A++B)[o]?=A[o]?:=vV h
def O7{A B:dZ}{o:Nat}{c:List AV}(h:Inb A o):gx (A++B) o c=gx A o c++B:=by simp[gx,List.set_append,show o<A.length from h]
def Kt{A B:dZ}{k i:Nat}(h:A.length=k):(A++B)[k+i]?=B[i]?:=by grind
def Q0{A B:dZ}{k:Nat}(h:A.length=k):(A++B)[k]?=B[0]?:=Kt (i:=0) h
def Hl{A B:dZ}{k i:Nat}{c:List AV}(h:A.length=k):gx (A++B) (k+i) c=A++gx B i c:=by grind[gx]
def OA{A B:dZ}{k:Nat}{c:List AV}(h:A.length=k):gx (A++B) k c=A++gx B 0 c:=Hl (i:=0) h
@[simp] theorem aee(a:List AV)(l:dZ)(c:List AV):gx (a::l) 0 c=c::l:=rfl
@[simp] theorem afw(a:List AV)(l:dZ)(i:Nat)(c:List AV):gx (a::l) (i+1) c=a::gx l i c:=rfl
def fH.Ng{P:Program}{T:eO}{f:FuncId}{args:List AV}{H:dZ}{o:Nat}{c:List AV}{Post:AV->dZ->Prop}(h:H[o]?=some c)(a:fH P T f args (gx H o c) Post):fH P T f args H Post:=by grind[LZ]
structure Gv {S:Type} (st:S->dZ) (k:Nat):Prop where
 len:∀s,(st s).length=k
 low:∀s s' cs,cs∈st s'->cs∈st s\/AV.iL k cs=true
def Gv.const{S:Type}(H:dZ):Gv (λ_:S=>H) H.length:=⟨λ_=>rfl,λ_ _ _ h=>.inl h⟩
def Gv.ext{S:Type}{st:S->dZ}{k:Nat}(h:Gv st k)(X:dZ){n:Nat}(hn:k+X.length=n):Gv (λs=>st s++X) n:=by
 subst hn;refine⟨λs=>by rw[nB,h.len],λs a cs hc=>?_⟩;rcases tO.1 hc with hc|hc
 ·rcases h.low s a cs hc with h1|h1
  ·grind
  ·exact .inr (AV.rI VW h1)
 ·grind
def Gv.aeG{S:Type}(H:dZ)(f:S->dZ)(n:Nat)(hn:∀s,(f s).length=n)(b:∀s a cs,cs∈f a->cs∈f s\/AV.iL (H.length+n) cs=true):Gv (λs=>H++f s) (H.length+n):=by
 refine⟨λs=>by rw[nB,hn],λs a cs c=>?_⟩
 grind
def fH.aho{P:Program}{T:eO}{f:FuncId}{args:List AV}{H:dZ}{Post Post':AV->dZ->Prop}(h:fH P T f args H Post)
  (k:∀r H',Post r H'->∃a X,H'=a++X/\a.length=H.length/\r.low H.length=true/\(∀cs∈a,cs∈H\/AV.iL H.length cs=true)/\Post' r a):fH P T f args H Post':=by
 refine⟨h.1,λG F w vs hg d=>?_⟩
 have c:∀cs∈H,AV.iL H.length cs=true:=by
  intro cs b;obtain⟨o,i⟩:=abQ.1 b;obtain⟨l,_,j⟩:=hg.lW o cs i;exact j.wE
 refine(fH.drop (Post':=Post') h λr H' n=>?_).2 G F w vs hg d
 grind
def fH.acR{P:Program}{T:eO}{f:FuncId}{args:List AV}{S:Type}{st:S->dZ}{k:Nat}(hF:Gv st k){s:S}{Post Post':AV->dZ->Prop}(h:fH P T f args (st s) Post)
  (c:∀r H',Post r H'->∃a X,H'=st a++X/\r.low k=true/\Post' r (st a)):fH P T f args (st s) Post':=
 fH.aho h λr H' d=>by
  obtain⟨a,X,e,i,b⟩:=c r H' d;exact⟨st a,X,e,by rw[hF.len,hF.len],by rw[hF.len];exact i,λcs j=>by rw[hF.len];exact hF.low s a cs j,b⟩
@[simp] theorem ai4(H:List (List AV))(o:Nat)(c:List AV):List.set H o c=gx H o c:=rfl
attribute [simp] WT O2 Uz QJ O7 Kt Q0 Hl OA
end Go.ld
namespace Go.ld
open Go Go.fF
def gj(P:Program)(T:eO)(E:List Nat)(opsA:Array Oper)(q:Qt):List Bool->List Oper->(Fr->dZ->Prop)->Fr->dZ->Prop
 |_,[],K,fr,H=>K fr H|[],o::rest,K,fr,H=>ib P T E opsA q true o (λfr H=>gj P T E opsA q [] rest K fr H) fr H|b::bs,o::rest,K,fr,H=>ib P T E opsA q b o (λfr H=>gj P T E opsA q bs rest K fr H) fr H
def Lf{E:List Nat}{ops:Array Oper}{q:Qt}{P:Program}{T:eO}{K:Fr->dZ->Prop}(a:List Bool):∀(l:List Oper) (k:Nat) (fr:Fr) (H:dZ),l=ops.toList.drop k->gj P T E ops q (a.drop k) l K fr H->MP P T E ops q (λi=>a.getD i true) (List.range' k l.length) K fr H:=by
 intro l
 induction l with
 |nil=>
  intro k fr H _ h;cases c:a.drop k<;>rw[c] at h<;>exact h
 |cons o l ih=>
  intro k fr H b h
  have d:k<ops.toList.length:=by
   rcases vb k ops.toList.length with h'|h'
   ·exact h'
   ·rw[OH h'] at b;cases b
  have f:=Nz d;rw[f] at b;injection b with s j
  have hi:ops[k]?=some o:=by grind
  simp only[mN,aeT,MP,hi]
  have n:a.getD k true=(a.drop k).headD true:=by
   simp only[List.getD,List.headD_eq_head?_getD,List.head?_drop]
  have r:a.drop (k+1)=(a.drop k).tail:=by rw[List.tail_drop]
  rw[n];refine J3 (K:=λfr H=>gj P T E ops q (a.drop (k+1)) l K fr H) (λfr H h=>ih (k+1) fr H j h) ?_;rw[r];cases c:a.drop k<;>rw[c] at h<;>exact h
def h9.abP{P:Program}{T:eO}{n:Nat}{Q:Exit->Fr->dZ->Prop}{fr:Fr}{H:dZ}{id:Nat}{ops:Array Oper}(E:List Nat)(q:Qt)(b:List Bool)(hm:P.follows .mixedOrders=true)(a:Bu n ops=true)(c:By E ops (λi=>b.getD i true)=true)
  (h:gj P T E ops q b ops.toList (Q .normal) fr H):h9 P T n (.region id ops true) Q fr H:=by
 refine h9.XF E q (λi=>b.getD i true) hm a c ?_;have:=Lf (P:=P) (T:=T) (E:=E) (ops:=ops) (q:=q) (K:=Q .normal) b ops.toList 0 fr H (by grind);rw[aam]
 grind
def gS(P:Program)(T:eO)(E:List Nat)(ops:Array Oper)(q:Qt)(bs:List Bool)(a:AV)(as:List AV)(d:Option Nat)(rest:List Oper)(K:Fr->dZ->Prop)(fr:Fr)(H:dZ):Prop:=
 if d.any E.contains then afs P T q true a as d (gj P T E ops q bs rest K) fr H else∃r H',uV P T a as H r H'/\(QK q H H')/\gj P T E ops q bs rest K (fr.put d r) H'
section
variable{P:Program} {T:eO} {E:List Nat} {ops:Array Oper} {q:Qt} {bs:List Bool} {rest:List Oper} {K:Fr->dZ->Prop} {fr:Fr} {H H':dZ} {d:Option Nat} {ty:TypeId} {pos:String} {after:Array Edge}
def gS.val{a:AV}{as:List AV}{r:AV}(h:uV P T a as H r H')(b:QK q H H')(c:gj P T E ops q bs rest K (fr.put d r) H'):gS P T E ops q bs a as d rest K fr H:=by grind[gS,abd]
def gS.fn{g:FuncId}{as:List AV}{r:AV}(h:eP P T g as H r H')(a:QK q H H')(b:gj P T E ops q bs rest K (fr.put d r) H'):gS P T E ops q bs (.func (.func g) [] []) as d rest K fr H:=by
 refine gS.val ?_ a b;unfold uV o7;simp only[AE];exact h
def gS.Hc{g:FuncId}{b c as a:List AV}{r:AV}(f:b++as++c=a)(h:eP P T g a H r H')(i:QK q H H')(j:gj P T E ops q bs rest K (fr.put d r) H'):gS P T E ops q bs (.func (.func g) b c) as d rest K fr H:=by
 subst f;exact gS.val h i j
@[simp] theorem ag3(bs:List Bool):gj P T E ops q bs [] K fr H=K fr H:=by cases bs<;>rfl
@[simp] theorem acH{t:TypeId}{x:Operand}:gj P T E ops q (false::bs) ({dst:=d,op:=.load t x,type:=ty,pos:=pos,after:=after,guard:=none}::rest) K fr H=if rl ops.toList x (ev T fr x)then(match vz P fr H t (ev T fr x)with|some v=>gj P T E ops q bs rest K (fr.put d v) H|none=>False)else False:=by
 simp only[gj,ib,hY,qU,kA,nX,Ac,ox,jb,hV,nH,Bool.not_false,agc,aaJ]
 split
 ·rename_i v a
  split at a
  ·rename_i b;rw[dR b,a]
  ·cases a
 ·rename_i a
  split at a
  ·rename_i b;rw[dR b,a]
  ·rename_i b;rw[dK b]
@[simp] theorem aaf{t:TypeId}{x y:Operand}:gj P T E ops q (false::bs) ({dst:=none,op:=.store t x y,type:=ty,pos:=pos,after:=after,guard:=none}::rest) K fr H=(Vp E q x (ev T fr x)/\rl ops.toList x (ev T fr x)=true/\l_ P t (ev T fr x) (ev T fr y) (gj P T E ops q bs rest K) fr H):=by
 simp only[gj,ib,hY,qU,kA,nX,Ac,ox,jb,hV,AZ,ox,false_implies,if_true,FW]
@[simp] theorem afO{x:Operand}:gj P T E ops q (true::bs) ({dst:=d,op:=.move x,type:=ty,pos:=pos,after:=after,guard:=none}::rest) K fr H=gj P T E ops q bs rest K (fr.put d (ev T fr x)) H:=rfl
@[simp] theorem abr{x:Operand}:gj P T E ops q (true::bs) ({dst:=d,op:=.assign x,type:=ty,pos:=pos,after:=after,guard:=none}::rest) K fr H=gj P T E ops q bs rest K (fr.put d (ev T fr x)) H:=rfl
@[simp] theorem ady{t:TypeId}:gj P T E ops q (true::bs) ({dst:=d,op:=.alloc t,type:=ty,pos:=pos,after:=after,guard:=none}::rest) K fr H=match kj P t with|some z=>d.any E.contains=false/\k7 E d z (gj P T E ops q bs rest K) fr H|none=>False:=by
 simp only[gj,ib,hY,qU,kA,nX,Ac,ox,jb,hV,afg];rfl
@[simp] theorem adM{t:TypeId}{x:Operand}:gj P T E ops q (true::bs) ({dst:=d,op:=.load t x,type:=ty,pos:=pos,after:=after,guard:=none}::rest) K fr H=if rl ops.toList x (ev T fr x)&&q.ok (ev T fr x)then(match vz P fr H t (ev T fr x)with|some v=>gj P T E ops q bs rest K (fr.put d v) H|none=>False)else False:=by
 simp only[gj,ib,hY,qU,kA,nX,Ac,ox,jb,hV,nH,aeF,WY]
 split
 ·rename_i v a
  split at a
  ·rename_i b;rw[dR b,a]
  ·cases a
 ·rename_i a
  split at a
  ·rename_i b;rw[dR b,a]
  ·rename_i b;rw[dK b]
@[simp] theorem acL{t:TypeId}{x y:Operand}:gj P T E ops q (true::bs) ({dst:=none,op:=.store t x y,type:=ty,pos:=pos,after:=after,guard:=none}::rest) K fr H=(Vp E q x (ev T fr x)/\rl ops.toList x (ev T fr x)=true/\isL (ev T fr x)=true/\l_ P t (ev T fr x) (ev T fr y) (gj P T E ops q bs rest K) fr H):=by
 simp only[gj,ib,hY,qU,kA,nX,Ac,ox,jb,hV,afg,AZ,if_true,FW]
@[simp] theorem T3{t n:Nat}{c:Array (Nat×Operand)}:gj P T E ops q (true::bs) ({dst:=d,op:=.buildSlice t n c,type:=ty,pos:=pos,after:=after,guard:=none}::rest) K fr H=if d.any E.contains then False else match mU P t n (c.toList.map λp=>(p.1,ev T fr p.2))with|some v=>gj P T E ops q bs rest K (fr.put d v) H|none=>False:=by
 simp only[gj,ib,hY,qU,kA,nX,Ac,ox,jb,hV,nH]
 split
 ·rename_i v a
  split at a
  ·cases a
  ·rename_i b;rw[dK b,a]
 ·rename_i a
  split at a
  ·rename_i b;rw[dR b]
  ·rename_i b;rw[dK b,a]
@[simp] theorem abn{t:TypeId}{x i:Operand}{ok:Bool}:gj P T E ops q (true::bs) ({dst:=d,op:=.lookup t x i ok,type:=ty,pos:=pos,after:=after,guard:=none}::rest) K fr H=if q.all then(match vM P H t (ev T fr x) (ev T fr i) ok with|some v=>gj P T E ops q bs rest K (fr.put d v) H|none=>False)else False:=by
 simp only[gj,ib,hY,qU,kA,nX,Ac,ox,jb,hV,nH,aeF,WY]
 split
 ·rename_i v a
  split at a
  ·rename_i b;rw[dR b,a]
  ·cases a
 ·rename_i a
  split at a
  ·rename_i b;rw[dR b,a]
  ·rename_i b;rw[dK b]
@[simp] theorem aaN{x y:Operand}{t d:Nat}:gj P T E ops q (true::bs) ({dst:=some d,op:=.call {callee:=.builtin .append,args:=#[x,y],argTypes:=#[t,t]},type:=ty,pos:=pos,after:=after,guard:=none}::rest) K fr H=if E.contains d then abm P t (ev T fr x) (ev T fr y) d (gj P T E ops q bs rest K) fr H else CN P t (ev T fr x) (ev T fr y) d (gj P T E ops q bs rest K) fr H:=by
 simp only[gj,ib,hY,qU,kA,nX,Ac,ox,jb,hV,adL]
 split
 ·rename_i a;first|exact DU|(simp only[a,↓reduceIte];exact DU)
 ·rename_i a;first|exact Dq|(simp only[a,↓reduceIte];exact Dq)
@[simp] theorem aeZ{f:Operand}{as:Array Operand}{ts:Array TypeId}:gj P T E ops q (true::bs) ({dst:=d,op:=.call {callee:=.value f,args:=as,argTypes:=ts},type:=ty,pos:=pos,after:=after,guard:=none}::rest) K fr H=gS P T E ops q bs (ev T fr f) (as.toList.map λx=>(ev T fr x).norm) d rest K fr H:=by
 simp only[gj,ib,hY,qU,kA,nX,Ac,ox,jb,hV,afg,gS]
@[simp] theorem agq{as:Array Operand}{ts:Array TypeId}:gj P T E ops q (true::bs) ({dst:=d,op:=.call {callee:=.builtin .len,args:=as,argTypes:=ts},type:=ty,pos:=pos,after:=after,guard:=none}::rest) K fr H=match yC P T fr {callee:=.builtin .len,args:=as,argTypes:=ts}with|some v=>gj P T E ops q bs rest K (fr.put d v) H|none=>False:=rfl
@[simp] theorem agP{as:Array Operand}{ts:Array TypeId}:gj P T E ops q (true::bs) ({dst:=d,op:=.call {callee:=.builtin .max,args:=as,argTypes:=ts},type:=ty,pos:=pos,after:=after,guard:=none}::rest) K fr H=match yC P T fr {callee:=.builtin .max,args:=as,argTypes:=ts}with|some v=>gj P T E ops q bs rest K (fr.put d v) H|none=>False:=rfl
@[simp] theorem afL{c a b:Operand}:gj P T E ops q (true::bs) ({dst:=d,op:=.pick c a b,type:=ty,pos:=pos,after:=after,guard:=none}::rest) K fr H=match AG P T fr {dst:=d,op:=.pick c a b,type:=ty,pos:=pos,after:=after,guard:=none}with|some v=>gj P T E ops q bs rest K (fr.put d v) H|none=>False:=rfl
@[simp] theorem adb{t:TypeId}{a:Array (Nat×Operand)}:gj P T E ops q (true::bs) ({dst:=d,op:=.build t a,type:=ty,pos:=pos,after:=after,guard:=none}::rest) K fr H=match Gh P t (a.toList.map λp=>(p.1,ev T fr p.2))with|some v=>gj P T E ops q bs rest K (fr.put d v) H|none=>False:=rfl
@[simp] theorem ac0{o:BinOp}{t u:TypeId}{x y:Operand}:gj P T E ops q (true::bs) ({dst:=d,op:=.binOp o t x y u,type:=ty,pos:=pos,after:=after,guard:=none}::rest) K fr H=match RL P o t y (ev T fr x) (ev T fr y)with|some v=>gj P T E ops q bs rest K (fr.put d v) H|none=>False:=rfl
@[simp] theorem agn{o:UnOp}{t:TypeId}{x:Operand}:gj P T E ops q (true::bs) ({dst:=d,op:=.unOp o t x,type:=ty,pos:=pos,after:=after,guard:=none}::rest) K fr H=match unA o (ev T fr x)with|some v=>gj P T E ops q bs rest K (fr.put d v) H|none=>False:=rfl
@[simp] theorem VQ{t i:Nat}{x:Operand}:gj P T E ops q (true::bs) ({dst:=d,op:=.fieldAddr t x i,type:=ty,pos:=pos,after:=after,guard:=none}::rest) K fr H=match tF P t (ev T fr x) i with|some v=>gj P T E ops q bs rest K (fr.put d v) H|none=>False:=rfl
@[simp] theorem acY{t i:Nat}{x:Operand}:gj P T E ops q (true::bs) ({dst:=d,op:=.field t x i,type:=ty,pos:=pos,after:=after,guard:=none}::rest) K fr H=match DJ P t (ev T fr x) i with|some v=>gj P T E ops q bs rest K (fr.put d v) H|none=>False:=rfl
@[simp] theorem VS{t:TypeId}{x i:Operand}:gj P T E ops q (true::bs) ({dst:=d,op:=.indexAddr t x i,type:=ty,pos:=pos,after:=after,guard:=none}::rest) K fr H=match gJ P t (ev T fr x) (ev T fr i)with|some v=>gj P T E ops q bs rest K (fr.put d v) H|none=>False:=rfl
@[simp] theorem acO{t:TypeId}{x:Operand}{lo hi a:Option Operand}:gj P T E ops q (true::bs) ({dst:=d,op:=.slice t x lo hi a,type:=ty,pos:=pos,after:=after,guard:=none}::rest) K fr H=match o3 P t (ev T fr x) (lo.map (ev T fr)) (hi.map (ev T fr)) (a.map (ev T fr))with|some v=>gj P T E ops q bs rest K (fr.put d v) H|none=>False:=rfl
@[simp] theorem ZY{i:Nat}{x:Operand}:gj P T E ops q (true::bs) ({dst:=d,op:=.extract x i,type:=ty,pos:=pos,after:=after,guard:=none}::rest) K fr H=match AG P T fr {dst:=d,op:=.extract x i,type:=ty,pos:=pos,after:=after,guard:=none}with|some v=>gj P T E ops q bs rest K (fr.put d v) H|none=>False:=rfl
@[simp] theorem Wx{x:Operand}:gj P T E ops q (true::bs) ({dst:=d,op:=.nilCheck x,type:=ty,pos:=pos,after:=after,guard:=none}::rest) K fr H=match AG P T fr {dst:=d,op:=.nilCheck x,type:=ty,pos:=pos,after:=after,guard:=none}with|some v=>gj P T E ops q bs rest K (fr.put d v) H|none=>False:=rfl
@[simp] theorem ade{op:Op}{j:Nat}{want:Bool}:gj P T E ops q (true::bs) ({dst:=d,op:=op,type:=ty,pos:=pos,after:=after,guard:=some (j,want)}::rest) K fr H=match(ops[j]?).bind (·.dst)with
  |some g=>match fr.env g with
   |.sc (.bool b)=>if b=want then gj P T E ops q (true::bs) ({dst:=d,op:=op,type:=ty,pos:=pos,after:=after,guard:=none}::rest) K fr H else gj P T E ops q bs rest K (fr.put d (.tuple [])) H|.tuple _=>gj P T E ops q bs rest K (fr.put d (.tuple [])) H|_=>False
  |none=>False:=by
 simp only[gj,ib,hY]
 cases a:(ops[j]?).bind (·.dst)with
 |none=>rfl|some g=>
  simp only;cases he:fr.env g with
  |sc v=>
   cases v with
   |bool b=>
    simp only
    by_cases hw:b=want
    ·subst hw;simp only[beq_self_eq_true,if_true];rfl
    ·rw[dK hw]
     have:(b==want)=false:=by simpa using hw
     rw[this]
   |_=>rfl
  |_=>rfl
end
end Go.ld
namespace Go.ld
open Go Go.fF
def pav(k:Nat):Option Nat->AV
 |none=>.sc (.pointer none)|some p=>.fh (k+p) 0
section
variable{P:Program} {t e:TypeId} {k:Nat} {x:Option Nat}
end
end Go.ld
namespace Go.ld
open Go Go.fF
def vP{α:Type}(f:α->AV)(L:List α)(k:Nat):List AV:=(L.map f).flatMap AV.cells++zd k
@[irreducible] def Qe(i sz:Nat):Nat:=i*sz
theorem Ik(i sz:Nat):Qe i sz=i*sz:=by unfold Qe;rfl
section
variable{α:Type} {f:α->AV} {L:List α} {k sz:Nat}
theorem sx(h:∀x,(f x).cells.length=sz)(L:List α):((L.map f).flatMap AV.cells).length=L.length*sz:=by
 rw[oo (sz:=sz)]
 all_goals grind
def xF(h:∀x,(f x).cells.length=sz):(vP f L k).length=L.length*sz+k:=by grind[vP,sx,zd]
theorem B9(h:∀x,(f x).cells.length=sz):(vP f L k).take (L.length*sz)=(L.map f).flatMap AV.cells:=by grind[vP,sx]
def WE(h:∀x,(f x).cells.length=sz){i:Nat}{y:α}(hi:i<L.length):setCells (vP f L k) (i*sz) (f y).cells=vP f (L.set i y) k:=by
 unfold setCells vP;have hlen:=sx h L
 have hle:i*sz+sz<=L.length*sz:=by
  rw[<-Uv];exact Lx _ hi
 rw[h y,List.take_append_of_le_length VW,List.drop_append_of_le_length VW,<-tM]
 congr 1
 have a:L.set i y=L.take i++y::L.drop (i+1):=List.set_eq_take_append_cons_drop▸(by rw[dR hi]);rw[a,afX,kZ,Xk,JU]
 have hm:∀x∈L.map f,x.cells.length=sz:=by grind
 have b:i*sz+sz=(i+1)*sz:=by rw[Uv]
 rw[b,<-Fa hm,<-y9 hm,List.map_take,List.map_drop,tM]
end
def JN{α:Type}{f:α->AV}(a:∀x,(f x).cells.map AV.kq=(f x).cells)(L:List α):(L.map f).flatMap AV.cells=((L.map f).flatMap AV.cells).map AV.kq:=by
 induction L with
 |nil=>rfl|cons x L ih=>grind
def tn.ai6{P:Program}{t e sz d:Nat}{s x:AV}{K:Fr->dZ->Prop}{fr:Fr}{H:dZ}{α:Type}{f:α->AV}(m:List α){b:Tag}
  (c:oM P t=some (e,sz)) (h:∃n,kj P e=some n) (i:∀x,(f x).cells.length=sz) (hlen:J5 m=true) (hs:s=.slice .full []) (q:x=.slice b (m.map f))
  (r:∀cap,m.length<=cap->K {fr with env:=gL fr.env d (.xX d (fr.gen d+1) m.length cap),box:=gL fr.box d (some (vP f m ((cap-m.length)*sz))),gen:=gL fr.gen d (fr.gen d+1)} H):tn P t s x d K fr H:=by
 subst hs;subst q
 have o:0<m.length/\m.length<=yU:=by simpa[J5] using hlen
 have j:∀l:List α,lp sz (l.map f)=true:=λl=>by cases l with|nil=>rfl|cons a l=>simp[i]
 obtain⟨n,h⟩:=h;refine .inl (.inr ?_);unfold V2;rw[c];refine⟨j m,by rw[h];rfl,by simpa using o.1,rfl,by simpa[kG,yU] using o.2,λcap u=>?_⟩
 have k:m.length<=cap:=by simpa using u
 have:=r cap k;simp only[zh,oa,CD,Ax,Gk];exact this
def tn.pn{P:Program}{t e sz d:Nat}{s x:AV}{K:Fr->dZ->Prop}{fr:Fr}{H:dZ}{α:Type}{f:α->AV}(L m:List α){cap:Nat}{n:Tag}
  (q:oM P t=some (e,sz)) (r:∃A,kj P e=some A) (c:∀x,(f x).cells.length=sz) (hlen:fN L m=true) (hm:0<m.length) (hs:s=.xX d (fr.gen d) L.length cap) (C:x=.slice n (m.map f))
  (D:fr.box d=some (vP f L ((cap-L.length)*sz))) (u:L.length<=cap)
  (F:∀B b,(fU L m).length<=b->K {fr with env:=gL fr.env d (.xX d B (fU L m).length b),box:=gL fr.box d (some (vP f (fU L m) ((b-(fU L m).length)*sz))),gen:=gL fr.gen d B} H):tn P t s x d K fr H:=by
 subst hs;subst C;have G:L.length+m.length<=yU:=Qg hlen
 have v:∀l:List α,lp sz (l.map f)=true:=λl=>by cases l with|nil=>rfl|cons a l=>simp[c]
 obtain⟨A,r⟩:=r;have w:=sx c L;have y:=sx c m;have i:(fU L m).length=L.length+m.length:=Oz L m
 have k:(L.map f).flatMap AV.cells++(m.map f).flatMap AV.cells=((fU L m).map f).flatMap AV.cells:=by simp[fU]
 refine .inl (.inr ?_);unfold V2;rw[q];refine⟨v m,by rw[r];rfl,by simpa using hm,rfl,by simpa[kG,yU] using G,?_⟩;rw[D];simp only[Gk];refine⟨?_,λI=>?_,λb N O=>?_⟩
 ·rw[xF c,Nat.sub_mul];have:=Lx sz u;omega
 ·have o:=F (fr.gen d) cap (by rw[i];exact I)
  have J:gL fr.gen d (fr.gen d)=fr.gen:=by
   funext j
   simp only[gL]
   split
   ·rename_i h;rw[h]
   ·rfl
  have M:setCells (vP f L ((cap-L.length)*sz)) (L.length*sz) ((m.map f).flatMap AV.cells)=vP f (fU L m) ((cap-(fU L m).length)*sz):=by
   unfold setCells;rw[B9 c];unfold vP;rw[<-k,aea,OH VW,oa,w,y,i]
   have:L.length*sz+m.length*sz-L.length*sz=m.length*sz:=VW
   rw[this];unfold zd;rw[List.drop_replicate,<-Nat.sub_mul,Nat.sub_sub]
  rw[J,<-M,i] at o;exact o
 ·grind[vP,AV.cells,zd,fU,B9,zh]
@[simp] theorem ag7{P:Program}{t:TypeId}{b g n c:Nat}:HY P t (.xX b g n c)=match P.underlying t with|some (.slice _)=>some (.sc (.int .i64 n))|some (.array n _)=>some (.sc (.int .i64 n))|_=>none:=by
 unfold HY;cases P.underlying t with
 |none=>rfl|some y=>grind
@[simp] theorem Xb{P:Program}{t:TypeId}{k:IntKind}{a:Int}{b g n c:Nat}:gJ P t (.xX b g n c) (.sc (.int k a))=match P.underlying t with
  |some (.slice e)=>match gb P e with
   |some (_,sz)=>if 0<=a/\a<(n:Int)then some (.ie b g (Qe a.toNat sz))else none|none=>none
  |_=>none:=by
 unfold gJ;simp only[Ik];cases P.underlying t with
 |none=>rfl|some y=>cases y<;>rfl
def Dx(P:Program)(t:TypeId)(b g i sz:Nat)(v:AV)(K:Fr->dZ->Prop)(fr:Fr)(H:dZ):Prop:=l_ P t (.ie b g (Qe i sz)) v K fr H
@[simp high] theorem ac6{P:Program}{t:TypeId}{b g i sz:Nat}{v:AV}{K:Fr->dZ->Prop}{fr:Fr}{H:dZ}:l_ P t (.ie b g (Qe i sz)) v K fr H=Dx P t b g i sz v K fr H:=rfl
def Dx.arr{P:Program}{t:TypeId}{b g sz k:Nat}{a:Int}{bl:Bool}{v:AV}{K:Fr->dZ->Prop}{fr:Fr}{H:dZ}{α:Type}{f:α->AV}{L:List α}{x:α}(y:α)(i:gb P t=some (bl,sz))(c:∀x,(f x).cells.length=sz)
  (h:fC (f y)=true) (hi:dX L a=some x) (hg:g=fr.gen b) (j:fr.box b=some (vP f L k)) (l:v=f y) (n:K {fr with box:=gL fr.box b (some (vP f (GO L a y) k))} H):Dx P t b g a.toNat sz v K fr H:=by
 subst l;have hi':=OE hi;have d:=(s7.1 hi').1
 have hle:a.toNat*sz+sz<=L.length*sz:=by
  rw[<-Uv];exact Lx _ d
 unfold Dx;simp only[l_,i,j];refine⟨hg,c y,by rw[Ik,xF c];omega,h,?_⟩;rw[Ik,WE c d];exact n
def hQ.Ob{α β:Type}{R:α->β->Prop}:∀{as:List α} {bs:List β} {i:Nat} {a0 a:α},hQ R as bs->as[i]?=some a0->(∀b,bs[i]?=some b->R a b)->hQ R (as.set i a) bs
 |_,_,_,_,_,.nil,h,_=>by simp at h
 |_,_,0,_,_,.cons d c,_,h=>.cons (h _ rfl) c|_,_,i+1,_,_,.cons d c,f,h=>.cons d (hQ.Ob c (by simpa using f) (λb j=>h b (by simpa using j)))
section
variable{P:Program} {T:eO} {n B0:Nat} {ρ:Maps} {F:kT} {R:Nat->oz} {fr:Fr} {H:dZ} {a:Act} {w:World}
def WR.unbox(h:WR T n B0 ρ F R fr H a w){d:Nat}{cs:List AV}(y:fr.box d=some cs):∃q,q (ρ.L d (fr.gen d))=.free/\WR T n B0 ρ F q {fr with box:=gL fr.box d none} H a w:=by
 obtain⟨G,I,J,vs,ty,K,M⟩:=h.box d cs y
 let q:Nat->oz:=gL R (ρ.L d (fr.gen d)) .free
 have f:∀b,R b≠ .box d->q b=R b:=by grind[gL]
 refine⟨q,by show gL R _ _ _=_;simp[gL],⟨h.g,h.size,h.defers,h.env,h.hn,h.lg,h.ag,?_,?_,?_,?_,?_,h.qw⟩⟩
 ·intro s t i;simp only[gL] at i
  by_cases he:s=d
  ·subst he;simp at i
  ·rw[dK he] at i;obtain⟨u,r,x⟩:=h.box s t i;exact⟨u,by rw[f _ (by rw[r];simp[he])];exact r,x⟩
 ·intro k m A b c sz B;obtain⟨u,r,x⟩:=h.tok k m A b c sz B;exact⟨u,by rw[f _ (by rw[r];simp)];exact r,x⟩
 ·intro b j v C
  by_cases l:b=ρ.L d (fr.gen d)
  ·subst l;intro s;show gL R _ _ _≠_;simp[gL]
  ·have e:q b=R b:=by show gL R _ _ _=_;simp[gL,l]
   rw[e];exact h.qt b j v C
 ·intro o D;have:=h.ou o D;rw[f _ (by rw[this];simp)];exact this
 ·intro b l;have:=h.lL b l;rw[f _ (by rw[this];simp)];exact this
def hQ.UZ{F:kT}{ρ:Maps}{cs:List AV}{vs:List Value}(h:hQ (jZ F ρ) cs vs):hQ (gR F ρ.G ρ.n) (cs.map AV.kq) vs:=h.wk AV.kq λ_ _ _ h=>h.kq
def WR.Mr(h:WR T n B0 ρ F R fr H a w){d len cap sz:Nat}{cs els:List AV}(D:fr.box d=some cs)(M:els.length=len)(hs:∀x∈els,x.cells.length=sz)
  (I:els.flatMap AV.cells=(cs.take (len*sz)).map AV.kq) (hle:len*sz<=cs.length) (N:len<=cap) (t:cap<=maxLen):∃F' y,xD F F' ρ ρ/\(∀b j,b<B0->F' b j=F b j)/\WR T n B0 ρ F' y {fr with box:=gL fr.box d none} H a w/\gR F' ρ.G ρ.n (.slice .gK els) (.slice (some ⟨ρ.L d (fr.gen d),0,none⟩) len cap):=by
 obtain⟨V,O,J,vs,ty,P,A⟩:=h.box d cs D;obtain⟨y,q,hw⟩:=h.unbox D
 have hF:∀j,F (ρ.L d (fr.gen d)) j=none:=by
  intro j;cases Q:F (ρ.L d (fr.gen d)) j with
  |none=>rfl|some v=>
   exact absurd O (h.qt _ j v Q d)
 have S:vs.toList.length=cs.length:=A.length.symm
 obtain⟨r,B⟩:=hw.freeze (us:=vs.toList.take (len*sz)) (k:=(vs.toList.take (len*sz)).length) q hF P (λu hu=>jL A J u hu) (by
  intro j v _ s;rw[Sh] at s
  split at s
  ·simpa using s
  ·cases s)
 refine⟨_,y,r,λb j U=>ug VW,B,?_⟩
 have f:hQ (gR F ρ.G ρ.n) (els.flatMap AV.cells) (vs.toList.take (len*sz)):=by
  rw[I];exact(A.take (len*sz)).UZ
 have K:=gR.slice (F:=kx F (ρ.L d (fr.gen d)) (vs.toList.take (len*sz)).length (vs.toList.take (len*sz))) (G:=ρ.G) (n:=ρ.n) (tag:=.gK) (l:=els) (b:=ρ.L d (fr.gen d)) (o:=0)
  (base:=some ⟨ρ.L d (fr.gen d),0,none⟩) (cap:=cap) (sz:=sz) (vs:=vs.toList.take (len*sz)) (.pc (f.mono λ_ _ _ h=>h.grow r.g)) (xH _ _ _) (λ_=>rfl) hs (by
   intro c i;rw[I] at i
   exact yl (λc C=>J c (DE C)) c i) VW t (.inl rfl)
 rw[M] at K;exact K
def h9.akD{α:Type}{c:Code}{Q:Exit->Fr->dZ->Prop}{f:α->AV}(t:Nat){L:List α}{k sz d g cap:Nat}(l:∀x,(f x).cells.length=sz)(q:∀x,(f x).cells.map AV.kq=(f x).cells)
  (he:fr.env t=.xX d g L.length cap) (hg:g=fr.gen d) (C:fr.box d=some (vP f L k))
  (h:h9 P T n c Q {fr with env:=gL fr.env t (.slice .gK (L.map f)),box:=gL fr.box d none} H):h9 P T n c Q fr H:=by
 intro G0 F0 n0 w0 a w hs;refine h G0 F0 n0 w0 a w ?_;obtain⟨ρ,F,R,hw,D⟩:=hs;have o:=hw.env t;rw[he] at o;obtain⟨G,I,r,s⟩:=Bs o
 have u:∀x∈L.map f,x.cells.length=sz:=by grind
 obtain⟨F',J,v,y,i,K⟩:=hw.Mr (els:=L.map f) (len:=L.length) (cap:=cap) (sz:=sz) C aaA u (by rw[B9 l];exact JN q L) (by rw[xF l];omega) r s;refine⟨ρ,F',J,⟨i.g,i.size,i.defers,?_,i.hn,i.lg,i.ag,i.box,i.tok,i.qt,i.ou,i.lL,i.qw⟩,?_⟩
 ·intro B;show gI F' ρ (gL fr.env t (.slice .gK (L.map f)) B) _;simp only[gL]
  split
  ·rename_i e;subst e;rw[G,hg];exact .p K
  ·exact(hw.env B).grow v
 ·exact D.freeze λb j A=>y b j A
def h9.ajL{α:Type}{c:Code}{Q:Exit->Fr->dZ->Prop}{f:α->AV}(d2 i:Nat){cs2:List AV}{L:List α}{k sz d g cap:Nat}(q:∀x,(f x).cells.length=sz)(t:∀x,(f x).cells.map AV.kq=(f x).cells)
  (v:d2≠d) (he:fr.box d2=some cs2) (hi:cs2[i]?=some (.xX d g L.length cap)) (hg:g=fr.gen d) (X:fr.box d=some (vP f L k))
  (h:h9 P T n c Q {fr with box:=gL (gL fr.box d none) d2 (some (cs2.set i (.slice .gK (L.map f))))} H):h9 P T n c Q fr H:=by
 intro G0 F0 n0 w0 a w hs;refine h G0 F0 n0 w0 a w ?_;obtain⟨ρ,F,R,hw,A⟩:=hs;obtain⟨_,_,B,C,Y,Z,D⟩:=hw.box d2 cs2 he;obtain⟨u,hu,G⟩:=D.get hi;obtain⟨hv,ad,I,J⟩:=Bs (.cell G)
 have K:∀x∈L.map f,x.cells.length=sz:=by
  intro x A;obtain⟨y,_,rfl⟩:=qz.1 A;exact q y
 obtain⟨F',R',ae,M,l,hp⟩:=hw.Mr (els:=L.map f) (len:=L.length) (cap:=cap) (sz:=sz) X aaA K (by rw[B9 q];exact JN t L) (by rw[xF q];omega) I J
 have N:({fr with box:=gL fr.box d none}:Fr).box d2=some cs2:=by simp[gL,v,he]
 refine⟨ρ,F',R',⟨l.g,l.size,l.defers,l.env,l.hn,l.lg,l.ag,?_,l.tok,l.qt,l.ou,l.lL,l.qw⟩,?_⟩
 ·intro O S o;simp only[gL] at o
  by_cases r:O=d2
  ·subst r;simp only[if_true,CA] at o;subst o;obtain⟨e1,e2,e3,vs',U,e4,e5⟩:=l.box O cs2 N;refine⟨e1,e2,?_,vs',U,e4,?_⟩
   ·intro c hc;rcases List.mem_or_eq_of_mem_set hc with h'|h'
    ·exact e3 c h'
    ·rw[h'];rfl
   ·have V:vs'.toList=C.toList:=by
     grind
    refine hQ.Ob e5 hi ?_;intro u' s;rw[V,hu] at s;obtain rfl:=kX s;rw[hv,hg];exact .p hp
  ·simp only[dK r] at o;exact l.box O S (by simpa[gL] using o)
 ·exact A.freeze λb j W=>M b j W
end
end Go.ld
