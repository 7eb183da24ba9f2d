/- Part of the proof of SchemeAccepted: layer. -/
import Derived.Test.YtpgdkkomegalnaaGreatDoorAL9
set_option linter.all false
namespace Go.kY
open Go
mutual
def AV.low(k:Nat):AV->Bool
 |.undef=>true|.sc _=>true|.mh x=>x.low k|.hU _ _ _=>true|.eT o _=>decide (o<k)|.slice _ l=>AV.iu k l|.agg l=>AV.iu k l|.tuple l=>AV.iu k l|.func _ f c=>AV.iu k f&&AV.iu k c|.iface _ x=>x.low k|.xb _ _ _ _=>true|.nB o=>decide (o<k)|.zy o _ _ _=>decide (o<k)|.Mw=>true|.tU _ xs=>AV.iu k xs|.mu o _ _=>decide (o<k)
def AV.iu(k:Nat):List AV->Bool
 |[]=>true|x::l=>x.low k&&AV.iu k l
end
def AV.vO{k:Nat}:∀{l:List AV},AV.iu k l=true↔∀x∈l,x.low k=true
 |[]=>by simp[AV.iu]|x::l=>by simp[AV.iu,AV.vO (l:=l)]
def AV.Ke{k:Nat}{x:AV}(h:x.low k=true):AV.iu k x.cells=true:=by
 cases x<;>simp_all [AV.low,AV.cells,AV.iu]
def AV.V2{k:Nat}{l:List AV}(h:AV.iu k l=true):AV.iu k (l.flatMap AV.cells)=true:=by
 rw[AV.vO] at h|-;intro x a;obtain⟨y,b,a⟩:=YY.1 a;exact AV.vO.1 (AV.Ke (h y b)) x a
@[simp] theorem AV.agk{α:Type}{k:Nat}(f:α->Value)(l:List α):AV.iu k (List.map (λn=>AV.sc (f n)) l)=true:=by
 rw[AV.vO];intro x a;obtain⟨y,_,rfl⟩:=qv.1 a;rfl
section
variable{F:kD} {G:Nat->Nat} {n k:Nat}
mutual
def gH.lower:∀{x v},gH F G n x v->x.low k=true->gH F G k x v
 |_,_,.undef h,_=>.undef h|_,_,.sc h,_=>.sc h|_,_,.mh b c d,a=>.mh (b.lower (AV.Ke (by simpa[AV.low] using a))) c d|_,_,.eT h,a=>.eT (by simpa[AV.low] using a)|_,_,.nB h,a=>.nB (by simpa[AV.low] using a)|_,_,.zy h c d,a=>.zy (by simpa[AV.low] using a) c d|_,_,.slice b c d f i j l o,a=>.slice (b.lower (AV.V2 (by simpa[AV.low] using a))) c d f i j l o|_,_,.Mw,_=>.Mw|_,_,.agg b c,a=>.agg (b.lower (by simpa[AV.low] using a)) c|_,_,.tuple b,a=>.tuple (b.lower (by simpa[AV.low] using a))|_,_,.func b c,a=>by
  simp only[AV.low,gG] at a;exact .func (b.lower a.1) (c.lower a.2)
 |_,_,.iface b,a=>.iface (b.lower (by simpa[AV.low] using a))
def gV.lower:∀{xs vs},gV F G n xs vs->AV.iu k xs=true->gV F G k xs vs
 |_,_,.nil,_=>.nil|_,_,.cons b c,a=>by
  simp only[AV.iu,gG] at a;exact .cons (b.lower a.1) (c.lower a.2)
end
end
def lA.lower{F:kD}{G:Nat->Nat}{n k:Nat}{cs d}(h:lA F G n cs d)(a:AV.iu k cs=true):lA F G k cs d:=by
 cases h with
 |cells f b c=>exact .cells f ((gV.oQ b).lower a).rP c|map b c i j l=>exact .map b ((gV.oQ c).lower (by simpa[AV.iu,AV.low] using a)).rP i j l|iter h=>exact .iter (by simpa[AV.iu,AV.low] using a)|dead=>exact .dead
def fo.drop{P:Program}{T:eH}{f:FuncId}{args:List AV}{H:dT}{Post Post':AV->dT->Prop}(h:fo P T f args H Post)
  (A:∀r H',Post r H'->∃a X,H'=a++X/\H.length<=a.length/\r.low a.length=true/\(∀cs∈a,AV.iu a.length cs=true)/\Post' r a):fo P T f args H Post':=by
 refine⟨h.1,λG F w vs hg B=>(h.2 G F w vs hg B).mono ?_⟩;rintro e w' ⟨r,H',v,G',F',n,rfl,k,C,c⟩;obtain⟨a,X,rfl,hlen,D,q,I⟩:=A r H' n
 have l:∀b o v,F b o=some v->F' b o=some v:=by
  intro b o v s
  have hb:b<w.heap.size:=by
   rcases uR b w.heap.size with hb|hb
   ·exact hb
   ·rw[hg.fresh b o hb] at s;cases s
  exact c.mF b o v hb s
 have i:∀o,o<a.length->o<(a++X).length:=λo d=>by rw[qt];omega
 refine⟨r,a,v,G',F',I,rfl,?_,C.lower D,?_⟩
 ·refine⟨k.FR,?_,λo o' d t=>k.inj o o' (i o d) (i o' t),λo j d u=>k.gF o j (i o d) (by rw[zE d];exact u),k.fresh,λg x J=>?_,k.row⟩
  ·intro o cs d;have y:o<a.length:=(ua.1 d).1;obtain⟨K,L,M⟩:=k.lM o cs (by rw[zE y];exact d);exact⟨K,L,M.lower (q cs (IN d))⟩
  ·exact(hg.Dl g x J).grow ⟨l,hlen,λo d=>c.hG o d⟩
 ·exact⟨c.os,c.tape,c.output,c.size,hlen,c.hG,λo n N=>c.L8 o n (i o N),c.hF,c.mF,c.heap⟩
end Go.kY
namespace Go.kY
open Go
def AV.Em{k:Nat}{x:AV}(h:AV.iu k x.cells=true):x.low k=true:=by
 cases x<;>simp_all [AV.low,AV.cells,AV.iu]
def AV.L7{k:Nat}{l:List AV}(h:AV.iu k (l.flatMap AV.cells)=true):AV.iu k l=true:=by
 rw[AV.vO] at h|-;intro x a;exact AV.Em (AV.vO.2 λy b=>h y (YY.2 ⟨x,a,b⟩))
section
variable{F:kD} {G:Nat->Nat} {n:Nat}
mutual
def gH.v7:∀{x v},gH F G n x v->x.low n=true
 |_,_,.undef _=>rfl|_,_,.sc _=>rfl|_,_,.mh a _ _=>by simpa[AV.low] using AV.Em a.v7|_,_,.eT h=>by grind[AV.low]|_,_,.nB h=>by simpa[AV.low] using h|_,_,.zy h _ _=>by simpa[AV.low] using h|_,_,.slice a _ _ _ _ _ _ _=>by simpa[AV.low] using AV.L7 a.v7|_,_,.Mw=>rfl|_,_,.agg a _=>by simpa[AV.low] using a.v7|_,_,.tuple a=>by simpa[AV.low] using a.v7|_,_,.func a b=>by simp[AV.low,a.v7,b.v7]|_,_,.iface a=>by simpa[AV.low] using a.v7
def gV.v7:∀{xs vs},gV F G n xs vs->AV.iu n xs=true
 |_,_,.nil=>rfl|_,_,.cons a b=>by simp[AV.iu,a.v7,b.v7]
end
end
def lA.v7{F:kD}{G:Nat->Nat}{n:Nat}{cs c}(h:lA F G n cs c):AV.iu n cs=true:=by
 cases h with
 |cells d a b=>exact(gV.oQ a).v7|map a b f i j=>simpa[AV.iu,AV.low] using(gV.oQ b).v7|iter h=>grind[AV.iu,AV.low]|dead=>rfl
def fo.uI{P:Program}{T:eH}{f:FuncId}{args:List AV}{H:dT}{Post Post':AV->dT->Prop}(h:fo P T f args H Post)
  (d:∀r H',Post r H'->∃X,H'=H++X/\r.low H.length=true/\Post' r H):fo P T f args H Post':=by
 refine⟨h.1,λG F w vs hg i=>?_⟩
 have a:∀cs∈H,AV.iu H.length cs=true:=by
  intro cs b;obtain⟨o,j⟩:=Yx.1 b;obtain⟨q,_,k⟩:=hg.lM o cs j;exact k.v7
 exact(fo.drop (Post':=Post') h λr H' l=>by
  obtain⟨X,e,n,c⟩:=d r H' l
  exact⟨H,X,e,js _,n,a,c⟩).2 G F w vs hg i
end Go.kY
namespace Go.kY
open Go Go.fH
mutual
def AV.Jp{k n:Nat}(h:k<=n):∀{x:AV},x.low k=true->x.low n=true
 |.undef,_=>rfl|.sc _,_=>rfl|.mh x,a=>by simpa[AV.low] using AV.Jp h (x:=x) (by simpa[AV.low] using a)|.hU _ _ _,_=>rfl|.eT o _,a=>by simp[AV.low] at a|-;omega
 |.zy o _ _ _,a=>by simp[AV.low] at a|-;omega
 |.slice _ l,a=>by simpa[AV.low] using AV.rq h (l:=l) (by simpa[AV.low] using a)|.agg l,a=>by simpa[AV.low] using AV.rq h (l:=l) (by simpa[AV.low] using a)|.tuple l,a=>by simpa[AV.low] using AV.rq h (l:=l) (by simpa[AV.low] using a)|.func _ f c,a=>by
  simp only[AV.low,gG] at a|-;exact⟨AV.rq h a.1,AV.rq h a.2⟩
 |.iface _ x,a=>by simpa[AV.low] using AV.Jp h (x:=x) (by simpa[AV.low] using a)|.xb _ _ _ _,_=>rfl|.Mw,_=>rfl|.nB o,a=>by simp[AV.low] at a|-;omega
 |.tU _ l,a=>by simpa[AV.low] using AV.rq h (l:=l) (by simpa[AV.low] using a)|.mu o _ _,a=>by simp[AV.low] at a|-;omega
def AV.rq{k n:Nat}(h:k<=n):∀{l:List AV},AV.iu k l=true->AV.iu n l=true
 |[],_=>rfl|x::l,a=>by
  simp only[AV.iu,gG] at a|-;exact⟨AV.Jp h a.1,AV.rq h a.2⟩
end
def R4{H:dT}{o:Nat}{c:List AV}(h:H[o]?=some c):o<H.length:=(ua.1 h).1
theorem KO{H:dT}{o:Nat}{c:List AV}(h:H[o]?=some c):gb H o c=H:=by
 apply T7
 grind[gb]
def Inb(H:dT)(o:Nat):Prop:=o<H.length
def eK{H:dT}{o:Nat}{c:List AV}(h:H[o]?=some c):Inb H o:=R4 h
def U6{H:dT}{o:Nat}{c:List AV}(h:Inb H o):(gb H o c)[o]?=some c:=by simp[gb,show o<H.length from h]
def N8{H:dT}{o o':Nat}{c:List AV}(h:o≠o'):(gb H o c)[o']?=H[o']?:=by grind[gb]
def Tb{H:dT} {o o':Nat} {c d e:List AV} (h:o≠o'):gb (gb (gb H o c) o' d) o e=gb (gb H o e) o' d:=by
 simp only[gb];rw[List.set_comm _ _ h.symm,List.set_set]
def PL{A B:dT}{o:Nat}(h:Inb A o):(A++B)[o]?=A[o]?:=zE h
def MU{A B:dT}{o:Nat}{c:List AV}(h:Inb A o):gb (A++B) o c=gb A o c++B:=by simp[gb,List.set_append,show o<A.length from h]
def HN{A B:dT}{k i:Nat}(h:A.length=k):(A++B)[k+i]?=B[i]?:=by grind
def Qg{A B:dT}{k:Nat}(h:A.length=k):(A++B)[k]?=B[0]?:=HN (i:=0) h
def F5{A B:dT}{k i:Nat}{c:List AV}(h:A.length=k):gb (A++B) (k+i) c=A++gb B i c:=by grind[gb]
def Nv{A B:dT}{k:Nat}{c:List AV}(h:A.length=k):gb (A++B) k c=A++gb B 0 c:=F5 (i:=0) h
@[simp] theorem acv(a:List AV)(l:dT)(c:List AV):gb (a::l) 0 c=c::l:=rfl
@[simp] theorem abc(a:List AV)(l:dT)(i:Nat)(c:List AV):gb (a::l) (i+1) c=a::gb l i c:=rfl
def fo.Jr{P:Program}{T:eH}{f:FuncId}{args:List AV}{H:dT}{o:Nat}{c:List AV}{Post:AV->dT->Prop}(h:H[o]?=some c)(a:fo P T f args (gb H o c) Post):fo P T f args H Post:=by grind[KO]
structure EO {S:Type} (st:S->dT) (k:Nat):Prop where
 len:∀s,(st s).length=k
 low:∀s s' cs,cs∈st s'->cs∈st s\/AV.iu k cs=true
def EO.const{S:Type}(H:dT):EO (λ_:S=>H) H.length:=⟨λ_=>rfl,λ_ _ _ h=>.inl h⟩
def EO.ext{S:Type}{st:S->dT}{k:Nat}(h:EO st k)(X:dT){n:Nat}(hn:k+X.length=n):EO (λs=>st s++X) n:=by
 subst hn;refine⟨λs=>by rw[qt,h.len],λs a cs hc=>?_⟩;rcases uh.1 hc with hc|hc
 ·rcases h.low s a cs hc with h1|h1
  ·grind
  ·exact .inr (AV.rq VW h1)
 ·grind
def EO.adt{S:Type}(H:dT)(f:S->dT)(n:Nat)(hn:∀s,(f s).length=n)(b:∀s a cs,cs∈f a->cs∈f s\/AV.iu (H.length+n) cs=true):EO (λs=>H++f s) (H.length+n):=by
 refine⟨λs=>by rw[qt,hn],λs a cs c=>?_⟩
 grind
def fo.aet{P:Program}{T:eH}{f:FuncId}{args:List AV}{H:dT}{Post Post':AV->dT->Prop}(h:fo P T f args H Post)
  (k:∀r H',Post r H'->∃a X,H'=a++X/\a.length=H.length/\r.low H.length=true/\(∀cs∈a,cs∈H\/AV.iu H.length cs=true)/\Post' r a):fo P T f args H Post':=by
 refine⟨h.1,λG F w vs hg d=>?_⟩
 have c:∀cs∈H,AV.iu H.length cs=true:=by
  intro cs b;obtain⟨o,i⟩:=Yx.1 b;obtain⟨l,_,j⟩:=hg.lM o cs i;exact j.v7
 refine(fo.drop (Post':=Post') h λr H' n=>?_).2 G F w vs hg d
 grind
def fo.ZF{P:Program}{T:eH}{f:FuncId}{args:List AV}{S:Type}{st:S->dT}{k:Nat}(hF:EO st k){s:S}{Post Post':AV->dT->Prop}(h:fo P T f args (st s) Post)
  (c:∀r H',Post r H'->∃a X,H'=st a++X/\r.low k=true/\Post' r (st a)):fo P T f args (st s) Post':=
 fo.aet h λr H' d=>by
  obtain⟨a,X,e,i,b⟩:=c r H' d;exact⟨st a,X,e,by rw[hF.len,hF.len],by rw[hF.len];exact i,λcs j=>by rw[hF.len];exact hF.low s a cs j,b⟩
@[simp] theorem aey(H:List (List AV))(o:Nat)(c:List AV):List.set H o c=gb H o c:=rfl
attribute [simp] U6 N8 Tb PL MU HN Qg F5 Nv
end Go.kY
namespace Go.kY
open Go Go.fH
def fS(P:Program)(T:eH)(E:List Nat)(opsA:Array Oper)(q:Qt):List Bool->List Oper->(Fr->dT->Prop)->Fr->dT->Prop
 |_,[],K,fr,H=>K fr H|[],o::rest,K,fr,H=>hS P T E opsA q true o (λfr H=>fS P T E opsA q [] rest K fr H) fr H|b::bs,o::rest,K,fr,H=>hS P T E opsA q b o (λfr H=>fS P T E opsA q bs rest K fr H) fr H
def J7{E:List Nat}{ops:Array Oper}{q:Qt}{P:Program}{T:eH}{K:Fr->dT->Prop}(a:List Bool):∀(l:List Oper) (k:Nat) (fr:Fr) (H:dT),l=ops.toList.drop k->fS P T E ops q (a.drop k) l K fr H->Le P T E ops q (λi=>a.getD i true) (List.range' k l.length) K fr H:=by
 intro l
 induction l with
 |nil=>
  intro k fr H _ h;cases c:a.drop k<;>rw[c] at h<;>exact h
 |cons o l ih=>
  intro k fr H b h
  have d:k<ops.toList.length:=by
   rcases uR k ops.toList.length with h'|h'
   ·exact h'
   ·rw[MH h'] at b;cases b
  have f:=NI d;rw[f] at b;injection b with s j
  have hi:ops[k]?=some o:=by grind
  simp only[pM,ab6,Le,hi]
  have n:a.getD k true=(a.drop k).headD true:=by
   simp only[List.getD,List.headD_eq_head?_getD,List.head?_drop]
  have r:a.drop (k+1)=(a.drop k).tail:=by rw[List.tail_drop]
  rw[n];refine HA (K:=λfr H=>fS P T E ops q (a.drop (k+1)) l K fr H) (λfr H h=>ih (k+1) fr H j h) ?_;rw[r];cases c:a.drop k<;>rw[c] at h<;>exact h
def hQ.YD{P:Program}{T:eH}{n:Nat}{Q:Exit->Fr->dT->Prop}{fr:Fr}{H:dT}{id:Nat}{ops:Array Oper}(E:List Nat)(q:Qt)(b:List Bool)(hm:P.follows .mixedOrders=true)(a:AE n ops=true)(c:A4 E ops (λi=>b.getD i true)=true)
  (h:fS P T E ops q b ops.toList (Q .normal) fr H):hQ P T n (.region id ops true) Q fr H:=by
 refine hQ.VD E q (λi=>b.getD i true) hm a c ?_;have:=J7 (P:=P) (T:=T) (E:=E) (ops:=ops) (q:=q) (K:=Q .normal) b ops.toList 0 fr H (by grind);rw[XW]
 grind
def gI(P:Program)(T:eH)(E:List Nat)(ops:Array Oper)(q:Qt)(bs:List Bool)(a:AV)(as:List AV)(d:Option Nat)(rest:List Oper)(K:Fr->dT->Prop)(fr:Fr)(H:dT):Prop:=
 if d.any E.contains then ada P T q true a as d (fS P T E ops q bs rest K) fr H else∃r H',tX P T a as H r H'/\(QK q H H')/\fS P T E ops q bs rest K (fr.put d r) H'
section
variable{P:Program} {T:eH} {E:List Nat} {ops:Array Oper} {q:Qt} {bs:List Bool} {rest:List Oper} {K:Fr->dT->Prop} {fr:Fr} {H H':dT} {d:Option Nat} {ty:TypeId} {pos:String} {after:Array Edge}
def gI.val{a:AV}{as:List AV}{r:AV}(h:tX P T a as H r H')(b:QK q H H')(c:fS P T E ops q bs rest K (fr.put d r) H'):gI P T E ops q bs a as d rest K fr H:=by grind[gI,Y0]
def gI.fn{g:FuncId}{as:List AV}{r:AV}(h:eI P T g as H r H')(a:QK q H H')(b:fS P T E ops q bs rest K (fr.put d r) H'):gI P T E ops q bs (.func (.func g) [] []) as d rest K fr H:=by
 refine gI.val ?_ a b;unfold tX oY;simp only[DR];exact h
def gI.F2{g:FuncId}{b c as a:List AV}{r:AV}(f:b++as++c=a)(h:eI P T g a H r H')(i:QK q H H')(j:fS P T E ops q bs rest K (fr.put d r) H'):gI P T E ops q bs (.func (.func g) b c) as d rest K fr H:=by
 subst f;exact gI.val h i j
@[simp] theorem adO(bs:List Bool):fS P T E ops q bs [] K fr H=K fr H:=by cases bs<;>rfl
@[simp] theorem aat{t:TypeId}{x:Operand}:fS P T E ops q (false::bs) ({dst:=d,op:=.load t x,type:=ty,pos:=pos,after:=after,guard:=none}::rest) K fr H=if qV ops.toList x (ev T fr x)then(match uH P fr H t (ev T fr x)with|some v=>fS P T E ops q bs rest K (fr.put d v) H|none=>False)else False:=by
 simp only[fS,hS,hJ,qM,kj,nJ,zb,re,lG,g_,nA,Bool.not_false,Bool.true_or,JO]
 split
 ·rename_i v a
  split at a
  ·rename_i b;rw[dO b,a]
  ·cases a
 ·rename_i a
  split at a
  ·rename_i b;rw[dO b,a]
  ·rename_i b;rw[dI b]
@[simp] theorem XZ{t:TypeId}{x y:Operand}:fS P T E ops q (false::bs) ({dst:=none,op:=.store t x y,type:=ty,pos:=pos,after:=after,guard:=none}::rest) K fr H=(SV E q x (ev T fr x)/\qV ops.toList x (ev T fr x)=true/\lQ P t (ev T fr x) (ev T fr y) (fS P T E ops q bs rest K) fr H):=by
 simp only[fS,hS,hJ,qM,kj,nJ,zb,re,lG,g_,Ae,re,false_implies,if_true,Ff]
@[simp] theorem adq{x:Operand}:fS P T E ops q (true::bs) ({dst:=d,op:=.move x,type:=ty,pos:=pos,after:=after,guard:=none}::rest) K fr H=fS P T E ops q bs rest K (fr.put d (ev T fr x)) H:=rfl
@[simp] theorem Zf{x:Operand}:fS P T E ops q (true::bs) ({dst:=d,op:=.assign x,type:=ty,pos:=pos,after:=after,guard:=none}::rest) K fr H=fS P T E ops q bs rest K (fr.put d (ev T fr x)) H:=rfl
@[simp] theorem aaw{t:TypeId}:fS P T E ops q (true::bs) ({dst:=d,op:=.alloc t,type:=ty,pos:=pos,after:=after,guard:=none}::rest) K fr H=match j0 P t with|some z=>d.any E.contains=false/\kT E d z (fS P T E ops q bs rest K) fr H|none=>False:=by
 simp only[fS,hS,hJ,qM,kj,nJ,zb,re,lG,g_,abY];rfl
@[simp] theorem ado{t:TypeId}{x:Operand}:fS P T E ops q (true::bs) ({dst:=d,op:=.load t x,type:=ty,pos:=pos,after:=after,guard:=none}::rest) K fr H=if qV ops.toList x (ev T fr x)&&q.ok (ev T fr x)then(match uH P fr H t (ev T fr x)with|some v=>fS P T E ops q bs rest K (fr.put d v) H|none=>False)else False:=by
 simp only[fS,hS,hJ,qM,kj,nJ,zb,re,lG,g_,nA,acG,Ut]
 split
 ·rename_i v a
  split at a
  ·rename_i b;rw[dO b,a]
  ·cases a
 ·rename_i a
  split at a
  ·rename_i b;rw[dO b,a]
  ·rename_i b;rw[dI b]
@[simp] theorem Z2{t:TypeId}{x y:Operand}:fS P T E ops q (true::bs) ({dst:=none,op:=.store t x y,type:=ty,pos:=pos,after:=after,guard:=none}::rest) K fr H=(SV E q x (ev T fr x)/\qV ops.toList x (ev T fr x)=true/\isL (ev T fr x)=true/\lQ P t (ev T fr x) (ev T fr y) (fS P T E ops q bs rest K) fr H):=by
 simp only[fS,hS,hJ,qM,kj,nJ,zb,re,lG,g_,abY,Ae,if_true,Ff]
@[simp] theorem S0{t n:Nat}{c:Array (Nat×Operand)}:fS P T E ops q (true::bs) ({dst:=d,op:=.buildSlice t n c,type:=ty,pos:=pos,after:=after,guard:=none}::rest) K fr H=if d.any E.contains then False else match ni P t n (c.toList.map λp=>(p.1,ev T fr p.2))with|some v=>fS P T E ops q bs rest K (fr.put d v) H|none=>False:=by
 simp only[fS,hS,hJ,qM,kj,nJ,zb,re,lG,g_,nA]
 split
 ·rename_i v a
  split at a
  ·cases a
  ·rename_i b;rw[dI b,a]
 ·rename_i a
  split at a
  ·rename_i b;rw[dO b]
  ·rename_i b;rw[dI b,a]
@[simp] theorem Yc{t:TypeId}{x i:Operand}{ok:Bool}:fS P T E ops q (true::bs) ({dst:=d,op:=.lookup t x i ok,type:=ty,pos:=pos,after:=after,guard:=none}::rest) K fr H=if q.all then(match u6 P H t (ev T fr x) (ev T fr i) ok with|some v=>fS P T E ops q bs rest K (fr.put d v) H|none=>False)else False:=by
 simp only[fS,hS,hJ,qM,kj,nJ,zb,re,lG,g_,nA,acG,Ut]
 split
 ·rename_i v a
  split at a
  ·rename_i b;rw[dO b,a]
  ·cases a
 ·rename_i a
  split at a
  ·rename_i b;rw[dO b,a]
  ·rename_i b;rw[dI b]
@[simp] theorem XF{x y:Operand}{t d:Nat}:fS P T E ops q (true::bs) ({dst:=some d,op:=.call {callee:=.builtin .append,args:=#[x,y],argTypes:=#[t,t]},type:=ty,pos:=pos,after:=after,guard:=none}::rest) K fr H=if E.contains d then Y2 P t (ev T fr x) (ev T fr y) d (fS P T E ops q bs rest K) fr H else Cd P t (ev T fr x) (ev T fr y) d (fS P T E ops q bs rest K) fr H:=by
 simp only[fS,hS,hJ,qM,kj,nJ,zb,re,lG,g_,abR]
 split
 ·rename_i a;first|exact De|(simp only[a,↓reduceIte];exact De)
 ·rename_i a;first|exact CH|(simp only[a,↓reduceIte];exact CH)
@[simp] theorem acg{f:Operand}{as:Array Operand}{ts:Array TypeId}:fS P T E ops q (true::bs) ({dst:=d,op:=.call {callee:=.value f,args:=as,argTypes:=ts},type:=ty,pos:=pos,after:=after,guard:=none}::rest) K fr H=gI P T E ops q bs (ev T fr f) (as.toList.map λx=>(ev T fr x).norm) d rest K fr H:=by
 simp only[fS,hS,hJ,qM,kj,nJ,zb,re,lG,g_,abY,gI]
@[simp] theorem adT{as:Array Operand}{ts:Array TypeId}:fS P T E ops q (true::bs) ({dst:=d,op:=.call {callee:=.builtin .len,args:=as,argTypes:=ts},type:=ty,pos:=pos,after:=after,guard:=none}::rest) K fr H=match xC P T fr {callee:=.builtin .len,args:=as,argTypes:=ts}with|some v=>fS P T E ops q bs rest K (fr.put d v) H|none=>False:=rfl
@[simp] theorem ad4{as:Array Operand}{ts:Array TypeId}:fS P T E ops q (true::bs) ({dst:=d,op:=.call {callee:=.builtin .max,args:=as,argTypes:=ts},type:=ty,pos:=pos,after:=after,guard:=none}::rest) K fr H=match xC P T fr {callee:=.builtin .max,args:=as,argTypes:=ts}with|some v=>fS P T E ops q bs rest K (fr.put d v) H|none=>False:=rfl
@[simp] theorem abh{c a b:Operand}:fS P T E ops q (true::bs) ({dst:=d,op:=.pick c a b,type:=ty,pos:=pos,after:=after,guard:=none}::rest) K fr H=match zA P T fr {dst:=d,op:=.pick c a b,type:=ty,pos:=pos,after:=after,guard:=none}with|some v=>fS P T E ops q bs rest K (fr.put d v) H|none=>False:=rfl
@[simp] theorem aaJ{t:TypeId}{a:Array (Nat×Operand)}:fS P T E ops q (true::bs) ({dst:=d,op:=.build t a,type:=ty,pos:=pos,after:=after,guard:=none}::rest) K fr H=match E7 P t (a.toList.map λp=>(p.1,ev T fr p.2))with|some v=>fS P T E ops q bs rest K (fr.put d v) H|none=>False:=rfl
@[simp] theorem aaO{o:BinOp}{t u:TypeId}{x y:Operand}:fS P T E ops q (true::bs) ({dst:=d,op:=.binOp o t x y u,type:=ty,pos:=pos,after:=after,guard:=none}::rest) K fr H=match Pm P o t y (ev T fr x) (ev T fr y)with|some v=>fS P T E ops q bs rest K (fr.put d v) H|none=>False:=rfl
@[simp] theorem ac9{o:UnOp}{t:TypeId}{x:Operand}:fS P T E ops q (true::bs) ({dst:=d,op:=.unOp o t x,type:=ty,pos:=pos,after:=after,guard:=none}::rest) K fr H=match unA o (ev T fr x)with|some v=>fS P T E ops q bs rest K (fr.put d v) H|none=>False:=rfl
@[simp] theorem TD{t i:Nat}{x:Operand}:fS P T E ops q (true::bs) ({dst:=d,op:=.fieldAddr t x i,type:=ty,pos:=pos,after:=after,guard:=none}::rest) K fr H=match sP P t (ev T fr x) i with|some v=>fS P T E ops q bs rest K (fr.put d v) H|none=>False:=rfl
@[simp] theorem aaC{t i:Nat}{x:Operand}:fS P T E ops q (true::bs) ({dst:=d,op:=.field t x i,type:=ty,pos:=pos,after:=after,guard:=none}::rest) K fr H=match CG P t (ev T fr x) i with|some v=>fS P T E ops q bs rest K (fr.put d v) H|none=>False:=rfl
@[simp] theorem Tw{t:TypeId}{x i:Operand}:fS P T E ops q (true::bs) ({dst:=d,op:=.indexAddr t x i,type:=ty,pos:=pos,after:=after,guard:=none}::rest) K fr H=match gw P t (ev T fr x) (ev T fr i)with|some v=>fS P T E ops q bs rest K (fr.put d v) H|none=>False:=rfl
@[simp] theorem ZO{t:TypeId}{x:Operand}{lo hi a:Option Operand}:fS P T E ops q (true::bs) ({dst:=d,op:=.slice t x lo hi a,type:=ty,pos:=pos,after:=after,guard:=none}::rest) K fr H=match oP P t (ev T fr x) (lo.map (ev T fr)) (hi.map (ev T fr)) (a.map (ev T fr))with|some v=>fS P T E ops q bs rest K (fr.put d v) H|none=>False:=rfl
@[simp] theorem Xp{i:Nat}{x:Operand}:fS P T E ops q (true::bs) ({dst:=d,op:=.extract x i,type:=ty,pos:=pos,after:=after,guard:=none}::rest) K fr H=match zA P T fr {dst:=d,op:=.extract x i,type:=ty,pos:=pos,after:=after,guard:=none}with|some v=>fS P T E ops q bs rest K (fr.put d v) H|none=>False:=rfl
@[simp] theorem V1{x:Operand}:fS P T E ops q (true::bs) ({dst:=d,op:=.nilCheck x,type:=ty,pos:=pos,after:=after,guard:=none}::rest) K fr H=match zA P T fr {dst:=d,op:=.nilCheck x,type:=ty,pos:=pos,after:=after,guard:=none}with|some v=>fS P T E ops q bs rest K (fr.put d v) H|none=>False:=rfl
@[simp] theorem aaL{op:Op}{j:Nat}{want:Bool}:fS P T E ops q (true::bs) ({dst:=d,op:=op,type:=ty,pos:=pos,after:=after,guard:=some (j,want)}::rest) K fr H=match(ops[j]?).bind (·.dst)with
  |some g=>match fr.env g with
   |.sc (.bool b)=>if b=want then fS P T E ops q (true::bs) ({dst:=d,op:=op,type:=ty,pos:=pos,after:=after,guard:=none}::rest) K fr H else fS P T E ops q bs rest K (fr.put d (.tuple [])) H|.tuple _=>fS P T E ops q bs rest K (fr.put d (.tuple [])) H|_=>False
  |none=>False:=by
 simp only[fS,hS,hJ]
 cases a:(ops[j]?).bind (·.dst)with
 |none=>rfl|some g=>
  simp only;cases he:fr.env g with
  |sc v=>
   cases v with
   |bool b=>
    simp only
    by_cases hw:b=want
    ·subst hw;simp only[beq_self_eq_true,if_true];rfl
    ·rw[dI hw]
     have:(b==want)=false:=by simpa using hw
     rw[this]
   |_=>rfl
  |_=>rfl
end
end Go.kY
namespace Go.kY
open Go Go.fH
def pav(k:Nat):Option Nat->AV
 |none=>.sc (.pointer none)|some p=>.eT (k+p) 0
section
variable{P:Program} {t e:TypeId} {k:Nat} {x:Option Nat}
end
end Go.kY
namespace Go.kY
open Go Go.fH
def uQ{α:Type}(f:α->AV)(L:List α)(k:Nat):List AV:=(L.map f).flatMap AV.cells++yr k
@[irreducible] def MB(i sz:Nat):Nat:=i*sz
theorem Ha(i sz:Nat):MB i sz=i*sz:=by unfold MB;rfl
section
variable{α:Type} {f:α->AV} {L:List α} {k sz:Nat}
theorem sk(h:∀x,(f x).cells.length=sz)(L:List α):((L.map f).flatMap AV.cells).length=L.length*sz:=by
 rw[n8 (sz:=sz)]
 all_goals grind
def wZ(h:∀x,(f x).cells.length=sz):(uQ f L k).length=L.length*sz+k:=by grind[uQ,sk,yr]
theorem BB(h:∀x,(f x).cells.length=sz):(uQ f L k).take (L.length*sz)=(L.map f).flatMap AV.cells:=by grind[uQ,sk]
def Wi(h:∀x,(f x).cells.length=sz){i:Nat}{y:α}(hi:i<L.length):setCells (uQ f L k) (i*sz) (f y).cells=uQ f (L.set i y) k:=by
 unfold setCells uQ;have hlen:=sk h L
 have hle:i*sz+sz<=L.length*sz:=by
  rw[<-Se];exact J8 _ hi
 rw[h y,List.take_append_of_le_length VW,List.drop_append_of_le_length VW,<-vn]
 congr 1
 have a:L.set i y=L.take i++y::L.drop (i+1):=List.set_eq_take_append_cons_drop▸(by rw[dO hi]);rw[a,List.map_append,lF,Vu,I1]
 have hm:∀x∈L.map f,x.cells.length=sz:=by grind
 have b:i*sz+sz=(i+1)*sz:=by rw[Se]
 rw[b,<-Ei hm,<-yZ hm,List.map_take,List.map_drop,vn]
end
def Jd{α:Type}{f:α->AV}(a:∀x,(f x).cells.map AV.j9=(f x).cells)(L:List α):(L.map f).flatMap AV.cells=((L.map f).flatMap AV.cells).map AV.j9:=by
 induction L with
 |nil=>rfl|cons x L ih=>grind
def sQ.afG{P:Program}{t e sz d:Nat}{s x:AV}{K:Fr->dT->Prop}{fr:Fr}{H:dT}{α:Type}{f:α->AV}(m:List α){b:Tag}
  (c:od P t=some (e,sz)) (h:∃n,j0 P e=some n) (i:∀x,(f x).cells.length=sz) (hlen:HU m=true) (hs:s=.slice .full []) (q:x=.slice b (m.map f))
  (r:∀cap,m.length<=cap->K {fr with env:=gz fr.env d (.xb d (fr.gen d+1) m.length cap),box:=gz fr.box d (some (uQ f m ((cap-m.length)*sz))),gen:=gz fr.gen d (fr.gen d+1)} H):sQ P t s x d K fr H:=by
 subst hs;subst q
 have o:0<m.length/\m.length<=ve:=by simpa[HU] using hlen
 have j:∀l:List α,k4 sz (l.map f)=true:=λl=>by cases l with|nil=>rfl|cons a l=>simp[i]
 obtain⟨n,h⟩:=h;refine .inl (.inr ?_);unfold T9;rw[c];refine⟨j m,by rw[h];rfl,by simpa using o.1,rfl,by simpa[kb,ve] using o.2,λcap u=>?_⟩
 have k:m.length<=cap:=by simpa using u
 have:=r cap k;simp only[za,qc,EG,xH,MD];exact this
def sQ.oZ{P:Program}{t e sz d:Nat}{s x:AV}{K:Fr->dT->Prop}{fr:Fr}{H:dT}{α:Type}{f:α->AV}(L m:List α){cap:Nat}{n:Tag}
  (q:od P t=some (e,sz)) (r:∃A,j0 P e=some A) (c:∀x,(f x).cells.length=sz) (hlen:fL L m=true) (hm:0<m.length) (hs:s=.xb d (fr.gen d) L.length cap) (C:x=.slice n (m.map f))
  (D:fr.box d=some (uQ f L ((cap-L.length)*sz))) (u:L.length<=cap)
  (F:∀B b,(fT L m).length<=b->K {fr with env:=gz fr.env d (.xb d B (fT L m).length b),box:=gz fr.box d (some (uQ f (fT L m) ((b-(fT L m).length)*sz))),gen:=gz fr.gen d B} H):sQ P t s x d K fr H:=by
 subst hs;subst C;have G:L.length+m.length<=ve:=Ov hlen
 have v:∀l:List α,k4 sz (l.map f)=true:=λl=>by cases l with|nil=>rfl|cons a l=>simp[c]
 obtain⟨A,r⟩:=r;have w:=sk c L;have y:=sk c m;have i:(fT L m).length=L.length+m.length:=No L m
 have k:(L.map f).flatMap AV.cells++(m.map f).flatMap AV.cells=((fT L m).map f).flatMap AV.cells:=by simp[fT]
 refine .inl (.inr ?_);unfold T9;rw[q];refine⟨v m,by rw[r];rfl,by simpa using hm,rfl,by simpa[kb,ve] using G,?_⟩;rw[D];simp only[MD];refine⟨?_,λI=>?_,λb N O=>?_⟩
 ·rw[wZ c,Nat.sub_mul];have:=J8 sz u;omega
 ·have o:=F (fr.gen d) cap (by rw[i];exact I)
  have J:gz fr.gen d (fr.gen d)=fr.gen:=by
   funext j
   simp only[gz]
   split
   ·rename_i h;rw[h]
   ·rfl
  have M:setCells (uQ f L ((cap-L.length)*sz)) (L.length*sz) ((m.map f).flatMap AV.cells)=uQ f (fT L m) ((cap-(fT L m).length)*sz):=by
   unfold setCells;rw[BB c];unfold uQ;rw[<-k,aa8,MH VW,qc,w,y,i]
   have:L.length*sz+m.length*sz-L.length*sz=m.length*sz:=VW
   rw[this];unfold yr;rw[List.drop_replicate,<-Nat.sub_mul,Nat.sub_sub]
  rw[J,<-M,i] at o;exact o
 ·grind[uQ,AV.cells,yr,fT,BB,za]
@[simp] theorem afw{P:Program}{t:TypeId}{b g n c:Nat}:GG P t (.xb b g n c)=match P.underlying t with|some (.slice _)=>some (.sc (.int .i64 n))|some (.array n _)=>some (.sc (.int .i64 n))|_=>none:=by
 unfold GG;cases P.underlying t with
 |none=>rfl|some y=>grind
@[simp] theorem Vw{P:Program}{t:TypeId}{k:IntKind}{a:Int}{b g n c:Nat}:gw P t (.xb b g n c) (.sc (.int k a))=match P.underlying t with
  |some (.slice e)=>match fP P e with
   |some (_,sz)=>if 0<=a/\a<(n:Int)then some (.hU b g (MB a.toNat sz))else none|none=>none
  |_=>none:=by
 unfold gw;simp only[Ha];cases P.underlying t with
 |none=>rfl|some y=>cases y<;>rfl
def CX(P:Program)(t:TypeId)(b g i sz:Nat)(v:AV)(K:Fr->dT->Prop)(fr:Fr)(H:dT):Prop:=lQ P t (.hU b g (MB i sz)) v K fr H
@[simp high] theorem ZE{P:Program}{t:TypeId}{b g i sz:Nat}{v:AV}{K:Fr->dT->Prop}{fr:Fr}{H:dT}:lQ P t (.hU b g (MB i sz)) v K fr H=CX P t b g i sz v K fr H:=rfl
def CX.arr{P:Program}{t:TypeId}{b g sz k:Nat}{a:Int}{bl:Bool}{v:AV}{K:Fr->dT->Prop}{fr:Fr}{H:dT}{α:Type}{f:α->AV}{L:List α}{x:α}(y:α)(i:fP P t=some (bl,sz))(c:∀x,(f x).cells.length=sz)
  (h:fj (f y)=true) (hi:eb L a=some x) (hg:g=fr.gen b) (j:fr.box b=some (uQ f L k)) (l:v=f y) (n:K {fr with box:=gz fr.box b (some (uQ f (Fk L a y) k))} H):CX P t b g a.toNat sz v K fr H:=by
 subst l;have hi':=N9 hi;have d:=(ua.1 hi').1
 have hle:a.toNat*sz+sz<=L.length*sz:=by
  rw[<-Se];exact J8 _ d
 unfold CX;simp only[lQ,i,j];refine⟨hg,c y,by rw[Ha,wZ c];omega,h,?_⟩;rw[Ha,Wi c d];exact n
def gW.NT{α β:Type}{R:α->β->Prop}:∀{as:List α} {bs:List β} {i:Nat} {a0 a:α},gW R as bs->as[i]?=some a0->(∀b,bs[i]?=some b->R a b)->gW R (as.set i a) bs
 |_,_,_,_,_,.nil,h,_=>by simp at h
 |_,_,0,_,_,.cons d c,_,h=>.cons (h _ rfl) c|_,_,i+1,_,_,.cons d c,f,h=>.cons d (gW.NT c (by simpa using f) (λb j=>h b (by simpa using j)))
section
variable{P:Program} {T:eH} {n B0:Nat} {ρ:Maps} {F:kD} {R:Nat->ot} {fr:Fr} {H:dT} {a:Act} {w:World}
def WR.unbox(h:WR T n B0 ρ F R fr H a w){d:Nat}{cs:List AV}(y:fr.box d=some cs):∃q,q (ρ.L d (fr.gen d))=.free/\WR T n B0 ρ F q {fr with box:=gz fr.box d none} H a w:=by
 obtain⟨G,I,J,vs,ty,K,M⟩:=h.box d cs y
 let q:Nat->ot:=gz R (ρ.L d (fr.gen d)) .free
 have f:∀b,R b≠ .box d->q b=R b:=by grind[gz]
 refine⟨q,by show gz R _ _ _=_;simp[gz],⟨h.g,h.size,h.defers,h.env,h.hn,h.lg,h.ag,?_,?_,?_,?_,?_,h.qn⟩⟩
 ·intro s t i;simp only[gz] at i
  by_cases he:s=d
  ·subst he;simp at i
  ·rw[dI he] at i;obtain⟨u,r,x⟩:=h.box s t i;exact⟨u,by rw[f _ (by rw[r];simp[he])];exact r,x⟩
 ·intro k m A b c sz B;obtain⟨u,r,x⟩:=h.tok k m A b c sz B;exact⟨u,by rw[f _ (by rw[r];simp)];exact r,x⟩
 ·intro b j v C
  by_cases l:b=ρ.L d (fr.gen d)
  ·subst l;intro s;show gz R _ _ _≠_;simp[gz]
  ·have e:q b=R b:=by show gz R _ _ _=_;simp[gz,l]
   rw[e];exact h.qj b j v C
 ·intro o D;have:=h.n9 o D;rw[f _ (by rw[this];simp)];exact this
 ·intro b l;have:=h.lB b l;rw[f _ (by rw[this];simp)];exact this
def gW.RH{F:kD}{ρ:Maps}{cs:List AV}{vs:List Value}(h:gW (jJ F ρ) cs vs):gW (gH F ρ.G ρ.n) (cs.map AV.j9) vs:=h.vZ AV.j9 λ_ _ _ h=>h.j9
def WR.Kb(h:WR T n B0 ρ F R fr H a w){d len cap sz:Nat}{cs els:List AV}(D:fr.box d=some cs)(M:els.length=len)(hs:∀x∈els,x.cells.length=sz)
  (I:els.flatMap AV.cells=(cs.take (len*sz)).map AV.j9) (hle:len*sz<=cs.length) (N:len<=cap) (t:cap<=maxLen):∃F' y,w8 F F' ρ ρ/\(∀b j,b<B0->F' b j=F b j)/\WR T n B0 ρ F' y {fr with box:=gz fr.box d none} H a w/\gH F' ρ.G ρ.n (.slice .gx els) (.slice (some ⟨ρ.L d (fr.gen d),0,none⟩) len cap):=by
 obtain⟨V,O,J,vs,ty,P,A⟩:=h.box d cs D;obtain⟨y,q,hw⟩:=h.unbox D
 have hF:∀j,F (ρ.L d (fr.gen d)) j=none:=by
  intro j;cases Q:F (ρ.L d (fr.gen d)) j with
  |none=>rfl|some v=>
   exact absurd O (h.qj _ j v Q d)
 have S:vs.toList.length=cs.length:=A.length.symm
 obtain⟨r,B⟩:=hw.freeze (us:=vs.toList.take (len*sz)) (k:=(vs.toList.take (len*sz)).length) q hF P (λu hu=>jy A J u hu) (by
  intro j v _ s;rw[OS] at s
  split at s
  ·simpa using s
  ·cases s)
 refine⟨_,y,r,λb j U=>tF VW,B,?_⟩
 have f:gW (gH F ρ.G ρ.n) (els.flatMap AV.cells) (vs.toList.take (len*sz)):=by
  rw[I];exact(A.take (len*sz)).RH
 have K:=gH.slice (F:=j5 F (ρ.L d (fr.gen d)) (vs.toList.take (len*sz)).length (vs.toList.take (len*sz))) (G:=ρ.G) (n:=ρ.n) (tag:=.gx) (l:=els) (b:=ρ.L d (fr.gen d)) (o:=0)
  (base:=some ⟨ρ.L d (fr.gen d),0,none⟩) (cap:=cap) (sz:=sz) (vs:=vs.toList.take (len*sz)) (.oQ (f.mono λ_ _ _ h=>h.grow r.g)) (w9 _ _ _) (λ_=>rfl) hs (by
   intro c i;rw[I] at i
   exact x8 (λc C=>J c (CZ C)) c i) VW t (.inl rfl)
 rw[M] at K;exact K
def hQ.ahJ{α:Type}{c:Code}{Q:Exit->Fr->dT->Prop}{f:α->AV}(t:Nat){L:List α}{k sz d g cap:Nat}(l:∀x,(f x).cells.length=sz)(q:∀x,(f x).cells.map AV.j9=(f x).cells)
  (he:fr.env t=.xb d g L.length cap) (hg:g=fr.gen d) (C:fr.box d=some (uQ f L k))
  (h:hQ P T n c Q {fr with env:=gz fr.env t (.slice .gx (L.map f)),box:=gz fr.box d none} H):hQ P T n c Q fr H:=by
 intro G0 F0 n0 w0 a w hs;refine h G0 F0 n0 w0 a w ?_;obtain⟨ρ,F,R,hw,D⟩:=hs;have o:=hw.env t;rw[he] at o;obtain⟨G,I,r,s⟩:=AK o
 have u:∀x∈L.map f,x.cells.length=sz:=by grind
 obtain⟨F',J,v,y,i,K⟩:=hw.Kb (els:=L.map f) (len:=L.length) (cap:=cap) (sz:=sz) C aaF u (by rw[BB l];exact Jd q L) (by rw[wZ l];omega) r s;refine⟨ρ,F',J,⟨i.g,i.size,i.defers,?_,i.hn,i.lg,i.ag,i.box,i.tok,i.qj,i.n9,i.lB,i.qn⟩,?_⟩
 ·intro B;show gr F' ρ (gz fr.env t (.slice .gx (L.map f)) B) _;simp only[gz]
  split
  ·rename_i e;subst e;rw[G,hg];exact .p K
  ·exact(hw.env B).grow v
 ·exact D.freeze λb j A=>y b j A
def hQ.ahq{α:Type}{c:Code}{Q:Exit->Fr->dT->Prop}{f:α->AV}(d2 i:Nat){cs2:List AV}{L:List α}{k sz d g cap:Nat}(q:∀x,(f x).cells.length=sz)(t:∀x,(f x).cells.map AV.j9=(f x).cells)
  (v:d2≠d) (he:fr.box d2=some cs2) (hi:cs2[i]?=some (.xb d g L.length cap)) (hg:g=fr.gen d) (X:fr.box d=some (uQ f L k))
  (h:hQ P T n c Q {fr with box:=gz (gz fr.box d none) d2 (some (cs2.set i (.slice .gx (L.map f))))} H):hQ P T n c Q fr H:=by
 intro G0 F0 n0 w0 a w hs;refine h G0 F0 n0 w0 a w ?_;obtain⟨ρ,F,R,hw,A⟩:=hs;obtain⟨_,_,B,C,Y,Z,D⟩:=hw.box d2 cs2 he;obtain⟨u,hu,G⟩:=D.get hi;obtain⟨hv,ad,I,J⟩:=AK (.cell G)
 have K:∀x∈L.map f,x.cells.length=sz:=by
  intro x A;obtain⟨y,_,rfl⟩:=qv.1 A;exact q y
 obtain⟨F',R',ae,M,l,hp⟩:=hw.Kb (els:=L.map f) (len:=L.length) (cap:=cap) (sz:=sz) X aaF K (by rw[BB q];exact Jd t L) (by rw[wZ q];omega) I J
 have N:({fr with box:=gz fr.box d none}:Fr).box d2=some cs2:=by simp[gz,v,he]
 refine⟨ρ,F',R',⟨l.g,l.size,l.defers,l.env,l.hn,l.lg,l.ag,?_,l.tok,l.qj,l.n9,l.lB,l.qn⟩,?_⟩
 ·intro O S o;simp only[gz] at o
  by_cases r:O=d2
  ·subst r;simp only[if_true,BI] at o;subst o;obtain⟨e1,e2,e3,vs',U,e4,e5⟩:=l.box O cs2 N;refine⟨e1,e2,?_,vs',U,e4,?_⟩
   ·intro c hc;rcases List.mem_or_eq_of_mem_set hc with h'|h'
    ·exact e3 c h'
    ·rw[h'];rfl
   ·have V:vs'.toList=C.toList:=by
     grind
    refine gW.NT e5 hi ?_;intro u' s;rw[V,hu] at s;obtain rfl:=lE s;rw[hv,hg];exact .p hp
  ·simp only[dI r] at o;exact l.box O S (by simpa[gz] using o)
 ·exact A.freeze λb j W=>M b j W
end
end Go.kY
