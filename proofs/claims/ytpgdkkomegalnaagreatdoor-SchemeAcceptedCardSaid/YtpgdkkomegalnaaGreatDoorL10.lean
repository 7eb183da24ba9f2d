/- Part of the proof of SchemeAccepted: layer. -/
import Derived.Test.YtpgdkkomegalnaaGreatDoorL9
set_option linter.all false
namespace Go.kY
open Go
mutual
def AV.low(k:Nat):AV->Bool
 |.undef=>true|.sc _=>true|.kU x=>x.low k|.gX _ _ _=>true|.eK o _=>decide (o<k)|.slice _ l=>AV.ir k l|.agg l=>AV.ir k l|.tuple l=>AV.ir k l|.func _ f c=>AV.ir k f&&AV.ir k c|.iface _ x=>x.low k|.v' _ _ _ _=>true|.nH o=>decide (o<k)|.vj o _ _ _=>decide (o<k)|.Gb=>true|.tO _ xs=>AV.ir k xs|.mH o _ _=>decide (o<k)
def AV.ir(k:Nat):List AV->Bool
 |[]=>true|x::l=>x.low k&&AV.ir k l
end
def AV.vz{k:Nat}:∀{l:List AV},AV.ir k l=true↔∀x∈l,x.low k=true
 |[]=>by simp[AV.ir]|x::l=>by simp[AV.ir,AV.vz (l:=l)]
def AV.L'{k:Nat}{x:AV}(h:x.low k=true):AV.ir k x.cells=true:=by
 cases x<;>simp_all [AV.low,AV.cells,AV.ir]
def AV.ZF{k:Nat}{l:List AV}(h:AV.ir k l=true):AV.ir k (l.flatMap AV.cells)=true:=by
 rw[AV.vz] at h|-;intro x a;obtain⟨y,b,a⟩:=acv.1 a;exact AV.vz.1 (AV.L' (h y b)) x a
@[simp] theorem AV.alY{α:Type}{k:Nat}(f:α->Value)(l:List α):AV.ir k (List.map (λn=>AV.sc (f n)) l)=true:=by
 rw[AV.vz];intro x a;obtain⟨y,_,rfl⟩:=qq.1 a;rfl
section
variable{F:kD} {G:Nat->Nat} {n k:Nat}
mutual
def gG.lower:∀{x v},gG F G n x v->x.low k=true->gG F G k x v
 |_,_,.undef h,_=>.undef h|_,_,.sc h,_=>.sc h|_,_,.kU b c d,a=>.kU (b.lower (AV.L' (by simpa[AV.low] using a))) c d|_,_,.eK h,a=>.eK (by simpa[AV.low] using a)|_,_,.nH h,a=>.nH (by simpa[AV.low] using a)|_,_,.vj h c d,a=>.vj (by simpa[AV.low] using a) c d|_,_,.slice b c d f i j l o,a=>.slice (b.lower (AV.ZF (by simpa[AV.low] using a))) c d f i j l o|_,_,.Gb,_=>.Gb|_,_,.agg b c,a=>.agg (b.lower (by simpa[AV.low] using a)) c|_,_,.tuple b,a=>.tuple (b.lower (by simpa[AV.low] using a))|_,_,.func b c,a=>by
  simp only[AV.low,gE] at a;exact .func (b.lower a.1) (c.lower a.2)
 |_,_,.iface b,a=>.iface (b.lower (by simpa[AV.low] using a))
def gV.lower:∀{xs vs},gV F G n xs vs->AV.ir k xs=true->gV F G k xs vs
 |_,_,.nil,_=>.nil|_,_,.cons b c,a=>by
  simp only[AV.ir,gE] at a;exact .cons (b.lower a.1) (c.lower a.2)
end
end
def lG.lower{F:kD}{G:Nat->Nat}{n k:Nat}{cs d}(h:lG F G n cs d)(a:AV.ir k cs=true):lG F G k cs d:=by
 cases h with
 |cells f b c=>exact .cells f ((gV.oT b).lower a).rz c|map b c i j l=>exact .map b ((gV.oT c).lower (by simpa[AV.ir,AV.low] using a)).rz i j l|iter h=>exact .iter (by simpa[AV.ir,AV.low] using a)|dead=>exact .dead
def fb.drop{P:Program}{T:eA}{f:FuncId}{args:List AV}{H:dS}{Post Post':AV->dS->Prop}(h:fb P T f args H Post)
  (A:∀r H',Post r H'->∃a X,H'=a++X/\H.length<=a.length/\r.low a.length=true/\(∀cs∈a,AV.ir a.length cs=true)/\Post' r a):fb P T f args H Post':=by
 refine⟨h.1,λG F w vs hg B=>(h.2 G F w vs hg B).mono ?_⟩;rintro e w' ⟨r,H',v,G',F',n,rfl,k,C,c⟩;obtain⟨a,X,rfl,hlen,D,q,I⟩:=A r H' n
 have l:∀b o v,F b o=some v->F' b o=some v:=by
  intro b o v s
  have hb:b<w.heap.size:=by
   rcases tU b w.heap.size with hb|hb
   ·exact hb
   ·rw[hg.fresh b o hb] at s;cases s
  exact c.mF b o v hb s
 have i:∀o,o<a.length->o<(a++X).length:=λo d=>by rw[qf];omega
 refine⟨r,a,v,G',F',I,rfl,?_,C.lower D,?_⟩
 ·refine⟨k.FO,?_,λo o' d t=>k.inj o o' (i o d) (i o' t),λo j d u=>k.gF o j (i o d) (by rw[zk d];exact u),k.fresh,λg x J=>?_,k.row⟩
  ·intro o cs d;have y:o<a.length:=(sX.1 d).1;obtain⟨K,L,M⟩:=k.lQ o cs (by rw[zk y];exact d);exact⟨K,L,M.lower (q cs (H9 d))⟩
  ·exact(hg.Ct g x J).grow ⟨l,hlen,λo d=>c.hG o d⟩
 ·exact⟨c.os,c.tape,c.output,c.size,hlen,c.hG,λo n N=>c.Me o n (i o N),c.hF,c.mF,c.heap⟩
end Go.kY
namespace Go.kY
open Go
def AV.DJ{k:Nat}{x:AV}(h:AV.ir k x.cells=true):x.low k=true:=by
 cases x<;>simp_all [AV.low,AV.cells,AV.ir]
def AV.NK{k:Nat}{l:List AV}(h:AV.ir k (l.flatMap AV.cells)=true):AV.ir k l=true:=by
 rw[AV.vz] at h|-;intro x a;exact AV.DJ (AV.vz.2 λy b=>h y (acv.2 ⟨x,a,b⟩))
section
variable{F:kD} {G:Nat->Nat} {n:Nat}
mutual
def gG.vg:∀{x v},gG F G n x v->x.low n=true
 |_,_,.undef _=>rfl|_,_,.sc _=>rfl|_,_,.kU a _ _=>by simpa[AV.low] using AV.DJ a.vg|_,_,.eK h=>by grind[AV.low]|_,_,.nH h=>by simpa[AV.low] using h|_,_,.vj h _ _=>by simpa[AV.low] using h|_,_,.slice a _ _ _ _ _ _ _=>by simpa[AV.low] using AV.NK a.vg|_,_,.Gb=>rfl|_,_,.agg a _=>by simpa[AV.low] using a.vg|_,_,.tuple a=>by simpa[AV.low] using a.vg|_,_,.func a b=>by simp[AV.low,a.vg,b.vg]|_,_,.iface a=>by simpa[AV.low] using a.vg
def gV.vg:∀{xs vs},gV F G n xs vs->AV.ir n xs=true
 |_,_,.nil=>rfl|_,_,.cons a b=>by simp[AV.ir,a.vg,b.vg]
end
end
def lG.vg{F:kD}{G:Nat->Nat}{n:Nat}{cs c}(h:lG F G n cs c):AV.ir n cs=true:=by
 cases h with
 |cells d a b=>exact(gV.oT a).vg|map a b f i j=>simpa[AV.ir,AV.low] using(gV.oT b).vg|iter h=>grind[AV.ir,AV.low]|dead=>rfl
def fb.rm{P:Program}{T:eA}{f:FuncId}{args:List AV}{H:dS}{Post Post':AV->dS->Prop}(h:fb P T f args H Post)
  (d:∀r H',Post r H'->∃X,H'=H++X/\r.low H.length=true/\Post' r H):fb P T f args H Post':=by
 refine⟨h.1,λG F w vs hg i=>?_⟩
 have a:∀cs∈H,AV.ir H.length cs=true:=by
  intro cs b;obtain⟨o,j⟩:=abA.1 b;obtain⟨q,_,k⟩:=hg.lQ o cs j;exact k.vg
 exact(fb.drop (Post':=Post') h λr H' l=>by
  obtain⟨X,e,n,c⟩:=d r H' l
  exact⟨H,X,e,jy _,n,a,c⟩).2 G F w vs hg i
end Go.kY
namespace Go.kY
open Go Go.fN
mutual
def AV.IZ{k n:Nat}(h:k<=n):∀{x:AV},x.low k=true->x.low n=true
 |.undef,_=>rfl|.sc _,_=>rfl|.kU x,a=>by simpa[AV.low] using AV.IZ h (x:=x) (by simpa[AV.low] using a)|.gX _ _ _,_=>rfl|.eK o _,a=>by simp[AV.low] at a|-;omega
 |.vj o _ _ _,a=>by simp[AV.low] at a|-;omega
 |.slice _ l,a=>by simpa[AV.low] using AV.rl h (l:=l) (by simpa[AV.low] using a)|.agg l,a=>by simpa[AV.low] using AV.rl h (l:=l) (by simpa[AV.low] using a)|.tuple l,a=>by simpa[AV.low] using AV.rl h (l:=l) (by simpa[AV.low] using a)|.func _ f c,a=>by
  simp only[AV.low,gE] at a|-;exact⟨AV.rl h a.1,AV.rl h a.2⟩
 |.iface _ x,a=>by simpa[AV.low] using AV.IZ h (x:=x) (by simpa[AV.low] using a)|.v' _ _ _ _,_=>rfl|.Gb,_=>rfl|.nH o,a=>by simp[AV.low] at a|-;omega
 |.tO _ l,a=>by simpa[AV.low] using AV.rl h (l:=l) (by simpa[AV.low] using a)|.mH o _ _,a=>by simp[AV.low] at a|-;omega
def AV.rl{k n:Nat}(h:k<=n):∀{l:List AV},AV.ir k l=true->AV.ir n l=true
 |[],_=>rfl|x::l,a=>by
  simp only[AV.ir,gE] at a|-;exact⟨AV.IZ h a.1,AV.rl h a.2⟩
end
def U0{H:dS}{o:Nat}{c:List AV}(h:H[o]?=some c):o<H.length:=(sX.1 h).1
theorem L2{H:dS}{o:Nat}{c:List AV}(h:H[o]?=some c):fo H o c=H:=by
 apply Xo
 grind[fo]
def Inb(H:dS)(o:Nat):Prop:=o<H.length
def eJ{H:dS}{o:Nat}{c:List AV}(h:H[o]?=some c):Inb H o:=U0 h
def Yz{H:dS}{o:Nat}{c:List AV}(h:Inb H o):(fo H o c)[o]?=some c:=by simp[fo,show o<H.length from h]
def OJ{H:dS}{o o':Nat}{c:List AV}(h:o≠o'):(fo H o c)[o']?=H[o']?:=by grind[fo]
def Wu{H:dS}{o o':Nat}{c d e:List AV}(h:o≠o'):fo (fo (fo H o c) o' d) o e=fo (fo H o e) o' d:=by
 simp only[fo];rw[List.set_comm _ _ h.symm,List.set_set]
def Sk{A B:dS}{o:Nat}(h:Inb A o):(A++B)[o]?=A[o]?:=zk h
def QL{A B:dS}{o:Nat}{c:List AV}(h:Inb A o):fo (A++B) o c=fo A o c++B:=by simp[fo,List.set_append,show o<A.length from h]
def I7{A B:dS}{k i:Nat}(h:A.length=k):(A++B)[k+i]?=B[i]?:=by grind
def Te{A B:dS}{k:Nat}(h:A.length=k):(A++B)[k]?=B[0]?:=I7 (i:=0) h
def Gf{A B:dS}{k i:Nat}{c:List AV}(h:A.length=k):fo (A++B) (k+i) c=A++fo B i c:=by grind[fo]
def Oz{A B:dS}{k:Nat}{c:List AV}(h:A.length=k):fo (A++B) k c=A++fo B 0 c:=Gf (i:=0) h
@[simp] theorem agS(a:List AV)(l:dS)(c:List AV):fo (a::l) 0 c=c::l:=rfl
@[simp] theorem agP(a:List AV)(l:dS)(i:Nat)(c:List AV):fo (a::l) (i+1) c=a::fo l i c:=rfl
@[simp] theorem aeV(a:List AV)(l:dS)(c:List AV):fo (a::l) 1 c=a::fo l 0 c:=rfl
@[simp] theorem ad5(a:List AV)(l:dS)(c:List AV):fo (a::l) 2 c=a::fo l 1 c:=rfl
@[simp] theorem adz(a:List AV)(l:dS)(c:List AV):fo (a::l) 3 c=a::fo l 2 c:=rfl
@[simp] theorem ad2(a:List AV)(l:dS)(c:List AV):fo (a::l) 4 c=a::fo l 3 c:=rfl
@[simp] theorem adP(a:List AV)(l:dS)(c:List AV):fo (a::l) 5 c=a::fo l 4 c:=rfl
def fb.Gl{P:Program}{T:eA}{f:FuncId}{args:List AV}{H:dS}{o:Nat}{c:List AV}{Post:AV->dS->Prop}(h:H[o]?=some c)(a:fb P T f args (fo H o c) Post):fb P T f args H Post:=by grind[L2]
structure Db {S:Type} (st:S->dS) (k:Nat):Prop where
 len:∀s,(st s).length=k
 low:∀s s' cs,cs∈st s'->cs∈st s\/AV.ir k cs=true
def Db.const{S:Type}(H:dS):Db (λ_:S=>H) H.length:=⟨λ_=>rfl,λ_ _ _ h=>.inl h⟩
def Db.ext{S:Type}{st:S->dS}{k:Nat}(h:Db st k)(X:dS){n:Nat}(hn:k+X.length=n):Db (λs=>st s++X) n:=by
 subst hn;refine⟨λs=>by rw[qf,h.len],λs a cs hc=>?_⟩;rcases tp.1 hc with hc|hc
 ·rcases h.low s a cs hc with h1|h1
  ·grind
  ·exact .inr (AV.rl xL h1)
 ·grind
def Db.Xt{S:Type}(H:dS)(f:S->dS)(n:Nat)(hn:∀s,(f s).length=n)(b:∀s a cs,cs∈f a->cs∈f s\/AV.ir (H.length+n) cs=true):Db (λs=>H++f s) (H.length+n):=by
 refine⟨λs=>by rw[qf,hn],λs a cs c=>?_⟩
 grind
def fb.aj9{P:Program}{T:eA}{f:FuncId}{args:List AV}{H:dS}{Post Post':AV->dS->Prop}(h:fb P T f args H Post)
  (k:∀r H',Post r H'->∃a X,H'=a++X/\a.length=H.length/\r.low H.length=true/\(∀cs∈a,cs∈H\/AV.ir H.length cs=true)/\Post' r a):fb P T f args H Post':=by
 refine⟨h.1,λG F w vs hg d=>?_⟩
 have c:∀cs∈H,AV.ir H.length cs=true:=by
  intro cs b;obtain⟨o,i⟩:=abA.1 b;obtain⟨l,_,j⟩:=hg.lQ o cs i;exact j.vg
 refine(fb.drop (Post':=Post') h λr H' n=>?_).2 G F w vs hg d
 grind
def fb.aeH{P:Program}{T:eA}{f:FuncId}{args:List AV}{S:Type}{st:S->dS}{k:Nat}(hF:Db st k){s:S}{Post Post':AV->dS->Prop}(h:fb P T f args (st s) Post)
  (c:∀r H',Post r H'->∃a X,H'=st a++X/\r.low k=true/\Post' r (st a)):fb P T f args (st s) Post':=
 fb.aj9 h λr H' d=>by
  obtain⟨a,X,e,i,b⟩:=c r H' d;exact⟨st a,X,e,by rw[hF.len,hF.len],by rw[hF.len];exact i,λcs j=>by rw[hF.len];exact hF.low s a cs j,b⟩
@[simp] theorem alp(H:List (List AV))(o:Nat)(c:List AV):List.set H o c=fo H o c:=rfl
attribute [simp] Yz OJ Wu Sk QL I7 Te Gf Oz
end Go.kY
namespace Go.kY
open Go Go.fN
def fA(P:Program)(T:eA)(E:List Nat)(opsA:Array Oper)(q:Qt):List Bool->List Oper->(Fr->dS->Prop)->Fr->dS->Prop
 |_,[],K,fr,H=>K fr H|[],o::rest,K,fr,H=>hO P T E opsA q true o (λfr H=>fA P T E opsA q [] rest K fr H) fr H|b::bs,o::rest,K,fr,H=>hO P T E opsA q b o (λfr H=>fA P T E opsA q bs rest K fr H) fr H
def KG{E:List Nat}{ops:Array Oper}{q:Qt}{P:Program}{T:eA}{K:Fr->dS->Prop}(a:List Bool):∀(l:List Oper) (k:Nat) (fr:Fr) (H:dS),l=ops.toList.drop k->fA P T E ops q (a.drop k) l K fr H->IP P T E ops q (λi=>a.getD i true) (List.range' k l.length) K fr H:=by
 intro l
 induction l with
 |nil=>
  intro k fr H _ h;cases c:a.drop k<;>rw[c] at h<;>exact h
 |cons o l ih=>
  intro k fr H b h
  have d:k<ops.toList.length:=by
   rcases tU k ops.toList.length with h'|h'
   ·exact h'
   ·rw[Ku h'] at b;cases b
  have f:=M5 d;rw[f] at b;injection b with s j
  have hi:ops[k]?=some o:=by grind
  simp only[oZ,adw,IP,hi]
  have n:a.getD k true=(a.drop k).headD true:=by
   simp only[List.getD,List.headD_eq_head?_getD,List.head?_drop]
  have r:a.drop (k+1)=(a.drop k).tail:=by rw[List.tail_drop]
  rw[n];refine C9 (K:=λfr H=>fA P T E ops q (a.drop (k+1)) l K fr H) (λfr H h=>ih (k+1) fr H j h) ?_;rw[r];cases c:a.drop k<;>rw[c] at h<;>exact h
def gd.acP{P:Program}{T:eA}{n:Nat}{Q:Exit->Fr->dS->Prop}{fr:Fr}{H:dS}{id:Nat}{ops:Array Oper}(E:List Nat)(q:Qt)(b:List Bool)(hm:P.follows .mixedOrders=true)(a:xZ n ops=true)(c:xM E ops (λi=>b.getD i true)=true)
  (h:fA P T E ops q b ops.toList (Q .normal) fr H):gd P T n (.region id ops true) Q fr H:=by
 refine gd.Pw E q (λi=>b.getD i true) hm a c ?_;have:=KG (P:=P) (T:=T) (E:=E) (ops:=ops) (q:=q) (K:=Q .normal) b ops.toList 0 fr H (by grind);rw[Zc]
 grind
def gM(P:Program)(T:eA)(E:List Nat)(ops:Array Oper)(q:Qt)(bs:List Bool)(a:AV)(as:List AV)(d:Option Nat)(rest:List Oper)(K:Fr->dS->Prop)(fr:Fr)(H:dS):Prop:=
 if d.any E.contains then Ye P T q true a as d (fA P T E ops q bs rest K) fr H else∃r H',nu P T a as H r H'/\(QK q H H')/\fA P T E ops q bs rest K (fr.put d r) H'
def yR(P:Program)(T:eA)(E:List Nat)(ops:Array Oper)(q:Qt)(bs:List Bool)(a:AV)(as:List AV)(d:Option Nat)(rest:List Oper)(K:Fr->dS->Prop)(fr:Fr)(H:dS):Prop:=
 if d.any E.contains then Ye P T q false a as d (fA P T E ops q bs rest K) fr H else∃r H',nu P T a as H r H'/\fA P T E ops q bs rest K (fr.put d r) H'
section
variable{P:Program} {T:eA} {E:List Nat} {ops:Array Oper} {q:Qt} {bs:List Bool} {rest:List Oper} {K:Fr->dS->Prop} {fr:Fr} {H H':dS} {d:Option Nat} {ty:TypeId} {pos:String} {after:Array Edge}
def gM.val{a:AV}{as:List AV}{r:AV}(h:nu P T a as H r H')(b:QK q H H')(c:fA P T E ops q bs rest K (fr.put d r) H'):gM P T E ops q bs a as d rest K fr H:=by grind[gM,MU]
def yR.val{a:AV}{as:List AV}{r:AV}(h:nu P T a as H r H')(b:fA P T E ops q bs rest K (fr.put d r) H'):yR P T E ops q bs a as d rest K fr H:=by grind[yR,MU]
def gM.fn{g:FuncId}{as:List AV}{r:AV}(h:et P T g as H r H')(a:QK q H H')(b:fA P T E ops q bs rest K (fr.put d r) H'):gM P T E ops q bs (.func (.func g) [] []) as d rest K fr H:=by
 refine gM.val ?_ a b;unfold nu nK;simp only[Bq];exact h
def gM.FL{g:FuncId}{b c as a:List AV}{r:AV}(f:b++as++c=a)(h:et P T g a H r H')(i:QK q H H')(j:fA P T E ops q bs rest K (fr.put d r) H'):gM P T E ops q bs (.func (.func g) b c) as d rest K fr H:=by
 subst f;exact gM.val h i j
def yR.fn{g:FuncId}{as:List AV}{r:AV}(h:et P T g as H r H')(a:fA P T E ops q bs rest K (fr.put d r) H'):yR P T E ops q bs (.func (.func g) [] []) as d rest K fr H:=by
 refine yR.val ?_ a;unfold nu nK;simp only[Bq];exact h
@[simp] theorem ah6(bs:List Bool):fA P T E ops q bs [] K fr H=K fr H:=by cases bs<;>rfl
@[simp] theorem adU{t:TypeId}{x:Operand}:fA P T E ops q (false::bs) ({dst:=d,op:=.load t x,type:=ty,pos:=pos,after:=after,guard:=none}::rest) K fr H=if qI ops.toList x (ev T fr x)then(match ud P fr H t (ev T fr x)with|some v=>fA P T E ops q bs rest K (fr.put d v) H|none=>False)else False:=by
 simp only[fA,hO,hU,qs,ki,nT,yU,qU,lU,hE,nG,Bool.not_false,Bool.true_or,KV]
 split
 ·rename_i v a
  split at a
  ·rename_i b;rw[dO b,a]
  ·cases a
 ·rename_i a
  split at a
  ·rename_i b;rw[dO b,a]
  ·rename_i b;rw[dI b]
@[simp] theorem abz{t:TypeId}{x y:Operand}:fA P T E ops q (false::bs) ({dst:=none,op:=.store t x y,type:=ty,pos:=pos,after:=after,guard:=none}::rest) K fr H=(U5 E q x (ev T fr x)/\qI ops.toList x (ev T fr x)=true/\lZ P t (ev T fr x) (ev T fr y) (fA P T E ops q bs rest K) fr H):=by
 simp only[fA,hO,hU,qs,ki,nT,yU,qU,lU,hE,zX,qU,false_implies,if_true,EI]
@[simp] theorem ahH{x:Operand}:fA P T E ops q (true::bs) ({dst:=d,op:=.move x,type:=ty,pos:=pos,after:=after,guard:=none}::rest) K fr H=fA P T E ops q bs rest K (fr.put d (ev T fr x)) H:=rfl
@[simp] theorem acX{x:Operand}:fA P T E ops q (true::bs) ({dst:=d,op:=.assign x,type:=ty,pos:=pos,after:=after,guard:=none}::rest) K fr H=fA P T E ops q bs rest K (fr.put d (ev T fr x)) H:=rfl
@[simp] theorem ae7{t:TypeId}:fA P T E ops q (true::bs) ({dst:=d,op:=.alloc t,type:=ty,pos:=pos,after:=after,guard:=none}::rest) K fr H=match gl P t with|some z=>d.any E.contains=false/\kM E d z (fA P T E ops q bs rest K) fr H|none=>False:=by
 simp only[fA,hO,hU,qs,ki,nT,yU,qU,lU,hE,agQ];rfl
@[simp] theorem ahY{t:TypeId}{x:Operand}:fA P T E ops q (true::bs) ({dst:=d,op:=.load t x,type:=ty,pos:=pos,after:=after,guard:=none}::rest) K fr H=if qI ops.toList x (ev T fr x)&&q.ok (ev T fr x)then(match ud P fr H t (ev T fr x)with|some v=>fA P T E ops q bs rest K (fr.put d v) H|none=>False)else False:=by
 simp only[fA,hO,hU,qs,ki,nT,yU,qU,lU,hE,nG,aht,X']
 split
 ·rename_i v a
  split at a
  ·rename_i b;rw[dO b,a]
  ·cases a
 ·rename_i a
  split at a
  ·rename_i b;rw[dO b,a]
  ·rename_i b;rw[dI b]
@[simp] theorem aeJ{t:TypeId}{x y:Operand}:fA P T E ops q (true::bs) ({dst:=none,op:=.store t x y,type:=ty,pos:=pos,after:=after,guard:=none}::rest) K fr H=(U5 E q x (ev T fr x)/\qI ops.toList x (ev T fr x)=true/\isL (ev T fr x)=true/\lZ P t (ev T fr x) (ev T fr y) (fA P T E ops q bs rest K) fr H):=by
 simp only[fA,hO,hU,qs,ki,nT,yU,qU,lU,hE,agQ,zX,if_true,EI]
@[simp] theorem Vu{t n:Nat}{c:Array (Nat×Operand)}:fA P T E ops q (true::bs) ({dst:=d,op:=.buildSlice t n c,type:=ty,pos:=pos,after:=after,guard:=none}::rest) K fr H=if d.any E.contains then False else match na P t n (c.toList.map λp=>(p.1,ev T fr p.2))with|some v=>fA P T E ops q bs rest K (fr.put d v) H|none=>False:=by
 simp only[fA,hO,hU,qs,ki,nT,yU,qU,lU,hE,nG]
 split
 ·rename_i v a
  split at a
  ·cases a
  ·rename_i b;rw[dI b,a]
 ·rename_i a
  split at a
  ·rename_i b;rw[dO b]
  ·rename_i b;rw[dI b,a]
@[simp] theorem adg{t:TypeId}{x i:Operand}{ok:Bool}:fA P T E ops q (true::bs) ({dst:=d,op:=.lookup t x i ok,type:=ty,pos:=pos,after:=after,guard:=none}::rest) K fr H=if q.all then(match uC P H t (ev T fr x) (ev T fr i) ok with|some v=>fA P T E ops q bs rest K (fr.put d v) H|none=>False)else False:=by
 simp only[fA,hO,hU,qs,ki,nT,yU,qU,lU,hE,nG,aht,X']
 split
 ·rename_i v a
  split at a
  ·rename_i b;rw[dO b,a]
  ·cases a
 ·rename_i a
  split at a
  ·rename_i b;rw[dO b,a]
  ·rename_i b;rw[dI b]
@[simp] theorem abN{x y:Operand}{t d:Nat}:fA P T E ops q (true::bs) ({dst:=some d,op:=.call {callee:=.builtin .append,args:=#[x,y],argTypes:=#[t,t]},type:=ty,pos:=pos,after:=after,guard:=none}::rest) K fr H=if E.contains d then acS P t (ev T fr x) (ev T fr y) d (fA P T E ops q bs rest K) fr H else BY P t (ev T fr x) (ev T fr y) d (fA P T E ops q bs rest K) fr H:=by
 simp only[fA,hO,hU,qs,ki,nT,yU,qU,lU,hE,afV]
 split
 ·rename_i a;first|exact Cd|(simp only[a,↓reduceIte];exact Cd)
 ·rename_i a;first|exact CU|(simp only[a,↓reduceIte];exact CU)
@[simp] theorem agD{f:Operand}{as:Array Operand}{ts:Array TypeId}:fA P T E ops q (true::bs) ({dst:=d,op:=.call {callee:=.value f,args:=as,argTypes:=ts},type:=ty,pos:=pos,after:=after,guard:=none}::rest) K fr H=gM P T E ops q bs (ev T fr f) (as.toList.map λx=>(ev T fr x).norm) d rest K fr H:=by
 simp only[fA,hO,hU,qs,ki,nT,yU,qU,lU,hE,agQ,gM]
@[simp] theorem aik{as:Array Operand}{ts:Array TypeId}:fA P T E ops q (true::bs) ({dst:=d,op:=.call {callee:=.builtin .len,args:=as,argTypes:=ts},type:=ty,pos:=pos,after:=after,guard:=none}::rest) K fr H=match uf P T fr {callee:=.builtin .len,args:=as,argTypes:=ts}with|some v=>fA P T E ops q bs rest K (fr.put d v) H|none=>False:=rfl
@[simp] theorem aiz{as:Array Operand}{ts:Array TypeId}:fA P T E ops q (true::bs) ({dst:=d,op:=.call {callee:=.builtin .max,args:=as,argTypes:=ts},type:=ty,pos:=pos,after:=after,guard:=none}::rest) K fr H=match uf P T fr {callee:=.builtin .max,args:=as,argTypes:=ts}with|some v=>fA P T E ops q bs rest K (fr.put d v) H|none=>False:=rfl
@[simp] theorem aib{as:Array Operand}{ts:Array TypeId}:fA P T E ops q (true::bs) ({dst:=d,op:=.call {callee:=.builtin .min,args:=as,argTypes:=ts},type:=ty,pos:=pos,after:=after,guard:=none}::rest) K fr H=match uf P T fr {callee:=.builtin .min,args:=as,argTypes:=ts}with|some v=>fA P T E ops q bs rest K (fr.put d v) H|none=>False:=rfl
@[simp] theorem af6{c a b:Operand}:fA P T E ops q (true::bs) ({dst:=d,op:=.pick c a b,type:=ty,pos:=pos,after:=after,guard:=none}::rest) K fr H=match xw P T fr {dst:=d,op:=.pick c a b,type:=ty,pos:=pos,after:=after,guard:=none}with|some v=>fA P T E ops q bs rest K (fr.put d v) H|none=>False:=rfl
@[simp] theorem aeU{t:TypeId}{a:Array (Nat×Operand)}:fA P T E ops q (true::bs) ({dst:=d,op:=.build t a,type:=ty,pos:=pos,after:=after,guard:=none}::rest) K fr H=match EY P t (a.toList.map λp=>(p.1,ev T fr p.2))with|some v=>fA P T E ops q bs rest K (fr.put d v) H|none=>False:=rfl
@[simp] theorem aeG{o:BinOp}{t u:TypeId}{x y:Operand}:fA P T E ops q (true::bs) ({dst:=d,op:=.binOp o t x y u,type:=ty,pos:=pos,after:=after,guard:=none}::rest) K fr H=match GU P o t y (ev T fr x) (ev T fr y)with|some v=>fA P T E ops q bs rest K (fr.put d v) H|none=>False:=rfl
@[simp] theorem agN{o:UnOp}{t:TypeId}{x:Operand}:fA P T E ops q (true::bs) ({dst:=d,op:=.unOp o t x,type:=ty,pos:=pos,after:=after,guard:=none}::rest) K fr H=match unA o (ev T fr x)with|some v=>fA P T E ops q bs rest K (fr.put d v) H|none=>False:=rfl
@[simp] theorem aaY{s t:TypeId}{x:Operand}:fA P T E ops q (true::bs) ({dst:=d,op:=.convert s t x,type:=ty,pos:=pos,after:=after,guard:=none}::rest) K fr H=match Qj P s t (ev T fr x)with|some v=>fA P T E ops q bs rest K (fr.put d v) H|none=>False:=rfl
@[simp] theorem Zs{fn:Fn}{f c:Array Operand}:fA P T E ops q (true::bs) ({dst:=d,op:=.makeFunc fn f c,type:=ty,pos:=pos,after:=after,guard:=none}::rest) K fr H=fA P T E ops q bs rest K (fr.put d (.func fn (f.toList.map λx=>(ev T fr x).norm) (c.toList.map λx=>(ev T fr x).norm))) H:=rfl
@[simp] theorem Xd{t i:Nat}{x:Operand}:fA P T E ops q (true::bs) ({dst:=d,op:=.fieldAddr t x i,type:=ty,pos:=pos,after:=after,guard:=none}::rest) K fr H=match sO P t (ev T fr x) i with|some v=>fA P T E ops q bs rest K (fr.put d v) H|none=>False:=rfl
@[simp] theorem aeY{t i:Nat}{x:Operand}:fA P T E ops q (true::bs) ({dst:=d,op:=.field t x i,type:=ty,pos:=pos,after:=after,guard:=none}::rest) K fr H=match zP P t (ev T fr x) i with|some v=>fA P T E ops q bs rest K (fr.put d v) H|none=>False:=rfl
@[simp] theorem WO{t:TypeId}{x i:Operand}:fA P T E ops q (true::bs) ({dst:=d,op:=.indexAddr t x i,type:=ty,pos:=pos,after:=after,guard:=none}::rest) K fr H=match gy P t (ev T fr x) (ev T fr i)with|some v=>fA P T E ops q bs rest K (fr.put d v) H|none=>False:=rfl
@[simp] theorem aeX{t:TypeId}{x i:Operand}:fA P T E ops q (true::bs) ({dst:=d,op:=.index t x i,type:=ty,pos:=pos,after:=after,guard:=none}::rest) K fr H=match Jg P t (ev T fr x) (ev T fr i)with|some v=>fA P T E ops q bs rest K (fr.put d v) H|none=>False:=rfl
@[simp] theorem aeM{t:TypeId}{x:Operand}{lo hi a:Option Operand}:fA P T E ops q (true::bs) ({dst:=d,op:=.slice t x lo hi a,type:=ty,pos:=pos,after:=after,guard:=none}::rest) K fr H=match oN P t (ev T fr x) (lo.map (ev T fr)) (hi.map (ev T fr)) (a.map (ev T fr))with|some v=>fA P T E ops q bs rest K (fr.put d v) H|none=>False:=rfl
@[simp] theorem aaZ{i:Nat}{x:Operand}:fA P T E ops q (true::bs) ({dst:=d,op:=.extract x i,type:=ty,pos:=pos,after:=after,guard:=none}::rest) K fr H=match xw P T fr {dst:=d,op:=.extract x i,type:=ty,pos:=pos,after:=after,guard:=none}with|some v=>fA P T E ops q bs rest K (fr.put d v) H|none=>False:=rfl
@[simp] theorem Z2{x:Operand}:fA P T E ops q (true::bs) ({dst:=d,op:=.nilCheck x,type:=ty,pos:=pos,after:=after,guard:=none}::rest) K fr H=match xw P T fr {dst:=d,op:=.nilCheck x,type:=ty,pos:=pos,after:=after,guard:=none}with|some v=>fA P T E ops q bs rest K (fr.put d v) H|none=>False:=rfl
@[simp] theorem Ro{t:TypeId}{x:Operand}:fA P T E ops q (true::bs) ({dst:=d,op:=.makeInterface t x,type:=ty,pos:=pos,after:=after,guard:=none}::rest) K fr H=match xw P T fr {dst:=d,op:=.makeInterface t x,type:=ty,pos:=pos,after:=after,guard:=none}with|some v=>fA P T E ops q bs rest K (fr.put d v) H|none=>False:=rfl
@[simp] theorem aeW{op:Op}{j:Nat}{want:Bool}:fA P T E ops q (true::bs) ({dst:=d,op:=op,type:=ty,pos:=pos,after:=after,guard:=some (j,want)}::rest) K fr H=match(ops[j]?).bind (·.dst)with
  |some g=>match fr.env g with
   |.sc (.bool b)=>if b=want then fA P T E ops q (true::bs) ({dst:=d,op:=op,type:=ty,pos:=pos,after:=after,guard:=none}::rest) K fr H else fA P T E ops q bs rest K (fr.put d (.tuple [])) H|.tuple _=>fA P T E ops q bs rest K (fr.put d (.tuple [])) H|_=>False
  |none=>False:=by
 simp only[fA,hO,hU]
 cases a:(ops[j]?).bind (·.dst)with
 |none=>rfl|some g=>
  simp only;cases he:fr.env g with
  |sc v=>
   cases v with
   |bool b=>
    simp only
    by_cases hw:b=want
    ·subst hw;simp only[beq_self_eq_true,if_true];rfl
    ·rw[dI hw]
     have:(b==want)=false:=by simpa using hw
     rw[this]
   |_=>rfl
  |_=>rfl
end
end Go.kY
namespace Go.kY
open Go Go.fN
def o3(k:Nat):Option Nat->AV
 |none=>.sc (.pointer none)|some p=>.eK (k+p) 0
def FN{C:Type}(c:Nat->C->List AV)(k:Nat)(l:List C):dS:=l.map (c k)
def pG{C:Type}{c:Nat->C->List AV}{k:Nat}{l:List C}{p:Nat}{x:C}{cs:List AV}(h:cs=c k x):fo (FN c k l) p cs=FN c k (l.set p x):=by
 subst h;simp only[fo,FN,List.map_set]
def Wt{C:Type}{c:Nat->C->List AV}{k:Nat}{l:List C}{x:C}{cs:List AV}(h:cs=c k x):FN c k l++[cs]=FN c k (l++[x]):=by
 subst h;simp[FN]
def wQ{C:Type}{l:List C}{p:Nat}{x y:C}(h:l[p]?=some y):(l.set p x)[p]?=some x:=by
 have:p<l.length:=(sX.1 h).1;simp[this]
def acs{C:Type}{l:List C}{x:C}:(l++[x])[l.length]?=some x:=LA
section
variable{P:Program} {t e:TypeId} {k:Nat} {x:Option Nat}
end
end Go.kY
namespace Go.kY
open Go Go.fN
def ux{α:Type}(f:α->AV)(L:List α)(k:Nat):List AV:=(L.map f).flatMap AV.cells++xA k
@[irreducible] def Pu(i sz:Nat):Nat:=i*sz
theorem Hb(i sz:Nat):Pu i sz=i*sz:=by unfold Pu;rfl
section
variable{α:Type} {f:α->AV} {L:List α} {k sz:Nat}
theorem rU(h:∀x,(f x).cells.length=sz)(L:List α):((L.map f).flatMap AV.cells).length=L.length*sz:=by
 rw[oc (sz:=sz)]
 all_goals grind
def wm(h:∀x,(f x).cells.length=sz):(ux f L k).length=L.length*sz+k:=by grind[ux,rU,xA]
theorem A1(h:∀x,(f x).cells.length=sz):(ux f L k).take (L.length*sz)=(L.map f).flatMap AV.cells:=by grind[ux,rU]
def Yt(h:∀x,(f x).cells.length=sz){i:Nat}{y:α}(hi:i<L.length):setCells (ux f L k) (i*sz) (f y).cells=ux f (L.set i y) k:=by
 unfold setCells ux;have hlen:=rU h L
 have hle:i*sz+sz<=L.length*sz:=by
  rw[<-Vm];exact J9 _ hi
 rw[h y,List.take_append_of_le_length xL,List.drop_append_of_le_length xL,<-vY]
 congr 1
 have a:L.set i y=L.take i++y::L.drop (i+1):=List.set_eq_take_append_cons_drop▸(by rw[dO hi]);rw[a,List.map_append,lN,Ze,Ju]
 have hm:∀x∈L.map f,x.cells.length=sz:=by grind
 have b:i*sz+sz=(i+1)*sz:=by rw[Vm]
 rw[b,<-DQ hm,<-yN hm,List.map_take,List.map_drop,vY]
end
def Jn{α:Type}{f:α->AV}(a:∀x,(f x).cells.map AV.iV=(f x).cells)(L:List α):(L.map f).flatMap AV.cells=((L.map f).flatMap AV.cells).map AV.iV:=by
 induction L with
 |nil=>rfl|cons x L ih=>grind
def rC.afw{P:Program}{t e sz d:Nat}{s x:AV}{K:Fr->dS->Prop}{fr:Fr}{H:dS}{α:Type}{f:α->AV}(m:List α){b:Tag}
  (c:n7 P t=some (e,sz)) (h:∃n,gl P e=some n) (i:∀x,(f x).cells.length=sz) (hlen:FK m=true) (hs:s=.slice .full []) (q:x=.slice b (m.map f))
  (r:∀cap,m.length<=cap->K {fr with env:=gA fr.env d (.v' d (fr.gen d+1) m.length cap),box:=gA fr.box d (some (ux f m ((cap-m.length)*sz))),gen:=gA fr.gen d (fr.gen d+1)} H):rC P t s x d K fr H:=by
 subst hs;subst q
 have o:0<m.length/\m.length<=uO:=by simpa[FK] using hlen
 have j:∀l:List α,kR sz (l.map f)=true:=λl=>by cases l with|nil=>rfl|cons a l=>simp[i]
 obtain⟨n,h⟩:=h;refine .inl (.inr ?_);unfold Xv;rw[c];refine⟨j m,by rw[h];rfl,by simpa using o.1,rfl,by simpa[j0,uO] using o.2,λcap u=>?_⟩
 have k:m.length<=cap:=by simpa using u
 have:=r cap k;simp only[yg,p5,DD,xR,Qc];exact this
def rC.o0{P:Program}{t e sz d:Nat}{s x:AV}{K:Fr->dS->Prop}{fr:Fr}{H:dS}{α:Type}{f:α->AV}(L m:List α){cap:Nat}{n:Tag}
  (q:n7 P t=some (e,sz)) (r:∃A,gl P e=some A) (c:∀x,(f x).cells.length=sz) (hlen:fK L m=true) (hm:0<m.length) (hs:s=.v' d (fr.gen d) L.length cap) (C:x=.slice n (m.map f))
  (D:fr.box d=some (ux f L ((cap-L.length)*sz))) (u:L.length<=cap)
  (F:∀B b,(fT L m).length<=b->K {fr with env:=gA fr.env d (.v' d B (fT L m).length b),box:=gA fr.box d (some (ux f (fT L m) ((b-(fT L m).length)*sz))),gen:=gA fr.gen d B} H):rC P t s x d K fr H:=by
 subst hs;subst C;have G:L.length+m.length<=uO:=Ph hlen
 have v:∀l:List α,kR sz (l.map f)=true:=λl=>by cases l with|nil=>rfl|cons a l=>simp[c]
 obtain⟨A,r⟩:=r;have w:=rU c L;have y:=rU c m;have i:(fT L m).length=L.length+m.length:=OS L m
 have k:(L.map f).flatMap AV.cells++(m.map f).flatMap AV.cells=((fT L m).map f).flatMap AV.cells:=by simp[fT]
 refine .inl (.inr ?_);unfold Xv;rw[q];refine⟨v m,by rw[r];rfl,by simpa using hm,rfl,by simpa[j0,uO] using G,?_⟩;rw[D];simp only[Qc];refine⟨?_,λI=>?_,λb N O=>?_⟩
 ·rw[wm c,Nat.sub_mul];have:=J9 sz u;omega
 ·have o:=F (fr.gen d) cap (by rw[i];exact I)
  have J:gA fr.gen d (fr.gen d)=fr.gen:=by
   funext j
   simp only[gA]
   split
   ·rename_i h;rw[h]
   ·rfl
  have M:setCells (ux f L ((cap-L.length)*sz)) (L.length*sz) ((m.map f).flatMap AV.cells)=ux f (fT L m) ((cap-(fT L m).length)*sz):=by
   unfold setCells;rw[A1 c];unfold ux;rw[<-k,afq,Ku xL,p5,w,y,i]
   have:L.length*sz+m.length*sz-L.length*sz=m.length*sz:=xL
   rw[this];unfold xA;rw[List.drop_replicate,<-Nat.sub_mul,Nat.sub_sub]
  rw[J,<-M,i] at o;exact o
 ·grind[ux,AV.cells,xA,fT,A1,yg]
@[simp] theorem ajJ{P:Program}{t:TypeId}{b g n c:Nat}:Gz P t (.v' b g n c)=match P.underlying t with|some (.slice _)=>some (.sc (.int .i64 n))|some (.array n _)=>some (.sc (.int .i64 n))|_=>none:=by
 unfold Gz;cases P.underlying t with
 |none=>rfl|some y=>grind
@[simp] theorem YZ{P:Program}{t:TypeId}{k:IntKind}{a:Int}{b g n c:Nat}:gy P t (.v' b g n c) (.sc (.int k a))=match P.underlying t with
  |some (.slice e)=>match fu P e with
   |some (_,sz)=>if 0<=a/\a<(n:Int)then some (.gX b g (Pu a.toNat sz))else none|none=>none
  |_=>none:=by
 unfold gy;simp only[Hb];cases P.underlying t with
 |none=>rfl|some y=>cases y<;>rfl
def AE(P:Program)(t:TypeId)(b g i sz:Nat)(v:AV)(K:Fr->dS->Prop)(fr:Fr)(H:dS):Prop:=lZ P t (.gX b g (Pu i sz)) v K fr H
@[simp high] theorem adG{P:Program}{t:TypeId}{b g i sz:Nat}{v:AV}{K:Fr->dS->Prop}{fr:Fr}{H:dS}:lZ P t (.gX b g (Pu i sz)) v K fr H=AE P t b g i sz v K fr H:=rfl
def AE.arr{P:Program}{t:TypeId}{b g sz k:Nat}{a:Int}{bl:Bool}{v:AV}{K:Fr->dS->Prop}{fr:Fr}{H:dS}{α:Type}{f:α->AV}{L:List α}{x:α}(y:α)(i:fu P t=some (bl,sz))(c:∀x,(f x).cells.length=sz)
  (h:eU (f y)=true) (hi:dX L a=some x) (hg:g=fr.gen b) (j:fr.box b=some (ux f L k)) (l:v=f y) (n:K {fr with box:=gA fr.box b (some (ux f (CN L a y) k))} H):AE P t b g a.toNat sz v K fr H:=by
 subst l;have hi':=QA hi;have d:=(sX.1 hi').1
 have hle:a.toNat*sz+sz<=L.length*sz:=by
  rw[<-Vm];exact J9 _ d
 unfold AE;simp only[lZ,i,j];refine⟨hg,c y,by rw[Hb,wm c];omega,h,?_⟩;rw[Hb,Yt c d];exact n
def gY.Qd{α β:Type}{R:α->β->Prop}:∀{as:List α} {bs:List β} {i:Nat} {a0 a:α},gY R as bs->as[i]?=some a0->(∀b,bs[i]?=some b->R a b)->gY R (as.set i a) bs
 |_,_,_,_,_,.nil,h,_=>by simp at h
 |_,_,0,_,_,.cons d c,_,h=>.cons (h _ rfl) c|_,_,i+1,_,_,.cons d c,f,h=>.cons d (gY.Qd c (by simpa using f) (λb j=>h b (by simpa using j)))
section
variable{P:Program} {T:eA} {n B0:Nat} {ρ:Maps} {F:kD} {R:Nat->ou} {fr:Fr} {H:dS} {a:Act} {w:World}
def WR.unbox(h:WR T n B0 ρ F R fr H a w){d:Nat}{cs:List AV}(y:fr.box d=some cs):∃q,q (ρ.L d (fr.gen d))=.free/\WR T n B0 ρ F q {fr with box:=gA fr.box d none} H a w:=by
 obtain⟨G,I,J,vs,ty,K,M⟩:=h.box d cs y
 let q:Nat->ou:=gA R (ρ.L d (fr.gen d)) .free
 have f:∀b,R b≠ .box d->q b=R b:=by grind[gA]
 refine⟨q,by show gA R _ _ _=_;simp[gA],⟨h.g,h.size,h.defers,h.env,h.hn,h.lg,h.ag,?_,?_,?_,?_,?_,h.qe⟩⟩
 ·intro s t i;simp only[gA] at i
  by_cases he:s=d
  ·subst he;simp at i
  ·rw[dI he] at i;obtain⟨u,r,x⟩:=h.box s t i;exact⟨u,by rw[f _ (by rw[r];simp[he])];exact r,x⟩
 ·intro k m A b c sz B;obtain⟨u,r,x⟩:=h.tok k m A b c sz B;exact⟨u,by rw[f _ (by rw[r];simp)];exact r,x⟩
 ·intro b j v C
  by_cases l:b=ρ.L d (fr.gen d)
  ·subst l;intro s;show gA R _ _ _≠_;simp[gA]
  ·have e:q b=R b:=by show gA R _ _ _=_;simp[gA,l]
   rw[e];exact h.qc b j v C
 ·intro o D;have:=h.oa o D;rw[f _ (by rw[this];simp)];exact this
 ·intro b l;have:=h.lK b l;rw[f _ (by rw[this];simp)];exact this
def gY.UX{F:kD}{ρ:Maps}{cs:List AV}{vs:List Value}(h:gY (jM F ρ) cs vs):gY (gG F ρ.G ρ.n) (cs.map AV.iV) vs:=h.vS AV.iV λ_ _ _ h=>h.iV
def WR.LJ(h:WR T n B0 ρ F R fr H a w){d len cap sz:Nat}{cs els:List AV}(D:fr.box d=some cs)(M:els.length=len)(hs:∀x∈els,x.cells.length=sz)
  (I:els.flatMap AV.cells=(cs.take (len*sz)).map AV.iV) (hle:len*sz<=cs.length) (N:len<=cap) (t:cap<=maxLen):∃F' y,wN F F' ρ ρ/\(∀b j,b<B0->F' b j=F b j)/\WR T n B0 ρ F' y {fr with box:=gA fr.box d none} H a w/\gG F' ρ.G ρ.n (.slice .gx els) (.slice (some ⟨ρ.L d (fr.gen d),0,none⟩) len cap):=by
 obtain⟨V,O,J,vs,ty,P,A⟩:=h.box d cs D;obtain⟨y,q,hw⟩:=h.unbox D
 have hF:∀j,F (ρ.L d (fr.gen d)) j=none:=by
  intro j;cases Q:F (ρ.L d (fr.gen d)) j with
  |none=>rfl|some v=>
   exact absurd O (h.qc _ j v Q d)
 have S:vs.toList.length=cs.length:=A.length.symm
 obtain⟨r,B⟩:=hw.freeze (us:=vs.toList.take (len*sz)) (k:=(vs.toList.take (len*sz)).length) q hF P (λu hu=>jv A J u hu) (by
  intro j v _ s;rw[RQ] at s
  split at s
  ·simpa using s
  ·cases s)
 refine⟨_,y,r,λb j U=>s0 xL,B,?_⟩
 have f:gY (gG F ρ.G ρ.n) (els.flatMap AV.cells) (vs.toList.take (len*sz)):=by
  rw[I];exact(A.take (len*sz)).UX
 have K:=gG.slice (F:=kb F (ρ.L d (fr.gen d)) (vs.toList.take (len*sz)).length (vs.toList.take (len*sz))) (G:=ρ.G) (n:=ρ.n) (tag:=.gx) (l:=els) (b:=ρ.L d (fr.gen d)) (o:=0)
  (base:=some ⟨ρ.L d (fr.gen d),0,none⟩) (cap:=cap) (sz:=sz) (vs:=vs.toList.take (len*sz)) (.oT (f.mono λ_ _ _ h=>h.grow r.g)) (wu _ _ _) (λ_=>rfl) hs (by
   intro c i;rw[I] at i
   exact xz (λc C=>J c (C8 C)) c i) xL t (.inl rfl)
 rw[M] at K;exact K
def gd.ajM{α:Type}{c:Code}{Q:Exit->Fr->dS->Prop}{f:α->AV}(t:Nat){L:List α}{k sz d g cap:Nat}(l:∀x,(f x).cells.length=sz)(q:∀x,(f x).cells.map AV.iV=(f x).cells)
  (he:fr.env t=.v' d g L.length cap) (hg:g=fr.gen d) (C:fr.box d=some (ux f L k))
  (h:gd P T n c Q {fr with env:=gA fr.env t (.slice .gx (L.map f)),box:=gA fr.box d none} H):gd P T n c Q fr H:=by
 intro G0 F0 n0 w0 a w hs;refine h G0 F0 n0 w0 a w ?_;obtain⟨ρ,F,R,hw,D⟩:=hs;have o:=hw.env t;rw[he] at o;obtain⟨G,I,r,s⟩:=Am o
 have u:∀x∈L.map f,x.cells.length=sz:=by grind
 obtain⟨F',J,v,y,i,K⟩:=hw.LJ (els:=L.map f) (len:=L.length) (cap:=cap) (sz:=sz) C LA u (by rw[A1 l];exact Jn q L) (by rw[wm l];omega) r s;refine⟨ρ,F',J,⟨i.g,i.size,i.defers,?_,i.hn,i.lg,i.ag,i.box,i.tok,i.qc,i.oa,i.lK,i.qe⟩,?_⟩
 ·intro B;show gw F' ρ (gA fr.env t (.slice .gx (L.map f)) B) _;simp only[gA]
  split
  ·rename_i e;subst e;rw[G,hg];exact .p K
  ·exact(hw.env B).grow v
 ·exact D.freeze λb j A=>y b j A
def gd.ama{α:Type}{c:Code}{Q:Exit->Fr->dS->Prop}{f:α->AV}(d2 i:Nat){cs2:List AV}{L:List α}{k sz d g cap:Nat}(q:∀x,(f x).cells.length=sz)(t:∀x,(f x).cells.map AV.iV=(f x).cells)
  (v:d2≠d) (he:fr.box d2=some cs2) (hi:cs2[i]?=some (.v' d g L.length cap)) (hg:g=fr.gen d) (X:fr.box d=some (ux f L k))
  (h:gd P T n c Q {fr with box:=gA (gA fr.box d none) d2 (some (cs2.set i (.slice .gx (L.map f))))} H):gd P T n c Q fr H:=by
 intro G0 F0 n0 w0 a w hs;refine h G0 F0 n0 w0 a w ?_;obtain⟨ρ,F,R,hw,A⟩:=hs;obtain⟨_,_,B,C,Y,Z,D⟩:=hw.box d2 cs2 he;obtain⟨u,hu,G⟩:=D.get hi;obtain⟨hv,ad,I,J⟩:=Am (.cell G)
 have K:∀x∈L.map f,x.cells.length=sz:=by
  intro x A;obtain⟨y,_,rfl⟩:=qq.1 A;exact q y
 obtain⟨F',R',ae,M,l,hp⟩:=hw.LJ (els:=L.map f) (len:=L.length) (cap:=cap) (sz:=sz) X LA K (by rw[A1 q];exact Jn t L) (by rw[wm q];omega) I J
 have N:({fr with box:=gA fr.box d none}:Fr).box d2=some cs2:=by simp[gA,v,he]
 refine⟨ρ,F',R',⟨l.g,l.size,l.defers,l.env,l.hn,l.lg,l.ag,?_,l.tok,l.qc,l.oa,l.lK,l.qe⟩,?_⟩
 ·intro O S o;simp only[gA] at o
  by_cases r:O=d2
  ·subst r;simp only[if_true,wc] at o;subst o;obtain⟨e1,e2,e3,vs',U,e4,e5⟩:=l.box O cs2 N;refine⟨e1,e2,?_,vs',U,e4,?_⟩
   ·intro c hc;rcases List.mem_or_eq_of_mem_set hc with h'|h'
    ·exact e3 c h'
    ·rw[h'];rfl
   ·have V:vs'.toList=C.toList:=by
     grind
    refine gY.Qd e5 hi ?_;intro u' s;rw[V,hu] at s;obtain rfl:=iq s;rw[hv,hg];exact .p hp
  ·simp only[dI r] at o;exact l.box O S (by simpa[gA] using o)
 ·exact A.freeze λb j W=>M b j W
end
end Go.kY
