/- Part of the proof of SchemeLists: layer. -/
import Derived.Test.YtpgdkkomegalnaaGreatDoorLL9
set_option linter.all false
namespace Go.kY
open Go
mutual
def AV.low(k:Nat):AV->Bool
 |.undef=>true|.sc _=>true|.mj x=>x.low k|.h9 _ _ _=>true|.fb o _=>decide (o<k)|.slice _ l=>AV.iE k l|.agg l=>AV.iE k l|.tuple l=>AV.iE k l|.func _ f c=>AV.iE k f&&AV.iE k c|.iface _ x=>x.low k|.xO _ _ _ _=>true|.nx o=>decide (o<k)|.zF o _ _ _=>decide (o<k)|.M9=>true|.uH _ xs=>AV.iE k xs|.mw o _ _=>decide (o<k)
def AV.iE(k:Nat):List AV->Bool
 |[]=>true|x::l=>x.low k&&AV.iE k l
end
def AV.wm{k:Nat}:∀{l:List AV},AV.iE k l=true↔∀x∈l,x.low k=true
 |[]=>by simp[AV.iE]|x::l=>by simp[AV.iE,AV.wm (l:=l)]
def AV.Lx{k:Nat}{x:AV}(h:x.low k=true):AV.iE k x.cells=true:=by
 cases x<;>simp_all [AV.low,AV.cells,AV.iE]
def AV.U7{k:Nat}{l:List AV}(h:AV.iE k l=true):AV.iE k (l.flatMap AV.cells)=true:=by
 rw[AV.wm] at h|-;intro x a;obtain⟨y,b,a⟩:=aaZ.1 a;exact AV.wm.1 (AV.Lx (h y b)) x a
@[simp] theorem AV.aiL{α:Type}{k:Nat}(f:α->Value)(l:List α):AV.iE k (List.map (λn=>AV.sc (f n)) l)=true:=by
 rw[AV.wm];intro x a;obtain⟨y,_,rfl⟩:=qp.1 a;rfl
section
variable{F:kM} {G:Nat->Nat} {n k:Nat}
mutual
def gQ.lower:∀{x v},gQ F G n x v->x.low k=true->gQ F G k x v
 |_,_,.undef h,_=>.undef h|_,_,.sc h,_=>.sc h|_,_,.mj b c d,a=>.mj (b.lower (AV.Lx (by simpa[AV.low] using a))) c d|_,_,.fb h,a=>.fb (by simpa[AV.low] using a)|_,_,.nx h,a=>.nx (by simpa[AV.low] using a)|_,_,.zF h c d,a=>.zF (by simpa[AV.low] using a) c d|_,_,.slice b c d f i j l o,a=>.slice (b.lower (AV.U7 (by simpa[AV.low] using a))) c d f i j l o|_,_,.M9,_=>.M9|_,_,.agg b c,a=>.agg (b.lower (by simpa[AV.low] using a)) c|_,_,.tuple b,a=>.tuple (b.lower (by simpa[AV.low] using a))|_,_,.func b c,a=>by
  simp only[AV.low,hD] at a;exact .func (b.lower a.1) (c.lower a.2)
 |_,_,.iface b,a=>.iface (b.lower (by simpa[AV.low] using a))
def hO.lower:∀{xs vs},hO F G n xs vs->AV.iE k xs=true->hO F G k xs vs
 |_,_,.nil,_=>.nil|_,_,.cons b c,a=>by
  simp only[AV.iE,hD] at a;exact .cons (b.lower a.1) (c.lower a.2)
end
end
def lB.lower{F:kM}{G:Nat->Nat}{n k:Nat}{cs d}(h:lB F G n cs d)(a:AV.iE k cs=true):lB F G k cs d:=by
 cases h with
 |cells f b c=>exact .cells f ((hO.oU b).lower a).qw c|map b c i j l=>exact .map b ((hO.oU c).lower (by simpa[AV.iE,AV.low] using a)).qw i j l|iter h=>exact .iter (by simpa[AV.iE,AV.low] using a)|dead=>exact .dead
def fC.drop{P:Program}{T:eN}{f:FuncId}{args:List AV}{H:dY}{Post Post':AV->dY->Prop}(h:fC P T f args H Post)
  (A:∀r H',Post r H'->∃a X,H'=a++X/\H.length<=a.length/\r.low a.length=true/\(∀cs∈a,AV.iE a.length cs=true)/\Post' r a):fC P T f args H Post':=by
 refine⟨h.1,λG F w vs hg B=>(h.2 G F w vs hg B).mono ?_⟩;rintro e w' ⟨r,H',v,G',F',n,rfl,k,C,c⟩;obtain⟨a,X,rfl,hlen,D,q,I⟩:=A r H' n
 have l:∀b o v,F b o=some v->F' b o=some v:=by
  intro b o v s
  have hb:b<w.heap.size:=by
   rcases vh b w.heap.size with hb|hb
   ·exact hb
   ·rw[hg.fresh b o hb] at s;cases s
  exact c.mF b o v hb s
 have i:∀o,o<a.length->o<(a++X).length:=λo d=>by rw[ni];omega
 refine⟨r,a,v,G',F',I,rfl,?_,C.lower D,?_⟩
 ·refine⟨k.GK,?_,λo o' d t=>k.inj o o' (i o d) (i o' t),λo j d u=>k.gF o j (i o d) (by rw[vE d];exact u),k.fresh,λg x J=>?_,k.row⟩
  ·intro o cs d;have y:o<a.length:=(sY.1 d).1;obtain⟨K,L,M⟩:=k.lK o cs (by rw[vE y];exact d);exact⟨K,L,M.lower (q cs (Hb d))⟩
  ·exact(hg.Dn g x J).grow ⟨l,hlen,λo d=>c.hG o d⟩
 ·exact⟨c.os,c.tape,c.output,c.size,hlen,c.hG,λo n N=>c.LV o n (i o N),c.hF,c.mF,c.heap⟩
end Go.kY
namespace Go.kY
open Go
def AV.E8{k:Nat}{x:AV}(h:AV.iE k x.cells=true):x.low k=true:=by
 cases x<;>simp_all [AV.low,AV.cells,AV.iE]
def AV.My{k:Nat}{l:List AV}(h:AV.iE k (l.flatMap AV.cells)=true):AV.iE k l=true:=by
 rw[AV.wm] at h|-;intro x a;exact AV.E8 (AV.wm.2 λy b=>h y (aaZ.2 ⟨x,a,b⟩))
section
variable{F:kM} {G:Nat->Nat} {n:Nat}
mutual
def gQ.wT:∀{x v},gQ F G n x v->x.low n=true
 |_,_,.undef _=>rfl|_,_,.sc _=>rfl|_,_,.mj a _ _=>by simpa[AV.low] using AV.E8 a.wT|_,_,.fb h=>by grind[AV.low]|_,_,.nx h=>by simpa[AV.low] using h|_,_,.zF h _ _=>by simpa[AV.low] using h|_,_,.slice a _ _ _ _ _ _ _=>by simpa[AV.low] using AV.My a.wT|_,_,.M9=>rfl|_,_,.agg a _=>by simpa[AV.low] using a.wT|_,_,.tuple a=>by simpa[AV.low] using a.wT|_,_,.func a b=>by simp[AV.low,a.wT,b.wT]|_,_,.iface a=>by simpa[AV.low] using a.wT
def hO.wT:∀{xs vs},hO F G n xs vs->AV.iE n xs=true
 |_,_,.nil=>rfl|_,_,.cons a b=>by simp[AV.iE,a.wT,b.wT]
end
end
def lB.wT{F:kM}{G:Nat->Nat}{n:Nat}{cs c}(h:lB F G n cs c):AV.iE n cs=true:=by
 cases h with
 |cells d a b=>exact(hO.oU a).wT|map a b f i j=>simpa[AV.iE,AV.low] using(hO.oU b).wT|iter h=>grind[AV.iE,AV.low]|dead=>rfl
def fC.vt{P:Program}{T:eN}{f:FuncId}{args:List AV}{H:dY}{Post Post':AV->dY->Prop}(h:fC P T f args H Post)
  (d:∀r H',Post r H'->∃X,H'=H++X/\r.low H.length=true/\Post' r H):fC P T f args H Post':=by
 refine⟨h.1,λG F w vs hg i=>?_⟩
 have a:∀cs∈H,AV.iE H.length cs=true:=by
  intro cs b;obtain⟨o,j⟩:=aa3.1 b;obtain⟨q,_,k⟩:=hg.lK o cs j;exact k.wT
 exact(fC.drop (Post':=Post') h λr H' l=>by
  obtain⟨X,e,n,c⟩:=d r H' l
  exact⟨H,X,e,gY _,n,a,c⟩).2 G F w vs hg i
end Go.kY
namespace Go.kY
open Go Go.fD
mutual
def AV.IT{k n:Nat}(h:k<=n):∀{x:AV},x.low k=true->x.low n=true
 |.undef,_=>rfl|.sc _,_=>rfl|.mj x,a=>by simpa[AV.low] using AV.IT h (x:=x) (by simpa[AV.low] using a)|.h9 _ _ _,_=>rfl|.fb o _,a=>by simp[AV.low] at a|-;omega
 |.zF o _ _ _,a=>by simp[AV.low] at a|-;omega
 |.slice _ l,a=>by simpa[AV.low] using AV.rM h (l:=l) (by simpa[AV.low] using a)|.agg l,a=>by simpa[AV.low] using AV.rM h (l:=l) (by simpa[AV.low] using a)|.tuple l,a=>by simpa[AV.low] using AV.rM h (l:=l) (by simpa[AV.low] using a)|.func _ f c,a=>by
  simp only[AV.low,hD] at a|-;exact⟨AV.rM h a.1,AV.rM h a.2⟩
 |.iface _ x,a=>by simpa[AV.low] using AV.IT h (x:=x) (by simpa[AV.low] using a)|.xO _ _ _ _,_=>rfl|.M9,_=>rfl|.nx o,a=>by simp[AV.low] at a|-;omega
 |.uH _ l,a=>by simpa[AV.low] using AV.rM h (l:=l) (by simpa[AV.low] using a)|.mw o _ _,a=>by simp[AV.low] at a|-;omega
def AV.rM{k n:Nat}(h:k<=n):∀{l:List AV},AV.iE k l=true->AV.iE n l=true
 |[],_=>rfl|x::l,a=>by
  simp only[AV.iE,hD] at a|-;exact⟨AV.IT h a.1,AV.rM h a.2⟩
end
def TT{H:dY}{o:Nat}{c:List AV}(h:H[o]?=some c):o<H.length:=(sY.1 h).1
theorem LN{H:dY}{o:Nat}{c:List AV}(h:H[o]?=some c):gk H o c=H:=by
 apply XM
 grind[gk]
def Inb(H:dY)(o:Nat):Prop:=o<H.length
def eU{H:dY}{o:Nat}{c:List AV}(h:H[o]?=some c):Inb H o:=TT h
def VC{H:dY}{o:Nat}{c:List AV}(h:Inb H o):(gk H o c)[o]?=some c:=by simp[gk,show o<H.length from h]
def Py{H:dY}{o o':Nat}{c:List AV}(h:o≠o'):(gk H o c)[o']?=H[o']?:=by grind[gk]
def T2{H:dY}{o o':Nat}{c d e:List AV}(h:o≠o'):gk (gk (gk H o c) o' d) o e=gk (gk H o e) o' d:=by
 simp only[gk];rw[List.set_comm _ _ h.symm,List.set_set]
def RD{A B:dY}{o:Nat}(h:Inb A o):(A++B)[o]?=A[o]?:=vE h
def ND{A B:dY}{o:Nat}{c:List AV}(h:Inb A o):gk (A++B) o c=gk A o c++B:=by simp[gk,List.set_append,show o<A.length from h]
def I9{A B:dY}{k i:Nat}(h:A.length=k):(A++B)[k+i]?=B[i]?:=by grind
def QR{A B:dY}{k:Nat}(h:A.length=k):(A++B)[k]?=B[0]?:=I9 (i:=0) h
def GU{A B:dY}{k i:Nat}{c:List AV}(h:A.length=k):gk (A++B) (k+i) c=A++gk B i c:=by grind[gk]
def OY{A B:dY}{k:Nat}{c:List AV}(h:A.length=k):gk (A++B) k c=A++gk B 0 c:=GU (i:=0) h
@[simp] theorem aez(a:List AV)(l:dY)(c:List AV):gk (a::l) 0 c=c::l:=rfl
@[simp] theorem aek(a:List AV)(l:dY)(i:Nat)(c:List AV):gk (a::l) (i+1) c=a::gk l i c:=rfl
def fC.Lo{P:Program}{T:eN}{f:FuncId}{args:List AV}{H:dY}{o:Nat}{c:List AV}{Post:AV->dY->Prop}(h:H[o]?=some c)(a:fC P T f args (gk H o c) Post):fC P T f args H Post:=by grind[LN]
structure Fz {S:Type} (st:S->dY) (k:Nat):Prop where
 len:∀s,(st s).length=k
 low:∀s s' cs,cs∈st s'->cs∈st s\/AV.iE k cs=true
def Fz.const{S:Type}(H:dY):Fz (λ_:S=>H) H.length:=⟨λ_=>rfl,λ_ _ _ h=>.inl h⟩
def Fz.ext{S:Type}{st:S->dY}{k:Nat}(h:Fz st k)(X:dY){n:Nat}(hn:k+X.length=n):Fz (λs=>st s++X) n:=by
 subst hn;refine⟨λs=>by rw[ni,h.len],λs a cs hc=>?_⟩;rcases sU.1 hc with hc|hc
 ·rcases h.low s a cs hc with h1|h1
  ·grind
  ·exact .inr (AV.rM VW h1)
 ·grind
def Fz.adD{S:Type}(H:dY)(f:S->dY)(n:Nat)(hn:∀s,(f s).length=n)(b:∀s a cs,cs∈f a->cs∈f s\/AV.iE (H.length+n) cs=true):Fz (λs=>H++f s) (H.length+n):=by
 refine⟨λs=>by rw[ni,hn],λs a cs c=>?_⟩
 grind
def fC.ahv{P:Program}{T:eN}{f:FuncId}{args:List AV}{H:dY}{Post Post':AV->dY->Prop}(h:fC P T f args H Post)
  (k:∀r H',Post r H'->∃a X,H'=a++X/\a.length=H.length/\r.low H.length=true/\(∀cs∈a,cs∈H\/AV.iE H.length cs=true)/\Post' r a):fC P T f args H Post':=by
 refine⟨h.1,λG F w vs hg d=>?_⟩
 have c:∀cs∈H,AV.iE H.length cs=true:=by
  intro cs b;obtain⟨o,i⟩:=aa3.1 b;obtain⟨l,_,j⟩:=hg.lK o cs i;exact j.wT
 refine(fC.drop (Post':=Post') h λr H' n=>?_).2 G F w vs hg d
 grind
def fC.aci{P:Program}{T:eN}{f:FuncId}{args:List AV}{S:Type}{st:S->dY}{k:Nat}(hF:Fz st k){s:S}{Post Post':AV->dY->Prop}(h:fC P T f args (st s) Post)
  (c:∀r H',Post r H'->∃a X,H'=st a++X/\r.low k=true/\Post' r (st a)):fC P T f args (st s) Post':=
 fC.ahv h λr H' d=>by
  obtain⟨a,X,e,i,b⟩:=c r H' d;exact⟨st a,X,e,by rw[hF.len,hF.len],by rw[hF.len];exact i,λcs j=>by rw[hF.len];exact hF.low s a cs j,b⟩
@[simp] theorem ag1(H:List (List AV))(o:Nat)(c:List AV):List.set H o c=gk H o c:=rfl
attribute [simp] VC Py T2 RD ND I9 QR GU OY
end Go.kY
namespace Go.kY
open Go Go.fD
def gh(P:Program)(T:eN)(E:List Nat)(opsA:Array Oper)(q:Qt):List Bool->List Oper->(Fr->dY->Prop)->Fr->dY->Prop
 |_,[],K,fr,H=>K fr H|[],o::rest,K,fr,H=>h8 P T E opsA q true o (λfr H=>gh P T E opsA q [] rest K fr H) fr H|b::bs,o::rest,K,fr,H=>h8 P T E opsA q b o (λfr H=>gh P T E opsA q bs rest K fr H) fr H
def Ky{E:List Nat}{ops:Array Oper}{q:Qt}{P:Program}{T:eN}{K:Fr->dY->Prop}(a:List Bool):∀(l:List Oper) (k:Nat) (fr:Fr) (H:dY),l=ops.toList.drop k->gh P T E ops q (a.drop k) l K fr H->M4 P T E ops q (λi=>a.getD i true) (List.range' k l.length) K fr H:=by
 intro l
 induction l with
 |nil=>
  intro k fr H _ h;cases c:a.drop k<;>rw[c] at h<;>exact h
 |cons o l ih=>
  intro k fr H b h
  have d:k<ops.toList.length:=by
   rcases vh k ops.toList.length with h'|h'
   ·exact h'
   ·rw[Oj h'] at b;cases b
  have f:=Kd d;rw[f] at b;injection b with s j
  have hi:ops[k]?=some o:=by grind
  simp only[mz,adW,M4,hi]
  have n:a.getD k true=(a.drop k).headD true:=by
   simp only[List.getD,List.headD_eq_head?_getD,List.head?_drop]
  have r:a.drop (k+1)=(a.drop k).tail:=by rw[List.tail_drop]
  rw[n];refine IW (K:=λfr H=>gh P T E ops q (a.drop (k+1)) l K fr H) (λfr H h=>ih (k+1) fr H j h) ?_;rw[r];cases c:a.drop k<;>rw[c] at h<;>exact h
def hZ.Zt{P:Program}{T:eN}{n:Nat}{Q:Exit->Fr->dY->Prop}{fr:Fr}{H:dY}{id:Nat}{ops:Array Oper}(E:List Nat)(q:Qt)(b:List Bool)(hm:P.follows .mixedOrders=true)(a:A4 n ops=true)(c:AU E ops (λi=>b.getD i true)=true)
  (h:gh P T E ops q b ops.toList (Q .normal) fr H):hZ P T n (.region id ops true) Q fr H:=by
 refine hZ.V5 E q (λi=>b.getD i true) hm a c ?_;have:=Ky (P:=P) (T:=T) (E:=E) (ops:=ops) (q:=q) (K:=Q .normal) b ops.toList 0 fr H (by grind);rw[aaJ]
 grind
def gS(P:Program)(T:eN)(E:List Nat)(ops:Array Oper)(q:Qt)(bs:List Bool)(a:AV)(as:List AV)(d:Option Nat)(rest:List Oper)(K:Fr->dY->Prop)(fr:Fr)(H:dY):Prop:=
 if d.any E.contains then aej P T q true a as d (gh P T E ops q bs rest K) fr H else∃r H',uE P T a as H r H'/\(QK q H H')/\gh P T E ops q bs rest K (fr.put d r) H'
section
variable{P:Program} {T:eN} {E:List Nat} {ops:Array Oper} {q:Qt} {bs:List Bool} {rest:List Oper} {K:Fr->dY->Prop} {fr:Fr} {H H':dY} {d:Option Nat} {ty:TypeId} {pos:String} {after:Array Edge}
def gS.val{a:AV}{as:List AV}{r:AV}(h:uE P T a as H r H')(b:QK q H H')(c:gh P T E ops q bs rest K (fr.put d r) H'):gS P T E ops q bs a as d rest K fr H:=by grind[gS,Z2]
def gS.fn{g:FuncId}{as:List AV}{r:AV}(h:eO P T g as H r H')(a:QK q H H')(b:gh P T E ops q bs rest K (fr.put d r) H'):gS P T E ops q bs (.func (.func g) [] []) as d rest K fr H:=by
 refine gS.val ?_ a b;unfold uE oZ;simp only[Ac];exact h
def gS.G3{g:FuncId}{b c as a:List AV}{r:AV}(f:b++as++c=a)(h:eO P T g a H r H')(i:QK q H H')(j:gh P T E ops q bs rest K (fr.put d r) H'):gS P T E ops q bs (.func (.func g) b c) as d rest K fr H:=by
 subst f;exact gS.val h i j
@[simp] theorem afH(bs:List Bool):gh P T E ops q bs [] K fr H=K fr H:=by cases bs<;>rfl
@[simp] theorem abW{t:TypeId}{x:Operand}:gh P T E ops q (false::bs) ({dst:=d,op:=.load t x,type:=ty,pos:=pos,after:=after,guard:=none}::rest) K fr H=if qW ops.toList x (ev T fr x)then(match vq P fr H t (ev T fr x)with|some v=>gh P T E ops q bs rest K (fr.put d v) H|none=>False)else False:=by
 simp only[gh,h8,hW,qP,kf,nM,zG,oz,iU,hU,nw,Bool.not_false,aen,abh]
 split
 ·rename_i v a
  split at a
  ·rename_i b;rw[dR b,a]
  ·cases a
 ·rename_i a
  split at a
  ·rename_i b;rw[dR b,a]
  ·rename_i b;rw[dK b]
@[simp] theorem Y4{t:TypeId}{x y:Operand}:gh P T E ops q (false::bs) ({dst:=none,op:=.store t x y,type:=ty,pos:=pos,after:=after,guard:=none}::rest) K fr H=(TW E q x (ev T fr x)/\qW ops.toList x (ev T fr x)=true/\lP P t (ev T fr x) (ev T fr y) (gh P T E ops q bs rest K) fr H):=by
 simp only[gh,h8,hW,qP,kf,nM,zG,oz,iU,hU,AK,oz,false_implies,if_true,Gj]
@[simp] theorem aeF{x:Operand}:gh P T E ops q (true::bs) ({dst:=d,op:=.move x,type:=ty,pos:=pos,after:=after,guard:=none}::rest) K fr H=gh P T E ops q bs rest K (fr.put d (ev T fr x)) H:=rfl
@[simp] theorem abo{x:Operand}:gh P T E ops q (true::bs) ({dst:=d,op:=.assign x,type:=ty,pos:=pos,after:=after,guard:=none}::rest) K fr H=gh P T E ops q bs rest K (fr.put d (ev T fr x)) H:=rfl
@[simp] theorem abS{t:TypeId}:gh P T E ops q (true::bs) ({dst:=d,op:=.alloc t,type:=ty,pos:=pos,after:=after,guard:=none}::rest) K fr H=match j6 P t with|some z=>d.any E.contains=false/\kW E d z (gh P T E ops q bs rest K) fr H|none=>False:=by
 simp only[gh,h8,hW,qP,kf,nM,zG,oz,iU,hU,aeE];rfl
@[simp] theorem adQ{t:TypeId}{x:Operand}:gh P T E ops q (true::bs) ({dst:=d,op:=.load t x,type:=ty,pos:=pos,after:=after,guard:=none}::rest) K fr H=if qW ops.toList x (ev T fr x)&&q.ok (ev T fr x)then(match vq P fr H t (ev T fr x)with|some v=>gh P T E ops q bs rest K (fr.put d v) H|none=>False)else False:=by
 simp only[gh,h8,hW,qP,kf,nM,zG,oz,iU,hU,nw,adt,Vb]
 split
 ·rename_i v a
  split at a
  ·rename_i b;rw[dR b,a]
  ·cases a
 ·rename_i a
  split at a
  ·rename_i b;rw[dR b,a]
  ·rename_i b;rw[dK b]
@[simp] theorem abU{t:TypeId}{x y:Operand}:gh P T E ops q (true::bs) ({dst:=none,op:=.store t x y,type:=ty,pos:=pos,after:=after,guard:=none}::rest) K fr H=(TW E q x (ev T fr x)/\qW ops.toList x (ev T fr x)=true/\isL (ev T fr x)=true/\lP P t (ev T fr x) (ev T fr y) (gh P T E ops q bs rest K) fr H):=by
 simp only[gh,h8,hW,qP,kf,nM,zG,oz,iU,hU,aeE,AK,if_true,Gj]
@[simp] theorem Tx{t n:Nat}{c:Array (Nat×Operand)}:gh P T E ops q (true::bs) ({dst:=d,op:=.buildSlice t n c,type:=ty,pos:=pos,after:=after,guard:=none}::rest) K fr H=if d.any E.contains then False else match m4 P t n (c.toList.map λp=>(p.1,ev T fr p.2))with|some v=>gh P T E ops q bs rest K (fr.put d v) H|none=>False:=by
 simp only[gh,h8,hW,qP,kf,nM,zG,oz,iU,hU,nw]
 split
 ·rename_i v a
  split at a
  ·cases a
  ·rename_i b;rw[dK b,a]
 ·rename_i a
  split at a
  ·rename_i b;rw[dR b]
  ·rename_i b;rw[dK b,a]
@[simp] theorem Y5{t:TypeId}{x i:Operand}{ok:Bool}:gh P T E ops q (true::bs) ({dst:=d,op:=.lookup t x i ok,type:=ty,pos:=pos,after:=after,guard:=none}::rest) K fr H=if q.all then(match vD P H t (ev T fr x) (ev T fr i) ok with|some v=>gh P T E ops q bs rest K (fr.put d v) H|none=>False)else False:=by
 simp only[gh,h8,hW,qP,kf,nM,zG,oz,iU,hU,nw,adt,Vb]
 split
 ·rename_i v a
  split at a
  ·rename_i b;rw[dR b,a]
  ·cases a
 ·rename_i a
  split at a
  ·rename_i b;rw[dR b,a]
  ·rename_i b;rw[dK b]
@[simp] theorem ZR{x y:Operand}{t d:Nat}:gh P T E ops q (true::bs) ({dst:=some d,op:=.call {callee:=.builtin .append,args:=#[x,y],argTypes:=#[t,t]},type:=ty,pos:=pos,after:=after,guard:=none}::rest) K fr H=if E.contains d then aaH P t (ev T fr x) (ev T fr y) d (gh P T E ops q bs rest K) fr H else CE P t (ev T fr x) (ev T fr y) d (gh P T E ops q bs rest K) fr H:=by
 simp only[gh,h8,hW,qP,kf,nM,zG,oz,iU,hU,aeT]
 split
 ·rename_i a;first|exact DF|(simp only[a,↓reduceIte];exact DF)
 ·rename_i a;first|exact C8|(simp only[a,↓reduceIte];exact C8)
@[simp] theorem ae8{f:Operand}{as:Array Operand}{ts:Array TypeId}:gh P T E ops q (true::bs) ({dst:=d,op:=.call {callee:=.value f,args:=as,argTypes:=ts},type:=ty,pos:=pos,after:=after,guard:=none}::rest) K fr H=gS P T E ops q bs (ev T fr f) (as.toList.map λx=>(ev T fr x).norm) d rest K fr H:=by
 simp only[gh,h8,hW,qP,kf,nM,zG,oz,iU,hU,aeE,gS]
@[simp] theorem afL{as:Array Operand}{ts:Array TypeId}:gh P T E ops q (true::bs) ({dst:=d,op:=.call {callee:=.builtin .len,args:=as,argTypes:=ts},type:=ty,pos:=pos,after:=after,guard:=none}::rest) K fr H=match ym P T fr {callee:=.builtin .len,args:=as,argTypes:=ts}with|some v=>gh P T E ops q bs rest K (fr.put d v) H|none=>False:=rfl
@[simp] theorem afB{as:Array Operand}{ts:Array TypeId}:gh P T E ops q (true::bs) ({dst:=d,op:=.call {callee:=.builtin .max,args:=as,argTypes:=ts},type:=ty,pos:=pos,after:=after,guard:=none}::rest) K fr H=match ym P T fr {callee:=.builtin .max,args:=as,argTypes:=ts}with|some v=>gh P T E ops q bs rest K (fr.put d v) H|none=>False:=rfl
@[simp] theorem afa{c a b:Operand}:gh P T E ops q (true::bs) ({dst:=d,op:=.pick c a b,type:=ty,pos:=pos,after:=after,guard:=none}::rest) K fr H=match Ab P T fr {dst:=d,op:=.pick c a b,type:=ty,pos:=pos,after:=after,guard:=none}with|some v=>gh P T E ops q bs rest K (fr.put d v) H|none=>False:=rfl
@[simp] theorem abx{t:TypeId}{a:Array (Nat×Operand)}:gh P T E ops q (true::bs) ({dst:=d,op:=.build t a,type:=ty,pos:=pos,after:=after,guard:=none}::rest) K fr H=match Fg P t (a.toList.map λp=>(p.1,ev T fr p.2))with|some v=>gh P T E ops q bs rest K (fr.put d v) H|none=>False:=rfl
@[simp] theorem aca{o:BinOp}{t u:TypeId}{x y:Operand}:gh P T E ops q (true::bs) ({dst:=d,op:=.binOp o t x y u,type:=ty,pos:=pos,after:=after,guard:=none}::rest) K fr H=match Rq P o t y (ev T fr x) (ev T fr y)with|some v=>gh P T E ops q bs rest K (fr.put d v) H|none=>False:=rfl
@[simp] theorem ac4{o:UnOp}{t:TypeId}{x:Operand}:gh P T E ops q (true::bs) ({dst:=d,op:=.unOp o t x,type:=ty,pos:=pos,after:=after,guard:=none}::rest) K fr H=match unA o (ev T fr x)with|some v=>gh P T E ops q bs rest K (fr.put d v) H|none=>False:=rfl
@[simp] theorem UX{t i:Nat}{x:Operand}:gh P T E ops q (true::bs) ({dst:=d,op:=.fieldAddr t x i,type:=ty,pos:=pos,after:=after,guard:=none}::rest) K fr H=match tK P t (ev T fr x) i with|some v=>gh P T E ops q bs rest K (fr.put d v) H|none=>False:=rfl
@[simp] theorem acv{t i:Nat}{x:Operand}:gh P T E ops q (true::bs) ({dst:=d,op:=.field t x i,type:=ty,pos:=pos,after:=after,guard:=none}::rest) K fr H=match Di P t (ev T fr x) i with|some v=>gh P T E ops q bs rest K (fr.put d v) H|none=>False:=rfl
@[simp] theorem UH{t:TypeId}{x i:Operand}:gh P T E ops q (true::bs) ({dst:=d,op:=.indexAddr t x i,type:=ty,pos:=pos,after:=after,guard:=none}::rest) K fr H=match gH P t (ev T fr x) (ev T fr i)with|some v=>gh P T E ops q bs rest K (fr.put d v) H|none=>False:=rfl
@[simp] theorem ab1{t:TypeId}{x:Operand}{lo hi a:Option Operand}:gh P T E ops q (true::bs) ({dst:=d,op:=.slice t x lo hi a,type:=ty,pos:=pos,after:=after,guard:=none}::rest) K fr H=match oS P t (ev T fr x) (lo.map (ev T fr)) (hi.map (ev T fr)) (a.map (ev T fr))with|some v=>gh P T E ops q bs rest K (fr.put d v) H|none=>False:=rfl
@[simp] theorem YM{i:Nat}{x:Operand}:gh P T E ops q (true::bs) ({dst:=d,op:=.extract x i,type:=ty,pos:=pos,after:=after,guard:=none}::rest) K fr H=match Ab P T fr {dst:=d,op:=.extract x i,type:=ty,pos:=pos,after:=after,guard:=none}with|some v=>gh P T E ops q bs rest K (fr.put d v) H|none=>False:=rfl
@[simp] theorem VR{x:Operand}:gh P T E ops q (true::bs) ({dst:=d,op:=.nilCheck x,type:=ty,pos:=pos,after:=after,guard:=none}::rest) K fr H=match Ab P T fr {dst:=d,op:=.nilCheck x,type:=ty,pos:=pos,after:=after,guard:=none}with|some v=>gh P T E ops q bs rest K (fr.put d v) H|none=>False:=rfl
@[simp] theorem abG{op:Op}{j:Nat}{want:Bool}:gh P T E ops q (true::bs) ({dst:=d,op:=op,type:=ty,pos:=pos,after:=after,guard:=some (j,want)}::rest) K fr H=match(ops[j]?).bind (·.dst)with
  |some g=>match fr.env g with
   |.sc (.bool b)=>if b=want then gh P T E ops q (true::bs) ({dst:=d,op:=op,type:=ty,pos:=pos,after:=after,guard:=none}::rest) K fr H else gh P T E ops q bs rest K (fr.put d (.tuple [])) H|.tuple _=>gh P T E ops q bs rest K (fr.put d (.tuple [])) H|_=>False
  |none=>False:=by
 simp only[gh,h8,hW]
 cases a:(ops[j]?).bind (·.dst)with
 |none=>rfl|some g=>
  simp only;cases he:fr.env g with
  |sc v=>
   cases v with
   |bool b=>
    simp only
    by_cases hw:b=want
    ·subst hw;simp only[beq_self_eq_true,if_true];rfl
    ·rw[dK hw]
     have:(b==want)=false:=by simpa using hw
     rw[this]
   |_=>rfl
  |_=>rfl
end
end Go.kY
namespace Go.kY
open Go Go.fD
def pav(k:Nat):Option Nat->AV
 |none=>.sc (.pointer none)|some p=>.fb (k+p) 0
section
variable{P:Program} {t e:TypeId} {k:Nat} {x:Option Nat}
end
end Go.kY
namespace Go.kY
open Go Go.fD
def vB{α:Type}(f:α->AV)(L:List α)(k:Nat):List AV:=(L.map f).flatMap AV.cells++zq k
@[irreducible] def NH(i sz:Nat):Nat:=i*sz
theorem HG(i sz:Nat):NH i sz=i*sz:=by unfold NH;rfl
section
variable{α:Type} {f:α->AV} {L:List α} {k sz:Nat}
theorem r5(h:∀x,(f x).cells.length=sz)(L:List α):((L.map f).flatMap AV.cells).length=L.length*sz:=by
 rw[n5 (sz:=sz)]
 all_goals grind
def xi(h:∀x,(f x).cells.length=sz):(vB f L k).length=L.length*sz+k:=by grind[vB,r5,zq]
theorem BW(h:∀x,(f x).cells.length=sz):(vB f L k).take (L.length*sz)=(L.map f).flatMap AV.cells:=by grind[vB,r5]
def Xq(h:∀x,(f x).cells.length=sz){i:Nat}{y:α}(hi:i<L.length):setCells (vB f L k) (i*sz) (f y).cells=vB f (L.set i y) k:=by
 unfold setCells vB;have hlen:=r5 h L
 have hle:i*sz+sz<=L.length*sz:=by
  rw[<-TP];exact Km _ hi
 rw[h y,List.take_append_of_le_length VW,List.drop_append_of_le_length VW,<-th]
 congr 1
 have a:L.set i y=L.take i++y::L.drop (i+1):=List.set_eq_take_append_cons_drop▸(by rw[dR hi]);rw[a,aeM,oe,VJ,Iu]
 have hm:∀x∈L.map f,x.cells.length=sz:=by grind
 have b:i*sz+sz=(i+1)*sz:=by rw[TP]
 rw[b,<-Ec hm,<-zd hm,List.map_take,aeH,th]
end
def Ip{α:Type}{f:α->AV}(a:∀x,(f x).cells.map AV.kg=(f x).cells)(L:List α):(L.map f).flatMap AV.cells=((L.map f).flatMap AV.cells).map AV.kg:=by
 induction L with
 |nil=>rfl|cons x L ih=>grind
def tI.aia{P:Program}{t e sz d:Nat}{s x:AV}{K:Fr->dY->Prop}{fr:Fr}{H:dY}{α:Type}{f:α->AV}(m:List α){b:Tag}
  (c:oi P t=some (e,sz)) (h:∃n,j6 P e=some n) (i:∀x,(f x).cells.length=sz) (hlen:I8 m=true) (hs:s=.slice .full []) (q:x=.slice b (m.map f))
  (r:∀cap,m.length<=cap->K {fr with env:=gK fr.env d (.xO d (fr.gen d+1) m.length cap),box:=gK fr.box d (some (vB f m ((cap-m.length)*sz))),gen:=gK fr.gen d (fr.gen d+1)} H):tI P t s x d K fr H:=by
 subst hs;subst q
 have o:0<m.length/\m.length<=Al:=by simpa[I8] using hlen
 have j:∀l:List α,la sz (l.map f)=true:=λl=>by cases l with|nil=>rfl|cons a l=>simp[i]
 obtain⟨n,h⟩:=h;refine .inl (.inr ?_);unfold WJ;rw[c];refine⟨j m,by rw[h];rfl,by simpa using o.1,rfl,by simpa[kc,Al] using o.2,λcap u=>?_⟩
 have k:m.length<=cap:=by simpa using u
 have:=r cap k;simp only[zt,nT,B4,Aa,Dh];exact this
def tI.o8{P:Program}{t e sz d:Nat}{s x:AV}{K:Fr->dY->Prop}{fr:Fr}{H:dY}{α:Type}{f:α->AV}(L m:List α){cap:Nat}{n:Tag}
  (q:oi P t=some (e,sz)) (r:∃A,j6 P e=some A) (c:∀x,(f x).cells.length=sz) (hlen:fI L m=true) (hm:0<m.length) (hs:s=.xO d (fr.gen d) L.length cap) (C:x=.slice n (m.map f))
  (D:fr.box d=some (vB f L ((cap-L.length)*sz))) (u:L.length<=cap)
  (F:∀B b,(fR L m).length<=b->K {fr with env:=gK fr.env d (.xO d B (fR L m).length b),box:=gK fr.box d (some (vB f (fR L m) ((b-(fR L m).length)*sz))),gen:=gK fr.gen d B} H):tI P t s x d K fr H:=by
 subst hs;subst C;have G:L.length+m.length<=Al:=NM hlen
 have v:∀l:List α,la sz (l.map f)=true:=λl=>by cases l with|nil=>rfl|cons a l=>simp[c]
 obtain⟨A,r⟩:=r;have w:=r5 c L;have y:=r5 c m;have i:(fR L m).length=L.length+m.length:=N' L m
 have k:(L.map f).flatMap AV.cells++(m.map f).flatMap AV.cells=((fR L m).map f).flatMap AV.cells:=by simp[fR]
 refine .inl (.inr ?_);unfold WJ;rw[q];refine⟨v m,by rw[r];rfl,by simpa using hm,rfl,by simpa[kc,Al] using G,?_⟩;rw[D];simp only[Dh];refine⟨?_,λI=>?_,λb N O=>?_⟩
 ·rw[xi c,Nat.sub_mul];have:=Km sz u;omega
 ·have o:=F (fr.gen d) cap (by rw[i];exact I)
  have J:gK fr.gen d (fr.gen d)=fr.gen:=by
   funext j
   simp only[gK]
   split
   ·rename_i h;rw[h]
   ·rfl
  have M:setCells (vB f L ((cap-L.length)*sz)) (L.length*sz) ((m.map f).flatMap AV.cells)=vB f (fR L m) ((cap-(fR L m).length)*sz):=by
   unfold setCells;rw[BW c];unfold vB;rw[<-k,aex,Oj VW,nT,w,y,i]
   have:L.length*sz+m.length*sz-L.length*sz=m.length*sz:=VW
   rw[this];unfold zq;rw[List.drop_replicate,<-Nat.sub_mul,Nat.sub_sub]
  rw[J,<-M,i] at o;exact o
 ·grind[vB,AV.cells,zq,fR,BW,zt]
@[simp] theorem ahY{P:Program}{t:TypeId}{b g n c:Nat}:Hu P t (.xO b g n c)=match P.underlying t with|some (.slice _)=>some (.sc (.int .i64 n))|some (.array n _)=>some (.sc (.int .i64 n))|_=>none:=by
 unfold Hu;cases P.underlying t with
 |none=>rfl|some y=>grind
@[simp] theorem Va{P:Program}{t:TypeId}{k:IntKind}{a:Int}{b g n c:Nat}:gH P t (.xO b g n c) (.sc (.int k a))=match P.underlying t with
  |some (.slice e)=>match fY P e with
   |some (_,sz)=>if 0<=a/\a<(n:Int)then some (.h9 b g (NH a.toNat sz))else none|none=>none
  |_=>none:=by
 unfold gH;simp only[HG];cases P.underlying t with
 |none=>rfl|some y=>cases y<;>rfl
def DE(P:Program)(t:TypeId)(b g i sz:Nat)(v:AV)(K:Fr->dY->Prop)(fr:Fr)(H:dY):Prop:=lP P t (.h9 b g (NH i sz)) v K fr H
@[simp high] theorem abK{P:Program}{t:TypeId}{b g i sz:Nat}{v:AV}{K:Fr->dY->Prop}{fr:Fr}{H:dY}:lP P t (.h9 b g (NH i sz)) v K fr H=DE P t b g i sz v K fr H:=rfl
def DE.arr{P:Program}{t:TypeId}{b g sz k:Nat}{a:Int}{bl:Bool}{v:AV}{K:Fr->dY->Prop}{fr:Fr}{H:dY}{α:Type}{f:α->AV}{L:List α}{x:α}(y:α)(i:fY P t=some (bl,sz))(c:∀x,(f x).cells.length=sz)
  (h:fw (f y)=true) (hi:dW L a=some x) (hg:g=fr.gen b) (j:fr.box b=some (vB f L k)) (l:v=f y) (n:K {fr with box:=gK fr.box b (some (vB f (FX L a y) k))} H):DE P t b g a.toNat sz v K fr H:=by
 subst l;have hi':=NV hi;have d:=(sY.1 hi').1
 have hle:a.toNat*sz+sz<=L.length*sz:=by
  rw[<-TP];exact Km _ d
 unfold DE;simp only[lP,i,j];refine⟨hg,c y,by rw[HG,xi c];omega,h,?_⟩;rw[HG,Xq c d];exact n
def hQ.Pa{α β:Type}{R:α->β->Prop}:∀{as:List α} {bs:List β} {i:Nat} {a0 a:α},hQ R as bs->as[i]?=some a0->(∀b,bs[i]?=some b->R a b)->hQ R (as.set i a) bs
 |_,_,_,_,_,.nil,h,_=>by simp at h
 |_,_,0,_,_,.cons d c,_,h=>.cons (h _ rfl) c|_,_,i+1,_,_,.cons d c,f,h=>.cons d (hQ.Pa c (by simpa using f) (λb j=>h b (by simpa using j)))
section
variable{P:Program} {T:eN} {n B0:Nat} {ρ:Maps} {F:kM} {R:Nat->ou} {fr:Fr} {H:dY} {a:Act} {w:World}
def WR.unbox(h:WR T n B0 ρ F R fr H a w){d:Nat}{cs:List AV}(y:fr.box d=some cs):∃q,q (ρ.L d (fr.gen d))=.free/\WR T n B0 ρ F q {fr with box:=gK fr.box d none} H a w:=by
 obtain⟨G,I,J,vs,ty,K,M⟩:=h.box d cs y
 let q:Nat->ou:=gK R (ρ.L d (fr.gen d)) .free
 have f:∀b,R b≠ .box d->q b=R b:=by grind[gK]
 refine⟨q,by show gK R _ _ _=_;simp[gK],⟨h.g,h.size,h.defers,h.env,h.hn,h.lg,h.ag,?_,?_,?_,?_,?_,h.qq⟩⟩
 ·intro s t i;simp only[gK] at i
  by_cases he:s=d
  ·subst he;simp at i
  ·rw[dK he] at i;obtain⟨u,r,x⟩:=h.box s t i;exact⟨u,by rw[f _ (by rw[r];simp[he])];exact r,x⟩
 ·intro k m A b c sz B;obtain⟨u,r,x⟩:=h.tok k m A b c sz B;exact⟨u,by rw[f _ (by rw[r];simp)];exact r,x⟩
 ·intro b j v C
  by_cases l:b=ρ.L d (fr.gen d)
  ·subst l;intro s;show gK R _ _ _≠_;simp[gK]
  ·have e:q b=R b:=by show gK R _ _ _=_;simp[gK,l]
   rw[e];exact h.qi b j v C
 ·intro o D;have:=h.n_ o D;rw[f _ (by rw[this];simp)];exact this
 ·intro b l;have:=h.lz b l;rw[f _ (by rw[this];simp)];exact this
def hQ.Uh{F:kM}{ρ:Maps}{cs:List AV}{vs:List Value}(h:hQ (jN F ρ) cs vs):hQ (gQ F ρ.G ρ.n) (cs.map AV.kg) vs:=h.wM AV.kg λ_ _ _ h=>h.kg
def WR.LA(h:WR T n B0 ρ F R fr H a w){d len cap sz:Nat}{cs els:List AV}(D:fr.box d=some cs)(M:els.length=len)(hs:∀x∈els,x.cells.length=sz)
  (I:els.flatMap AV.cells=(cs.take (len*sz)).map AV.kg) (hle:len*sz<=cs.length) (N:len<=cap) (t:cap<=maxLen):∃F' y,xu F F' ρ ρ/\(∀b j,b<B0->F' b j=F b j)/\WR T n B0 ρ F' y {fr with box:=gK fr.box d none} H a w/\gQ F' ρ.G ρ.n (.slice .gI els) (.slice (some ⟨ρ.L d (fr.gen d),0,none⟩) len cap):=by
 obtain⟨V,O,J,vs,ty,P,A⟩:=h.box d cs D;obtain⟨y,q,hw⟩:=h.unbox D
 have hF:∀j,F (ρ.L d (fr.gen d)) j=none:=by
  intro j;cases Q:F (ρ.L d (fr.gen d)) j with
  |none=>rfl|some v=>
   exact absurd O (h.qi _ j v Q d)
 have S:vs.toList.length=cs.length:=A.length.symm
 obtain⟨r,B⟩:=hw.freeze (us:=vs.toList.take (len*sz)) (k:=(vs.toList.take (len*sz)).length) q hF P (λu hu=>jD A J u hu) (by
  intro j v _ s;rw[Qq] at s
  split at s
  ·simpa using s
  ·cases s)
 refine⟨_,y,r,λb j U=>ui VW,B,?_⟩
 have f:hQ (gQ F ρ.G ρ.n) (els.flatMap AV.cells) (vs.toList.take (len*sz)):=by
  rw[I];exact(A.take (len*sz)).Uh
 have K:=gQ.slice (F:=kn F (ρ.L d (fr.gen d)) (vs.toList.take (len*sz)).length (vs.toList.take (len*sz))) (G:=ρ.G) (n:=ρ.n) (tag:=.gI) (l:=els) (b:=ρ.L d (fr.gen d)) (o:=0)
  (base:=some ⟨ρ.L d (fr.gen d),0,none⟩) (cap:=cap) (sz:=sz) (vs:=vs.toList.take (len*sz)) (.oU (f.mono λ_ _ _ h=>h.grow r.g)) (xc _ _ _) (λ_=>rfl) hs (by
   intro c i;rw[I] at i
   exact yh (λc C=>J c (Db C)) c i) VW t (.inl rfl)
 rw[M] at K;exact K
def hZ.ai4{α:Type}{c:Code}{Q:Exit->Fr->dY->Prop}{f:α->AV}(t:Nat){L:List α}{k sz d g cap:Nat}(l:∀x,(f x).cells.length=sz)(q:∀x,(f x).cells.map AV.kg=(f x).cells)
  (he:fr.env t=.xO d g L.length cap) (hg:g=fr.gen d) (C:fr.box d=some (vB f L k))
  (h:hZ P T n c Q {fr with env:=gK fr.env t (.slice .gI (L.map f)),box:=gK fr.box d none} H):hZ P T n c Q fr H:=by
 intro G0 F0 n0 w0 a w hs;refine h G0 F0 n0 w0 a w ?_;obtain⟨ρ,F,R,hw,D⟩:=hs;have o:=hw.env t;rw[he] at o;obtain⟨G,I,r,s⟩:=AM o
 have u:∀x∈L.map f,x.cells.length=sz:=by grind
 obtain⟨F',J,v,y,i,K⟩:=hw.LA (els:=L.map f) (len:=L.length) (cap:=cap) (sz:=sz) C aa2 u (by rw[BW l];exact Ip q L) (by rw[xi l];omega) r s;refine⟨ρ,F',J,⟨i.g,i.size,i.defers,?_,i.hn,i.lg,i.ag,i.box,i.tok,i.qi,i.n_,i.lz,i.qq⟩,?_⟩
 ·intro B;show gG F' ρ (gK fr.env t (.slice .gI (L.map f)) B) _;simp only[gK]
  split
  ·rename_i e;subst e;rw[G,hg];exact .p K
  ·exact(hw.env B).grow v
 ·exact D.freeze λb j A=>y b j A
def hZ.ajr{α:Type}{c:Code}{Q:Exit->Fr->dY->Prop}{f:α->AV}(d2 i:Nat){cs2:List AV}{L:List α}{k sz d g cap:Nat}(q:∀x,(f x).cells.length=sz)(t:∀x,(f x).cells.map AV.kg=(f x).cells)
  (v:d2≠d) (he:fr.box d2=some cs2) (hi:cs2[i]?=some (.xO d g L.length cap)) (hg:g=fr.gen d) (X:fr.box d=some (vB f L k))
  (h:hZ P T n c Q {fr with box:=gK (gK fr.box d none) d2 (some (cs2.set i (.slice .gI (L.map f))))} H):hZ P T n c Q fr H:=by
 intro G0 F0 n0 w0 a w hs;refine h G0 F0 n0 w0 a w ?_;obtain⟨ρ,F,R,hw,A⟩:=hs;obtain⟨_,_,B,C,Y,Z,D⟩:=hw.box d2 cs2 he;obtain⟨u,hu,G⟩:=D.get hi;obtain⟨hv,ad,I,J⟩:=AM (.cell G)
 have K:∀x∈L.map f,x.cells.length=sz:=by
  intro x A;obtain⟨y,_,rfl⟩:=qp.1 A;exact q y
 obtain⟨F',R',ae,M,l,hp⟩:=hw.LA (els:=L.map f) (len:=L.length) (cap:=cap) (sz:=sz) X aa2 K (by rw[BW q];exact Ip t L) (by rw[xi q];omega) I J
 have N:({fr with box:=gK fr.box d none}:Fr).box d2=some cs2:=by simp[gK,v,he]
 refine⟨ρ,F',R',⟨l.g,l.size,l.defers,l.env,l.hn,l.lg,l.ag,?_,l.tok,l.qi,l.n_,l.lz,l.qq⟩,?_⟩
 ·intro O S o;simp only[gK] at o
  by_cases r:O=d2
  ·subst r;simp only[if_true,B9] at o;subst o;obtain⟨e1,e2,e3,vs',U,e4,e5⟩:=l.box O cs2 N;refine⟨e1,e2,?_,vs',U,e4,?_⟩
   ·intro c hc;rcases List.mem_or_eq_of_mem_set hc with h'|h'
    ·exact e3 c h'
    ·rw[h'];rfl
   ·have V:vs'.toList=C.toList:=by
     grind
    refine hQ.Pa e5 hi ?_;intro u' s;rw[V,hu] at s;obtain rfl:=kR s;rw[hv,hg];exact .p hp
  ·simp only[dK r] at o;exact l.box O S (by simpa[gK] using o)
 ·exact A.freeze λb j W=>M b j W
end
end Go.kY
