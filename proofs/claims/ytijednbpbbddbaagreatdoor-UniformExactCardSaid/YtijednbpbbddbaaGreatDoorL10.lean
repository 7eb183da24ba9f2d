/- Part of the proof of UniformExact, UniformAccepted: layer. -/
import Derived.Test.YtijednbpbbddbaaGreatDoorL9
set_option linter.all false
namespace Go.ns
open Go
mutual
def AV.low(k:Nat):AV->Bool
 |.undef=>true|.sc _=>true|.nt x=>x.low k|.jo _ _ _=>true|.eS o _=>decide (o<k)|.slice _ l=>AV.kx k l|.agg l=>AV.kx k l|.tuple l=>AV.kx k l|.func _ f c=>AV.kx k f&&AV.kx k c|.iface _ x=>x.low k|.A3 _ _ _ _=>true|.qZ o=>decide (o<k)|.xx o _ _ _=>decide (o<k)|.KD=>true|.yM _ xs=>AV.kx k xs|.p_ o _ _=>decide (o<k)
def AV.kx(k:Nat):List AV->Bool
 |[]=>true|x::l=>x.low k&&AV.kx k l
end
def AV.Co{k:Nat}:∀{l:List AV},AV.kx k l=true↔∀x∈l,x.low k=true
 |[]=>by simp[AV.kx]|x::l=>by simp[AV.kx,AV.Co (l:=l)]
def AV.O5{k:Nat}{x:AV}(h:x.low k=true):AV.kx k x.cells=true:=by
 cases x<;>simp_all [AV.low,AV.cells,AV.kx]
def AV.WX{k:Nat}{l:List AV}(h:AV.kx k l=true):AV.kx k (l.flatMap AV.cells)=true:=by
 rw[AV.Co] at h|-;intro x a;obtain⟨y,hy,a⟩:=WL.1 a;exact AV.Co.1 (AV.O5 (h y hy)) x a
@[simp] theorem AV.ae_{α:Type}{k:Nat}(f:α->Value)(l:List α):AV.kx k (List.map (λn=>AV.sc (f n)) l)=true:=by
 rw[AV.Co];intro x a;obtain⟨y,_,rfl⟩:=nU.1 a;rfl
section
variable{F:nc} {G:Nat->Nat} {n k:Nat}
mutual
def ic.lower:∀{x v},ic F G n x v->x.low k=true->ic F G k x v
 |_,_,.undef h,_=>.undef h|_,_,.sc h,_=>.sc h|_,_,.nt b c d,a=>.nt (b.lower (AV.O5 (by simpa[AV.low] using a))) c d|_,_,.eS h,a=>.eS (by simpa[AV.low] using a)|_,_,.qZ h,a=>.qZ (by simpa[AV.low] using a)|_,_,.xx h c d,a=>.xx (by simpa[AV.low] using a) c d|_,_,.slice b c d e f g i j,a=>.slice (b.lower (AV.WX (by simpa[AV.low] using a))) c d e f g i j|_,_,.KD,_=>.KD|_,_,.agg b c,a=>.agg (b.lower (by simpa[AV.low] using a)) c|_,_,.tuple b,a=>.tuple (b.lower (by simpa[AV.low] using a))|_,_,.func b c,a=>by
  simp only[AV.low,ez] at a;exact .func (b.lower a.1) (c.lower a.2)
 |_,_,.iface b,a=>.iface (b.lower (by simpa[AV.low] using a))
def iI.lower:∀{xs vs},iI F G n xs vs->AV.kx k xs=true->iI F G k xs vs
 |_,_,.nil,_=>.nil|_,_,.cons b c,a=>by
  simp only[AV.kx,ez] at a;exact .cons (b.lower a.1) (c.lower a.2)
end
end
def oK.lower{F:nc}{G:Nat->Nat}{n k:Nat}{cs d}(h:oK F G n cs d)(a:AV.kx k cs=true):oK F G k cs d:=by
 cases h with
 |cells e b c=>exact .cells e ((iI.so b).lower a).yS c|map b c f g i=>exact .map b ((iI.so c).lower (by simpa[AV.kx,AV.low] using a)).yS f g i|iter h=>exact .iter (by simpa[AV.kx,AV.low] using a)|dead=>exact .dead
def fl.drop{P:Program}{T:ec}{f:FuncId}{args:List AV}{H:dd}{Post Post':AV->dd->Prop}(h:fl P T f args H Post)
  (u:∀r H',Post r H'->∃a X,H'=a++X/\H.length<=a.length/\r.low a.length=true/\(∀cs∈a,AV.kx a.length cs=true)/\Post' r a):fl P T f args H Post':=by
 refine⟨h.1,λG F w vs hg y=>(h.2 G F w vs hg y).mono ?_⟩;rintro e w' ⟨r,H',v,G',F',m,rfl,k,z,c⟩;obtain⟨a,X,rfl,hlen,A,n,B⟩:=u r H' m
 have l:∀b o v,F b o=some v->F' b o=some v:=by
  intro b o v p
  have hb:b<w.heap.size:=by
   rcases tv b w.heap.size with hb|hb
   ·exact hb
   ·rw[hg.fresh b o hb] at p;cases p
  exact c.mF b o v hb p
 have i:∀o,o<a.length->o<(a++X).length:=λo d=>by rw[qI];omega
 refine⟨r,a,v,G',F',B,rfl,?_,z.lower A,?_⟩
 ·refine⟨k.JO,?_,λo o' d q=>k.inj o o' (i o d) (i o' q),λo j d s=>k.gF o j (i o d) (by rw[s_ d];exact s),k.fresh,λg x C=>?_,k.row⟩
  ·intro o cs d;have t:o<a.length:=(qb.1 d).1;obtain⟨D,E,I⟩:=k.oB o cs (by rw[s_ t];exact d);exact⟨D,E,I.lower (n cs (D8 d))⟩
  ·exact(hg.F9 g x C).grow ⟨l,hlen,λo d=>c.hG o d⟩
 ·exact⟨c.os,c.tape,c.output,c.size,hlen,c.hG,λo m J=>c.QE o m (i o J),c.hF,c.mF,c.heap⟩
end Go.ns
namespace Go.ns
open Go
def AV.I2{k:Nat}{x:AV}(h:AV.kx k x.cells=true):x.low k=true:=by
 cases x<;>simp_all [AV.low,AV.cells,AV.kx]
def AV.Qj{k:Nat}{l:List AV}(h:AV.kx k (l.flatMap AV.cells)=true):AV.kx k l=true:=by
 rw[AV.Co] at h|-;intro x a;exact AV.I2 (AV.Co.2 λy hy=>h y (WL.2 ⟨x,a,hy⟩))
section
variable{F:nc} {G:Nat->Nat} {n:Nat}
mutual
def ic.Av:∀{x v},ic F G n x v->x.low n=true
 |_,_,.undef _=>rfl|_,_,.sc _=>rfl|_,_,.nt a _ _=>by simpa[AV.low] using AV.I2 a.Av|_,_,.eS h=>by simpa[AV.low] using h|_,_,.qZ h=>by simpa[AV.low] using h|_,_,.xx h _ _=>by simpa[AV.low] using h|_,_,.slice a _ _ _ _ _ _ _=>by simpa[AV.low] using AV.Qj a.Av|_,_,.KD=>rfl|_,_,.agg a _=>by simpa[AV.low] using a.Av|_,_,.tuple a=>by simpa[AV.low] using a.Av|_,_,.func a b=>by simp[AV.low,a.Av,b.Av]|_,_,.iface a=>by simpa[AV.low] using a.Av
def iI.Av:∀{xs vs},iI F G n xs vs->AV.kx n xs=true
 |_,_,.nil=>rfl|_,_,.cons a b=>by simp[AV.kx,a.Av,b.Av]
end
end
def oK.Av{F:nc}{G:Nat->Nat}{n:Nat}{cs c}(h:oK F G n cs c):AV.kx n cs=true:=by
 cases h with
 |cells d a b=>exact(iI.so a).Av|map a b e f g=>simpa[AV.kx,AV.low] using(iI.so b).Av|iter h=>simpa[AV.kx,AV.low] using h|dead=>rfl
def fl.xm{P:Program}{T:ec}{f:FuncId}{args:List AV}{H:dd}{Post Post':AV->dd->Prop}(h:fl P T f args H Post)
  (d:∀r H',Post r H'->∃X,H'=H++X/\r.low H.length=true/\Post' r H):fl P T f args H Post':=by
 refine⟨h.1,λG F w vs hg g=>?_⟩
 have a:∀cs∈H,AV.kx H.length cs=true:=by
  intro cs b;obtain⟨o,i⟩:=Yr.1 b;obtain⟨m,_,j⟩:=hg.oB o cs i;exact j.Av
 exact(fl.drop (Post':=Post') h λr H' k=>by
  obtain⟨X,e,l,c⟩:=d r H' k
  exact⟨H,X,e,ig _,l,a,c⟩).2 G F w vs hg g
end Go.ns
namespace Go.ns
open Go Go.ek
mutual
def AV.MA{k n:Nat}(h:k<=n):∀{x:AV},x.low k=true->x.low n=true
 |.undef,_=>rfl|.sc _,_=>rfl|.nt x,a=>by simpa[AV.low] using AV.MA h (x:=x) (by simpa[AV.low] using a)|.jo _ _ _,_=>rfl|.eS o _,a=>by simp[AV.low] at a|-;omega
 |.xx o _ _ _,a=>by simp[AV.low] at a|-;omega
 |.slice _ l,a=>by simpa[AV.low] using AV.vZ h (l:=l) (by simpa[AV.low] using a)|.agg l,a=>by simpa[AV.low] using AV.vZ h (l:=l) (by simpa[AV.low] using a)|.tuple l,a=>by simpa[AV.low] using AV.vZ h (l:=l) (by simpa[AV.low] using a)|.func _ f c,a=>by
  simp only[AV.low,ez] at a|-;exact⟨AV.vZ h a.1,AV.vZ h a.2⟩
 |.iface _ x,a=>by simpa[AV.low] using AV.MA h (x:=x) (by simpa[AV.low] using a)|.A3 _ _ _ _,_=>rfl|.KD,_=>rfl|.qZ o,a=>by simp[AV.low] at a|-;omega
 |.yM _ l,a=>by simpa[AV.low] using AV.vZ h (l:=l) (by simpa[AV.low] using a)|.p_ o _ _,a=>by simp[AV.low] at a|-;omega
def AV.vZ{k n:Nat}(h:k<=n):∀{l:List AV},AV.kx k l=true->AV.kx n l=true
 |[],_=>rfl|x::l,a=>by
  simp only[AV.kx,ez] at a|-;exact⟨AV.MA h a.1,AV.vZ h a.2⟩
end
def O6{H:dd}{o:Nat}{c:List AV}(h:H[o]?=some c):o<H.length:=(qb.1 h).1
def OS{H:dd}{o:Nat}{c:List AV}(h:H[o]?=some c):fH H o c=H:=by
 apply Wi;intro i;simp only[fH];rw[Yz]
 split
 ·rename_i e;subst e;rw[cK (O6 h),h]
 ·rfl
def Inb(H:dd)(o:Nat):Prop:=o<H.length
def fI{H:dd}{o:Nat}{c:List AV}(h:H[o]?=some c):Inb H o:=O6 h
@[simp] theorem aeo(H:dd)(o o':Nat)(c:List AV):Inb (fH H o c) o'=Inb H o':=by simp[Inb]
def WN{H:dd}{o:Nat}{c:List AV}(h:Inb H o):(fH H o c)[o]?=some c:=by simp[fH,show o<H.length from h]
def Re{H:dd}{o o':Nat}{c:List AV}(h:o≠o'):(fH H o c)[o']?=H[o']?:=by simp[fH,Yz,h]
def Vk{H:dd}{o o':Nat}{c d e:List AV}(h:o≠o'):fH (fH (fH H o c) o' d) o e=fH (fH H o e) o' d:=by
 simp only[fH];rw[List.set_comm _ _ h.symm,List.set_set]
def Tr{A B:dd}{o:Nat}(h:Inb A o):(A++B)[o]?=A[o]?:=s_ h
def RN{A B:dd}{o:Nat}{c:List AV}(h:Inb A o):fH (A++B) o c=fH A o c++B:=by simp[fH,List.set_append,show o<A.length from h]
def Nx{A B:dd}{k i:Nat}(h:A.length=k):(A++B)[k+i]?=B[i]?:=by
 subst h;rw[xj VW]
 congr 1
 omega
def Ud{A B:dd}{k:Nat}(h:A.length=k):(A++B)[k]?=B[0]?:=Nx (i:=0) h
def KS{A B:dd}{k i:Nat}{c:List AV}(h:A.length=k):fH (A++B) (k+i) c=A++fH B i c:=by
 subst h;simp[fH,List.set_append]
def Rw{A B:dd}{k:Nat}{c:List AV}(h:A.length=k):fH (A++B) k c=A++fH B 0 c:=KS (i:=0) h
@[simp] theorem ab6(a:List AV)(l:dd)(c:List AV):fH (a::l) 0 c=c::l:=rfl
@[simp] theorem abx(a:List AV)(l:dd)(i:Nat)(c:List AV):fH (a::l) (i+1) c=a::fH l i c:=rfl
@[simp] theorem ZL(a:List AV)(l:dd)(c:List AV):fH (a::l) 1 c=a::fH l 0 c:=rfl
@[simp] theorem ZD(a:List AV)(l:dd)(c:List AV):fH (a::l) 2 c=a::fH l 1 c:=rfl
@[simp] theorem ZO(a:List AV)(l:dd)(c:List AV):fH (a::l) 3 c=a::fH l 2 c:=rfl
@[simp] theorem Z1(a:List AV)(l:dd)(c:List AV):fH (a::l) 4 c=a::fH l 3 c:=rfl
@[simp] theorem Zh(a:List AV)(l:dd)(c:List AV):fH (a::l) 5 c=a::fH l 4 c:=rfl
def Wb{H:dd}{o:Nat}{c cs:List AV}(h:cs∈fH H o c):cs∈H\/cs=c:=by
 simp only[fH] at h;exact adv h
def fl.Ph{P:Program}{T:ec}{f:FuncId}{args:List AV}{H:dd}{o:Nat}{c:List AV}{Post:AV->dd->Prop}(h:H[o]?=some c)(a:fl P T f args (fH H o c) Post):fl P T f args H Post:=by
 rwa [OS h] at a
structure Ee {S:Type} (st:S->dd) (k:Nat):Prop where
 len:∀s,(st s).length=k
 low:∀s s' cs,cs∈st s'->cs∈st s\/AV.kx k cs=true
def Ee.const{S:Type}(H:dd):Ee (λ_:S=>H) H.length:=⟨λ_=>rfl,λ_ _ _ h=>.inl h⟩
def Ee.ext{S:Type}{st:S->dd}{k:Nat}(h:Ee st k)(X:dd){n:Nat}(hn:k+X.length=n):Ee (λs=>st s++X) n:=by
 subst hn;refine⟨λs=>by rw[qI,h.len],λs a cs hc=>?_⟩;rcases rS.1 hc with hc|hc
 ·rcases h.low s a cs hc with h1|h1
  ·exact .inl (Zc _ h1)
  ·exact .inr (AV.vZ VW h1)
 ·exact .inl (Yb _ hc)
def Ee.U3{S:Type}(H:dd)(f:S->dd)(n:Nat)(hn:∀s,(f s).length=n)(b:∀s a cs,cs∈f a->cs∈f s\/AV.kx (H.length+n) cs=true):Ee (λs=>H++f s) (H.length+n):=by
 refine⟨λs=>by rw[qI,hn],λs a cs hc=>?_⟩;rcases rS.1 hc with hc|hc
 ·exact .inl (Zc _ hc)
 ·rcases b s a cs hc with h1|h1
  ·exact .inl (Yb _ h1)
  ·exact .inr h1
def fl.Z6{P:Program}{T:ec}{f:FuncId}{args:List AV}{H:dd}{Post Post':AV->dd->Prop}(h:fl P T f args H Post)
  (g:∀r H',Post r H'->∃b X,H'=b++X/\b.length=H.length/\r.low H.length=true/\(∀cs∈b,cs∈H\/AV.kx H.length cs=true)/\Post' r b):fl P T f args H Post':=by
 refine⟨h.1,λG F w vs hg i=>?_⟩
 have c:∀cs∈H,AV.kx H.length cs=true:=by
  intro cs a;obtain⟨o,j⟩:=Yr.1 a;obtain⟨p,_,k⟩:=hg.oB o cs j;exact k.Av
 refine(fl.drop (Post':=Post') h λr H' l=>?_).2 G F w vs hg i;obtain⟨b,X,e,hlen,m,a,d⟩:=g r H' l;refine⟨b,X,e,VW,by rw[hlen];exact m,λcs n=>?_,d⟩;rw[hlen];rcases a cs n with h1|h1
 ·exact c cs h1
 ·exact h1
def fl.WZ{P:Program}{T:ec}{f:FuncId}{args:List AV}{S:Type}{st:S->dd}{k:Nat}(hF:Ee st k){s:S}{Post Post':AV->dd->Prop}(h:fl P T f args (st s) Post)
  (c:∀r H',Post r H'->∃a X,H'=st a++X/\r.low k=true/\Post' r (st a)):fl P T f args (st s) Post':=
 fl.Z6 h λr H' d=>by
  obtain⟨a,X,e,g,b⟩:=c r H' d;exact⟨st a,X,e,by rw[hF.len,hF.len],by rw[hF.len];exact g,λcs i=>by rw[hF.len];exact hF.low s a cs i,b⟩
@[simp] theorem aeM(H:List (List AV))(o:Nat)(c:List AV):List.set H o c=fH H o c:=rfl
attribute [simp] WN Re Vk Tr RN Nx Ud KS Rw
end Go.ns
namespace Go.ns
open Go Go.ek
def fM(P:Program)(T:ec)(E:List Nat)(opsA:Array Oper)(q:Qt):List Bool->List Oper->(Fr->dd->Prop)->Fr->dd->Prop
 |_,[],K,fr,H=>K fr H|[],o::rest,K,fr,H=>iX P T E opsA q true o (λfr H=>fM P T E opsA q [] rest K fr H) fr H|b::bs,o::rest,K,fr,H=>iX P T E opsA q b o (λfr H=>fM P T E opsA q bs rest K fr H) fr H
def Oi{E:List Nat}{ops:Array Oper}{q:Qt}{P:Program}{T:ec}{K:Fr->dd->Prop}(a:List Bool):∀(l:List Oper) (k:Nat) (fr:Fr) (H:dd),l=ops.toList.drop k->fM P T E ops q (a.drop k) l K fr H->Nq P T E ops q (λi=>a.getD i true) (List.range' k l.length) K fr H:=by
 intro l
 induction l with
 |nil=>
  intro k fr H _ h;cases d:a.drop k<;>rw[d] at h<;>exact h
 |cons o l e=>
  intro k fr H c h
  have b:k<ops.toList.length:=by
   rcases tv k ops.toList.length with h'|h'
   ·exact h'
   ·rw[H9 h'] at c;cases c
  have f:=L2 b;rw[f] at c;injection c with g j
  have hi:ops[k]?=some o:=by
   rw[g];simp only[abn];exact U7 (by simpa using b)
  simp only[hW,YH,Nq,hi]
  have m:a.getD k true=(a.drop k).headD true:=by
   simp only[List.getD,List.headD_eq_head?_getD,List.head?_drop]
  have n:a.drop (k+1)=(a.drop k).tail:=by rw[List.tail_drop]
  rw[m];refine Ha (K:=λfr H=>fM P T E ops q (a.drop (k+1)) l K fr H) (λfr H h=>e (k+1) fr H j h) ?_;rw[n];cases d:a.drop k<;>rw[d] at h<;>exact h
def gM.YM{P:Program}{T:ec}{n:Nat}{Q:Exit->Fr->dd->Prop}{fr:Fr}{H:dd}{id:Nat}{ops:Array Oper}(E:List Nat)(q:Qt)(b:List Bool)(hm:P.follows .mixedOrders=true)(a:DI n ops=true)(c:CA E ops (λi=>b.getD i true)=true)
  (h:fM P T E ops q b ops.toList (Q .normal) fr H):gM P T n (.region id ops true) Q fr H:=by
 refine gM.RL E q (λi=>b.getD i true) hm a c ?_;have:=Oi (P:=P) (T:=T) (E:=E) (ops:=ops) (q:=q) (K:=Q .normal) b ops.toList 0 fr H (by rw[List.drop_zero]) (by rw[List.drop_zero];exact h);rw[Wl];simpa using this
def oa(P:Program)(T:ec)(E:List Nat)(ops:Array Oper)(q:Qt)(bs:List Bool)(a:AV)(as:List AV)(d:Option Nat)(rest:List Oper)(K:Fr->dd->Prop)(fr:Fr)(H:dd):Prop:=
 if d.any E.contains then Xh P T q true a as d (fM P T E ops q bs rest K) fr H else∃r H',qC P T a as H r H'/\(QK q H H')/\fM P T E ops q bs rest K (fr.put d r) H'
def zq(P:Program)(T:ec)(E:List Nat)(ops:Array Oper)(q:Qt)(bs:List Bool)(a:AV)(as:List AV)(d:Option Nat)(rest:List Oper)(K:Fr->dd->Prop)(fr:Fr)(H:dd):Prop:=
 if d.any E.contains then Xh P T q false a as d (fM P T E ops q bs rest K) fr H else∃r H',qC P T a as H r H'/\fM P T E ops q bs rest K (fr.put d r) H'
section
variable{P:Program} {T:ec} {E:List Nat} {ops:Array Oper} {q:Qt} {bs:List Bool} {rest:List Oper} {K:Fr->dd->Prop} {fr:Fr} {H H':dd} {d:Option Nat} {ty:TypeId} {pos:String} {after:Array Edge}
def oa.val{a:AV}{as:List AV}{r:AV}(h:qC P T a as H r H')(b:QK q H H')(c:fM P T E ops q bs rest K (fr.put d r) H'):oa P T E ops q bs a as d rest K fr H:=by
 unfold oa
 split
 ·exact QG h (λ_=>b) c
 ·exact⟨r,H',h,b,c⟩
def zq.val{a:AV}{as:List AV}{r:AV}(h:qC P T a as H r H')(b:fM P T E ops q bs rest K (fr.put d r) H'):zq P T E ops q bs a as d rest K fr H:=by
 unfold zq
 split
 ·exact QG h (λh=>by cases h) b
 ·exact⟨r,H',h,b⟩
def oa.fn{g:FuncId}{as:List AV}{r:AV}(h:dY P T g as H r H')(a:QK q H H')(b:fM P T E ops q bs rest K (fr.put d r) H'):oa P T E ops q bs (.func (.func g) [] []) as d rest K fr H:=by
 refine oa.val ?_ a b;unfold qC qs;simp only[kW,zk];exact h
def oa.VE{g:FuncId}{b c as a:List AV}{r:AV}(e:b++as++c=a)(h:dY P T g a H r H')(f:QK q H H')(i:fM P T E ops q bs rest K (fr.put d r) H'):oa P T E ops q bs (.func (.func g) b c) as d rest K fr H:=by
 subst e;exact oa.val h f i
def zq.fn{g:FuncId}{as:List AV}{r:AV}(h:dY P T g as H r H')(a:fM P T E ops q bs rest K (fr.put d r) H'):zq P T E ops q bs (.func (.func g) [] []) as d rest K fr H:=by
 refine zq.val ?_ a;unfold qC qs;simp only[kW,zk];exact h
@[simp] theorem Z8{f:Operand}{as:Array Operand}{ts:Array TypeId}:fM P T E ops q (false::bs) ({dst:=d,op:=.call {callee:=.value f,args:=as,argTypes:=ts},type:=ty,pos:=pos,after:=after,guard:=none}::rest) K fr H=zq P T E ops q bs (ev T fr f) (as.toList.map λx=>(ev T fr x).norm) d rest K fr H:=by
 simp only[fM,iX,iW,sK,lS,pM,yr,lU,jC,iB,zq,lU,false_implies,Hc]
@[simp] theorem ac5(bs:List Bool):fM P T E ops q bs [] K fr H=K fr H:=by cases bs<;>rfl
@[simp] theorem Zx{t:TypeId}{x:Operand}:fM P T E ops q (false::bs) ({dst:=d,op:=.load t x,type:=ty,pos:=pos,after:=after,guard:=none}::rest) K fr H=if uB ops.toList x (ev T fr x)then(match yp P fr H t (ev T fr x)with|some v=>fM P T E ops q bs rest K (fr.put d v) H|none=>False)else False:=by
 simp only[fM,iX,iW,sK,lS,pM,yr,lU,jC,iB,oZ,Bool.not_false,Bool.true_or,CG]
 split
 ·rename_i v a
  split at a
  ·rename_i b;rw[cK b,a]
  ·cases a
 ·rename_i a
  split at a
  ·rename_i b;rw[cK b,a]
  ·rename_i b;rw[cI b]
@[simp] theorem Y1{t:TypeId}{x y:Operand}:fM P T E ops q (false::bs) ({dst:=none,op:=.store t x y,type:=ty,pos:=pos,after:=after,guard:=none}::rest) K fr H=(UM E q x (ev T fr x)/\uB ops.toList x (ev T fr x)=true/\o6 P t (ev T fr x) (ev T fr y) (fM P T E ops q bs rest K) fr H):=by
 simp only[fM,iX,iW,sK,lS,pM,yr,lU,jC,iB,Hc,lU,false_implies,if_true,Ie]
@[simp] theorem aa0{x:Operand}:fM P T E ops q (true::bs) ({dst:=d,op:=.move x,type:=ty,pos:=pos,after:=after,guard:=none}::rest) K fr H=fM P T E ops q bs rest K (fr.put d (ev T fr x)) H:=rfl
@[simp] theorem YV{x:Operand}:fM P T E ops q (true::bs) ({dst:=d,op:=.assign x,type:=ty,pos:=pos,after:=after,guard:=none}::rest) K fr H=fM P T E ops q bs rest K (fr.put d (ev T fr x)) H:=rfl
@[simp] theorem ZU{t:TypeId}:fM P T E ops q (true::bs) ({dst:=d,op:=.alloc t,type:=ty,pos:=pos,after:=after,guard:=none}::rest) K fr H=match hE P t with|some z=>d.any E.contains=false/\nq E d z (fM P T E ops q bs rest K) fr H|none=>False:=by
 simp only[fM,iX,iW,sK,lS,pM,yr,lU,jC,iB,YT];rfl
@[simp] theorem abO{t:TypeId}{x:Operand}:fM P T E ops q (true::bs) ({dst:=d,op:=.load t x,type:=ty,pos:=pos,after:=after,guard:=none}::rest) K fr H=if uB ops.toList x (ev T fr x)&&q.ok (ev T fr x)then(match yp P fr H t (ev T fr x)with|some v=>fM P T E ops q bs rest K (fr.put d v) H|none=>False)else False:=by
 simp only[fM,iX,iW,sK,lS,pM,yr,lU,jC,iB,oZ,X3,RY]
 split
 ·rename_i v a
  split at a
  ·rename_i b;rw[cK b,a]
  ·cases a
 ·rename_i a
  split at a
  ·rename_i b;rw[cK b,a]
  ·rename_i b;rw[cI b]
@[simp] theorem ZS{t:TypeId}{x y:Operand}:fM P T E ops q (true::bs) ({dst:=none,op:=.store t x y,type:=ty,pos:=pos,after:=after,guard:=none}::rest) K fr H=(UM E q x (ev T fr x)/\uB ops.toList x (ev T fr x)=true/\isL (ev T fr x)=true/\o6 P t (ev T fr x) (ev T fr y) (fM P T E ops q bs rest K) fr H):=by
 simp only[fM,iX,iW,sK,lS,pM,yr,lU,jC,iB,YT,Hc,if_true,Ie]
@[simp] theorem UQ{t n:Nat}{ps:Array (Nat×Operand)}:fM P T E ops q (true::bs) ({dst:=d,op:=.buildSlice t n ps,type:=ty,pos:=pos,after:=after,guard:=none}::rest) K fr H=if d.any E.contains then False else match qx P t n (ps.toList.map λp=>(p.1,ev T fr p.2))with|some v=>fM P T E ops q bs rest K (fr.put d v) H|none=>False:=by
 simp only[fM,iX,iW,sK,lS,pM,yr,lU,jC,iB,oZ]
 split
 ·rename_i v a
  split at a
  ·cases a
  ·rename_i b;rw[cI b,a]
 ·rename_i a
  split at a
  ·rename_i b;rw[cK b]
  ·rename_i b;rw[cI b,a]
@[simp] theorem VA{t:TypeId}{l c:Operand}:fM P T E ops q (true::bs) ({dst:=d,op:=.makeSlice t l c,type:=ty,pos:=pos,after:=after,guard:=none}::rest) K fr H=match uc P t (ev T fr l) (ev T fr c)with|some v=>fM P T E ops q bs rest K (fr.put d v) H|none=>False:=by
 simp only[fM,iX,iW,sK,lS,pM,yr,lU,jC,iB,oZ];cases uc P t (ev T fr l) (ev T fr c)<;>rfl
@[simp] theorem YD{t:TypeId}{x i:Operand}{ok:Bool}:fM P T E ops q (true::bs) ({dst:=d,op:=.lookup t x i ok,type:=ty,pos:=pos,after:=after,guard:=none}::rest) K fr H=if q.all then(match zo P H t (ev T fr x) (ev T fr i) ok with|some v=>fM P T E ops q bs rest K (fr.put d v) H|none=>False)else False:=by
 simp only[fM,iX,iW,sK,lS,pM,yr,lU,jC,iB,oZ,X3,RY]
 split
 ·rename_i v a
  split at a
  ·rename_i b;rw[cK b,a]
  ·cases a
 ·rename_i a
  split at a
  ·rename_i b;rw[cK b,a]
  ·rename_i b;rw[cI b]
@[simp] theorem YC{x y:Operand}{t d:Nat}:fM P T E ops q (true::bs) ({dst:=some d,op:=.call {callee:=.builtin .append,args:=#[x,y],argTypes:=#[t,t]},type:=ty,pos:=pos,after:=after,guard:=none}::rest) K fr H=if E.contains d then Zb P t (ev T fr x) (ev T fr y) d (fM P T E ops q bs rest K) fr H else Gl P t (ev T fr x) (ev T fr y) d (fM P T E ops q bs rest K) fr H:=by
 simp only[fM,iX,iW,sK,lS,pM,yr,lU,jC,iB,abL]
 split
 ·rename_i a;first|exact GY|(simp only[a,↓reduceIte];exact GY)
 ·rename_i a;first|exact G6|(simp only[a,↓reduceIte];exact G6)
@[simp] theorem abT{f:Operand}{as:Array Operand}{ts:Array TypeId}:fM P T E ops q (true::bs) ({dst:=d,op:=.call {callee:=.value f,args:=as,argTypes:=ts},type:=ty,pos:=pos,after:=after,guard:=none}::rest) K fr H=oa P T E ops q bs (ev T fr f) (as.toList.map λx=>(ev T fr x).norm) d rest K fr H:=by
 simp only[fM,iX,iW,sK,lS,pM,yr,lU,jC,iB,YT,oa]
@[simp] theorem acS{as:Array Operand}{ts:Array TypeId}:fM P T E ops q (true::bs) ({dst:=d,op:=.call {callee:=.builtin .len,args:=as,argTypes:=ts},type:=ty,pos:=pos,after:=after,guard:=none}::rest) K fr H=match xa P T fr {callee:=.builtin .len,args:=as,argTypes:=ts}with|some v=>fM P T E ops q bs rest K (fr.put d v) H|none=>False:=rfl
@[simp] theorem acy{as:Array Operand}{ts:Array TypeId}:fM P T E ops q (true::bs) ({dst:=d,op:=.call {callee:=.builtin .max,args:=as,argTypes:=ts},type:=ty,pos:=pos,after:=after,guard:=none}::rest) K fr H=match xa P T fr {callee:=.builtin .max,args:=as,argTypes:=ts}with|some v=>fM P T E ops q bs rest K (fr.put d v) H|none=>False:=rfl
@[simp] theorem acj{as:Array Operand}{ts:Array TypeId}:fM P T E ops q (true::bs) ({dst:=d,op:=.call {callee:=.builtin .min,args:=as,argTypes:=ts},type:=ty,pos:=pos,after:=after,guard:=none}::rest) K fr H=match xa P T fr {callee:=.builtin .min,args:=as,argTypes:=ts}with|some v=>fM P T E ops q bs rest K (fr.put d v) H|none=>False:=rfl
@[simp] theorem abE{c a b:Operand}:fM P T E ops q (true::bs) ({dst:=d,op:=.pick c a b,type:=ty,pos:=pos,after:=after,guard:=none}::rest) K fr H=match zs P T fr {dst:=d,op:=.pick c a b,type:=ty,pos:=pos,after:=after,guard:=none}with|some v=>fM P T E ops q bs rest K (fr.put d v) H|none=>False:=rfl
@[simp] theorem Zv{t:TypeId}{ps:Array (Nat×Operand)}:fM P T E ops q (true::bs) ({dst:=d,op:=.build t ps,type:=ty,pos:=pos,after:=after,guard:=none}::rest) K fr H=match GU P t (ps.toList.map λp=>(p.1,ev T fr p.2))with|some v=>fM P T E ops q bs rest K (fr.put d v) H|none=>False:=rfl
@[simp] theorem ZT{o:BinOp}{t u:TypeId}{x y:Operand}:fM P T E ops q (true::bs) ({dst:=d,op:=.binOp o t x y u,type:=ty,pos:=pos,after:=after,guard:=none}::rest) K fr H=match Km P o t y (ev T fr x) (ev T fr y)with|some v=>fM P T E ops q bs rest K (fr.put d v) H|none=>False:=rfl
@[simp] theorem aa2{o:UnOp}{t:TypeId}{x:Operand}:fM P T E ops q (true::bs) ({dst:=d,op:=.unOp o t x,type:=ty,pos:=pos,after:=after,guard:=none}::rest) K fr H=match unA o (ev T fr x)with|some v=>fM P T E ops q bs rest K (fr.put d v) H|none=>False:=rfl
@[simp] theorem XT{s t:TypeId}{x:Operand}:fM P T E ops q (true::bs) ({dst:=d,op:=.convert s t x,type:=ty,pos:=pos,after:=after,guard:=none}::rest) K fr H=match ON P s t (ev T fr x)with|some v=>fM P T E ops q bs rest K (fr.put d v) H|none=>False:=rfl
@[simp] theorem Wt{fn:Fn}{f c:Array Operand}:fM P T E ops q (true::bs) ({dst:=d,op:=.makeFunc fn f c,type:=ty,pos:=pos,after:=after,guard:=none}::rest) K fr H=fM P T E ops q bs rest K (fr.put d (.func fn (f.toList.map λx=>(ev T fr x).norm) (c.toList.map λx=>(ev T fr x).norm))) H:=rfl
@[simp] theorem VB{t i:Nat}{x:Operand}:fM P T E ops q (true::bs) ({dst:=d,op:=.fieldAddr t x i,type:=ty,pos:=pos,after:=after,guard:=none}::rest) K fr H=match vw P t (ev T fr x) i with|some v=>fM P T E ops q bs rest K (fr.put d v) H|none=>False:=rfl
@[simp] theorem ZX{t i:Nat}{x:Operand}:fM P T E ops q (true::bs) ({dst:=d,op:=.field t x i,type:=ty,pos:=pos,after:=after,guard:=none}::rest) K fr H=match DM P t (ev T fr x) i with|some v=>fM P T E ops q bs rest K (fr.put d v) H|none=>False:=rfl
@[simp] theorem VG{t:TypeId}{x i:Operand}:fM P T E ops q (true::bs) ({dst:=d,op:=.indexAddr t x i,type:=ty,pos:=pos,after:=after,guard:=none}::rest) K fr H=match gO P t (ev T fr x) (ev T fr i)with|some v=>fM P T E ops q bs rest K (fr.put d v) H|none=>False:=rfl
@[simp] theorem ZH{t:TypeId}{x i:Operand}:fM P T E ops q (true::bs) ({dst:=d,op:=.index t x i,type:=ty,pos:=pos,after:=after,guard:=none}::rest) K fr H=match JE P t (ev T fr x) (ev T fr i)with|some v=>fM P T E ops q bs rest K (fr.put d v) H|none=>False:=rfl
@[simp] theorem Zz{t:TypeId}{x:Operand}{lo hi a:Option Operand}:fM P T E ops q (true::bs) ({dst:=d,op:=.slice t x lo hi a,type:=ty,pos:=pos,after:=after,guard:=none}::rest) K fr H=match sq P t (ev T fr x) (lo.map (ev T fr)) (hi.map (ev T fr)) (a.map (ev T fr))with|some v=>fM P T E ops q bs rest K (fr.put d v) H|none=>False:=rfl
@[simp] theorem XO{i:Nat}{x:Operand}:fM P T E ops q (true::bs) ({dst:=d,op:=.extract x i,type:=ty,pos:=pos,after:=after,guard:=none}::rest) K fr H=match zs P T fr {dst:=d,op:=.extract x i,type:=ty,pos:=pos,after:=after,guard:=none}with|some v=>fM P T E ops q bs rest K (fr.put d v) H|none=>False:=rfl
@[simp] theorem Xb{x:Operand}:fM P T E ops q (true::bs) ({dst:=d,op:=.nilCheck x,type:=ty,pos:=pos,after:=after,guard:=none}::rest) K fr H=match zs P T fr {dst:=d,op:=.nilCheck x,type:=ty,pos:=pos,after:=after,guard:=none}with|some v=>fM P T E ops q bs rest K (fr.put d v) H|none=>False:=rfl
@[simp] theorem Sk{t:TypeId}{x:Operand}:fM P T E ops q (true::bs) ({dst:=d,op:=.makeInterface t x,type:=ty,pos:=pos,after:=after,guard:=none}::rest) K fr H=match zs P T fr {dst:=d,op:=.makeInterface t x,type:=ty,pos:=pos,after:=after,guard:=none}with|some v=>fM P T E ops q bs rest K (fr.put d v) H|none=>False:=rfl
@[simp] theorem ZK{op:Op}{j:Nat}{want:Bool}:fM P T E ops q (true::bs) ({dst:=d,op:=op,type:=ty,pos:=pos,after:=after,guard:=some (j,want)}::rest) K fr H=match(ops[j]?).bind (·.dst)with
  |some g=>match fr.env g with
   |.sc (.bool b)=>if b=want then fM P T E ops q (true::bs) ({dst:=d,op:=op,type:=ty,pos:=pos,after:=after,guard:=none}::rest) K fr H else fM P T E ops q bs rest K (fr.put d (.tuple [])) H|.tuple _=>fM P T E ops q bs rest K (fr.put d (.tuple [])) H|_=>False
  |none=>False:=by
 simp only[fM,iX,iW]
 cases a:(ops[j]?).bind (·.dst)with
 |none=>rfl|some g=>
  simp only;cases he:fr.env g with
  |sc v=>
   cases v with
   |bool b=>
    simp only
    by_cases hw:b=want
    ·subst hw;simp only[beq_self_eq_true,if_true];rfl
    ·rw[cI hw]
     have:(b==want)=false:=by simpa using hw
     rw[this]
   |_=>rfl
  |_=>rfl
end
end Go.ns
namespace Go.ns
open Go Go.ek
def pX(k:Nat):Option Nat->AV
 |none=>.sc (.pointer none)|some p=>.eS (k+p) 0
@[simp] theorem ac8(k:Nat):pX k none=.sc (.pointer none):=rfl
@[simp] theorem ad1(k p:Nat):pX k (some p)=.eS (k+p) 0:=rfl
@[simp] theorem afb(k:Nat)(x:Option Nat):(pX k x).gw=true:=by cases x<;>rfl
@[simp] theorem acE(k:Nat)(x:Option Nat):(pX k x).cells=[pX k x]:=by cases x<;>rfl
@[simp] theorem afT(k:Nat)(x:Option Nat):e9 (pX k x)=true:=by cases x<;>rfl
@[simp] theorem adr(k:Nat)(x:Option Nat):(pX k x).norm=pX k x:=by cases x<;>rfl
@[simp] theorem acI(k:Nat)(x:Option Nat):(pX k x).kM=pX k x:=by cases x<;>rfl
@[simp] theorem adb(P:Program)(ty:TypeId)(k:Nat)(x:Option Nat):vX P ty (pX k x)=match fw P ty with|some (false,_)=>true|_=>false:=by
 cases x with
 |none=>exact Zd P ty _|some p=>exact Vv P ty _ _
def Bg{C:Type}(c:Nat->C->List AV)(k:Nat)(l:List C):dd:=l.map (c k)
@[simp] theorem YZ{C:Type}(c:Nat->C->List AV)(k:Nat)(l:List C):(Bg c k l).length=l.length:=by simp[Bg]
@[simp] theorem acG{C:Type}(c:Nat->C->List AV)(k:Nat)(l:List C)(p:Nat):(Bg c k l)[p]?=(l[p]?).map (c k):=by simp[Bg]
def tJ{C:Type}{c:Nat->C->List AV}{k:Nat}{l:List C}{p:Nat}{x:C}{cs:List AV}(h:cs=c k x):fH (Bg c k l) p cs=Bg c k (l.set p x):=by
 subst h;simp only[fH,Bg,List.map_set]
def O3{C:Type}{c:Nat->C->List AV}{k:Nat}{l:List C}{x:C}{cs:List AV}(h:cs=c k x):Bg c k l++[cs]=Bg c k (l++[x]):=by
 subst h;simp[Bg]
def Bh{C:Type}{l:List C}{p:Nat}{x y:C}(h:l[p]?=some y):(l.set p x)[p]?=some x:=by
 have:p<l.length:=(qb.1 h).1;simp[this]
def Ug{C:Type}{l:List C}{x:C}:(l++[x])[l.length]?=some x:=aaB
def fl.Ze{C:Type}{c:Nat->C->List AV}{P:Program}{T:ec}{f:FuncId}{args:List AV}{H:dd}{Post:AV->dd->Prop}(h:fl P T f args (H++Bg c H.length []) Post):fl P T f args H Post:=by
 simpa[Bg] using h
section
variable{P:Program} {t e:TypeId} {k:Nat} {x:Option Nat}
def Xy(hu:P.underlying t=some (.pointer e)):p9 P .eql t (pX k x) (.sc (.pointer none))=some (.sc (.bool x.isNone)):=by
 cases x<;>simp[p9,vO,hu]
def Wz(hu:P.underlying t=some (.pointer e)):p9 P .neq t (pX k x) (.sc (.pointer none))=some (.sc (.bool x.isSome)):=by
 cases x<;>simp[p9,vO,hu]
end
end Go.ns
namespace Go.ns
open Go Go.ek
def yA{α:Type}(f:α->AV)(L:List α)(k:Nat):List AV:=(L.map f).flatMap AV.cells++BZ k
@[irreducible] def QU(i sz:Nat):Nat:=i*sz
def LM(i sz:Nat):QU i sz=i*sz:=by unfold QU;rfl
section
variable{α:Type} {f:α->AV} {L:List α} {k sz:Nat}
def uu(h:∀x,(f x).cells.length=sz)(L:List α):((L.map f).flatMap AV.cells).length=L.length*sz:=by
 rw[rX (sz:=sz)]
 ·simp
 ·intro x a;obtain⟨y,_,rfl⟩:=nU.1 a;exact h y
def Bi(h:∀x,(f x).cells.length=sz):(yA f L k).length=L.length*sz+k:=by
 unfold yA;rw[qI,uu h];simp[BZ]
def FP(h:∀x,(f x).cells.length=sz):(yA f L k).take (L.length*sz)=(L.map f).flatMap AV.cells:=by
 unfold yA;rw[abV (by rw[uu h];exact ig _),Y' (by rw[uu h];exact ig _)]
def V'(h:∀x,(f x).cells.length=sz){i:Nat}{y:α}(hi:i<L.length):setCells (yA f L k) (i*sz) (f y).cells=yA f (L.set i y) k:=by
 unfold setCells yA;have hlen:=uu h L
 have hle:i*sz+sz<=L.length*sz:=by
  rw[<-SU];exact Lt _ hi
 rw[h y,abV VW,List.drop_append_of_le_length VW,<-ry]
 congr 1
 have a:L.set i y=L.take i++y::L.drop (i+1):=List.set_eq_take_append_cons_drop▸(by rw[cK hi]);rw[a,V1,y5,U',Es]
 have hm:∀x∈L.map f,x.cells.length=sz:=by
  intro x b;obtain⟨z,_,rfl⟩:=nU.1 b;exact h z
 have c:i*sz+sz=(i+1)*sz:=by rw[SU]
 rw[c,<-HR hm,<-CQ hm,List.map_take,List.map_drop,ry]
end
def MX{α:Type}{f:α->AV}(a:∀x,(f x).cells.map AV.kM=(f x).cells)(L:List α):(L.map f).flatMap AV.cells=((L.map f).flatMap AV.cells).map AV.kM:=by
 induction L with
 |nil=>rfl|cons x L b=>simp only[y5,Es,V1,a,<-b]
def w_.aah{P:Program}{t e sz d:Nat}{s x:AV}{K:Fr->dd->Prop}{fr:Fr}{H:dd}{α:Type}{f:α->AV}(m:List α){b:Tag}
  (c:rp P t=some (e,sz)) (g:∃k,hE P e=some k) (h:∀x,(f x).cells.length=sz) (hlen:wx m=true) (hs:s=.slice .full []) (o:x=.slice b (m.map f))
  (p:∀cap,m.length<=cap->K {fr with env:=ia fr.env d (.A3 d (fr.gen d+1) m.length cap),box:=ia fr.box d (some (yA f m ((cap-m.length)*sz))),gen:=ia fr.gen d (fr.gen d+1)} H):w_ P t s x d K fr H:=by
 subst hs;subst o
 have n:0<m.length/\m.length<=NS:=by simpa[wx] using hlen
 have i:∀l:List α,mN sz (l.map f)=true:=λl=>by cases l with|nil=>rfl|cons a l=>simp[h]
 obtain⟨k,g⟩:=g;refine .inl (.inr ?_);unfold VM;rw[c];refine⟨i m,by rw[g];rfl,by simpa using n.1,rfl,by simpa[mw,NS] using n.2,λcap q=>?_⟩
 have j:m.length<=cap:=by simpa using q
 have:=p cap j;simp only[CP,List.flatMap_nil,kW,tY,tG,Eb];exact this
theorem w_.i_{P:Program}{t e sz d:Nat}{s x:AV}{K:Fr->dd->Prop}{fr:Fr}{H:dd}{α:Type}{f:α->AV}(L m:List α){cap:Nat}{n:Tag}
  (o:rp P t=some (e,sz)) (p:∃y,hE P e=some y) (c:∀x,(f x).cells.length=sz) (hlen:eM L m=true) (hm:0<m.length) (hs:s=.A3 d (fr.gen d) L.length cap) (B:x=.slice n (m.map f))
  (C:fr.box d=some (yA f L ((cap-L.length)*sz))) (q:L.length<=cap)
  (z:∀A b,(eV L m).length<=b->K {fr with env:=ia fr.env d (.A3 d A (eV L m).length b),box:=ia fr.box d (some (yA f (eV L m) ((b-(eV L m).length)*sz))),gen:=ia fr.gen d A} H):w_ P t s x d K fr H:=by
 subst hs;subst B;have D:L.length+m.length<=NS:=RD hlen
 have r:∀l:List α,mN sz (l.map f)=true:=λl=>by cases l with|nil=>rfl|cons a l=>simp[c]
 obtain⟨y,p⟩:=p;have u:=uu c L;have v:=uu c m;have g:(eV L m).length=L.length+m.length:=A' L m
 have i:(L.map f).flatMap AV.cells++(m.map f).flatMap AV.cells=((eV L m).map f).flatMap AV.cells:=by simp[eV]
 refine .inl (.inr ?_);unfold VM;rw[o];refine⟨r m,by rw[p];rfl,by simpa using hm,rfl,by simpa[mw,NS] using D,?_⟩;rw[C];simp only[Eb];refine⟨?_,λE=>?_,λb I F=>?_⟩
 ·rw[Bi c,Nat.sub_mul];have:=Lt sz q;omega
 ·have k:=z (fr.gen d) cap (by rw[g];exact E)
  have G:ia fr.gen d (fr.gen d)=fr.gen:=by
   funext j
   simp only[ia]
   split
   ·rename_i h;rw[h]
   ·rfl
  have w:setCells (yA f L ((cap-L.length)*sz)) (L.length*sz) ((m.map f).flatMap AV.cells)=yA f (eV L m) ((cap-(eV L m).length)*sz):=by
   unfold setCells;rw[FP c];unfold yA;rw[<-i,aap,H9 VW,kW,u,v,g]
   have:L.length*sz+m.length*sz-L.length*sz=m.length*sz:=VW
   rw[this];unfold BZ;rw[List.drop_replicate,<-Nat.sub_mul,Nat.sub_sub]
  rw[G,<-w,g] at k;exact k
 ·have k:=z (fr.gen d+1) b (by rw[g];exact F)
  have w:(yA f L ((cap-L.length)*sz)).take (L.length*sz)++(m.map f).flatMap AV.cells++BZ ((b-(L.length+m.length))*sz)=yA f (eV L m) ((b-(eV L m).length)*sz):=by
   rw[FP c,g];unfold yA;rw[i]
  unfold CP;rw[w,<-g];exact k
@[simp] theorem aeK{P:Program}{t:TypeId}{b g n c:Nat}:Lm P t (.A3 b g n c)=match P.underlying t with|some (.slice _)=>some (.sc (.int .i64 n))|some (.array n _)=>some (.sc (.int .i64 n))|_=>none:=by
 unfold Lm;cases P.underlying t with
 |none=>rfl|some y=>cases y<;>rfl
@[simp] theorem WK{P:Program}{t:TypeId}{k:IntKind}{a:Int}{b g n c:Nat}:gO P t (.A3 b g n c) (.sc (.int k a))=match P.underlying t with
  |some (.slice e)=>match fw P e with
   |some (_,sz)=>if 0<=a/\a<(n:Int)then some (.jo b g (QU a.toNat sz))else none|none=>none
  |_=>none:=by
 unfold gO;simp only[LM];cases P.underlying t with
 |none=>rfl|some y=>cases y<;>rfl
def EC(P:Program)(t:TypeId)(b g i sz:Nat)(v:AV)(K:Fr->dd->Prop)(fr:Fr)(H:dd):Prop:=o6 P t (.jo b g (QU i sz)) v K fr H
@[simp high] theorem Z4{P:Program}{t:TypeId}{b g i sz:Nat}{v:AV}{K:Fr->dd->Prop}{fr:Fr}{H:dd}:o6 P t (.jo b g (QU i sz)) v K fr H=EC P t b g i sz v K fr H:=rfl
def EC.arr{P:Program}{t:TypeId}{b g sz k:Nat}{a:Int}{bl:Bool}{v:AV}{K:Fr->dd->Prop}{fr:Fr}{H:dd}{α:Type}{f:α->AV}{L:List α}{x:α}(y:α)(h:fw P t=some (bl,sz))(c:∀x,(f x).cells.length=sz)
  (e:e9 (f y)=true) (hi:df L a=some x) (hg:g=fr.gen b) (i:fr.box b=some (yA f L k)) (j:v=f y) (l:K {fr with box:=ia fr.box b (some (yA f (xk L a y) k))} H):EC P t b g a.toNat sz v K fr H:=by
 subst j;have hi':=RX hi;have d:=(qb.1 hi').1
 have hle:a.toNat*sz+sz<=L.length*sz:=by
  rw[<-SU];exact Lt _ d
 unfold EC;simp only[o6,h,i];refine⟨hg,c y,by rw[LM,Bi c];omega,e,?_⟩;rw[LM,V' c d];exact l
def iU.R7{α β:Type}{R:α->β->Prop}:∀{as:List α} {bs:List β} {i:Nat} {a0 a:α},iU R as bs->as[i]?=some a0->(∀b,bs[i]?=some b->R a b)->iU R (as.set i a) bs
 |_,_,_,_,_,.nil,h,_=>by simp at h
 |_,_,0,_,_,.cons d c,_,h=>.cons (h _ rfl) c|_,_,i+1,_,_,.cons d c,e,h=>.cons d (iU.R7 c (by simpa using e) (λb f=>h b (by simpa using f)))
section
variable{P:Program} {T:ec} {n B0:Nat} {ρ:Maps} {F:nc} {R:Nat->si} {fr:Fr} {H:dd} {a:Act} {w:World}
def WR.unbox(h:WR T n B0 ρ F R fr H a w){d:Nat}{cs:List AV}(x:fr.box d=some cs):∃p,p (ρ.L d (fr.gen d))=.free/\WR T n B0 ρ F p {fr with box:=ia fr.box d none} H a w:=by
 obtain⟨D,y,E,vs,ty,G,I⟩:=h.box d cs x
 let p:Nat->si:=ia R (ρ.L d (fr.gen d)) .free
 have i:∀b,R b≠ .box d->p b=R b:=by
  intro b f;show ia R (ρ.L d (fr.gen d)) .free b=R b;unfold ia;rw[cI];rintro rfl;exact f y
 refine⟨p,by show ia R _ _ _=_;simp[ia],⟨h.g,h.size,h.defers,h.env,h.hn,h.lg,h.ag,?_,?_,?_,?_,?_,h.tU⟩⟩
 ·intro r s l;simp only[ia] at l
  by_cases he:r=d
  ·subst he;simp at l
  ·rw[cI he] at l;obtain⟨t,q,u⟩:=h.box r s l;exact⟨t,by rw[i _ (by rw[q];simp[he])];exact q,u⟩
 ·intro k m z b c sz A;obtain⟨t,q,u⟩:=h.tok k m z b c sz A;exact⟨t,by rw[i _ (by rw[q];simp)];exact q,u⟩
 ·intro b j v B
  by_cases f:b=ρ.L d (fr.gen d)
  ·subst f;intro r;show ia R _ _ _≠_;simp[ia]
  ·have e:p b=R b:=by show ia R _ _ _=_;simp[ia,f]
   rw[e];exact h.s5 b j v B
 ·intro o C;have:=h.qa o C;rw[i _ (by rw[this];simp)];exact this
 ·intro b f;have:=h.ny b f;rw[i _ (by rw[this];simp)];exact this
def iU.US{F:nc}{ρ:Maps}{cs:List AV}{vs:List Value}(h:iU (lH F ρ) cs vs):iU (ic F ρ.G ρ.n) (cs.map AV.kM) vs:=h.Az AV.kM λ_ _ _ h=>h.kM
def WR.OT(h:WR T n B0 ρ F R fr H a w){d len cap sz:Nat}{cs els:List AV}(z:fr.box d=some cs)(D:els.length=len)(hs:∀x∈els,x.cells.length=sz)
  (A:els.flatMap AV.cells=(cs.take (len*sz)).map AV.kM) (hle:len*sz<=cs.length) (E:len<=cap) (q:cap<=maxLen):∃F' r,zc F F' ρ ρ/\(∀b j,b<B0->F' b j=F b j)/\WR T n B0 ρ F' r {fr with box:=ia fr.box d none} H a w/\ic F' ρ.G ρ.n (.slice .jU els) (.slice (some ⟨ρ.L d (fr.gen d),0,none⟩) len cap):=by
 obtain⟨P,I,B,vs,ty,J,s⟩:=h.box d cs z;obtain⟨r,i,hw⟩:=h.unbox z
 have hF:∀j,F (ρ.L d (fr.gen d)) j=none:=by
  intro j;cases K:F (ρ.L d (fr.gen d)) j with
  |none=>rfl|some v=>
   exact absurd I (h.s5 _ j v K d)
 have M:vs.toList.length=cs.length:=s.length.symm
 have N:(vs.toList.take (len*sz)).length=len*sz:=by rw[Dr];omega
 obtain⟨m,t⟩:=hw.freeze (us:=vs.toList.take (len*sz)) (k:=(vs.toList.take (len*sz)).length) i hF J (λu hu=>lr s B u hu) (by
  intro j v _ p;rw[Me] at p
  split at p
  ·simpa using p
  ·cases p)
 refine⟨_,r,m,λb j O=>yh VW,t,?_⟩
 have e:iU (ic F ρ.G ρ.n) (els.flatMap AV.cells) (vs.toList.take (len*sz)):=by
  rw[A];exact(s.take (len*sz)).US
 have C:=ic.slice (F:=mE F (ρ.L d (fr.gen d)) (vs.toList.take (len*sz)).length (vs.toList.take (len*sz))) (G:=ρ.G) (n:=ρ.n) (tag:=.jU) (l:=els) (b:=ρ.L d (fr.gen d)) (o:=0)
  (base:=some ⟨ρ.L d (fr.gen d),0,none⟩) (cap:=cap) (sz:=sz) (vs:=vs.toList.take (len*sz)) (.so (e.mono λ_ _ _ h=>h.grow m.g)) (Bb _ _ _) (λ_=>rfl) hs (by
   intro c f;rw[A] at f
   exact B_ (λc y=>B c (Hi y)) c f) VW q (.inl rfl)
 rw[D] at C;exact C
def gM.adG{α:Type}{c:Code}{Q:Exit->Fr->dd->Prop}{f:α->AV}(t:Nat){L:List α}{k sz d g cap:Nat}(l:∀x,(f x).cells.length=sz)(o:∀x,(f x).cells.map AV.kM=(f x).cells)
  (he:fr.env t=.A3 d g L.length cap) (hg:g=fr.gen d) (C:fr.box d=some (yA f L k))
  (h:gM P T n c Q {fr with env:=ia fr.env t (.slice .jU (L.map f)),box:=ia fr.box d none} H):gM P T n c Q fr H:=by
 intro G0 F0 n0 w0 a w hs;refine h G0 F0 n0 w0 a w ?_;obtain⟨ρ,F,R,hw,q⟩:=hs;have m:=hw.env t;rw[he] at m;obtain⟨D,E,r,s⟩:=E8 m
 have u:∀x∈L.map f,x.cells.length=sz:=by
  intro x q;obtain⟨y,_,rfl⟩:=nU.1 q;exact l y
 obtain⟨F',G,v,z,i,I⟩:=hw.OT (els:=L.map f) (len:=L.length) (cap:=cap) (sz:=sz) C aaB u (by rw[FP l];exact MX o L) (by rw[Bi l];omega) r s;refine⟨ρ,F',G,⟨i.g,i.size,i.defers,?_,i.hn,i.lg,i.ag,i.box,i.tok,i.s5,i.qa,i.ny,i.tU⟩,?_⟩
 ·intro B;show h_ F' ρ (ia fr.env t (.slice .jU (L.map f)) B) _;simp only[ia]
  split
  ·rename_i e;subst e;rw[D,hg];exact .p I
  ·exact(hw.env B).grow v
 ·exact q.freeze λb j A=>z b j A
def gM.afK{α:Type}{c:Code}{Q:Exit->Fr->dd->Prop}{f:α->AV}(d2 i:Nat){cs2:List AV}{L:List α}{k sz d g cap:Nat}(m:∀x,(f x).cells.length=sz)(t:∀x,(f x).cells.map AV.kM=(f x).cells)
  (v:d2≠d) (he:fr.box d2=some cs2) (hi:cs2[i]?=some (.A3 d g L.length cap)) (hg:g=fr.gen d) (V:fr.box d=some (yA f L k))
  (h:gM P T n c Q {fr with box:=ia (ia fr.box d none) d2 (some (cs2.set i (.slice .jU (L.map f))))} H):gM P T n c Q fr H:=by
 intro G0 F0 n0 w0 a w hs;refine h G0 F0 n0 w0 a w ?_;obtain⟨ρ,F,R,hw,z⟩:=hs;obtain⟨_,_,A,B,W,C,D⟩:=hw.box d2 cs2 he;obtain⟨u,hu,E⟩:=D.get hi;obtain⟨X,Y,G,I⟩:=E8 (.cell E)
 have J:∀x∈L.map f,x.cells.length=sz:=by
  intro x z;obtain⟨y,_,rfl⟩:=nU.1 z;exact m y
 obtain⟨F',Z,aa,K,e,hp⟩:=hw.OT (els:=L.map f) (len:=L.length) (cap:=cap) (sz:=sz) V aaB J (by rw[FP m];exact MX t L) (by rw[Bi m];omega) G I
 have M:({fr with box:=ia fr.box d none}:Fr).box d2=some cs2:=by simp[ia,v,he]
 refine⟨ρ,F',Z,⟨e.g,e.size,e.defers,e.env,e.hn,e.lg,e.ag,?_,e.tok,e.s5,e.qa,e.ny,e.tU⟩,?_⟩
 ·intro o N l;simp only[ia] at l
  by_cases q:o=d2
  ·subst q;simp only[if_true,wh] at l;subst l;obtain⟨e1,e2,e3,vs',r,U,e5⟩:=e.box o cs2 M;refine⟨e1,e2,?_,vs',r,U,?_⟩
   ·intro c hc;rcases adv hc with h'|h'
    ·exact e3 c h'
    ·rw[h'];rfl
   ·have O:vs'.toList=B.toList:=by
     have:w.heap[ρ.L o (fr.gen o)]?=some (.cells vs' r (0,0)):=U;rw[C] at this;injection this with this;injection this with this;rw[this]
    refine iU.R7 e5 hi ?_;intro u' s;rw[O,hu] at s;obtain rfl:=gB s;rw[X,hg];exact .p hp
  ·simp only[cI q] at l;exact e.box o N (by simpa[ia] using l)
 ·exact z.freeze λb j S=>K b j S
end
end Go.ns
