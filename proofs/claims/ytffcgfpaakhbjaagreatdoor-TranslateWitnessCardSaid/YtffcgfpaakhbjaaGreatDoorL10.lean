/- Part of the proof of TranslateWitness: layer. -/
import Derived.Test.YtffcgfpaakhbjaaGreatDoorL9
set_option linter.all false
namespace Go.jX
open Go
mutual
def AV.low(k:Nat):AV->Bool
 |.undef=>true|.sc _=>true|.ji x=>x.low k|.gJ _ _ _=>true|.de o _=>decide (o<k)|.slice _ l=>AV.gD k l|.agg l=>AV.gD k l|.tuple l=>AV.gD k l|.func _ f c=>AV.gD k f&&AV.gD k c|.iface _ x=>x.low k|.tB _ _ _ _=>true|.nc o=>decide (o<k)|.nU o _ _ _=>decide (o<k)|.B4=>true|.uJ _ xs=>AV.gD k xs|.kH o _ _=>decide (o<k)
def AV.gD(k:Nat):List AV->Bool
 |[]=>true|x::l=>x.low k&&AV.gD k l
end
def AV.rA{k:Nat}:∀{l:List AV},AV.gD k l=true↔∀x∈l,x.low k=true
 |[]=>by simp[AV.gD]|x::l=>by simp[AV.gD,AV.rA (l:=l)]
def AV.Hn{k:Nat}{x:AV}(h:x.low k=true):AV.gD k x.cells=true:=by
 cases x<;>simp_all [AV.low,AV.cells,AV.gD]
def AV.QE{k:Nat}{l:List AV}(h:AV.gD k l=true):AV.gD k (l.flatMap AV.cells)=true:=by
 rw[AV.rA] at h|-;intro x a;obtain⟨y,hy,a⟩:=S6.1 a;exact AV.rA.1 (AV.Hn (h y hy)) x a
@[simp] theorem AV.aaf{α:Type}{k:Nat}(f:α->Value)(l:List α):AV.gD k (List.map (λn=>AV.sc (f n)) l)=true:=by
 rw[AV.rA];intro x a;obtain⟨y,_,rfl⟩:=kI.1 a;rfl
section
variable{F:jf} {G:Nat->Nat} {n k:Nat}
mutual
def eE.lower:∀{x v},eE F G n x v->x.low k=true->eE F G k x v
 |_,_,.undef h,_=>.undef h|_,_,.sc h,_=>.sc h|_,_,.ji b c d,a=>.ji (b.lower (AV.Hn (by simpa[AV.low] using a))) c d|_,_,.de h,a=>.de (by simpa[AV.low] using a)|_,_,.nc h,a=>.nc (by simpa[AV.low] using a)|_,_,.nU h c d,a=>.nU (by simpa[AV.low] using a) c d|_,_,.slice b c d e f g i j,a=>.slice (b.lower (AV.QE (by simpa[AV.low] using a))) c d e f g i j|_,_,.B4,_=>.B4|_,_,.agg b c,a=>.agg (b.lower (by simpa[AV.low] using a)) c|_,_,.tuple b,a=>.tuple (b.lower (by simpa[AV.low] using a))|_,_,.func b c,a=>by
  simp only[AV.low,ed] at a;exact .func (b.lower a.1) (c.lower a.2)
 |_,_,.iface b,a=>.iface (b.lower (by simpa[AV.low] using a))
def eT.lower:∀{xs vs},eT F G n xs vs->AV.gD k xs=true->eT F G k xs vs
 |_,_,.nil,_=>.nil|_,_,.cons b c,a=>by
  simp only[AV.gD,ed] at a;exact .cons (b.lower a.1) (c.lower a.2)
end
end
def jM.lower{F:jf}{G:Nat->Nat}{n k:Nat}{cs d}(h:jM F G n cs d)(a:AV.gD k cs=true):jM F G k cs d:=by
 cases h with
 |cells e b c=>exact .cells e ((eT.m6 b).lower a).rL c|map b c f g i=>exact .map b ((eT.m6 c).lower (by simpa[AV.gD,AV.low] using a)).rL f g i|iter h=>exact .iter (by simpa[AV.gD,AV.low] using a)|dead=>exact .dead
def du.drop{P:Program}{T:cW}{f:FuncId}{args:List AV}{H:cd}{Post Post':AV->cd->Prop}(h:du P T f args H Post)
  (t:∀r H',Post r H'->∃H0 X,H'=H0++X/\H.length<=H0.length/\r.low H0.length=true/\(∀cs∈H0,AV.gD H0.length cs=true)/\Post' r H0):du P T f args H Post':=by
 refine⟨h.1,λG F w vs hg u=>(h.2 G F w vs hg u).mono ?_⟩;rintro e w' ⟨r,H',v,G',F',l,rfl,i,y,a⟩;obtain⟨H0,X,rfl,hlen,z,m,A⟩:=t r H' l
 have k:∀b o v,F b o=some v->F' b o=some v:=by
  intro b o v n
  have hb:b<w.heap.size:=by
   rcases rI b w.heap.size with hb|hb
   ·exact hb
   ·rw[hg.fresh b o hb] at n;cases n
  exact a.mF b o v hb n
 have d:∀o,o<H0.length->o<(H0++X).length:=λo c=>by rw[nd];omega
 refine⟨r,H0,v,G',F',A,rfl,?_,y.lower z,?_⟩
 ·refine⟨i.Ea,?_,λo o' c p=>i.inj o o' (d o c) (d o' p),λo j c q=>i.gF o j (d o c) (by rw[ni c];exact q),i.fresh,λg x B=>?_,i.row⟩
  ·intro o cs c;have s:o<H0.length:=(jL.1 c).1;obtain⟨C,D,E⟩:=i.kq o cs (by rw[ni s];exact c);exact⟨C,D,E.lower (m cs (zT c))⟩
  ·exact(hg.CN g x B).grow ⟨k,hlen,λo c=>a.hG o c⟩
 ·exact⟨a.os,a.tape,a.output,a.size,hlen,a.hG,λo l I=>a.JX o l (d o I),a.hF,a.mF,a.heap⟩
end Go.jX
namespace Go.jX
open Go
def AV.Af{k:Nat}{x:AV}(h:AV.gD k x.cells=true):x.low k=true:=by
 cases x<;>simp_all [AV.low,AV.cells,AV.gD]
def AV.IK{k:Nat}{l:List AV}(h:AV.gD k (l.flatMap AV.cells)=true):AV.gD k l=true:=by
 rw[AV.rA] at h|-;intro x a;exact AV.Af (AV.rA.2 λy hy=>h y (S6.2 ⟨x,a,hy⟩))
section
variable{F:jf} {G:Nat->Nat} {n:Nat}
mutual
def eE.tf:∀{x v},eE F G n x v->x.low n=true
 |_,_,.undef _=>rfl|_,_,.sc _=>rfl|_,_,.ji a _ _=>by simpa[AV.low] using AV.Af a.tf|_,_,.de h=>by simpa[AV.low] using h|_,_,.nc h=>by simpa[AV.low] using h|_,_,.nU h _ _=>by simpa[AV.low] using h|_,_,.slice a _ _ _ _ _ _ _=>by simpa[AV.low] using AV.IK a.tf|_,_,.B4=>rfl|_,_,.agg a _=>by simpa[AV.low] using a.tf|_,_,.tuple a=>by simpa[AV.low] using a.tf|_,_,.func a b=>by simp[AV.low,a.tf,b.tf]|_,_,.iface a=>by simpa[AV.low] using a.tf
def eT.tf:∀{xs vs},eT F G n xs vs->AV.gD n xs=true
 |_,_,.nil=>rfl|_,_,.cons a b=>by simp[AV.gD,a.tf,b.tf]
end
end
def jM.tf{F:jf}{G:Nat->Nat}{n:Nat}{cs c}(h:jM F G n cs c):AV.gD n cs=true:=by
 cases h with
 |cells d a b=>exact(eT.m6 a).tf|map a b e f g=>simpa[AV.gD,AV.low] using(eT.m6 b).tf|iter h=>simpa[AV.gD,AV.low] using h|dead=>rfl
def du.xF{P:Program}{T:cW}{f:FuncId}{args:List AV}{H:cd}{Post Post':AV->cd->Prop}(h:du P T f args H Post)
  (d:∀r H',Post r H'->∃X,H'=H++X/\r.low H.length=true/\Post' r H):du P T f args H Post':=by
 refine⟨h.1,λG F w vs hg g=>?_⟩
 have a:∀cs∈H,AV.gD H.length cs=true:=by
  intro cs b;obtain⟨o,i⟩:=R6.1 b;obtain⟨m,_,j⟩:=hg.kq o cs i;exact j.tf
 exact(du.drop (Post':=Post') h λr H' k=>by
  obtain⟨X,e,l,c⟩:=d r H' k
  exact⟨H,X,e,fC _,l,a,c⟩).2 G F w vs hg g
end Go.jX
namespace Go.jX
open Go Go.dF
mutual
def AV.Eb{k n:Nat}(h:k<=n):∀{x:AV},x.low k=true->x.low n=true
 |.undef,_=>rfl|.sc _,_=>rfl|.ji x,a=>by simpa[AV.low] using AV.Eb h (x:=x) (by simpa[AV.low] using a)|.gJ _ _ _,_=>rfl|.de o _,a=>by simp[AV.low] at a|-;omega
 |.nU o _ _ _,a=>by simp[AV.low] at a|-;omega
 |.slice _ l,a=>by simpa[AV.low] using AV.px h (l:=l) (by simpa[AV.low] using a)|.agg l,a=>by simpa[AV.low] using AV.px h (l:=l) (by simpa[AV.low] using a)|.tuple l,a=>by simpa[AV.low] using AV.px h (l:=l) (by simpa[AV.low] using a)|.func _ f c,a=>by
  simp only[AV.low,ed] at a|-;exact⟨AV.px h a.1,AV.px h a.2⟩
 |.iface _ x,a=>by simpa[AV.low] using AV.Eb h (x:=x) (by simpa[AV.low] using a)|.tB _ _ _ _,_=>rfl|.B4,_=>rfl|.nc o,a=>by simp[AV.low] at a|-;omega
 |.uJ _ l,a=>by simpa[AV.low] using AV.px h (l:=l) (by simpa[AV.low] using a)|.kH o _ _,a=>by simp[AV.low] at a|-;omega
def AV.px{k n:Nat}(h:k<=n):∀{l:List AV},AV.gD k l=true->AV.gD n l=true
 |[],_=>rfl|x::l,a=>by
  simp only[AV.gD,ed] at a|-;exact⟨AV.Eb h a.1,AV.px h a.2⟩
end
def GG{H:cd}{o:Nat}{c:List AV}(h:H[o]?=some c):o<H.length:=(jL.1 h).1
def G6{H:cd}{o:Nat}{c:List AV}(h:H[o]?=some c):dC H o c=H:=by
 apply PZ;intro i;simp only[dC];rw[S_]
 split
 ·rename_i e;subst e;rw[bX (GG h),h]
 ·rfl
def Inb(H:cd)(o:Nat):Prop:=o<H.length
def fu{H:cd}{o:Nat}{c:List AV}(h:H[o]?=some c):Inb H o:=GG h
def RG{H:cd}{o:Nat}{c:List AV}(h:Inb H o):(dC H o c)[o]?=some c:=by simp[dC,show o<H.length from h]
def JD{H:cd}{o o':Nat}{c:List AV}(h:o≠o'):(dC H o c)[o']?=H[o']?:=by simp[dC,S_,h]
def OF{H:cd}{o o':Nat}{c d e:List AV}(h:o≠o'):dC (dC (dC H o c) o' d) o e=dC (dC H o e) o' d:=by
 simp only[dC];rw[List.set_comm _ _ h.symm,List.set_set]
def L6{A B:cd}{o:Nat}(h:Inb A o):(A++B)[o]?=A[o]?:=ni h
def IZ{A B:cd}{o:Nat}{c:List AV}(h:Inb A o):dC (A++B) o c=dC A o c++B:=by simp[dC,List.set_append,show o<A.length from h]
def E_{A B:cd}{k i:Nat}(h:A.length=k):(A++B)[k+i]?=B[i]?:=by
 subst h;rw[n7 cw]
 congr 1
 omega
def Mr{A B:cd}{k:Nat}(h:A.length=k):(A++B)[k]?=B[0]?:=E_ (i:=0) h
def Cg{A B:cd}{k i:Nat}{c:List AV}(h:A.length=k):dC (A++B) (k+i) c=A++dC B i c:=by
 subst h;simp[dC,List.set_append]
def Ke{A B:cd}{k:Nat}{c:List AV}(h:A.length=k):dC (A++B) k c=A++dC B 0 c:=Cg (i:=0) h
@[simp] theorem WE(a:List AV)(l:cd)(c:List AV):dC (a::l) 0 c=c::l:=rfl
@[simp] theorem UJ(a:List AV)(l:cd)(i:Nat)(c:List AV):dC (a::l) (i+1) c=a::dC l i c:=rfl
@[simp] theorem Ut(a:List AV)(l:cd)(c:List AV):dC (a::l) 1 c=a::dC l 0 c:=rfl
@[simp] theorem UD(a:List AV)(l:cd)(c:List AV):dC (a::l) 2 c=a::dC l 1 c:=rfl
@[simp] theorem Um(a:List AV)(l:cd)(c:List AV):dC (a::l) 3 c=a::dC l 2 c:=rfl
@[simp] theorem TS(a:List AV)(l:cd)(c:List AV):dC (a::l) 4 c=a::dC l 3 c:=rfl
@[simp] theorem T5(a:List AV)(l:cd)(c:List AV):dC (a::l) 5 c=a::dC l 4 c:=rfl
def du.RP{P:Program}{T:cW}{f:FuncId}{args:List AV}{H:cd}{o:Nat}{c:List AV}{Post:AV->cd->Prop}(h:H[o]?=some c)(a:du P T f args (dC H o c) Post):du P T f args H Post:=by
 rwa [G6 h] at a
structure Cr {S:Type} (st:S->cd) (k:Nat):Prop where
 len:∀s,(st s).length=k
 low:∀s s' cs,cs∈st s'->cs∈st s\/AV.gD k cs=true
def Cr.const{S:Type}(H:cd):Cr (λ_:S=>H) H.length:=⟨λ_=>rfl,λ_ _ _ h=>.inl h⟩
def Cr.ext{S:Type}{st:S->cd}{k:Nat}(h:Cr st k)(X:cd){n:Nat}(hn:k+X.length=n):Cr (λs=>st s++X) n:=by
 subst hn;refine⟨λs=>by rw[nd,h.len],λs a cs hc=>?_⟩;rcases pX.1 hc with hc|hc
 ·rcases h.low s a cs hc with h1|h1
  ·exact .inl (Tj _ h1)
  ·exact .inr (AV.px cw h1)
 ·exact .inl (Tz _ hc)
def Cr.WO{S:Type}(H:cd)(f:S->cd)(n:Nat)(hn:∀s,(f s).length=n)(b:∀s a cs,cs∈f a->cs∈f s\/AV.gD (H.length+n) cs=true):Cr (λs=>H++f s) (H.length+n):=by
 refine⟨λs=>by rw[nd,hn],λs a cs hc=>?_⟩;rcases pX.1 hc with hc|hc
 ·exact .inl (Tj _ hc)
 ·rcases b s a cs hc with h1|h1
  ·exact .inl (Tz _ h1)
  ·exact .inr h1
def du.Y_{P:Program}{T:cW}{f:FuncId}{args:List AV}{H:cd}{Post Post':AV->cd->Prop}(h:du P T f args H Post)
  (d:∀r H',Post r H'->∃H0 X,H'=H0++X/\H0.length=H.length/\r.low H.length=true/\(∀cs∈H0,cs∈H\/AV.gD H.length cs=true)/\Post' r H0):du P T f args H Post':=by
 refine⟨h.1,λG F w vs hg g=>?_⟩
 have b:∀cs∈H,AV.gD H.length cs=true:=by
  intro cs a;obtain⟨o,i⟩:=R6.1 a;obtain⟨n,_,j⟩:=hg.kq o cs i;exact j.tf
 refine(du.drop (Post':=Post') h λr H' k=>?_).2 G F w vs hg g;obtain⟨H0,X,e,hlen,l,a,c⟩:=d r H' k;refine⟨H0,X,e,cw,by rw[hlen];exact l,λcs m=>?_,c⟩;rw[hlen];rcases a cs m with h1|h1
 ·exact b cs h1
 ·exact h1
def du.Ug{P:Program}{T:cW}{f:FuncId}{args:List AV}{S:Type}{st:S->cd}{k:Nat}(hF:Cr st k){s:S}{Post Post':AV->cd->Prop}(h:du P T f args (st s) Post)
  (c:∀r H',Post r H'->∃a X,H'=st a++X/\r.low k=true/\Post' r (st a)):du P T f args (st s) Post':=
 du.Y_ h λr H' d=>by
  obtain⟨a,X,e,g,b⟩:=c r H' d;exact⟨st a,X,e,by rw[hF.len,hF.len],by rw[hF.len];exact g,λcs i=>by rw[hF.len];exact hF.low s a cs i,b⟩
@[simp] theorem Yb(H:List (List AV))(o:Nat)(c:List AV):List.set H o c=dC H o c:=rfl
attribute [simp] RG JD OF L6 IZ E_ Mr Cg Ke
end Go.jX
namespace Go.jX
open Go Go.dF
def dy(P:Program)(T:cW)(E:List Nat)(opsA:Array Oper)(q:Qt):List Bool->List Oper->(Fr->cd->Prop)->Fr->cd->Prop
 |_,[],K,fr,H=>K fr H|[],o::rest,K,fr,H=>gd P T E opsA q true o (λfr H=>dy P T E opsA q [] rest K fr H) fr H|b::bs,o::rest,K,fr,H=>gd P T E opsA q b o (λfr H=>dy P T E opsA q bs rest K fr H) fr H
def Ge{E:List Nat}{ops:Array Oper}{q:Qt}{P:Program}{T:cW}{K:Fr->cd->Prop}(a:List Bool):∀(l:List Oper) (k:Nat) (fr:Fr) (H:cd),l=ops.toList.drop k->dy P T E ops q (a.drop k) l K fr H->HS P T E ops q (λi=>a.getD i true) (List.range' k l.length) K fr H:=by
 intro l
 induction l with
 |nil=>
  intro k fr H _ h;cases d:a.drop k<;>rw[d] at h<;>exact h
 |cons o l e=>
  intro k fr H c h
  have b:k<ops.toList.length:=by
   rcases rI k ops.toList.length with h'|h'
   ·exact h'
   ·rw[Ep h'] at c;cases c
  have f:=Je b;rw[f] at c;injection c with g j
  have hi:ops[k]?=some o:=by
   rw[g];simp only[Zb];exact Qu (by simpa using b)
  simp only[jK,WS,HS,hi]
  have m:a.getD k true=(a.drop k).headD true:=by
   simp only[List.getD,List.headD_eq_head?_getD,List.head?_drop]
  have n:a.drop (k+1)=(a.drop k).tail:=by rw[List.tail_drop]
  rw[m];refine Fi (K:=λfr H=>dy P T E ops q (a.drop (k+1)) l K fr H) (λfr H h=>e (k+1) fr H j h) ?_;rw[n];cases d:a.drop k<;>rw[d] at h<;>exact h
def fb.MR{P:Program}{T:cW}{n:Nat}{Q:Exit->Fr->cd->Prop}{fr:Fr}{H:cd}{id:Nat}{ops:Array Oper}(E:List Nat)(q:Qt)(b:List Bool)(hm:P.follows .mixedOrders=true)(a:xr n ops=true)(c:xE E ops (λi=>b.getD i true)=true)
  (h:dy P T E ops q b ops.toList (Q .normal) fr H):fb P T n (.region id ops true) Q fr H:=by
 refine fb.QB E q (λi=>b.getD i true) hm a c ?_;have:=Ge (P:=P) (T:=T) (E:=E) (ops:=ops) (q:=q) (K:=Q .normal) b ops.toList 0 fr H (by rw[Pr]) (by rw[Pr];exact h);rw[Tf];simpa using this
def dY(P:Program)(T:cW)(E:List Nat)(ops:Array Oper)(q:Qt)(bs:List Bool)(a:AV)(as:List AV)(d:Option Nat)(rest:List Oper)(K:Fr->cd->Prop)(fr:Fr)(H:cd):Prop:=
 if d.any E.contains then Wl P T q true a as d (dy P T E ops q bs rest K) fr H else∃r H',uY P T a as H r H'/\(QK q H H')/\dy P T E ops q bs rest K (fr.put d r) H'
section
variable{P:Program} {T:cW} {E:List Nat} {ops:Array Oper} {q:Qt} {bs:List Bool} {rest:List Oper} {K:Fr->cd->Prop} {fr:Fr} {H H':cd} {d:Option Nat} {ty:TypeId} {pos:String} {after:Array Edge}
def dY.val{a:AV}{as:List AV}{r:AV}(h:uY P T a as H r H')(b:QK q H H')(c:dy P T E ops q bs rest K (fr.put d r) H'):dY P T E ops q bs a as d rest K fr H:=by
 unfold dY
 split
 ·exact Sz h (λ_=>b) c
 ·exact⟨r,H',h,b,c⟩
def dY.rel{g:FuncId}{as:List AV}{Post:AV->cd->Prop}(h:du P T g as H Post)(hex:∃r h,Post r h)(c:d.any E.contains=true)(a:∀r h,Post r h->QK q H h/\dy P T E ops q bs rest K (fr.put d r) h):dY P T E ops q bs (.func (.func g) [] []) as d rest K fr H:=by
 unfold dY;rw[bX c];refine⟨Post,?_,hex,λr h b=>⟨λ_=>(a r h b).1,(a r h b).2⟩⟩;unfold jo;simp only[mw,wB];exact h
def dY.fn{g:FuncId}{as:List AV}{r:AV}(h:dB P T g as H r H')(a:QK q H H')(b:dy P T E ops q bs rest K (fr.put d r) H'):dY P T E ops q bs (.func (.func g) [] []) as d rest K fr H:=by
 refine dY.val ?_ a b;unfold uY jo;simp only[mw,wB];exact h
def dY.QU{g:FuncId}{fi ca as a:List AV}{r:AV}(b:fi++as++ca=a)(h:dB P T g a H r H')(c:QK q H H')(e:dy P T E ops q bs rest K (fr.put d r) H'):dY P T E ops q bs (.func (.func g) fi ca) as d rest K fr H:=by
 subst b;exact dY.val h c e
@[simp] theorem Xm(bs:List Bool):dy P T E ops q bs [] K fr H=K fr H:=by cases bs<;>rfl
@[simp] theorem TU{t:TypeId}{x:Operand}:dy P T E ops q (false::bs) ({dst:=d,op:=.load t x,type:=ty,pos:=pos,after:=after,guard:=none}::rest) K fr H=if oP ops.toList x (ev T fr x)then(match rN P fr H t (ev T fr x)with|some v=>dy P T E ops q bs rest K (fr.put d v) H|none=>False)else False:=by
 simp only[dy,gd,fw,pV,jB,m0,wN,hZ,fG,eN,kF,W5,Bool.true_or,Gn]
 split
 ·rename_i v a
  split at a
  ·rename_i b;rw[bX b,a]
  ·cases a
 ·rename_i a
  split at a
  ·rename_i b;rw[bX b,a]
  ·rename_i b;rw[bV b]
@[simp] theorem SL{t:TypeId}{x y:Operand}:dy P T E ops q (false::bs) ({dst:=none,op:=.store t x y,type:=ty,pos:=pos,after:=after,guard:=none}::rest) K fr H=(Lz E q x (ev T fr x)/\oP ops.toList x (ev T fr x)=true/\j0 P t (ev T fr x) (ev T fr y) (dy P T E ops q bs rest K) fr H):=by
 simp only[dy,gd,fw,pV,jB,m0,wN,hZ,fG,eN,zE,hZ,false_implies,if_true,z_]
@[simp] theorem Ve{x:Operand}:dy P T E ops q (true::bs) ({dst:=d,op:=.move x,type:=ty,pos:=pos,after:=after,guard:=none}::rest) K fr H=dy P T E ops q bs rest K (fr.put d (ev T fr x)) H:=rfl
@[simp] theorem SJ{x:Operand}:dy P T E ops q (true::bs) ({dst:=d,op:=.assign x,type:=ty,pos:=pos,after:=after,guard:=none}::rest) K fr H=dy P T E ops q bs rest K (fr.put d (ev T fr x)) H:=rfl
@[simp] theorem Uk{t:TypeId}:dy P T E ops q (true::bs) ({dst:=d,op:=.alloc t,type:=ty,pos:=pos,after:=after,guard:=none}::rest) K fr H=match fV P t with|some z=>d.any E.contains=false/\iS E d z (dy P T E ops q bs rest K) fr H|none=>False:=by
 simp only[dy,gd,fw,pV,jB,m0,wN,hZ,fG,eN,We];rfl
@[simp] theorem WY{t:TypeId}{x:Operand}:dy P T E ops q (true::bs) ({dst:=d,op:=.load t x,type:=ty,pos:=pos,after:=after,guard:=none}::rest) K fr H=if oP ops.toList x (ev T fr x)&&q.ok (ev T fr x)then(match rN P fr H t (ev T fr x)with|some v=>dy P T E ops q bs rest K (fr.put d v) H|none=>False)else False:=by
 simp only[dy,gd,fw,pV,jB,m0,wN,hZ,fG,eN,kF,S4,PK]
 split
 ·rename_i v a
  split at a
  ·rename_i b;rw[bX b,a]
  ·cases a
 ·rename_i a
  split at a
  ·rename_i b;rw[bX b,a]
  ·rename_i b;rw[bV b]
@[simp] theorem UG{t:TypeId}{x y:Operand}:dy P T E ops q (true::bs) ({dst:=none,op:=.store t x y,type:=ty,pos:=pos,after:=after,guard:=none}::rest) K fr H=(Lz E q x (ev T fr x)/\oP ops.toList x (ev T fr x)=true/\Zl (ev T fr x)=true/\j0 P t (ev T fr x) (ev T fr y) (dy P T E ops q bs rest K) fr H):=by
 simp only[dy,gd,fw,pV,jB,m0,wN,hZ,fG,eN,We,zE,if_true,z_]
@[simp] theorem N4{t n:Nat}{ps:Array (Nat×Operand)}:dy P T E ops q (true::bs) ({dst:=d,op:=.buildSlice t n ps,type:=ty,pos:=pos,after:=after,guard:=none}::rest) K fr H=if d.any E.contains then False else match k8 P t n (ps.toList.map λp=>(p.1,ev T fr p.2))with|some v=>dy P T E ops q bs rest K (fr.put d v) H|none=>False:=by
 simp only[dy,gd,fw,pV,jB,m0,wN,hZ,fG,eN,kF]
 split
 ·rename_i v a
  split at a
  ·cases a
  ·rename_i b;rw[bV b,a]
 ·rename_i a
  split at a
  ·rename_i b;rw[bX b]
  ·rename_i b;rw[bV b,a]
@[simp] theorem Sx{x y:Operand}{t d:Nat}:dy P T E ops q (true::bs) ({dst:=some d,op:=.call {callee:=.builtin .append,args:=#[x,y],argTypes:=#[t,t]},type:=ty,pos:=pos,after:=after,guard:=none}::rest) K fr H=if E.contains d then Ji P t (ev T fr x) (ev T fr y) d (dy P T E ops q bs rest K) fr H else yY P t (ev T fr x) (ev T fr y) d (dy P T E ops q bs rest K) fr H:=by
 simp only[dy,gd,fw,pV,jB,m0,wN,hZ,fG,eN,Vc]
 split
 ·rename_i a;first|exact zL|(simp only[a,↓reduceIte];exact zL)
 ·rename_i a;first|exact zM|(simp only[a,↓reduceIte];exact zM)
@[simp] theorem W1{f:Operand}{as:Array Operand}{ts:Array TypeId}:dy P T E ops q (true::bs) ({dst:=d,op:=.call {callee:=.value f,args:=as,argTypes:=ts},type:=ty,pos:=pos,after:=after,guard:=none}::rest) K fr H=dY P T E ops q bs (ev T fr f) (as.toList.map λx=>(ev T fr x).norm) d rest K fr H:=by
 simp only[dy,gd,fw,pV,jB,m0,wN,hZ,fG,eN,We,dY]
@[simp] theorem W'{as:Array Operand}{ts:Array TypeId}:dy P T E ops q (true::bs) ({dst:=d,op:=.call {callee:=.builtin .len,args:=as,argTypes:=ts},type:=ty,pos:=pos,after:=after,guard:=none}::rest) K fr H=match rO P T fr {callee:=.builtin .len,args:=as,argTypes:=ts}with|some v=>dy P T E ops q bs rest K (fr.put d v) H|none=>False:=rfl
@[simp] theorem XL{as:Array Operand}{ts:Array TypeId}:dy P T E ops q (true::bs) ({dst:=d,op:=.call {callee:=.builtin .max,args:=as,argTypes:=ts},type:=ty,pos:=pos,after:=after,guard:=none}::rest) K fr H=match rO P T fr {callee:=.builtin .max,args:=as,argTypes:=ts}with|some v=>dy P T E ops q bs rest K (fr.put d v) H|none=>False:=rfl
@[simp] theorem XU{as:Array Operand}{ts:Array TypeId}:dy P T E ops q (true::bs) ({dst:=d,op:=.call {callee:=.builtin .min,args:=as,argTypes:=ts},type:=ty,pos:=pos,after:=after,guard:=none}::rest) K fr H=match rO P T fr {callee:=.builtin .min,args:=as,argTypes:=ts}with|some v=>dy P T E ops q bs rest K (fr.put d v) H|none=>False:=rfl
@[simp] theorem W7{c a b:Operand}:dy P T E ops q (true::bs) ({dst:=d,op:=.pick c a b,type:=ty,pos:=pos,after:=after,guard:=none}::rest) K fr H=match vb P T fr {dst:=d,op:=.pick c a b,type:=ty,pos:=pos,after:=after,guard:=none}with|some v=>dy P T E ops q bs rest K (fr.put d v) H|none=>False:=rfl
@[simp] theorem Uj{t:TypeId}{ps:Array (Nat×Operand)}:dy P T E ops q (true::bs) ({dst:=d,op:=.build t ps,type:=ty,pos:=pos,after:=after,guard:=none}::rest) K fr H=match BC P t (ps.toList.map λp=>(p.1,ev T fr p.2))with|some v=>dy P T E ops q bs rest K (fr.put d v) H|none=>False:=rfl
@[simp] theorem Ux{o:BinOp}{t u:TypeId}{x y:Operand}:dy P T E ops q (true::bs) ({dst:=d,op:=.binOp o t x y u,type:=ty,pos:=pos,after:=after,guard:=none}::rest) K fr H=match CM P o t y (ev T fr x) (ev T fr y)with|some v=>dy P T E ops q bs rest K (fr.put d v) H|none=>False:=rfl
@[simp] theorem UZ{o:UnOp}{t:TypeId}{x:Operand}:dy P T E ops q (true::bs) ({dst:=d,op:=.unOp o t x,type:=ty,pos:=pos,after:=after,guard:=none}::rest) K fr H=match XO o (ev T fr x)with|some v=>dy P T E ops q bs rest K (fr.put d v) H|none=>False:=rfl
@[simp] theorem RY{s t:TypeId}{x:Operand}:dy P T E ops q (true::bs) ({dst:=d,op:=.convert s t x,type:=ty,pos:=pos,after:=after,guard:=none}::rest) K fr H=match Jg P s t (ev T fr x)with|some v=>dy P T E ops q bs rest K (fr.put d v) H|none=>False:=rfl
@[simp] theorem Ri{fn:Fn}{f c:Array Operand}:dy P T E ops q (true::bs) ({dst:=d,op:=.makeFunc fn f c,type:=ty,pos:=pos,after:=after,guard:=none}::rest) K fr H=dy P T E ops q bs rest K (fr.put d (.func fn (f.toList.map λx=>(ev T fr x).norm) (c.toList.map λx=>(ev T fr x).norm))) H:=rfl
@[simp] theorem Pg{t i:Nat}{x:Operand}:dy P T E ops q (true::bs) ({dst:=d,op:=.fieldAddr t x i,type:=ty,pos:=pos,after:=after,guard:=none}::rest) K fr H=match qH P t (ev T fr x) i with|some v=>dy P T E ops q bs rest K (fr.put d v) H|none=>False:=rfl
@[simp] theorem T4{t i:Nat}{x:Operand}:dy P T E ops q (true::bs) ({dst:=d,op:=.field t x i,type:=ty,pos:=pos,after:=after,guard:=none}::rest) K fr H=match BD P t (ev T fr x) i with|some v=>dy P T E ops q bs rest K (fr.put d v) H|none=>False:=rfl
@[simp] theorem Pk{t:TypeId}{x i:Operand}:dy P T E ops q (true::bs) ({dst:=d,op:=.indexAddr t x i,type:=ty,pos:=pos,after:=after,guard:=none}::rest) K fr H=match gl P t (ev T fr x) (ev T fr i)with|some v=>dy P T E ops q bs rest K (fr.put d v) H|none=>False:=rfl
@[simp] theorem T9{t:TypeId}{x i:Operand}:dy P T E ops q (true::bs) ({dst:=d,op:=.index t x i,type:=ty,pos:=pos,after:=after,guard:=none}::rest) K fr H=match EJ P t (ev T fr x) (ev T fr i)with|some v=>dy P T E ops q bs rest K (fr.put d v) H|none=>False:=rfl
@[simp] theorem UF{t:TypeId}{x:Operand}{lo hi a:Option Operand}:dy P T E ops q (true::bs) ({dst:=d,op:=.slice t x lo hi a,type:=ty,pos:=pos,after:=after,guard:=none}::rest) K fr H=match vV P t (ev T fr x) (lo.map (ev T fr)) (hi.map (ev T fr)) (a.map (ev T fr))with|some v=>dy P T E ops q bs rest K (fr.put d v) H|none=>False:=rfl
@[simp] theorem RX{i:Nat}{x:Operand}:dy P T E ops q (true::bs) ({dst:=d,op:=.extract x i,type:=ty,pos:=pos,after:=after,guard:=none}::rest) K fr H=match vb P T fr {dst:=d,op:=.extract x i,type:=ty,pos:=pos,after:=after,guard:=none}with|some v=>dy P T E ops q bs rest K (fr.put d v) H|none=>False:=rfl
@[simp] theorem Rs{x:Operand}:dy P T E ops q (true::bs) ({dst:=d,op:=.nilCheck x,type:=ty,pos:=pos,after:=after,guard:=none}::rest) K fr H=match vb P T fr {dst:=d,op:=.nilCheck x,type:=ty,pos:=pos,after:=after,guard:=none}with|some v=>dy P T E ops q bs rest K (fr.put d v) H|none=>False:=rfl
@[simp] theorem KN{t:TypeId}{x:Operand}:dy P T E ops q (true::bs) ({dst:=d,op:=.makeInterface t x,type:=ty,pos:=pos,after:=after,guard:=none}::rest) K fr H=match vb P T fr {dst:=d,op:=.makeInterface t x,type:=ty,pos:=pos,after:=after,guard:=none}with|some v=>dy P T E ops q bs rest K (fr.put d v) H|none=>False:=rfl
@[simp] theorem UH{op:Op}{j:Nat}{want:Bool}:dy P T E ops q (true::bs) ({dst:=d,op:=op,type:=ty,pos:=pos,after:=after,guard:=some (j,want)}::rest) K fr H=match(ops[j]?).bind (·.dst)with
  |some g=>match fr.env g with
   |.sc (.bool b)=>if b=want then dy P T E ops q (true::bs) ({dst:=d,op:=op,type:=ty,pos:=pos,after:=after,guard:=none}::rest) K fr H else dy P T E ops q bs rest K (fr.put d (.tuple [])) H|.tuple _=>dy P T E ops q bs rest K (fr.put d (.tuple [])) H|_=>False
  |none=>False:=by
 simp only[dy,gd,fw]
 cases a:(ops[j]?).bind (·.dst)with
 |none=>rfl|some g=>
  simp only;cases he:fr.env g with
  |sc v=>
   cases v with
   |bool b=>
    simp only
    by_cases hw:b=want
    ·subst hw;simp only[beq_self_eq_true,if_true];rfl
    ·rw[bV hw]
     have:(b==want)=false:=by simpa using hw
     rw[this]
   |_=>rfl
  |_=>rfl
end
end Go.jX
namespace Go.jX
open Go Go.dF
section
variable{P:Program} {t e:TypeId} {k:Nat} {x:Option Nat}
end
end Go.jX
namespace Go.jX
open Go Go.dF
def gT{α:Type}(f:α->AV)(L:List α)(k:Nat):List AV:=(L.map f).flatMap AV.cells++pR k
@[irreducible] def I9(i sz:Nat):Nat:=i*sz
def DJ(i sz:Nat):I9 i sz=i*sz:=by unfold I9;rfl
section
variable{α:Type} {f:α->AV} {L:List α} {k sz:Nat}
def mu(h:∀x,(f x).cells.length=sz)(L:List α):((L.map f).flatMap AV.cells).length=L.length*sz:=by
 rw[lY (sz:=sz)]
 ·simp
 ·intro x a;obtain⟨y,_,rfl⟩:=kI.1 a;exact h y
def kl(h:∀x,(f x).cells.length=sz):(gT f L k).length=L.length*sz+k:=by
 unfold gT;rw[nd,mu h];simp[pR]
def yt(h:∀x,(f x).cells.length=sz):(gT f L k).take (L.length*sz)=(L.map f).flatMap AV.cells:=by
 unfold gT;rw[Jv (by rw[mu h];exact fC _),Kw (by rw[mu h];exact fC _)]
def HN(h:∀x,(f x).cells.length=sz){i:Nat}{x:α}(hi:L[i]?=some x):((gT f L k).drop (i*sz)).take sz=(f x).cells:=by
 have a:=(jL.1 hi).1
 have b:i*sz+sz<=((L.map f).flatMap AV.cells).length:=by
  rw[mu h,<-IG];exact Ak _ a
 unfold gT;rw[YZ cw,Jv (by rw[LF];omega)]
 exact Ci (sz:=sz) (by
  intro y hy;obtain⟨z,_,rfl⟩:=kI.1 hy
  exact h z) (by simp[hi])
def RN(h:∀x,(f x).cells.length=sz){i:Nat}{y:α}(hi:i<L.length):setCells (gT f L k) (i*sz) (f y).cells=gT f (L.set i y) k:=by
 unfold setCells gT;have hlen:=mu h L
 have hle:i*sz+sz<=L.length*sz:=by
  rw[<-IG];exact Ak _ hi
 rw[h y,Jv cw,YZ cw,<-mI]
 congr 1
 have a:L.set i y=L.take i++y::L.drop (i+1):=List.set_eq_take_append_cons_drop▸(by rw[bX hi]);rw[a,Wg,mL,Ru,wT]
 have hm:∀x∈L.map f,x.cells.length=sz:=by
  intro x b;obtain⟨z,_,rfl⟩:=kI.1 b;exact h z
 have c:i*sz+sz=(i+1)*sz:=by rw[IG]
 rw[c,<-A6 hm,<-wu hm,List.map_take,List.map_drop,mI]
end
def EA{α:Type}{f:α->AV}(a:∀x,(f x).cells.map AV.gS=(f x).cells)(L:List α):(L.map f).flatMap AV.cells=((L.map f).flatMap AV.cells).map AV.gS:=by
 induction L with
 |nil=>rfl|cons x L b=>simp only[mL,wT,Wg,a,<-b]
def qy.Yq{P:Program}{t e sz d:Nat}{s x:AV}{K:Fr->cd->Prop}{fr:Fr}{H:cd}{α:Type}{f:α->AV}(m:List α){tag':Tag}
  (b:ng P t=some (e,sz)) (c:∃j,fV P e=some j) (g:∀x,(f x).cells.length=sz) (hlen:wF m=true) (hs:s=.slice .full []) (n:x=.slice tag' (m.map f))
  (o:∀cap,m.length<=cap->K {fr with env:=eH fr.env d (.tB d (fr.gen d+1) m.length cap),box:=eH fr.box d (some (gT f m ((cap-m.length)*sz))),gen:=eH fr.gen d (fr.gen d+1)} H):qy P t s x d K fr H:=by
 subst hs;subst n
 have k:0<m.length/\m.length<=yX:=by simpa[wF] using hlen
 have h:∀l:List α,iU sz (l.map f)=true:=λl=>by cases l with|nil=>rfl|cons a l=>simp[g]
 obtain⟨j,c⟩:=c;refine .inl (.inr ?_);unfold PF;rw[b];refine⟨h m,by rw[c];rfl,by simpa using k.1,rfl,by simpa[gN,yX] using k.2,λcap p=>?_⟩
 have i:m.length<=cap:=by simpa using p
 have:=o cap i;simp only[wD,List.flatMap_nil,mw,uo,sA,GD];exact this
theorem qy.iK{P:Program}{t e sz d:Nat}{s x:AV}{K:Fr->cd->Prop}{fr:Fr}{H:cd}{α:Type}{f:α->AV}(L m:List α){cap:Nat}{tag':Tag}
  (n:ng P t=some (e,sz)) (o:∃w,fV P e=some w) (c:∀x,(f x).cells.length=sz) (hlen:dP L m=true) (hm:0<m.length) (hs:s=.tB d (fr.gen d) L.length cap) (A:x=.slice tag' (m.map f))
  (B:fr.box d=some (gT f L ((cap-L.length)*sz))) (p:L.length<=cap)
  (y:∀z b,(dN L m).length<=b->K {fr with env:=eH fr.env d (.tB d z (dN L m).length b),box:=eH fr.box d (some (gT f (dN L m) ((b-(dN L m).length)*sz))),gen:=eH fr.gen d z} H):qy P t s x d K fr H:=by
 subst hs;subst A;have C:L.length+m.length<=yX:=KI hlen
 have q:∀l:List α,iU sz (l.map f)=true:=λl=>by cases l with|nil=>rfl|cons a l=>simp[c]
 obtain⟨w,o⟩:=o;have r:=mu c L;have u:=mu c m;have g:(dN L m).length=L.length+m.length:=xb L m
 have i:(L.map f).flatMap AV.cells++(m.map f).flatMap AV.cells=((dN L m).map f).flatMap AV.cells:=by simp[dN]
 refine .inl (.inr ?_);unfold PF;rw[n];refine⟨q m,by rw[o];rfl,by simpa using hm,rfl,by simpa[gN,yX] using C,?_⟩;rw[B];simp only[GD];refine⟨?_,λD=>?_,λb G E=>?_⟩
 ·rw[kl c,Nat.sub_mul];have:=Ak sz p;omega
 ·have k:=y (fr.gen d) cap (by rw[g];exact D)
  have F:eH fr.gen d (fr.gen d)=fr.gen:=by
   funext j
   simp only[eH]
   split
   ·rename_i h;rw[h]
   ·rfl
  have v:setCells (gT f L ((cap-L.length)*sz)) (L.length*sz) ((m.map f).flatMap AV.cells)=gT f (dN L m) ((cap-(dN L m).length)*sz):=by
   unfold setCells;rw[yt c];unfold gT;rw[<-i,O1,Ep cw,mw,r,u,g]
   have:L.length*sz+m.length*sz-L.length*sz=m.length*sz:=cw
   rw[this];unfold pR;rw[List.drop_replicate,<-Nat.sub_mul,Nat.sub_sub]
  rw[F,<-v,g] at k;exact k
 ·have k:=y (fr.gen d+1) b (by rw[g];exact E)
  have v:(gT f L ((cap-L.length)*sz)).take (L.length*sz)++(m.map f).flatMap AV.cells++pR ((b-(L.length+m.length))*sz)=gT f (dN L m) ((b-(dN L m).length)*sz):=by
   rw[yt c,g];unfold gT;rw[i]
  unfold wD;rw[v,<-g];exact k
@[simp] theorem Yc{P:Program}{t:TypeId}{b g n c:Nat}:Dp P t (.tB b g n c)=match P.underlying t with|some (.slice _)=>some (.sc (.int .i64 n))|some (.array n _)=>some (.sc (.int .i64 n))|_=>none:=by
 unfold Dp;cases P.underlying t with
 |none=>rfl|some y=>cases y<;>rfl
@[simp] theorem PN{P:Program}{t:TypeId}{k:IntKind}{a:Int}{b g n c:Nat}:gl P t (.tB b g n c) (.sc (.int k a))=match P.underlying t with
  |some (.slice e)=>match dL P e with
   |some (_,sz)=>if 0<=a/\a<(n:Int)then some (.gJ b g (I9 a.toNat sz))else none|none=>none
  |_=>none:=by
 unfold gl;simp only[DJ];cases P.underlying t with
 |none=>rfl|some y=>cases y<;>rfl
def y_(P:Program)(t:TypeId)(b g i sz:Nat)(v:AV)(K:Fr->cd->Prop)(fr:Fr)(H:cd):Prop:=j0 P t (.gJ b g (I9 i sz)) v K fr H
@[simp high] theorem T_{P:Program}{t:TypeId}{b g i sz:Nat}{v:AV}{K:Fr->cd->Prop}{fr:Fr}{H:cd}:j0 P t (.gJ b g (I9 i sz)) v K fr H=y_ P t b g i sz v K fr H:=rfl
def y_.arr{P:Program}{t:TypeId}{b g sz k:Nat}{a:Int}{bl:Bool}{v:AV}{K:Fr->cd->Prop}{fr:Fr}{H:cd}{α:Type}{f:α->AV}{L:List α}{x:α}(y:α)(i:dL P t=some (bl,sz))(c:∀x,(f x).cells.length=sz)
  (e:dj (f y)=true) (hi:cq L a=some x) (hg:g=fr.gen b) (j:fr.box b=some (gT f L k)) (l:v=f y) (m:K {fr with box:=eH fr.box b (some (gT f (vU L a y) k))} H):y_ P t b g a.toNat sz v K fr H:=by
 subst l;have h:=Kt hi;have d:=(jL.1 h).1
 have hle:a.toNat*sz+sz<=L.length*sz:=by
  rw[<-IG];exact Ak _ d
 unfold y_;simp only[j0,i,j];refine⟨hg,c y,by rw[DJ,kl c];omega,e,?_⟩;rw[DJ,RN c d];exact m
def eM.KD{α β:Type}{R:α->β->Prop}:∀{as:List α} {bs:List β} {i:Nat} {a0 a:α},eM R as bs->as[i]?=some a0->(∀b,bs[i]?=some b->R a b)->eM R (as.set i a) bs
 |_,_,_,_,_,.nil,h,_=>by simp at h
 |_,_,0,_,_,.cons d c,_,h=>.cons (h _ rfl) c|_,_,i+1,_,_,.cons d c,e,h=>.cons d (eM.KD c (by simpa using e) (λb f=>h b (by simpa using f)))
section
variable{P:Program} {T:cW} {n B0:Nat} {ρ:Maps} {F:jf} {R:Nat->mx} {fr:Fr} {H:cd} {a:Act} {w:World}
def WR.unbox(h:WR T n B0 ρ F R fr H a w){d:Nat}{cs:List AV}(x:fr.box d=some cs):∃p,p (ρ.L d (fr.gen d))=.free/\WR T n B0 ρ F p {fr with box:=eH fr.box d none} H a w:=by
 obtain⟨D,y,E,vs,ty,G,I⟩:=h.box d cs x
 let p:Nat->mx:=eH R (ρ.L d (fr.gen d)) .free
 have i:∀b,R b≠ .box d->p b=R b:=by
  intro b f;show eH R (ρ.L d (fr.gen d)) .free b=R b;unfold eH;rw[bV];rintro rfl;exact f y
 refine⟨p,by show eH R _ _ _=_;simp[eH],⟨h.g,h.size,h.defers,h.env,h.hn,h.lg,h.ag,?_,?_,?_,?_,?_,h.oV⟩⟩
 ·intro r s l;simp only[eH] at l
  by_cases he:r=d
  ·subst he;simp at l
  ·rw[bV he] at l;obtain⟨t,q,u⟩:=h.box r s l;exact⟨t,by rw[i _ (by rw[q];simp[he])];exact q,u⟩
 ·intro k m z b c sz A;obtain⟨t,q,u⟩:=h.tok k m z b c sz A;exact⟨t,by rw[i _ (by rw[q];simp)];exact q,u⟩
 ·intro b j v B
  by_cases f:b=ρ.L d (fr.gen d)
  ·subst f;intro r;show eH R _ _ _≠_;simp[eH]
  ·have e:p b=R b:=by show eH R _ _ _=_;simp[eH,f]
   rw[e];exact h.qi b j v B
 ·intro o C;have:=h.nQ o C;rw[i _ (by rw[this];simp)];exact this
 ·intro b f;have:=h.kv b f;rw[i _ (by rw[this];simp)];exact this
def eM.OV{F:jf}{ρ:Maps}{cs:List AV}{vs:List Value}(h:eM (hO F ρ) cs vs):eM (eE F ρ.G ρ.n) (cs.map AV.gS) vs:=h.uX AV.gS λ_ _ _ h=>h.gS
def WR.G5(h:WR T n B0 ρ F R fr H a w){d len cap sz:Nat}{cs els:List AV}(z:fr.box d=some cs)(D:els.length=len)(hs:∀x∈els,x.cells.length=sz)
  (A:els.flatMap AV.cells=(cs.take (len*sz)).map AV.gS) (hle:len*sz<=cs.length) (E:len<=cap) (q:cap<=maxLen):∃F' r,uh F F' ρ ρ/\(∀b j,b<B0->F' b j=F b j)/\WR T n B0 ρ F' r {fr with box:=eH fr.box d none} H a w/\eE F' ρ.G ρ.n (.slice .ja els) (.slice (some ⟨ρ.L d (fr.gen d),0,none⟩) len cap):=by
 obtain⟨P,I,B,vs,ty,J,s⟩:=h.box d cs z;obtain⟨r,i,hw⟩:=h.unbox z
 have hF:∀j,F (ρ.L d (fr.gen d)) j=none:=by
  intro j;cases K:F (ρ.L d (fr.gen d)) j with
  |none=>rfl|some v=>
   exact absurd I (h.qi _ j v K d)
 have M:vs.toList.length=cs.length:=s.length.symm
 have N:(vs.toList.take (len*sz)).length=len*sz:=by rw[vL];omega
 obtain⟨m,t⟩:=hw.freeze (us:=vs.toList.take (len*sz)) (k:=(vs.toList.take (len*sz)).length) i hF J (λu hu=>gX s B u hu) (by
  intro j v _ p;rw[DQ] at p
  split at p
  ·simpa using p
  ·cases p)
 refine⟨_,r,m,λb j O=>qY cw,t,?_⟩
 have e:eM (eE F ρ.G ρ.n) (els.flatMap AV.cells) (vs.toList.take (len*sz)):=by
  rw[A];exact(s.take (len*sz)).OV
 have C:=eE.slice (F:=iE F (ρ.L d (fr.gen d)) (vs.toList.take (len*sz)).length (vs.toList.take (len*sz))) (G:=ρ.G) (n:=ρ.n) (tag:=.ja) (l:=els) (b:=ρ.L d (fr.gen d)) (o:=0)
  (base:=some ⟨ρ.L d (fr.gen d),0,none⟩) (cap:=cap) (sz:=sz) (vs:=vs.toList.take (len*sz)) (.m6 (e.mono λ_ _ _ h=>h.grow m.g)) (tV _ _ _) (λ_=>rfl) hs (by
   intro c f;rw[A] at f
   exact ye (λc y=>B c (zy y)) c f) cw q (.inl rfl)
 rw[D] at C;exact C
def fb.abb{α:Type}{c:Code}{Q:Exit->Fr->cd->Prop}{f:α->AV}(t:Nat){L:List α}{k sz d g cap:Nat}(l:∀x,(f x).cells.length=sz)(o:∀x,(f x).cells.map AV.gS=(f x).cells)
  (he:fr.env t=.tB d g L.length cap) (hg:g=fr.gen d) (C:fr.box d=some (gT f L k))
  (h:fb P T n c Q {fr with env:=eH fr.env t (.slice .ja (L.map f)),box:=eH fr.box d none} H):fb P T n c Q fr H:=by
 intro G0 F0 n0 w0 a w hs;refine h G0 F0 n0 w0 a w ?_;obtain⟨ρ,F,R,hw,q⟩:=hs;have m:=hw.env t;rw[he] at m;obtain⟨D,E,r,s⟩:=xQ m
 have u:∀x∈L.map f,x.cells.length=sz:=by
  intro x q;obtain⟨y,_,rfl⟩:=kI.1 q;exact l y
 obtain⟨F',G,v,z,i,I⟩:=hw.G5 (els:=L.map f) (len:=L.length) (cap:=cap) (sz:=sz) C th u (by rw[yt l];exact EA o L) (by rw[kl l];omega) r s;refine⟨ρ,F',G,⟨i.g,i.size,i.defers,?_,i.hn,i.lg,i.ag,i.box,i.tok,i.qi,i.nQ,i.kv,i.oV⟩,?_⟩
 ·intro B;show ej F' ρ (eH fr.env t (.slice .ja (L.map f)) B) _;simp only[eH]
  split
  ·rename_i e;subst e;rw[D,hg];exact .p I
  ·exact(hw.env B).grow v
 ·exact q.freeze λb j A=>z b j A
def fb.abG{α:Type}{c:Code}{Q:Exit->Fr->cd->Prop}{f:α->AV}(d2 i:Nat){cs2:List AV}{L:List α}{k sz d g cap:Nat}(m:∀x,(f x).cells.length=sz)(t:∀x,(f x).cells.map AV.gS=(f x).cells)
  (v:d2≠d) (he:fr.box d2=some cs2) (hi:cs2[i]?=some (.tB d g L.length cap)) (hg:g=fr.gen d) (V:fr.box d=some (gT f L k))
  (h:fb P T n c Q {fr with box:=eH (eH fr.box d none) d2 (some (cs2.set i (.slice .ja (L.map f))))} H):fb P T n c Q fr H:=by
 intro G0 F0 n0 w0 a w hs;refine h G0 F0 n0 w0 a w ?_;obtain⟨ρ,F,R,hw,z⟩:=hs;obtain⟨_,_,A,B,W,C,D⟩:=hw.box d2 cs2 he;obtain⟨u,hu,E⟩:=D.get hi;obtain⟨X,Y,G,I⟩:=xQ (.cell E)
 have J:∀x∈L.map f,x.cells.length=sz:=by
  intro x z;obtain⟨y,_,rfl⟩:=kI.1 z;exact m y
 obtain⟨F',Z,aa,K,e,hp⟩:=hw.G5 (els:=L.map f) (len:=L.length) (cap:=cap) (sz:=sz) V th J (by rw[yt m];exact EA t L) (by rw[kl m];omega) G I
 have M:({fr with box:=eH fr.box d none}:Fr).box d2=some cs2:=by simp[eH,v,he]
 refine⟨ρ,F',Z,⟨e.g,e.size,e.defers,e.env,e.hn,e.lg,e.ag,?_,e.tok,e.qi,e.nQ,e.kv,e.oV⟩,?_⟩
 ·intro o N l;simp only[eH] at l
  by_cases q:o=d2
  ·subst q;simp only[if_true,uv] at l;subst l;obtain⟨e1,e2,e3,vs',r,U,e5⟩:=e.box o cs2 M;refine⟨e1,e2,?_,vs',r,U,?_⟩
   ·intro c hc;rcases List.mem_or_eq_of_mem_set hc with h'|h'
    ·exact e3 c h'
    ·rw[h'];rfl
   ·have O:vs'.toList=B.toList:=by
     have:w.heap[ρ.L o (fr.gen o)]?=some (.cells vs' r (0,0)):=U;rw[C] at this;injection this with this;injection this with this;rw[this]
    refine eM.KD e5 hi ?_;intro u' s;rw[O,hu] at s;obtain rfl:=gv s;rw[X,hg];exact .p hp
  ·simp only[bV q] at l;exact e.box o N (by simpa[eH] using l)
 ·exact z.freeze λb j S=>K b j S
end
end Go.jX
