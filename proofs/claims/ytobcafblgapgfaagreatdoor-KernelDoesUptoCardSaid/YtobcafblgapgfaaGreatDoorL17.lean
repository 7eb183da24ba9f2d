/- Part of the proof of KernelAccepts, KernelDoes: layer. -/
import Derived.Test.YtobcafblgapgfaaGreatDoorL16
set_option linter.all false
namespace Go.ke
open Go Go.fB
section
variable{P:Program} {T:dx} {n:Nat} {fr:Fr} {H:cW}
end
section
variable{X:Cx} {k:Nat} {S:List It} {fr:Fr} {H:cW} {c:Code}
end
section
variable{X:Cx} {S:List It} {fr:Fr} {H:cW} {id:Nat} {ops:Array Oper}
end
section
variable{X:Cx} {k:Nat} {S:List It} {fr:Fr} {H:cW} {a:Code} {id:Nat}
def wlb(i k2:Nat)(I:Nat->Fr->cW->Prop)(m:Nat)(R:Fr->cW->Prop)(o:I m fr H)(h1:∀m fr H,I m fr H->∀K l:Fr->cW->Prop,(∀fr' H' n,n<m->I n fr' H'->K fr' H')->(∀f h,R f h->l f h)->Wf X i (.c a::.h K::.b id::.h l::S) fr H)
  (p:∀f h,R f h->Wf X k2 S f h):Wf X (k+1) (.c (.loop a)::.b id::S) fr H:=by
 refine wl 0 I m o λm fr H q K r=>?_;have s:=jI X i _ _ _ (h1 m fr H q K (λf h=>SQ X S .normal f h) r (λf h t=>jI X k2 S f h (p f h t)));intro hm d;refine(s hm d).mono λe fr' H' g=>?_;cases e with
 |exit j=>
  have g:(if j=id then SQ X S .normal fr' H' else SQ X S (.exit j) fr' H'):=g;exact g
 |_=>exact g
end
@[simp] theorem YP:AV.eD .HK=true:=rfl
mutual
inductive QC (H:cW) (k:Nat):AV->AV->Prop
 |MB {x}:x.low k=true->QC H k x x|HK:QC H k .HK (.slice .hY [])|pQ {o off len cap cs l sz}:k<=o->H[o]?=some cs->lj cs=true->off+len*sz<=cs.length->wV H k ((cs.drop off).take (len*sz)) (l.flatMap AV.cells)->l.length=len->(∀x∈l,x.cells.length=sz)->QC H k (.pQ o off len cap) (.slice .hY l)|agg {cs cs'}:wV H k cs cs'->QC H k (.agg cs) (.agg cs')|tuple {cs cs'}:wV H k cs cs'->QC H k (.tuple cs) (.tuple cs')
inductive wV (H:cW) (k:Nat):List AV->List AV->Prop
 |nil:wV H k [] []|cons {x y xs ys}:QC H k x y->wV H k xs ys->wV H k (x::xs) (y::ys)
end
def QC.one{H:cW}{k:Nat}{x y:AV}(h:QC H k x y):y.eD=x.eD:=by
 cases h<;>rfl
def wV.qS{H:cW}{k:Nat}:∀{xs a:List AV},wV H k xs a->(∀c∈xs,c.eD=true)->∀c∈a,c.eD=true
 |_,_,.nil,_,c,hc=>by cases hc
 |_,_,.cons h1 d,b,c,hc=>by
  rcases j0.1 hc with rfl|hc
  ·rw[h1.one];exact b _ aa4
  ·exact d.qS (λc hc=>b c (by simp[hc])) c hc
def wV.append{H:cW}{k:Nat}:∀{xs c a b:List AV},wV H k xs c->wV H k a b->wV H k (xs++a) (c++b)
 |_,_,_,_,.nil,h=>h|_,_,_,_,.cons h1 d,h=>.cons h1 (d.append h)
def Rows(F:jY)(G:Nat->Nat)(n k:Nat)(H:cW):Prop:=
 ∀o cs,k<=o->H[o]?=some cs->lj cs=true->∃vs,F.has (G o) 0 vs/\fq F G n cs vs/\(∀c∈cs,c.eD=true)
section
variable{F:jY} {G:Nat->Nat} {n k:Nat} {H:cW}
mutual
def QC.rep(f:Rows F G n k H):∀{x y:AV} {v:Value},QC H k x y->fF F G n x v->fF F G k y v
 |_,_,_,.MB h,a=>a.lower h|_,_,_,.HK,a=>by
  cases a with
  |HK=>exact .slice (l:=[]) (vs:=[]) (b:=0) (o:=0) (sz:=0) .nil (by intro i v d;simp at d) aa4 aa4 aa4 (gu _) (ZN _) (.inl rfl)
 |_,_,_,.pQ (o:=o) (off:=off) (len:=len) (cap:=cap) (cs:=cs) (l:=l) (sz:=sz) h1 j m z g p q,a=>by
  cases a with
  |pQ g1 g2 g3=>
   obtain⟨vs,r,s,t⟩:=f o cs h1 j m;have hd:fq F G n ((cs.drop off).take (len*sz)) ((vs.drop off).take (len*sz)):=fq.m6 ((s.sF.drop off).take _);have u:=g.rep f hd;have e:∀c∈l.flatMap AV.cells,c.eD=true:=g.qS λc w=>t c (EL (Ab w))
   have:=fF.slice (F:=F) (G:=G) (n:=k) (tag:=.hY) (l:=l) (b:=G o) (o:=off) (base:=some ⟨G o,off,none⟩) (cap:=cap) (sz:=sz) u (by
    intro i v d;rw[DG] at d
    split at d
    ·rw[Js] at d;have:=r _ v d
     rwa [r_] at this
    ·cases d) (λ_=>rfl) q e VW g3 (.inl rfl)
   rw[p] at this;exact this
 |_,_,_,.agg h,a=>by
  cases a with
  |agg g1 g2=>exact .agg (h.rep f g1) (h.qS g2)
 |_,_,_,.tuple h,a=>by
  cases a with
  |tuple g1=>exact .tuple (h.rep f g1)
def wV.rep(b:Rows F G n k H):∀{xs c:List AV} {vs:List Value},wV H k xs c->fq F G n xs vs->fq F G k c vs
 |_,_,_,.nil,a=>by cases a;exact .nil
 |_,_,_,.cons h1 d,a=>by
  cases a with
  |cons g1 g2=>exact .cons (h1.rep b g1) (d.rep b g2)
end
end
open Classical in
def dL.settle{P:Program}{T:dx}{f:FuncId}{args:List AV}{H:cW}{Post Post':AV->cW->Prop}(h:dL P T f args H Post)
  (W:∀r H',Post r H'->∃H2 X M,H'=H2++X/\H2.length=H.length/\(∀cs∈H2,cs∈H\/AV.gA H.length cs=true)/\QC H' H.length r M/\Post' M H2):dL P T f args H Post':=by
 refine⟨h.1,λG F w vs hg Y=>(h.2 G F w vs hg Y).mono ?_⟩
 have z:∀cs∈H,AV.gA H.length cs=true:=by
  intro cs l;obtain⟨o,m⟩:=Wd.1 l;obtain⟨I,_,A⟩:=hg.jX o cs m;exact A.tF
 rintro e w' ⟨r,H',v,G',F',h1,rfl,n,Z,p⟩;obtain⟨H2,X,M,rfl,s,hX,hs,hq⟩:=W r H' h1;have J:∀cs∈H2,AV.gA H.length cs=true:=λcs l=>(hX cs l).elim (z cs) id
 have K:∀b o v,F b o=some v->F' b o=some v:=by
  intro b o v a
  have hb:b<w.heap.size:=by
   rcases qu b w.heap.size with hb|hb
   ·exact hb
   ·rw[hg.fresh b o hb] at a;cases a
  exact p.mF b o v hb a
 have hlen:H.length<=(H2++X).length:=by rw[oJ];omega
 let d:Nat->Prop:=λb=>∃o cs,H.length<=o/\(H2++X)[o]?=some cs/\lj cs=true/\G' o=b
 let q:jY:=λb j=>if d b then w'.cell? ⟨b,j,none⟩else F' b j
 have N:∀o,o<H.length->¬d (G' o):=by
  rintro o m ⟨o',cs,h1,t,_,he⟩;have O:=(kj.1 t).1;have:=n.inj o' o O VW he;omega
 have B:∀b j v,F' b j=some v->q b j=some v:=by
  intro b j v a;show(if d b then _ else _)=_
  by_cases k:d b
  ·rw[cO k];exact n.BF b j v a
  ·rw[cK k];exact a
 have C:Cc F' q G' G' (H2++X).length (H2++X).length:=⟨B,gu _,λ_ _=>rfl⟩
 have D:Rows q G' (H2++X).length H.length (H2++X):=by
  intro o cs m l y;obtain⟨I,E,A⟩:=n.jX o cs l;obtain⟨us,ty,Q,rfl,L,R,S⟩:=A.xi y;refine⟨us.toList,?_,(fq.m6 R).grow C,S⟩;intro i v a;show(if d (G' o)then w'.cell? ⟨G' o,0+i,none⟩else F' (G' o) (0+i))=_;rw[cO ⟨o,cs,m,l,y,rfl⟩,r_,cell_of_row w' _ i us ty Q E];simpa using a
 refine⟨M,H2,v,G',q,hq,rfl,⟨?_,?_,?_,?_,?_,?_,?_⟩,by rw[s];exact hs.rep D (Z.grow C),⟨p.os,p.tape,p.output,p.size,by rw[s];exact gu _,p.hG,λo h1 t=>absurd t VW,?_,?_,p.heap⟩⟩
 ·intro b j v a
  by_cases k:d b
  ·have:q b j=w'.cell? ⟨b,j,none⟩:=cO k;rw[<-this];exact a
  ·have:q b j=F' b j:=cK k;rw[this] at a;exact n.BF b j v a
 ·intro o cs m;have U:o<H2.length:=(kj.1 m).1;obtain⟨I,E,A⟩:=n.jX o cs (by rw[p4 U];exact m);exact⟨I,E,by rw[s];exact(A.grow C).lower (J cs (z6 m))⟩
 ·exactλo o' m aa=>n.inj o o' VW VW
 ·intro o j m V;have:q (G' o) j=F' (G' o) j:=cK (N o VW);rw[this];exact n.gF o j VW (by rw[p4 m];exact V)
 ·intro b j hb
  have k:¬d b:=by
   rintro⟨o,cs,h1,t,_,rfl⟩;obtain⟨I,E,_⟩:=n.jX o cs t;have:=nY E;omega
  have:q b j=F' b j:=cK k;rw[this];exact n.fresh b j hb
 ·intro g x k;rw[s];exact(hg.yI g x k).grow ⟨λb o v a=>B _ _ _ (K b o v a),gu _,λo m=>p.hG o m⟩
 ·intro hT b j v a
  by_cases k:d b
  ·obtain⟨o,cs,h1,t,y,rfl⟩:=k;obtain⟨I,E,A⟩:=n.jX o cs t;obtain⟨us,ty,Q,rfl,L,R,S⟩:=A.xi y;exact⟨us,ty,Q,E,L,λu hu=>by obtain⟨c,hc,hr⟩:=R.mem hu;exact hr.Ff (S c hc)⟩
  ·have:q b j=F' b j:=cK k;rw[this] at a;exact n.row hT b j v a
 ·intro b j hb hn
  have k:¬d b:=by
   rintro⟨o,cs,h1,t,_,rfl⟩;have:=p.G9 o h1 (kj.1 t).1;omega
  have:q b j=F' b j:=cK k;rw[this];exact p.hF b j hb hn
 ·intro b j v hb a;exact B b j v (p.mF b j v hb a)
end Go.ke
