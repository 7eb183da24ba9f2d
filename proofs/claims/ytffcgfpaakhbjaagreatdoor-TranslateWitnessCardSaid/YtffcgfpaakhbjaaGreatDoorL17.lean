/- Part of the proof of TranslateWitness: layer. -/
import Derived.Test.YtffcgfpaakhbjaaGreatDoorL16
set_option linter.all false
namespace Go.jX
open Go Go.dF
section
variable{P:Program} {T:cW} {n:Nat} {fr:Fr} {H:cd}
end
section
variable{X:Cx} {k:Nat} {S:List It} {fr:Fr} {H:cd} {c:Code}
end
section
variable{X:Cx} {S:List It} {fr:Fr} {H:cd} {id:Nat} {ops:Array Oper}
def Zi(k:Nat)(q:Qt)(h:dy X.P X.T X.E ops q (N2 X.D id).2 ops.toList (Wf X k S) fr H):Wf X 0 (.c (.region id ops true)::S) fr H:=by
 intro hm a;simp only[qJ,ed] at a;refine(fb.MR X.E q (N2 X.D id).2 hm a.1 a.2 (Q:=Uh (Wf X k S)) h).mono λe fr' H' b=>?_
 cases e<;>first|exact iw X k _ _ _ b|exact b.elim
end
section
variable{X:Cx} {k:Nat} {S:List It} {fr:Fr} {H:cd} {a:Code} {id:Nat}
def wlb(i k2:Nat)(I:Nat->Fr->cd->Prop)(m:Nat)(R:Fr->cd->Prop)(o:I m fr H)(p:∀m fr H,I m fr H->∀K l:Fr->cd->Prop,(∀fr' H' n,n<m->I n fr' H'->K fr' H')->(∀f h,R f h->l f h)->Wf X i (.c a::.h K::.b id::.h l::S) fr H)
  (q:∀f h,R f h->Wf X k2 S f h):Wf X (k+1) (.c (.loop a)::.b id::S) fr H:=by
 refine wl 0 I m o λm fr H r K s=>?_;have t:=iw X i _ _ _ (p m fr H r K (λf h=>SQ X S .normal f h) s (λf h u=>iw X k2 S f h (q f h u)));intro hm d;refine(t hm d).mono λe fr' H' g=>?_;cases e with
 |exit j=>
  have g:(if j=id then SQ X S .normal fr' H' else SQ X S (.exit j) fr' H'):=g;exact g
 |_=>exact g
end
@[simp] theorem XG:AV.cells (.B4:AV)=[.B4]:=rfl
@[simp] theorem R4:dj (.B4:AV)=true:=rfl
@[simp] theorem Xz:AV.gS (.B4:AV)=.B4:=rfl
@[simp] theorem ZR:AV.norm (.B4:AV)=.B4:=rfl
@[simp] theorem XH:AV.dW .B4=true:=rfl
mutual
inductive T8 (H:cd) (k:Nat):AV->AV->Prop
 |ab_ {x}:x.low k=true->T8 H k x x|B4:T8 H k .B4 (.slice .ja [])|nU {o off len cap cs l sz}:k<=o->H[o]?=some cs->lT cs=true->off+len*sz<=cs.length->Dl H k ((cs.drop off).take (len*sz)) (l.flatMap AV.cells)->l.length=len->(∀x∈l,x.cells.length=sz)->T8 H k (.nU o off len cap) (.slice .ja l)|agg {cs cs'}:Dl H k cs cs'->T8 H k (.agg cs) (.agg cs')|tuple {cs cs'}:Dl H k cs cs'->T8 H k (.tuple cs) (.tuple cs')
inductive Dl (H:cd) (k:Nat):List AV->List AV->Prop
 |nil:Dl H k [] []|cons {x y xs ys}:T8 H k x y->Dl H k xs ys->Dl H k (x::xs) (y::ys)
end
def T8.one{H:cd}{k:Nat}{x y:AV}(h:T8 H k x y):y.dW=x.dW:=by
 cases h<;>rfl
def Dl.pU{H:cd}{k:Nat}:∀{xs a:List AV},Dl H k xs a->(∀c∈xs,c.dW=true)->∀c∈a,c.dW=true
 |_,_,.nil,_,c,hc=>by cases hc
 |_,_,.cons d e,b,c,hc=>by
  rcases jA.1 hc with rfl|hc
  ·rw[d.one];exact b _ th
  ·exact e.pU (λc hc=>b c (by simp[hc])) c hc
def Dl.append{H:cd}{k:Nat}:∀{xs c a b:List AV},Dl H k xs c->Dl H k a b->Dl H k (xs++a) (c++b)
 |_,_,_,_,.nil,h=>h|_,_,_,_,.cons d e,h=>.cons d (e.append h)
section
variable{F:jf} {G:Nat->Nat} {n k:Nat} {H:cd}
end
end Go.jX
