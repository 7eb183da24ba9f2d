/- Part of the proof of TranslateStable: layer. -/
import Derived.Test.YtffcgfpaakhbjaaGreatDoorL16
set_option linter.all false
namespace Go.jN
open Go Go.dG
section
variable{P:Program} {T:cV} {n:Nat} {fr:Fr} {H:cc}
end
section
variable{X:Cx} {k:Nat} {S:List It} {fr:Fr} {H:cc} {c:Code}
end
section
variable{X:Cx} {S:List It} {fr:Fr} {H:cc} {id:Nat} {ops:Array Oper}
def aaN(k:Nat)(q:Qt)(h:dF X.P X.T X.E ops q (PN X.D id).2 ops.toList (Wf X k S) fr H):Wf X 0 (.c (.region id ops true)::S) fr H:=by
 intro hm a;simp only[rl,eg] at a;refine(fA.Ot X.E q (PN X.D id).2 hm a.1 a.2 (Q:=Vc (Wf X k S)) h).mono λe fr' H' b=>?_
 cases e<;>first|exact iE X k _ _ _ b|exact b.elim
end
section
variable{X:Cx} {k:Nat} {S:List It} {fr:Fr} {H:cc} {a:Code} {id:Nat}
def wlb(i k2:Nat)(I:Nat->Fr->cc->Prop)(m:Nat)(R:Fr->cc->Prop)(o:I m fr H)(p:∀m fr H,I m fr H->∀K l:Fr->cc->Prop,(∀fr' H' n,n<m->I n fr' H'->K fr' H')->(∀f h,R f h->l f h)->Wf X i (.c a::.h K::.b id::.h l::S) fr H)
  (q:∀f h,R f h->Wf X k2 S f h):Wf X (k+1) (.c (.loop a)::.b id::S) fr H:=by
 refine wl 0 I m o λm fr H r K s=>?_;have t:=iE X i _ _ _ (p m fr H r K (λf h=>SQ X S .normal f h) s (λf h u=>iE X k2 S f h (q f h u)));intro hm d;refine(t hm d).mono λe fr' H' g=>?_;cases e with
 |exit j=>
  have g:(if j=id then SQ X S .normal fr' H' else SQ X S (.exit j) fr' H'):=g;exact g
 |_=>exact g
end
@[simp] theorem YV:AV.cells (.DI:AV)=[.DI]:=rfl
@[simp] theorem Ug:dn (.DI:AV)=true:=rfl
@[simp] theorem Zi:AV.gA (.DI:AV)=.DI:=rfl
@[simp] theorem aaO:AV.norm (.DI:AV)=.DI:=rfl
@[simp] theorem YH:AV.ej .DI=true:=rfl
mutual
inductive Vt (H:cc) (k:Nat):AV->AV->Prop
 |adN {x}:x.low k=true->Vt H k x x|DI:Vt H k .DI (.slice .gY [])|oZ {o off len cap cs l sz}:k<=o->H[o]?=some cs->mg cs=true->off+len*sz<=cs.length->Em H k ((cs.drop off).take (len*sz)) (l.flatMap AV.cells)->l.length=len->(∀x∈l,x.cells.length=sz)->Vt H k (.oZ o off len cap) (.slice .gY l)|agg {cs cs'}:Em H k cs cs'->Vt H k (.agg cs) (.agg cs')|tuple {cs cs'}:Em H k cs cs'->Vt H k (.tuple cs) (.tuple cs')
inductive Em (H:cc) (k:Nat):List AV->List AV->Prop
 |nil:Em H k [] []|cons {x y xs ys}:Vt H k x y->Em H k xs ys->Em H k (x::xs) (y::ys)
end
def Vt.one{H:cc}{k:Nat}{x y:AV}(h:Vt H k x y):y.ej=x.ej:=by
 cases h<;>rfl
def Em.qu{H:cc}{k:Nat}:∀{xs a:List AV},Em H k xs a->(∀c∈xs,c.ej=true)->∀c∈a,c.ej=true
 |_,_,.nil,_,c,hc=>by cases hc
 |_,_,.cons d e,b,c,hc=>by
  rcases jW.1 hc with rfl|hc
  ·rw[d.one];exact b _ aas
  ·exact e.qu (λc hc=>b c (by simp[hc])) c hc
def Em.append{H:cc}{k:Nat}:∀{xs c a b:List AV},Em H k xs c->Em H k a b->Em H k (xs++a) (c++b)
 |_,_,_,_,.nil,h=>h|_,_,_,_,.cons d e,h=>.cons d (e.append h)
section
variable{F:js} {G:Nat->Nat} {n k:Nat} {H:cc}
end
end Go.jN
