/- Part of the proof of SchemeAccepted: layer. -/
import Derived.Test.YtpgdkkomegalnaaGreatDoorAL18
set_option linter.all false
namespace Go.kY
open Go Go.fH
section
variable{P:Program} {T:eH} {n:Nat} {fr:Fr} {H:dT}
end
section
variable{X:Cx} {k:Nat} {S:List It} {fr:Fr} {H:dT} {c:Code}
end
section
variable{X:Cx} {S:List It} {fr:Fr} {H:dT} {id:Nat} {ops:Array Oper}
end
section
variable{X:Cx} {k:Nat} {S:List It} {fr:Fr} {H:dT} {a:Code} {id:Nat}
end
mutual
inductive Stl (H:dT) (k:Nat):AV->AV->Prop
 |aiy {x}:x.low k=true->Stl H k x x|Mw:Stl H k .Mw (.slice .gx [])|zy {o off len cap cs l sz}:k<=o->H[o]?=some cs->uE cs=true->off+len*sz<=cs.length->GD H k ((cs.drop off).take (len*sz)) (l.flatMap AV.cells)->l.length=len->(∀x∈l,x.cells.length=sz)->Stl H k (.zy o off len cap) (.slice .gx l)|agg {cs cs'}:GD H k cs cs'->Stl H k (.agg cs) (.agg cs')|tuple {cs cs'}:GD H k cs cs'->Stl H k (.tuple cs) (.tuple cs')
inductive GD (H:dT) (k:Nat):List AV->List AV->Prop
 |nil:GD H k [] []|cons {x y xs ys}:Stl H k x y->GD H k xs ys->GD H k (x::xs) (y::ys)
end
def Stl.one{H:dT}{k:Nat}{x y:AV}(h:Stl H k x y):y.gA=x.gA:=by
 cases h<;>rfl
def GD.rT{H:dT}{k:Nat}:∀{xs a:List AV},GD H k xs a->(∀c∈xs,c.gA=true)->∀c∈a,c.gA=true
 |_,_,.nil,_,c,hc=>by cases hc
 |_,_,.cons d f,b,c,hc=>by
  rcases lS.1 hc with rfl|hc
  ·rw[d.one];exact b _ aaF
  ·exact f.rT (λc hc=>b c (by simp[hc])) c hc
def GD.append{H:dT}{k:Nat}:∀{xs c a b:List AV},GD H k xs c->GD H k a b->GD H k (xs++a) (c++b)
 |_,_,_,_,.nil,h=>h|_,_,_,_,.cons d f,h=>.cons d (f.append h)
section
variable{F:kD} {G:Nat->Nat} {n k:Nat} {H:dT}
end
end Go.kY
