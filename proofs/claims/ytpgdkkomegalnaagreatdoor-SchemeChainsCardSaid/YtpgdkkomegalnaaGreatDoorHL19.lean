/- Part of the proof of SchemeChains: layer. -/
import Derived.Test.YtpgdkkomegalnaaGreatDoorHL18
set_option linter.all false
namespace Go.lD
open Go Go.fP
section
variable{P:Program} {T:eK} {n:Nat} {fr:Fr} {H:dV}
end
section
variable{X:Cx} {k:Nat} {S:List It} {fr:Fr} {H:dV} {c:Code}
end
section
variable{X:Cx} {S:List It} {fr:Fr} {H:dV} {id:Nat} {ops:Array Oper}
end
section
variable{X:Cx} {k:Nat} {S:List It} {fr:Fr} {H:dV} {a:Code} {id:Nat}
end
mutual
inductive Stl (H:dV) (k:Nat):AV->AV->Prop
 |aog {x}:x.low k=true->Stl H k x x|Ps:Stl H k .Ps (.slice .gK [])|zF {o off len cap cs l sz}:k<=o->H[o]?=some cs->uZ cs=true->off+len*sz<=cs.length->GY H k ((cs.drop off).take (len*sz)) (l.flatMap AV.cells)->l.length=len->(∀x∈l,x.cells.length=sz)->Stl H k (.zF o off len cap) (.slice .gK l)|agg {cs cs'}:GY H k cs cs'->Stl H k (.agg cs) (.agg cs')|tuple {cs cs'}:GY H k cs cs'->Stl H k (.tuple cs) (.tuple cs')
inductive GY (H:dV) (k:Nat):List AV->List AV->Prop
 |nil:GY H k [] []|cons {x y xs ys}:Stl H k x y->GY H k xs ys->GY H k (x::xs) (y::ys)
end
def Stl.one{H:dV}{k:Nat}{x y:AV}(h:Stl H k x y):y.gO=x.gO:=by
 cases h<;>rfl
def GY.s7{H:dV}{k:Nat}:∀{xs a:List AV},GY H k xs a->(∀c∈xs,c.gO=true)->∀c∈a,c.gO=true
 |_,_,.nil,_,c,hc=>by cases hc
 |_,_,.cons d f,b,c,hc=>by
  rcases kX.1 hc with rfl|hc
  .rw[d.one];exact b _ abm
  .exact f.s7 (λc hc=>b c (by simp[hc])) c hc
def GY.append{H:dV}{k:Nat}:∀{xs c a b:List AV},GY H k xs c->GY H k a b->GY H k (xs++a) (c++b)
 |_,_,_,_,.nil,h=>h|_,_,_,_,.cons d f,h=>.cons d (f.append h)
section
variable{F:la} {G:Nat->Nat} {n k:Nat} {H:dV}
end
end Go.lD
