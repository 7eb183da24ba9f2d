/- Part of the proof of SchemeComputes: layer. -/
import Derived.Test.YtpgdkkomegalnaaGreatDoorCL18
set_option linter.all false
namespace Go.ld
open Go Go.fF
section
variable{P:Program} {T:eO} {n:Nat} {fr:Fr} {H:dZ}
end
section
variable{X:Cx} {k:Nat} {S:List It} {fr:Fr} {H:dZ} {c:Code}
end
section
variable{X:Cx} {S:List It} {fr:Fr} {H:dZ} {id:Nat} {ops:Array Oper}
end
section
variable{X:Cx} {k:Nat} {S:List It} {fr:Fr} {H:dZ} {a:Code} {id:Nat}
end
mutual
inductive Stl (H:dZ) (k:Nat):AV->AV->Prop
 |alN {x}:x.low k=true->Stl H k x x|NX:Stl H k .NX (.slice .gK [])|z' {o off len cap cs l sz}:k<=o->H[o]?=some cs->vu cs=true->off+len*sz<=cs.length->HV H k ((cs.drop off).take (len*sz)) (l.flatMap AV.cells)->l.length=len->(∀x∈l,x.cells.length=sz)->Stl H k (.z' o off len cap) (.slice .gK l)|agg {cs cs'}:HV H k cs cs'->Stl H k (.agg cs) (.agg cs')|tuple {cs cs'}:HV H k cs cs'->Stl H k (.tuple cs) (.tuple cs')
inductive HV (H:dZ) (k:Nat):List AV->List AV->Prop
 |nil:HV H k [] []|cons {x y xs ys}:Stl H k x y->HV H k xs ys->HV H k (x::xs) (y::ys)
end
def Stl.one{H:dZ}{k:Nat}{x y:AV}(h:Stl H k x y):y.gO=x.gO:=by
 cases h<;>rfl
def HV.so{H:dZ}{k:Nat}:∀{xs a:List AV},HV H k xs a->(∀c∈xs,c.gO=true)->∀c∈a,c.gO=true
 |_,_,.nil,_,c,hc=>by cases hc
 |_,_,.cons d f,b,c,hc=>by
  rcases mb.1 hc with rfl|hc
  ·rw[d.one];exact b _ aaA
  ·exact f.so (λc hc=>b c (by simp[hc])) c hc
def HV.append{H:dZ}{k:Nat}:∀{xs c a b:List AV},HV H k xs c->HV H k a b->HV H k (xs++a) (c++b)
 |_,_,_,_,.nil,h=>h|_,_,_,_,.cons d f,h=>.cons d (f.append h)
section
variable{F:kT} {G:Nat->Nat} {n k:Nat} {H:dZ}
end
end Go.ld
