/- Part of the proof of SchemeLists: layer. -/
import Derived.Test.YtpgdkkomegalnaaGreatDoorLL18
set_option linter.all false
namespace Go.kY
open Go Go.fD
section
variable{P:Program} {T:eN} {n:Nat} {fr:Fr} {H:dY}
end
section
variable{X:Cx} {k:Nat} {S:List It} {fr:Fr} {H:dY} {c:Code}
end
section
variable{X:Cx} {S:List It} {fr:Fr} {H:dY} {id:Nat} {ops:Array Oper}
end
section
variable{X:Cx} {k:Nat} {S:List It} {fr:Fr} {H:dY} {a:Code} {id:Nat}
end
mutual
inductive Stl (H:dY) (k:Nat):AV->AV->Prop
 |akN {x}:x.low k=true->Stl H k x x|M9:Stl H k .M9 (.slice .gI [])|zF {o off len cap cs l sz}:k<=o->H[o]?=some cs->vj cs=true->off+len*sz<=cs.length->Hy H k ((cs.drop off).take (len*sz)) (l.flatMap AV.cells)->l.length=len->(∀x∈l,x.cells.length=sz)->Stl H k (.zF o off len cap) (.slice .gI l)|agg {cs cs'}:Hy H k cs cs'->Stl H k (.agg cs) (.agg cs')|tuple {cs cs'}:Hy H k cs cs'->Stl H k (.tuple cs) (.tuple cs')
inductive Hy (H:dY) (k:Nat):List AV->List AV->Prop
 |nil:Hy H k [] []|cons {x y xs ys}:Stl H k x y->Hy H k xs ys->Hy H k (x::xs) (y::ys)
end
def Stl.one{H:dY}{k:Nat}{x y:AV}(h:Stl H k x y):y.gL=x.gL:=by
 cases h<;>rfl
def Hy.sy{H:dY}{k:Nat}:∀{xs a:List AV},Hy H k xs a->(∀c∈xs,c.gL=true)->∀c∈a,c.gL=true
 |_,_,.nil,_,c,hc=>by cases hc
 |_,_,.cons d f,b,c,hc=>by
  rcases lQ.1 hc with rfl|hc
  ·rw[d.one];exact b _ aa2
  ·exact f.sy (λc hc=>b c (by simp[hc])) c hc
def Hy.append{H:dY}{k:Nat}:∀{xs c a b:List AV},Hy H k xs c->Hy H k a b->Hy H k (xs++a) (c++b)
 |_,_,_,_,.nil,h=>h|_,_,_,_,.cons d f,h=>.cons d (f.append h)
section
variable{F:kM} {G:Nat->Nat} {n k:Nat} {H:dY}
end
end Go.kY
