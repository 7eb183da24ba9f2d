/- Part of the proof of SchemeAccepted: layer. -/
import Derived.Test.YtpgdkkomegalnaaGreatDoorL18
set_option linter.all false
namespace Go.kY
open Go Go.fN
section
variable{P:Program} {T:eA} {n:Nat} {fr:Fr} {H:dS}
end
section
variable{X:Cx} {k:Nat} {S:List It} {fr:Fr} {H:dS} {c:Code}
end
section
variable{X:Cx} {S:List It} {fr:Fr} {H:dS} {id:Nat} {ops:Array Oper}
end
section
variable{X:Cx} {k:Nat} {S:List It} {fr:Fr} {H:dS} {a:Code} {id:Nat}
end
@[simp] theorem aip:AV.cells (.Gb:AV)=[.Gb]:=rfl
@[simp] theorem adj:eU (.Gb:AV)=true:=rfl
@[simp] theorem aiF:AV.iV (.Gb:AV)=.Gb:=rfl
@[simp] theorem aju:AV.norm (.Gb:AV)=.Gb:=rfl
@[simp] theorem aiH:AV.gf .Gb=true:=rfl
mutual
inductive Stl (H:dS) (k:Nat):AV->AV->Prop
 |anD {x}:x.low k=true->Stl H k x x|Gb:Stl H k .Gb (.slice .gx [])|vj {o off len cap cs l sz}:k<=o->H[o]?=some cs->ue cs=true->off+len*sz<=cs.length->Gy H k ((cs.drop off).take (len*sz)) (l.flatMap AV.cells)->l.length=len->(∀x∈l,x.cells.length=sz)->Stl H k (.vj o off len cap) (.slice .gx l)|agg {cs cs'}:Gy H k cs cs'->Stl H k (.agg cs) (.agg cs')|tuple {cs cs'}:Gy H k cs cs'->Stl H k (.tuple cs) (.tuple cs')
inductive Gy (H:dS) (k:Nat):List AV->List AV->Prop
 |nil:Gy H k [] []|cons {x y xs ys}:Stl H k x y->Gy H k xs ys->Gy H k (x::xs) (y::ys)
end
def Stl.one{H:dS}{k:Nat}{x y:AV}(h:Stl H k x y):y.gf=x.gf:=by
 cases h<;>rfl
def Gy.rW{H:dS}{k:Nat}:∀{xs a:List AV},Gy H k xs a->(∀c∈xs,c.gf=true)->∀c∈a,c.gf=true
 |_,_,.nil,_,c,hc=>by cases hc
 |_,_,.cons d f,b,c,hc=>by
  rcases lX.1 hc with rfl|hc
  ·rw[d.one];exact b _ LA
  ·exact f.rW (λc hc=>b c (by simp[hc])) c hc
def Gy.append{H:dS}{k:Nat}:∀{xs c a b:List AV},Gy H k xs c->Gy H k a b->Gy H k (xs++a) (c++b)
 |_,_,_,_,.nil,h=>h|_,_,_,_,.cons d f,h=>.cons d (f.append h)
section
variable{F:kD} {G:Nat->Nat} {n k:Nat} {H:dS}
end
end Go.kY
