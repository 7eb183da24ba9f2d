/- Part of the proof of UniformExact, UniformAccepted: layer. -/
import Derived.Test.YtijednbpbbddbaaGreatDoorL16
set_option linter.all false
namespace Go.ns
open Go Go.ek
section
variable{P:Program} {T:ec} {n:Nat} {fr:Fr} {H:dd}
end
section
variable{X:Cx} {k:Nat} {S:List It} {fr:Fr} {H:dd} {c:Code}
end
section
variable{X:Cx} {S:List It} {fr:Fr} {H:dd} {id:Nat} {ops:Array Oper}
end
section
variable{X:Cx} {k:Nat} {S:List It} {fr:Fr} {H:dd} {a:Code} {id:Nat}
end
@[simp] theorem acv:AV.cells (.KD:AV)=[.KD]:=rfl
@[simp] theorem YX:e9 (.KD:AV)=true:=rfl
@[simp] theorem aci:AV.kM (.KD:AV)=.KD:=rfl
@[simp] theorem adS:AV.norm (.KD:AV)=.KD:=rfl
@[simp] theorem ac3:AV.gw .KD=true:=rfl
mutual
inductive Zs (H:dd) (k:Nat):AV->AV->Prop
 |U2 {x}:x.low k=true->Zs H k x x|KD:Zs H k .KD (.slice .jU [])|xx {o off len cap cs l sz}:k<=o->H[o]?=some cs->w6 cs=true->off+len*sz<=cs.length->Lv H k ((cs.drop off).take (len*sz)) (l.flatMap AV.cells)->l.length=len->(∀x∈l,x.cells.length=sz)->Zs H k (.xx o off len cap) (.slice .jU l)|agg {cs cs'}:Lv H k cs cs'->Zs H k (.agg cs) (.agg cs')|tuple {cs cs'}:Lv H k cs cs'->Zs H k (.tuple cs) (.tuple cs')
inductive Lv (H:dd) (k:Nat):List AV->List AV->Prop
 |nil:Lv H k [] []|cons {x y xs ys}:Zs H k x y->Lv H k xs ys->Lv H k (x::xs) (y::ys)
end
def Zs.one{H:dd}{k:Nat}{x y:AV}(h:Zs H k x y):y.gw=x.gw:=by
 cases h<;>rfl
def Lv.wm{H:dd}{k:Nat}:∀{xs a:List AV},Lv H k xs a->(∀c∈xs,c.gw=true)->∀c∈a,c.gw=true
 |_,_,.nil,_,c,hc=>by cases hc
 |_,_,.cons d e,b,c,hc=>by
  rcases iL.1 hc with rfl|hc
  ·rw[d.one];exact b _ aaB
  ·exact e.wm (λc hc=>b c (by simp[hc])) c hc
def Lv.append{H:dd}{k:Nat}:∀{xs c a b:List AV},Lv H k xs c->Lv H k a b->Lv H k (xs++a) (c++b)
 |_,_,_,_,.nil,h=>h|_,_,_,_,.cons d e,h=>.cons d (e.append h)
section
variable{F:nc} {G:Nat->Nat} {n k:Nat} {H:dd}
end
end Go.ns
