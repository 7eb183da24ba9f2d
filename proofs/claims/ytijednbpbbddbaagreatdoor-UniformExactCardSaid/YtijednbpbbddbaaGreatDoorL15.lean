/- Part of the proof of UniformExact, UniformAccepted: layer. -/
import Derived.Below
import Derived.Test.YtijednbpbbddbaaGreatDoorL14
set_option linter.all false
namespace Go.ns
open Go Go.RowKit
def GW.below{T:ec}{G:Nat->Nat}{F:nc}{H:dd}{w w':World}(h:GW T G F H w)(e:Below w.heap.size w w'):GW T G F H w' where
 JO b o v d:=by
  have c:=h.JO b o v d
  have a:b<w.heap.size:=by
   rcases tv b w.heap.size with h2|h2
   ·exact h2
   ·have:=h.fresh b o h2;rw[this] at d;cases d
  unfold World.cell? at c|-;rw[e.block b a];exact c
 oB o cs g:=by
  obtain⟨i,c,h2⟩:=h.oB o cs g;refine⟨i,?_,h2⟩
  have a:G o<w.heap.size:=by
   rcases tv (G o) w.heap.size with h4|h4
   ·exact h4
   ·rw[Array.getElem?_eq_none h4] at c;cases c
  rw[e.block _ a];exact c
 inj:=h.inj
 gF:=h.gF
 fresh b j f:=h.fresh b j (CJ e.size f)
 F9:=h.F9
 row k b j v d:=by
  obtain⟨vs,ty,l,c,h2⟩:=h.row k b j v d;have a:b<w.heap.size:=(QW.1 c).1;exact⟨vs,ty,l,by rw[e.block b a];exact c,h2⟩
def Ext.abP{G:Nat->Nat}{F:nc}{n:Nat}{w w':World}(a:Below w.heap.size w w'):Ext w.heap.size G F n w G F n w' where
 os:=a.os
 tape:=a.tape
 output:=a.output
 size:=a.size
 len:=ig _
 hG _ _:=rfl
 QE _ h c:=absurd c VW
 hF _ _ _ _:=rfl
 mF _ _ _ _ h:=h
 heap b h _:=a.block b h
def dY.Ya{P:Program}{T:ec}{f:FuncId}{args:List AV}{H:dd}{r:AV}(he:mX P f=true)
  (h:∀(G:Nat->Nat) (F:nc) (w:World) (vs:List Value),GW T G F H w->iI F G H.length args vs->∃v,ic F G H.length r v/\Calls P f vs.toArray w λe w'=>e=.returned v/\Below w.heap.size w w'):dY P T f args H r H:=by
 refine⟨he,λG F w vs hg b=>?_⟩;obtain⟨v,c,d⟩:=h G F w vs hg b;exact d.mono λe w' ⟨g,a⟩=>⟨r,H,v,G,F,⟨rfl,rfl⟩,g,hg.below a,c,Ext.abP a⟩
end Go.ns
