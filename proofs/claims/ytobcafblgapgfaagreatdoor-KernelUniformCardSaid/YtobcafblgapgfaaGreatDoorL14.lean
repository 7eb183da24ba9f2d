/- Part of the proof of KernelUniform: layer. -/
import Derived.Below
import Derived.Test.YtobcafblgapgfaaGreatDoorL13
set_option linter.all false
namespace Go.mS
open Go Go.RowKit
def GW.below{T:fg}{G:Nat->Nat}{F:lE}{H:eD}{w w':World}(h:GW T G F H w)(e:Below w.heap.size w w'):GW T G F H w' where
 Ex b o v d:=by
  have c:=h.Ex b o v d
  have a:b<w.heap.size:=by
   rcases sA b w.heap.size with h2|h2
   ·exact h2
   ·have:=h.fresh b o h2;rw[this] at d;cases d
  unfold World.cell? at c|-;rw[e.block b a];exact c
 mb o cs g:=by
  obtain⟨i,c,h2⟩:=h.mb o cs g;refine⟨i,?_,h2⟩
  have a:G o<w.heap.size:=by
   rcases sA (G o) w.heap.size with h4|h4
   ·exact h4
   ·rw[Array.getElem?_eq_none h4] at c;cases c
  rw[e.block _ a];exact c
 inj:=h.inj
 gF:=h.gF
 fresh b j f:=h.fresh b j (B4 e.size f)
 Ag:=h.Ag
 row k b j v d:=by
  obtain⟨vs,ty,l,c,h2⟩:=h.row k b j v d;have a:b<w.heap.size:=(NV.1 c).1;exact⟨vs,ty,l,by rw[e.block b a];exact c,h2⟩
def Ext.U2{G:Nat->Nat}{F:lE}{n:Nat}{w w':World}(a:Below w.heap.size w w'):Ext w.heap.size G F n w G F n w' where
 os:=a.os
 tape:=a.tape
 output:=a.output
 size:=a.size
 len:=jh _
 hG _ _:=rfl
 J4 _ h c:=absurd c (by omega)
 hF _ _ _ _:=rfl
 mF _ _ _ _ h:=h
 heap b h _:=a.block b h
def e9.To{P:Program}{T:fg}{f:FuncId}{args:List AV}{H:eD}{r:AV}(he:su P f=true)
  (h:∀(G:Nat->Nat) (F:lE) (w:World) (vs:List Value),GW T G F H w->hR F G H.length args vs->∃v,ia F G H.length r v/\Calls P f vs.toArray w λe w'=>e=.returned v/\Below w.heap.size w w'):e9 P T f args H r H:=by
 refine⟨he,λG F w vs hg b=>?_⟩;obtain⟨v,c,d⟩:=h G F w vs hg b;exact d.mono λe w' ⟨g,a⟩=>⟨r,H,v,G,F,⟨rfl,rfl⟩,g,hg.below a,c,Ext.U2 a⟩
end Go.mS
