/- Part of the proof of KernelAccepts, KernelDoes: layer. -/
import Derived.Below
import Derived.Test.YtobcafblgapgfaaGreatDoorL14
set_option linter.all false
namespace Go.ke
open Go Go.RowKit
def GW.below{T:dx}{G:Nat->Nat}{F:jY}{H:cW}{w w':World}(h:GW T G F H w)(d:Below w.heap.size w w'):GW T G F H w' where
 BF b o v c:=by
  have h1:=h.BF b o v c
  have a:b<w.heap.size:=by
   rcases qu b w.heap.size with h2|h2
   ·exact h2
   ·have:=h.fresh b o h2;rw[this] at c;cases c
  unfold World.cell? at h1|-;rw[d.block b a];exact h1
 jX o cs f:=by
  obtain⟨g,h1,h2⟩:=h.jX o cs f;refine⟨g,?_,h2⟩
  have a:G o<w.heap.size:=by
   rcases qu (G o) w.heap.size with h4|h4
   ·exact h4
   ·rw[Array.getElem?_eq_none h4] at h1;cases h1
  rw[d.block _ a];exact h1
 inj:=h.inj
 gF:=h.gF
 fresh b j e:=h.fresh b j (uJ d.size e)
 yI:=h.yI
 row i b j v c:=by
  obtain⟨vs,ty,k,h1,h2⟩:=h.row i b j v c;have a:b<w.heap.size:=(MC.1 h1).1;exact⟨vs,ty,k,by rw[d.block b a];exact h1,h2⟩
def Ext.WK{G:Nat->Nat}{F:jY}{n:Nat}{w w':World}(a:Below w.heap.size w w'):Ext w.heap.size G F n w G F n w' where
 os:=a.os
 tape:=a.tape
 output:=a.output
 size:=a.size
 len:=gu _
 hG _ _:=rfl
 G9 _ h c:=absurd c VW
 hF _ _ _ _:=rfl
 mF _ _ _ _ h:=h
 heap b h _:=a.block b h
def du.TF{P:Program}{T:dx}{f:FuncId}{args:List AV}{H:cW}{r:AV}(he:jm P f=true)
  (h:∀(G:Nat->Nat) (F:jY) (w:World) (vs:List Value),GW T G F H w->fq F G H.length args vs->∃v,fF F G H.length r v/\Calls P f vs.toArray w λe w'=>e=.returned v/\Below w.heap.size w w'):du P T f args H r H:=by
 refine⟨he,λG F w vs hg b=>?_⟩;obtain⟨v,h1,c⟩:=h G F w vs hg b;exact c.mono λe w' ⟨d,a⟩=>⟨r,H,v,G,F,⟨rfl,rfl⟩,d,hg.below a,h1,Ext.WK a⟩
end Go.ke
