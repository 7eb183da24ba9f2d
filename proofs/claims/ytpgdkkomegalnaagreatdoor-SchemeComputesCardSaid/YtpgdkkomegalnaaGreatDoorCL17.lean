/- Part of the proof of SchemeComputes: layer. -/
import Derived.Below
import Derived.Test.YtpgdkkomegalnaaGreatDoorCL16
set_option linter.all false
namespace Go.ld
open Go Go.RowKit
def GW.below{T:eO}{G:Nat->Nat}{F:kT}{H:dZ}{w w':World}(h:GW T G F H w)(f:Below w.heap.size w w'):GW T G F H w' where
 G5 b o v d:=by
  have c:=h.G5 b o v d
  have a:b<w.heap.size:=by
   rcases vb b w.heap.size with h2|h2
   ·exact h2
   ·have:=h.fresh b o h2;rw[this] at d;cases d
  unfold World.cell? at c|-;rw[f.block b a];exact c
 lW o cs k:=by
  obtain⟨l,c,h2⟩:=h.lW o cs k;refine⟨l,?_,h2⟩
  have a:G o<w.heap.size:=by
   rcases vb (G o) w.heap.size with h4|h4
   ·exact h4
   ·rw[Array.getElem?_eq_none h4] at c;cases c
  rw[f.block _ a];exact c
 inj:=h.inj
 gF:=h.gF
 fresh b j i:=h.fresh b j (A5 f.size i)
 DQ:=h.DQ
 row n b j v d:=by
  obtain⟨vs,ty,q,c,h2⟩:=h.row n b j v d;have a:b<w.heap.size:=(Vc.1 c).1;exact⟨vs,ty,q,by rw[f.block b a];exact c,h2⟩
def Ext.ae5{G:Nat->Nat}{F:kT}{n:Nat}{w w':World}(a:Below w.heap.size w w'):Ext w.heap.size G F n w G F n w' where
 os:=a.os
 tape:=a.tape
 output:=a.output
 size:=a.size
 len:=g_ _
 hG _ _:=rfl
 MQ _ h c:=absurd c VW
 hF _ _ _ _:=rfl
 mF _ _ _ _ h:=h
 heap b h _:=a.block b h
def eP.aaY{P:Program}{T:eO}{f:FuncId}{args:List AV}{H:dZ}{r:AV}(he:kW P f=true)
  (h:∀(G:Nat->Nat) (F:kT) (w:World) (vs:List Value),GW T G F H w->hO F G H.length args vs->∃v,gR F G H.length r v/\Calls P f vs.toArray w λe w'=>e=.returned v/\Below w.heap.size w w'):eP P T f args H r H:=by
 refine⟨he,λG F w vs hg b=>?_⟩;obtain⟨v,c,d⟩:=h G F w vs hg b;exact d.mono λe w' ⟨i,a⟩=>⟨r,H,v,G,F,⟨rfl,rfl⟩,i,hg.below a,c,Ext.ae5 a⟩
end Go.ld
