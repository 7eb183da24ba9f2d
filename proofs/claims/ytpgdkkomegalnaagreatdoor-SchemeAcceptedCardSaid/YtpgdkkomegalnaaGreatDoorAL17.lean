/- Part of the proof of SchemeAccepted: layer. -/
import Derived.Below
import Derived.Test.YtpgdkkomegalnaaGreatDoorAL16
set_option linter.all false
namespace Go.kY
open Go Go.RowKit
def GW.below{T:eH}{G:Nat->Nat}{F:kD}{H:dT}{w w':World}(h:GW T G F H w)(f:Below w.heap.size w w'):GW T G F H w' where
 FR b o v d:=by
  have c:=h.FR b o v d
  have a:b<w.heap.size:=by
   rcases uR b w.heap.size with h2|h2
   ·exact h2
   ·have:=h.fresh b o h2;rw[this] at d;cases d
  unfold World.cell? at c|-;rw[f.block b a];exact c
 lM o cs k:=by
  obtain⟨l,c,h2⟩:=h.lM o cs k;refine⟨l,?_,h2⟩
  have a:G o<w.heap.size:=by
   rcases uR (G o) w.heap.size with h4|h4
   ·exact h4
   ·rw[Array.getElem?_eq_none h4] at c;cases c
  rw[f.block _ a];exact c
 inj:=h.inj
 gF:=h.gF
 fresh b j i:=h.fresh b j (GV f.size i)
 Dl:=h.Dl
 row n b j v d:=by
  obtain⟨vs,ty,q,c,h2⟩:=h.row n b j v d;have a:b<w.heap.size:=(R0.1 c).1;exact⟨vs,ty,q,by rw[f.block b a];exact c,h2⟩
def Ext.ac2{G:Nat->Nat}{F:kD}{n:Nat}{w w':World}(a:Below w.heap.size w w'):Ext w.heap.size G F n w G F n w' where
 os:=a.os
 tape:=a.tape
 output:=a.output
 size:=a.size
 len:=js _
 hG _ _:=rfl
 L8 _ h c:=absurd c VW
 hF _ _ _ _:=rfl
 mF _ _ _ _ h:=h
 heap b h _:=a.block b h
def eI.X_{P:Program}{T:eH}{f:FuncId}{args:List AV}{H:dT}{r:AV}(he:kI P f=true)
  (h:∀(G:Nat->Nat) (F:kD) (w:World) (vs:List Value),GW T G F H w->gV F G H.length args vs->∃v,gH F G H.length r v/\Calls P f vs.toArray w λe w'=>e=.returned v/\Below w.heap.size w w'):eI P T f args H r H:=by
 refine⟨he,λG F w vs hg b=>?_⟩;obtain⟨v,c,d⟩:=h G F w vs hg b;exact d.mono λe w' ⟨i,a⟩=>⟨r,H,v,G,F,⟨rfl,rfl⟩,i,hg.below a,c,Ext.ac2 a⟩
end Go.kY
