/- Part of the proof of SchemeAccepted: layer. -/
import Derived.Below
import Derived.Test.YtpgdkkomegalnaaGreatDoorL16
set_option linter.all false
namespace Go.kY
open Go Go.RowKit
def GW.below{T:eA}{G:Nat->Nat}{F:kD}{H:dS}{w w':World}(h:GW T G F H w)(f:Below w.heap.size w w'):GW T G F H w' where
 FO b o v d:=by
  have c:=h.FO b o v d
  have a:b<w.heap.size:=by
   rcases tU b w.heap.size with h2|h2
   ·exact h2
   ·have:=h.fresh b o h2;rw[this] at d;cases d
  unfold World.cell? at c|-;rw[f.block b a];exact c
 lQ o cs k:=by
  obtain⟨l,c,h2⟩:=h.lQ o cs k;refine⟨l,?_,h2⟩
  have a:G o<w.heap.size:=by
   rcases tU (G o) w.heap.size with h4|h4
   ·exact h4
   ·rw[Array.getElem?_eq_none h4] at c;cases c
  rw[f.block _ a];exact c
 inj:=h.inj
 gF:=h.gF
 fresh b j i:=h.fresh b j (Gk f.size i)
 Ct:=h.Ct
 row n b j v d:=by
  obtain⟨vs,ty,q,c,h2⟩:=h.row n b j v d;have a:b<w.heap.size:=(Wm.1 c).1;exact⟨vs,ty,q,by rw[f.block b a];exact c,h2⟩
def Ext.afM{G:Nat->Nat}{F:kD}{n:Nat}{w w':World}(a:Below w.heap.size w w'):Ext w.heap.size G F n w G F n w' where
 os:=a.os
 tape:=a.tape
 output:=a.output
 size:=a.size
 len:=jy _
 hG _ _:=rfl
 Me _ h c:=absurd c xL
 hF _ _ _ _:=rfl
 mF _ _ _ _ h:=h
 heap b h _:=a.block b h
def et.abO{P:Program}{T:eA}{f:FuncId}{args:List AV}{H:dS}{r:AV}(he:kj P f=true)
  (h:∀(G:Nat->Nat) (F:kD) (w:World) (vs:List Value),GW T G F H w->gV F G H.length args vs->∃v,gG F G H.length r v/\Calls P f vs.toArray w λe w'=>e=.returned v/\Below w.heap.size w w'):et P T f args H r H:=by
 refine⟨he,λG F w vs hg b=>?_⟩;obtain⟨v,c,d⟩:=h G F w vs hg b;exact d.mono λe w' ⟨i,a⟩=>⟨r,H,v,G,F,⟨rfl,rfl⟩,i,hg.below a,c,Ext.afM a⟩
end Go.kY
