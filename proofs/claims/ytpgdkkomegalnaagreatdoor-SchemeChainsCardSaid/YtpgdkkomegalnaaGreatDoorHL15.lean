/- Part of the proof of SchemeChains: layer. -/
import Derived.Below
import Derived.Test.YtpgdkkomegalnaaGreatDoorHL14
set_option linter.all false
namespace Go.lD
open Go Go.RowKit
def GW.below{T:eK}{G:Nat->Nat}{F:la}{H:dV}{w w':World}(h:GW T G F H w)(f:Below w.heap.size w w'):GW T G F H w' where
 GL b o v d:=by
  have c:=h.GL b o v d
  have a:b<w.heap.size:=by
   rcases uC b w.heap.size with h2|h2
   .exact h2
   .have:=h.fresh b o h2;rw[this] at d;cases d
  unfold World.cell? at c|-;rw[f.block b a];exact c
 ma o cs k:=by
  obtain⟨l,c,h2⟩:=h.ma o cs k;refine⟨l,?_,h2⟩
  have a:G o<w.heap.size:=by
   rcases uC (G o) w.heap.size with h4|h4
   .exact h4
   .rw[Array.getElem?_eq_none h4] at c;cases c
  rw[f.block _ a];exact c
 inj:=h.inj
 gF:=h.gF
 fresh b j i:=h.fresh b j (z8 f.size i)
 CO:=h.CO
 row n b j v d:=by
  obtain⟨vs,ty,q,c,h2⟩:=h.row n b j v d;have a:b<w.heap.size:=(Xi.1 c).1;exact⟨vs,ty,q,by rw[f.block b a];exact c,h2⟩
def Ext.ahP{G:Nat->Nat}{F:la}{n:Nat}{w w':World}(a:Below w.heap.size w w'):Ext w.heap.size G F n w G F n w' where
 os:=a.os
 tape:=a.tape
 output:=a.output
 size:=a.size
 len:=gY _
 hG _ _:=rfl
 NP _ h c:=absurd c VW
 hF _ _ _ _:=rfl
 mF _ _ _ _ h:=h
 heap b h _:=a.block b h
def eG.ad6{P:Program}{T:eK}{f:FuncId}{args:List AV}{H:dV}{r:AV}(he:kK P f=true)
  (h:∀(G:Nat->Nat) (F:la) (w:World) (vs:List Value),GW T G F H w->hO F G H.length args vs->∃v,gT F G H.length r v/\Calls P f vs.toArray w λe w'=>e=.returned v/\Below w.heap.size w w'):eG P T f args H r H:=by
 refine⟨he,λG F w vs hg b=>?_⟩;obtain⟨v,c,d⟩:=h G F w vs hg b;exact d.mono λe w' ⟨i,a⟩=>⟨r,H,v,G,F,⟨rfl,rfl⟩,i,hg.below a,c,Ext.ahP a⟩
end Go.lD
