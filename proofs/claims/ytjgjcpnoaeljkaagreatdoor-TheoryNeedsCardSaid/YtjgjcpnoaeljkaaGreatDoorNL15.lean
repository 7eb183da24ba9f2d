/- Part of the proof of TheoryNeeds: layer. -/
import Derived.Below
import Derived.Test.YtjgjcpnoaeljkaaGreatDoorNL14
set_option linter.all false
namespace Go.kC
open Go Go.RowKit
def GW.below{T:dt}{G:Nat->Nat}{F:jo}{H:cZ}{w w':World}(h:GW T G F H w)(f:Below w.heap.size w w'):GW T G F H w' where
 Cp b o v d:=by
  have c:=h.Cp b o v d
  have a:b<w.heap.size:=by
   rcases sH b w.heap.size with h2|h2
   .exact h2
   .have:=h.fresh b o h2;rw[this] at d;cases d
  unfold World.cell? at c|-;rw[f.block b a];exact c
 jU o cs k:=by
  obtain⟨ob,c,h2⟩:=h.jU o cs k;refine⟨ob,?_,h2⟩
  have a:G o<w.heap.size:=by
   rcases sH (G o) w.heap.size with h4|h4
   .exact h4
   .rw[Array.getElem?_eq_none h4] at c;cases c
  rw[f.block _ a];exact c
 inj:=h.inj
 gF:=h.gF
 fresh b j i:=h.fresh b j (zS f.size i)
 xX:=h.xX
 row l b j v d:=by
  obtain⟨vs,ty,n,c,h2⟩:=h.row l b j v d;have a:b<w.heap.size:=(Mt.1 c).1;exact⟨vs,ty,n,by rw[f.block b a];exact c,h2⟩
def Ext.Oq{G:Nat->Nat}{F:jo}{n:Nat}{w w':World}(a:Below w.heap.size w w'):Ext w.heap.size G F n w G F n w' where
 os:=a.os
 tape:=a.tape
 output:=a.output
 size:=a.size
 len:=gO _
 hG _ _:=rfl
 HV _ h c:=absurd c VW
 hF _ _ _ _:=rfl
 mF _ _ _ _ h:=h
 heap b h _:=a.block b h
def ds.Ra{P:Program}{T:dt}{f:FuncId}{args:List AV}{H:cZ}{r:AV}(he:iS P f=true)
  (h:∀(G:Nat->Nat) (F:jo) (w:World) (vs:List Value),GW T G F H w->fG F G H.length args vs->∃v,fE F G H.length r v/\Calls P f vs.toArray w λe w'=>e=.returned v/\Below w.heap.size w w'):ds P T f args H r H:=by
 refine⟨he,λG F w vs hg b=>?_⟩;obtain⟨v,c,d⟩:=h G F w vs hg b;exact d.mono λe w' ⟨i,a⟩=>⟨r,H,v,G,F,⟨rfl,rfl⟩,i,hg.below a,c,Ext.Oq a⟩
def ds.calls{P:Program}{T:dt}{f:FuncId}{args:List AV}{r:AV}{v:Value}(h:ds P T f args [] r [])(c:∀F G x,fE F G 0 r x->x=v){G:Nat->Nat}{F:jo}{w:World}{vs:List Value}(hg:GW T G F [] w)(d:fG F G 0 args vs):Calls P f vs.toArray w λe w'=>e=.returned v/\Below w.heap.size w w':=
 (h.2 G F w vs hg d).mono λe w' ⟨t,H',i,G',F',⟨j,l⟩,b,u,n,a⟩=>by
  subst j;subst l;rw[c F' G' i n] at b;exact⟨b,a.os,a.tape,a.output,a.size,λk q=>a.heap k q (λo s=>absurd s aaL)⟩
end Go.kC
