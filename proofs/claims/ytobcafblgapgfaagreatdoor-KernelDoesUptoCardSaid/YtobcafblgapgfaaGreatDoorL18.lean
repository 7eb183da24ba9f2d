/- Part of the proof of KernelAccepts, KernelDoes: layer. -/
import Derived.Test.YtobcafblgapgfaaGreatDoorL17
set_option linter.all false
namespace Go.ke
open Go Go.fB
def BV.WO{P:Program}{α:Type}{t e d sz:Nat}{f:α->AV}{x s:AV}{K:Fr->cW->Prop}{fr:Fr}{H:cW}{L:List α}{o cap k:Nat}{c:AV}{h:Tag}(n:nT P t=some (e,sz))(p:∃u,js P e=some u)
  (v:∀a,(f a).cells.length=sz) (w:c.cells.length=sz) (B:0<sz) (C:x=.slice h [c]) (hs:s=.pQ o 0 L.length cap) (y:H[o]?=some (gO f L k)) (D:cap*sz=L.length*sz+k) (E:0<L.length) (i:lj (gO f L k)=true) (z:L.length+1<=ie)
  (h1:∀k',k=sz+k'->K (fr.put (some d) (.pQ o 0 (L.length+1) cap)) (H.set o ((L.map f).flatMap AV.cells++(c.cells++uq k'))))
  (A:∀b,L.length+1<=b->K (fr.put (some d) (.pQ H.length 0 (L.length+1) b)) (H++[(L.map f).flatMap AV.cells++(c.cells++uq ((b-(L.length+1))*sz))])):BV P t s x d K fr H:=by
 subst C hs;obtain⟨u,p⟩:=p
 have g:((L.map f).flatMap AV.cells).length=L.length*sz:=by
  clear y D E i z h1 A
  induction L with
  |nil=>simp|cons a l F=>simp only[wb,vP,oJ,v,F,kN,W_];omega
 unfold BV;rw[n];refine⟨by simp[jq,w],by rw[p];rfl,aa4,rfl,by simpa using z,?_⟩;rw[y];refine⟨i,by rw[lq v];omega,λj=>?_,λb q m=>?_⟩
 ·simp only[aaR] at j|-;have hle:(L.length+1)*sz<=cap*sz:=CP _ j;rw[W_] at hle
  have r:k=sz+(k-sz):=VW
  have e:setCells (gO f L k) (L.length*sz) ([c].flatMap AV.cells)=(L.map f).flatMap AV.cells++(c.cells++uq (k-sz)):=by
   unfold setCells gO;simp only[vP,RU,wT,w];rw[Tv (by rw[g];omega),PU (by rw[g];omega),TD,g,Da (by rw[g];omega)];simp[uq]
  rw[e];exact h1 _ r
 ·simp only[aaR] at q m|-
  have e:(gO f L k).take (L.length*sz)=(L.map f).flatMap AV.cells:=by
   unfold gO;rw[Tv (by rw[g];omega),PU (by rw[g];omega)]
  rw[e];have:=A b m;simpa using this
end Go.ke
