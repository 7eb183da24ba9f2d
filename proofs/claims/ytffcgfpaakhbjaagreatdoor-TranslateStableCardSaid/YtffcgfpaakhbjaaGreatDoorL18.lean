/- Part of the proof of TranslateStable: layer. -/
import Derived.Test.YtffcgfpaakhbjaaGreatDoorL17
set_option linter.all false
namespace Go.jN
open Go Go.dG
def KO.V'{P:Program}{α:Type}{t e d sz:Nat}{f:α->AV}{x s:AV}{K:Fr->cc->Prop}{fr:Fr}{H:cc}{L:List α}{o cap k:Nat}{c:AV}{tag':Tag}(m:nS P t=some (e,sz))(n:∃r,fY P e=some r)
  (u:∀a,(f a).cells.length=sz) (v:c.cells.length=sz) (B:0<sz) (C:x=.slice tag' [c]) (hs:s=.oZ o 0 L.length cap) (w:H[o]?=some (iu f L k)) (D:cap*sz=L.length*sz+k) (E:0<L.length) (h:mg (iu f L k)=true) (y:L.length+1<=hS)
  (z:∀k',k=sz+k'->K (fr.put (some d) (.oZ o 0 (L.length+1) cap)) (H.set o ((L.map f).flatMap AV.cells++(c.cells++qj k'))))
  (A:∀b,L.length+1<=b->K (fr.put (some d) (.oZ H.length 0 (L.length+1) b)) (H++[(L.map f).flatMap AV.cells++(c.cells++qj ((b-(L.length+1))*sz))])):KO P t s x d K fr H:=by
 subst C hs;obtain⟨r,n⟩:=n
 have g:((L.map f).flatMap AV.cells).length=L.length*sz:=by
  clear w D E h y z A
  induction L with
  |nil=>simp|cons a l F=>simp only[k_,xS,ni,u,F,j0,Jd];omega
 unfold KO;rw[m];refine⟨by simp[jm,v],by rw[n];rfl,aas,rfl,by simpa using y,?_⟩;rw[w];refine⟨h,by rw[kO u];omega,λi=>?_,λb p j=>?_⟩
 ·simp only[TI] at i|-;have hle:(L.length+1)*sz<=cap*sz:=Cb _ i;rw[Jd] at hle
  have q:k=sz+(k-sz):=VW
  have e:setCells (iu f L k) (L.length*sz) ([c].flatMap AV.cells)=(L.map f).flatMap AV.cells++(c.cells++qj (k-sz)):=by
   unfold setCells iu;simp only[xS,List.flatMap_nil,zG,v];rw[Ly (by rw[g];omega),LO (by rw[g];omega),PE,g,F_ (by rw[g];omega)];simp[qj]
  rw[e];exact z _ q
 ·simp only[TI] at p j|-
  have e:(iu f L k).take (L.length*sz)=(L.map f).flatMap AV.cells:=by
   unfold iu;rw[Ly (by rw[g];omega),LO (by rw[g];omega)]
  rw[e];have:=A b j;simpa using this
end Go.jN
