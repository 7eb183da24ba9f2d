/- Part of the proof of TranslateWitness: layer. -/
import Derived.Test.YtffcgfpaakhbjaaGreatDoorL17
set_option linter.all false
namespace Go.jX
open Go Go.dF
def Ji.WD{P:Program}{α:Type}{t e d sz:Nat}{f:α->AV}{x s:AV}{K:Fr->cd->Prop}{fr:Fr}{H:cd}{L:List α}{o cap k:Nat}{c:AV}{tag':Tag}(m:ng P t=some (e,sz))(n:∃r,fV P e=some r)
  (u:∀a,(f a).cells.length=sz) (v:c.cells.length=sz) (B:0<sz) (C:x=.slice tag' [c]) (hs:s=.nU o 0 L.length cap) (w:H[o]?=some (gT f L k)) (D:cap*sz=L.length*sz+k) (E:0<L.length) (h:lT (gT f L k)=true) (y:L.length+1<=gN)
  (z:∀k',k=sz+k'->K (fr.put (some d) (.nU o 0 (L.length+1) cap)) (H.set o ((L.map f).flatMap AV.cells++(c.cells++pR k'))))
  (A:∀b,L.length+1<=b->K (fr.put (some d) (.nU H.length 0 (L.length+1) b)) (H++[(L.map f).flatMap AV.cells++(c.cells++pR ((b-(L.length+1))*sz))])):Ji P t s x d K fr H:=by
 subst C hs;obtain⟨r,n⟩:=n
 have g:((L.map f).flatMap AV.cells).length=L.length*sz:=by
  clear w D E h y z A
  induction L with
  |nil=>simp|cons a l F=>simp only[mL,wT,nd,u,F,jK,IG];omega
 unfold Ji;rw[m];refine⟨by simp[iU,v],by rw[n];rfl,th,rfl,by simpa using y,?_⟩;rw[w];refine⟨h,by rw[kl u];omega,λi=>?_,λb p j=>?_⟩
 ·simp only[VC] at i|-;have hle:(L.length+1)*sz<=cap*sz:=Ak _ i;rw[IG] at hle
  have q:k=sz+(k-sz):=cw
  have e:setCells (gT f L k) (L.length*sz) ([c].flatMap AV.cells)=(L.map f).flatMap AV.cells++(c.cells++pR (k-sz)):=by
   unfold setCells gT;simp only[wT,List.flatMap_nil,wB,v];rw[Jv (by rw[g];omega),Kw (by rw[g];omega),O1,g,Ep (by rw[g];omega)];simp[pR]
  rw[e];exact z _ q
 ·simp only[VC] at p j|-
  have e:(gT f L k).take (L.length*sz)=(L.map f).flatMap AV.cells:=by
   unfold gT;rw[Jv (by rw[g];omega),Kw (by rw[g];omega)]
  rw[e];have:=A b j;simpa using this
end Go.jX
