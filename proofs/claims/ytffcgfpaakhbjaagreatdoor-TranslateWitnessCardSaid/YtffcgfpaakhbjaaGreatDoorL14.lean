/- Part of the proof of TranslateWitness: layer. -/
import Derived.Test.YtffcgfpaakhbjaaGreatDoorL13
set_option linter.all false
namespace Go.jX
open Go Go.dF
section
variable{P:Program} {T:cW} {n B0:Nat} {ρ:Maps} {F:jf} {R:Nat->mx} {fr:Fr} {H H':cd} {a:Act} {w:World}
end
section
variable{X:Cx} {k:Nat} {S:List It} {fr:Fr} {H H':cd} {c:Code}
end
section
variable{P:Program} {H:cd} {o:Nat} {k:Int} {t kt e:TypeId} {ks:List Value} {xs:List AV} {z:AV}
end
section
variable{P:Program} {t:TypeId} {k:IntKind} {a:Int}
def GV{α:Type}{f:α->List AV}{sz:Nat}(h:∀x,(f x).length=sz):∀(L:List α) (i:Nat),((L.flatMap f).drop (i*sz)).take sz=match L[i]?with|some x=>f x|none=>[]
 |[],i=>by simp|x::L,0=>by simp[Jv,h x,Kw]|x::L,i+1=>by
  have a:((x::L).flatMap f).drop ((i+1)*sz)=(L.flatMap f).drop (i*sz):=by
   rw[wT,show(i+1)*sz=(f x).length+i*sz by rw[h,IG,VZ],<-List.drop_drop,List.drop_left]
  rw[a,GV h L i];rfl
def Hb{α:Type}{f:α->List AV}{sz:Nat}(h:∀x,(f x).length=sz):∀(L:List α),(L.flatMap f).length=L.length*sz
 |[]=>by simp|x::L=>by rw[wT,nd,h,Hb h L,jK,IG,VZ]
def Dg{α:Type}{f:α->AV}{g:α->List AV}{L:List α}{n e sz:Nat}(hu:P.underlying t=some (.array n e))(j:dL P e=some (true,sz))(hg:∀x,g x=(f x).cells)(m:∀x,∃cs,f x=.agg cs)(c:∀x,(f x).cells.length=sz)(hn:L.length=n):gl P t (.ji (.agg (L.flatMap g))) (.sc (.int k a))=(cq L a).map λx=>.ji (f x):=by
 have b:∀x,(g x).length=sz:=λx=>by rw[hg];exact c x
 unfold gl cq;simp only[hu,j];have d:(AV.agg (L.flatMap g)).cells=L.flatMap g:=rfl;rw[d];unfold kD;simp only[j]
 by_cases h:0<=a
 ·rw[bX h]
  by_cases l:a<n
  ·rw[bX ⟨h,l⟩]
   have hi:a.toNat<L.length:=cw
   rw[bX (by rw[Hb b,<-IG];exact Ak _ hi),GV b,lV hi];obtain⟨cs,o⟩:=m L[a.toNat];simp only[NG,hg,o,AV.cells]
  ·rw[bV (λi=>l i.2),Rv cw];rfl
 ·rw[bV h,bV (λi=>h i.1)];rfl
end
end Go.jX
