/- Part of the proof of TranslateStable: layer. -/
import Derived.Test.YtffcgfpaakhbjaaGreatDoorL13
set_option linter.all false
namespace Go.jN
open Go Go.dG
section
variable{P:Program} {T:cV} {n B0:Nat} {ρ:Maps} {F:js} {R:Nat->mP} {fr:Fr} {H H':cc} {a:Act} {w:World}
end
section
variable{X:Cx} {k:Nat} {S:List It} {fr:Fr} {H H':cc} {c:Code}
end
section
variable{P:Program} {H:cc} {o:Nat} {k:Int} {t kt e:TypeId} {ks:List Value} {xs:List AV} {z:AV}
end
section
variable{P:Program} {t:TypeId} {k:IntKind} {a:Int}
def HS{α:Type}{f:α->List AV}{sz:Nat}(h:∀x,(f x).length=sz):∀(L:List α) (i:Nat),((L.flatMap f).drop (i*sz)).take sz=match L[i]?with|some x=>f x|none=>[]
 |[],i=>by simp|x::L,0=>by simp[Ly,h x,LO]|x::L,i+1=>by
  have a:((x::L).flatMap f).drop ((i+1)*sz)=(L.flatMap f).drop (i*sz):=by
   rw[xS,show(i+1)*sz=(f x).length+i*sz by rw[h,Jd,V8],<-List.drop_drop,List.drop_left]
  rw[a,HS h L i];rfl
def HO{α:Type}{f:α->List AV}{sz:Nat}(h:∀x,(f x).length=sz):∀(L:List α),(L.flatMap f).length=L.length*sz
 |[]=>by simp|x::L=>by rw[xS,ni,h,HO h L,j0,Jd,V8]
def Ej{α:Type}{f:α->AV}{g:α->List AV}{L:List α}{n e sz:Nat}(hu:P.underlying t=some (.array n e))(j:dE P e=some (true,sz))(hg:∀x,g x=(f x).cells)(m:∀x,∃cs,f x=.agg cs)(c:∀x,(f x).cells.length=sz)(hn:L.length=n):f_ P t (.ju (.agg (L.flatMap g))) (.sc (.int k a))=(cr L a).map λx=>.ju (f x):=by
 have b:∀x,(g x).length=sz:=λx=>by rw[hg];exact c x
 unfold f_ cr;simp only[hu,j];have d:(AV.agg (L.flatMap g)).cells=L.flatMap g:=rfl;rw[d];unfold k0;simp only[j]
 by_cases h:0<=a
 ·rw[bX h]
  by_cases l:a<n
  ·rw[bX ⟨h,l⟩]
   have hi:a.toNat<L.length:=VW
   rw[bX (by rw[HO b,<-Jd];exact Cb _ hi),HS b,mi hi];obtain⟨cs,o⟩:=m L[a.toNat];simp only[O8,hg,o,AV.cells]
  ·rw[bV (λi=>l i.2),Sy VW];rfl
 ·rw[bV h,bV (λi=>h i.1)];rfl
end
end Go.jN
