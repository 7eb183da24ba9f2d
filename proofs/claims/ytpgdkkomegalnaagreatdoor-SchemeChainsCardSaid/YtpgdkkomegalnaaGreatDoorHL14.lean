/- Part of the proof of SchemeChains: layer. -/
import Derived.Test.YtpgdkkomegalnaaGreatDoorHL13
set_option linter.all false
namespace Go.lD
open Go Go.fP
section
variable{P:Program} {T:eK} {n B0:Nat} {ρ:Maps} {F:la} {R:Nat->oY} {fr:Fr} {H H':dV} {a:Act} {w:World}
end
section
variable{X:Cx} {k:Nat} {S:List It} {fr:Fr} {H H':dV} {c:Code}
end
def Yj{a b:Int}(h:eo a b=true):a=b:=by grind[eo]
theorem Wz{ks:List Value}{k:Value}{j:Nat}(h:mapIdx ks k=some j):j<ks.length:=by
 exact(List.findIdx?_eq_some_iff_getElem.1 h).1
section
variable{P:Program} {H:dV} {o:Nat} {k:Int} {t kt e:TypeId} {ks:List Value} {xs:List AV} {z:AV}
def WM(hu:P.underlying t=some (.map kt e))(a:P.underlying kt=some (.int .i64))(b:Q4 P e=some z)(c:H[o]?=some [.uv ks xs])(d:ks.all (JN (.int .i64))=true)(f:xs.length=ks.length):ve P H t (.n_ o) (.sc (.int .i64 k)) false=some (match mapIdx ks (.int .i64 k)with|some j=>xs.getD j .undef|none=>z):=by
 unfold ve;simp only[hu,a,c,b];rw[dO ⟨rfl,d⟩];cases hi:mapIdx ks (.int .i64 k)with
 |none=>rfl|some j=>grind[Wz]
theorem uO.new{fr:Fr}{K:Fr->dV->Prop}{v:AV}(hu:P.underlying t=some (.map kt e))(a:P.underlying kt=some (.int .i64))(b:H[o]?=some [.uv ks xs])(c:ks.all (JN (.int .i64))=true)(hn:mapIdx ks (.int .i64 k)=none)
  (d:K fr (gk H o [.uv (ks++[.int .i64 k]) (xs++[v.norm])])):sG P t (.n_ o) (.sc (.int .i64 k)) v K fr H:=by
 unfold sG;simp only[hu,a,b];refine⟨rfl,c,?_⟩;rw[FC,hn];exact d
def uO.xZ{fr:Fr}{K:Fr->dV->Prop}{v:AV}(hu:P.underlying t=some (.map kt e))(a:P.underlying kt=some (.int .i64))(b:ks.all (JN (.int .i64))=true)(hn:mapIdx ks (.int .i64 k)=none)
 (c:K fr (H++[[.uv (ks++[.int .i64 k]) (xs++[v.norm])]])):sG P t (.n_ H.length) (.sc (.int .i64 k)) v K fr (H++[[.uv ks xs]]):=by grind[uO.new,gk]
end
section
variable{P:Program} {t:TypeId} {k:IntKind} {a:Int}
def M1{α:Type}{f:α->List AV}{sz:Nat}(h:∀x,(f x).length=sz):∀(L:List α) (i:Nat),((L.flatMap f).drop (i*sz)).take sz=match L[i]?with|some x=>f x|none=>[]
 |[],i=>by simp|x::L,0=>by grind|x::L,i+1=>by
  have a:((x::L).flatMap f).drop ((i+1)*sz)=(L.flatMap f).drop (i*sz):=by
   rw[I3,show(i+1)*sz=(f x).length+i*sz by rw[h,Wq,Nat.add_comm],<-List.drop_drop,List.drop_left]
  rw[a,M1 h L i];rfl
def ME{α:Type}{f:α->List AV}{sz:Nat}(h:∀x,(f x).length=sz):∀(L:List α),(L.flatMap f).length=L.length*sz
 |[]=>by simp|x::L=>by rw[I3,oV,h,ME h L,kY,Wq,Nat.add_comm]
def HE{α:Type}{f:α->AV}{g:α->List AV}{L:List α}{n e sz:Nat}(hu:P.underlying t=some (.array n e))(i:f' P e=some (true,sz))(hg:∀x,g x=(f x).cells)(j:∀x,∃cs,f x=.agg cs)(c:∀x,(f x).cells.length=sz)(hn:L.length=n):gL P t (.mQ (.agg (L.flatMap g))) (.sc (.int k a))=(dW L a).map λx=>.mQ (f x):=by
 have b:∀x,(g x).length=sz:=λx=>by rw[hg];exact c x
 unfold gL dW;simp only[hu,i];have d:(AV.agg (L.flatMap g)).cells=L.flatMap g:=rfl;rw[d];unfold mR;simp only[i]
 by_cases h:0<=a
 .rw[dO h]
  by_cases l:a<n
  .rw[dO ⟨h,l⟩]
   have hi:a.toNat<L.length:=VW
   rw[dO (by rw[ME b,<-Wq];exact Ki _ hi),M1 b,pE hi];obtain⟨cs,o⟩:=j L[a.toNat];simp only[ac5,hg,o,AV.cells]
  .grind
 .rw[dK h,dK (λq=>h q.1)];rfl
def FI{n e sz b g o j:Nat}{ag:Bool}{i:Int}(hu:P.underlying t=some (.array n e))(a:f' P e=some (ag,sz))(hi:eo i (j:Int)=true)(c:j<n):gL P t (.h9 b g o) (.sc (.int .i64 i))=some (.h9 b g (o+j*sz)):=by
 rw[Yj hi];unfold gL
 grind
end
end Go.lD
