/- Part of the proof of SchemeLists: layer. -/
import Derived.Test.YtpgdkkomegalnaaGreatDoorLL15
set_option linter.all false
namespace Go.kY
open Go Go.fD
section
variable{P:Program} {T:eN} {n B0:Nat} {ρ:Maps} {F:kM} {R:Nat->ou} {fr:Fr} {H H':dY} {a:Act} {w:World}
end
section
variable{X:Cx} {k:Nat} {S:List It} {fr:Fr} {H H':dY} {c:Code}
end
def W4{a b:Int}(h:eo a b=true):a=b:=by grind[eo]
theorem Ui{ks:List Value}{k:Value}{j:Nat}(h:mapIdx ks k=some j):j<ks.length:=by
 exact(List.findIdx?_eq_some_iff_getElem.1 h).1
section
variable{P:Program} {H:dY} {o:Nat} {k:Int} {t kt e:TypeId} {ks:List Value} {xs:List AV} {z:AV}
def SY(hu:P.underlying t=some (.map kt e))(a:P.underlying kt=some (.int .i64))(b:OZ P e=some z)(c:H[o]?=some [.uH ks xs])(d:ks.all (Jk (.int .i64))=true)(f:xs.length=ks.length):vD P H t (.nx o) (.sc (.int .i64 k)) false=some (match mapIdx ks (.int .i64 k)with|some j=>xs.getD j .undef|none=>z):=by
 unfold vD;simp only[hu,a,c,b];rw[dR ⟨rfl,d⟩];cases hi:mapIdx ks (.int .i64 k)with
 |none=>rfl|some j=>grind[Ui]
theorem uN.new{fr:Fr}{K:Fr->dY->Prop}{v:AV}(hu:P.underlying t=some (.map kt e))(a:P.underlying kt=some (.int .i64))(b:H[o]?=some [.uH ks xs])(c:ks.all (Jk (.int .i64))=true)(hn:mapIdx ks (.int .i64 k)=none)
  (d:K fr (gk H o [.uH (ks++[.int .i64 k]) (xs++[v.norm])])):sh P t (.nx o) (.sc (.int .i64 k)) v K fr H:=by
 unfold sh;simp only[hu,a,b];refine⟨rfl,c,?_⟩;rw[F5,hn];exact d
def uN.ya{fr:Fr}{K:Fr->dY->Prop}{v:AV}(hu:P.underlying t=some (.map kt e))(a:P.underlying kt=some (.int .i64))(b:ks.all (Jk (.int .i64))=true)(hn:mapIdx ks (.int .i64 k)=none)
 (c:K fr (H++[[.uH (ks++[.int .i64 k]) (xs++[v.norm])]])):sh P t (.nx H.length) (.sc (.int .i64 k)) v K fr (H++[[.uH ks xs]]):=by grind[uN.new,gk]
end
section
variable{P:Program} {t:TypeId} {k:IntKind} {a:Int}
def Lu{α:Type}{f:α->List AV}{sz:Nat}(h:∀x,(f x).length=sz):∀(L:List α) (i:Nat),((L.flatMap f).drop (i*sz)).take sz=match L[i]?with|some x=>f x|none=>[]
 |[],i=>by simp|x::L,0=>by grind|x::L,i+1=>by
  have a:((x::L).flatMap f).drop ((i+1)*sz)=(L.flatMap f).drop (i*sz):=by
   rw[Iu,show(i+1)*sz=(f x).length+i*sz by rw[h,TP,Nat.add_comm],<-List.drop_drop,List.drop_left]
  rw[a,Lu h L i];rfl
def KS{α:Type}{f:α->List AV}{sz:Nat}(h:∀x,(f x).length=sz):∀(L:List α),(L.flatMap f).length=L.length*sz
 |[]=>by simp|x::L=>by rw[Iu,ni,h,KS h L,mz,TP,Nat.add_comm]
def Hz{α:Type}{f:α->AV}{g:α->List AV}{L:List α}{n e sz:Nat}(hu:P.underlying t=some (.array n e))(i:fY P e=some (true,sz))(hg:∀x,g x=(f x).cells)(j:∀x,∃cs,f x=.agg cs)(c:∀x,(f x).cells.length=sz)(hn:L.length=n):gH P t (.mj (.agg (L.flatMap g))) (.sc (.int k a))=(dW L a).map λx=>.mj (f x):=by
 have b:∀x,(g x).length=sz:=λx=>by rw[hg];exact c x
 unfold gH dW;simp only[hu,i];have d:(AV.agg (L.flatMap g)).cells=L.flatMap g:=rfl;rw[d];unfold mq;simp only[i]
 by_cases h:0<=a
 ·rw[dR h]
  by_cases l:a<n
  ·rw[dR ⟨h,l⟩]
   have hi:a.toNat<L.length:=VW
   rw[dR (by rw[KS b,<-TP];exact Km _ hi),Lu b,o9 hi];obtain⟨cs,o⟩:=j L[a.toNat];simp only[aaD,hg,o,AV.cells]
  ·grind
 ·rw[dK h,dK (λq=>h q.1)];rfl
def F9{n e sz b g o j:Nat}{ag:Bool}{i:Int}(hu:P.underlying t=some (.array n e))(a:fY P e=some (ag,sz))(hi:eo i (j:Int)=true)(c:j<n):gH P t (.h9 b g o) (.sc (.int .i64 i))=some (.h9 b g (o+j*sz)):=by
 rw[W4 hi];unfold gH
 grind
end
end Go.kY
