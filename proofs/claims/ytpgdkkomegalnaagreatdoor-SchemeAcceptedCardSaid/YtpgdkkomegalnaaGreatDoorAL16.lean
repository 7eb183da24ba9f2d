/- Part of the proof of SchemeAccepted: layer. -/
import Derived.Test.YtpgdkkomegalnaaGreatDoorAL15
set_option linter.all false
namespace Go.kY
open Go Go.fH
section
variable{P:Program} {T:eH} {n B0:Nat} {ρ:Maps} {F:kD} {R:Nat->ot} {fr:Fr} {H H':dT} {a:Act} {w:World}
end
section
variable{X:Cx} {k:Nat} {S:List It} {fr:Fr} {H H':dT} {c:Code}
end
def Ui{a b:Int}(h:ei a b=true):a=b:=by grind[ei]
theorem R8{ks:List Value}{k:Value}{j:Nat}(h:mapIdx ks k=some j):j<ks.length:=by
 exact(List.findIdx?_eq_some_iff_getElem.1 h).1
section
variable{P:Program} {H:dT} {o:Nat} {k:Int} {t kt e:TypeId} {ks:List Value} {xs:List AV} {z:AV}
def R7(hu:P.underlying t=some (.map kt e))(a:P.underlying kt=some (.int .i64))(b:N7 P e=some z)(c:H[o]?=some [.tU ks xs])(d:ks.all (I6 (.int .i64))=true)(f:xs.length=ks.length):u6 P H t (.nB o) (.sc (.int .i64 k)) false=some (match mapIdx ks (.int .i64 k)with|some j=>xs.getD j .undef|none=>z):=by
 unfold u6;simp only[hu,a,c,b];rw[dO ⟨rfl,d⟩];cases hi:mapIdx ks (.int .i64 k)with
 |none=>rfl|some j=>grind[R8]
theorem uf.new{fr:Fr}{K:Fr->dT->Prop}{v:AV}(hu:P.underlying t=some (.map kt e))(a:P.underlying kt=some (.int .i64))(b:H[o]?=some [.tU ks xs])(c:ks.all (I6 (.int .i64))=true)(hn:mapIdx ks (.int .i64 k)=none)
  (d:K fr (gb H o [.tU (ks++[.int .i64 k]) (xs++[v.norm])])):se P t (.nB o) (.sc (.int .i64 k)) v K fr H:=by
 unfold se;simp only[hu,a,b];refine⟨rfl,c,?_⟩;rw[E9,hn];exact d
def uf.xP{fr:Fr}{K:Fr->dT->Prop}{v:AV}(hu:P.underlying t=some (.map kt e))(a:P.underlying kt=some (.int .i64))(b:ks.all (I6 (.int .i64))=true)(hn:mapIdx ks (.int .i64 k)=none)
 (c:K fr (H++[[.tU (ks++[.int .i64 k]) (xs++[v.norm])]])):se P t (.nB H.length) (.sc (.int .i64 k)) v K fr (H++[[.tU ks xs]]):=by grind[uf.new,gb]
end
section
variable{P:Program} {t:TypeId} {k:IntKind} {a:Int}
def Ky{α:Type}{f:α->List AV}{sz:Nat}(h:∀x,(f x).length=sz):∀(L:List α) (i:Nat),((L.flatMap f).drop (i*sz)).take sz=match L[i]?with|some x=>f x|none=>[]
 |[],i=>by simp|x::L,0=>by grind|x::L,i+1=>by
  have a:((x::L).flatMap f).drop ((i+1)*sz)=(L.flatMap f).drop (i*sz):=by
   rw[I1,show(i+1)*sz=(f x).length+i*sz by rw[h,Se,Nat.add_comm],<-List.drop_drop,List.drop_left]
  rw[a,Ky h L i];rfl
def KD{α:Type}{f:α->List AV}{sz:Nat}(h:∀x,(f x).length=sz):∀(L:List α),(L.flatMap f).length=L.length*sz
 |[]=>by simp|x::L=>by rw[I1,qt,h,KD h L,pM,Se,Nat.add_comm]
def G1{α:Type}{f:α->AV}{g:α->List AV}{L:List α}{n e sz:Nat}(hu:P.underlying t=some (.array n e))(i:fP P e=some (true,sz))(hg:∀x,g x=(f x).cells)(j:∀x,∃cs,f x=.agg cs)(c:∀x,(f x).cells.length=sz)(hn:L.length=n):gw P t (.mh (.agg (L.flatMap g))) (.sc (.int k a))=(eb L a).map λx=>.mh (f x):=by
 have b:∀x,(g x).length=sz:=λx=>by rw[hg];exact c x
 unfold gw eb;simp only[hu,i];have d:(AV.agg (L.flatMap g)).cells=L.flatMap g:=rfl;rw[d];unfold mm;simp only[i]
 by_cases h:0<=a
 ·rw[dO h]
  by_cases l:a<n
  ·rw[dO ⟨h,l⟩]
   have hi:a.toNat<L.length:=VW
   rw[dO (by rw[KD b,<-Se];exact J8 _ hi),Ky b,qL hi];obtain⟨cs,o⟩:=j L[a.toNat];simp only[YS,hg,o,AV.cells]
  ·grind
 ·rw[dI h,dI (λq=>h q.1)];rfl
def Fo{n e sz b g o j:Nat}{ag:Bool}{i:Int}(hu:P.underlying t=some (.array n e))(a:fP P e=some (ag,sz))(hi:ei i (j:Int)=true)(c:j<n):gw P t (.hU b g o) (.sc (.int .i64 i))=some (.hU b g (o+j*sz)):=by
 rw[Ui hi];unfold gw
 grind
end
end Go.kY
