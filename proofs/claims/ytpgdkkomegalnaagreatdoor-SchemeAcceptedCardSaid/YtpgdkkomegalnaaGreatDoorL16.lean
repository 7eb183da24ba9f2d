/- Part of the proof of SchemeAccepted: layer. -/
import Derived.Test.YtpgdkkomegalnaaGreatDoorL15
set_option linter.all false
namespace Go.kY
open Go Go.fN
section
variable{P:Program} {T:eA} {n B0:Nat} {ρ:Maps} {F:kD} {R:Nat->ou} {fr:Fr} {H H':dS} {a:Act} {w:World}
end
section
variable{X:Cx} {k:Nat} {S:List It} {fr:Fr} {H H':dS} {c:Code}
end
def Yr{a b:Int}(h:ee a b=true):a=b:=by grind[ee]
theorem V2{ks:List Value}{k:Value}{j:Nat}(h:mapIdx ks k=some j):j<ks.length:=by
 exact(List.findIdx?_eq_some_iff_getElem.1 h).1
section
variable{P:Program} {H:dS} {o:Nat} {k:Int} {t kt e:TypeId} {ks:List Value} {xs:List AV} {z:AV}
def Wv(hu:P.underlying t=some (.map kt e))(a:P.underlying kt=some (.int .i64))(b:PQ P e=some z)(c:H[o]?=some [.tO ks xs])(d:ks.all (Hy (.int .i64))=true)(f:xs.length=ks.length):uC P H t (.nH o) (.sc (.int .i64 k)) false=some (match mapIdx ks (.int .i64 k)with|some j=>xs.getD j .undef|none=>z):=by
 unfold uC;simp only[hu,a,c,b];rw[dO ⟨rfl,d⟩];cases hi:mapIdx ks (.int .i64 k)with
 |none=>rfl|some j=>grind[V2]
theorem tq.new{fr:Fr}{K:Fr->dS->Prop}{v:AV}(hu:P.underlying t=some (.map kt e))(a:P.underlying kt=some (.int .i64))(b:H[o]?=some [.tO ks xs])(c:ks.all (Hy (.int .i64))=true)(hn:mapIdx ks (.int .i64 k)=none)
  (d:K fr (fo H o [.tO (ks++[.int .i64 k]) (xs++[v.norm])])):rJ P t (.nH o) (.sc (.int .i64 k)) v K fr H:=by
 unfold rJ;simp only[hu,a,b];refine⟨rfl,c,?_⟩;rw[Ez,hn];exact d
def tq.xI{fr:Fr}{K:Fr->dS->Prop}{v:AV}(hu:P.underlying t=some (.map kt e))(a:P.underlying kt=some (.int .i64))(b:ks.all (Hy (.int .i64))=true)(hn:mapIdx ks (.int .i64 k)=none)
 (c:K fr (H++[[.tO (ks++[.int .i64 k]) (xs++[v.norm])]])):rJ P t (.nH H.length) (.sc (.int .i64 k)) v K fr (H++[[.tO ks xs]]):=by grind[tq.new,fo]
end
section
variable{P:Program} {t:TypeId} {k:IntKind} {a:Int}
def LU{α:Type}{f:α->List AV}{sz:Nat}(h:∀x,(f x).length=sz):∀(L:List α) (i:Nat),((L.flatMap f).drop (i*sz)).take sz=match L[i]?with|some x=>f x|none=>[]
 |[],i=>by simp|x::L,0=>by grind|x::L,i+1=>by
  have a:((x::L).flatMap f).drop ((i+1)*sz)=(L.flatMap f).drop (i*sz):=by
   rw[Ju,show(i+1)*sz=(f x).length+i*sz by rw[h,Vm,Nat.add_comm],<-List.drop_drop,List.drop_left]
  rw[a,LU h L i];rfl
def LP{α:Type}{f:α->List AV}{sz:Nat}(h:∀x,(f x).length=sz):∀(L:List α),(L.flatMap f).length=L.length*sz
 |[]=>by simp|x::L=>by rw[Ju,qf,h,LP h L,oZ,Vm,Nat.add_comm]
def GI{α:Type}{f:α->AV}{g:α->List AV}{L:List α}{n e sz:Nat}(hu:P.underlying t=some (.array n e))(i:fu P e=some (true,sz))(hg:∀x,g x=(f x).cells)(j:∀x,∃cs,f x=.agg cs)(c:∀x,(f x).cells.length=sz)(hn:L.length=n):gy P t (.kU (.agg (L.flatMap g))) (.sc (.int k a))=(dX L a).map λx=>.kU (f x):=by
 have b:∀x,(g x).length=sz:=λx=>by rw[hg];exact c x
 unfold gy dX;simp only[hu,i];have d:(AV.agg (L.flatMap g)).cells=L.flatMap g:=rfl;rw[d];unfold mr;simp only[i]
 by_cases h:0<=a
 ·rw[dO h]
  by_cases l:a<n
  ·rw[dO ⟨h,l⟩]
   have hi:a.toNat<L.length:=xL
   rw[dO (by rw[LP b,<-Vm];exact J9 _ hi),LU b,qp hi];obtain⟨cs,o⟩:=j L[a.toNat];simp only[abJ,hg,o,AV.cells]
  ·grind
 ·rw[dI h,dI (λq=>h q.1)];rfl
def ER{n e sz b g o j:Nat}{ag:Bool}{i:Int}(hu:P.underlying t=some (.array n e))(a:fu P e=some (ag,sz))(hi:ee i (j:Int)=true)(c:j<n):gy P t (.gX b g o) (.sc (.int .i64 i))=some (.gX b g (o+j*sz)):=by
 rw[Yr hi];unfold gy
 grind
end
end Go.kY
