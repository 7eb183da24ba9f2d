/- Part of the proof of KernelChoice: layer. -/
import Derived.Test.YtobcafblgapgfaaGreatDoorL12
set_option linter.all false
namespace Go.ky
open Go Go.fg
section
variable{P:Program} {T:dA} {n B0:Nat} {ρ:Maps} {F:jH} {R:Nat->mU} {fr:Fr} {H H':cV} {a:Act} {w:World}
end
section
variable{X:Cx} {k:Nat} {S:List It} {fr:Fr} {H H':cV} {c:Code}
end
def N1{a b:Int}(h:de a b=true):a=b:=by
 unfold de at h;exact eq_of_beq h
def M3{ks:List Value}{k:Value}{j:Nat}(h:mapIdx ks k=some j):j<ks.length:=by
 unfold mapIdx at h;exact(List.findIdx?_eq_some_iff_getElem.1 h).1
section
variable{P:Program} {H:cV} {o:Nat} {k:Int} {t kt e:TypeId} {ks:List Value} {xs:List AV} {z:AV}
def Ms(hu:P.underlying t=some (.map kt e))(b:P.underlying kt=some (.int .i64))(c:Iy P e=some z)(d:H[o]?=some [.sC ks xs])(f:ks.all (E9 (.int .i64))=true)(g:xs.length=ks.length):re P H t (.oa o) (.sc (.int .i64 k)) false=some (match mapIdx ks (.int .i64 k)with|some j=>xs.getD j .undef|none=>z):=by
 unfold re;simp only[hu,b,d,c];rw[cG ⟨rfl,f⟩];cases hi:mapIdx ks (.int .i64 k)with
 |none=>rfl|some j=>
  have a:=M3 hi;rw[<-g] at a;simp[na a]
def ss.new{fr:Fr}{K:Fr->cV->Prop}{v:AV}(hu:P.underlying t=some (.map kt e))(a:P.underlying kt=some (.int .i64))(b:H[o]?=some [.sC ks xs])(c:ks.all (E9 (.int .i64))=true)(hn:mapIdx ks (.int .i64 k)=none)
  (d:K fr (fu H o [.sC (ks++[.int .i64 k]) (xs++[v.norm])])):sO P t (.oa o) (.sc (.int .i64 k)) v K fr H:=by
 unfold sO;simp only[hu,a,b];refine⟨rfl,c,?_⟩;rw[Gj,hn];exact d
def ss.tV{fr:Fr}{K:Fr->cV->Prop}{v:AV}(hu:P.underlying t=some (.map kt e))(a:P.underlying kt=some (.int .i64))(b:ks.all (E9 (.int .i64))=true)(hn:mapIdx ks (.int .i64 k)=none)
  (c:K fr (H++[[.sC (ks++[.int .i64 k]) (xs++[v.norm])]])):sO P t (.oa H.length) (.sc (.int .i64 k)) v K fr (H++[[.sC ks xs]]):=by
 refine ss.new hu a (ks:=ks) (xs:=xs) (by simp) b hn ?_;simp only[fu];simpa using c
end
section
variable{P:Program} {t:TypeId} {k:IntKind} {a:Int}
def Fx{α:Type}{f:α->List AV}{sz:Nat}(h:∀x,(f x).length=sz):∀(L:List α) (i:Nat),((L.flatMap f).drop (i*sz)).take sz=match L[i]?with|some x=>f x|none=>[]
 |[],i=>by simp|x::L,0=>by simp[QO,h x,Qg]|x::L,i+1=>by
  have a:((x::L).flatMap f).drop ((i+1)*sz)=(L.flatMap f).drop (i*sz):=by
   rw[xY,show(i+1)*sz=(f x).length+i*sz by rw[h,QX,S6],<-List.drop_drop,List.drop_left]
  rw[a,Fx h L i];rfl
def F_{α:Type}{f:α->List AV}{sz:Nat}(h:∀x,(f x).length=sz):∀(L:List α),(L.flatMap f).length=L.length*sz
 |[]=>by simp|x::L=>by rw[xY,pJ,h,F_ h L,jW,QX,S6]
def B9{α:Type}{f:α->AV}{g:α->List AV}{L:List α}{n e sz:Nat}(hu:P.underlying t=some (.array n e))(j:eB P e=some (true,sz))(hg:∀x,g x=(f x).cells)(m:∀x,∃cs,f x=.agg cs)(c:∀x,(f x).cells.length=sz)(hn:L.length=n):eL P t (.kN (.agg (L.flatMap g))) (.sc (.int k a))=(c_ L a).map λx=>.kN (f x):=by
 have b:∀x,(g x).length=sz:=λx=>by rw[hg];exact c x
 unfold eL c_;simp only[hu,j];have d:(AV.agg (L.flatMap g)).cells=L.flatMap g:=rfl;rw[d];unfold lO;simp only[j]
 by_cases h:0<=a
 ·rw[cG h]
  by_cases l:a<n
  ·rw[cG ⟨h,l⟩]
   have hi:a.toNat<L.length:=by omega
   rw[cG (by rw[F_ b,<-QX];exact HO _ hi),Fx b,na hi];obtain⟨cs,o⟩:=m L[a.toNat];simp only[KG,hg,o,AV.cells]
  ·rw[cB (λi=>l i.2),QL (by omega)];rfl
 ·rw[cB h,cB (λi=>h i.1)];rfl
def Ah{n e sz b g o j:Nat}{ag:Bool}{i:Int}(hu:P.underlying t=some (.array n e))(a:eB P e=some (ag,sz))(hi:de i (j:Int)=true)(c:j<n):eL P t (.dc b g o) (.sc (.int .i64 i))=some (.dc b g (o+j*sz)):=by
 rw[N1 hi];unfold eL;simp only[hu,a];rw[cG ⟨by omega,by omega⟩];simp
end
end Go.ky
