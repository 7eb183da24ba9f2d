/- Part of the proof of SchemeComputes: layer. -/
import Derived.Test.YtpgdkkomegalnaaGreatDoorCL15
set_option linter.all false
namespace Go.ld
open Go Go.fF
section
variable{P:Program} {T:eO} {n B0:Nat} {ρ:Maps} {F:kT} {R:Nat->oz} {fr:Fr} {H H':dZ} {a:Act} {w:World}
end
section
variable{X:Cx} {k:Nat} {S:List It} {fr:Fr} {H H':dZ} {c:Code}
end
def Xr{a b:Int}(h:eo a b=true):a=b:=by grind[eo]
theorem UU{ks:List Value}{k:Value}{j:Nat}(h:mapIdx ks k=some j):j<ks.length:=by
 exact(List.findIdx?_eq_some_iff_getElem.1 h).1
section
variable{P:Program} {H:dZ} {o:Nat} {k:Int} {t kt e:TypeId} {ks:List Value} {xs:List AV} {z:AV}
def Um(hu:P.underlying t=some (.map kt e))(a:P.underlying kt=some (.int .i64))(b:OI P e=some z)(c:H[o]?=some [.uS ks xs])(d:ks.all (IJ (.int .i64))=true)(f:xs.length=ks.length):vM P H t (.nJ o) (.sc (.int .i64 k)) false=some (match mapIdx ks (.int .i64 k)with|some j=>xs.getD j .undef|none=>z):=by
 unfold vM;simp only[hu,a,c,b];rw[dR ⟨rfl,d⟩];cases hi:mapIdx ks (.int .i64 k)with
 |none=>rfl|some j=>grind[UU]
theorem uG.new{fr:Fr}{K:Fr->dZ->Prop}{v:AV}(hu:P.underlying t=some (.map kt e))(a:P.underlying kt=some (.int .i64))(b:H[o]?=some [.uS ks xs])(c:ks.all (IJ (.int .i64))=true)(hn:mapIdx ks (.int .i64 k)=none)
  (d:K fr (gx H o [.uS (ks++[.int .i64 k]) (xs++[v.norm])])):sF P t (.nJ o) (.sc (.int .i64 k)) v K fr H:=by
 unfold sF;simp only[hu,a,b];refine⟨rfl,c,?_⟩;rw[Gw,hn];exact d
def uG.yj{fr:Fr}{K:Fr->dZ->Prop}{v:AV}(hu:P.underlying t=some (.map kt e))(a:P.underlying kt=some (.int .i64))(b:ks.all (IJ (.int .i64))=true)(hn:mapIdx ks (.int .i64 k)=none)
 (c:K fr (H++[[.uS (ks++[.int .i64 k]) (xs++[v.norm])]])):sF P t (.nJ H.length) (.sc (.int .i64 k)) v K fr (H++[[.uS ks xs]]):=by grind[uG.new,gx]
end
section
variable{P:Program} {t:TypeId} {k:IntKind} {a:Int}
def LO{α:Type}{f:α->List AV}{sz:Nat}(h:∀x,(f x).length=sz):∀(L:List α) (i:Nat),((L.flatMap f).drop (i*sz)).take sz=match L[i]?with|some x=>f x|none=>[]
 |[],i=>by simp|x::L,0=>by grind|x::L,i+1=>by
  have a:((x::L).flatMap f).drop ((i+1)*sz)=(L.flatMap f).drop (i*sz):=by
   rw[JU,show(i+1)*sz=(f x).length+i*sz by rw[h,Uv,Nat.add_comm],<-List.drop_drop,List.drop_left]
  rw[a,LO h L i];rfl
def L_{α:Type}{f:α->List AV}{sz:Nat}(h:∀x,(f x).length=sz):∀(L:List α),(L.flatMap f).length=L.length*sz
 |[]=>by simp|x::L=>by rw[JU,nB,h,L_ h L,mN,Uv,Nat.add_comm]
def HQ{α:Type}{f:α->AV}{g:α->List AV}{L:List α}{n e sz:Nat}(hu:P.underlying t=some (.array n e))(i:gb P e=some (true,sz))(hg:∀x,g x=(f x).cells)(j:∀x,∃cs,f x=.agg cs)(c:∀x,(f x).cells.length=sz)(hn:L.length=n):gJ P t (.mA (.agg (L.flatMap g))) (.sc (.int k a))=(dX L a).map λx=>.mA (f x):=by
 have b:∀x,(g x).length=sz:=λx=>by rw[hg];exact c x
 unfold gJ dX;simp only[hu,i];have d:(AV.agg (L.flatMap g)).cells=L.flatMap g:=rfl;rw[d];unfold mB;simp only[i]
 by_cases h:0<=a
 ·rw[dR h]
  by_cases l:a<n
  ·rw[dR ⟨h,l⟩]
   have hi:a.toNat<L.length:=VW
   rw[dR (by rw[L_ b,<-Uv];exact Lx _ hi),LO b,po hi];obtain⟨cs,o⟩:=j L[a.toNat];simp only[abj,hg,o,AV.cells]
  ·grind
 ·rw[dK h,dK (λq=>h q.1)];rfl
def GB{n e sz b g o j:Nat}{ag:Bool}{i:Int}(hu:P.underlying t=some (.array n e))(a:gb P e=some (ag,sz))(hi:eo i (j:Int)=true)(c:j<n):gJ P t (.ie b g o) (.sc (.int .i64 i))=some (.ie b g (o+j*sz)):=by
 rw[Xr hi];unfold gJ
 grind
end
end Go.ld
