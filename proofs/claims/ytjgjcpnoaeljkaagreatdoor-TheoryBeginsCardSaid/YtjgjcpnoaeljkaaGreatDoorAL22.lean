/- Part of the proof of TheoryBegins: layer. -/
import Derived.Lib.LaidU8
import Derived.Test.YtjgjcpnoaeljkaaGreatDoorAL21
set_option linter.all false
namespace Go.kQ
open Go Go.ChangeShapes Go.WideShapes Go.ChangeAt Go.RowKit Go.Lib
def JD{F:jo}{G:Nat->Nat}{n:Nat}:∀(L:List Value),(∀v∈L,vU v=true)->fI F G n (L.map AV.sc) L
 |[],_=>.nil|v::L,h=>.cons (.sc (h v acZ)) (JD L λx a=>h x (by simp[a]))
def JK{W:World}{g:Nat}{L:List Value}(hs:∀v∈L,vU v=true)(h:∀(i:Nat) (v:Value),L[i]?=some v->W.cell? ⟨g,i,none⟩=some v):fD (rQ W) (λ_=>0) 0 (.lD (.agg (L.map AV.sc))) (.pointer (some ⟨g,0,none⟩)):=by
 refine .lD (vs:=L) (JD L hs) (λi v a=>?_) λc b=>?_
 .rw[tg];exact GH (h i v a)
 .obtain⟨v,_,rfl⟩:=nj.1 b;rfl
section
variable{H:Type} {enc:TypeId×Value->H} {P:Program} {W:World}
def V3:Value->DataW H
 |.bool b=>.lit (.bool b)|.int k n=>.lit (.int k n)|_=>.nil
def GI{base:Nat}{sp:Nat->Bool}{held:Bool}{fuel:Nat}{t:TypeId}{d:Array Field}{cs L:List Value}{p:List MemPlace}(x:P.underlying t=some (.struct d))
  (y:∀(i:Nat) (f:Field),d[i]?=some f->(P.underlying f.type=some .bool\/∃k,P.underlying f.type=some (.int k))/\f.offset=i/\P.cellsOf f.type=1) (A:P.cellsOf t=d.size)
  (u:∀v∈L,(∃b,v=.bool b)\/∃k n,v=.int k n)
  (h:DataW.trod enc P W base sp held fuel t cs=some (.agg (L.map V3),p)):cs=L:=by
 obtain⟨xs,n,rfl,B,J,C,l⟩:=DataW.trod_struct x h
 have o:xs.map (·.1)=L.map (V3 (H:=H)):=by
  have:=congrArg Prod.fst B;simpa using this.symm
 have D:L.length=d.size:=by
  have:=congrArg List.length o;simp at this;omega
 apply U9;intro i
 by_cases hi:i<d.size
 .obtain⟨hu,F,G⟩:=y i d[i] (by simp[hi]);have r:=l i d[i] (by simp[hi]);obtain⟨b,w⟩:∃b,xs[i]?=some b:=⟨xs[i]' VW,l9 VW⟩;rw[w,F,G] at r
  have a:(xs.map (·.1))[i]?=some b.1:=by simp[w]
  rw[o,yA] at a;have q:L[i]?=some (L[i]' VW):=l9 VW;rw[q] at a;have a:V3 (L[i]' VW)=b.1:=fU a
  have c:∀v,(cs.drop i).take 1=[v]->cs[i]?=some v:=λv I=>by
   have:=congrArg (·[0]?) I
   simpa[NB,St] using this
  rw[q];rcases hu with hu|⟨k,hu⟩
  .obtain⟨z,j,rfl⟩:=DataW.trod_bool hu r;rw[c _ j];rcases u _ (CC (by omega:i<L.length))with⟨s,e⟩|⟨k',n',e⟩
   .rw[e] at a|-;have a:(DataW.lit (.bool s):DataW H)=.lit (.bool z):=a;cases a;rfl
   .rw[e] at a;have a:(DataW.lit (.int k' n'):DataW H)=.lit (.bool z):=a;cases a
  .obtain⟨z,j,rfl,_⟩:=DataW.trod_int hu r;rw[c _ j];rcases u _ (CC (by omega:i<L.length))with⟨s,e⟩|⟨k',n',e⟩
   .rw[e] at a;have a:(DataW.lit (.bool s):DataW H)=.lit (.int k z):=a;cases a
   .rw[e] at a|-;have a:(DataW.lit (.int k' n'):DataW H)=.lit (.int k z):=a;cases a;rfl
 .rw[acz VW,acz VW]
def Rx{α:Type}{f:α->List Value}{n:Nat}(hn:0<n):∀(l:List α),(∀x∈l,(f x).length=n)->∀i:Nat,(l.flatMap f)[i]?=l[i/n]?.bind λx=>(f x)[i%n]?
 |[],_,i=>by simp|a::l,h,i=>by
  rw[GA];have b:=h a acZ
  by_cases hi:i<n
  .rw[tJ VW,Nat.div_eq_of_lt hi,Uh hi];simp
  .rw[yf VW,b,Rx hn l (λx c=>h x (by simp[c])) (i-n)]
   have d:i/n=(i-n)/n+1:=by
    have:=Nat.div_eq_sub_div hn (by omega:n<=i);omega
   have j:i%n=(i-n)%n:=Nat.mod_eq_sub_mod VW;rw[d,j,lY]
def Ua{l:List (String×DataW Unit)}(h:laidMet P l W){α:Type}{name:String}{L:List α}{f:α->List Value}{N:Nat}(H:0<N)(hm:(name,DataW.agg (L.map λx=>.agg ((f x).map V3)))∈l){g t e:Nat}{u:Array Field}
  (hg:P.globalNamed name=some g) (J:(P.globals[g]?).map (·.type)=some t) (hu:P.underlying t=some (.array L.length e)) (he:P.underlying e=some (.struct u))
  (K:∀(i:Nat) (f:Field),u[i]?=some f->(P.underlying f.type=some .bool\/∃k,P.underlying f.type=some (.int k))/\f.offset=i/\P.cellsOf f.type=1) (c:P.cellsOf e=u.size) (w:u.size=N)
  (hlen:∀x∈L,(f x).length=N) (I:∀x∈L,∀v∈f x,(∃b,v=.bool b)\/∃k n,v=.int k n):fD (rQ W) (λ_=>0) 0 (.lD (.agg ((L.flatMap f).map AV.sc))) (.pointer (some ⟨g,0,none⟩)):=by
 refine JK (λv a=>?_) λi v a=>?_
 .obtain⟨x,y,A⟩:=UK.1 a;rcases I x y v A with⟨b,rfl⟩|⟨k,n,rfl⟩<;>rfl
 .obtain⟨g1,t1,cs,fuel,p,B,C,j,M⟩:=laidMet.reads h hm;obtain rfl:=fU (hg.symm.trans B);obtain rfl:=fU (J.symm.trans C);rw[Rx H L hlen i] at a;cases o:L[i/N]?with
  |none=>rw[o] at a;cases a
  |some x=>
   rw[o] at a;have a:(f x)[i%N]?=some v:=a;have D:i/N<L.length:=(mH.1 o).1;have y:x∈L:=Gt o;obtain⟨F,d,q,r,G⟩:=array_elem hu M (i/N) D;rw[yA,o] at r;obtain rfl:=fU r;have s:=GI he K c (I x y) G;rw[c,w] at s;rw[<-s,Yo (Zk _ H),St] at a;rw[World.var?_cell hg j i,<-afW];rw[show i/N*N+i%N=i from Nat.div_add_mod' i N] at a;exact a
def M9{l:List (String×DataW Unit)}(h:laidMet P l W){name:String}{k:IntKind}{L:List Int}(hm:(name,(tabData k L:DataW Unit))∈l){g t e n:Nat}
  (hg:P.globalNamed name=some g) (q:(P.globals[g]?).map (·.type)=some t) (hu:P.underlying t=some (.array n e)) (he:P.underlying e=some (.int k)) (b:P.cellsOf e=1) (c:P.cellsOf t=n):fD (rQ W) (λ_=>0) 0 (.lD (.agg (L.map λn=>AV.sc (Value.int k n)))) (.pointer (some ⟨g,0,none⟩)):=by
 have:=JK (W:=W) (g:=g) (L:=L.map λz=>Value.int k z) (λv d=>by obtain⟨z,_,rfl⟩:=nj.1 d;rfl) λi v d=>by
  obtain⟨g1,t1,cs,fuel,p,f,j,a,r⟩:=laidMet.reads h hm;obtain rfl:=fU (hg.symm.trans f);obtain rfl:=fU (q.symm.trans j);have o:=cells_of_tab hu he b c r;rw[World.var?_cell hg a i,<-afW,o];exact d
 rw[Qy] at this;exact this
end
end Go.kQ
