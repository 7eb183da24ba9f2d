/- Part of the proof of TheoryNeeds: layer. -/
import Derived.Lib.LaidU8
import Derived.Test.YtjgjcpnoaeljkaaGreatDoorNL23
set_option linter.all false
namespace Go.kC
open Go Go.ChangeShapes Go.WideShapes Go.ChangeAt Go.RowKit Go.Lib
def I6{F:jo}{G:Nat->Nat}{n:Nat}:∀(L:List Value),(∀v∈L,vK v=true)->fG F G n (L.map AV.sc) L
 |[],_=>.nil|v::L,h=>.cons (.sc (h v aaL)) (I6 L λx a=>h x (by simp[a]))
def Jf{W:World}{g:Nat}{L:List Value}(hs:∀v∈L,vK v=true)(h:∀(i:Nat) (v:Value),L[i]?=some v->W.cell? ⟨g,i,none⟩=some v):fE (rN W) (λ_=>0) 0 (.lx (.agg (L.map AV.sc))) (.pointer (some ⟨g,0,none⟩)):=by
 refine .lx (vs:=L) (I6 L hs) (λi v a=>?_) λc b=>?_
 .rw[tH];exact GX (h i v a)
 .obtain⟨v,_,rfl⟩:=nw.1 b;rfl
section
variable{H:Type} {enc:TypeId×Value->H} {P:Program} {W:World}
def T5:Value->DataW H
 |.bool b=>.lit (.bool b)|.int k n=>.lit (.int k n)|_=>.nil
def Gg{base:Nat}{sp:Nat->Bool}{held:Bool}{fuel:Nat}{t:TypeId}{d:Array Field}{cs L:List Value}{p:List MemPlace}(x:P.underlying t=some (.struct d))
  (y:∀(i:Nat) (f:Field),d[i]?=some f->(P.underlying f.type=some .bool\/∃k,P.underlying f.type=some (.int k))/\f.offset=i/\P.cellsOf f.type=1) (A:P.cellsOf t=d.size)
  (u:∀v∈L,(∃b,v=.bool b)\/∃k n,v=.int k n)
  (h:DataW.trod enc P W base sp held fuel t cs=some (.agg (L.map T5),p)):cs=L:=by
 obtain⟨xs,n,rfl,B,J,C,l⟩:=DataW.trod_struct x h
 have o:xs.map (·.1)=L.map (T5 (H:=H)):=by
  have:=congrArg Prod.fst B;simpa using this.symm
 have D:L.length=d.size:=by
  have:=congrArg List.length o;simp at this;omega
 apply Um;intro i
 by_cases hi:i<d.size
 .obtain⟨hu,F,G⟩:=y i d[i] (by simp[hi]);have r:=l i d[i] (by simp[hi]);obtain⟨b,w⟩:∃b,xs[i]?=some b:=⟨xs[i]' VW,l5 VW⟩;rw[w,F,G] at r
  have a:(xs.map (·.1))[i]?=some b.1:=by simp[w]
  rw[o,yq] at a;have q:L[i]?=some (L[i]' VW):=l5 VW;rw[q] at a;have a:T5 (L[i]' VW)=b.1:=fQ a
  have c:∀v,(cs.drop i).take 1=[v]->cs[i]?=some v:=λv I=>by
   have:=congrArg (·[0]?) I
   simpa[Nu,Sx] using this
  rw[q];rcases hu with hu|⟨k,hu⟩
  .obtain⟨z,j,rfl⟩:=DataW.trod_bool hu r;rw[c _ j];rcases u _ (Cy (by omega:i<L.length))with⟨s,e⟩|⟨k',n',e⟩
   .rw[e] at a|-;have a:(DataW.lit (.bool s):DataW H)=.lit (.bool z):=a;cases a;rfl
   .rw[e] at a;have a:(DataW.lit (.int k' n'):DataW H)=.lit (.bool z):=a;cases a
  .obtain⟨z,j,rfl,_⟩:=DataW.trod_int hu r;rw[c _ j];rcases u _ (Cy (by omega:i<L.length))with⟨s,e⟩|⟨k',n',e⟩
   .rw[e] at a;have a:(DataW.lit (.bool s):DataW H)=.lit (.int k z):=a;cases a
   .rw[e] at a|-;have a:(DataW.lit (.int k' n'):DataW H)=.lit (.int k z):=a;cases a;rfl
 .rw[abr VW,abr VW]
def QB{α:Type}{f:α->List Value}{n:Nat}(hn:0<n):∀(l:List α),(∀x∈l,(f x).length=n)->∀i:Nat,(l.flatMap f)[i]?=l[i/n]?.bind λx=>(f x)[i%n]?
 |[],_,i=>by simp|a::l,h,i=>by
  rw[Fp];have b:=h a aaL
  by_cases hi:i<n
  .rw[tz VW,Nat.div_eq_of_lt hi,Ud hi];simp
  .rw[xT VW,b,QB hn l (λx c=>h x (by simp[c])) (i-n)]
   have d:i/n=(i-n)/n+1:=by
    have:=Nat.div_eq_sub_div hn (by omega:n<=i);omega
   have j:i%n=(i-n)%n:=Nat.mod_eq_sub_mod VW;rw[d,j,lQ]
def U3{l:List (String×DataW Unit)}(h:laidMet P l W){α:Type}{name:String}{L:List α}{f:α->List Value}{N:Nat}(H:0<N)(hm:(name,DataW.agg (L.map λx=>.agg ((f x).map T5)))∈l){g t e:Nat}{u:Array Field}
  (hg:P.globalNamed name=some g) (J:(P.globals[g]?).map (·.type)=some t) (hu:P.underlying t=some (.array L.length e)) (he:P.underlying e=some (.struct u))
  (K:∀(i:Nat) (f:Field),u[i]?=some f->(P.underlying f.type=some .bool\/∃k,P.underlying f.type=some (.int k))/\f.offset=i/\P.cellsOf f.type=1) (c:P.cellsOf e=u.size) (w:u.size=N)
  (hlen:∀x∈L,(f x).length=N) (I:∀x∈L,∀v∈f x,(∃b,v=.bool b)\/∃k n,v=.int k n):fE (rN W) (λ_=>0) 0 (.lx (.agg ((L.flatMap f).map AV.sc))) (.pointer (some ⟨g,0,none⟩)):=by
 refine Jf (λv a=>?_) λi v a=>?_
 .obtain⟨x,y,A⟩:=Wk.1 a;rcases I x y v A with⟨b,rfl⟩|⟨k,n,rfl⟩<;>rfl
 .obtain⟨g1,t1,cs,fuel,p,B,C,j,M⟩:=laidMet.reads h hm;obtain rfl:=fQ (hg.symm.trans B);obtain rfl:=fQ (J.symm.trans C);rw[QB H L hlen i] at a;cases o:L[i/N]?with
  |none=>rw[o] at a;cases a
  |some x=>
   rw[o] at a;have a:(f x)[i%N]?=some v:=a;have D:i/N<L.length:=(mI.1 o).1;have y:x∈L:=CO o;obtain⟨F,d,q,r,G⟩:=array_elem hu M (i/N) D;rw[yq,o] at r;obtain rfl:=fQ r;have s:=Gg he K c (I x y) G;rw[c,w] at s;rw[<-s,afZ (Xs _ H),Sx] at a;rw[World.var?_cell hg j i,<-Zh];rw[show i/N*N+i%N=i from Nat.div_add_mod' i N] at a;exact a
def Mn{l:List (String×DataW Unit)}(h:laidMet P l W){name:String}{k:IntKind}{L:List Int}(hm:(name,(tabData k L:DataW Unit))∈l){g t e n:Nat}
  (hg:P.globalNamed name=some g) (q:(P.globals[g]?).map (·.type)=some t) (hu:P.underlying t=some (.array n e)) (he:P.underlying e=some (.int k)) (b:P.cellsOf e=1) (c:P.cellsOf t=n):fE (rN W) (λ_=>0) 0 (.lx (.agg (L.map λn=>AV.sc (Value.int k n)))) (.pointer (some ⟨g,0,none⟩)):=by
 have:=Jf (W:=W) (g:=g) (L:=L.map λz=>Value.int k z) (λv d=>by obtain⟨z,_,rfl⟩:=nw.1 d;rfl) λi v d=>by
  obtain⟨g1,t1,cs,fuel,p,f,j,a,r⟩:=laidMet.reads h hm;obtain rfl:=fQ (hg.symm.trans f);obtain rfl:=fQ (q.symm.trans j);have o:=cells_of_tab hu he b c r;rw[World.var?_cell hg a i,<-Zh,o];exact d
 rw[PX] at this;exact this
end
end Go.kC
