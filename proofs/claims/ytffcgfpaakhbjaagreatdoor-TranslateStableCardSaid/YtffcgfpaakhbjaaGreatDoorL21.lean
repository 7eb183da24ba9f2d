/- Part of the proof of TranslateStable: layer. -/
import Derived.Lib.LaidU8
import Derived.Test.YtffcgfpaakhbjaaGreatDoorL20
set_option linter.all false
namespace Go.jN
open Go Go.ChangeShapes Go.WideShapes Go.ChangeAt Go.RowKit Go.Lib
def Ie{F:js}{G:Nat->Nat}{n:Nat}:∀(L:List Value),(∀v∈L,xi v=true)->ft F G n (L.map AV.sc) L
 |[],_=>.nil|v::L,h=>.cons (.sc (h v aas)) (Ie L λx a=>h x (by simp[a]))
def HP{W:World}{g:Nat}{L:List Value}(hs:∀v∈L,xi v=true)(h:∀(i:Nat) (v:Value),L[i]?=some v->W.cell? ⟨g,i,none⟩=some v):eZ (sk W) (λ_=>0) 0 (.ju (.agg (L.map AV.sc))) (.pointer (some ⟨g,0,none⟩)):=by
 refine .ju (vs:=L) (Ie L hs) (λi v a=>?_) λc b=>?_
 ·rw[tu];exact Fg (h i v a)
 ·obtain⟨v,_,rfl⟩:=ll.1 b;rfl
section
variable{H:Type} {enc:TypeId×Value->H} {P:Program} {W:World}
def SI:Value->DataW H
 |.bool b=>.lit (.bool b)|.int k n=>.lit (.int k n)|_=>.nil
def EY{base:Nat}{sp:Nat->Bool}{held:Bool}{fuel:Nat}{t:TypeId}{fs:Array Field}{cs L:List Value}{p:List MemPlace}(s:P.underlying t=some (.struct fs))
  (u:∀(i:Nat) (f:Field),fs[i]?=some f->(P.underlying f.type=some .bool\/∃k,P.underlying f.type=some (.int k))/\f.offset=i/\P.cellsOf f.type=1) (w:P.cellsOf t=fs.size)
  (q:∀v∈L,(∃b,v=.bool b)\/∃k n,v=.int k n)
  (h:DataW.trod enc P W base sp held fuel t cs=some (.agg (L.map SI),p)):cs=L:=by
 obtain⟨xs,n,rfl,x,E,y,g⟩:=DataW.trod_struct s h
 have j:xs.map (·.1)=L.map (SI (H:=H)):=by
  have:=congrArg Prod.fst x;simpa using this.symm
 have A:L.length=fs.size:=by
  have:=congrArg List.length j;simp at this;omega
 apply SE;intro i
 by_cases hi:i<fs.size
 ·obtain⟨hu,B,C⟩:=u i fs[i] (by simp[hi]);have m:=g i fs[i] (by simp[hi]);obtain⟨b,r⟩:∃b,xs[i]?=some b:=⟨xs[i]' VW,mi VW⟩;rw[r,B,C] at m
  have a:(xs.map (·.1))[i]?=some b.1:=by simp[r]
  rw[j,sw] at a;have l:L[i]?=some (L[i]' VW):=mi VW;rw[l] at a;have a:SI (L[i]' VW)=b.1:=fS a
  have c:∀v,(cs.drop i).take 1=[v]->cs[i]?=some v:=λv D=>by
   have:=congrArg (·[0]?) D
   simpa[E6,Px] using this
  rw[l];rcases hu with hu|⟨k,hu⟩
  ·obtain⟨z,d,rfl⟩:=DataW.trod_bool hu m;rw[c _ d];rcases q _ (BB (by omega:i<L.length))with⟨o,e⟩|⟨k',n',e⟩
   ·rw[e] at a|-;have a:(DataW.lit (.bool o):DataW H)=.lit (.bool z):=a;cases a;rfl
   ·rw[e] at a;have a:(DataW.lit (.int k' n'):DataW H)=.lit (.bool z):=a;cases a
  ·obtain⟨z,d,rfl,_⟩:=DataW.trod_int hu m;rw[c _ d];rcases q _ (BB (by omega:i<L.length))with⟨o,e⟩|⟨k',n',e⟩
   ·rw[e] at a;have a:(DataW.lit (.bool o):DataW H)=.lit (.int k z):=a;cases a
   ·rw[e] at a|-;have a:(DataW.lit (.int k' n'):DataW H)=.lit (.int k z):=a;cases a;rfl
 ·rw[Sy VW,Sy VW]
def OB{α:Type}{f:α->List Value}{n:Nat}(hn:0<n):∀(l:List α),(∀x∈l,(f x).length=n)->∀i:Nat,(l.flatMap f)[i]?=l[i/n]?.bind λx=>(f x)[i%n]?
 |[],_,i=>by simp|a::l,h,i=>by
  rw[xS];have b:=h a aas
  by_cases hi:i<n
  ·rw[oy VW,Nat.div_eq_of_lt hi,Rb hi];simp
  ·rw[qU VW,b,OB hn l (λx c=>h x (by simp[c])) (i-n)]
   have d:i/n=(i-n)/n+1:=by
    have:=Nat.div_eq_sub_div hn (by omega:n<=i);omega
   have e:i%n=(i-n)%n:=Nat.mod_eq_sub_mod VW;rw[d,e,kW]
def Sk{l:List (String×DataW Unit)}(h:laidMet P l W){α:Type}{name:String}{L:List α}{f:α->List Value}{N:Nat}(D:0<N)(hm:(name,DataW.agg (L.map λx=>.agg ((f x).map SI)))∈l){g t e:Nat}{fs:Array Field}
  (hg:P.globalNamed name=some g) (F:(P.globals[g]?).map (·.type)=some t) (hu:P.underlying t=some (.array L.length e)) (he:P.underlying e=some (.struct fs))
  (G:∀(i:Nat) (f:Field),fs[i]?=some f->(P.underlying f.type=some .bool\/∃k,P.underlying f.type=some (.int k))/\f.offset=i/\P.cellsOf f.type=1) (c:P.cellsOf e=fs.size) (s:fs.size=N)
  (hlen:∀x∈L,(f x).length=N) (E:∀x∈L,∀v∈f x,(∃b,v=.bool b)\/∃k n,v=.int k n):eZ (sk W) (λ_=>0) 0 (.ju (.agg ((L.flatMap f).map AV.sc))) (.pointer (some ⟨g,0,none⟩)):=by
 refine HP (λv a=>?_) λi v a=>?_
 ·obtain⟨x,u,w⟩:=TB.1 a;rcases E x u v w with⟨b,rfl⟩|⟨k,n,rfl⟩<;>rfl
 ·obtain⟨g1,t1,cs,fuel,p,y,z,j,H⟩:=laidMet.reads h hm;obtain rfl:=fS (hg.symm.trans y);obtain rfl:=fS (F.symm.trans z);rw[OB D L hlen i] at a;cases m:L[i/N]?with
  |none=>rw[m] at a;cases a
  |some x=>
   rw[m] at a;have a:(f x)[i%N]?=some v:=a;have A:i/N<L.length:=(jj.1 m).1;have u:x∈L:=Bh m;obtain⟨B,d,q,o,C⟩:=array_elem hu H (i/N) A;rw[sw,m] at o;obtain rfl:=fS o;have r:=EY he G c (E x u) C;rw[c,s] at r;rw[<-r,aap (UT _ D),Px] at a;rw[World.var?_cell hg j i,<-WB];rw[show i/N*N+i%N=i from Nat.div_add_mod' i N] at a;exact a
def RQ{l:List (String×DataW Unit)}(h:laidMet P l W){name:String}{k:IntKind}{L:List Int}(hm:(name,(tabData k L:DataW Unit))∈l){g t e n:Nat}
  (hg:P.globalNamed name=some g) (o:(P.globals[g]?).map (·.type)=some t) (hu:P.underlying t=some (.array n e)) (he:P.underlying e=some (.int k)) (b:P.cellsOf e=1) (c:P.cellsOf t=n):eZ (sk W) (λ_=>0) 0 (.ju (.agg (L.map λn=>AV.sc (Value.int k n)))) (.pointer (some ⟨g,0,none⟩)):=by
 have:=HP (W:=W) (g:=g) (L:=L.map λz=>Value.int k z) (λv d=>by obtain⟨z,_,rfl⟩:=ll.1 d;rfl) λi v d=>by
  obtain⟨g1,t1,cs,fuel,p,f,j,a,q⟩:=laidMet.reads h hm;obtain rfl:=fS (hg.symm.trans f);obtain rfl:=fS (o.symm.trans j);have m:=cells_of_tab hu he b c q;rw[World.var?_cell hg a i,<-WB,m];exact d
 rw[D4] at this;exact this
end
end Go.jN
