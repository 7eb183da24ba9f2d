/- Part of the proof of UniformExact, UniformAccepted: layer. -/
import Derived.Lib.LaidU8
import Derived.Test.YtijednbpbbddbaaGreatDoorL19
set_option linter.all false
namespace Go.ns
open Go Go.ChangeShapes Go.WideShapes Go.ChangeAt Go.RowKit Go.Lib
def OP{F:nc}{G:Nat->Nat}{n:Nat}:∀(L:List Value),(∀v∈L,BD v=true)->iI F G n (L.map AV.sc) L
 |[],_=>.nil|v::L,h=>.cons (.sc (h v aaB)) (OP L λx a=>h x (by simp[a]))
def OL{W:World}{g:Nat}{L:List Value}(hs:∀v∈L,BD v=true)(h:∀(i:Nat) (v:Value),L[i]?=some v->W.cell? ⟨g,i,none⟩=some v):ic (vV W) (λ_=>0) 0 (.nt (.agg (L.map AV.sc))) (.pointer (some ⟨g,0,none⟩)):=by
 refine .nt (vs:=L) (OP L hs) (λi v a=>?_) λc b=>?_
 ·rw[tG];exact GP (h i v a)
 ·obtain⟨v,_,rfl⟩:=nU.1 b;rfl
section
variable{H:Type} {enc:TypeId×Value->H} {P:Program} {W:World}
def Vu:Value->DataW H
 |.bool b=>.lit (.bool b)|.int k n=>.lit (.int k n)|_=>.nil
def Mr{base:Nat}{sp:Nat->Bool}{held:Bool}{fuel:Nat}{t:TypeId}{d:Array Field}{cs L:List Value}{p:List MemPlace}(u:P.underlying t=some (.struct d))
  (w:∀(i:Nat) (f:Field),d[i]?=some f->(P.underlying f.type=some .bool\/∃k,P.underlying f.type=some (.int k))/\f.offset=i/\P.cellsOf f.type=1) (x:P.cellsOf t=d.size)
  (r:∀v∈L,(∃b,v=.bool b)\/∃k n,v=.int k n)
  (h:DataW.trod enc P W base sp held fuel t cs=some (.agg (L.map Vu),p)):cs=L:=by
 obtain⟨xs,n,rfl,y,F,A,j⟩:=DataW.trod_struct u h
 have l:xs.map (·.1)=L.map (Vu (H:=H)):=by
  have:=congrArg Prod.fst y;simpa using this.symm
 have B:L.length=d.size:=by
  have:=congrArg List.length l;simp at this;omega
 apply Wi;intro i
 by_cases hi:i<d.size
 ·obtain⟨hu,C,D⟩:=w i d[i] (by simp[hi]);have o:=j i d[i] (by simp[hi]);obtain⟨b,s⟩:∃b,xs[i]?=some b:=⟨xs[i]' VW,nw VW⟩;rw[s,C,D] at o
  have a:(xs.map (·.1))[i]?=some b.1:=by simp[s]
  rw[l,xr] at a;have m:L[i]?=some (L[i]' VW):=nw VW;rw[m] at a;have a:Vu (L[i]' VW)=b.1:=gB a
  have c:∀v,(cs.drop i).take 1=[v]->cs[i]?=some v:=λv E=>by
   have:=congrArg (·[0]?) E
   simpa[Me,UT] using this
  rw[m];rcases hu with hu|⟨k,hu⟩
  ·obtain⟨z,g,rfl⟩:=DataW.trod_bool hu o;rw[c _ g];rcases r _ (D7 (by omega:i<L.length))with⟨q,e⟩|⟨k',n',e⟩
   ·rw[e] at a|-;have a:(DataW.lit (.bool q):DataW H)=.lit (.bool z):=a;cases a;rfl
   ·rw[e] at a;have a:(DataW.lit (.int k' n'):DataW H)=.lit (.bool z):=a;cases a
  ·obtain⟨z,g,rfl,_⟩:=DataW.trod_int hu o;rw[c _ g];rcases r _ (D7 (by omega:i<L.length))with⟨q,e⟩|⟨k',n',e⟩
   ·rw[e] at a;have a:(DataW.lit (.bool q):DataW H)=.lit (.int k z):=a;cases a
   ·rw[e] at a|-;have a:(DataW.lit (.int k' n'):DataW H)=.lit (.int k z):=a;cases a;rfl
 ·rw[UL VW,UL VW]
def UD{α:Type}{f:α->List Value}{n:Nat}(hn:0<n):∀(l:List α),(∀x∈l,(f x).length=n)->∀i:Nat,(l.flatMap f)[i]?=l[i/n]?.bind λx=>(f x)[i%n]?
 |[],_,i=>by simp|a::l,h,i=>by
  rw[Es];have b:=h a aaB
  by_cases hi:i<n
  ·rw[s_ VW,Nat.div_eq_of_lt hi,Qp hi];simp
  ·rw[xj VW,b,UD hn l (λx c=>h x (by simp[c])) (i-n)]
   have d:i/n=(i-n)/n+1:=by
    have:=Nat.div_eq_sub_div hn (by omega:n<=i);omega
   have e:i%n=(i-n)%n:=Nat.mod_eq_sub_mod VW;rw[d,e,jF]
def Se{l:List (String×DataW Unit)}(h:laidMet P l W){α:Type}{name:String}{L:List α}{f:α->List Value}{N:Nat}(E:0<N)(hm:(name,DataW.agg (L.map λx=>.agg ((f x).map Vu)))∈l){g t e:Nat}{s:Array Field}
  (hg:P.globalNamed name=some g) (G:(P.globals[g]?).map (·.type)=some t) (hu:P.underlying t=some (.array L.length e)) (he:P.underlying e=some (.struct s))
  (H:∀(i:Nat) (f:Field),s[i]?=some f->(P.underlying f.type=some .bool\/∃k,P.underlying f.type=some (.int k))/\f.offset=i/\P.cellsOf f.type=1) (c:P.cellsOf e=s.size) (u:s.size=N)
  (hlen:∀x∈L,(f x).length=N) (F:∀x∈L,∀v∈f x,(∃b,v=.bool b)\/∃k n,v=.int k n):ic (vV W) (λ_=>0) 0 (.nt (.agg ((L.flatMap f).map AV.sc))) (.pointer (some ⟨g,0,none⟩)):=by
 refine OL (λv a=>?_) λi v a=>?_
 ·obtain⟨x,w,y⟩:=WL.1 a;rcases F x w v y with⟨b,rfl⟩|⟨k,n,rfl⟩<;>rfl
 ·obtain⟨g1,t1,cs,fuel,p,z,A,j,I⟩:=laidMet.reads h hm;obtain rfl:=gB (hg.symm.trans z);obtain rfl:=gB (G.symm.trans A);rw[UD E L hlen i] at a;cases m:L[i/N]?with
  |none=>rw[m] at a;cases a
  |some x=>
   rw[m] at a;have a:(f x)[i%N]?=some v:=a;have B:i/N<L.length:=(qb.1 m).1;have w:x∈L:=D8 m;obtain⟨C,d,q,o,D⟩:=array_elem hu I (i/N) B;rw[xr,m] at o;obtain rfl:=gB o;have r:=Mr he H c (F x w) D;rw[c,u] at r;rw[<-r,adR (W5 _ E),UT] at a;rw[World.var?_cell hg j i,<-aaD];rw[show i/N*N+i%N=i from Nat.div_add_mod' i N] at a;exact a
def Ig{l:List (String×DataW Unit)}(h:laidMet P l W){name:String}{k:IntKind}{L:List Int}(hm:(name,(tabData k L:DataW Unit))∈l){g t e n:Nat}
  (hg:P.globalNamed name=some g) (o:(P.globals[g]?).map (·.type)=some t) (hu:P.underlying t=some (.array n e)) (he:P.underlying e=some (.int k)) (b:P.cellsOf e=1) (c:P.cellsOf t=n):ic (vV W) (λ_=>0) 0 (.nt (.agg (L.map λn=>AV.sc (Value.int k n)))) (.pointer (some ⟨g,0,none⟩)):=by
 have:=OL (W:=W) (g:=g) (L:=L.map λz=>Value.int k z) (λv d=>by obtain⟨z,_,rfl⟩:=nU.1 d;rfl) λi v d=>by
  obtain⟨g1,t1,cs,fuel,p,f,j,a,q⟩:=laidMet.reads h hm;obtain rfl:=gB (hg.symm.trans f);obtain rfl:=gB (o.symm.trans j);have m:=cells_of_tab hu he b c q;rw[World.var?_cell hg a i,<-aaD,m];exact d
 rw[Q6] at this;exact this
end
end Go.ns
