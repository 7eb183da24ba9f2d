/- Part of the proof of KernelAccepts, KernelDoes: layer. -/
import Derived.Lib.LaidU8
import Derived.Test.YtobcafblgapgfaaGreatDoorL19
set_option linter.all false
namespace Go.ke
open Go Go.ChangeShapes Go.WideShapes Go.ChangeAt Go.RowKit Go.Lib
def IN{F:jY}{G:Nat->Nat}{n:Nat}:∀(L:List Value),(∀v∈L,z7 v=true)->fq F G n (L.map AV.sc) L
 |[],_=>.nil|v::L,h=>.cons (.sc (h v aa4)) (IN L λx a=>h x (by simp[a]))
def IW{W:World}{g:Nat}{L:List Value}(hs:∀v∈L,z7 v=true)(h:∀(i:Nat) (v:Value),L[i]?=some v->W.cell? ⟨g,i,none⟩=some v):fF (r6 W) (λ_=>0) 0 (.lG (.agg (L.map AV.sc))) (.pointer (some ⟨g,0,none⟩)):=by
 refine .lG (vs:=L) (IN L hs) (λi v a=>?_) λc b=>?_
 ·rw[r_];exact A8 (h i v a)
 ·obtain⟨v,_,rfl⟩:=l8.1 b;rfl
section
variable{H:Type} {enc:TypeId×Value->H} {P:Program} {W:World}
def SJ:Value->DataW H
 |.bool b=>.lit (.bool b)|.int k n=>.lit (.int k n)|_=>.nil
def Fo{base:Nat}{sp:Nat->Bool}{held:Bool}{fuel:Nat}{t:TypeId}{d:Array Field}{cs L:List Value}{p:List MemPlace}(s:P.underlying t=some (.struct d))
  (u:∀(i:Nat) (f:Field),d[i]?=some f->(P.underlying f.type=some .bool\/∃k,P.underlying f.type=some (.int k))/\f.offset=i/\P.cellsOf f.type=1) (w:P.cellsOf t=d.size)
  (q:∀v∈L,(∃b,v=.bool b)\/∃k n,v=.int k n)
  (h:DataW.trod enc P W base sp held fuel t cs=some (.agg (L.map SJ),p)):cs=L:=by
 obtain⟨xs,n,rfl,x,E,y,j⟩:=DataW.trod_struct s h
 have l:xs.map (·.1)=L.map (SJ (H:=H)):=by
  have:=congrArg Prod.fst x;simpa using this.symm
 have A:L.length=d.size:=by
  have:=congrArg List.length l;simp at this;omega
 apply Qm;intro i
 by_cases hi:i<d.size
 ·obtain⟨hu,B,C⟩:=u i d[i] (by simp[hi]);have h1:=j i d[i] (by simp[hi]);obtain⟨b,r⟩:∃b,xs[i]?=some b:=⟨xs[i]' VW,oO VW⟩;rw[r,B,C] at h1
  have a:(xs.map (·.1))[i]?=some b.1:=by simp[r]
  rw[l,tM] at a;have m:L[i]?=some (L[i]' VW):=oO VW;rw[m] at a;have a:SJ (L[i]' VW)=b.1:=gh a
  have c:∀v,(cs.drop i).take 1=[v]->cs[i]?=some v:=λv D=>by
   have:=congrArg (·[0]?) D
   simpa[DG,Js] using this
  rw[m];rcases hu with hu|⟨k,hu⟩
  ·obtain⟨z,g,rfl⟩:=DataW.trod_bool hu h1;rw[c _ g];rcases q _ (GH (by omega:i<L.length))with⟨o,e⟩|⟨k',n',e⟩
   ·rw[e] at a|-;have a:(DataW.lit (.bool o):DataW H)=.lit (.bool z):=a;cases a;rfl
   ·rw[e] at a;have a:(DataW.lit (.int k' n'):DataW H)=.lit (.bool z):=a;cases a
  ·obtain⟨z,g,rfl,_⟩:=DataW.trod_int hu h1;rw[c _ g];rcases q _ (GH (by omega:i<L.length))with⟨o,e⟩|⟨k',n',e⟩
   ·rw[e] at a;have a:(DataW.lit (.bool o):DataW H)=.lit (.int k z):=a;cases a
   ·rw[e] at a|-;have a:(DataW.lit (.int k' n'):DataW H)=.lit (.int k z):=a;cases a;rfl
 ·rw[TO VW,TO VW]
def Oq{α:Type}{f:α->List Value}{n:Nat}(hn:0<n):∀(l:List α),(∀x∈l,(f x).length=n)->∀i:Nat,(l.flatMap f)[i]?=l[i/n]?.bind λx=>(f x)[i%n]?
 |[],_,i=>by simp|a::l,h,i=>by
  rw[vP];have b:=h a aa4
  by_cases hi:i<n
  ·rw[p4 VW,Nat.div_eq_of_lt hi,Tu hi];simp
  ·rw[wc VW,b,Oq hn l (λx c=>h x (by simp[c])) (i-n)]
   have d:i/n=(i-n)/n+1:=by
    have:=Nat.div_eq_sub_div hn (by omega:n<=i);omega
   have e:i%n=(i-n)%n:=Nat.mod_eq_sub_mod VW;rw[d,e,mc]
def R5{l:List (String×DataW Unit)}(h:laidMet P l W){α:Type}{name:String}{L:List α}{f:α->List Value}{N:Nat}(E:0<N)(hm:(name,DataW.agg (L.map λx=>.agg ((f x).map SJ)))∈l){g t e:Nat}{s:Array Field}
  (hg:P.globalNamed name=some g) (G:(P.globals[g]?).map (·.type)=some t) (hu:P.underlying t=some (.array L.length e)) (he:P.underlying e=some (.struct s))
  (H:∀(i:Nat) (f:Field),s[i]?=some f->(P.underlying f.type=some .bool\/∃k,P.underlying f.type=some (.int k))/\f.offset=i/\P.cellsOf f.type=1) (c:P.cellsOf e=s.size) (u:s.size=N)
  (hlen:∀x∈L,(f x).length=N) (F:∀x∈L,∀v∈f x,(∃b,v=.bool b)\/∃k n,v=.int k n):fF (r6 W) (λ_=>0) 0 (.lG (.agg ((L.flatMap f).map AV.sc))) (.pointer (some ⟨g,0,none⟩)):=by
 refine IW (λv a=>?_) λi v a=>?_
 ·obtain⟨x,w,y⟩:=Sl.1 a;rcases F x w v y with⟨b,rfl⟩|⟨k,n,rfl⟩<;>rfl
 ·obtain⟨g1,t1,cs,fuel,p,z,A,j,hd⟩:=laidMet.reads h hm;obtain rfl:=gh (hg.symm.trans z);obtain rfl:=gh (G.symm.trans A);rw[Oq E L hlen i] at a;cases m:L[i/N]?with
  |none=>rw[m] at a;cases a
  |some x=>
   rw[m] at a;have a:(f x)[i%N]?=some v:=a;have B:i/N<L.length:=(kj.1 m).1;have w:x∈L:=z6 m;obtain⟨C,d,q,o,D⟩:=array_elem hu hd (i/N) B;rw[tM,m] at o;obtain rfl:=gh o;have r:=Fo he H c (F x w) D;rw[c,u] at r;rw[<-r,Wv (aaC _ E),Js] at a;rw[World.var?_cell hg j i,<-Uy];rw[show i/N*N+i%N=i from Nat.div_add_mod' i N] at a;exact a
def MD{l:List (String×DataW Unit)}(h:laidMet P l W){name:String}{k:IntKind}{L:List Int}(hm:(name,(tabData k L:DataW Unit))∈l){g t e n:Nat}
  (hg:P.globalNamed name=some g) (o:(P.globals[g]?).map (·.type)=some t) (hu:P.underlying t=some (.array n e)) (he:P.underlying e=some (.int k)) (b:P.cellsOf e=1) (c:P.cellsOf t=n):fF (r6 W) (λ_=>0) 0 (.lG (.agg (L.map λn=>AV.sc (Value.int k n)))) (.pointer (some ⟨g,0,none⟩)):=by
 have:=IW (W:=W) (g:=g) (L:=L.map λz=>Value.int k z) (λv d=>by obtain⟨z,_,rfl⟩:=l8.1 d;rfl) λi v d=>by
  obtain⟨g1,t1,cs,fuel,p,f,j,a,hd⟩:=laidMet.reads h hm;obtain rfl:=gh (hg.symm.trans f);obtain rfl:=gh (o.symm.trans j);have m:=cells_of_tab hu he b c hd;rw[World.var?_cell hg a i,<-Uy,m];exact d
 rw[RE] at this;exact this
end
end Go.ke
