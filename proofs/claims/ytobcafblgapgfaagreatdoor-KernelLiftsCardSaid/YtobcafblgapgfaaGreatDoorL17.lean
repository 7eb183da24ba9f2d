/- Part of the proof of KernelLifts, KernelPuts, KernelCuts: layer. -/
import Derived.Lib.LaidU8
import Derived.Test.YtobcafblgapgfaaGreatDoorL16
set_option linter.all false
namespace Go.tq
open Go Go.ChangeShapes Go.WideShapes Go.ChangeAt Go.RowKit Go.Lib
def Rg{F:rv}{G:Nat->Nat}{n:Nat}:∀(L:List Value),(∀v∈L,J_ v=true)->kR F G n (L.map AV.sc) L
 |[],_=>.nil|v::L,h=>.cons (.sc (h v aae)) (Rg L λx a=>h x (by simp[a]))
def Q7{W:World}{g:Nat}{L:List Value}(hs:∀v∈L,J_ v=true)(h:∀(i:Nat) (v:Value),L[i]?=some v->W.cell? ⟨g,i,none⟩=some v):k5 (Ba W) (λ_=>0) 0 (.tB (.agg (L.map AV.sc))) (.pointer (some ⟨g,0,none⟩)):=by
 refine .tB (vs:=L) (Rg L hs) (λi v a=>?_) λc b=>?_
 ·rw[sZ];exact P8 (h i v a)
 ·obtain⟨v,_,rfl⟩:=nj.1 b;rfl
section
variable{H:Type} {enc:TypeId×Value->H} {P:Program} {W:World}
def UJ:Value->DataW H
 |.bool b=>.lit (.bool b)|.int k n=>.lit (.int k n)|_=>.nil
def Pe{base:Nat}{sp:Nat->Bool}{held:Bool}{fuel:Nat}{t:TypeId}{fs:Array Field}{cs L:List Value}{p:List MemPlace}(s:P.underlying t=some (.struct fs))
  (u:∀(i:Nat) (f:Field),fs[i]?=some f->(P.underlying f.type=some .bool\/∃k,P.underlying f.type=some (.int k))/\f.offset=i/\P.cellsOf f.type=1) (w:P.cellsOf t=fs.size)
  (q:∀v∈L,(∃b,v=.bool b)\/∃k n,v=.int k n)
  (h:DataW.trod enc P W base sp held fuel t cs=some (.agg (L.map UJ),p)):cs=L:=by
 obtain⟨xs,n,rfl,x,E,y,g⟩:=DataW.trod_struct s h
 have j:xs.map (·.1)=L.map (UJ (H:=H)):=by
  have:=congrArg Prod.fst x;simpa using this.symm
 have A:L.length=fs.size:=by
  have:=congrArg List.length j;simp at this;omega
 apply WV;intro i
 by_cases hi:i<fs.size
 ·obtain⟨hu,B,C⟩:=u i fs[i] (by simp[hi]);have m:=g i fs[i] (by simp[hi]);obtain⟨b,r⟩:∃b,xs[i]?=some b:=⟨xs[i]' Zb,mr Zb⟩;rw[r,B,C] at m
  have a:(xs.map (·.1))[i]?=some b.1:=by simp[r]
  rw[j,x_] at a;have l:L[i]?=some (L[i]' Zb):=mr Zb;rw[l] at a;have a:UJ (L[i]' Zb)=b.1:=hZ a
  have c:∀v,(cs.drop i).take 1=[v]->cs[i]?=some v:=λv D=>by
   have:=congrArg (·[0]?) D
   simpa[VG,WL] using this
  rw[l];rcases hu with hu|⟨k,hu⟩
  ·obtain⟨z,d,rfl⟩:=DataW.trod_bool hu m;rw[c _ d];rcases q _ (zf (by omega:i<L.length))with⟨o,e⟩|⟨k',n',e⟩
   ·rw[e] at a|-;have a:(DataW.lit (.bool o):DataW H)=.lit (.bool z):=a;cases a;rfl
   ·rw[e] at a;have a:(DataW.lit (.int k' n'):DataW H)=.lit (.bool z):=a;cases a
  ·obtain⟨z,d,rfl,_⟩:=DataW.trod_int hu m;rw[c _ d];rcases q _ (zf (by omega:i<L.length))with⟨o,e⟩|⟨k',n',e⟩
   ·rw[e] at a;have a:(DataW.lit (.bool o):DataW H)=.lit (.int k z):=a;cases a
   ·rw[e] at a|-;have a:(DataW.lit (.int k' n'):DataW H)=.lit (.int k z):=a;cases a;rfl
 ·rw[YR Zb,YR Zb]
def Vg{α:Type}{f:α->List Value}{n:Nat}(hn:0<n):∀(l:List α),(∀x∈l,(f x).length=n)->∀i:Nat,(l.flatMap f)[i]?=l[i/n]?.bind λx=>(f x)[i%n]?
 |[],_,i=>by simp|a::l,h,i=>by
  rw[P_];have b:=h a aae
  by_cases hi:i<n
  ·rw[uj Zb,Nat.div_eq_of_lt hi,ML hi];simp
  ·rw[xo Zb,b,Vg hn l (λx c=>h x (by simp[c])) (i-n)]
   have d:i/n=(i-n)/n+1:=by
    have:=Nat.div_eq_sub_div hn (by omega:n<=i);omega
   have e:i%n=(i-n)%n:=Nat.mod_eq_sub_mod Zb;rw[d,e,iU]
def Ph{l:List (String×DataW Unit)}(h:laidMet P l W){α:Type}{name:String}{L:List α}{f:α->List Value}{N:Nat}(D:0<N)(hm:(name,DataW.agg (L.map λx=>.agg ((f x).map UJ)))∈l){g t e:Nat}{fs:Array Field}
  (hg:P.globalNamed name=some g) (F:(P.globals[g]?).map (·.type)=some t) (hu:P.underlying t=some (.array L.length e)) (he:P.underlying e=some (.struct fs))
  (G:∀(i:Nat) (f:Field),fs[i]?=some f->(P.underlying f.type=some .bool\/∃k,P.underlying f.type=some (.int k))/\f.offset=i/\P.cellsOf f.type=1) (c:P.cellsOf e=fs.size) (s:fs.size=N)
  (hlen:∀x∈L,(f x).length=N) (E:∀x∈L,∀v∈f x,(∃b,v=.bool b)\/∃k n,v=.int k n):k5 (Ba W) (λ_=>0) 0 (.tB (.agg ((L.flatMap f).map AV.sc))) (.pointer (some ⟨g,0,none⟩)):=by
 refine Q7 (λv a=>?_) λi v a=>?_
 ·obtain⟨x,u,w⟩:=YD.1 a;rcases E x u v w with⟨b,rfl⟩|⟨k,n,rfl⟩<;>rfl
 ·obtain⟨g1,t1,cs,fuel,p,y,z,j,H⟩:=laidMet.reads h hm;obtain rfl:=hZ (hg.symm.trans y);obtain rfl:=hZ (F.symm.trans z);rw[Vg D L hlen i] at a;cases m:L[i/N]?with
  |none=>rw[m] at a;cases a
  |some x=>
   rw[m] at a;have a:(f x)[i%N]?=some v:=a;have A:i/N<L.length:=(qR.1 m).1;have u:x∈L:=AY m;obtain⟨B,d,q,o,C⟩:=array_elem hu H (i/N) A;rw[x_,m] at o;obtain rfl:=hZ o;have r:=Pe he G c (E x u) C;rw[c,s] at r;rw[<-r,ab2 (Vx _ D),WL] at a;rw[World.var?_cell hg j i,<-adF];rw[show i/N*N+i%N=i from Nat.div_add_mod' i N] at a;exact a
def He{l:List (String×DataW Unit)}(h:laidMet P l W){name:String}{k:IntKind}{L:List Int}(hm:(name,(tabData k L:DataW Unit))∈l){g t e n:Nat}
  (hg:P.globalNamed name=some g) (o:(P.globals[g]?).map (·.type)=some t) (hu:P.underlying t=some (.array n e)) (he:P.underlying e=some (.int k)) (b:P.cellsOf e=1) (c:P.cellsOf t=n):k5 (Ba W) (λ_=>0) 0 (.tB (.agg (L.map λn=>AV.sc (Value.int k n)))) (.pointer (some ⟨g,0,none⟩)):=by
 have:=Q7 (W:=W) (g:=g) (L:=L.map λz=>Value.int k z) (λv d=>by obtain⟨z,_,rfl⟩:=nj.1 d;rfl) λi v d=>by
  obtain⟨g1,t1,cs,fuel,p,f,j,a,q⟩:=laidMet.reads h hm;obtain rfl:=hZ (hg.symm.trans f);obtain rfl:=hZ (o.symm.trans j);have m:=cells_of_tab hu he b c q;rw[World.var?_cell hg a i,<-adF,m];exact d
 rw[wR] at this;exact this
end
end Go.tq
