/- Part of the proof of KernelRefuses: layer. -/
import Derived.Lib.LaidU8
import Derived.Test.YtobcafblgapgfaaGreatDoorL16
set_option linter.all false
namespace Go.nd
open Go Go.ChangeShapes Go.WideShapes Go.ChangeAt Go.RowKit Go.Lib
def JC{F:lN}{G:Nat->Nat}{n:Nat}:∀(L:List Value),(∀v∈L,AK v=true)->hV F G n (L.map AV.sc) L
 |[],_=>.nil|v::L,h=>.cons (.sc (h v (by simp))) (JC L λx a=>h x (by simp[a]))
def JU{W:World}{g:Nat}{L:List Value}(hs:∀v∈L,AK v=true)(h:∀(i:Nat) (v:Value),L[i]?=some v->W.cell? ⟨g,i,none⟩=some v):ic (uh W) (λ_=>0) 0 (.nr (.agg (L.map AV.sc))) (.pointer (some ⟨g,0,none⟩)):=by
 refine .nr (vs:=L) (JC L hs) (λi v a=>?_) λc b=>?_
 ·rw[vl];exact Gb (h i v a)
 ·obtain⟨v,_,rfl⟩:=oi.1 b;rfl
section
variable{H:Type} {enc:TypeId×Value->H} {P:Program} {W:World}
def SB:Value->DataW H
 |.bool b=>.lit (.bool b)|.int k n=>.lit (.int k n)|_=>.nil
def HA{base:Nat}{sp:Nat->Bool}{held:Bool}{fuel:Nat}{t:TypeId}{fs:Array Field}{cs L:List Value}{p:List MemPlace}(s:P.underlying t=some (.struct fs))
  (u:∀(i:Nat) (f:Field),fs[i]?=some f->(P.underlying f.type=some .bool\/∃k,P.underlying f.type=some (.int k))/\f.offset=i/\P.cellsOf f.type=1) (w:P.cellsOf t=fs.size)
  (q:∀v∈L,(∃b,v=.bool b)\/∃k n,v=.int k n)
  (h:DataW.trod enc P W base sp held fuel t cs=some (.agg (L.map SB),p)):cs=L:=by
 obtain⟨xs,n,rfl,x,E,y,g⟩:=DataW.trod_struct s h
 have j:xs.map (·.1)=L.map (SB (H:=H)):=by
  have:=congrArg Prod.fst x;simpa using this.symm
 have A:L.length=fs.size:=by
  have:=congrArg List.length j;simp at this;omega
 apply OC;intro i
 by_cases hi:i<fs.size
 ·obtain⟨hu,B,C⟩:=u i fs[i] (by simp[hi]);have m:=g i fs[i] (by simp[hi]);obtain⟨b,r⟩:∃b,xs[i]?=some b:=⟨xs[i]'(by omega),oG (by omega)⟩;rw[r,B,C] at m
  have a:(xs.map (·.1))[i]?=some b.1:=by simp[r]
  rw[j,tN] at a;have l:L[i]?=some (L[i]'(by omega)):=oG (by omega);rw[l] at a;have a:SB (L[i]'(by omega))=b.1:=iD a
  have c:∀v,(cs.drop i).take 1=[v]->cs[i]?=some v:=λv D=>by
   have:=congrArg (·[0]?) D
   simpa[Iy,Xr] using this
  rw[l];rcases hu with hu|⟨k,hu⟩
  ·obtain⟨z,d,rfl⟩:=DataW.trod_bool hu m;rw[c _ d];rcases q _ (Cl (by omega:i<L.length))with⟨o,e⟩|⟨k',n',e⟩
   ·rw[e] at a|-;have a:(DataW.lit (.bool o):DataW H)=.lit (.bool z):=a;cases a;rfl
   ·rw[e] at a;have a:(DataW.lit (.int k' n'):DataW H)=.lit (.bool z):=a;cases a
  ·obtain⟨z,d,rfl,_⟩:=DataW.trod_int hu m;rw[c _ d];rcases q _ (Cl (by omega:i<L.length))with⟨o,e⟩|⟨k',n',e⟩
   ·rw[e] at a;have a:(DataW.lit (.bool o):DataW H)=.lit (.int k z):=a;cases a
   ·rw[e] at a|-;have a:(DataW.lit (.int k' n'):DataW H)=.lit (.int k z):=a;cases a;rfl
 ·rw[X2 (by omega),X2 (by omega)]
def Pl{α:Type}{f:α->List Value}{n:Nat}(hn:0<n):∀(l:List α),(∀x∈l,(f x).length=n)->∀i:Nat,(l.flatMap f)[i]?=l[i/n]?.bind λx=>(f x)[i%n]?
 |[],_,i=>by simp|a::l,h,i=>by
  rw[BC];have b:=h a (by simp)
  by_cases hi:i<n
  ·rw[r_ (by omega),Nat.div_eq_of_lt hi,S9 hi];simp
  ·rw[uo (by omega),b,Pl hn l (λx c=>h x (by simp[c])) (i-n)]
   have d:i/n=(i-n)/n+1:=by
    have:=Nat.div_eq_sub_div hn (by omega:n<=i);omega
   have e:i%n=(i-n)%n:=Nat.mod_eq_sub_mod (by omega);rw[d,e,mT]
def Sk{l:List (String×DataW Unit)}(h:laidMet P l W){α:Type}{name:String}{L:List α}{f:α->List Value}{N:Nat}(D:0<N)(hm:(name,DataW.agg (L.map λx=>.agg ((f x).map SB)))∈l){g t e:Nat}{fs:Array Field}
  (hg:P.globalNamed name=some g) (F:(P.globals[g]?).map (·.type)=some t) (hu:P.underlying t=some (.array L.length e)) (he:P.underlying e=some (.struct fs))
  (G:∀(i:Nat) (f:Field),fs[i]?=some f->(P.underlying f.type=some .bool\/∃k,P.underlying f.type=some (.int k))/\f.offset=i/\P.cellsOf f.type=1) (c:P.cellsOf e=fs.size) (s:fs.size=N)
  (hlen:∀x∈L,(f x).length=N) (E:∀x∈L,∀v∈f x,(∃b,v=.bool b)\/∃k n,v=.int k n):ic (uh W) (λ_=>0) 0 (.nr (.agg ((L.flatMap f).map AV.sc))) (.pointer (some ⟨g,0,none⟩)):=by
 refine JU (λv a=>?_) λi v a=>?_
 ·obtain⟨x,u,w⟩:=Qi.1 a;rcases E x u v w with⟨b,rfl⟩|⟨k,n,rfl⟩<;>rfl
 ·obtain⟨g1,t1,cs,fuel,p,y,z,j,H⟩:=laidMet.reads h hm;obtain rfl:=iD (hg.symm.trans y);obtain rfl:=iD (F.symm.trans z);rw[Pl D L hlen i] at a;cases m:L[i/N]?with
  |none=>rw[m] at a;cases a
  |some x=>
   rw[m] at a;have a:(f x)[i%N]?=some v:=a;have A:i/N<L.length:=(pK.1 m).1;have u:x∈L:=CH m;obtain⟨B,d,q,o,C⟩:=array_elem hu H (i/N) A;rw[tN,m] at o;obtain rfl:=iD o;have r:=HA he G c (E x u) C;rw[c,s] at r;rw[<-r,T' (Rw _ D),Xr] at a;rw[World.var?_cell hg j i,<-ZB];rw[show i/N*N+i%N=i from Nat.div_add_mod' i N] at a;exact a
def LY{l:List (String×DataW Unit)}(h:laidMet P l W){name:String}{k:IntKind}{L:List Int}(hm:(name,(tabData k L:DataW Unit))∈l){g t e n:Nat}
  (hg:P.globalNamed name=some g) (o:(P.globals[g]?).map (·.type)=some t) (hu:P.underlying t=some (.array n e)) (he:P.underlying e=some (.int k)) (b:P.cellsOf e=1) (c:P.cellsOf t=n):ic (uh W) (λ_=>0) 0 (.nr (.agg (L.map λn=>AV.sc (Value.int k n)))) (.pointer (some ⟨g,0,none⟩)):=by
 have:=JU (W:=W) (g:=g) (L:=L.map λz=>Value.int k z) (λv d=>by obtain⟨z,_,rfl⟩:=oi.1 d;rfl) λi v d=>by
  obtain⟨g1,t1,cs,fuel,p,f,j,a,q⟩:=laidMet.reads h hm;obtain rfl:=iD (hg.symm.trans f);obtain rfl:=iD (o.symm.trans j);have m:=cells_of_tab hu he b c q;rw[World.var?_cell hg a i,<-ZB,m];exact d
 rw[Fs] at this;exact this
end
end Go.nd
