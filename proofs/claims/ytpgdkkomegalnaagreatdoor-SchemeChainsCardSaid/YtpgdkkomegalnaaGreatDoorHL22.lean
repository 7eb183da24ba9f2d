/- Part of the proof of SchemeChains: layer. -/
import Derived.Lib.LaidU8
import Derived.Test.YtpgdkkomegalnaaGreatDoorHL21
set_option linter.all false
namespace Go.lD
open Go Go.ChangeShapes Go.WideShapes Go.ChangeAt Go.RowKit Go.Lib
def Mn{F:la}{G:Nat->Nat}{n:Nat}:∀(L:List Value),(∀v∈L,yP v=true)->hO F G n (L.map AV.sc) L
 |[],_=>.nil|v::L,h=>.cons (.sc (h v abm)) (Mn L λx a=>h x (by simp[a]))
def M9{W:World}{g:Nat}{L:List Value}(hs:∀v∈L,yP v=true)(h:∀(i:Nat) (v:Value),L[i]?=some v->W.cell? ⟨g,i,none⟩=some v):gT (uH W) (λ_=>0) 0 (.mQ (.agg (L.map AV.sc))) (.pointer (some ⟨g,0,none⟩)):=by
 refine .mQ (vs:=L) (Mn L hs) (λi v a=>?_) λc b=>?_
 .rw[vo];exact JZ (h i v a)
 .obtain⟨v,_,rfl⟩:=ql.1 b;rfl
section
variable{H:Type} {enc:TypeId×Value->H} {P:Program} {W:World}
def ZQ:Value->DataW H
 |.bool b=>.lit (.bool b)|.int k n=>.lit (.int k n)|_=>.nil
def I7{base:Nat}{sp:Nat->Bool}{held:Bool}{fuel:Nat}{t:TypeId}{fs:Array Field}{cs L:List Value}{p:List MemPlace}(w:P.underlying t=some (.struct fs))
  (x:∀(i:Nat) (f:Field),fs[i]?=some f->(P.underlying f.type=some .bool\/∃k,P.underlying f.type=some (.int k))/\f.offset=i/\P.cellsOf f.type=1) (y:P.cellsOf t=fs.size)
  (s:∀v∈L,(∃b,v=.bool b)\/∃k n,v=.int k n)
  (h:DataW.trod enc P W base sp held fuel t cs=some (.agg (L.map ZQ),p)):cs=L:=by
 obtain⟨xs,n,rfl,A,I,B,j⟩:=DataW.trod_struct w h
 have l:xs.map (·.1)=L.map (ZQ (H:=H)):=by
  have:=congrArg Prod.fst A;simpa using this.symm
 have C:L.length=fs.size:=by
  have:=congrArg List.length l;simp at this;omega
 apply YU;intro i
 by_cases hi:i<fs.size
 .obtain⟨hu,D,F⟩:=x i fs[i] (by simp[hi]);have q:=j i fs[i] (by simp[hi]);obtain⟨b,u⟩:∃b,xs[i]?=some b:=⟨xs[i]' VW,pE VW⟩;rw[u,D,F] at q
  have a:(xs.map (·.1))[i]?=some b.1:=by simp[u]
  rw[l,y'] at a;have o:L[i]?=some (L[i]' VW):=pE VW;rw[o] at a;have a:ZQ (L[i]' VW)=b.1:=hU a
  have c:∀v,(cs.drop i).take 1=[v]->cs[i]?=some v:=λv G=>by
   have:=congrArg (·[0]?) G
   simpa[TC,Yy] using this
  rw[o];rcases hu with hu|⟨k,hu⟩
  .obtain⟨z,d,rfl⟩:=DataW.trod_bool hu q;rw[c _ d];rcases s _ (Ek (by omega:i<L.length))with⟨r,e⟩|⟨k',n',e⟩
   .rw[e] at a|-;have a:(DataW.lit (.bool r):DataW H)=.lit (.bool z):=a;cases a;rfl
   .rw[e] at a;have a:(DataW.lit (.int k' n'):DataW H)=.lit (.bool z):=a;cases a
  .obtain⟨z,d,rfl,_⟩:=DataW.trod_int hu q;rw[c _ d];rcases s _ (Ek (by omega:i<L.length))with⟨r,e⟩|⟨k',n',e⟩
   .rw[e] at a;have a:(DataW.lit (.bool r):DataW H)=.lit (.int k z):=a;cases a
   .rw[e] at a|-;have a:(DataW.lit (.int k' n'):DataW H)=.lit (.int k z):=a;cases a;rfl
 .rw[aie VW,aie VW]
def VS{α:Type}{f:α->List Value}{n:Nat}(hn:0<n):∀(l:List α),(∀x∈l,(f x).length=n)->∀i:Nat,(l.flatMap f)[i]?=l[i/n]?.bind λx=>(f x)[i%n]?
 |[],_,i=>by simp|a::l,h,i=>by
  rw[I3];have b:=h a abm
  by_cases hi:i<n
  .rw[uJ VW,Nat.div_eq_of_lt hi,afX hi];simp
  .rw[tS VW,b,VS hn l (λx c=>h x (by simp[c])) (i-n)]
   have d:i/n=(i-n)/n+1:=by
    have:=Nat.div_eq_sub_div hn (by omega:n<=i);omega
   have j:i%n=(i-n)%n:=Nat.mod_eq_sub_mod VW;rw[d,j,nJ]
def Z8{l:List (String×DataW Unit)}(h:laidMet P l W){α:Type}{name:String}{L:List α}{f:α->List Value}{N:Nat}(G:0<N)(hm:(name,DataW.agg (L.map λx=>.agg ((f x).map ZQ)))∈l){g t e:Nat}{fs:Array Field}
  (hg:P.globalNamed name=some g) (I:(P.globals[g]?).map (·.type)=some t) (hu:P.underlying t=some (.array L.length e)) (he:P.underlying e=some (.struct fs))
  (J:∀(i:Nat) (f:Field),fs[i]?=some f->(P.underlying f.type=some .bool\/∃k,P.underlying f.type=some (.int k))/\f.offset=i/\P.cellsOf f.type=1) (c:P.cellsOf e=fs.size) (u:fs.size=N)
  (hlen:∀x∈L,(f x).length=N) (H:∀x∈L,∀v∈f x,(∃b,v=.bool b)\/∃k n,v=.int k n):gT (uH W) (λ_=>0) 0 (.mQ (.agg ((L.flatMap f).map AV.sc))) (.pointer (some ⟨g,0,none⟩)):=by
 refine M9 (λv a=>?_) λi v a=>?_
 .obtain⟨x,w,y⟩:=adA.1 a;rcases H x w v y with⟨b,rfl⟩|⟨k,n,rfl⟩<;>rfl
 .obtain⟨g1,t1,cs,fuel,p,A,B,j,K⟩:=laidMet.reads h hm;obtain rfl:=hU (hg.symm.trans A);obtain rfl:=hU (I.symm.trans B);rw[VS G L hlen i] at a;cases o:L[i/N]?with
  |none=>rw[o] at a;cases a
  |some x=>
   rw[o] at a;have a:(f x)[i%N]?=some v:=a;have C:i/N<L.length:=(ru.1 o).1;have w:x∈L:=HP o;obtain⟨D,d,q,r,F⟩:=array_elem hu K (i/N) C;rw[y',o] at r;obtain rfl:=hU r;have s:=I7 he J c (H x w) F;rw[c,u] at s;rw[<-s,akY (acE _ G),Yy] at a;rw[World.var?_cell hg j i,<-akQ];rw[show i/N*N+i%N=i from Nat.div_add_mod' i N] at a;exact a
def QP{l:List (String×DataW Unit)}(h:laidMet P l W){name:String}{k:IntKind}{L:List Int}(hm:(name,(tabData k L:DataW Unit))∈l){g t e n:Nat}
  (hg:P.globalNamed name=some g) (q:(P.globals[g]?).map (·.type)=some t) (hu:P.underlying t=some (.array n e)) (he:P.underlying e=some (.int k)) (b:P.cellsOf e=1) (c:P.cellsOf t=n):gT (uH W) (λ_=>0) 0 (.mQ (.agg (L.map λn=>AV.sc (Value.int k n)))) (.pointer (some ⟨g,0,none⟩)):=by
 have:=M9 (W:=W) (g:=g) (L:=L.map λz=>Value.int k z) (λv d=>by obtain⟨z,_,rfl⟩:=ql.1 d;rfl) λi v d=>by
  obtain⟨g1,t1,cs,fuel,p,f,j,a,r⟩:=laidMet.reads h hm;obtain rfl:=hU (hg.symm.trans f);obtain rfl:=hU (q.symm.trans j);have o:=cells_of_tab hu he b c r;rw[World.var?_cell hg a i,<-akQ,o];exact d
 rw[F6] at this;exact this
end
end Go.lD
