/- Part of the proof of SchemeComputes: layer. -/
import Derived.Lib.LaidU8
import Derived.Test.YtpgdkkomegalnaaGreatDoorCL21
set_option linter.all false
namespace Go.ld
open Go Go.ChangeShapes Go.WideShapes Go.ChangeAt Go.RowKit Go.Lib
def LA{F:kT}{G:Nat->Nat}{n:Nat}:∀(L:List Value),(∀v∈L,zs v=true)->hO F G n (L.map AV.sc) L
 |[],_=>.nil|v::L,h=>.cons (.sc (h v aaA)) (LA L λx a=>h x (by simp[a]))
def LC{W:World}{g:Nat}{L:List Value}(hs:∀v∈L,zs v=true)(h:∀(i:Nat) (v:Value),L[i]?=some v->W.cell? ⟨g,i,none⟩=some v):gR (uE W) (λ_=>0) 0 (.mA (.agg (L.map AV.sc))) (.pointer (some ⟨g,0,none⟩)):=by
 refine .mA (vs:=L) (LA L hs) (λi v a=>?_) λc b=>?_
 ·rw[Ax];exact IY (h i v a)
 ·obtain⟨v,_,rfl⟩:=qz.1 b;rfl
section
variable{H:Type} {enc:TypeId×Value->H} {P:Program} {W:World}
def WO:Value->DataW H
 |.bool b=>.lit (.bool b)|.int k n=>.lit (.int k n)|_=>.nil
def Kz{base:Nat}{sp:Nat->Bool}{held:Bool}{fuel:Nat}{t:TypeId}{fs:Array Field}{cs L:List Value}{p:List MemPlace}(w:P.underlying t=some (.struct fs))
  (x:∀(i:Nat) (f:Field),fs[i]?=some f->(P.underlying f.type=some .bool\/∃k,P.underlying f.type=some (.int k))/\f.offset=i/\P.cellsOf f.type=1) (y:P.cellsOf t=fs.size)
  (s:∀v∈L,(∃b,v=.bool b)\/∃k n,v=.int k n)
  (h:DataW.trod enc P W base sp held fuel t cs=some (.agg (L.map WO),p)):cs=L:=by
 obtain⟨xs,n,rfl,A,I,B,j⟩:=DataW.trod_struct w h
 have l:xs.map (·.1)=L.map (WO (H:=H)):=by
  have:=congrArg Prod.fst A;simpa using this.symm
 have C:L.length=fs.size:=by
  have:=congrArg List.length l;simp at this;omega
 apply YL;intro i
 by_cases hi:i<fs.size
 ·obtain⟨hu,D,F⟩:=x i fs[i] (by simp[hi]);have q:=j i fs[i] (by simp[hi]);obtain⟨b,u⟩:∃b,xs[i]?=some b:=⟨xs[i]' VW,po VW⟩;rw[u,D,F] at q
  have a:(xs.map (·.1))[i]?=some b.1:=by simp[u]
  rw[l,zl] at a;have o:L[i]?=some (L[i]' VW):=po VW;rw[o] at a;have a:WO (L[i]' VW)=b.1:=kX a
  have c:∀v,(cs.drop i).take 1=[v]->cs[i]?=some v:=λv G=>by
   have:=congrArg (·[0]?) G
   simpa[Sh,Xh] using this
  rw[o];rcases hu with hu|⟨k,hu⟩
  ·obtain⟨z,d,rfl⟩:=DataW.trod_bool hu q;rw[c _ d];rcases s _ (DL (by omega:i<L.length))with⟨r,e⟩|⟨k',n',e⟩
   ·rw[e] at a|-;have a:(DataW.lit (.bool r):DataW H)=.lit (.bool z):=a;cases a;rfl
   ·rw[e] at a;have a:(DataW.lit (.int k' n'):DataW H)=.lit (.bool z):=a;cases a
  ·obtain⟨z,d,rfl,_⟩:=DataW.trod_int hu q;rw[c _ d];rcases s _ (DL (by omega:i<L.length))with⟨r,e⟩|⟨k',n',e⟩
   ·rw[e] at a;have a:(DataW.lit (.bool r):DataW H)=.lit (.int k z):=a;cases a
   ·rw[e] at a|-;have a:(DataW.lit (.int k' n'):DataW H)=.lit (.int k z):=a;cases a;rfl
 ·rw[aeB VW,aeB VW]
def TH{α:Type}{f:α->List Value}{n:Nat}(hn:0<n):∀(l:List α),(∀x∈l,(f x).length=n)->∀i:Nat,(l.flatMap f)[i]?=l[i/n]?.bind λx=>(f x)[i%n]?
 |[],_,i=>by simp|a::l,h,i=>by
  rw[JU];have b:=h a aaA
  by_cases hi:i<n
  ·rw[vV VW,Nat.div_eq_of_lt hi,V' hi];simp
  ·rw[tQ VW,b,TH hn l (λx c=>h x (by simp[c])) (i-n)]
   have d:i/n=(i-n)/n+1:=by
    have:=Nat.div_eq_sub_div hn (by omega:n<=i);omega
   have j:i%n=(i-n)%n:=Nat.mod_eq_sub_mod VW;rw[d,j,rz]
def Yp{l:List (String×DataW Unit)}(h:laidMet P l W){α:Type}{name:String}{L:List α}{f:α->List Value}{N:Nat}(G:0<N)(hm:(name,DataW.agg (L.map λx=>.agg ((f x).map WO)))∈l){g t e:Nat}{fs:Array Field}
  (hg:P.globalNamed name=some g) (I:(P.globals[g]?).map (·.type)=some t) (hu:P.underlying t=some (.array L.length e)) (he:P.underlying e=some (.struct fs))
  (J:∀(i:Nat) (f:Field),fs[i]?=some f->(P.underlying f.type=some .bool\/∃k,P.underlying f.type=some (.int k))/\f.offset=i/\P.cellsOf f.type=1) (c:P.cellsOf e=fs.size) (u:fs.size=N)
  (hlen:∀x∈L,(f x).length=N) (H:∀x∈L,∀v∈f x,(∃b,v=.bool b)\/∃k n,v=.int k n):gR (uE W) (λ_=>0) 0 (.mA (.agg ((L.flatMap f).map AV.sc))) (.pointer (some ⟨g,0,none⟩)):=by
 refine LC (λv a=>?_) λi v a=>?_
 ·obtain⟨x,w,y⟩:=ab1.1 a;rcases H x w v y with⟨b,rfl⟩|⟨k,n,rfl⟩<;>rfl
 ·obtain⟨g1,t1,cs,fuel,p,A,B,j,K⟩:=laidMet.reads h hm;obtain rfl:=kX (hg.symm.trans A);obtain rfl:=kX (I.symm.trans B);rw[TH G L hlen i] at a;cases o:L[i/N]?with
  |none=>rw[o] at a;cases a
  |some x=>
   rw[o] at a;have a:(f x)[i%N]?=some v:=a;have C:i/N<L.length:=(s7.1 o).1;have w:x∈L:=H9 o;obtain⟨D,d,q,r,F⟩:=array_elem hu K (i/N) C;rw[zl,o] at r;obtain rfl:=kX r;have s:=Kz he J c (H x w) F;rw[c,u] at s;rw[<-s,ahK (abC _ G),Xh] at a;rw[World.var?_cell hg j i,<-ahi];rw[show i/N*N+i%N=i from Nat.div_add_mod' i N] at a;exact a
def Oy{l:List (String×DataW Unit)}(h:laidMet P l W){name:String}{k:IntKind}{L:List Int}(hm:(name,(tabData k L:DataW Unit))∈l){g t e n:Nat}
  (hg:P.globalNamed name=some g) (q:(P.globals[g]?).map (·.type)=some t) (hu:P.underlying t=some (.array n e)) (he:P.underlying e=some (.int k)) (b:P.cellsOf e=1) (c:P.cellsOf t=n):gR (uE W) (λ_=>0) 0 (.mA (.agg (L.map λn=>AV.sc (Value.int k n)))) (.pointer (some ⟨g,0,none⟩)):=by
 have:=LC (W:=W) (g:=g) (L:=L.map λz=>Value.int k z) (λv d=>by obtain⟨z,_,rfl⟩:=qz.1 d;rfl) λi v d=>by
  obtain⟨g1,t1,cs,fuel,p,f,j,a,r⟩:=laidMet.reads h hm;obtain rfl:=kX (hg.symm.trans f);obtain rfl:=kX (q.symm.trans j);have o:=cells_of_tab hu he b c r;rw[World.var?_cell hg a i,<-ahi,o];exact d
 rw[Bq] at this;exact this
end
end Go.ld
