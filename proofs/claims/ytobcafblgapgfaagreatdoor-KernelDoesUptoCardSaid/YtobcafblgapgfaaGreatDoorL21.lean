/- Part of the proof of KernelAccepts, KernelDoes: layer. -/
import Derived.Test.YtobcafblgapgfaaGreatDoorL20
set_option linter.all false
namespace Go.ke
open Go Go.ChangeShapes Go.WideShapes Go.ChangeAt Go.RowKit
abbrev Dl(W:World)(xs:List AV)(cs:List Value):Prop:=fq (r6 W) (λ_=>0) 0 xs cs
section
variable{H:Type} {enc:TypeId×Value->H} {P:Program} {W:World}
def CM{t fuel:Nat}{cs:List Value}{x:DataW H×List MemPlace}(a:P.underlying t=some (.int .i64))(h:DataW.trod enc P W 0 (λ_=>true) true fuel t cs=some x):∃k:Int,Dl W [.sc (.int .i64 k)] cs:=by
 obtain⟨n,rfl,_,_⟩:=DataW.trod_int a h;exact⟨n,.cons (.sc rfl) .nil⟩
def oC{xs a:List AV}{cs:List Value}{off n off':Nat}(h:off'=off+n)(h1:Dl W xs ((cs.drop off).take n))(c:Dl W a (cs.drop off')):Dl W (xs++a) (cs.drop off):=by
 subst h;have b:=h1.append c;rw[<-aai,Q6] at b;exact b
def FF{cs:List Value}{off:Nat}(h:cs.length<=off):Dl W [] (cs.drop off):=by rw[Da h];exact .nil
def RJ(a:Addr)(m n:Nat):(a.add m).add n=a.add (m+n):=by
 unfold Addr.add
 by_cases hm:m=0
 ·subst hm;simp
 ·by_cases hn:n=0
  ·subst hn;simp
  ·simp[hm,hn,MX]
def RR{a:Addr}{j:Nat}{v:Value}(h:W.cell? (a.add j)=some v):W.cell? ⟨a.block,a.off+j,none⟩=some v:=by
 unfold Addr.add at h
 split at h
 ·subst_vars
  unfold World.cell? at h|-
  split at h
  ·split at h
   ·cases h
   ·simp_all
  ·cases h
 ·exact h
def cell_spot{a:Addr}{v:Value}(h:W.cell? (a.add 0)=some v):a=⟨a.block,a.off,none⟩:=by
 unfold Addr.add at h;simp at h;unfold World.cell? at h
 split at h
 ·split at h
  ·cases h
  ·cases a with
   |mk b o s=>cases s<;>simp_all
 ·cases h
def xY{α:Type}(av:α->AV)(c:Nat){t e fuel:Nat}{cs:List Value}{x:DataW H×List MemPlace}(L:P.underlying t=some (.slice e))(M:P.cellsOf e=c)(w:0<c)(m:∀a,(av a).cells.length=c)(q:∀a,∀y∈(av a).cells,y.eD=true)
  (h:DataW.trod enc P W 0 (λ_=>true) true fuel t cs=some x)
  (he:∀d f N,d<fuel->DataW.trod enc P W 0 (λ_=>true) true d e f=some N->∃a:α,Dl W (av a).cells f):∃l:List α,Dl W [.slice .hY (l.map av)] cs:=by
 rcases DataW.trod_slice L h with⟨rfl,_⟩|⟨a,len,cap,elems,rest,n,rfl,rfl,_,_,O,hm,hlen,A,_,_⟩
 ·exact⟨[],.cons (fF.slice (l:=[]) (vs:=[]) (b:=0) (o:=0) (sz:=1) .nil (λi v h=>by simp at h) aa4 aa4 aa4 (ZN _) (ZN _) (.inl rfl)) .nil⟩
 ·have key:∀k,k<=len->∃(l:List α) (vs:List Value),l.length=k/\vs.length=k*c/\Dl W ((l.map av).flatMap AV.cells) vs/\(∀j v,vs[j]?=some v->W.cell? (a.add j)=some v):=by
   intro k
   induction k with
   |zero=>intro _;exact⟨[],[],rfl,aa4,.nil,λj v g=>by simp at g⟩
   |succ k Q=>
    intro U;obtain⟨l,vs,r,B,C,s⟩:=Q VW;have I:=A k VW;obtain⟨y,hy⟩:∃y,elems[k]?=some y:=⟨elems[k]' VW,oO _⟩;rw[hy] at I;obtain⟨f,D,E⟩:=Uw.1 I;obtain⟨z,R⟩:=he n f y VW E;obtain⟨_,J,c3⟩:=World.cells?_some D;rw[M] at J c3;refine⟨l++[z],vs++f,by simp[r],by rw[oJ,B,J,W_],?_,?_⟩
    ·simp only[Ah,wb,V2,WS,vP,RU,wT];exact C.append R
    ·intro j v g;rcases qu j vs.length with hj|hj
     ·rw[p4 hj] at g;exact s j v g
     ·rw[wc hj] at g
      have F:j-vs.length<c:=by
       have:=(kj.1 g).1;omega
      have K:=c3 _ F;rw[g,RJ,show k*c+(j-vs.length)=j by omega] at K;exact K
  obtain⟨l,vs,r,B,C,s⟩:=key len (gu _);refine⟨l,.cons ?_ .nil⟩;have p:=@fF.slice (r6 W) (λ_=>0) 0 .hY (l.map av) vs a.block a.off (some a) cap c C (λi v g=>A8 (RR (s i v g))) ?_ ?_ ?_ ?_ hm (.inl rfl)
  ·rw[AP,r] at p;exact p
  ·intro G
   have h1:0<len:=by
    rw[<-r];exact EX.2 (by simpa using G)
   have S:0<vs.length:=by
    rw[B];exact X3 h1 w
   have T:=s 0 _ (oO S);exact congrArg some (cell_spot T)
  ·intro y hy;obtain⟨z,_,rfl⟩:=l8.1 hy;exact m z
  ·intro y hy;obtain⟨u,hu,hy⟩:=Sl.1 hy;obtain⟨z,_,rfl⟩:=l8.1 hu;exact q z y hy
  ·rw[AP,r];exact O
def mV{k n:Nat}{a:Array Field}{f:Field}{i u off:Nat}{cs:List Value}{xs:List (DataW H×List MemPlace)}(b:xs.length=a.size)
  (e:∀(i:Nat) (f:Field),a[i]?=some f->DataW.trod enc P W 0 (λ_=>true) true n f.type ((cs.drop f.offset).take (P.cellsOf f.type))=xs[i]?)
  (hi:a[i]?=some f) (g:f.type=u) (h:f.offset=off) (j:P.cellsOf u=k):∃y,DataW.trod enc P W 0 (λ_=>true) true n u ((cs.drop off).take k)=some y:=by
 subst g h j;have d:=e i f hi
 have c:i<xs.length:=by rw[b];exact(MC.1 hi).1
 rw[oO c] at d;exact⟨_,d⟩
def TV{t:TypeId}{c:Array Field}{v:Value}{r:Reach}{d:Nat}(e:P.underlying t=some (.struct c))(a:Value.okWide P W r d t v){xs:List AV}(b:∀y∈xs,y.eD=true)(h:Dl W xs v.cells.toList):Dl W [.agg xs] [v]:=by
 simp only[Value.okWide,e] at a;obtain⟨cs,rfl,_,_⟩:=a;have p:=fF.agg h b;exact .cons p .nil
end
end Go.ke
