/- Part of the proof of UniformExact, UniformAccepted: layer. -/
import Derived.Test.YtijednbpbbddbaaGreatDoorL20
set_option linter.all false
namespace Go.ns
open Go Go.ChangeShapes Go.WideShapes Go.ChangeAt Go.RowKit
abbrev FD(W:World)(xs:List AV)(cs:List Value):Prop:=iI (vV W) (λ_=>0) 0 xs cs
section
variable{H:Type} {enc:TypeId×Value->H} {P:Program} {W:World}
def Cz{t fuel:Nat}{cs:List Value}{x:DataW H×List MemPlace}(a:P.underlying t=some (.int .i64))(h:DataW.trod enc P W 0 (λ_=>true) true fuel t cs=some x):∃k:Int,FD W [.sc (.int .i64 k)] cs:=by
 obtain⟨n,rfl,_,_⟩:=DataW.trod_int a h;exact⟨n,.cons (.sc rfl) .nil⟩
def lN{xs a:List AV}{cs:List Value}{off n off':Nat}(h:off'=off+n)(c:FD W xs ((cs.drop off).take n))(d:FD W a (cs.drop off')):FD W (xs++a) (cs.drop off):=by
 subst h;have b:=c.append d;rw[<-List.drop_drop,adD] at b;exact b
def Fx{cs:List Value}{off:Nat}(h:cs.length<=off):FD W [] (cs.drop off):=by rw[H9 h];exact .nil
def WV(a:Addr)(m n:Nat):(a.add m).add n=a.add (m+n):=by
 unfold Addr.add
 by_cases hm:m=0
 ·subst hm;simp
 ·by_cases hn:n=0
  ·subst hn;simp
  ·simp[hm,hn,Nf]
def VQ{a:Addr}{j:Nat}{v:Value}(h:W.cell? (a.add j)=some v):W.cell? ⟨a.block,a.off+j,none⟩=some v:=by
 unfold Addr.add at h
 split at h
 ·subst_vars
  unfold World.cell? at h|-
  split at h
  ·split at h
   ·cases h
   ·simp_all
  ·cases h
 ·exact h
def cell_spot{a:Addr}{v:Value}(h:W.cell? (a.add 0)=some v):a=⟨a.block,a.off,none⟩:=by
 unfold Addr.add at h;simp at h;unfold World.cell? at h
 split at h
 ·split at h
  ·cases h
  ·cases a with
   |mk b o s=>cases s<;>simp_all
 ·cases h
def qV{α:Type}(av:α->AV)(c:Nat){t e fuel:Nat}{cs:List Value}{x:DataW H×List MemPlace}(L:P.underlying t=some (.slice e))(M:P.cellsOf e=c)(w:0<c)(m:∀a,(av a).cells.length=c)(q:∀a,∀y∈(av a).cells,y.gw=true)
  (h:DataW.trod enc P W 0 (λ_=>true) true fuel t cs=some x)
  (he:∀d f N,d<fuel->DataW.trod enc P W 0 (λ_=>true) true d e f=some N->∃a:α,FD W (av a).cells f):∃l:List α,FD W [.slice .jU (l.map av)] cs:=by
 rcases DataW.trod_slice L h with⟨rfl,_⟩|⟨a,len,cap,elems,rest,n,rfl,rfl,_,_,O,hm,hlen,A,_,_⟩
 ·exact⟨[],.cons (ic.slice (l:=[]) (vs:=[]) (b:=0) (o:=0) (sz:=1) .nil (λi v h=>by simp at h) aaB aaB aaB (XC _) (XC _) (.inl rfl)) .nil⟩
 ·have key:∀k,k<=len->∃(l:List α) (vs:List Value),l.length=k/\vs.length=k*c/\FD W ((l.map av).flatMap AV.cells) vs/\(∀j v,vs[j]?=some v->W.cell? (a.add j)=some v):=by
   intro k
   induction k with
   |zero=>intro _;exact⟨[],[],rfl,aaB,.nil,λj v g=>by simp at g⟩
   |succ k Q=>
    intro V;obtain⟨l,vs,r,B,C,s⟩:=Q VW;have I:=A k VW;obtain⟨y,hy⟩:∃y,elems[k]?=some y:=⟨elems[k]' VW,nw _⟩;rw[hy] at I;obtain⟨f,D,E⟩:=Yd.1 I;obtain⟨z,R⟩:=he n f y VW E;obtain⟨_,J,c3⟩:=World.cells?_some D;rw[M] at J c3;refine⟨l++[z],vs++f,by simp[r],by rw[qI,B,J,SU],?_,?_⟩
    ·simp only[V1,y5,Em,U',Es,List.flatMap_nil,zk];exact C.append R
    ·intro j v g;rcases tv j vs.length with hj|hj
     ·rw[s_ hj] at g;exact s j v g
     ·rw[xj hj] at g
      have F:j-vs.length<c:=by
       have:=(qb.1 g).1;omega
      have K:=c3 _ F;rw[g,WV,show k*c+(j-vs.length)=j by omega] at K;exact K
  obtain⟨l,vs,r,B,C,s⟩:=key len (ig _);refine⟨l,.cons ?_ .nil⟩;have p:=@ic.slice (vV W) (λ_=>0) 0 .jU (l.map av) vs a.block a.off (some a) cap c C (λi v g=>GP (VQ (s i v g))) ?_ ?_ ?_ ?_ hm (.inl rfl)
  ·rw[Eb,r] at p;exact p
  ·intro G
   have S:0<len:=by
    rw[<-r];exact T7.2 (by simpa using G)
   have T:0<vs.length:=by
    rw[B];exact Nat.mul_pos S w
   have U:=s 0 _ (nw T);exact congrArg some (cell_spot U)
  ·intro y hy;obtain⟨z,_,rfl⟩:=nU.1 hy;exact m z
  ·intro y hy;obtain⟨u,hu,hy⟩:=WL.1 hy;obtain⟨z,_,rfl⟩:=nU.1 hu;exact q z y hy
  ·rw[Eb,r];exact O
def kN{k n:Nat}{a:Array Field}{f:Field}{i u off:Nat}{cs:List Value}{xs:List (DataW H×List MemPlace)}(b:xs.length=a.size)
  (e:∀(i:Nat) (f:Field),a[i]?=some f->DataW.trod enc P W 0 (λ_=>true) true n f.type ((cs.drop f.offset).take (P.cellsOf f.type))=xs[i]?)
  (hi:a[i]?=some f) (g:f.type=u) (h:f.offset=off) (j:P.cellsOf u=k):∃y,DataW.trod enc P W 0 (λ_=>true) true n u ((cs.drop off).take k)=some y:=by
 subst g h j;have d:=e i f hi
 have c:i<xs.length:=by rw[b];exact(QW.1 hi).1
 rw[nw c] at d;exact⟨_,d⟩
def PD{t:TypeId}{c:Array Field}{v:Value}{r:Reach}{d:Nat}(e:P.underlying t=some (.struct c))(a:Value.okWide P W r d t v){xs:List AV}(b:∀y∈xs,y.gw=true)(h:FD W xs v.cells.toList):FD W [.agg xs] [v]:=by
 simp only[Value.okWide,e] at a;obtain⟨cs,rfl,_,_⟩:=a;have p:=ic.agg h b;exact .cons p .nil
end
end Go.ns
