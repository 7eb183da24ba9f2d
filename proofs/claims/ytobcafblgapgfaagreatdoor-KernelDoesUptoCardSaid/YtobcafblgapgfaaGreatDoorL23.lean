/- Part of the proof of KernelAccepts, KernelDoes: layer. -/
import Derived.Test.YtobcafblgapgfaaGreatDoorL22
set_option linter.all false
namespace Go.ke
open Go Go.ChangeShapes Go.WideShapes Go.ChangeAt Go.RowKit
section
variable{H:Type} {enc:TypeId×Value->H} {P:Program} {W:World}
def ac8{α:Type}(av:α->AV)(R:α->DataW H->Prop)(c:Nat){t e fuel:Nat}{cs:List Value}{x:DataW H×List MemPlace}(U:P.underlying t=some (.slice e))(V:P.cellsOf e=c)(D:0<c)(q:∀a,(av a).cells.length=c)(A:∀a,∀y∈(av a).cells,y.eD=true)
  (h:DataW.trod enc P W 0 (λ_=>true) true fuel t cs=some x)
  (he:∀f g O,f<fuel->DataW.trod enc P W 0 (λ_=>true) true f e g=some O->∃a:α,Dl W (av a).cells g/\R a O.1):∃l:List α,Dl W [.slice .hY (l.map av)] cs/\(l=[]\/∃(es rs:List (DataW H)),x.1=.slice es rs/\es.length=l.length/\∀(i:Nat) (a:α) (d:DataW H),l[i]?=some a->es[i]?=some d->R a d):=by
 rcases DataW.trod_slice U h with⟨rfl,_⟩|⟨a,len,cap,elems,rest,n,rfl,rfl,rfl,_,X,hm,hlen,E,_,_⟩
 ·exact⟨[],.cons (fF.slice (l:=[]) (vs:=[]) (b:=0) (o:=0) (sz:=1) .nil (λi v h=>by simp at h) aa4 aa4 aa4 (ZN _) (ZN _) (.inl rfl)) .nil,.inl rfl⟩
 ·have key:∀k,k<=len->∃(l:List α) (vs:List Value),l.length=k/\vs.length=k*c/\Dl W ((l.map av).flatMap AV.cells) vs/\(∀j v,vs[j]?=some v->W.cell? (a.add j)=some v)/\∀(i:Nat) (z:α) (y:DataW H×List MemPlace),l[i]?=some z->elems[i]?=some y->R z y.1:=by
   intro k
   induction k with
   |zero=>intro _;exact⟨[],[],rfl,aa4,.nil,λj v m=>by simp at m,λi z y hi=>by simp at hi⟩
   |succ k Y=>
    intro hk;obtain⟨l,vs,r,F,G,B,I⟩:=Y VW;have Q:=E k VW;obtain⟨y,hy⟩:∃y,elems[k]?=some y:=⟨elems[k]' VW,oO _⟩;rw[hy] at Q;obtain⟨g,J,K⟩:=Uw.1 Q;obtain⟨z,Z,L⟩:=he n g y VW K;obtain⟨_,S,c3⟩:=World.cells?_some J;rw[V] at S c3;refine⟨l++[z],vs++g,by simp[r],by rw[oJ,F,S,W_],?_,?_,?_⟩
    ·simp only[Ah,wb,V2,WS,vP,RU,wT];exact G.append Z
    ·intro j v m;rcases qu j vs.length with hj|hj
     ·rw[p4 hj] at m;exact B j v m
     ·rw[wc hj] at m
      have s:j-vs.length<c:=by
       have:=(kj.1 m).1;omega
      have T:=c3 _ s;rw[m,RJ,show k*c+(j-vs.length)=j by omega] at T;exact T
    ·intro i z' y' hi w;rcases qu i l.length with s|hge
     ·rw[p4 s] at hi;exact I i z' y' hi w
     ·rw[wc hge] at hi
      have M:i=k:=by
       have:=(kj.1 hi).1;simp at this;omega
      subst M;rw[r,SZ] at hi;cases hi;rw[hy] at w;cases w;exact L
  obtain⟨l,vs,r,F,G,B,I⟩:=key len (gu _)
  refine⟨l,.cons ?_ .nil,.inr ⟨_,_,rfl,by rw[AP,hlen,r],λi a d h1 C=>by
   rw[tM] at C;obtain⟨y,hy,rfl⟩:=Um.1 C
   exact I i a y h1 hy⟩⟩
  have p:=@fF.slice (r6 W) (λ_=>0) 0 .hY (l.map av) vs a.block a.off (some a) cap c G (λi v m=>A8 (RR (B i v m))) ?_ ?_ ?_ ?_ hm (.inl rfl)
  ·rw[AP,r] at p;exact p
  ·intro N
   have h1:0<len:=by
    rw[<-r];exact EX.2 (by simpa using N)
   have C:0<vs.length:=by
    rw[F];exact X3 h1 D
   have h3:=B 0 _ (oO C);exact congrArg some (cell_spot h3)
  ·intro y hy;obtain⟨z,_,rfl⟩:=l8.1 hy;exact q z
  ·intro y hy;obtain⟨u,hu,hy⟩:=Sl.1 hy;obtain⟨z,_,rfl⟩:=l8.1 hu;exact A z y hy
  ·rw[AP,r];exact X
end
end Go.ke
