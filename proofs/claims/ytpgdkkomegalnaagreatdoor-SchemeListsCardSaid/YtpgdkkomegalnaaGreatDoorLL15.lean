/- Part of the proof of SchemeLists: layer. -/
import Derived.Test.YtpgdkkomegalnaaGreatDoorLL14
set_option linter.all false
namespace Go.kY
open Go Go.fD
section
variable{K:Fr->dY->Prop} {fr:Fr} {H:dY} {α:Type} {f:α->AV} {i o:Nat} {seen:List Nat} {d:Option Nat}
def QN(l:List (Int×α))(hi:H[i]?=some [.mw o l.length seen])(n:H[o]?=some [tL f l])
  (q:(∀j,j<l.length->j∈seen)->K (fr.put d (.tuple [.sc (.bool false)])) H)
  (r:∀j p,l[j]?=some p->j∉seen->K (fr.put d (.tuple [.sc (.bool true),.sc (.int .i64 p.1),f p.2])) (gk H i [.mw o l.length (seen++[j])])):LJ (.fb i 0) d K fr H:=by
 unfold LJ;simp only[hi,n,tL];refine⟨aa2,?_,λh=>q (by simpa using h),?_⟩
 ·rw[k_];intro x s;obtain⟨p,_,rfl⟩:=qp.1 s;rfl
 ·intro j k v a b t;rw[yZ] at a b;cases c:l[j]?with
  |none=>rw[c] at a;cases a
  |some p=>
   rw[c] at a b;simp only[aaD,B9] at a b;subst a;subst b;exact r j p c t
def OG(l:List (Int×α)){j:Nat}{p:Int×α}(hi:H[i]?=some [.mw o l.length (seen++[j])])(a:H[o]?=some [tL f l])(b:l[j]?=some p):FK (.fb i 0) H=some (.tuple [.sc (.int .i64 p.1),f p.2]):=by
 unfold FK;simp only[hi,a,tL,b]
 simp_all
def O_{P:Program}{t:TypeId}{L:List α}{k:Nat}{a:Int}{x:α}(c:fY P t=some (false,1))(d:∀x,(f x).cells=[f x])(hi:dW L a=some x):mq P t (vB f L k) (NH a.toNat 1)=some (f x):=by
 have hi':=NV hi;have b:=(sY.1 hi').1
 have e:(L.map f).flatMap AV.cells=L.map f:=by
  clear hi hi' b
  induction L with
  |nil=>rfl|cons x L ih=>grind
 grind[mq,vB,HG]
end
def Rv{n:Int}:∀(L:List Int) (i:Nat),Hk L->n∉L->i<=L.length->(∀a∈L.drop i,a>n)->(i=0\/∃a,L[i-1]?=some a/\¬a>n)->Dy n L=L.take i++n::L.drop i
 |[],i,_,_,hi,_,_=>by simp at hi;subst hi;rfl
 |a::L,0,_,_,_,h,_=>by simp[Dy,h a aa2]|a::L,i+1,.cons k l,hn,hi,h,d=>by
  simp only[lQ,not_or] at hn
  have j:¬a>n:=by
   rcases d with d|⟨b,f,c⟩
   ·cases d
   ·cases i with
    |zero=>simp at f;subst f;exact c
    |succ i=>
     simp at f;have:=k b (Hb f);omega
  have ih:=Rv L i l hn.2 (by simpa using hi) (by simpa using h) (by
   cases i with
   |zero=>exact .inl rfl|succ i=>
    rcases d with d|⟨b,f,c⟩
    ·cases d
    ·exact .inr ⟨b,by simpa using f,c⟩)
  simp[Dy,j,ih]
def V7{i:Nat}(h:i<Al):fA .i64 ((i+1:Nat):Int) 1=(i:Int):=by
 have a:i<549755813888:=h
 have e:((i+1:Nat):Int)-1=(i:Int):=VW
 unfold fA;rw[e,IntKind.wrap_i64];omega
def JI(n:Nat)(seen:List Nat):Nat:=((List.range n).filter λj=>!seen.contains j).length
def Ql(n:Nat):JI n []=n:=by
 unfold JI;rw[List.filter_eq_self.2 aa2];simp
def Tf{n j:Nat}{seen:List Nat}(a:j<n)(hs:j∉seen):JI n (seen++[j])<JI n seen:=
 filter_lt (λk=>!seen.contains k) (λk=>!(seen++[j]).contains k) (by intro x;simp;intro h _;exact h) j (by simpa using hs) aa2 (List.range n) (by simpa using a)
end Go.kY
