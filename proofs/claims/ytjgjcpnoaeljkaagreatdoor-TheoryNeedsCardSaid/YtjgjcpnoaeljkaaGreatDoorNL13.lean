/- Part of the proof of TheoryNeeds: layer. -/
import Derived.Test.YtjgjcpnoaeljkaaGreatDoorNL12
set_option linter.all false
namespace Go.kC
open Go Go.eU
section
variable{K:Fr->cZ->Prop} {fr:Fr} {H:cZ} {α:Type} {f:α->AV} {i o:Nat} {seen:List Nat} {d:Option Nat}
def PW(l:List (Int×α))(hi:H[i]?=some [.lM o l.length seen])(n:H[o]?=some [lP f l])
  (q:(∀j,j<l.length->j∈seen)->K (fr.put d (.tuple [.sc (.bool false)])) H)
  (r:∀j p,l[j]?=some p->j∉seen->K (fr.put d (.tuple [.sc (.bool true),.sc (.int .i64 p.1),f p.2])) (eO H i [.lM o l.length (seen++[j])])):Jw (.eb i 0) d K fr H:=by
 unfold Jw;simp only[hi,n,lP];refine⟨aaL,?_,λh=>q (by simpa using h),?_⟩
 .rw[jY];intro x s;obtain⟨p,_,rfl⟩:=nw.1 s;rfl
 .intro j k v a b t;rw[yq] at a b;cases c:l[j]?with
  |none=>rw[c] at a;cases a
  |some p=>
   rw[c] at a b;simp only[X3,uV] at a b;subst a;subst b;exact r j p c t
def Mb(l:List (Int×α)){j:Nat}{p:Int×α}(hi:H[i]?=some [.lM o l.length (seen++[j])])(a:H[o]?=some [lP f l])(b:l[j]?=some p):Du (.eb i 0) H=some (.tuple [.sc (.int .i64 p.1),f p.2]):=by
 unfold Du;simp only[hi,a,lP,b]
 simp_all
def Me{P:Program}{t:TypeId}{L:List α}{k:Nat}{a:Int}{x:α}(c:ew P t=some (false,1))(d:∀x,(f x).cells=[f x])(hi:dg L a=some x):lB P t (tu f L k) (Ma a.toNat 1)=some (f x):=by
 have hi':=MY hi;have b:=(mI.1 hi').1
 have e:(L.map f).flatMap AV.cells=L.map f:=by
  clear hi hi' b
  induction L with
  |nil=>rfl|cons x L ih=>grind
 grind[lB,tu,E3]
end
def Oo{n:Int}:∀(L:List Int) (i:Nat),Fb L->n∉L->i<=L.length->(∀a∈L.drop i,a>n)->(i=0\/∃a,L[i-1]?=some a/\¬a>n)->AY n L=L.take i++n::L.drop i
 |[],i,_,_,hi,_,_=>by simp at hi;subst hi;rfl
 |a::L,0,_,_,_,h,_=>by simp[AY,h a aaL]|a::L,i+1,.cons k l,hn,hi,h,d=>by
  simp only[jr,not_or] at hn
  have j:¬a>n:=by
   rcases d with d|⟨b,f,c⟩
   .cases d
   .cases i with
    |zero=>simp at f;subst f;exact c
    |succ i=>
     simp at f;have:=k b (CO f);omega
  have ih:=Oo L i l hn.2 (by simpa using hi) (by simpa using h) (by
   cases i with
   |zero=>exact .inl rfl|succ i=>
    rcases d with d|⟨b,f,c⟩
    .cases d
    .exact .inr ⟨b,by simpa using f,c⟩)
  simp[AY,j,ih]
def U1{i:Nat}(h:i<lim):ea .i64 ((i+1:Nat):Int) 1=(i:Int):=by
 have a:i<549755813888:=h
 have e:((i+1:Nat):Int)-1=(i:Int):=VW
 unfold ea;rw[e,IntKind.wrap_i64];omega
def GB(n:Nat)(seen:List Nat):Nat:=((List.range n).filter λj=>!seen.contains j).length
def OL(n:Nat):GB n []=n:=by
 unfold GB;rw[List.filter_eq_self.2 aaL];simp
def Sa{n j:Nat}{seen:List Nat}(a:j<n)(hs:j∉seen):GB n (seen++[j])<GB n seen:=
 filter_lt (λk=>!seen.contains k) (λk=>!(seen++[j]).contains k) (by intro x;simp;intro h _;exact h) j (by simpa using hs) aaL (List.range n) (by simpa using a)
end Go.kC
