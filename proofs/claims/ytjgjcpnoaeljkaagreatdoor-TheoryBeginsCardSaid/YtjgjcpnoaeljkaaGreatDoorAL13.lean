/- Part of the proof of TheoryBegins: layer. -/
import Derived.Test.YtjgjcpnoaeljkaaGreatDoorAL12
set_option linter.all false
namespace Go.kQ
open Go Go.eZ
section
variable{K:Fr->cZ->Prop} {fr:Fr} {H:cZ} {α:Type} {f:α->AV} {i o:Nat} {seen:List Nat} {d:Option Nat}
def OG(l:List (Int×α))(hi:H[i]?=some [.lU o l.length seen])(n:H[o]?=some [om f l])
  (q:(∀j,j<l.length->j∈seen)->K (fr.put d (.tuple [.sc (.bool false)])) H)
  (r:∀j p,l[j]?=some p->j∉seen->K (fr.put d (.tuple [.sc (.bool true),.sc (.int .i64 p.1),f p.2])) (eR H i [.lU o l.length (seen++[j])])):Ji (.eb i 0) d K fr H:=by
 unfold Ji;simp only[hi,n,om];refine⟨acZ,?_,λh=>q (by simpa using h),?_⟩
 .rw[j3];intro x s;obtain⟨p,_,rfl⟩:=nj.1 s;rfl
 .intro j k v a b t;rw[yA] at a b;cases c:l[j]?with
  |none=>rw[c] at a;cases a
  |some p=>
   rw[c] at a b;simp only[Ym,u9] at a b;subst a;subst b;exact r j p c t
def MI(l:List (Int×α)){j:Nat}{p:Int×α}(hi:H[i]?=some [.lU o l.length (seen++[j])])(a:H[o]?=some [om f l])(b:l[j]?=some p):CZ (.eb i 0) H=some (.tuple [.sc (.int .i64 p.1),f p.2]):=by
 unfold CZ;simp only[hi,a,om,b]
 simp_all
def ND{P:Program}{t:TypeId}{L:List α}{k:Nat}{a:Int}{x:α}(c:eA P t=some (false,1))(d:∀x,(f x).cells=[f x])(hi:dg L a=some x):lH P t (tz f L k) (LU a.toNat 1)=some (f x):=by
 have hi':=Mg hi;have b:=(mH.1 hi').1
 have e:(L.map f).flatMap AV.cells=L.map f:=by
  clear hi hi' b
  induction L with
  |nil=>rfl|cons x L ih=>grind
 grind[lH,tz,FG]
end
def PU{n:Int}:∀(L:List Int) (i:Nat),FA L->n∉L->i<=L.length->(∀a∈L.drop i,a>n)->(i=0\/∃a,L[i-1]?=some a/\¬a>n)->AP n L=L.take i++n::L.drop i
 |[],i,_,_,hi,_,_=>by simp at hi;subst hi;rfl
 |a::L,0,_,_,_,h,_=>by simp[AP,h a acZ]|a::L,i+1,.cons k l,hn,hi,h,d=>by
  simp only[j8,not_or] at hn
  have j:¬a>n:=by
   rcases d with d|⟨b,f,c⟩
   .cases d
   .cases i with
    |zero=>simp at f;subst f;exact c
    |succ i=>
     simp at f;have:=k b (Gt f);omega
  have ih:=PU L i l hn.2 (by simpa using hi) (by simpa using h) (by
   cases i with
   |zero=>exact .inl rfl|succ i=>
    rcases d with d|⟨b,f,c⟩
    .cases d
    .exact .inr ⟨b,by simpa using f,c⟩)
  simp[AP,j,ih]
def VS{i:Nat}(h:i<lim):ed .i64 ((i+1:Nat):Int) 1=(i:Int):=by
 have a:i<549755813888:=h
 have e:((i+1:Nat):Int)-1=(i:Int):=VW
 unfold ed;rw[e,IntKind.wrap_i64];omega
def GK(n:Nat)(seen:List Nat):Nat:=((List.range n).filter λj=>!seen.contains j).length
def Pz(n:Nat):GK n []=n:=by
 unfold GK;rw[List.filter_eq_self.2 acZ];simp
def SF{n j:Nat}{seen:List Nat}(a:j<n)(hs:j∉seen):GK n (seen++[j])<GK n seen:=
 filter_lt (λk=>!seen.contains k) (λk=>!(seen++[j]).contains k) (by intro x;simp;intro h _;exact h) j (by simpa using hs) acZ (List.range n) (by simpa using a)
end Go.kQ
