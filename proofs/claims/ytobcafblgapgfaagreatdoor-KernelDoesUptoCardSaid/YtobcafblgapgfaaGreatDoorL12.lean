/- Part of the proof of KernelAccepts, KernelDoes: layer. -/
import Derived.Test.YtobcafblgapgfaaGreatDoorL11
set_option linter.all false
namespace Go.ke
open Go Go.fB
section
variable{K:Fr->cW->Prop} {fr:Fr} {H:cW} {α:Type} {f:α->AV} {i o:Nat} {seen:List Nat} {d:Option Nat}
def Nv(l:List (Int×α))(hi:H[i]?=some [.l_ o l.length seen])(e:H[o]?=some [sw f l])
  (h1:(∀j,j<l.length->j∈seen)->K (fr.put d (.tuple [.sc (.bool false)])) H)
  (g:∀j p,l[j]?=some p->j∉seen->K (fr.put d (.tuple [.sc (.bool true),.sc (.int .i64 p.1),f p.2])) (dH H i [.l_ o l.length (seen++[j])])):Iy (.dM i 0) d K fr H:=by
 unfold Iy;simp only[hi,e,sw];refine⟨aa4,?_,λh=>h1 (by simpa using h),?_⟩
 ·rw[j7];intro x m;obtain⟨p,_,rfl⟩:=l8.1 m;rfl
 ·intro j k v a b n;rw[tM] at a b;cases c:l[j]?with
  |none=>rw[c] at a;cases a
  |some p=>
   rw[c] at a b;simp only[Px,sy] at a b;subst a;subst b;exact g j p c n
def Lp(l:List (Int×α)){j:Nat}{p:Int×α}(hi:H[i]?=some [.l_ o l.length (seen++[j])])(a:H[o]?=some [sw f l])(b:l[j]?=some p):CR (.dM i 0) H=some (.tuple [.sc (.int .i64 p.1),f p.2]):=by
 unfold CR;simp only[hi,a,sw,List.getLast?_append,List.getLast?_singleton,Option.some_or,tM,b,Px];rw[cO ⟨aa4,rfl⟩]
def ME{P:Program}{t:TypeId}{L:List α}{k:Nat}{a:Int}{x:α}(c:eO P t=some (false,1))(h1:∀x,(f x).cells=[f x])(hi:de L a=some x):lH P t (gO f L k) (Mu a.toNat 1)=some (f x):=by
 have hi':=KR hi;have b:=(kj.1 hi').1
 have e:(L.map f).flatMap AV.cells=L.map f:=by
  clear hi hi' b
  induction L with
  |nil=>rfl|cons x L d=>simp[h1,d]
 unfold lH gO;rw[c,Fa,V7,e];simp only;rw[p4 (by simpa using b),tM,hi'];rfl
end
def MU{n:Int}:∀(L:List Int) (i:Nat),EC L->n∉L->i<=L.length->(∀a∈L.drop i,a>n)->(i=0\/∃a,L[i-1]?=some a/\¬a>n)->A3 n L=L.take i++n::L.drop i
 |[],i,_,_,hi,_,_=>by simp at hi;subst hi;rfl
 |a::L,0,_,_,_,h1,_=>by simp[A3,h1 a aa4]|a::L,i+1,.cons g h,hn,hi,h1,e=>by
  simp only[j0,not_or] at hn
  have f:¬a>n:=by
   rcases e with e|⟨b,c,d⟩
   ·cases e
   ·simp only[TZ] at c;cases i with
    |zero=>simp at c;subst c;exact d
    |succ i=>
     simp at c;have:=g b (z6 c);omega
  have j:=MU L i h hn.2 (by simpa using hi) (by simpa using h1) (by
   cases i with
   |zero=>exact .inl rfl|succ i=>
    rcases e with e|⟨b,c,d⟩
    ·cases e
    ·exact .inr ⟨b,by simpa using c,d⟩)
  simp[A3,f,j]
def RY{i:Nat}(h:i<JV):dZ .i64 ((i+1:Nat):Int) 1=(i:Int):=by
 have a:i<1099511627776:=h
 have e:((i+1:Nat):Int)-1=(i:Int):=VW
 unfold dZ;rw[e,IntKind.wrap_i64];omega
def FT(n:Nat)(seen:List Nat):Nat:=((List.range n).filter λj=>!seen.contains j).length
def NY(n:Nat):FT n []=n:=by
 unfold FT;rw[FW.2 aa4];simp
def Ql{n j:Nat}{seen:List Nat}(a:j<n)(hs:j∉seen):FT n (seen++[j])<FT n seen:=
 filter_lt (λk=>!seen.contains k) (λk=>!(seen++[j]).contains k) (by intro x;simp;intro h _;exact h) j (by simpa using hs) aa4 (List.range n) (by simpa using a)
end Go.ke
