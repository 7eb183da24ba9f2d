/- Part of the proof of KernelUniform: layer. -/
import Derived.Test.YtobcafblgapgfaaGreatDoorL10
set_option linter.all false
namespace Go.mS
open Go Go.hJ
section
variable{K:Fr->eD->Prop} {fr:Fr} {H:eD} {α:Type} {f:α->AV} {i o:Nat} {seen:List Nat} {d:Option Nat}
def Ng(l:List (Int×α))(hi:H[i]?=some [.nb o l.length seen])(e:H[o]?=some [sM f l])
  (g:(∀j,j<l.length->j∈seen)->K (fr.put d (.tuple [.sc (.bool false)])) H)
  (m:∀j p,l[j]?=some p->j∉seen->K (fr.put d (.tuple [.sc (.bool true),.sc (.int .i64 p.1),f p.2])) (gj H i [.nb o l.length (seen++[j])])):I9 (.fE i 0) d K fr H:=by
 unfold I9;simp only[hi,e,sM];refine⟨by simp,?_,λh=>g (by simpa using h),?_⟩
 ·rw[k4];intro x n;obtain⟨p,_,rfl⟩:=od.1 n;rfl
 ·intro j k v a b q;rw[ur] at a b;cases c:l[j]?with
  |none=>rw[c] at a;cases a
  |some p=>
   rw[c] at a b;simp only[Ps,sH] at a b;subst a;subst b;exact m j p c q
def Lw(l:List (Int×α)){j:Nat}{p:Int×α}(hi:H[i]?=some [.nb o l.length (seen++[j])])(a:H[o]?=some [sM f l])(b:l[j]?=some p):C_ (.fE i 0) H=some (.tuple [.sc (.int .i64 p.1),f p.2]):=by
 unfold C_;simp only[hi,a,sM,List.getLast?_append,List.getLast?_singleton,Option.some_or,ur,b,Ps];rw[ee ⟨by simp,rfl⟩]
def LL{P:Program}{t:TypeId}{L:List α}{k:Nat}{a:Int}{x:α}(c:gz P t=some (false,1))(d:∀x,(f x).cells=[f x])(hi:eI L a=some x):mY P t (tu f L k) (LR a.toNat 1)=some (f x):=by
 have hi':=L' hi;have b:=(pG.1 hi').1
 have e:(L.map f).flatMap AV.cells=L.map f:=by
  clear hi hi' b
  induction L with
  |nil=>rfl|cons x L g=>simp[d,g]
 unfold mY tu;rw[c,EY,VP,e];simp only;rw[tD (by simpa using b),ur,hi'];rfl
end
def Mx{n:Int}:∀(L:List Int) (i:Nat),Bk L->n∉L->i<=L.length->(∀a∈L.drop i,a>n)->(i=0\/∃a,L[i-1]?=some a/\¬a>n)->A6 n L=L.take i++n::L.drop i
 |[],i,_,_,hi,_,_=>by simp at hi;subst hi;rfl
 |a::L,0,_,_,_,f,_=>by simp[A6,f a (by simp)]|a::L,i+1,.cons h j,hn,hi,f,e=>by
  simp only[lF,not_or] at hn
  have g:¬a>n:=by
   rcases e with e|⟨b,c,d⟩
   ·cases e
   ·simp only[SD] at c;cases i with
    |zero=>simp at c;subst c;exact d
    |succ i=>
     simp at c;have:=h b (Dc c);omega
  have k:=Mx L i j hn.2 (by simpa using hi) (by simpa using f) (by
   cases i with
   |zero=>exact .inl rfl|succ i=>
    rcases e with e|⟨b,c,d⟩
    ·cases e
    ·exact .inr ⟨b,by simpa using c,d⟩)
  simp[A6,g,k]
def Rs{i:Nat}(h:i<Kw):fB .i64 ((i+1:Nat):Int) 1=(i:Int):=by
 have a:i<1099511627776:=h
 have e:((i+1:Nat):Int)-1=(i:Int):=by omega
 unfold fB;rw[e,IntKind.wrap_i64];omega
def GC(n:Nat)(seen:List Nat):Nat:=((List.range n).filter λj=>!seen.contains j).length
def Ny(n:Nat):GC n []=n:=by
 unfold GC;rw[X8.2 (by simp)];simp
def Pe{n j:Nat}{seen:List Nat}(a:j<n)(hs:j∉seen):GC n (seen++[j])<GC n seen:=
 filter_lt (λk=>!seen.contains k) (λk=>!(seen++[j]).contains k) (by intro x;simp;intro h _;exact h) j (by simpa using hs) (by simp) (List.range n) (by simpa using a)
end Go.mS
