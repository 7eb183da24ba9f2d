/- Part of the proof of KernelRefuses: layer. -/
import Derived.Test.YtobcafblgapgfaaGreatDoorL10
set_option linter.all false
namespace Go.nd
open Go Go.gV
section
variable{K:Fr->eB->Prop} {fr:Fr} {H:eB} {α:Type} {f:α->AV} {i o:Nat} {seen:List Nat} {d:Option Nat}
def Od(l:List (Int×α))(hi:H[i]?=some [.nt o l.length seen])(e:H[o]?=some [ti f l])
  (g:(∀j,j<l.length->j∈seen)->K (fr.put d (.tuple [.sc (.bool false)])) H)
  (m:∀j p,l[j]?=some p->j∉seen->K (fr.put d (.tuple [.sc (.bool true),.sc (.int .i64 p.1),f p.2])) (gC H i [.nt o l.length (seen++[j])])):JZ (.fT i 0) d K fr H:=by
 unfold JZ;simp only[hi,e,ti];refine⟨by simp,?_,λh=>g (by simpa using h),?_⟩
 ·rw[ll];intro x n;obtain⟨p,_,rfl⟩:=oi.1 n;rfl
 ·intro j k v a b q;rw[tN] at a b;cases c:l[j]?with
  |none=>rw[c] at a;cases a
  |some p=>
   rw[c] at a b;simp only[Z_,tC] at a b;subst a;subst b;exact m j p c q
def LW(l:List (Int×α)){j:Nat}{p:Int×α}(hi:H[i]?=some [.nt o l.length (seen++[j])])(a:H[o]?=some [ti f l])(b:l[j]?=some p):Ej (.fT i 0) H=some (.tuple [.sc (.int .i64 p.1),f p.2]):=by
 unfold Ej;simp only[hi,a,ti,List.getLast?_append,List.getLast?_singleton,Option.some_or,tN,b,Z_];rw[ee ⟨by simp,rfl⟩]
def L8{P:Program}{t:TypeId}{L:List α}{k:Nat}{a:Int}{x:α}(c:gq P t=some (false,1))(d:∀x,(f x).cells=[f x])(hi:eI L a=some x):m7 P t (ub f L k) (L4 a.toNat 1)=some (f x):=by
 have hi':=Mx hi;have b:=(pK.1 hi').1
 have e:(L.map f).flatMap AV.cells=L.map f:=by
  clear hi hi' b
  induction L with
  |nil=>rfl|cons x L g=>simp[d,g]
 unfold m7 ub;rw[c,FM,Nat.mul_one,e];simp only;rw[r_ (by simpa using b),tN,hi'];rfl
end
def NY{n:Int}:∀(L:List Int) (i:Nat),ES L->n∉L->i<=L.length->(∀a∈L.drop i,a>n)->(i=0\/∃a,L[i-1]?=some a/\¬a>n)->BR n L=L.take i++n::L.drop i
 |[],i,_,_,hi,_,_=>by simp at hi;subst hi;rfl
 |a::L,0,_,_,_,f,_=>by simp[BR,f a (by simp)]|a::L,i+1,.cons h j,hn,hi,f,e=>by
  simp only[l7,not_or] at hn
  have g:¬a>n:=by
   rcases e with e|⟨b,c,d⟩
   ·cases e
   ·simp only[Vq] at c;cases i with
    |zero=>simp at c;subst c;exact d
    |succ i=>
     simp at c;have:=h b (CH c);omega
  have k:=NY L i j hn.2 (by simpa using hi) (by simpa using f) (by
   cases i with
   |zero=>exact .inl rfl|succ i=>
    rcases e with e|⟨b,c,d⟩
    ·cases e
    ·exact .inr ⟨b,by simpa using c,d⟩)
  simp[BR,g,k]
def Tl{i:Nat}(h:i<Lw):fG .i64 ((i+1:Nat):Int) 1=(i:Int):=by
 have a:i<1099511627776:=h
 have e:((i+1:Nat):Int)-1=(i:Int):=by omega
 unfold fG;rw[e,IntKind.wrap_i64];omega
def Hl(n:Nat)(seen:List Nat):Nat:=((List.range n).filter λj=>!seen.contains j).length
def NJ(n:Nat):Hl n []=n:=by
 unfold Hl;rw[List.filter_eq_self.2 (by simp)];simp
def P8{n j:Nat}{seen:List Nat}(a:j<n)(hs:j∉seen):Hl n (seen++[j])<Hl n seen:=
 filter_lt (λk=>!seen.contains k) (λk=>!(seen++[j]).contains k) (by intro x;simp;intro h _;exact h) j (by simpa using hs) (by simp) (List.range n) (by simpa using a)
end Go.nd
