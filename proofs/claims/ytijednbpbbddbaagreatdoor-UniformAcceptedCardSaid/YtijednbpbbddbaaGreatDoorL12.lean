/- Part of the proof of UniformExact, UniformAccepted: layer. -/
import Derived.Test.YtijednbpbbddbaaGreatDoorL11
set_option linter.all false
namespace Go.ns
open Go Go.ek
section
variable{K:Fr->dd->Prop} {fr:Fr} {H:dd} {α:Type} {f:α->AV} {i o:Nat} {seen:List Nat} {d:Option Nat}
def S6(l:List (Int×α))(hi:H[i]?=some [.p_ o l.length seen])(e:H[o]?=some [xu f l])
  (g:(∀j,j<l.length->j∈seen)->K (fr.put d (.tuple [.sc (.bool false)])) H)
  (m:∀j p,l[j]?=some p->j∉seen->K (fr.put d (.tuple [.sc (.bool true),.sc (.int .i64 p.1),f p.2])) (fH H i [.p_ o l.length (seen++[j])])):OR (.eS i 0) d K fr H:=by
 unfold OR;simp only[hi,e,xu];refine⟨aaB,?_,λh=>g (by simpa using h),?_⟩
 ·rw[iC];intro x n;obtain⟨p,_,rfl⟩:=nU.1 n;rfl
 ·intro j k v a b q;rw[xr] at a b;cases c:l[j]?with
  |none=>rw[c] at a;cases a
  |some p=>
   rw[c] at a b;simp only[UW,wh] at a b;subst a;subst b;exact m j p c q
def RW(l:List (Int×α)){j:Nat}{p:Int×α}(hi:H[i]?=some [.p_ o l.length (seen++[j])])(a:H[o]?=some [xu f l])(b:l[j]?=some p):JC (.eS i 0) H=some (.tuple [.sc (.int .i64 p.1),f p.2]):=by
 unfold JC;simp only[hi,a,xu,List.getLast?_append,List.getLast?_singleton,Option.some_or,xr,b,UW];rw[cK ⟨aaB,rfl⟩]
def RK{P:Program}{t:TypeId}{L:List α}{k:Nat}{a:Int}{x:α}(c:fw P t=some (false,1))(d:∀x,(f x).cells=[f x])(hi:df L a=some x):p0 P t (yA f L k) (QU a.toNat 1)=some (f x):=by
 have hi':=RX hi;have b:=(qb.1 hi').1
 have e:(L.map f).flatMap AV.cells=L.map f:=by
  clear hi hi' b
  induction L with
  |nil=>rfl|cons x L g=>simp[d,g]
 unfold p0 yA;rw[c,LM,X4,e];simp only;rw[s_ (by simpa using b),xr,hi'];rfl
end
def SM{n:Int}:∀(L:List Int) (i:Nat),FI L->n∉L->i<=L.length->(∀a∈L.drop i,a>n)->(i=0\/∃a,L[i-1]?=some a/\¬a>n)->El n L=L.take i++n::L.drop i
 |[],i,_,_,hi,_,_=>by simp at hi;subst hi;rfl
 |a::L,0,_,_,_,f,_=>by simp[El,f a aaB]|a::L,i+1,.cons h j,hn,hi,f,e=>by
  simp only[iL,not_or] at hn
  have g:¬a>n:=by
   rcases e with e|⟨b,c,d⟩
   ·cases e
   ·simp only[XA] at c;cases i with
    |zero=>simp at c;subst c;exact d
    |succ i=>
     simp at c;have:=h b (D8 c);omega
  have k:=SM L i j hn.2 (by simpa using hi) (by simpa using f) (by
   cases i with
   |zero=>exact .inl rfl|succ i=>
    rcases e with e|⟨b,c,d⟩
    ·cases e
    ·exact .inr ⟨b,by simpa using c,d⟩)
  simp[El,g,k]
def WH{i:Nat}(h:i<NS):ea .i64 ((i+1:Nat):Int) 1=(i:Int):=by
 have a:i<1099511627776:=h
 have e:((i+1:Nat):Int)-1=(i:Int):=VW
 unfold ea;rw[e,IntKind.wrap_i64];omega
def MC(n:Nat)(seen:List Nat):Nat:=((List.range n).filter λj=>!seen.contains j).length
def Tb(n:Nat):MC n []=n:=by
 unfold MC;rw[adK.2 aaB];simp
def Vo{n j:Nat}{seen:List Nat}(a:j<n)(hs:j∉seen):MC n (seen++[j])<MC n seen:=
 filter_lt (λk=>!seen.contains k) (λk=>!(seen++[j]).contains k) (by intro x;simp;intro h _;exact h) j (by simpa using hs) aaB (List.range n) (by simpa using a)
end Go.ns
