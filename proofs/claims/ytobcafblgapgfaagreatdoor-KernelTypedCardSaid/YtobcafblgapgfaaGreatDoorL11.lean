/- Part of the proof of KernelTyped: layer. -/
import Derived.Test.YtobcafblgapgfaaGreatDoorL10
set_option linter.all false
namespace Go.m7
open Go Go.hI
section
variable{K:Fr->eD->Prop} {fr:Fr} {H:eD} {α:Type} {f:α->AV} {i o:Nat} {seen:List Nat} {d:Option Nat}
def Ny(l:List (Int×α))(hi:H[i]?=some [.ns o l.length seen])(e:H[o]?=some [oH f l])
  (g:(∀j,j<l.length->j∈seen)->K (fr.put d (.tuple [.sc (.bool false)])) H)
  (m:∀j p,l[j]?=some p->j∉seen->K (fr.put d (.tuple [.sc (.bool true),.sc (.int .i64 p.1),f p.2])) (gb H i [.ns o l.length (seen++[j])])):Ja (.fO i 0) d K fr H:=by
 unfold Ja;simp only[hi,e,oH];refine⟨by simp,?_,λh=>g (by simpa using h),?_⟩
 ·rw[kF];intro x n;obtain⟨p,_,rfl⟩:=oy.1 n;rfl
 ·intro j k v a b q;rw[uA] at a b;cases c:l[j]?with
  |none=>rw[c] at a;cases a
  |some p=>
   rw[c] at a b;simp only[Z6,s7] at a b;subst a;subst b;exact m j p c q
def MH(l:List (Int×α)){j:Nat}{p:Int×α}(hi:H[i]?=some [.ns o l.length (seen++[j])])(a:H[o]?=some [oH f l])(b:l[j]?=some p):D3 (.fO i 0) H=some (.tuple [.sc (.int .i64 p.1),f p.2]):=by
 unfold D3;simp only[hi,a,oH,List.getLast?_append,List.getLast?_singleton,Option.some_or,uA,b,Z6];rw[ee ⟨by simp,rfl⟩]
def LA{P:Program}{t:TypeId}{L:List α}{k:Nat}{a:Int}{x:α}(c:gy P t=some (false,1))(d:∀x,(f x).cells=[f x])(hi:eJ L a=some x):m8 P t (tP f L k) (LL a.toNat 1)=some (f x):=by
 have hi':=Me hi;have b:=(pz.1 hi').1
 have e:(L.map f).flatMap AV.cells=L.map f:=by
  clear hi hi' b
  induction L with
  |nil=>rfl|cons x L g=>simp[d,g]
 unfold m8 tP;rw[c,Fy,Nat.mul_one,e];simp only;rw[tF (by simpa using b),uA,hi'];rfl
end
def NX{n:Int}:∀(L:List Int) (i:Nat),CS L->n∉L->i<=L.length->(∀a∈L.drop i,a>n)->(i=0\/∃a,L[i-1]?=some a/\¬a>n)->BH n L=L.take i++n::L.drop i
 |[],i,_,_,hi,_,_=>by simp at hi;subst hi;rfl
 |a::L,0,_,_,_,f,_=>by simp[BH,f a (by simp)]|a::L,i+1,.cons h j,hn,hi,f,e=>by
  simp only[ma,not_or] at hn
  have g:¬a>n:=by
   rcases e with e|⟨b,c,d⟩
   ·cases e
   ·simp only[Uw] at c;cases i with
    |zero=>simp at c;subst c;exact d
    |succ i=>
     simp at c;have:=h b (Be c);omega
  have k:=NX L i j hn.2 (by simpa using hi) (by simpa using f) (by
   cases i with
   |zero=>exact .inl rfl|succ i=>
    rcases e with e|⟨b,c,d⟩
    ·cases e
    ·exact .inr ⟨b,by simpa using c,d⟩)
  simp[BH,g,k]
def Tk{i:Nat}(h:i<Lk):fD .i64 ((i+1:Nat):Int) 1=(i:Int):=by
 have a:i<1099511627776:=h
 have e:((i+1:Nat):Int)-1=(i:Int):=by omega
 unfold fD;rw[e,IntKind.wrap_i64];omega
def FP(n:Nat)(seen:List Nat):Nat:=((List.range n).filter λj=>!seen.contains j).length
def Ob(n:Nat):FP n []=n:=by
 unfold FP;rw[List.filter_eq_self.2 (by simp)];simp
def Qd{n j:Nat}{seen:List Nat}(a:j<n)(hs:j∉seen):FP n (seen++[j])<FP n seen:=
 filter_lt (λk=>!seen.contains k) (λk=>!(seen++[j]).contains k) (by intro x;simp;intro h _;exact h) j (by simpa using hs) (by simp) (List.range n) (by simpa using a)
end Go.m7
