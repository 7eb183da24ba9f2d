/- Part of the proof of TranslateStable: layer. -/
import Derived.Test.YtffcgfpaakhbjaaGreatDoorL11
set_option linter.all false
namespace Go.jN
open Go Go.dG
section
variable{K:Fr->cc->Prop} {fr:Fr} {H:cc} {α:Type} {f:α->AV} {i o:Nat} {seen:List Nat} {d:Option Nat}
def Nn(l:List (Int×α))(hi:H[i]?=some [.lb o l.length seen])(e:H[o]?=some [rz f l])
  (g:(∀j,j<l.length->j∈seen)->K (fr.put d (.tuple [.sc (.bool false)])) H)
  (m:∀j p,l[j]?=some p->j∉seen->K (fr.put d (.tuple [.sc (.bool true),.sc (.int .i64 p.1),f p.2])) (dx H i [.lb o l.length (seen++[j])])):HN (.di i 0) d K fr H:=by
 unfold HN;simp only[hi,e,rz];refine⟨aas,?_,λh=>g (by simpa using h),?_⟩
 ·rw[im];intro x n;obtain⟨p,_,rfl⟩:=ll.1 n;rfl
 ·intro j k v a b q;rw[sw] at a b;cases c:l[j]?with
  |none=>rw[c] at a;cases a
  |some p=>
   rw[c] at a b;simp only[O8,uq] at a b;subst a;subst b;exact m j p c q
def Kj(l:List (Int×α)){j:Nat}{p:Int×α}(hi:H[i]?=some [.lb o l.length (seen++[j])])(a:H[o]?=some [rz f l])(b:l[j]?=some p):C7 (.di i 0) H=some (.tuple [.sc (.int .i64 p.1),f p.2]):=by
 unfold C7;simp only[hi,a,rz,List.getLast?_append,List.getLast?_singleton,Option.some_or,sw,b,O8];rw[bX ⟨aas,rfl⟩]
def KM{P:Program}{t:TypeId}{L:List α}{k:Nat}{a:Int}{x:α}(d:dE P t=some (false,1))(g:∀x,(f x).cells=[f x])(hi:cr L a=some x):k0 P t (iu f L k) (KE a.toNat 1)=some (f x):=by
 have b:=LB hi;have c:=(jj.1 b).1
 have e:(L.map f).flatMap AV.cells=L.map f:=by
  clear hi b c
  induction L with
  |nil=>rfl|cons x L h=>simp[g,h]
 unfold k0 iu;rw[d,EJ,U3,e];simp only;rw[oy (by simpa using c),sw,b];rfl
end
def NA{n:Int}:∀(L:List Int) (i:Nat),EK L->n∉L->i<=L.length->(∀a∈L.drop i,a>n)->(i=0\/∃a,L[i-1]?=some a/\¬a>n)->AN n L=L.take i++n::L.drop i
 |[],i,_,_,hi,_,_=>by simp at hi;subst hi;rfl
 |a::L,0,_,_,_,f,_=>by simp[AN,f a aas]|a::L,i+1,.cons h j,hn,hi,f,e=>by
  simp only[jW,not_or] at hn
  have g:¬a>n:=by
   rcases e with e|⟨b,c,d⟩
   ·cases e
   ·simp only[TP] at c;cases i with
    |zero=>simp at c;subst c;exact d
    |succ i=>
     simp at c;have:=h b (Bh c);omega
  have k:=NA L i j hn.2 (by simpa using hi) (by simpa using f) (by
   cases i with
   |zero=>exact .inl rfl|succ i=>
    rcases e with e|⟨b,c,d⟩
    ·cases e
    ·exact .inr ⟨b,by simpa using c,d⟩)
  simp[AN,g,k]
def SZ{i:Nat}(h:i<xy):dh .i64 ((i+1:Nat):Int) 1=(i:Int):=by
 have a:i<1099511627776:=h
 have e:((i+1:Nat):Int)-1=(i:Int):=VW
 unfold dh;rw[e,IntKind.wrap_i64];omega
def FG(n:Nat)(seen:List Nat):Nat:=((List.range n).filter λj=>!seen.contains j).length
def NN(n:Nat):FG n []=n:=by
 unfold FG;rw[ZD.2 aas];simp
def Qf{n j:Nat}{seen:List Nat}(a:j<n)(hs:j∉seen):FG n (seen++[j])<FG n seen:=
 filter_lt (λk=>!seen.contains k) (λk=>!(seen++[j]).contains k) (by intro x;simp;intro h _;exact h) j (by simpa using hs) aas (List.range n) (by simpa using a)
end Go.jN
