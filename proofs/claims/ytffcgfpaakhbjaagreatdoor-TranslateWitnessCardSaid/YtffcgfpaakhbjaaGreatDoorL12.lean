/- Part of the proof of TranslateWitness: layer. -/
import Derived.Test.YtffcgfpaakhbjaaGreatDoorL11
set_option linter.all false
namespace Go.jX
open Go Go.dF
section
variable{K:Fr->cd->Prop} {fr:Fr} {H:cd} {α:Type} {f:α->AV} {i o:Nat} {seen:List Nat} {d:Option Nat}
def Ld(l:List (Int×α))(hi:H[i]?=some [.kH o l.length seen])(e:H[o]?=some [qD f l])
  (g:(∀j,j<l.length->j∈seen)->K (fr.put d (.tuple [.sc (.bool false)])) H)
  (m:∀j p,l[j]?=some p->j∉seen->K (fr.put d (.tuple [.sc (.bool true),.sc (.int .i64 p.1),f p.2])) (dC H i [.kH o l.length (seen++[j])])):He (.de i 0) d K fr H:=by
 unfold He;simp only[hi,e,qD];refine⟨th,?_,λh=>g (by simpa using h),?_⟩
 ·rw[ie];intro x n;obtain⟨p,_,rfl⟩:=kI.1 n;rfl
 ·intro j k v a b q;rw[rS] at a b;cases c:l[j]?with
  |none=>rw[c] at a;cases a
  |some p=>
   rw[c] at a b;simp only[NG,uv] at a b;subst a;subst b;exact m j p c q
def IX(l:List (Int×α)){j:Nat}{p:Int×α}(hi:H[i]?=some [.kH o l.length (seen++[j])])(a:H[o]?=some [qD f l])(b:l[j]?=some p):Bt (.de i 0) H=some (.tuple [.sc (.int .i64 p.1),f p.2]):=by
 unfold Bt;simp only[hi,a,qD,List.getLast?_append,List.getLast?_singleton,Option.some_or,rS,b,NG];rw[bX ⟨th,rfl⟩]
def JB{P:Program}{t:TypeId}{L:List α}{k:Nat}{a:Int}{x:α}(d:dL P t=some (false,1))(g:∀x,(f x).cells=[f x])(hi:cq L a=some x):kD P t (gT f L k) (I9 a.toNat 1)=some (f x):=by
 have b:=Kt hi;have c:=(jL.1 b).1
 have e:(L.map f).flatMap AV.cells=L.map f:=by
  clear hi b c
  induction L with
  |nil=>rfl|cons x L h=>simp[g,h]
 unfold kD gT;rw[d,DJ,Tn,e];simp only;rw[ni (by simpa using c),rS,b];rfl
end
def MC{n:Int}:∀(L:List Int) (i:Nat),Dz L->n∉L->i<=L.length->(∀a∈L.drop i,a>n)->(i=0\/∃a,L[i-1]?=some a/\¬a>n)->zk n L=L.take i++n::L.drop i
 |[],i,_,_,hi,_,_=>by simp at hi;subst hi;rfl
 |a::L,0,_,_,_,f,_=>by simp[zk,f a th]|a::L,i+1,.cons h j,hn,hi,f,e=>by
  simp only[jA,not_or] at hn
  have g:¬a>n:=by
   rcases e with e|⟨b,c,d⟩
   ·cases e
   ·simp only[R5] at c;cases i with
    |zero=>simp at c;subst c;exact d
    |succ i=>
     simp at c;have:=h b (zT c);omega
  have k:=MC L i j hn.2 (by simpa using hi) (by simpa using f) (by
   cases i with
   |zero=>exact .inl rfl|succ i=>
    rcases e with e|⟨b,c,d⟩
    ·cases e
    ·exact .inr ⟨b,by simpa using c,d⟩)
  simp[zk,g,k]
def PL{i:Nat}(h:i<yX):di .i64 ((i+1:Nat):Int) 1=(i:Int):=by
 have a:i<1099511627776:=h
 have e:((i+1:Nat):Int)-1=(i:Int):=cw
 unfold di;rw[e,IntKind.wrap_i64];omega
def D0(n:Nat)(seen:List Nat):Nat:=((List.range n).filter λj=>!seen.contains j).length
def Lu(n:Nat):D0 n []=n:=by
 unfold D0;rw[Ze.2 th];simp
def OA{n j:Nat}{seen:List Nat}(a:j<n)(hs:j∉seen):D0 n (seen++[j])<D0 n seen:=
 filter_lt (λk=>!seen.contains k) (λk=>!(seen++[j]).contains k) (by intro x;simp;intro h _;exact h) j (by simpa using hs) th (List.range n) (by simpa using a)
end Go.jX
