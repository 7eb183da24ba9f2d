/- Part of the proof of SchemeChains: layer. -/
import Derived.Test.YtpgdkkomegalnaaGreatDoorHL12
set_option linter.all false
namespace Go.lD
open Go Go.fP
section
variable{K:Fr->dV->Prop} {fr:Fr} {H:dV} {α:Type} {f:α->AV} {i o:Nat} {seen:List Nat} {d:Option Nat}
def SE(l:List (Int×α))(hi:H[i]?=some [.mV o l.length seen])(n:H[o]?=some [tQ f l])
  (q:(∀j,j<l.length->j∈seen)->K (fr.put d (.tuple [.sc (.bool false)])) H)
  (r:∀j p,l[j]?=some p->j∉seen->K (fr.put d (.tuple [.sc (.bool true),.sc (.int .i64 p.1),f p.2])) (gk H i [.mV o l.length (seen++[j])])):Mz (.fg i 0) d K fr H:=by
 unfold Mz;simp only[hi,n,tQ];refine⟨abm,?_,λh=>q (by simpa using h),?_⟩
 .rw[kZ];intro x s;obtain⟨p,_,rfl⟩:=ql.1 s;rfl
 .intro j k v a b t;rw[y'] at a b;cases c:l[j]?with
  |none=>rw[c] at a;cases a
  |some p=>
   rw[c] at a b;simp only[ac5,w5] at a b;subst a;subst b;exact r j p c t
def R2(l:List (Int×α)){j:Nat}{p:Int×α}(hi:H[i]?=some [.mV o l.length (seen++[j])])(a:H[o]?=some [tQ f l])(b:l[j]?=some p):Fb (.fg i 0) H=some (.tuple [.sc (.int .i64 p.1),f p.2]):=by
 unfold Fb;simp only[hi,a,tQ,b]
 simp_all
def Ql{P:Program}{t:TypeId}{L:List α}{k:Nat}{a:Int}{x:α}(c:f' P t=some (false,1))(d:∀x,(f x).cells=[f x])(hi:dW L a=some x):mR P t (vi f L k) (QX a.toNat 1)=some (f x):=by
 have hi':=PI hi;have b:=(ru.1 hi').1
 have e:(L.map f).flatMap AV.cells=L.map f:=by
  clear hi hi' b
  induction L with
  |nil=>rfl|cons x L ih=>grind
 grind[mR,vi,Ii]
end
def Uj{n:Int}:∀(L:List Int) (i:Nat),HH L->n∉L->i<=L.length->(∀a∈L.drop i,a>n)->(i=0\/∃a,L[i-1]?=some a/\¬a>n)->Da n L=L.take i++n::L.drop i
 |[],i,_,_,hi,_,_=>by simp at hi;subst hi;rfl
 |a::L,0,_,_,_,h,_=>by simp[Da,h a abm]|a::L,i+1,.cons k l,hn,hi,h,d=>by
  simp only[kX,not_or] at hn
  have j:¬a>n:=by
   rcases d with d|⟨b,f,c⟩
   .cases d
   .cases i with
    |zero=>simp at f;subst f;exact c
    |succ i=>
     simp at f;have:=k b (HP f);omega
  have ih:=Uj L i l hn.2 (by simpa using hi) (by simpa using h) (by
   cases i with
   |zero=>exact .inl rfl|succ i=>
    rcases d with d|⟨b,f,c⟩
    .cases d
    .exact .inr ⟨b,by simpa using f,c⟩)
  simp[Da,j,ih]
def YI{i:Nat}(h:i<BR):fD .i64 ((i+1:Nat):Int) 1=(i:Int):=by
 have a:i<549755813888:=h
 have e:((i+1:Nat):Int)-1=(i:Int):=VW
 unfold fD;rw[e,IntKind.wrap_i64];omega
def Ji(n:Nat)(seen:List Nat):Nat:=((List.range n).filter λj=>!seen.contains j).length
def Ue(n:Nat):Ji n []=n:=by
 unfold Ji;rw[List.filter_eq_self.2 abm];simp
def Wv{n j:Nat}{seen:List Nat}(a:j<n)(hs:j∉seen):Ji n (seen++[j])<Ji n seen:=
 filter_lt (λk=>!seen.contains k) (λk=>!(seen++[j]).contains k) (by intro x;simp;intro h _;exact h) j (by simpa using hs) abm (List.range n) (by simpa using a)
end Go.lD
