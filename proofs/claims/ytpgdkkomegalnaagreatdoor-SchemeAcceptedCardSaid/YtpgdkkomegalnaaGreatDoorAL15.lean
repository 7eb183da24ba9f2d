/- Part of the proof of SchemeAccepted: layer. -/
import Derived.Test.YtpgdkkomegalnaaGreatDoorAL14
set_option linter.all false
namespace Go.kY
open Go Go.fH
section
variable{K:Fr->dT->Prop} {fr:Fr} {H:dT} {α:Type} {f:α->AV} {i o:Nat} {seen:List Nat} {d:Option Nat}
def ON(l:List (Int×α))(hi:H[i]?=some [.mu o l.length seen])(n:H[o]?=some [sR f l])
  (q:(∀j,j<l.length->j∈seen)->K (fr.put d (.tuple [.sc (.bool false)])) H)
  (r:∀j p,l[j]?=some p->j∉seen->K (fr.put d (.tuple [.sc (.bool true),.sc (.int .i64 p.1),f p.2])) (gb H i [.mu o l.length (seen++[j])])):Kk (.eT i 0) d K fr H:=by
 unfold Kk;simp only[hi,n,sR];refine⟨aaF,?_,λh=>q (by simpa using h),?_⟩
 ·rw[kE];intro x s;obtain⟨p,_,rfl⟩:=qv.1 s;rfl
 ·intro j k v a b t;rw[Df] at a b;cases c:l[j]?with
  |none=>rw[c] at a;cases a
  |some p=>
   rw[c] at a b;simp only[YS,BI] at a b;subst a;subst b;exact r j p c t
def Nc(l:List (Int×α)){j:Nat}{p:Int×α}(hi:H[i]?=some [.mu o l.length (seen++[j])])(a:H[o]?=some [sR f l])(b:l[j]?=some p):EY (.eT i 0) H=some (.tuple [.sc (.int .i64 p.1),f p.2]):=by
 unfold EY;simp only[hi,a,sR,b]
 simp_all
def MJ{P:Program}{t:TypeId}{L:List α}{k:Nat}{a:Int}{x:α}(c:fP P t=some (false,1))(d:∀x,(f x).cells=[f x])(hi:eb L a=some x):mm P t (uQ f L k) (MB a.toNat 1)=some (f x):=by
 have hi':=N9 hi;have b:=(ua.1 hi').1
 have e:(L.map f).flatMap AV.cells=L.map f:=by
  clear hi hi' b
  induction L with
  |nil=>rfl|cons x L ih=>grind
 grind[mm,uQ,Ha]
end
def PD{n:Int}:∀(L:List Int) (i:Nat),G2 L->n∉L->i<=L.length->(∀a∈L.drop i,a>n)->(i=0\/∃a,L[i-1]?=some a/\¬a>n)->Dh n L=L.take i++n::L.drop i
 |[],i,_,_,hi,_,_=>by simp at hi;subst hi;rfl
 |a::L,0,_,_,_,h,_=>by simp[Dh,h a aaF]|a::L,i+1,.cons k l,hn,hi,h,d=>by
  simp only[lS,not_or] at hn
  have j:¬a>n:=by
   rcases d with d|⟨b,f,c⟩
   ·cases d
   ·cases i with
    |zero=>simp at f;subst f;exact c
    |succ i=>
     simp at f;have:=k b (IN f);omega
  have ih:=PD L i l hn.2 (by simpa using hi) (by simpa using h) (by
   cases i with
   |zero=>exact .inl rfl|succ i=>
    rcases d with d|⟨b,f,c⟩
    ·cases d
    ·exact .inr ⟨b,by simpa using f,c⟩)
  simp[Dh,j,ih]
def Vq{i:Nat}(h:i<ve):fU .i64 ((i+1:Nat):Int) 1=(i:Int):=by
 have a:i<549755813888:=h
 have e:((i+1:Nat):Int)-1=(i:Int):=VW
 unfold fU;rw[e,IntKind.wrap_i64];omega
def H8(n:Nat)(seen:List Nat):Nat:=((List.range n).filter λj=>!seen.contains j).length
def PY(n:Nat):H8 n []=n:=by
 unfold H8;rw[List.filter_eq_self.2 aaF];simp
def S9{n j:Nat}{seen:List Nat}(a:j<n)(hs:j∉seen):H8 n (seen++[j])<H8 n seen:=
 filter_lt (λk=>!seen.contains k) (λk=>!(seen++[j]).contains k) (by intro x;simp;intro h _;exact h) j (by simpa using hs) aaF (List.range n) (by simpa using a)
end Go.kY
