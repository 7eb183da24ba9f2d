/- Part of the proof of SchemeAccepted: layer. -/
import Derived.Test.YtpgdkkomegalnaaGreatDoorL14
set_option linter.all false
namespace Go.kY
open Go Go.fN
section
variable{K:Fr->dS->Prop} {fr:Fr} {H:dS} {α:Type} {f:α->AV} {i o:Nat} {seen:List Nat} {d:Option Nat}
def RZ(l:List (Int×α))(hi:H[i]?=some [.mH o l.length seen])(n:H[o]?=some [tJ f l])
  (q:(∀j,j<l.length->j∈seen)->K (fr.put d (.tuple [.sc (.bool false)])) H)
  (r:∀j p,l[j]?=some p->j∉seen->K (fr.put d (.tuple [.sc (.bool true),.sc (.int .i64 p.1),f p.2])) (fo H i [.mH o l.length (seen++[j])])):Ls (.eK i 0) d K fr H:=by
 unfold Ls;simp only[hi,n,tJ];refine⟨LA,?_,λh=>q (by simpa using h),?_⟩
 ·rw[kE];intro x s;obtain⟨p,_,rfl⟩:=qq.1 s;rfl
 ·intro j k v a b t;rw[Co] at a b;cases c:l[j]?with
  |none=>rw[c] at a;cases a
  |some p=>
   rw[c] at a b;simp only[abJ,wc] at a b;subst a;subst b;exact r j p c t
def Ox(l:List (Int×α)){j:Nat}{p:Int×α}(hi:H[i]?=some [.mH o l.length (seen++[j])])(a:H[o]?=some [tJ f l])(b:l[j]?=some p):E4 (.eK i 0) H=some (.tuple [.sc (.int .i64 p.1),f p.2]):=by
 unfold E4;simp only[hi,a,tJ,b]
 simp_all
def QS{P:Program}{t:TypeId}{L:List α}{k:Nat}{a:Int}{x:α}(c:fu P t=some (false,1))(d:∀x,(f x).cells=[f x])(hi:dX L a=some x):mr P t (ux f L k) (Pu a.toNat 1)=some (f x):=by
 have hi':=QA hi;have b:=(sX.1 hi').1
 have e:(L.map f).flatMap AV.cells=L.map f:=by
  clear hi hi' b
  induction L with
  |nil=>rfl|cons x L ih=>grind
 grind[mr,ux,Hb]
end
def R0{n:Int}:∀(L:List Int) (i:Nat),GP L->n∉L->i<=L.length->(∀a∈L.drop i,a>n)->(i=0\/∃a,L[i-1]?=some a/\¬a>n)->Ci n L=L.take i++n::L.drop i
 |[],i,_,_,hi,_,_=>by simp at hi;subst hi;rfl
 |a::L,0,_,_,_,h,_=>by simp[Ci,h a LA]|a::L,i+1,.cons k l,hn,hi,h,d=>by
  simp only[lX,not_or] at hn
  have j:¬a>n:=by
   rcases d with d|⟨b,f,c⟩
   ·cases d
   ·cases i with
    |zero=>simp at f;subst f;exact c
    |succ i=>
     simp at f;have:=k b (H9 f);omega
  have ih:=R0 L i l hn.2 (by simpa using hi) (by simpa using h) (by
   cases i with
   |zero=>exact .inl rfl|succ i=>
    rcases d with d|⟨b,f,c⟩
    ·cases d
    ·exact .inr ⟨b,by simpa using f,c⟩)
  simp[Ci,j,ih]
def Yw{i:Nat}(h:i<uO):fH .i64 ((i+1:Nat):Int) 1=(i:Int):=by
 have a:i<549755813888:=h
 have e:((i+1:Nat):Int)-1=(i:Int):=xL
 unfold fH;rw[e,IntKind.wrap_i64];omega
def IB(n:Nat)(seen:List Nat):Nat:=((List.range n).filter λj=>!seen.contains j).length
def S4(n:Nat):IB n []=n:=by
 unfold IB;rw[List.filter_eq_self.2 LA];simp
def Vd{n j:Nat}{seen:List Nat}(a:j<n)(hs:j∉seen):IB n (seen++[j])<IB n seen:=
 filter_lt (λk=>!seen.contains k) (λk=>!(seen++[j]).contains k) (by intro x;simp;intro h _;exact h) j (by simpa using hs) LA (List.range n) (by simpa using a)
end Go.kY
