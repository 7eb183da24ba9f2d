/- Part of the proof of SchemeComputes: layer. -/
import Derived.Test.YtpgdkkomegalnaaGreatDoorCL14
set_option linter.all false
namespace Go.ld
open Go Go.fF
section
variable{K:Fr->dZ->Prop} {fr:Fr} {H:dZ} {α:Type} {f:α->AV} {i o:Nat} {seen:List Nat} {d:Option Nat}
def Rl(l:List (Int×α))(hi:H[i]?=some [.mL o l.length seen])(n:H[o]?=some [tu f l])
  (q:(∀j,j<l.length->j∈seen)->K (fr.put d (.tuple [.sc (.bool false)])) H)
  (r:∀j p,l[j]?=some p->j∉seen->K (fr.put d (.tuple [.sc (.bool true),.sc (.int .i64 p.1),f p.2])) (gx H i [.mL o l.length (seen++[j])])):LW (.fh i 0) d K fr H:=by
 unfold LW;simp only[hi,n,tu];refine⟨aaA,?_,λh=>q (by simpa using h),?_⟩
 ·rw[ll];intro x s;obtain⟨p,_,rfl⟩:=qz.1 s;rfl
 ·intro j k v a b t;rw[zl] at a b;cases c:l[j]?with
  |none=>rw[c] at a;cases a
  |some p=>
   rw[c] at a b;simp only[abj,CA] at a b;subst a;subst b;exact r j p c t
def N7(l:List (Int×α)){j:Nat}{p:Int×α}(hi:H[i]?=some [.mL o l.length (seen++[j])])(a:H[o]?=some [tu f l])(b:l[j]?=some p):Ge (.fh i 0) H=some (.tuple [.sc (.int .i64 p.1),f p.2]):=by
 unfold Ge;simp only[hi,a,tu,b]
 simp_all
def N2{P:Program}{t:TypeId}{L:List α}{k:Nat}{a:Int}{x:α}(c:gb P t=some (false,1))(d:∀x,(f x).cells=[f x])(hi:dX L a=some x):mB P t (vP f L k) (Qe a.toNat 1)=some (f x):=by
 have hi':=OE hi;have b:=(s7.1 hi').1
 have e:(L.map f).flatMap AV.cells=L.map f:=by
  clear hi hi' b
  induction L with
  |nil=>rfl|cons x L ih=>grind
 grind[mB,vP,Ik]
end
def RR{n:Int}:∀(L:List Int) (i:Nat),HT L->n∉L->i<=L.length->(∀a∈L.drop i,a>n)->(i=0\/∃a,L[i-1]?=some a/\¬a>n)->DW n L=L.take i++n::L.drop i
 |[],i,_,_,hi,_,_=>by simp at hi;subst hi;rfl
 |a::L,0,_,_,_,h,_=>by simp[DW,h a aaA]|a::L,i+1,.cons k l,hn,hi,h,d=>by
  simp only[mb,not_or] at hn
  have j:¬a>n:=by
   rcases d with d|⟨b,f,c⟩
   ·cases d
   ·cases i with
    |zero=>simp at f;subst f;exact c
    |succ i=>
     simp at f;have:=k b (H9 f);omega
  have ih:=RR L i l hn.2 (by simpa using hi) (by simpa using h) (by
   cases i with
   |zero=>exact .inl rfl|succ i=>
    rcases d with d|⟨b,f,c⟩
    ·cases d
    ·exact .inr ⟨b,by simpa using f,c⟩)
  simp[DW,j,ih]
def Xd{i:Nat}(h:i<yU):fL .i64 ((i+1:Nat):Int) 1=(i:Int):=by
 have a:i<549755813888:=h
 have e:((i+1:Nat):Int)-1=(i:Int):=VW
 unfold fL;rw[e,IntKind.wrap_i64];omega
def Jm(n:Nat)(seen:List Nat):Nat:=((List.range n).filter λj=>!seen.contains j).length
def Rw(n:Nat):Jm n []=n:=by
 unfold Jm;rw[List.filter_eq_self.2 aaA];simp
def Uq{n j:Nat}{seen:List Nat}(a:j<n)(hs:j∉seen):Jm n (seen++[j])<Jm n seen:=
 filter_lt (λk=>!seen.contains k) (λk=>!(seen++[j]).contains k) (by intro x;simp;intro h _;exact h) j (by simpa using hs) aaA (List.range n) (by simpa using a)
end Go.ld
