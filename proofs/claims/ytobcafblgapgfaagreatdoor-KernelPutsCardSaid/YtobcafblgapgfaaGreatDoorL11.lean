/- Part of the proof of KernelLifts, KernelPuts, KernelCuts: layer. -/
import Derived.Test.YtobcafblgapgfaaGreatDoorL10
set_option linter.all false
namespace Go.tq
open Go Go.eD
section
variable{K:Fr->dM->Prop} {fr:Fr} {H:dM} {α:Type} {f:α->AV} {i o:Nat} {seen:List Nat} {d:Option Nat}
def UU(l:List (Int×α))(hi:H[i]?=some [.ue o l.length seen])(e:H[o]?=some [B3 f l])
  (g:(∀j,j<l.length->j∈seen)->K (fr.put d (.tuple [.sc (.bool false)])) H)
  (m:∀j p,l[j]?=some p->j∉seen->K (fr.put d (.tuple [.sc (.bool true),.sc (.int .i64 p.1),f p.2])) (iE H i [.ue o l.length (seen++[j])])):Rb (.gS i 0) d K fr H:=by
 unfold Rb;simp only[hi,e,B3];refine⟨aae,?_,λh=>g (by simpa using h),?_⟩
 ·rw[gR];intro x n;obtain⟨p,_,rfl⟩:=nj.1 n;rfl
 ·intro j k v a b q;rw[x_] at a b;cases c:l[j]?with
  |none=>rw[c] at a;cases a
  |some p=>
   rw[c] at a b;simp only[XF,zq] at a b;subst a;subst b;exact m j p c q
def SM(l:List (Int×α)){j:Nat}{p:Int×α}(hi:H[i]?=some [.ue o l.length (seen++[j])])(a:H[o]?=some [B3 f l])(b:l[j]?=some p):MY (.gS i 0) H=some (.tuple [.sc (.int .i64 p.1),f p.2]):=by
 unfold MY;simp only[hi,a,B3,List.getLast?_append,List.getLast?_singleton,Option.some_or,x_,b,XF];rw[cL ⟨aae,rfl⟩]
def S5{P:Program}{t:TypeId}{L:List α}{k:Nat}{a:Int}{x:α}(c:jd P t=some (false,1))(d:∀x,(f x).cells=[f x])(hi:du L a=some x):tH P t (CG f L k) (Ua a.toNat 1)=some (f x):=by
 have hi':=Tr hi;have b:=(qR.1 hi').1
 have e:(L.map f).flatMap AV.cells=L.map f:=by
  clear hi hi' b
  induction L with
  |nil=>rfl|cons x L g=>simp[d,g]
 unfold tH CG;rw[c,Oi,Nat.mul_one,e];simp only;rw[uj (by simpa using b),x_,hi'];rfl
end
def Ue{n:Int}:∀(L:List Int) (i:Nat),Dk L->n∉L->i<=L.length->(∀a∈L.drop i,a>n)->(i=0\/∃a,L[i-1]?=some a/\¬a>n)->HE n L=L.take i++n::L.drop i
 |[],i,_,_,hi,_,_=>by simp at hi;subst hi;rfl
 |a::L,0,_,_,_,f,_=>by simp[HE,f a aae]|a::L,i+1,.cons h j,hn,hi,f,e=>by
  simp only[gT,not_or] at hn
  have g:¬a>n:=by
   rcases e with e|⟨b,c,d⟩
   ·cases e
   ·simp only[Vo] at c;cases i with
    |zero=>simp at c;subst c;exact d
    |succ i=>
     simp at c;have:=h b (AY c);omega
  have k:=Ue L i j hn.2 (by simpa using hi) (by simpa using f) (by
   cases i with
   |zero=>exact .inl rfl|succ i=>
    rcases e with e|⟨b,c,d⟩
    ·cases e
    ·exact .inr ⟨b,by simpa using c,d⟩)
  simp[HE,g,k]
def Xt{i:Nat}(h:i<m0):eH .i64 ((i+1:Nat):Int) 1=(i:Int):=by
 have a:i<1099511627776:=h
 have e:((i+1:Nat):Int)-1=(i:Int):=Zb
 unfold eH;rw[e,IntKind.wrap_i64];omega
def Ot(n:Nat)(seen:List Nat):Nat:=((List.range n).filter λj=>!seen.contains j).length
def UX(n:Nat):Ot n []=n:=by
 unfold Ot;rw[List.filter_eq_self.2 aae];simp
def VB{n j:Nat}{seen:List Nat}(a:j<n)(hs:j∉seen):Ot n (seen++[j])<Ot n seen:=
 filter_lt (λk=>!seen.contains k) (λk=>!(seen++[j]).contains k) (by intro x;simp;intro h _;exact h) j (by simpa using hs) aae (List.range n) (by simpa using a)
end Go.tq
