/- Part of the proof of SchemeAccepted: layer. -/
import Derived.Below
import Derived.Laws.BytesArg
import Derived.Test.YtpgdkkomegalnaaGreatDoorAB1
set_option linter.all false
namespace Go.fH
open Go
def fl(k:IntKind)(a b:Int):Int:=k.wrap (a+b)
def fU(k:IntKind)(a b:Int):Int:=k.wrap (a-b)
def Sz(k:IntKind)(a b:Int):Int:=k.wrap (a*b)
def UI(c:IntKind)(a b:Int):Int:=a.tmod b
def ue(k:IntKind)(a b:Int):Int:=k.wrap (BitVec.ofInt k.bits a&&&BitVec.ofInt k.bits b).toNat
def JU(k:IntKind)(a b:Int):Int:=k.wrap (BitVec.ofInt k.bits a|||BitVec.ofInt k.bits b).toNat
def Ve(k:IntKind)(a b:Int):Int:=k.wrap (a*2^min b.toNat k.bits)
def Vr(k:IntKind)(a b:Int):Int:=a.fdiv (2^min b.toNat k.bits)
def ei(a b:Int):Bool:=a==b
def eE(a b:Int):Bool:=a !=b
def sx(a b:Int):Bool:=a<b
def XA(a b:Int):Bool:=a<=b
def o0(a b:Int):Bool:=a>b
def rb(a b:Int):Bool:=a>=b
def conv(k:IntKind)(a:Int):Int:=k.wrap a
def imax(a b:Int):Int:=if b>a then b else a
def mS(a:Bool):Bool:=!a
def seq(x y:ByteArray):Bool:=x.toList==y.toList
def e_{α:Type}(c:Bool)(a b:α):α:=if c then a else b
@[simp] theorem D0{α:Type}(a b:α):e_ true a b=a:=rfl
@[simp] theorem A6{α:Type}(a b:α):e_ false a b=b:=rfl
def ez{α:Type}(l:List α):Int:=l.length
def eb{α:Type}(l:List α)(i:Int):Option α:=if 0<=i then l[i.toNat]?else none
def fT{α:Type}(l m:List α):List α:=l++m
def Ag{α:Type}(l:List α)(lo hi:Int):Option (List α):=if 0<=lo/\0<=hi/\hi.toNat<=l.length/\lo.toNat<=hi.toNat then some ((l.take hi.toNat).drop lo.toNat)else none
def v_{α:Type}:List (Int×α)->Int->α->List (Int×α)
 |[],k,v=>[(k,v)]|p::l,k,v=>if p.1=k then(k,v)::l else p::v_ l k v
def ve:Nat:=549755813888
def fL{α:Type}(l m:List α):Bool:=decide (l.length+m.length<=ve)
def eP{α:Type}(l:List α):Bool:=decide (l.length<=ve)
def Kz(b:Int):Bool:=!decide (b=0)
def Li(b:Int):Bool:=!decide (b<0)
@[irreducible] def FU:Nat:=1000000000
theorem fD:FU=1000000000:=by unfold FU;rfl
section
variable{α β γ δ ε ζ η ρ σ τ:Type}
def dE(o:Option α)(f:α->Option ρ):Option ρ:=match o with|some a=>f a|none=>none
def dS(o:Option (α×β))(f:α->β->Option ρ):Option ρ:=match o with|some (a,b)=>f a b|none=>none
def fE(o:Option (α×β×γ))(f:α->β->γ->Option ρ):Option ρ:=match o with|some (a,b,c)=>f a b c|none=>none
def Rw(o:Option (α×β×γ×δ))(f:α->β->γ->δ->Option ρ):Option ρ:=match o with|some (a,b,c,d)=>f a b c d|none=>none
def Wz(o:Option (α×β×γ×δ×ε))(f:α->β->γ->δ->ε->Option ρ):Option ρ:=match o with|some (a,b,c,d,e)=>f a b c d e|none=>none
def gu(p:Bool)(o:Option ρ):Option ρ:=if p then o else none
def eh{κ:Type}(k:κ)(b:κ->Option ρ):Option ρ:=b k
@[simp] theorem dF(a:α)(f:α->Option ρ):dE (some a) f=f a:=rfl
@[simp] theorem dN(a:α)(b:β)(f:α->β->Option ρ):dS (some (a,b)) f=f a b:=rfl
@[simp] theorem lI(a:α)(b:β)(c:γ)(f:α->β->γ->Option ρ):fE (some (a,b,c)) f=f a b c:=rfl
@[simp] theorem dX(o:Option ρ):gu true o=o:=rfl
@[simp] theorem dZ{κ:Type}(k:κ)(b:κ->Option ρ):eh k b=b k:=rfl
def lv{o:Option α}{f:α->Option ρ}{r:ρ}(h:dE o f=some r):∃a,o=some a/\f a=some r:=by
 cases o with|none=>cases h|some a=>exact⟨a,rfl,h⟩
def Cp{o:Option (α×β)}{f:α->β->Option ρ}{r:ρ}(h:dS o f=some r):∃a b,o=some (a,b)/\f a b=some r:=by
 cases o with|none=>cases h|some a=>exact⟨a.1,a.2,rfl,h⟩
def CU{o:Option (α×β×γ)}{f:α->β->γ->Option ρ}{r:ρ}(h:fE o f=some r):∃a b c,o=some (a,b,c)/\f a b c=some r:=by
 cases o with|none=>cases h|some a=>exact⟨a.1,a.2.1,a.2.2,rfl,h⟩
def Qe{o:Option (α×β×γ×δ)}{f:α->β->γ->δ->Option ρ}{r:ρ}(h:Rw o f=some r):∃a b c d,o=some (a,b,c,d)/\f a b c d=some r:=by
 cases o with|none=>cases h|some a=>exact⟨a.1,a.2.1,a.2.2.1,a.2.2.2,rfl,h⟩
def O2{o:Option (α×β×γ×δ×ε)}{f:α->β->γ->δ->ε->Option ρ}{r:ρ}(h:Wz o f=some r):∃a b c d e,o=some (a,b,c,d,e)/\f a b c d e=some r:=by
 cases o with|none=>cases h|some a=>exact⟨a.1,a.2.1,a.2.2.1,a.2.2.2.1,a.2.2.2.2,rfl,h⟩
def rU{p:Bool}{o:Option ρ}{r:ρ}(h:gu p o=some r):p=true/\o=some r:=by
 cases p with|false=>cases h|true=>exact⟨rfl,h⟩
def Cu{κ:Type}{k:κ}{b:κ->Option ρ}{r:ρ}(h:eh k b=some r):∃j,j=k/\b j=some r:=⟨k,rfl,h⟩
def Er{c:Bool}{a b:Option ρ}{r:ρ}(h:(if c then a else b)=some r):c=true/\a=some r\/c=false/\b=some r:=by
 cases c with|false=>exact .inr ⟨rfl,h⟩|true=>exact .inl ⟨rfl,h⟩
inductive fZ (σ ρ:Type) where
 |next (s:σ)|Jq (s:σ)|ret (r:ρ)
def P_(k:σ->Option (σ⊕ρ)):fZ σ ρ->Option (σ⊕ρ)
 |.next s=>k s|.Jq s=>some (.inl s)|.ret r=>some (.inr r)
def fO(k:σ->Option τ)(r:ρ->Option τ):σ⊕ρ->Option τ
 |.inl s=>k s|.inr x=>r x
@[simp] theorem fw(k:σ->Option (σ⊕ρ))(s:σ):P_ k (.next s)=k s:=rfl
@[simp] theorem MW(k:σ->Option (σ⊕ρ))(x:ρ):P_ k (.ret x)=some (.inr x):=rfl
@[simp] theorem ew(k:σ->Option τ)(r:ρ->Option τ)(s:σ):fO k r (.inl s)=k s:=rfl
@[simp] theorem rR(k:σ->Option τ)(r:ρ->Option τ)(x:ρ):fO k r (.inr x)=r x:=rfl
def eY(f:Int->α->σ->Option (fZ σ ρ)):List α->Nat->σ->Option (σ⊕ρ)
 |[],_,s=>some (.inl s)|x::l,i,s=>dE (f (i:Int) x s) (P_ (eY f l (i+1)))
def oC(f:σ->Option (fZ σ ρ)):Nat->σ->Option (σ⊕ρ)
 |0,_=>none|n+1,s=>dE (f s) (P_ (oC f n))
@[simp] theorem pj(f:Int->α->σ->Option (fZ σ ρ))(i:Nat)(s:σ):eY f [] i s=some (.inl s):=rfl
@[simp] theorem fp(f:Int->α->σ->Option (fZ σ ρ))(x:α)(l:List α)(i:Nat)(s:σ):eY f (x::l) i s=dE (f (i:Int) x s) (P_ (eY f l (i+1))):=rfl
def zU(f:α->β->τ)(p:α×β):τ:=f p.1 p.2
def Xz(f:α->β->γ->τ)(p:α×β×γ):τ:=f p.1 p.2.1 p.2.2
def un4(f:α->β->γ->δ->τ)(p:α×β×γ×δ):τ:=f p.1 p.2.1 p.2.2.1 p.2.2.2
def un5(f:α->β->γ->δ->ε->τ)(p:α×β×γ×δ×ε):τ:=f p.1 p.2.1 p.2.2.1 p.2.2.2.1 p.2.2.2.2
def Ts(f:α->β->γ->δ->ε->ζ->τ)(p:α×β×γ×δ×ε×ζ):τ:=f p.1 p.2.1 p.2.2.1 p.2.2.2.1 p.2.2.2.2.1 p.2.2.2.2.2
@[simp] theorem oO(f:α->β->τ)(a:α)(b:β):zU f (a,b)=f a b:=rfl
@[simp] theorem FJ(f:α->β->γ->τ)(a:α)(b:β)(c:γ):Xz f (a,b,c)=f a b c:=rfl
@[simp] theorem E2(f:α->β->γ->δ->τ)(a:α)(b:β)(c:γ)(d:δ):un4 f (a,b,c,d)=f a b c d:=rfl
@[simp] theorem CJ(f:α->β->γ->δ->ε->τ)(a:α)(b:β)(c:γ)(d:δ)(e:ε):un5 f (a,b,c,d,e)=f a b c d e:=rfl
@[simp] theorem AG(f:α->β->γ->δ->ε->ζ->τ)(a:α)(b:β)(c:γ)(d:δ)(e:ε)(g:ζ):Ts f (a,b,c,d,e,g)=f a b c d e g:=rfl
end
def un9{α β γ δ ε ζ η θ ι τ:Type}(f:α->β->γ->δ->ε->ζ->η->θ->ι->τ)(p:α×β×γ×δ×ε×ζ×η×θ×ι):τ:=f p.1 p.2.1 p.2.2.1 p.2.2.2.1 p.2.2.2.2.1 p.2.2.2.2.2.1 p.2.2.2.2.2.2.1 p.2.2.2.2.2.2.2.1 p.2.2.2.2.2.2.2.2
@[simp] theorem WC{α β γ δ ε ζ η θ ι τ:Type}(f:α->β->γ->δ->ε->ζ->η->θ->ι->τ)(a:α)(b:β)(c:γ)(d:δ)(e:ε)(g:ζ)(h:η)(i:θ)(j:ι):un9 f (a,b,c,d,e,g,h,i,j)=f a b c d e g h i j:=rfl
def VF{α β γ δ ε ζ η θ ι κ μ τ:Type}(f:α->β->γ->δ->ε->ζ->η->θ->ι->κ->μ->τ)(p:α×β×γ×δ×ε×ζ×η×θ×ι×κ×μ):τ:=f p.1 p.2.1 p.2.2.1 p.2.2.2.1 p.2.2.2.2.1 p.2.2.2.2.2.1 p.2.2.2.2.2.2.1 p.2.2.2.2.2.2.2.1 p.2.2.2.2.2.2.2.2.1 p.2.2.2.2.2.2.2.2.2.1 p.2.2.2.2.2.2.2.2.2.2
@[simp] theorem Ht{α β γ δ ε ζ η θ ι κ μ τ:Type}(f:α->β->γ->δ->ε->ζ->η->θ->ι->κ->μ->τ)(a:α)(b:β)(c:γ)(d:δ)(e:ε)(g:ζ)(h:η)(i:θ)(j:ι)(k:κ)(l:μ):VF f (a,b,c,d,e,g,h,i,j,k,l)=f a b c d e g h i j k l:=rfl
def acy{α β γ δ ε ζ η θ ι κ μ ν τ:Type}(f:α->β->γ->δ->ε->ζ->η->θ->ι->κ->μ->ν->τ)(p:α×β×γ×δ×ε×ζ×η×θ×ι×κ×μ×ν):τ:=f p.1 p.2.1 p.2.2.1 p.2.2.2.1 p.2.2.2.2.1 p.2.2.2.2.2.1 p.2.2.2.2.2.2.1 p.2.2.2.2.2.2.2.1 p.2.2.2.2.2.2.2.2.1 p.2.2.2.2.2.2.2.2.2.1 p.2.2.2.2.2.2.2.2.2.2.1 p.2.2.2.2.2.2.2.2.2.2.2
@[simp] theorem Q8{α β γ δ ε ζ η θ ι κ μ ν τ:Type}(f:α->β->γ->δ->ε->ζ->η->θ->ι->κ->μ->ν->τ)(a:α)(b:β)(c:γ)(d:δ)(e:ε)(g:ζ)(h:η)(i:θ)(j:ι)(k:κ)(l:μ)(m:ν):acy f (a,b,c,d,e,g,h,i,j,k,l,m)=f a b c d e g h i j k l m:=rfl
section
variable{α σ ρ:Type}
def QU{l:List α}{i:Nat}(h:i<l.length):∃x,l.drop i=x::l.drop (i+1)/\eb l (i:Int)=some x:=
 ⟨l[i],NI h,by unfold eb;rw[dO VW];simp[h]⟩
def Vm{l:List α}{i:Nat}(h:i<l.length):sx (i:Int) (ez l)=true:=by unfold sx ez;simpa using h
def YK{l:List α}{i:Nat}(h:l.length<=i):sx (i:Int) (ez l)=false:=by unfold sx ez;simpa using h
def ML{l:List α}(h:eP l=true):l.length<=ve:=by simpa[eP] using h
def Ov{l m:List α}(h:fL l m=true):l.length+m.length<=ve:=by simpa[fL] using h
def NX{l:List α}{i:Nat}(h:i<l.length)(a:eP l=true):fl .i64 (i:Int) 1=((i+1:Nat):Int):=by
 have b:=ML a;unfold ve at b;unfold fl;rw[IntKind.wrap_i64];omega
def Ub{l:List α}{i:Nat}{j:Int}(a:j=(i:Int))(h:i<l.length):∃x,l.drop i=x::l.drop (i+1)/\eb l j=some x:=by subst a;exact QU h
def XE{l:List α}{i:Nat}{j:Int}(a:j=(i:Int))(h:i<l.length):sx j (ez l)=true:=by subst a;exact Vm h
def UZ{l:List α}{i:Nat}{j:Int}(a:j=(i:Int))(h:l.length<=i):sx j (ez l)=false:=by subst a;exact YK h
def SD{l:List α}{i:Nat}{j:Int}(a:j=(i:Int))(h:i<l.length)(b:eP l=true):fl .i64 j 1=((i+1:Nat):Int):=by subst a;exact NX h b
def rf(f:σ->Option (fZ σ ρ))(n:Nat)(s:σ):oC f (n+1) s=dE (f s) (P_ (oC f n)):=rfl
@[simp] theorem RS:mS true=false:=rfl
@[simp] theorem abU:mS false=true:=rfl
def No(l m:List α):(fT l m).length=l.length+m.length:=by unfold fT;simp
end
def qy{S R:Type}(o:Option R)(s:S):Option (R×S):=match o with|some r=>some (r,s)|none=>none
@[simp] theorem Gm{S R:Type}(r:R)(s:S):qy (some r) s=some (r,s):=rfl
def y7{S R:Type}{o:Option R}{s a:S}{r:R}(h:qy o s=some (r,a)):o=some r/\a=s:=by
 cases o with
 |none=>cases h
 |some x=>
  have:=lE h;exact⟨by rw[(iE this).1],((iE this).2).symm⟩
def Fk{α:Type}(l:List α)(i:Int)(x:α):List α:=l.set i.toNat x
def HU{α:Type}(l:List α):Bool:=decide (0<l.length/\l.length<=ve)
def N9{α:Type}{l:List α}{i:Int}{x:α}(h:eb l i=some x):l[i.toNat]?=some x:=by
 unfold eb at h
 split at h
 ·exact h
 ·cases h
def Pw{α:Type}{l:List α}{i:Int}{x:α}(h:eb l i=some x):0<=i/\i<(l.length:Int):=by
 unfold eb at h
 split at h
 ·rename_i a;have:=(ua.1 h).1;omega
 ·cases h
@[simp] theorem aax{α:Type}(l:List α)(i:Int)(x:α):(Fk l i x).length=l.length:=by simp[Fk]
end Go.fH
