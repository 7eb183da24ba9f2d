/- Part of the proof of SchemeAccepted: layer. -/
import Derived.Below
import Derived.Laws.BytesArg
import Derived.Test.YtpgdkkomegalnaaGreatDoorB1
set_option linter.all false
namespace Go.fN
open Go
def eL(k:IntKind)(a b:Int):Int:=k.wrap (a+b)
def fH(k:IntKind)(a b:Int):Int:=k.wrap (a-b)
def Nc(k:IntKind)(a b:Int):Int:=k.wrap (a*b)
def YV(c:IntKind)(a b:Int):Int:=a.tmod b
def tF(k:IntKind)(a b:Int):Int:=k.wrap (BitVec.ofInt k.bits a&&&BitVec.ofInt k.bits b).toNat
def Fl(k:IntKind)(a b:Int):Int:=k.wrap (BitVec.ofInt k.bits a|||BitVec.ofInt k.bits b).toNat
def Z4(k:IntKind)(a b:Int):Int:=k.wrap (a*2^min b.toNat k.bits)
def Zt(k:IntKind)(a b:Int):Int:=a.fdiv (2^min b.toNat k.bits)
def ee(a b:Int):Bool:=a==b
def eD(a b:Int):Bool:=a !=b
def rA(a b:Int):Bool:=a<b
def UD(a b:Int):Bool:=a<=b
def oC(a b:Int):Bool:=a>b
def qn(a b:Int):Bool:=a>=b
def conv(k:IntKind)(a:Int):Int:=k.wrap a
def imax(a b:Int):Int:=if b>a then b else a
def m6(a:Bool):Bool:=!a
def seq(x y:ByteArray):Bool:=x.toList==y.toList
def e_{α:Type}(c:Bool)(a b:α):α:=if c then a else b
@[simp] theorem D4{α:Type}(a b:α):e_ true a b=a:=rfl
@[simp] theorem A2{α:Type}(a b:α):e_ false a b=b:=rfl
def ey{α:Type}(l:List α):Int:=l.length
def dX{α:Type}(l:List α)(i:Int):Option α:=if 0<=i then l[i.toNat]?else none
def fT{α:Type}(l m:List α):List α:=l++m
def Ag{α:Type}(l:List α)(lo hi:Int):Option (List α):=if 0<=lo/\0<=hi/\hi.toNat<=l.length/\lo.toNat<=hi.toNat then some ((l.take hi.toNat).drop lo.toNat)else none
def vu{α:Type}:List (Int×α)->Int->α->List (Int×α)
 |[],k,v=>[(k,v)]|p::l,k,v=>if p.1=k then(k,v)::l else p::vu l k v
def uO:Nat:=549755813888
def fK{α:Type}(l m:List α):Bool:=decide (l.length+m.length<=uO)
def eM{α:Type}(l:List α):Bool:=decide (l.length<=uO)
def L8(b:Int):Bool:=!decide (b=0)
def Ml(b:Int):Bool:=!decide (b<0)
@[irreducible] def FU:Nat:=1000000000
theorem fI:FU=1000000000:=by unfold FU;rfl
section
variable{α β γ δ ε ζ η ρ σ τ:Type}
def dE(o:Option α)(f:α->Option ρ):Option ρ:=match o with|some a=>f a|none=>none
def dR(o:Option (α×β))(f:α->β->Option ρ):Option ρ:=match o with|some (a,b)=>f a b|none=>none
def fB(o:Option (α×β×γ))(f:α->β->γ->Option ρ):Option ρ:=match o with|some (a,b,c)=>f a b c|none=>none
def OY(o:Option (α×β×γ×δ))(f:α->β->γ->δ->Option ρ):Option ρ:=match o with|some (a,b,c,d)=>f a b c d|none=>none
def TV(o:Option (α×β×γ×δ×ε))(f:α->β->γ->δ->ε->Option ρ):Option ρ:=match o with|some (a,b,c,d,e)=>f a b c d e|none=>none
def gh(p:Bool)(o:Option ρ):Option ρ:=if p then o else none
def ec{κ:Type}(k:κ)(b:κ->Option ρ):Option ρ:=b k
@[simp] theorem dF(a:α)(f:α->Option ρ):dE (some a) f=f a:=rfl
@[simp] theorem dN(a:α)(b:β)(f:α->β->Option ρ):dR (some (a,b)) f=f a b:=rfl
@[simp] theorem lS(a:α)(b:β)(c:γ)(f:α->β->γ->Option ρ):fB (some (a,b,c)) f=f a b c:=rfl
@[simp] theorem ajf(a:α)(b:β)(c:γ)(d:δ)(f:α->β->γ->δ->Option ρ):OY (some (a,b,c,d)) f=f a b c d:=rfl
@[simp] theorem ajo(a:α)(b:β)(c:γ)(d:δ)(e:ε)(f:α->β->γ->δ->ε->Option ρ):TV (some (a,b,c,d,e)) f=f a b c d e:=rfl
@[simp] theorem ahQ(f:α->Option ρ):dE none f=none:=rfl
@[simp] theorem dY(o:Option ρ):gh true o=o:=rfl
@[simp] theorem aia(o:Option ρ):gh false o=none:=rfl
@[simp] theorem d_{κ:Type}(k:κ)(b:κ->Option ρ):ec k b=b k:=rfl
def ep{o:Option α}{f:α->Option ρ}{r:ρ}(h:dE o f=some r):∃a,o=some a/\f a=some r:=by
 cases o with|none=>cases h|some a=>exact⟨a,rfl,h⟩
def ik{o:Option (α×β)}{f:α->β->Option ρ}{r:ρ}(h:dR o f=some r):∃a b,o=some (a,b)/\f a b=some r:=by
 cases o with|none=>cases h|some a=>exact⟨a.1,a.2,rfl,h⟩
def vQ{o:Option (α×β×γ)}{f:α->β->γ->Option ρ}{r:ρ}(h:fB o f=some r):∃a b c,o=some (a,b,c)/\f a b c=some r:=by
 cases o with|none=>cases h|some a=>exact⟨a.1,a.2.1,a.2.2,rfl,h⟩
def Sr{o:Option (α×β×γ×δ)}{f:α->β->γ->δ->Option ρ}{r:ρ}(h:OY o f=some r):∃a b c d,o=some (a,b,c,d)/\f a b c d=some r:=by
 cases o with|none=>cases h|some a=>exact⟨a.1,a.2.1,a.2.2.1,a.2.2.2,rfl,h⟩
def RV{o:Option (α×β×γ×δ×ε)}{f:α->β->γ->δ->ε->Option ρ}{r:ρ}(h:TV o f=some r):∃a b c d e,o=some (a,b,c,d,e)/\f a b c d e=some r:=by
 cases o with|none=>cases h|some a=>exact⟨a.1,a.2.1,a.2.2.1,a.2.2.2.1,a.2.2.2.2,rfl,h⟩
def lh{p:Bool}{o:Option ρ}{r:ρ}(h:gh p o=some r):p=true/\o=some r:=by
 cases p with|false=>cases h|true=>exact⟨rfl,h⟩
def nC{κ:Type}{k:κ}{b:κ->Option ρ}{r:ρ}(h:ec k b=some r):∃j,j=k/\b j=some r:=⟨k,rfl,h⟩
def iS{c:Bool}{a b:Option ρ}{r:ρ}(h:(if c then a else b)=some r):c=true/\a=some r\/c=false/\b=some r:=by
 cases c with|false=>exact .inr ⟨rfl,h⟩|true=>exact .inl ⟨rfl,h⟩
inductive fV (σ ρ:Type) where
 |next (s:σ)|FP (s:σ)|ret (r:ρ)
def PD(k:σ->Option (σ⊕ρ)):fV σ ρ->Option (σ⊕ρ)
 |.next s=>k s|.FP s=>some (.inl s)|.ret r=>some (.inr r)
def fG(k:σ->Option τ)(r:ρ->Option τ):σ⊕ρ->Option τ
 |.inl s=>k s|.inr x=>r x
@[simp] theorem fy(k:σ->Option (σ⊕ρ))(s:σ):PD k (.next s)=k s:=rfl
@[simp] theorem ai3(k:σ->Option (σ⊕ρ))(s:σ):PD k (.FP s)=some (.inl s):=rfl
@[simp] theorem Dq(k:σ->Option (σ⊕ρ))(x:ρ):PD k (.ret x)=some (.inr x):=rfl
@[simp] theorem eo(k:σ->Option τ)(r:ρ->Option τ)(s:σ):fG k r (.inl s)=k s:=rfl
@[simp] theorem pn(k:σ->Option τ)(r:ρ->Option τ)(x:ρ):fG k r (.inr x)=r x:=rfl
def eV(f:Int->α->σ->Option (fV σ ρ)):List α->Nat->σ->Option (σ⊕ρ)
 |[],_,s=>some (.inl s)|x::l,i,s=>dE (f (i:Int) x s) (PD (eV f l (i+1)))
def n9(f:σ->Option (fV σ ρ)):Nat->σ->Option (σ⊕ρ)
 |0,_=>none|n+1,s=>dE (f s) (PD (n9 f n))
@[simp] theorem oH(f:Int->α->σ->Option (fV σ ρ))(i:Nat)(s:σ):eV f [] i s=some (.inl s):=rfl
@[simp] theorem fm(f:Int->α->σ->Option (fV σ ρ))(x:α)(l:List α)(i:Nat)(s:σ):eV f (x::l) i s=dE (f (i:Int) x s) (PD (eV f l (i+1))):=rfl
def uF(f:α->β->τ)(p:α×β):τ:=f p.1 p.2
def WV(f:α->β->γ->τ)(p:α×β×γ):τ:=f p.1 p.2.1 p.2.2
def un4(f:α->β->γ->δ->τ)(p:α×β×γ×δ):τ:=f p.1 p.2.1 p.2.2.1 p.2.2.2
def un5(f:α->β->γ->δ->ε->τ)(p:α×β×γ×δ×ε):τ:=f p.1 p.2.1 p.2.2.1 p.2.2.2.1 p.2.2.2.2
def W0(f:α->β->γ->δ->ε->ζ->τ)(p:α×β×γ×δ×ε×ζ):τ:=f p.1 p.2.1 p.2.2.1 p.2.2.2.1 p.2.2.2.2.1 p.2.2.2.2.2
@[simp] theorem lk(f:α->β->τ)(a:α)(b:β):uF f (a,b)=f a b:=rfl
@[simp] theorem Af(f:α->β->γ->τ)(a:α)(b:β)(c:γ):WV f (a,b,c)=f a b c:=rfl
@[simp] theorem Fy(f:α->β->γ->δ->τ)(a:α)(b:β)(c:γ)(d:δ):un4 f (a,b,c,d)=f a b c d:=rfl
@[simp] theorem Cg(f:α->β->γ->δ->ε->τ)(a:α)(b:β)(c:γ)(d:δ)(e:ε):un5 f (a,b,c,d,e)=f a b c d e:=rfl
@[simp] theorem Au(f:α->β->γ->δ->ε->ζ->τ)(a:α)(b:β)(c:γ)(d:δ)(e:ε)(g:ζ):W0 f (a,b,c,d,e,g)=f a b c d e g:=rfl
end
def un9{α β γ δ ε ζ η θ ι τ:Type}(f:α->β->γ->δ->ε->ζ->η->θ->ι->τ)(p:α×β×γ×δ×ε×ζ×η×θ×ι):τ:=f p.1 p.2.1 p.2.2.1 p.2.2.2.1 p.2.2.2.2.1 p.2.2.2.2.2.1 p.2.2.2.2.2.2.1 p.2.2.2.2.2.2.2.1 p.2.2.2.2.2.2.2.2
@[simp] theorem Z7{α β γ δ ε ζ η θ ι τ:Type}(f:α->β->γ->δ->ε->ζ->η->θ->ι->τ)(a:α)(b:β)(c:γ)(d:δ)(e:ε)(g:ζ)(h:η)(i:θ)(j:ι):un9 f (a,b,c,d,e,g,h,i,j)=f a b c d e g h i j:=rfl
def Xu{α β γ δ ε ζ η θ ι κ μ τ:Type}(f:α->β->γ->δ->ε->ζ->η->θ->ι->κ->μ->τ)(p:α×β×γ×δ×ε×ζ×η×θ×ι×κ×μ):τ:=f p.1 p.2.1 p.2.2.1 p.2.2.2.1 p.2.2.2.2.1 p.2.2.2.2.2.1 p.2.2.2.2.2.2.1 p.2.2.2.2.2.2.2.1 p.2.2.2.2.2.2.2.2.1 p.2.2.2.2.2.2.2.2.2.1 p.2.2.2.2.2.2.2.2.2.2
@[simp] theorem Ho{α β γ δ ε ζ η θ ι κ μ τ:Type}(f:α->β->γ->δ->ε->ζ->η->θ->ι->κ->μ->τ)(a:α)(b:β)(c:γ)(d:δ)(e:ε)(g:ζ)(h:η)(i:θ)(j:ι)(k:κ)(l:μ):Xu f (a,b,c,d,e,g,h,i,j,k,l)=f a b c d e g h i j k l:=rfl
def af9{α β γ δ ε ζ η θ ι κ μ ν τ:Type}(f:α->β->γ->δ->ε->ζ->η->θ->ι->κ->μ->ν->τ)(p:α×β×γ×δ×ε×ζ×η×θ×ι×κ×μ×ν):τ:=f p.1 p.2.1 p.2.2.1 p.2.2.2.1 p.2.2.2.2.1 p.2.2.2.2.2.1 p.2.2.2.2.2.2.1 p.2.2.2.2.2.2.2.1 p.2.2.2.2.2.2.2.2.1 p.2.2.2.2.2.2.2.2.2.1 p.2.2.2.2.2.2.2.2.2.2.1 p.2.2.2.2.2.2.2.2.2.2.2
@[simp] theorem UT{α β γ δ ε ζ η θ ι κ μ ν τ:Type}(f:α->β->γ->δ->ε->ζ->η->θ->ι->κ->μ->ν->τ)(a:α)(b:β)(c:γ)(d:δ)(e:ε)(g:ζ)(h:η)(i:θ)(j:ι)(k:κ)(l:μ)(m:ν):af9 f (a,b,c,d,e,g,h,i,j,k,l,m)=f a b c d e g h i j k l m:=rfl
section
variable{α σ ρ:Type}
def Uv{l:List α}{i:Nat}(h:i<l.length):∃x,l.drop i=x::l.drop (i+1)/\dX l (i:Int)=some x:=
 ⟨l[i],M5 h,by unfold dX;rw[dO xL];simp[h]⟩
def ZW{l:List α}{i:Nat}(h:i<l.length):rA (i:Int) (ey l)=true:=by unfold rA ey;simpa using h
def acm{l:List α}{i:Nat}(h:l.length<=i):rA (i:Int) (ey l)=false:=by unfold rA ey;simpa using h
def Qe{l:List α}(h:eM l=true):l.length<=uO:=by simpa[eM] using h
def Ph{l m:List α}(h:fK l m=true):l.length+m.length<=uO:=by simpa[fK] using h
def Pv{l:List α}{i:Nat}(h:i<l.length)(a:eM l=true):eL .i64 (i:Int) 1=((i+1:Nat):Int):=by
 have b:=Qe a;unfold uO at b;unfold eL;rw[IntKind.wrap_i64];omega
def Q7{l:List α}{i:Nat}{j:Int}(a:j=(i:Int))(h:i<l.length):∃x,l.drop i=x::l.drop (i+1)/\dX l j=some x:=by subst a;exact Uv h
def TD{l:List α}{i:Nat}{j:Int}(a:j=(i:Int))(h:i<l.length):rA j (ey l)=true:=by subst a;exact ZW h
def Pd{l:List α}{i:Nat}{j:Int}(a:j=(i:Int))(h:l.length<=i):rA j (ey l)=false:=by subst a;exact acm h
def L9{l:List α}{i:Nat}{j:Int}(a:j=(i:Int))(h:i<l.length)(b:eM l=true):eL .i64 j 1=((i+1:Nat):Int):=by subst a;exact Pv h b
def qX(f:σ->Option (fV σ ρ))(n:Nat)(s:σ):n9 f (n+1) s=dE (f s) (PD (n9 f n)):=rfl
@[simp] theorem VI:m6 true=false:=rfl
@[simp] theorem afh:m6 false=true:=rfl
def OS(l m:List α):(fT l m).length=l.length+m.length:=by unfold fT;simp
end
def qv{S R:Type}(o:Option R)(s:S):Option (R×S):=match o with|some r=>some (r,s)|none=>none
@[simp] theorem FV{S R:Type}(r:R)(s:S):qv (some r) s=some (r,s):=rfl
def uZ{S R:Type}{o:Option R}{s a:S}{r:R}(h:qv o s=some (r,a)):o=some r/\a=s:=by
 cases o with
 |none=>cases h
 |some x=>
  have:=iq h;exact⟨by rw[(g_ this).1],((g_ this).2).symm⟩
def CN{α:Type}(l:List α)(i:Int)(x:α):List α:=l.set i.toNat x
def FK{α:Type}(l:List α):Bool:=decide (0<l.length/\l.length<=uO)
def QA{α:Type}{l:List α}{i:Int}{x:α}(h:dX l i=some x):l[i.toNat]?=some x:=by
 unfold dX at h
 split at h
 ·exact h
 ·cases h
def HG{α:Type}{l:List α}{i:Int}{x:α}(h:dX l i=some x):0<=i/\i<(l.length:Int):=by
 unfold dX at h
 split at h
 ·rename_i a;have:=(sX.1 h).1;omega
 ·cases h
@[simp] theorem aec{α:Type}(l:List α)(i:Int)(x:α):(CN l i x).length=l.length:=by simp[CN]
end Go.fN
