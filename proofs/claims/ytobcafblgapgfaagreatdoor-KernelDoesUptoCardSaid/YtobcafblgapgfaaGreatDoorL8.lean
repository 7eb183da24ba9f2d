/- Part of the proof of KernelAccepts, KernelDoes: layer. -/
import Derived.Below
import Derived.Laws.BytesArg
import Derived.Test.YtobcafblgapgfaaGreatDoorL7
set_option linter.all false
namespace Go.fB
open Go
def dF(k:IntKind)(a b:Int):Int:=k.wrap (a+b)
def dZ(k:IntKind)(a b:Int):Int:=k.wrap (a-b)
def J0(k:IntKind)(a b:Int):Int:=k.wrap (a*b)
def SW(c:IntKind)(a b:Int):Int:=a.tmod b
def qP(k:IntKind)(a b:Int):Int:=k.wrap (BitVec.ofInt k.bits a&&&BitVec.ofInt k.bits b).toNat
def x0(k:IntKind)(a b:Int):Int:=k.wrap (BitVec.ofInt k.bits a|||BitVec.ofInt k.bits b).toNat
def S7(k:IntKind)(a b:Int):Int:=k.wrap (a*2^min b.toNat k.bits)
def Su(k:IntKind)(a b:Int):Int:=a.fdiv (2^min b.toNat k.bits)
def dg(a b:Int):Bool:=a==b
def dw(a b:Int):Bool:=a !=b
def qj(a b:Int):Bool:=a<b
def Em(a b:Int):Bool:=a<=b
def kZ(a b:Int):Bool:=a>b
def sM(a b:Int):Bool:=a>=b
def conv(k:IntKind)(a:Int):Int:=k.wrap a
def imax(a b:Int):Int:=if b>a then b else a
def qf(a:Bool):Bool:=!a
def seq(x y:ByteArray):Bool:=x.toList==y.toList
def eu{α:Type}(c:Bool)(a b:α):α:=if c then a else b
@[simp] theorem BY{α:Type}(a b:α):eu true a b=a:=rfl
@[simp] theorem zF{α:Type}(a b:α):eu false a b=b:=rfl
def di{α:Type}(l:List α):Int:=l.length
def de{α:Type}(l:List α)(i:Int):Option α:=if 0<=i then l[i.toNat]?else none
def fa{α:Type}(l m:List α):List α:=l++m
def AT{α:Type}(l:List α)(lo hi:Int):Option (List α):=if 0<=lo/\0<=hi/\hi.toNat<=l.length/\lo.toNat<=hi.toNat then some ((l.take hi.toNat).drop lo.toNat)else none
def uX{α:Type}:List (Int×α)->Int->α->List (Int×α)
 |[],k,v=>[(k,v)]|p::l,k,v=>if p.1=k then(k,v)::l else p::uX l k v
def JV:Nat:=1099511627776
def eJ{α:Type}(l m:List α):Bool:=decide (l.length+m.length<=JV)
def dK{α:Type}(l:List α):Bool:=decide (l.length<=JV)
def I8(b:Int):Bool:=!decide (b=0)
def Hn(b:Int):Bool:=!decide (b<0)
@[irreducible] def FU:Nat:=1000000000
theorem dO:FU=1000000000:=by unfold FU;rfl
section
variable{α β γ δ ε ζ η ρ σ τ:Type}
def cI(o:Option α)(f:α->Option ρ):Option ρ:=match o with|some a=>f a|none=>none
def cT(o:Option (α×β))(f:α->β->Option ρ):Option ρ:=match o with|some (a,b)=>f a b|none=>none
def ik(o:Option (α×β×γ))(f:α->β->γ->Option ρ):Option ρ:=match o with|some (a,b,c)=>f a b c|none=>none
def OK(o:Option (α×β×γ×δ))(f:α->β->γ->δ->Option ρ):Option ρ:=match o with|some (a,b,c,d)=>f a b c d|none=>none
def fD(p:Bool)(o:Option ρ):Option ρ:=if p then o else none
def df{κ:Type}(k:κ)(b:κ->Option ρ):Option ρ:=b k
@[simp] theorem cH(a:α)(f:α->Option ρ):cI (some a) f=f a:=rfl
@[simp] theorem cJ(a:α)(b:β)(f:α->β->Option ρ):cT (some (a,b)) f=f a b:=rfl
@[simp] theorem ov(a:α)(b:β)(c:γ)(f:α->β->γ->Option ρ):ik (some (a,b,c)) f=f a b c:=rfl
@[simp] theorem cX(o:Option ρ):fD true o=o:=rfl
@[simp] theorem c6{κ:Type}(k:κ)(b:κ->Option ρ):df k b=b k:=rfl
def dm{o:Option α}{f:α->Option ρ}{r:ρ}(h:cI o f=some r):∃a,o=some a/\f a=some r:=by
 cases o with|none=>cases h|some a=>exact⟨a,rfl,h⟩
def gz{o:Option (α×β)}{f:α->β->Option ρ}{r:ρ}(h:cT o f=some r):∃a b,o=some (a,b)/\f a b=some r:=by
 cases o with|none=>cases h|some a=>exact⟨a.1,a.2,rfl,h⟩
def vh{o:Option (α×β×γ)}{f:α->β->γ->Option ρ}{r:ρ}(h:ik o f=some r):∃a b c,o=some (a,b,c)/\f a b c=some r:=by
 cases o with|none=>cases h|some a=>exact⟨a.1,a.2.1,a.2.2,rfl,h⟩
def Nd{o:Option (α×β×γ×δ)}{f:α->β->γ->δ->Option ρ}{r:ρ}(h:OK o f=some r):∃a b c d,o=some (a,b,c,d)/\f a b c d=some r:=by
 cases o with|none=>cases h|some a=>exact⟨a.1,a.2.1,a.2.2.1,a.2.2.2,rfl,h⟩
def lK{p:Bool}{o:Option ρ}{r:ρ}(h:fD p o=some r):p=true/\o=some r:=by
 cases p with|false=>cases h|true=>exact⟨rfl,h⟩
def jw{κ:Type}{k:κ}{b:κ->Option ρ}{r:ρ}(h:df k b=some r):∃j,j=k/\b j=some r:=⟨k,rfl,h⟩
def hZ{c:Bool}{a b:Option ρ}{r:ρ}(h:(if c then a else b)=some r):c=true/\a=some r\/c=false/\b=some r:=by
 cases c with|false=>exact .inr ⟨rfl,h⟩|true=>exact .inl ⟨rfl,h⟩
inductive eL (σ ρ:Type) where
 |next (s:σ)|AI (s:σ)|ret (r:ρ)
def Mi(k:σ->Option (σ⊕ρ)):eL σ ρ->Option (σ⊕ρ)
 |.next s=>k s|.AI s=>some (.inl s)|.ret r=>some (.inr r)
def eG(k:σ->Option τ)(r:ρ->Option τ):σ⊕ρ->Option τ
 |.inl s=>k s|.inr x=>r x
@[simp] theorem dW(k:σ->Option (σ⊕ρ))(s:σ):Mi k (.next s)=k s:=rfl
@[simp] theorem aaX(k:σ->Option (σ⊕ρ))(s:σ):Mi k (.AI s)=some (.inl s):=rfl
@[simp] theorem BB(k:σ->Option (σ⊕ρ))(x:ρ):Mi k (.ret x)=some (.inr x):=rfl
@[simp] theorem cU(k:σ->Option τ)(r:ρ->Option τ)(s:σ):eG k r (.inl s)=k s:=rfl
@[simp] theorem pK(k:σ->Option τ)(r:ρ->Option τ)(x:ρ):eG k r (.inr x)=r x:=rfl
def dN(f:Int->α->σ->Option (eL σ ρ)):List α->Nat->σ->Option (σ⊕ρ)
 |[],_,s=>some (.inl s)|x::l,i,s=>cI (f (i:Int) x s) (Mi (dN f l (i+1)))
def lp(f:σ->Option (eL σ ρ)):Nat->σ->Option (σ⊕ρ)
 |0,_=>none|n+1,s=>cI (f s) (Mi (lp f n))
@[simp] theorem om(f:Int->α->σ->Option (eL σ ρ))(i:Nat)(s:σ):dN f [] i s=some (.inl s):=rfl
@[simp] theorem dJ(f:Int->α->σ->Option (eL σ ρ))(x:α)(l:List α)(i:Nat)(s:σ):dN f (x::l) i s=cI (f (i:Int) x s) (Mi (dN f l (i+1))):=rfl
def qw(f:α->β->τ)(p:α×β):τ:=f p.1 p.2
def Mp(f:α->β->γ->τ)(p:α×β×γ):τ:=f p.1 p.2.1 p.2.2
def Yg(f:α->β->γ->δ->τ)(p:α×β×γ×δ):τ:=f p.1 p.2.1 p.2.2.1 p.2.2.2
def Zq(f:α->β->γ->δ->ε->τ)(p:α×β×γ×δ×ε):τ:=f p.1 p.2.1 p.2.2.1 p.2.2.2.1 p.2.2.2.2
def Qz(f:α->β->γ->δ->ε->ζ->τ)(p:α×β×γ×δ×ε×ζ):τ:=f p.1 p.2.1 p.2.2.1 p.2.2.2.1 p.2.2.2.2.1 p.2.2.2.2.2
@[simp] theorem h7(f:α->β->τ)(a:α)(b:β):qw f (a,b)=f a b:=rfl
@[simp] theorem tv(f:α->β->γ->τ)(a:α)(b:β)(c:γ):Mp f (a,b,c)=f a b c:=rfl
@[simp] theorem QU(f:α->β->γ->δ->τ)(a:α)(b:β)(c:γ)(d:δ):Yg f (a,b,c,d)=f a b c d:=rfl
@[simp] theorem GU(f:α->β->γ->δ->ε->τ)(a:α)(b:β)(c:γ)(d:δ)(e:ε):Zq f (a,b,c,d,e)=f a b c d e:=rfl
@[simp] theorem y9(f:α->β->γ->δ->ε->ζ->τ)(a:α)(b:β)(c:γ)(d:δ)(e:ε)(g:ζ):Qz f (a,b,c,d,e,g)=f a b c d e g:=rfl
end
def Yh{α β γ δ ε ζ η θ ι τ:Type}(f:α->β->γ->δ->ε->ζ->η->θ->ι->τ)(p:α×β×γ×δ×ε×ζ×η×θ×ι):τ:=f p.1 p.2.1 p.2.2.1 p.2.2.2.1 p.2.2.2.2.1 p.2.2.2.2.2.1 p.2.2.2.2.2.2.1 p.2.2.2.2.2.2.2.1 p.2.2.2.2.2.2.2.2
@[simp] theorem Rg{α β γ δ ε ζ η θ ι τ:Type}(f:α->β->γ->δ->ε->ζ->η->θ->ι->τ)(a:α)(b:β)(c:γ)(d:δ)(e:ε)(g:ζ)(h:η)(i:θ)(j:ι):Yh f (a,b,c,d,e,g,h,i,j)=f a b c d e g h i j:=rfl
section
variable{α σ ρ:Type}
def Ox{l:List α}{i:Nat}(h:i<l.length):∃x,l.drop i=x::l.drop (i+1)/\de l (i:Int)=some x:=
 ⟨l[i],JK h,by unfold de;rw[cO VW];simp[h]⟩
def Sn{l:List α}{i:Nat}(h:i<l.length):qj (i:Int) (di l)=true:=by unfold qj di;simpa using h
def Un{l:List α}{i:Nat}(h:l.length<=i):qj (i:Int) (di l)=false:=by unfold qj di;simpa using h
def LN{l:List α}(h:dK l=true):l.length<=JV:=by simpa[dK] using h
def Lw{l m:List α}(h:eJ l m=true):l.length+m.length<=JV:=by simpa[eJ] using h
def KO{l:List α}{i:Nat}(h:i<l.length)(a:dK l=true):dF .i64 (i:Int) 1=((i+1:Nat):Int):=by
 have h1:=LN a;unfold JV at h1;unfold dF;rw[IntKind.wrap_i64];omega
def L'{l:List α}{i:Nat}{j:Int}(a:j=(i:Int))(h:i<l.length):∃x,l.drop i=x::l.drop (i+1)/\de l j=some x:=by subst a;exact Ox h
def OD{l:List α}{i:Nat}{j:Int}(a:j=(i:Int))(h:i<l.length):qj j (di l)=true:=by subst a;exact Sn h
def Li{l:List α}{i:Nat}{j:Int}(a:j=(i:Int))(h:l.length<=i):qj j (di l)=false:=by subst a;exact Un h
def Iu{l:List α}{i:Nat}{j:Int}(a:j=(i:Int))(h:i<l.length)(b:dK l=true):dF .i64 j 1=((i+1:Nat):Int):=by subst a;exact KO h b
def kc(f:σ->Option (eL σ ρ))(n:Nat)(s:σ):lp f (n+1) s=cI (f s) (Mi (lp f n)):=rfl
@[simp] theorem Pk:qf true=false:=rfl
@[simp] theorem Xp:qf false=true:=rfl
def y7(l m:List α):(fa l m).length=l.length+m.length:=by unfold fa;simp
end
def qv{S R:Type}(o:Option R)(s:S):Option (R×S):=match o with|some r=>some (r,s)|none=>none
@[simp] theorem DR{S R:Type}(r:R)(s:S):qv (some r) s=some (r,s):=rfl
def uH{S R:Type}{o:Option R}{s a:S}{r:R}(h:qv o s=some (r,a)):o=some r/\a=s:=by
 cases o with
 |none=>cases h
 |some x=>
  have:=gh h;exact⟨by rw[(iE this).1],((iE this).2).symm⟩
def wy{α:Type}(l:List α)(i:Int)(x:α):List α:=l.set i.toNat x
def yk{α:Type}(l:List α):Bool:=decide (0<l.length/\l.length<=JV)
def KR{α:Type}{l:List α}{i:Int}{x:α}(h:de l i=some x):l[i.toNat]?=some x:=by
 unfold de at h
 split at h
 ·exact h
 ·cases h
def G2{α:Type}{l:List α}{i:Int}{x:α}(h:de l i=some x):0<=i/\i<(l.length:Int):=by
 unfold de at h
 split at h
 ·rename_i a;have:=(kj.1 h).1;omega
 ·cases h
@[simp] theorem Vk{α:Type}(l:List α)(i:Int)(x:α):(wy l i x).length=l.length:=by simp[wy]
end Go.fB
