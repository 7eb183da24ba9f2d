/- Part of the proof of TranslateWitness: layer. -/
import Derived.Below
import Derived.Laws.BytesArg
import Derived.Test.YtffcgfpaakhbjaaGreatDoorL7
set_option linter.all false
namespace Go.dF
open Go
def da(k:IntKind)(a b:Int):Int:=k.wrap (a+b)
def di(k:IntKind)(a b:Int):Int:=k.wrap (a-b)
def y9(k:IntKind)(a b:Int):Int:=k.wrap (a*b)
def QA(c:IntKind)(a b:Int):Int:=a.tmod b
def lX(k:IntKind)(a b:Int):Int:=k.wrap (BitVec.ofInt k.bits a&&&BitVec.ofInt k.bits b).toNat
def tZ(k:IntKind)(a b:Int):Int:=k.wrap (BitVec.ofInt k.bits a|||BitVec.ofInt k.bits b).toNat
def U5(k:IntKind)(a b:Int):Int:=k.wrap (a*2^min b.toNat k.bits)
def VB(k:IntKind)(a b:Int):Int:=a.fdiv (2^min b.toNat k.bits)
def cr(a b:Int):Bool:=a==b
def cG(a b:Int):Bool:=a !=b
def tD(a b:Int):Bool:=a<b
def Dh(a b:Int):Bool:=a<=b
def m8(a b:Int):Bool:=a>b
def qf(a b:Int):Bool:=a>=b
def conv(k:IntKind)(a:Int):Int:=k.wrap a
def imax(a b:Int):Int:=if b>a then b else a
def O'(a b:Int):Int:=if b<a then b else a
def mq(a:Bool):Bool:=!a
def seq(x y:ByteArray):Bool:=x.toList==y.toList
def dq{α:Type}(c:Bool)(a b:α):α:=if c then a else b
@[simp] theorem AP{α:Type}(a b:α):dq true a b=a:=rfl
@[simp] theorem yq{α:Type}(a b:α):dq false a b=b:=rfl
def cE{α:Type}(l:List α):Int:=l.length
def cq{α:Type}(l:List α)(i:Int):Option α:=if 0<=i then l[i.toNat]?else none
def dN{α:Type}(l m:List α):List α:=l++m
def HE{α:Type}(l:List α)(lo hi:Int):Option (List α):=if 0<=lo/\0<=hi/\hi.toNat<=l.length/\lo.toNat<=hi.toNat then some ((l.take hi.toNat).drop lo.toNat)else none
def tj{α:Type}:List (Int×α)->Int->α->List (Int×α)
 |[],k,v=>[(k,v)]|p::l,k,v=>if p.1=k then(k,v)::l else p::tj l k v
def yX:Nat:=1099511627776
def dP{α:Type}(l m:List α):Bool:=decide (l.length+m.length<=yX)
def c0{α:Type}(l:List α):Bool:=decide (l.length<=yX)
def G2(b:Int):Bool:=!decide (b=0)
def O7(b:Int):Bool:=!decide (b<0)
@[irreducible] def FU:Nat:=1000000000
theorem cV:FU=1000000000:=by unfold FU;rfl
section
variable{α β γ δ ε ζ η ρ σ τ:Type}
def bU(o:Option α)(f:α->Option ρ):Option ρ:=match o with|some a=>f a|none=>none
def b8(o:Option (α×β))(f:α->β->Option ρ):Option ρ:=match o with|some (a,b)=>f a b|none=>none
def gM(o:Option (α×β×γ))(f:α->β->γ->Option ρ):Option ρ:=match o with|some (a,b,c)=>f a b c|none=>none
def KM(o:Option (α×β×γ×δ))(f:α->β->γ->δ->Option ρ):Option ρ:=match o with|some (a,b,c,d)=>f a b c d|none=>none
def ef(p:Bool)(o:Option ρ):Option ρ:=if p then o else none
def cB{κ:Type}(k:κ)(b:κ->Option ρ):Option ρ:=b k
@[simp] theorem bT(a:α)(f:α->Option ρ):bU (some a) f=f a:=rfl
@[simp] theorem bW(a:α)(b:β)(f:α->β->Option ρ):b8 (some (a,b)) f=f a b:=rfl
@[simp] theorem mD(a:α)(b:β)(c:γ)(f:α->β->γ->Option ρ):gM (some (a,b,c)) f=f a b c:=rfl
@[simp] theorem ZB(a:α)(b:β)(c:γ)(d:δ)(f:α->β->γ->δ->Option ρ):KM (some (a,b,c,d)) f=f a b c d:=rfl
@[simp] theorem WQ(f:α->Option ρ):bU none f=none:=rfl
@[simp] theorem b6(o:Option ρ):ef true o=o:=rfl
@[simp] theorem Xc(o:Option ρ):ef false o=none:=rfl
@[simp] theorem cc{κ:Type}(k:κ)(b:κ->Option ρ):cB k b=b k:=rfl
def cJ{o:Option α}{f:α->Option ρ}{r:ρ}(h:bU o f=some r):∃a,o=some a/\f a=some r:=by
 cases o with|none=>cases h|some a=>exact⟨a,rfl,h⟩
def qK{o:Option (α×β)}{f:α->β->Option ρ}{r:ρ}(h:b8 o f=some r):∃a b,o=some (a,b)/\f a b=some r:=by
 cases o with|none=>cases h|some a=>exact⟨a.1,a.2,rfl,h⟩
def zq{o:Option (α×β×γ)}{f:α->β->γ->Option ρ}{r:ρ}(h:gM o f=some r):∃a b c,o=some (a,b,c)/\f a b c=some r:=by
 cases o with|none=>cases h|some a=>exact⟨a.1,a.2.1,a.2.2,rfl,h⟩
def Mx{o:Option (α×β×γ×δ)}{f:α->β->γ->δ->Option ρ}{r:ρ}(h:KM o f=some r):∃a b c d,o=some (a,b,c,d)/\f a b c d=some r:=by
 cases o with|none=>cases h|some a=>exact⟨a.1,a.2.1,a.2.2.1,a.2.2.2,rfl,h⟩
def pY{p:Bool}{o:Option ρ}{r:ρ}(h:ef p o=some r):p=true/\o=some r:=by
 cases p with|false=>cases h|true=>exact⟨rfl,h⟩
def vT{κ:Type}{k:κ}{b:κ->Option ρ}{r:ρ}(h:cB k b=some r):∃j,j=k/\b j=some r:=⟨k,rfl,h⟩
def AE{c:Bool}{a b:Option ρ}{r:ρ}(h:(if c then a else b)=some r):c=true/\a=some r\/c=false/\b=some r:=by
 cases c with|false=>exact .inr ⟨rfl,h⟩|true=>exact .inl ⟨rfl,h⟩
inductive dJ (σ ρ:Type) where
 |next (s:σ)|Fy (s:σ)|ret (r:ρ)
def Jn(k:σ->Option (σ⊕ρ)):dJ σ ρ->Option (σ⊕ρ)
 |.next s=>k s|.Fy s=>some (.inl s)|.ret r=>some (.inr r)
def dI(k:σ->Option τ)(r:ρ->Option τ):σ⊕ρ->Option τ
 |.inl s=>k s|.inr x=>r x
@[simp] theorem cS(k:σ->Option (σ⊕ρ))(s:σ):Jn k (.next s)=k s:=rfl
@[simp] theorem Zc(k:σ->Option (σ⊕ρ))(s:σ):Jn k (.Fy s)=some (.inl s):=rfl
@[simp] theorem Eo(k:σ->Option (σ⊕ρ))(x:ρ):Jn k (.ret x)=some (.inr x):=rfl
@[simp] theorem b9(k:σ->Option τ)(r:ρ->Option τ)(s:σ):dI k r (.inl s)=k s:=rfl
@[simp] theorem pJ(k:σ->Option τ)(r:ρ->Option τ)(x:ρ):dI k r (.inr x)=r x:=rfl
def cY(f:Int->α->σ->Option (dJ σ ρ)):List α->Nat->σ->Option (σ⊕ρ)
 |[],_,s=>some (.inl s)|x::l,i,s=>bU (f (i:Int) x s) (Jn (cY f l (i+1)))
def mJ(f:σ->Option (dJ σ ρ)):Nat->σ->Option (σ⊕ρ)
 |0,_=>none|n+1,s=>bU (f s) (Jn (mJ f n))
@[simp] theorem k9(f:Int->α->σ->Option (dJ σ ρ))(i:Nat)(s:σ):cY f [] i s=some (.inl s):=rfl
@[simp] theorem cM(f:Int->α->σ->Option (dJ σ ρ))(x:α)(l:List α)(i:Nat)(s:σ):cY f (x::l) i s=bU (f (i:Int) x s) (Jn (cY f l (i+1))):=rfl
def rD(f:α->β->τ)(p:α×β):τ:=f p.1 p.2
def Tr(f:α->β->γ->τ)(p:α×β×γ):τ:=f p.1 p.2.1 p.2.2
def Xo(f:α->β->γ->δ->τ)(p:α×β×γ×δ):τ:=f p.1 p.2.1 p.2.2.1 p.2.2.2
def Zs(f:α->β->γ->δ->ε->τ)(p:α×β×γ×δ×ε):τ:=f p.1 p.2.1 p.2.2.1 p.2.2.2.1 p.2.2.2.2
def Ph(f:α->β->γ->δ->ε->ζ->τ)(p:α×β×γ×δ×ε×ζ):τ:=f p.1 p.2.1 p.2.2.1 p.2.2.2.1 p.2.2.2.2.1 p.2.2.2.2.2
def Vp(f:α->β->γ->δ->ε->ζ->η->τ)(p:α×β×γ×δ×ε×ζ×η):τ:=f p.1 p.2.1 p.2.2.1 p.2.2.2.1 p.2.2.2.2.1 p.2.2.2.2.2.1 p.2.2.2.2.2.2
@[simp] theorem qN(f:α->β->τ)(a:α)(b:β):rD f (a,b)=f a b:=rfl
@[simp] theorem HO(f:α->β->γ->τ)(a:α)(b:β)(c:γ):Tr f (a,b,c)=f a b c:=rfl
@[simp] theorem aaO(f:α->β->γ->δ->τ)(a:α)(b:β)(c:γ)(d:δ):Xo f (a,b,c,d)=f a b c d:=rfl
@[simp] theorem Ef(f:α->β->γ->δ->ε->τ)(a:α)(b:β)(c:γ)(d:δ)(e:ε):Zs f (a,b,c,d,e)=f a b c d e:=rfl
@[simp] theorem xC(f:α->β->γ->δ->ε->ζ->τ)(a:α)(b:β)(c:γ)(d:δ)(e:ε)(g:ζ):Ph f (a,b,c,d,e,g)=f a b c d e g:=rfl
@[simp] theorem PO(f:α->β->γ->δ->ε->ζ->η->τ)(a:α)(b:β)(c:γ)(d:δ)(e:ε)(g:ζ)(h:η):Vp f (a,b,c,d,e,g,h)=f a b c d e g h:=rfl
end
def XI{α β γ δ ε ζ η θ ι τ:Type}(f:α->β->γ->δ->ε->ζ->η->θ->ι->τ)(p:α×β×γ×δ×ε×ζ×η×θ×ι):τ:=f p.1 p.2.1 p.2.2.1 p.2.2.2.1 p.2.2.2.2.1 p.2.2.2.2.2.1 p.2.2.2.2.2.2.1 p.2.2.2.2.2.2.2.1 p.2.2.2.2.2.2.2.2
@[simp] theorem aaR{α β γ δ ε ζ η θ ι τ:Type}(f:α->β->γ->δ->ε->ζ->η->θ->ι->τ)(a:α)(b:β)(c:γ)(d:δ)(e:ε)(g:ζ)(h:η)(i:θ)(j:ι):XI f (a,b,c,d,e,g,h,i,j)=f a b c d e g h i j:=rfl
section
variable{α σ ρ:Type}
def MX{l:List α}{i:Nat}(h:i<l.length):∃x,l.drop i=x::l.drop (i+1)/\cq l (i:Int)=some x:=
 ⟨l[i],Je h,by unfold cq;rw[bX cw];simp[h]⟩
def Qy{l:List α}{i:Nat}(h:i<l.length):tD (i:Int) (cE l)=true:=by unfold tD cE;simpa using h
def SZ{l:List α}{i:Nat}(h:l.length<=i):tD (i:Int) (cE l)=false:=by unfold tD cE;simpa using h
def Km{l:List α}(h:c0 l=true):l.length<=yX:=by simpa[c0] using h
def KI{l m:List α}(h:dP l m=true):l.length+m.length<=yX:=by simpa[dP] using h
def Jr{l:List α}{i:Nat}(h:i<l.length)(a:c0 l=true):da .i64 (i:Int) 1=((i+1:Nat):Int):=by
 have b:=Km a;unfold yX at b;unfold da;rw[IntKind.wrap_i64];omega
def P0{l:List α}{i:Nat}{j:Int}(a:j=(i:Int))(h:i<l.length):∃x,l.drop i=x::l.drop (i+1)/\cq l j=some x:=by subst a;exact MX h
def SD{l:List α}{i:Nat}{j:Int}(a:j=(i:Int))(h:i<l.length):tD j (cE l)=true:=by subst a;exact Qy h
def QV{l:List α}{i:Nat}{j:Int}(a:j=(i:Int))(h:l.length<=i):tD j (cE l)=false:=by subst a;exact SZ h
def NS{l:List α}{i:Nat}{j:Int}(a:j=(i:Int))(h:i<l.length)(b:c0 l=true):da .i64 j 1=((i+1:Nat):Int):=by subst a;exact Jr h b
def lv(f:σ->Option (dJ σ ρ))(n:Nat)(s:σ):mJ f (n+1) s=bU (f s) (Jn (mJ f n)):=rfl
@[simp] theorem Om:mq true=false:=rfl
@[simp] theorem WH:mq false=true:=rfl
def xb(l m:List α):(dN l m).length=l.length+m.length:=by unfold dN;simp
end
def mK{S R:Type}(o:Option R)(s:S):Option (R×S):=match o with|some r=>some (r,s)|none=>none
@[simp] theorem w5{S R:Type}(r:R)(s:S):mK (some r) s=some (r,s):=rfl
def zu{S R:Type}{o:Option R}{s a:S}{r:R}(h:mK o s=some (r,a)):o=some r/\a=s:=by
 cases o with
 |none=>cases h
 |some x=>
  have:=gv h;exact⟨by rw[(fH this).1],((fH this).2).symm⟩
def vU{α:Type}(l:List α)(i:Int)(x:α):List α:=l.set i.toNat x
def wF{α:Type}(l:List α):Bool:=decide (0<l.length/\l.length<=yX)
def Kt{α:Type}{l:List α}{i:Int}{x:α}(h:cq l i=some x):l[i.toNat]?=some x:=by
 unfold cq at h
 split at h
 ·exact h
 ·cases h
def Mc{α:Type}{l:List α}{i:Int}{x:α}(h:cq l i=some x):0<=i/\i<(l.length:Int):=by
 unfold cq at h
 split at h
 ·rename_i a;have:=(jL.1 h).1;omega
 ·cases h
@[simp] theorem Ui{α:Type}(l:List α)(i:Int)(x:α):(vU l i x).length=l.length:=by simp[vU]
end Go.dF
