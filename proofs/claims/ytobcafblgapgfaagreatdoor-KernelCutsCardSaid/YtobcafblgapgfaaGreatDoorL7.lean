/- Part of the proof of KernelLifts, KernelPuts, KernelCuts: layer. -/
import Derived.Below
import Derived.Laws.BytesArg
import Derived.Test.YtobcafblgapgfaaGreatDoorL6
set_option linter.all false
namespace Go.eD
open Go
def ep(k:IntKind)(a b:Int):Int:=k.wrap (a+b)
def eH(k:IntKind)(a b:Int):Int:=k.wrap (a-b)
def HM(k:IntKind)(a b:Int):Int:=k.wrap (a*b)
def Uy(c:IntKind)(a b:Int):Int:=a.tmod b
def pz(k:IntKind)(a b:Int):Int:=k.wrap (BitVec.ofInt k.bits a&&&BitVec.ofInt k.bits b).toNat
def vw(k:IntKind)(a b:Int):Int:=k.wrap (BitVec.ofInt k.bits a|||BitVec.ofInt k.bits b).toNat
def RC(k:IntKind)(a b:Int):Int:=k.wrap (a*2^min b.toNat k.bits)
def Ss(k:IntKind)(a b:Int):Int:=a.fdiv (2^min b.toNat k.bits)
def dC(a b:Int):Bool:=a==b
def dI(a b:Int):Bool:=a !=b
def xT(a b:Int):Bool:=a<b
def Mu(a b:Int):Bool:=a<=b
def pc(a b:Int):Bool:=a>b
def sS(a b:Int):Bool:=a>=b
def conv(k:IntKind)(a:Int):Int:=k.wrap a
def imax(a b:Int):Int:=if b>a then b else a
def s_(a:Bool):Bool:=!a
def seq(x y:ByteArray):Bool:=x.toList==y.toList
def fp{α:Type}(c:Bool)(a b:α):α:=if c then a else b
@[simp] theorem xd{α:Type}(a b:α):fp true a b=a:=rfl
@[simp] theorem uu{α:Type}(a b:α):fp false a b=b:=rfl
def dT{α:Type}(l:List α):Int:=l.length
def du{α:Type}(l:List α)(i:Int):Option α:=if 0<=i then l[i.toNat]?else none
def fK{α:Type}(l m:List α):List α:=l++m
def wO{α:Type}(l:List α)(lo hi:Int):Option (List α):=if 0<=lo/\0<=hi/\hi.toNat<=l.length/\lo.toNat<=hi.toNat then some ((l.take hi.toNat).drop lo.toNat)else none
def qS{α:Type}:List (Int×α)->Int->α->List (Int×α)
 |[],k,v=>[(k,v)]|p::l,k,v=>if p.1=k then(k,v)::l else p::qS l k v
def m0:Nat:=1099511627776
def eZ{α:Type}(l m:List α):Bool:=decide (l.length+m.length<=m0)
def eQ{α:Type}(l:List α):Bool:=decide (l.length<=m0)
def Kb(b:Int):Bool:=!decide (b=0)
def H8(b:Int):Bool:=!decide (b<0)
@[irreducible] def FU:Nat:=1000000000
theorem dn:FU=1000000000:=by unfold FU;rfl
section
variable{α β γ δ ε ζ η ρ σ τ:Type}
def cH(o:Option α)(f:α->Option ρ):Option ρ:=match o with|some a=>f a|none=>none
def c0(o:Option (α×β))(f:α->β->Option ρ):Option ρ:=match o with|some (a,b)=>f a b|none=>none
def iG(o:Option (α×β×γ))(f:α->β->γ->Option ρ):Option ρ:=match o with|some (a,b,c)=>f a b c|none=>none
def Ro(o:Option (α×β×γ×δ))(f:α->β->γ->δ->Option ρ):Option ρ:=match o with|some (a,b,c,d)=>f a b c d|none=>none
def fU(p:Bool)(o:Option ρ):Option ρ:=if p then o else none
def dO{κ:Type}(k:κ)(b:κ->Option ρ):Option ρ:=b k
@[simp] theorem cG(a:α)(f:α->Option ρ):cH (some a) f=f a:=rfl
@[simp] theorem cI(a:α)(b:β)(f:α->β->Option ρ):c0 (some (a,b)) f=f a b:=rfl
@[simp] theorem iY(a:α)(b:β)(c:γ)(f:α->β->γ->Option ρ):iG (some (a,b,c)) f=f a b c:=rfl
@[simp] theorem cM(o:Option ρ):fU true o=o:=rfl
@[simp] theorem cO{κ:Type}(k:κ)(b:κ->Option ρ):dO k b=b k:=rfl
def ez{o:Option α}{f:α->Option ρ}{r:ρ}(h:cH o f=some r):∃a,o=some a/\f a=some r:=by
 cases o with|none=>cases h|some a=>exact⟨a,rfl,h⟩
def mq{o:Option (α×β)}{f:α->β->Option ρ}{r:ρ}(h:c0 o f=some r):∃a b,o=some (a,b)/\f a b=some r:=by
 cases o with|none=>cases h|some a=>exact⟨a.1,a.2,rfl,h⟩
def Eh{o:Option (α×β×γ)}{f:α->β->γ->Option ρ}{r:ρ}(h:iG o f=some r):∃a b c,o=some (a,b,c)/\f a b c=some r:=by
 cases o with|none=>cases h|some a=>exact⟨a.1,a.2.1,a.2.2,rfl,h⟩
def UR{o:Option (α×β×γ×δ)}{f:α->β->γ->δ->Option ρ}{r:ρ}(h:Ro o f=some r):∃a b c d,o=some (a,b,c,d)/\f a b c d=some r:=by
 cases o with|none=>cases h|some a=>exact⟨a.1,a.2.1,a.2.2.1,a.2.2.2,rfl,h⟩
def tZ{p:Bool}{o:Option ρ}{r:ρ}(h:fU p o=some r):p=true/\o=some r:=by
 cases p with|false=>cases h|true=>exact⟨rfl,h⟩
def sR{κ:Type}{k:κ}{b:κ->Option ρ}{r:ρ}(h:dO k b=some r):∃j,j=k/\b j=some r:=⟨k,rfl,h⟩
def nx{c:Bool}{a b:Option ρ}{r:ρ}(h:(if c then a else b)=some r):c=true/\a=some r\/c=false/\b=some r:=by
 cases c with|false=>exact .inr ⟨rfl,h⟩|true=>exact .inl ⟨rfl,h⟩
inductive eK (σ ρ:Type) where
 |next (s:σ)|DN (s:σ)|ret (r:ρ)
def TY(k:σ->Option (σ⊕ρ)):eK σ ρ->Option (σ⊕ρ)
 |.next s=>k s|.DN s=>some (.inl s)|.ret r=>some (.inr r)
def gC(k:σ->Option τ)(r:ρ->Option τ):σ⊕ρ->Option τ
 |.inl s=>k s|.inr x=>r x
@[simp] theorem dt(k:σ->Option (σ⊕ρ))(s:σ):TY k (.next s)=k s:=rfl
@[simp] theorem adJ(k:σ->Option (σ⊕ρ))(s:σ):TY k (.DN s)=some (.inl s):=rfl
@[simp] theorem BG(k:σ->Option (σ⊕ρ))(x:ρ):TY k (.ret x)=some (.inr x):=rfl
@[simp] theorem cR(k:σ->Option τ)(r:ρ->Option τ)(s:σ):gC k r (.inl s)=k s:=rfl
@[simp] theorem mA(k:σ->Option τ)(r:ρ->Option τ)(x:ρ):gC k r (.inr x)=r x:=rfl
def eg(f:Int->α->σ->Option (eK σ ρ)):List α->Nat->σ->Option (σ⊕ρ)
 |[],_,s=>some (.inl s)|x::l,i,s=>cH (f (i:Int) x s) (TY (eg f l (i+1)))
def ow(f:σ->Option (eK σ ρ)):Nat->σ->Option (σ⊕ρ)
 |0,_=>none|n+1,s=>cH (f s) (TY (ow f n))
@[simp] theorem lz(f:Int->α->σ->Option (eK σ ρ))(i:Nat)(s:σ):eg f [] i s=some (.inl s):=rfl
@[simp] theorem dq(f:Int->α->σ->Option (eK σ ρ))(x:α)(l:List α)(i:Nat)(s:σ):eg f (x::l) i s=cH (f (i:Int) x s) (TY (eg f l (i+1))):=rfl
def qH(f:α->β->τ)(p:α×β):τ:=f p.1 p.2
def J9(f:α->β->γ->τ)(p:α×β×γ):τ:=f p.1 p.2.1 p.2.2
def Wg(f:α->β->γ->δ->τ)(p:α×β×γ×δ):τ:=f p.1 p.2.1 p.2.2.1 p.2.2.2
def un5(f:α->β->γ->δ->ε->τ)(p:α×β×γ×δ×ε):τ:=f p.1 p.2.1 p.2.2.1 p.2.2.2.1 p.2.2.2.2
def Qd(f:α->β->γ->δ->ε->ζ->τ)(p:α×β×γ×δ×ε×ζ):τ:=f p.1 p.2.1 p.2.2.1 p.2.2.2.1 p.2.2.2.2.1 p.2.2.2.2.2
@[simp] theorem mW(f:α->β->τ)(a:α)(b:β):qH f (a,b)=f a b:=rfl
@[simp] theorem wh(f:α->β->γ->τ)(a:α)(b:β)(c:γ):J9 f (a,b,c)=f a b c:=rfl
@[simp] theorem W2(f:α->β->γ->δ->τ)(a:α)(b:β)(c:γ)(d:δ):Wg f (a,b,c,d)=f a b c d:=rfl
@[simp] theorem Kr(f:α->β->γ->δ->ε->τ)(a:α)(b:β)(c:γ)(d:δ)(e:ε):un5 f (a,b,c,d,e)=f a b c d e:=rfl
@[simp] theorem Bn(f:α->β->γ->δ->ε->ζ->τ)(a:α)(b:β)(c:γ)(d:δ)(e:ε)(g:ζ):Qd f (a,b,c,d,e,g)=f a b c d e g:=rfl
end
def Wi{α β γ δ ε ζ η θ ι τ:Type}(f:α->β->γ->δ->ε->ζ->η->θ->ι->τ)(p:α×β×γ×δ×ε×ζ×η×θ×ι):τ:=f p.1 p.2.1 p.2.2.1 p.2.2.2.1 p.2.2.2.2.1 p.2.2.2.2.2.1 p.2.2.2.2.2.2.1 p.2.2.2.2.2.2.2.1 p.2.2.2.2.2.2.2.2
@[simp] theorem WN{α β γ δ ε ζ η θ ι τ:Type}(f:α->β->γ->δ->ε->ζ->η->θ->ι->τ)(a:α)(b:β)(c:γ)(d:δ)(e:ε)(g:ζ)(h:η)(i:θ)(j:ι):Wi f (a,b,c,d,e,g,h,i,j)=f a b c d e g h i j:=rfl
section
variable{α σ ρ:Type}
def Vh{l:List α}{i:Nat}(h:i<l.length):∃x,l.drop i=x::l.drop (i+1)/\du l (i:Int)=some x:=
 ⟨l[i],MC h,by unfold du;rw[cL Zb];simp[h]⟩
def WY{l:List α}{i:Nat}(h:i<l.length):xT (i:Int) (dT l)=true:=by unfold xT dT;simpa using h
def Yw{l:List α}{i:Nat}(h:l.length<=i):xT (i:Int) (dT l)=false:=by unfold xT dT;simpa using h
def Tj{l:List α}(h:eQ l=true):l.length<=m0:=by simpa[eQ] using h
def SX{l m:List α}(h:eZ l m=true):l.length+m.length<=m0:=by simpa[eZ] using h
def Tx{l:List α}{i:Nat}(h:i<l.length)(a:eQ l=true):ep .i64 (i:Int) 1=((i+1:Nat):Int):=by
 have b:=Tj a;unfold m0 at b;unfold ep;rw[IntKind.wrap_i64];omega
def Tn{l:List α}{i:Nat}{j:Int}(a:j=(i:Int))(h:i<l.length):∃x,l.drop i=x::l.drop (i+1)/\du l j=some x:=by subst a;exact Vh h
def U0{l:List α}{i:Nat}{j:Int}(a:j=(i:Int))(h:i<l.length):xT j (dT l)=true:=by subst a;exact WY h
def S6{l:List α}{i:Nat}{j:Int}(a:j=(i:Int))(h:l.length<=i):xT j (dT l)=false:=by subst a;exact Yw h
def Q6{l:List α}{i:Nat}{j:Int}(a:j=(i:Int))(h:i<l.length)(b:eQ l=true):ep .i64 j 1=((i+1:Nat):Int):=by subst a;exact Tx h b
def jL(f:σ->Option (eK σ ρ))(n:Nat)(s:σ):ow f (n+1) s=cH (f s) (TY (ow f n)):=rfl
@[simp] theorem MP:s_ true=false:=rfl
@[simp] theorem aaf:s_ false=true:=rfl
def Fj(l m:List α):(fK l m).length=l.length+m.length:=by unfold fK;simp
end
def nw{S R:Type}(o:Option R)(s:S):Option (R×S):=match o with|some r=>some (r,s)|none=>none
@[simp] theorem As{S R:Type}(r:R)(s:S):nw (some r) s=some (r,s):=rfl
def ES{S R:Type}{o:Option R}{s a:S}{r:R}(h:nw o s=some (r,a)):o=some r/\a=s:=by
 cases o with
 |none=>cases h
 |some x=>
  have:=hZ h;exact⟨by rw[(fa this).1],((fa this).2).symm⟩
def ya{α:Type}(l:List α)(i:Int)(x:α):List α:=l.set i.toNat x
def wM{α:Type}(l:List α):Bool:=decide (0<l.length/\l.length<=m0)
def Tr{α:Type}{l:List α}{i:Int}{x:α}(h:du l i=some x):l[i.toNat]?=some x:=by
 unfold du at h
 split at h
 ·exact h
 ·cases h
def Pr{α:Type}{l:List α}{i:Int}{x:α}(h:du l i=some x):0<=i/\i<(l.length:Int):=by
 unfold du at h
 split at h
 ·rename_i a;have:=(qR.1 h).1;omega
 ·cases h
@[simp] theorem Y'{α:Type}(l:List α)(i:Int)(x:α):(ya l i x).length=l.length:=by simp[ya]
end Go.eD
