/- Part of the proof of KernelRefuses: layer. -/
import Derived.Below
import Derived.Laws.BytesArg
import Derived.Test.YtobcafblgapgfaaGreatDoorL6
set_option linter.all false
namespace Go.gV
open Go
def fk(k:IntKind)(a b:Int):Int:=k.wrap (a+b)
def fG(k:IntKind)(a b:Int):Int:=k.wrap (a-b)
def KW(k:IntKind)(a b:Int):Int:=k.wrap (a*b)
def RD(c:IntKind)(a b:Int):Int:=a.tmod b
def qC(k:IntKind)(a b:Int):Int:=k.wrap (BitVec.ofInt k.bits a&&&BitVec.ofInt k.bits b).toNat
def xp(k:IntKind)(a b:Int):Int:=k.wrap (BitVec.ofInt k.bits a|||BitVec.ofInt k.bits b).toNat
def SG(k:IntKind)(a b:Int):Int:=k.wrap (a*2^min b.toNat k.bits)
def TV(k:IntKind)(a b:Int):Int:=a.fdiv (2^min b.toNat k.bits)
def eH(a b:Int):Bool:=a==b
def eW(a b:Int):Bool:=a !=b
def uX(a b:Int):Bool:=a<b
def LP(a b:Int):Bool:=a<=b
def pc(a b:Int):Bool:=a>b
def ue(a b:Int):Bool:=a>=b
def conv(k:IntKind)(a:Int):Int:=k.wrap a
def imax(a b:Int):Int:=if b>a then b else a
def nB(a:Bool):Bool:=!a
def seq(x y:ByteArray):Bool:=x.toList==y.toList
def fW{α:Type}(c:Bool)(a b:α):α:=if c=true then a else b
@[simp] theorem xn{α:Type}(a b:α):fW true a b=a:=rfl
@[simp] theorem xE{α:Type}(a b:α):fW false a b=b:=rfl
def eN{α:Type}(l:List α):Int:=l.length
def eI{α:Type}(l:List α)(i:Int):Option α:=if 0<=i then l[i.toNat]?else none
def gU{α:Type}(l m:List α):List α:=l++m
def Br{α:Type}(l:List α)(lo hi:Int):Option (List α):=if 0<=lo/\0<=hi/\hi.toNat<=l.length/\lo.toNat<=hi.toNat then some ((l.take hi.toNat).drop lo.toNat)else none
def uO{α:Type}:List (Int×α)->Int->α->List (Int×α)
 |[],k,v=>[(k,v)]|p::l,k,v=>if p.1=k then(k,v)::l else p::uO l k v
def Lw:Nat:=1099511627776
def gy{α:Type}(l m:List α):Bool:=decide (l.length+m.length<=Lw)
def fm{α:Type}(l:List α):Bool:=decide (l.length<=Lw)
def JQ(b:Int):Bool:=!decide (b=0)
def H6(b:Int):Bool:=!decide (b<0)
@[irreducible] def FU:Nat:=1000000000
theorem fC:FU=1000000000:=by unfold FU;rfl
section
variable{α β γ δ ε ζ η ρ σ τ:Type}
def cv(o:Option α)(f:α->Option ρ):Option ρ:=match o with|some a=>f a|none=>none
def ej(o:Option (α×β))(f:α->β->Option ρ):Option ρ:=match o with|some (a,b)=>f a b|none=>none
def iL(o:Option (α×β×γ))(f:α->β->γ->Option ρ):Option ρ:=match o with|some (a,b,c)=>f a b c|none=>none
def Pc(o:Option (α×β×γ×δ))(f:α->β->γ->δ->Option ρ):Option ρ:=match o with|some (a,b,c,d)=>f a b c d|none=>none
def hO(p:Bool)(o:Option ρ):Option ρ:=if p=true then o else none
def eL{κ:Type}(k:κ)(b:κ->Option ρ):Option ρ:=b k
@[simp] theorem cl(a:α)(f:α->Option ρ):cv (some a) f=f a:=rfl
@[simp] theorem eb(a:α)(b:β)(f:α->β->Option ρ):ej (some (a,b)) f=f a b:=rfl
@[simp] theorem ow(a:α)(b:β)(c:γ)(f:α->β->γ->Option ρ):iL (some (a,b,c)) f=f a b c:=rfl
@[simp] theorem eo(o:Option ρ):hO true o=o:=rfl
@[simp] theorem eA{κ:Type}(k:κ)(b:κ->Option ρ):eL k b=b k:=rfl
def eO{o:Option α}{f:α->Option ρ}{r:ρ}(h:cv o f=some r):∃a,o=some a/\f a=some r:=by
 cases o with|none=>cases h|some a=>exact⟨a,rfl,h⟩
def jl{o:Option (α×β)}{f:α->β->Option ρ}{r:ρ}(h:ej o f=some r):∃a b,o=some (a,b)/\f a b=some r:=by
 cases o with|none=>cases h|some a=>exact⟨a.1,a.2,rfl,h⟩
def Bn{o:Option (α×β×γ)}{f:α->β->γ->Option ρ}{r:ρ}(h:iL o f=some r):∃a b c,o=some (a,b,c)/\f a b c=some r:=by
 cases o with|none=>cases h|some a=>exact⟨a.1,a.2.1,a.2.2,rfl,h⟩
def N6{o:Option (α×β×γ×δ)}{f:α->β->γ->δ->Option ρ}{r:ρ}(h:Pc o f=some r):∃a b c d,o=some (a,b,c,d)/\f a b c d=some r:=by
 cases o with|none=>cases h|some a=>exact⟨a.1,a.2.1,a.2.2.1,a.2.2.2,rfl,h⟩
def m9{p:Bool}{o:Option ρ}{r:ρ}(h:hO p o=some r):p=true/\o=some r:=by
 cases p with|false=>cases h|true=>exact⟨rfl,h⟩
def mu{κ:Type}{k:κ}{b:κ->Option ρ}{r:ρ}(h:eL k b=some r):∃j,j=k/\b j=some r:=⟨k,rfl,h⟩
def jr{c:Bool}{a b:Option ρ}{r:ρ}(h:(if c=true then a else b)=some r):c=true/\a=some r\/c=false/\b=some r:=by
 cases c with|false=>exact .inr ⟨rfl,h⟩|true=>exact .inl ⟨rfl,h⟩
inductive gw (σ ρ:Type) where
 |next (s:σ)|Ki (s:σ)|ret (r:ρ)
def Lx(k:σ->Option (σ⊕ρ)):gw σ ρ->Option (σ⊕ρ)
 |.next s=>k s|.Ki s=>some (.inl s)|.ret r=>some (.inr r)
def gm(k:σ->Option τ)(r:ρ->Option τ):σ⊕ρ->Option τ
 |.inl s=>k s|.inr x=>r x
@[simp] theorem fv(k:σ->Option (σ⊕ρ))(s:σ):Lx k (.next s)=k s:=rfl
@[simp] theorem Z4(k:σ->Option (σ⊕ρ))(s:σ):Lx k (.Ki s)=some (.inl s):=rfl
@[simp] theorem zD(k:σ->Option (σ⊕ρ))(x:ρ):Lx k (.ret x)=some (.inr x):=rfl
@[simp] theorem en(k:σ->Option τ)(r:ρ->Option τ)(s:σ):gm k r (.inl s)=k s:=rfl
@[simp] theorem qs(k:σ->Option τ)(r:ρ->Option τ)(x:ρ):gm k r (.inr x)=r x:=rfl
def fo(f:Int->α->σ->Option (gw σ ρ)):List α->Nat->σ->Option (σ⊕ρ)
 |[],_,s=>some (.inl s)|x::l,i,s=>cv (f (i:Int) x s) (Lx (fo f l (i+1)))
def qR(f:σ->Option (gw σ ρ)):Nat->σ->Option (σ⊕ρ)
 |0,_=>none|n+1,s=>cv (f s) (Lx (qR f n))
@[simp] theorem pw(f:Int->α->σ->Option (gw σ ρ))(i:Nat)(s:σ):fo f [] i s=some (.inl s):=rfl
@[simp] theorem fl(f:Int->α->σ->Option (gw σ ρ))(x:α)(l:List α)(i:Nat)(s:σ):fo f (x::l) i s=cv (f (i:Int) x s) (Lx (fo f l (i+1))):=rfl
def uD(f:α->β->τ)(p:α×β):τ:=f p.1 p.2
def YO(f:α->β->γ->τ)(p:α×β×γ):τ:=f p.1 p.2.1 p.2.2
def YT(f:α->β->γ->δ->τ)(p:α×β×γ×δ):τ:=f p.1 p.2.1 p.2.2.1 p.2.2.2
def un5(f:α->β->γ->δ->ε->τ)(p:α×β×γ×δ×ε):τ:=f p.1 p.2.1 p.2.2.1 p.2.2.2.1 p.2.2.2.2
def Qt(f:α->β->γ->δ->ε->ζ->τ)(p:α×β×γ×δ×ε×ζ):τ:=f p.1 p.2.1 p.2.2.1 p.2.2.2.1 p.2.2.2.2.1 p.2.2.2.2.2
@[simp] theorem mY(f:α->β->τ)(a:α)(b:β):uD f (a,b)=f a b:=rfl
@[simp] theorem Tr(f:α->β->γ->τ)(a:α)(b:β)(c:γ):YO f (a,b,c)=f a b c:=rfl
@[simp] theorem RM(f:α->β->γ->δ->τ)(a:α)(b:β)(c:γ)(d:δ):YT f (a,b,c,d)=f a b c d:=rfl
@[simp] theorem Hj(f:α->β->γ->δ->ε->τ)(a:α)(b:β)(c:γ)(d:δ)(e:ε):un5 f (a,b,c,d,e)=f a b c d e:=rfl
@[simp] theorem wT(f:α->β->γ->δ->ε->ζ->τ)(a:α)(b:β)(c:γ)(d:δ)(e:ε)(g:ζ):Qt f (a,b,c,d,e,g)=f a b c d e g:=rfl
end
def YQ{α β γ δ ε ζ η θ ι τ:Type}(f:α->β->γ->δ->ε->ζ->η->θ->ι->τ)(p:α×β×γ×δ×ε×ζ×η×θ×ι):τ:=f p.1 p.2.1 p.2.2.1 p.2.2.2.1 p.2.2.2.2.1 p.2.2.2.2.2.1 p.2.2.2.2.2.2.1 p.2.2.2.2.2.2.2.1 p.2.2.2.2.2.2.2.2
@[simp] theorem TD{α β γ δ ε ζ η θ ι τ:Type}(f:α->β->γ->δ->ε->ζ->η->θ->ι->τ)(a:α)(b:β)(c:γ)(d:δ)(e:ε)(g:ζ)(h:η)(i:θ)(j:ι):YQ f (a,b,c,d,e,g,h,i,j)=f a b c d e g h i j:=rfl
section
variable{α σ ρ:Type}
def PL{l:List α}{i:Nat}(h:i<l.length):∃x,l.drop i=x::l.drop (i+1)/\eI l (i:Int)=some x:=
 ⟨l[i],Kq h,by unfold eI;rw[ee (by omega)];simp[h]⟩
def To{l:List α}{i:Nat}(h:i<l.length):uX (i:Int) (eN l)=true:=by unfold uX eN;simpa using h
def Vo{l:List α}{i:Nat}(h:l.length<=i):uX (i:Int) (eN l)=false:=by unfold uX eN;simpa using h
def MV{l:List α}(h:fm l=true):l.length<=Lw:=by simpa[fm] using h
def L6{l m:List α}(h:gy l m=true):l.length+m.length<=Lw:=by simpa[gy] using h
def MN{l:List α}{i:Nat}(h:i<l.length)(a:fm l=true):fk .i64 (i:Int) 1=((i+1:Nat):Int):=by
 have b:=MV a;unfold Lw at b;unfold fk;rw[IntKind.wrap_i64];omega
def LC{l:List α}{i:Nat}{j:Int}(a:j=(i:Int))(h:i<l.length):∃x,l.drop i=x::l.drop (i+1)/\eI l j=some x:=by subst a;exact PL h
def Pn{l:List α}{i:Nat}{j:Int}(a:j=(i:Int))(h:i<l.length):uX j (eN l)=true:=by subst a;exact To h
def M1{l:List α}{i:Nat}{j:Int}(a:j=(i:Int))(h:l.length<=i):uX j (eN l)=false:=by subst a;exact Vo h
def JN{l:List α}{i:Nat}{j:Int}(a:j=(i:Int))(h:i<l.length)(b:fm l=true):fk .i64 j 1=((i+1:Nat):Int):=by subst a;exact MN h b
def oa(f:σ->Option (gw σ ρ))(n:Nat)(s:σ):qR f (n+1) s=cv (f s) (Lx (qR f n)):=rfl
@[simp] theorem PY:nB true=false:=rfl
@[simp] theorem YA:nB false=true:=rfl
def zE(l m:List α):(gU l m).length=l.length+m.length:=by unfold gU;simp
end
def q8{S R:Type}(o:Option R)(s:S):Option (R×S):=match o with|some r=>some (r,s)|none=>none
@[simp] theorem E9{S R:Type}(r:R)(s:S):q8 (some r) s=some (r,s):=rfl
def vu{S R:Type}{o:Option R}{s a:S}{r:R}(h:q8 o s=some (r,a)):o=some r/\a=s:=by
 cases o with
 |none=>cases h
 |some x=>
  have:=iD h;exact⟨by rw[(iq this).1],((iq this).2).symm⟩
def xj{α:Type}(l:List α)(i:Int)(x:α):List α:=l.set i.toNat x
def yK{α:Type}(l:List α):Bool:=decide (0<l.length/\l.length<=Lw)
def Mx{α:Type}{l:List α}{i:Int}{x:α}(h:eI l i=some x):l[i.toNat]?=some x:=by
 unfold eI at h
 split at h
 ·exact h
 ·cases h
def HI{α:Type}{l:List α}{i:Int}{x:α}(h:eI l i=some x):0<=i/\i<(l.length:Int):=by
 unfold eI at h
 split at h
 ·rename_i a;have:=(pK.1 h).1;omega
 ·cases h
@[simp] theorem VZ{α:Type}(l:List α)(i:Int)(x:α):(xj l i x).length=l.length:=by simp[xj]
end Go.gV
