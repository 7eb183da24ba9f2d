/- Part of the proof of KernelTyped: layer. -/
import Derived.Below
import Derived.Laws.BytesArg
import Derived.Test.YtobcafblgapgfaaGreatDoorL6
set_option linter.all false
namespace Go.hI
open Go
def fk(k:IntKind)(a b:Int):Int:=k.wrap (a+b)
def fD(k:IntKind)(a b:Int):Int:=k.wrap (a-b)
def I4(k:IntKind)(a b:Int):Int:=k.wrap (a*b)
def Su(c:IntKind)(a b:Int):Int:=a.tmod b
def qN(k:IntKind)(a b:Int):Int:=k.wrap (BitVec.ofInt k.bits a&&&BitVec.ofInt k.bits b).toNat
def xj(k:IntKind)(a b:Int):Int:=k.wrap (BitVec.ofInt k.bits a|||BitVec.ofInt k.bits b).toNat
def RZ(k:IntKind)(a b:Int):Int:=k.wrap (a*2^min b.toNat k.bits)
def SD(k:IntKind)(a b:Int):Int:=a.fdiv (2^min b.toNat k.bits)
def eH(a b:Int):Bool:=a==b
def eW(a b:Int):Bool:=a !=b
def ue(a b:Int):Bool:=a<b
def MV(a b:Int):Bool:=a<=b
def nX(a b:Int):Bool:=a>b
def sN(a b:Int):Bool:=a>=b
def conv(k:IntKind)(a:Int):Int:=k.wrap a
def imax(a b:Int):Int:=if b>a then b else a
def nt(a:Bool):Bool:=!a
def seq(x y:ByteArray):Bool:=x.toList==y.toList
def fU{α:Type}(c:Bool)(a b:α):α:=if c=true then a else b
@[simp] theorem xG{α:Type}(a b:α):fU true a b=a:=rfl
@[simp] theorem xy{α:Type}(a b:α):fU false a b=b:=rfl
def eM{α:Type}(l:List α):Int:=l.length
def eJ{α:Type}(l:List α)(i:Int):Option α:=if 0<=i then l[i.toNat]?else none
def gG{α:Type}(l m:List α):List α:=l++m
def Bm{α:Type}(l:List α)(lo hi:Int):Option (List α):=if 0<=lo/\0<=hi/\hi.toNat<=l.length/\lo.toNat<=hi.toNat then some ((l.take hi.toNat).drop lo.toNat)else none
def uL{α:Type}:List (Int×α)->Int->α->List (Int×α)
 |[],k,v=>[(k,v)]|p::l,k,v=>if p.1=k then(k,v)::l else p::uL l k v
def Lk:Nat:=1099511627776
def gr{α:Type}(l m:List α):Bool:=decide (l.length+m.length<=Lk)
def fm{α:Type}(l:List α):Bool:=decide (l.length<=Lk)
def Jp(b:Int):Bool:=!decide (b=0)
def H4(b:Int):Bool:=!decide (b<0)
@[irreducible] def FU:Nat:=1000000000
theorem fy:FU=1000000000:=by unfold FU;rfl
section
variable{α β γ δ ε ζ η ρ σ τ:Type}
def cv(o:Option α)(f:α->Option ρ):Option ρ:=match o with|some a=>f a|none=>none
def ek(o:Option (α×β))(f:α->β->Option ρ):Option ρ:=match o with|some (a,b)=>f a b|none=>none
def iL(o:Option (α×β×γ))(f:α->β->γ->Option ρ):Option ρ:=match o with|some (a,b,c)=>f a b c|none=>none
def Ph(o:Option (α×β×γ×δ))(f:α->β->γ->δ->Option ρ):Option ρ:=match o with|some (a,b,c,d)=>f a b c d|none=>none
def gS(p:Bool)(o:Option ρ):Option ρ:=if p=true then o else none
def eK{κ:Type}(k:κ)(b:κ->Option ρ):Option ρ:=b k
@[simp] theorem cl(a:α)(f:α->Option ρ):cv (some a) f=f a:=rfl
@[simp] theorem eb(a:α)(b:β)(f:α->β->Option ρ):ek (some (a,b)) f=f a b:=rfl
@[simp] theorem ov(a:α)(b:β)(c:γ)(f:α->β->γ->Option ρ):iL (some (a,b,c)) f=f a b c:=rfl
@[simp] theorem eo(o:Option ρ):gS true o=o:=rfl
@[simp] theorem ez{κ:Type}(k:κ)(b:κ->Option ρ):eK k b=b k:=rfl
def eO{o:Option α}{f:α->Option ρ}{r:ρ}(h:cv o f=some r):∃a,o=some a/\f a=some r:=by
 cases o with|none=>cases h|some a=>exact⟨a,rfl,h⟩
def jk{o:Option (α×β)}{f:α->β->Option ρ}{r:ρ}(h:ek o f=some r):∃a b,o=some (a,b)/\f a b=some r:=by
 cases o with|none=>cases h|some a=>exact⟨a.1,a.2,rfl,h⟩
def BK{o:Option (α×β×γ)}{f:α->β->γ->Option ρ}{r:ρ}(h:iL o f=some r):∃a b c,o=some (a,b,c)/\f a b c=some r:=by
 cases o with|none=>cases h|some a=>exact⟨a.1,a.2.1,a.2.2,rfl,h⟩
def NY{o:Option (α×β×γ×δ)}{f:α->β->γ->δ->Option ρ}{r:ρ}(h:Ph o f=some r):∃a b c d,o=some (a,b,c,d)/\f a b c d=some r:=by
 cases o with|none=>cases h|some a=>exact⟨a.1,a.2.1,a.2.2.1,a.2.2.2,rfl,h⟩
def m9{p:Bool}{o:Option ρ}{r:ρ}(h:gS p o=some r):p=true/\o=some r:=by
 cases p with|false=>cases h|true=>exact⟨rfl,h⟩
def mf{κ:Type}{k:κ}{b:κ->Option ρ}{r:ρ}(h:eK k b=some r):∃j,j=k/\b j=some r:=⟨k,rfl,h⟩
def jw{c:Bool}{a b:Option ρ}{r:ρ}(h:(if c=true then a else b)=some r):c=true/\a=some r\/c=false/\b=some r:=by
 cases c with|false=>exact .inr ⟨rfl,h⟩|true=>exact .inl ⟨rfl,h⟩
inductive gj (σ ρ:Type) where
 |next (s:σ)|Ft (s:σ)|ret (r:ρ)
def MB(k:σ->Option (σ⊕ρ)):gj σ ρ->Option (σ⊕ρ)
 |.next s=>k s|.Ft s=>some (.inl s)|.ret r=>some (.inr r)
def gd(k:σ->Option τ)(r:ρ->Option τ):σ⊕ρ->Option τ
 |.inl s=>k s|.inr x=>r x
@[simp] theorem ft(k:σ->Option (σ⊕ρ))(s:σ):MB k (.next s)=k s:=rfl
@[simp] theorem aah(k:σ->Option (σ⊕ρ))(s:σ):MB k (.Ft s)=some (.inl s):=rfl
@[simp] theorem zL(k:σ->Option (σ⊕ρ))(x:ρ):MB k (.ret x)=some (.inr x):=rfl
@[simp] theorem ei(k:σ->Option τ)(r:ρ->Option τ)(s:σ):gd k r (.inl s)=k s:=rfl
@[simp] theorem p0(k:σ->Option τ)(r:ρ->Option τ)(x:ρ):gd k r (.inr x)=r x:=rfl
def fp(f:Int->α->σ->Option (gj σ ρ)):List α->Nat->σ->Option (σ⊕ρ)
 |[],_,s=>some (.inl s)|x::l,i,s=>cv (f (i:Int) x s) (MB (fp f l (i+1)))
def pw(f:σ->Option (gj σ ρ)):Nat->σ->Option (σ⊕ρ)
 |0,_=>none|n+1,s=>cv (f s) (MB (pw f n))
@[simp] theorem pq(f:Int->α->σ->Option (gj σ ρ))(i:Nat)(s:σ):fp f [] i s=some (.inl s):=rfl
@[simp] theorem fl(f:Int->α->σ->Option (gj σ ρ))(x:α)(l:List α)(i:Nat)(s:σ):fp f (x::l) i s=cv (f (i:Int) x s) (MB (fp f l (i+1))):=rfl
def uv(f:α->β->τ)(p:α×β):τ:=f p.1 p.2
def MT(f:α->β->γ->τ)(p:α×β×γ):τ:=f p.1 p.2.1 p.2.2
def Ys(f:α->β->γ->δ->τ)(p:α×β×γ×δ):τ:=f p.1 p.2.1 p.2.2.1 p.2.2.2
def ZH(f:α->β->γ->δ->ε->τ)(p:α×β×γ×δ×ε):τ:=f p.1 p.2.1 p.2.2.1 p.2.2.2.1 p.2.2.2.2
def QY(f:α->β->γ->δ->ε->ζ->τ)(p:α×β×γ×δ×ε×ζ):τ:=f p.1 p.2.1 p.2.2.1 p.2.2.2.1 p.2.2.2.2.1 p.2.2.2.2.2
@[simp] theorem nb(f:α->β->τ)(a:α)(b:β):uv f (a,b)=f a b:=rfl
@[simp] theorem uj(f:α->β->γ->τ)(a:α)(b:β)(c:γ):MT f (a,b,c)=f a b c:=rfl
@[simp] theorem RC(f:α->β->γ->δ->τ)(a:α)(b:β)(c:γ)(d:δ):Ys f (a,b,c,d)=f a b c d:=rfl
@[simp] theorem F9(f:α->β->γ->δ->ε->τ)(a:α)(b:β)(c:γ)(d:δ)(e:ε):ZH f (a,b,c,d,e)=f a b c d e:=rfl
@[simp] theorem zh(f:α->β->γ->δ->ε->ζ->τ)(a:α)(b:β)(c:γ)(d:δ)(e:ε)(g:ζ):QY f (a,b,c,d,e,g)=f a b c d e g:=rfl
end
def Yn{α β γ δ ε ζ η θ ι τ:Type}(f:α->β->γ->δ->ε->ζ->η->θ->ι->τ)(p:α×β×γ×δ×ε×ζ×η×θ×ι):τ:=f p.1 p.2.1 p.2.2.1 p.2.2.2.1 p.2.2.2.2.1 p.2.2.2.2.2.1 p.2.2.2.2.2.2.1 p.2.2.2.2.2.2.2.1 p.2.2.2.2.2.2.2.2
@[simp] theorem SH{α β γ δ ε ζ η θ ι τ:Type}(f:α->β->γ->δ->ε->ζ->η->θ->ι->τ)(a:α)(b:β)(c:γ)(d:δ)(e:ε)(g:ζ)(h:η)(i:θ)(j:ι):Yn f (a,b,c,d,e,g,h,i,j)=f a b c d e g h i j:=rfl
section
variable{α σ ρ:Type}
def Pj{l:List α}{i:Nat}(h:i<l.length):∃x,l.drop i=x::l.drop (i+1)/\eJ l (i:Int)=some x:=
 ⟨l[i],J1 h,by unfold eJ;rw[ee (by omega)];simp[h]⟩
def Sn{l:List α}{i:Nat}(h:i<l.length):ue (i:Int) (eM l)=true:=by unfold ue eM;simpa using h
def UY{l:List α}{i:Nat}(h:l.length<=i):ue (i:Int) (eM l)=false:=by unfold ue eM;simpa using h
def M_{l:List α}(h:fm l=true):l.length<=Lk:=by simpa[fm] using h
def MZ{l m:List α}(h:gr l m=true):l.length+m.length<=Lk:=by simpa[gr] using h
def MU{l:List α}{i:Nat}(h:i<l.length)(a:fm l=true):fk .i64 (i:Int) 1=((i+1:Nat):Int):=by
 have b:=M_ a;unfold Lk at b;unfold fk;rw[IntKind.wrap_i64];omega
def Md{l:List α}{i:Nat}{j:Int}(a:j=(i:Int))(h:i<l.length):∃x,l.drop i=x::l.drop (i+1)/\eJ l j=some x:=by subst a;exact Pj h
def Pk{l:List α}{i:Nat}{j:Int}(a:j=(i:Int))(h:i<l.length):ue j (eM l)=true:=by subst a;exact Sn h
def Lz{l:List α}{i:Nat}{j:Int}(a:j=(i:Int))(h:l.length<=i):ue j (eM l)=false:=by subst a;exact UY h
def Jf{l:List α}{i:Nat}{j:Int}(a:j=(i:Int))(h:i<l.length)(b:fm l=true):fk .i64 j 1=((i+1:Nat):Int):=by subst a;exact MU h b
def od(f:σ->Option (gj σ ρ))(n:Nat)(s:σ):pw f (n+1) s=cv (f s) (MB (pw f n)):=rfl
@[simp] theorem Qg:nt true=false:=rfl
@[simp] theorem Xt:nt false=true:=rfl
def z7(l m:List α):(gG l m).length=l.length+m.length:=by unfold gG;simp
end
def q_{S R:Type}(o:Option R)(s:S):Option (R×S):=match o with|some r=>some (r,s)|none=>none
@[simp] theorem EA{S R:Type}(r:R)(s:S):q_ (some r) s=some (r,s):=rfl
def vt{S R:Type}{o:Option R}{s a:S}{r:R}(h:q_ o s=some (r,a)):o=some r/\a=s:=by
 cases o with
 |none=>cases h
 |some x=>
  have:=iy h;exact⟨by rw[(iz this).1],((iz this).2).symm⟩
def xl{α:Type}(l:List α)(i:Int)(x:α):List α:=l.set i.toNat x
def yI{α:Type}(l:List α):Bool:=decide (0<l.length/\l.length<=Lk)
def Me{α:Type}{l:List α}{i:Int}{x:α}(h:eJ l i=some x):l[i.toNat]?=some x:=by
 unfold eJ at h
 split at h
 ·exact h
 ·cases h
def Gk{α:Type}{l:List α}{i:Int}{x:α}(h:eJ l i=some x):0<=i/\i<(l.length:Int):=by
 unfold eJ at h
 split at h
 ·rename_i a;have:=(pz.1 h).1;omega
 ·cases h
@[simp] theorem Vh{α:Type}(l:List α)(i:Int)(x:α):(xl l i x).length=l.length:=by simp[xl]
end Go.hI
