/- Part of the proof of UniformExact, UniformAccepted: layer. -/
import Derived.Below
import Derived.Laws.BytesArg
import Derived.Test.YtijednbpbbddbaaGreatDoorL7
set_option linter.all false
namespace Go.ek
open Go
def dR(k:IntKind)(a b:Int):Int:=k.wrap (a+b)
def ea(k:IntKind)(a b:Int):Int:=k.wrap (a-b)
def Oh(k:IntKind)(a b:Int):Int:=k.wrap (a*b)
def Vb(c:IntKind)(a b:Int):Int:=a.tmod b
def pS(k:IntKind)(a b:Int):Int:=k.wrap (BitVec.ofInt k.bits a&&&BitVec.ofInt k.bits b).toNat
def vT(k:IntKind)(a b:Int):Int:=k.wrap (BitVec.ofInt k.bits a|||BitVec.ofInt k.bits b).toNat
def TP(k:IntKind)(a b:Int):Int:=k.wrap (a*2^min b.toNat k.bits)
def T'(k:IntKind)(a b:Int):Int:=a.fdiv (2^min b.toNat k.bits)
def dm(a b:Int):Bool:=a==b
def dw(a b:Int):Bool:=a !=b
def pP(a b:Int):Bool:=a<b
def A8(a b:Int):Bool:=a<=b
def nW(a b:Int):Bool:=a>b
def rZ(a b:Int):Bool:=a>=b
def conv(k:IntKind)(a:Int):Int:=k.wrap a
def imax(a b:Int):Int:=if b>a then b else a
def We(a b:Bool):Bool:=!(a==b)
def m9(a:Bool):Bool:=!a
def seq(x y:ByteArray):Bool:=x.toList==y.toList
def eH{α:Type}(c:Bool)(a b:α):α:=if c then a else b
@[simp] theorem yL{α:Type}(a b:α):eH true a b=a:=rfl
@[simp] theorem v7{α:Type}(a b:α):eH false a b=b:=rfl
def dn{α:Type}(l:List α):Int:=l.length
def df{α:Type}(l:List α)(i:Int):Option α:=if 0<=i then l[i.toNat]?else none
def eV{α:Type}(l m:List α):List α:=l++m
def tu{α:Type}(l:List α)(lo hi:Int):Option (List α):=if 0<=lo/\0<=hi/\hi.toNat<=l.length/\lo.toNat<=hi.toNat then some ((l.take hi.toNat).drop lo.toNat)else none
def sm{α:Type}:List (Int×α)->Int->α->List (Int×α)
 |[],k,v=>[(k,v)]|p::l,k,v=>if p.1=k then(k,v)::l else p::sm l k v
def NS:Nat:=1099511627776
def eM{α:Type}(l m:List α):Bool:=decide (l.length+m.length<=NS)
def eg{α:Type}(l:List α):Bool:=decide (l.length<=NS)
def K0(b:Int):Bool:=!decide (b=0)
def HN(b:Int):Bool:=!decide (b<0)
@[irreducible] def FU:Nat:=1000000000
theorem dp:FU=1000000000:=by unfold FU;rfl
section
variable{α β γ δ ε ζ η ρ σ τ:Type}
def cG(o:Option α)(f:α->Option ρ):Option ρ:=match o with|some a=>f a|none=>none
def cX(o:Option (α×β))(f:α->β->Option ρ):Option ρ:=match o with|some (a,b)=>f a b|none=>none
def hB(o:Option (α×β×γ))(f:α->β->γ->Option ρ):Option ρ:=match o with|some (a,b,c)=>f a b c|none=>none
def OO(o:Option (α×β×γ×δ))(f:α->β->γ->δ->Option ρ):Option ρ:=match o with|some (a,b,c,d)=>f a b c d|none=>none
def fY(p:Bool)(o:Option ρ):Option ρ:=if p then o else none
def dj{κ:Type}(k:κ)(b:κ->Option ρ):Option ρ:=b k
@[simp] theorem cv(a:α)(f:α->Option ρ):cG (some a) f=f a:=rfl
@[simp] theorem cH(a:α)(b:β)(f:α->β->Option ρ):cX (some (a,b)) f=f a b:=rfl
@[simp] theorem ij(a:α)(b:β)(c:γ)(f:α->β->γ->Option ρ):hB (some (a,b,c)) f=f a b c:=rfl
@[simp] theorem aeB(a:α)(b:β)(c:γ)(d:δ)(f:α->β->γ->δ->Option ρ):OO (some (a,b,c,d)) f=f a b c d:=rfl
@[simp] theorem ab'(f:α->Option ρ):cG none f=none:=rfl
@[simp] theorem cL(o:Option ρ):fY true o=o:=rfl
@[simp] theorem acd(o:Option ρ):fY false o=none:=rfl
@[simp] theorem cN{κ:Type}(k:κ)(b:κ->Option ρ):dj k b=b k:=rfl
def dJ{o:Option α}{f:α->Option ρ}{r:ρ}(h:cG o f=some r):∃a,o=some a/\f a=some r:=by
 cases o with|none=>cases h|some a=>exact⟨a,rfl,h⟩
def j9{o:Option (α×β)}{f:α->β->Option ρ}{r:ρ}(h:cX o f=some r):∃a b,o=some (a,b)/\f a b=some r:=by
 cases o with|none=>cases h|some a=>exact⟨a.1,a.2,rfl,h⟩
def AX{o:Option (α×β×γ)}{f:α->β->γ->Option ρ}{r:ρ}(h:hB o f=some r):∃a b c,o=some (a,b,c)/\f a b c=some r:=by
 cases o with|none=>cases h|some a=>exact⟨a.1,a.2.1,a.2.2,rfl,h⟩
def SY{o:Option (α×β×γ×δ)}{f:α->β->γ->δ->Option ρ}{r:ρ}(h:OO o f=some r):∃a b c d,o=some (a,b,c,d)/\f a b c d=some r:=by
 cases o with|none=>cases h|some a=>exact⟨a.1,a.2.1,a.2.2.1,a.2.2.2,rfl,h⟩
def oR{p:Bool}{o:Option ρ}{r:ρ}(h:fY p o=some r):p=true/\o=some r:=by
 cases p with|false=>cases h|true=>exact⟨rfl,h⟩
def lK{κ:Type}{k:κ}{b:κ->Option ρ}{r:ρ}(h:dj k b=some r):∃j,j=k/\b j=some r:=⟨k,rfl,h⟩
def kU{c:Bool}{a b:Option ρ}{r:ρ}(h:(if c then a else b)=some r):c=true/\a=some r\/c=false/\b=some r:=by
 cases c with|false=>exact .inr ⟨rfl,h⟩|true=>exact .inl ⟨rfl,h⟩
inductive eu (σ ρ:Type) where
 |next (s:σ)|vN (s:σ)|ret (r:ρ)
def Rf(k:σ->Option (σ⊕ρ)):eu σ ρ->Option (σ⊕ρ)
 |.next s=>k s|.vN s=>some (.inl s)|.ret r=>some (.inr r)
def fi(k:σ->Option τ)(r:ρ->Option τ):σ⊕ρ->Option τ
 |.inl s=>k s|.inr x=>r x
@[simp] theorem dr(k:σ->Option (σ⊕ρ))(s:σ):Rf k (.next s)=k s:=rfl
@[simp] theorem aev(k:σ->Option (σ⊕ρ))(s:σ):Rf k (.vN s)=some (.inl s):=rfl
@[simp] theorem EO(k:σ->Option (σ⊕ρ))(x:ρ):Rf k (.ret x)=some (.inr x):=rfl
@[simp] theorem cS(k:σ->Option τ)(r:ρ->Option τ)(s:σ):fi k r (.inl s)=k s:=rfl
@[simp] theorem mV(k:σ->Option τ)(r:ρ->Option τ)(x:ρ):fi k r (.inr x)=r x:=rfl
def dP(f:Int->α->σ->Option (eu σ ρ)):List α->Nat->σ->Option (σ⊕ρ)
 |[],_,s=>some (.inl s)|x::l,i,s=>cG (f (i:Int) x s) (Rf (dP f l (i+1)))
def jb(f:σ->Option (eu σ ρ)):Nat->σ->Option (σ⊕ρ)
 |0,_=>none|n+1,s=>cG (f s) (Rf (jb f n))
@[simp] theorem lT(f:Int->α->σ->Option (eu σ ρ))(i:Nat)(s:σ):dP f [] i s=some (.inl s):=rfl
@[simp] theorem dq(f:Int->α->σ->Option (eu σ ρ))(x:α)(l:List α)(i:Nat)(s:σ):dP f (x::l) i s=cG (f (i:Int) x s) (Rf (dP f l (i+1))):=rfl
def nk(f:α->β->τ)(p:α×β):τ:=f p.1 p.2
def PV(f:α->β->γ->τ)(p:α×β×γ):τ:=f p.1 p.2.1 p.2.2
def Yw(f:α->β->γ->δ->τ)(p:α×β×γ×δ):τ:=f p.1 p.2.1 p.2.2.1 p.2.2.2
def un5(f:α->β->γ->δ->ε->τ)(p:α×β×γ×δ×ε):τ:=f p.1 p.2.1 p.2.2.1 p.2.2.2.1 p.2.2.2.2
def Ru(f:α->β->γ->δ->ε->ζ->τ)(p:α×β×γ×δ×ε×ζ):τ:=f p.1 p.2.1 p.2.2.1 p.2.2.2.1 p.2.2.2.2.1 p.2.2.2.2.2
@[simp] theorem gD(f:α->β->τ)(a:α)(b:β):nk f (a,b)=f a b:=rfl
@[simp] theorem PT(f:α->β->γ->τ)(a:α)(b:β)(c:γ):PV f (a,b,c)=f a b c:=rfl
@[simp] theorem VS(f:α->β->γ->δ->τ)(a:α)(b:β)(c:γ)(d:δ):Yw f (a,b,c,d)=f a b c d:=rfl
@[simp] theorem Kq(f:α->β->γ->δ->ε->τ)(a:α)(b:β)(c:γ)(d:δ)(e:ε):un5 f (a,b,c,d,e)=f a b c d e:=rfl
@[simp] theorem Aw(f:α->β->γ->δ->ε->ζ->τ)(a:α)(b:β)(c:γ)(d:δ)(e:ε)(g:ζ):Ru f (a,b,c,d,e,g)=f a b c d e g:=rfl
end
def un8{α β γ δ ε ζ η θ τ:Type}(f:α->β->γ->δ->ε->ζ->η->θ->τ)(p:α×β×γ×δ×ε×ζ×η×θ):τ:=f p.1 p.2.1 p.2.2.1 p.2.2.2.1 p.2.2.2.2.1 p.2.2.2.2.2.1 p.2.2.2.2.2.2.1 p.2.2.2.2.2.2.2
@[simp] theorem PQ{α β γ δ ε ζ η θ τ:Type}(f:α->β->γ->δ->ε->ζ->η->θ->τ)(a:α)(b:β)(c:γ)(d:δ)(e:ε)(g:ζ)(h:η)(i:θ):un8 f (a,b,c,d,e,g,h,i)=f a b c d e g h i:=rfl
def QQ{α β γ δ ε ζ η θ ι τ:Type}(f:α->β->γ->δ->ε->ζ->η->θ->ι->τ)(p:α×β×γ×δ×ε×ζ×η×θ×ι):τ:=f p.1 p.2.1 p.2.2.1 p.2.2.2.1 p.2.2.2.2.1 p.2.2.2.2.2.1 p.2.2.2.2.2.2.1 p.2.2.2.2.2.2.2.1 p.2.2.2.2.2.2.2.2
@[simp] theorem QD{α β γ δ ε ζ η θ ι τ:Type}(f:α->β->γ->δ->ε->ζ->η->θ->ι->τ)(a:α)(b:β)(c:γ)(d:δ)(e:ε)(g:ζ)(h:η)(i:θ)(j:ι):QQ f (a,b,c,d,e,g,h,i,j)=f a b c d e g h i j:=rfl
def VU{α β γ δ ε ζ η θ ι κ τ:Type}(f:α->β->γ->δ->ε->ζ->η->θ->ι->κ->τ)(p:α×β×γ×δ×ε×ζ×η×θ×ι×κ):τ:=f p.1 p.2.1 p.2.2.1 p.2.2.2.1 p.2.2.2.2.1 p.2.2.2.2.2.1 p.2.2.2.2.2.2.1 p.2.2.2.2.2.2.2.1 p.2.2.2.2.2.2.2.2.1 p.2.2.2.2.2.2.2.2.2
@[simp] theorem FQ{α β γ δ ε ζ η θ ι κ τ:Type}(f:α->β->γ->δ->ε->ζ->η->θ->ι->κ->τ)(a:α)(b:β)(c:γ)(d:δ)(e:ε)(g:ζ)(h:η)(i:θ)(j:ι)(k:κ):VU f (a,b,c,d,e,g,h,i,j,k)=f a b c d e g h i j k:=rfl
section
variable{α σ ρ:Type}
def Uj{l:List α}{i:Nat}(h:i<l.length):∃x,l.drop i=x::l.drop (i+1)/\df l (i:Int)=some x:=
 ⟨l[i],L2 h,by unfold df;rw[cK VW];simp[h]⟩
def WU{l:List α}{i:Nat}(h:i<l.length):pP (i:Int) (dn l)=true:=by unfold pP dn;simpa using h
def YR{l:List α}{i:Nat}(h:l.length<=i):pP (i:Int) (dn l)=false:=by unfold pP dn;simpa using h
def QO{l:List α}(h:eg l=true):l.length<=NS:=by simpa[eg] using h
def RD{l m:List α}(h:eM l m=true):l.length+m.length<=NS:=by simpa[eM] using h
def Ro{l:List α}{i:Nat}(h:i<l.length)(a:eg l=true):dR .i64 (i:Int) 1=((i+1:Nat):Int):=by
 have b:=QO a;unfold NS at b;unfold dR;rw[IntKind.wrap_i64];omega
def Rb{l:List α}{i:Nat}{j:Int}(a:j=(i:Int))(h:i<l.length):∃x,l.drop i=x::l.drop (i+1)/\df l j=some x:=by subst a;exact Uj h
def Uk{l:List α}{i:Nat}{j:Int}(a:j=(i:Int))(h:i<l.length):pP j (dn l)=true:=by subst a;exact WU h
def RG{l:List α}{i:Nat}{j:Int}(a:j=(i:Int))(h:l.length<=i):pP j (dn l)=false:=by subst a;exact YR h
def OW{l:List α}{i:Nat}{j:Int}(a:j=(i:Int))(h:i<l.length)(b:eg l=true):dR .i64 j 1=((i+1:Nat):Int):=by subst a;exact Ro h b
def gb(f:σ->Option (eu σ ρ))(n:Nat)(s:σ):jb f (n+1) s=cG (f s) (Rf (jb f n)):=rfl
@[simp] theorem JY:m9 true=false:=rfl
@[simp] theorem ab_:m9 false=true:=rfl
def A'(l m:List α):(eV l m).length=l.length+m.length:=by unfold eV;simp
end
def mr{S R:Type}(o:Option R)(s:S):Option (R×S):=match o with|some r=>some (r,s)|none=>none
@[simp] theorem wc{S R:Type}(r:R)(s:S):mr (some r) s=some (r,s):=rfl
def vH{S R:Type}{o:Option R}{s a:S}{r:R}(h:mr o s=some (r,a)):o=some r/\a=s:=by
 cases o with
 |none=>cases h
 |some x=>
  have:=gB h;exact⟨by rw[(gE this).1],((gE this).2).symm⟩
def xk{α:Type}(l:List α)(i:Int)(x:α):List α:=l.set i.toNat x
def wx{α:Type}(l:List α):Bool:=decide (0<l.length/\l.length<=NS)
def RX{α:Type}{l:List α}{i:Int}{x:α}(h:df l i=some x):l[i.toNat]?=some x:=by
 unfold df at h
 split at h
 ·exact h
 ·cases h
def M_{α:Type}{l:List α}{i:Int}{x:α}(h:df l i=some x):0<=i/\i<(l.length:Int):=by
 unfold df at h
 split at h
 ·rename_i a;have:=(qb.1 h).1;omega
 ·cases h
@[simp] theorem Z3{α:Type}(l:List α)(i:Int)(x:α):(xk l i x).length=l.length:=by simp[xk]
end Go.ek
