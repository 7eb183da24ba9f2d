/- Part of the proof of KernelUniform: layer. -/
import Derived.Below
import Derived.Laws.BytesArg
import Derived.Test.YtobcafblgapgfaaGreatDoorL6
set_option linter.all false
namespace Go.hJ
open Go
def fj(k:IntKind)(a b:Int):Int:=k.wrap (a+b)
def fB(k:IntKind)(a b:Int):Int:=k.wrap (a-b)
def JW(k:IntKind)(a b:Int):Int:=k.wrap (a*b)
def RK(c:IntKind)(a b:Int):Int:=a.tmod b
def qA(k:IntKind)(a b:Int):Int:=k.wrap (BitVec.ofInt k.bits a&&&BitVec.ofInt k.bits b).toNat
def xm(k:IntKind)(a b:Int):Int:=k.wrap (BitVec.ofInt k.bits a|||BitVec.ofInt k.bits b).toNat
def QN(k:IntKind)(a b:Int):Int:=k.wrap (a*2^min b.toNat k.bits)
def RF(k:IntKind)(a b:Int):Int:=a.fdiv (2^min b.toNat k.bits)
def eH(a b:Int):Bool:=a==b
def eW(a b:Int):Bool:=a !=b
def tW(a b:Int):Bool:=a<b
def Jx(a b:Int):Bool:=a<=b
def nS(a b:Int):Bool:=a>b
def tq(a b:Int):Bool:=a>=b
def conv(k:IntKind)(a:Int):Int:=k.wrap a
def imax(a b:Int):Int:=if b>a then b else a
def WZ(a b:Bool):Bool:=!(a==b)
def nC(a:Bool):Bool:=!a
def seq(x y:ByteArray):Bool:=x.toList==y.toList
def fU{α:Type}(c:Bool)(a b:α):α:=if c=true then a else b
@[simp] theorem w7{α:Type}(a b:α):fU true a b=a:=rfl
@[simp] theorem xo{α:Type}(a b:α):fU false a b=b:=rfl
def eM{α:Type}(l:List α):Int:=l.length
def eI{α:Type}(l:List α)(i:Int):Option α:=if 0<=i then l[i.toNat]?else none
def gv{α:Type}(l m:List α):List α:=l++m
def Bl{α:Type}(l:List α)(lo hi:Int):Option (List α):=if 0<=lo/\0<=hi/\hi.toNat<=l.length/\lo.toNat<=hi.toNat then some ((l.take hi.toNat).drop lo.toNat)else none
def uo{α:Type}:List (Int×α)->Int->α->List (Int×α)
 |[],k,v=>[(k,v)]|p::l,k,v=>if p.1=k then(k,v)::l else p::uo l k v
def Kw:Nat:=1099511627776
def gf{α:Type}(l m:List α):Bool:=decide (l.length+m.length<=Kw)
def fo{α:Type}(l:List α):Bool:=decide (l.length<=Kw)
def IM(b:Int):Bool:=!decide (b=0)
def Iq(b:Int):Bool:=!decide (b<0)
@[irreducible] def FU:Nat:=1000000000
def fy:FU=1000000000:=by unfold FU;rfl
section
variable{α β γ δ ε ζ η ρ σ τ:Type}
def cv(o:Option α)(f:α->Option ρ):Option ρ:=match o with|some a=>f a|none=>none
def ei(o:Option (α×β))(f:α->β->Option ρ):Option ρ:=match o with|some (a,b)=>f a b|none=>none
def iG(o:Option (α×β×γ))(f:α->β->γ->Option ρ):Option ρ:=match o with|some (a,b,c)=>f a b c|none=>none
def Ob(o:Option (α×β×γ×δ))(f:α->β->γ->δ->Option ρ):Option ρ:=match o with|some (a,b,c,d)=>f a b c d|none=>none
def g_(p:Bool)(o:Option ρ):Option ρ:=if p=true then o else none
def eJ{κ:Type}(k:κ)(b:κ->Option ρ):Option ρ:=b k
@[simp] theorem cl(a:α)(f:α->Option ρ):cv (some a) f=f a:=rfl
@[simp] theorem eb(a:α)(b:β)(f:α->β->Option ρ):ei (some (a,b)) f=f a b:=rfl
@[simp] theorem o_(a:α)(b:β)(c:γ)(f:α->β->γ->Option ρ):iG (some (a,b,c)) f=f a b c:=rfl
@[simp] theorem eo(o:Option ρ):g_ true o=o:=rfl
@[simp] theorem ey{κ:Type}(k:κ)(b:κ->Option ρ):eJ k b=b k:=rfl
def eO{o:Option α}{f:α->Option ρ}{r:ρ}(h:cv o f=some r):∃a,o=some a/\f a=some r:=by
 cases o with|none=>cases h|some a=>exact⟨a,rfl,h⟩
def jg{o:Option (α×β)}{f:α->β->Option ρ}{r:ρ}(h:ei o f=some r):∃a b,o=some (a,b)/\f a b=some r:=by
 cases o with|none=>cases h|some a=>exact⟨a.1,a.2,rfl,h⟩
def Bo{o:Option (α×β×γ)}{f:α->β->γ->Option ρ}{r:ρ}(h:iG o f=some r):∃a b c,o=some (a,b,c)/\f a b c=some r:=by
 cases o with|none=>cases h|some a=>exact⟨a.1,a.2.1,a.2.2,rfl,h⟩
def M_{o:Option (α×β×γ×δ)}{f:α->β->γ->δ->Option ρ}{r:ρ}(h:Ob o f=some r):∃a b c d,o=some (a,b,c,d)/\f a b c d=some r:=by
 cases o with|none=>cases h|some a=>exact⟨a.1,a.2.1,a.2.2.1,a.2.2.2,rfl,h⟩
def mV{p:Bool}{o:Option ρ}{r:ρ}(h:g_ p o=some r):p=true/\o=some r:=by
 cases p with|false=>cases h|true=>exact⟨rfl,h⟩
def l_{κ:Type}{k:κ}{b:κ->Option ρ}{r:ρ}(h:eJ k b=some r):∃j,j=k/\b j=some r:=⟨k,rfl,h⟩
def jm{c:Bool}{a b:Option ρ}{r:ρ}(h:(if c=true then a else b)=some r):c=true/\a=some r\/c=false/\b=some r:=by
 cases c with|false=>exact .inr ⟨rfl,h⟩|true=>exact .inl ⟨rfl,h⟩
inductive gu (σ ρ:Type) where
 |next (s:σ)|DQ (s:σ)|ret (r:ρ)
def LK(k:σ->Option (σ⊕ρ)):gu σ ρ->Option (σ⊕ρ)
 |.next s=>k s|.DQ s=>some (.inl s)|.ret r=>some (.inr r)
def gm(k:σ->Option τ)(r:ρ->Option τ):σ⊕ρ->Option τ
 |.inl s=>k s|.inr x=>r x
@[simp] theorem fA(k:σ->Option (σ⊕ρ))(s:σ):LK k (.next s)=k s:=rfl
@[simp] theorem Yk(k:σ->Option (σ⊕ρ))(s:σ):LK k (.DQ s)=some (.inl s):=rfl
@[simp] theorem BT(k:σ->Option (σ⊕ρ))(x:ρ):LK k (.ret x)=some (.inr x):=rfl
@[simp] theorem en(k:σ->Option τ)(r:ρ->Option τ)(s:σ):gm k r (.inl s)=k s:=rfl
@[simp] theorem qi(k:σ->Option τ)(r:ρ->Option τ)(x:ρ):gm k r (.inr x)=r x:=rfl
def ft(f:Int->α->σ->Option (gu σ ρ)):List α->Nat->σ->Option (σ⊕ρ)
 |[],_,s=>some (.inl s)|x::l,i,s=>cv (f (i:Int) x s) (LK (ft f l (i+1)))
def oH(f:σ->Option (gu σ ρ)):Nat->σ->Option (σ⊕ρ)
 |0,_=>none|n+1,s=>cv (f s) (LK (oH f n))
@[simp] theorem pe(f:Int->α->σ->Option (gu σ ρ))(i:Nat)(s:σ):ft f [] i s=some (.inl s):=rfl
@[simp] theorem fm(f:Int->α->σ->Option (gu σ ρ))(x:α)(l:List α)(i:Nat)(s:σ):ft f (x::l) i s=cv (f (i:Int) x s) (LK (ft f l (i+1))):=rfl
def sD(f:α->β->τ)(p:α×β):τ:=f p.1 p.2
def La(f:α->β->γ->τ)(p:α×β×γ):τ:=f p.1 p.2.1 p.2.2
def Xc(f:α->β->γ->δ->τ)(p:α×β×γ×δ):τ:=f p.1 p.2.1 p.2.2.1 p.2.2.2
def Yx(f:α->β->γ->δ->ε->τ)(p:α×β×γ×δ×ε):τ:=f p.1 p.2.1 p.2.2.1 p.2.2.2.1 p.2.2.2.2
def P0(f:α->β->γ->δ->ε->ζ->τ)(p:α×β×γ×δ×ε×ζ):τ:=f p.1 p.2.1 p.2.2.1 p.2.2.2.1 p.2.2.2.2.1 p.2.2.2.2.2
@[simp] theorem mf(f:α->β->τ)(a:α)(b:β):sD f (a,b)=f a b:=rfl
@[simp] theorem tU(f:α->β->γ->τ)(a:α)(b:β)(c:γ):La f (a,b,c)=f a b c:=rfl
@[simp] theorem Qj(f:α->β->γ->δ->τ)(a:α)(b:β)(c:γ)(d:δ):Xc f (a,b,c,d)=f a b c d:=rfl
@[simp] theorem FH(f:α->β->γ->δ->ε->τ)(a:α)(b:β)(c:γ)(d:δ)(e:ε):Yx f (a,b,c,d,e)=f a b c d e:=rfl
@[simp] theorem y_(f:α->β->γ->δ->ε->ζ->τ)(a:α)(b:β)(c:γ)(d:δ)(e:ε)(g:ζ):P0 f (a,b,c,d,e,g)=f a b c d e g:=rfl
end
def W6{α β γ δ ε ζ η θ ι τ:Type}(f:α->β->γ->δ->ε->ζ->η->θ->ι->τ)(p:α×β×γ×δ×ε×ζ×η×θ×ι):τ:=f p.1 p.2.1 p.2.2.1 p.2.2.2.1 p.2.2.2.2.1 p.2.2.2.2.2.1 p.2.2.2.2.2.2.1 p.2.2.2.2.2.2.2.1 p.2.2.2.2.2.2.2.2
@[simp] theorem Rk{α β γ δ ε ζ η θ ι τ:Type}(f:α->β->γ->δ->ε->ζ->η->θ->ι->τ)(a:α)(b:β)(c:γ)(d:δ)(e:ε)(g:ζ)(h:η)(i:θ)(j:ι):W6 f (a,b,c,d,e,g,h,i,j)=f a b c d e g h i j:=rfl
section
variable{α σ ρ:Type}
def Om{l:List α}{i:Nat}(h:i<l.length):∃x,l.drop i=x::l.drop (i+1)/\eI l (i:Int)=some x:=
 ⟨l[i],Lm h,by unfold eI;rw[ee (by omega)];simp[h]⟩
def Q0{l:List α}{i:Nat}(h:i<l.length):tW (i:Int) (eM l)=true:=by unfold tW eM;simpa using h
def SH{l:List α}{i:Nat}(h:l.length<=i):tW (i:Int) (eM l)=false:=by unfold tW eM;simpa using h
def Mh{l:List α}(h:fo l=true):l.length<=Kw:=by simpa[fo] using h
def LO{l m:List α}(h:gf l m=true):l.length+m.length<=Kw:=by simpa[gf] using h
def L4{l:List α}{i:Nat}(h:i<l.length)(a:fo l=true):fj .i64 (i:Int) 1=((i+1:Nat):Int):=by
 have b:=Mh a;unfold Kw at b;unfold fj;rw[IntKind.wrap_i64];omega
def Ml{l:List α}{i:Nat}{j:Int}(a:j=(i:Int))(h:i<l.length):∃x,l.drop i=x::l.drop (i+1)/\eI l j=some x:=by subst a;exact Om h
def Oz{l:List α}{i:Nat}{j:Int}(a:j=(i:Int))(h:i<l.length):tW j (eM l)=true:=by subst a;exact Q0 h
def Md{l:List α}{i:Nat}{j:Int}(a:j=(i:Int))(h:l.length<=i):tW j (eM l)=false:=by subst a;exact SH h
def Iw{l:List α}{i:Nat}{j:Int}(a:j=(i:Int))(h:i<l.length)(b:fo l=true):fj .i64 j 1=((i+1:Nat):Int):=by subst a;exact L4 h b
def nP(f:σ->Option (gu σ ρ))(n:Nat)(s:σ):oH f (n+1) s=cv (f s) (LK (oH f n)):=rfl
@[simp] theorem Pl:nC true=false:=rfl
@[simp] theorem Wl:nC false=true:=rfl
def yK(l m:List α):(gv l m).length=l.length+m.length:=by unfold gv;simp
end
def q5{S R:Type}(o:Option R)(s:S):Option (R×S):=match o with|some r=>some (r,s)|none=>none
@[simp] theorem Ef{S R:Type}(r:R)(s:S):q5 (some r) s=some (r,s):=rfl
def uO{S R:Type}{o:Option R}{s a:S}{r:R}(h:q5 o s=some (r,a)):o=some r/\a=s:=by
 cases o with
 |none=>cases h
 |some x=>
  have:=iw h;exact⟨by rw[(jI this).1],((jI this).2).symm⟩
def wV{α:Type}(l:List α)(i:Int)(x:α):List α:=l.set i.toNat x
def yl{α:Type}(l:List α):Bool:=decide (0<l.length/\l.length<=Kw)
def L'{α:Type}{l:List α}{i:Int}{x:α}(h:eI l i=some x):l[i.toNat]?=some x:=by
 unfold eI at h
 split at h
 ·exact h
 ·cases h
def GO{α:Type}{l:List α}{i:Int}{x:α}(h:eI l i=some x):0<=i/\i<(l.length:Int):=by
 unfold eI at h
 split at h
 ·rename_i a;have:=(pG.1 h).1;omega
 ·cases h
@[simp] theorem Up{α:Type}(l:List α)(i:Int)(x:α):(wV l i x).length=l.length:=by simp[wV]
end Go.hJ
