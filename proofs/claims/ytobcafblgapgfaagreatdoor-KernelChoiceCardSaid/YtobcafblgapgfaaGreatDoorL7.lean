/- Part of the proof of KernelChoice: layer. -/
import Derived.Below
import Derived.Laws.BytesArg
import Derived.Test.YtobcafblgapgfaaGreatDoorL6
set_option linter.all false
namespace Go.fg
open Go
def dB(k:IntKind)(a b:Int):Int:=k.wrap (a+b)
def dX(k:IntKind)(a b:Int):Int:=k.wrap (a-b)
def GL(k:IntKind)(a b:Int):Int:=k.wrap (a*b)
def Ox(c:IntKind)(a b:Int):Int:=a.tmod b
def nI(k:IntKind)(a b:Int):Int:=k.wrap (BitVec.ofInt k.bits a&&&BitVec.ofInt k.bits b).toNat
def tO(k:IntKind)(a b:Int):Int:=k.wrap (BitVec.ofInt k.bits a|||BitVec.ofInt k.bits b).toNat
def NM(k:IntKind)(a b:Int):Int:=k.wrap (a*2^min b.toNat k.bits)
def Oj(k:IntKind)(a b:Int):Int:=a.fdiv (2^min b.toNat k.bits)
def de(a b:Int):Bool:=a==b
def dr(a b:Int):Bool:=a !=b
def rv(a b:Int):Bool:=a<b
def Gd(a b:Int):Bool:=a<=b
def mV(a b:Int):Bool:=a>b
def qT(a b:Int):Bool:=a>=b
def conv(k:IntKind)(a:Int):Int:=k.wrap a
def imax(a b:Int):Int:=if b>a then b else a
def k4(a:Bool):Bool:=!a
def seq(x y:ByteArray):Bool:=x.toList==y.toList
def ew{α:Type}(c:Bool)(a b:α):α:=if c=true then a else b
@[simp] theorem tP{α:Type}(a b:α):ew true a b=a:=rfl
@[simp] theorem uo{α:Type}(a b:α):ew false a b=b:=rfl
def dm{α:Type}(l:List α):Int:=l.length
def c_{α:Type}(l:List α)(i:Int):Option α:=if 0<=i then l[i.toNat]?else none
def fp{α:Type}(l m:List α):List α:=l++m
def xO{α:Type}(l:List α)(lo hi:Int):Option (List α):=if 0<=lo/\0<=hi/\hi.toNat<=l.length/\lo.toNat<=hi.toNat then some ((l.take hi.toNat).drop lo.toNat)else none
def uf{α:Type}:List (Int×α)->Int->α->List (Int×α)
 |[],k,v=>[(k,v)]|p::l,k,v=>if p.1=k then(k,v)::l else p::uf l k v
def MG:Nat:=1099511627776
def eC{α:Type}(l m:List α):Bool:=decide (l.length+m.length<=MG)
def dG{α:Type}(l:List α):Bool:=decide (l.length<=MG)
def FQ(b:Int):Bool:=!decide (b=0)
def Ex(b:Int):Bool:=!decide (b<0)
@[irreducible] def FU:Nat:=1000000000
def dP:FU=1000000000:=by unfold FU;rfl
section
variable{α β γ δ ε ζ η ρ σ τ:Type}
def cA(o:Option α)(f:α->Option ρ):Option ρ:=match o with|some a=>f a|none=>none
def cN(o:Option (α×β))(f:α->β->Option ρ):Option ρ:=match o with|some (a,b)=>f a b|none=>none
def gd(o:Option (α×β×γ))(f:α->β->γ->Option ρ):Option ρ:=match o with|some (a,b,c)=>f a b c|none=>none
def LG(o:Option (α×β×γ×δ))(f:α->β->γ->δ->Option ρ):Option ρ:=match o with|some (a,b,c,d)=>f a b c d|none=>none
def fh(p:Bool)(o:Option ρ):Option ρ:=if p=true then o else none
def db{κ:Type}(k:κ)(b:κ->Option ρ):Option ρ:=b k
@[simp] theorem cz(a:α)(f:α->Option ρ):cA (some a) f=f a:=rfl
@[simp] theorem cF(a:α)(b:β)(f:α->β->Option ρ):cN (some (a,b)) f=f a b:=rfl
@[simp] theorem mz(a:α)(b:β)(c:γ)(f:α->β->γ->Option ρ):gd (some (a,b,c)) f=f a b c:=rfl
@[simp] theorem cL(o:Option ρ):fh true o=o:=rfl
@[simp] theorem cT{κ:Type}(k:κ)(b:κ->Option ρ):db k b=b k:=rfl
def dj{o:Option α}{f:α->Option ρ}{r:ρ}(h:cA o f=some r):∃a,o=some a/\f a=some r:=by
 cases o with|none=>cases h|some a=>exact⟨a,rfl,h⟩
def gK{o:Option (α×β)}{f:α->β->Option ρ}{r:ρ}(h:cN o f=some r):∃a b,o=some (a,b)/\f a b=some r:=by
 cases o with|none=>cases h|some a=>exact⟨a.1,a.2,rfl,h⟩
def CU{o:Option (α×β×γ)}{f:α->β->γ->Option ρ}{r:ρ}(h:gd o f=some r):∃a b c,o=some (a,b,c)/\f a b c=some r:=by
 cases o with|none=>cases h|some a=>exact⟨a.1,a.2.1,a.2.2,rfl,h⟩
def J2{o:Option (α×β×γ×δ)}{f:α->β->γ->δ->Option ρ}{r:ρ}(h:LG o f=some r):∃a b c d,o=some (a,b,c,d)/\f a b c d=some r:=by
 cases o with|none=>cases h|some a=>exact⟨a.1,a.2.1,a.2.2.1,a.2.2.2,rfl,h⟩
def nq{p:Bool}{o:Option ρ}{r:ρ}(h:fh p o=some r):p=true/\o=some r:=by
 cases p with|false=>cases h|true=>exact⟨rfl,h⟩
def oL{κ:Type}{k:κ}{b:κ->Option ρ}{r:ρ}(h:db k b=some r):∃j,j=k/\b j=some r:=⟨k,rfl,h⟩
def ik{c:Bool}{a b:Option ρ}{r:ρ}(h:(if c=true then a else b)=some r):c=true/\a=some r\/c=false/\b=some r:=by
 cases c with|false=>exact .inr ⟨rfl,h⟩|true=>exact .inl ⟨rfl,h⟩
inductive eA (σ ρ:Type) where
 |next (s:σ)|zO (s:σ)|ret (r:ρ)
def HY(k:σ->Option (σ⊕ρ)):eA σ ρ->Option (σ⊕ρ)
 |.next s=>k s|.zO s=>some (.inl s)|.ret r=>some (.inr r)
def ez(k:σ->Option τ)(r:ρ->Option τ):σ⊕ρ->Option τ
 |.inl s=>k s|.inr x=>r x
@[simp] theorem dL(k:σ->Option (σ⊕ρ))(s:σ):HY k (.next s)=k s:=rfl
@[simp] theorem WV(k:σ->Option (σ⊕ρ))(s:σ):HY k (.zO s)=some (.inl s):=rfl
@[simp] theorem yZ(k:σ->Option (σ⊕ρ))(x:ρ):HY k (.ret x)=some (.inr x):=rfl
@[simp] theorem cQ(k:σ->Option τ)(r:ρ->Option τ)(s:σ):ez k r (.inl s)=k s:=rfl
@[simp] theorem oi(k:σ->Option τ)(r:ρ->Option τ)(x:ρ):ez k r (.inr x)=r x:=rfl
def dH(f:Int->α->σ->Option (eA σ ρ)):List α->Nat->σ->Option (σ⊕ρ)
 |[],_,s=>some (.inl s)|x::l,i,s=>cA (f (i:Int) x s) (HY (dH f l (i+1)))
def lu(f:σ->Option (eA σ ρ)):Nat->σ->Option (σ⊕ρ)
 |0,_=>none|n+1,s=>cA (f s) (HY (lu f n))
@[simp] theorem oA(f:Int->α->σ->Option (eA σ ρ))(i:Nat)(s:σ):dH f [] i s=some (.inl s):=rfl
@[simp] theorem dC(f:Int->α->σ->Option (eA σ ρ))(x:α)(l:List α)(i:Nat)(s:σ):dH f (x::l) i s=cA (f (i:Int) x s) (HY (dH f l (i+1))):=rfl
def p0(f:α->β->τ)(p:α×β):τ:=f p.1 p.2
def Jc(f:α->β->γ->τ)(p:α×β×γ):τ:=f p.1 p.2.1 p.2.2
def Ve(f:α->β->γ->δ->τ)(p:α×β×γ×δ):τ:=f p.1 p.2.1 p.2.2.1 p.2.2.2
def WD(f:α->β->γ->δ->ε->τ)(p:α×β×γ×δ×ε):τ:=f p.1 p.2.1 p.2.2.1 p.2.2.2.1 p.2.2.2.2
def M4(f:α->β->γ->δ->ε->ζ->τ)(p:α×β×γ×δ×ε×ζ):τ:=f p.1 p.2.1 p.2.2.1 p.2.2.2.1 p.2.2.2.2.1 p.2.2.2.2.2
@[simp] theorem kC(f:α->β->τ)(a:α)(b:β):p0 f (a,b)=f a b:=rfl
@[simp] theorem tj(f:α->β->γ->τ)(a:α)(b:β)(c:γ):Jc f (a,b,c)=f a b c:=rfl
@[simp] theorem Pw(f:α->β->γ->δ->τ)(a:α)(b:β)(c:γ)(d:δ):Ve f (a,b,c,d)=f a b c d:=rfl
@[simp] theorem CY(f:α->β->γ->δ->ε->τ)(a:α)(b:β)(c:γ)(d:δ)(e:ε):WD f (a,b,c,d,e)=f a b c d e:=rfl
@[simp] theorem yn(f:α->β->γ->δ->ε->ζ->τ)(a:α)(b:β)(c:γ)(d:δ)(e:ε)(g:ζ):M4 f (a,b,c,d,e,g)=f a b c d e g:=rfl
end
def Wc{α β γ δ ε ζ η θ ι τ:Type}(f:α->β->γ->δ->ε->ζ->η->θ->ι->τ)(p:α×β×γ×δ×ε×ζ×η×θ×ι):τ:=f p.1 p.2.1 p.2.2.1 p.2.2.2.1 p.2.2.2.2.1 p.2.2.2.2.2.1 p.2.2.2.2.2.2.1 p.2.2.2.2.2.2.2.1 p.2.2.2.2.2.2.2.2
@[simp] theorem OA{α β γ δ ε ζ η θ ι τ:Type}(f:α->β->γ->δ->ε->ζ->η->θ->ι->τ)(a:α)(b:β)(c:γ)(d:δ)(e:ε)(g:ζ)(h:η)(i:θ)(j:ι):Wc f (a,b,c,d,e,g,h,i,j)=f a b c d e g h i j:=rfl
section
variable{α σ ρ:Type}
def LC{l:List α}{i:Nat}(h:i<l.length):∃x,l.drop i=x::l.drop (i+1)/\c_ l (i:Int)=some x:=
 ⟨l[i],Kz h,by unfold c_;rw[cG (by omega)];simp[h]⟩
def N6{l:List α}{i:Nat}(h:i<l.length):rv (i:Int) (dm l)=true:=by unfold rv dm;simpa using h
def QR{l:List α}{i:Nat}(h:l.length<=i):rv (i:Int) (dm l)=false:=by unfold rv dm;simpa using h
def OG{l:List α}(h:dG l=true):l.length<=MG:=by simpa[dG] using h
def Ni{l m:List α}(h:eC l m=true):l.length+m.length<=MG:=by simpa[eC] using h
def HN{l:List α}{i:Nat}(h:i<l.length)(a:dG l=true):dB .i64 (i:Int) 1=((i+1:Nat):Int):=by
 have b:=OG a;unfold MG at b;unfold dB;rw[IntKind.wrap_i64];omega
def OR{l:List α}{i:Nat}{j:Int}(a:j=(i:Int))(h:i<l.length):∃x,l.drop i=x::l.drop (i+1)/\c_ l j=some x:=by subst a;exact LC h
def QU{l:List α}{i:Nat}{j:Int}(a:j=(i:Int))(h:i<l.length):rv j (dm l)=true:=by subst a;exact N6 h
def NQ{l:List α}{i:Nat}{j:Int}(a:j=(i:Int))(h:l.length<=i):rv j (dm l)=false:=by subst a;exact QR h
def MI{l:List α}{i:Nat}{j:Int}(a:j=(i:Int))(h:i<l.length)(b:dG l=true):dB .i64 j 1=((i+1:Nat):Int):=by subst a;exact HN h b
def lE(f:σ->Option (eA σ ρ))(n:Nat)(s:σ):lu f (n+1) s=cA (f s) (HY (lu f n)):=rfl
@[simp] theorem MX:k4 true=false:=rfl
@[simp] theorem SD:k4 false=true:=rfl
def BG(l m:List α):(fp l m).length=l.length+m.length:=by unfold fp;simp
end
def oy{S R:Type}(o:Option R)(s:S):Option (R×S):=match o with|some r=>some (r,s)|none=>none
@[simp] theorem Bp{S R:Type}(r:R)(s:S):oy (some r) s=some (r,s):=rfl
def r6{S R:Type}{o:Option R}{s a:S}{r:R}(h:oy o s=some (r,a)):o=some r/\a=s:=by
 cases o with
 |none=>cases h
 |some x=>
  have:=gk h;exact⟨by rw[(gL this).1],((gL this).2).symm⟩
def yH{α:Type}(l:List α)(i:Int)(x:α):List α:=l.set i.toNat x
def vA{α:Type}(l:List α):Bool:=decide (0<l.length/\l.length<=MG)
def N4{α:Type}{l:List α}{i:Int}{x:α}(h:c_ l i=some x):l[i.toNat]?=some x:=by
 unfold c_ at h
 split at h
 ·exact h
 ·cases h
def JV{α:Type}{l:List α}{i:Int}{x:α}(h:c_ l i=some x):0<=i/\i<(l.length:Int):=by
 unfold c_ at h
 split at h
 ·rename_i a;have:=(oM.1 h).1;omega
 ·cases h
@[simp] theorem RB{α:Type}(l:List α)(i:Int)(x:α):(yH l i x).length=l.length:=by simp[yH]
end Go.fg
