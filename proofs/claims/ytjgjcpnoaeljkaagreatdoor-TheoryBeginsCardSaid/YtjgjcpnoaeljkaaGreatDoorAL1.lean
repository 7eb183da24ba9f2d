/- Part of the proof of TheoryBegins: layer. -/
import Derived.Below
import Derived.Laws.BytesArg
import Derived.Test.YtjgjcpnoaeljkaaGreatDoorAB1
set_option linter.all false
namespace Go.eZ
open Go
def dF(k:IntKind)(a b:Int):Int:=k.wrap (a+b)
def ed(k:IntKind)(a b:Int):Int:=k.wrap (a-b)
def Li(k:IntKind)(a b:Int):Int:=k.wrap (a*b)
def wq(c:IntKind)(a b:Int):Int:=a.tmod b
def qi(k:IntKind)(a b:Int):Int:=k.wrap (BitVec.ofInt k.bits a&&&BitVec.ofInt k.bits b).toNat
def xK(k:IntKind)(a b:Int):Int:=k.wrap (BitVec.ofInt k.bits a|||BitVec.ofInt k.bits b).toNat
def Uq(k:IntKind)(a b:Int):Int:=k.wrap (a*2^min b.toNat k.bits)
def T4(k:IntKind)(a b:Int):Int:=a.fdiv (2^min b.toNat k.bits)
def dj(a b:Int):Bool:=a==b
def dw(a b:Int):Bool:=a !=b
def pR(a b:Int):Bool:=a<b
def HB(a b:Int):Bool:=a<=b
def lQ(a b:Int):Bool:=a>b
def pH(a b:Int):Bool:=a>=b
def conv(k:IntKind)(a:Int):Int:=k.wrap a
def imax(a b:Int):Int:=if b>a then b else a
def P3(a b:Bool):Bool:=!(a==b)
def oF(a:Bool):Bool:=!a
def seq(x y:ByteArray):Bool:=x.toList==y.toList
def abO(x:ByteArray):Int:=x.size
def Qs(x:ByteArray)(lo hi:Int):Option ByteArray:=if 0<=lo/\0<=hi/\hi.toNat<=x.size/\lo.toNat<=hi.toNat then some (x.extract lo.toNat hi.toNat)else none
def ep{α:Type}(c:Bool)(a b:α):α:=if c then a else b
@[simp] theorem BJ{α:Type}(a b:α):ep true a b=a:=rfl
@[simp] theorem zF{α:Type}(a b:α):ep false a b=b:=rfl
def E_(l:List Int):ByteArray:=strOfNums l
def dq{α:Type}(l:List α):Int:=l.length
def dg{α:Type}(l:List α)(i:Int):Option α:=if 0<=i then l[i.toNat]?else none
def fu{α:Type}(l m:List α):List α:=l++m
def k_{α:Type}(l:List α)(lo hi:Int):Option (List α):=if 0<=lo/\0<=hi/\hi.toNat<=l.length/\lo.toNat<=hi.toNat then some ((l.take hi.toNat).drop lo.toNat)else none
def tc{α:Type}:List (Int×α)->Int->α->List (Int×α)
 |[],k,v=>[(k,v)]|p::l,k,v=>if p.1=k then(k,v)::l else p::tc l k v
def lim:Nat:=549755813888
def eO{α:Type}(l m:List α):Bool:=decide (l.length+m.length<=lim)
def dE{α:Type}(l:List α):Bool:=decide (l.length<=lim)
def Co(b:Int):Bool:=!decide (b=0)
def Jc(b:Int):Bool:=!decide (b<0)
@[irreducible] def FU:Nat:=1000000000
theorem dY:FU=1000000000:=by unfold FU;rfl
section
variable{α β γ δ ε ζ η ρ σ τ:Type}
def cM(o:Option α)(f:α->Option ρ):Option ρ:=match o with|some a=>f a|none=>none
def cW(o:Option (α×β))(f:α->β->Option ρ):Option ρ:=match o with|some (a,b)=>f a b|none=>none
def g_(o:Option (α×β×γ))(f:α->β->γ->Option ρ):Option ρ:=match o with|some (a,b,c)=>f a b c|none=>none
def QU(o:Option (α×β×γ×δ))(f:α->β->γ->δ->Option ρ):Option ρ:=match o with|some (a,b,c,d)=>f a b c d|none=>none
def fa(p:Bool)(o:Option ρ):Option ρ:=if p then o else none
def de{κ:Type}(k:κ)(b:κ->Option ρ):Option ρ:=b k
@[simp] theorem cv(a:α)(f:α->Option ρ):cM (some a) f=f a:=rfl
@[simp] theorem cN(a:α)(b:β)(f:α->β->Option ρ):cW (some (a,b)) f=f a b:=rfl
@[simp] theorem mh(a:α)(b:β)(c:γ)(f:α->β->γ->Option ρ):g_ (some (a,b,c)) f=f a b c:=rfl
@[simp] theorem cY(o:Option ρ):fa true o=o:=rfl
@[simp] theorem c6{κ:Type}(k:κ)(b:κ->Option ρ):de k b=b k:=rfl
def dm{o:Option α}{f:α->Option ρ}{r:ρ}(h:cM o f=some r):∃a,o=some a/\f a=some r:=by
 cases o with|none=>cases h|some a=>exact⟨a,rfl,h⟩
def gD{o:Option (α×β)}{f:α->β->Option ρ}{r:ρ}(h:cW o f=some r):∃a b,o=some (a,b)/\f a b=some r:=by
 cases o with|none=>cases h|some a=>exact⟨a.1,a.2,rfl,h⟩
def uN{o:Option (α×β×γ)}{f:α->β->γ->Option ρ}{r:ρ}(h:g_ o f=some r):∃a b c,o=some (a,b,c)/\f a b c=some r:=by
 cases o with|none=>cases h|some a=>exact⟨a.1,a.2.1,a.2.2,rfl,h⟩
def Pd{o:Option (α×β×γ×δ)}{f:α->β->γ->δ->Option ρ}{r:ρ}(h:QU o f=some r):∃a b c d,o=some (a,b,c,d)/\f a b c d=some r:=by
 cases o with|none=>cases h|some a=>exact⟨a.1,a.2.1,a.2.2.1,a.2.2.2,rfl,h⟩
def j1{p:Bool}{o:Option ρ}{r:ρ}(h:fa p o=some r):p=true/\o=some r:=by
 cases p with|false=>cases h|true=>exact⟨rfl,h⟩
def kV{κ:Type}{k:κ}{b:κ->Option ρ}{r:ρ}(h:de k b=some r):∃j,j=k/\b j=some r:=⟨k,rfl,h⟩
def gS{c:Bool}{a b:Option ρ}{r:ρ}(h:(if c then a else b)=some r):c=true/\a=some r\/c=false/\b=some r:=by
 cases c with|false=>exact .inr ⟨rfl,h⟩|true=>exact .inl ⟨rfl,h⟩
inductive dV (σ ρ:Type) where
 |next (s:σ)|brk (s:σ)|ret (r:ρ)
def My(k:σ->Option (σ⊕ρ)):dV σ ρ->Option (σ⊕ρ)
 |.next s=>k s|.brk s=>some (.inl s)|.ret r=>some (.inr r)
def eE(k:σ->Option τ)(r:ρ->Option τ):σ⊕ρ->Option τ
 |.inl s=>k s|.inr x=>r x
@[simp] theorem dQ(k:σ->Option (σ⊕ρ))(s:σ):My k (.next s)=k s:=rfl
@[simp] theorem Ni(k:σ->Option (σ⊕ρ))(s:σ):My k (.brk s)=some (.inl s):=rfl
@[simp] theorem zu(k:σ->Option (σ⊕ρ))(x:ρ):My k (.ret x)=some (.inr x):=rfl
@[simp] theorem dk(k:σ->Option τ)(r:ρ->Option τ)(s:σ):eE k r (.inl s)=k s:=rfl
@[simp] theorem pd(k:σ->Option τ)(r:ρ->Option τ)(x:ρ):eE k r (.inr x)=r x:=rfl
def dH(f:Int->α->σ->Option (dV σ ρ)):List α->Nat->σ->Option (σ⊕ρ)
 |[],_,s=>some (.inl s)|x::l,i,s=>cM (f (i:Int) x s) (My (dH f l (i+1)))
def nt(f:σ->Option (dV σ ρ)):Nat->σ->Option (σ⊕ρ)
 |0,_=>none|n+1,s=>cM (f s) (My (nt f n))
@[simp] theorem nY(f:Int->α->σ->Option (dV σ ρ))(i:Nat)(s:σ):dH f [] i s=some (.inl s):=rfl
@[simp] theorem dJ(f:Int->α->σ->Option (dV σ ρ))(x:α)(l:List α)(i:Nat)(s:σ):dH f (x::l) i s=cM (f (i:Int) x s) (My (dH f l (i+1))):=rfl
def rM(f:α->β->τ)(p:α×β):τ:=f p.1 p.2
def Zl(f:α->β->γ->τ)(p:α×β×γ):τ:=f p.1 p.2.1 p.2.2
def un4(f:α->β->γ->δ->τ)(p:α×β×γ×δ):τ:=f p.1 p.2.1 p.2.2.1 p.2.2.2
def un5(f:α->β->γ->δ->ε->τ)(p:α×β×γ×δ×ε):τ:=f p.1 p.2.1 p.2.2.1 p.2.2.2.1 p.2.2.2.2
def TC(f:α->β->γ->δ->ε->ζ->τ)(p:α×β×γ×δ×ε×ζ):τ:=f p.1 p.2.1 p.2.2.1 p.2.2.2.1 p.2.2.2.2.1 p.2.2.2.2.2
@[simp] theorem kX(f:α->β->τ)(a:α)(b:β):rM f (a,b)=f a b:=rfl
@[simp] theorem Hm(f:α->β->γ->τ)(a:α)(b:β)(c:γ):Zl f (a,b,c)=f a b c:=rfl
@[simp] theorem Va(f:α->β->γ->δ->τ)(a:α)(b:β)(c:γ)(d:δ):un4 f (a,b,c,d)=f a b c d:=rfl
@[simp] theorem F_(f:α->β->γ->δ->ε->τ)(a:α)(b:β)(c:γ)(d:δ)(e:ε):un5 f (a,b,c,d,e)=f a b c d e:=rfl
@[simp] theorem yu(f:α->β->γ->δ->ε->ζ->τ)(a:α)(b:β)(c:γ)(d:δ)(e:ε)(g:ζ):TC f (a,b,c,d,e,g)=f a b c d e g:=rfl
end
def un9{α β γ δ ε ζ η θ ι τ:Type}(f:α->β->γ->δ->ε->ζ->η->θ->ι->τ)(p:α×β×γ×δ×ε×ζ×η×θ×ι):τ:=f p.1 p.2.1 p.2.2.1 p.2.2.2.1 p.2.2.2.2.1 p.2.2.2.2.2.1 p.2.2.2.2.2.2.1 p.2.2.2.2.2.2.2.1 p.2.2.2.2.2.2.2.2
@[simp] theorem Wy{α β γ δ ε ζ η θ ι τ:Type}(f:α->β->γ->δ->ε->ζ->η->θ->ι->τ)(a:α)(b:β)(c:γ)(d:δ)(e:ε)(g:ζ)(h:η)(i:θ)(j:ι):un9 f (a,b,c,d,e,g,h,i,j)=f a b c d e g h i j:=rfl
def Ud{α β γ δ ε ζ η θ ι κ μ ν ξ ο τ:Type}(f:α->β->γ->δ->ε->ζ->η->θ->ι->κ->μ->ν->ξ->ο->τ)(p:α×β×γ×δ×ε×ζ×η×θ×ι×κ×μ×ν×ξ×ο):τ:=f p.1 p.2.1 p.2.2.1 p.2.2.2.1 p.2.2.2.2.1 p.2.2.2.2.2.1 p.2.2.2.2.2.2.1 p.2.2.2.2.2.2.2.1 p.2.2.2.2.2.2.2.2.1 p.2.2.2.2.2.2.2.2.2.1 p.2.2.2.2.2.2.2.2.2.2.1 p.2.2.2.2.2.2.2.2.2.2.2.1 p.2.2.2.2.2.2.2.2.2.2.2.2.1 p.2.2.2.2.2.2.2.2.2.2.2.2.2
@[simp] theorem zU{α β γ δ ε ζ η θ ι κ μ ν ξ ο τ:Type}(f:α->β->γ->δ->ε->ζ->η->θ->ι->κ->μ->ν->ξ->ο->τ)(a:α)(b:β)(c:γ)(d:δ)(e:ε)(g:ζ)(h:η)(i:θ)(j:ι)(k:κ)(l:μ)(m:ν)(n:ξ)(o:ο):Ud f (a,b,c,d,e,g,h,i,j,k,l,m,n,o)=f a b c d e g h i j k l m n o:=rfl
section
variable{α σ ρ:Type}
def Rw{l:List α}{i:Nat}(h:i<l.length):∃x,l.drop i=x::l.drop (i+1)/\dg l (i:Int)=some x:=
 ⟨l[i],KR h,by unfold dg;rw[cS VW];simp[h]⟩
def Uw{l:List α}{i:Nat}(h:i<l.length):pR (i:Int) (dq l)=true:=by unfold pR dq;simpa using h
def Yz{l:List α}{i:Nat}(h:l.length<=i):pR (i:Int) (dq l)=false:=by unfold pR dq;simpa using h
def L_{l:List α}(h:dE l=true):l.length<=lim:=by simpa[dE] using h
def MP{l m:List α}(h:eO l m=true):l.length+m.length<=lim:=by simpa[eO] using h
def NJ{l:List α}{i:Nat}(h:i<l.length)(a:dE l=true):dF .i64 (i:Int) 1=((i+1:Nat):Int):=by
 have b:=L_ a;unfold lim at b;unfold dF;rw[IntKind.wrap_i64];omega
def N7{l:List α}{i:Nat}{j:Int}(a:j=(i:Int))(h:i<l.length):∃x,l.drop i=x::l.drop (i+1)/\dg l j=some x:=by subst a;exact Rw h
def QV{l:List α}{i:Nat}{j:Int}(a:j=(i:Int))(h:i<l.length):pR j (dq l)=true:=by subst a;exact Uw h
def Nc{l:List α}{i:Nat}{j:Int}(a:j=(i:Int))(h:l.length<=i):pR j (dq l)=false:=by subst a;exact Yz h
def JI{l:List α}{i:Nat}{j:Int}(a:j=(i:Int))(h:i<l.length)(b:dE l=true):dF .i64 j 1=((i+1:Nat):Int):=by subst a;exact NJ h b
def kb(f:σ->Option (dV σ ρ))(n:Nat)(s:σ):nt f (n+1) s=cM (f s) (My (nt f n)):=rfl
@[simp] theorem RV:oF true=false:=rfl
@[simp] theorem acK:oF false=true:=rfl
def Ea(l m:List α):(fu l m).length=l.length+m.length:=by unfold fu;simp
end
def nX{S R:Type}(o:Option R)(s:S):Option (R×S):=match o with|some r=>some (r,s)|none=>none
@[simp] theorem Et{S R:Type}(r:R)(s:S):nX (some r) s=some (r,s):=rfl
def oZ{S R:Type}{o:Option R}{s a:S}{r:R}(h:nX o s=some (r,a)):o=some r/\a=s:=by
 cases o with
 |none=>cases h
 |some x=>
  have:=fU h;exact⟨by rw[(gu this).1],((gu this).2).symm⟩
def wF{α:Type}(l:List α)(i:Int)(x:α):List α:=l.set i.toNat x
def xW{α:Type}(l:List α):Bool:=decide (0<l.length/\l.length<=lim)
def Mg{α:Type}{l:List α}{i:Int}{x:α}(h:dg l i=some x):l[i.toNat]?=some x:=by
 unfold dg at h
 split at h
 .exact h
 .cases h
def FK{α:Type}{l:List α}{i:Int}{x:α}(h:dg l i=some x):0<=i/\i<(l.length:Int):=by
 unfold dg at h
 split at h
 .rename_i a;have:=(mH.1 h).1;omega
 .cases h
@[simp] theorem ZH{α:Type}(l:List α)(i:Int)(x:α):(wF l i x).length=l.length:=by simp[wF]
end Go.eZ
