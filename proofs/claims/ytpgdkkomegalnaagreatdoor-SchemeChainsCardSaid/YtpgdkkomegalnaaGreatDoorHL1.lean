/- Part of the proof of SchemeChains: layer. -/
import Derived.Below
import Derived.Laws.BytesArg
import Derived.Test.YtpgdkkomegalnaaGreatDoorHB1
set_option linter.all false
namespace Go.fP
open Go
variable{R α β γ δ ε ζ η θ ι κ μ τ:Type}{c:Bool}{i:Nat}{j:Int}{l:List α}{x:α}
def eH(k:IntKind)(a b:Int):Int:=k.wrap (a+b)
def fD(k:IntKind)(a b:Int):Int:=k.wrap (a-b)
def O5(k:IntKind)(a b:Int):Int:=k.wrap (a*b)
def aa5(c:IntKind)(a b:Int):Int:=a.tmod b
def um(k:IntKind)(a b:Int):Int:=k.wrap (BitVec.ofInt k.bits a&&&BitVec.ofInt k.bits b).toNat
def F8(k:IntKind)(a b:Int):Int:=k.wrap (BitVec.ofInt k.bits a|||BitVec.ofInt k.bits b).toNat
def Z1(k:IntKind)(a b:Int):Int:=k.wrap (a*2^min b.toNat k.bits)
def aah(k:IntKind)(a b:Int):Int:=a.fdiv (2^min b.toNat k.bits)
def eo(a b:Int):Bool:=a==b
def eR(a b:Int):Bool:=a !=b
def pH(a b:Int):Bool:=a<b
def Tq(a b:Int):Bool:=a<=b
def pw(a b:Int):Bool:=a>b
def qz(a b:Int):Bool:=a>=b
def conv(k:IntKind)(a:Int):Int:=k.wrap a
def imax(a b:Int):Int:=if b>a then b else a
def lF(a:Bool):Bool:=!a
def seq(x y:ByteArray):Bool:=x.toList==y.toList
def fq(c:Bool)(a b:α):α:=if c then a else b
@[simp] theorem D_(a b:α):fq true a b=a:=rfl
@[simp] theorem BM(a b:α):fq false a b=b:=rfl
def eE(l:List α):Int:=l.length
def dW(l:List α)(i:Int):Option α:=if 0<=i then l[i.toNat]?else none
def fW(l m:List α):List α:=l++m
def tD(l:List α)(lo hi:Int):Option (List α):=if 0<=lo/\0<=hi/\hi.toNat<=l.length/\lo.toNat<=hi.toNat then some ((l.take hi.toNat).drop lo.toNat)else none
def wE:List (Int×α)->Int->α->List (Int×α)
 |[],k,v=>[(k,v)]|p::l,k,v=>if p.1=k then(k,v)::l else p::wE l k v
def BR:Nat:=549755813888
def fM(l m:List α):Bool:=decide (l.length+m.length<=BR)
def e_(l:List α):Bool:=decide (l.length<=BR)
def Ms(b:Int):Bool:=!decide (b=0)
def Ox(b:Int):Bool:=!decide (b<0)
@[irreducible] def FU:Nat:=1000000000
theorem fl:FU=1000000000:=by unfold FU;rfl
section
variable{α β γ δ ε ζ η ρ σ τ:Type}
def dH(o:Option α)(f:α->Option ρ):Option ρ:=match o with|some a=>f a|none=>none
def dR(o:Option (α×β))(f:α->β->Option ρ):Option ρ:=match o with|some (a,b)=>f a b|none=>none
def fm(o:Option (α×β×γ))(f:α->β->γ->Option ρ):Option ρ:=match o with|some (a,b,c)=>f a b c|none=>none
def VQ(o:Option (α×β×γ×δ))(f:α->β->γ->δ->Option ρ):Option ρ:=match o with|some (a,b,c,d)=>f a b c d|none=>none
def R1(o:Option (α×β×γ×δ×ε))(f:α->β->γ->δ->ε->Option ρ):Option ρ:=match o with|some (a,b,c,d,e)=>f a b c d e|none=>none
def gq(p:Bool)(o:Option ρ):Option ρ:=if p then o else none
def en(k:κ)(b:κ->Option ρ):Option ρ:=b k
@[simp] theorem dI(a:α)(f:α->Option ρ):dH (some a) f=f a:=rfl
@[simp] theorem dP(a:α)(b:β)(f:α->β->Option ρ):dR (some (a,b)) f=f a b:=rfl
@[simp] theorem gw(a:α)(b:β)(c:γ)(f:α->β->γ->Option ρ):fm (some (a,b,c)) f=f a b c:=rfl
@[simp] theorem alq(a:α)(b:β)(c:γ)(d:δ)(e:ε)(f:α->β->γ->δ->ε->Option ρ):R1 (some (a,b,c,d,e)) f=f a b c d e:=rfl
@[simp] theorem dU(o:Option ρ):gq true o=o:=rfl
@[simp] theorem dY(k:κ)(b:κ->Option ρ):en k b=b k:=rfl
def eB{o:Option α}{f:α->Option ρ}{r:ρ}(h:dH o f=some r):∃a,o=some a/\f a=some r:=by
 cases o with|none=>cases h|some a=>exact⟨a,rfl,h⟩
def iw{o:Option (α×β)}{f:α->β->Option ρ}{r:ρ}(h:dR o f=some r):∃a b,o=some (a,b)/\f a b=some r:=by
 cases o with|none=>cases h|some a=>exact⟨a.1,a.2,rfl,h⟩
def wD{o:Option (α×β×γ)}{f:α->β->γ->Option ρ}{r:ρ}(h:fm o f=some r):∃a b c,o=some (a,b,c)/\f a b c=some r:=by
 cases o with|none=>cases h|some a=>exact⟨a.1,a.2.1,a.2.2,rfl,h⟩
def TW{o:Option (α×β×γ×δ)}{f:α->β->γ->δ->Option ρ}{r:ρ}(h:VQ o f=some r):∃a b c d,o=some (a,b,c,d)/\f a b c d=some r:=by
 cases o with|none=>cases h|some a=>exact⟨a.1,a.2.1,a.2.2.1,a.2.2.2,rfl,h⟩
def SI{o:Option (α×β×γ×δ×ε)}{f:α->β->γ->δ->ε->Option ρ}{r:ρ}(h:R1 o f=some r):∃a b c d e,o=some (a,b,c,d,e)/\f a b c d e=some r:=by
 cases o with|none=>cases h|some a=>exact⟨a.1,a.2.1,a.2.2.1,a.2.2.2.1,a.2.2.2.2,rfl,h⟩
def lI{p:Bool}{o:Option ρ}{r:ρ}(h:gq p o=some r):p=true/\o=some r:=by
 cases p with|false=>cases h|true=>exact⟨rfl,h⟩
def nS{k:κ}{b:κ->Option ρ}{r:ρ}(h:en k b=some r):∃j,j=k/\b j=some r:=⟨k,rfl,h⟩
def jb{a b:Option ρ}{r:ρ}(h:(if c then a else b)=some r):c=true/\a=some r\/c=false/\b=some r:=by
 cases c with|false=>exact .inr ⟨rfl,h⟩|true=>exact .inl ⟨rfl,h⟩
inductive fp (σ ρ:Type) where
 |next (s:σ)|xA (s:σ)|ret (r:ρ)
def LS(k:σ->Option (σ⊕ρ)):fp σ ρ->Option (σ⊕ρ)
 |.next s=>k s|.xA s=>some (.inl s)|.ret r=>some (.inr r)
def fQ(k:σ->Option τ)(r:ρ->Option τ):σ⊕ρ->Option τ
 |.inl s=>k s|.inr x=>r x
@[simp] theorem eQ(k:σ->Option (σ⊕ρ))(s:σ):LS k (.next s)=k s:=rfl
@[simp] theorem sC(k:σ->Option (σ⊕ρ))(s:σ):LS k (.xA s)=some (.inl s):=rfl
@[simp] theorem AB(k:σ->Option (σ⊕ρ))(x:ρ):LS k (.ret x)=some (.inr x):=rfl
@[simp] theorem ew(k:σ->Option τ)(r:ρ->Option τ)(s:σ):fQ k r (.inl s)=k s:=rfl
@[simp] theorem p9(k:σ->Option τ)(r:ρ->Option τ)(x:ρ):fQ k r (.inr x)=r x:=rfl
def fa(f:Int->α->σ->Option (fp σ ρ)):List α->Nat->σ->Option (σ⊕ρ)
 |[],_,s=>some (.inl s)|x::l,i,s=>dH (f (i:Int) x s) (LS (fa f l (i+1)))
def jL(f:σ->Option (fp σ ρ)):Nat->σ->Option (σ⊕ρ)
 |0,_=>none|n+1,s=>dH (f s) (LS (jL f n))
@[simp] theorem oz(f:Int->α->σ->Option (fp σ ρ))(i:Nat)(s:σ):fa f [] i s=some (.inl s):=rfl
@[simp] theorem eV(f:Int->α->σ->Option (fp σ ρ))(x:α)(l:List α)(i:Nat)(s:σ):fa f (x::l) i s=dH (f (i:Int) x s) (LS (fa f l (i+1))):=rfl
def re(f:α->β->τ)(p:α×β):τ:=f p.1 p.2
def T3(f:α->β->γ->τ)(p:α×β×γ):τ:=f p.1 p.2.1 p.2.2
def un4(f:α->β->γ->δ->τ)(p:α×β×γ×δ):τ:=f p.1 p.2.1 p.2.2.1 p.2.2.2
def un5(f:α->β->γ->δ->ε->τ)(p:α×β×γ×δ×ε):τ:=f p.1 p.2.1 p.2.2.1 p.2.2.2.1 p.2.2.2.2
def XP(f:α->β->γ->δ->ε->ζ->τ)(p:α×β×γ×δ×ε×ζ):τ:=f p.1 p.2.1 p.2.2.1 p.2.2.2.1 p.2.2.2.2.1 p.2.2.2.2.2
@[simp] theorem iB(f:α->β->τ)(a:α)(b:β):re f (a,b)=f a b:=rfl
@[simp] theorem A'(f:α->β->γ->τ)(a:α)(b:β)(c:γ):T3 f (a,b,c)=f a b c:=rfl
@[simp] theorem zc(f:α->β->γ->δ->τ)(a:α)(b:β)(c:γ)(d:δ):un4 f (a,b,c,d)=f a b c d:=rfl
@[simp] theorem CH(f:α->β->γ->δ->ε->τ)(a:α)(b:β)(c:γ)(d:δ)(e:ε):un5 f (a,b,c,d,e)=f a b c d e:=rfl
@[simp] theorem Bb(f:α->β->γ->δ->ε->ζ->τ)(a:α)(b:β)(c:γ)(d:δ)(e:ε)(g:ζ):XP f (a,b,c,d,e,g)=f a b c d e g:=rfl
end
def un9(f:α->β->γ->δ->ε->ζ->η->θ->ι->τ)(p:α×β×γ×δ×ε×ζ×η×θ×ι):τ:=f p.1 p.2.1 p.2.2.1 p.2.2.2.1 p.2.2.2.2.1 p.2.2.2.2.2.1 p.2.2.2.2.2.2.1 p.2.2.2.2.2.2.2.1 p.2.2.2.2.2.2.2.2
@[simp] theorem Y_(f:α->β->γ->δ->ε->ζ->η->θ->ι->τ)(a:α)(b:β)(c:γ)(d:δ)(e:ε)(g:ζ)(h:η)(i:θ)(j:ι):un9 f (a,b,c,d,e,g,h,i,j)=f a b c d e g h i j:=rfl
def KA(f:α->β->γ->δ->ε->ζ->η->θ->ι->κ->μ->τ)(p:α×β×γ×δ×ε×ζ×η×θ×ι×κ×μ):τ:=f p.1 p.2.1 p.2.2.1 p.2.2.2.1 p.2.2.2.2.1 p.2.2.2.2.2.1 p.2.2.2.2.2.2.1 p.2.2.2.2.2.2.2.1 p.2.2.2.2.2.2.2.2.1 p.2.2.2.2.2.2.2.2.2.1 p.2.2.2.2.2.2.2.2.2.2
@[simp] theorem vk(f:α->β->γ->δ->ε->ζ->η->θ->ι->κ->μ->τ)(a:α)(b:β)(c:γ)(d:δ)(e:ε)(g:ζ)(h:η)(i:θ)(j:ι)(k:κ)(l:μ):KA f (a,b,c,d,e,g,h,i,j,k,l)=f a b c d e g h i j k l:=rfl
def Zk{ν:Type}(f:α->β->γ->δ->ε->ζ->η->θ->ι->κ->μ->ν->τ)(p:α×β×γ×δ×ε×ζ×η×θ×ι×κ×μ×ν):τ:=f p.1 p.2.1 p.2.2.1 p.2.2.2.1 p.2.2.2.2.1 p.2.2.2.2.2.1 p.2.2.2.2.2.2.1 p.2.2.2.2.2.2.2.1 p.2.2.2.2.2.2.2.2.1 p.2.2.2.2.2.2.2.2.2.1 p.2.2.2.2.2.2.2.2.2.2.1 p.2.2.2.2.2.2.2.2.2.2.2
@[simp] theorem HS{ν:Type}(f:α->β->γ->δ->ε->ζ->η->θ->ι->κ->μ->ν->τ)(a:α)(b:β)(c:γ)(d:δ)(e:ε)(g:ζ)(h:η)(i:θ)(j:ι)(k:κ)(l:μ)(m:ν):Zk f (a,b,c,d,e,g,h,i,j,k,l,m)=f a b c d e g h i j k l m:=rfl
section
variable{α σ ρ:Type}
def Va{l:List α}(h:i<l.length):∃x,l.drop i=x::l.drop (i+1)/\dW l (i:Int)=some x:=
 ⟨l[i],K0 h,by unfold dW;rw[dO VW];simp[h]⟩
def ZV{l:List α}(h:i<l.length):pH (i:Int) (eE l)=true:=by unfold pH eE;simpa using h
def ad1{l:List α}(h:l.length<=i):pH (i:Int) (eE l)=false:=by unfold pH eE;simpa using h
def Pu{l:List α}(h:e_ l=true):l.length<=BR:=by simpa[e_] using h
def RS{l m:List α}(h:fM l m=true):l.length+m.length<=BR:=by simpa[fM] using h
def PA{l:List α}(h:i<l.length)(a:e_ l=true):eH .i64 (i:Int) 1=((i+1:Nat):Int):=by
 have b:=Pu a;unfold BR at b;unfold eH;rw[IntKind.wrap_i64];omega
def Qa{l:List α}(a:j=(i:Int))(h:i<l.length):∃x,l.drop i=x::l.drop (i+1)/\dW l j=some x:=by subst a;exact Va h
def Vk{l:List α}(a:j=(i:Int))(h:i<l.length):pH j (eE l)=true:=by subst a;exact ZV h
def PM{l:List α}(a:j=(i:Int))(h:l.length<=i):pH j (eE l)=false:=by subst a;exact ad1 h
def M'{l:List α}(a:j=(i:Int))(h:i<l.length)(b:e_ l=true):eH .i64 j 1=((i+1:Nat):Int):=by subst a;exact PA h b
def gM(f:σ->Option (fp σ ρ))(n:Nat)(s:σ):jL f (n+1) s=dH (f s) (LS (jL f n)):=rfl
@[simp] theorem MU:lF true=false:=rfl
@[simp] theorem ahj:lF false=true:=rfl
def GA(l m:List α):(fW l m).length=l.length+m.length:=by unfold fW;simp
end
def rh{S:Type}(o:Option R)(s:S):Option (R×S):=match o with|some r=>some (r,s)|none=>none
@[simp] theorem GJ{S:Type}(r:R)(s:S):rh (some r) s=some (r,s):=rfl
def vH{S:Type}{o:Option R}{s a:S}{r:R}(h:rh o s=some (r,a)):o=some r/\a=s:=by
 cases o with
 |none=>cases h
 |some x=>
  have:=hU h;exact⟨by rw[(iO this).1],((iO this).2).symm⟩
def yb(l:List α)(i:Int)(x:α):List α:=l.set i.toNat x
def zP(l:List α):Bool:=decide (0<l.length/\l.length<=BR)
def PI{α:Type}{l:List α}{i:Int}{x:α}(h:dW l i=some x):l[i.toNat]?=some x:=by
 unfold dW at h
 split at h
 .exact h
 .cases h
def Kf{α:Type}{l:List α}{i:Int}{x:α}(h:dW l i=some x):0<=i/\i<(l.length:Int):=by
 unfold dW at h
 split at h
 .rename_i a;have:=(ru.1 h).1;omega
 .cases h
@[simp] theorem aeY(l:List α)(i:Int)(x:α):(yb l i x).length=l.length:=by simp[yb]
end Go.fP
