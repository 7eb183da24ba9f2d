/- Part of the proof of SchemeComputes: layer. -/
import Derived.Below
import Derived.Laws.BytesArg
import Derived.Test.YtpgdkkomegalnaaGreatDoorCB1
set_option linter.all false
namespace Go.fF
open Go
def eW(k:IntKind)(a b:Int):Int:=k.wrap (a+b)
def fL(k:IntKind)(a b:Int):Int:=k.wrap (a-b)
def Vf(k:IntKind)(a b:Int):Int:=k.wrap (a*b)
def Wv(c:IntKind)(a b:Int):Int:=a.tmod b
def Cz(k:IntKind)(a b:Int):Int:=k.wrap (BitVec.ofInt k.bits a&&&BitVec.ofInt k.bits b).toNat
def Vn(k:IntKind)(a b:Int):Int:=k.wrap (BitVec.ofInt k.bits a|||BitVec.ofInt k.bits b).toNat
def aeC(k:IntKind)(a b:Int):Int:=k.wrap (a*2^min b.toNat k.bits)
def aeD(k:IntKind)(a b:Int):Int:=a.fdiv (2^min b.toNat k.bits)
def eo(a b:Int):Bool:=a==b
def eL(a b:Int):Bool:=a !=b
def pg(a b:Int):Bool:=a<b
def Zv(a b:Int):Bool:=a<=b
def pj(a b:Int):Bool:=a>b
def qa(a b:Int):Bool:=a>=b
def conv(k:IntKind)(a:Int):Int:=k.wrap a
def imax(a b:Int):Int:=if b>a then b else a
def lV(a:Bool):Bool:=!a
def seq(x y:ByteArray):Bool:=x.toList==y.toList
def fp{α:Type}(c:Bool)(a b:α):α:=if c then a else b
@[simp] theorem El{α:Type}(a b:α):fp true a b=a:=rfl
@[simp] theorem Ch{α:Type}(a b:α):fp false a b=b:=rfl
def eA{α:Type}(l:List α):Int:=l.length
def dX{α:Type}(l:List α)(i:Int):Option α:=if 0<=i then l[i.toNat]?else none
def fU{α:Type}(l m:List α):List α:=l++m
def tv{α:Type}(l:List α)(lo hi:Int):Option (List α):=if 0<=lo/\0<=hi/\hi.toNat<=l.length/\lo.toNat<=hi.toNat then some ((l.take hi.toNat).drop lo.toNat)else none
def wJ{α:Type}:List (Int×α)->Int->α->List (Int×α)
 |[],k,v=>[(k,v)]|p::l,k,v=>if p.1=k then(k,v)::l else p::wJ l k v
def yU:Nat:=549755813888
def fN{α:Type}(l m:List α):Bool:=decide (l.length+m.length<=yU)
def eX{α:Type}(l:List α):Bool:=decide (l.length<=yU)
def Mf(b:Int):Bool:=!decide (b=0)
def Uo(b:Int):Bool:=!decide (b<0)
@[irreducible] def FU:Nat:=1000000000
theorem fI:FU=1000000000:=by unfold FU;rfl
section
variable{α β γ δ ε ζ η ρ σ τ:Type}
def dH(o:Option α)(f:α->Option ρ):Option ρ:=match o with|some a=>f a|none=>none
def dV(o:Option (α×β))(f:α->β->Option ρ):Option ρ:=match o with|some (a,b)=>f a b|none=>none
def eT(o:Option (α×β×γ))(f:α->β->γ->Option ρ):Option ρ:=match o with|some (a,b,c)=>f a b c|none=>none
def W8(o:Option (α×β×γ×δ))(f:α->β->γ->δ->Option ρ):Option ρ:=match o with|some (a,b,c,d)=>f a b c d|none=>none
def Pe(o:Option (α×β×γ×δ×ε))(f:α->β->γ->δ->ε->Option ρ):Option ρ:=match o with|some (a,b,c,d,e)=>f a b c d e|none=>none
def gG(p:Bool)(o:Option ρ):Option ρ:=if p then o else none
def ej{κ:Type}(k:κ)(b:κ->Option ρ):Option ρ:=b k
@[simp] theorem dI(a:α)(f:α->Option ρ):dH (some a) f=f a:=rfl
@[simp] theorem dQ(a:α)(b:β)(f:α->β->Option ρ):dV (some (a,b)) f=f a b:=rfl
@[simp] theorem gk(a:α)(b:β)(c:γ)(f:α->β->γ->Option ρ):eT (some (a,b,c)) f=f a b c:=rfl
@[simp] theorem uX(a:α)(b:β)(c:γ)(d:δ)(e:ε)(f:α->β->γ->δ->ε->Option ρ):Pe (some (a,b,c,d,e)) f=f a b c d e:=rfl
@[simp] theorem ed(o:Option ρ):gG true o=o:=rfl
@[simp] theorem ef{κ:Type}(k:κ)(b:κ->Option ρ):ej k b=b k:=rfl
def lK{o:Option α}{f:α->Option ρ}{r:ρ}(h:dH o f=some r):∃a,o=some a/\f a=some r:=by
 cases o with|none=>cases h|some a=>exact⟨a,rfl,h⟩
def DK{o:Option (α×β)}{f:α->β->Option ρ}{r:ρ}(h:dV o f=some r):∃a b,o=some (a,b)/\f a b=some r:=by
 cases o with|none=>cases h|some a=>exact⟨a.1,a.2,rfl,h⟩
def DG{o:Option (α×β×γ)}{f:α->β->γ->Option ρ}{r:ρ}(h:eT o f=some r):∃a b c,o=some (a,b,c)/\f a b c=some r:=by
 cases o with|none=>cases h|some a=>exact⟨a.1,a.2.1,a.2.2,rfl,h⟩
def RM{o:Option (α×β×γ×δ)}{f:α->β->γ->δ->Option ρ}{r:ρ}(h:W8 o f=some r):∃a b c d,o=some (a,b,c,d)/\f a b c d=some r:=by
 cases o with|none=>cases h|some a=>exact⟨a.1,a.2.1,a.2.2.1,a.2.2.2,rfl,h⟩
def QV{o:Option (α×β×γ×δ×ε)}{f:α->β->γ->δ->ε->Option ρ}{r:ρ}(h:Pe o f=some r):∃a b c d e,o=some (a,b,c,d,e)/\f a b c d e=some r:=by
 cases o with|none=>cases h|some a=>exact⟨a.1,a.2.1,a.2.2.1,a.2.2.2.1,a.2.2.2.2,rfl,h⟩
def sG{p:Bool}{o:Option ρ}{r:ρ}(h:gG p o=some r):p=true/\o=some r:=by
 cases p with|false=>cases h|true=>exact⟨rfl,h⟩
def DO{κ:Type}{k:κ}{b:κ->Option ρ}{r:ρ}(h:ej k b=some r):∃j,j=k/\b j=some r:=⟨k,rfl,h⟩
def E3{c:Bool}{a b:Option ρ}{r:ρ}(h:(if c then a else b)=some r):c=true/\a=some r\/c=false/\b=some r:=by
 cases c with|false=>exact .inr ⟨rfl,h⟩|true=>exact .inl ⟨rfl,h⟩
inductive gq (σ ρ:Type) where
 |next (s:σ)|y7 (s:σ)|ret (r:ρ)
def KV(k:σ->Option (σ⊕ρ)):gq σ ρ->Option (σ⊕ρ)
 |.next s=>k s|.y7 s=>some (.inl s)|.ret r=>some (.inr r)
def fO(k:σ->Option τ)(r:ρ->Option τ):σ⊕ρ->Option τ
 |.inl s=>k s|.inr x=>r x
@[simp] theorem fk(k:σ->Option (σ⊕ρ))(s:σ):KV k (.next s)=k s:=rfl
@[simp] theorem sZ(k:σ->Option (σ⊕ρ))(s:σ):KV k (.y7 s)=some (.inl s):=rfl
@[simp] theorem Od(k:σ->Option (σ⊕ρ))(x:ρ):KV k (.ret x)=some (.inr x):=rfl
@[simp] theorem eC(k:σ->Option τ)(r:ρ->Option τ)(s:σ):fO k r (.inl s)=k s:=rfl
@[simp] theorem sV(k:σ->Option τ)(r:ρ->Option τ)(x:ρ):fO k r (.inr x)=r x:=rfl
def fw(f:Int->α->σ->Option (gq σ ρ)):List α->Nat->σ->Option (σ⊕ρ)
 |[],_,s=>some (.inl s)|x::l,i,s=>dH (f (i:Int) x s) (KV (fw f l (i+1)))
def j0(f:σ->Option (gq σ ρ)):Nat->σ->Option (σ⊕ρ)
 |0,_=>none|n+1,s=>dH (f s) (KV (j0 f n))
@[simp] theorem pq(f:Int->α->σ->Option (gq σ ρ))(i:Nat)(s:σ):fw f [] i s=some (.inl s):=rfl
@[simp] theorem fY(f:Int->α->σ->Option (gq σ ρ))(x:α)(l:List α)(i:Nat)(s:σ):fw f (x::l) i s=dH (f (i:Int) x s) (KV (fw f l (i+1))):=rfl
def yn(f:α->β->τ)(p:α×β):τ:=f p.1 p.2
def Vr(f:α->β->γ->τ)(p:α×β×γ):τ:=f p.1 p.2.1 p.2.2
def ZZ(f:α->β->γ->δ->τ)(p:α×β×γ×δ):τ:=f p.1 p.2.1 p.2.2.1 p.2.2.2
def un5(f:α->β->γ->δ->ε->τ)(p:α×β×γ×δ×ε):τ:=f p.1 p.2.1 p.2.2.1 p.2.2.2.1 p.2.2.2.2
def un6(f:α->β->γ->δ->ε->ζ->τ)(p:α×β×γ×δ×ε×ζ):τ:=f p.1 p.2.1 p.2.2.1 p.2.2.2.1 p.2.2.2.2.1 p.2.2.2.2.2
@[simp] theorem lS(f:α->β->τ)(a:α)(b:β):yn f (a,b)=f a b:=rfl
@[simp] theorem GN(f:α->β->γ->τ)(a:α)(b:β)(c:γ):Vr f (a,b,c)=f a b c:=rfl
@[simp] theorem vq(f:α->β->γ->δ->τ)(a:α)(b:β)(c:γ)(d:δ):ZZ f (a,b,c,d)=f a b c d:=rfl
@[simp] theorem Dn(f:α->β->γ->δ->ε->τ)(a:α)(b:β)(c:γ)(d:δ)(e:ε):un5 f (a,b,c,d,e)=f a b c d e:=rfl
@[simp] theorem Bv(f:α->β->γ->δ->ε->ζ->τ)(a:α)(b:β)(c:γ)(d:δ)(e:ε)(g:ζ):un6 f (a,b,c,d,e,g)=f a b c d e g:=rfl
end
def un9{α β γ δ ε ζ η θ ι τ:Type}(f:α->β->γ->δ->ε->ζ->η->θ->ι->τ)(p:α×β×γ×δ×ε×ζ×η×θ×ι):τ:=f p.1 p.2.1 p.2.2.1 p.2.2.2.1 p.2.2.2.2.1 p.2.2.2.2.2.1 p.2.2.2.2.2.2.1 p.2.2.2.2.2.2.2.1 p.2.2.2.2.2.2.2.2
@[simp] theorem XC{α β γ δ ε ζ η θ ι τ:Type}(f:α->β->γ->δ->ε->ζ->η->θ->ι->τ)(a:α)(b:β)(c:γ)(d:δ)(e:ε)(g:ζ)(h:η)(i:θ)(j:ι):un9 f (a,b,c,d,e,g,h,i,j)=f a b c d e g h i j:=rfl
def Lz{α β γ δ ε ζ η θ ι κ μ τ:Type}(f:α->β->γ->δ->ε->ζ->η->θ->ι->κ->μ->τ)(p:α×β×γ×δ×ε×ζ×η×θ×ι×κ×μ):τ:=f p.1 p.2.1 p.2.2.1 p.2.2.2.1 p.2.2.2.2.1 p.2.2.2.2.2.1 p.2.2.2.2.2.2.1 p.2.2.2.2.2.2.2.1 p.2.2.2.2.2.2.2.2.1 p.2.2.2.2.2.2.2.2.2.1 p.2.2.2.2.2.2.2.2.2.2
@[simp] theorem vS{α β γ δ ε ζ η θ ι κ μ τ:Type}(f:α->β->γ->δ->ε->ζ->η->θ->ι->κ->μ->τ)(a:α)(b:β)(c:γ)(d:δ)(e:ε)(g:ζ)(h:η)(i:θ)(j:ι)(k:κ)(l:μ):Lz f (a,b,c,d,e,g,h,i,j,k,l)=f a b c d e g h i j k l:=rfl
def Yn{α β γ δ ε ζ η θ ι κ μ ν τ:Type}(f:α->β->γ->δ->ε->ζ->η->θ->ι->κ->μ->ν->τ)(p:α×β×γ×δ×ε×ζ×η×θ×ι×κ×μ×ν):τ:=f p.1 p.2.1 p.2.2.1 p.2.2.2.1 p.2.2.2.2.1 p.2.2.2.2.2.1 p.2.2.2.2.2.2.1 p.2.2.2.2.2.2.2.1 p.2.2.2.2.2.2.2.2.1 p.2.2.2.2.2.2.2.2.2.1 p.2.2.2.2.2.2.2.2.2.2.1 p.2.2.2.2.2.2.2.2.2.2.2
@[simp] theorem Iv{α β γ δ ε ζ η θ ι κ μ ν τ:Type}(f:α->β->γ->δ->ε->ζ->η->θ->ι->κ->μ->ν->τ)(a:α)(b:β)(c:γ)(d:δ)(e:ε)(g:ζ)(h:η)(i:θ)(j:ι)(k:κ)(l:μ)(m:ν):Yn f (a,b,c,d,e,g,h,i,j,k,l,m)=f a b c d e g h i j k l m:=rfl
section
variable{α σ ρ:Type}
def Tx{l:List α}{i:Nat}(h:i<l.length):∃x,l.drop i=x::l.drop (i+1)/\dX l (i:Int)=some x:=
 ⟨l[i],Nz h,by unfold dX;rw[dR VW];simp[h]⟩
def XZ{l:List α}{i:Nat}(h:i<l.length):pg (i:Int) (eA l)=true:=by unfold pg eA;simpa using h
def aaS{l:List α}{i:Nat}(h:l.length<=i):pg (i:Int) (eA l)=false:=by unfold pg eA;simpa using h
def P8{l:List α}(h:eX l=true):l.length<=yU:=by simpa[eX] using h
def Qg{l m:List α}(h:fN l m=true):l.length+m.length<=yU:=by simpa[fN] using h
def Oe{l:List α}{i:Nat}(h:i<l.length)(a:eX l=true):eW .i64 (i:Int) 1=((i+1:Nat):Int):=by
 have b:=P8 a;unfold yU at b;unfold eW;rw[IntKind.wrap_i64];omega
def X'{l:List α}{i:Nat}{j:Int}(a:j=(i:Int))(h:i<l.length):∃x,l.drop i=x::l.drop (i+1)/\dX l j=some x:=by subst a;exact Tx h
def abE{l:List α}{i:Nat}{j:Int}(a:j=(i:Int))(h:i<l.length):pg j (eA l)=true:=by subst a;exact XZ h
def W2{l:List α}{i:Nat}{j:Int}(a:j=(i:Int))(h:l.length<=i):pg j (eA l)=false:=by subst a;exact aaS h
def TW{l:List α}{i:Nat}{j:Int}(a:j=(i:Int))(h:i<l.length)(b:eX l=true):eW .i64 j 1=((i+1:Nat):Int):=by subst a;exact Oe h b
def hS(f:σ->Option (gq σ ρ))(n:Nat)(s:σ):j0 f (n+1) s=dH (f s) (KV (j0 f n)):=rfl
@[simp] theorem L':lV true=false:=rfl
@[simp] theorem ad1:lV false=true:=rfl
def Oz(l m:List α):(fU l m).length=l.length+m.length:=by unfold fU;simp
end
def yN{S R:Type}(o:Option R)(s:S):Option (R×S):=match o with|some r=>some (r,s)|none=>none
@[simp] theorem HD{S R:Type}(r:R)(s:S):yN (some r) s=some (r,s):=rfl
def zR{S R:Type}{o:Option R}{s a:S}{r:R}(h:yN o s=some (r,a)):o=some r/\a=s:=by
 cases o with
 |none=>cases h
 |some x=>
  have:=kX h;exact⟨by rw[(iU this).1],((iU this).2).symm⟩
def GO{α:Type}(l:List α)(i:Int)(x:α):List α:=l.set i.toNat x
def J5{α:Type}(l:List α):Bool:=decide (0<l.length/\l.length<=yU)
def OE{α:Type}{l:List α}{i:Int}{x:α}(h:dX l i=some x):l[i.toNat]?=some x:=by
 unfold dX at h
 split at h
 ·exact h
 ·cases h
def RU{α:Type}{l:List α}{i:Int}{x:α}(h:dX l i=some x):0<=i/\i<(l.length:Int):=by
 unfold dX at h
 split at h
 ·rename_i a;have:=(s7.1 h).1;omega
 ·cases h
@[simp] theorem ac3{α:Type}(l:List α)(i:Int)(x:α):(GO l i x).length=l.length:=by simp[GO]
end Go.fF
