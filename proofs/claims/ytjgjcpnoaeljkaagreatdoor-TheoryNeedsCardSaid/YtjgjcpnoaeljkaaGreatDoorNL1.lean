/- Part of the proof of TheoryNeeds: layer. -/
import Derived.Below
import Derived.Laws.BytesArg
import Derived.Test.YtjgjcpnoaeljkaaGreatDoorNB1
set_option linter.all false
namespace Go.eU
open Go
def dJ(k:IntKind)(a b:Int):Int:=k.wrap (a+b)
def ea(k:IntKind)(a b:Int):Int:=k.wrap (a-b)
def J4(k:IntKind)(a b:Int):Int:=k.wrap (a*b)
def yw(c:IntKind)(a b:Int):Int:=a.tmod b
def qn(k:IntKind)(a b:Int):Int:=k.wrap (BitVec.ofInt k.bits a&&&BitVec.ofInt k.bits b).toNat
def w4(k:IntKind)(a b:Int):Int:=k.wrap (BitVec.ofInt k.bits a|||BitVec.ofInt k.bits b).toNat
def Wp(k:IntKind)(a b:Int):Int:=k.wrap (a*2^min b.toNat k.bits)
def TQ(k:IntKind)(a b:Int):Int:=a.fdiv (2^min b.toNat k.bits)
def dj(a b:Int):Bool:=a==b
def dx(a b:Int):Bool:=a !=b
def qT(a b:Int):Bool:=a<b
def Hl(a b:Int):Bool:=a<=b
def ly(a b:Int):Bool:=a>b
def og(a b:Int):Bool:=a>=b
def conv(k:IntKind)(a:Int):Int:=k.wrap a
def imax(a b:Int):Int:=if b>a then b else a
def pL(a:Bool):Bool:=!a
def seq(x y:ByteArray):Bool:=x.toList==y.toList
def aaE(x:ByteArray):Int:=x.size
def P7(x:ByteArray)(lo hi:Int):Option ByteArray:=if 0<=lo/\0<=hi/\hi.toNat<=x.size/\lo.toNat<=hi.toNat then some (x.extract lo.toNat hi.toNat)else none
def en{α:Type}(c:Bool)(a b:α):α:=if c then a else b
@[simp] theorem BH{α:Type}(a b:α):en true a b=a:=rfl
@[simp] theorem zt{α:Type}(a b:α):en false a b=b:=rfl
def En(l:List Int):ByteArray:=strOfNums l
def dp{α:Type}(l:List α):Int:=l.length
def dg{α:Type}(l:List α)(i:Int):Option α:=if 0<=i then l[i.toNat]?else none
def fk{α:Type}(l m:List α):List α:=l++m
def ru{α:Type}(l:List α)(lo hi:Int):Option (List α):=if 0<=lo/\0<=hi/\hi.toNat<=l.length/\lo.toNat<=hi.toNat then some ((l.take hi.toNat).drop lo.toNat)else none
def Qh{α:Type}:List (Int×α)->Int->Option α
 |[],_=>none|p::l,k=>if p.1=k then some p.2 else Qh l k
def D1{α:Type}(l:List (Int×α))(k:Int)(z:α):α:=(Qh l k).getD z
def nN{α:Type}:List (Int×α)->Int->α->List (Int×α)
 |[],k,v=>[(k,v)]|p::l,k,v=>if p.1=k then(k,v)::l else p::nN l k v
def lim:Nat:=549755813888
def eI{α:Type}(l m:List α):Bool:=decide (l.length+m.length<=lim)
def dE{α:Type}(l:List α):Bool:=decide (l.length<=lim)
def Bu(b:Int):Bool:=!decide (b=0)
def IE(b:Int):Bool:=!decide (b<0)
@[irreducible] def FU:Nat:=1000000000
theorem d_:FU=1000000000:=by unfold FU;rfl
section
variable{α β γ δ ε ζ η ρ σ τ:Type}
def cM(o:Option α)(f:α->Option ρ):Option ρ:=match o with|some a=>f a|none=>none
def cW(o:Option (α×β))(f:α->β->Option ρ):Option ρ:=match o with|some (a,b)=>f a b|none=>none
def gX(o:Option (α×β×γ))(f:α->β->γ->Option ρ):Option ρ:=match o with|some (a,b,c)=>f a b c|none=>none
def QE(o:Option (α×β×γ×δ))(f:α->β->γ->δ->Option ρ):Option ρ:=match o with|some (a,b,c,d)=>f a b c d|none=>none
def e_(p:Bool)(o:Option ρ):Option ρ:=if p then o else none
def de{κ:Type}(k:κ)(b:κ->Option ρ):Option ρ:=b k
@[simp] theorem cv(a:α)(f:α->Option ρ):cM (some a) f=f a:=rfl
@[simp] theorem cN(a:α)(b:β)(f:α->β->Option ρ):cW (some (a,b)) f=f a b:=rfl
@[simp] theorem l7(a:α)(b:β)(c:γ)(f:α->β->γ->Option ρ):gX (some (a,b,c)) f=f a b c:=rfl
@[simp] theorem cY(o:Option ρ):e_ true o=o:=rfl
@[simp] theorem c6{κ:Type}(k:κ)(b:κ->Option ρ):de k b=b k:=rfl
def dm{o:Option α}{f:α->Option ρ}{r:ρ}(h:cM o f=some r):∃a,o=some a/\f a=some r:=by
 cases o with|none=>cases h|some a=>exact⟨a,rfl,h⟩
def gB{o:Option (α×β)}{f:α->β->Option ρ}{r:ρ}(h:cW o f=some r):∃a b,o=some (a,b)/\f a b=some r:=by
 cases o with|none=>cases h|some a=>exact⟨a.1,a.2,rfl,h⟩
def uB{o:Option (α×β×γ)}{f:α->β->γ->Option ρ}{r:ρ}(h:gX o f=some r):∃a b c,o=some (a,b,c)/\f a b c=some r:=by
 cases o with|none=>cases h|some a=>exact⟨a.1,a.2.1,a.2.2,rfl,h⟩
def PY{o:Option (α×β×γ×δ)}{f:α->β->γ->δ->Option ρ}{r:ρ}(h:QE o f=some r):∃a b c d,o=some (a,b,c,d)/\f a b c d=some r:=by
 cases o with|none=>cases h|some a=>exact⟨a.1,a.2.1,a.2.2.1,a.2.2.2,rfl,h⟩
def j0{p:Bool}{o:Option ρ}{r:ρ}(h:e_ p o=some r):p=true/\o=some r:=by
 cases p with|false=>cases h|true=>exact⟨rfl,h⟩
def kL{κ:Type}{k:κ}{b:κ->Option ρ}{r:ρ}(h:de k b=some r):∃j,j=k/\b j=some r:=⟨k,rfl,h⟩
def gR{c:Bool}{a b:Option ρ}{r:ρ}(h:(if c then a else b)=some r):c=true/\a=some r\/c=false/\b=some r:=by
 cases c with|false=>exact .inr ⟨rfl,h⟩|true=>exact .inl ⟨rfl,h⟩
inductive dW (σ ρ:Type) where
 |next (s:σ)|brk (s:σ)|ret (r:ρ)
def LU(k:σ->Option (σ⊕ρ)):dW σ ρ->Option (σ⊕ρ)
 |.next s=>k s|.brk s=>some (.inl s)|.ret r=>some (.inr r)
def eB(k:σ->Option τ)(r:ρ->Option τ):σ⊕ρ->Option τ
 |.inl s=>k s|.inr x=>r x
@[simp] theorem dR(k:σ->Option (σ⊕ρ))(s:σ):LU k (.next s)=k s:=rfl
@[simp] theorem Np(k:σ->Option (σ⊕ρ))(s:σ):LU k (.brk s)=some (.inl s):=rfl
@[simp] theorem yz(k:σ->Option (σ⊕ρ))(x:ρ):LU k (.ret x)=some (.inr x):=rfl
@[simp] theorem dh(k:σ->Option τ)(r:ρ->Option τ)(s:σ):eB k r (.inl s)=k s:=rfl
@[simp] theorem oG(k:σ->Option τ)(r:ρ->Option τ)(x:ρ):eB k r (.inr x)=r x:=rfl
def dF(f:Int->α->σ->Option (dW σ ρ)):List α->Nat->σ->Option (σ⊕ρ)
 |[],_,s=>some (.inl s)|x::l,i,s=>cM (f (i:Int) x s) (LU (dF f l (i+1)))
def nk(f:σ->Option (dW σ ρ)):Nat->σ->Option (σ⊕ρ)
 |0,_=>none|n+1,s=>cM (f s) (LU (nk f n))
@[simp] theorem nT(f:Int->α->σ->Option (dW σ ρ))(i:Nat)(s:σ):dF f [] i s=some (.inl s):=rfl
@[simp] theorem dB(f:Int->α->σ->Option (dW σ ρ))(x:α)(l:List α)(i:Nat)(s:σ):dF f (x::l) i s=cM (f (i:Int) x s) (LU (dF f l (i+1))):=rfl
def rI(f:α->β->τ)(p:α×β):τ:=f p.1 p.2
def X5(f:α->β->γ->τ)(p:α×β×γ):τ:=f p.1 p.2.1 p.2.2
def un4(f:α->β->γ->δ->τ)(p:α×β×γ×δ):τ:=f p.1 p.2.1 p.2.2.1 p.2.2.2
def un5(f:α->β->γ->δ->ε->τ)(p:α×β×γ×δ×ε):τ:=f p.1 p.2.1 p.2.2.1 p.2.2.2.1 p.2.2.2.2
def Tf(f:α->β->γ->δ->ε->ζ->τ)(p:α×β×γ×δ×ε×ζ):τ:=f p.1 p.2.1 p.2.2.1 p.2.2.2.1 p.2.2.2.2.1 p.2.2.2.2.2
@[simp] theorem kO(f:α->β->τ)(a:α)(b:β):rI f (a,b)=f a b:=rfl
@[simp] theorem Hi(f:α->β->γ->τ)(a:α)(b:β)(c:γ):X5 f (a,b,c)=f a b c:=rfl
@[simp] theorem UD(f:α->β->γ->δ->τ)(a:α)(b:β)(c:γ)(d:δ):un4 f (a,b,c,d)=f a b c d:=rfl
@[simp] theorem Gk(f:α->β->γ->δ->ε->τ)(a:α)(b:β)(c:γ)(d:δ)(e:ε):un5 f (a,b,c,d,e)=f a b c d e:=rfl
@[simp] theorem yN(f:α->β->γ->δ->ε->ζ->τ)(a:α)(b:β)(c:γ)(d:δ)(e:ε)(g:ζ):Tf f (a,b,c,d,e,g)=f a b c d e g:=rfl
end
def un9{α β γ δ ε ζ η θ ι τ:Type}(f:α->β->γ->δ->ε->ζ->η->θ->ι->τ)(p:α×β×γ×δ×ε×ζ×η×θ×ι):τ:=f p.1 p.2.1 p.2.2.1 p.2.2.2.1 p.2.2.2.2.1 p.2.2.2.2.2.1 p.2.2.2.2.2.2.1 p.2.2.2.2.2.2.2.1 p.2.2.2.2.2.2.2.2
@[simp] theorem Vm{α β γ δ ε ζ η θ ι τ:Type}(f:α->β->γ->δ->ε->ζ->η->θ->ι->τ)(a:α)(b:β)(c:γ)(d:δ)(e:ε)(g:ζ)(h:η)(i:θ)(j:ι):un9 f (a,b,c,d,e,g,h,i,j)=f a b c d e g h i j:=rfl
def Ve{α β γ δ ε ζ η θ ι κ μ ν ξ ο τ:Type}(f:α->β->γ->δ->ε->ζ->η->θ->ι->κ->μ->ν->ξ->ο->τ)(p:α×β×γ×δ×ε×ζ×η×θ×ι×κ×μ×ν×ξ×ο):τ:=f p.1 p.2.1 p.2.2.1 p.2.2.2.1 p.2.2.2.2.1 p.2.2.2.2.2.1 p.2.2.2.2.2.2.1 p.2.2.2.2.2.2.2.1 p.2.2.2.2.2.2.2.2.1 p.2.2.2.2.2.2.2.2.2.1 p.2.2.2.2.2.2.2.2.2.2.1 p.2.2.2.2.2.2.2.2.2.2.2.1 p.2.2.2.2.2.2.2.2.2.2.2.2.1 p.2.2.2.2.2.2.2.2.2.2.2.2.2
@[simp] theorem zI{α β γ δ ε ζ η θ ι κ μ ν ξ ο τ:Type}(f:α->β->γ->δ->ε->ζ->η->θ->ι->κ->μ->ν->ξ->ο->τ)(a:α)(b:β)(c:γ)(d:δ)(e:ε)(g:ζ)(h:η)(i:θ)(j:ι)(k:κ)(l:μ)(m:ν)(n:ξ)(o:ο):Ve f (a,b,c,d,e,g,h,i,j,k,l,m,n,o)=f a b c d e g h i j k l m n o:=rfl
section
variable{α σ ρ:Type}
def Q9{l:List α}{i:Nat}(h:i<l.length):∃x,l.drop i=x::l.drop (i+1)/\dg l (i:Int)=some x:=
 ⟨l[i],Ko h,by unfold dg;rw[cS VW];simp[h]⟩
def VA{l:List α}{i:Nat}(h:i<l.length):qT (i:Int) (dp l)=true:=by unfold qT dp;simpa using h
def X1{l:List α}{i:Nat}(h:l.length<=i):qT (i:Int) (dp l)=false:=by unfold qT dp;simpa using h
def Nf{l:List α}(h:dE l=true):l.length<=lim:=by simpa[dE] using h
def Mo{l m:List α}(h:eI l m=true):l.length+m.length<=lim:=by simpa[eI] using h
def LO{l:List α}{i:Nat}(h:i<l.length)(a:dE l=true):dJ .i64 (i:Int) 1=((i+1:Nat):Int):=by
 have b:=Nf a;unfold lim at b;unfold dJ;rw[IntKind.wrap_i64];omega
def M6{l:List α}{i:Nat}{j:Int}(a:j=(i:Int))(h:i<l.length):∃x,l.drop i=x::l.drop (i+1)/\dg l j=some x:=by subst a;exact Q9 h
def Q_{l:List α}{i:Nat}{j:Int}(a:j=(i:Int))(h:i<l.length):qT j (dp l)=true:=by subst a;exact VA h
def MG{l:List α}{i:Nat}{j:Int}(a:j=(i:Int))(h:l.length<=i):qT j (dp l)=false:=by subst a;exact X1 h
def JS{l:List α}{i:Nat}{j:Int}(a:j=(i:Int))(h:i<l.length)(b:dE l=true):dJ .i64 j 1=((i+1:Nat):Int):=by subst a;exact LO h b
def j2(f:σ->Option (dW σ ρ))(n:Nat)(s:σ):nk f (n+1) s=cM (f s) (LU (nk f n)):=rfl
@[simp] theorem SK:pL true=false:=rfl
@[simp] theorem acr:pL false=true:=rfl
def DT(l m:List α):(fk l m).length=l.length+m.length:=by unfold fk;simp
end
def oQ{S R:Type}(o:Option R)(s:S):Option (R×S):=match o with|some r=>some (r,s)|none=>none
@[simp] theorem DL{S R:Type}(r:R)(s:S):oQ (some r) s=some (r,s):=rfl
def qp{S R:Type}{o:Option R}{s a:S}{r:R}(h:oQ o s=some (r,a)):o=some r/\a=s:=by
 cases o with
 |none=>cases h
 |some x=>
  have:=fQ h;exact⟨by rw[(gy this).1],((gy this).2).symm⟩
def wy{α:Type}(l:List α)(i:Int)(x:α):List α:=l.set i.toNat x
def xN{α:Type}(l:List α):Bool:=decide (0<l.length/\l.length<=lim)
def MY{α:Type}{l:List α}{i:Int}{x:α}(h:dg l i=some x):l[i.toNat]?=some x:=by
 unfold dg at h
 split at h
 .exact h
 .cases h
def FE{α:Type}{l:List α}{i:Int}{x:α}(h:dg l i=some x):0<=i/\i<(l.length:Int):=by
 unfold dg at h
 split at h
 .rename_i a;have:=(mI.1 h).1;omega
 .cases h
@[simp] theorem ZM{α:Type}(l:List α)(i:Int)(x:α):(wy l i x).length=l.length:=by simp[wy]
end Go.eU
