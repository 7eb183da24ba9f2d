/- Part of the proof of TranslateStable: layer. -/
import Derived.Below
import Derived.Laws.BytesArg
import Derived.Test.YtffcgfpaakhbjaaGreatDoorL7
set_option linter.all false
namespace Go.dG
open Go
def c8(k:IntKind)(a b:Int):Int:=k.wrap (a+b)
def dh(k:IntKind)(a b:Int):Int:=k.wrap (a-b)
def zL(k:IntKind)(a b:Int):Int:=k.wrap (a*b)
def Ra(c:IntKind)(a b:Int):Int:=a.tmod b
def r'(k:IntKind)(a b:Int):Int:=k.wrap (BitVec.ofInt k.bits a&&&BitVec.ofInt k.bits b).toNat
def xV(k:IntKind)(a b:Int):Int:=k.wrap (BitVec.ofInt k.bits a|||BitVec.ofInt k.bits b).toNat
def Xm(k:IntKind)(a b:Int):Int:=k.wrap (a*2^min b.toNat k.bits)
def X'(k:IntKind)(a b:Int):Int:=a.fdiv (2^min b.toNat k.bits)
def cn(a b:Int):Bool:=a==b
def cF(a b:Int):Bool:=a !=b
def sg(a b:Int):Bool:=a<b
def DU(a b:Int):Bool:=a<=b
def nG(a b:Int):Bool:=a>b
def qJ(a b:Int):Bool:=a>=b
def conv(k:IntKind)(a:Int):Int:=k.wrap a
def imax(a b:Int):Int:=if b>a then b else a
def Pe(a b:Int):Int:=if b<a then b else a
def nT(a:Bool):Bool:=!a
def seq(x y:ByteArray):Bool:=x.toList==y.toList
def df{α:Type}(c:Bool)(a b:α):α:=if c then a else b
@[simp] theorem BA{α:Type}(a b:α):df true a b=a:=rfl
@[simp] theorem y'{α:Type}(a b:α):df false a b=b:=rfl
def cI{α:Type}(l:List α):Int:=l.length
def cr{α:Type}(l:List α)(i:Int):Option α:=if 0<=i then l[i.toNat]?else none
def eA{α:Type}(l m:List α):List α:=l++m
def JS{α:Type}(l:List α)(lo hi:Int):Option (List α):=if 0<=lo/\0<=hi/\hi.toNat<=l.length/\lo.toNat<=hi.toNat then some ((l.take hi.toNat).drop lo.toNat)else none
def tL{α:Type}:List (Int×α)->Int->α->List (Int×α)
 |[],k,v=>[(k,v)]|p::l,k,v=>if p.1=k then(k,v)::l else p::tL l k v
def xy:Nat:=1099511627776
def dZ{α:Type}(l m:List α):Bool:=decide (l.length+m.length<=xy)
def cZ{α:Type}(l:List α):Bool:=decide (l.length<=xy)
def IE(b:Int):Bool:=!decide (b=0)
def Pg(b:Int):Bool:=!decide (b<0)
@[irreducible] def FU:Nat:=1000000000
theorem cP:FU=1000000000:=by unfold FU;rfl
section
variable{α β γ δ ε ζ η ρ σ τ:Type}
def bU(o:Option α)(f:α->Option ρ):Option ρ:=match o with|some a=>f a|none=>none
def b7(o:Option (α×β))(f:α->β->Option ρ):Option ρ:=match o with|some (a,b)=>f a b|none=>none
def hU(o:Option (α×β×γ))(f:α->β->γ->Option ρ):Option ρ:=match o with|some (a,b,c)=>f a b c|none=>none
def R2(o:Option (α×β×γ×δ))(f:α->β->γ->δ->Option ρ):Option ρ:=match o with|some (a,b,c,d)=>f a b c d|none=>none
def eB(p:Bool)(o:Option ρ):Option ρ:=if p then o else none
def cB{κ:Type}(k:κ)(b:κ->Option ρ):Option ρ:=b k
@[simp] theorem bT(a:α)(f:α->Option ρ):bU (some a) f=f a:=rfl
@[simp] theorem bW(a:α)(b:β)(f:α->β->Option ρ):b7 (some (a,b)) f=f a b:=rfl
@[simp] theorem na(a:α)(b:β)(c:γ)(f:α->β->γ->Option ρ):hU (some (a,b,c)) f=f a b c:=rfl
@[simp] theorem aa7(a:α)(b:β)(c:γ)(d:δ)(f:α->β->γ->δ->Option ρ):R2 (some (a,b,c,d)) f=f a b c d:=rfl
@[simp] theorem V2(f:α->Option ρ):bU none f=none:=rfl
@[simp] theorem b9(o:Option ρ):eB true o=o:=rfl
@[simp] theorem Zc(o:Option ρ):eB false o=none:=rfl
@[simp] theorem cg{κ:Type}(k:κ)(b:κ->Option ρ):cB k b=b k:=rfl
def cE{o:Option α}{f:α->Option ρ}{r:ρ}(h:bU o f=some r):∃a,o=some a/\f a=some r:=by
 cases o with|none=>cases h|some a=>exact⟨a,rfl,h⟩
def iR{o:Option (α×β)}{f:α->β->Option ρ}{r:ρ}(h:b7 o f=some r):∃a b,o=some (a,b)/\f a b=some r:=by
 cases o with|none=>cases h|some a=>exact⟨a.1,a.2,rfl,h⟩
def AE{o:Option (α×β×γ)}{f:α->β->γ->Option ρ}{r:ρ}(h:hU o f=some r):∃a b c,o=some (a,b,c)/\f a b c=some r:=by
 cases o with|none=>cases h|some a=>exact⟨a.1,a.2.1,a.2.2,rfl,h⟩
def qA{p:Bool}{o:Option ρ}{r:ρ}(h:eB p o=some r):p=true/\o=some r:=by
 cases p with|false=>cases h|true=>exact⟨rfl,h⟩
def xc{κ:Type}{k:κ}{b:κ->Option ρ}{r:ρ}(h:cB k b=some r):∃j,j=k/\b j=some r:=⟨k,rfl,h⟩
def Be{c:Bool}{a b:Option ρ}{r:ρ}(h:(if c then a else b)=some r):c=true/\a=some r\/c=false/\b=some r:=by
 cases c with|false=>exact .inr ⟨rfl,h⟩|true=>exact .inl ⟨rfl,h⟩
inductive dP (σ ρ:Type) where
 |next (s:σ)|H9 (s:σ)|ret (r:ρ)
def LA(k:σ->Option (σ⊕ρ)):dP σ ρ->Option (σ⊕ρ)
 |.next s=>k s|.H9 s=>some (.inl s)|.ret r=>some (.inr r)
def dR(k:σ->Option τ)(r:ρ->Option τ):σ⊕ρ->Option τ
 |.inl s=>k s|.inr x=>r x
@[simp] theorem cU(k:σ->Option (σ⊕ρ))(s:σ):LA k (.next s)=k s:=rfl
@[simp] theorem aaG(k:σ->Option (σ⊕ρ))(s:σ):LA k (.H9 s)=some (.inl s):=rfl
@[simp] theorem Gi(k:σ->Option (σ⊕ρ))(x:ρ):LA k (.ret x)=some (.inr x):=rfl
@[simp] theorem ca(k:σ->Option τ)(r:ρ->Option τ)(s:σ):dR k r (.inl s)=k s:=rfl
@[simp] theorem qm(k:σ->Option τ)(r:ρ->Option τ)(x:ρ):dR k r (.inr x)=r x:=rfl
def cY(f:Int->α->σ->Option (dP σ ρ)):List α->Nat->σ->Option (σ⊕ρ)
 |[],_,s=>some (.inl s)|x::l,i,s=>bU (f (i:Int) x s) (LA (cY f l (i+1)))
def nY(f:σ->Option (dP σ ρ)):Nat->σ->Option (σ⊕ρ)
 |0,_=>none|n+1,s=>bU (f s) (LA (nY f n))
@[simp] theorem lx(f:Int->α->σ->Option (dP σ ρ))(i:Nat)(s:σ):cY f [] i s=some (.inl s):=rfl
@[simp] theorem cO(f:Int->α->σ->Option (dP σ ρ))(x:α)(l:List α)(i:Nat)(s:σ):cY f (x::l) i s=bU (f (i:Int) x s) (LA (cY f l (i+1))):=rfl
def sa(f:α->β->τ)(p:α×β):τ:=f p.1 p.2
def TS(f:α->β->γ->τ)(p:α×β×γ):τ:=f p.1 p.2.1 p.2.2
def Zk(f:α->β->γ->δ->τ)(p:α×β×γ×δ):τ:=f p.1 p.2.1 p.2.2.1 p.2.2.2
def un5(f:α->β->γ->δ->ε->τ)(p:α×β×γ×δ×ε):τ:=f p.1 p.2.1 p.2.2.1 p.2.2.2.1 p.2.2.2.2
def QF(f:α->β->γ->δ->ε->ζ->τ)(p:α×β×γ×δ×ε×ζ):τ:=f p.1 p.2.1 p.2.2.1 p.2.2.2.1 p.2.2.2.2.1 p.2.2.2.2.2
@[simp] theorem ru(f:α->β->τ)(a:α)(b:β):sa f (a,b)=f a b:=rfl
@[simp] theorem Kd(f:α->β->γ->τ)(a:α)(b:β)(c:γ):TS f (a,b,c)=f a b c:=rfl
@[simp] theorem acM(f:α->β->γ->δ->τ)(a:α)(b:β)(c:γ)(d:δ):Zk f (a,b,c,d)=f a b c d:=rfl
@[simp] theorem NF(f:α->β->γ->δ->ε->τ)(a:α)(b:β)(c:γ)(d:δ)(e:ε):un5 f (a,b,c,d,e)=f a b c d e:=rfl
@[simp] theorem yO(f:α->β->γ->δ->ε->ζ->τ)(a:α)(b:β)(c:γ)(d:δ)(e:ε)(g:ζ):QF f (a,b,c,d,e,g)=f a b c d e g:=rfl
end
def YM{α β γ δ ε ζ η θ ι τ:Type}(f:α->β->γ->δ->ε->ζ->η->θ->ι->τ)(p:α×β×γ×δ×ε×ζ×η×θ×ι):τ:=f p.1 p.2.1 p.2.2.1 p.2.2.2.1 p.2.2.2.2.1 p.2.2.2.2.2.1 p.2.2.2.2.2.2.1 p.2.2.2.2.2.2.2.1 p.2.2.2.2.2.2.2.2
@[simp] theorem aco{α β γ δ ε ζ η θ ι τ:Type}(f:α->β->γ->δ->ε->ζ->η->θ->ι->τ)(a:α)(b:β)(c:γ)(d:δ)(e:ε)(g:ζ)(h:η)(i:θ)(j:ι):YM f (a,b,c,d,e,g,h,i,j)=f a b c d e g h i j:=rfl
section
variable{α σ ρ:Type}
def Ob{l:List α}{i:Nat}(h:i<l.length):∃x,l.drop i=x::l.drop (i+1)/\cr l (i:Int)=some x:=
 ⟨l[i],Ma h,by unfold cr;rw[bX VW];simp[h]⟩
def Sp{l:List α}{i:Nat}(h:i<l.length):sg (i:Int) (cI l)=true:=by unfold sg cI;simpa using h
def T'{l:List α}{i:Nat}(h:l.length<=i):sg (i:Int) (cI l)=false:=by unfold sg cI;simpa using h
def Lz{l:List α}(h:cZ l=true):l.length<=xy:=by simpa[cZ] using h
def Kv{l m:List α}(h:dZ l m=true):l.length+m.length<=xy:=by simpa[dZ] using h
def Kn{l:List α}{i:Nat}(h:i<l.length)(a:cZ l=true):c8 .i64 (i:Int) 1=((i+1:Nat):Int):=by
 have b:=Lz a;unfold xy at b;unfold c8;rw[IntKind.wrap_i64];omega
def Q_{l:List α}{i:Nat}{j:Int}(a:j=(i:Int))(h:i<l.length):∃x,l.drop i=x::l.drop (i+1)/\cr l j=some x:=by subst a;exact Ob h
def Uq{l:List α}{i:Nat}{j:Int}(a:j=(i:Int))(h:i<l.length):sg j (cI l)=true:=by subst a;exact Sp h
def RJ{l:List α}{i:Nat}{j:Int}(a:j=(i:Int))(h:l.length<=i):sg j (cI l)=false:=by subst a;exact T' h
def PF{l:List α}{i:Nat}{j:Int}(a:j=(i:Int))(h:i<l.length)(b:cZ l=true):c8 .i64 j 1=((i+1:Nat):Int):=by subst a;exact Kn h b
def l6(f:σ->Option (dP σ ρ))(n:Nat)(s:σ):nY f (n+1) s=bU (f s) (LA (nY f n)):=rfl
@[simp] theorem Pu:nT true=false:=rfl
@[simp] theorem Wh:nT false=true:=rfl
def yR(l m:List α):(eA l m).length=l.length+m.length:=by unfold eA;simp
end
def nc{S R:Type}(o:Option R)(s:S):Option (R×S):=match o with|some r=>some (r,s)|none=>none
@[simp] theorem y0{S R:Type}(r:R)(s:S):nc (some r) s=some (r,s):=rfl
def tC{S R:Type}{o:Option R}{s a:S}{r:R}(h:nc o s=some (r,a)):o=some r/\a=s:=by
 cases o with
 |none=>cases h
 |some x=>
  have:=fS h;exact⟨by rw[(fI this).1],((fI this).2).symm⟩
def xu{α:Type}(l:List α)(i:Int)(x:α):List α:=l.set i.toNat x
def xH{α:Type}(l:List α):Bool:=decide (0<l.length/\l.length<=xy)
def LB{α:Type}{l:List α}{i:Int}{x:α}(h:cr l i=some x):l[i.toNat]?=some x:=by
 unfold cr at h
 split at h
 ·exact h
 ·cases h
def N3{α:Type}{l:List α}{i:Int}{x:α}(h:cr l i=some x):0<=i/\i<(l.length:Int):=by
 unfold cr at h
 split at h
 ·rename_i a;have:=(jj.1 h).1;omega
 ·cases h
@[simp] theorem VD{α:Type}(l:List α)(i:Int)(x:α):(xu l i x).length=l.length:=by simp[xu]
end Go.dG
