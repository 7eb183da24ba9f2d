/- Part of the proof of SchemeLists: layer. -/
import Derived.Below
import Derived.Laws.BytesArg
import Derived.Test.YtpgdkkomegalnaaGreatDoorLB1
set_option linter.all false
namespace Go.fD
open Go
def eS(k:IntKind)(a b:Int):Int:=k.wrap (a+b)
def fA(k:IntKind)(a b:Int):Int:=k.wrap (a-b)
def T1(k:IntKind)(a b:Int):Int:=k.wrap (a*b)
def VI(c:IntKind)(a b:Int):Int:=a.tmod b
def B3(k:IntKind)(a b:Int):Int:=k.wrap (BitVec.ofInt k.bits a&&&BitVec.ofInt k.bits b).toNat
def SV(k:IntKind)(a b:Int):Int:=k.wrap (BitVec.ofInt k.bits a|||BitVec.ofInt k.bits b).toNat
def aes(k:IntKind)(a b:Int):Int:=k.wrap (a*2^min b.toNat k.bits)
def acQ(k:IntKind)(a b:Int):Int:=a.fdiv (2^min b.toNat k.bits)
def eo(a b:Int):Bool:=a==b
def eP(a b:Int):Bool:=a !=b
def o7(a b:Int):Bool:=a<b
def Yr(a b:Int):Bool:=a<=b
def oQ(a b:Int):Bool:=a>b
def pd(a b:Int):Bool:=a>=b
def conv(k:IntKind)(a:Int):Int:=k.wrap a
def imax(a b:Int):Int:=if b>a then b else a
def lJ(a:Bool):Bool:=!a
def seq(x y:ByteArray):Bool:=x.toList==y.toList
def fv{α:Type}(c:Bool)(a b:α):α:=if c then a else b
@[simp] theorem D7{α:Type}(a b:α):fv true a b=a:=rfl
@[simp] theorem BR{α:Type}(a b:α):fv false a b=b:=rfl
def eA{α:Type}(l:List α):Int:=l.length
def dW{α:Type}(l:List α)(i:Int):Option α:=if 0<=i then l[i.toNat]?else none
def fR{α:Type}(l m:List α):List α:=l++m
def pF{α:Type}(l:List α)(lo hi:Int):Option (List α):=if 0<=lo/\0<=hi/\hi.toNat<=l.length/\lo.toNat<=hi.toNat then some ((l.take hi.toNat).drop lo.toNat)else none
def wG{α:Type}:List (Int×α)->Int->α->List (Int×α)
 |[],k,v=>[(k,v)]|p::l,k,v=>if p.1=k then(k,v)::l else p::wG l k v
def Al:Nat:=549755813888
def fI{α:Type}(l m:List α):Bool:=decide (l.length+m.length<=Al)
def eV{α:Type}(l:List α):Bool:=decide (l.length<=Al)
def KM(b:Int):Bool:=!decide (b=0)
def T0(b:Int):Bool:=!decide (b<0)
@[irreducible] def FU:Nat:=1000000000
theorem fB:FU=1000000000:=by unfold FU;rfl
section
variable{α β γ δ ε ζ η ρ σ τ:Type}
def dH(o:Option α)(f:α->Option ρ):Option ρ:=match o with|some a=>f a|none=>none
def dU(o:Option (α×β))(f:α->β->Option ρ):Option ρ:=match o with|some (a,b)=>f a b|none=>none
def eZ(o:Option (α×β×γ))(f:α->β->γ->Option ρ):Option ρ:=match o with|some (a,b,c)=>f a b c|none=>none
def VD(o:Option (α×β×γ×δ))(f:α->β->γ->δ->Option ρ):Option ρ:=match o with|some (a,b,c,d)=>f a b c d|none=>none
def Pe(o:Option (α×β×γ×δ×ε))(f:α->β->γ->δ->ε->Option ρ):Option ρ:=match o with|some (a,b,c,d,e)=>f a b c d e|none=>none
def gB(p:Bool)(o:Option ρ):Option ρ:=if p then o else none
def ej{κ:Type}(k:κ)(b:κ->Option ρ):Option ρ:=b k
@[simp] theorem dI(a:α)(f:α->Option ρ):dH (some a) f=f a:=rfl
@[simp] theorem dQ(a:α)(b:β)(f:α->β->Option ρ):dU (some (a,b)) f=f a b:=rfl
@[simp] theorem gz(a:α)(b:β)(c:γ)(f:α->β->γ->Option ρ):eZ (some (a,b,c)) f=f a b c:=rfl
@[simp] theorem uK(a:α)(b:β)(c:γ)(d:δ)(e:ε)(f:α->β->γ->δ->ε->Option ρ):Pe (some (a,b,c,d,e)) f=f a b c d e:=rfl
@[simp] theorem ec(o:Option ρ):gB true o=o:=rfl
@[simp] theorem eg{κ:Type}(k:κ)(b:κ->Option ρ):ej k b=b k:=rfl
def lE{o:Option α}{f:α->Option ρ}{r:ρ}(h:dH o f=some r):∃a,o=some a/\f a=some r:=by
 cases o with|none=>cases h|some a=>exact⟨a,rfl,h⟩
def C'{o:Option (α×β)}{f:α->β->Option ρ}{r:ρ}(h:dU o f=some r):∃a b,o=some (a,b)/\f a b=some r:=by
 cases o with|none=>cases h|some a=>exact⟨a.1,a.2,rfl,h⟩
def CS{o:Option (α×β×γ)}{f:α->β->γ->Option ρ}{r:ρ}(h:eZ o f=some r):∃a b c,o=some (a,b,c)/\f a b c=some r:=by
 cases o with|none=>cases h|some a=>exact⟨a.1,a.2.1,a.2.2,rfl,h⟩
def QO{o:Option (α×β×γ×δ)}{f:α->β->γ->δ->Option ρ}{r:ρ}(h:VD o f=some r):∃a b c d,o=some (a,b,c,d)/\f a b c d=some r:=by
 cases o with|none=>cases h|some a=>exact⟨a.1,a.2.1,a.2.2.1,a.2.2.2,rfl,h⟩
def Rl{o:Option (α×β×γ×δ×ε)}{f:α->β->γ->δ->ε->Option ρ}{r:ρ}(h:Pe o f=some r):∃a b c d e,o=some (a,b,c,d,e)/\f a b c d e=some r:=by
 cases o with|none=>cases h|some a=>exact⟨a.1,a.2.1,a.2.2.1,a.2.2.2.1,a.2.2.2.2,rfl,h⟩
def sk{p:Bool}{o:Option ρ}{r:ρ}(h:gB p o=some r):p=true/\o=some r:=by
 cases p with|false=>cases h|true=>exact⟨rfl,h⟩
def Ds{κ:Type}{k:κ}{b:κ->Option ρ}{r:ρ}(h:ej k b=some r):∃j,j=k/\b j=some r:=⟨k,rfl,h⟩
def Ex{c:Bool}{a b:Option ρ}{r:ρ}(h:(if c then a else b)=some r):c=true/\a=some r\/c=false/\b=some r:=by
 cases c with|false=>exact .inr ⟨rfl,h⟩|true=>exact .inl ⟨rfl,h⟩
inductive gm (σ ρ:Type) where
 |next (s:σ)|yd (s:σ)|ret (r:ρ)
def J3(k:σ->Option (σ⊕ρ)):gm σ ρ->Option (σ⊕ρ)
 |.next s=>k s|.yd s=>some (.inl s)|.ret r=>some (.inr r)
def fL(k:σ->Option τ)(r:ρ->Option τ):σ⊕ρ->Option τ
 |.inl s=>k s|.inr x=>r x
@[simp] theorem fh(k:σ->Option (σ⊕ρ))(s:σ):J3 k (.next s)=k s:=rfl
@[simp] theorem sj(k:σ->Option (σ⊕ρ))(s:σ):J3 k (.yd s)=some (.inl s):=rfl
@[simp] theorem OC(k:σ->Option (σ⊕ρ))(x:ρ):J3 k (.ret x)=some (.inr x):=rfl
@[simp] theorem eB(k:σ->Option τ)(r:ρ->Option τ)(s:σ):fL k r (.inl s)=k s:=rfl
@[simp] theorem sA(k:σ->Option τ)(r:ρ->Option τ)(x:ρ):fL k r (.inr x)=r x:=rfl
def fk(f:Int->α->σ->Option (gm σ ρ)):List α->Nat->σ->Option (σ⊕ρ)
 |[],_,s=>some (.inl s)|x::l,i,s=>dH (f (i:Int) x s) (J3 (fk f l (i+1)))
def js(f:σ->Option (gm σ ρ)):Nat->σ->Option (σ⊕ρ)
 |0,_=>none|n+1,s=>dH (f s) (J3 (js f n))
@[simp] theorem qL(f:Int->α->σ->Option (gm σ ρ))(i:Nat)(s:σ):fk f [] i s=some (.inl s):=rfl
@[simp] theorem gf(f:Int->α->σ->Option (gm σ ρ))(x:α)(l:List α)(i:Nat)(s:σ):fk f (x::l) i s=dH (f (i:Int) x s) (J3 (fk f l (i+1))):=rfl
def xm(f:α->β->τ)(p:α×β):τ:=f p.1 p.2
def PE(f:α->β->γ->τ)(p:α×β×γ):τ:=f p.1 p.2.1 p.2.2
def un4(f:α->β->γ->δ->τ)(p:α×β×γ×δ):τ:=f p.1 p.2.1 p.2.2.1 p.2.2.2
def un5(f:α->β->γ->δ->ε->τ)(p:α×β×γ×δ×ε):τ:=f p.1 p.2.1 p.2.2.1 p.2.2.2.1 p.2.2.2.2
def Ze(f:α->β->γ->δ->ε->ζ->τ)(p:α×β×γ×δ×ε×ζ):τ:=f p.1 p.2.1 p.2.2.1 p.2.2.2.1 p.2.2.2.2.1 p.2.2.2.2.2
@[simp] theorem kp(f:α->β->τ)(a:α)(b:β):xm f (a,b)=f a b:=rfl
@[simp] theorem xP(f:α->β->γ->τ)(a:α)(b:β)(c:γ):PE f (a,b,c)=f a b c:=rfl
@[simp] theorem zk(f:α->β->γ->δ->τ)(a:α)(b:β)(c:γ)(d:δ):un4 f (a,b,c,d)=f a b c d:=rfl
@[simp] theorem C6(f:α->β->γ->δ->ε->τ)(a:α)(b:β)(c:γ)(d:δ)(e:ε):un5 f (a,b,c,d,e)=f a b c d e:=rfl
@[simp] theorem AR(f:α->β->γ->δ->ε->ζ->τ)(a:α)(b:β)(c:γ)(d:δ)(e:ε)(g:ζ):Ze f (a,b,c,d,e,g)=f a b c d e g:=rfl
end
def un9{α β γ δ ε ζ η θ ι τ:Type}(f:α->β->γ->δ->ε->ζ->η->θ->ι->τ)(p:α×β×γ×δ×ε×ζ×η×θ×ι):τ:=f p.1 p.2.1 p.2.2.1 p.2.2.2.1 p.2.2.2.2.1 p.2.2.2.2.2.1 p.2.2.2.2.2.2.1 p.2.2.2.2.2.2.2.1 p.2.2.2.2.2.2.2.2
@[simp] theorem VE{α β γ δ ε ζ η θ ι τ:Type}(f:α->β->γ->δ->ε->ζ->η->θ->ι->τ)(a:α)(b:β)(c:γ)(d:δ)(e:ε)(g:ζ)(h:η)(i:θ)(j:ι):un9 f (a,b,c,d,e,g,h,i,j)=f a b c d e g h i j:=rfl
def Kb{α β γ δ ε ζ η θ ι κ μ τ:Type}(f:α->β->γ->δ->ε->ζ->η->θ->ι->κ->μ->τ)(p:α×β×γ×δ×ε×ζ×η×θ×ι×κ×μ):τ:=f p.1 p.2.1 p.2.2.1 p.2.2.2.1 p.2.2.2.2.1 p.2.2.2.2.2.1 p.2.2.2.2.2.2.1 p.2.2.2.2.2.2.2.1 p.2.2.2.2.2.2.2.2.1 p.2.2.2.2.2.2.2.2.2.1 p.2.2.2.2.2.2.2.2.2.2
@[simp] theorem vJ{α β γ δ ε ζ η θ ι κ μ τ:Type}(f:α->β->γ->δ->ε->ζ->η->θ->ι->κ->μ->τ)(a:α)(b:β)(c:γ)(d:δ)(e:ε)(g:ζ)(h:η)(i:θ)(j:ι)(k:κ)(l:μ):Kb f (a,b,c,d,e,g,h,i,j,k,l)=f a b c d e g h i j k l:=rfl
def XE{α β γ δ ε ζ η θ ι κ μ ν τ:Type}(f:α->β->γ->δ->ε->ζ->η->θ->ι->κ->μ->ν->τ)(p:α×β×γ×δ×ε×ζ×η×θ×ι×κ×μ×ν):τ:=f p.1 p.2.1 p.2.2.1 p.2.2.2.1 p.2.2.2.2.1 p.2.2.2.2.2.1 p.2.2.2.2.2.2.1 p.2.2.2.2.2.2.2.1 p.2.2.2.2.2.2.2.2.1 p.2.2.2.2.2.2.2.2.2.1 p.2.2.2.2.2.2.2.2.2.2.1 p.2.2.2.2.2.2.2.2.2.2.2
@[simp] theorem HF{α β γ δ ε ζ η θ ι κ μ ν τ:Type}(f:α->β->γ->δ->ε->ζ->η->θ->ι->κ->μ->ν->τ)(a:α)(b:β)(c:γ)(d:δ)(e:ε)(g:ζ)(h:η)(i:θ)(j:ι)(k:κ)(l:μ)(m:ν):XE f (a,b,c,d,e,g,h,i,j,k,l,m)=f a b c d e g h i j k l m:=rfl
section
variable{α σ ρ:Type}
def RM{l:List α}{i:Nat}(h:i<l.length):∃x,l.drop i=x::l.drop (i+1)/\dW l (i:Int)=some x:=
 ⟨l[i],Kd h,by unfold dW;rw[dR VW];simp[h]⟩
def WO{l:List α}{i:Nat}(h:i<l.length):o7 (i:Int) (eA l)=true:=by unfold o7 eA;simpa using h
def Zd{l:List α}{i:Nat}(h:l.length<=i):o7 (i:Int) (eA l)=false:=by unfold o7 eA;simpa using h
def OI{l:List α}(h:eV l=true):l.length<=Al:=by simpa[eV] using h
def NM{l m:List α}(h:fI l m=true):l.length+m.length<=Al:=by simpa[fI] using h
def O2{l:List α}{i:Nat}(h:i<l.length)(a:eV l=true):eS .i64 (i:Int) 1=((i+1:Nat):Int):=by
 have b:=OI a;unfold Al at b;unfold eS;rw[IntKind.wrap_i64];omega
def alf{l:List α}{i:Nat}{j:Int}(a:j=(i:Int))(h:i<l.length):∃x,l.drop i=x::l.drop (i+1)/\dW l j=some x:=by subst a;exact RM h
def aag{l:List α}{i:Nat}{j:Int}(a:j=(i:Int))(h:i<l.length):o7 j (eA l)=true:=by subst a;exact WO h
def U_{l:List α}{i:Nat}{j:Int}(a:j=(i:Int))(h:l.length<=i):o7 j (eA l)=false:=by subst a;exact Zd h
def Uj{l:List α}{i:Nat}{j:Int}(a:j=(i:Int))(h:i<l.length)(b:eV l=true):eS .i64 j 1=((i+1:Nat):Int):=by subst a;exact O2 h b
def hI(f:σ->Option (gm σ ρ))(n:Nat)(s:σ):js f (n+1) s=dH (f s) (J3 (js f n)):=rfl
@[simp] theorem LO:lJ true=false:=rfl
@[simp] theorem aec:lJ false=true:=rfl
def N'(l m:List α):(fR l m).length=l.length+m.length:=by unfold fR;simp
end
def yt{S R:Type}(o:Option R)(s:S):Option (R×S):=match o with|some r=>some (r,s)|none=>none
@[simp] theorem GZ{S R:Type}(r:R)(s:S):yt (some r) s=some (r,s):=rfl
def yT{S R:Type}{o:Option R}{s a:S}{r:R}(h:yt o s=some (r,a)):o=some r/\a=s:=by
 cases o with
 |none=>cases h
 |some x=>
  have:=kR h;exact⟨by rw[(iM this).1],((iM this).2).symm⟩
def FX{α:Type}(l:List α)(i:Int)(x:α):List α:=l.set i.toNat x
def I8{α:Type}(l:List α):Bool:=decide (0<l.length/\l.length<=Al)
def NV{α:Type}{l:List α}{i:Int}{x:α}(h:dW l i=some x):l[i.toNat]?=some x:=by
 unfold dW at h
 split at h
 ·exact h
 ·cases h
def P1{α:Type}{l:List α}{i:Int}{x:α}(h:dW l i=some x):0<=i/\i<(l.length:Int):=by
 unfold dW at h
 split at h
 ·rename_i a;have:=(sY.1 h).1;omega
 ·cases h
@[simp] theorem ach{α:Type}(l:List α)(i:Int)(x:α):(FX l i x).length=l.length:=by simp[FX]
end Go.fD
