/- Part of the proof of TranslateStable: models. -/
import Derived.Test.YtffcgfpaakhbjaaGreatDoorL16
set_option linter.all false
namespace Go.dG
open Go
inductive Ty where
 |mk (ad':Int) (aea:List Ty)
def Ty.ad':Ty->Int|.mk x _=>x
def Ty.aea:Ty->(List Ty)|.mk _ x=>x
@[simp] theorem Ty.cq(ad':Int)(aea:List Ty):(Ty.mk ad' aea).ad'=ad':=rfl
@[simp] theorem Ty.ck(ad':Int)(aea:List Ty):(Ty.mk ad' aea).aea=aea:=rfl
@[simp] theorem Ty.iG(x:Ty):Ty.mk x.ad' x.aea=x:=by cases x;rfl
instance:Inhabited Ty:=⟨.mk default default⟩
inductive Tm where
 |mk (ad':Int) (aec:Int) (b8:Ty) (aea:List Tm)
def Tm.ad':Tm->Int|.mk x _ _ _=>x
def Tm.aec:Tm->Int|.mk _ x _ _=>x
def Tm.b8:Tm->Ty|.mk _ _ x _=>x
def Tm.aea:Tm->(List Tm)|.mk _ _ _ x=>x
@[simp] theorem Tm.cq(ad' aec:Int)(b8:Ty)(aea:List Tm):(Tm.mk ad' aec b8 aea).ad'=ad':=rfl
@[simp] theorem Tm.dQ(ad' aec:Int)(b8:Ty)(aea:List Tm):(Tm.mk ad' aec b8 aea).aec=aec:=rfl
@[simp] theorem Tm.cQ(ad' aec:Int)(b8:Ty)(aea:List Tm):(Tm.mk ad' aec b8 aea).b8=b8:=rfl
@[simp] theorem Tm.ck(ad' aec:Int)(b8:Ty)(aea:List Tm):(Tm.mk ad' aec b8 aea).aea=aea:=rfl
@[simp] theorem Tm.iG(x:Tm):Tm.mk x.ad' x.aec x.b8 x.aea=x:=by cases x;rfl
instance:Inhabited Tm:=⟨.mk default default default default⟩
inductive Fm where
 |mk (ad':Int) (b8:Ty) (cx:List Tm) (aea:List Fm)
def Fm.ad':Fm->Int|.mk x _ _ _=>x
def Fm.b8:Fm->Ty|.mk _ x _ _=>x
def Fm.cx:Fm->(List Tm)|.mk _ _ x _=>x
def Fm.aea:Fm->(List Fm)|.mk _ _ _ x=>x
@[simp] theorem Fm.cq(ad':Int)(b8:Ty)(cx:List Tm)(aea:List Fm):(Fm.mk ad' b8 cx aea).ad'=ad':=rfl
@[simp] theorem Fm.cQ(ad':Int)(b8:Ty)(cx:List Tm)(aea:List Fm):(Fm.mk ad' b8 cx aea).b8=b8:=rfl
@[simp] theorem Fm.eY(ad':Int)(b8:Ty)(cx:List Tm)(aea:List Fm):(Fm.mk ad' b8 cx aea).cx=cx:=rfl
@[simp] theorem Fm.ck(ad':Int)(b8:Ty)(cx:List Tm)(aea:List Fm):(Fm.mk ad' b8 cx aea).aea=aea:=rfl
@[simp] theorem Fm.iG(x:Fm):Fm.mk x.ad' x.b8 x.cx x.aea=x:=by cases x;rfl
instance:Inhabited Fm:=⟨.mk default default default default⟩
inductive Pf where
 |mk (ad':Int) (aec:Int) (b8:Ty) (cx:List Tm) (dy:List Fm) (aea:List Pf)
def Pf.ad':Pf->Int|.mk x _ _ _ _ _=>x
def Pf.aec:Pf->Int|.mk _ x _ _ _ _=>x
def Pf.b8:Pf->Ty|.mk _ _ x _ _ _=>x
def Pf.cx:Pf->(List Tm)|.mk _ _ _ x _ _=>x
def Pf.dy:Pf->(List Fm)|.mk _ _ _ _ x _=>x
def Pf.aea:Pf->(List Pf)|.mk _ _ _ _ _ x=>x
@[simp] theorem Pf.cq(ad' aec:Int)(b8:Ty)(cx:List Tm)(dy:List Fm)(aea:List Pf):(Pf.mk ad' aec b8 cx dy aea).ad'=ad':=rfl
@[simp] theorem Pf.dQ(ad' aec:Int)(b8:Ty)(cx:List Tm)(dy:List Fm)(aea:List Pf):(Pf.mk ad' aec b8 cx dy aea).aec=aec:=rfl
@[simp] theorem Pf.cQ(ad' aec:Int)(b8:Ty)(cx:List Tm)(dy:List Fm)(aea:List Pf):(Pf.mk ad' aec b8 cx dy aea).b8=b8:=rfl
@[simp] theorem Pf.eY(ad' aec:Int)(b8:Ty)(cx:List Tm)(dy:List Fm)(aea:List Pf):(Pf.mk ad' aec b8 cx dy aea).cx=cx:=rfl
@[simp] theorem Pf.ET(ad' aec:Int)(b8:Ty)(cx:List Tm)(dy:List Fm)(aea:List Pf):(Pf.mk ad' aec b8 cx dy aea).dy=dy:=rfl
@[simp] theorem Pf.ck(ad' aec:Int)(b8:Ty)(cx:List Tm)(dy:List Fm)(aea:List Pf):(Pf.mk ad' aec b8 cx dy aea).aea=aea:=rfl
@[simp] theorem Pf.iG(x:Pf):Pf.mk x.ad' x.aec x.b8 x.cx x.dy x.aea=x:=by cases x;rfl
instance:Inhabited Pf:=⟨.mk default default default default default default⟩
structure Sq where
 aed:(List Ty)
 aeg:(List Fm)
@[simp] theorem Sq.iG(x:Sq):Sq.mk x.aed x.aeg=x:=rfl
instance:Inhabited Sq:=⟨.mk default default⟩
structure za where
 n:Int
@[simp] theorem za.iG(x:za):za.mk x.n=x:=rfl
instance:Inhabited za:=⟨.mk default⟩
structure s9 where
 cd:Fm
 eX:(List Int)
@[simp] theorem s9.iG(x:s9):s9.mk x.cd x.eX=x:=rfl
instance:Inhabited s9:=⟨.mk default default⟩
structure cH where
 l:(List Int)
 sE:Int
@[simp] theorem cH.iG(x:cH):cH.mk x.l x.sE=x:=rfl
instance:Inhabited cH:=⟨.mk default default⟩
structure sR where
 UD:Sq
 vars:(List Tm)
 aeg:(List Tm)
@[simp] theorem sR.iG(x:sR):sR.mk x.UD x.vars x.aeg=x:=rfl
instance:Inhabited sR:=⟨.mk default default default⟩
structure bZ where
 lemmas:(List Fm)
 aed:(List Ty)
 aeg:(List Fm)
@[simp] theorem bZ.iG(x:bZ):bZ.mk x.lemmas x.aed x.aeg=x:=rfl
instance:Inhabited bZ:=⟨.mk default default default⟩
structure qq where
 lemmas:(List Fm)
 cx:(List Tm)
 next:Int
@[simp] theorem qq.iG(x:qq):qq.mk x.lemmas x.cx x.next=x:=rfl
instance:Inhabited qq:=⟨.mk default default default⟩
structure cz where
 answers:(List Fm)
 room:Int
@[simp] theorem cz.iG(x:cz):cz.mk x.answers x.room=x:=rfl
instance:Inhabited cz:=⟨.mk default default⟩
structure b0 where
 cd:Fm
 eX:Int
@[simp] theorem b0.iG(x:b0):b0.mk x.cd x.eX=x:=rfl
instance:Inhabited b0:=⟨.mk default default⟩
structure fR where
 vars:Int
 aeg:Int
@[simp] theorem fR.iG(x:fR):fR.mk x.vars x.aeg=x:=rfl
instance:Inhabited fR:=⟨.mk default default⟩
structure cj where
 b8:Ty
 aeb:Int
@[simp] theorem cj.iG(x:cj):cj.mk x.b8 x.aeb=x:=rfl
instance:Inhabited cj:=⟨.mk default default⟩
structure c0 where
 cd:Fm
 vars:Int
@[simp] theorem c0.iG(x:c0):c0.mk x.cd x.vars=x:=rfl
instance:Inhabited c0:=⟨.mk default default⟩
structure cp where
 eT:fR
 aed:(List cj)
 known:(List c0)
@[simp] theorem cp.iG(x:cp):cp.mk x.eT x.aed x.known=x:=rfl
instance:Inhabited cp:=⟨.mk default default default⟩
structure cb where
 aeb:Int
 gb:Bool
@[simp] theorem cb.iG(x:cb):cb.mk x.aeb x.gb=x:=rfl
instance:Inhabited cb:=⟨.mk default default⟩
structure c9 where
 vars:Int
 aeg:Int
@[simp] theorem c9.iG(x:c9):c9.mk x.vars x.aeg=x:=rfl
instance:Inhabited c9:=⟨.mk default default⟩
structure cL where
 room:Int
@[simp] theorem cL.iG(x:cL):cL.mk x.room=x:=rfl
instance:Inhabited cL:=⟨.mk default⟩
structure db where
 cx:Int
 dy:Int
 aea:Int
 aec:Bool
 yn:Bool
@[simp] theorem db.iG(x:db):db.mk x.cx x.dy x.aea x.aec x.yn=x:=rfl
instance:Inhabited db:=⟨.mk default default default default default⟩
structure c_ where
 aec:Bool
 typed:Bool
 cx:Int
 dy:Int
 aea:Int
 r7:Int
 vars:Int
 aeg:Int
@[simp] theorem c_.iG(x:c_):c_.mk x.aec x.typed x.cx x.dy x.aea x.r7 x.vars x.aeg=x:=rfl
instance:Inhabited c_:=⟨.mk default default default default default default default default⟩
structure iN where
 ad':Int
 base:Tm
 vars:(List Ty)
 next:Tm
@[simp] theorem iN.iG(x:iN):iN.mk x.ad' x.base x.vars x.next=x:=rfl
instance:Inhabited iN:=⟨.mk default default default default⟩
structure gj where
 term:(Option Nat)
 steps:Int
@[simp] theorem gj.iG(x:gj):gj.mk x.term x.steps=x:=rfl
structure dC where
 ad':Int
 aec:Int
 yn:Ty
 aea:(List (Option Nat))
 size:Int
 free:Int
 normal:Bool
@[simp] theorem dC.iG(x:dC):dC.mk x.ad' x.aec x.yn x.aea x.size x.free x.normal=x:=rfl
inductive HC where
 |iI (x:gj)|dK (x:dC)
def HC.c7(l:List HC)(p:Nat):Option gj:=match l[p]?with|some (.iI x)=>some x|_=>none
def HC.kB{l:List HC}{p:Nat}{x:gj}(h:HC.c7 l p=some x):l[p]?=some (.iI x):=by
 unfold HC.c7 at h
 split at h
 ·rename_i e;rw[e];rw[fS h]
 ·cases h
def HC.b_(l:List HC)(p:Nat):Option dC:=match l[p]?with|some (.dK x)=>some x|_=>none
def HC.lN{l:List HC}{p:Nat}{x:dC}(h:HC.b_ l p=some x):l[p]?=some (.dK x):=by
 unfold HC.b_ at h
 split at h
 ·rename_i e;rw[e];rw[fS h]
 ·cases h
def nb(l:List HC)(p:Nat)(x:HC):List HC:=l.set p x
def lY:List c_:=[⟨false,false,0,0,0,0,0,0⟩,⟨true,false,0,0,0,0,0,0⟩,⟨true,false,0,0,0,0,0,0⟩,⟨false,false,0,0,2,0,0,0⟩,⟨false,false,0,0,1,0,0,0⟩,⟨false,false,0,0,1,0,0,0⟩,⟨false,false,0,1,1,0,0,1⟩,⟨false,false,0,0,2,0,0,0⟩,⟨false,true,0,0,1,0,1,0⟩,⟨false,false,1,0,1,0,0,0⟩,⟨false,false,1,1,1,0,0,0⟩,⟨false,false,0,0,2,0,1,1⟩,⟨false,true,0,0,1,0,1,0⟩,⟨false,false,1,0,1,0,0,0⟩,⟨false,false,1,1,1,0,0,0⟩,⟨false,false,0,0,2,0,1,1⟩,⟨false,false,1,1,2,1,1,1⟩,⟨false,false,1,1,2,1,2,1⟩,⟨false,false,1,0,0,0,0,0⟩,⟨false,false,0,1,2,1,0,0⟩,⟨false,false,0,0,1,0,0,0⟩]
def oM:List Int:=[0,0,1,2,0,1,3,0,2,3,2,1,1,0]
end Go.dG
set_option maxRecDepth 20000
namespace Go.dG
open Go
def gJ:Nat->Ty->Option Ty
 |0,_=>none|n+1,a0=>eB (cZ a0.aea)<|cB (λ(d:Int) (b:Ty)=>(λ(v40:List Ty)=>bU (gJ n b) λa=>eB (dZ v40 [a])<|some (.next (eA v40 [a]))):Int->Ty->(List Ty)->(Option (dP (List Ty) (Ty)))) λc=>bU (cY c a0.aea 0 []) (dR (λ(v40:List Ty)=>some (Ty.mk a0.ad' v40)) (λr=>some r))
def kf:Nat->Tm->Option Tm
 |0,_=>none|n+1,a0=>eB (cZ a0.aea)<|cB (λ(e:Int) (b:Tm)=>(λ(v40:List Tm)=>bU (kf n b) λa=>eB (dZ v40 [a])<|some (.next (eA v40 [a]))):Int->Tm->(List Tm)->(Option (dP (List Tm) (Tm)))) λc=>bU (cY c a0.aea 0 []) (dR (λ(v40:List Tm)=>bU (gJ FU a0.b8) λd=>some (Tm.mk a0.ad' a0.aec d v40)) (λr=>some r))
def dO(a0:Int)(a1:List Tm):Option Tm:=eB (cZ a1)<|cB (λ(d:Int) (b:Tm)=>(λ(v40:List Tm)=>bU (kf FU b) λa=>eB (dZ v40 [a])<|some (.next (eA v40 [a]))):Int->Tm->(List Tm)->(Option (dP (List Tm) (Tm)))) λc=>bU (cY c a1 0 []) (dR (λ(v40:List Tm)=>some (Tm.mk a0 0 (Ty.mk 0 []) v40)) (λr=>some r))
def o8(a0:Int):Option Tm:=bU (dO 4 []) λe=>cB ((QF λ(a:Int) (v30:Int) (v31:Int) (b:Int) (c:List Ty) (d:List Tm)=>if nG a 0 then some (.next ((dh .i64 a 1),5,0,0,[],[(Tm.mk v30 v31 (Ty.mk b c) d)]))else some (.H9 (a,v30,v31,b,c,d))):(Int×Int×Int×Int×(List Ty)×(List Tm))->(Option (dP (Int×Int×Int×Int×(List Ty)×(List Tm)) (Tm)))) λf=>bU (nY f FU (a0,e.ad',e.aec,e.b8.ad',e.b8.aea,e.aea)) (dR (QF λ(a:Int) (v30:Int) (v31:Int) (b:Int) (c:List Ty) (d:List Tm)=>some (Tm.mk v30 v31 (Ty.mk b c) d)) (λr=>some r))
def sP(a0:Int):Option (Tm×Int):=if sg a0 0 then some ((Tm.mk 0 0 (Ty.mk 0 []) []),1)else if qJ a0 4096 then some ((Tm.mk 0 0 (Ty.mk 0 []) []),4)else bU (o8 a0) λa=>some (a,0)
def vg(a0:Int):Option Tm:=b7 (sP a0) λa b=>some a
def o_(a0 a1:Tm):Option Fm:=bU (kf FU a0) λa=>bU (kf FU a1) λb=>some (Fm.mk 1 (Ty.mk 0 []) [a,b] [])
def kY:Nat->Ty->Option (Int×Bool)
 |0,_=>none|n+1,a0=>cB (λ(v10:Int)=>if cF (cI a0.aea) v10 then some (0,false)else eB (cZ a0.aea)<|cB (λ(g:Int) (c:Ty)=>(λ(a:Int)=>b7 (kY n c) λd e=>if e then some (.next (c8 .i64 a d))else some (.ret (0,false))):Int->Ty->(Int)->(Option (dP (Int) (Int×Bool)))) λf=>bU (cY f a0.aea 0 1) (dR (λ(a:Int)=>some (a,true)) (λr=>some r))) λb=>if df (cn a0.ad' 1) true (df (cn a0.ad' 2) true (cn a0.ad' 5))then b 0 else if df (cn a0.ad' 3) true (cn a0.ad' 4)then b 2 else some (0,false)
def gH(a0:Ty):Option (Int×Int):=b7 (kY FU a0) λa b=>if b then if nG a 64 then some (0,4)else some (a,0)else some (0,2)
def mC(a0:Ty):Option Bool:=some (df (cn a0.ad' 0) (cn (cI a0.aea) 0) false)
def p0(a0:Fm):Option Bool:=cB (λ(v10:Int) (v11:Int) (v12:Bool)=>cB (some (df (cn (cI a0.cx) v10) (cn (cI a0.aea) v11) false)) λb=>if v12 then b7 (gH a0.b8) λe c=>if cF c 0 then some false else b else bU (mC a0.b8) λd=>if d then b else some false) λa=>if cn a0.ad' 1 then a 2 0 false else if df (cn a0.ad' 2) true (cn a0.ad' 3)then a 0 2 false else if df (cn a0.ad' 4) true (df (cn a0.ad' 5) true (df (cn a0.ad' 6) true (cn a0.ad' 7)))then a 0 1 true else some false
def tT(a0:Int):Option (Int×Bool):=if df (sg a0 1) true (qJ a0 14)then some (0,false)else bU (cr oM a0) λa=>some (a,true)
def tU(a0:Int):Option Bool:=some (df (cn a0 2) true (df (cn a0 6) true (cn a0 9)))
def ij:Nat->Tm->Option (Int×Bool)
 |0,_=>none|n+1,a0=>b7 (tT a0.ad') λj k=>if df k (df (cF (cI a0.aea) j) true (df (sg a0.aec 0) true (df (cF a0.aec 0) (cF a0.ad' 1) false))) true then some (0,false)else cB (eB (cZ a0.aea)<|cB (λ(l:Int) (f:Tm)=>(λ(a:Int)=>b7 (ij n f) λb c=>if c then some (.next (c8 .i64 a b))else some (.ret (0,false))):Int->Tm->(Int)->(Option (dP (Int) (Int×Bool)))) λd=>bU (cY d a0.aea 0 1) (dR (λ(a:Int)=>some (a,true)) (λr=>some r))) λe=>bU (tU a0.ad') λg=>if g then b7 (gH a0.b8) λm h=>if cF h 0 then some (0,false)else e else bU (mC a0.b8) λi=>if i then e else some (0,false)
def hX:Nat->Fm->Option (Int×Bool)
 |0,_=>none|n+1,a0=>bU (p0 a0) λk=>if k then eB (cZ a0.cx)<|cB (λ(l:Int) (f:Tm)=>(λ(v72:Int)=>b7 (ij FU f) λg h=>if h then some (.next (c8 .i64 v72 g))else some (.ret (0,false))):Int->Tm->(Int)->(Option (dP (Int) (Int×Bool)))) λi=>bU (cY i a0.cx 0 1) (dR (λ(v72:Int)=>eB (cZ a0.aea)<|cB (λ(j:Int) (b:Fm)=>(λ(a:Int)=>b7 (hX n b) λc d=>if d then some (.next (c8 .i64 a c))else some (.ret (0,false))):Int->Fm->(Int)->(Option (dP (Int) (Int×Bool)))) λe=>bU (cY e a0.aea 0 v72) (dR (λ(a:Int)=>some (a,true)) (λr=>some r))) (λr=>some r))else some (0,false)
def ez(a0:Fm):Option (Int×Int):=b7 (hX FU a0) λa b=>if b then if nG a 4096 then some (0,4)else some (a,0)else some (0,2)
def e9(a0:Fm):Option Int:=b7 (ez a0) λb a=>some a
def j9:Nat->Fm->Option Bool
 |0,_=>none|n+1,a0=>if df (cn a0.ad' 6) true (cn a0.ad' 7)then some true else eB (cZ a0.aea)<|cB (λ(d:Int) (a:Fm)=>(λ(_:Unit)=>bU (j9 n a) λb=>if b then some (.ret true)else some (.next ())):Int->Fm->(Unit)->(Option (dP (Unit) (Bool)))) λc=>bU (cY c a0.aea 0 ()) (dR (λ(_:Unit)=>some false) (λr=>some r))
def jZ(a0:Int):Option Bool:=some (df (qJ a0 0) (DU a0 4096) false)
def kH(a0 a1:Int)(a:Bool):Option Bool:=if a then some (DU a0 536870912)else some false
def fU{S:Type}:Nat->Tm->Int->(S->Int->Int->Option S)->S->Option S
 |0,_,_,_,_=>none|n+1,a0,a1,a,b=>cB (λ(v6:S)=>eB (cZ a0.aea)<|cB (λ(g:Int) (c:Tm)=>(λ(v28:S)=>bU (fU n c (df (cn a0.ad' 2) (c8 .i64 a1 1) a1) a v28) λd=>some (.next d)):Int->Tm->(S)->(Option (dP (S) (S)))) λe=>bU (cY e a0.aea 0 v6) (dR (λ(v28:S)=>some v28) (λr=>some r))) λf=>if cn a0.ad' 1 then bU (a b a0.aec a1) λh=>f h else f b
def oI{S:Type}(a0:Tm)(a1:(S->Int->Int->Option S))(a:S):Option S:=bU (fU FU a0 0 a1 a) λs1=>some s1
def oC(a0:Tm):Option Bool:=bU (oI a0 (λ(s:Bool) (a:Int) (b:Int)=>kH a b s) true) λc=>some c
def gM(a0:Tm)(a1:Int)(a:Bool):Option Bool:=if a then bU (oC a0) λb=>some b else some false
def lr(a0:Int):Option Bool:=some (df (qJ a0 4) (DU a0 7) false)
def gU{S:Type}:Nat->Fm->Int->(S->Tm->Int->Option S)->S->Option S
 |0,_,_,_,_=>none|n+1,a0,a1,a2,c=>eB (cZ a0.cx)<|cB (λ(k:Int) (d:Tm)=>(λ(a:S)=>bU (a2 a d a1) λe=>some (.next e)):Int->Tm->(S)->(Option (dP (S) (S)))) λf=>bU (cY f a0.cx 0 c) (dR (λ(a:S)=>cB (λ(v51:Int)=>eB (cZ a0.aea)<|cB (λ(l:Int) (g:Fm)=>(λ(v72:S)=>bU (gU n g v51 a2 v72) λh=>some (.next h)):Int->Fm->(S)->(Option (dP (S) (S)))) λi=>bU (cY i a0.aea 0 a) (dR (λ(v72:S)=>some v72) (λr=>some r))) λb=>bU (lr a0.ad') λj=>if j then b (c8 .i64 a1 1)else b a1) (λr=>some r))
def kR(a0:Fm):Option Bool:=bU (gU FU a0 0 (λ(s:Bool) (a:Tm) (b:Int)=>gM a b s) true) λc=>some c
def fu(a0:Int):Option Tm:=some (Tm.mk 1 a0 (Ty.mk 0 []) [])
def r8(a0 a1 a b:Int):Option Tm:=bU (fu (df (qJ (dh .i64 a0 a1) a) (c8 .i64 a0 b) a0)) λc=>some c
def ik:Nat->Ty->Option Ty
 |0,_=>none|n+1,a0=>eB (cZ a0.aea)<|cB (λ(e:Int) (c:Ty)=>(λ(a:List Ty)=>bU (ik n c) λb=>eB (dZ a [b])<|some (.next (eA a [b]))):Int->Ty->(List Ty)->(Option (dP (List Ty) (Ty)))) λd=>bU (cY d a0.aea 0 []) (dR (λ(a:List Ty)=>some (Ty.mk a0.ad' a)) (λr=>some r))
def fl{S:Type}:Nat->Tm->Int->(S->Int->Int->Option (Tm×S))->S->Option (Tm×S)
 |0,_,_,_,_=>none|n+1,a0,a1,c,d=>if cn a0.ad' 1 then b7 (c d a0.aec a1) λg h=>some (g,h)else bU (ik FU a0.b8) λi=>eB (cZ a0.aea)<|cB (λ(k:Int) (j:Tm)=>(sa λ(a:List Tm) (v107:S)=>b7 (fl n j (df (cn a0.ad' 2) (c8 .i64 a1 1) a1) c v107) λb e=>eB (dZ a [b])<|some (.next ((eA a [b]),e))):Int->Tm->((List Tm)×S)->(Option (dP ((List Tm)×S) (Tm×S)))) λf=>bU (cY f a0.aea 0 ([],d)) (dR (sa λ(a:List Tm) (v107:S)=>some ((Tm.mk a0.ad' a0.aec i a),v107)) (λr=>some r))
def mY{S:Type}(a0:Tm)(a1:(S->Int->Int->Option (Tm×S)))(a:S):Option (Tm×S):=b7 (fl FU a0 0 a1 a) λb c=>some (b,c)
def oP(a0:Tm)(a1 a2:Int):Option Tm:=b7 (mY a0 (λ(s:Unit) (a:Int) (b:Int)=>nc (r8 a b a1 a2) s) ()) λc d=>some c
def kX(a0:Tm)(a1 a b:Int):Option Tm:=bU (oP a0 (c8 .i64 a a1) b) λc=>some c
def cN{S:Type}:Nat->Fm->Int->(S->Tm->Int->Option (Tm×S))->S->Option (Fm×S)
 |0,_,_,_,_=>none|n+1,a0,a1,a2,l=>bU (ik FU a0.b8) λq=>eB (cZ a0.cx)<|cB (λ(s:Int) (m:Tm)=>(sa λ(v91:List Tm) (e:S)=>b7 (a2 e m a1) λb f=>eB (dZ v91 [b])<|some (.next ((eA v91 [b]),f))):Int->Tm->((List Tm)×S)->(Option (dP ((List Tm)×S) (Fm×S)))) λo=>bU (cY o a0.cx 0 ([],l)) (dR (sa λ(v91:List Tm) (e:S)=>cB (λ(g:Int)=>eB (cZ a0.aea)<|cB (λ(p:Int) (h:Fm)=>(sa λ(a:List Fm) (v212:S)=>b7 (cN n h g a2 v212) λc i=>eB (dZ a [c])<|some (.next ((eA a [c]),i))):Int->Fm->((List Fm)×S)->(Option (dP ((List Fm)×S) (Fm×S)))) λj=>bU (cY j a0.aea 0 ([],e)) (dR (sa λ(a:List Fm) (v212:S)=>some ((Fm.mk a0.ad' q v91 a),v212)) (λr=>some r))) λd=>bU (lr a0.ad') λk=>if k then d (c8 .i64 a1 1)else d a1) (λr=>some r))
def da(a0:Fm)(a1 a2:Int):Option Fm:=b7 (cN FU a0 0 (λ(s:Unit) (a:Tm) (b:Int)=>nc (kX a b a1 a2) s) ()) λc d=>some c
def qt(a0:Fm)(a1 a2:Int):Option (Fm×Int):=bU (e9 a0) λg=>if cF g 0 then some ((Fm.mk 0 (Ty.mk 0 []) [] []),g)else cB (λ(b:Bool)=>if b then some ((Fm.mk 0 (Ty.mk 0 []) [] []),1)else bU (da a0 a1 a2) λc=>some (c,0)) λa=>bU (jZ a1) λd=>if d then bU (jZ a2) λe=>if e then bU (kR a0) λf=>a (nT f)else a true else a true
def gh:Nat->Fm->Int->Option Int
 |0,_,_=>none|n+1,a0,a1=>b7 (ez a0) λg i=>if cn a0.ad' 1 then some (c8 .i64 (c8 .i64 g 2) (zL .i64 2 a1))else if cn a0.ad' 5 then bU (cr a0.aea 0) λb=>bU (gh n b a1) λc=>some (c8 .i64 (c8 .i64 c 3) (zL .i64 2 a1))else eB (cZ a0.aea)<|cB (λ(h:Int) (d:Fm)=>(λ(a:Int)=>bU (gh n d a1) λe=>some (.next (c8 .i64 a e))):Int->Fm->(Int)->(Option (dP (Int) (Int)))) λf=>bU (cY f a0.aea 0 1) (dR (λ(a:Int)=>some a) (λr=>some r))
def jY(a0 a1:Fm):Option Int:=bU (e9 a0) λf=>if cF f 0 then some f else bU (e9 a1) λa=>if cF a 0 then some a else bU (j9 FU a1) λc=>if c then some 10 else b7 (qt a0 0 1) λg b=>if cF b 0 then some b else b7 (ez a0) λd h=>bU (gh FU a1 d) λe=>if nG e 4096 then some 4 else some 0
def rv(a0:Int)(a1:List Fm):Option Fm:=some (Fm.mk a0 (Ty.mk 0 []) [] a1)
def dJ(a0 a1:Fm):Option Fm:=bU (rv 3 [a0,a1]) λa=>some a
def tf:Nat->Tm->Option Tm
 |0,_=>none|n+1,a0=>bU (ik FU a0.b8) λd=>eB (cZ a0.aea)<|cB (λ(e:Int) (b:Tm)=>(λ(v72:List Tm)=>bU (tf n b) λa=>eB (dZ v72 [a])<|some (.next (eA v72 [a]))):Int->Tm->(List Tm)->(Option (dP (List Tm) (Tm)))) λc=>bU (cY c a0.aea 0 []) (dR (λ(v72:List Tm)=>some (Tm.mk a0.ad' a0.aec d v72)) (λr=>some r))
def iS(a0:Tm)(a1:Int):Option Tm:=bU (tf FU a0) λa=>some a
def iq(a0:Fm):Option Fm:=b7 (cN FU a0 0 (λ(s:Unit) (a:Tm) (b:Int)=>nc (iS a b) s) ()) λc d=>some c
def fx(a0:Int)(a1:Ty)(a2:Fm):Option Fm:=some (Fm.mk a0 a1 [] [a2])
def lj:Nat->Fm->Option Fm
 |0,a=>some a|k+1,a=>bU (lj k a) λx=>da x 0 1
def ep:Nat->Fm->Fm->Nat->Option Fm
 |0,_,_,_=>none|n+1,a,f,k=>if cn f.ad' 1 then bU (lj k a) λx=>bU (dJ f x) λy=>bU (dJ y x) λz=>some z else if df (cn f.ad' 2) true (cn f.ad' 3)then bU (cr f.aea 0) λx=>bU (ep n a x k) λy=>bU (cr f.aea 1) λu=>bU (ep n a u k) λv=>bU (rv f.ad' [y,v]) λz=>some z else if cn f.ad' 4 then bU (cr f.aea 0) λx=>bU (ep n a x (k+1)) λy=>bU (fx 4 f.b8 y) λz=>some z else bU (cr f.aea 0) λx=>bU (ep n a x (k+1)) λy=>bU (lj (k+1) a) λu=>bU (dJ y u) λv=>bU (fx 4 f.b8 v) λw=>bU (lj k a) λq=>bU (dJ w q) λz=>some z
def iV(a0 a1:Fm):Option (Fm×Int):=bU (jY a0 a1) λe=>if cF e 0 then some ((Fm.mk 0 (Ty.mk 0 []) [] []),e)else bU (ep FU a0 a1 0) λx=>bU (iq x) λy=>some (y,0)
def kj:Nat->Fm->Option Fm
 |0,_=>none|n+1,a0=>bU (gJ FU a0.b8) λi=>eB (cZ a0.cx)<|cB (λ(j:Int) (f:Tm)=>(λ(v72:List Tm)=>bU (kf FU f) λc=>eB (dZ v72 [c])<|some (.next (eA v72 [c]))):Int->Tm->(List Tm)->(Option (dP (List Tm) (Fm)))) λg=>bU (cY g a0.cx 0 []) (dR (λ(v72:List Tm)=>eB (cZ a0.aea)<|cB (λ(h:Int) (d:Fm)=>(λ(a:List Fm)=>bU (kj n d) λb=>eB (dZ a [b])<|some (.next (eA a [b]))):Int->Fm->(List Fm)->(Option (dP (List Fm) (Fm)))) λe=>bU (cY e a0.aea 0 []) (dR (λ(a:List Fm)=>some (Fm.mk a0.ad' i v72 a)) (λr=>some r))) (λr=>some r))
def fZ(a0:Int)(a1 a2:Fm):Option Fm:=bU (kj FU a1) λa=>bU (kj FU a2) λb=>some (Fm.mk a0 (Ty.mk 0 []) [] [a,b])
def du:Nat->Ty->Ty->Option Bool
 |0,_,_=>none|n+1,a0,a1=>if df (cF a0.ad' a1.ad') true (cF (cI a0.aea) (cI a1.aea))then some false else eB (cZ a0.aea)<|cB (λ(c:Int) (d:Ty)=>(λ(_:Unit)=>bU (cr a1.aea c) λa=>bU (du n d a) λb=>if b then some (.next ())else some (.ret false)):Int->Ty->(Unit)->(Option (dP (Unit) (Bool)))) λe=>bU (cY e a0.aea 0 ()) (dR (λ(_:Unit)=>some true) (λr=>some r))
def iY:Nat->Tm->Tm->Option Bool
 |0,_,_=>none|n+1,a0,a1=>cB (λ(d:Bool)=>if d then some false else eB (cZ a0.aea)<|cB (λ(e:Int) (f:Tm)=>(λ(_:Unit)=>bU (cr a1.aea e) λb=>bU (iY n f b) λc=>if c then some (.next ())else some (.ret false)):Int->Tm->(Unit)->(Option (dP (Unit) (Bool)))) λg=>bU (cY g a0.aea 0 ()) (dR (λ(_:Unit)=>some true) (λr=>some r))) λa=>if cF a0.ad' a1.ad' then a true else if cF a0.aec a1.aec then a true else bU (du FU a0.b8 a1.b8) λh=>if h then a (cF (cI a0.aea) (cI a1.aea))else a true
def px(a0 a1:List Tm):Option Bool:=if cF (cI a0) (cI a1)then some false else eB (cZ a0)<|cB (λ(c:Int) (d:Tm)=>(λ(_:Unit)=>bU (cr a1 c) λa=>bU (iY FU d a) λb=>if b then some (.next ())else some (.ret false)):Int->Tm->(Unit)->(Option (dP (Unit) (Bool)))) λe=>bU (cY e a0 0 ()) (dR (λ(_:Unit)=>some true) (λr=>some r))
def n8:Nat->Fm->Fm->Option Bool
 |0,_,_=>none|n+1,a0,a1=>cB (λ(v21:Bool)=>if v21 then some false else eB (cZ a0.aea)<|cB (λ(e:Int) (f:Fm)=>(λ(_:Unit)=>bU (cr a1.aea e) λb=>bU (n8 n f b) λc=>if c then some (.next ())else some (.ret false)):Int->Fm->(Unit)->(Option (dP (Unit) (Bool)))) λd=>bU (cY d a0.aea 0 ()) (dR (λ(_:Unit)=>some true) (λr=>some r))) λa=>if cF a0.ad' a1.ad' then a true else bU (du FU a0.b8 a1.b8) λg=>if g then bU (px a0.cx a1.cx) λh=>if h then a (cF (cI a0.aea) (cI a1.aea))else a true else a true
def tY:Option Bool:=bU (vg 0) λd=>bU (vg 0) λe=>bU (o_ d e) λb=>bU (vg 1) λf=>bU (vg 2) λg=>bU (o_ f g) λa=>b7 (iV a b) λh i=>cB (λ(v46:Bool)=>some v46) λc=>if cn i 0 then bU (fZ 3 b a) λj=>bU (fZ 3 j a) λk=>bU (n8 FU h k) λl=>c l else c false
def Fy(a0:List Int):Option Bool:=some (DU (cI a0) 500)
def MI(l:List Int):Option cH:=some ⟨l,0⟩
def F8(a0 a1:Int):Option Int:=eB (IE a1)<|eB (IE a1)<|some (Ra .i64 (c8 .i64 (Ra .i64 a0 a1) a1) a1)
def gz(a0:cH)(a1:Int):Option (Int×cH):=if df (sg a1 1) true (qJ a0.sE (cI a0.l))then some (0,a0)else bU (cr a0.l a0.sE) λa=>bU (F8 a a1) λb=>some (b,(cH.mk a0.l (c8 .i64 a0.sE 1)))
def h7:Option Ty:=some (Ty.mk 1 [])
def lW:Option Ty:=some (Ty.mk 2 [])
def tA:Option Ty:=some (Ty.mk 5 [])
def ta(a0 a1:Ty):Option Ty:=bU (gJ FU a0) λa=>bU (gJ FU a1) λb=>some (Ty.mk 3 [a,b])
def jv(a0 a1:Ty):Option Ty:=bU (gJ FU a0) λa=>bU (gJ FU a1) λb=>some (Ty.mk 4 [a,b])
def jM:Nat->cH->Int->Option (Ty×cH)
 |0,_,_=>none|n+1,a0,a1=>cB (λ(g:cH)=>bU (h7) λc=>some (c,g)) λb=>b7 (gz a0 7) λa d63=>if df (cn a 0) true (df (cn a 1) true (cn a 2))then bU (h7) λh=>some (h,d63)else if cn a 3 then bU (lW) λi=>some (i,d63)else if cn a 4 then bU (tA) λj=>some (j,d63)else if cn a 5 then if nG a1 0 then b7 (jM n d63 (dh .i64 a1 1)) λk d89=>b7 (jM n d89 (dh .i64 a1 1)) λl d92=>bU (ta k l) λm=>some (m,d92)else b d63 else if cn a 6 then if nG a1 0 then b7 (jM n d63 (dh .i64 a1 1)) λd d105=>b7 (jM n d105 (dh .i64 a1 1)) λe d108=>bU (jv d e) λf=>some (f,d108)else b d63 else b d63
def tk(a0:cH):Option ((List Ty)×cH):=b7 (gz a0 4) λe d36=>cB ((TS λ(a:List Ty) (b:Int) (c:cH)=>if nG b 0 then b7 (jM FU c 1) λd d75=>eB (dZ a [d])<|some (.next ((eA a [d]),(dh .i64 b 1),d75))else some (.H9 (a,b,c))):((List Ty)×Int×cH)->(Option (dP ((List Ty)×Int×cH) ((List Ty)×cH)))) λf=>bU (nY f FU ([],e,d36)) (dR (TS λ(a:List Ty) (b:Int) (c:cH)=>some (a,c)) (λr=>some r))
def A9(a0:List Ty)(a1:Ty):Option (List Int):=eB (cZ a0)<|cB (λ(b:Int) (g:Ty)=>(λ(a:List Int)=>cB (λ(c:List Int)=>some (.next c)) λj201=>bU (cr a0 (dh .i64 (dh .i64 (cI a0) 1) b)) λd=>bU (du FU d a1) λe=>if e then eB (dZ a [b])<|j201 (eA a [b])else j201 a):Int->Ty->(List Int)->(Option (dP (List Int) (List Int)))) λf=>bU (cY f a0 0 []) (dR (λ(a:List Int)=>some a) (λr=>some r))
def fa(a0:Int):Option Tm:=some (Tm.mk 1 a0 (Ty.mk 0 []) [])
def ml(a0 a1:List Ty):Option (List Ty):=eB (dZ [] a0)<|eB (dZ (eA [] a0) a1)<|some (eA (eA [] a0) a1)
def kv(a0:Int)(a1:Ty)(a2:List Tm):Option Tm:=bU (dO a0 a2) λa=>bU (gJ FU a1) λb=>some (Tm.mk a.ad' a.aec b a.aea)
def jA(a0:Tm):Option Tm:=bU (h7) λa=>bU (kv 2 a [a0]) λb=>some b
def rB(a0 a1 a2:Tm):Option Tm:=bU (h7) λa=>bU (kv 6 a [a0,a1,a2]) λb=>some b
def tR:Option Tm:=bU (fa 1) λa=>bU (fa 0) λb=>bU (dO 5 [b]) λc=>bU (jA c) λd=>bU (jA d) λe=>bU (fa 0) λf=>bU (rB a e f) λg=>bU (jA g) λh=>bU (jA h) λi=>some i
def C'(a0:Tm)(a1:List Tm):Option Tm:=eB (cZ a1)<|cB (λ(h:Int) (f:Tm)=>(un5 λ(b:Int) (c:Int) (v46:Int) (d:List Ty) (e:List Tm)=>bU (dO 3 [(Tm.mk b c (Ty.mk v46 d) e),f]) λa=>some (.next (a.ad',a.aec,a.b8.ad',a.b8.aea,a.aea))):Int->Tm->(Int×Int×Int×(List Ty)×(List Tm))->(Option (dP (Int×Int×Int×(List Ty)×(List Tm)) (Tm)))) λg=>bU (cY g a1 0 (a0.ad',a0.aec,a0.b8.ad',a0.b8.aea,a0.aea)) (dR (un5 λ(b:Int) (c:Int) (v46:Int) (d:List Ty) (e:List Tm)=>some (Tm.mk b c (Ty.mk v46 d) e)) (λr=>some r))
def tw:Option Tm:=bU (dO 4 []) λa=>bU (fa 1) λb=>bU (jA b) λc=>bU (jA c) λd=>bU (fa 0) λe=>bU (rB a d e) λf=>bU (jA f) λg=>some g
def vA:Option Tm:=bU (fa 1) λa=>bU (tw) λb=>bU (fa 0) λc=>bU (dO 3 [b,c]) λd=>bU (jA d) λe=>bU (jA e) λf=>bU (fa 0) λg=>bU (rB a f g) λh=>bU (jA h) λi=>bU (jA i) λj=>some j
def fH:Nat->cH->(List Ty)->Ty->Int->Option (Tm×cH)
 |0,_,_,_,_=>none|n+1,a0,a1,a2,a3=>bU (A9 a1 a2) λx3=>cB (λ(v37:Bool) (p:cH)=>if v37 then b7 (gz p (cI x3)) λbC d51=>bU (cr x3 bC) λbD=>bU (fa bD) λbE=>some (bE,d51)else cB (λ(b:cH)=>if cn a2.ad' 1 then cB (λ(q:cH)=>b7 (gz q 3) λs t=>bU (vg s) λu=>some (u,t)) λg=>if nG a3 0 then b7 (gz b 5) λe d=>if cn e 0 then b7 (fH n d a1 a2 (dh .i64 a3 1)) λv w=>bU (dO 5 [v]) λx=>some (x,w)else if cn e 1 then bU (tR) λy=>b7 (fH n d a1 a2 (dh .i64 a3 1)) λz A=>b7 (fH n A a1 a2 (dh .i64 a3 1)) λB C=>bU (C' y [z,B]) λD=>some (D,C)else if cn e 2 then bU (vA) λE=>b7 (fH n d a1 a2 (dh .i64 a3 1)) λF G=>b7 (fH n G a1 a2 (dh .i64 a3 1)) λH I=>bU (C' E [F,H]) λJ=>some (J,I)else g d else g b else if cn a2.ad' 2 then cB (λ(K:Bool) (h:cH)=>if K then bU (h7) λL=>b7 (fH n h a1 L (dh .i64 a3 1)) λM N=>b7 (fH n N a1 a2 (dh .i64 a3 1)) λO P=>bU (dO 8 [M,O]) λQ=>some (Q,P)else bU (dO 7 []) λR=>some (R,h)) λi=>if nG a3 0 then b7 (gz b 2) λS T=>i (cn S 0) T else i false b else if cn a2.ad' 3 then bU (cr a2.aea 0) λU=>b7 (fH n b a1 U (dh .i64 a3 1)) λV W=>bU (cr a2.aea 1) λX=>b7 (fH n W a1 X (dh .i64 a3 1)) λY Z=>bU (dO 10 [V,Y]) λaa=>some (aa,Z)else if cn a2.ad' 4 then bU (cr a2.aea 0) λj=>bU (ml a1 [j]) λab=>bU (cr a2.aea 1) λad=>b7 (fH n b ab ad (dh .i64 a3 1)) λae af=>bU (kv 2 j [ae]) λah=>some (ah,af)else bU (dO 13 []) λai=>some (ai,b)) λk=>if nG a3 0 then b7 (gz p 8) λc a=>if cn c 0 then b7 (jM FU a 0) λl aA=>bU (ml a1 [l]) λaB=>b7 (fH n aA aB a2 (dh .i64 a3 1)) λaC aD=>bU (kv 2 l [aC]) λaE=>b7 (fH n aD a1 l (dh .i64 a3 1)) λaF aG=>bU (dO 3 [aE,aF]) λaH=>some (aH,aG)else if cn c 1 then b7 (jM FU a 0) λaI aJ=>b7 (fH n aJ a1 a2 (dh .i64 a3 1)) λaK aL=>b7 (fH n aL a1 aI (dh .i64 a3 1)) λaM aN=>bU (dO 10 [aK,aM]) λaO=>bU (dO 11 [aO]) λaP=>some (aP,aN)else if cn c 2 then bU (h7) λaQ=>bU (h7) λaR=>bU (ml a1 [aR,a2]) λaS=>b7 (fH n a aS a2 (dh .i64 a3 1)) λaT aU=>bU (kv 2 a2 [aT]) λaV=>bU (kv 2 aQ [aV]) λaW=>b7 (fH n aU a1 a2 (dh .i64 a3 1)) λaX aY=>b7 (gz aY 3) λaZ a6=>bU (vg aZ) λa7=>bU (kv 6 a2 [aX,aW,a7]) λa8=>some (a8,a6)else if cn c 3 then bU (h7) λa_=>bU (lW) λa'=>bU (h7) λba=>bU (lW) λbb=>bU (ml a1 [ba,bb,a2]) λbc=>b7 (fH n a bc a2 (dh .i64 a3 1)) λbd bf=>bU (kv 2 a2 [bd]) λbg=>bU (kv 2 a' [bg]) λbh=>bU (kv 2 a_ [bh]) λbj=>b7 (fH n bf a1 a2 (dh .i64 a3 1)) λbk bl=>bU (lW) λbm=>b7 (fH n bl a1 bm (dh .i64 a3 1)) λbn bo=>bU (kv 9 a2 [bk,bj,bn]) λbp=>some (bp,bo)else if cn c 4 then b7 (jM FU a 0) λbq br=>b7 (fH n br a1 bq (dh .i64 a3 1)) λbs bt=>b7 (fH n bt a1 a2 (dh .i64 a3 1)) λbu bw=>bU (dO 10 [bs,bu]) λbz=>bU (dO 12 [bz]) λbA=>some (bA,bw)else if cn c 5 then eB (cZ a1)<|cB (λ(o:Int) (bG:Ty)=>(λ(_:Unit)=>bU (cr a1 (dh .i64 (dh .i64 (cI a1) 1) o)) λf=>cB (λ(ak:Bool)=>if ak then bU (fa o) λan=>bU (cr f.aea 0) λao=>b7 (fH n a a1 ao (dh .i64 a3 1)) λaq ar=>bU (dO 3 [an,aq]) λaw=>some (.ret (aw,ar))else some (.next ())) λm=>if cn f.ad' 4 then bU (cr f.aea 1) λax=>bU (du FU ax a2) λay=>m ay else m false):Int->Ty->(Unit)->(Option (dP (Unit) (Tm×cH)))) λaz=>bU (cY az a1 0 ()) (dR (λ(_:Unit)=>k a) (λr=>some r))else k a else k p) λbB=>if nG (cI x3) 0 then b7 (gz a0 3) λbF d41=>bB (nG bF 0) d41 else bB false a0
def iW(a0:Int)(a1:Ty)(a2:Fm):Option Fm:=bU (gJ FU a1) λa=>bU (kj FU a2) λb=>some (Fm.mk a0 a [] [b])
def oq(a0:Ty):Option Bool:=some (df (cn a0.ad' 0) (cn (cI a0.aea) 0) false)
def tv(a0:Int):Option Int:=if df (cn a0 1) true (df (cn a0 4) true (df (cn a0 7) true (cn a0 13)))then some 0 else if df (cn a0 2) true (df (cn a0 5) true (df (cn a0 11) true (cn a0 12)))then some 1 else if df (cn a0 3) true (df (cn a0 8) true (cn a0 10))then some 2 else if df (cn a0 6) true (cn a0 9)then some 3 else some (-1)
def oa:Nat->Ty->Option Bool
 |0,_=>none|n+1,a0=>cB (λ(v10:Int)=>if cF (cI a0.aea) v10 then some false else eB (cZ a0.aea)<|cB (λ(e:Int) (b:Ty)=>(λ(_:Unit)=>bU (oa n b) λc=>if c then some (.next ())else some (.ret false)):Int->Ty->(Unit)->(Option (dP (Unit) (Bool)))) λd=>bU (cY d a0.aea 0 ()) (dR (λ(_:Unit)=>some true) (λr=>some r))) λa=>if df (cn a0.ad' 1) true (df (cn a0.ad' 2) true (cn a0.ad' 5))then a 0 else if df (cn a0.ad' 3) true (cn a0.ad' 4)then a 2 else some false
def pL:Nat->Ty->Option Int
 |0,_=>none|n+1,a0=>eB (cZ a0.aea)<|cB (λ(e:Int) (b:Ty)=>(λ(a:Int)=>bU (pL n b) λc=>some (.next (c8 .i64 a c))):Int->Ty->(Int)->(Option (dP (Int) (Int)))) λd=>bU (cY d a0.aea 0 1) (dR (λ(a:Int)=>some a) (λr=>some r))
def gO(a0:Ty):Option Int:=bU (oa FU a0) λb=>if b then bU (pL FU a0) λa=>if nG a 64 then some 4 else some 0 else some 2
def je:Nat->Tm->Option Bool
 |0,_=>none|n+1,a0=>cB (λ(v21:Bool)=>if v21 then some false else cB (eB (cZ a0.aea)<|cB (λ(i:Int) (c:Tm)=>(λ(_:Unit)=>bU (je n c) λd=>if d then some (.next ())else some (.ret false)):Int->Tm->(Unit)->(Option (dP (Unit) (Bool)))) λe=>bU (cY e a0.aea 0 ()) (dR (λ(_:Unit)=>some true) (λr=>some r))) λb=>if df (cn a0.ad' 2) true (df (cn a0.ad' 6) true (cn a0.ad' 9))then bU (gO a0.b8) λf=>if cF f 0 then some false else b else bU (oq a0.b8) λg=>if g then b else some false) λa=>bU (tv a0.ad') λh=>if cF (cI a0.aea) h then a true else if sg a0.aec 0 then a true else if cF a0.ad' 1 then a (cF a0.aec 0)else a false
def jx(a0:Int):Option Bool:=some (df (cn a0 4) true (df (cn a0 5) true (df (cn a0 6) true (cn a0 7))))
def kE:Nat->Fm->Option Bool
 |0,_=>none|n+1,a0=>if cn a0.ad' 1 then cB (λ(o:Bool)=>some o) λc=>if cn (cI a0.aea) 0 then bU (oq a0.b8) λp=>if p then if cn (cI a0.cx) 2 then bU (cr a0.cx 0) λq=>bU (je FU q) λr=>if r then bU (cr a0.cx 1) λs=>bU (je FU s) λt=>c t else c false else c false else c false else c false else if df (cn a0.ad' 2) true (cn a0.ad' 3)then cB (λ(d:Bool)=>some d) λa=>if cn (cI a0.cx) 0 then bU (oq a0.b8) λe=>if e then if cn (cI a0.aea) 2 then bU (cr a0.aea 0) λf=>bU (kE n f) λg=>if g then bU (cr a0.aea 1) λh=>bU (kE n h) λi=>a i else a false else a false else a false else a false else bU (jx a0.ad') λj=>if j then cB (λ(v141:Bool)=>some v141) λb=>if cn (cI a0.cx) 0 then bU (gO a0.b8) λk=>if cn k 0 then if cn (cI a0.aea) 1 then bU (cr a0.aea 0) λl=>bU (kE n l) λm=>b m else b false else b false else b false else some false
def dM:Nat->Tm->Option Int
 |0,_=>none|n+1,a0=>eB (cZ a0.aea)<|cB (λ(e:Int) (b:Tm)=>(λ(a:Int)=>bU (dM n b) λc=>some (.next (c8 .i64 a c))):Int->Tm->(Int)->(Option (dP (Int) (Int)))) λd=>bU (cY d a0.aea 0 1) (dR (λ(a:Int)=>some a) (λr=>some r))
def jf:Nat->Fm->Option Int
 |0,_=>none|n+1,a0=>eB (cZ a0.cx)<|cB (λ(h:Int) (b:Tm)=>(λ(a:Int)=>bU (dM FU b) λc=>some (.next (c8 .i64 a c))):Int->Tm->(Int)->(Option (dP (Int) (Int)))) λd=>bU (cY d a0.cx 0 1) (dR (λ(a:Int)=>eB (cZ a0.aea)<|cB (λ(i:Int) (e:Fm)=>(λ(v75:Int)=>bU (jf n e) λf=>some (.next (c8 .i64 v75 f))):Int->Fm->(Int)->(Option (dP (Int) (Int)))) λg=>bU (cY g a0.aea 0 a) (dR (λ(v75:Int)=>some v75) (λr=>some r))) (λr=>some r))
def iA(a0:Fm):Option Int:=bU (kE FU a0) λb=>if b then bU (jf FU a0) λa=>if nG a 4096 then some 4 else some 0 else some 2
def jD:Nat->Fm->Option Bool
 |0,_=>none|n+1,a0=>if df (cn a0.ad' 6) true (cn a0.ad' 7)then some true else eB (cZ a0.aea)<|cB (λ(d:Int) (a:Fm)=>(λ(_:Unit)=>bU (jD n a) λb=>if b then some (.ret true)else some (.next ())):Int->Fm->(Unit)->(Option (dP (Unit) (Bool)))) λc=>bU (cY c a0.aea 0 ()) (dR (λ(_:Unit)=>some false) (λr=>some r))
def jX:Nat->Tm->Int->Option Bool
 |0,_,_=>none|n+1,a0,a1=>if nG a0.aec a1 then some false else eB (cZ a0.aea)<|cB (λ(d:Int) (a:Tm)=>(λ(_:Unit)=>bU (jX n a a1) λb=>if b then some (.next ())else some (.ret false)):Int->Tm->(Unit)->(Option (dP (Unit) (Bool)))) λc=>bU (cY c a0.aea 0 ()) (dR (λ(_:Unit)=>some true) (λr=>some r))
def mK:Nat->Fm->Int->Option Bool
 |0,_,_=>none|n+1,a0,a1=>eB (cZ a0.cx)<|cB (λ(g:Int) (a:Tm)=>(λ(_:Unit)=>bU (jX FU a a1) λb=>if b then some (.next ())else some (.ret false)):Int->Tm->(Unit)->(Option (dP (Unit) (Bool)))) λc=>bU (cY c a0.cx 0 ()) (dR (λ(_:Unit)=>eB (cZ a0.aea)<|cB (λ(h:Int) (d:Fm)=>(λ(_:Unit)=>bU (mK n d a1) λe=>if e then some (.next ())else some (.ret false)):Int->Fm->(Unit)->(Option (dP (Unit) (Bool)))) λf=>bU (cY f a0.aea 0 ()) (dR (λ(_:Unit)=>some true) (λr=>some r))) (λr=>some r))
def kG:Nat->Fm->Int->Option Int
 |0,_,_=>none|n+1,a0,a1=>cB (λ(b:Int)=>some (Pe b 4097)) λa=>if cn a0.ad' 1 then bU (jf FU a0) λc=>a (c8 .i64 (c8 .i64 c (zL .i64 2 a1)) 2)else if cn a0.ad' 5 then bU (cr a0.aea 0) λd=>bU (kG n d a1) λe=>a (c8 .i64 (c8 .i64 e (zL .i64 2 a1)) 3)else eB (cZ a0.aea)<|cB (λ(i:Int) (f:Fm)=>(λ(v49:Int)=>bU (kG n f a1) λg=>some (.next (c8 .i64 v49 g))):Int->Fm->(Int)->(Option (dP (Int) (Int)))) λh=>bU (cY h a0.aea 0 1) (dR (λ(v49:Int)=>a v49) (λr=>some r))
def pk(a0 a1:Fm):Option Int:=bU (iA a0) λf=>if cF f 0 then some f else bU (iA a1) λa=>if cF a 0 then some a else bU (jD FU a1) λb=>if b then some 10 else bU (mK FU a0 536870912) λc=>if c then bU (jf FU a0) λd=>bU (kG FU a1 d) λe=>if nG e 4096 then some 4 else some 0 else some 1
def pZ(a0 a1:Fm):Option Fm:=bU (fZ 3 a0 a1) λa=>some a
def jO(a0:Tm):Option Int:=if cn a0.ad' 2 then some 1 else some 0
def qC:Nat->Tm->Int->Int->Option Tm
 |0,_,_,_=>none|n+1,a0,a1,a2=>eB (cZ a0.aea)<|cB (λ(e:Int) (d:Tm)=>(λ(v105:List Tm)=>bU (jO a0) λb=>bU (qC n d (c8 .i64 a1 b) a2) λa=>eB (dZ v105 [a])<|some (.next (eA v105 [a]))):Int->Tm->(List Tm)->(Option (dP (List Tm) (Tm)))) λc=>bU (cY c a0.aea 0 []) (dR (λ(v105:List Tm)=>some (Tm.mk a0.ad' (df (df (cn a0.ad' 1) (qJ a0.aec a1) false) (c8 .i64 a0.aec a2) a0.aec) a0.b8 v105)) (λr=>some r))
def lU(a0:Fm):Option Int:=bU (jx a0.ad') λa=>if a then some 1 else some 0
def fQ:Nat->Fm->Int->Int->Option Fm
 |0,_,_,_=>none|n+1,a0,a1,a2=>eB (cZ a0.cx)<|cB (λ(k:Int) (h:Tm)=>(λ(b:List Tm)=>bU (qC FU h a1 a2) λd=>eB (dZ b [d])<|some (.next (eA b [d]))):Int->Tm->(List Tm)->(Option (dP (List Tm) (Fm)))) λi=>bU (cY i a0.cx 0 []) (dR (λ(b:List Tm)=>eB (cZ a0.aea)<|cB (λ(j:Int) (e:Fm)=>(λ(a:List Fm)=>bU (lU a0) λf=>bU (fQ n e (c8 .i64 a1 f) a2) λc=>eB (dZ a [c])<|some (.next (eA a [c]))):Int->Fm->(List Fm)->(Option (dP (List Fm) (Fm)))) λg=>bU (cY g a0.aea 0 []) (dR (λ(a:List Fm)=>some (Fm.mk a0.ad' a0.b8 b a)) (λr=>some r))) (λr=>some r))
def tz(a0:Fm):Option Fm:=bU (fQ FU a0 0 1) λa=>some a
mutual
def nM:Nat->Fm->Fm->Option Fm
 |0,_,_=>none|n+1,a0,a1=>if cn a1.ad' 1 then bU (pZ a1 a0) λa=>bU (pZ a a0) λb=>some b else if df (cn a1.ad' 2) true (cn a1.ad' 3)then bU (cr a1.aea 0) λc=>bU (nM n a0 c) λd=>bU (cr a1.aea 1) λe=>bU (nM n a0 e) λf=>bU (fZ a1.ad' d f) λg=>some g else if cn a1.ad' 4 then bU (tz a0) λh=>bU (cr a1.aea 0) λi=>bU (nM n h i) λj=>bU (iW 4 a1.b8 j) λk=>some k else bU (rI n a0 a1) λl=>bU (pZ l a0) λm=>some m
def rI:Nat->Fm->Fm->Option Fm
 |0,_,_=>none|n+1,a0,a1=>bU (tz a0) λa=>bU (cr a1.aea 0) λb=>bU (nM n a b) λc=>bU (tz a0) λd=>bU (pZ c d) λe=>bU (iW 4 a1.b8 e) λf=>some f
end
def jI(a0 a1:Fm):Option (Fm×Int):=bU (pk a0 a1) λc=>if cF c 0 then some ((Fm.mk 0 (Ty.mk 0 []) [] []),c)else bU (nM FU a0 a1) λa=>bU (kj FU a) λb=>some (b,0)
def kJ(a0:Int):Option (c_×Bool):=if df (sg a0 1) true (qJ a0 21)then some ((c_.mk false false 0 0 0 0 0 0),false)else bU (cr lY a0) λa=>some (a,true)
def oR(a0:c9)(a1:c_)(a2:Int):Option c9:=some (c9.mk (df (cn a2 (dh .i64 a1.aea 1)) (c8 .i64 a0.vars a1.vars) a0.vars) (df (cn a2 (dh .i64 a1.aea 1)) (c8 .i64 a0.aeg a1.aeg) a0.aeg))
def iM:Nat->Pf->c9->Int->Option Pf
 |0,_,_,_=>none|n+1,a0,a1,a2=>b7 (kJ a0.ad') λq t=>bU (ik FU a0.b8) λl=>eB (cZ a0.cx)<|cB (λ(s:Int) (m:Tm)=>(λ(b:List Tm)=>bU (tf FU m) λe=>eB (dZ b [e])<|some (.next (eA b [e]))):Int->Tm->(List Tm)->(Option (dP (List Tm) (Pf)))) λo=>bU (cY o a0.cx 0 []) (dR (λ(b:List Tm)=>eB (cZ a0.dy)<|cB (λ(p:Int) (f:Fm)=>(λ(v164:List Fm)=>bU (iq f) λc=>eB (dZ v164 [c])<|some (.next (eA v164 [c]))):Int->Fm->(List Fm)->(Option (dP (List Fm) (Pf)))) λg=>bU (cY g a0.dy 0 []) (dR (λ(v164:List Fm)=>eB (cZ a0.aea)<|cB (λ(h:Int) (i:Pf)=>(λ(a:List Pf)=>bU (oR a1 q h) λj=>bU (iM n i j a2) λd=>eB (dZ a [d])<|some (.next (eA a [d]))):Int->Pf->(List Pf)->(Option (dP (List Pf) (Pf)))) λk=>bU (cY k a0.aea 0 []) (dR (λ(a:List Pf)=>some (Pf.mk a0.ad' a0.aec l b v164 a)) (λr=>some r))) (λr=>some r))) (λr=>some r))
def ns(a0:Pf):Option Pf:=bU (iM FU a0 (c9.mk 0 0) 0) λa=>some a
def ib(a0:Tm):Option (Int×Int):=b7 (ij FU a0) λa b=>if b then if nG a 4096 then some (0,4)else some (a,0)else some (0,2)
def fy(a0:cb)(a1 a2:Int):Option (Bool×cb):=some ((cF a2 2),(df a0.gb (cb.mk (c8 .i64 a0.aeb a1) true) (cb.mk (c8 .i64 a0.aeb a1) (cn a2 4))))
def gi:Nat->cb->Pf->Option (Bool×cb)
 |0,_,_=>none|n+1,a0,a1=>b7 (kJ a1.ad') λd A=>if df A (df (sg a1.aec 0) true (df (cF a1.aec 0) (df d.aec (df (cF (cI a1.cx) d.cx) true (df (cF (cI a1.dy) d.dy) true (cF (cI a1.aea) d.aea))) true) (df (cF (cI a1.cx) d.cx) true (df (cF (cI a1.dy) d.dy) true (cF (cI a1.aea) d.aea))))) true then some (false,a0)else cB (λ(u:cb)=>eB (cZ a1.cx)<|cB (λ(B:Int) (v:Tm)=>(λ(a:cb)=>b7 (ib v) λf g=>b7 (fy a f g) λh d179=>if h then some (.next d179)else some (.ret (false,d179))):Int->Tm->(cb)->(Option (dP (cb) (Bool×cb)))) λi=>bU (cY i a1.cx 0 u) (dR (λ(a:cb)=>eB (cZ a1.dy)<|cB (λ(y:Int) (j:Fm)=>(λ(b:cb)=>b7 (ez j) λk l=>b7 (fy b k l) λm d322=>if m then some (.next d322)else some (.ret (false,d322))):Int->Fm->(cb)->(Option (dP (cb) (Bool×cb)))) λo=>bU (cY o a1.dy 0 a) (dR (λ(b:cb)=>eB (cZ a1.aea)<|cB (λ(z:Int) (p:Pf)=>(λ(c:cb)=>b7 (gi n c p) λq e=>if q then some (.next e)else some (.ret (false,e))):Int->Pf->(cb)->(Option (dP (cb) (Bool×cb)))) λs=>bU (cY s a1.aea 0 b) (dR (λ(c:cb)=>some (true,c)) (λr=>some r))) (λr=>some r))) (λr=>some r))) λt=>if d.typed then b7 (gH a1.b8) λC w=>if cF w 0 then some (false,(cb.mk (c8 .i64 a0.aeb 1) a0.gb))else t (cb.mk (c8 .i64 a0.aeb 1) a0.gb)else bU (mC a1.b8) λx=>if x then t (cb.mk (c8 .i64 a0.aeb 1) a0.gb)else some (false,(cb.mk (c8 .i64 a0.aeb 1) a0.gb))
def pB(a0:Pf):Option (Int×Int):=b7 (gi FU (cb.mk 0 false) a0) λa d14=>if a then if df d14.gb true (nG d14.aeb 16384)then some (0,4)else some (d14.aeb,0)else some (0,2)
def mD(a0:Pf):Option Int:=b7 (pB a0) λb a=>some a
def vL(a0:Int):Option Pf:=some (Pf.mk 1 a0 (Ty.mk 0 []) [] [] [])
def ec(a0:Int):Option Pf:=bU (vL a0) λa=>some a
def dW(a0:Fm)(a1:Pf):Option Pf:=some (Pf.mk 6 0 (Ty.mk 0 []) [] [a0] [a1])
def nU(a0:Int)(a1:List Pf):Option Pf:=some (Pf.mk a0 0 (Ty.mk 0 []) [] [] a1)
def ew(a0 a1:Pf):Option Pf:=bU (nU 7 [a0,a1]) λa=>some a
def uf(a0:Ty)(a1:Pf):Option Pf:=some (Pf.mk 8 0 a0 [] [] [a1])
def tD(a0:Tm)(a1:Pf):Option Pf:=some (Pf.mk 9 0 (Ty.mk 0 []) [a0] [] [a1])
def nj(x y:Fm):Fm:=.mk 3 (Ty.mk 0 []) [] [x,y]
def B7(t a:Fm):Fm:=nj (nj t a) a
def gL(f:Fm)(p:Pf):Pf:=.mk 6 0 (Ty.mk 0 []) [] [f] [p]
def dU(i:Int):Pf:=.mk 1 i (Ty.mk 0 []) [] [] []
def DE(k:Int)(l:List Pf):Pf:=.mk k 0 (Ty.mk 0 []) [] [] l
def fP(p q:Pf):Pf:=DE 7 [p,q]
def xO:Pf:=.mk 0 0 (Ty.mk 0 []) [] [] []
def zk(a f:Fm)(rm:Int):Option (Bool×Int):=b7 (ez a) λn _=>bU (gh FU f n) λk=>some (df (DU k 4096) (qJ (dh .i64 rm k) 0) false,dh .i64 rm k)
def BP(b:Fm->Int->Option (Pf×Int))(a f:Fm)(k:Nat)(qe t:Fm)(i ad' rm:Int):Option (Pf×Int):=bU (cr f.aea i) λx=>bU (ep FU a x k) λy=>b7 (b x rm) λp c=>some (fP p (gL (nj y qe) (fP (dU 1) (gL t (fP (dU 1) (DE ad' [dU 0]))))),c)
def iC:Nat->Fm->Fm->Nat->Int->Option (Pf×Int)
 |0,_,_,_,_=>none|n+1,a,f,k,rm=>b7 (zk a f rm) λok c=>if nT ok then some (dU 0,c)else bU (lj k a) λqe=>bU (ep FU a f k) λt=>if cn f.ad' 2 then b7 (BP (λx r=>iC n a x k r) a f k qe t 0 4 c) λp d=>b7 (BP (λx r=>iC n a x k r) a f k qe t 1 5 d) λq e=>some (gL (B7 t qe) (DE 3 [p,q]),e)else if cn f.ad' 3 then bU (cr f.aea 1) λx=>bU (ep FU a x k) λy=>b7 (iC n a x k c) λp d=>bU (cr f.aea 0) λu=>bU (ep FU a u k) λv=>some (gL (B7 t qe) (gL v (fP p (gL (nj y qe) (fP (dU 2) (gL t (fP (dU 1) (fP (dU 0) (dU 2)))))))),d)else if cn f.ad' 4 then bU (cr f.aea 0) λx=>bU (ep FU a x (k+1)) λy=>bU (lj (k+1) a) λb=>bU (da t 0 1) λu=>b7 (iC n a x (k+1) c) λp d=>some (gL (B7 t qe) (.mk 8 0 f.b8 [] [] [fP p (gL (nj y b) (fP (dU 1) (gL u (fP (dU 1) (.mk 9 0 (Ty.mk 0 []) [.mk 1 0 (Ty.mk 0 []) []] [] [dU 0])))))]),d)else bU (cr t.aea 0) λx=>some (gL (B7 t qe) (gL x (fP (dU 1) (gL t (fP (dU 0) (dU 1))))),c)
def xw(p:Pf)(rm:Int):Option (Pf×Int):=if sg rm 0 then some (xO,4)else bU (mD p) λe=>if cF e 0 then some (xO,4)else bU (ns p) λq=>some (q,0)
def jy(a0 a1:Fm):Option (Pf×Int):=bU (jY a0 a1) λe=>if cF e 0 then some (xO,e)else b7 (iC FU a0 a1 0 1048576) λp rm=>xw p rm
def yc(a0:Bool):Option (Int×Int):=if a0 then some (4,3)else some (5,2)
def mM(a0 a1 b a:Int):Option Int:=if cn (dh .i64 a0 a1) b then some (c8 .i64 a 1)else some a
def rH(a0:Tm)(a1:Int):Option Int:=bU (oI a0 (λ(s:Int) (a:Int) (b:Int)=>mM a b a1 s) 0) λc=>some c
def kx(a0:Int)(a1:List Tm):Option Tm:=some (Tm.mk a0 0 (Ty.mk 0 []) a1)
def jT:Option Ty:=some (Ty.mk 1 [])
def qP(a0:Tm)(a1:List Ty):Option Tm:=cB ((QF λ(a:Int) (b:Int) (v59:Int) (c:Int) (d:List Ty) (e:List Tm)=>if qJ a 0 then bU (cr a1 a) λf=>some (.next ((dh .i64 a 1),2,0,f.ad',f.aea,[(Tm.mk b v59 (Ty.mk c d) e)]))else some (.H9 (a,b,v59,c,d,e))):(Int×Int×Int×Int×(List Ty)×(List Tm))->(Option (dP (Int×Int×Int×Int×(List Ty)×(List Tm)) (Tm)))) λg=>bU (nY g FU ((dh .i64 (cI a1) 1),a0.ad',a0.aec,a0.b8.ad',a0.b8.aea,a0.aea)) (dR (QF λ(a:Int) (b:Int) (v59:Int) (c:Int) (d:List Ty) (e:List Tm)=>some (Tm.mk b v59 (Ty.mk c d) e)) (λr=>some r))
def vG(a0:Int)(a1:Ty)(a2 a3 a4:Tm):Option Tm:=some (Tm.mk a0 0 a1 [a2,a3,a4])
def pC(a0 a1 a2:Tm):Option Tm:=bU (jT) λa=>bU (jT) λb=>bU (jT) λc=>bU (qP a1 [b,c]) λd=>bU (vG 6 a a0 d a2) λe=>some e
def AS:Option Tm:=bU (kx 4 []) λa=>bU (fu 1) λb=>bU (fu 0) λc=>bU (pC a b c) λd=>bU (jT) λe=>bU (qP d [e]) λf=>some f
def ua(a0:Tm)(a1:List Tm):Option Tm:=eB (cZ a1)<|cB (λ(h:Int) (f:Tm)=>(un5 λ(b:Int) (c:Int) (v46:Int) (d:List Ty) (e:List Tm)=>bU (kx 3 [(Tm.mk b c (Ty.mk v46 d) e),f]) λa=>some (.next (a.ad',a.aec,a.b8.ad',a.b8.aea,a.aea))):Int->Tm->(Int×Int×Int×(List Ty)×(List Tm))->(Option (dP (Int×Int×Int×(List Ty)×(List Tm)) (Tm)))) λg=>bU (cY g a1 0 (a0.ad',a0.aec,a0.b8.ad',a0.b8.aea,a0.aea)) (dR (un5 λ(b:Int) (c:Int) (v46:Int) (d:List Ty) (e:List Tm)=>some (Tm.mk b c (Ty.mk v46 d) e)) (λr=>some r))
def H_(a0:Tm):Option Tm:=bU (jT) λa=>bU (jT) λb=>bU (qP a0 [a,b]) λc=>some c
def CJ:Option Tm:=bU (fu 1) λa=>bU (AS) λb=>bU (fu 0) λc=>bU (ua b [c]) λd=>bU (fu 0) λe=>bU (pC a d e) λf=>bU (H_ f) λg=>some g
def l0(a0 a1:Tm):Option Fm:=some (Fm.mk 1 (Ty.mk 0 []) [a0,a1] [])
def AT(a0 a1:Tm):Option Fm:=bU (CJ) λa=>bU (kx 5 [a0]) λb=>bU (ua a [b,a1]) λc=>bU (kx 4 []) λd=>bU (l0 c d) λe=>some e
def fo:Nat->Ty->Ty->Option Bool
 |0,_,_=>none|n+1,a0,a1=>if df (cF a0.ad' a1.ad') true (cF (cI a0.aea) (cI a1.aea))then some false else eB (cZ a0.aea)<|cB (λ(c:Int) (d:Ty)=>(λ(_:Unit)=>bU (cr a1.aea c) λa=>bU (fo n d a) λb=>if b then some (.next ())else some (.ret false)):Int->Ty->(Unit)->(Option (dP (Unit) (Bool)))) λe=>bU (cY e a0.aea 0 ()) (dR (λ(_:Unit)=>some true) (λr=>some r))
def iJ:Nat->Tm->Tm->Option Bool
 |0,_,_=>none|n+1,a0,a1=>cB (λ(d:Bool)=>if d then some false else eB (cZ a0.aea)<|cB (λ(e:Int) (f:Tm)=>(λ(_:Unit)=>bU (cr a1.aea e) λb=>bU (iJ n f b) λc=>if c then some (.next ())else some (.ret false)):Int->Tm->(Unit)->(Option (dP (Unit) (Bool)))) λg=>bU (cY g a0.aea 0 ()) (dR (λ(_:Unit)=>some true) (λr=>some r))) λa=>if cF a0.ad' a1.ad' then a true else if cF a0.aec a1.aec then a true else bU (fo FU a0.b8 a1.b8) λh=>if h then a (cF (cI a0.aea) (cI a1.aea))else a true
def me:Nat->Fm->Fm->Option Bool
 |0,_,_=>none|n+1,a0,a1=>cB (λ(i:Bool)=>if i then some false else eB (cZ a0.cx)<|cB (λ(j:Int) (k:Tm)=>(λ(_:Unit)=>bU (cr a1.cx j) λb=>bU (iJ FU k b) λc=>if c then some (.next ())else some (.ret false)):Int->Tm->(Unit)->(Option (dP (Unit) (Bool)))) λl=>bU (cY l a0.cx 0 ()) (dR (λ(_:Unit)=>eB (cZ a0.aea)<|cB (λ(d:Int) (e:Fm)=>(λ(_:Unit)=>bU (cr a1.aea d) λf=>bU (me n e f) λg=>if g then some (.next ())else some (.ret false)):Int->Fm->(Unit)->(Option (dP (Unit) (Bool)))) λh=>bU (cY h a0.aea 0 ()) (dR (λ(_:Unit)=>some true) (λr=>some r))) (λr=>some r))) λa=>if cF a0.ad' a1.ad' then a true else bU (fo FU a0.b8 a1.b8) λm=>if m then if cF (cI a0.cx) (cI a1.cx)then a true else a (cF (cI a0.aea) (cI a1.aea))else a true
def yk(a0:Fm):Option (Bool×Tm×Fm×Bool):=b7 (yc (cn a0.ad' 4)) λq r=>cB (λ(o:Bool)=>if o then some (false,(Tm.mk 0 0 (Ty.mk 0 []) []),(Fm.mk 0 (Ty.mk 0 []) [] []),false)else bU (cr a0.aea 0) λe=>bU (cr e.aea 0) λf=>bU (cr f.cx 0) λd=>cB (λ(g:Bool)=>if g then some (false,(Tm.mk 0 0 (Ty.mk 0 []) []),(Fm.mk 0 (Ty.mk 0 []) [] []),false)else bU (cr d.aea 1) λh=>bU (cr e.aea 1) λi=>some ((cn a0.ad' 4),h,i,true)) λa=>if cF d.ad' 3 then a true else bU (cr d.aea 1) λc=>bU (rH c 0) λj=>if nG j 0 then a true else bU (fu 0) λk=>bU (AT k c) λl=>bU (me FU f l) λm=>a (nT m)) λb=>if cF a0.ad' q then b true else if cF a0.b8.ad' 1 then b true else bU (cr a0.aea 0) λn=>if cF n.ad' r then b true else bU (cr n.aea 0) λp=>b (cF p.ad' 1)
def oc:Nat->Fm->Option Int
 |0,_=>none|n+1,a0=>if cn a0.ad' 1 then some 6 else bU (cr a0.aea (dh .i64 (cI a0.aea) 1)) λk=>bU (oc n k) λa=>cB (λ(b:Int)=>cB (λ(f:Int)=>some f) λc=>R2 (yk a0) λl m g h=>if h then bU (oc n g) λi=>c (xV .u8 (r' .u8 b 1) (r' .u8 i 4))else c (r' .u8 b 1)) λd=>if df (cn a0.ad' 2) true (cn a0.ad' 3)then bU (cr a0.aea 0) λj=>bU (oc n j) λe=>some (xV .u8 (r' .u8 (r' .u8 e a) 6) (r' .u8 (df (cn a0.ad' 2) (xV .u8 a e) a) 1))else if cn a0.ad' 5 then d (xV .u8 a 1)else d a
def IJ(a0:Fm)(a1:Int):Option (Bool×Int):=bU (e9 a0) λb=>if cF b 0 then some (false,b)else bU (oc FU a0) λa=>some ((cF (r' .u8 a a1) 0),0)
def kF(a0:List Ty):Option Int:=if nG (cI a0) 16 then some 3 else eB (cZ a0)<|cB (λ(d:Int) (b:Ty)=>(λ(_:Unit)=>bU (gO b) λa=>if cF a 0 then some (.ret a)else some (.next ())):Int->Ty->(Unit)->(Option (dP (Unit) (Int)))) λc=>bU (cY c a0 0 ()) (dR (λ(_:Unit)=>some 0) (λr=>some r))
def kC(a0:Tm):Option Int:=bU (je FU a0) λb=>if b then bU (dM FU a0) λa=>if nG a 4096 then some 4 else some 0 else some 2
def r5(a0:Ty):Option (Ty×Int):=bU (gO a0) λa=>if cF a 0 then some ((Ty.mk 0 []),4)else some (a0,0)
def dw:Nat->(List Ty)->Tm->Option (Ty×Int)
 |0,_,_=>none|n+1,a0,a1=>if cn a1.ad' 1 then if qJ a1.aec (cI a0)then some ((Ty.mk 0 []),6)else bU (cr a0 (dh .i64 (dh .i64 (cI a0) 1) a1.aec)) λai=>bU (gJ FU ai) λak=>some (ak,0)else if cn a1.ad' 2 then eB (dZ a0 [a1.b8])<|bU (cr a1.aea 0) λan=>b7 (dw n (eA a0 [a1.b8]) an) λao L=>if cF L 0 then some ((Ty.mk 0 []),L)else bU (jv a1.b8 ao) λaq=>b7 (r5 aq) λar aw=>some (ar,aw)else eB (cZ a1.aea)<|cB (λ(ax:Int) (M:Tm)=>(λ(a:List Ty)=>b7 (dw n a0 M) λh i=>if cF i 0 then some (.ret ((Ty.mk 0 []),i))else eB (dZ a [h])<|some (.next (eA a [h]))):Int->Tm->(List Ty)->(Option (dP (List Ty) (Ty×Int)))) λN=>bU (cY N a1.aea 0 []) (dR (λ(a:List Ty)=>bU (h7) λb=>bU (lW) λc=>if cn a1.ad' 3 then cB (λ(O:Bool)=>if O then some ((Ty.mk 0 []),7)else bU (cr a 0) λP=>bU (cr P.aea 1) λQ=>some (Q,0)) λj=>bU (cr a 0) λk=>if cF k.ad' 4 then j true else bU (cr k.aea 0) λR=>bU (cr a 1) λS=>bU (du FU R S) λT=>j (nT T)else if cn a1.ad' 4 then some (b,0)else if cn a1.ad' 5 then bU (cr a 0) λU=>bU (du FU U b) λV=>if V then some (b,0)else some ((Ty.mk 0 []),7)else if cn a1.ad' 6 then cB (λ(W:Bool)=>if W then some ((Ty.mk 0 []),7)else bU (gJ FU a1.b8) λX=>some (X,0)) λf=>bU (cr a 0) λY=>bU (du FU Y a1.b8) λZ=>if Z then bU (cr a 1) λaa=>bU (jv a1.b8 a1.b8) λab=>bU (jv b ab) λad=>bU (du FU aa ad) λae=>if ae then bU (cr a 2) λaf=>bU (du FU af b) λah=>f (nT ah)else f true else f true else if cn a1.ad' 7 then some (c,0)else if cn a1.ad' 8 then cB (λ(l:Bool)=>if l then some ((Ty.mk 0 []),7)else some (c,0)) λg=>bU (cr a 0) λm=>bU (du FU m b) λo=>if o then bU (cr a 1) λp=>bU (du FU p c) λq=>g (nT q)else g true else if cn a1.ad' 9 then cB (λ(s:Bool)=>if s then some ((Ty.mk 0 []),7)else bU (gJ FU a1.b8) λt=>some (t,0)) λd=>bU (cr a 0) λu=>bU (du FU u a1.b8) λv=>if v then bU (cr a 1) λw=>bU (jv a1.b8 a1.b8) λx=>bU (jv c x) λy=>bU (jv b y) λz=>bU (du FU w z) λA=>if A then bU (cr a 2) λB=>bU (du FU B c) λC=>d (nT C)else d true else d true else if cn a1.ad' 10 then bU (cr a 0) λD=>bU (cr a 1) λE=>bU (ta D E) λF=>b7 (r5 F) λG H=>some (G,H)else if df (cn a1.ad' 11) true (cn a1.ad' 12)then bU (cr a 0) λe=>if cF e.ad' 3 then some ((Ty.mk 0 []),7)else if cn a1.ad' 11 then bU (cr e.aea 0) λI=>some (I,0)else bU (cr e.aea 1) λJ=>some (J,0)else bU (tA) λK=>some (K,0)) (λr=>some r))
def nX(a0:List Ty)(a1:Tm):Option (Ty×Int):=bU (kC a1) λc=>if cF c 0 then some ((Ty.mk 0 []),c)else b7 (dw FU a0 a1) λa b=>some (a,b)
def lI:Nat->(List Ty)->Fm->Option Int
 |0,_,_=>none|n+1,a0,a1=>eB (cZ a1.cx)<|cB (λ(j:Int) (c:Tm)=>(λ(_:Unit)=>b7 (nX a0 c) λd b=>if cF b 0 then some (.ret b)else if cF d.ad' 1 then some (.ret 7)else some (.next ())):Int->Tm->(Unit)->(Option (dP (Unit) (Int)))) λe=>bU (cY e a1.cx 0 ()) (dR (λ(_:Unit)=>cB (λ(f:List Ty)=>eB (cZ a1.aea)<|cB (λ(k:Int) (g:Fm)=>(λ(_:Unit)=>bU (lI n f g) λa=>if cF a 0 then some (.ret a)else some (.next ())):Int->Fm->(Unit)->(Option (dP (Unit) (Int)))) λh=>bU (cY h a1.aea 0 ()) (dR (λ(_:Unit)=>some 0) (λr=>some r))) λj64=>bU (jx a1.ad') λi=>if i then eB (dZ a0 [a1.b8])<|j64 (eA a0 [a1.b8])else j64 a0) (λr=>some r))
def jd(a0:List Ty)(a1:Fm):Option Int:=bU (iA a1) λb=>if cF b 0 then some b else bU (lI FU a0 a1) λa=>some a
def hW(a0:List Ty)(a1:Fm):Option Int:=bU (kF a0) λb=>if cF b 0 then some b else bU (jd a0 a1) λa=>some a
def rM(a0:List Fm)(a1:Sq):Option Int:=if nG (cI a0) 32 then some 3 else eB (cZ a0)<|cB (λ(h:Int) (d:Fm)=>(λ(_:Unit)=>bU (hW [] d) λa=>if cF a 0 then some (.ret a)else some (.next ())):Int->Fm->(Unit)->(Option (dP (Unit) (Int)))) λe=>bU (cY e a0 0 ()) (dR (λ(_:Unit)=>bU (kF a1.aed) λb=>if cF b 0 then some b else if nG (cI a1.aeg) 16 then some 3 else eB (cZ a1.aeg)<|cB (λ(i:Int) (f:Fm)=>(λ(_:Unit)=>bU (hW a1.aed f) λc=>if cF c 0 then some (.ret c)else some (.next ())):Int->Fm->(Unit)->(Option (dP (Unit) (Int)))) λg=>bU (cY g a1.aeg 0 ()) (dR (λ(_:Unit)=>some 0) (λr=>some r))) (λr=>some r))
def nW(a0:Int):Option (db×Bool):=if df (cn a0 1) true (cn a0 2)then some ((db.mk 0 0 0 true false),true)else if df (cn a0 3) true (cn a0 7)then some ((db.mk 0 0 2 false false),true)else if df (cn a0 4) true (df (cn a0 5) true (cn a0 20))then some ((db.mk 0 0 1 false false),true)else if cn a0 6 then some ((db.mk 0 1 1 false false),true)else if df (cn a0 8) true (cn a0 12)then some ((db.mk 0 0 1 false true),true)else if df (cn a0 9) true (cn a0 13)then some ((db.mk 1 0 1 false false),true)else if df (cn a0 10) true (cn a0 14)then some ((db.mk 1 1 1 false false),true)else if df (cn a0 11) true (cn a0 15)then some ((db.mk 0 0 2 false false),true)else if df (cn a0 16) true (cn a0 17)then some ((db.mk 1 1 2 false false),true)else if cn a0 18 then some ((db.mk 1 0 0 false false),true)else if cn a0 19 then some ((db.mk 0 1 2 false false),true)else some ((db.mk 0 0 0 false false),false)
def mH:Nat->Pf->Option Bool
 |0,_=>none|n+1,a0=>b7 (nW a0.ad') λb q=>if df q (df (cF (cI a0.cx) b.cx) true (df (cF (cI a0.dy) b.dy) true (df (cF (cI a0.aea) b.aea) true (df (sg a0.aec 0) true (df b.aec false (cF a0.aec 0)))))) true then some false else cB (λ(h:Bool)=>if h then some false else eB (cZ a0.cx)<|cB (λ(s:Int) (i:Tm)=>(λ(_:Unit)=>bU (je FU i) λj=>if j then some (.next ())else some (.ret false)):Int->Tm->(Unit)->(Option (dP (Unit) (Bool)))) λk=>bU (cY k a0.cx 0 ()) (dR (λ(_:Unit)=>eB (cZ a0.dy)<|cB (λ(t:Int) (l:Fm)=>(λ(_:Unit)=>bU (kE FU l) λc=>if c then some (.next ())else some (.ret false)):Int->Fm->(Unit)->(Option (dP (Unit) (Bool)))) λd=>bU (cY d a0.dy 0 ()) (dR (λ(_:Unit)=>eB (cZ a0.aea)<|cB (λ(p:Int) (e:Pf)=>(λ(_:Unit)=>bU (mH n e) λf=>if f then some (.next ())else some (.ret false)):Int->Pf->(Unit)->(Option (dP (Unit) (Bool)))) λg=>bU (cY g a0.aea 0 ()) (dR (λ(_:Unit)=>some true) (λr=>some r))) (λr=>some r))) (λr=>some r))) λa=>if b.yn then bU (gO a0.b8) λm=>if cF m 0 then a true else a false else bU (oq a0.b8) λo=>a (nT o)
def pW:Nat->Pf->Option Bool
 |0,_=>none|n+1,a0=>eB (cZ a0.cx)<|cB (λ(j:Int) (c:Tm)=>(λ(_:Unit)=>bU (dM FU c) λd=>if nG d 4096 then some (.ret false)else some (.next ())):Int->Tm->(Unit)->(Option (dP (Unit) (Bool)))) λe=>bU (cY e a0.cx 0 ()) (dR (λ(_:Unit)=>eB (cZ a0.dy)<|cB (λ(k:Int) (f:Fm)=>(λ(_:Unit)=>bU (jf FU f) λg=>if nG g 4096 then some (.ret false)else some (.next ())):Int->Fm->(Unit)->(Option (dP (Unit) (Bool)))) λh=>bU (cY h a0.dy 0 ()) (dR (λ(_:Unit)=>eB (cZ a0.aea)<|cB (λ(l:Int) (i:Pf)=>(λ(_:Unit)=>bU (pW n i) λa=>if a then some (.next ())else some (.ret false)):Int->Pf->(Unit)->(Option (dP (Unit) (Bool)))) λb=>bU (cY b a0.aea 0 ()) (dR (λ(_:Unit)=>some true) (λr=>some r))) (λr=>some r))) (λr=>some r))
def p_:Nat->Pf->Option Int
 |0,_=>none|n+1,a0=>eB (cZ a0.cx)<|cB (λ(m:Int) (f:Tm)=>(λ(b:Int)=>bU (dM FU f) λg=>some (.next (c8 .i64 b g))):Int->Tm->(Int)->(Option (dP (Int) (Int)))) λh=>bU (cY h a0.cx 0 1) (dR (λ(b:Int)=>eB (cZ a0.dy)<|cB (λ(o:Int) (i:Fm)=>(λ(v75:Int)=>bU (jf FU i) λj=>some (.next (c8 .i64 v75 j))):Int->Fm->(Int)->(Option (dP (Int) (Int)))) λk=>bU (cY k a0.dy 0 b) (dR (λ(v75:Int)=>eB (cZ a0.aea)<|cB (λ(l:Int) (c:Pf)=>(λ(a:Int)=>bU (p_ n c) λd=>some (.next (c8 .i64 a d))):Int->Pf->(Int)->(Option (dP (Int) (Int)))) λe=>bU (cY e a0.aea 0 v75) (dR (λ(a:Int)=>some a) (λr=>some r))) (λr=>some r))) (λr=>some r))
def w_(a0:Pf):Option Bool:=cB (λ(d:Bool)=>some d) λc=>bU (pW FU a0) λa=>if a then bU (p_ FU a0) λb=>c (DU b 16384)else c false
def rZ(a0:Pf):Option Int:=bU (mH FU a0) λb=>if b then bU (w_ a0) λa=>if a then some 0 else some 4 else some 2
def oN(a0:List (Int×Bool)):Option (List Int×List (Int×Bool)):=eB (cZ a0)<|eB (vI (a0.map (·.1)))<|some (xJ [] (a0.map (·.1)),a0)
def en(a0 a1:List Int):Option (List Int):=eB (cZ a0)<|cB (λ(i:Int) (c:Int)=>(λ(a:(List (Int×Bool)))=>some (.next (tL a c true))):Int->Int->((List (Int×Bool)))->(Option (dP ((List (Int×Bool))) (List Int)))) λd=>bU (cY d a0 0 []) (dR (λ(a:(List (Int×Bool)))=>eB (cZ a1)<|cB (λ(h:Int) (e:Int)=>(λ(b:(List (Int×Bool)))=>some (.next (tL b e true))):Int->Int->((List (Int×Bool)))->(Option (dP ((List (Int×Bool))) (List Int)))) λf=>bU (cY f a1 0 a) (dR (λ(b:(List (Int×Bool)))=>b7 (oN b) λg d51=>some g) (λr=>some r))) (λr=>some r))
def cG(a0:bZ)(a1 a2:Int):Option Int:=if df (nG (c8 .i64 (cI a0.aed) a1) 16) true (nG (c8 .i64 (cI a0.aeg) a2) 16)then some 3 else some 0
def ee(a0:bZ)(a1:Fm):Option bZ:=eB (dZ a0.aeg [a1])<|some (bZ.mk a0.lemmas a0.aed (eA a0.aeg [a1]))
def tZ(a0:Tm):Option Bool:=if cn a0.ad' 3 then bU (cr a0.aea 0) λe=>some (cn e.ad' 2)else if cn a0.ad' 6 then cB (λ(f:Bool)=>some f) λa=>bU (cr a0.aea 2) λb=>if cn b.ad' 4 then a true else a (cn b.ad' 5)else if cn a0.ad' 9 then cB (λ(g:Bool)=>some g) λc=>bU (cr a0.aea 2) λd=>if cn d.ad' 7 then c true else c (cn d.ad' 8)else if df (cn a0.ad' 11) true (cn a0.ad' 12)then bU (cr a0.aea 0) λh=>some (cn h.ad' 10)else some false
def lM:Nat->Tm->Int->Option Int
 |0,_,_=>none|n+1,a0,a1=>eB (cZ a0.aea)<|cB (λ(f:Int) (d:Tm)=>(λ(a:Int)=>bU (jO a0) λb=>bU (lM n d (c8 .i64 a1 b)) λc=>some (.next (c8 .i64 a c))):Int->Tm->(Int)->(Option (dP (Int) (Int)))) λe=>bU (cY e a0.aea 0 (df (df (cn a0.ad' 1) (cn a0.aec a1) false) (c8 .i64 0 1) 0)) (dR (λ(a:Int)=>some a) (λr=>some r))
def qv(a0:Tm):Option Int:=bU (dM FU a0) λb=>if cn a0.ad' 3 then bU (cr a0.aea 0) λf=>bU (cr f.aea 0) λc=>bU (cr a0.aea 1) λg=>bU (dM FU c) λh=>bU (lM FU c 0) λi=>bU (dM FU g) λj=>some (dh .i64 (c8 .i64 h (zL .i64 i (dh .i64 j 1))) b)else if cn a0.ad' 6 then bU (cr a0.aea 2) λd=>if cn d.ad' 4 then bU (cr a0.aea 0) λk=>bU (dM FU k) λl=>some (dh .i64 l b)else bU (cr a0.aea 1) λm=>bU (dM FU m) λn=>bU (cr d.aea 0) λo=>bU (dM FU o) λp=>some (dh .i64 (dh .i64 (c8 .i64 (c8 .i64 (c8 .i64 2 n) p) b) 1) b)else if cn a0.ad' 9 then bU (cr a0.aea 2) λa=>if cn a.ad' 7 then bU (cr a0.aea 0) λq=>bU (dM FU q) λr=>some (dh .i64 r b)else bU (cr a.aea 0) λe=>bU (cr a.aea 1) λs=>bU (cr a0.aea 1) λt=>bU (dM FU t) λu=>bU (dM FU e) λv=>bU (dM FU s) λw=>bU (dM FU e) λx=>some (dh .i64 (dh .i64 (dh .i64 (c8 .i64 (c8 .i64 (c8 .i64 (c8 .i64 3 u) v) w) b) 1) x) b)else if cn a0.ad' 11 then bU (cr a0.aea 0) λy=>bU (cr y.aea 0) λz=>bU (dM FU z) λA=>some (dh .i64 A b)else bU (cr a0.aea 0) λB=>bU (cr B.aea 1) λC=>bU (dM FU C) λD=>some (dh .i64 D b)
def uh:Nat->Tm->Int->Int->Tm->Option Tm
 |0,_,_,_,_=>none|n+1,a0,a1,a2,a3=>if cn a0.ad' 1 then if cn a0.aec (c8 .i64 a1 a2)then bU (qC FU a3 0 (c8 .i64 a1 a2)) λe=>some e else if nG a0.aec (c8 .i64 a1 a2)then bU (fa (dh .i64 a0.aec 1)) λf=>some f else some a0 else eB (cZ a0.aea)<|cB (λ(h:Int) (g:Tm)=>(λ(a:List Tm)=>bU (jO a0) λc=>bU (uh n g a1 (c8 .i64 a2 c) a3) λb=>eB (dZ a [b])<|some (.next (eA a [b]))):Int->Tm->(List Tm)->(Option (dP (List Tm) (Tm)))) λd=>bU (cY d a0.aea 0 []) (dR (λ(a:List Tm)=>some (Tm.mk a0.ad' a0.aec a0.b8 a)) (λr=>some r))
def o7(a0:Tm):Option Tm:=if cn a0.ad' 3 then bU (cr a0.aea 0) λg=>bU (cr g.aea 0) λh=>bU (cr a0.aea 1) λi=>bU (uh FU h 0 0 i) λj=>some j else if cn a0.ad' 6 then bU (cr a0.aea 2) λb=>if cn b.ad' 4 then bU (cr a0.aea 0) λk=>some k else bU (cr b.aea 0) λc=>bU (cr a0.aea 1) λd=>bU (dO 3 [d,c]) λl=>bU (cr a0.aea 0) λm=>bU (kv 6 a0.b8 [m,d,c]) λn=>bU (dO 3 [l,n]) λo=>some o else if cn a0.ad' 9 then bU (cr a0.aea 2) λa=>if cn a.ad' 7 then bU (cr a0.aea 0) λp=>some p else bU (cr a.aea 0) λq=>bU (cr a.aea 1) λe=>bU (cr a0.aea 1) λf=>bU (dO 3 [f,q]) λr=>bU (dO 3 [r,e]) λs=>bU (cr a0.aea 0) λt=>bU (kv 9 a0.b8 [t,f,e]) λu=>bU (dO 3 [s,u]) λv=>some v else if cn a0.ad' 11 then bU (cr a0.aea 0) λw=>bU (cr w.aea 0) λx=>some x else bU (cr a0.aea 0) λy=>bU (cr y.aea 1) λz=>some z
def mX:Nat->Tm->Int->Option (Tm×Bool×Bool)
 |0,_,_=>none|n+1,a0,a1=>bU (tZ a0) λi=>if i then bU (qv a0) λb=>if nG b a1 then some ((Tm.mk 0 0 (Ty.mk 0 []) []),true,false)else bU (o7 a0) λc=>some (c,true,true)else eB (cZ a0.aea)<|cB (λ(a:Int) (d:Tm)=>(λ(_:Unit)=>hU (mX n d a1) λe f g=>if f then eB (xH a0.aea)<|bU (cr a0.aea a) λj=>some (.ret ((Tm.mk a0.ad' a0.aec a0.b8 (xu a0.aea a e)),true,g))else some (.next ())):Int->Tm->(Unit)->(Option (dP (Unit) (Tm×Bool×Bool)))) λh=>bU (cY h a0.aea 0 ()) (dR (λ(_:Unit)=>some (a0,false,true)) (λr=>some r))
def kz(a0:Tm)(a1:Int):Option (Tm×Int×Int):=bU (kC a0) λm=>if cF m 0 then some ((Tm.mk 0 0 (Ty.mk 0 []) []),0,m)else cB (λ(k:Bool)=>if k then some ((Tm.mk 0 0 (Ty.mk 0 []) []),0,1)else cB ((QF λ(v164:Int) (b:Int) (c:Int) (v167:Int) (v168:List Ty) (d:List Tm)=>bU (dM FU (Tm.mk b c (Ty.mk v167 v168) d)) λf=>hU (mX FU (Tm.mk b c (Ty.mk v167 v168) d) (dh .i64 4096 f)) λa g h=>if g then if cn v164 a1 then some (.ret ((Tm.mk 0 0 (Ty.mk 0 []) []),0,5))else if h then some (.next ((c8 .i64 v164 1),a.ad',a.aec,a.b8.ad',a.b8.aea,a.aea))else some (.ret ((Tm.mk 0 0 (Ty.mk 0 []) []),0,4))else bU (kf FU (Tm.mk b c (Ty.mk v167 v168) d)) λi=>some (.ret (i,v164,0))):(Int×Int×Int×Int×(List Ty)×(List Tm))->(Option (dP (Int×Int×Int×Int×(List Ty)×(List Tm)) (Tm×Int×Int)))) λj=>bU (nY j FU (0,a0.ad',a0.aec,a0.b8.ad',a0.b8.aea,a0.aea)) (dR (QF λ(v164:Int) (b:Int) (c:Int) (v167:Int) (v168:List Ty) (d:List Tm)=>none) (λr=>some r))) λe=>if sg a1 0 then e true else if nG a1 65536 then e true else bU (jX FU a0 536870912) λl=>e (nT l)
def qb(a0 a1:Tm)(a2:Int):Option Int:=bU (kC a0) λh=>if cF h 0 then some h else bU (kC a1) λa=>if cF a 0 then some a else bU (iY FU a0 a1) λd=>if d then some 0 else hU (kz a0 a2) λe i b=>if cF b 0 then some b else hU (kz a1 a2) λf j c=>if cF c 0 then some c else bU (iY FU e f) λg=>if g then some 0 else some 11
def n5:Nat->Fm->Fm->Option Int
 |0,_,_=>none|n+1,a0,a1=>cB (λ(i:Bool)=>if i then some 11 else eB (cZ a0.cx)<|cB (λ(j:Int) (k:Tm)=>(λ(_:Unit)=>bU (cr a1.cx j) λc=>bU (qb k c 1000) λa=>if cF a 0 then some (.ret a)else some (.next ())):Int->Tm->(Unit)->(Option (dP (Unit) (Int)))) λl=>bU (cY l a0.cx 0 ()) (dR (λ(_:Unit)=>eB (cZ a0.aea)<|cB (λ(d:Int) (e:Fm)=>(λ(_:Unit)=>bU (cr a1.aea d) λf=>bU (n5 n e f) λb=>if cF b 0 then some (.ret b)else some (.next ())):Int->Fm->(Unit)->(Option (dP (Unit) (Int)))) λg=>bU (cY g a0.aea 0 ()) (dR (λ(_:Unit)=>some 0) (λr=>some r))) (λr=>some r))) λh=>if cF a0.ad' a1.ad' then h true else bU (du FU a0.b8 a1.b8) λm=>h (nT m)
def kI(a0 a1:Fm):Option Int:=bU (iA a0) λc=>if cF c 0 then some c else bU (iA a1) λa=>if cF a 0 then some a else bU (n5 FU a0 a1) λb=>some b
def dk(a0:bZ)(a1:List Ty):Option bZ:=eB (dZ a0.aed a1)<|eB (cZ a0.aeg)<|cB (λ(e:Int) (c:Fm)=>(λ(a:List Fm)=>bU (fQ FU c 0 (cI a1)) λb=>eB (dZ a [b])<|some (.next (eA a [b]))):Int->Fm->(List Fm)->(Option (dP (List Fm) (bZ)))) λd=>bU (cY d a0.aeg 0 []) (dR (λ(a:List Fm)=>some (bZ.mk a0.lemmas (eA a0.aed a1) a)) (λr=>some r))
def et(a0:List Int)(a1:Int):Option (List Int):=eB (cZ a0)<|cB (λ(e:Int) (b:Int)=>(λ(a:List Int)=>cB (λ(c:List Int)=>some (.next c)) λj57=>if qJ b a1 then eB (dZ a [(dh .i64 b a1)])<|j57 (eA a [(dh .i64 b a1)])else j57 a):Int->Int->(List Int)->(Option (dP (List Int) (List Int)))) λd=>bU (cY d a0 0 []) (dR (λ(a:List Int)=>some a) (λr=>some r))
def pV(a0:List Int):Option Bool:=cB (λ(v6:Bool)=>some v6) λa=>if nG (cI a0) 0 then bU (cr a0 0) λb=>a (cn b 0)else a false
def iK(a0:List Ty)(a1:Tm):Option (Ty×Int):=bU (kF a0) λc=>if cF c 0 then some ((Ty.mk 0 []),c)else b7 (nX a0 a1) λa b=>some (a,b)
def n9:Nat->Tm->Int->(List (Int×Bool))->Option ((List (Int×Bool)))
 |0,_,_,_=>none|n+1,a0,a1,a2=>cB (λ(e:(List (Int×Bool)))=>eB (cZ a0.aea)<|cB (λ(f:Int) (a:Tm)=>(λ(v51:(List (Int×Bool)))=>bU (jO a0) λb=>bU (n9 n a (c8 .i64 a1 b) v51) λd73=>some (.next d73)):Int->Tm->((List (Int×Bool)))->(Option (dP ((List (Int×Bool))) ((List (Int×Bool)))))) λc=>bU (cY c a0.aea 0 e) (dR (λ(v51:(List (Int×Bool)))=>some v51) (λr=>some r))) λd=>if df (cn a0.ad' 1) (qJ a0.aec a1) false then d (tL a2 (dh .i64 a0.aec a1) true)else d a2
def tj(a0:Tm):Option ((List Int)×Int):=bU (kC a0) λb=>if cF b 0 then some ([],b)else bU (n9 FU a0 0 []) λd11=>b7 (oN d11) λa d17=>some (a,0)
def iQ(a0:Tm):Option (List Int):=b7 (tj a0) λa b=>some a
def og:Nat->Fm->Int->Option Int
 |0,_,_=>none|n+1,a0,a1=>eB (cZ a0.cx)<|cB (λ(j:Int) (f:Tm)=>(λ(b:Int)=>bU (lM FU f a1) λg=>some (.next (c8 .i64 b g))):Int->Tm->(Int)->(Option (dP (Int) (Int)))) λh=>bU (cY h a0.cx 0 0) (dR (λ(b:Int)=>eB (cZ a0.aea)<|cB (λ(k:Int) (i:Fm)=>(λ(a:Int)=>bU (lU a0) λc=>bU (og n i (c8 .i64 a1 c)) λd=>some (.next (c8 .i64 a d))):Int->Fm->(Int)->(Option (dP (Int) (Int)))) λe=>bU (cY e a0.aea 0 b) (dR (λ(a:Int)=>some a) (λr=>some r))) (λr=>some r))
def vM:Nat->Fm->Int->Int->Tm->Option Fm
 |0,_,_,_,_=>none|n+1,a0,a1,a2,a3=>eB (cZ a0.cx)<|cB (λ(k:Int) (h:Tm)=>(λ(b:List Tm)=>bU (uh FU h a1 a2 a3) λd=>eB (dZ b [d])<|some (.next (eA b [d]))):Int->Tm->(List Tm)->(Option (dP (List Tm) (Fm)))) λi=>bU (cY i a0.cx 0 []) (dR (λ(b:List Tm)=>eB (cZ a0.aea)<|cB (λ(j:Int) (e:Fm)=>(λ(a:List Fm)=>bU (lU a0) λf=>bU (vM n e a1 (c8 .i64 a2 f) a3) λc=>eB (dZ a [c])<|some (.next (eA a [c]))):Int->Fm->(List Fm)->(Option (dP (List Fm) (Fm)))) λg=>bU (cY g a0.aea 0 []) (dR (λ(a:List Fm)=>some (Fm.mk a0.ad' a0.b8 b a)) (λr=>some r))) (λr=>some r))
def vH(a0:Fm)(a1:Int)(a2:Tm):Option (Fm×Int):=bU (iA a0) λk=>if cF k 0 then some ((Fm.mk 0 (Ty.mk 0 []) [] []),k)else if df (sg a1 0) true (nG a1 4096)then some ((Fm.mk 0 (Ty.mk 0 []) [] []),1)else bU (kC a2) λa=>if cF a 0 then some ((Fm.mk 0 (Ty.mk 0 []) [] []),a)else cB (λ(e:Bool)=>if e then some ((Fm.mk 0 (Ty.mk 0 []) [] []),1)else bU (jf FU a0) λf=>bU (og FU a0 a1) λg=>bU (dM FU a2) λh=>if nG (c8 .i64 f (zL .i64 g (dh .i64 h 1))) 4096 then some ((Fm.mk 0 (Ty.mk 0 []) [] []),4)else bU (vM FU a0 a1 0 a2) λb=>bU (kj FU b) λc=>some (c,0)) λd=>bU (mK FU a0 536870912) λi=>if i then bU (jX FU a2 536870912) λj=>d (nT j)else d true
def hZ(a0:Fm)(a1:Tm):Option (Fm×Int):=b7 (vH a0 0 a1) λa b=>some (a,b)
def s8:Nat->Tm->Int->Option Bool
 |0,_,_=>none|n+1,a0,a1=>if df (cn a0.ad' 1) (cn a0.aec a1) false then some true else eB (cZ a0.aea)<|cB (λ(e:Int) (c:Tm)=>(λ(_:Unit)=>bU (jO a0) λa=>bU (s8 n c (c8 .i64 a1 a)) λb=>if b then some (.ret true)else some (.next ())):Int->Tm->(Unit)->(Option (dP (Unit) (Bool)))) λd=>bU (cY d a0.aea 0 ()) (dR (λ(_:Unit)=>some false) (λr=>some r))
def oJ:Nat->Fm->Int->Option Bool
 |0,_,_=>none|n+1,a0,a1=>eB (cZ a0.cx)<|cB (λ(h:Int) (d:Tm)=>(λ(_:Unit)=>bU (s8 FU d a1) λe=>if e then some (.ret true)else some (.next ())):Int->Tm->(Unit)->(Option (dP (Unit) (Bool)))) λf=>bU (cY f a0.cx 0 ()) (dR (λ(_:Unit)=>eB (cZ a0.aea)<|cB (λ(i:Int) (g:Fm)=>(λ(_:Unit)=>bU (lU a0) λa=>bU (oJ n g (c8 .i64 a1 a)) λb=>if b then some (.ret true)else some (.next ())):Int->Fm->(Unit)->(Option (dP (Unit) (Bool)))) λc=>bU (cY c a0.aea 0 ()) (dR (λ(_:Unit)=>some false) (λr=>some r))) (λr=>some r))
def lB:Nat->Fm->Option (Fm×Int)
 |0,_=>none|n+1,a0=>eB (cZ a0.cx)<|cB (λ(m:Int) (i:Tm)=>(λ(b:List Tm)=>hU (kz i 1000) λc k d=>if cF d 0 then some (.ret ((Fm.mk 0 (Ty.mk 0 []) [] []),d))else eB (dZ b [c])<|some (.next (eA b [c]))):Int->Tm->(List Tm)->(Option (dP (List Tm) (Fm×Int)))) λj=>bU (cY j a0.cx 0 []) (dR (λ(b:List Tm)=>eB (cZ a0.aea)<|cB (λ(l:Int) (g:Fm)=>(λ(a:List Fm)=>b7 (lB n g) λe f=>if cF f 0 then some (.ret ((Fm.mk 0 (Ty.mk 0 []) [] []),f))else eB (dZ a [e])<|some (.next (eA a [e]))):Int->Fm->(List Fm)->(Option (dP (List Fm) (Fm×Int)))) λh=>bU (cY h a0.aea 0 []) (dR (λ(a:List Fm)=>some ((Fm.mk a0.ad' a0.b8 b a),0)) (λr=>some r))) (λr=>some r))
def fp(a0:bZ)(a1:Tm)(a2:Int):Option Int:=b7 (iK a0.aed a1) λb a=>if cF a 0 then some a else if cF b.ad' a2 then some 7 else some 0
def h9:Nat->Fm->Option Bool
 |0,_=>none|n+1,a0=>if cn a0.ad' 1 then some false else if cn a0.ad' 2 then cB (λ(b:Bool)=>some b) λa=>bU (cr a0.aea 0) λc=>bU (h9 n c) λd=>if d then a true else bU (cr a0.aea 1) λe=>bU (h9 n e) λf=>a f else if cn a0.ad' 5 then some true else bU (cr a0.aea (dh .i64 (cI a0.aea) 1)) λg=>bU (h9 n g) λh=>some h
def ny(a0:Fm):Option (Bool×Int):=bU (iA a0) λb=>if cF b 0 then some (false,b)else bU (h9 FU a0) λa=>some (a,0)
mutual
def cA:Nat->bZ->Pf->Option (s9×Int)
 |0,_,_=>none|n+1,a0,a1=>hU (cu n a0 a1) λb g f=>if cF f 0 then some ((s9.mk (Fm.mk 0 (Ty.mk 0 []) [] []) []),f)else bU (iA b) λc=>if cF c 0 then some ((s9.mk (Fm.mk 0 (Ty.mk 0 []) [] []) []),4)else cB (λ(d:List Int)=>some ((s9.mk b d),0)) λa=>b7 (ny b) λe h=>if e then a g else a []
def cu:Nat->bZ->Pf->Option (Fm×(List Int)×Int)
 |0,_,_=>none|n+1,a0,a1=>if cn a1.ad' 1 then if qJ a1.aec (cI a0.aeg)then some ((Fm.mk 0 (Ty.mk 0 []) [] []),[],8)else bU (cr a0.aeg (dh .i64 (dh .i64 (cI a0.aeg) 1) a1.aec)) λp=>some (p,[],0)else if cn a1.ad' 2 then if qJ a1.aec (cI a0.lemmas)then some ((Fm.mk 0 (Ty.mk 0 []) [] []),[],9)else bU (cr a0.lemmas a1.aec) λq=>some (q,[],0)else if cn a1.ad' 3 then bU (cr a1.aea 0) λr=>b7 (cA n a0 r) λe f=>if cF f 0 then some ((Fm.mk 0 (Ty.mk 0 []) [] []),[],f)else bU (cr a1.aea 1) λs=>b7 (cA n a0 s) λg t=>bU (fZ 2 e.cd g.cd) λu=>bU (en e.eX g.eX) λv=>some (u,v,t)else if df (cn a1.ad' 4) true (cn a1.ad' 5)then bU (cr a1.aea 0) λw=>b7 (cA n a0 w) λb h=>if cF h 0 then some ((Fm.mk 0 (Ty.mk 0 []) [] []),[],h)else if cF b.cd.ad' 2 then some ((Fm.mk 0 (Ty.mk 0 []) [] []),[],10)else bU (cr b.cd.aea (dh .i64 a1.ad' 4)) λx=>some (x,b.eX,0)else if cn a1.ad' 6 then bU (cr a1.dy 0) λc=>bU (hW a0.aed c) λi=>if cF i 0 then some ((Fm.mk 0 (Ty.mk 0 []) [] []),[],i)else bU (cG a0 0 1) λj=>if cF j 0 then some ((Fm.mk 0 (Ty.mk 0 []) [] []),[],j)else bU (ee a0 c) λy=>bU (cr a1.aea 0) λz=>b7 (cA n y z) λk A=>bU (fZ 3 c k.cd) λB=>some (B,k.eX,A)else if cn a1.ad' 7 then bU (cr a1.aea 0) λC=>b7 (cA n a0 C) λa l=>if cF l 0 then some ((Fm.mk 0 (Ty.mk 0 []) [] []),[],l)else if cF a.cd.ad' 3 then some ((Fm.mk 0 (Ty.mk 0 []) [] []),[],10)else bU (cr a1.aea 1) λD=>b7 (cA n a0 D) λm o=>if cF o 0 then some ((Fm.mk 0 (Ty.mk 0 []) [] []),[],o)else bU (cr a.cd.aea 1) λE=>bU (en a.eX m.eX) λF=>bU (cr a.cd.aea 0) λG=>bU (kI G m.cd) λH=>some (E,F,H)else if df (cn a1.ad' 8) true (cn a1.ad' 12)then hU (lO n a0 a1) λI J K=>some (I,J,K)else if df (cn a1.ad' 9) true (cn a1.ad' 13)then hU (mq n a0 a1) λL M N=>some (L,M,N)else if df (cn a1.ad' 10) true (cn a1.ad' 14)then hU (mv n a0 a1) λO P Q=>some (O,P,Q)else if df (cn a1.ad' 11) true (cn a1.ad' 15)then hU (k1 n a0 a1) λR S T=>some (R,S,T)else if cn a1.ad' 16 then hU (nQ n a0 a1) λU V W=>some (U,V,W)else if cn a1.ad' 17 then hU (l8 n a0 a1) λX Y Z=>some (X,Y,Z)else if cn a1.ad' 18 then bU (cr a1.cx 0) λd=>bU (o_ d d) λaa=>bU (fp a0 d 1) λab=>some (aa,[],ab)else if cn a1.ad' 19 then hU (ma n a0 a1) λad ae af=>some (ad,ae,af)else hU (lT n a0 a1) λah ai ak=>some (ah,ai,ak)
def lO:Nat->bZ->Pf->Option (Fm×(List Int)×Int)
 |0,_,_=>none|n+1,a0,a1=>bU (cG a0 1 0) λj=>if cF j 0 then some ((Fm.mk 0 (Ty.mk 0 []) [] []),[],j)else bU (dk a0 [a1.b8]) λc=>bU (cr a1.aea 0) λd=>b7 (cA n c d) λa b=>if cF b 0 then some ((Fm.mk 0 (Ty.mk 0 []) [] []),[],b)else if cn a1.ad' 8 then bU (iW 4 a1.b8 a.cd) λe=>bU (et a.eX 1) λf=>some (e,f,0)else bU (pV a.eX) λg=>if g then some ((Fm.mk 0 (Ty.mk 0 []) [] []),[],12)else bU (iW 6 a1.b8 a.cd) λh=>bU (et a.eX 1) λi=>some (h,i,0)
def mq:Nat->bZ->Pf->Option (Fm×(List Int)×Int)
 |0,_,_=>none|n+1,a0,a1=>bU (cr a1.cx 0) λc=>b7 (iK a0.aed c) λl k=>if cF k 0 then some ((Fm.mk 0 (Ty.mk 0 []) [] []),[],k)else bU (cr a1.aea 0) λd=>b7 (cA n a0 d) λa b=>if cF b 0 then some ((Fm.mk 0 (Ty.mk 0 []) [] []),[],b)else bU (iQ c) λe=>bU (en a.eX e) λf=>if cF a.cd.ad' (df (cn a1.ad' 13) 6 4)then some ((Fm.mk 0 (Ty.mk 0 []) [] []),[],10)else bU (du FU a.cd.b8 l) λg=>if g then bU (cr a.cd.aea 0) λh=>b7 (hZ h c) λi j=>some (i,(df (cn a1.ad' 13) a.eX f),j)else some ((Fm.mk 0 (Ty.mk 0 []) [] []),[],7)
def mv:Nat->bZ->Pf->Option (Fm×(List Int)×Int)
 |0,_,_=>none|n+1,a0,a1=>bU (cr a1.dy 0) λa=>bU (cr a1.cx 0) λb=>bU (hW a0.aed a) λc=>if cF c 0 then some ((Fm.mk 0 (Ty.mk 0 []) [] []),[],c)else if cF a.ad' (df (cn a1.ad' 14) 7 5)then some ((Fm.mk 0 (Ty.mk 0 []) [] []),[],10)else b7 (iK a0.aed b) λg d=>if cF d 0 then some ((Fm.mk 0 (Ty.mk 0 []) [] []),[],d)else bU (du FU a.b8 g) λh=>if h then bU (cr a1.aea 0) λi=>bU (cr a.aea 0) λj=>b7 (dc n a0 i j b) λe k=>cB (λ(l:List Int)=>some (a,l,k)) λf=>if cn (df (cn a1.ad' 14) 7 5) 5 then bU (iQ b) λm=>bU (en e m) λo=>f o else f e else some ((Fm.mk 0 (Ty.mk 0 []) [] []),[],7)
def k1:Nat->bZ->Pf->Option (Fm×(List Int)×Int)
 |0,_,_=>none|n+1,a0,a1=>bU (cr a1.aea 0) λu=>b7 (cA n a0 u) λc g=>if cF g 0 then some ((Fm.mk 0 (Ty.mk 0 []) [] []),[],g)else if cF c.cd.ad' (df (cn a1.ad' 15) 7 5)then some ((Fm.mk 0 (Ty.mk 0 []) [] []),[],10)else bU (cG a0 1 1) λh=>if cF h 0 then some ((Fm.mk 0 (Ty.mk 0 []) [] []),[],h)else bU (dk a0 [c.cd.b8]) λv=>bU (cr c.cd.aea 0) λw=>bU (ee v w) λx=>bU (cr a1.aea 1) λy=>b7 (cA n x y) λb i=>if cF i 0 then some ((Fm.mk 0 (Ty.mk 0 []) [] []),[],i)else cB (λ(z:Int) (j:Int) (k:List Ty) (l:List Tm) (m:List Fm)=>cB (λ(v139:Bool)=>if v139 then some ((Fm.mk 0 (Ty.mk 0 []) [] []),[],12)else bU (fQ FU (Fm.mk z (Ty.mk j k) l m) 1 (-1)) λo=>bU (et b.eX 1) λp=>bU (en c.eX p) λq=>some (o,q,0)) λd=>if cn (df (cn a1.ad' 15) 7 5) 7 then bU (pV b.eX) λr=>d r else d false) λe=>bU (oJ FU b.cd 0) λs=>if s then b7 (lB FU b.cd) λa f=>if cF f 0 then some ((Fm.mk 0 (Ty.mk 0 []) [] []),[],f)else bU (oJ FU a 0) λt=>if t then some ((Fm.mk 0 (Ty.mk 0 []) [] []),[],6)else e a.ad' a.b8.ad' a.b8.aea a.cx a.aea else e b.cd.ad' b.cd.b8.ad' b.cd.b8.aea b.cd.cx b.cd.aea
def nQ:Nat->bZ->Pf->Option (Fm×(List Int)×Int)
 |0,_,_=>none|n+1,a0,a1=>bU (cr a1.dy 0) λa=>bU (cr a1.cx 0) λc=>bU (h7) λd=>eB (dZ a0.aed [d])<|bU (jd (eA a0.aed [d]) a) λe=>if cF e 0 then some ((Fm.mk 0 (Ty.mk 0 []) [] []),[],e)else bU (fp a0 c 1) λf=>if cF f 0 then some ((Fm.mk 0 (Ty.mk 0 []) [] []),[],f)else bU (cr a1.aea 0) λx=>bU (dO 4 []) λy=>b7 (dc n a0 x a y) λz g=>if cF g 0 then some ((Fm.mk 0 (Ty.mk 0 []) [] []),[],g)else bU (cG a0 1 1) λh=>if cF h 0 then some ((Fm.mk 0 (Ty.mk 0 []) [] []),[],h)else bU (h7) λi=>bU (dk a0 [i]) λj=>bU (ee j a) λk=>bU (cr a1.aea 1) λl=>bU (fQ FU a 1 1) λm=>bU (fa 0) λo=>bU (dO 5 [o]) λp=>b7 (dc n k l m p) λq b=>if cF b 0 then some ((Fm.mk 0 (Ty.mk 0 []) [] []),[],b)else b7 (hZ a c) λr s=>bU (iQ c) λt=>bU (en t z) λu=>bU (et q 1) λv=>bU (en u v) λw=>some (r,w,s)
def l8:Nat->bZ->Pf->Option (Fm×(List Int)×Int)
 |0,_,_=>none|n+1,a0,a1=>bU (cr a1.dy 0) λa=>bU (cr a1.cx 0) λc=>bU (lW) λd=>eB (dZ a0.aed [d])<|bU (jd (eA a0.aed [d]) a) λe=>if cF e 0 then some ((Fm.mk 0 (Ty.mk 0 []) [] []),[],e)else bU (fp a0 c 2) λf=>if cF f 0 then some ((Fm.mk 0 (Ty.mk 0 []) [] []),[],f)else bU (cr a1.aea 0) λA=>bU (dO 7 []) λB=>b7 (dc n a0 A a B) λC g=>if cF g 0 then some ((Fm.mk 0 (Ty.mk 0 []) [] []),[],g)else bU (cG a0 2 1) λh=>if cF h 0 then some ((Fm.mk 0 (Ty.mk 0 []) [] []),[],h)else bU (h7) λi=>bU (lW) λj=>bU (dk a0 [i,j]) λk=>bU (fQ FU a 1 1) λl=>bU (ee k l) λm=>bU (cr a1.aea 1) λo=>bU (fQ FU a 1 2) λp=>bU (fa 1) λq=>bU (fa 0) λr=>bU (dO 8 [q,r]) λs=>b7 (dc n m o p s) λt b=>if cF b 0 then some ((Fm.mk 0 (Ty.mk 0 []) [] []),[],b)else b7 (hZ a c) λu v=>bU (iQ c) λw=>bU (en w C) λx=>bU (et t 2) λy=>bU (en x y) λz=>some (u,z,v)
def ma:Nat->bZ->Pf->Option (Fm×(List Int)×Int)
 |0,_,_=>none|n+1,a0,a1=>bU (cr a1.dy 0) λi=>bU (h7) λb=>eB (dZ a0.aed [b])<|bU (jd (eA a0.aed [b]) i) λc=>if cF c 0 then some ((Fm.mk 0 (Ty.mk 0 []) [] []),[],c)else bU (cr a1.aea 0) λj=>b7 (cA n a0 j) λa d=>if cF d 0 then some ((Fm.mk 0 (Ty.mk 0 []) [] []),[],d)else if cF a.cd.ad' 1 then some ((Fm.mk 0 (Ty.mk 0 []) [] []),[],10)else bU (cr a1.aea 1) λk=>bU (cr a.cd.cx 0) λl=>b7 (dc n a0 k i l) λm e=>if cF e 0 then some ((Fm.mk 0 (Ty.mk 0 []) [] []),[],e)else bU (cr a.cd.cx 1) λf=>b7 (hZ i f) λg h=>some (g,m,h)
def lT:Nat->bZ->Pf->Option (Fm×(List Int)×Int)
 |0,_,_=>none|n+1,a0,a1=>bU (cr a1.aea 0) λf=>b7 (cA n a0 f) λa b=>if cF b 0 then some ((Fm.mk 0 (Ty.mk 0 []) [] []),[],b)else cB (λ(g:Bool)=>if g then some ((Fm.mk 0 (Ty.mk 0 []) [] []),[],10)else bU (cr a.cd.aea 0) λc=>bU (jv a.cd.b8 c.b8) λd=>bU (gO d) λh=>if cF h 0 then some ((Fm.mk 0 (Ty.mk 0 []) [] []),[],4)else bU (cr c.aea 0) λi=>bU (fQ FU i 2 1) λj=>bU (fa 1) λk=>bU (fa 0) λl=>bU (dO 3 [k,l]) λm=>b7 (hZ j m) λo p=>bU (iW 4 a.cd.b8 o) λq=>bU (iW 5 d q) λr=>some (r,a.eX,p)) λe=>if cF a.cd.ad' 4 then e true else bU (cr a.cd.aea 0) λs=>e (cF s.ad' 5)
def dc:Nat->bZ->Pf->Fm->Tm->Option ((List Int)×Int)
 |0,_,_,_,_=>none|n+1,a0,a1,a2,a3=>b7 (cA n a0 a1) λd e=>if cF e 0 then some ([],e)else b7 (hZ a2 a3) λb a=>if cF a 0 then some ([],a)else bU (kI b d.cd) λc=>some (d.eX,c)
end
def kK(a0:List Fm)(a1:Sq)(a2:Pf):Option (s9×Int):=bU (rM a0 a1) λe=>if cF e 0 then some ((s9.mk (Fm.mk 0 (Ty.mk 0 []) [] []) []),e)else bU (rZ a2) λb=>if cF b 0 then some ((s9.mk (Fm.mk 0 (Ty.mk 0 []) [] []) []),b)else b7 (cA FU (bZ.mk a0 a1.aed a1.aeg) a2) λa c=>if cF c 0 then some ((s9.mk (Fm.mk 0 (Ty.mk 0 []) [] []) []),c)else bU (kj FU a.cd) λd=>eB (dZ [] a.eX)<|some ((s9.mk d (eA [] a.eX)),0)
def lZ(a0:List Fm)(a1:Sq)(a2:Pf)(a3:Fm):Option Int:=b7 (kK a0 a1 a2) λd c=>if cF c 0 then some c else bU (hW a1.aed a3) λa=>if cF a 0 then some a else bU (kI d.cd a3) λb=>some b
def qa(a0:List Fm)(a1:Sq)(a2:Pf)(a3:Fm):Option Bool:=bU (lZ a0 a1 a2 a3) λa=>some (df (cn a 0) true (df (cn a 4) true (df (cn a 5) true (cn a 3))))
def lL:Nat->cH->(List Ty)->Int->Option (Fm×cH)
 |0,_,_,_=>none|n+1,a0,a1,a2=>cB (λ(f:cH)=>bU (h7) λb=>b7 (fH FU f a1 b 1) λg d259=>b7 (fH FU d259 a1 b 1) λh d262=>bU (o_ g h) λi=>some (i,d262)) λc=>if nG a2 0 then b7 (gz a0 7) λa d122=>if cn a 0 then b7 (lL n d122 a1 (dh .i64 a2 1)) λj d133=>b7 (lL n d133 a1 (dh .i64 a2 1)) λk d136=>bU (fZ 2 j k) λl=>some (l,d136)else if df (cn a 1) true (cn a 2)then b7 (lL n d122 a1 (dh .i64 a2 1)) λm d152=>b7 (lL n d152 a1 (dh .i64 a2 1)) λo d155=>bU (fZ 3 m o) λp=>some (p,d155)else if df (cn a 3) true (cn a 4)then b7 (jM FU d122 0) λd d166=>bU (ml a1 [d]) λq=>b7 (lL n d166 q (dh .i64 a2 1)) λr d192=>bU (iW 4 d r) λs=>some (s,d192)else if cn a 5 then b7 (jM FU d122 0) λe d200=>bU (ml a1 [e]) λt=>b7 (lL n d200 t (dh .i64 a2 1)) λu d226=>bU (iW 5 e u) λv=>some (v,d226)else c d122 else c a0
def ot:Option Fm:=bU (dO 4 []) λd=>bU (dO 4 []) λa=>bU (dO 5 [a]) λb=>bU (o_ d b) λc=>some c
def rJ(a0:Fm)(a1:Pf):Option Int:=bU (e9 a0) λe=>if cF e 0 then some e else bU (mD a1) λe=>some e
def uA(a0:Int)(a1:List Pf):Option Pf:=some (Pf.mk a0 0 (Ty.mk 0 []) [] [] a1)
def sl(a0:Fm)(a1:Pf):Option Pf:=some (Pf.mk 6 0 (Ty.mk 0 []) [] [a0] [a1])
def yw(a0:Ty)(a1:Pf):Option Pf:=some (Pf.mk 8 0 a0 [] [] [a1])
def jV(a0:Ty):Option Int:=b7 (gH a0) λb a=>some a
def e_:Nat->Ty->Option Tm
 |0,_=>none|n+1,a0=>if cn a0.ad' 2 then bU (kx 7 []) λl=>some l else if cn a0.ad' 5 then bU (kx 13 []) λm=>some m else if cn a0.ad' 3 then bU (cr a0.aea 0) λa=>bU (e_ n a) λb=>bU (cr a0.aea 1) λc=>bU (e_ n c) λd=>bU (kx 10 [b,d]) λe=>some e else if cn a0.ad' 4 then bU (cr a0.aea 1) λf=>bU (e_ n f) λg=>bU (cr a0.aea 0) λh=>bU (ik FU h) λi=>bU (qP g [i]) λj=>some j else bU (kx 4 []) λk=>some k
def pA(a0:Ty):Option (Tm×Int):=bU (jV a0) λb=>if cF b 0 then some ((Tm.mk 0 0 (Ty.mk 0 []) []),b)else bU (e_ FU a0) λa=>some (a,0)
def sQ(a0:Fm):Option (Int×Int):=b7 (ez a0) λa b=>some (a,b)
def wU(a0:Tm):Option (Int×Int):=b7 (ib a0) λa b=>some (a,b)
def g_(a0:Tm)(a1 a b:Int):Option Int:=bU (rH a0 (c8 .i64 b a1)) λc=>some (c8 .i64 a c)
def hQ(a0:Fm)(a1:Int):Option Int:=bU (gU FU a0 0 (λ(s:Int) (a:Tm) (b:Int)=>g_ a b s a1) 0) λc=>some c
def mN(a0 a1 a:Int)(b:Tm):Option Tm:=if cn (dh .i64 a0 a1) a then bU (oP b 0 (c8 .i64 a a1)) λc=>some c else if nG (dh .i64 a0 a1) a then bU (fu (dh .i64 a0 1)) λd=>some d else bU (fu a0) λe=>some e
def yF(a0:Tm)(a1:Int)(a2:Tm):Option Tm:=b7 (mY a0 (λ(s:Unit) (a:Int) (b:Int)=>nc (mN a b a1 a2) s) ()) λc d=>some c
def gB(a0:Tm)(a1 a:Int)(b:Tm):Option Tm:=bU (yF a0 (c8 .i64 a a1) b) λc=>some c
def il(a0:Fm)(a1:Int)(a2:Tm):Option Fm:=b7 (cN FU a0 0 (λ(s:Unit) (a:Tm) (b:Int)=>nc (gB a b a1 a2) s) ()) λc d=>some c
def pU(a0:Fm)(a1:Int)(a2:Tm):Option (Fm×Int):=b7 (sQ a0) λk j=>if cF j 0 then some ((Fm.mk 0 (Ty.mk 0 []) [] []),j)else bU (jZ a1) λc=>if c then b7 (wU a2) λd a=>if cF a 0 then some ((Fm.mk 0 (Ty.mk 0 []) [] []),a)else cB (λ(e:Bool)=>if e then some ((Fm.mk 0 (Ty.mk 0 []) [] []),1)else bU (hQ a0 a1) λf=>if nG (c8 .i64 k (zL .i64 f (dh .i64 d 1))) 4096 then some ((Fm.mk 0 (Ty.mk 0 []) [] []),4)else bU (il a0 a1 a2) λg=>some (g,0)) λb=>bU (kR a0) λh=>if h then bU (oC a2) λi=>b (nT i)else b true else some ((Fm.mk 0 (Ty.mk 0 []) [] []),1)
def Aa(a0:Fm)(a1:Tm)(a2:Pf):Option Pf:=some (Pf.mk 10 0 (Ty.mk 0 []) [a1] [a0] [a2])
def p5(a0:Tm)(a1:Int):Option Tm:=bU (oP a0 0 a1) λa=>some a
def rP(a0 a1 a2:Tm):Option Tm:=bU (jT) λa=>bU (p5 a1 2) λb=>bU (jT) λc=>bU (jT) λd=>bU (qP b [c,d]) λe=>bU (vG 6 a a0 e a2) λf=>some f
def yh(a0:Tm):Option Pf:=some (Pf.mk 18 0 (Ty.mk 0 []) [a0] [] [])
def wV(a0:Fm)(a1 a2:Pf):Option Pf:=some (Pf.mk 19 0 (Ty.mk 0 []) [] [a0] [a1,a2])
def eN:Nat->cL->Fm->Int->Option (Pf×cL)
 |0,_,_,_=>none|n+1,a0,a1,a2=>b7 (ez a1) λe J=>if df (sg (dh .i64 a0.room e) 0) true (cF J 0)then bU (vL a2) λH=>some (H,(cL.mk (-1)))else if cn a1.ad' 2 then bU (cr a1.aea 0) λf=>b7 (eN n (cL.mk (dh .i64 a0.room e)) f a2) λg d238=>bU (cr a1.aea 1) λh=>b7 (eN n d238 h a2) λi d243=>bU (uA 3 [g,i]) λj=>some (j,d243)else if cn a1.ad' 3 then bU (cr a1.aea 0) λk=>bU (cr a1.aea 1) λl=>b7 (eN n (cL.mk (dh .i64 a0.room e)) l (c8 .i64 a2 1)) λm d279=>bU (sl k m) λo=>some (o,d279)else if df (cn a1.ad' 4) true (cn a1.ad' 6)then bU (cr a1.aea 0) λp=>b7 (eN n (cL.mk (dh .i64 a0.room e)) p a2) λq d310=>bU (yw a1.b8 q) λa=>some ((Pf.mk (df (cn a1.ad' 6) 12 a.ad') a.aec a.b8 a.cx a.dy a.aea),d310)else if df (cn a1.ad' 5) true (cn a1.ad' 7)then b7 (pA a1.b8) λd I=>bU (cr a1.aea 0) λr=>b7 (pU r 0 d) λs t=>if cF t 0 then bU (vL a2) λu=>some (u,(cL.mk (-1)))else b7 (eN n (cL.mk (dh .i64 a0.room e)) s a2) λv w=>bU (Aa a1 d v) λb=>some ((Pf.mk (df (cn a1.ad' 7) 14 b.ad') b.aec b.b8 b.cx b.dy b.aea),w)else bU (cr a1.cx 0) λc=>bU (cr a1.cx 1) λx=>bU (p5 c 1) λy=>bU (p5 c 1) λz=>bU (p5 x 1) λA=>bU (fu 0) λB=>bU (rP z A B) λC=>bU (l0 y C) λD=>bU (vL a2) λE=>bU (yh c) λF=>bU (wV D E F) λG=>some (G,(cL.mk (dh .i64 a0.room e)))
def rD:Option Fm:=bU (kx 4 []) λd=>bU (kx 4 []) λa=>bU (kx 5 [a]) λb=>bU (l0 d b) λc=>some c
def uz(a0 a1:Pf):Option Pf:=bU (uA 7 [a0,a1]) λa=>some a
def qQ(a0:Fm)(a1:Pf):Option (Pf×Bool):=b7 (eN FU (cL.mk 262144) a0 0) λd d5=>bU (rD) λa=>bU (sl a d) λb=>bU (uz b a1) λc=>some (c,(qJ d5.room 0))
def uP(a0:Pf):Option (Pf×Int):=bU (mD a0) λb=>if cF b 0 then some ((Pf.mk 0 0 (Ty.mk 0 []) [] [] []),4)else bU (ns a0) λa=>some (a,0)
def mw(a0:Fm)(a1:Pf):Option (Pf×Int):=bU (rJ a0 a1) λe=>if cF e 0 then some ((Pf.mk 0 0 (Ty.mk 0 []) [] [] []),e)else b7 (qQ a0 a1) λa b=>if b then b7 (uP a) λc d=>some (c,d)else some ((Pf.mk 0 0 (Ty.mk 0 []) [] [] []),4)
def hO(a0 a1:Fm):Option (Pf×Int):=bU (e9 a0) λe=>if cF e 0 then some (xO,e)else bU (e9 a1) λe=>if cF e 0 then some (xO,e)else bU (rD) λno=>bU (jY a0 (nj (B7 a1 no) a1)) λe=>if cF e 0 then some (xO,e)else bU (ep FU a0 a1 0) λt=>bU (ep FU a0 no 0) λu=>b7 (mw a0 (dU 0)) λp e=>if cF e 0 then some (xO,4)else b7 (iC FU a0 a1 0 1048576) λq rm=>xw (gL (B7 t u) (fP q (gL (nj t a0) (fP (fP (dU 1) (gL t (gL (nj no a0) (fP (dU 2) (dU 1))))) (gL no p))))) rm
def k9(a0:List Int):Option Bool:=bU (tY) λx=>if x then bU (Fy a0) λu=>if u then bU (MI a0) λv=>b7 (tk v) λf d25=>b7 (lL FU d25 f 1) λb d34=>b7 (lL FU d34 f 2) λc d37=>b7 (jI b c) λh g=>b7 (jy b c) λw d=>if df (cF g 0) true (cF d 0)then some (df (cn g 0) (df (cn d 0) true (cn d 4)) (df (cn g 4) (df (cn d 0) true (cn d 4)) false))else bU (fZ 3 h b) λi=>bU (fZ 3 i b) λj=>bU (fZ 3 j h) λk=>bU (qa [] (Sq.mk f []) w k) λl=>if l then bU (ot) λm=>bU (fZ 3 c m) λn=>bU (ot) λo=>bU (fZ 3 n o) λp=>bU (fZ 3 p c) λq=>b7 (jI b q) λr e=>b7 (hO b c) λs a=>if df (cF e 0) true (cF a 0)then some (df (cn e 0) (df (cn a 0) true (cn a 4)) (df (cn e 4) (df (cn a 0) true (cn a 4)) false))else bU (qa [] (Sq.mk f []) s r) λt=>some t else some false else some true else some false
def py(a0:List Ty):Option Int:=if nG (cI a0) 16 then some 3 else eB (cZ a0)<|cB (λ(d:Int) (b:Ty)=>(λ(_:Unit)=>bU (jV b) λa=>if cF a 0 then some (.ret a)else some (.next ())):Int->Ty->(Unit)->(Option (dP (Unit) (Int)))) λc=>bU (cY c a0 0 ()) (dR (λ(_:Unit)=>some 0) (λr=>some r))
def nw(a0:Ty):Option cj:=b7 (gH a0) λa b=>some (cj.mk a0 a)
def p4(a0:List Ty):Option (List cj):=eB (cZ a0)<|cB (λ(d:Int) (b:Ty)=>(λ(v40:List cj)=>bU (nw b) λa=>eB (dZ v40 [a])<|some (.next (eA v40 [a]))):Int->Ty->(List cj)->(Option (dP (List cj) (List cj)))) λc=>bU (cY c a0 0 []) (dR (λ(v40:List cj)=>some v40) (λr=>some r))
def eW(a0:List cj)(a1:List Ty):Option (List cj):=bU (p4 a1) λa=>eB (dZ a0 a)<|some (eA a0 a)
def uS(a0:Int)(a1 a2:cj):Option (cj×Int):=if nG (c8 .i64 (c8 .i64 1 a1.aeb) a2.aeb) 64 then some ((cj.mk (Ty.mk 0 []) 0),4)else some ((cj.mk (Ty.mk a0 [a1.b8,a2.b8]) (c8 .i64 (c8 .i64 1 a1.aeb) a2.aeb)),0)
def jL(a0:Int):Option (List Int):=if cn a0 4 then some [1] else if cn a0 5 then some [1,1] else if cn a0 7 then some [2] else if cn a0 8 then some [2,1,2] else if cn a0 13 then some [5] else some []
def ji(a0:cj)(a1:Int):Option Bool:=some (cn a0.b8.ad' a1)
def kb(a0:cj)(a1:Int):Option cj:=bU (cr a0.b8.aea a1) λa=>bU (nw a) λb=>some b
def lH(a0 a1:cj):Option Bool:=cB (λ(v6:Bool)=>some v6) λa=>if cn a0.aeb a1.aeb then bU (fo FU a0.b8 a1.b8) λb=>a b else a false
def Cq:Option Ty:=some (Ty.mk 2 [])
def pj(a0:Ty)(a1:List Ty):Option Ty:=cB ((TS λ(a:Int) (v49:Int) (b:List Ty)=>if qJ a 0 then bU (cr a1 a) λc=>some (.next ((dh .i64 a 1),4,[c,(Ty.mk v49 b)]))else some (.H9 (a,v49,b))):(Int×Int×(List Ty))->(Option (dP (Int×Int×(List Ty)) (Ty)))) λd=>bU (nY d FU ((dh .i64 (cI a1) 1),a0.ad',a0.aea)) (dR (TS λ(a:Int) (v49:Int) (b:List Ty)=>some (Ty.mk v49 b)) (λr=>some r))
def sm(a0:Tm):Option Ty:=if cn a0.ad' 9 then bU (jT) λa=>bU (Cq) λb=>bU (pj a0.b8 [a,b,a0.b8]) λc=>some c else bU (jT) λd=>bU (pj a0.b8 [d,a0.b8]) λe=>some e
def eL(a0:Tm)(a1:cj×cj×cj):Option (cj×Int):=bU (jL a0.ad') λa=>if nG (cI a) 0 then bU (JS a 1 (cI a)) λf=>eB (cZ f)<|cB (λ(b:Int) (c:Int)=>(λ(_:Unit)=>cB (λ(v222:Bool)=>if v222 then some (.ret ((cj.mk (Ty.mk 0 []) 0),7))else some (.next ())) λd=>if cn b 0 then bU (ji a1.1 c) λi=>d (nT i)else if cn b 1 then bU (ji a1.2.1 c) λj=>d (nT j)else eB (cn b 2)<|bU (ji a1.2.2 c) λk=>d (nT k)):Int->Int->(Unit)->(Option (dP (Unit) (cj×Int)))) λl=>bU (cY l f 0 ()) (dR (λ(_:Unit)=>bU (cr a 0) λm=>bU (nw (Ty.mk m [])) λn=>some (n,0)) (λr=>some r))else if cn a0.ad' 3 then cB (λ(o:Bool)=>if o then some ((cj.mk (Ty.mk 0 []) 0),7)else bU (kb a1.1 1) λp=>some (p,0)) λg=>bU (ji a1.1 4) λq=>if q then bU (kb a1.1 0) λs=>bU (lH s a1.2.1) λt=>g (nT t)else g true else if df (cn a0.ad' 6) true (cn a0.ad' 9)then bU (nw a0.b8) λh=>cB (λ(u:Bool)=>if u then some ((cj.mk (Ty.mk 0 []) 0),7)else some (h,0)) λe=>bU (lH a1.1 h) λv=>if v then bU (sm a0) λw=>bU (fo FU a1.2.1.b8 w) λx=>if x then bU (ji a1.2.2 (df (cn a0.ad' 9) 2 1)) λy=>e (nT y)else e true else e true else if cn a0.ad' 10 then b7 (uS 3 a1.1 a1.2.1) λz A=>some (z,A)else bU (ji a1.1 3) λB=>if B then if cn a0.ad' 11 then bU (kb a1.1 0) λC=>some (C,0)else bU (kb a1.1 1) λD=>some (D,0)else some ((cj.mk (Ty.mk 0 []) 0),7)
def cS:Nat->(List cj)->Tm->Option (cj×Int)
 |0,_,_=>none|n+1,a0,a1=>if cn a1.ad' 1 then if qJ a1.aec (cI a0)then some ((cj.mk (Ty.mk 0 []) 0),6)else bU (cr a0 (dh .i64 (dh .i64 (cI a0) 1) a1.aec)) λF=>some (F,0)else if cn a1.ad' 2 then bU (nw a1.b8) λk=>eB (dZ a0 [k])<|bU (cr a1.aea 0) λB=>b7 (cS n (eA a0 [k]) B) λC l=>if cF l 0 then some ((cj.mk (Ty.mk 0 []) 0),l)else b7 (uS 4 k C) λD E=>some (D,E)else eB (cZ a1.aea)<|cB (λ(i:Int) (m:Tm)=>(YM λ(b:Int) (c:List Ty) (v218:Int) (d:Int) (e:List Ty) (f:Int) (v222:Int) (g:List Ty) (h:Int)=>cB (λ(o:Int) (p:List Ty) (q:Int) (s:Int) (t:List Ty) (u:Int) (v:Int) (w:List Ty) (x:Int)=>some (.next (o,p,q,s,t,u,v,w,x))) λj250=>b7 (cS n a0 m) λa j=>if cF j 0 then some (.ret ((cj.mk (Ty.mk 0 []) 0),j))else if cn i 0 then j250 a.b8.ad' a.b8.aea a.aeb d e f v222 g h else if cn i 1 then j250 b c v218 a.b8.ad' a.b8.aea a.aeb v222 g h else eB (cn i 2)<|j250 b c v218 d e f a.b8.ad' a.b8.aea a.aeb):Int->Tm->(Int×(List Ty)×Int×Int×(List Ty)×Int×Int×(List Ty)×Int)->(Option (dP (Int×(List Ty)×Int×Int×(List Ty)×Int×Int×(List Ty)×Int) (cj×Int)))) λy=>bU (cY y a1.aea 0 (0,[],0,0,[],0,0,[],0)) (dR (YM λ(b:Int) (c:List Ty) (v218:Int) (d:Int) (e:List Ty) (f:Int) (v222:Int) (g:List Ty) (h:Int)=>b7 (eL a1 ((cj.mk (Ty.mk b c) v218),(cj.mk (Ty.mk d e) f),(cj.mk (Ty.mk v222 g) h))) λz A=>some (z,A)) (λr=>some r))
def iw(a0:List cj)(a1:Tm)(a2:Int):Option Int:=b7 (cS FU a0 a1) λd c=>cB (λ(v21:Bool)=>if v21 then some 7 else some c) λa=>if cn c 0 then bU (ji d a2) λb=>a (nT b)else a false
def hY(a0:List cj)(a1:Tm):Option Int:=bU (iw a0 a1 1) λa=>some a
def cR:Nat->(List cj)->Fm->Option Int
 |0,_,_=>none|n+1,a0,a1=>cB (λ(e:List cj)=>eB (cZ a1.aea)<|cB (λ(k:Int) (f:Fm)=>(λ(_:Unit)=>bU (cR n e f) λa=>if cF a 0 then some (.ret a)else some (.next ())):Int->Fm->(Unit)->(Option (dP (Unit) (Int)))) λg=>bU (cY g a1.aea 0 ()) (dR (λ(_:Unit)=>some 0) (λr=>some r))) λb=>cB (bU (eW a0 [a1.b8]) λh=>b h) λc=>if df (cn a1.ad' 4) true (cn a1.ad' 5)then c else if df (cn a1.ad' 6) true (cn a1.ad' 7)then c else if df (cn a1.ad' 2) true (cn a1.ad' 3)then b a0 else eB (cZ a1.cx)<|cB (λ(l:Int) (i:Tm)=>(λ(_:Unit)=>bU (hY a0 i) λd=>if cF d 0 then some (.ret d)else some (.next ())):Int->Tm->(Unit)->(Option (dP (Unit) (Int)))) λj=>bU (cY j a1.cx 0 ()) (dR (λ(_:Unit)=>some 0) (λr=>some r))
def pe(a0:List Ty)(a1:Fm):Option Int:=bU (py a0) λd=>if cF d 0 then some d else bU (e9 a1) λa=>if cF a 0 then some a else bU (p4 a0) λb=>bU (cR FU b a1) λc=>some c
def x4(a0:List Fm)(a1:Sq):Option Int:=if nG (cI a0) 32 then some 3 else eB (cZ a0)<|cB (λ(h:Int) (d:Fm)=>(λ(_:Unit)=>bU (pe [] d) λa=>if cF a 0 then some (.ret a)else some (.next ())):Int->Fm->(Unit)->(Option (dP (Unit) (Int)))) λe=>bU (cY e a0 0 ()) (dR (λ(_:Unit)=>bU (py a1.aed) λb=>if cF b 0 then some b else if nG (cI a1.aeg) 16 then some 3 else eB (cZ a1.aeg)<|cB (λ(i:Int) (f:Fm)=>(λ(_:Unit)=>bU (pe a1.aed f) λc=>if cF c 0 then some (.ret c)else some (.next ())):Int->Fm->(Unit)->(Option (dP (Unit) (Int)))) λg=>bU (cY g a1.aeg 0 ()) (dR (λ(_:Unit)=>some 0) (λr=>some r))) (λr=>some r))
def B1:Option Unit:=some ()
def ef(a0:cp)(a1:Fm):Option cp:=eB (dZ a0.known [(c0.mk a1 a0.eT.vars)])<|some (cp.mk (fR.mk a0.eT.vars (c8 .i64 a0.eT.aeg 1)) a0.aed (eA a0.known [(c0.mk a1 a0.eT.vars)]))
def wN(a0:Sq):Option cp:=bU (p4 a0.aed) λg=>eB (cZ a0.aeg)<|cB (λ(h:Int) (e:Fm)=>(Zk λ(b:Int) (v46:Int) (c:List cj) (d:List c0)=>bU (ef (cp.mk (fR.mk b v46) c d) e) λa=>some (.next (a.eT.vars,a.eT.aeg,a.aed,a.known))):Int->Fm->(Int×Int×(List cj)×(List c0))->(Option (dP (Int×Int×(List cj)×(List c0)) (cp)))) λf=>bU (cY f a0.aeg 0 ((cI a0.aed),0,g,[])) (dR (Zk λ(b:Int) (v46:Int) (c:List cj) (d:List c0)=>some (cp.mk (fR.mk b v46) c d)) (λr=>some r))
def mj(a0:cp)(a1:Int):Option (Fm×Bool):=if qJ a1 (cI a0.known)then some ((Fm.mk 0 (Ty.mk 0 []) [] []),false)else bU (cr a0.known (dh .i64 (dh .i64 (cI a0.known) 1) a1)) λa=>bU (da a.cd 0 (dh .i64 a0.eT.vars a.vars)) λb=>some (b,true)
def uj(a0:List Fm)(a1:Pf)(a2:cp):Option (b0×Int):=b7 (mj a2 a1.aec) λa b=>if b then some ((b0.mk a 0),0)else some ((b0.mk (Fm.mk 0 (Ty.mk 0 []) [] []) 0),8)
def sb(a0:List Fm)(a1:Pf)(a2:cp):Option (b0×Int):=if qJ a1.aec (cI a0)then some ((b0.mk (Fm.mk 0 (Ty.mk 0 []) [] []) 0),9)else bU (cr a0 a1.aec) λa=>some ((b0.mk a 0),0)
def cM(a0:fR)(a1 a2:Int):Option Int:=if df (nG (c8 .i64 a0.vars a1) 16) true (nG (c8 .i64 a0.aeg a2) 16)then some 3 else some 0
def si(a0:Tm):Option Int:=b7 (ib a0) λb a=>some a
def uc(a0 a1:Tm):Option Bool:=bU (iJ FU a0 a1) λa=>some a
def jQ(a0 a1:Int)(a2:Ty)(a3:(List (Option Nat)))(nh:List HC):Option ((Option Nat)×List HC):=eB (cZ a3)<|cB (λ(l:Int) (h:Option Nat)=>(λ(b:List HC)=>bU (HC.b_ b (List.length nh)) λa=>bU (h) λg=>bU (HC.b_ b g) λe=>bU (HC.b_ (nb b (List.length nh) (HC.dK (dC.mk a.ad' a.aec a.yn a.aea (c8 .i64 a.size e.size) a.free a.normal))) g) λi=>some (.next (nb (nb b (List.length nh) (HC.dK (dC.mk a.ad' a.aec a.yn a.aea (c8 .i64 a.size e.size) a.free a.normal))) (List.length nh) (HC.dK (dC.mk a.ad' a.aec a.yn a.aea (c8 .i64 a.size e.size) (imax a.free i.free) a.normal))))):Int->(Option Nat)->(List HC)->(Option (dP (List HC) ((Option Nat)×List HC)))) λj=>bU (cY j a3 0 (nh++[HC.dK (dC.mk a0 a1 a2 a3 1 0 false)])) (dR (λ(b:List HC)=>cB (λ(k:List HC)=>some ((some (List.length nh)),k)) λf=>if cn a0 1 then bU (HC.b_ b (List.length nh)) λd=>f (nb b (List.length nh) (HC.dK (dC.mk d.ad' d.aec d.yn d.aea d.size (c8 .i64 a1 1) d.normal)))else if cn a0 2 then bU (HC.b_ b (List.length nh)) λc=>f (nb b (List.length nh) (HC.dK (dC.mk c.ad' c.aec c.yn c.aea c.size (imax 0 (dh .i64 c.free 1)) c.normal)))else f b) (λr=>some r))
def tx:Nat->Tm->List HC->Option ((Option Nat)×List HC)
 |0,_,_=>none|n+1,a0,nh=>eB (cZ a0.aea)<|cB (λ(h:Int) (e:Tm)=>(sa λ(v51:(List (Option Nat))) (a:List HC)=>b7 (tx n e a) λb c=>eB (dZ v51 [b])<|some (.next ((eA v51 [b]),c))):Int->Tm->((List (Option Nat))×List HC)->(Option (dP ((List (Option Nat))×List HC) ((Option Nat)×List HC)))) λf=>bU (cY f a0.aea 0 ([],nh)) (dR (sa λ(v51:(List (Option Nat))) (a:List HC)=>b7 (jQ a0.ad' a0.aec a0.b8 v51 a) λg d=>some (g,d)) (λr=>some r))
def xB(a0:Option Nat)(nh:List HC):Option Int:=bU (a0) λa=>bU (HC.b_ nh a) λb=>some b.size
def oQ(a0:Option Nat)(nh:List HC):Option Bool:=bU (a0) λn=>bU (HC.b_ nh n) λa=>if cn a.ad' 3 then bU (cr a.aea 0) λo=>bU (o) λp=>bU (HC.b_ nh p) λq=>some (cn q.ad' 2)else if cn a.ad' 6 then cB (λ(r:Bool)=>some r) λb=>bU (cr a.aea 2) λf=>bU (f) λg=>bU (HC.b_ nh g) λc=>if cn c.ad' 4 then b true else b (cn c.ad' 5)else if cn a.ad' 9 then cB (λ(h:Bool)=>some h) λd=>bU (cr a.aea 2) λi=>bU (i) λj=>bU (HC.b_ nh j) λe=>if cn e.ad' 7 then d true else d (cn e.ad' 8)else if df (cn a.ad' 11) true (cn a.ad' 12)then bU (cr a.aea 0) λk=>bU (k) λl=>bU (HC.b_ nh l) λm=>some (cn m.ad' 10)else some false
def iD(a0:Option Nat)(nh:List HC):Option Int:=bU (a0) λa=>bU (HC.b_ nh a) λb=>if cn b.ad' 2 then some 1 else some 0
def mh:Nat->(Option Nat)->Int->List HC->Option Int
 |0,_,_,_=>none|n+1,a0,a1,nh=>bU (a0) λc=>bU (HC.b_ nh c) λa=>if DU a.free a1 then some 0 else if cn a.ad' 1 then if cn a.aec a1 then some 1 else some 0 else eB (cZ a.aea)<|cB (λ(h:Int) (d:Option Nat)=>(λ(b:Int)=>bU (iD (some c) nh) λe=>bU (mh n d (c8 .i64 a1 e) nh) λf=>some (.next (c8 .i64 b f))):Int->(Option Nat)->(Int)->(Option (dP (Int) (Int)))) λg=>bU (cY g a.aea 0 0) (dR (λ(b:Int)=>some b) (λr=>some r))
def fO(a0:Option Nat)(a1:(List (Option Nat)))(nh:List HC):Option ((Option Nat)×List HC):=bU (a0) λc=>bU (HC.b_ nh c) λa=>b7 (jQ a.ad' a.aec a.yn a1 nh) λd b=>some (d,b)
def ng:Nat->(Option Nat)->Int->Int->List HC->Option ((Option Nat)×List HC)
 |0,_,_,_,_=>none|n+1,a0,a1,a2,nh=>cB (λ(v21:Bool)=>if v21 then some (a0,nh)else bU (a0) λe=>bU (HC.b_ nh e) λc=>if cn c.ad' 1 then b7 (jQ c.ad' (c8 .i64 c.aec a2) c.yn [] nh) λo h=>some (o,h)else eB (cZ c.aea)<|cB (λ(s:Int) (i:Option Nat)=>(sa λ(a:(List (Option Nat))) (b:List HC)=>bU (iD (some e) b) λj=>b7 (ng n i (c8 .i64 a1 j) a2 b) λd f=>eB (dZ a [d])<|some (.next ((eA a [d]),f))):Int->(Option Nat)->((List (Option Nat))×List HC)->(Option (dP ((List (Option Nat))×List HC) ((Option Nat)×List HC)))) λk=>bU (cY k c.aea 0 ([],nh)) (dR (sa λ(a:(List (Option Nat))) (b:List HC)=>b7 (fO (some e) a b) λl g=>some (l,g)) (λr=>some r))) λm=>bU (a0) λp=>bU (HC.b_ nh p) λq=>if DU q.free a1 then m true else m (cn a2 0)
def oo:Nat->(Option Nat)->Int->(Option Nat)->List HC->Option ((Option Nat)×List HC)
 |0,_,_,_,_=>none|n+1,a0,a1,a2,nh=>bU (a0) λd=>bU (HC.b_ nh d) λa=>if DU a.free a1 then some (a0,nh)else if cn a.ad' 1 then if cn a.aec a1 then b7 (ng FU a2 0 a1 nh) λm g=>some (m,g)else b7 (jQ a.ad' (dh .i64 a.aec 1) a.yn [] nh) λo h=>some (o,h)else eB (cZ a.aea)<|cB (λ(p:Int) (i:Option Nat)=>(sa λ(v131:(List (Option Nat))) (b:List HC)=>bU (iD (some d) b) λj=>b7 (oo n i (c8 .i64 a1 j) a2 b) λc e=>eB (dZ v131 [c])<|some (.next ((eA v131 [c]),e))):Int->(Option Nat)->((List (Option Nat))×List HC)->(Option (dP ((List (Option Nat))×List HC) ((Option Nat)×List HC)))) λk=>bU (cY k a.aea 0 ([],nh)) (dR (sa λ(v131:(List (Option Nat))) (b:List HC)=>b7 (fO (some d) v131 b) λl f=>some (l,f)) (λr=>some r))
def sX(a0:Option Nat)(a1:(List (Option Nat)))(nh:List HC):Option ((Option Nat)×List HC):=eB (cZ a1)<|cB (λ(g:Int) (d:Option Nat)=>(sa λ(a:Option Nat) (b:List HC)=>b7 (jQ 3 0 (Ty.mk 0 []) [a,d] b) λe c=>some (.next (e,c))):Int->(Option Nat)->((Option Nat)×List HC)->(Option (dP ((Option Nat)×List HC) ((Option Nat)×List HC)))) λf=>bU (cY f a1 0 (a0,nh)) (dR (sa λ(a:Option Nat) (b:List HC)=>some (a,b)) (λr=>some r))
def l7(a0:Option Nat)(nh:List HC):Option ((Option Nat)×List HC):=bU (a0) λj=>bU (HC.b_ nh j) λa=>if cn a.ad' 3 then bU (cr a.aea 0) λk=>bU (k) λl=>bU (HC.b_ nh l) λm=>bU (cr m.aea 0) λn=>bU (cr a.aea 1) λo=>b7 (oo FU n 0 o nh) λp g=>some (p,g)else if cn a.ad' 11 then bU (cr a.aea 0) λq=>bU (q) λr=>bU (HC.b_ nh r) λs=>bU (cr s.aea 0) λt=>some (t,nh)else if cn a.ad' 12 then bU (cr a.aea 0) λu=>bU (u) λv=>bU (HC.b_ nh v) λw=>bU (cr w.aea 1) λx=>some (x,nh)else bU (cr a.aea 0) λd=>bU (cr a.aea 1) λe=>bU (cr a.aea 2) λy=>bU (y) λf=>bU (HC.b_ nh f) λb=>if cn (cI b.aea) 0 then some (d,nh)else bU (cr b.aea (dh .i64 (cI b.aea) 1)) λz=>b7 (fO (some j) [d,e,z] nh) λA c=>bU (HC.b_ c f) λB=>b7 (sX e B.aea c) λC h=>b7 (sX C [A] h) λD i=>some (D,i)
def vK(a0:Option Nat)(nh:List HC):Option (Int×List HC):=bU (a0) λd=>bU (HC.b_ nh d) λa=>if cn a.ad' 3 then bU (cr a.aea 0) λi=>bU (i) λj=>bU (HC.b_ nh j) λk=>bU (cr k.aea 0) λl=>bU (l) λe=>bU (HC.b_ nh e) λm=>bU (mh FU (some e) 0 nh) λn=>bU (cr a.aea 1) λo=>bU (o) λp=>bU (HC.b_ nh p) λq=>some ((c8 .i64 m.size (zL .i64 n (dh .i64 q.size 1))),nh)else if cn a.ad' 6 then bU (cr a.aea 2) λr=>bU (r) λs=>bU (HC.b_ nh s) λf=>if cn f.ad' 5 then bU (cr a.aea 1) λt=>bU (t) λu=>bU (HC.b_ nh u) λg=>bU (cr f.aea 0) λv=>bU (v) λw=>bU (HC.b_ nh w) λx=>bU (cr a.aea 0) λy=>bU (y) λz=>bU (HC.b_ nh z) λA=>some ((c8 .i64 (c8 .i64 (c8 .i64 (c8 .i64 (c8 .i64 2 g.size) (zL .i64 2 x.size)) 1) A.size) g.size),nh)else bU (cr a.aea 0) λB=>bU (B) λC=>bU (HC.b_ nh C) λD=>some (D.size,nh)else if cn a.ad' 9 then bU (cr a.aea 2) λE=>bU (E) λF=>bU (HC.b_ nh F) λb=>if cn b.ad' 8 then bU (cr a.aea 1) λG=>bU (G) λH=>bU (HC.b_ nh H) λh=>bU (cr b.aea 0) λI=>bU (I) λJ=>bU (HC.b_ nh J) λK=>bU (cr b.aea 1) λL=>bU (L) λM=>bU (HC.b_ nh M) λN=>bU (cr a.aea 0) λO=>bU (O) λP=>bU (HC.b_ nh P) λQ=>some ((c8 .i64 (c8 .i64 (c8 .i64 (c8 .i64 (c8 .i64 (c8 .i64 3 h.size) K.size) (zL .i64 2 N.size)) 1) Q.size) h.size),nh)else bU (cr a.aea 0) λR=>bU (R) λS=>bU (HC.b_ nh S) λT=>some (T.size,nh)else b7 (l7 (some d) nh) λU c=>bU (U) λV=>bU (HC.b_ c V) λW=>some (W.size,c)
def qx(a0:Option Nat)(nh:List HC):Option Int:=b7 (vK a0 nh) λr _=>some r
def kg:Nat->(Option Nat)->Int->List HC->Option ((Option Nat)×Int×List HC)
 |0,_,_,_=>none|n+1,a0,a1,nh=>bU (a0) λd=>bU (HC.b_ nh d) λh=>if h.normal then some (none,0,nh)else bU (oQ (some d) nh) λo=>if o then bU (qx (some d) nh) λp=>if nG (dh .i64 p h.size) a1 then some (none,4,nh)else b7 (l7 (some d) nh) λq k=>some (q,0,k)else eB (cZ h.aea)<|cB (λ(j:Int) (s:Option Nat)=>(λ(c:List HC)=>hU (kg n s a1 c) λf g b=>if cF g 0 then some (.ret (none,g,b))else if Option.isSome f then bU (HC.b_ b d) λe=>eB (xH e.aea)<|bU (cr e.aea j) λt=>b7 (fO (some d) (xu e.aea j f) b) λl i=>some (.ret (l,0,i))else some (.next b)):Int->(Option Nat)->(List HC)->(Option (dP (List HC) ((Option Nat)×Int×List HC)))) λm=>bU (cY m h.aea 0 nh) (dR (λ(c:List HC)=>bU (HC.b_ c d) λa=>some (none,0,(nb c d (HC.dK (dC.mk a.ad' a.aec a.yn a.aea a.size a.free true))))) (λr=>some r))
def j7(a0:Option Nat)(nh:List HC):Option (Bool×Int×List HC):=bU (a0) λb=>bU (HC.c7 nh b) λd=>bU (xB d.term nh) λg=>hU (kg FU d.term (dh .i64 4096 g) nh) λc e a=>if df (cF e 0) true (Option.isNone c)then some (false,e,a)else bU (HC.c7 a b) λf=>some (true,0,(nb (nb a b (HC.iI (gj.mk c f.steps))) b (HC.iI (gj.mk c (c8 .i64 f.steps 1)))))
def jb:Nat->(Option Nat)->List HC->Option Tm
 |0,_,_=>none|n+1,a0,nh=>bU (a0) λd=>bU (HC.b_ nh d) λa=>bU (ik FU a.yn) λe=>eB (cZ a.aea)<|cB (λ(h:Int) (f:Option Nat)=>(λ(b:List Tm)=>bU (jb n f nh) λc=>eB (dZ b [c])<|some (.next (eA b [c]))):Int->(Option Nat)->(List Tm)->(Option (dP (List Tm) (Tm)))) λg=>bU (cY g a.aea 0 []) (dR (λ(b:List Tm)=>some (Tm.mk a.ad' a.aec e b)) (λr=>some r))
def j_:Nat->(Option Nat)->List HC->Option (Bool×List HC)
 |0,_,_=>none|n+1,a0,nh=>bU (a0) λc=>bU (HC.b_ nh c) λe=>if e.normal then some (true,nh)else bU (oQ (some c) nh) λg=>if g then some (false,nh)else eB (cZ e.aea)<|cB (λ(j:Int) (h:Option Nat)=>(λ(d:List HC)=>b7 (j_ n h d) λf b=>if f then some (.next b)else some (.ret (false,b))):Int->(Option Nat)->(List HC)->(Option (dP (List HC) (Bool×List HC)))) λi=>bU (cY i e.aea 0 nh) (dR (λ(d:List HC)=>bU (HC.b_ d c) λa=>some (true,(nb d c (HC.dK (dC.mk a.ad' a.aec a.yn a.aea a.size a.free true))))) (λr=>some r))
def kM(a0:Tm)(a1:Int):Option (Tm×Int×Int):=bU (si a0) λt=>if cF t 0 then some ((Tm.mk 0 0 (Ty.mk 0 []) []),0,t)else cB (λ(p:Bool)=>if p then some ((Tm.mk 0 0 (Ty.mk 0 []) []),0,1)else b7 (tx FU a0 ([]:List HC)) λq a=>cB ((λ(b:List HC)=>bU (HC.c7 b (List.length a)) λi=>if sg i.steps a1 then hU (j7 (some (List.length a)) b) λj e c=>if cF e 0 then some (.ret ((Tm.mk 0 0 (Ty.mk 0 []) []),0,e))else if j then some (.next c)else bU (HC.c7 c (List.length a)) λf=>bU (jb FU f.term c) λk=>some (.ret (k,f.steps,0))else some (.H9 b)):(List HC)->(Option (dP (List HC) (Tm×Int×Int)))) λl=>bU (nY l FU (a++[HC.iI (gj.mk q 0)])) (dR (λ(b:List HC)=>bU (HC.c7 b (List.length a)) λm=>b7 (j_ FU m.term b) λn d=>if n then bU (HC.c7 d (List.length a)) λg=>bU (jb FU g.term d) λo=>some (o,g.steps,0)else some ((Tm.mk 0 0 (Ty.mk 0 []) []),0,5)) (λr=>some r))) λh=>if sg a1 0 then h true else if nG a1 65536 then h true else bU (oC a0) λs=>h (nT s)
def lJ(a0 a1:Tm)(a2:Int):Option Int:=bU (si a0) λh=>if cF h 0 then some h else bU (si a1) λa=>if cF a 0 then some a else bU (uc a0 a1) λd=>if d then some 0 else hU (kM a0 a2) λe i b=>if cF b 0 then some b else hU (kM a1 a2) λf j c=>if cF c 0 then some c else bU (uc e f) λg=>if g then some 0 else some 11
def jE:Nat->Fm->Fm->Option Int
 |0,_,_=>none|n+1,a0,a1=>cB (λ(i:Bool)=>if i then some 11 else eB (cZ a0.cx)<|cB (λ(j:Int) (k:Tm)=>(λ(_:Unit)=>bU (cr a1.cx j) λc=>bU (lJ k c 1000) λa=>if cF a 0 then some (.ret a)else some (.next ())):Int->Tm->(Unit)->(Option (dP (Unit) (Int)))) λl=>bU (cY l a0.cx 0 ()) (dR (λ(_:Unit)=>eB (cZ a0.aea)<|cB (λ(d:Int) (e:Fm)=>(λ(_:Unit)=>bU (cr a1.aea d) λf=>bU (jE n e f) λb=>if cF b 0 then some (.ret b)else some (.next ())):Int->Fm->(Unit)->(Option (dP (Unit) (Int)))) λg=>bU (cY g a0.aea 0 ()) (dR (λ(_:Unit)=>some 0) (λr=>some r))) (λr=>some r))) λh=>if cF a0.ad' a1.ad' then h true else bU (fo FU a0.b8 a1.b8) λm=>h (nT m)
def jF(a0 a1:Fm):Option Int:=bU (e9 a0) λc=>if cF c 0 then some c else bU (e9 a1) λa=>if cF a 0 then some a else bU (jE FU a0 a1) λb=>some b
def dT(a0:cp)(a1:List Ty):Option cp:=bU (eW a0.aed a1) λa=>some (cp.mk (fR.mk (c8 .i64 a0.eT.vars (cI a1)) a0.eT.aeg) a a0.known)
def dz(a0 a1:Int):Option Int:=eB (Pg a1)<|some (X' .u32 a0 a1)
def pz(a0 a1 a:Int):Option Int:=if qJ a0 a1 then eB (Pg (dh .i64 a0 a1))<|some (xV .u32 a (Xm .u32 1 (dh .i64 a0 a1)))else some a
def jS(a0:Tm):Option Int:=bU (oI a0 (λ(s:Int) (a:Int) (b:Int)=>pz a b s) 0) λc=>some c
def gD(a0:cj)(a1:Ty):Option Bool:=bU (nw a1) λa=>bU (lH a0 a) λb=>some b
def hE(a0:Fm)(a1:Tm):Option (Fm×Int):=b7 (ez a0) λd f=>b7 (ib a1) λa e=>bU (hQ a0 0) λb=>if nG (c8 .i64 d (zL .i64 b (dh .i64 a 1))) 4096 then some ((Fm.mk 0 (Ty.mk 0 []) [] []),4)else bU (il a0 0 a1) λc=>some (c,0)
def yB(a0:Tm):Option Int:=some 0
def kS(a0:Tm)(a1 a:Int):Option (Tm×Int):=if cF a 0 then some (a0,a)else hU (kM a0 1000) λb d c=>some (b,c)
def oh(a0:Fm):Option (Fm×Int):=bU (hQ a0 0) λc=>if cn c 0 then bU (il a0 0 (Tm.mk 0 0 (Ty.mk 0 []) [])) λd=>some (d,0)else b7 (cN FU a0 0 (λ(s:Int) (g:Tm) (h:Int)=>kS g h s) 0) λa b=>if cF b 0 then some ((Fm.mk 0 (Ty.mk 0 []) [] []),b)else bU (hQ a 0) λe=>if nG e 0 then some ((Fm.mk 0 (Ty.mk 0 []) [] []),6)else bU (il a 0 (Tm.mk 0 0 (Ty.mk 0 []) [])) λf=>some (f,0)
def Ab(a0:Int):Option iN:=if cn a0 16 then bU (kx 4 []) λa=>bU (jT) λb=>bU (fu 0) λc=>bU (kx 5 [c]) λd=>some (iN.mk 1 a [b] d)else bU (kx 7 []) λe=>bU (jT) λf=>bU (Cq) λg=>bU (fu 1) λh=>bU (fu 0) λi=>bU (kx 8 [h,i]) λj=>some (iN.mk 2 e [f,g] j)
def sF(a0:List Fm)(a1:Pf)(a2:cp):Option (b0×Int):=bU (cr a1.cx 0) λb=>bU (hY a2.aed b) λa=>if cF a 0 then some ((b0.mk (Fm.mk 0 (Ty.mk 0 []) [] []) 0),a)else bU (l0 b b) λc=>some ((b0.mk c 0),0)
def rN(a0:Fm):Option (Bool×Int):=b7 (IJ a0 1) λa b=>some (a,b)
mutual
def cT:Nat->(List Fm)->Pf->cp->Option (b0×Int)
 |0,_,_,_=>none|n+1,a0,a1,a2=>b7 (if cn a1.ad' 1 then uj a0 a1 a2 else if cn a1.ad' 2 then sb a0 a1 a2 else if cn a1.ad' 3 then mb n a0 a1 a2 else if cn a1.ad' 4 then gK n a0 a1 a2 else if cn a1.ad' 5 then gK n a0 a1 a2 else if cn a1.ad' 6 then l9 n a0 a1 a2 else if cn a1.ad' 7 then l_ n a0 a1 a2 else if cn a1.ad' 8 then gr n a0 a1 a2 else if cn a1.ad' 12 then gr n a0 a1 a2 else if cn a1.ad' 9 then gp n a0 a1 a2 else if cn a1.ad' 13 then gp n a0 a1 a2 else if cn a1.ad' 10 then gN n a0 a1 a2 else if cn a1.ad' 14 then gN n a0 a1 a2 else if cn a1.ad' 11 then gR n a0 a1 a2 else if cn a1.ad' 15 then gR n a0 a1 a2 else if cn a1.ad' 16 then mR n a0 a1 a2 else if cn a1.ad' 17 then mR n a0 a1 a2 else if cn a1.ad' 18 then sF a0 a1 a2 else if cn a1.ad' 19 then ly n a0 a1 a2 else if cn a1.ad' 20 then nD n a0 a1 a2 else none) λa b=>if cF b 0 then some ((b0.mk (Fm.mk 0 (Ty.mk 0 []) [] []) 0),b)else bU (e9 a.cd) λd=>if cF d 0 then some ((b0.mk (Fm.mk 0 (Ty.mk 0 []) [] []) 0),4)else cB (λ(v30:Int)=>some ((b0.mk a.cd v30),0)) λc=>b7 (rN a.cd) λe f=>if e then c a.eX else c 0
def mb:Nat->(List Fm)->Pf->cp->Option (b0×Int)
 |0,_,_,_=>none|n+1,a0,a1,a2=>bU (cr a1.aea 0) λe=>b7 (cT n a0 e a2) λa b=>if cF b 0 then some ((b0.mk (Fm.mk 0 (Ty.mk 0 []) [] []) 0),b)else bU (cr a1.aea 1) λf=>b7 (cT n a0 f a2) λc d=>if cF d 0 then some ((b0.mk (Fm.mk 0 (Ty.mk 0 []) [] []) 0),d)else bU (rv 2 [a.cd,c.cd]) λg=>some ((b0.mk g (xV .u32 a.eX c.eX)),0)
def gK:Nat->(List Fm)->Pf->cp->Option (b0×Int)
 |0,_,_,_=>none|n+1,a0,a1,a2=>bU (cr a1.aea 0) λc=>b7 (cW n a0 c a2 2) λa b=>if cF b 0 then some ((b0.mk (Fm.mk 0 (Ty.mk 0 []) [] []) 0),b)else bU (cr a.cd.aea (df (cn a1.ad' 5) 1 0)) λd=>some ((b0.mk d a.eX),0)
def l9:Nat->(List Fm)->Pf->cp->Option (b0×Int)
 |0,_,_,_=>none|n+1,a0,a1,a2=>bU (cr a1.dy 0) λe=>bU (cR FU a2.aed e) λa=>if cF a 0 then some ((b0.mk (Fm.mk 0 (Ty.mk 0 []) [] []) 0),a)else bU (cM a2.eT 0 1) λb=>if cF b 0 then some ((b0.mk (Fm.mk 0 (Ty.mk 0 []) [] []) 0),b)else bU (cr a1.aea 0) λf=>bU (ef a2 e) λg=>b7 (cT n a0 f g) λc d=>if cF d 0 then some ((b0.mk (Fm.mk 0 (Ty.mk 0 []) [] []) 0),d)else bU (rv 3 [e,c.cd]) λh=>some ((b0.mk h c.eX),0)
def l_:Nat->(List Fm)->Pf->cp->Option (b0×Int)
 |0,_,_,_=>none|n+1,a0,a1,a2=>bU (cr a1.aea 0) λf=>b7 (cW n a0 f a2 3) λa b=>if cF b 0 then some ((b0.mk (Fm.mk 0 (Ty.mk 0 []) [] []) 0),b)else bU (cr a1.aea 1) λg=>b7 (cT n a0 g a2) λc d=>if cF d 0 then some ((b0.mk (Fm.mk 0 (Ty.mk 0 []) [] []) 0),d)else bU (cr a.cd.aea 0) λh=>bU (jF h c.cd) λe=>if cF e 0 then some ((b0.mk (Fm.mk 0 (Ty.mk 0 []) [] []) 0),e)else bU (cr a.cd.aea 1) λi=>some ((b0.mk i (xV .u32 a.eX c.eX)),0)
def gr:Nat->(List Fm)->Pf->cp->Option (b0×Int)
 |0,_,_,_=>none|n+1,a0,a1,a2=>bU (cM a2.eT 1 0) λh=>if cF h 0 then some ((b0.mk (Fm.mk 0 (Ty.mk 0 []) [] []) 0),h)else bU (cr a1.aea 0) λd=>bU (dT a2 [a1.b8]) λe=>b7 (cT n a0 d e) λa b=>if cF b 0 then some ((b0.mk (Fm.mk 0 (Ty.mk 0 []) [] []) 0),b)else cB (λ(v40:Int)=>bU (fx v40 a1.b8 a.cd) λf=>bU (dz a.eX 1) λg=>some ((b0.mk f g),0)) λc=>if cn a1.ad' 12 then if cF (r' .u32 a.eX 1) 0 then some ((b0.mk (Fm.mk 0 (Ty.mk 0 []) [] []) 0),12)else c 6 else c 4
def gp:Nat->(List Fm)->Pf->cp->Option (b0×Int)
 |0,_,_,_=>none|n+1,a0,a1,a2=>bU (cr a1.cx 0) λc=>b7 (cS FU a2.aed c) λk j=>if cF j 0 then some ((b0.mk (Fm.mk 0 (Ty.mk 0 []) [] []) 0),j)else bU (jS c) λd=>bU (cr a1.aea 0) λe=>b7 (cW n a0 e a2 (df (cn a1.ad' 13) 6 4)) λa b=>if cF b 0 then some ((b0.mk (Fm.mk 0 (Ty.mk 0 []) [] []) 0),b)else bU (gD k a.cd.b8) λf=>if f then bU (cr a.cd.aea 0) λg=>b7 (hE g c) λh i=>some ((b0.mk h (xV .u32 a.eX (df (cn a1.ad' 13) 0 d))),i)else some ((b0.mk (Fm.mk 0 (Ty.mk 0 []) [] []) 0),7)
def gN:Nat->(List Fm)->Pf->cp->Option (b0×Int)
 |0,_,_,_=>none|n+1,a0,a1,a2=>bU (cr a1.dy 0) λa=>bU (cr a1.cx 0) λb=>if cn a1.ad' 14 then bU (cR FU a2.aed a) λd=>if cF d 0 then some ((b0.mk (Fm.mk 0 (Ty.mk 0 []) [] []) 0),d)else if cF a.ad' 7 then some ((b0.mk (Fm.mk 0 (Ty.mk 0 []) [] []) 0),10)else b7 (cS FU a2.aed b) λm e=>if cF e 0 then some ((b0.mk (Fm.mk 0 (Ty.mk 0 []) [] []) 0),e)else bU (gD m a.b8) λo=>if o then bU (cr a1.aea 0) λp=>bU (cr a.aea 0) λq=>b7 (c6 n a0 p a2 q b) λr f=>if cF f 0 then some ((b0.mk (Fm.mk 0 (Ty.mk 0 []) [] []) 0),f)else bU (yB b) λs=>some ((b0.mk a (xV .u32 r.eX s)),0)else some ((b0.mk (Fm.mk 0 (Ty.mk 0 []) [] []) 0),7)else bU (cR FU a2.aed a) λg=>if cF g 0 then some ((b0.mk (Fm.mk 0 (Ty.mk 0 []) [] []) 0),g)else if cF a.ad' 5 then some ((b0.mk (Fm.mk 0 (Ty.mk 0 []) [] []) 0),10)else b7 (cS FU a2.aed b) λt h=>if cF h 0 then some ((b0.mk (Fm.mk 0 (Ty.mk 0 []) [] []) 0),h)else bU (gD t a.b8) λu=>if u then bU (cr a1.aea 0) λi=>bU (cr a.aea 0) λj=>b7 (c6 n a0 i a2 j b) λk c=>if cF c 0 then some ((b0.mk (Fm.mk 0 (Ty.mk 0 []) [] []) 0),c)else bU (jS b) λl=>some ((b0.mk a (xV .u32 k.eX l)),0)else some ((b0.mk (Fm.mk 0 (Ty.mk 0 []) [] []) 0),7)
def gR:Nat->(List Fm)->Pf->cp->Option (b0×Int)
 |0,_,_,_=>none|n+1,a0,a1,a2=>bU (cr a1.aea 0) λg=>b7 (cW n a0 g a2 (df (cn a1.ad' 15) 7 5)) λa c=>if cF c 0 then some ((b0.mk (Fm.mk 0 (Ty.mk 0 []) [] []) 0),c)else bU (cM a2.eT 1 1) λd=>if cF d 0 then some ((b0.mk (Fm.mk 0 (Ty.mk 0 []) [] []) 0),d)else bU (cr a1.aea 1) λh=>bU (dT a2 [a.cd.b8]) λi=>bU (cr a.cd.aea 0) λj=>bU (ef i j) λk=>b7 (cT n a0 h k) λb e=>if cF e 0 then some ((b0.mk (Fm.mk 0 (Ty.mk 0 []) [] []) 0),e)else b7 (oh b.cd) λl f=>if cF f 0 then some ((b0.mk (Fm.mk 0 (Ty.mk 0 []) [] []) 0),f)else if df (cn a1.ad' 15) (cF (r' .u32 b.eX 1) 0) false then some ((b0.mk (Fm.mk 0 (Ty.mk 0 []) [] []) 0),12)else bU (dz b.eX 1) λm=>some ((b0.mk l (xV .u32 a.eX m)),0)
def mR:Nat->(List Fm)->Pf->cp->Option (b0×Int)
 |0,_,_,_=>none|n+1,a0,a1,a2=>bU (cr a1.dy 0) λb=>bU (cr a1.cx 0) λd=>bU (Ab a1.ad') λa=>bU (eW a2.aed [(Ty.mk a.ad' [])]) λt=>bU (cR FU t b) λe=>if cF e 0 then some ((b0.mk (Fm.mk 0 (Ty.mk 0 []) [] []) 0),e)else bU (iw a2.aed d a.ad') λf=>if cF f 0 then some ((b0.mk (Fm.mk 0 (Ty.mk 0 []) [] []) 0),f)else bU (cr a1.aea 0) λu=>b7 (c6 n a0 u a2 b a.base) λv g=>if cF g 0 then some ((b0.mk (Fm.mk 0 (Ty.mk 0 []) [] []) 0),g)else bU (cM a2.eT (cI a.vars) 1) λh=>if cF h 0 then some ((b0.mk (Fm.mk 0 (Ty.mk 0 []) [] []) 0),h)else bU (dT a2 a.vars) λi=>bU (da b 1 (dh .i64 (cI a.vars) 1)) λj=>bU (ef i j) λk=>bU (cr a1.aea 1) λl=>bU (da b 1 (cI a.vars)) λm=>b7 (c6 n a0 l k m a.next) λo c=>if cF c 0 then some ((b0.mk (Fm.mk 0 (Ty.mk 0 []) [] []) 0),c)else b7 (hE b d) λp q=>bU (jS d) λr=>bU (dz o.eX (cI a.vars)) λs=>some ((b0.mk p (xV .u32 (xV .u32 r v.eX) s)),q)
def ly:Nat->(List Fm)->Pf->cp->Option (b0×Int)
 |0,_,_,_=>none|n+1,a0,a1,a2=>bU (cr a1.dy 0) λh=>bU (jT) λi=>bU (eW a2.aed [i]) λj=>bU (cR FU j h) λa=>if cF a 0 then some ((b0.mk (Fm.mk 0 (Ty.mk 0 []) [] []) 0),a)else bU (cr a1.aea 0) λk=>b7 (cW n a0 k a2 1) λb c=>if cF c 0 then some ((b0.mk (Fm.mk 0 (Ty.mk 0 []) [] []) 0),c)else bU (cr a1.aea 1) λl=>bU (cr b.cd.cx 0) λm=>b7 (c6 n a0 l a2 h m) λo d=>if cF d 0 then some ((b0.mk (Fm.mk 0 (Ty.mk 0 []) [] []) 0),d)else bU (cr b.cd.cx 1) λe=>b7 (hE h e) λf g=>some ((b0.mk f o.eX),g)
def nD:Nat->(List Fm)->Pf->cp->Option (b0×Int)
 |0,_,_,_=>none|n+1,a0,a1,a2=>bU (cr a1.aea 0) λf=>b7 (cW n a0 f a2 4) λa c=>if cF c 0 then some ((b0.mk (Fm.mk 0 (Ty.mk 0 []) [] []) 0),c)else bU (cr a.cd.aea 0) λb=>if cF b.ad' 5 then some ((b0.mk (Fm.mk 0 (Ty.mk 0 []) [] []) 0),10)else bU (pj b.b8 [a.cd.b8]) λd=>bU (cr b.aea 0) λg=>bU (da g 2 1) λh=>bU (fu 1) λi=>bU (fu 0) λj=>bU (ua i [j]) λk=>b7 (hE h k) λl m=>cB (λ(o:Bool)=>if o then some ((b0.mk (Fm.mk 0 (Ty.mk 0 []) [] []) 0),4)else bU (fx 4 a.cd.b8 l) λp=>bU (fx 5 d p) λq=>some ((b0.mk q a.eX),0)) λe=>if cF m 0 then e true else bU (jV d) λr=>e (cF r 0)
def cW:Nat->(List Fm)->Pf->cp->Int->Option (b0×Int)
 |0,_,_,_,_=>none|n+1,a0,a1,a2,a3=>b7 (cT n a0 a1 a2) λa b=>if df (cn b 0) (cF a.cd.ad' a3) false then some ((b0.mk (Fm.mk 0 (Ty.mk 0 []) [] []) 0),10)else some (a,b)
def c6:Nat->(List Fm)->Pf->cp->Fm->Tm->Option (b0×Int)
 |0,_,_,_,_,_=>none|n+1,a0,a1,a2,a3,a4=>b7 (cT n a0 a1 a2) λd e=>if cF e 0 then some ((b0.mk (Fm.mk 0 (Ty.mk 0 []) [] []) 0),e)else b7 (hE a3 a4) λb a=>if cF a 0 then some ((b0.mk (Fm.mk 0 (Ty.mk 0 []) [] []) 0),a)else bU (jF b d.cd) λc=>some (d,c)
end
def my(a0:Int):Option (List Int):=cB ((sa λ(v37:Int) (a:List Int)=>if cF v37 0 then bU (jq v37) λb=>eB (dZ a [b])<|some (.next ((r' .u32 v37 (dh .u32 v37 1)),(eA a [b])))else some (.H9 (v37,a))):(Int×(List Int))->(Option (dP (Int×(List Int)) (List Int)))) λc=>bU (nY c FU (a0,[])) (dR (sa λ(v37:Int) (a:List Int)=>some a) (λr=>some r))
def wP(a0:List Fm)(a1:Sq)(a2:Pf):Option (s9×Int):=bU (x4 a0 a1) λg=>if cF g 0 then some ((s9.mk (Fm.mk 0 (Ty.mk 0 []) [] []) []),g)else bU (mD a2) λa=>if cF a 0 then some ((s9.mk (Fm.mk 0 (Ty.mk 0 []) [] []) []),a)else bU (B1) λh=>bU (wN a1) λd=>b7 (cT FU a0 a2 d) λb c=>if cF c 0 then some ((s9.mk (Fm.mk 0 (Ty.mk 0 []) [] []) []),c)else bU (iq b.cd) λe=>bU (my b.eX) λf=>some ((s9.mk e f),0)
end Go.dG
