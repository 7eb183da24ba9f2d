/- Part of the proof of TheoryBegins: models. -/
import Derived.Test.YtjgjcpnoaeljkaaGreatDoorAL16
set_option linter.all false
namespace Go.eZ
open Go
inductive Ty where
 |mk (aiu:Int) (aiv:List Ty)
def Ty.aiu:Ty->Int|.mk x _=>x
def Ty.aiv:Ty->(List Ty)|.mk _ x=>x
@[simp] theorem Ty.dn(aiu:Int)(aiv:List Ty):(Ty.mk aiu aiv).aiu=aiu:=rfl
@[simp] theorem Ty.dh(aiu:Int)(aiv:List Ty):(Ty.mk aiu aiv).aiv=aiv:=rfl
@[simp] theorem Ty.h8(x:Ty):Ty.mk x.aiu x.aiv=x:=by cases x;rfl
instance:Inhabited Ty:=⟨.mk default default⟩
inductive Tm where
 |mk (aiu:Int) (aix:Int) (cT:Ty) (aiv:List Tm)
def Tm.aiu:Tm->Int|.mk x _ _ _=>x
def Tm.aix:Tm->Int|.mk _ x _ _=>x
def Tm.cT:Tm->Ty|.mk _ _ x _=>x
def Tm.aiv:Tm->(List Tm)|.mk _ _ _ x=>x
@[simp] theorem Tm.dn(aiu aix:Int)(cT:Ty)(aiv:List Tm):(Tm.mk aiu aix cT aiv).aiu=aiu:=rfl
@[simp] theorem Tm.eW(aiu aix:Int)(cT:Ty)(aiv:List Tm):(Tm.mk aiu aix cT aiv).aix=aix:=rfl
@[simp] theorem Tm.dU(aiu aix:Int)(cT:Ty)(aiv:List Tm):(Tm.mk aiu aix cT aiv).cT=cT:=rfl
@[simp] theorem Tm.dh(aiu aix:Int)(cT:Ty)(aiv:List Tm):(Tm.mk aiu aix cT aiv).aiv=aiv:=rfl
@[simp] theorem Tm.h8(x:Tm):Tm.mk x.aiu x.aix x.cT x.aiv=x:=by cases x;rfl
instance:Inhabited Tm:=⟨.mk default default default default⟩
inductive Fm where
 |mk (aiu:Int) (cT:Ty) (dc:List Tm) (aiv:List Fm)
def Fm.aiu:Fm->Int|.mk x _ _ _=>x
def Fm.cT:Fm->Ty|.mk _ x _ _=>x
def Fm.dc:Fm->(List Tm)|.mk _ _ x _=>x
def Fm.aiv:Fm->(List Fm)|.mk _ _ _ x=>x
@[simp] theorem Fm.dn(aiu:Int)(cT:Ty)(dc:List Tm)(aiv:List Fm):(Fm.mk aiu cT dc aiv).aiu=aiu:=rfl
@[simp] theorem Fm.dU(aiu:Int)(cT:Ty)(dc:List Tm)(aiv:List Fm):(Fm.mk aiu cT dc aiv).cT=cT:=rfl
@[simp] theorem Fm.gf(aiu:Int)(cT:Ty)(dc:List Tm)(aiv:List Fm):(Fm.mk aiu cT dc aiv).dc=dc:=rfl
@[simp] theorem Fm.dh(aiu:Int)(cT:Ty)(dc:List Tm)(aiv:List Fm):(Fm.mk aiu cT dc aiv).aiv=aiv:=rfl
@[simp] theorem Fm.h8(x:Fm):Fm.mk x.aiu x.cT x.dc x.aiv=x:=by cases x;rfl
instance:Inhabited Fm:=⟨.mk default default default default⟩
inductive Pf where
 |mk (aiu:Int) (aix:Int) (cT:Ty) (dc:List Tm) (eg:List Fm) (aiv:List Pf)
def Pf.aiu:Pf->Int|.mk x _ _ _ _ _=>x
def Pf.aix:Pf->Int|.mk _ x _ _ _ _=>x
def Pf.cT:Pf->Ty|.mk _ _ x _ _ _=>x
def Pf.dc:Pf->(List Tm)|.mk _ _ _ x _ _=>x
def Pf.eg:Pf->(List Fm)|.mk _ _ _ _ x _=>x
def Pf.aiv:Pf->(List Pf)|.mk _ _ _ _ _ x=>x
@[simp] theorem Pf.dn(aiu aix:Int)(cT:Ty)(dc:List Tm)(eg:List Fm)(aiv:List Pf):(Pf.mk aiu aix cT dc eg aiv).aiu=aiu:=rfl
@[simp] theorem Pf.eW(aiu aix:Int)(cT:Ty)(dc:List Tm)(eg:List Fm)(aiv:List Pf):(Pf.mk aiu aix cT dc eg aiv).aix=aix:=rfl
@[simp] theorem Pf.dU(aiu aix:Int)(cT:Ty)(dc:List Tm)(eg:List Fm)(aiv:List Pf):(Pf.mk aiu aix cT dc eg aiv).cT=cT:=rfl
@[simp] theorem Pf.gf(aiu aix:Int)(cT:Ty)(dc:List Tm)(eg:List Fm)(aiv:List Pf):(Pf.mk aiu aix cT dc eg aiv).dc=dc:=rfl
@[simp] theorem Pf.Hn(aiu aix:Int)(cT:Ty)(dc:List Tm)(eg:List Fm)(aiv:List Pf):(Pf.mk aiu aix cT dc eg aiv).eg=eg:=rfl
@[simp] theorem Pf.dh(aiu aix:Int)(cT:Ty)(dc:List Tm)(eg:List Fm)(aiv:List Pf):(Pf.mk aiu aix cT dc eg aiv).aiv=aiv:=rfl
@[simp] theorem Pf.h8(x:Pf):Pf.mk x.aiu x.aix x.cT x.dc x.eg x.aiv=x:=by cases x;rfl
instance:Inhabited Pf:=⟨.mk default default default default default default⟩
structure gK where
 name:ByteArray
 cU:Fm
 proof:Pf
@[simp] theorem gK.h8(x:gK):gK.mk x.name x.cU x.proof=x:=rfl
instance:Inhabited gK:=⟨.mk default default default⟩
structure ry where
 dB:(List gK)
@[simp] theorem ry.h8(x:ry):ry.mk x.dB=x:=rfl
instance:Inhabited ry:=⟨.mk default⟩
structure qZ where
 cU:Fm
 uses:(List Int)
@[simp] theorem qZ.h8(x:qZ):qZ.mk x.cU x.uses=x:=rfl
instance:Inhabited qZ:=⟨.mk default default⟩
structure Sq where
 aiy:(List Ty)
 aiB:(List Fm)
@[simp] theorem Sq.h8(x:Sq):Sq.mk x.aiy x.aiB=x:=rfl
instance:Inhabited Sq:=⟨.mk default default⟩
structure dd where
 l:(List Int)
 rG:Int
@[simp] theorem dd.h8(x:dd):dd.mk x.l x.rG=x:=rfl
instance:Inhabited dd:=⟨.mk default default⟩
structure dK where
 vars:Int
 aiB:Int
@[simp] theorem dK.h8(x:dK):dK.mk x.vars x.aiB=x:=rfl
instance:Inhabited dK:=⟨.mk default default⟩
structure cX where
 lemmas:(List Fm)
 aiy:(List Ty)
 aiB:(List Fm)
@[simp] theorem cX.h8(x:cX):cX.mk x.lemmas x.aiy x.aiB=x:=rfl
instance:Inhabited cX:=⟨.mk default default default⟩
structure d_ where
 dc:Int
 eg:Int
 aiv:Int
 aix:Bool
 oG:Bool
@[simp] theorem d_.h8(x:d_):d_.mk x.dc x.eg x.aiv x.aix x.oG=x:=rfl
instance:Inhabited d_:=⟨.mk default default default default default⟩
structure cP where
 cU:Fm
 uses:Int
@[simp] theorem cP.h8(x:cP):cP.mk x.cU x.uses=x:=rfl
instance:Inhabited cP:=⟨.mk default default⟩
structure dW where
 vars:Int
 aiB:Int
@[simp] theorem dW.h8(x:dW):dW.mk x.vars x.aiB=x:=rfl
instance:Inhabited dW:=⟨.mk default default⟩
structure cR where
 cT:Ty
 aiw:Int
@[simp] theorem cR.h8(x:cR):cR.mk x.cT x.aiw=x:=rfl
instance:Inhabited cR:=⟨.mk default default⟩
structure c7 where
 cU:Fm
 vars:Int
@[simp] theorem c7.h8(x:c7):c7.mk x.cU x.vars=x:=rfl
instance:Inhabited c7:=⟨.mk default default⟩
structure cV where
 eV:dW
 aiy:(List cR)
 known:(List c7)
@[simp] theorem cV.h8(x:cV):cV.mk x.eV x.aiy x.known=x:=rfl
instance:Inhabited cV:=⟨.mk default default default⟩
structure dT where
 aix:Bool
 typed:Bool
 dc:Int
 eg:Int
 aiv:Int
 sM:Int
 vars:Int
 aiB:Int
@[simp] theorem dT.h8(x:dT):dT.mk x.aix x.typed x.dc x.eg x.aiv x.sM x.vars x.aiB=x:=rfl
instance:Inhabited dT:=⟨.mk default default default default default default default default⟩
structure da where
 aiw:Int
 il:Bool
@[simp] theorem da.h8(x:da):da.mk x.aiw x.il=x:=rfl
instance:Inhabited da:=⟨.mk default default⟩
structure dL where
 aiu:Int
 base:Tm
 vars:(List Ty)
 next:Tm
@[simp] theorem dL.h8(x:dL):dL.mk x.aiu x.base x.vars x.next=x:=rfl
instance:Inhabited dL:=⟨.mk default default default default⟩
structure eB where
 term:(Option Nat)
 steps:Int
@[simp] theorem eB.h8(x:eB):eB.mk x.term x.steps=x:=rfl
structure dx where
 aiu:Int
 aix:Int
 oG:Ty
 aiv:(List (Option Nat))
 size:Int
 free:Int
 normal:Bool
@[simp] theorem dx.h8(x:dx):dx.mk x.aiu x.aix x.oG x.aiv x.size x.free x.normal=x:=rfl
inductive HC where
 |eK (x:eB)|dz (x:dx)
def HC.dR(l:List HC)(p:Nat):Option eB:=match l[p]?with|some (.eK x)=>some x|_=>none
def HC.fF{l:List HC}{p:Nat}{x:eB}(h:HC.dR l p=some x):l[p]?=some (.eK x):=by
 unfold HC.dR at h
 split at h
 .rename_i e;rw[e];rw[fU h]
 .cases h
def HC.c0(l:List HC)(p:Nat):Option dx:=match l[p]?with|some (.dz x)=>some x|_=>none
def HC.c_{l:List HC}{p:Nat}{x:dx}(h:HC.c0 l p=some x):l[p]?=some (.dz x):=by
 unfold HC.c0 at h
 split at h
 .rename_i e;rw[e];rw[fU h]
 .cases h
def js(l:List HC)(p:Nat)(x:HC):List HC:=l.set p x
def nB:List dT:=[⟨false,false,0,0,0,0,0,0⟩,⟨true,false,0,0,0,0,0,0⟩,⟨true,false,0,0,0,0,0,0⟩,⟨false,false,0,0,2,0,0,0⟩,⟨false,false,0,0,1,0,0,0⟩,⟨false,false,0,0,1,0,0,0⟩,⟨false,false,0,1,1,0,0,1⟩,⟨false,false,0,0,2,0,0,0⟩,⟨false,true,0,0,1,0,1,0⟩,⟨false,false,1,0,1,0,0,0⟩,⟨false,false,1,1,1,0,0,0⟩,⟨false,false,0,0,2,0,1,1⟩,⟨false,true,0,0,1,0,1,0⟩,⟨false,false,1,0,1,0,0,0⟩,⟨false,false,1,1,1,0,0,0⟩,⟨false,false,0,0,2,0,1,1⟩,⟨false,false,1,1,2,1,1,1⟩,⟨false,false,1,1,2,1,2,1⟩,⟨false,false,1,0,0,0,0,0⟩,⟨false,false,0,1,2,1,0,0⟩,⟨false,false,0,0,1,0,0,0⟩]
def kP:List Int:=[0,1,28,2,29,14,24,3,30,22,20,15,25,17,4,8,31,27,13,23,21,19,16,7,26,12,18,6,11,5,10,9]
def pO:List Int:=[0,0,1,2,0,1,3,0,2,3,2,1,1,0]
end Go.eZ
set_option maxRecDepth 20000
namespace Go.eZ
open Go
def gQ:Nat->Ty->Option Ty
 |0,_=>none|n+1,a0=>
 fa (dE a0.aiv)<|de (λ(d:Int) (b:Ty)=>(λ(v40:List Ty)=>
 cM (gQ n b) λa=>
 fa (eO v40 [a])<|some (dV.next (fu v40 [a])))) λc=>
 cM (dH c a0.aiv 0 []) (eE (λ(v40:List Ty)=>
 some (Ty.mk a0.aiu v40)) (λr=>some r))
def iC:Nat->Tm->Option Tm
 |0,_=>none|n+1,a0=>
 fa (dE a0.aiv)<|de (λ(f:Int) (b:Tm)=>(λ(v40:List Tm)=>
 cM (iC n b) λa=>
 fa (eO v40 [a])<|some (dV.next (fu v40 [a])))) λc=>
 cM (dH c a0.aiv 0 []) (eE (λ(v40:List Tm)=>
 cM (gQ FU a0.cT) λd=>
 some (Tm.mk a0.aiu a0.aix d v40)) (λr=>some r))
def eN(a0:Int)(a1:List Tm):Option Tm:=
 fa (dE a1)<|de (λ(d:Int) (b:Tm)=>(λ(v40:List Tm)=>
 cM (iC FU b) λa=>
 fa (eO v40 [a])<|some (dV.next (fu v40 [a])))) λc=>
 cM (dH c a1 0 []) (eE (λ(v40:List Tm)=>
 some (Tm.mk a0 0 (Ty.mk 0 []) v40)) (λr=>some r))
def pZ(a0:Int):Option Tm:=
 cM (eN 4 []) λb=>
 de ((TC λ(v29:Int) (v30:Int) (v31:Int) (v32:Int) (v33:List Ty) (a:List Tm)=>
 if lQ v29 0 then
 some (dV.next ((ed .i64 v29 1),5,0,0,[],[(Tm.mk v30 v31 (Ty.mk v32 v33) a)]))
 else some (dV.brk (v29,v30,v31,v32,v33,a)))) λc=>
 cM (nt c FU (a0,b.aiu,b.aix,b.cT.aiu,b.cT.aiv,b.aiv)) (eE (TC λ(v29:Int) (v30:Int) (v31:Int) (v32:Int) (v33:List Ty) (a:List Tm)=>
 some (Tm.mk v30 v31 (Ty.mk v32 v33) a)) (λr=>some r))
def tM(a0:Int):Option (Tm×Int):=
 if pR a0 0 then
 some ((Tm.mk 0 0 (Ty.mk 0 []) []),1)
 else if pH a0 4096 then
 some ((Tm.mk 0 0 (Ty.mk 0 []) []),4)
 else cM (pZ a0) λa=>
 some (a,0)
def ta(a0:Int):Option Tm:=
 cW (tM a0) λa b=>
 some a
def k1(a0 a1:Tm):Option Fm:=
 cM (iC FU a0) λa=>
 cM (iC FU a1) λb=>
 some (Fm.mk 1 (Ty.mk 0 []) [a,b] [])
def jF(a0:Tm):Option Pf:=
 cM (iC FU a0) λa=>
 some (Pf.mk 18 0 (Ty.mk 0 []) [a] [] [])
def uC(a0:ByteArray):Option Bool:=
 match a0.data.toList with
 |[x]=>if 97<=x.toNat/\x.toNat<=122 then some true else none|_=>none
def sm(a0 a:gK):Option Bool:=
 some (seq a0.name a.name)
def ej{S:Type}(a0:List gK)(a1:(S->gK->Option (Bool×S)))(b:S):Option (Int×S):=
 fa (dE a0)<|de (λ(c:Int) (d:gK)=>(λ(v64:S)=>
 cW (a1 v64 d) λf a=>
 if f then
 some (dV.ret (c,a))
 else some (dV.next a))) λh=>
 cM (dH h a0 0 b) (eE (λ(v64:S)=>
 some ((-1),v64)) (λr=>some r))
def eF{S:Type}(a0:List gK)(a1:(S->gK->Option (Bool×S)))(a:S):Option (Bool×S):=
 cW (ej a0 a1 a) λb c=>
 some ((pH b 0),c)
def lL:Nat->Ty->Option (Int×Bool)
 |0,_=>none|n+1,a0=>
 de (λ(v10:Int)=>
 if dw (dq a0.aiv) v10 then
 some (0,false)
 else fa (dE a0.aiv)<|de (λ(i:Int) (c:Ty)=>(λ(a:Int)=>
 cW (lL n c) λd f=>
 if f then
 some (dV.next (dF .i64 a d))
 else some (dV.ret (0,false)))) λh=>
 cM (dH h a0.aiv 0 1) (eE (λ(a:Int)=>
 some (a,true)) (λr=>some r))) λb=>
 if ep (dj a0.aiu 1) true (ep (dj a0.aiu 2) true (dj a0.aiu 5))then
 b 0
 else if ep (dj a0.aiu 3) true (dj a0.aiu 4)then
 b 2
 else some (0,false)
def ia(a0:Ty):Option (Int×Int):=
 cW (lL FU a0) λa b=>
 if b then
 if lQ a 64 then
 some (0,4)
 else some (a,0)
 else some (0,2)
def lp(a0:Ty):Option Int:=
 cW (ia a0) λb a=>
 some a
def mK(a0:List Ty):Option Int:=
 if lQ (dq a0) 16 then
 some 3
 else fa (dE a0)<|de (λ(d:Int) (b:Ty)=>(λ(_:Unit)=>
 cM (lp b) λa=>
 if dw a 0 then
 some (dV.ret a)
 else some (dV.next ()))) λc=>
 cM (dH c a0 0 ()) (eE (λ(_:Unit)=>
 some 0) (λr=>some r))
def nq(a0:Ty):Option Bool:=
 some (ep (dj a0.aiu 0) (dj (dq a0.aiv) 0) false)
def qD(a0:Fm):Option Bool:=
 de (λ(v10:Int) (v11:Int) (v12:Bool)=>
 de (some (ep (dj (dq a0.dc) v10) (dj (dq a0.aiv) v11) false)) λb=>
 if v12 then
 cW (ia a0.cT) λf c=>
 if dw c 0 then
 some false
 else b
 else cM (nq a0.cT) λd=>
 if d then
 b
 else some false) λa=>
 if dj a0.aiu 1 then
 a 2 0 false
 else if ep (dj a0.aiu 2) true (dj a0.aiu 3)then
 a 0 2 false
 else if ep (dj a0.aiu 4) true (ep (dj a0.aiu 5) true (ep (dj a0.aiu 6) true (dj a0.aiu 7)))then
 a 0 1 true
 else some false
def ua(a0:Int):Option (Int×Bool):=
 if ep (pR a0 1) true (pH a0 14)then
 some (0,false)
 else cM (dg pO a0) λa=>
 some (a,true)
def uo(a0:Int):Option Bool:=
 some (ep (dj a0 2) true (ep (dj a0 6) true (dj a0 9)))
def jv:Nat->Tm->Option (Int×Bool)
 |0,_=>none|n+1,a0=>
 cW (ua a0.aiu) λl o=>
 if ep o (ep (dw (dq a0.aiv) l) true (ep (pR a0.aix 0) true (ep (dw a0.aix 0) (dw a0.aiu 1) false))) true then
 some (0,false)
 else de (fa (dE a0.aiv)<|de (λ(q:Int) (h:Tm)=>(λ(a:Int)=>
 cW (jv n h) λb c=>
 if c then
 some (dV.next (dF .i64 a b))
 else some (dV.ret (0,false)))) λd=>
 cM (dH d a0.aiv 0 1) (eE (λ(a:Int)=>
 some (a,true)) (λr=>some r))) λf=>
 cM (uo a0.aiu) λi=>
 if i then
 cW (ia a0.cT) λs j=>
 if dw j 0 then
 some (0,false)
 else f
 else cM (nq a0.cT) λk=>
 if k then
 f
 else some (0,false)
def jH:Nat->Fm->Option (Int×Bool)
 |0,_=>none|n+1,a0=>
 cM (qD a0) λo=>
 if o then
 fa (dE a0.dc)<|de (λ(q:Int) (h:Tm)=>(λ(v72:Int)=>
 cW (jv FU h) λi j=>
 if j then
 some (dV.next (dF .i64 v72 i))
 else some (dV.ret (0,false)))) λk=>
 cM (dH k a0.dc 0 1) (eE (λ(v72:Int)=>
 fa (dE a0.aiv)<|de (λ(l:Int) (b:Fm)=>(λ(a:Int)=>
 cW (jH n b) λc d=>
 if d then
 some (dV.next (dF .i64 a c))
 else some (dV.ret (0,false)))) λf=>
 cM (dH f a0.aiv 0 v72) (eE (λ(a:Int)=>
 some (a,true)) (λr=>some r))) (λr=>some r))
 else some (0,false)
def hJ(a0:Fm):Option (Int×Int):=
 cW (jH FU a0) λa b=>
 if b then
 if lQ a 4096 then
 some (0,4)
 else some (a,0)
 else some (0,2)
def ju(a0:Fm):Option Int:=
 cW (hJ a0) λb a=>
 some a
def l6(a0:Ty):Option cR:=
 cW (ia a0) λa b=>
 some (cR.mk a0 a)
def nr(a0:List Ty):Option (List cR):=
 fa (dE a0)<|de (λ(d:Int) (b:Ty)=>(λ(v40:List cR)=>
 cM (l6 b) λa=>
 fa (eO v40 [a])<|some (dV.next (fu v40 [a])))) λc=>
 cM (dH c a0 0 []) (eE (λ(v40:List cR)=>
 some v40) (λr=>some r))
def fk(a0:List cR)(a1:List Ty):Option (List cR):=
 cM (nr a1) λa=>
 fa (eO a0 a)<|some (fu a0 a)
def qA(a0:Int)(a1 a2:cR):Option (cR×Int):=
 if lQ (dF .i64 (dF .i64 1 a1.aiw) a2.aiw) 64 then
 some ((cR.mk (Ty.mk 0 []) 0),4)
 else some ((cR.mk (Ty.mk a0 [a1.cT,a2.cT]) (dF .i64 (dF .i64 1 a1.aiw) a2.aiw)),0)
def iW(a0:Int):Option (List Int):=
 if dj a0 4 then
 some [1]
 else if dj a0 5 then
 some [1,1]
 else if dj a0 7 then
 some [2]
 else if dj a0 8 then
 some [2,1,2]
 else if dj a0 13 then
 some [5]
 else some []
def ig(a0:cR)(a1:Int):Option Bool:=
 some (dj a0.cT.aiu a1)
def iK(a0:cR)(a1:Int):Option cR:=
 cM (dg a0.cT.aiv a1) λa=>
 cM (l6 a) λb=>
 some b
def fO:Nat->Ty->Ty->Option Bool
 |0,_,_=>none|n+1,a0,a1=>
 if ep (dw a0.aiu a1.aiu) true (dw (dq a0.aiv) (dq a1.aiv))then
 some false
 else fa (dE a0.aiv)<|de (λ(c:Int) (d:Ty)=>(λ(_:Unit)=>
 cM (dg a1.aiv c) λa=>
 cM (fO n d a) λb=>
 if b then
 some (dV.next ())
 else some (dV.ret false))) λf=>
 cM (dH f a0.aiv 0 ()) (eE (λ(_:Unit)=>
 some true) (λr=>some r))
def jG(a0 a1:cR):Option Bool:=
 de (λ(v6:Bool)=>
 some v6) λa=>
 if dj a0.aiw a1.aiw then
 cM (fO FU a0.cT a1.cT) λb=>
 a b
 else a false
def mv:Option Ty:=
 some (Ty.mk 1 [])
def v7:Option Ty:=
 some (Ty.mk 2 [])
def nU(a0:Ty)(a1:List Ty):Option Ty:=
 de ((Zl λ(a:Int) (v49:Int) (b:List Ty)=>
 if pH a 0 then
 cM (dg a1 a) λc=>
 some (dV.next ((ed .i64 a 1),4,[c,(Ty.mk v49 b)]))
 else some (dV.brk (a,v49,b)))) λd=>
 cM (nt d FU ((ed .i64 (dq a1) 1),a0.aiu,a0.aiv)) (eE (Zl λ(a:Int) (v49:Int) (b:List Ty)=>
 some (Ty.mk v49 b)) (λr=>some r))
def oO(a0:Tm):Option Ty:=
 if dj a0.aiu 9 then
 cM (mv) λa=>
 cM (v7) λb=>
 cM (nU a0.cT [a,b,a0.cT]) λc=>
 some c
 else cM (mv) λd=>
 cM (nU a0.cT [d,a0.cT]) λf=>
 some f
def fp(a0:Tm)(a1:cR×cR×cR):Option (cR×Int):=
 cM (iW a0.aiu) λa=>
 if lQ (dq a) 0 then
 cM (k_ a 1 (dq a)) λh=>
 fa (dE h)<|de (λ(b:Int) (c:Int)=>(λ(_:Unit)=>
 de (λ(v222:Bool)=>
 if v222 then
 some (dV.ret ((cR.mk (Ty.mk 0 []) 0),7))
 else some (dV.next ())) λd=>
 if dj b 0 then
 cM (ig a1.1 c) λk=>
 d (oF k)
 else if dj b 1 then
 cM (ig a1.2.1 c) λl=>
 d (oF l)
 else fa (dj b 2)<|cM (ig a1.2.2 c) λn=>
 d (oF n))) λo=>
 cM (dH o h 0 ()) (eE (λ(_:Unit)=>
 cM (dg a 0) λq=>
 cM (l6 (Ty.mk q [])) λs=>
 some (s,0)) (λr=>some r))
 else if dj a0.aiu 3 then
 de (λ(t:Bool)=>
 if t then
 some ((cR.mk (Ty.mk 0 []) 0),7)
 else cM (iK a1.1 1) λu=>
 some (u,0)) λi=>
 cM (ig a1.1 4) λv=>
 if v then
 cM (iK a1.1 0) λw=>
 cM (jG w a1.2.1) λx=>
 i (oF x)
 else i true
 else if ep (dj a0.aiu 6) true (dj a0.aiu 9)then
 cM (l6 a0.cT) λj=>
 de (λ(y:Bool)=>
 if y then
 some ((cR.mk (Ty.mk 0 []) 0),7)
 else some (j,0)) λf=>
 cM (jG a1.1 j) λA=>
 if A then
 cM (oO a0) λB=>
 cM (fO FU a1.2.1.cT B) λC=>
 if C then
 cM (ig a1.2.2 (ep (dj a0.aiu 9) 2 1)) λD=>
 f (oF D)
 else f true
 else f true
 else if dj a0.aiu 10 then
 cW (qA 3 a1.1 a1.2.1) λF G=>
 some (F,G)
 else cM (ig a1.1 3) λH=>
 if H then
 if dj a0.aiu 11 then
 cM (iK a1.1 0) λI=>
 some (I,0)
 else cM (iK a1.1 1) λJ=>
 some (J,0)
 else some ((cR.mk (Ty.mk 0 []) 0),7)
def dD:Nat->(List cR)->Tm->Option (cR×Int)
 |0,_,_=>none|n+1,a0,a1=>
 if dj a1.aiu 1 then
 if pH a1.aix (dq a0)then
 some ((cR.mk (Ty.mk 0 []) 0),6)
 else cM (dg a0 (ed .i64 (ed .i64 (dq a0) 1) a1.aix)) λL=>
 some (L,0)
 else if dj a1.aiu 2 then
 cM (l6 a1.cT) λo=>
 fa (eO a0 [o])<|cM (dg a1.aiv 0) λH=>
 cW (dD n (fu a0 [o]) H) λI q=>
 if dw q 0 then
 some ((cR.mk (Ty.mk 0 []) 0),q)
 else cW (qA 4 o I) λJ K=>
 some (J,K)
 else fa (dE a1.aiv)<|de (λ(k:Int) (s:Tm)=>(un9 λ(b:Int) (c:List Ty) (v218:Int) (d:Int) (f:List Ty) (h:Int) (v222:Int) (i:List Ty) (j:Int)=>
 de (λ(t:Int) (u:List Ty) (v:Int) (w:Int) (x:List Ty) (y:Int) (A:Int) (B:List Ty) (C:Int)=>
 some (dV.next (t,u,v,w,x,y,A,B,C))) λj250=>
 cW (dD n a0 s) λa l=>
 if dw l 0 then
 some (dV.ret ((cR.mk (Ty.mk 0 []) 0),l))
 else if dj k 0 then
 j250 a.cT.aiu a.cT.aiv a.aiw d f h v222 i j
 else if dj k 1 then
 j250 b c v218 a.cT.aiu a.cT.aiv a.aiw v222 i j
 else fa (dj k 2)<|j250 b c v218 d f h a.cT.aiu a.cT.aiv a.aiw)) λD=>
 cM (dH D a1.aiv 0 (0,[],0,0,[],0,0,[],0)) (eE (un9 λ(b:Int) (c:List Ty) (v218:Int) (d:Int) (f:List Ty) (h:Int) (v222:Int) (i:List Ty) (j:Int)=>
 cW (fp a1 ((cR.mk (Ty.mk b c) v218),(cR.mk (Ty.mk d f) h),(cR.mk (Ty.mk v222 i) j))) λF G=>
 some (F,G)) (λr=>some r))
def gO(a0:List cR)(a1:Tm)(a2:Int):Option Int:=
 cW (dD FU a0 a1) λd c=>
 de (λ(v21:Bool)=>
 if v21 then
 some 7
 else some c) λa=>
 if dj c 0 then
 cM (ig d a2) λb=>
 a (oF b)
 else a false
def gw(a0:List cR)(a1:Tm):Option Int:=
 cM (gO a0 a1 1) λa=>
 some a
def dC:Nat->(List cR)->Fm->Option Int
 |0,_,_=>none|n+1,a0,a1=>
 de (λ(f:List cR)=>
 fa (dE a1.aiv)<|de (λ(o:Int) (h:Fm)=>(λ(_:Unit)=>
 cM (dC n f h) λa=>
 if dw a 0 then
 some (dV.ret a)
 else some (dV.next ()))) λi=>
 cM (dH i a1.aiv 0 ()) (eE (λ(_:Unit)=>
 some 0) (λr=>some r))) λb=>
 de (cM (fk a0 [a1.cT]) λj=>
 b j) λc=>
 if ep (dj a1.aiu 4) true (dj a1.aiu 5)then
 c
 else if ep (dj a1.aiu 6) true (dj a1.aiu 7)then
 c
 else if ep (dj a1.aiu 2) true (dj a1.aiu 3)then
 b a0
 else fa (dE a1.dc)<|de (λ(q:Int) (k:Tm)=>(λ(_:Unit)=>
 cM (gw a0 k) λd=>
 if dw d 0 then
 some (dV.ret d)
 else some (dV.next ()))) λl=>
 cM (dH l a1.dc 0 ()) (eE (λ(_:Unit)=>
 some 0) (λr=>some r))
def kx(a0:List Ty)(a1:Fm):Option Int:=
 cM (mK a0) λd=>
 if dw d 0 then
 some d
 else cM (ju a1) λa=>
 if dw a 0 then
 some a
 else cM (nr a0) λb=>
 cM (dC FU b a1) λc=>
 some c
def lb(a0:Int):Option (dT×Bool):=
 if ep (pR a0 1) true (pH a0 21)then
 some ((dT.mk false false 0 0 0 0 0 0),false)
 else cM (dg nB a0) λa=>
 some (a,true)
def jC(a0:Tm):Option (Int×Int):=
 cW (jv FU a0) λa b=>
 if b then
 if lQ a 4096 then
 some (0,4)
 else some (a,0)
 else some (0,2)
def gh(a0:da)(a1 a2:Int):Option (Bool×da):=
 some ((dw a2 2),(ep a0.il (da.mk (dF .i64 a0.aiw a1) true) (da.mk (dF .i64 a0.aiw a1) (dj a2 4))))
def iv:Nat->da->Pf->Option (Bool×da)
 |0,_,_=>none|n+1,a0,a1=>
 cW (lb a1.aiu) λd F=>
 if ep F (ep (pR a1.aix 0) true (ep (dw a1.aix 0) (ep d.aix (ep (dw (dq a1.dc) d.dc) true (ep (dw (dq a1.eg) d.eg) true (dw (dq a1.aiv) d.aiv))) true) (ep (dw (dq a1.dc) d.dc) true (ep (dw (dq a1.eg) d.eg) true (dw (dq a1.aiv) d.aiv))))) true then
 some (false,a0)
 else de (λ(v26:da)=>
 fa (dE a1.dc)<|de (λ(G:Int) (y:Tm)=>(λ(a:da)=>
 cW (jC y) λh i=>
 cW (gh a h i) λj d179=>
 if j then
 some (dV.next d179)
 else some (dV.ret (false,d179)))) λk=>
 cM (dH k a1.dc 0 v26) (eE (λ(a:da)=>
 fa (dE a1.eg)<|de (λ(C:Int) (l:Fm)=>(λ(b:da)=>
 cW (hJ l) λo q=>
 cW (gh b o q) λs d322=>
 if s then
 some (dV.next d322)
 else some (dV.ret (false,d322)))) λt=>
 cM (dH t a1.eg 0 a) (eE (λ(b:da)=>
 fa (dE a1.aiv)<|de (λ(D:Int) (u:Pf)=>(λ(c:da)=>
 cW (iv n c u) λv f=>
 if v then
 some (dV.next f)
 else some (dV.ret (false,f)))) λw=>
 cM (dH w a1.aiv 0 b) (eE (λ(c:da)=>
 some (true,c)) (λr=>some r))) (λr=>some r))) (λr=>some r))) λx=>
 if d.typed then
 cW (ia a1.cT) λH A=>
 if dw A 0 then
 some (false,(da.mk (dF .i64 a0.aiw 1) a0.il))
 else x (da.mk (dF .i64 a0.aiw 1) a0.il)
 else cM (nq a1.cT) λB=>
 if B then
 x (da.mk (dF .i64 a0.aiw 1) a0.il)
 else some (false,(da.mk (dF .i64 a0.aiw 1) a0.il))
def qa(a0:Pf):Option (Int×Int):=
 cW (iv FU (da.mk 0 false) a0) λa d14=>
 if a then
 if ep d14.il true (lQ d14.aiw 16384)then
 some (0,4)
 else some (d14.aiw,0)
 else some (0,2)
def qU(a0:Pf):Option Int:=
 cW (qa a0) λb a=>
 some a
def ly(a0:dK)(a1:dT)(a2:Int):Option dK:=
 some (dK.mk (ep (dj a2 (ed .i64 a1.aiv 1)) (dF .i64 a0.vars a1.vars) a0.vars) (ep (dj a2 (ed .i64 a1.aiv 1)) (dF .i64 a0.aiB a1.aiB) a0.aiB))
def kE{S:Type}:Nat->Pf->dK->(S->Pf->dK->Option S)->S->Option S
 |0,_,_,_,_=>none|n+1,a0,a1,a2,b=>
 cW (lb a0.aiu) λq w=>
 de (λ(v12:S)=>
 fa (dE a0.dc)<|de (λ(s:Int) (t:Tm)=>(λ(_:Unit)=>
 some (dV.next ()))) λh=>
 cM (dH h a0.dc 0 ()) (eE (λ(_:Unit)=>
 fa (dE a0.eg)<|de (λ(u:Int) (v:Fm)=>(λ(_:Unit)=>
 some (dV.next ()))) λi=>
 cM (dH i a0.eg 0 ()) (eE (λ(_:Unit)=>
 fa (dE a0.aiv)<|de (λ(j:Int) (k:Pf)=>(λ(a:S)=>
 cM (ly a1 q j) λc=>
 cM (kE n k c a2 a) λd=>
 some (dV.next d))) λl=>
 cM (dH l a0.aiv 0 v12) (eE (λ(a:S)=>
 some a) (λr=>some r))) (λr=>some r))) (λr=>some r))) λf=>
 if q.aix then
 cM (a2 b a0 a1) λo=>
 f o
 else f b
def su(a0:(List (Int×Bool)))(a1:Int):Option ((List (Int×Bool))):=
 if pH a1 0 then
 some (tc a0 a1 true)
 else some a0
def EG(x:Int):List Int->List Int
 |[]=>[x]|y::l=>if x<=y then x::y::l else y::EG x l
def sP(l:List Int):List Int:=l.foldr EG []
def vr(s:List (Int×Bool))(p:Pf)(_:dK):Option (List (Int×Bool)):=if dj p.aiu 2 then su s p.aix else some s
def Nz(l:List (Int×Bool)):Bool:=dE l&&l.all λp=>decide (0<=p.1/\p.1<1000000)
def nF(a0:Pf):Option (List Int×Int):=
 cM (qU a0) λe=>
 if dw e 0 then
 some ([],e)
 else cM (kE FU a0 (dK.mk 0 0) vr []) λl=>
 fa (Nz l)<|some (sP (l.map Prod.fst),0)
def ss(a0 a:Int):Option Bool:=
 some (pH a0 a)
def ku{S:Type}(a0:List Int)(a1:(S->Int->Option (Bool×S)))(b:S):Option (Int×S):=
 fa (dE a0)<|de (λ(c:Int) (d:Int)=>(λ(v64:S)=>
 cW (a1 v64 d) λf a=>
 if f then
 some (dV.ret (c,a))
 else some (dV.next a))) λh=>
 cM (dH h a0 0 b) (eE (λ(v64:S)=>
 some ((-1),v64)) (λr=>some r))
def hO{S:Type}(a0:List Int)(a1:(S->Int->Option (Bool×S)))(a:S):Option (Bool×S):=
 cW (ku a0 a1 a) λb c=>
 some ((pH b 0),c)
def oR(a0:List gK)(a1:Int):Option Int:=
 cM (dg a0 a1) λd=>
 de (λ(f:Bool)=>
 if f then
 some 17
 else cM (kx [] d.cU) λa=>
 if dw a 0 then
 some a
 else cW (nF d.proof) λh b=>
 if dw b 0 then
 some b
 else cW (hO h (λ(s:Unit) (i:Int)=>nX (ss i a1) s) ()) λj o=>
 if j then
 some 20
 else some 0) λc=>
 cM (uC d.name) λk=>
 if k then
 cM (k_ a0 0 a1) λl=>
 cW (eF l (λ(s:Unit) (i:gK)=>nX (sm i d) s) ()) λn q=>
 c n
 else c true
def kY(a0:List gK):Option (List Fm):=
 fa (dE a0)<|de (λ(c:Int) (a:gK)=>(λ(v24:List Fm)=>
 fa (eO v24 [a.cU])<|some (dV.next (fu v24 [a.cU])))) λb=>
 cM (dH b a0 0 []) (eE (λ(v24:List Fm)=>
 some v24) (λr=>some r))
def rB(a0:List Fm)(a1:Sq):Option Int:=
 if lQ (dq a0) 32 then
 some 3
 else fa (dE a0)<|de (λ(j:Int) (d:Fm)=>(λ(_:Unit)=>
 cM (kx [] d) λa=>
 if dw a 0 then
 some (dV.ret a)
 else some (dV.next ()))) λf=>
 cM (dH f a0 0 ()) (eE (λ(_:Unit)=>
 cM (mK a1.aiy) λb=>
 if dw b 0 then
 some b
 else if lQ (dq a1.aiB) 16 then
 some 3
 else fa (dE a1.aiB)<|de (λ(k:Int) (h:Fm)=>(λ(_:Unit)=>
 cM (kx a1.aiy h) λc=>
 if dw c 0 then
 some (dV.ret c)
 else some (dV.next ()))) λi=>
 cM (dH i a1.aiB 0 ()) (eE (λ(_:Unit)=>
 some 0) (λr=>some r))) (λr=>some r))
def xg:Option Unit:=some ()
def eM(a0:cV)(a1:Fm):Option cV:=
 fa (eO a0.known [(c7.mk a1 a0.eV.vars)])<|some (cV.mk (dW.mk a0.eV.vars (dF .i64 a0.eV.aiB 1)) a0.aiy (fu a0.known [(c7.mk a1 a0.eV.vars)]))
def rA(a0:Sq):Option cV:=
 cM (nr a0.aiy) λi=>
 fa (dE a0.aiB)<|de (λ(j:Int) (f:Fm)=>(un4 λ(b:Int) (v46:Int) (c:List cR) (d:List c7)=>
 cM (eM (cV.mk (dW.mk b v46) c d) f) λa=>
 some (dV.next (a.eV.vars,a.eV.aiB,a.aiy,a.known)))) λh=>
 cM (dH h a0.aiB 0 ((dq a0.aiy),0,i,[])) (eE (un4 λ(b:Int) (v46:Int) (c:List cR) (d:List c7)=>
 some (cV.mk (dW.mk b v46) c d)) (λr=>some r))
def gz(a0:Int):Option Tm:=
 some (Tm.mk 1 a0 (Ty.mk 0 []) [])
def sN(a0 a1 a b:Int):Option Tm:=
 cM (gz (ep (pH (ed .i64 a0 a1) a) (dF .i64 a0 b) a0)) λc=>
 some c
def kz:Nat->Ty->Option Ty
 |0,_=>none|n+1,a0=>
 fa (dE a0.aiv)<|de (λ(d:Int) (b:Ty)=>(λ(v64:List Ty)=>
 cM (kz n b) λa=>
 fa (eO v64 [a])<|some (dV.next (fu v64 [a])))) λc=>
 cM (dH c a0.aiv 0 []) (eE (λ(v64:List Ty)=>
 some (Ty.mk a0.aiu v64)) (λr=>some r))
def gj{S:Type}:Nat->Tm->Int->(S->Int->Int->Option (Tm×S))->S->Option (Tm×S)
 |0,_,_,_,_=>none|n+1,a0,a1,c,d=>
 if dj a0.aiu 1 then
 cW (c d a0.aix a1) λi j=>
 some (i,j)
 else cM (kz FU a0.cT) λk=>
 fa (dE a0.aiv)<|de (λ(o:Int) (l:Tm)=>(rM λ(a:List Tm) (v107:S)=>
 cW (gj n l (ep (dj a0.aiu 2) (dF .i64 a1 1) a1) c v107) λb f=>
 fa (eO a [b])<|some (dV.next ((fu a [b]),f)))) λh=>
 cM (dH h a0.aiv 0 ([],d)) (eE (rM λ(a:List Tm) (v107:S)=>
 some ((Tm.mk a0.aiu a0.aix k a),v107)) (λr=>some r))
def nP{S:Type}(a0:Tm)(a1:(S->Int->Int->Option (Tm×S)))(a:S):Option (Tm×S):=
 cW (gj FU a0 0 a1 a) λb c=>
 some (b,c)
def qX(a0:Tm)(a1 a2:Int):Option Tm:=
 cW (nP a0 (λ(s:Unit) (a:Int) (b:Int)=>nX (sN a b a1 a2) s) ()) λc d=>
 some c
def lO(a0:Tm)(a1 a b:Int):Option Tm:=
 cM (qX a0 (dF .i64 a a1) b) λc=>
 some c
def l0(a0:Int):Option Bool:=
 some (ep (pH a0 4) (HB a0 7) false)
def dX{S:Type}:Nat->Fm->Int->(S->Tm->Int->Option (Tm×S))->S->Option (Fm×S)
 |0,_,_,_,_=>none|n+1,a0,a1,a2,q=>
 cM (kz FU a0.cT) λv=>
 fa (dE a0.dc)<|de (λ(w:Int) (s:Tm)=>(rM λ(v91:List Tm) (f:S)=>
 cW (a2 f s a1) λb h=>
 fa (eO v91 [b])<|some (dV.next ((fu v91 [b]),h)))) λt=>
 cM (dH t a0.dc 0 ([],q)) (eE (rM λ(v91:List Tm) (f:S)=>
 de (λ(i:Int)=>
 fa (dE a0.aiv)<|de (λ(u:Int) (j:Fm)=>(rM λ(a:List Fm) (v212:S)=>
 cW (dX n j i a2 v212) λc k=>
 fa (eO a [c])<|some (dV.next ((fu a [c]),k)))) λl=>
 cM (dH l a0.aiv 0 ([],f)) (eE (rM λ(a:List Fm) (v212:S)=>
 some ((Fm.mk a0.aiu v v91 a),v212)) (λr=>some r))) λd=>
 cM (l0 a0.aiu) λo=>
 if o then
 d (dF .i64 a1 1)
 else d a1) (λr=>some r))
def ew(a0:Fm)(a1 a2:Int):Option Fm:=
 cW (dX FU a0 0 (λ(s:Unit) (a:Tm) (b:Int)=>nX (lO a b a1 a2) s) ()) λc d=>
 some c
def kc(a0:cV)(a1:Int):Option (Fm×Bool):=
 if pH a1 (dq a0.known)then
 some ((Fm.mk 0 (Ty.mk 0 []) [] []),false)
 else cM (dg a0.known (ed .i64 (ed .i64 (dq a0.known) 1) a1)) λa=>
 cM (ew a.cU 0 (ed .i64 a0.eV.vars a.vars)) λb=>
 some (b,true)
def nS(a0:List Fm)(a1:Pf)(a2:cV):Option (cP×Int):=
 cW (kc a2 a1.aix) λa b=>
 if b then
 some ((cP.mk a 0),0)
 else some ((cP.mk (Fm.mk 0 (Ty.mk 0 []) [] []) 0),8)
def mr(a0:List Fm)(a1:Pf)(a2:cV):Option (cP×Int):=
 if pH a1.aix (dq a0)then
 some ((cP.mk (Fm.mk 0 (Ty.mk 0 []) [] []) 0),9)
 else cM (dg a0 a1.aix) λa=>
 some ((cP.mk a 0),0)
def zV(a0:Int)(a1:List Fm):Option Fm:=
 some (Fm.mk a0 (Ty.mk 0 []) [] a1)
def dy(a0:dW)(a1 a2:Int):Option Int:=
 if ep (lQ (dF .i64 a0.vars a1) 16) true (lQ (dF .i64 a0.aiB a2) 16)then
 some 3
 else some 0
def oN(a0:Tm):Option Int:=
 cW (jC a0) λb a=>
 some a
def ie:Nat->Tm->Tm->Option Bool
 |0,_,_=>none|n+1,a0,a1=>
 de (λ(d:Bool)=>
 if d then
 some false
 else fa (dE a0.aiv)<|de (λ(f:Int) (h:Tm)=>(λ(_:Unit)=>
 cM (dg a1.aiv f) λb=>
 cM (ie n h b) λc=>
 if c then
 some (dV.next ())
 else some (dV.ret false))) λi=>
 cM (dH i a0.aiv 0 ()) (eE (λ(_:Unit)=>
 some true) (λr=>some r))) λa=>
 if dw a0.aiu a1.aiu then
 a true
 else if dw a0.aix a1.aix then
 a true
 else cM (fO FU a0.cT a1.cT) λj=>
 if j then
 a (dw (dq a0.aiv) (dq a1.aiv))
 else a true
def qw(a0 a1:Tm):Option Bool:=
 cM (ie FU a0 a1) λa=>
 some a
def qL(a0 a1:Int)(a:Bool):Option Bool:=
 if a then
 some (HB a0 536870912)
 else some false
def ja{S:Type}:Nat->Tm->Int->(S->Int->Int->Option S)->S->Option S
 |0,_,_,_,_=>none|n+1,a0,a1,a,b=>
 de (λ(v6:S)=>
 fa (dE a0.aiv)<|de (λ(i:Int) (c:Tm)=>(λ(v28:S)=>
 cM (ja n c (ep (dj a0.aiu 2) (dF .i64 a1 1) a1) a v28) λd=>
 some (dV.next d))) λf=>
 cM (dH f a0.aiv 0 v6) (eE (λ(v28:S)=>
 some v28) (λr=>some r))) λh=>
 if dj a0.aiu 1 then
 cM (a b a0.aix a1) λj=>
 h j
 else h b
def qJ{S:Type}(a0:Tm)(a1:(S->Int->Int->Option S))(a:S):Option S:=
 cM (ja FU a0 0 a1 a) λs1=>
 some s1
def wL(a0:Tm):Option Bool:=
 cM (qJ a0 (λ(s:Bool) (a:Int) (b:Int)=>qL a b s) true) λc=>
 some c
def jf(a0 a1:Int)(a2:Ty)(a3:(List (Option Nat)))(nh:List HC):Option ((Option Nat)×List HC):=
 fa (dE a3)<|de (λ(o:Int) (j:Option Nat)=>(λ(b:List HC)=>
 cM (HC.c0 b (List.length nh)) λa=>
 cM (j) λi=>
 cM (HC.c0 b i) λf=>
 cM (HC.c0 (js b (List.length nh) (HC.dz (dx.mk a.aiu a.aix a.oG a.aiv (dF .i64 a.size f.size) a.free a.normal))) i) λk=>
 some (dV.next (js (js b (List.length nh) (HC.dz (dx.mk a.aiu a.aix a.oG a.aiv (dF .i64 a.size f.size) a.free a.normal))) (List.length nh) (HC.dz (dx.mk a.aiu a.aix a.oG a.aiv (dF .i64 a.size f.size) (imax a.free k.free) a.normal)))))) λl=>
 cM (dH l a3 0 (nh++[HC.dz (dx.mk a0 a1 a2 a3 1 0 false)])) (eE (λ(b:List HC)=>
 de (λ(n:List HC)=>
 some ((some (List.length nh)),n)) λh=>
 if dj a0 1 then
 cM (HC.c0 b (List.length nh)) λd=>
 h (js b (List.length nh) (HC.dz (dx.mk d.aiu d.aix d.oG d.aiv d.size (dF .i64 a1 1) d.normal)))
 else if dj a0 2 then
 cM (HC.c0 b (List.length nh)) λc=>
 h (js b (List.length nh) (HC.dz (dx.mk c.aiu c.aix c.oG c.aiv c.size (imax 0 (ed .i64 c.free 1)) c.normal)))
 else h b) (λr=>some r))
def qm:Nat->Tm->List HC->Option ((Option Nat)×List HC)
 |0,_,_=>none|n+1,a0,nh=>
 fa (dE a0.aiv)<|de (λ(j:Int) (f:Tm)=>(rM λ(v51:(List (Option Nat))) (a:List HC)=>
 cW (qm n f a) λb c=>
 fa (eO v51 [b])<|some (dV.next ((fu v51 [b]),c)))) λh=>
 cM (dH h a0.aiv 0 ([],nh)) (eE (rM λ(v51:(List (Option Nat))) (a:List HC)=>
 cW (jf a0.aiu a0.aix a0.cT v51 a) λi d=>
 some (i,d)) (λr=>some r))
def qd(a0:Option Nat)(nh:List HC):Option Int:=
 cM (a0) λa=>
 cM (HC.c0 nh a) λb=>
 some b.size
def lB(a0:Option Nat)(nh:List HC):Option Bool:=
 cM (a0) λr=>
 cM (HC.c0 nh r) λa=>
 if dj a.aiu 3 then
 cM (dg a.aiv 0) λs=>
 cM (s) λt=>
 cM (HC.c0 nh t) λu=>
 some (dj u.aiu 2)
 else if dj a.aiu 6 then
 de (λ(v:Bool)=>
 some v) λb=>
 cM (dg a.aiv 2) λh=>
 cM (h) λi=>
 cM (HC.c0 nh i) λc=>
 if dj c.aiu 4 then
 b true
 else b (dj c.aiu 5)
 else if dj a.aiu 9 then
 de (λ(j:Bool)=>
 some j) λd=>
 cM (dg a.aiv 2) λk=>
 cM (k) λl=>
 cM (HC.c0 nh l) λf=>
 if dj f.aiu 7 then
 d true
 else d (dj f.aiu 8)
 else if ep (dj a.aiu 11) true (dj a.aiu 12)then
 cM (dg a.aiv 0) λn=>
 cM (n) λo=>
 cM (HC.c0 nh o) λq=>
 some (dj q.aiu 10)
 else some false
def gT(a0:Option Nat)(nh:List HC):Option Int:=
 cM (a0) λa=>
 cM (HC.c0 nh a) λb=>
 if dj b.aiu 2 then
 some 1
 else some 0
def j7:Nat->(Option Nat)->Int->List HC->Option Int
 |0,_,_,_=>none|n+1,a0,a1,nh=>
 cM (a0) λb=>
 cM (HC.c0 nh b) λa=>
 if HB a.free a1 then
 some 0
 else if dj a.aiu 1 then
 if dj a.aix a1 then
 some 1
 else some 0
 else fa (dE a.aiv)<|de (λ(i:Int) (c:Option Nat)=>(λ(v64:Int)=>
 cM (gT (some b) nh) λd=>
 cM (j7 n c (dF .i64 a1 d) nh) λf=>
 some (dV.next (dF .i64 v64 f)))) λh=>
 cM (dH h a.aiv 0 0) (eE (λ(v64:Int)=>
 some v64) (λr=>some r))
def fC(a0:Option Nat)(a1:(List (Option Nat)))(nh:List HC):Option ((Option Nat)×List HC):=
 cM (a0) λc=>
 cM (HC.c0 nh c) λa=>
 cW (jf a.aiu a.aix a.oG a1 nh) λd b=>
 some (d,b)
def iS:Nat->(Option Nat)->Int->Int->List HC->Option ((Option Nat)×List HC)
 |0,_,_,_,_=>none|n+1,a0,a1,a2,nh=>
 de (λ(v21:Bool)=>
 if v21 then
 some (a0,nh)
 else cM (a0) λf=>
 cM (HC.c0 nh f) λc=>
 if dj c.aiu 1 then
 cW (jf c.aiu (dF .i64 c.aix a2) c.oG [] nh) λt j=>
 some (t,j)
 else fa (dE c.aiv)<|de (λ(w:Int) (k:Option Nat)=>(rM λ(a:(List (Option Nat))) (b:List HC)=>
 cM (gT (some f) b) λl=>
 cW (iS n k (dF .i64 a1 l) a2 b) λd h=>
 fa (eO a [d])<|some (dV.next ((fu a [d]),h)))) λo=>
 cM (dH o c.aiv 0 ([],nh)) (eE (rM λ(a:(List (Option Nat))) (b:List HC)=>
 cW (fC (some f) a b) λq i=>
 some (q,i)) (λr=>some r))) λs=>
 cM (a0) λu=>
 cM (HC.c0 nh u) λv=>
 if HB v.free a1 then
 s true
 else s (dj a2 0)
def jL:Nat->(Option Nat)->Int->(Option Nat)->List HC->Option ((Option Nat)×List HC)
 |0,_,_,_,_=>none|n+1,a0,a1,a2,nh=>
 cM (a0) λd=>
 cM (HC.c0 nh d) λa=>
 if HB a.free a1 then
 some (a0,nh)
 else if dj a.aiu 1 then
 if dj a.aix a1 then
 cW (iS FU a2 0 a1 nh) λs i=>
 some (s,i)
 else cW (jf a.aiu (ed .i64 a.aix 1) a.oG [] nh) λt j=>
 some (t,j)
 else fa (dE a.aiv)<|de (λ(u:Int) (k:Option Nat)=>(rM λ(v131:(List (Option Nat))) (b:List HC)=>
 cM (gT (some d) b) λl=>
 cW (jL n k (dF .i64 a1 l) a2 b) λc f=>
 fa (eO v131 [c])<|some (dV.next ((fu v131 [c]),f)))) λo=>
 cM (dH o a.aiv 0 ([],nh)) (eE (rM λ(v131:(List (Option Nat))) (b:List HC)=>
 cW (fC (some d) v131 b) λq h=>
 some (q,h)) (λr=>some r))
def qK(a0:Option Nat)(a1:(List (Option Nat)))(nh:List HC):Option ((Option Nat)×List HC):=
 fa (dE a1)<|de (λ(h:Int) (c:Option Nat)=>(rM λ(a:Option Nat) (v44:List HC)=>
 cW (jf 3 0 (Ty.mk 0 []) [a,c] v44) λd b=>
 some (dV.next (d,b)))) λf=>
 cM (dH f a1 0 (a0,nh)) (eE (rM λ(a:Option Nat) (v44:List HC)=>
 some (a,v44)) (λr=>some r))
def gW(a0:Option Nat)(nh:List HC):Option ((Option Nat)×List HC):=
 cM (a0) λl=>
 cM (HC.c0 nh l) λa=>
 if dj a.aiu 3 then
 cM (dg a.aiv 0) λn=>
 cM (n) λo=>
 cM (HC.c0 nh o) λq=>
 cM (dg q.aiv 0) λr=>
 cM (dg a.aiv 1) λs=>
 cW (jL FU r 0 s nh) λt i=>
 some (t,i)
 else if dj a.aiu 11 then
 cM (dg a.aiv 0) λu=>
 cM (u) λv=>
 cM (HC.c0 nh v) λw=>
 cM (dg w.aiv 0) λx=>
 some (x,nh)
 else if dj a.aiu 12 then
 cM (dg a.aiv 0) λy=>
 cM (y) λA=>
 cM (HC.c0 nh A) λB=>
 cM (dg B.aiv 1) λC=>
 some (C,nh)
 else cM (dg a.aiv 0) λd=>
 cM (dg a.aiv 1) λf=>
 cM (dg a.aiv 2) λD=>
 cM (D) λh=>
 cM (HC.c0 nh h) λb=>
 if dj (dq b.aiv) 0 then
 some (d,nh)
 else cM (dg b.aiv (ed .i64 (dq b.aiv) 1)) λF=>
 cW (fC (some l) [d,f,F] nh) λG c=>
 cM (HC.c0 c h) λH=>
 cW (qK f H.aiv c) λI j=>
 cW (qK I [G] j) λJ k=>
 some (J,k)
def lz(a0:Option Nat)(nh:List HC):Option (Int×List HC):=
 cM (a0) λd=>
 cM (HC.c0 nh d) λa=>
 if dj a.aiu 3 then
 cM (dg a.aiv 0) λk=>
 cM (k) λl=>
 cM (HC.c0 nh l) λn=>
 cM (dg n.aiv 0) λo=>
 cM (o) λf=>
 cM (HC.c0 nh f) λq=>
 cM (j7 FU (some f) 0 nh) λr=>
 cM (dg a.aiv 1) λs=>
 cM (s) λt=>
 cM (HC.c0 nh t) λu=>
 some ((dF .i64 q.size (Li .i64 r (ed .i64 u.size 1))),nh)
 else if dj a.aiu 6 then
 cM (dg a.aiv 2) λv=>
 cM (v) λw=>
 cM (HC.c0 nh w) λh=>
 if dj h.aiu 5 then
 cM (dg a.aiv 1) λx=>
 cM (x) λy=>
 cM (HC.c0 nh y) λi=>
 cM (dg h.aiv 0) λA=>
 cM (A) λB=>
 cM (HC.c0 nh B) λC=>
 cM (dg a.aiv 0) λD=>
 cM (D) λF=>
 cM (HC.c0 nh F) λG=>
 some ((dF .i64 (dF .i64 (dF .i64 (dF .i64 (dF .i64 2 i.size) (Li .i64 2 C.size)) 1) G.size) i.size),nh)
 else cM (dg a.aiv 0) λH=>
 cM (H) λI=>
 cM (HC.c0 nh I) λJ=>
 some (J.size,nh)
 else if dj a.aiu 9 then
 cM (dg a.aiv 2) λK=>
 cM (K) λL=>
 cM (HC.c0 nh L) λb=>
 if dj b.aiu 8 then
 cM (dg a.aiv 1) λM=>
 cM (M) λN=>
 cM (HC.c0 nh N) λj=>
 cM (dg b.aiv 0) λO=>
 cM (O) λP=>
 cM (HC.c0 nh P) λQ=>
 cM (dg b.aiv 1) λR=>
 cM (R) λS=>
 cM (HC.c0 nh S) λT=>
 cM (dg a.aiv 0) λU=>
 cM (U) λV=>
 cM (HC.c0 nh V) λW=>
 some ((dF .i64 (dF .i64 (dF .i64 (dF .i64 (dF .i64 (dF .i64 3 j.size) Q.size) (Li .i64 2 T.size)) 1) W.size) j.size),nh)
 else cM (dg a.aiv 0) λX=>
 cM (X) λY=>
 cM (HC.c0 nh Y) λZ=>
 some (Z.size,nh)
 else cW (gW (some d) nh) λad c=>
 cM (ad) λae=>
 cM (HC.c0 c ae) λaf=>
 some (af.size,c)
def oD(a0:Option Nat)(nh:List HC):Option Int:=cW (lz a0 nh) λr _=>some r
def iT:Nat->(Option Nat)->Int->List HC->Option ((Option Nat)×Int×List HC)
 |0,_,_,_=>none|n+1,a0,a1,nh=>
 cM (a0) λd=>
 cM (HC.c0 nh d) λj=>
 if j.normal then
 some (none,0,nh)
 else cM (lB (some d) nh) λt=>
 if t then
 cM (oD (some d) nh) λu=>
 if lQ (ed .i64 u j.size) a1 then
 some (none,4,nh)
 else cW (gW (some d) nh) λv o=>
 some (v,0,o)
 else fa (dE j.aiv)<|de (λ(l:Int) (w:Option Nat)=>(λ(c:List HC)=>
 g_ (iT n w a1 c) λh i b=>
 if dw i 0 then
 some (dV.ret (none,i,b))
 else if Option.isSome h then
 cM (HC.c0 b d) λf=>
 fa (xW f.aiv)<|cM (dg f.aiv l) λx=>
 cW (fC (some d) (wF f.aiv l h) b) λq k=>
 some (dV.ret (q,0,k))
 else some (dV.next b))) λs=>
 cM (dH s j.aiv 0 nh) (eE (λ(c:List HC)=>
 cM (HC.c0 c d) λa=>
 some (none,0,(js c d (HC.dz (dx.mk a.aiu a.aix a.oG a.aiv a.size a.free true))))) (λr=>some r))
def iE(a0:Option Nat)(nh:List HC):Option (Bool×Int×List HC):=
 cM (a0) λb=>
 cM (HC.dR nh b) λd=>
 cM (qd d.term nh) λi=>
 g_ (iT FU d.term (ed .i64 4096 i) nh) λc f a=>
 if ep (dw f 0) true (Option.isNone c)then
 some (false,f,a)
 else cM (HC.dR a b) λh=>
 some (true,0,(js (js a b (HC.eK (eB.mk c h.steps))) b (HC.eK (eB.mk c (dF .i64 h.steps 1)))))
def ib:Nat->(Option Nat)->List HC->Option Tm
 |0,_,_=>none|n+1,a0,nh=>
 cM (a0) λd=>
 cM (HC.c0 nh d) λa=>
 cM (kz FU a.oG) λf=>
 fa (dE a.aiv)<|de (λ(j:Int) (h:Option Nat)=>(λ(b:List Tm)=>
 cM (ib n h nh) λc=>
 fa (eO b [c])<|some (dV.next (fu b [c])))) λi=>
 cM (dH i a.aiv 0 []) (eE (λ(b:List Tm)=>
 some (Tm.mk a.aiu a.aix f b)) (λr=>some r))
def iG:Nat->(Option Nat)->List HC->Option (Bool×List HC)
 |0,_,_=>none|n+1,a0,nh=>
 cM (a0) λc=>
 cM (HC.c0 nh c) λf=>
 if f.normal then
 some (true,nh)
 else cM (lB (some c) nh) λi=>
 if i then
 some (false,nh)
 else fa (dE f.aiv)<|de (λ(l:Int) (j:Option Nat)=>(λ(d:List HC)=>
 cW (iG n j d) λh b=>
 if h then
 some (dV.next b)
 else some (dV.ret (false,b)))) λk=>
 cM (dH k f.aiv 0 nh) (eE (λ(d:List HC)=>
 cM (HC.c0 d c) λa=>
 some (true,(js d c (HC.dz (dx.mk a.aiu a.aix a.oG a.aiv a.size a.free true))))) (λr=>some r))
def jt(a0:Tm)(a1:Int):Option (Tm×Int×Int):=
 cM (oN a0) λw=>
 if dw w 0 then
 some ((Tm.mk 0 0 (Ty.mk 0 []) []),0,w)
 else de (λ(v23:Bool)=>
 if v23 then
 some ((Tm.mk 0 0 (Ty.mk 0 []) []),0,1)
 else cW (qm FU a0 ([]:List HC)) λu a=>
 de ((λ(b:List HC)=>
 cM (HC.dR b (List.length a)) λk=>
 if pR k.steps a1 then
 g_ (iE (some (List.length a)) b) λl f c=>
 if dw f 0 then
 some (dV.ret ((Tm.mk 0 0 (Ty.mk 0 []) []),0,f))
 else if l then
 some (dV.next c)
 else cM (HC.dR c (List.length a)) λh=>
 cM (ib FU h.term c) λn=>
 some (dV.ret (n,h.steps,0))
 else some (dV.brk b))) λo=>
 cM (nt o FU (a++[HC.eK (eB.mk u 0)])) (eE (λ(b:List HC)=>
 cM (HC.dR b (List.length a)) λq=>
 cW (iG FU q.term b) λs d=>
 if s then
 cM (HC.dR d (List.length a)) λi=>
 cM (ib FU i.term d) λt=>
 some (t,i.steps,0)
 else some ((Tm.mk 0 0 (Ty.mk 0 []) []),0,5)) (λr=>some r))) λj=>
 if pR a1 0 then
 j true
 else if lQ a1 65536 then
 j true
 else cM (wL a0) λv=>
 j (oF v)
def ky(a0 a1:Tm)(a2:Int):Option Int:=
 cM (oN a0) λj=>
 if dw j 0 then
 some j
 else cM (oN a1) λa=>
 if dw a 0 then
 some a
 else cM (qw a0 a1) λd=>
 if d then
 some 0
 else g_ (jt a0 a2) λf k b=>
 if dw b 0 then
 some b
 else g_ (jt a1 a2) λh l c=>
 if dw c 0 then
 some c
 else cM (qw f h) λi=>
 if i then
 some 0
 else some 11
def iP:Nat->Fm->Fm->Option Int
 |0,_,_=>none|n+1,a0,a1=>
 de (λ(k:Bool)=>
 if k then
 some 11
 else fa (dE a0.dc)<|de (λ(l:Int) (o:Tm)=>(λ(_:Unit)=>
 cM (dg a1.dc l) λc=>
 cM (ky o c 1000) λa=>
 if dw a 0 then
 some (dV.ret a)
 else some (dV.next ()))) λq=>
 cM (dH q a0.dc 0 ()) (eE (λ(_:Unit)=>
 fa (dE a0.aiv)<|de (λ(d:Int) (f:Fm)=>(λ(_:Unit)=>
 cM (dg a1.aiv d) λh=>
 cM (iP n f h) λb=>
 if dw b 0 then
 some (dV.ret b)
 else some (dV.next ()))) λi=>
 cM (dH i a0.aiv 0 ()) (eE (λ(_:Unit)=>
 some 0) (λr=>some r))) (λr=>some r))) λj=>
 if dw a0.aiu a1.aiu then
 j true
 else cM (fO FU a0.cT a1.cT) λs=>
 j (oF s)
def ic(a0 a1:Fm):Option Int:=
 cM (ju a0) λc=>
 if dw c 0 then
 some c
 else cM (ju a1) λa=>
 if dw a 0 then
 some a
 else cM (iP FU a0 a1) λb=>
 some b
def eH(a0:cV)(a1:List Ty):Option cV:=
 cM (fk a0.aiy a1) λa=>
 some (cV.mk (dW.mk (dF .i64 a0.eV.vars (dq a1)) a0.eV.aiB) a a0.known)
def iR(a0:Int)(a1:Ty)(a2:Fm):Option Fm:=
 some (Fm.mk a0 a1 [] [a2])
def eh(a0 a1:Int):Option Int:=
 fa (Jc a1)<|some (T4 .u32 a0 a1)
def mL(a0 a1 a:Int):Option Int:=
 if pH a0 a1 then
 fa (Jc (ed .i64 a0 a1))<|some (xK .u32 a (Uq .u32 1 (ed .i64 a0 a1)))
 else some a
def jc(a0:Tm):Option Int:=
 cM (qJ a0 (λ(s:Int) (a:Int) (b:Int)=>mL a b s) 0) λc=>
 some c
def gk(a0:cR)(a1:Ty):Option Bool:=
 cM (l6 a1) λa=>
 cM (jG a0 a) λb=>
 some b
def nM(a0 a1 b a:Int):Option Int:=
 if dj (ed .i64 a0 a1) b then
 some (dF .i64 a 1)
 else some a
def r8(a0:Tm)(a1:Int):Option Int:=
 cM (qJ a0 (λ(s:Int) (a:Int) (b:Int)=>nM a b a1 s) 0) λc=>
 some c
def iD(a0:Tm)(a1 a b:Int):Option Int:=
 cM (r8 a0 (dF .i64 b a1)) λc=>
 some (dF .i64 a c)
def mI{S:Type}:Nat->Fm->Int->(S->Tm->Int->Option S)->S->Option S
 |0,_,_,_,_=>none|n+1,a0,a1,a2,b=>
 fa (dE a0.dc)<|de (λ(l:Int) (c:Tm)=>(λ(v32:S)=>
 cM (a2 v32 c a1) λd=>
 some (dV.next d))) λf=>
 cM (dH f a0.dc 0 b) (eE (λ(v32:S)=>
 de (λ(v51:Int)=>
 fa (dE a0.aiv)<|de (λ(o:Int) (h:Fm)=>(λ(v72:S)=>
 cM (mI n h v51 a2 v72) λi=>
 some (dV.next i))) λj=>
 cM (dH j a0.aiv 0 v32) (eE (λ(v72:S)=>
 some v72) (λr=>some r))) λa=>
 cM (l0 a0.aiu) λk=>
 if k then
 a (dF .i64 a1 1)
 else a a1) (λr=>some r))
def jw(a0:Fm)(a1:Int):Option Int:=
 cM (mI FU a0 0 (λ(s:Int) (a:Tm) (b:Int)=>iD a b s a1) 0) λc=>
 some c
def nD(a0 a1 a:Int)(b:Tm):Option Tm:=
 if dj (ed .i64 a0 a1) a then
 cM (qX b 0 (dF .i64 a a1)) λc=>
 some c
 else if lQ (ed .i64 a0 a1) a then
 cM (gz (ed .i64 a0 1)) λd=>
 some d
 else cM (gz a0) λf=>
 some f
def yS(a0:Tm)(a1:Int)(a2:Tm):Option Tm:=
 cW (nP a0 (λ(s:Unit) (a:Int) (b:Int)=>nX (nD a b a1 a2) s) ()) λc d=>
 some c
def hE(a0:Tm)(a1 a:Int)(b:Tm):Option Tm:=
 cM (yS a0 (dF .i64 a a1) b) λc=>
 some c
def jU(a0:Fm)(a1:Int)(a2:Tm):Option Fm:=
 cW (dX FU a0 0 (λ(s:Unit) (a:Tm) (b:Int)=>nX (hE a b a1 a2) s) ()) λc d=>
 some c
def hB(a0:Fm)(a1:Tm):Option (Fm×Int):=
 cW (hJ a0) λd h=>
 cW (jC a1) λa f=>
 cM (jw a0 0) λb=>
 if lQ (dF .i64 d (Li .i64 b (ed .i64 a 1))) 4096 then
 some ((Fm.mk 0 (Ty.mk 0 []) [] []),4)
 else cM (jU a0 0 a1) λc=>
 some (c,0)
def pq(a0:Tm):Option Int:=
 some 0
def jb(a0:Tm)(a1 a:Int):Option (Tm×Int):=
 if dw a 0 then
 some (a0,a)
 else g_ (jt a0 1000) λb d c=>
 some (b,c)
def lF(a0:Fm):Option (Fm×Int):=
 cM (jw a0 0) λc=>
 if dj c 0 then
 cM (jU a0 0 (Tm.mk 0 0 (Ty.mk 0 []) [])) λd=>
 some (d,0)
 else cW (dX FU a0 0 (λ(s:Int) (i:Tm) (j:Int)=>jb i j s) 0) λa b=>
 if dw b 0 then
 some ((Fm.mk 0 (Ty.mk 0 []) [] []),b)
 else cM (jw a 0) λf=>
 if lQ f 0 then
 some ((Fm.mk 0 (Ty.mk 0 []) [] []),6)
 else cM (jU a 0 (Tm.mk 0 0 (Ty.mk 0 []) [])) λh=>
 some (h,0)
def qf(a0:Int)(a1:List Tm):Option Tm:=
 some (Tm.mk a0 0 (Ty.mk 0 []) a1)
def ql(a0:Int):Option dL:=
 if dj a0 16 then
 cM (qf 4 []) λa=>
 cM (mv) λb=>
 cM (gz 0) λc=>
 cM (qf 5 [c]) λd=>
 some (dL.mk 1 a [b] d)
 else cM (qf 7 []) λf=>
 cM (mv) λh=>
 cM (v7) λi=>
 cM (gz 1) λj=>
 cM (gz 0) λk=>
 cM (qf 8 [j,k]) λl=>
 some (dL.mk 2 f [h,i] l)
def p4(a0 a1:Tm):Option Fm:=
 some (Fm.mk 1 (Ty.mk 0 []) [a0,a1] [])
def mR(a0:List Fm)(a1:Pf)(a2:cV):Option (cP×Int):=
 cM (dg a1.dc 0) λb=>
 cM (gw a2.aiy b) λa=>
 if dw a 0 then
 some ((cP.mk (Fm.mk 0 (Ty.mk 0 []) [] []) 0),a)
 else cM (p4 b b) λc=>
 some ((cP.mk c 0),0)
def rE(a0:Tm)(a1:List Tm):Option Tm:=
 fa (dE a1)<|de (λ(i:Int) (f:Tm)=>(un5 λ(v44:Int) (b:Int) (v46:Int) (c:List Ty) (d:List Tm)=>
 cM (qf 3 [(Tm.mk v44 b (Ty.mk v46 c) d),f]) λa=>
 some (dV.next (a.aiu,a.aix,a.cT.aiu,a.cT.aiv,a.aiv)))) λh=>
 cM (dH h a1 0 (a0.aiu,a0.aix,a0.cT.aiu,a0.cT.aiv,a0.aiv)) (eE (un5 λ(v44:Int) (b:Int) (v46:Int) (c:List Ty) (d:List Tm)=>
 some (Tm.mk v44 b (Ty.mk v46 c) d)) (λr=>some r))
def s7(a0:Bool):Option (Int×Int):=
 if a0 then
 some (4,3)
 else some (5,2)
def uk(a0:Tm)(a1:List Ty):Option Tm:=
 de ((TC λ(v57:Int) (v58:Int) (v59:Int) (v60:Int) (a:List Ty) (b:List Tm)=>
 if pH v57 0 then
 cM (dg a1 v57) λc=>
 some (dV.next ((ed .i64 v57 1),2,0,c.aiu,c.aiv,[(Tm.mk v58 v59 (Ty.mk v60 a) b)]))
 else some (dV.brk (v57,v58,v59,v60,a,b)))) λd=>
 cM (nt d FU ((ed .i64 (dq a1) 1),a0.aiu,a0.aix,a0.cT.aiu,a0.cT.aiv,a0.aiv)) (eE (TC λ(v57:Int) (v58:Int) (v59:Int) (v60:Int) (a:List Ty) (b:List Tm)=>
 some (Tm.mk v58 v59 (Ty.mk v60 a) b)) (λr=>some r))
def yQ(a0:Int)(a1:Ty)(a2 a3 a4:Tm):Option Tm:=
 some (Tm.mk a0 0 a1 [a2,a3,a4])
def l8(a0 a1 a2:Tm):Option Tm:=
 cM (mv) λa=>
 cM (mv) λb=>
 cM (mv) λc=>
 cM (uk a1 [b,c]) λd=>
 cM (yQ 6 a a0 d a2) λf=>
 some f
def uf:Option Tm:=
 cM (qf 4 []) λa=>
 cM (gz 1) λb=>
 cM (gz 0) λc=>
 cM (l8 a b c) λd=>
 cM (mv) λf=>
 cM (uk d [f]) λh=>
 some h
def zJ(a0:Tm):Option Tm:=
 cM (mv) λa=>
 cM (mv) λb=>
 cM (uk a0 [a,b]) λc=>
 some c
def vZ:Option Tm:=
 cM (gz 1) λa=>
 cM (uf) λb=>
 cM (gz 0) λc=>
 cM (rE b [c]) λd=>
 cM (gz 0) λf=>
 cM (l8 a d f) λh=>
 cM (zJ h) λi=>
 some i
def uH(a0 a1:Tm):Option Fm:=
 cM (vZ) λa=>
 cM (qf 5 [a0]) λb=>
 cM (rE a [b,a1]) λc=>
 cM (qf 4 []) λd=>
 cM (p4 c d) λf=>
 some f
def kf:Nat->Fm->Fm->Option Bool
 |0,_,_=>none|n+1,a0,a1=>
 de (λ(k:Bool)=>
 if k then
 some false
 else fa (dE a0.dc)<|de (λ(l:Int) (o:Tm)=>(λ(_:Unit)=>
 cM (dg a1.dc l) λb=>
 cM (ie FU o b) λc=>
 if c then
 some (dV.next ())
 else some (dV.ret false))) λq=>
 cM (dH q a0.dc 0 ()) (eE (λ(_:Unit)=>
 fa (dE a0.aiv)<|de (λ(d:Int) (f:Fm)=>(λ(_:Unit)=>
 cM (dg a1.aiv d) λh=>
 cM (kf n f h) λi=>
 if i then
 some (dV.next ())
 else some (dV.ret false))) λj=>
 cM (dH j a0.aiv 0 ()) (eE (λ(_:Unit)=>
 some true) (λr=>some r))) (λr=>some r))) λa=>
 if dw a0.aiu a1.aiu then
 a true
 else cM (fO FU a0.cT a1.cT) λs=>
 if s then
 if dw (dq a0.dc) (dq a1.dc)then
 a true
 else a (dw (dq a0.aiv) (dq a1.aiv))
 else a true
def sA(a0:Fm):Option (Bool×Tm×Fm×Bool):=
 cW (s7 (dj a0.aiu 4)) λt u=>
 de (λ(v27:Bool)=>
 if v27 then
 some (false,(Tm.mk 0 0 (Ty.mk 0 []) []),(Fm.mk 0 (Ty.mk 0 []) [] []),false)
 else cM (dg a0.aiv 0) λf=>
 cM (dg f.aiv 0) λh=>
 cM (dg h.dc 0) λd=>
 de (λ(i:Bool)=>
 if i then
 some (false,(Tm.mk 0 0 (Ty.mk 0 []) []),(Fm.mk 0 (Ty.mk 0 []) [] []),false)
 else cM (dg d.aiv 1) λj=>
 cM (dg f.aiv 1) λk=>
 some ((dj a0.aiu 4),j,k,true)) λa=>
 if dw d.aiu 3 then
 a true
 else cM (dg d.aiv 1) λc=>
 cM (r8 c 0) λl=>
 if lQ l 0 then
 a true
 else cM (gz 0) λn=>
 cM (uH n c) λo=>
 cM (kf FU h o) λq=>
 a (oF q)) λb=>
 if dw a0.aiu t then
 b true
 else if dw a0.cT.aiu 1 then
 b true
 else cM (dg a0.aiv 0) λr=>
 if dw r.aiu u then
 b true
 else cM (dg r.aiv 0) λs=>
 b (dw s.aiu 1)
def mU:Nat->Fm->Option Int
 |0,_=>none|n+1,a0=>
 if dj a0.aiu 1 then
 some 6
 else cM (dg a0.aiv (ed .i64 (dq a0.aiv) 1)) λk=>
 cM (mU n k) λa=>
 de (λ(v26:Int)=>
 de (λ(v57:Int)=>
 some v57) λb=>
 QU (sA a0) λl o f h=>
 if h then
 cM (mU n f) λi=>
 b (xK .u8 (qi .u8 v26 1) (qi .u8 i 4))
 else b (qi .u8 v26 1)) λc=>
 if ep (dj a0.aiu 2) true (dj a0.aiu 3)then
 cM (dg a0.aiv 0) λj=>
 cM (mU n j) λd=>
 some (xK .u8 (qi .u8 (qi .u8 d a) 6) (qi .u8 (ep (dj a0.aiu 2) (xK .u8 a d) a) 1))
 else if dj a0.aiu 5 then
 c (xK .u8 a 1)
 else c a
def zS(a0:Fm)(a1:Int):Option (Bool×Int):=
 cM (ju a0) λb=>
 if dw b 0 then
 some (false,b)
 else cM (mU FU a0) λa=>
 some ((dw (qi .u8 a a1) 0),0)
def oc(a0:Fm):Option (Bool×Int):=
 cW (zS a0 1) λa b=>
 some (a,b)
mutual
def dN:Nat->(List Fm)->Pf->cV->Option (cP×Int)
 |0,_,_,_=>none|n+1,a0,a1,a2=>
 cW (if dj a1.aiu 1 then nS a0 a1 a2 else if dj a1.aiu 2 then mr a0 a1 a2 else if dj a1.aiu 3 then jP n a0 a1 a2 else if dj a1.aiu 4 then gq n a0 a1 a2 else if dj a1.aiu 5 then gq n a0 a1 a2 else if dj a1.aiu 6 then jO n a0 a1 a2 else if dj a1.aiu 7 then jR n a0 a1 a2 else if dj a1.aiu 8 then gb n a0 a1 a2 else if dj a1.aiu 12 then gb n a0 a1 a2 else if dj a1.aiu 9 then gd n a0 a1 a2 else if dj a1.aiu 13 then gd n a0 a1 a2 else if dj a1.aiu 10 then gn n a0 a1 a2 else if dj a1.aiu 14 then gn n a0 a1 a2 else if dj a1.aiu 11 then gm n a0 a1 a2 else if dj a1.aiu 15 then gm n a0 a1 a2 else if dj a1.aiu 16 then j5 n a0 a1 a2 else if dj a1.aiu 17 then j5 n a0 a1 a2 else if dj a1.aiu 18 then mR a0 a1 a2 else if dj a1.aiu 19 then jh n a0 a1 a2 else if dj a1.aiu 20 then jZ n a0 a1 a2 else none) λa b=>
 if dw b 0 then
 some ((cP.mk (Fm.mk 0 (Ty.mk 0 []) [] []) 0),b)
 else cM (ju a.cU) λd=>
 if dw d 0 then
 some ((cP.mk (Fm.mk 0 (Ty.mk 0 []) [] []) 0),4)
 else de (λ(v30:Int)=>
 some ((cP.mk a.cU v30),0)) λc=>
 cW (oc a.cU) λf h=>
 if f then
 c a.uses
 else c 0
def jP:Nat->(List Fm)->Pf->cV->Option (cP×Int)
 |0,_,_,_=>none|n+1,a0,a1,a2=>
 cM (dg a1.aiv 0) λf=>
 cW (dN n a0 f a2) λa b=>
 if dw b 0 then
 some ((cP.mk (Fm.mk 0 (Ty.mk 0 []) [] []) 0),b)
 else cM (dg a1.aiv 1) λh=>
 cW (dN n a0 h a2) λc d=>
 if dw d 0 then
 some ((cP.mk (Fm.mk 0 (Ty.mk 0 []) [] []) 0),d)
 else cM (zV 2 [a.cU,c.cU]) λi=>
 some ((cP.mk i (xK .u32 a.uses c.uses)),0)
def gq:Nat->(List Fm)->Pf->cV->Option (cP×Int)
 |0,_,_,_=>none|n+1,a0,a1,a2=>
 cM (dg a1.aiv 0) λc=>
 cW (dI n a0 c a2 2) λa b=>
 if dw b 0 then
 some ((cP.mk (Fm.mk 0 (Ty.mk 0 []) [] []) 0),b)
 else cM (dg a.cU.aiv (ep (dj a1.aiu 5) 1 0)) λd=>
 some ((cP.mk d a.uses),0)
def jO:Nat->(List Fm)->Pf->cV->Option (cP×Int)
 |0,_,_,_=>none|n+1,a0,a1,a2=>
 cM (dg a1.eg 0) λf=>
 cM (dC FU a2.aiy f) λa=>
 if dw a 0 then
 some ((cP.mk (Fm.mk 0 (Ty.mk 0 []) [] []) 0),a)
 else cM (dy a2.eV 0 1) λb=>
 if dw b 0 then
 some ((cP.mk (Fm.mk 0 (Ty.mk 0 []) [] []) 0),b)
 else cM (dg a1.aiv 0) λh=>
 cM (eM a2 f) λi=>
 cW (dN n a0 h i) λc d=>
 if dw d 0 then
 some ((cP.mk (Fm.mk 0 (Ty.mk 0 []) [] []) 0),d)
 else cM (zV 3 [f,c.cU]) λj=>
 some ((cP.mk j c.uses),0)
def jR:Nat->(List Fm)->Pf->cV->Option (cP×Int)
 |0,_,_,_=>none|n+1,a0,a1,a2=>
 cM (dg a1.aiv 0) λh=>
 cW (dI n a0 h a2 3) λa b=>
 if dw b 0 then
 some ((cP.mk (Fm.mk 0 (Ty.mk 0 []) [] []) 0),b)
 else cM (dg a1.aiv 1) λi=>
 cW (dN n a0 i a2) λc d=>
 if dw d 0 then
 some ((cP.mk (Fm.mk 0 (Ty.mk 0 []) [] []) 0),d)
 else cM (dg a.cU.aiv 0) λj=>
 cM (ic j c.cU) λf=>
 if dw f 0 then
 some ((cP.mk (Fm.mk 0 (Ty.mk 0 []) [] []) 0),f)
 else cM (dg a.cU.aiv 1) λk=>
 some ((cP.mk k (xK .u32 a.uses c.uses)),0)
def gb:Nat->(List Fm)->Pf->cV->Option (cP×Int)
 |0,_,_,_=>none|n+1,a0,a1,a2=>
 cM (dy a2.eV 1 0) λj=>
 if dw j 0 then
 some ((cP.mk (Fm.mk 0 (Ty.mk 0 []) [] []) 0),j)
 else cM (dg a1.aiv 0) λd=>
 cM (eH a2 [a1.cT]) λf=>
 cW (dN n a0 d f) λa b=>
 if dw b 0 then
 some ((cP.mk (Fm.mk 0 (Ty.mk 0 []) [] []) 0),b)
 else de (λ(v40:Int)=>
 cM (iR v40 a1.cT a.cU) λh=>
 cM (eh a.uses 1) λi=>
 some ((cP.mk h i),0)) λc=>
 if dj a1.aiu 12 then
 if dw (qi .u32 a.uses 1) 0 then
 some ((cP.mk (Fm.mk 0 (Ty.mk 0 []) [] []) 0),12)
 else c 6
 else c 4
def gd:Nat->(List Fm)->Pf->cV->Option (cP×Int)
 |0,_,_,_=>none|n+1,a0,a1,a2=>
 cM (dg a1.dc 0) λc=>
 cW (dD FU a2.aiy c) λo l=>
 if dw l 0 then
 some ((cP.mk (Fm.mk 0 (Ty.mk 0 []) [] []) 0),l)
 else cM (jc c) λd=>
 cM (dg a1.aiv 0) λf=>
 cW (dI n a0 f a2 (ep (dj a1.aiu 13) 6 4)) λa b=>
 if dw b 0 then
 some ((cP.mk (Fm.mk 0 (Ty.mk 0 []) [] []) 0),b)
 else cM (gk o a.cU.cT) λh=>
 if h then
 cM (dg a.cU.aiv 0) λi=>
 cW (hB i c) λj k=>
 some ((cP.mk j (xK .u32 a.uses (ep (dj a1.aiu 13) 0 d))),k)
 else some ((cP.mk (Fm.mk 0 (Ty.mk 0 []) [] []) 0),7)
def gn:Nat->(List Fm)->Pf->cV->Option (cP×Int)
 |0,_,_,_=>none|n+1,a0,a1,a2=>
 cM (dg a1.eg 0) λa=>
 cM (dg a1.dc 0) λb=>
 if dj a1.aiu 14 then
 cM (dC FU a2.aiy a) λd=>
 if dw d 0 then
 some ((cP.mk (Fm.mk 0 (Ty.mk 0 []) [] []) 0),d)
 else if dw a.aiu 7 then
 some ((cP.mk (Fm.mk 0 (Ty.mk 0 []) [] []) 0),10)
 else cW (dD FU a2.aiy b) λr f=>
 if dw f 0 then
 some ((cP.mk (Fm.mk 0 (Ty.mk 0 []) [] []) 0),f)
 else cM (gk r a.cT) λs=>
 if s then
 cM (dg a1.aiv 0) λt=>
 cM (dg a.aiv 0) λu=>
 cW (dM n a0 t a2 u b) λv h=>
 if dw h 0 then
 some ((cP.mk (Fm.mk 0 (Ty.mk 0 []) [] []) 0),h)
 else cM (pq b) λw=>
 some ((cP.mk a (xK .u32 v.uses w)),0)
 else some ((cP.mk (Fm.mk 0 (Ty.mk 0 []) [] []) 0),7)
 else cM (dC FU a2.aiy a) λi=>
 if dw i 0 then
 some ((cP.mk (Fm.mk 0 (Ty.mk 0 []) [] []) 0),i)
 else if dw a.aiu 5 then
 some ((cP.mk (Fm.mk 0 (Ty.mk 0 []) [] []) 0),10)
 else cW (dD FU a2.aiy b) λx j=>
 if dw j 0 then
 some ((cP.mk (Fm.mk 0 (Ty.mk 0 []) [] []) 0),j)
 else cM (gk x a.cT) λy=>
 if y then
 cM (dg a1.aiv 0) λk=>
 cM (dg a.aiv 0) λl=>
 cW (dM n a0 k a2 l b) λo c=>
 if dw c 0 then
 some ((cP.mk (Fm.mk 0 (Ty.mk 0 []) [] []) 0),c)
 else cM (jc b) λq=>
 some ((cP.mk a (xK .u32 o.uses q)),0)
 else some ((cP.mk (Fm.mk 0 (Ty.mk 0 []) [] []) 0),7)
def gm:Nat->(List Fm)->Pf->cV->Option (cP×Int)
 |0,_,_,_=>none|n+1,a0,a1,a2=>
 cM (dg a1.aiv 0) λi=>
 cW (dI n a0 i a2 (ep (dj a1.aiu 15) 7 5)) λa c=>
 if dw c 0 then
 some ((cP.mk (Fm.mk 0 (Ty.mk 0 []) [] []) 0),c)
 else cM (dy a2.eV 1 1) λd=>
 if dw d 0 then
 some ((cP.mk (Fm.mk 0 (Ty.mk 0 []) [] []) 0),d)
 else cM (dg a1.aiv 1) λj=>
 cM (eH a2 [a.cU.cT]) λk=>
 cM (dg a.cU.aiv 0) λl=>
 cM (eM k l) λo=>
 cW (dN n a0 j o) λb f=>
 if dw f 0 then
 some ((cP.mk (Fm.mk 0 (Ty.mk 0 []) [] []) 0),f)
 else cW (lF b.cU) λq h=>
 if dw h 0 then
 some ((cP.mk (Fm.mk 0 (Ty.mk 0 []) [] []) 0),h)
 else if ep (dj a1.aiu 15) (dw (qi .u32 b.uses 1) 0) false then
 some ((cP.mk (Fm.mk 0 (Ty.mk 0 []) [] []) 0),12)
 else cM (eh b.uses 1) λr=>
 some ((cP.mk q (xK .u32 a.uses r)),0)
def j5:Nat->(List Fm)->Pf->cV->Option (cP×Int)
 |0,_,_,_=>none|n+1,a0,a1,a2=>
 cM (dg a1.eg 0) λb=>
 cM (dg a1.dc 0) λd=>
 cM (ql a1.aiu) λa=>
 cM (fk a2.aiy [(Ty.mk a.aiu [])]) λx=>
 cM (dC FU x b) λf=>
 if dw f 0 then
 some ((cP.mk (Fm.mk 0 (Ty.mk 0 []) [] []) 0),f)
 else cM (gO a2.aiy d a.aiu) λh=>
 if dw h 0 then
 some ((cP.mk (Fm.mk 0 (Ty.mk 0 []) [] []) 0),h)
 else cM (dg a1.aiv 0) λy=>
 cW (dM n a0 y a2 b a.base) λA i=>
 if dw i 0 then
 some ((cP.mk (Fm.mk 0 (Ty.mk 0 []) [] []) 0),i)
 else cM (dy a2.eV (dq a.vars) 1) λj=>
 if dw j 0 then
 some ((cP.mk (Fm.mk 0 (Ty.mk 0 []) [] []) 0),j)
 else cM (eH a2 a.vars) λk=>
 cM (ew b 1 (ed .i64 (dq a.vars) 1)) λl=>
 cM (eM k l) λo=>
 cM (dg a1.aiv 1) λq=>
 cM (ew b 1 (dq a.vars)) λr=>
 cW (dM n a0 q o r a.next) λs c=>
 if dw c 0 then
 some ((cP.mk (Fm.mk 0 (Ty.mk 0 []) [] []) 0),c)
 else cW (hB b d) λt u=>
 cM (jc d) λv=>
 cM (eh s.uses (dq a.vars)) λw=>
 some ((cP.mk t (xK .u32 (xK .u32 v A.uses) w)),u)
def jh:Nat->(List Fm)->Pf->cV->Option (cP×Int)
 |0,_,_,_=>none|n+1,a0,a1,a2=>
 cM (dg a1.eg 0) λj=>
 cM (mv) λk=>
 cM (fk a2.aiy [k]) λl=>
 cM (dC FU l j) λa=>
 if dw a 0 then
 some ((cP.mk (Fm.mk 0 (Ty.mk 0 []) [] []) 0),a)
 else cM (dg a1.aiv 0) λo=>
 cW (dI n a0 o a2 1) λb c=>
 if dw c 0 then
 some ((cP.mk (Fm.mk 0 (Ty.mk 0 []) [] []) 0),c)
 else cM (dg a1.aiv 1) λq=>
 cM (dg b.cU.dc 0) λr=>
 cW (dM n a0 q a2 j r) λs d=>
 if dw d 0 then
 some ((cP.mk (Fm.mk 0 (Ty.mk 0 []) [] []) 0),d)
 else cM (dg b.cU.dc 1) λf=>
 cW (hB j f) λh i=>
 some ((cP.mk h s.uses),i)
def jZ:Nat->(List Fm)->Pf->cV->Option (cP×Int)
 |0,_,_,_=>none|n+1,a0,a1,a2=>
 cM (dg a1.aiv 0) λh=>
 cW (dI n a0 h a2 4) λa c=>
 if dw c 0 then
 some ((cP.mk (Fm.mk 0 (Ty.mk 0 []) [] []) 0),c)
 else cM (dg a.cU.aiv 0) λb=>
 if dw b.aiu 5 then
 some ((cP.mk (Fm.mk 0 (Ty.mk 0 []) [] []) 0),10)
 else cM (nU b.cT [a.cU.cT]) λd=>
 cM (dg b.aiv 0) λi=>
 cM (ew i 2 1) λj=>
 cM (gz 1) λk=>
 cM (gz 0) λl=>
 cM (rE k [l]) λo=>
 cW (hB j o) λq r=>
 de (λ(s:Bool)=>
 if s then
 some ((cP.mk (Fm.mk 0 (Ty.mk 0 []) [] []) 0),4)
 else cM (iR 4 a.cU.cT q) λt=>
 cM (iR 5 d t) λu=>
 some ((cP.mk u a.uses),0)) λf=>
 if dw r 0 then
 f true
 else cM (lp d) λv=>
 f (dw v 0)
def dI:Nat->(List Fm)->Pf->cV->Int->Option (cP×Int)
 |0,_,_,_,_=>none|n+1,a0,a1,a2,a3=>
 cW (dN n a0 a1 a2) λa b=>
 if ep (dj b 0) (dw a.cU.aiu a3) false then
 some ((cP.mk (Fm.mk 0 (Ty.mk 0 []) [] []) 0),10)
 else some (a,b)
def dM:Nat->(List Fm)->Pf->cV->Fm->Tm->Option (cP×Int)
 |0,_,_,_,_,_=>none|n+1,a0,a1,a2,a3,a4=>
 cW (dN n a0 a1 a2) λd f=>
 if dw f 0 then
 some ((cP.mk (Fm.mk 0 (Ty.mk 0 []) [] []) 0),f)
 else cW (hB a3 a4) λb a=>
 if dw a 0 then
 some ((cP.mk (Fm.mk 0 (Ty.mk 0 []) [] []) 0),a)
 else cM (ic b d.cU) λc=>
 some (d,c)
end
def vY:Nat->Tm->Option Tm
 |0,_=>none|n+1,a0=>
 cM (kz FU a0.cT) λd=>
 fa (dE a0.aiv)<|de (λ(f:Int) (b:Tm)=>(λ(v72:List Tm)=>
 cM (vY n b) λa=>
 fa (eO v72 [a])<|some (dV.next (fu v72 [a])))) λc=>
 cM (dH c a0.aiv 0 []) (eE (λ(v72:List Tm)=>
 some (Tm.mk a0.aiu a0.aix d v72)) (λr=>some r))
def mu(a0:Tm)(a1:Int):Option Tm:=
 cM (vY FU a0) λa=>
 some a
def lZ(a0:Fm):Option Fm:=
 cW (dX FU a0 0 (λ(s:Unit) (a:Tm) (b:Int)=>nX (mu a b) s) ()) λc d=>
 some c
def je(a0:Int):Option (List Int):=
 de ((rM λ(v37:Int) (a:List Int)=>
 if dw v37 0 then
 cM (gN v37) λb=>
 fa (eO a [b])<|some (dV.next ((qi .u32 v37 (ed .u32 v37 1)),(fu a [b])))
 else some (dV.brk (v37,a)))) λc=>
 cM (nt c FU (a0,[])) (eE (rM λ(v37:Int) (a:List Int)=>
 some a) (λr=>some r))
def mw(a0:List Fm)(a1:Sq)(a2:Pf):Option (qZ×Int):=
 cM (rB a0 a1) λi=>
 if dw i 0 then
 some ((qZ.mk (Fm.mk 0 (Ty.mk 0 []) [] []) []),i)
 else cM (qU a2) λa=>
 if dw a 0 then
 some ((qZ.mk (Fm.mk 0 (Ty.mk 0 []) [] []) []),a)
 else cM (xg) λj=>
 cM (rA a1) λd=>
 cW (dN FU a0 a2 d) λb c=>
 if dw c 0 then
 some ((qZ.mk (Fm.mk 0 (Ty.mk 0 []) [] []) []),c)
 else cM (lZ b.cU) λf=>
 cM (je b.uses) λh=>
 some ((qZ.mk f h),0)
def mZ(a0:List Fm)(a1:Sq)(a2:Pf)(a3:Fm):Option Int:=
 cW (mw a0 a1 a2) λd c=>
 if dw c 0 then
 some c
 else cM (kx a1.aiy a3) λa=>
 if dw a 0 then
 some a
 else cM (ic d.cU a3) λb=>
 some b
def pz(a0:ry):Option (Int×Int):=
 if lQ (dq a0.dB) 32 then
 some (0,3)
 else fa (dE a0.dB)<|de (λ(a:Int) (d:gK)=>(λ(_:Unit)=>
 cM (oR a0.dB a) λb=>
 if dw b 0 then
 some (dV.ret (a,b))
 else cM (k_ a0.dB 0 a) λf=>
 cM (kY f) λh=>
 cM (mZ h (Sq.mk [] []) d.proof d.cU) λc=>
 if dw c 0 then
 some (dV.ret (a,c))
 else some (dV.next ()))) λi=>
 cM (dH i a0.dB 0 ()) (eE (λ(_:Unit)=>
 some ((dq a0.dB),0)) (λr=>some r))
def vH(a0:ry):Option Int:=
 if lQ (dq a0.dB) 32 then
 some 3
 else fa (dE a0.dB)<|de (λ(b:Int) (d:gK)=>(λ(_:Unit)=>
 cM (oR a0.dB b) λa=>
 if dw a 0 then
 some (dV.ret a)
 else some (dV.next ()))) λc=>
 cM (dH c a0.dB 0 ()) (eE (λ(_:Unit)=>
 some 0) (λr=>some r))
def za(a0:ry):Option ((List (List Int))×Int):=
 cM (vH a0) λd=>
 if dw d 0 then
 some ([],d)
 else fa (dE a0.dB)<|de (λ(f:Int) (b:gK)=>(λ(v80:(List (List Int)))=>
 cW (nF b.proof) λa h=>
 fa (eO v80 [a])<|some (dV.next (fu v80 [a])))) λc=>
 cM (dH c a0.dB 0 []) (eE (λ(v80:(List (List Int)))=>
 some (v80,0)) (λr=>some r))
def lE(uses:List (List Int)):Nat->Int->List Bool->Option (List Bool)
 |0,_,_=>none|n+1,a0,a=>
 cM (dg a a0) λb=>
 if b then
 some a
 else cM (dg uses a0) λl=>
 fa (dE l)<|de (λ(_:Int) (x:Int)=>(λ(v:List Bool)=>
 cM (lE uses n x v) λs=>
 some (dV.next s)):Int->Int->(List Bool)->(Option (dV (List Bool) (List Bool)))) λF=>
 cM (dH F l 0 (a.set a0.toNat true)) (eE (λ(v:List Bool)=>
 some v) (λr=>some r))
def xL(a0:ry)(a1:Int):Option (List Int×Int):=
 cW (za a0) λuses e=>
 if dw e 0 then
 some ([],e)
 else if ep (pR a1 0) true (pH a1 (dq uses))then
 some ([],1)
 else fa (dE uses)<|cM (lE uses FU a1 (List.replicate uses.length false)) λv=>
 fa (dE v)<|de (λ(j:Int) (x:Bool)=>(λ(s:List Int)=>
 if x then
 fa (eO s [j])<|some (dV.next (fu s [j]))
 else some (dV.next s)):Int->Bool->(List Int)->(Option (dV (List Int) (List Int×Int)))) λF=>
 cM (dH F v 0 []) (eE (λ(s:List Int)=>
 some (s,0)) (λr=>some r))
def w7:Option Bool:=
 cM (ta 1) λj=>
 cM (ta 1) λk=>
 cM (k1 j k) λa=>
 cM (ta 1) λc=>
 cM (jF c) λb=>
 cW (pz (ry.mk [(gK.mk (ByteArray.mk #[97]) a b),(gK.mk (ByteArray.mk #[98]) a (Pf.mk 2 0 (Ty.mk 0 []) [] [] []))])) λd f=>
 cW (xL (ry.mk [(gK.mk (ByteArray.mk #[97]) a b),(gK.mk (ByteArray.mk #[98]) a (Pf.mk 2 0 (Ty.mk 0 []) [] [] []))]) 1) λh i=>
 some (ep (dj f 0) (ep (dj i 0) (ep (dj d 2) (dj (dq h) 2) false) false) false)
def FM(a0:List Int):Option Bool:=
 some (HB (dq a0) 500)
def O8(l:List Int):Option dd:=some ⟨l,0⟩
def FO(a0 a1:Int):Option Int:=
 fa (Co a1)<|fa (Co a1)<|some (wq .i64 (dF .i64 (wq .i64 a0 a1) a1) a1)
def eu(a0:dd)(a1:Int):Option (Int×dd):=
 if ep (pR a1 1) true (pH a0.rG (dq a0.l))then
 some (0,a0)
 else cM (dg a0.l a0.rG) λa=>
 cM (FO a a1) λb=>
 some (b,(dd.mk a0.l (dF .i64 a0.rG 1)))
def gB:Option Ty:=
 some (Ty.mk 1 [])
def h9:Nat->Fm->Option Fm
 |0,_=>none|n+1,a0=>
 cM (gQ FU a0.cT) λk=>
 fa (dE a0.dc)<|de (λ(l:Int) (h:Tm)=>(λ(v72:List Tm)=>
 cM (iC FU h) λc=>
 fa (eO v72 [c])<|some (dV.next (fu v72 [c])))) λi=>
 cM (dH i a0.dc 0 []) (eE (λ(v72:List Tm)=>
 fa (dE a0.aiv)<|de (λ(j:Int) (d:Fm)=>(λ(a:List Fm)=>
 cM (h9 n d) λb=>
 fa (eO a [b])<|some (dV.next (fu a [b])))) λf=>
 cM (dH f a0.aiv 0 []) (eE (λ(a:List Fm)=>
 some (Fm.mk a0.aiu k v72 a)) (λr=>some r))) (λr=>some r))
def qo:Nat->Pf->Option Pf
 |0,_=>none|n+1,a0=>
 cM (gQ FU a0.cT) λt=>
 fa (dE a0.dc)<|de (λ(u:Int) (l:Tm)=>(λ(v72:List Tm)=>
 cM (iC FU l) λf=>
 fa (eO v72 [f])<|some (dV.next (fu v72 [f])))) λo=>
 cM (dH o a0.dc 0 []) (eE (λ(v72:List Tm)=>
 fa (dE a0.eg)<|de (λ(q:Int) (h:Fm)=>(λ(a:List Fm)=>
 cM (h9 FU h) λc=>
 fa (eO a [c])<|some (dV.next (fu a [c])))) λi=>
 cM (dH i a0.eg 0 []) (eE (λ(a:List Fm)=>
 fa (dE a0.aiv)<|de (λ(s:Int) (j:Pf)=>(λ(b:List Pf)=>
 cM (qo n j) λd=>
 fa (eO b [d])<|some (dV.next (fu b [d])))) λk=>
 cM (dH k a0.aiv 0 []) (eE (λ(b:List Pf)=>
 some (Pf.mk a0.aiu a0.aix t v72 a b)) (λr=>some r))) (λr=>some r))) (λr=>some r))
def jY(a0:Int)(a1:List Pf):Option Pf:=
 fa (dE a1)<|de (λ(d:Int) (b:Pf)=>(λ(v64:List Pf)=>
 cM (qo FU b) λa=>
 fa (eO v64 [a])<|some (dV.next (fu v64 [a])))) λc=>
 cM (dH c a1 0 []) (eE (λ(v64:List Pf)=>
 some (Pf.mk a0 0 (Ty.mk 0 []) [] [] v64)) (λr=>some r))
def ke(a0:Int)(a1 a2:Fm):Option Fm:=
 cM (h9 FU a1) λa=>
 cM (h9 FU a2) λb=>
 some (Fm.mk a0 (Ty.mk 0 []) [] [a,b])
def lC:Option Ty:=
 some (Ty.mk 2 [])
def ux:Option Ty:=
 some (Ty.mk 5 [])
def tT(a0 a1:Ty):Option Ty:=
 cM (gQ FU a0) λa=>
 cM (gQ FU a1) λb=>
 some (Ty.mk 3 [a,b])
def ka(a0 a1:Ty):Option Ty:=
 cM (gQ FU a0) λa=>
 cM (gQ FU a1) λb=>
 some (Ty.mk 4 [a,b])
def iy:Nat->dd->Int->Option (Ty×dd)
 |0,_,_=>none|n+1,a0,a1=>
 de (λ(v57:dd)=>
 cM (gB) λc=>
 some (c,v57)) λb=>
 cW (eu a0 7) λa d63=>
 if ep (dj a 0) true (ep (dj a 1) true (dj a 2))then
 cM (gB) λi=>
 some (i,d63)
 else if dj a 3 then
 cM (lC) λj=>
 some (j,d63)
 else if dj a 4 then
 cM (ux) λk=>
 some (k,d63)
 else if dj a 5 then
 if lQ a1 0 then
 cW (iy n d63 (ed .i64 a1 1)) λl d89=>
 cW (iy n d89 (ed .i64 a1 1)) λo d92=>
 cM (tT l o) λq=>
 some (q,d92)
 else b d63
 else if dj a 6 then
 if lQ a1 0 then
 cW (iy n d63 (ed .i64 a1 1)) λd d105=>
 cW (iy n d105 (ed .i64 a1 1)) λf d108=>
 cM (ka d f) λh=>
 some (h,d108)
 else b d63
 else b d63
def lu(a0 a1:List Ty):Option (List Ty):=
 fa (eO [] a0)<|fa (eO (fu [] a0) a1)<|some (fu (fu [] a0) a1)
def jn(a0:Int)(a1:Ty)(a2:Fm):Option Fm:=
 cM (gQ FU a1) λa=>
 cM (h9 FU a2) λb=>
 some (Fm.mk a0 a [] [b])
def ey:Nat->Ty->Ty->Option Bool
 |0,_,_=>none|n+1,a0,a1=>
 if ep (dw a0.aiu a1.aiu) true (dw (dq a0.aiv) (dq a1.aiv))then
 some false
 else fa (dE a0.aiv)<|de (λ(c:Int) (d:Ty)=>(λ(_:Unit)=>
 cM (dg a1.aiv c) λa=>
 cM (ey n d a) λb=>
 if b then
 some (dV.next ())
 else some (dV.ret false))) λf=>
 cM (dH f a0.aiv 0 ()) (eE (λ(_:Unit)=>
 some true) (λr=>some r))
def Bx(a0:List Ty)(a1:Ty):Option (List Int):=
 fa (dE a0)<|de (λ(b:Int) (i:Ty)=>(λ(a:List Int)=>
 de (λ(c:List Int)=>
 some (dV.next c)) λj201=>
 cM (dg a0 (ed .i64 (ed .i64 (dq a0) 1) b)) λd=>
 cM (ey FU d a1) λf=>
 if f then
 fa (eO a [b])<|j201 (fu a [b])
 else j201 a)) λh=>
 cM (dH h a0 0 []) (eE (λ(a:List Int)=>
 some a) (λr=>some r))
def eL(a0:Int):Option Tm:=
 some (Tm.mk 1 a0 (Ty.mk 0 []) [])
def kN(a0:Int)(a1:Ty)(a2:List Tm):Option Tm:=
 cM (eN a0 a2) λa=>
 cM (gQ FU a1) λb=>
 some (Tm.mk a.aiu a.aix b a.aiv)
def kg(a0:Tm):Option Tm:=
 cM (gB) λa=>
 cM (kN 2 a [a0]) λb=>
 some b
def r5(a0 a1 a2:Tm):Option Tm:=
 cM (gB) λa=>
 cM (kN 6 a [a0,a1,a2]) λb=>
 some b
def rY:Option Tm:=
 cM (eL 1) λa=>
 cM (eL 0) λb=>
 cM (eN 5 [b]) λc=>
 cM (kg c) λd=>
 cM (kg d) λf=>
 cM (eL 0) λh=>
 cM (r5 a f h) λi=>
 cM (kg i) λj=>
 cM (kg j) λk=>
 some k
def AN(a0:Tm)(a1:List Tm):Option Tm:=
 fa (dE a1)<|de (λ(i:Int) (f:Tm)=>(un5 λ(v44:Int) (b:Int) (v46:Int) (c:List Ty) (d:List Tm)=>
 cM (eN 3 [(Tm.mk v44 b (Ty.mk v46 c) d),f]) λa=>
 some (dV.next (a.aiu,a.aix,a.cT.aiu,a.cT.aiv,a.aiv)))) λh=>
 cM (dH h a1 0 (a0.aiu,a0.aix,a0.cT.aiu,a0.cT.aiv,a0.aiv)) (eE (un5 λ(v44:Int) (b:Int) (v46:Int) (c:List Ty) (d:List Tm)=>
 some (Tm.mk v44 b (Ty.mk v46 c) d)) (λr=>some r))
def uU:Option Tm:=
 cM (eN 4 []) λa=>
 cM (eL 1) λb=>
 cM (kg b) λc=>
 cM (kg c) λd=>
 cM (eL 0) λf=>
 cM (r5 a d f) λh=>
 cM (kg h) λi=>
 some i
def wx:Option Tm:=
 cM (eL 1) λa=>
 cM (uU) λb=>
 cM (eL 0) λc=>
 cM (eN 3 [b,c]) λd=>
 cM (kg d) λf=>
 cM (kg f) λh=>
 cM (eL 0) λi=>
 cM (r5 a h i) λj=>
 cM (kg j) λk=>
 cM (kg k) λl=>
 some l
def fo:Nat->dd->(List Ty)->Ty->Int->Option (Tm×dd)
 |0,_,_,_,_=>none|n+1,a0,a1,a2,a3=>
 cM (Bx a1 a2) λx3=>
 de (λ(v37:Bool) (u:dd)=>
 if v37 then
 cW (eu u (dq x3)) λbK d51=>
 cM (dg x3 bK) λbL=>
 cM (eL bL) λbM=>
 some (bM,d51)
 else de (λ(b:dd)=>
 if dj a2.aiu 1 then
 de (λ(v:dd)=>
 cW (eu v 3) λw x=>
 cM (ta w) λy=>
 some (y,x)) λi=>
 if lQ a3 0 then
 cW (eu b 5) λf d=>
 if dj f 0 then
 cW (fo n d a1 a2 (ed .i64 a3 1)) λA B=>
 cM (eN 5 [A]) λC=>
 some (C,B)
 else if dj f 1 then
 cM (rY) λD=>
 cW (fo n d a1 a2 (ed .i64 a3 1)) λF G=>
 cW (fo n G a1 a2 (ed .i64 a3 1)) λH I=>
 cM (AN D [F,H]) λJ=>
 some (J,I)
 else if dj f 2 then
 cM (wx) λK=>
 cW (fo n d a1 a2 (ed .i64 a3 1)) λL M=>
 cW (fo n M a1 a2 (ed .i64 a3 1)) λN O=>
 cM (AN K [L,N]) λP=>
 some (P,O)
 else i d
 else i b
 else if dj a2.aiu 2 then
 de (λ(Q:Bool) (j:dd)=>
 if Q then
 cM (gB) λR=>
 cW (fo n j a1 R (ed .i64 a3 1)) λS T=>
 cW (fo n T a1 a2 (ed .i64 a3 1)) λU V=>
 cM (eN 8 [S,U]) λW=>
 some (W,V)
 else cM (eN 7 []) λX=>
 some (X,j)) λk=>
 if lQ a3 0 then
 cW (eu b 2) λY Z=>
 k (dj Y 0) Z
 else k false b
 else if dj a2.aiu 3 then
 cM (dg a2.aiv 0) λad=>
 cW (fo n b a1 ad (ed .i64 a3 1)) λae af=>
 cM (dg a2.aiv 1) λah=>
 cW (fo n af a1 ah (ed .i64 a3 1)) λai ak=>
 cM (eN 10 [ae,ai]) λan=>
 some (an,ak)
 else if dj a2.aiu 4 then
 cM (dg a2.aiv 0) λl=>
 cM (lu a1 [l]) λao=>
 cM (dg a2.aiv 1) λaq=>
 cW (fo n b ao aq (ed .i64 a3 1)) λar aw=>
 cM (kN 2 l [ar]) λax=>
 some (ax,aw)
 else cM (eN 13 []) λay=>
 some (ay,b)) λo=>
 if lQ a3 0 then
 cW (eu u 8) λc a=>
 if dj c 0 then
 cW (iy FU a 0) λq aI=>
 cM (lu a1 [q]) λaJ=>
 cW (fo n aI aJ a2 (ed .i64 a3 1)) λaK aL=>
 cM (kN 2 q [aK]) λaM=>
 cW (fo n aL a1 q (ed .i64 a3 1)) λaN aO=>
 cM (eN 3 [aM,aN]) λaP=>
 some (aP,aO)
 else if dj c 1 then
 cW (iy FU a 0) λaQ aR=>
 cW (fo n aR a1 a2 (ed .i64 a3 1)) λaS aT=>
 cW (fo n aT a1 aQ (ed .i64 a3 1)) λaU aV=>
 cM (eN 10 [aS,aU]) λaW=>
 cM (eN 11 [aW]) λaX=>
 some (aX,aV)
 else if dj c 2 then
 cM (gB) λaY=>
 cM (gB) λaZ=>
 cM (lu a1 [aZ,a2]) λa6=>
 cW (fo n a a6 a2 (ed .i64 a3 1)) λa7 a8=>
 cM (kN 2 a2 [a7]) λa_=>
 cM (kN 2 aY [a_]) λa'=>
 cW (fo n a8 a1 a2 (ed .i64 a3 1)) λba bb=>
 cW (eu bb 3) λbc bd=>
 cM (ta bc) λbf=>
 cM (kN 6 a2 [ba,a',bf]) λbg=>
 some (bg,bd)
 else if dj c 3 then
 cM (gB) λbh=>
 cM (lC) λbj=>
 cM (gB) λbk=>
 cM (lC) λbl=>
 cM (lu a1 [bk,bl,a2]) λbm=>
 cW (fo n a bm a2 (ed .i64 a3 1)) λbn bo=>
 cM (kN 2 a2 [bn]) λbp=>
 cM (kN 2 bj [bp]) λbq=>
 cM (kN 2 bh [bq]) λbr=>
 cW (fo n bo a1 a2 (ed .i64 a3 1)) λbs bt=>
 cM (lC) λbu=>
 cW (fo n bt a1 bu (ed .i64 a3 1)) λbw bz=>
 cM (kN 9 a2 [bs,br,bw]) λbA=>
 some (bA,bz)
 else if dj c 4 then
 cW (iy FU a 0) λbB bC=>
 cW (fo n bC a1 bB (ed .i64 a3 1)) λbD bE=>
 cW (fo n bE a1 a2 (ed .i64 a3 1)) λbF bG=>
 cM (eN 10 [bD,bF]) λbH=>
 cM (eN 12 [bH]) λbI=>
 some (bI,bG)
 else if dj c 5 then
 fa (dE a1)<|de (λ(t:Int) (bO:Ty)=>(λ(_:Unit)=>
 cM (dg a1 (ed .i64 (ed .i64 (dq a1) 1) t)) λh=>
 de (λ(az:Bool)=>
 if az then
 cM (eL t) λaA=>
 cM (dg h.aiv 0) λaB=>
 cW (fo n a a1 aB (ed .i64 a3 1)) λaC aD=>
 cM (eN 3 [aA,aC]) λaE=>
 some (dV.ret (aE,aD))
 else some (dV.next ())) λs=>
 if dj h.aiu 4 then
 cM (dg h.aiv 1) λaF=>
 cM (ey FU aF a2) λaG=>
 s aG
 else s false)) λaH=>
 cM (dH aH a1 0 ()) (eE (λ(_:Unit)=>
 o a) (λr=>some r))
 else o a
 else o u) λbJ=>
 if lQ (dq x3) 0 then
 cW (eu a0 3) λbN d41=>
 bJ (lQ bN 0) d41
 else bJ false a0
def h7:Nat->dd->(List Ty)->Int->Option (Fm×dd)
 |0,_,_,_=>none|n+1,a0,a1,a2=>
 de (λ(v162:dd)=>
 cM (gB) λb=>
 cW (fo FU v162 a1 b 1) λi d351=>
 cW (fo FU d351 a1 b 1) λj d354=>
 cM (k1 i j) λk=>
 some (k,d354)) λc=>
 if lQ a2 0 then
 cW (eu a0 9) λa d168=>
 if dj a 0 then
 cW (h7 n d168 a1 (ed .i64 a2 1)) λl d179=>
 cW (h7 n d179 a1 (ed .i64 a2 1)) λo d182=>
 cM (ke 2 l o) λq=>
 some (q,d182)
 else if ep (dj a 1) true (dj a 2)then
 cW (h7 n d168 a1 (ed .i64 a2 1)) λr d198=>
 cW (h7 n d198 a1 (ed .i64 a2 1)) λs d201=>
 cM (ke 3 r s) λt=>
 some (t,d201)
 else if ep (dj a 3) true (dj a 4)then
 cW (iy FU d168 1) λd d212=>
 cM (lu a1 [d]) λu=>
 cW (h7 n d212 u (ed .i64 a2 1)) λv d238=>
 cM (jn 4 d v) λw=>
 some (w,d238)
 else if dj a 5 then
 cW (iy FU d168 1) λf d246=>
 cM (lu a1 [f]) λx=>
 cW (h7 n d246 x (ed .i64 a2 1)) λy d272=>
 cM (jn 5 f y) λA=>
 some (A,d272)
 else if dj a 6 then
 cW (iy FU d168 0) λh d280=>
 cW (eu d280 2) λB d313=>
 cM (lu a1 [h]) λC=>
 cW (h7 n d313 C (ed .i64 a2 1)) λD d318=>
 cM (jn (dF .i64 6 B) h D) λF=>
 some (F,d318)
 else c d168
 else c a0
def xy(a0:Sq)(a1:Fm):Option Sq:=
 fa (eO [] a0.aiB)<|fa (eO (fu [] a0.aiB) [a1])<|some (Sq.mk a0.aiy (fu (fu [] a0.aiB) [a1]))
def tW(a0:Fm)(a1:Pf):Option Pf:=
 cM (jY 6 [a1]) λa=>
 cM (h9 FU a0) λb=>
 some (Pf.mk a.aiu a.aix a.cT a.dc [b] a.aiv)
def o6:Nat->Ty->Option Bool
 |0,_=>none|n+1,a0=>
 de (λ(v10:Int)=>
 if dw (dq a0.aiv) v10 then
 some false
 else fa (dE a0.aiv)<|de (λ(f:Int) (b:Ty)=>(λ(_:Unit)=>
 cM (o6 n b) λc=>
 if c then
 some (dV.next ())
 else some (dV.ret false))) λd=>
 cM (dH d a0.aiv 0 ()) (eE (λ(_:Unit)=>
 some true) (λr=>some r))) λa=>
 if ep (dj a0.aiu 1) true (ep (dj a0.aiu 2) true (dj a0.aiu 5))then
 a 0
 else if ep (dj a0.aiu 3) true (dj a0.aiu 4)then
 a 2
 else some false
def qg:Nat->Ty->Option Int
 |0,_=>none|n+1,a0=>
 fa (dE a0.aiv)<|de (λ(d:Int) (a:Ty)=>(λ(v32:Int)=>
 cM (qg n a) λb=>
 some (dV.next (dF .i64 v32 b)))) λc=>
 cM (dH c a0.aiv 0 1) (eE (λ(v32:Int)=>
 some v32) (λr=>some r))
def hY(a0:Ty):Option Int:=
 cM (o6 FU a0) λb=>
 if b then
 cM (qg FU a0) λa=>
 if lQ a 64 then
 some 4
 else some 0
 else some 2
def lr(a0:List Ty):Option Int:=
 if lQ (dq a0) 16 then
 some 3
 else fa (dE a0)<|de (λ(d:Int) (b:Ty)=>(λ(_:Unit)=>
 cM (hY b) λa=>
 if dw a 0 then
 some (dV.ret a)
 else some (dV.next ()))) λc=>
 cM (dH c a0 0 ()) (eE (λ(_:Unit)=>
 some 0) (λr=>some r))
def oS(a0:Ty):Option Bool:=
 some (ep (dj a0.aiu 0) (dj (dq a0.aiv) 0) false)
def uc(a0:Int):Option Int:=
 if ep (dj a0 1) true (ep (dj a0 4) true (ep (dj a0 7) true (dj a0 13)))then
 some 0
 else if ep (dj a0 2) true (ep (dj a0 5) true (ep (dj a0 11) true (dj a0 12)))then
 some 1
 else if ep (dj a0 3) true (ep (dj a0 8) true (dj a0 10))then
 some 2
 else if ep (dj a0 6) true (dj a0 9)then
 some 3
 else some (-1)
def jW:Nat->Tm->Option Bool
 |0,_=>none|n+1,a0=>
 de (λ(v21:Bool)=>
 if v21 then
 some false
 else de (fa (dE a0.aiv)<|de (λ(k:Int) (c:Tm)=>(λ(_:Unit)=>
 cM (jW n c) λd=>
 if d then
 some (dV.next ())
 else some (dV.ret false))) λf=>
 cM (dH f a0.aiv 0 ()) (eE (λ(_:Unit)=>
 some true) (λr=>some r))) λb=>
 if ep (dj a0.aiu 2) true (ep (dj a0.aiu 6) true (dj a0.aiu 9))then
 cM (hY a0.cT) λh=>
 if dw h 0 then
 some false
 else b
 else cM (oS a0.cT) λi=>
 if i then
 b
 else some false) λa=>
 cM (uc a0.aiu) λj=>
 if dw (dq a0.aiv) j then
 a true
 else if pR a0.aix 0 then
 a true
 else if dw a0.aiu 1 then
 a (dw a0.aix 0)
 else a false
def j_(a0:Int):Option Bool:=
 some (ep (dj a0 4) true (ep (dj a0 5) true (ep (dj a0 6) true (dj a0 7))))
def ld:Nat->Fm->Option Bool
 |0,_=>none|n+1,a0=>
 if dj a0.aiu 1 then
 de (λ(s:Bool)=>
 some s) λc=>
 if dj (dq a0.aiv) 0 then
 cM (oS a0.cT) λt=>
 if t then
 if dj (dq a0.dc) 2 then
 cM (dg a0.dc 0) λu=>
 cM (jW FU u) λv=>
 if v then
 cM (dg a0.dc 1) λw=>
 cM (jW FU w) λx=>
 c x
 else c false
 else c false
 else c false
 else c false
 else if ep (dj a0.aiu 2) true (dj a0.aiu 3)then
 de (λ(d:Bool)=>
 some d) λa=>
 if dj (dq a0.dc) 0 then
 cM (oS a0.cT) λf=>
 if f then
 if dj (dq a0.aiv) 2 then
 cM (dg a0.aiv 0) λh=>
 cM (ld n h) λi=>
 if i then
 cM (dg a0.aiv 1) λj=>
 cM (ld n j) λk=>
 a k
 else a false
 else a false
 else a false
 else a false
 else cM (j_ a0.aiu) λl=>
 if l then
 de (λ(v141:Bool)=>
 some v141) λb=>
 if dj (dq a0.dc) 0 then
 cM (hY a0.cT) λo=>
 if dj o 0 then
 if dj (dq a0.aiv) 1 then
 cM (dg a0.aiv 0) λq=>
 cM (ld n q) λr=>
 b r
 else b false
 else b false
 else b false
 else some false
def eQ:Nat->Tm->Option Int
 |0,_=>none|n+1,a0=>
 fa (dE a0.aiv)<|de (λ(d:Int) (a:Tm)=>(λ(v32:Int)=>
 cM (eQ n a) λb=>
 some (dV.next (dF .i64 v32 b)))) λc=>
 cM (dH c a0.aiv 0 1) (eE (λ(v32:Int)=>
 some v32) (λr=>some r))
def lj:Nat->Fm->Option Int
 |0,_=>none|n+1,a0=>
 fa (dE a0.dc)<|de (λ(i:Int) (a:Tm)=>(λ(v32:Int)=>
 cM (eQ FU a) λb=>
 some (dV.next (dF .i64 v32 b)))) λc=>
 cM (dH c a0.dc 0 1) (eE (λ(v32:Int)=>
 fa (dE a0.aiv)<|de (λ(j:Int) (d:Fm)=>(λ(v75:Int)=>
 cM (lj n d) λf=>
 some (dV.next (dF .i64 v75 f)))) λh=>
 cM (dH h a0.aiv 0 v32) (eE (λ(v75:Int)=>
 some v75) (λr=>some r))) (λr=>some r))
def iJ(a0:Fm):Option Int:=
 cM (ld FU a0) λb=>
 if b then
 cM (lj FU a0) λa=>
 if lQ a 4096 then
 some 4
 else some 0
 else some 2
def kH(a0:Tm):Option Int:=
 cM (jW FU a0) λb=>
 if b then
 cM (eQ FU a0) λa=>
 if lQ a 4096 then
 some 4
 else some 0
 else some 2
def sO(a0:Ty):Option (Ty×Int):=
 cM (hY a0) λa=>
 if dw a 0 then
 some ((Ty.mk 0 []),4)
 else some (a0,0)
def eC:Nat->(List Ty)->Tm->Option (Ty×Int)
 |0,_,_=>none|n+1,a0,a1=>
 if dj a1.aiu 1 then
 if pH a1.aix (dq a0)then
 some ((Ty.mk 0 []),6)
 else cM (dg a0 (ed .i64 (ed .i64 (dq a0) 1) a1.aix)) λay=>
 cM (gQ FU ay) λaz=>
 some (az,0)
 else if dj a1.aiu 2 then
 fa (eO a0 [a1.cT])<|cM (dg a1.aiv 0) λaA=>
 cW (eC n (fu a0 [a1.cT]) aA) λaB R=>
 if dw R 0 then
 some ((Ty.mk 0 []),R)
 else cM (ka a1.cT aB) λaC=>
 cW (sO aC) λaD aE=>
 some (aD,aE)
 else fa (dE a1.aiv)<|de (λ(aF:Int) (S:Tm)=>(λ(a:List Ty)=>
 cW (eC n a0 S) λj k=>
 if dw k 0 then
 some (dV.ret ((Ty.mk 0 []),k))
 else fa (eO a [j])<|some (dV.next (fu a [j])))) λT=>
 cM (dH T a1.aiv 0 []) (eE (λ(a:List Ty)=>
 cM (gB) λb=>
 cM (lC) λc=>
 if dj a1.aiu 3 then
 de (λ(U:Bool)=>
 if U then
 some ((Ty.mk 0 []),7)
 else cM (dg a 0) λV=>
 cM (dg V.aiv 1) λW=>
 some (W,0)) λl=>
 cM (dg a 0) λo=>
 if dw o.aiu 4 then
 l true
 else cM (dg o.aiv 0) λX=>
 cM (dg a 1) λY=>
 cM (ey FU X Y) λZ=>
 l (oF Z)
 else if dj a1.aiu 4 then
 some (b,0)
 else if dj a1.aiu 5 then
 cM (dg a 0) λad=>
 cM (ey FU ad b) λae=>
 if ae then
 some (b,0)
 else some ((Ty.mk 0 []),7)
 else if dj a1.aiu 6 then
 de (λ(af:Bool)=>
 if af then
 some ((Ty.mk 0 []),7)
 else cM (gQ FU a1.cT) λah=>
 some (ah,0)) λh=>
 cM (dg a 0) λai=>
 cM (ey FU ai a1.cT) λak=>
 if ak then
 cM (dg a 1) λan=>
 cM (ka a1.cT a1.cT) λao=>
 cM (ka b ao) λaq=>
 cM (ey FU an aq) λar=>
 if ar then
 cM (dg a 2) λaw=>
 cM (ey FU aw b) λax=>
 h (oF ax)
 else h true
 else h true
 else if dj a1.aiu 7 then
 some (c,0)
 else if dj a1.aiu 8 then
 de (λ(q:Bool)=>
 if q then
 some ((Ty.mk 0 []),7)
 else some (c,0)) λi=>
 cM (dg a 0) λs=>
 cM (ey FU s b) λt=>
 if t then
 cM (dg a 1) λu=>
 cM (ey FU u c) λv=>
 i (oF v)
 else i true
 else if dj a1.aiu 9 then
 de (λ(w:Bool)=>
 if w then
 some ((Ty.mk 0 []),7)
 else cM (gQ FU a1.cT) λx=>
 some (x,0)) λd=>
 cM (dg a 0) λy=>
 cM (ey FU y a1.cT) λA=>
 if A then
 cM (dg a 1) λB=>
 cM (ka a1.cT a1.cT) λC=>
 cM (ka c C) λD=>
 cM (ka b D) λF=>
 cM (ey FU B F) λG=>
 if G then
 cM (dg a 2) λH=>
 cM (ey FU H c) λI=>
 d (oF I)
 else d true
 else d true
 else if dj a1.aiu 10 then
 cM (dg a 0) λJ=>
 cM (dg a 1) λK=>
 cM (tT J K) λL=>
 cW (sO L) λM N=>
 some (M,N)
 else if ep (dj a1.aiu 11) true (dj a1.aiu 12)then
 cM (dg a 0) λf=>
 if dw f.aiu 3 then
 some ((Ty.mk 0 []),7)
 else if dj a1.aiu 11 then
 cM (dg f.aiv 0) λO=>
 some (O,0)
 else cM (dg f.aiv 1) λP=>
 some (P,0)
 else cM (ux) λQ=>
 some (Q,0)) (λr=>some r))
def oM(a0:List Ty)(a1:Tm):Option (Ty×Int):=
 cM (kH a1) λc=>
 if dw c 0 then
 some ((Ty.mk 0 []),c)
 else cW (eC FU a0 a1) λa b=>
 some (a,b)
def mg:Nat->(List Ty)->Fm->Option Int
 |0,_,_=>none|n+1,a0,a1=>
 fa (dE a1.dc)<|de (λ(k:Int) (c:Tm)=>(λ(_:Unit)=>
 cW (oM a0 c) λd b=>
 if dw b 0 then
 some (dV.ret b)
 else if dw d.aiu 1 then
 some (dV.ret 7)
 else some (dV.next ()))) λf=>
 cM (dH f a1.dc 0 ()) (eE (λ(_:Unit)=>
 de (λ(v63:List Ty)=>
 fa (dE a1.aiv)<|de (λ(l:Int) (h:Fm)=>(λ(_:Unit)=>
 cM (mg n v63 h) λa=>
 if dw a 0 then
 some (dV.ret a)
 else some (dV.next ()))) λi=>
 cM (dH i a1.aiv 0 ()) (eE (λ(_:Unit)=>
 some 0) (λr=>some r))) λj64=>
 cM (j_ a1.aiu) λj=>
 if j then
 fa (eO a0 [a1.cT])<|j64 (fu a0 [a1.cT])
 else j64 a0) (λr=>some r))
def jV(a0:List Ty)(a1:Fm):Option Int:=
 cM (iJ a1) λb=>
 if dw b 0 then
 some b
 else cM (mg FU a0 a1) λa=>
 some a
def jk(a0:List Ty)(a1:Fm):Option Int:=
 cM (lr a0) λb=>
 if dw b 0 then
 some b
 else cM (jV a0 a1) λa=>
 some a
def sk(a0:List Fm)(a1:Sq):Option Int:=
 if lQ (dq a0) 32 then
 some 3
 else fa (dE a0)<|de (λ(j:Int) (d:Fm)=>(λ(_:Unit)=>
 cM (jk [] d) λa=>
 if dw a 0 then
 some (dV.ret a)
 else some (dV.next ()))) λf=>
 cM (dH f a0 0 ()) (eE (λ(_:Unit)=>
 cM (lr a1.aiy) λb=>
 if dw b 0 then
 some b
 else if lQ (dq a1.aiB) 16 then
 some 3
 else fa (dE a1.aiB)<|de (λ(k:Int) (h:Fm)=>(λ(_:Unit)=>
 cM (jk a1.aiy h) λc=>
 if dw c 0 then
 some (dV.ret c)
 else some (dV.next ()))) λi=>
 cM (dH i a1.aiB 0 ()) (eE (λ(_:Unit)=>
 some 0) (λr=>some r))) (λr=>some r))
def o7(a0:Int):Option (d_×Bool):=
 if ep (dj a0 1) true (dj a0 2)then
 some ((d_.mk 0 0 0 true false),true)
 else if ep (dj a0 3) true (dj a0 7)then
 some ((d_.mk 0 0 2 false false),true)
 else if ep (dj a0 4) true (ep (dj a0 5) true (dj a0 20))then
 some ((d_.mk 0 0 1 false false),true)
 else if dj a0 6 then
 some ((d_.mk 0 1 1 false false),true)
 else if ep (dj a0 8) true (dj a0 12)then
 some ((d_.mk 0 0 1 false true),true)
 else if ep (dj a0 9) true (dj a0 13)then
 some ((d_.mk 1 0 1 false false),true)
 else if ep (dj a0 10) true (dj a0 14)then
 some ((d_.mk 1 1 1 false false),true)
 else if ep (dj a0 11) true (dj a0 15)then
 some ((d_.mk 0 0 2 false false),true)
 else if ep (dj a0 16) true (dj a0 17)then
 some ((d_.mk 1 1 2 false false),true)
 else if dj a0 18 then
 some ((d_.mk 1 0 0 false false),true)
 else if dj a0 19 then
 some ((d_.mk 0 1 2 false false),true)
 else some ((d_.mk 0 0 0 false false),false)
def nw:Nat->Pf->Option Bool
 |0,_=>none|n+1,a0=>
 cW (o7 a0.aiu) λb u=>
 if ep u (ep (dw (dq a0.dc) b.dc) true (ep (dw (dq a0.eg) b.eg) true (ep (dw (dq a0.aiv) b.aiv) true (ep (pR a0.aix 0) true (ep b.aix false (dw a0.aix 0)))))) true then
 some false
 else de (λ(v33:Bool)=>
 if v33 then
 some false
 else fa (dE a0.dc)<|de (λ(v:Int) (j:Tm)=>(λ(_:Unit)=>
 cM (jW FU j) λk=>
 if k then
 some (dV.next ())
 else some (dV.ret false))) λl=>
 cM (dH l a0.dc 0 ()) (eE (λ(_:Unit)=>
 fa (dE a0.eg)<|de (λ(w:Int) (o:Fm)=>(λ(_:Unit)=>
 cM (ld FU o) λc=>
 if c then
 some (dV.next ())
 else some (dV.ret false))) λd=>
 cM (dH d a0.eg 0 ()) (eE (λ(_:Unit)=>
 fa (dE a0.aiv)<|de (λ(t:Int) (f:Pf)=>(λ(_:Unit)=>
 cM (nw n f) λh=>
 if h then
 some (dV.next ())
 else some (dV.ret false))) λi=>
 cM (dH i a0.aiv 0 ()) (eE (λ(_:Unit)=>
 some true) (λr=>some r))) (λr=>some r))) (λr=>some r))) λa=>
 if b.oG then
 cM (hY a0.cT) λq=>
 if dw q 0 then
 a true
 else a false
 else cM (oS a0.cT) λs=>
 a (oF s)
def qG:Nat->Pf->Option Bool
 |0,_=>none|n+1,a0=>
 fa (dE a0.dc)<|de (λ(l:Int) (c:Tm)=>(λ(_:Unit)=>
 cM (eQ FU c) λd=>
 if lQ d 4096 then
 some (dV.ret false)
 else some (dV.next ()))) λf=>
 cM (dH f a0.dc 0 ()) (eE (λ(_:Unit)=>
 fa (dE a0.eg)<|de (λ(o:Int) (h:Fm)=>(λ(_:Unit)=>
 cM (lj FU h) λi=>
 if lQ i 4096 then
 some (dV.ret false)
 else some (dV.next ()))) λj=>
 cM (dH j a0.eg 0 ()) (eE (λ(_:Unit)=>
 fa (dE a0.aiv)<|de (λ(q:Int) (k:Pf)=>(λ(_:Unit)=>
 cM (qG n k) λa=>
 if a then
 some (dV.next ())
 else some (dV.ret false))) λb=>
 cM (dH b a0.aiv 0 ()) (eE (λ(_:Unit)=>
 some true) (λr=>some r))) (λr=>some r))) (λr=>some r))
def qz:Nat->Pf->Option Int
 |0,_=>none|n+1,a0=>
 fa (dE a0.dc)<|de (λ(q:Int) (f:Tm)=>(λ(v32:Int)=>
 cM (eQ FU f) λh=>
 some (dV.next (dF .i64 v32 h)))) λi=>
 cM (dH i a0.dc 0 1) (eE (λ(v32:Int)=>
 fa (dE a0.eg)<|de (λ(s:Int) (j:Fm)=>(λ(v75:Int)=>
 cM (lj FU j) λk=>
 some (dV.next (dF .i64 v75 k)))) λl=>
 cM (dH l a0.eg 0 v32) (eE (λ(v75:Int)=>
 fa (dE a0.aiv)<|de (λ(o:Int) (b:Pf)=>(λ(a:Int)=>
 cM (qz n b) λc=>
 some (dV.next (dF .i64 a c)))) λd=>
 cM (dH d a0.aiv 0 v75) (eE (λ(a:Int)=>
 some a) (λr=>some r))) (λr=>some r))) (λr=>some r))
def r_(a0:Pf):Option Bool:=
 de (λ(d:Bool)=>
 some d) λc=>
 cM (qG FU a0) λa=>
 if a then
 cM (qz FU a0) λb=>
 c (HB b 16384)
 else c false
def nx(a0:Pf):Option Int:=
 cM (nw FU a0) λb=>
 if b then
 cM (r_ a0) λa=>
 if a then
 some 0
 else some 4
 else some 2
def pA(a0:List (Int×Bool)):Option (List Int×List (Int×Bool)):=
 fa (dE a0)<|fa (w5 (a0.map (·.1)))<|some (xT [] (a0.map (·.1)),a0)
def fq(a0 a1:List Int):Option (List Int):=
 fa (dE a0)<|de (λ(k:Int) (c:Int)=>(λ(a:(List (Int×Bool)))=>
 some (dV.next (tc a c true)))) λd=>
 cM (dH d a0 0 []) (eE (λ(a:(List (Int×Bool)))=>
 fa (dE a1)<|de (λ(j:Int) (f:Int)=>(λ(b:(List (Int×Bool)))=>
 some (dV.next (tc b f true)))) λh=>
 cM (dH h a1 0 a) (eE (λ(b:(List (Int×Bool)))=>
 cW (pA b) λi d51=>
 some i) (λr=>some r))) (λr=>some r))
def du(a0:cX)(a1 a2:Int):Option Int:=
 if ep (lQ (dF .i64 (dq a0.aiy) a1) 16) true (lQ (dF .i64 (dq a0.aiB) a2) 16)then
 some 3
 else some 0
def fg(a0:cX)(a1:Fm):Option cX:=
 fa (eO a0.aiB [a1])<|some (cX.mk a0.lemmas a0.aiy (fu a0.aiB [a1]))
def jD:Nat->Tm->Tm->Option Bool
 |0,_,_=>none|n+1,a0,a1=>
 de (λ(d:Bool)=>
 if d then
 some false
 else fa (dE a0.aiv)<|de (λ(f:Int) (h:Tm)=>(λ(_:Unit)=>
 cM (dg a1.aiv f) λb=>
 cM (jD n h b) λc=>
 if c then
 some (dV.next ())
 else some (dV.ret false))) λi=>
 cM (dH i a0.aiv 0 ()) (eE (λ(_:Unit)=>
 some true) (λr=>some r))) λa=>
 if dw a0.aiu a1.aiu then
 a true
 else if dw a0.aix a1.aix then
 a true
 else cM (ey FU a0.cT a1.cT) λj=>
 if j then
 a (dw (dq a0.aiv) (dq a1.aiv))
 else a true
def kB:Nat->Tm->Int->Option Bool
 |0,_,_=>none|n+1,a0,a1=>
 if lQ a0.aix a1 then
 some false
 else fa (dE a0.aiv)<|de (λ(d:Int) (a:Tm)=>(λ(_:Unit)=>
 cM (kB n a a1) λb=>
 if b then
 some (dV.next ())
 else some (dV.ret false))) λc=>
 cM (dH c a0.aiv 0 ()) (eE (λ(_:Unit)=>
 some true) (λr=>some r))
def uF(a0:Tm):Option Bool:=
 if dj a0.aiu 3 then
 cM (dg a0.aiv 0) λf=>
 some (dj f.aiu 2)
 else if dj a0.aiu 6 then
 de (λ(h:Bool)=>
 some h) λa=>
 cM (dg a0.aiv 2) λb=>
 if dj b.aiu 4 then
 a true
 else a (dj b.aiu 5)
 else if dj a0.aiu 9 then
 de (λ(i:Bool)=>
 some i) λc=>
 cM (dg a0.aiv 2) λd=>
 if dj d.aiu 7 then
 c true
 else c (dj d.aiu 8)
 else if ep (dj a0.aiu 11) true (dj a0.aiu 12)then
 cM (dg a0.aiv 0) λj=>
 some (dj j.aiu 10)
 else some false
def kC(a0:Tm):Option Int:=
 if dj a0.aiu 2 then
 some 1
 else some 0
def mo:Nat->Tm->Int->Option Int
 |0,_,_=>none|n+1,a0,a1=>
 fa (dE a0.aiv)<|de (λ(h:Int) (d:Tm)=>(λ(a:Int)=>
 cM (kC a0) λb=>
 cM (mo n d (dF .i64 a1 b)) λc=>
 some (dV.next (dF .i64 a c)))) λf=>
 cM (dH f a0.aiv 0 (ep (ep (dj a0.aiu 1) (dj a0.aix a1) false) (dF .i64 0 1) 0)) (eE (λ(a:Int)=>
 some a) (λr=>some r))
def re(a0:Tm):Option Int:=
 cM (eQ FU a0) λb=>
 if dj a0.aiu 3 then
 cM (dg a0.aiv 0) λh=>
 cM (dg h.aiv 0) λc=>
 cM (dg a0.aiv 1) λi=>
 cM (eQ FU c) λj=>
 cM (mo FU c 0) λk=>
 cM (eQ FU i) λl=>
 some (ed .i64 (dF .i64 j (Li .i64 k (ed .i64 l 1))) b)
 else if dj a0.aiu 6 then
 cM (dg a0.aiv 2) λd=>
 if dj d.aiu 4 then
 cM (dg a0.aiv 0) λn=>
 cM (eQ FU n) λo=>
 some (ed .i64 o b)
 else cM (dg a0.aiv 1) λq=>
 cM (eQ FU q) λr=>
 cM (dg d.aiv 0) λs=>
 cM (eQ FU s) λt=>
 some (ed .i64 (ed .i64 (dF .i64 (dF .i64 (dF .i64 2 r) t) b) 1) b)
 else if dj a0.aiu 9 then
 cM (dg a0.aiv 2) λa=>
 if dj a.aiu 7 then
 cM (dg a0.aiv 0) λu=>
 cM (eQ FU u) λv=>
 some (ed .i64 v b)
 else cM (dg a.aiv 0) λf=>
 cM (dg a.aiv 1) λw=>
 cM (dg a0.aiv 1) λx=>
 cM (eQ FU x) λy=>
 cM (eQ FU f) λA=>
 cM (eQ FU w) λB=>
 cM (eQ FU f) λC=>
 some (ed .i64 (ed .i64 (ed .i64 (dF .i64 (dF .i64 (dF .i64 (dF .i64 3 y) A) B) b) 1) C) b)
 else if dj a0.aiu 11 then
 cM (dg a0.aiv 0) λD=>
 cM (dg D.aiv 0) λF=>
 cM (eQ FU F) λG=>
 some (ed .i64 G b)
 else cM (dg a0.aiv 0) λH=>
 cM (dg H.aiv 1) λI=>
 cM (eQ FU I) λJ=>
 some (ed .i64 J b)
def pY:Nat->Tm->Int->Int->Option Tm
 |0,_,_,_=>none|n+1,a0,a1,a2=>
 fa (dE a0.aiv)<|de (λ(f:Int) (d:Tm)=>(λ(v105:List Tm)=>
 cM (kC a0) λb=>
 cM (pY n d (dF .i64 a1 b) a2) λa=>
 fa (eO v105 [a])<|some (dV.next (fu v105 [a])))) λc=>
 cM (dH c a0.aiv 0 []) (eE (λ(v105:List Tm)=>
 some (Tm.mk a0.aiu (ep (ep (dj a0.aiu 1) (pH a0.aix a1) false) (dF .i64 a0.aix a2) a0.aix) a0.cT v105)) (λr=>some r))
def uA:Nat->Tm->Int->Int->Tm->Option Tm
 |0,_,_,_,_=>none|n+1,a0,a1,a2,a3=>
 if dj a0.aiu 1 then
 if dj a0.aix (dF .i64 a1 a2)then
 cM (pY FU a3 0 (dF .i64 a1 a2)) λf=>
 some f
 else if lQ a0.aix (dF .i64 a1 a2)then
 cM (eL (ed .i64 a0.aix 1)) λh=>
 some h
 else some a0
 else fa (dE a0.aiv)<|de (λ(j:Int) (i:Tm)=>(λ(a:List Tm)=>
 cM (kC a0) λc=>
 cM (uA n i a1 (dF .i64 a2 c) a3) λb=>
 fa (eO a [b])<|some (dV.next (fu a [b])))) λd=>
 cM (dH d a0.aiv 0 []) (eE (λ(a:List Tm)=>
 some (Tm.mk a0.aiu a0.aix a0.cT a)) (λr=>some r))
def p8(a0:Tm):Option Tm:=
 if dj a0.aiu 3 then
 cM (dg a0.aiv 0) λi=>
 cM (dg i.aiv 0) λj=>
 cM (dg a0.aiv 1) λk=>
 cM (uA FU j 0 0 k) λl=>
 some l
 else if dj a0.aiu 6 then
 cM (dg a0.aiv 2) λb=>
 if dj b.aiu 4 then
 cM (dg a0.aiv 0) λn=>
 some n
 else cM (dg b.aiv 0) λc=>
 cM (dg a0.aiv 1) λd=>
 cM (eN 3 [d,c]) λo=>
 cM (dg a0.aiv 0) λq=>
 cM (kN 6 a0.cT [q,d,c]) λr=>
 cM (eN 3 [o,r]) λs=>
 some s
 else if dj a0.aiu 9 then
 cM (dg a0.aiv 2) λa=>
 if dj a.aiu 7 then
 cM (dg a0.aiv 0) λt=>
 some t
 else cM (dg a.aiv 0) λu=>
 cM (dg a.aiv 1) λf=>
 cM (dg a0.aiv 1) λh=>
 cM (eN 3 [h,u]) λv=>
 cM (eN 3 [v,f]) λw=>
 cM (dg a0.aiv 0) λx=>
 cM (kN 9 a0.cT [x,h,f]) λy=>
 cM (eN 3 [w,y]) λA=>
 some A
 else if dj a0.aiu 11 then
 cM (dg a0.aiv 0) λB=>
 cM (dg B.aiv 0) λC=>
 some C
 else cM (dg a0.aiv 0) λD=>
 cM (dg D.aiv 1) λF=>
 some F
def o0:Nat->Tm->Int->Option (Tm×Bool×Bool)
 |0,_,_=>none|n+1,a0,a1=>
 cM (uF a0) λk=>
 if k then
 cM (re a0) λb=>
 if lQ b a1 then
 some ((Tm.mk 0 0 (Ty.mk 0 []) []),true,false)
 else cM (p8 a0) λc=>
 some (c,true,true)
 else fa (dE a0.aiv)<|de (λ(a:Int) (d:Tm)=>(λ(_:Unit)=>
 g_ (o0 n d a1) λf h i=>
 if h then
 fa (xW a0.aiv)<|cM (dg a0.aiv a) λl=>
 some (dV.ret ((Tm.mk a0.aiu a0.aix a0.cT (wF a0.aiv a f)),true,i))
 else some (dV.next ()))) λj=>
 cM (dH j a0.aiv 0 ()) (eE (λ(_:Unit)=>
 some (a0,false,true)) (λr=>some r))
def k8(a0:Tm)(a1:Int):Option (Tm×Int×Int):=
 cM (kH a0) λo=>
 if dw o 0 then
 some ((Tm.mk 0 0 (Ty.mk 0 []) []),0,o)
 else de (λ(v23:Bool)=>
 if v23 then
 some ((Tm.mk 0 0 (Ty.mk 0 []) []),0,1)
 else de ((TC λ(v164:Int) (b:Int) (c:Int) (v167:Int) (v168:List Ty) (d:List Tm)=>
 cM (eQ FU (Tm.mk b c (Ty.mk v167 v168) d)) λh=>
 g_ (o0 FU (Tm.mk b c (Ty.mk v167 v168) d) (ed .i64 4096 h)) λa i j=>
 if i then
 if dj v164 a1 then
 some (dV.ret ((Tm.mk 0 0 (Ty.mk 0 []) []),0,5))
 else if j then
 some (dV.next ((dF .i64 v164 1),a.aiu,a.aix,a.cT.aiu,a.cT.aiv,a.aiv))
 else some (dV.ret ((Tm.mk 0 0 (Ty.mk 0 []) []),0,4))
 else cM (iC FU (Tm.mk b c (Ty.mk v167 v168) d)) λk=>
 some (dV.ret (k,v164,0)))) λl=>
 cM (nt l FU (0,a0.aiu,a0.aix,a0.cT.aiu,a0.cT.aiv,a0.aiv)) (eE (TC λ(v164:Int) (b:Int) (c:Int) (v167:Int) (v168:List Ty) (d:List Tm)=>
 none) (λr=>some r))) λf=>
 if pR a1 0 then
 f true
 else if lQ a1 65536 then
 f true
 else cM (kB FU a0 536870912) λn=>
 f (oF n)
def qM(a0 a1:Tm)(a2:Int):Option Int:=
 cM (kH a0) λj=>
 if dw j 0 then
 some j
 else cM (kH a1) λa=>
 if dw a 0 then
 some a
 else cM (jD FU a0 a1) λd=>
 if d then
 some 0
 else g_ (k8 a0 a2) λf k b=>
 if dw b 0 then
 some b
 else g_ (k8 a1 a2) λh l c=>
 if dw c 0 then
 some c
 else cM (jD FU f h) λi=>
 if i then
 some 0
 else some 11
def pk:Nat->Fm->Fm->Option Int
 |0,_,_=>none|n+1,a0,a1=>
 de (λ(k:Bool)=>
 if k then
 some 11
 else fa (dE a0.dc)<|de (λ(l:Int) (o:Tm)=>(λ(_:Unit)=>
 cM (dg a1.dc l) λc=>
 cM (qM o c 1000) λa=>
 if dw a 0 then
 some (dV.ret a)
 else some (dV.next ()))) λq=>
 cM (dH q a0.dc 0 ()) (eE (λ(_:Unit)=>
 fa (dE a0.aiv)<|de (λ(d:Int) (f:Fm)=>(λ(_:Unit)=>
 cM (dg a1.aiv d) λh=>
 cM (pk n f h) λb=>
 if dw b 0 then
 some (dV.ret b)
 else some (dV.next ()))) λi=>
 cM (dH i a0.aiv 0 ()) (eE (λ(_:Unit)=>
 some 0) (λr=>some r))) (λr=>some r))) λj=>
 if dw a0.aiu a1.aiu then
 j true
 else cM (ey FU a0.cT a1.cT) λs=>
 j (oF s)
def nu(a0 a1:Fm):Option Int:=
 cM (iJ a0) λc=>
 if dw c 0 then
 some c
 else cM (iJ a1) λa=>
 if dw a 0 then
 some a
 else cM (pk FU a0 a1) λb=>
 some b
def mj(a0:Fm):Option Int:=
 cM (j_ a0.aiu) λa=>
 if a then
 some 1
 else some 0
def fN:Nat->Fm->Int->Int->Option Fm
 |0,_,_,_=>none|n+1,a0,a1,a2=>
 fa (dE a0.dc)<|de (λ(l:Int) (i:Tm)=>(λ(v64:List Tm)=>
 cM (pY FU i a1 a2) λc=>
 fa (eO v64 [c])<|some (dV.next (fu v64 [c])))) λj=>
 cM (dH j a0.dc 0 []) (eE (λ(v64:List Tm)=>
 fa (dE a0.aiv)<|de (λ(k:Int) (d:Fm)=>(λ(a:List Fm)=>
 cM (mj a0) λf=>
 cM (fN n d (dF .i64 a1 f) a2) λb=>
 fa (eO a [b])<|some (dV.next (fu a [b])))) λh=>
 cM (dH h a0.aiv 0 []) (eE (λ(a:List Fm)=>
 some (Fm.mk a0.aiu a0.cT v64 a)) (λr=>some r))) (λr=>some r))
def ei(a0:cX)(a1:List Ty):Option cX:=
 fa (eO a0.aiy a1)<|fa (dE a0.aiB)<|de (λ(f:Int) (c:Fm)=>(λ(a:List Fm)=>
 cM (fN FU c 0 (dq a1)) λb=>
 fa (eO a [b])<|some (dV.next (fu a [b])))) λd=>
 cM (dH d a0.aiB 0 []) (eE (λ(a:List Fm)=>
 some (cX.mk a0.lemmas (fu a0.aiy a1) a)) (λr=>some r))
def fv(a0:List Int)(a1:Int):Option (List Int):=
 fa (dE a0)<|de (λ(d:Int) (a:Int)=>(λ(v44:List Int)=>
 de (λ(b:List Int)=>
 some (dV.next b)) λj57=>
 if pH a a1 then
 fa (eO v44 [(ed .i64 a a1)])<|j57 (fu v44 [(ed .i64 a a1)])
 else j57 v44)) λc=>
 cM (dH c a0 0 []) (eE (λ(v44:List Int)=>
 some v44) (λr=>some r))
def qI(a0:List Int):Option Bool:=
 de (λ(v6:Bool)=>
 some v6) λa=>
 if lQ (dq a0) 0 then
 cM (dg a0 0) λb=>
 a (dj b 0)
 else a false
def jz(a0:List Ty)(a1:Tm):Option (Ty×Int):=
 cM (lr a0) λc=>
 if dw c 0 then
 some ((Ty.mk 0 []),c)
 else cW (oM a0 a1) λa b=>
 some (a,b)
def qp:Nat->Tm->Int->(List (Int×Bool))->Option ((List (Int×Bool)))
 |0,_,_,_=>none|n+1,a0,a1,a2=>
 de (λ(f:(List (Int×Bool)))=>
 fa (dE a0.aiv)<|de (λ(h:Int) (a:Tm)=>(λ(v51:(List (Int×Bool)))=>
 cM (kC a0) λb=>
 cM (qp n a (dF .i64 a1 b) v51) λd73=>
 some (dV.next d73))) λc=>
 cM (dH c a0.aiv 0 f) (eE (λ(v51:(List (Int×Bool)))=>
 some v51) (λr=>some r))) λd=>
 if ep (dj a0.aiu 1) (pH a0.aix a1) false then
 d (tc a2 (ed .i64 a0.aix a1) true)
 else d a2
def uu(a0:Tm):Option ((List Int)×Int):=
 cM (kH a0) λb=>
 if dw b 0 then
 some ([],b)
 else cM (qp FU a0 0 []) λd11=>
 cW (pA d11) λa d17=>
 some (a,0)
def jJ(a0:Tm):Option (List Int):=
 cW (uu a0) λa b=>
 some a
def oJ:Nat->Fm->Int->Option Bool
 |0,_,_=>none|n+1,a0,a1=>
 fa (dE a0.dc)<|de (λ(i:Int) (a:Tm)=>(λ(_:Unit)=>
 cM (kB FU a a1) λb=>
 if b then
 some (dV.next ())
 else some (dV.ret false))) λc=>
 cM (dH c a0.dc 0 ()) (eE (λ(_:Unit)=>
 fa (dE a0.aiv)<|de (λ(j:Int) (d:Fm)=>(λ(_:Unit)=>
 cM (oJ n d a1) λf=>
 if f then
 some (dV.next ())
 else some (dV.ret false))) λh=>
 cM (dH h a0.aiv 0 ()) (eE (λ(_:Unit)=>
 some true) (λr=>some r))) (λr=>some r))
def pg:Nat->Fm->Int->Option Int
 |0,_,_=>none|n+1,a0,a1=>
 fa (dE a0.dc)<|de (λ(k:Int) (f:Tm)=>(λ(v32:Int)=>
 cM (mo FU f a1) λh=>
 some (dV.next (dF .i64 v32 h)))) λi=>
 cM (dH i a0.dc 0 0) (eE (λ(v32:Int)=>
 fa (dE a0.aiv)<|de (λ(l:Int) (j:Fm)=>(λ(a:Int)=>
 cM (mj a0) λb=>
 cM (pg n j (dF .i64 a1 b)) λc=>
 some (dV.next (dF .i64 a c)))) λd=>
 cM (dH d a0.aiv 0 v32) (eE (λ(a:Int)=>
 some a) (λr=>some r))) (λr=>some r))
def wh:Nat->Fm->Int->Int->Tm->Option Fm
 |0,_,_,_,_=>none|n+1,a0,a1,a2,a3=>
 fa (dE a0.dc)<|de (λ(l:Int) (i:Tm)=>(λ(v64:List Tm)=>
 cM (uA FU i a1 a2 a3) λc=>
 fa (eO v64 [c])<|some (dV.next (fu v64 [c])))) λj=>
 cM (dH j a0.dc 0 []) (eE (λ(v64:List Tm)=>
 fa (dE a0.aiv)<|de (λ(k:Int) (d:Fm)=>(λ(a:List Fm)=>
 cM (mj a0) λf=>
 cM (wh n d a1 (dF .i64 a2 f) a3) λb=>
 fa (eO a [b])<|some (dV.next (fu a [b])))) λh=>
 cM (dH h a0.aiv 0 []) (eE (λ(a:List Fm)=>
 some (Fm.mk a0.aiu a0.cT v64 a)) (λr=>some r))) (λr=>some r))
def wT(a0:Fm)(a1:Int)(a2:Tm):Option (Fm×Int):=
 cM (iJ a0) λn=>
 if dw n 0 then
 some ((Fm.mk 0 (Ty.mk 0 []) [] []),n)
 else if ep (pR a1 0) true (lQ a1 4096)then
 some ((Fm.mk 0 (Ty.mk 0 []) [] []),1)
 else cM (kH a2) λa=>
 if dw a 0 then
 some ((Fm.mk 0 (Ty.mk 0 []) [] []),a)
 else de (λ(f:Bool)=>
 if f then
 some ((Fm.mk 0 (Ty.mk 0 []) [] []),1)
 else cM (lj FU a0) λh=>
 cM (pg FU a0 a1) λi=>
 cM (eQ FU a2) λj=>
 if lQ (dF .i64 h (Li .i64 i (ed .i64 j 1))) 4096 then
 some ((Fm.mk 0 (Ty.mk 0 []) [] []),4)
 else cM (wh FU a0 a1 0 a2) λb=>
 cM (h9 FU b) λc=>
 some (c,0)) λd=>
 cM (oJ FU a0 536870912) λk=>
 if k then
 cM (kB FU a2 536870912) λl=>
 d (oF l)
 else d true
def iL(a0:Fm)(a1:Tm):Option (Fm×Int):=
 cW (wT a0 0 a1) λa b=>
 some (a,b)
def tU:Nat->Tm->Int->Option Bool
 |0,_,_=>none|n+1,a0,a1=>
 if ep (dj a0.aiu 1) (dj a0.aix a1) false then
 some true
 else fa (dE a0.aiv)<|de (λ(f:Int) (c:Tm)=>(λ(_:Unit)=>
 cM (kC a0) λa=>
 cM (tU n c (dF .i64 a1 a)) λb=>
 if b then
 some (dV.ret true)
 else some (dV.next ()))) λd=>
 cM (dH d a0.aiv 0 ()) (eE (λ(_:Unit)=>
 some false) (λr=>some r))
def pG:Nat->Fm->Int->Option Bool
 |0,_,_=>none|n+1,a0,a1=>
 fa (dE a0.dc)<|de (λ(j:Int) (d:Tm)=>(λ(_:Unit)=>
 cM (tU FU d a1) λf=>
 if f then
 some (dV.ret true)
 else some (dV.next ()))) λh=>
 cM (dH h a0.dc 0 ()) (eE (λ(_:Unit)=>
 fa (dE a0.aiv)<|de (λ(k:Int) (i:Fm)=>(λ(_:Unit)=>
 cM (mj a0) λa=>
 cM (pG n i (dF .i64 a1 a)) λb=>
 if b then
 some (dV.ret true)
 else some (dV.next ()))) λc=>
 cM (dH c a0.aiv 0 ()) (eE (λ(_:Unit)=>
 some false) (λr=>some r))) (λr=>some r))
def ma:Nat->Fm->Option (Fm×Int)
 |0,_=>none|n+1,a0=>
 fa (dE a0.dc)<|de (λ(s:Int) (k:Tm)=>(λ(b:List Tm)=>
 g_ (k8 k 1000) λc o d=>
 if dw d 0 then
 some (dV.ret ((Fm.mk 0 (Ty.mk 0 []) [] []),d))
 else fa (eO b [c])<|some (dV.next (fu b [c])))) λl=>
 cM (dH l a0.dc 0 []) (eE (λ(b:List Tm)=>
 fa (dE a0.aiv)<|de (λ(q:Int) (i:Fm)=>(λ(a:List Fm)=>
 cW (ma n i) λf h=>
 if dw h 0 then
 some (dV.ret ((Fm.mk 0 (Ty.mk 0 []) [] []),h))
 else fa (eO a [f])<|some (dV.next (fu a [f])))) λj=>
 cM (dH j a0.aiv 0 []) (eE (λ(a:List Fm)=>
 some ((Fm.mk a0.aiu a0.cT b a),0)) (λr=>some r))) (λr=>some r))
def fZ(a0:cX)(a1:Tm)(a2:Int):Option Int:=
 cW (jz a0.aiy a1) λb a=>
 if dw a 0 then
 some a
 else if dw b.aiu a2 then
 some 7
 else some 0
def iM:Nat->Fm->Option Bool
 |0,_=>none|n+1,a0=>
 if dj a0.aiu 1 then
 some false
 else if dj a0.aiu 2 then
 de (λ(v33:Bool)=>
 some v33) λa=>
 cM (dg a0.aiv 0) λb=>
 cM (iM n b) λc=>
 if c then
 a true
 else cM (dg a0.aiv 1) λd=>
 cM (iM n d) λf=>
 a f
 else if dj a0.aiu 5 then
 some true
 else cM (dg a0.aiv (ed .i64 (dq a0.aiv) 1)) λh=>
 cM (iM n h) λi=>
 some i
def oe(a0:Fm):Option (Bool×Int):=
 cM (iJ a0) λb=>
 if dw b 0 then
 some (false,b)
 else cM (iM FU a0) λa=>
 some (a,0)
mutual
def dp:Nat->cX->Pf->Option (qZ×Int)
 |0,_,_=>none|n+1,a0,a1=>
 g_ (df n a0 a1) λb h f=>
 if dw f 0 then
 some ((qZ.mk (Fm.mk 0 (Ty.mk 0 []) [] []) []),f)
 else cM (iJ b) λc=>
 if dw c 0 then
 some ((qZ.mk (Fm.mk 0 (Ty.mk 0 []) [] []) []),4)
 else de (λ(v26:List Int)=>
 some ((qZ.mk b v26),0)) λa=>
 cW (oe b) λd i=>
 if d then
 a h
 else a []
def df:Nat->cX->Pf->Option (Fm×(List Int)×Int)
 |0,_,_=>none|n+1,a0,a1=>
 if dj a1.aiu 1 then
 if pH a1.aix (dq a0.aiB)then
 some ((Fm.mk 0 (Ty.mk 0 []) [] []),[],8)
 else cM (dg a0.aiB (ed .i64 (ed .i64 (dq a0.aiB) 1) a1.aix)) λt=>
 some (t,[],0)
 else if dj a1.aiu 2 then
 if pH a1.aix (dq a0.lemmas)then
 some ((Fm.mk 0 (Ty.mk 0 []) [] []),[],9)
 else cM (dg a0.lemmas a1.aix) λu=>
 some (u,[],0)
 else if dj a1.aiu 3 then
 cM (dg a1.aiv 0) λv=>
 cW (dp n a0 v) λf h=>
 if dw h 0 then
 some ((Fm.mk 0 (Ty.mk 0 []) [] []),[],h)
 else cM (dg a1.aiv 1) λw=>
 cW (dp n a0 w) λi x=>
 cM (ke 2 f.cU i.cU) λy=>
 cM (fq f.uses i.uses) λA=>
 some (y,A,x)
 else if ep (dj a1.aiu 4) true (dj a1.aiu 5)then
 cM (dg a1.aiv 0) λB=>
 cW (dp n a0 B) λb j=>
 if dw j 0 then
 some ((Fm.mk 0 (Ty.mk 0 []) [] []),[],j)
 else if dw b.cU.aiu 2 then
 some ((Fm.mk 0 (Ty.mk 0 []) [] []),[],10)
 else cM (dg b.cU.aiv (ed .i64 a1.aiu 4)) λC=>
 some (C,b.uses,0)
 else if dj a1.aiu 6 then
 cM (dg a1.eg 0) λc=>
 cM (jk a0.aiy c) λk=>
 if dw k 0 then
 some ((Fm.mk 0 (Ty.mk 0 []) [] []),[],k)
 else cM (du a0 0 1) λl=>
 if dw l 0 then
 some ((Fm.mk 0 (Ty.mk 0 []) [] []),[],l)
 else cM (fg a0 c) λD=>
 cM (dg a1.aiv 0) λF=>
 cW (dp n D F) λo G=>
 cM (ke 3 c o.cU) λH=>
 some (H,o.uses,G)
 else if dj a1.aiu 7 then
 cM (dg a1.aiv 0) λI=>
 cW (dp n a0 I) λa q=>
 if dw q 0 then
 some ((Fm.mk 0 (Ty.mk 0 []) [] []),[],q)
 else if dw a.cU.aiu 3 then
 some ((Fm.mk 0 (Ty.mk 0 []) [] []),[],10)
 else cM (dg a1.aiv 1) λJ=>
 cW (dp n a0 J) λr s=>
 if dw s 0 then
 some ((Fm.mk 0 (Ty.mk 0 []) [] []),[],s)
 else cM (dg a.cU.aiv 1) λK=>
 cM (fq a.uses r.uses) λL=>
 cM (dg a.cU.aiv 0) λM=>
 cM (nu M r.cU) λN=>
 some (K,L,N)
 else if ep (dj a1.aiu 8) true (dj a1.aiu 12)then
 g_ (mD n a0 a1) λO P Q=>
 some (O,P,Q)
 else if ep (dj a1.aiu 9) true (dj a1.aiu 13)then
 g_ (na n a0 a1) λR S T=>
 some (R,S,T)
 else if ep (dj a1.aiu 10) true (dj a1.aiu 14)then
 g_ (mT n a0 a1) λU V W=>
 some (U,V,W)
 else if ep (dj a1.aiu 11) true (dj a1.aiu 15)then
 g_ (lM n a0 a1) λX Y Z=>
 some (X,Y,Z)
 else if dj a1.aiu 16 then
 g_ (oy n a0 a1) λad ae af=>
 some (ad,ae,af)
 else if dj a1.aiu 17 then
 g_ (mP n a0 a1) λah ai ak=>
 some (ah,ai,ak)
 else if dj a1.aiu 18 then
 cM (dg a1.dc 0) λd=>
 cM (k1 d d) λan=>
 cM (fZ a0 d 1) λao=>
 some (an,[],ao)
 else if dj a1.aiu 19 then
 g_ (mQ n a0 a1) λaq ar aw=>
 some (aq,ar,aw)
 else g_ (mz n a0 a1) λax ay az=>
 some (ax,ay,az)
def mD:Nat->cX->Pf->Option (Fm×(List Int)×Int)
 |0,_,_=>none|n+1,a0,a1=>
 cM (du a0 1 0) λl=>
 if dw l 0 then
 some ((Fm.mk 0 (Ty.mk 0 []) [] []),[],l)
 else cM (ei a0 [a1.cT]) λc=>
 cM (dg a1.aiv 0) λd=>
 cW (dp n c d) λa b=>
 if dw b 0 then
 some ((Fm.mk 0 (Ty.mk 0 []) [] []),[],b)
 else if dj a1.aiu 8 then
 cM (jn 4 a1.cT a.cU) λf=>
 cM (fv a.uses 1) λh=>
 some (f,h,0)
 else cM (qI a.uses) λi=>
 if i then
 some ((Fm.mk 0 (Ty.mk 0 []) [] []),[],12)
 else cM (jn 6 a1.cT a.cU) λj=>
 cM (fv a.uses 1) λk=>
 some (j,k,0)
def na:Nat->cX->Pf->Option (Fm×(List Int)×Int)
 |0,_,_=>none|n+1,a0,a1=>
 cM (dg a1.dc 0) λc=>
 cW (jz a0.aiy c) λq o=>
 if dw o 0 then
 some ((Fm.mk 0 (Ty.mk 0 []) [] []),[],o)
 else cM (dg a1.aiv 0) λd=>
 cW (dp n a0 d) λa b=>
 if dw b 0 then
 some ((Fm.mk 0 (Ty.mk 0 []) [] []),[],b)
 else cM (jJ c) λf=>
 cM (fq a.uses f) λh=>
 if dw a.cU.aiu (ep (dj a1.aiu 13) 6 4)then
 some ((Fm.mk 0 (Ty.mk 0 []) [] []),[],10)
 else cM (ey FU a.cU.cT q) λi=>
 if i then
 cM (dg a.cU.aiv 0) λj=>
 cW (iL j c) λk l=>
 some (k,(ep (dj a1.aiu 13) a.uses h),l)
 else some ((Fm.mk 0 (Ty.mk 0 []) [] []),[],7)
def mT:Nat->cX->Pf->Option (Fm×(List Int)×Int)
 |0,_,_=>none|n+1,a0,a1=>
 cM (dg a1.eg 0) λa=>
 cM (dg a1.dc 0) λb=>
 cM (jk a0.aiy a) λc=>
 if dw c 0 then
 some ((Fm.mk 0 (Ty.mk 0 []) [] []),[],c)
 else if dw a.aiu (ep (dj a1.aiu 14) 7 5)then
 some ((Fm.mk 0 (Ty.mk 0 []) [] []),[],10)
 else cW (jz a0.aiy b) λi d=>
 if dw d 0 then
 some ((Fm.mk 0 (Ty.mk 0 []) [] []),[],d)
 else cM (ey FU a.cT i) λj=>
 if j then
 cM (dg a1.aiv 0) λk=>
 cM (dg a.aiv 0) λl=>
 cW (dZ n a0 k l b) λf o=>
 de (λ(v77:List Int)=>
 some (a,v77,o)) λh=>
 if dj (ep (dj a1.aiu 14) 7 5) 5 then
 cM (jJ b) λq=>
 cM (fq f q) λr=>
 h r
 else h f
 else some ((Fm.mk 0 (Ty.mk 0 []) [] []),[],7)
def lM:Nat->cX->Pf->Option (Fm×(List Int)×Int)
 |0,_,_=>none|n+1,a0,a1=>
 cM (dg a1.aiv 0) λy=>
 cW (dp n a0 y) λc i=>
 if dw i 0 then
 some ((Fm.mk 0 (Ty.mk 0 []) [] []),[],i)
 else if dw c.cU.aiu (ep (dj a1.aiu 15) 7 5)then
 some ((Fm.mk 0 (Ty.mk 0 []) [] []),[],10)
 else cM (du a0 1 1) λj=>
 if dw j 0 then
 some ((Fm.mk 0 (Ty.mk 0 []) [] []),[],j)
 else cM (ei a0 [c.cU.cT]) λA=>
 cM (dg c.cU.aiv 0) λB=>
 cM (fg A B) λC=>
 cM (dg a1.aiv 1) λD=>
 cW (dp n C D) λb k=>
 if dw k 0 then
 some ((Fm.mk 0 (Ty.mk 0 []) [] []),[],k)
 else de (λ(F:Int) (l:Int) (o:List Ty) (q:List Tm) (r:List Fm)=>
 de (λ(v139:Bool)=>
 if v139 then
 some ((Fm.mk 0 (Ty.mk 0 []) [] []),[],12)
 else cM (fN FU (Fm.mk F (Ty.mk l o) q r) 1 (-1)) λs=>
 cM (fv b.uses 1) λt=>
 cM (fq c.uses t) λu=>
 some (s,u,0)) λd=>
 if dj (ep (dj a1.aiu 15) 7 5) 7 then
 cM (qI b.uses) λv=>
 d v
 else d false) λf=>
 cM (pG FU b.cU 0) λw=>
 if w then
 cW (ma FU b.cU) λa h=>
 if dw h 0 then
 some ((Fm.mk 0 (Ty.mk 0 []) [] []),[],h)
 else cM (pG FU a 0) λx=>
 if x then
 some ((Fm.mk 0 (Ty.mk 0 []) [] []),[],6)
 else f a.aiu a.cT.aiu a.cT.aiv a.dc a.aiv
 else f b.cU.aiu b.cU.cT.aiu b.cU.cT.aiv b.cU.dc b.cU.aiv
def oy:Nat->cX->Pf->Option (Fm×(List Int)×Int)
 |0,_,_=>none|n+1,a0,a1=>
 cM (dg a1.eg 0) λa=>
 cM (dg a1.dc 0) λc=>
 cM (gB) λd=>
 fa (eO a0.aiy [d])<|cM (jV (fu a0.aiy [d]) a) λf=>
 if dw f 0 then
 some ((Fm.mk 0 (Ty.mk 0 []) [] []),[],f)
 else cM (fZ a0 c 1) λh=>
 if dw h 0 then
 some ((Fm.mk 0 (Ty.mk 0 []) [] []),[],h)
 else cM (dg a1.aiv 0) λC=>
 cM (eN 4 []) λD=>
 cW (dZ n a0 C a D) λF i=>
 if dw i 0 then
 some ((Fm.mk 0 (Ty.mk 0 []) [] []),[],i)
 else cM (du a0 1 1) λj=>
 if dw j 0 then
 some ((Fm.mk 0 (Ty.mk 0 []) [] []),[],j)
 else cM (gB) λk=>
 cM (ei a0 [k]) λl=>
 cM (fg l a) λo=>
 cM (dg a1.aiv 1) λq=>
 cM (fN FU a 1 1) λr=>
 cM (eL 0) λs=>
 cM (eN 5 [s]) λt=>
 cW (dZ n o q r t) λu b=>
 if dw b 0 then
 some ((Fm.mk 0 (Ty.mk 0 []) [] []),[],b)
 else cW (iL a c) λv w=>
 cM (jJ c) λx=>
 cM (fq x F) λy=>
 cM (fv u 1) λA=>
 cM (fq y A) λB=>
 some (v,B,w)
def mP:Nat->cX->Pf->Option (Fm×(List Int)×Int)
 |0,_,_=>none|n+1,a0,a1=>
 cM (dg a1.eg 0) λa=>
 cM (dg a1.dc 0) λc=>
 cM (lC) λd=>
 fa (eO a0.aiy [d])<|cM (jV (fu a0.aiy [d]) a) λf=>
 if dw f 0 then
 some ((Fm.mk 0 (Ty.mk 0 []) [] []),[],f)
 else cM (fZ a0 c 2) λh=>
 if dw h 0 then
 some ((Fm.mk 0 (Ty.mk 0 []) [] []),[],h)
 else cM (dg a1.aiv 0) λG=>
 cM (eN 7 []) λH=>
 cW (dZ n a0 G a H) λI i=>
 if dw i 0 then
 some ((Fm.mk 0 (Ty.mk 0 []) [] []),[],i)
 else cM (du a0 2 1) λj=>
 if dw j 0 then
 some ((Fm.mk 0 (Ty.mk 0 []) [] []),[],j)
 else cM (gB) λk=>
 cM (lC) λl=>
 cM (ei a0 [k,l]) λo=>
 cM (fN FU a 1 1) λq=>
 cM (fg o q) λr=>
 cM (dg a1.aiv 1) λs=>
 cM (fN FU a 1 2) λt=>
 cM (eL 1) λu=>
 cM (eL 0) λv=>
 cM (eN 8 [u,v]) λw=>
 cW (dZ n r s t w) λx b=>
 if dw b 0 then
 some ((Fm.mk 0 (Ty.mk 0 []) [] []),[],b)
 else cW (iL a c) λy A=>
 cM (jJ c) λB=>
 cM (fq B I) λC=>
 cM (fv x 2) λD=>
 cM (fq C D) λF=>
 some (y,F,A)
def mQ:Nat->cX->Pf->Option (Fm×(List Int)×Int)
 |0,_,_=>none|n+1,a0,a1=>
 cM (dg a1.eg 0) λk=>
 cM (gB) λb=>
 fa (eO a0.aiy [b])<|cM (jV (fu a0.aiy [b]) k) λc=>
 if dw c 0 then
 some ((Fm.mk 0 (Ty.mk 0 []) [] []),[],c)
 else cM (dg a1.aiv 0) λl=>
 cW (dp n a0 l) λa d=>
 if dw d 0 then
 some ((Fm.mk 0 (Ty.mk 0 []) [] []),[],d)
 else if dw a.cU.aiu 1 then
 some ((Fm.mk 0 (Ty.mk 0 []) [] []),[],10)
 else cM (dg a1.aiv 1) λo=>
 cM (dg a.cU.dc 0) λq=>
 cW (dZ n a0 o k q) λr f=>
 if dw f 0 then
 some ((Fm.mk 0 (Ty.mk 0 []) [] []),[],f)
 else cM (dg a.cU.dc 1) λh=>
 cW (iL k h) λi j=>
 some (i,r,j)
def mz:Nat->cX->Pf->Option (Fm×(List Int)×Int)
 |0,_,_=>none|n+1,a0,a1=>
 cM (dg a1.aiv 0) λh=>
 cW (dp n a0 h) λa b=>
 if dw b 0 then
 some ((Fm.mk 0 (Ty.mk 0 []) [] []),[],b)
 else de (λ(v35:Bool)=>
 if v35 then
 some ((Fm.mk 0 (Ty.mk 0 []) [] []),[],10)
 else cM (dg a.cU.aiv 0) λc=>
 cM (ka a.cU.cT c.cT) λd=>
 cM (hY d) λi=>
 if dw i 0 then
 some ((Fm.mk 0 (Ty.mk 0 []) [] []),[],4)
 else cM (dg c.aiv 0) λj=>
 cM (fN FU j 2 1) λk=>
 cM (eL 1) λl=>
 cM (eL 0) λo=>
 cM (eN 3 [l,o]) λq=>
 cW (iL k q) λr s=>
 cM (jn 4 a.cU.cT r) λt=>
 cM (jn 5 d t) λu=>
 some (u,a.uses,s)) λf=>
 if dw a.cU.aiu 4 then
 f true
 else cM (dg a.cU.aiv 0) λv=>
 f (dw v.aiu 5)
def dZ:Nat->cX->Pf->Fm->Tm->Option ((List Int)×Int)
 |0,_,_,_,_=>none|n+1,a0,a1,a2,a3=>
 cW (dp n a0 a1) λd f=>
 if dw f 0 then
 some ([],f)
 else cW (iL a2 a3) λb a=>
 if dw a 0 then
 some ([],a)
 else cM (nu b d.cU) λc=>
 some (d.uses,c)
end
def iI(a0:List Fm)(a1:Sq)(a2:Pf):Option (qZ×Int):=
 cM (sk a0 a1) λf=>
 if dw f 0 then
 some ((qZ.mk (Fm.mk 0 (Ty.mk 0 []) [] []) []),f)
 else cM (nx a2) λb=>
 if dw b 0 then
 some ((qZ.mk (Fm.mk 0 (Ty.mk 0 []) [] []) []),b)
 else cW (dp FU (cX.mk a0 a1.aiy a1.aiB) a2) λa c=>
 if dw c 0 then
 some ((qZ.mk (Fm.mk 0 (Ty.mk 0 []) [] []) []),c)
 else cM (h9 FU a.cU) λd=>
 fa (eO [] a.uses)<|some ((qZ.mk d (fu [] a.uses)),0)
def oL(a0:Sq)(a1:List Ty):Option Sq:=
 cM (lu a0.aiy a1) λf=>
 fa (dE a0.aiB)<|de (λ(h:Int) (c:Fm)=>(λ(a:List Fm)=>
 cM (fN FU c 0 (dq a1)) λb=>
 fa (eO a [b])<|some (dV.next (fu a [b])))) λd=>
 cM (dH d a0.aiB 0 []) (eE (λ(a:List Fm)=>
 some (Sq.mk f a)) (λr=>some r))
def pB(a0:Int)(a1:Ty)(a2:Pf):Option Pf:=
 cM (jY a0 [a2]) λa=>
 cM (gQ FU a1) λb=>
 some (Pf.mk a.aiu a.aix b a.dc a.eg a.aiv)
def sD(a0:Int)(a1:Tm)(a2:Pf):Option Pf:=
 cM (jY a0 [a2]) λa=>
 cM (iC FU a1) λb=>
 some (Pf.mk a.aiu a.aix a.cT [b] a.eg a.aiv)
def iO(a0:Tm):Option Tm:=
 cM (k1 a0 a0) λb=>
 cM (fN FU b 0 1) λc=>
 cM (dg c.dc 0) λa=>
 some a
def sJ(a0:Int)(a1:Fm)(a2:Tm)(a3:Pf):Option Pf:=
 cM (sD a0 a2 a3) λa=>
 cM (h9 FU a1) λb=>
 some (Pf.mk a.aiu a.aix a.cT a.dc [b] a.aiv)
def rj(a0:Int)(a1:Fm)(a2:Tm)(a3:Pf):Option (Pf×Fm):=
 cM (sD a0 a2 a3) λa=>
 cM (h9 FU a1) λb=>
 some ((Pf.mk a.aiu a.aix a.cT a.dc [b] a.aiv),b)
def s6(a0:dd)(a1:Sq):Option (Pf×Fm×dd):=
 cM (gB) λk=>
 cW (fo FU a0 a1.aiy k 1) λc d9=>
 cM (iO c) λd=>
 cM (eL 0) λf=>
 cM (k1 d f) λh=>
 cM (jn 5 k h) λi=>
 cM (jF c) λj=>
 cW (rj 10 i c j) λa b=>
 some ((Pf.mk a.aiu a.aix a.cT a.dc [b] a.aiv),b,d9)
def l7(a0:Int):Option Pf:=
 some (Pf.mk 1 a0 (Ty.mk 0 []) [] [] [])
def rU(a0:Int)(a1:Fm)(a2:Tm)(a3 a4:Pf):Option Pf:=
 cM (jY a0 [a3,a4]) λa=>
 cM (iC FU a2) λc=>
 cM (h9 FU a1) λb=>
 some (Pf.mk a.aiu a.aix a.cT [c] [b] a.aiv)
def uy(a0:Tm)(a1:Int):Option Tm:=
 cM (pY FU a0 0 a1) λa=>
 some a
def qS(a0:Fm)(a1 a2:Pf):Option Pf:=
 cM (jY 19 [a1,a2]) λa=>
 cM (h9 FU a0) λb=>
 some (Pf.mk a.aiu a.aix a.cT a.dc [b] a.aiv)
def uK(a0 a1:Tm)(a2:Pf):Option Pf:=
 cM (uy a0 1) λa=>
 cM (uy a1 1) λb=>
 cM (eN 3 [a,b]) λc=>
 cM (uy a0 1) λd=>
 cM (eL 0) λf=>
 cM (eN 3 [d,f]) λh=>
 cM (k1 c h) λi=>
 cM (eN 3 [a0,a1]) λj=>
 cM (jF j) λk=>
 cM (qS i a2 k) λl=>
 some l
def rv(a0:List Tm)(a1:List Fm)(a2:List Pf):Option Int:=
 fa (dE a0)<|de (λ(l:Int) (f:Tm)=>(λ(_:Unit)=>
 cM (kH f) λb=>
 if dw b 0 then
 some (dV.ret b)
 else some (dV.next ()))) λh=>
 cM (dH h a0 0 ()) (eE (λ(_:Unit)=>
 fa (dE a1)<|de (λ(n:Int) (i:Fm)=>(λ(_:Unit)=>
 cM (iJ i) λc=>
 if dw c 0 then
 some (dV.ret c)
 else some (dV.next ()))) λj=>
 cM (dH j a1 0 ()) (eE (λ(_:Unit)=>
 fa (dE a2)<|de (λ(o:Int) (k:Pf)=>(λ(_:Unit)=>
 cM (nx k) λa=>
 if dw a 0 then
 some (dV.ret a)
 else some (dV.next ()))) λd=>
 cM (dH d a2 0 ()) (eE (λ(_:Unit)=>
 some 0) (λr=>some r))) (λr=>some r))) (λr=>some r))
def sX(a0:Pf)(a1:Int):Option (Pf×Int):=
 if dw a1 0 then
 some ((Pf.mk 0 0 (Ty.mk 0 []) [] [] []),a1)
 else cM (r_ a0) λb=>
 if b then
 cM (qo FU a0) λa=>
 some (a,0)
 else some ((Pf.mk 0 0 (Ty.mk 0 []) [] [] []),4)
def uG(a0 a1 a2:Tm)(a3:Pf):Option (Pf×Int):=
 cM (uK a0 a1 a3) λa=>
 cM (rv [a0,a1,a2] [] [a3]) λb=>
 cW (sX a b) λc d=>
 some (c,d)
def yJ(a0:Tm):Option Pf:=
 cM (rY) λt=>
 cM (ta 0) λf=>
 cM (eL 0) λh=>
 cM (AN t [f,h]) λa=>
 cM (eL 0) λi=>
 cM (k1 a i) λj=>
 cM (gB) λk=>
 cM (eL 0) λl=>
 cM (eN 5 [l]) λn=>
 cM (kN 2 k [n]) λo=>
 cM (eL 0) λq=>
 cM (l7 0) λr=>
 cW (uG o a q r) λs u=>
 cM (ta 0) λb=>
 cM (jF b) λc=>
 cM (rU 16 j a0 c s) λd=>
 some d
def Bs(a0:dd)(a1:Sq):Option (Pf×dd):=
 cM (gB) λj=>
 cW (fo FU a0 a1.aiy j 1) λa d9=>
 cM (iO a) λb=>
 cM (eL 0) λc=>
 cM (k1 b c) λd=>
 cM (jn 5 j d) λf=>
 cM (jF a) λh=>
 cM (sJ 10 f a h) λi=>
 some (i,d9)
mutual
def hW:Nat->dd->(List Fm)->Sq->Int->Option (Pf×dd)
 |0,_,_,_,_=>none|n+1,a0,a1,a2,a3=>
 cM (gB) λH=>
 de (λ(bI:dd)=>
 de (λ(I:dd)=>
 cW (fo FU I a2.aiy H 1) λJ K=>
 cM (jF J) λL=>
 some (L,K)) λf=>
 cW (eu bI 4) λl c=>
 if dj l 0 then
 if lQ (dq a2.aiB) 0 then
 cW (eu c (dq a2.aiB)) λM N=>
 cM (l7 M) λO=>
 some (O,N)
 else f c
 else if dj l 1 then
 if lQ (dq a1) 0 then
 cW (eu c (dq a1)) λP Q=>
 some ((Pf.mk 2 P (Ty.mk 0 []) [] [] []),Q)
 else f c
 else f c) λd=>
 if ep (lQ a3 0) (ep (pR (dq a2.aiy) 10) (pR (dq a2.aiB) 10) false) false then
 cW (eu a0 17) λb a=>
 if dj b 0 then
 cW (hW n a a1 a2 (ed .i64 a3 1)) λbJ bK=>
 cW (hW n bK a1 a2 (ed .i64 a3 1)) λbL bM=>
 cM (jY 3 [bJ,bL]) λbN=>
 some (bN,bM)
 else if dj b 1 then
 cW (eu a 2) λbO bP=>
 cW (hW n bP a1 a2 (ed .i64 a3 1)) λbQ bR=>
 cW (hW n bR a1 a2 (ed .i64 a3 1)) λbS bT=>
 cM (jY 3 [bQ,bS]) λbU=>
 cM (jY (dF .i64 4 bO) [bU]) λbV=>
 some (bV,bT)
 else if dj b 2 then
 cW (h7 FU a a2.aiy 1) λB bW=>
 cM (xy a2 B) λbX=>
 cW (hW n bW a1 bX (ed .i64 a3 1)) λbY bZ=>
 cM (tW B bY) λb0=>
 some (b0,bZ)
 else if dj b 3 then
 cW (hW n a a1 a2 (ed .i64 a3 1)) λC D=>
 cW (iI a1 a2 C) λF b1=>
 if dj b1 0 then
 cM (xy a2 F.cU) λb2=>
 cW (hW n D a1 b2 (ed .i64 a3 1)) λb3 b4=>
 cM (tW F.cU b3) λb5=>
 cM (jY 7 [b5,C]) λb6=>
 some (b6,b4)
 else d D
 else if dj b 4 then
 cW (iy FU a 1) λG b7=>
 cM (oL a2 [G]) λb8=>
 cW (hW n b7 a1 b8 (ed .i64 a3 1)) λb9 R=>
 cM (pB 8 G b9) λS=>
 some (S,R)
 else if dj b 5 then
 cW (iy FU a 1) λh T=>
 cW (fo FU T a2.aiy h 1) λU V=>
 cM (oL a2 [h]) λW=>
 cW (hW n V a1 W (ed .i64 a3 1)) λX Y=>
 cM (pB 8 h X) λZ=>
 cM (sD 9 U Z) λad=>
 some (ad,Y)
 else if dj b 6 then
 cW (fo FU a a2.aiy H 1) λi ae=>
 cW (eu ae 2) λo af=>
 de ([5,7]:List Int) λah=>
 cM (dg ah o) λai=>
 cM (iO i) λak=>
 cM (eL 0) λan=>
 cM (k1 ak an) λao=>
 cM (jn ai H ao) λaq=>
 de ([10,14]:List Int) λar=>
 cM (dg ar o) λaw=>
 cM (jF i) λax=>
 cM (sJ aw aq i ax) λay=>
 some (ay,af)
 else if dj b 7 then
 cW (hW n a a1 a2 (ed .i64 a3 1)) λq r=>
 cW (iI a1 a2 q) λaz aA=>
 if dj aA 0 then
 cW (iy FU r 1) λs aB=>
 cW (eu aB 2) λt aC=>
 de ([5,7]:List Int) λaD=>
 cM (dg aD t) λaE=>
 cM (fN FU az.cU 0 1) λaF=>
 cM (jn aE s aF) λaG=>
 de ([10,14]:List Int) λaH=>
 cM (dg aH t) λaI=>
 cW (fo FU aC a2.aiy s 1) λaJ aK=>
 cM (sJ aI aG aJ q) λaL=>
 some (aL,aK)
 else d r
 else if dj b 8 then
 cW (wZ n a a1 a2 a3) λaM aN=>
 some (aM,aN)
 else if dj b 9 then
 cW (hW n a a1 a2 (ed .i64 a3 1)) λu v=>
 cW (iI a1 a2 u) λaO aP=>
 if dj aP 0 then
 cM (fN FU aO.cU 0 1) λaQ=>
 cW (fo FU v a2.aiy H 1) λaR aS=>
 cM (l7 0) λaT=>
 cM (rU 16 aQ aR u aT) λaU=>
 some (aU,aS)
 else d v
 else if dj b 10 then
 cW (hW n a a1 a2 (ed .i64 a3 1)) λw x=>
 cW (iI a1 a2 w) λaV aW=>
 if dj aW 0 then
 cM (fN FU aV.cU 0 1) λaX=>
 cM (lC) λaY=>
 cW (fo FU x a2.aiy aY 1) λaZ a6=>
 cM (l7 0) λa7=>
 cM (rU 17 aX aZ w a7) λa8=>
 some (a8,a6)
 else d x
 else if dj b 11 then
 cW (fo FU a a2.aiy H 1) λa_ a'=>
 cM (yJ a_) λba=>
 some (ba,a')
 else if dj b 12 then
 cW (fo FU a a2.aiy H 1) λbb bc=>
 cW (fo FU bc a2.aiy H 1) λj bd=>
 cM (iO j) λbf=>
 cM (iO j) λbg=>
 cM (k1 bf bg) λbh=>
 cM (jF bb) λbj=>
 cM (jF j) λbk=>
 cM (qS bh bj bk) λbl=>
 some (bl,bd)
 else if dj b 13 then
 cW (iy FU a 0) λy bm=>
 cM (oL a2 [y]) λbn=>
 cW (Bs bm bn) λbo bp=>
 cM (pB 8 y bo) λbq=>
 cM (jY 20 [bq]) λbr=>
 some (br,bp)
 else if dj b 14 then
 cW (iy FU a 1) λA bs=>
 cM (oL a2 [A]) λbt=>
 cW (hW n bs a1 bt (ed .i64 a3 1)) λbu bw=>
 cM (pB 12 A bu) λbz=>
 some (bz,bw)
 else if dj b 15 then
 cW (iy FU a 1) λk bA=>
 cW (fo FU bA a2.aiy k 1) λbB bC=>
 cM (oL a2 [k]) λbD=>
 cW (hW n bC a1 bD (ed .i64 a3 1)) λbE bF=>
 cM (pB 12 k bE) λbG=>
 cM (sD 13 bB bG) λbH=>
 some (bH,bF)
 else d a
 else d a0
def wZ:Nat->dd->(List Fm)->Sq->Int->Option (Pf×dd)
 |0,_,_,_,_=>none|n+1,a0,a1,a2,a3=>
 g_ (s6 a0 a2) λf c d7=>
 de (λ(v24:Int) (v25:Int) (v26:dd) (v27:Int)=>
 cM (dg c.aiv 0) λv=>
 cM (gB) λw=>
 cM (oL a2 [w]) λx=>
 cM (xy x v) λy=>
 cW (hW n v26 a1 y (ed .i64 a3 1)) λa d101=>
 de (λ(h:Int) (v145:Int) (v146:Int) (i:List Ty) (v148:List Tm) (j:List Fm) (k:List Pf) (l:dd)=>
 cM (jY v24 [(Pf.mk v25 f.aix f.cT f.dc [(Fm.mk v27 c.cT c.dc c.aiv)] f.aiv),(Pf.mk h v145 (Ty.mk v146 i) v148 j k)]) λo=>
 some (o,l)) λd=>
 cW (eu d101 2) λq d163=>
 if dj q 0 then
 cM (fN FU (Fm.mk v27 c.cT c.dc c.aiv) 0 1) λr=>
 cM (eL 0) λs=>
 cM (l7 0) λt=>
 cM (sJ v25 r s t) λb=>
 d b.aiu b.aix b.cT.aiu b.cT.aiv b.dc b.eg b.aiv d163
 else d a.aiu a.aix a.cT.aiu a.cT.aiv a.dc a.eg a.aiv d163) λu=>
 cW (eu d7 3) λA d39=>
 if dj A 0 then
 u 15 14 d39 7
 else u 11 f.aiu d39 c.aiu
end
def uD(a0:dd)(a1:List Fm)(a2:Sq)(a3:Int):Option (Pf×qZ×dd):=
 de ((rM λ(v109:Int) (a:dd)=>
 if pR v109 4 then
 cW (hW FU a a1 a2 a3) λb d134=>
 cW (iI a1 a2 b) λd f=>
 if dj f 0 then
 some (dV.ret (b,d,d134))
 else some (dV.next ((dF .i64 v109 1),d134))
 else some (dV.brk (v109,a)))) λh=>
 cM (nt h FU (0,a0)) (eE (rM λ(v109:Int) (a:dd)=>
 cW (eu a 4) λi d150=>
 cM (ta i) λj=>
 cM (jF j) λc=>
 cW (iI a1 a2 c) λk l=>
 some (c,k,d150)) (λr=>some r))
def sK(a0:dd):Option (ry×dd):=
 de ((Zl λ(a:Int) (b:List gK) (A:dd)=>
 cW (eu A 4) λF B=>
 if pR a (dF .i64 2 F)then
 g_ (uD B [] (Sq.mk [] []) 1) λc v G=>
 cW (eu G 3) λH I=>
 de ((Ud λ(y:Int) (f:Int) (h:Int) (i:Int) (j:List Ty) (k:List Tm) (l:List Fm) (n:List Pf) (o:Int) (q:Int) (s:List Ty) (t:List Tm) (u:List Fm) (w:dd)=>
 if ep (lQ y 0) (lQ a 0) false then
 cW (eu w a) λC J=>
 cM (jY 3 [(Pf.mk f h (Ty.mk i j) k l n),(Pf.mk 2 C (Ty.mk 0 []) [] [] [])]) λd=>
 cM (dg b C) λK=>
 cM (ke 2 (Fm.mk o (Ty.mk q s) t u) K.cU) λx=>
 some (dV.next ((ed .i64 y 1),d.aiu,d.aix,d.cT.aiu,d.cT.aiv,d.dc,d.eg,d.aiv,x.aiu,x.cT.aiu,x.cT.aiv,x.dc,x.aiv,J))
 else some (dV.brk (y,f,h,i,j,k,l,n,o,q,s,t,u,w)))) λL=>
 cM (nt L FU (H,c.aiu,c.aix,c.cT.aiu,c.cT.aiv,c.dc,c.eg,c.aiv,v.cU.aiu,v.cU.cT.aiu,v.cU.cT.aiv,v.cU.dc,v.cU.aiv,I)) (eE (Ud λ(y:Int) (f:Int) (h:Int) (i:Int) (j:List Ty) (k:List Tm) (l:List Fm) (n:List Pf) (o:Int) (q:Int) (s:List Ty) (t:List Tm) (u:List Fm) (w:dd)=>
 de (λ(M:Bool)=>
 if M then
 some (dV.ret ((ry.mk b),w))
 else fa (eO b [(gK.mk (E_ [(conv .u8 (dF .i64 97 a))]) (Fm.mk o (Ty.mk q s) t u) (Pf.mk f h (Ty.mk i j) k l n))])<|some (dV.next ((dF .i64 a 1),(fu b [(gK.mk (E_ [(conv .u8 (dF .i64 97 a))]) (Fm.mk o (Ty.mk q s) t u) (Pf.mk f h (Ty.mk i j) k l n))]),w))) λD=>
 cM (iJ (Fm.mk o (Ty.mk q s) t u)) λN=>
 if dw N 0 then
 D true
 else cM (nx (Pf.mk f h (Ty.mk i j) k l n)) λO=>
 D (dw O 0)) (λr=>some (dV.ret r)))
 else some (dV.brk (a,b,B)))) λP=>
 cM (nt P FU (0,[],a0)) (eE (Zl λ(a:Int) (b:List gK) (A:dd)=>
 some ((ry.mk b),A)) (λr=>some r))
def p5(a0:ry)(a1:Int):Option ((List Fm)×Int):=
 if ep (pR a1 0) true (lQ a1 (dq a0.dB))then
 some ([],1)
 else cM (k_ a0.dB 0 a1) λd=>
 cM (kY d) λb=>
 fa (dE b)<|de (λ(i:Int) (f:Fm)=>(λ(a:List Fm)=>
 cM (lZ f) λc=>
 fa (eO a [c])<|some (dV.next (fu a [c])))) λh=>
 cM (dH h b 0 []) (eE (λ(a:List Fm)=>
 some (a,0)) (λr=>some r))
def sn(a0:gK)(a:ByteArray):Option Bool:=
 some (seq a0.name a)
def kF(a0:ry)(a1:ByteArray):Option (Int×Bool):=
 cW (ej a0.dB (λ(s:Unit) (b:gK)=>nX (sn b a1) s) ()) λa c=>
 some ((imax a 0),(pH a 0))
def pW(a0 a1:List Tm):Option Bool:=
 if dw (dq a0) (dq a1)then
 some false
 else fa (dE a0)<|de (λ(c:Int) (d:Tm)=>(λ(_:Unit)=>
 cM (dg a1 c) λa=>
 cM (jD FU d a) λb=>
 if b then
 some (dV.next ())
 else some (dV.ret false))) λf=>
 cM (dH f a0 0 ()) (eE (λ(_:Unit)=>
 some true) (λr=>some r))
def qh:Nat->Fm->Fm->Option Bool
 |0,_,_=>none|n+1,a0,a1=>
 de (λ(v21:Bool)=>
 if v21 then
 some false
 else fa (dE a0.aiv)<|de (λ(f:Int) (h:Fm)=>(λ(_:Unit)=>
 cM (dg a1.aiv f) λb=>
 cM (qh n h b) λc=>
 if c then
 some (dV.next ())
 else some (dV.ret false))) λd=>
 cM (dH d a0.aiv 0 ()) (eE (λ(_:Unit)=>
 some true) (λr=>some r))) λa=>
 if dw a0.aiu a1.aiu then
 a true
 else cM (ey FU a0.cT a1.cT) λi=>
 if i then
 cM (pW a0.dc a1.dc) λj=>
 if j then
 a (dw (dq a0.aiv) (dq a1.aiv))
 else a true
 else a true
def nA(a0:List Int)(a1:Int):Option Bool:=
 cM (w7) λB=>
 if B then
 cM (FM a0) λt=>
 if t then
 cM (O8 a0) λu=>
 cW (sK u) λa d25=>
 fa (Co (dF .i64 (dq a.dB) 1))<|cM (k_ a.dB 0 (wq .i64 (conv .i64 a1) (dF .i64 (dq a.dB) 1))) λf=>
 cW (pz (ry.mk f)) λv w=>
 cW (p5 a (wq .i64 (conv .i64 a1) (dF .i64 (dq a.dB) 1))) λh x=>
 if ep (dw w 0) true (ep (dw x 0) true (ep (dw v (wq .i64 (conv .i64 a1) (dF .i64 (dq a.dB) 1))) true (dw (dq h) (wq .i64 (conv .i64 a1) (dF .i64 (dq a.dB) 1)))))then
 some false
 else fa (dE a.dB)<|de (λ(c:Int) (d:gK)=>(λ(_:Unit)=>
 cW (kF a d.name) λi j=>
 cW (kF (ry.mk f) d.name) λy k=>
 de (λ(l:Bool)=>
 if l then
 some (dV.ret false)
 else some (dV.next ())) λb=>
 if j then
 if dw i c then
 b true
 else if P3 k (pR c (wq .i64 (conv .i64 a1) (dF .i64 (dq a.dB) 1)))then
 b true
 else if pR c (wq .i64 (conv .i64 a1) (dF .i64 (dq a.dB) 1))then
 cM (dg h c) λn=>
 cM (qh FU n d.cU) λo=>
 b (oF o)
 else b false
 else b true)) λq=>
 cM (dH q a.dB 0 ()) (eE (λ(_:Unit)=>
 cW (kF a (ByteArray.mk #[110,111,116,104,101,114,101])) λA s=>
 some (oF s)) (λr=>some r))
 else some true
 else some false
end Go.eZ
