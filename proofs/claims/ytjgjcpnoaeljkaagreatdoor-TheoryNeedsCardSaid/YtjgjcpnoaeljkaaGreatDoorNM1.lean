/- Part of the proof of TheoryNeeds: models. -/
import Derived.Test.YtjgjcpnoaeljkaaGreatDoorNL16
set_option linter.all false
namespace Go.eU
open Go
inductive Ty where
 |mk (ail:Int) (aim:List Ty)
def Ty.ail:Ty->Int|.mk x _=>x
def Ty.aim:Ty->(List Ty)|.mk _ x=>x
@[simp] theorem Ty.dq(ail:Int)(aim:List Ty):(Ty.mk ail aim).ail=ail:=rfl
@[simp] theorem Ty.di(ail:Int)(aim:List Ty):(Ty.mk ail aim).aim=aim:=rfl
@[simp] theorem Ty.hX(x:Ty):Ty.mk x.ail x.aim=x:=by cases x;rfl
instance:Inhabited Ty:=⟨.mk default default⟩
inductive Tm where
 |mk (ail:Int) (aio:Int) (cT:Ty) (aim:List Tm)
def Tm.ail:Tm->Int|.mk x _ _ _=>x
def Tm.aio:Tm->Int|.mk _ x _ _=>x
def Tm.cT:Tm->Ty|.mk _ _ x _=>x
def Tm.aim:Tm->(List Tm)|.mk _ _ _ x=>x
@[simp] theorem Tm.dq(ail aio:Int)(cT:Ty)(aim:List Tm):(Tm.mk ail aio cT aim).ail=ail:=rfl
@[simp] theorem Tm.eY(ail aio:Int)(cT:Ty)(aim:List Tm):(Tm.mk ail aio cT aim).aio=aio:=rfl
@[simp] theorem Tm.dV(ail aio:Int)(cT:Ty)(aim:List Tm):(Tm.mk ail aio cT aim).cT=cT:=rfl
@[simp] theorem Tm.di(ail aio:Int)(cT:Ty)(aim:List Tm):(Tm.mk ail aio cT aim).aim=aim:=rfl
@[simp] theorem Tm.hX(x:Tm):Tm.mk x.ail x.aio x.cT x.aim=x:=by cases x;rfl
instance:Inhabited Tm:=⟨.mk default default default default⟩
inductive Fm where
 |mk (ail:Int) (cT:Ty) (dc:List Tm) (aim:List Fm)
def Fm.ail:Fm->Int|.mk x _ _ _=>x
def Fm.cT:Fm->Ty|.mk _ x _ _=>x
def Fm.dc:Fm->(List Tm)|.mk _ _ x _=>x
def Fm.aim:Fm->(List Fm)|.mk _ _ _ x=>x
@[simp] theorem Fm.dq(ail:Int)(cT:Ty)(dc:List Tm)(aim:List Fm):(Fm.mk ail cT dc aim).ail=ail:=rfl
@[simp] theorem Fm.dV(ail:Int)(cT:Ty)(dc:List Tm)(aim:List Fm):(Fm.mk ail cT dc aim).cT=cT:=rfl
@[simp] theorem Fm.gl(ail:Int)(cT:Ty)(dc:List Tm)(aim:List Fm):(Fm.mk ail cT dc aim).dc=dc:=rfl
@[simp] theorem Fm.di(ail:Int)(cT:Ty)(dc:List Tm)(aim:List Fm):(Fm.mk ail cT dc aim).aim=aim:=rfl
@[simp] theorem Fm.hX(x:Fm):Fm.mk x.ail x.cT x.dc x.aim=x:=by cases x;rfl
instance:Inhabited Fm:=⟨.mk default default default default⟩
inductive Pf where
 |mk (ail:Int) (aio:Int) (cT:Ty) (dc:List Tm) (eh:List Fm) (aim:List Pf)
def Pf.ail:Pf->Int|.mk x _ _ _ _ _=>x
def Pf.aio:Pf->Int|.mk _ x _ _ _ _=>x
def Pf.cT:Pf->Ty|.mk _ _ x _ _ _=>x
def Pf.dc:Pf->(List Tm)|.mk _ _ _ x _ _=>x
def Pf.eh:Pf->(List Fm)|.mk _ _ _ _ x _=>x
def Pf.aim:Pf->(List Pf)|.mk _ _ _ _ _ x=>x
@[simp] theorem Pf.dq(ail aio:Int)(cT:Ty)(dc:List Tm)(eh:List Fm)(aim:List Pf):(Pf.mk ail aio cT dc eh aim).ail=ail:=rfl
@[simp] theorem Pf.eY(ail aio:Int)(cT:Ty)(dc:List Tm)(eh:List Fm)(aim:List Pf):(Pf.mk ail aio cT dc eh aim).aio=aio:=rfl
@[simp] theorem Pf.dV(ail aio:Int)(cT:Ty)(dc:List Tm)(eh:List Fm)(aim:List Pf):(Pf.mk ail aio cT dc eh aim).cT=cT:=rfl
@[simp] theorem Pf.gl(ail aio:Int)(cT:Ty)(dc:List Tm)(eh:List Fm)(aim:List Pf):(Pf.mk ail aio cT dc eh aim).dc=dc:=rfl
@[simp] theorem Pf.Fy(ail aio:Int)(cT:Ty)(dc:List Tm)(eh:List Fm)(aim:List Pf):(Pf.mk ail aio cT dc eh aim).eh=eh:=rfl
@[simp] theorem Pf.di(ail aio:Int)(cT:Ty)(dc:List Tm)(eh:List Fm)(aim:List Pf):(Pf.mk ail aio cT dc eh aim).aim=aim:=rfl
@[simp] theorem Pf.hX(x:Pf):Pf.mk x.ail x.aio x.cT x.dc x.eh x.aim=x:=by cases x;rfl
instance:Inhabited Pf:=⟨.mk default default default default default default⟩
structure iz where
 name:ByteArray
 cU:Fm
 proof:Pf
@[simp] theorem iz.hX(x:iz):iz.mk x.name x.cU x.proof=x:=rfl
instance:Inhabited iz:=⟨.mk default default default⟩
structure sJ where
 dO:(List iz)
@[simp] theorem sJ.hX(x:sJ):sJ.mk x.dO=x:=rfl
instance:Inhabited sJ:=⟨.mk default⟩
structure qV where
 cU:Fm
 uses:(List Int)
@[simp] theorem qV.hX(x:qV):qV.mk x.cU x.uses=x:=rfl
instance:Inhabited qV:=⟨.mk default default⟩
structure Sq where
 aip:(List Ty)
 ais:(List Fm)
@[simp] theorem Sq.hX(x:Sq):Sq.mk x.aip x.ais=x:=rfl
instance:Inhabited Sq:=⟨.mk default default⟩
structure dd where
 l:(List Int)
 qS:Int
@[simp] theorem dd.hX(x:dd):dd.mk x.l x.qS=x:=rfl
instance:Inhabited dd:=⟨.mk default default⟩
structure dI where
 vars:Int
 ais:Int
@[simp] theorem dI.hX(x:dI):dI.mk x.vars x.ais=x:=rfl
instance:Inhabited dI:=⟨.mk default default⟩
structure cX where
 lemmas:(List Fm)
 aip:(List Ty)
 ais:(List Fm)
@[simp] theorem cX.hX(x:cX):cX.mk x.lemmas x.aip x.ais=x:=rfl
instance:Inhabited cX:=⟨.mk default default default⟩
structure dZ where
 dc:Int
 eh:Int
 aim:Int
 aio:Bool
 oB:Bool
@[simp] theorem dZ.hX(x:dZ):dZ.mk x.dc x.eh x.aim x.aio x.oB=x:=rfl
instance:Inhabited dZ:=⟨.mk default default default default default⟩
structure cP where
 cU:Fm
 uses:Int
@[simp] theorem cP.hX(x:cP):cP.mk x.cU x.uses=x:=rfl
instance:Inhabited cP:=⟨.mk default default⟩
structure dU where
 vars:Int
 ais:Int
@[simp] theorem dU.hX(x:dU):dU.mk x.vars x.ais=x:=rfl
instance:Inhabited dU:=⟨.mk default default⟩
structure cR where
 cT:Ty
 ain:Int
@[simp] theorem cR.hX(x:cR):cR.mk x.cT x.ain=x:=rfl
instance:Inhabited cR:=⟨.mk default default⟩
structure c7 where
 cU:Fm
 vars:Int
@[simp] theorem c7.hX(x:c7):c7.mk x.cU x.vars=x:=rfl
instance:Inhabited c7:=⟨.mk default default⟩
structure cV where
 eX:dU
 aip:(List cR)
 known:(List c7)
@[simp] theorem cV.hX(x:cV):cV.mk x.eX x.aip x.known=x:=rfl
instance:Inhabited cV:=⟨.mk default default default⟩
structure dS where
 aio:Bool
 typed:Bool
 dc:Int
 eh:Int
 aim:Int
 sM:Int
 vars:Int
 ais:Int
@[simp] theorem dS.hX(x:dS):dS.mk x.aio x.typed x.dc x.eh x.aim x.sM x.vars x.ais=x:=rfl
instance:Inhabited dS:=⟨.mk default default default default default default default default⟩
structure da where
 ain:Int
 ik:Bool
@[simp] theorem da.hX(x:da):da.mk x.ain x.ik=x:=rfl
instance:Inhabited da:=⟨.mk default default⟩
structure dK where
 ail:Int
 base:Tm
 vars:(List Ty)
 next:Tm
@[simp] theorem dK.hX(x:dK):dK.mk x.ail x.base x.vars x.next=x:=rfl
instance:Inhabited dK:=⟨.mk default default default default⟩
structure eA where
 term:(Option Nat)
 steps:Int
@[simp] theorem eA.hX(x:eA):eA.mk x.term x.steps=x:=rfl
structure dw where
 ail:Int
 aio:Int
 oB:Ty
 aim:(List (Option Nat))
 size:Int
 free:Int
 normal:Bool
@[simp] theorem dw.hX(x:dw):dw.mk x.ail x.aio x.oB x.aim x.size x.free x.normal=x:=rfl
inductive HC where
 |eJ (x:eA)|dz (x:dw)
def HC.dQ(l:List HC)(p:Nat):Option eA:=match l[p]?with|some (.eJ x)=>some x|_=>none
def HC.fF{l:List HC}{p:Nat}{x:eA}(h:HC.dQ l p=some x):l[p]?=some (.eJ x):=by
 unfold HC.dQ at h
 split at h
 .rename_i e;rw[e];rw[fQ h]
 .cases h
def HC.c0(l:List HC)(p:Nat):Option dw:=match l[p]?with|some (.dz x)=>some x|_=>none
def HC.c9{l:List HC}{p:Nat}{x:dw}(h:HC.c0 l p=some x):l[p]?=some (.dz x):=by
 unfold HC.c0 at h
 split at h
 .rename_i e;rw[e];rw[fQ h]
 .cases h
def js(l:List HC)(p:Nat)(x:HC):List HC:=l.set p x
def nH:List dS:=[⟨false,false,0,0,0,0,0,0⟩,⟨true,false,0,0,0,0,0,0⟩,⟨true,false,0,0,0,0,0,0⟩,⟨false,false,0,0,2,0,0,0⟩,⟨false,false,0,0,1,0,0,0⟩,⟨false,false,0,0,1,0,0,0⟩,⟨false,false,0,1,1,0,0,1⟩,⟨false,false,0,0,2,0,0,0⟩,⟨false,true,0,0,1,0,1,0⟩,⟨false,false,1,0,1,0,0,0⟩,⟨false,false,1,1,1,0,0,0⟩,⟨false,false,0,0,2,0,1,1⟩,⟨false,true,0,0,1,0,1,0⟩,⟨false,false,1,0,1,0,0,0⟩,⟨false,false,1,1,1,0,0,0⟩,⟨false,false,0,0,2,0,1,1⟩,⟨false,false,1,1,2,1,1,1⟩,⟨false,false,1,1,2,1,2,1⟩,⟨false,false,1,0,0,0,0,0⟩,⟨false,false,0,1,2,1,0,0⟩,⟨false,false,0,0,1,0,0,0⟩]
def kK:List Int:=[0,1,28,2,29,14,24,3,30,22,20,15,25,17,4,8,31,27,13,23,21,19,16,7,26,12,18,6,11,5,10,9]
def px:List Int:=[0,0,1,2,0,1,3,0,2,3,2,1,1,0]
end Go.eU
set_option maxRecDepth 20000
namespace Go.eU
open Go
def gJ:Nat->Ty->Option Ty
 |0,_=>none|n+1,a0=>
 e_ (dE a0.aim)<|de (λ(d:Int) (b:Ty)=>(λ(v40:List Ty)=>
 cM (gJ n b) λa=>
 e_ (eI v40 [a])<|some (dW.next (fk v40 [a])))) λc=>
 cM (dF c a0.aim 0 []) (eB (λ(v40:List Ty)=>
 some (Ty.mk a0.ail v40)) (λr=>some r))
def iA:Nat->Tm->Option Tm
 |0,_=>none|n+1,a0=>
 e_ (dE a0.aim)<|de (λ(f:Int) (b:Tm)=>(λ(v40:List Tm)=>
 cM (iA n b) λa=>
 e_ (eI v40 [a])<|some (dW.next (fk v40 [a])))) λc=>
 cM (dF c a0.aim 0 []) (eB (λ(v40:List Tm)=>
 cM (gJ FU a0.cT) λd=>
 some (Tm.mk a0.ail a0.aio d v40)) (λr=>some r))
def eP(a0:Int)(a1:List Tm):Option Tm:=
 e_ (dE a1)<|de (λ(d:Int) (b:Tm)=>(λ(v40:List Tm)=>
 cM (iA FU b) λa=>
 e_ (eI v40 [a])<|some (dW.next (fk v40 [a])))) λc=>
 cM (dF c a1 0 []) (eB (λ(v40:List Tm)=>
 some (Tm.mk a0 0 (Ty.mk 0 []) v40)) (λr=>some r))
def pU(a0:Int):Option Tm:=
 cM (eP 4 []) λb=>
 de ((Tf λ(v29:Int) (v30:Int) (v31:Int) (v32:Int) (v33:List Ty) (a:List Tm)=>
 if ly v29 0 then
 some (dW.next ((ea .i64 v29 1),5,0,0,[],[(Tm.mk v30 v31 (Ty.mk v32 v33) a)]))
 else some (dW.brk (v29,v30,v31,v32,v33,a)))) λc=>
 cM (nk c FU (a0,b.ail,b.aio,b.cT.ail,b.cT.aim,b.aim)) (eB (Tf λ(v29:Int) (v30:Int) (v31:Int) (v32:Int) (v33:List Ty) (a:List Tm)=>
 some (Tm.mk v30 v31 (Ty.mk v32 v33) a)) (λr=>some r))
def tI(a0:Int):Option (Tm×Int):=
 if qT a0 0 then
 some ((Tm.mk 0 0 (Ty.mk 0 []) []),1)
 else if og a0 4096 then
 some ((Tm.mk 0 0 (Ty.mk 0 []) []),4)
 else cM (pU a0) λa=>
 some (a,0)
def tf(a0:Int):Option Tm:=
 cW (tI a0) λa b=>
 some a
def kV(a0 a1:Tm):Option Fm:=
 cM (iA FU a0) λa=>
 cM (iA FU a1) λb=>
 some (Fm.mk 1 (Ty.mk 0 []) [a,b] [])
def jx(a0:Tm):Option Pf:=
 cM (iA FU a0) λa=>
 some (Pf.mk 18 0 (Ty.mk 0 []) [a] [] [])
def tS(a0:ByteArray):Option Bool:=
 match a0.data.toList with
 |[x]=>if 97<=x.toNat/\x.toNat<=122 then some true else none|_=>none
def sk(a0 a:iz):Option Bool:=
 some (seq a0.name a.name)
def ft{S:Type}(a0:List iz)(a1:(S->iz->Option (Bool×S)))(b:S):Option (Int×S):=
 e_ (dE a0)<|de (λ(c:Int) (d:iz)=>(λ(v64:S)=>
 cW (a1 v64 d) λf a=>
 if f then
 some (dW.ret (c,a))
 else some (dW.next a))) λh=>
 cM (dF h a0 0 b) (eB (λ(v64:S)=>
 some ((-1),v64)) (λr=>some r))
def eD{S:Type}(a0:List iz)(a1:(S->iz->Option (Bool×S)))(a:S):Option (Bool×S):=
 cW (ft a0 a1 a) λb c=>
 some ((og b 0),c)
def lH:Nat->Ty->Option (Int×Bool)
 |0,_=>none|n+1,a0=>
 de (λ(v10:Int)=>
 if dx (dp a0.aim) v10 then
 some (0,false)
 else e_ (dE a0.aim)<|de (λ(i:Int) (c:Ty)=>(λ(a:Int)=>
 cW (lH n c) λd f=>
 if f then
 some (dW.next (dJ .i64 a d))
 else some (dW.ret (0,false)))) λh=>
 cM (dF h a0.aim 0 1) (eB (λ(a:Int)=>
 some (a,true)) (λr=>some r))) λb=>
 if en (dj a0.ail 1) true (en (dj a0.ail 2) true (dj a0.ail 5))then
 b 0
 else if en (dj a0.ail 3) true (dj a0.ail 4)then
 b 2
 else some (0,false)
def hY(a0:Ty):Option (Int×Int):=
 cW (lH FU a0) λa b=>
 if b then
 if ly a 64 then
 some (0,4)
 else some (a,0)
 else some (0,2)
def k5(a0:Ty):Option Int:=
 cW (hY a0) λb a=>
 some a
def my(a0:List Ty):Option Int:=
 if ly (dp a0) 16 then
 some 3
 else e_ (dE a0)<|de (λ(d:Int) (b:Ty)=>(λ(_:Unit)=>
 cM (k5 b) λa=>
 if dx a 0 then
 some (dW.ret a)
 else some (dW.next ()))) λc=>
 cM (dF c a0 0 ()) (eB (λ(_:Unit)=>
 some 0) (λr=>some r))
def nq(a0:Ty):Option Bool:=
 some (en (dj a0.ail 0) (dj (dp a0.aim) 0) false)
def qQ(a0:Fm):Option Bool:=
 de (λ(v10:Int) (v11:Int) (v12:Bool)=>
 de (some (en (dj (dp a0.dc) v10) (dj (dp a0.aim) v11) false)) λb=>
 if v12 then
 cW (hY a0.cT) λf c=>
 if dx c 0 then
 some false
 else b
 else cM (nq a0.cT) λd=>
 if d then
 b
 else some false) λa=>
 if dj a0.ail 1 then
 a 2 0 false
 else if en (dj a0.ail 2) true (dj a0.ail 3)then
 a 0 2 false
 else if en (dj a0.ail 4) true (en (dj a0.ail 5) true (en (dj a0.ail 6) true (dj a0.ail 7)))then
 a 0 1 true
 else some false
def uq(a0:Int):Option (Int×Bool):=
 if en (qT a0 1) true (og a0 14)then
 some (0,false)
 else cM (dg px a0) λa=>
 some (a,true)
def uM(a0:Int):Option Bool:=
 some (en (dj a0 2) true (en (dj a0 6) true (dj a0 9)))
def jE:Nat->Tm->Option (Int×Bool)
 |0,_=>none|n+1,a0=>
 cW (uq a0.ail) λl o=>
 if en o (en (dx (dp a0.aim) l) true (en (qT a0.aio 0) true (en (dx a0.aio 0) (dx a0.ail 1) false))) true then
 some (0,false)
 else de (e_ (dE a0.aim)<|de (λ(q:Int) (h:Tm)=>(λ(a:Int)=>
 cW (jE n h) λb c=>
 if c then
 some (dW.next (dJ .i64 a b))
 else some (dW.ret (0,false)))) λd=>
 cM (dF d a0.aim 0 1) (eB (λ(a:Int)=>
 some (a,true)) (λr=>some r))) λf=>
 cM (uM a0.ail) λi=>
 if i then
 cW (hY a0.cT) λs j=>
 if dx j 0 then
 some (0,false)
 else f
 else cM (nq a0.cT) λk=>
 if k then
 f
 else some (0,false)
def jv:Nat->Fm->Option (Int×Bool)
 |0,_=>none|n+1,a0=>
 cM (qQ a0) λo=>
 if o then
 e_ (dE a0.dc)<|de (λ(q:Int) (h:Tm)=>(λ(v72:Int)=>
 cW (jE FU h) λi j=>
 if j then
 some (dW.next (dJ .i64 v72 i))
 else some (dW.ret (0,false)))) λk=>
 cM (dF k a0.dc 0 1) (eB (λ(v72:Int)=>
 e_ (dE a0.aim)<|de (λ(l:Int) (b:Fm)=>(λ(a:Int)=>
 cW (jv n b) λc d=>
 if d then
 some (dW.next (dJ .i64 a c))
 else some (dW.ret (0,false)))) λf=>
 cM (dF f a0.aim 0 v72) (eB (λ(a:Int)=>
 some (a,true)) (λr=>some r))) (λr=>some r))
 else some (0,false)
def hD(a0:Fm):Option (Int×Int):=
 cW (jv FU a0) λa b=>
 if b then
 if ly a 4096 then
 some (0,4)
 else some (a,0)
 else some (0,2)
def jt(a0:Fm):Option Int:=
 cW (hD a0) λb a=>
 some a
def lR(a0:Ty):Option cR:=
 cW (hY a0) λa b=>
 some (cR.mk a0 a)
def nj(a0:List Ty):Option (List cR):=
 e_ (dE a0)<|de (λ(d:Int) (b:Ty)=>(λ(v40:List cR)=>
 cM (lR b) λa=>
 e_ (eI v40 [a])<|some (dW.next (fk v40 [a])))) λc=>
 cM (dF c a0 0 []) (eB (λ(v40:List cR)=>
 some v40) (λr=>some r))
def fi(a0:List cR)(a1:List Ty):Option (List cR):=
 cM (nj a1) λa=>
 e_ (eI a0 a)<|some (fk a0 a)
def qP(a0:Int)(a1 a2:cR):Option (cR×Int):=
 if ly (dJ .i64 (dJ .i64 1 a1.ain) a2.ain) 64 then
 some ((cR.mk (Ty.mk 0 []) 0),4)
 else some ((cR.mk (Ty.mk a0 [a1.cT,a2.cT]) (dJ .i64 (dJ .i64 1 a1.ain) a2.ain)),0)
def iX(a0:Int):Option (List Int):=
 if dj a0 4 then
 some [1]
 else if dj a0 5 then
 some [1,1]
 else if dj a0 7 then
 some [2]
 else if dj a0 8 then
 some [2,1,2]
 else if dj a0 13 then
 some [5]
 else some []
def ib(a0:cR)(a1:Int):Option Bool:=
 some (dj a0.cT.ail a1)
def iG(a0:cR)(a1:Int):Option cR:=
 cM (dg a0.cT.aim a1) λa=>
 cM (lR a) λb=>
 some b
def fN:Nat->Ty->Ty->Option Bool
 |0,_,_=>none|n+1,a0,a1=>
 if en (dx a0.ail a1.ail) true (dx (dp a0.aim) (dp a1.aim))then
 some false
 else e_ (dE a0.aim)<|de (λ(c:Int) (d:Ty)=>(λ(_:Unit)=>
 cM (dg a1.aim c) λa=>
 cM (fN n d a) λb=>
 if b then
 some (dW.next ())
 else some (dW.ret false))) λf=>
 cM (dF f a0.aim 0 ()) (eB (λ(_:Unit)=>
 some true) (λr=>some r))
def jG(a0 a1:cR):Option Bool:=
 de (λ(v6:Bool)=>
 some v6) λa=>
 if dj a0.ain a1.ain then
 cM (fN FU a0.cT a1.cT) λb=>
 a b
 else a false
def mr:Option Ty:=
 some (Ty.mk 1 [])
def v8:Option Ty:=
 some (Ty.mk 2 [])
def nQ(a0:Ty)(a1:List Ty):Option Ty:=
 de ((X5 λ(a:Int) (v49:Int) (b:List Ty)=>
 if og a 0 then
 cM (dg a1 a) λc=>
 some (dW.next ((ea .i64 a 1),4,[c,(Ty.mk v49 b)]))
 else some (dW.brk (a,v49,b)))) λd=>
 cM (nk d FU ((ea .i64 (dp a1) 1),a0.ail,a0.aim)) (eB (X5 λ(a:Int) (v49:Int) (b:List Ty)=>
 some (Ty.mk v49 b)) (λr=>some r))
def oH(a0:Tm):Option Ty:=
 if dj a0.ail 9 then
 cM (mr) λa=>
 cM (v8) λb=>
 cM (nQ a0.cT [a,b,a0.cT]) λc=>
 some c
 else cM (mr) λd=>
 cM (nQ a0.cT [d,a0.cT]) λf=>
 some f
def fl(a0:Tm)(a1:cR×cR×cR):Option (cR×Int):=
 cM (iX a0.ail) λa=>
 if ly (dp a) 0 then
 cM (ru a 1 (dp a)) λh=>
 e_ (dE h)<|de (λ(b:Int) (c:Int)=>(λ(_:Unit)=>
 de (λ(v222:Bool)=>
 if v222 then
 some (dW.ret ((cR.mk (Ty.mk 0 []) 0),7))
 else some (dW.next ())) λd=>
 if dj b 0 then
 cM (ib a1.1 c) λk=>
 d (pL k)
 else if dj b 1 then
 cM (ib a1.2.1 c) λl=>
 d (pL l)
 else e_ (dj b 2)<|cM (ib a1.2.2 c) λn=>
 d (pL n))) λo=>
 cM (dF o h 0 ()) (eB (λ(_:Unit)=>
 cM (dg a 0) λq=>
 cM (lR (Ty.mk q [])) λs=>
 some (s,0)) (λr=>some r))
 else if dj a0.ail 3 then
 de (λ(t:Bool)=>
 if t then
 some ((cR.mk (Ty.mk 0 []) 0),7)
 else cM (iG a1.1 1) λu=>
 some (u,0)) λi=>
 cM (ib a1.1 4) λv=>
 if v then
 cM (iG a1.1 0) λw=>
 cM (jG w a1.2.1) λx=>
 i (pL x)
 else i true
 else if en (dj a0.ail 6) true (dj a0.ail 9)then
 cM (lR a0.cT) λj=>
 de (λ(y:Bool)=>
 if y then
 some ((cR.mk (Ty.mk 0 []) 0),7)
 else some (j,0)) λf=>
 cM (jG a1.1 j) λA=>
 if A then
 cM (oH a0) λB=>
 cM (fN FU a1.2.1.cT B) λC=>
 if C then
 cM (ib a1.2.2 (en (dj a0.ail 9) 2 1)) λD=>
 f (pL D)
 else f true
 else f true
 else if dj a0.ail 10 then
 cW (qP 3 a1.1 a1.2.1) λF G=>
 some (F,G)
 else cM (ib a1.1 3) λH=>
 if H then
 if dj a0.ail 11 then
 cM (iG a1.1 0) λI=>
 some (I,0)
 else cM (iG a1.1 1) λJ=>
 some (J,0)
 else some ((cR.mk (Ty.mk 0 []) 0),7)
def dD:Nat->(List cR)->Tm->Option (cR×Int)
 |0,_,_=>none|n+1,a0,a1=>
 if dj a1.ail 1 then
 if og a1.aio (dp a0)then
 some ((cR.mk (Ty.mk 0 []) 0),6)
 else cM (dg a0 (ea .i64 (ea .i64 (dp a0) 1) a1.aio)) λL=>
 some (L,0)
 else if dj a1.ail 2 then
 cM (lR a1.cT) λo=>
 e_ (eI a0 [o])<|cM (dg a1.aim 0) λH=>
 cW (dD n (fk a0 [o]) H) λI q=>
 if dx q 0 then
 some ((cR.mk (Ty.mk 0 []) 0),q)
 else cW (qP 4 o I) λJ K=>
 some (J,K)
 else e_ (dE a1.aim)<|de (λ(k:Int) (s:Tm)=>(un9 λ(b:Int) (c:List Ty) (v218:Int) (d:Int) (f:List Ty) (h:Int) (v222:Int) (i:List Ty) (j:Int)=>
 de (λ(t:Int) (u:List Ty) (v:Int) (w:Int) (x:List Ty) (y:Int) (A:Int) (B:List Ty) (C:Int)=>
 some (dW.next (t,u,v,w,x,y,A,B,C))) λj250=>
 cW (dD n a0 s) λa l=>
 if dx l 0 then
 some (dW.ret ((cR.mk (Ty.mk 0 []) 0),l))
 else if dj k 0 then
 j250 a.cT.ail a.cT.aim a.ain d f h v222 i j
 else if dj k 1 then
 j250 b c v218 a.cT.ail a.cT.aim a.ain v222 i j
 else e_ (dj k 2)<|j250 b c v218 d f h a.cT.ail a.cT.aim a.ain)) λD=>
 cM (dF D a1.aim 0 (0,[],0,0,[],0,0,[],0)) (eB (un9 λ(b:Int) (c:List Ty) (v218:Int) (d:Int) (f:List Ty) (h:Int) (v222:Int) (i:List Ty) (j:Int)=>
 cW (fl a1 ((cR.mk (Ty.mk b c) v218),(cR.mk (Ty.mk d f) h),(cR.mk (Ty.mk v222 i) j))) λF G=>
 some (F,G)) (λr=>some r))
def gL(a0:List cR)(a1:Tm)(a2:Int):Option Int:=
 cW (dD FU a0 a1) λd c=>
 de (λ(v21:Bool)=>
 if v21 then
 some 7
 else some c) λa=>
 if dj c 0 then
 cM (ib d a2) λb=>
 a (pL b)
 else a false
def gz(a0:List cR)(a1:Tm):Option Int:=
 cM (gL a0 a1 1) λa=>
 some a
def dC:Nat->(List cR)->Fm->Option Int
 |0,_,_=>none|n+1,a0,a1=>
 de (λ(f:List cR)=>
 e_ (dE a1.aim)<|de (λ(o:Int) (h:Fm)=>(λ(_:Unit)=>
 cM (dC n f h) λa=>
 if dx a 0 then
 some (dW.ret a)
 else some (dW.next ()))) λi=>
 cM (dF i a1.aim 0 ()) (eB (λ(_:Unit)=>
 some 0) (λr=>some r))) λb=>
 de (cM (fi a0 [a1.cT]) λj=>
 b j) λc=>
 if en (dj a1.ail 4) true (dj a1.ail 5)then
 c
 else if en (dj a1.ail 6) true (dj a1.ail 7)then
 c
 else if en (dj a1.ail 2) true (dj a1.ail 3)then
 b a0
 else e_ (dE a1.dc)<|de (λ(q:Int) (k:Tm)=>(λ(_:Unit)=>
 cM (gz a0 k) λd=>
 if dx d 0 then
 some (dW.ret d)
 else some (dW.next ()))) λl=>
 cM (dF l a1.dc 0 ()) (eB (λ(_:Unit)=>
 some 0) (λr=>some r))
def kr(a0:List Ty)(a1:Fm):Option Int:=
 cM (my a0) λd=>
 if dx d 0 then
 some d
 else cM (jt a1) λa=>
 if dx a 0 then
 some a
 else cM (nj a0) λb=>
 cM (dC FU b a1) λc=>
 some c
def lb(a0:Int):Option (dS×Bool):=
 if en (qT a0 1) true (og a0 21)then
 some ((dS.mk false false 0 0 0 0 0 0),false)
 else cM (dg nH a0) λa=>
 some (a,true)
def jH(a0:Tm):Option (Int×Int):=
 cW (jE FU a0) λa b=>
 if b then
 if ly a 4096 then
 some (0,4)
 else some (a,0)
 else some (0,2)
def gi(a0:da)(a1 a2:Int):Option (Bool×da):=
 some ((dx a2 2),(en a0.ik (da.mk (dJ .i64 a0.ain a1) true) (da.mk (dJ .i64 a0.ain a1) (dj a2 4))))
def ir:Nat->da->Pf->Option (Bool×da)
 |0,_,_=>none|n+1,a0,a1=>
 cW (lb a1.ail) λd F=>
 if en F (en (qT a1.aio 0) true (en (dx a1.aio 0) (en d.aio (en (dx (dp a1.dc) d.dc) true (en (dx (dp a1.eh) d.eh) true (dx (dp a1.aim) d.aim))) true) (en (dx (dp a1.dc) d.dc) true (en (dx (dp a1.eh) d.eh) true (dx (dp a1.aim) d.aim))))) true then
 some (false,a0)
 else de (λ(v26:da)=>
 e_ (dE a1.dc)<|de (λ(G:Int) (y:Tm)=>(λ(a:da)=>
 cW (jH y) λh i=>
 cW (gi a h i) λj d179=>
 if j then
 some (dW.next d179)
 else some (dW.ret (false,d179)))) λk=>
 cM (dF k a1.dc 0 v26) (eB (λ(a:da)=>
 e_ (dE a1.eh)<|de (λ(C:Int) (l:Fm)=>(λ(b:da)=>
 cW (hD l) λo q=>
 cW (gi b o q) λs d322=>
 if s then
 some (dW.next d322)
 else some (dW.ret (false,d322)))) λt=>
 cM (dF t a1.eh 0 a) (eB (λ(b:da)=>
 e_ (dE a1.aim)<|de (λ(D:Int) (u:Pf)=>(λ(c:da)=>
 cW (ir n c u) λv f=>
 if v then
 some (dW.next f)
 else some (dW.ret (false,f)))) λw=>
 cM (dF w a1.aim 0 b) (eB (λ(c:da)=>
 some (true,c)) (λr=>some r))) (λr=>some r))) (λr=>some r))) λx=>
 if d.typed then
 cW (hY a1.cT) λH A=>
 if dx A 0 then
 some (false,(da.mk (dJ .i64 a0.ain 1) a0.ik))
 else x (da.mk (dJ .i64 a0.ain 1) a0.ik)
 else cM (nq a1.cT) λB=>
 if B then
 x (da.mk (dJ .i64 a0.ain 1) a0.ik)
 else some (false,(da.mk (dJ .i64 a0.ain 1) a0.ik))
def p9(a0:Pf):Option (Int×Int):=
 cW (ir FU (da.mk 0 false) a0) λa d14=>
 if a then
 if en d14.ik true (ly d14.ain 16384)then
 some (0,4)
 else some (d14.ain,0)
 else some (0,2)
def qv(a0:Pf):Option Int:=
 cW (p9 a0) λb a=>
 some a
def ld(a0:dI)(a1:dS)(a2:Int):Option dI:=
 some (dI.mk (en (dj a2 (ea .i64 a1.aim 1)) (dJ .i64 a0.vars a1.vars) a0.vars) (en (dj a2 (ea .i64 a1.aim 1)) (dJ .i64 a0.ais a1.ais) a0.ais))
def kz{S:Type}:Nat->Pf->dI->(S->Pf->dI->Option S)->S->Option S
 |0,_,_,_,_=>none|n+1,a0,a1,a2,b=>
 cW (lb a0.ail) λq w=>
 de (λ(v12:S)=>
 e_ (dE a0.dc)<|de (λ(s:Int) (t:Tm)=>(λ(_:Unit)=>
 some (dW.next ()))) λh=>
 cM (dF h a0.dc 0 ()) (eB (λ(_:Unit)=>
 e_ (dE a0.eh)<|de (λ(u:Int) (v:Fm)=>(λ(_:Unit)=>
 some (dW.next ()))) λi=>
 cM (dF i a0.eh 0 ()) (eB (λ(_:Unit)=>
 e_ (dE a0.aim)<|de (λ(j:Int) (k:Pf)=>(λ(a:S)=>
 cM (ld a1 q j) λc=>
 cM (kz n k c a2 a) λd=>
 some (dW.next d))) λl=>
 cM (dF l a0.aim 0 v12) (eB (λ(a:S)=>
 some a) (λr=>some r))) (λr=>some r))) (λr=>some r))) λf=>
 if q.aio then
 cM (a2 b a0 a1) λo=>
 f o
 else f b
def sn(a0:(List (Int×Bool)))(a1:Int):Option ((List (Int×Bool))):=
 if og a1 0 then
 some (nN a0 a1 true)
 else some a0
def EP(x:Int):List Int->List Int
 |[]=>[x]|y::l=>if x<=y then x::y::l else y::EP x l
def sy(l:List Int):List Int:=l.foldr EP []
def u7(s:List (Int×Bool))(p:Pf)(_:dI):Option (List (Int×Bool)):=if dj p.ail 2 then sn s p.aio else some s
def LH(l:List (Int×Bool)):Bool:=dE l&&l.all λp=>decide (0<=p.1/\p.1<1000000)
def mm(a0:Pf):Option (List Int×Int):=
 cM (qv a0) λe=>
 if dx e 0 then
 some ([],e)
 else cM (kz FU a0 (dI.mk 0 0) u7 []) λl=>
 e_ (LH l)<|some (sy (l.map Prod.fst),0)
def sm(a0 a:Int):Option Bool:=
 some (og a0 a)
def kf{S:Type}(a0:List Int)(a1:(S->Int->Option (Bool×S)))(b:S):Option (Int×S):=
 e_ (dE a0)<|de (λ(c:Int) (d:Int)=>(λ(v64:S)=>
 cW (a1 v64 d) λf a=>
 if f then
 some (dW.ret (c,a))
 else some (dW.next a))) λh=>
 cM (dF h a0 0 b) (eB (λ(v64:S)=>
 some ((-1),v64)) (λr=>some r))
def g_{S:Type}(a0:List Int)(a1:(S->Int->Option (Bool×S)))(a:S):Option (Bool×S):=
 cW (kf a0 a1 a) λb c=>
 some ((og b 0),c)
def oR(a0:List iz)(a1:Int):Option Int:=
 cM (dg a0 a1) λd=>
 de (λ(f:Bool)=>
 if f then
 some 17
 else cM (kr [] d.cU) λa=>
 if dx a 0 then
 some a
 else cW (mm d.proof) λh b=>
 if dx b 0 then
 some b
 else cW (g_ h (λ(s:Unit) (i:Int)=>oQ (sm i a1) s) ()) λj o=>
 if j then
 some 20
 else some 0) λc=>
 cM (tS d.name) λk=>
 if k then
 cM (ru a0 0 a1) λl=>
 cW (eD l (λ(s:Unit) (i:iz)=>oQ (sk i d) s) ()) λn q=>
 c n
 else c true
def td(a0:List iz):Option (List Fm):=
 e_ (dE a0)<|de (λ(c:Int) (a:iz)=>(λ(v24:List Fm)=>
 e_ (eI v24 [a.cU])<|some (dW.next (fk v24 [a.cU])))) λb=>
 cM (dF b a0 0 []) (eB (λ(v24:List Fm)=>
 some v24) (λr=>some r))
def rC(a0:List Fm)(a1:Sq):Option Int:=
 if ly (dp a0) 32 then
 some 3
 else e_ (dE a0)<|de (λ(j:Int) (d:Fm)=>(λ(_:Unit)=>
 cM (kr [] d) λa=>
 if dx a 0 then
 some (dW.ret a)
 else some (dW.next ()))) λf=>
 cM (dF f a0 0 ()) (eB (λ(_:Unit)=>
 cM (my a1.aip) λb=>
 if dx b 0 then
 some b
 else if ly (dp a1.ais) 16 then
 some 3
 else e_ (dE a1.ais)<|de (λ(k:Int) (h:Fm)=>(λ(_:Unit)=>
 cM (kr a1.aip h) λc=>
 if dx c 0 then
 some (dW.ret c)
 else some (dW.next ()))) λi=>
 cM (dF i a1.ais 0 ()) (eB (λ(_:Unit)=>
 some 0) (λr=>some r))) (λr=>some r))
def xo:Option Unit:=some ()
def eM(a0:cV)(a1:Fm):Option cV:=
 e_ (eI a0.known [(c7.mk a1 a0.eX.vars)])<|some (cV.mk (dU.mk a0.eX.vars (dJ .i64 a0.eX.ais 1)) a0.aip (fk a0.known [(c7.mk a1 a0.eX.vars)]))
def qX(a0:Sq):Option cV:=
 cM (nj a0.aip) λi=>
 e_ (dE a0.ais)<|de (λ(j:Int) (f:Fm)=>(un4 λ(b:Int) (v46:Int) (c:List cR) (d:List c7)=>
 cM (eM (cV.mk (dU.mk b v46) c d) f) λa=>
 some (dW.next (a.eX.vars,a.eX.ais,a.aip,a.known)))) λh=>
 cM (dF h a0.ais 0 ((dp a0.aip),0,i,[])) (eB (un4 λ(b:Int) (v46:Int) (c:List cR) (d:List c7)=>
 some (cV.mk (dU.mk b v46) c d)) (λr=>some r))
def gC(a0:Int):Option Tm:=
 some (Tm.mk 1 a0 (Ty.mk 0 []) [])
def sR(a0 a1 a b:Int):Option Tm:=
 cM (gC (en (og (ea .i64 a0 a1) a) (dJ .i64 a0 b) a0)) λc=>
 some c
def kj:Nat->Ty->Option Ty
 |0,_=>none|n+1,a0=>
 e_ (dE a0.aim)<|de (λ(d:Int) (b:Ty)=>(λ(v64:List Ty)=>
 cM (kj n b) λa=>
 e_ (eI v64 [a])<|some (dW.next (fk v64 [a])))) λc=>
 cM (dF c a0.aim 0 []) (eB (λ(v64:List Ty)=>
 some (Ty.mk a0.ail v64)) (λr=>some r))
def gm{S:Type}:Nat->Tm->Int->(S->Int->Int->Option (Tm×S))->S->Option (Tm×S)
 |0,_,_,_,_=>none|n+1,a0,a1,c,d=>
 if dj a0.ail 1 then
 cW (c d a0.aio a1) λi j=>
 some (i,j)
 else cM (kj FU a0.cT) λk=>
 e_ (dE a0.aim)<|de (λ(o:Int) (l:Tm)=>(rI λ(a:List Tm) (v107:S)=>
 cW (gm n l (en (dj a0.ail 2) (dJ .i64 a1 1) a1) c v107) λb f=>
 e_ (eI a [b])<|some (dW.next ((fk a [b]),f)))) λh=>
 cM (dF h a0.aim 0 ([],d)) (eB (rI λ(a:List Tm) (v107:S)=>
 some ((Tm.mk a0.ail a0.aio k a),v107)) (λr=>some r))
def nB{S:Type}(a0:Tm)(a1:(S->Int->Int->Option (Tm×S)))(a:S):Option (Tm×S):=
 cW (gm FU a0 0 a1 a) λb c=>
 some (b,c)
def qy(a0:Tm)(a1 a2:Int):Option Tm:=
 cW (nB a0 (λ(s:Unit) (a:Int) (b:Int)=>oQ (sR a b a1 a2) s) ()) λc d=>
 some c
def lD(a0:Tm)(a1 a b:Int):Option Tm:=
 cM (qy a0 (dJ .i64 a a1) b) λc=>
 some c
def lW(a0:Int):Option Bool:=
 some (en (og a0 4) (Hl a0 7) false)
def dX{S:Type}:Nat->Fm->Int->(S->Tm->Int->Option (Tm×S))->S->Option (Fm×S)
 |0,_,_,_,_=>none|n+1,a0,a1,a2,q=>
 cM (kj FU a0.cT) λv=>
 e_ (dE a0.dc)<|de (λ(w:Int) (s:Tm)=>(rI λ(v91:List Tm) (f:S)=>
 cW (a2 f s a1) λb h=>
 e_ (eI v91 [b])<|some (dW.next ((fk v91 [b]),h)))) λt=>
 cM (dF t a0.dc 0 ([],q)) (eB (rI λ(v91:List Tm) (f:S)=>
 de (λ(i:Int)=>
 e_ (dE a0.aim)<|de (λ(u:Int) (j:Fm)=>(rI λ(a:List Fm) (v212:S)=>
 cW (dX n j i a2 v212) λc k=>
 e_ (eI a [c])<|some (dW.next ((fk a [c]),k)))) λl=>
 cM (dF l a0.aim 0 ([],f)) (eB (rI λ(a:List Fm) (v212:S)=>
 some ((Fm.mk a0.ail v v91 a),v212)) (λr=>some r))) λd=>
 cM (lW a0.ail) λo=>
 if o then
 d (dJ .i64 a1 1)
 else d a1) (λr=>some r))
def eu(a0:Fm)(a1 a2:Int):Option Fm:=
 cW (dX FU a0 0 (λ(s:Unit) (a:Tm) (b:Int)=>oQ (lD a b a1 a2) s) ()) λc d=>
 some c
def j8(a0:cV)(a1:Int):Option (Fm×Bool):=
 if og a1 (dp a0.known)then
 some ((Fm.mk 0 (Ty.mk 0 []) [] []),false)
 else cM (dg a0.known (ea .i64 (ea .i64 (dp a0.known) 1) a1)) λa=>
 cM (eu a.cU 0 (ea .i64 a0.eX.vars a.vars)) λb=>
 some (b,true)
def nG(a0:List Fm)(a1:Pf)(a2:cV):Option (cP×Int):=
 cW (j8 a2 a1.aio) λa b=>
 if b then
 some ((cP.mk a 0),0)
 else some ((cP.mk (Fm.mk 0 (Ty.mk 0 []) [] []) 0),8)
def mg(a0:List Fm)(a1:Pf)(a2:cV):Option (cP×Int):=
 if og a1.aio (dp a0)then
 some ((cP.mk (Fm.mk 0 (Ty.mk 0 []) [] []) 0),9)
 else cM (dg a0 a1.aio) λa=>
 some ((cP.mk a 0),0)
def zA(a0:Int)(a1:List Fm):Option Fm:=
 some (Fm.mk a0 (Ty.mk 0 []) [] a1)
def dy(a0:dU)(a1 a2:Int):Option Int:=
 if en (ly (dJ .i64 a0.vars a1) 16) true (ly (dJ .i64 a0.ais a2) 16)then
 some 3
 else some 0
def oX(a0:Tm):Option Int:=
 cW (jH a0) λb a=>
 some a
def ic:Nat->Tm->Tm->Option Bool
 |0,_,_=>none|n+1,a0,a1=>
 de (λ(d:Bool)=>
 if d then
 some false
 else e_ (dE a0.aim)<|de (λ(f:Int) (h:Tm)=>(λ(_:Unit)=>
 cM (dg a1.aim f) λb=>
 cM (ic n h b) λc=>
 if c then
 some (dW.next ())
 else some (dW.ret false))) λi=>
 cM (dF i a0.aim 0 ()) (eB (λ(_:Unit)=>
 some true) (λr=>some r))) λa=>
 if dx a0.ail a1.ail then
 a true
 else if dx a0.aio a1.aio then
 a true
 else cM (fN FU a0.cT a1.cT) λj=>
 if j then
 a (dx (dp a0.aim) (dp a1.aim))
 else a true
def qg(a0 a1:Tm):Option Bool:=
 cM (ic FU a0 a1) λa=>
 some a
def qO(a0 a1:Int)(a:Bool):Option Bool:=
 if a then
 some (Hl a0 536870912)
 else some false
def jh{S:Type}:Nat->Tm->Int->(S->Int->Int->Option S)->S->Option S
 |0,_,_,_,_=>none|n+1,a0,a1,a,b=>
 de (λ(v6:S)=>
 e_ (dE a0.aim)<|de (λ(i:Int) (c:Tm)=>(λ(v28:S)=>
 cM (jh n c (en (dj a0.ail 2) (dJ .i64 a1 1) a1) a v28) λd=>
 some (dW.next d))) λf=>
 cM (dF f a0.aim 0 v6) (eB (λ(v28:S)=>
 some v28) (λr=>some r))) λh=>
 if dj a0.ail 1 then
 cM (a b a0.aio a1) λj=>
 h j
 else h b
def qz{S:Type}(a0:Tm)(a1:(S->Int->Int->Option S))(a:S):Option S:=
 cM (jh FU a0 0 a1 a) λs1=>
 some s1
def wS(a0:Tm):Option Bool:=
 cM (qz a0 (λ(s:Bool) (a:Int) (b:Int)=>qO a b s) true) λc=>
 some c
def jd(a0 a1:Int)(a2:Ty)(a3:(List (Option Nat)))(nh:List HC):Option ((Option Nat)×List HC):=
 e_ (dE a3)<|de (λ(o:Int) (j:Option Nat)=>(λ(b:List HC)=>
 cM (HC.c0 b (List.length nh)) λa=>
 cM (j) λi=>
 cM (HC.c0 b i) λf=>
 cM (HC.c0 (js b (List.length nh) (HC.dz (dw.mk a.ail a.aio a.oB a.aim (dJ .i64 a.size f.size) a.free a.normal))) i) λk=>
 some (dW.next (js (js b (List.length nh) (HC.dz (dw.mk a.ail a.aio a.oB a.aim (dJ .i64 a.size f.size) a.free a.normal))) (List.length nh) (HC.dz (dw.mk a.ail a.aio a.oB a.aim (dJ .i64 a.size f.size) (imax a.free k.free) a.normal)))))) λl=>
 cM (dF l a3 0 (nh++[HC.dz (dw.mk a0 a1 a2 a3 1 0 false)])) (eB (λ(b:List HC)=>
 de (λ(n:List HC)=>
 some ((some (List.length nh)),n)) λh=>
 if dj a0 1 then
 cM (HC.c0 b (List.length nh)) λd=>
 h (js b (List.length nh) (HC.dz (dw.mk d.ail d.aio d.oB d.aim d.size (dJ .i64 a1 1) d.normal)))
 else if dj a0 2 then
 cM (HC.c0 b (List.length nh)) λc=>
 h (js b (List.length nh) (HC.dz (dw.mk c.ail c.aio c.oB c.aim c.size (imax 0 (ea .i64 c.free 1)) c.normal)))
 else h b) (λr=>some r))
def qu:Nat->Tm->List HC->Option ((Option Nat)×List HC)
 |0,_,_=>none|n+1,a0,nh=>
 e_ (dE a0.aim)<|de (λ(j:Int) (f:Tm)=>(rI λ(v51:(List (Option Nat))) (a:List HC)=>
 cW (qu n f a) λb c=>
 e_ (eI v51 [b])<|some (dW.next ((fk v51 [b]),c)))) λh=>
 cM (dF h a0.aim 0 ([],nh)) (eB (rI λ(v51:(List (Option Nat))) (a:List HC)=>
 cW (jd a0.ail a0.aio a0.cT v51 a) λi d=>
 some (i,d)) (λr=>some r))
def p7(a0:Option Nat)(nh:List HC):Option Int:=
 cM (a0) λa=>
 cM (HC.c0 nh a) λb=>
 some b.size
def ll(a0:Option Nat)(nh:List HC):Option Bool:=
 cM (a0) λr=>
 cM (HC.c0 nh r) λa=>
 if dj a.ail 3 then
 cM (dg a.aim 0) λs=>
 cM (s) λt=>
 cM (HC.c0 nh t) λu=>
 some (dj u.ail 2)
 else if dj a.ail 6 then
 de (λ(v:Bool)=>
 some v) λb=>
 cM (dg a.aim 2) λh=>
 cM (h) λi=>
 cM (HC.c0 nh i) λc=>
 if dj c.ail 4 then
 b true
 else b (dj c.ail 5)
 else if dj a.ail 9 then
 de (λ(j:Bool)=>
 some j) λd=>
 cM (dg a.aim 2) λk=>
 cM (k) λl=>
 cM (HC.c0 nh l) λf=>
 if dj f.ail 7 then
 d true
 else d (dj f.ail 8)
 else if en (dj a.ail 11) true (dj a.ail 12)then
 cM (dg a.aim 0) λn=>
 cM (n) λo=>
 cM (HC.c0 nh o) λq=>
 some (dj q.ail 10)
 else some false
def gS(a0:Option Nat)(nh:List HC):Option Int:=
 cM (a0) λa=>
 cM (HC.c0 nh a) λb=>
 if dj b.ail 2 then
 some 1
 else some 0
def ka:Nat->(Option Nat)->Int->List HC->Option Int
 |0,_,_,_=>none|n+1,a0,a1,nh=>
 cM (a0) λb=>
 cM (HC.c0 nh b) λa=>
 if Hl a.free a1 then
 some 0
 else if dj a.ail 1 then
 if dj a.aio a1 then
 some 1
 else some 0
 else e_ (dE a.aim)<|de (λ(i:Int) (c:Option Nat)=>(λ(v64:Int)=>
 cM (gS (some b) nh) λd=>
 cM (ka n c (dJ .i64 a1 d) nh) λf=>
 some (dW.next (dJ .i64 v64 f)))) λh=>
 cM (dF h a.aim 0 0) (eB (λ(v64:Int)=>
 some v64) (λr=>some r))
def fC(a0:Option Nat)(a1:(List (Option Nat)))(nh:List HC):Option ((Option Nat)×List HC):=
 cM (a0) λc=>
 cM (HC.c0 nh c) λa=>
 cW (jd a.ail a.aio a.oB a1 nh) λd b=>
 some (d,b)
def iQ:Nat->(Option Nat)->Int->Int->List HC->Option ((Option Nat)×List HC)
 |0,_,_,_,_=>none|n+1,a0,a1,a2,nh=>
 de (λ(v21:Bool)=>
 if v21 then
 some (a0,nh)
 else cM (a0) λf=>
 cM (HC.c0 nh f) λc=>
 if dj c.ail 1 then
 cW (jd c.ail (dJ .i64 c.aio a2) c.oB [] nh) λt j=>
 some (t,j)
 else e_ (dE c.aim)<|de (λ(w:Int) (k:Option Nat)=>(rI λ(a:(List (Option Nat))) (b:List HC)=>
 cM (gS (some f) b) λl=>
 cW (iQ n k (dJ .i64 a1 l) a2 b) λd h=>
 e_ (eI a [d])<|some (dW.next ((fk a [d]),h)))) λo=>
 cM (dF o c.aim 0 ([],nh)) (eB (rI λ(a:(List (Option Nat))) (b:List HC)=>
 cW (fC (some f) a b) λq i=>
 some (q,i)) (λr=>some r))) λs=>
 cM (a0) λu=>
 cM (HC.c0 nh u) λv=>
 if Hl v.free a1 then
 s true
 else s (dj a2 0)
def jF:Nat->(Option Nat)->Int->(Option Nat)->List HC->Option ((Option Nat)×List HC)
 |0,_,_,_,_=>none|n+1,a0,a1,a2,nh=>
 cM (a0) λd=>
 cM (HC.c0 nh d) λa=>
 if Hl a.free a1 then
 some (a0,nh)
 else if dj a.ail 1 then
 if dj a.aio a1 then
 cW (iQ FU a2 0 a1 nh) λs i=>
 some (s,i)
 else cW (jd a.ail (ea .i64 a.aio 1) a.oB [] nh) λt j=>
 some (t,j)
 else e_ (dE a.aim)<|de (λ(u:Int) (k:Option Nat)=>(rI λ(v131:(List (Option Nat))) (b:List HC)=>
 cM (gS (some d) b) λl=>
 cW (jF n k (dJ .i64 a1 l) a2 b) λc f=>
 e_ (eI v131 [c])<|some (dW.next ((fk v131 [c]),f)))) λo=>
 cM (dF o a.aim 0 ([],nh)) (eB (rI λ(v131:(List (Option Nat))) (b:List HC)=>
 cW (fC (some d) v131 b) λq h=>
 some (q,h)) (λr=>some r))
def qA(a0:Option Nat)(a1:(List (Option Nat)))(nh:List HC):Option ((Option Nat)×List HC):=
 e_ (dE a1)<|de (λ(h:Int) (c:Option Nat)=>(rI λ(a:Option Nat) (v44:List HC)=>
 cW (jd 3 0 (Ty.mk 0 []) [a,c] v44) λd b=>
 some (dW.next (d,b)))) λf=>
 cM (dF f a1 0 (a0,nh)) (eB (rI λ(a:Option Nat) (v44:List HC)=>
 some (a,v44)) (λr=>some r))
def gU(a0:Option Nat)(nh:List HC):Option ((Option Nat)×List HC):=
 cM (a0) λl=>
 cM (HC.c0 nh l) λa=>
 if dj a.ail 3 then
 cM (dg a.aim 0) λn=>
 cM (n) λo=>
 cM (HC.c0 nh o) λq=>
 cM (dg q.aim 0) λr=>
 cM (dg a.aim 1) λs=>
 cW (jF FU r 0 s nh) λt i=>
 some (t,i)
 else if dj a.ail 11 then
 cM (dg a.aim 0) λu=>
 cM (u) λv=>
 cM (HC.c0 nh v) λw=>
 cM (dg w.aim 0) λx=>
 some (x,nh)
 else if dj a.ail 12 then
 cM (dg a.aim 0) λy=>
 cM (y) λA=>
 cM (HC.c0 nh A) λB=>
 cM (dg B.aim 1) λC=>
 some (C,nh)
 else cM (dg a.aim 0) λd=>
 cM (dg a.aim 1) λf=>
 cM (dg a.aim 2) λD=>
 cM (D) λh=>
 cM (HC.c0 nh h) λb=>
 if dj (dp b.aim) 0 then
 some (d,nh)
 else cM (dg b.aim (ea .i64 (dp b.aim) 1)) λF=>
 cW (fC (some l) [d,f,F] nh) λG c=>
 cM (HC.c0 c h) λH=>
 cW (qA f H.aim c) λI j=>
 cW (qA I [G] j) λJ k=>
 some (J,k)
def lp(a0:Option Nat)(nh:List HC):Option (Int×List HC):=
 cM (a0) λd=>
 cM (HC.c0 nh d) λa=>
 if dj a.ail 3 then
 cM (dg a.aim 0) λk=>
 cM (k) λl=>
 cM (HC.c0 nh l) λn=>
 cM (dg n.aim 0) λo=>
 cM (o) λf=>
 cM (HC.c0 nh f) λq=>
 cM (ka FU (some f) 0 nh) λr=>
 cM (dg a.aim 1) λs=>
 cM (s) λt=>
 cM (HC.c0 nh t) λu=>
 some ((dJ .i64 q.size (J4 .i64 r (ea .i64 u.size 1))),nh)
 else if dj a.ail 6 then
 cM (dg a.aim 2) λv=>
 cM (v) λw=>
 cM (HC.c0 nh w) λh=>
 if dj h.ail 5 then
 cM (dg a.aim 1) λx=>
 cM (x) λy=>
 cM (HC.c0 nh y) λi=>
 cM (dg h.aim 0) λA=>
 cM (A) λB=>
 cM (HC.c0 nh B) λC=>
 cM (dg a.aim 0) λD=>
 cM (D) λF=>
 cM (HC.c0 nh F) λG=>
 some ((dJ .i64 (dJ .i64 (dJ .i64 (dJ .i64 (dJ .i64 2 i.size) (J4 .i64 2 C.size)) 1) G.size) i.size),nh)
 else cM (dg a.aim 0) λH=>
 cM (H) λI=>
 cM (HC.c0 nh I) λJ=>
 some (J.size,nh)
 else if dj a.ail 9 then
 cM (dg a.aim 2) λK=>
 cM (K) λL=>
 cM (HC.c0 nh L) λb=>
 if dj b.ail 8 then
 cM (dg a.aim 1) λM=>
 cM (M) λN=>
 cM (HC.c0 nh N) λj=>
 cM (dg b.aim 0) λO=>
 cM (O) λP=>
 cM (HC.c0 nh P) λQ=>
 cM (dg b.aim 1) λR=>
 cM (R) λS=>
 cM (HC.c0 nh S) λT=>
 cM (dg a.aim 0) λU=>
 cM (U) λV=>
 cM (HC.c0 nh V) λW=>
 some ((dJ .i64 (dJ .i64 (dJ .i64 (dJ .i64 (dJ .i64 (dJ .i64 3 j.size) Q.size) (J4 .i64 2 T.size)) 1) W.size) j.size),nh)
 else cM (dg a.aim 0) λX=>
 cM (X) λY=>
 cM (HC.c0 nh Y) λZ=>
 some (Z.size,nh)
 else cW (gU (some d) nh) λad c=>
 cM (ad) λae=>
 cM (HC.c0 c ae) λaf=>
 some (af.size,c)
def ov(a0:Option Nat)(nh:List HC):Option Int:=cW (lp a0 nh) λr _=>some r
def iV:Nat->(Option Nat)->Int->List HC->Option ((Option Nat)×Int×List HC)
 |0,_,_,_=>none|n+1,a0,a1,nh=>
 cM (a0) λd=>
 cM (HC.c0 nh d) λj=>
 if j.normal then
 some (none,0,nh)
 else cM (ll (some d) nh) λt=>
 if t then
 cM (ov (some d) nh) λu=>
 if ly (ea .i64 u j.size) a1 then
 some (none,4,nh)
 else cW (gU (some d) nh) λv o=>
 some (v,0,o)
 else e_ (dE j.aim)<|de (λ(l:Int) (w:Option Nat)=>(λ(c:List HC)=>
 gX (iV n w a1 c) λh i b=>
 if dx i 0 then
 some (dW.ret (none,i,b))
 else if Option.isSome h then
 cM (HC.c0 b d) λf=>
 e_ (xN f.aim)<|cM (dg f.aim l) λx=>
 cW (fC (some d) (wy f.aim l h) b) λq k=>
 some (dW.ret (q,0,k))
 else some (dW.next b))) λs=>
 cM (dF s j.aim 0 nh) (eB (λ(c:List HC)=>
 cM (HC.c0 c d) λa=>
 some (none,0,(js c d (HC.dz (dw.mk a.ail a.aio a.oB a.aim a.size a.free true))))) (λr=>some r))
def iD(a0:Option Nat)(nh:List HC):Option (Bool×Int×List HC):=
 cM (a0) λb=>
 cM (HC.dQ nh b) λd=>
 cM (p7 d.term nh) λi=>
 gX (iV FU d.term (ea .i64 4096 i) nh) λc f a=>
 if en (dx f 0) true (Option.isNone c)then
 some (false,f,a)
 else cM (HC.dQ a b) λh=>
 some (true,0,(js (js a b (HC.eJ (eA.mk c h.steps))) b (HC.eJ (eA.mk c (dJ .i64 h.steps 1)))))
def h8:Nat->(Option Nat)->List HC->Option Tm
 |0,_,_=>none|n+1,a0,nh=>
 cM (a0) λd=>
 cM (HC.c0 nh d) λa=>
 cM (kj FU a.oB) λf=>
 e_ (dE a.aim)<|de (λ(j:Int) (h:Option Nat)=>(λ(b:List Tm)=>
 cM (h8 n h nh) λc=>
 e_ (eI b [c])<|some (dW.next (fk b [c])))) λi=>
 cM (dF i a.aim 0 []) (eB (λ(b:List Tm)=>
 some (Tm.mk a.ail a.aio f b)) (λr=>some r))
def iE:Nat->(Option Nat)->List HC->Option (Bool×List HC)
 |0,_,_=>none|n+1,a0,nh=>
 cM (a0) λc=>
 cM (HC.c0 nh c) λf=>
 if f.normal then
 some (true,nh)
 else cM (ll (some c) nh) λi=>
 if i then
 some (false,nh)
 else e_ (dE f.aim)<|de (λ(l:Int) (j:Option Nat)=>(λ(d:List HC)=>
 cW (iE n j d) λh b=>
 if h then
 some (dW.next b)
 else some (dW.ret (false,b)))) λk=>
 cM (dF k f.aim 0 nh) (eB (λ(d:List HC)=>
 cM (HC.c0 d c) λa=>
 some (true,(js d c (HC.dz (dw.mk a.ail a.aio a.oB a.aim a.size a.free true))))) (λr=>some r))
def ju(a0:Tm)(a1:Int):Option (Tm×Int×Int):=
 cM (oX a0) λw=>
 if dx w 0 then
 some ((Tm.mk 0 0 (Ty.mk 0 []) []),0,w)
 else de (λ(v23:Bool)=>
 if v23 then
 some ((Tm.mk 0 0 (Ty.mk 0 []) []),0,1)
 else cW (qu FU a0 ([]:List HC)) λu a=>
 de ((λ(b:List HC)=>
 cM (HC.dQ b (List.length a)) λk=>
 if qT k.steps a1 then
 gX (iD (some (List.length a)) b) λl f c=>
 if dx f 0 then
 some (dW.ret ((Tm.mk 0 0 (Ty.mk 0 []) []),0,f))
 else if l then
 some (dW.next c)
 else cM (HC.dQ c (List.length a)) λh=>
 cM (h8 FU h.term c) λn=>
 some (dW.ret (n,h.steps,0))
 else some (dW.brk b))) λo=>
 cM (nk o FU (a++[HC.eJ (eA.mk u 0)])) (eB (λ(b:List HC)=>
 cM (HC.dQ b (List.length a)) λq=>
 cW (iE FU q.term b) λs d=>
 if s then
 cM (HC.dQ d (List.length a)) λi=>
 cM (h8 FU i.term d) λt=>
 some (t,i.steps,0)
 else some ((Tm.mk 0 0 (Ty.mk 0 []) []),0,5)) (λr=>some r))) λj=>
 if qT a1 0 then
 j true
 else if ly a1 65536 then
 j true
 else cM (wS a0) λv=>
 j (pL v)
def kn(a0 a1:Tm)(a2:Int):Option Int:=
 cM (oX a0) λj=>
 if dx j 0 then
 some j
 else cM (oX a1) λa=>
 if dx a 0 then
 some a
 else cM (qg a0 a1) λd=>
 if d then
 some 0
 else gX (ju a0 a2) λf k b=>
 if dx b 0 then
 some b
 else gX (ju a1 a2) λh l c=>
 if dx c 0 then
 some c
 else cM (qg f h) λi=>
 if i then
 some 0
 else some 11
def iL:Nat->Fm->Fm->Option Int
 |0,_,_=>none|n+1,a0,a1=>
 de (λ(k:Bool)=>
 if k then
 some 11
 else e_ (dE a0.dc)<|de (λ(l:Int) (o:Tm)=>(λ(_:Unit)=>
 cM (dg a1.dc l) λc=>
 cM (kn o c 1000) λa=>
 if dx a 0 then
 some (dW.ret a)
 else some (dW.next ()))) λq=>
 cM (dF q a0.dc 0 ()) (eB (λ(_:Unit)=>
 e_ (dE a0.aim)<|de (λ(d:Int) (f:Fm)=>(λ(_:Unit)=>
 cM (dg a1.aim d) λh=>
 cM (iL n f h) λb=>
 if dx b 0 then
 some (dW.ret b)
 else some (dW.next ()))) λi=>
 cM (dF i a0.aim 0 ()) (eB (λ(_:Unit)=>
 some 0) (λr=>some r))) (λr=>some r))) λj=>
 if dx a0.ail a1.ail then
 j true
 else cM (fN FU a0.cT a1.cT) λs=>
 j (pL s)
def ia(a0 a1:Fm):Option Int:=
 cM (jt a0) λc=>
 if dx c 0 then
 some c
 else cM (jt a1) λa=>
 if dx a 0 then
 some a
 else cM (iL FU a0 a1) λb=>
 some b
def eF(a0:cV)(a1:List Ty):Option cV:=
 cM (fi a0.aip a1) λa=>
 some (cV.mk (dU.mk (dJ .i64 a0.eX.vars (dp a1)) a0.eX.ais) a a0.known)
def iT(a0:Int)(a1:Ty)(a2:Fm):Option Fm:=
 some (Fm.mk a0 a1 [] [a2])
def ei(a0 a1:Int):Option Int:=
 e_ (IE a1)<|some (TQ .u32 a0 a1)
def mA(a0 a1 a:Int):Option Int:=
 if og a0 a1 then
 e_ (IE (ea .i64 a0 a1))<|some (w4 .u32 a (Wp .u32 1 (ea .i64 a0 a1)))
 else some a
def jc(a0:Tm):Option Int:=
 cM (qz a0 (λ(s:Int) (a:Int) (b:Int)=>mA a b s) 0) λc=>
 some c
def gj(a0:cR)(a1:Ty):Option Bool:=
 cM (lR a1) λa=>
 cM (jG a0 a) λb=>
 some b
def nM(a0 a1 b a:Int):Option Int:=
 if dj (ea .i64 a0 a1) b then
 some (dJ .i64 a 1)
 else some a
def rU(a0:Tm)(a1:Int):Option Int:=
 cM (qz a0 (λ(s:Int) (a:Int) (b:Int)=>nM a b a1 s) 0) λc=>
 some c
def iy(a0:Tm)(a1 a b:Int):Option Int:=
 cM (rU a0 (dJ .i64 b a1)) λc=>
 some (dJ .i64 a c)
def mJ{S:Type}:Nat->Fm->Int->(S->Tm->Int->Option S)->S->Option S
 |0,_,_,_,_=>none|n+1,a0,a1,a2,b=>
 e_ (dE a0.dc)<|de (λ(l:Int) (c:Tm)=>(λ(v32:S)=>
 cM (a2 v32 c a1) λd=>
 some (dW.next d))) λf=>
 cM (dF f a0.dc 0 b) (eB (λ(v32:S)=>
 de (λ(v51:Int)=>
 e_ (dE a0.aim)<|de (λ(o:Int) (h:Fm)=>(λ(v72:S)=>
 cM (mJ n h v51 a2 v72) λi=>
 some (dW.next i))) λj=>
 cM (dF j a0.aim 0 v32) (eB (λ(v72:S)=>
 some v72) (λr=>some r))) λa=>
 cM (lW a0.ail) λk=>
 if k then
 a (dJ .i64 a1 1)
 else a a1) (λr=>some r))
def jI(a0:Fm)(a1:Int):Option Int:=
 cM (mJ FU a0 0 (λ(s:Int) (a:Tm) (b:Int)=>iy a b s a1) 0) λc=>
 some c
def nt(a0 a1 a:Int)(b:Tm):Option Tm:=
 if dj (ea .i64 a0 a1) a then
 cM (qy b 0 (dJ .i64 a a1)) λc=>
 some c
 else if ly (ea .i64 a0 a1) a then
 cM (gC (ea .i64 a0 1)) λd=>
 some d
 else cM (gC a0) λf=>
 some f
def zg(a0:Tm)(a1:Int)(a2:Tm):Option Tm:=
 cW (nB a0 (λ(s:Unit) (a:Int) (b:Int)=>oQ (nt a b a1 a2) s) ()) λc d=>
 some c
def hB(a0:Tm)(a1 a:Int)(b:Tm):Option Tm:=
 cM (zg a0 (dJ .i64 a a1) b) λc=>
 some c
def jS(a0:Fm)(a1:Int)(a2:Tm):Option Fm:=
 cW (dX FU a0 0 (λ(s:Unit) (a:Tm) (b:Int)=>oQ (hB a b a1 a2) s) ()) λc d=>
 some c
def gY(a0:Fm)(a1:Tm):Option (Fm×Int):=
 cW (hD a0) λd h=>
 cW (jH a1) λa f=>
 cM (jI a0 0) λb=>
 if ly (dJ .i64 d (J4 .i64 b (ea .i64 a 1))) 4096 then
 some ((Fm.mk 0 (Ty.mk 0 []) [] []),4)
 else cM (jS a0 0 a1) λc=>
 some (c,0)
def o0(a0:Tm):Option Int:=
 some 0
def jk(a0:Tm)(a1 a:Int):Option (Tm×Int):=
 if dx a 0 then
 some (a0,a)
 else gX (ju a0 1000) λb d c=>
 some (b,c)
def lA(a0:Fm):Option (Fm×Int):=
 cM (jI a0 0) λc=>
 if dj c 0 then
 cM (jS a0 0 (Tm.mk 0 0 (Ty.mk 0 []) [])) λd=>
 some (d,0)
 else cW (dX FU a0 0 (λ(s:Int) (i:Tm) (j:Int)=>jk i j s) 0) λa b=>
 if dx b 0 then
 some ((Fm.mk 0 (Ty.mk 0 []) [] []),b)
 else cM (jI a 0) λf=>
 if ly f 0 then
 some ((Fm.mk 0 (Ty.mk 0 []) [] []),6)
 else cM (jS a 0 (Tm.mk 0 0 (Ty.mk 0 []) [])) λh=>
 some (h,0)
def p5(a0:Int)(a1:List Tm):Option Tm:=
 some (Tm.mk a0 0 (Ty.mk 0 []) a1)
def qb(a0:Int):Option dK:=
 if dj a0 16 then
 cM (p5 4 []) λa=>
 cM (mr) λb=>
 cM (gC 0) λc=>
 cM (p5 5 [c]) λd=>
 some (dK.mk 1 a [b] d)
 else cM (p5 7 []) λf=>
 cM (mr) λh=>
 cM (v8) λi=>
 cM (gC 1) λj=>
 cM (gC 0) λk=>
 cM (p5 8 [j,k]) λl=>
 some (dK.mk 2 f [h,i] l)
def pX(a0 a1:Tm):Option Fm:=
 some (Fm.mk 1 (Ty.mk 0 []) [a0,a1] [])
def mO(a0:List Fm)(a1:Pf)(a2:cV):Option (cP×Int):=
 cM (dg a1.dc 0) λb=>
 cM (gz a2.aip b) λa=>
 if dx a 0 then
 some ((cP.mk (Fm.mk 0 (Ty.mk 0 []) [] []) 0),a)
 else cM (pX b b) λc=>
 some ((cP.mk c 0),0)
def qW(a0:Tm)(a1:List Tm):Option Tm:=
 e_ (dE a1)<|de (λ(i:Int) (f:Tm)=>(un5 λ(v44:Int) (b:Int) (v46:Int) (c:List Ty) (d:List Tm)=>
 cM (p5 3 [(Tm.mk v44 b (Ty.mk v46 c) d),f]) λa=>
 some (dW.next (a.ail,a.aio,a.cT.ail,a.cT.aim,a.aim)))) λh=>
 cM (dF h a1 0 (a0.ail,a0.aio,a0.cT.ail,a0.cT.aim,a0.aim)) (eB (un5 λ(v44:Int) (b:Int) (v46:Int) (c:List Ty) (d:List Tm)=>
 some (Tm.mk v44 b (Ty.mk v46 c) d)) (λr=>some r))
def sE(a0:Bool):Option (Int×Int):=
 if a0 then
 some (4,3)
 else some (5,2)
def uJ(a0:Tm)(a1:List Ty):Option Tm:=
 de ((Tf λ(v57:Int) (v58:Int) (v59:Int) (v60:Int) (a:List Ty) (b:List Tm)=>
 if og v57 0 then
 cM (dg a1 v57) λc=>
 some (dW.next ((ea .i64 v57 1),2,0,c.ail,c.aim,[(Tm.mk v58 v59 (Ty.mk v60 a) b)]))
 else some (dW.brk (v57,v58,v59,v60,a,b)))) λd=>
 cM (nk d FU ((ea .i64 (dp a1) 1),a0.ail,a0.aio,a0.cT.ail,a0.cT.aim,a0.aim)) (eB (Tf λ(v57:Int) (v58:Int) (v59:Int) (v60:Int) (a:List Ty) (b:List Tm)=>
 some (Tm.mk v58 v59 (Ty.mk v60 a) b)) (λr=>some r))
def ym(a0:Int)(a1:Ty)(a2 a3 a4:Tm):Option Tm:=
 some (Tm.mk a0 0 a1 [a2,a3,a4])
def lV(a0 a1 a2:Tm):Option Tm:=
 cM (mr) λa=>
 cM (mr) λb=>
 cM (mr) λc=>
 cM (uJ a1 [b,c]) λd=>
 cM (ym 6 a a0 d a2) λf=>
 some f
def uQ:Option Tm:=
 cM (p5 4 []) λa=>
 cM (gC 1) λb=>
 cM (gC 0) λc=>
 cM (lV a b c) λd=>
 cM (mr) λf=>
 cM (uJ d [f]) λh=>
 some h
def zv(a0:Tm):Option Tm:=
 cM (mr) λa=>
 cM (mr) λb=>
 cM (uJ a0 [a,b]) λc=>
 some c
def wm:Option Tm:=
 cM (gC 1) λa=>
 cM (uQ) λb=>
 cM (gC 0) λc=>
 cM (qW b [c]) λd=>
 cM (gC 0) λf=>
 cM (lV a d f) λh=>
 cM (zv h) λi=>
 some i
def uc(a0 a1:Tm):Option Fm:=
 cM (wm) λa=>
 cM (p5 5 [a0]) λb=>
 cM (qW a [b,a1]) λc=>
 cM (p5 4 []) λd=>
 cM (pX c d) λf=>
 some f
def j5:Nat->Fm->Fm->Option Bool
 |0,_,_=>none|n+1,a0,a1=>
 de (λ(k:Bool)=>
 if k then
 some false
 else e_ (dE a0.dc)<|de (λ(l:Int) (o:Tm)=>(λ(_:Unit)=>
 cM (dg a1.dc l) λb=>
 cM (ic FU o b) λc=>
 if c then
 some (dW.next ())
 else some (dW.ret false))) λq=>
 cM (dF q a0.dc 0 ()) (eB (λ(_:Unit)=>
 e_ (dE a0.aim)<|de (λ(d:Int) (f:Fm)=>(λ(_:Unit)=>
 cM (dg a1.aim d) λh=>
 cM (j5 n f h) λi=>
 if i then
 some (dW.next ())
 else some (dW.ret false))) λj=>
 cM (dF j a0.aim 0 ()) (eB (λ(_:Unit)=>
 some true) (λr=>some r))) (λr=>some r))) λa=>
 if dx a0.ail a1.ail then
 a true
 else cM (fN FU a0.cT a1.cT) λs=>
 if s then
 if dx (dp a0.dc) (dp a1.dc)then
 a true
 else a (dx (dp a0.aim) (dp a1.aim))
 else a true
def su(a0:Fm):Option (Bool×Tm×Fm×Bool):=
 cW (sE (dj a0.ail 4)) λt u=>
 de (λ(v27:Bool)=>
 if v27 then
 some (false,(Tm.mk 0 0 (Ty.mk 0 []) []),(Fm.mk 0 (Ty.mk 0 []) [] []),false)
 else cM (dg a0.aim 0) λf=>
 cM (dg f.aim 0) λh=>
 cM (dg h.dc 0) λd=>
 de (λ(i:Bool)=>
 if i then
 some (false,(Tm.mk 0 0 (Ty.mk 0 []) []),(Fm.mk 0 (Ty.mk 0 []) [] []),false)
 else cM (dg d.aim 1) λj=>
 cM (dg f.aim 1) λk=>
 some ((dj a0.ail 4),j,k,true)) λa=>
 if dx d.ail 3 then
 a true
 else cM (dg d.aim 1) λc=>
 cM (rU c 0) λl=>
 if ly l 0 then
 a true
 else cM (gC 0) λn=>
 cM (uc n c) λo=>
 cM (j5 FU h o) λq=>
 a (pL q)) λb=>
 if dx a0.ail t then
 b true
 else if dx a0.cT.ail 1 then
 b true
 else cM (dg a0.aim 0) λr=>
 if dx r.ail u then
 b true
 else cM (dg r.aim 0) λs=>
 b (dx s.ail 1)
def mU:Nat->Fm->Option Int
 |0,_=>none|n+1,a0=>
 if dj a0.ail 1 then
 some 6
 else cM (dg a0.aim (ea .i64 (dp a0.aim) 1)) λk=>
 cM (mU n k) λa=>
 de (λ(v26:Int)=>
 de (λ(v57:Int)=>
 some v57) λb=>
 QE (su a0) λl o f h=>
 if h then
 cM (mU n f) λi=>
 b (w4 .u8 (qn .u8 v26 1) (qn .u8 i 4))
 else b (qn .u8 v26 1)) λc=>
 if en (dj a0.ail 2) true (dj a0.ail 3)then
 cM (dg a0.aim 0) λj=>
 cM (mU n j) λd=>
 some (w4 .u8 (qn .u8 (qn .u8 d a) 6) (qn .u8 (en (dj a0.ail 2) (w4 .u8 a d) a) 1))
 else if dj a0.ail 5 then
 c (w4 .u8 a 1)
 else c a
def zm(a0:Fm)(a1:Int):Option (Bool×Int):=
 cM (jt a0) λb=>
 if dx b 0 then
 some (false,b)
 else cM (mU FU a0) λa=>
 some ((dx (qn .u8 a a1) 0),0)
def nX(a0:Fm):Option (Bool×Int):=
 cW (zm a0 1) λa b=>
 some (a,b)
mutual
def dM:Nat->(List Fm)->Pf->cV->Option (cP×Int)
 |0,_,_,_=>none|n+1,a0,a1,a2=>
 cW (if dj a1.ail 1 then nG a0 a1 a2 else if dj a1.ail 2 then mg a0 a1 a2 else if dj a1.ail 3 then jO n a0 a1 a2 else if dj a1.ail 4 then gq n a0 a1 a2 else if dj a1.ail 5 then gq n a0 a1 a2 else if dj a1.ail 6 then jK n a0 a1 a2 else if dj a1.ail 7 then jM n a0 a1 a2 else if dj a1.ail 8 then gb n a0 a1 a2 else if dj a1.ail 12 then gb n a0 a1 a2 else if dj a1.ail 9 then fZ n a0 a1 a2 else if dj a1.ail 13 then fZ n a0 a1 a2 else if dj a1.ail 10 then gr n a0 a1 a2 else if dj a1.ail 14 then gr n a0 a1 a2 else if dj a1.ail 11 then gp n a0 a1 a2 else if dj a1.ail 15 then gp n a0 a1 a2 else if dj a1.ail 16 then j_ n a0 a1 a2 else if dj a1.ail 17 then j_ n a0 a1 a2 else if dj a1.ail 18 then mO a0 a1 a2 else if dj a1.ail 19 then jf n a0 a1 a2 else if dj a1.ail 20 then jZ n a0 a1 a2 else none) λa b=>
 if dx b 0 then
 some ((cP.mk (Fm.mk 0 (Ty.mk 0 []) [] []) 0),b)
 else cM (jt a.cU) λd=>
 if dx d 0 then
 some ((cP.mk (Fm.mk 0 (Ty.mk 0 []) [] []) 0),4)
 else de (λ(v30:Int)=>
 some ((cP.mk a.cU v30),0)) λc=>
 cW (nX a.cU) λf h=>
 if f then
 c a.uses
 else c 0
def jO:Nat->(List Fm)->Pf->cV->Option (cP×Int)
 |0,_,_,_=>none|n+1,a0,a1,a2=>
 cM (dg a1.aim 0) λf=>
 cW (dM n a0 f a2) λa b=>
 if dx b 0 then
 some ((cP.mk (Fm.mk 0 (Ty.mk 0 []) [] []) 0),b)
 else cM (dg a1.aim 1) λh=>
 cW (dM n a0 h a2) λc d=>
 if dx d 0 then
 some ((cP.mk (Fm.mk 0 (Ty.mk 0 []) [] []) 0),d)
 else cM (zA 2 [a.cU,c.cU]) λi=>
 some ((cP.mk i (w4 .u32 a.uses c.uses)),0)
def gq:Nat->(List Fm)->Pf->cV->Option (cP×Int)
 |0,_,_,_=>none|n+1,a0,a1,a2=>
 cM (dg a1.aim 0) λc=>
 cW (dG n a0 c a2 2) λa b=>
 if dx b 0 then
 some ((cP.mk (Fm.mk 0 (Ty.mk 0 []) [] []) 0),b)
 else cM (dg a.cU.aim (en (dj a1.ail 5) 1 0)) λd=>
 some ((cP.mk d a.uses),0)
def jK:Nat->(List Fm)->Pf->cV->Option (cP×Int)
 |0,_,_,_=>none|n+1,a0,a1,a2=>
 cM (dg a1.eh 0) λf=>
 cM (dC FU a2.aip f) λa=>
 if dx a 0 then
 some ((cP.mk (Fm.mk 0 (Ty.mk 0 []) [] []) 0),a)
 else cM (dy a2.eX 0 1) λb=>
 if dx b 0 then
 some ((cP.mk (Fm.mk 0 (Ty.mk 0 []) [] []) 0),b)
 else cM (dg a1.aim 0) λh=>
 cM (eM a2 f) λi=>
 cW (dM n a0 h i) λc d=>
 if dx d 0 then
 some ((cP.mk (Fm.mk 0 (Ty.mk 0 []) [] []) 0),d)
 else cM (zA 3 [f,c.cU]) λj=>
 some ((cP.mk j c.uses),0)
def jM:Nat->(List Fm)->Pf->cV->Option (cP×Int)
 |0,_,_,_=>none|n+1,a0,a1,a2=>
 cM (dg a1.aim 0) λh=>
 cW (dG n a0 h a2 3) λa b=>
 if dx b 0 then
 some ((cP.mk (Fm.mk 0 (Ty.mk 0 []) [] []) 0),b)
 else cM (dg a1.aim 1) λi=>
 cW (dM n a0 i a2) λc d=>
 if dx d 0 then
 some ((cP.mk (Fm.mk 0 (Ty.mk 0 []) [] []) 0),d)
 else cM (dg a.cU.aim 0) λj=>
 cM (ia j c.cU) λf=>
 if dx f 0 then
 some ((cP.mk (Fm.mk 0 (Ty.mk 0 []) [] []) 0),f)
 else cM (dg a.cU.aim 1) λk=>
 some ((cP.mk k (w4 .u32 a.uses c.uses)),0)
def gb:Nat->(List Fm)->Pf->cV->Option (cP×Int)
 |0,_,_,_=>none|n+1,a0,a1,a2=>
 cM (dy a2.eX 1 0) λj=>
 if dx j 0 then
 some ((cP.mk (Fm.mk 0 (Ty.mk 0 []) [] []) 0),j)
 else cM (dg a1.aim 0) λd=>
 cM (eF a2 [a1.cT]) λf=>
 cW (dM n a0 d f) λa b=>
 if dx b 0 then
 some ((cP.mk (Fm.mk 0 (Ty.mk 0 []) [] []) 0),b)
 else de (λ(v40:Int)=>
 cM (iT v40 a1.cT a.cU) λh=>
 cM (ei a.uses 1) λi=>
 some ((cP.mk h i),0)) λc=>
 if dj a1.ail 12 then
 if dx (qn .u32 a.uses 1) 0 then
 some ((cP.mk (Fm.mk 0 (Ty.mk 0 []) [] []) 0),12)
 else c 6
 else c 4
def fZ:Nat->(List Fm)->Pf->cV->Option (cP×Int)
 |0,_,_,_=>none|n+1,a0,a1,a2=>
 cM (dg a1.dc 0) λc=>
 cW (dD FU a2.aip c) λo l=>
 if dx l 0 then
 some ((cP.mk (Fm.mk 0 (Ty.mk 0 []) [] []) 0),l)
 else cM (jc c) λd=>
 cM (dg a1.aim 0) λf=>
 cW (dG n a0 f a2 (en (dj a1.ail 13) 6 4)) λa b=>
 if dx b 0 then
 some ((cP.mk (Fm.mk 0 (Ty.mk 0 []) [] []) 0),b)
 else cM (gj o a.cU.cT) λh=>
 if h then
 cM (dg a.cU.aim 0) λi=>
 cW (gY i c) λj k=>
 some ((cP.mk j (w4 .u32 a.uses (en (dj a1.ail 13) 0 d))),k)
 else some ((cP.mk (Fm.mk 0 (Ty.mk 0 []) [] []) 0),7)
def gr:Nat->(List Fm)->Pf->cV->Option (cP×Int)
 |0,_,_,_=>none|n+1,a0,a1,a2=>
 cM (dg a1.eh 0) λa=>
 cM (dg a1.dc 0) λb=>
 if dj a1.ail 14 then
 cM (dC FU a2.aip a) λd=>
 if dx d 0 then
 some ((cP.mk (Fm.mk 0 (Ty.mk 0 []) [] []) 0),d)
 else if dx a.ail 7 then
 some ((cP.mk (Fm.mk 0 (Ty.mk 0 []) [] []) 0),10)
 else cW (dD FU a2.aip b) λr f=>
 if dx f 0 then
 some ((cP.mk (Fm.mk 0 (Ty.mk 0 []) [] []) 0),f)
 else cM (gj r a.cT) λs=>
 if s then
 cM (dg a1.aim 0) λt=>
 cM (dg a.aim 0) λu=>
 cW (dL n a0 t a2 u b) λv h=>
 if dx h 0 then
 some ((cP.mk (Fm.mk 0 (Ty.mk 0 []) [] []) 0),h)
 else cM (o0 b) λw=>
 some ((cP.mk a (w4 .u32 v.uses w)),0)
 else some ((cP.mk (Fm.mk 0 (Ty.mk 0 []) [] []) 0),7)
 else cM (dC FU a2.aip a) λi=>
 if dx i 0 then
 some ((cP.mk (Fm.mk 0 (Ty.mk 0 []) [] []) 0),i)
 else if dx a.ail 5 then
 some ((cP.mk (Fm.mk 0 (Ty.mk 0 []) [] []) 0),10)
 else cW (dD FU a2.aip b) λx j=>
 if dx j 0 then
 some ((cP.mk (Fm.mk 0 (Ty.mk 0 []) [] []) 0),j)
 else cM (gj x a.cT) λy=>
 if y then
 cM (dg a1.aim 0) λk=>
 cM (dg a.aim 0) λl=>
 cW (dL n a0 k a2 l b) λo c=>
 if dx c 0 then
 some ((cP.mk (Fm.mk 0 (Ty.mk 0 []) [] []) 0),c)
 else cM (jc b) λq=>
 some ((cP.mk a (w4 .u32 o.uses q)),0)
 else some ((cP.mk (Fm.mk 0 (Ty.mk 0 []) [] []) 0),7)
def gp:Nat->(List Fm)->Pf->cV->Option (cP×Int)
 |0,_,_,_=>none|n+1,a0,a1,a2=>
 cM (dg a1.aim 0) λi=>
 cW (dG n a0 i a2 (en (dj a1.ail 15) 7 5)) λa c=>
 if dx c 0 then
 some ((cP.mk (Fm.mk 0 (Ty.mk 0 []) [] []) 0),c)
 else cM (dy a2.eX 1 1) λd=>
 if dx d 0 then
 some ((cP.mk (Fm.mk 0 (Ty.mk 0 []) [] []) 0),d)
 else cM (dg a1.aim 1) λj=>
 cM (eF a2 [a.cU.cT]) λk=>
 cM (dg a.cU.aim 0) λl=>
 cM (eM k l) λo=>
 cW (dM n a0 j o) λb f=>
 if dx f 0 then
 some ((cP.mk (Fm.mk 0 (Ty.mk 0 []) [] []) 0),f)
 else cW (lA b.cU) λq h=>
 if dx h 0 then
 some ((cP.mk (Fm.mk 0 (Ty.mk 0 []) [] []) 0),h)
 else if en (dj a1.ail 15) (dx (qn .u32 b.uses 1) 0) false then
 some ((cP.mk (Fm.mk 0 (Ty.mk 0 []) [] []) 0),12)
 else cM (ei b.uses 1) λr=>
 some ((cP.mk q (w4 .u32 a.uses r)),0)
def j_:Nat->(List Fm)->Pf->cV->Option (cP×Int)
 |0,_,_,_=>none|n+1,a0,a1,a2=>
 cM (dg a1.eh 0) λb=>
 cM (dg a1.dc 0) λd=>
 cM (qb a1.ail) λa=>
 cM (fi a2.aip [(Ty.mk a.ail [])]) λx=>
 cM (dC FU x b) λf=>
 if dx f 0 then
 some ((cP.mk (Fm.mk 0 (Ty.mk 0 []) [] []) 0),f)
 else cM (gL a2.aip d a.ail) λh=>
 if dx h 0 then
 some ((cP.mk (Fm.mk 0 (Ty.mk 0 []) [] []) 0),h)
 else cM (dg a1.aim 0) λy=>
 cW (dL n a0 y a2 b a.base) λA i=>
 if dx i 0 then
 some ((cP.mk (Fm.mk 0 (Ty.mk 0 []) [] []) 0),i)
 else cM (dy a2.eX (dp a.vars) 1) λj=>
 if dx j 0 then
 some ((cP.mk (Fm.mk 0 (Ty.mk 0 []) [] []) 0),j)
 else cM (eF a2 a.vars) λk=>
 cM (eu b 1 (ea .i64 (dp a.vars) 1)) λl=>
 cM (eM k l) λo=>
 cM (dg a1.aim 1) λq=>
 cM (eu b 1 (dp a.vars)) λr=>
 cW (dL n a0 q o r a.next) λs c=>
 if dx c 0 then
 some ((cP.mk (Fm.mk 0 (Ty.mk 0 []) [] []) 0),c)
 else cW (gY b d) λt u=>
 cM (jc d) λv=>
 cM (ei s.uses (dp a.vars)) λw=>
 some ((cP.mk t (w4 .u32 (w4 .u32 v A.uses) w)),u)
def jf:Nat->(List Fm)->Pf->cV->Option (cP×Int)
 |0,_,_,_=>none|n+1,a0,a1,a2=>
 cM (dg a1.eh 0) λj=>
 cM (mr) λk=>
 cM (fi a2.aip [k]) λl=>
 cM (dC FU l j) λa=>
 if dx a 0 then
 some ((cP.mk (Fm.mk 0 (Ty.mk 0 []) [] []) 0),a)
 else cM (dg a1.aim 0) λo=>
 cW (dG n a0 o a2 1) λb c=>
 if dx c 0 then
 some ((cP.mk (Fm.mk 0 (Ty.mk 0 []) [] []) 0),c)
 else cM (dg a1.aim 1) λq=>
 cM (dg b.cU.dc 0) λr=>
 cW (dL n a0 q a2 j r) λs d=>
 if dx d 0 then
 some ((cP.mk (Fm.mk 0 (Ty.mk 0 []) [] []) 0),d)
 else cM (dg b.cU.dc 1) λf=>
 cW (gY j f) λh i=>
 some ((cP.mk h s.uses),i)
def jZ:Nat->(List Fm)->Pf->cV->Option (cP×Int)
 |0,_,_,_=>none|n+1,a0,a1,a2=>
 cM (dg a1.aim 0) λh=>
 cW (dG n a0 h a2 4) λa c=>
 if dx c 0 then
 some ((cP.mk (Fm.mk 0 (Ty.mk 0 []) [] []) 0),c)
 else cM (dg a.cU.aim 0) λb=>
 if dx b.ail 5 then
 some ((cP.mk (Fm.mk 0 (Ty.mk 0 []) [] []) 0),10)
 else cM (nQ b.cT [a.cU.cT]) λd=>
 cM (dg b.aim 0) λi=>
 cM (eu i 2 1) λj=>
 cM (gC 1) λk=>
 cM (gC 0) λl=>
 cM (qW k [l]) λo=>
 cW (gY j o) λq r=>
 de (λ(s:Bool)=>
 if s then
 some ((cP.mk (Fm.mk 0 (Ty.mk 0 []) [] []) 0),4)
 else cM (iT 4 a.cU.cT q) λt=>
 cM (iT 5 d t) λu=>
 some ((cP.mk u a.uses),0)) λf=>
 if dx r 0 then
 f true
 else cM (k5 d) λv=>
 f (dx v 0)
def dG:Nat->(List Fm)->Pf->cV->Int->Option (cP×Int)
 |0,_,_,_,_=>none|n+1,a0,a1,a2,a3=>
 cW (dM n a0 a1 a2) λa b=>
 if en (dj b 0) (dx a.cU.ail a3) false then
 some ((cP.mk (Fm.mk 0 (Ty.mk 0 []) [] []) 0),10)
 else some (a,b)
def dL:Nat->(List Fm)->Pf->cV->Fm->Tm->Option (cP×Int)
 |0,_,_,_,_,_=>none|n+1,a0,a1,a2,a3,a4=>
 cW (dM n a0 a1 a2) λd f=>
 if dx f 0 then
 some ((cP.mk (Fm.mk 0 (Ty.mk 0 []) [] []) 0),f)
 else cW (gY a3 a4) λb a=>
 if dx a 0 then
 some ((cP.mk (Fm.mk 0 (Ty.mk 0 []) [] []) 0),a)
 else cM (ia b d.cU) λc=>
 some (d,c)
end
def wa:Nat->Tm->Option Tm
 |0,_=>none|n+1,a0=>
 cM (kj FU a0.cT) λd=>
 e_ (dE a0.aim)<|de (λ(f:Int) (b:Tm)=>(λ(v72:List Tm)=>
 cM (wa n b) λa=>
 e_ (eI v72 [a])<|some (dW.next (fk v72 [a])))) λc=>
 cM (dF c a0.aim 0 []) (eB (λ(v72:List Tm)=>
 some (Tm.mk a0.ail a0.aio d v72)) (λr=>some r))
def l6(a0:Tm)(a1:Int):Option Tm:=
 cM (wa FU a0) λa=>
 some a
def nP(a0:Fm):Option Fm:=
 cW (dX FU a0 0 (λ(s:Unit) (a:Tm) (b:Int)=>oQ (l6 a b) s) ()) λc d=>
 some c
def jl(a0:Int):Option (List Int):=
 de ((rI λ(v37:Int) (a:List Int)=>
 if dx v37 0 then
 cM (gI v37) λb=>
 e_ (eI a [b])<|some (dW.next ((qn .u32 v37 (ea .u32 v37 1)),(fk a [b])))
 else some (dW.brk (v37,a)))) λc=>
 cM (nk c FU (a0,[])) (eB (rI λ(v37:Int) (a:List Int)=>
 some a) (λr=>some r))
def pK(a0:List Fm)(a1:Sq)(a2:Pf):Option (qV×Int):=
 cM (rC a0 a1) λi=>
 if dx i 0 then
 some ((qV.mk (Fm.mk 0 (Ty.mk 0 []) [] []) []),i)
 else cM (qv a2) λa=>
 if dx a 0 then
 some ((qV.mk (Fm.mk 0 (Ty.mk 0 []) [] []) []),a)
 else cM (xo) λj=>
 cM (qX a1) λd=>
 cW (dM FU a0 a2 d) λb c=>
 if dx c 0 then
 some ((qV.mk (Fm.mk 0 (Ty.mk 0 []) [] []) []),c)
 else cM (nP b.cU) λf=>
 cM (jl b.uses) λh=>
 some ((qV.mk f h),0)
def uI(a0:List Fm)(a1:Sq)(a2:Pf)(a3:Fm):Option Int:=
 cW (pK a0 a1 a2) λd c=>
 if dx c 0 then
 some c
 else cM (kr a1.aip a3) λa=>
 if dx a 0 then
 some a
 else cM (ia d.cU a3) λb=>
 some b
def wV(a0:sJ):Option (Int×Int):=
 if ly (dp a0.dO) 32 then
 some (0,3)
 else e_ (dE a0.dO)<|de (λ(a:Int) (d:iz)=>(λ(_:Unit)=>
 cM (oR a0.dO a) λb=>
 if dx b 0 then
 some (dW.ret (a,b))
 else cM (ru a0.dO 0 a) λf=>
 cM (td f) λh=>
 cM (uI h (Sq.mk [] []) d.proof d.cU) λc=>
 if dx c 0 then
 some (dW.ret (a,c))
 else some (dW.next ()))) λi=>
 cM (dF i a0.dO 0 ()) (eB (λ(_:Unit)=>
 some ((dp a0.dO),0)) (λr=>some r))
def pT(a0:sJ):Option Int:=
 if ly (dp a0.dO) 32 then
 some 3
 else e_ (dE a0.dO)<|de (λ(b:Int) (d:iz)=>(λ(_:Unit)=>
 cM (oR a0.dO b) λa=>
 if dx a 0 then
 some (dW.ret a)
 else some (dW.next ()))) λc=>
 cM (dF c a0.dO 0 ()) (eB (λ(_:Unit)=>
 some 0) (λr=>some r))
def oL(a0:sJ):Option ((List (List Int))×Int):=
 cM (pT a0) λd=>
 if dx d 0 then
 some ([],d)
 else e_ (dE a0.dO)<|de (λ(f:Int) (b:iz)=>(λ(v80:(List (List Int)))=>
 cW (mm b.proof) λa h=>
 e_ (eI v80 [a])<|some (dW.next (fk v80 [a])))) λc=>
 cM (dF c a0.dO 0 []) (eB (λ(v80:(List (List Int)))=>
 some (v80,0)) (λr=>some r))
def iM(uses:List (List Int)):Nat->Int->List Bool->Option (List Bool)
 |0,_,_=>none|n+1,a0,a=>
 cM (dg a a0) λb=>
 if b then
 some a
 else cM (dg uses a0) λl=>
 e_ (dE l)<|de (λ(_:Int) (x:Int)=>(λ(v:List Bool)=>
 cM (iM uses n x v) λs=>
 some (dW.next s)):Int->Int->(List Bool)->(Option (dW (List Bool) (List Bool)))) λF=>
 cM (dF F l 0 (a.set a0.toNat true)) (eB (λ(v:List Bool)=>
 some v) (λr=>some r))
def l8(a0:sJ)(a1:Int):Option (List Int×Int):=
 cW (oL a0) λuses e=>
 if dx e 0 then
 some ([],e)
 else if en (qT a1 0) true (og a1 (dp uses))then
 some ([],1)
 else e_ (dE uses)<|cM (iM uses FU a1 (List.replicate uses.length false)) λv=>
 e_ (dE v)<|de (λ(j:Int) (x:Bool)=>(λ(s:List Int)=>
 if x then
 e_ (eI s [j])<|some (dW.next (fk s [j]))
 else some (dW.next s)):Int->Bool->(List Int)->(Option (dW (List Int) (List Int×Int)))) λF=>
 cM (dF F v 0 []) (eB (λ(s:List Int)=>
 some (s,0)) (λr=>some r))
def xj:Option Bool:=
 cM (tf 1) λj=>
 cM (tf 1) λk=>
 cM (kV j k) λa=>
 cM (tf 1) λc=>
 cM (jx c) λb=>
 cW (wV (sJ.mk [(iz.mk (ByteArray.mk #[97]) a b),(iz.mk (ByteArray.mk #[98]) a (Pf.mk 2 0 (Ty.mk 0 []) [] [] []))])) λd f=>
 cW (l8 (sJ.mk [(iz.mk (ByteArray.mk #[97]) a b),(iz.mk (ByteArray.mk #[98]) a (Pf.mk 2 0 (Ty.mk 0 []) [] [] []))]) 1) λh i=>
 some (en (dj f 0) (en (dj i 0) (en (dj d 2) (dj (dp h) 2) false) false) false)
def Fu(a0:List Int):Option Bool:=
 some (Hl (dp a0) 500)
def Pl(l:List Int):Option dd:=some ⟨l,0⟩
def FO(a0 a1:Int):Option Int:=
 e_ (Bu a1)<|e_ (Bu a1)<|some (yw .i64 (dJ .i64 (yw .i64 a0 a1) a1) a1)
def et(a0:dd)(a1:Int):Option (Int×dd):=
 if en (qT a1 1) true (og a0.qS (dp a0.l))then
 some (0,a0)
 else cM (dg a0.l a0.qS) λa=>
 cM (FO a a1) λb=>
 some (b,(dd.mk a0.l (dJ .i64 a0.qS 1)))
def gA:Option Ty:=
 some (Ty.mk 1 [])
def hZ:Nat->Fm->Option Fm
 |0,_=>none|n+1,a0=>
 cM (gJ FU a0.cT) λk=>
 e_ (dE a0.dc)<|de (λ(l:Int) (h:Tm)=>(λ(v72:List Tm)=>
 cM (iA FU h) λc=>
 e_ (eI v72 [c])<|some (dW.next (fk v72 [c])))) λi=>
 cM (dF i a0.dc 0 []) (eB (λ(v72:List Tm)=>
 e_ (dE a0.aim)<|de (λ(j:Int) (d:Fm)=>(λ(a:List Fm)=>
 cM (hZ n d) λb=>
 e_ (eI a [b])<|some (dW.next (fk a [b])))) λf=>
 cM (dF f a0.aim 0 []) (eB (λ(a:List Fm)=>
 some (Fm.mk a0.ail k v72 a)) (λr=>some r))) (λr=>some r))
def qj:Nat->Pf->Option Pf
 |0,_=>none|n+1,a0=>
 cM (gJ FU a0.cT) λt=>
 e_ (dE a0.dc)<|de (λ(u:Int) (l:Tm)=>(λ(v72:List Tm)=>
 cM (iA FU l) λf=>
 e_ (eI v72 [f])<|some (dW.next (fk v72 [f])))) λo=>
 cM (dF o a0.dc 0 []) (eB (λ(v72:List Tm)=>
 e_ (dE a0.eh)<|de (λ(q:Int) (h:Fm)=>(λ(a:List Fm)=>
 cM (hZ FU h) λc=>
 e_ (eI a [c])<|some (dW.next (fk a [c])))) λi=>
 cM (dF i a0.eh 0 []) (eB (λ(a:List Fm)=>
 e_ (dE a0.aim)<|de (λ(s:Int) (j:Pf)=>(λ(b:List Pf)=>
 cM (qj n j) λd=>
 e_ (eI b [d])<|some (dW.next (fk b [d])))) λk=>
 cM (dF k a0.aim 0 []) (eB (λ(b:List Pf)=>
 some (Pf.mk a0.ail a0.aio t v72 a b)) (λr=>some r))) (λr=>some r))) (λr=>some r))
def jV(a0:Int)(a1:List Pf):Option Pf:=
 e_ (dE a1)<|de (λ(d:Int) (b:Pf)=>(λ(v64:List Pf)=>
 cM (qj FU b) λa=>
 e_ (eI v64 [a])<|some (dW.next (fk v64 [a])))) λc=>
 cM (dF c a1 0 []) (eB (λ(v64:List Pf)=>
 some (Pf.mk a0 0 (Ty.mk 0 []) [] [] v64)) (λr=>some r))
def kb(a0:Int)(a1 a2:Fm):Option Fm:=
 cM (hZ FU a1) λa=>
 cM (hZ FU a2) λb=>
 some (Fm.mk a0 (Ty.mk 0 []) [] [a,b])
def lz:Option Ty:=
 some (Ty.mk 2 [])
def uS:Option Ty:=
 some (Ty.mk 5 [])
def tQ(a0 a1:Ty):Option Ty:=
 cM (gJ FU a0) λa=>
 cM (gJ FU a1) λb=>
 some (Ty.mk 3 [a,b])
def j1(a0 a1:Ty):Option Ty:=
 cM (gJ FU a0) λa=>
 cM (gJ FU a1) λb=>
 some (Ty.mk 4 [a,b])
def iu:Nat->dd->Int->Option (Ty×dd)
 |0,_,_=>none|n+1,a0,a1=>
 de (λ(v57:dd)=>
 cM (gA) λc=>
 some (c,v57)) λb=>
 cW (et a0 7) λa d63=>
 if en (dj a 0) true (en (dj a 1) true (dj a 2))then
 cM (gA) λi=>
 some (i,d63)
 else if dj a 3 then
 cM (lz) λj=>
 some (j,d63)
 else if dj a 4 then
 cM (uS) λk=>
 some (k,d63)
 else if dj a 5 then
 if ly a1 0 then
 cW (iu n d63 (ea .i64 a1 1)) λl d89=>
 cW (iu n d89 (ea .i64 a1 1)) λo d92=>
 cM (tQ l o) λq=>
 some (q,d92)
 else b d63
 else if dj a 6 then
 if ly a1 0 then
 cW (iu n d63 (ea .i64 a1 1)) λd d105=>
 cW (iu n d105 (ea .i64 a1 1)) λf d108=>
 cM (j1 d f) λh=>
 some (h,d108)
 else b d63
 else b d63
def lr(a0 a1:List Ty):Option (List Ty):=
 e_ (eI [] a0)<|e_ (eI (fk [] a0) a1)<|some (fk (fk [] a0) a1)
def jm(a0:Int)(a1:Ty)(a2:Fm):Option Fm:=
 cM (gJ FU a1) λa=>
 cM (hZ FU a2) λb=>
 some (Fm.mk a0 a [] [b])
def eC:Nat->Ty->Ty->Option Bool
 |0,_,_=>none|n+1,a0,a1=>
 if en (dx a0.ail a1.ail) true (dx (dp a0.aim) (dp a1.aim))then
 some false
 else e_ (dE a0.aim)<|de (λ(c:Int) (d:Ty)=>(λ(_:Unit)=>
 cM (dg a1.aim c) λa=>
 cM (eC n d a) λb=>
 if b then
 some (dW.next ())
 else some (dW.ret false))) λf=>
 cM (dF f a0.aim 0 ()) (eB (λ(_:Unit)=>
 some true) (λr=>some r))
def BT(a0:List Ty)(a1:Ty):Option (List Int):=
 e_ (dE a0)<|de (λ(b:Int) (i:Ty)=>(λ(a:List Int)=>
 de (λ(c:List Int)=>
 some (dW.next c)) λj201=>
 cM (dg a0 (ea .i64 (ea .i64 (dp a0) 1) b)) λd=>
 cM (eC FU d a1) λf=>
 if f then
 e_ (eI a [b])<|j201 (fk a [b])
 else j201 a)) λh=>
 cM (dF h a0 0 []) (eB (λ(a:List Int)=>
 some a) (λr=>some r))
def eK(a0:Int):Option Tm:=
 some (Tm.mk 1 a0 (Ty.mk 0 []) [])
def kJ(a0:Int)(a1:Ty)(a2:List Tm):Option Tm:=
 cM (eP a0 a2) λa=>
 cM (gJ FU a1) λb=>
 some (Tm.mk a.ail a.aio b a.aim)
def j7(a0:Tm):Option Tm:=
 cM (gA) λa=>
 cM (kJ 2 a [a0]) λb=>
 some b
def sd(a0 a1 a2:Tm):Option Tm:=
 cM (gA) λa=>
 cM (kJ 6 a [a0,a1,a2]) λb=>
 some b
def r':Option Tm:=
 cM (eK 1) λa=>
 cM (eK 0) λb=>
 cM (eP 5 [b]) λc=>
 cM (j7 c) λd=>
 cM (j7 d) λf=>
 cM (eK 0) λh=>
 cM (sd a f h) λi=>
 cM (j7 i) λj=>
 cM (j7 j) λk=>
 some k
def A9(a0:Tm)(a1:List Tm):Option Tm:=
 e_ (dE a1)<|de (λ(i:Int) (f:Tm)=>(un5 λ(v44:Int) (b:Int) (v46:Int) (c:List Ty) (d:List Tm)=>
 cM (eP 3 [(Tm.mk v44 b (Ty.mk v46 c) d),f]) λa=>
 some (dW.next (a.ail,a.aio,a.cT.ail,a.cT.aim,a.aim)))) λh=>
 cM (dF h a1 0 (a0.ail,a0.aio,a0.cT.ail,a0.cT.aim,a0.aim)) (eB (un5 λ(v44:Int) (b:Int) (v46:Int) (c:List Ty) (d:List Tm)=>
 some (Tm.mk v44 b (Ty.mk v46 c) d)) (λr=>some r))
def uL:Option Tm:=
 cM (eP 4 []) λa=>
 cM (eK 1) λb=>
 cM (j7 b) λc=>
 cM (j7 c) λd=>
 cM (eK 0) λf=>
 cM (sd a d f) λh=>
 cM (j7 h) λi=>
 some i
def vZ:Option Tm:=
 cM (eK 1) λa=>
 cM (uL) λb=>
 cM (eK 0) λc=>
 cM (eP 3 [b,c]) λd=>
 cM (j7 d) λf=>
 cM (j7 f) λh=>
 cM (eK 0) λi=>
 cM (sd a h i) λj=>
 cM (j7 j) λk=>
 cM (j7 k) λl=>
 some l
def fj:Nat->dd->(List Ty)->Ty->Int->Option (Tm×dd)
 |0,_,_,_,_=>none|n+1,a0,a1,a2,a3=>
 cM (BT a1 a2) λx3=>
 de (λ(v37:Bool) (u:dd)=>
 if v37 then
 cW (et u (dp x3)) λbK d51=>
 cM (dg x3 bK) λbL=>
 cM (eK bL) λbM=>
 some (bM,d51)
 else de (λ(b:dd)=>
 if dj a2.ail 1 then
 de (λ(v:dd)=>
 cW (et v 3) λw x=>
 cM (tf w) λy=>
 some (y,x)) λi=>
 if ly a3 0 then
 cW (et b 5) λf d=>
 if dj f 0 then
 cW (fj n d a1 a2 (ea .i64 a3 1)) λA B=>
 cM (eP 5 [A]) λC=>
 some (C,B)
 else if dj f 1 then
 cM (r') λD=>
 cW (fj n d a1 a2 (ea .i64 a3 1)) λF G=>
 cW (fj n G a1 a2 (ea .i64 a3 1)) λH I=>
 cM (A9 D [F,H]) λJ=>
 some (J,I)
 else if dj f 2 then
 cM (vZ) λK=>
 cW (fj n d a1 a2 (ea .i64 a3 1)) λL M=>
 cW (fj n M a1 a2 (ea .i64 a3 1)) λN O=>
 cM (A9 K [L,N]) λP=>
 some (P,O)
 else i d
 else i b
 else if dj a2.ail 2 then
 de (λ(Q:Bool) (j:dd)=>
 if Q then
 cM (gA) λR=>
 cW (fj n j a1 R (ea .i64 a3 1)) λS T=>
 cW (fj n T a1 a2 (ea .i64 a3 1)) λU V=>
 cM (eP 8 [S,U]) λW=>
 some (W,V)
 else cM (eP 7 []) λX=>
 some (X,j)) λk=>
 if ly a3 0 then
 cW (et b 2) λY Z=>
 k (dj Y 0) Z
 else k false b
 else if dj a2.ail 3 then
 cM (dg a2.aim 0) λad=>
 cW (fj n b a1 ad (ea .i64 a3 1)) λae af=>
 cM (dg a2.aim 1) λah=>
 cW (fj n af a1 ah (ea .i64 a3 1)) λai ak=>
 cM (eP 10 [ae,ai]) λan=>
 some (an,ak)
 else if dj a2.ail 4 then
 cM (dg a2.aim 0) λl=>
 cM (lr a1 [l]) λao=>
 cM (dg a2.aim 1) λaq=>
 cW (fj n b ao aq (ea .i64 a3 1)) λar aw=>
 cM (kJ 2 l [ar]) λax=>
 some (ax,aw)
 else cM (eP 13 []) λay=>
 some (ay,b)) λo=>
 if ly a3 0 then
 cW (et u 8) λc a=>
 if dj c 0 then
 cW (iu FU a 0) λq aI=>
 cM (lr a1 [q]) λaJ=>
 cW (fj n aI aJ a2 (ea .i64 a3 1)) λaK aL=>
 cM (kJ 2 q [aK]) λaM=>
 cW (fj n aL a1 q (ea .i64 a3 1)) λaN aO=>
 cM (eP 3 [aM,aN]) λaP=>
 some (aP,aO)
 else if dj c 1 then
 cW (iu FU a 0) λaQ aR=>
 cW (fj n aR a1 a2 (ea .i64 a3 1)) λaS aT=>
 cW (fj n aT a1 aQ (ea .i64 a3 1)) λaU aV=>
 cM (eP 10 [aS,aU]) λaW=>
 cM (eP 11 [aW]) λaX=>
 some (aX,aV)
 else if dj c 2 then
 cM (gA) λaY=>
 cM (gA) λaZ=>
 cM (lr a1 [aZ,a2]) λa6=>
 cW (fj n a a6 a2 (ea .i64 a3 1)) λa7 a8=>
 cM (kJ 2 a2 [a7]) λa_=>
 cM (kJ 2 aY [a_]) λa'=>
 cW (fj n a8 a1 a2 (ea .i64 a3 1)) λba bb=>
 cW (et bb 3) λbc bd=>
 cM (tf bc) λbf=>
 cM (kJ 6 a2 [ba,a',bf]) λbg=>
 some (bg,bd)
 else if dj c 3 then
 cM (gA) λbh=>
 cM (lz) λbj=>
 cM (gA) λbk=>
 cM (lz) λbl=>
 cM (lr a1 [bk,bl,a2]) λbm=>
 cW (fj n a bm a2 (ea .i64 a3 1)) λbn bo=>
 cM (kJ 2 a2 [bn]) λbp=>
 cM (kJ 2 bj [bp]) λbq=>
 cM (kJ 2 bh [bq]) λbr=>
 cW (fj n bo a1 a2 (ea .i64 a3 1)) λbs bt=>
 cM (lz) λbu=>
 cW (fj n bt a1 bu (ea .i64 a3 1)) λbw bz=>
 cM (kJ 9 a2 [bs,br,bw]) λbA=>
 some (bA,bz)
 else if dj c 4 then
 cW (iu FU a 0) λbB bC=>
 cW (fj n bC a1 bB (ea .i64 a3 1)) λbD bE=>
 cW (fj n bE a1 a2 (ea .i64 a3 1)) λbF bG=>
 cM (eP 10 [bD,bF]) λbH=>
 cM (eP 12 [bH]) λbI=>
 some (bI,bG)
 else if dj c 5 then
 e_ (dE a1)<|de (λ(t:Int) (bO:Ty)=>(λ(_:Unit)=>
 cM (dg a1 (ea .i64 (ea .i64 (dp a1) 1) t)) λh=>
 de (λ(az:Bool)=>
 if az then
 cM (eK t) λaA=>
 cM (dg h.aim 0) λaB=>
 cW (fj n a a1 aB (ea .i64 a3 1)) λaC aD=>
 cM (eP 3 [aA,aC]) λaE=>
 some (dW.ret (aE,aD))
 else some (dW.next ())) λs=>
 if dj h.ail 4 then
 cM (dg h.aim 1) λaF=>
 cM (eC FU aF a2) λaG=>
 s aG
 else s false)) λaH=>
 cM (dF aH a1 0 ()) (eB (λ(_:Unit)=>
 o a) (λr=>some r))
 else o a
 else o u) λbJ=>
 if ly (dp x3) 0 then
 cW (et a0 3) λbN d41=>
 bJ (ly bN 0) d41
 else bJ false a0
def hR:Nat->dd->(List Ty)->Int->Option (Fm×dd)
 |0,_,_,_=>none|n+1,a0,a1,a2=>
 de (λ(v162:dd)=>
 cM (gA) λb=>
 cW (fj FU v162 a1 b 1) λi d351=>
 cW (fj FU d351 a1 b 1) λj d354=>
 cM (kV i j) λk=>
 some (k,d354)) λc=>
 if ly a2 0 then
 cW (et a0 9) λa d168=>
 if dj a 0 then
 cW (hR n d168 a1 (ea .i64 a2 1)) λl d179=>
 cW (hR n d179 a1 (ea .i64 a2 1)) λo d182=>
 cM (kb 2 l o) λq=>
 some (q,d182)
 else if en (dj a 1) true (dj a 2)then
 cW (hR n d168 a1 (ea .i64 a2 1)) λr d198=>
 cW (hR n d198 a1 (ea .i64 a2 1)) λs d201=>
 cM (kb 3 r s) λt=>
 some (t,d201)
 else if en (dj a 3) true (dj a 4)then
 cW (iu FU d168 1) λd d212=>
 cM (lr a1 [d]) λu=>
 cW (hR n d212 u (ea .i64 a2 1)) λv d238=>
 cM (jm 4 d v) λw=>
 some (w,d238)
 else if dj a 5 then
 cW (iu FU d168 1) λf d246=>
 cM (lr a1 [f]) λx=>
 cW (hR n d246 x (ea .i64 a2 1)) λy d272=>
 cM (jm 5 f y) λA=>
 some (A,d272)
 else if dj a 6 then
 cW (iu FU d168 0) λh d280=>
 cW (et d280 2) λB d313=>
 cM (lr a1 [h]) λC=>
 cW (hR n d313 C (ea .i64 a2 1)) λD d318=>
 cM (jm (dJ .i64 6 B) h D) λF=>
 some (F,d318)
 else c d168
 else c a0
def xn(a0:Sq)(a1:Fm):Option Sq:=
 e_ (eI [] a0.ais)<|e_ (eI (fk [] a0.ais) [a1])<|some (Sq.mk a0.aip (fk (fk [] a0.ais) [a1]))
def tM(a0:Fm)(a1:Pf):Option Pf:=
 cM (jV 6 [a1]) λa=>
 cM (hZ FU a0) λb=>
 some (Pf.mk a.ail a.aio a.cT a.dc [b] a.aim)
def oM:Nat->Ty->Option Bool
 |0,_=>none|n+1,a0=>
 de (λ(v10:Int)=>
 if dx (dp a0.aim) v10 then
 some false
 else e_ (dE a0.aim)<|de (λ(f:Int) (b:Ty)=>(λ(_:Unit)=>
 cM (oM n b) λc=>
 if c then
 some (dW.next ())
 else some (dW.ret false))) λd=>
 cM (dF d a0.aim 0 ()) (eB (λ(_:Unit)=>
 some true) (λr=>some r))) λa=>
 if en (dj a0.ail 1) true (en (dj a0.ail 2) true (dj a0.ail 5))then
 a 0
 else if en (dj a0.ail 3) true (dj a0.ail 4)then
 a 2
 else some false
def qh:Nat->Ty->Option Int
 |0,_=>none|n+1,a0=>
 e_ (dE a0.aim)<|de (λ(d:Int) (a:Ty)=>(λ(v32:Int)=>
 cM (qh n a) λb=>
 some (dW.next (dJ .i64 v32 b)))) λc=>
 cM (dF c a0.aim 0 1) (eB (λ(v32:Int)=>
 some v32) (λr=>some r))
def hU(a0:Ty):Option Int:=
 cM (oM FU a0) λb=>
 if b then
 cM (qh FU a0) λa=>
 if ly a 64 then
 some 4
 else some 0
 else some 2
def k8(a0:List Ty):Option Int:=
 if ly (dp a0) 16 then
 some 3
 else e_ (dE a0)<|de (λ(d:Int) (b:Ty)=>(λ(_:Unit)=>
 cM (hU b) λa=>
 if dx a 0 then
 some (dW.ret a)
 else some (dW.next ()))) λc=>
 cM (dF c a0 0 ()) (eB (λ(_:Unit)=>
 some 0) (λr=>some r))
def oU(a0:Ty):Option Bool:=
 some (en (dj a0.ail 0) (dj (dp a0.aim) 0) false)
def tX(a0:Int):Option Int:=
 if en (dj a0 1) true (en (dj a0 4) true (en (dj a0 7) true (dj a0 13)))then
 some 0
 else if en (dj a0 2) true (en (dj a0 5) true (en (dj a0 11) true (dj a0 12)))then
 some 1
 else if en (dj a0 3) true (en (dj a0 8) true (dj a0 10))then
 some 2
 else if en (dj a0 6) true (dj a0 9)then
 some 3
 else some (-1)
def jQ:Nat->Tm->Option Bool
 |0,_=>none|n+1,a0=>
 de (λ(v21:Bool)=>
 if v21 then
 some false
 else de (e_ (dE a0.aim)<|de (λ(k:Int) (c:Tm)=>(λ(_:Unit)=>
 cM (jQ n c) λd=>
 if d then
 some (dW.next ())
 else some (dW.ret false))) λf=>
 cM (dF f a0.aim 0 ()) (eB (λ(_:Unit)=>
 some true) (λr=>some r))) λb=>
 if en (dj a0.ail 2) true (en (dj a0.ail 6) true (dj a0.ail 9))then
 cM (hU a0.cT) λh=>
 if dx h 0 then
 some false
 else b
 else cM (oU a0.cT) λi=>
 if i then
 b
 else some false) λa=>
 cM (tX a0.ail) λj=>
 if dx (dp a0.aim) j then
 a true
 else if qT a0.aio 0 then
 a true
 else if dx a0.ail 1 then
 a (dx a0.aio 0)
 else a false
def j4(a0:Int):Option Bool:=
 some (en (dj a0 4) true (en (dj a0 5) true (en (dj a0 6) true (dj a0 7))))
def k_:Nat->Fm->Option Bool
 |0,_=>none|n+1,a0=>
 if dj a0.ail 1 then
 de (λ(s:Bool)=>
 some s) λc=>
 if dj (dp a0.aim) 0 then
 cM (oU a0.cT) λt=>
 if t then
 if dj (dp a0.dc) 2 then
 cM (dg a0.dc 0) λu=>
 cM (jQ FU u) λv=>
 if v then
 cM (dg a0.dc 1) λw=>
 cM (jQ FU w) λx=>
 c x
 else c false
 else c false
 else c false
 else c false
 else if en (dj a0.ail 2) true (dj a0.ail 3)then
 de (λ(d:Bool)=>
 some d) λa=>
 if dj (dp a0.dc) 0 then
 cM (oU a0.cT) λf=>
 if f then
 if dj (dp a0.aim) 2 then
 cM (dg a0.aim 0) λh=>
 cM (k_ n h) λi=>
 if i then
 cM (dg a0.aim 1) λj=>
 cM (k_ n j) λk=>
 a k
 else a false
 else a false
 else a false
 else a false
 else cM (j4 a0.ail) λl=>
 if l then
 de (λ(v141:Bool)=>
 some v141) λb=>
 if dj (dp a0.dc) 0 then
 cM (hU a0.cT) λo=>
 if dj o 0 then
 if dj (dp a0.aim) 1 then
 cM (dg a0.aim 0) λq=>
 cM (k_ n q) λr=>
 b r
 else b false
 else b false
 else b false
 else some false
def eQ:Nat->Tm->Option Int
 |0,_=>none|n+1,a0=>
 e_ (dE a0.aim)<|de (λ(d:Int) (a:Tm)=>(λ(v32:Int)=>
 cM (eQ n a) λb=>
 some (dW.next (dJ .i64 v32 b)))) λc=>
 cM (dF c a0.aim 0 1) (eB (λ(v32:Int)=>
 some v32) (λr=>some r))
def k7:Nat->Fm->Option Int
 |0,_=>none|n+1,a0=>
 e_ (dE a0.dc)<|de (λ(i:Int) (a:Tm)=>(λ(v32:Int)=>
 cM (eQ FU a) λb=>
 some (dW.next (dJ .i64 v32 b)))) λc=>
 cM (dF c a0.dc 0 1) (eB (λ(v32:Int)=>
 e_ (dE a0.aim)<|de (λ(j:Int) (d:Fm)=>(λ(v75:Int)=>
 cM (k7 n d) λf=>
 some (dW.next (dJ .i64 v75 f)))) λh=>
 cM (dF h a0.aim 0 v32) (eB (λ(v75:Int)=>
 some v75) (λr=>some r))) (λr=>some r))
def iH(a0:Fm):Option Int:=
 cM (k_ FU a0) λb=>
 if b then
 cM (k7 FU a0) λa=>
 if ly a 4096 then
 some 4
 else some 0
 else some 2
def kF(a0:Tm):Option Int:=
 cM (jQ FU a0) λb=>
 if b then
 cM (eQ FU a0) λa=>
 if ly a 4096 then
 some 4
 else some 0
 else some 2
def sK(a0:Ty):Option (Ty×Int):=
 cM (hU a0) λa=>
 if dx a 0 then
 some ((Ty.mk 0 []),4)
 else some (a0,0)
def ez:Nat->(List Ty)->Tm->Option (Ty×Int)
 |0,_,_=>none|n+1,a0,a1=>
 if dj a1.ail 1 then
 if og a1.aio (dp a0)then
 some ((Ty.mk 0 []),6)
 else cM (dg a0 (ea .i64 (ea .i64 (dp a0) 1) a1.aio)) λay=>
 cM (gJ FU ay) λaz=>
 some (az,0)
 else if dj a1.ail 2 then
 e_ (eI a0 [a1.cT])<|cM (dg a1.aim 0) λaA=>
 cW (ez n (fk a0 [a1.cT]) aA) λaB R=>
 if dx R 0 then
 some ((Ty.mk 0 []),R)
 else cM (j1 a1.cT aB) λaC=>
 cW (sK aC) λaD aE=>
 some (aD,aE)
 else e_ (dE a1.aim)<|de (λ(aF:Int) (S:Tm)=>(λ(a:List Ty)=>
 cW (ez n a0 S) λj k=>
 if dx k 0 then
 some (dW.ret ((Ty.mk 0 []),k))
 else e_ (eI a [j])<|some (dW.next (fk a [j])))) λT=>
 cM (dF T a1.aim 0 []) (eB (λ(a:List Ty)=>
 cM (gA) λb=>
 cM (lz) λc=>
 if dj a1.ail 3 then
 de (λ(U:Bool)=>
 if U then
 some ((Ty.mk 0 []),7)
 else cM (dg a 0) λV=>
 cM (dg V.aim 1) λW=>
 some (W,0)) λl=>
 cM (dg a 0) λo=>
 if dx o.ail 4 then
 l true
 else cM (dg o.aim 0) λX=>
 cM (dg a 1) λY=>
 cM (eC FU X Y) λZ=>
 l (pL Z)
 else if dj a1.ail 4 then
 some (b,0)
 else if dj a1.ail 5 then
 cM (dg a 0) λad=>
 cM (eC FU ad b) λae=>
 if ae then
 some (b,0)
 else some ((Ty.mk 0 []),7)
 else if dj a1.ail 6 then
 de (λ(af:Bool)=>
 if af then
 some ((Ty.mk 0 []),7)
 else cM (gJ FU a1.cT) λah=>
 some (ah,0)) λh=>
 cM (dg a 0) λai=>
 cM (eC FU ai a1.cT) λak=>
 if ak then
 cM (dg a 1) λan=>
 cM (j1 a1.cT a1.cT) λao=>
 cM (j1 b ao) λaq=>
 cM (eC FU an aq) λar=>
 if ar then
 cM (dg a 2) λaw=>
 cM (eC FU aw b) λax=>
 h (pL ax)
 else h true
 else h true
 else if dj a1.ail 7 then
 some (c,0)
 else if dj a1.ail 8 then
 de (λ(q:Bool)=>
 if q then
 some ((Ty.mk 0 []),7)
 else some (c,0)) λi=>
 cM (dg a 0) λs=>
 cM (eC FU s b) λt=>
 if t then
 cM (dg a 1) λu=>
 cM (eC FU u c) λv=>
 i (pL v)
 else i true
 else if dj a1.ail 9 then
 de (λ(w:Bool)=>
 if w then
 some ((Ty.mk 0 []),7)
 else cM (gJ FU a1.cT) λx=>
 some (x,0)) λd=>
 cM (dg a 0) λy=>
 cM (eC FU y a1.cT) λA=>
 if A then
 cM (dg a 1) λB=>
 cM (j1 a1.cT a1.cT) λC=>
 cM (j1 c C) λD=>
 cM (j1 b D) λF=>
 cM (eC FU B F) λG=>
 if G then
 cM (dg a 2) λH=>
 cM (eC FU H c) λI=>
 d (pL I)
 else d true
 else d true
 else if dj a1.ail 10 then
 cM (dg a 0) λJ=>
 cM (dg a 1) λK=>
 cM (tQ J K) λL=>
 cW (sK L) λM N=>
 some (M,N)
 else if en (dj a1.ail 11) true (dj a1.ail 12)then
 cM (dg a 0) λf=>
 if dx f.ail 3 then
 some ((Ty.mk 0 []),7)
 else if dj a1.ail 11 then
 cM (dg f.aim 0) λO=>
 some (O,0)
 else cM (dg f.aim 1) λP=>
 some (P,0)
 else cM (uS) λQ=>
 some (Q,0)) (λr=>some r))
def oS(a0:List Ty)(a1:Tm):Option (Ty×Int):=
 cM (kF a1) λc=>
 if dx c 0 then
 some ((Ty.mk 0 []),c)
 else cW (ez FU a0 a1) λa b=>
 some (a,b)
def lY:Nat->(List Ty)->Fm->Option Int
 |0,_,_=>none|n+1,a0,a1=>
 e_ (dE a1.dc)<|de (λ(k:Int) (c:Tm)=>(λ(_:Unit)=>
 cW (oS a0 c) λd b=>
 if dx b 0 then
 some (dW.ret b)
 else if dx d.ail 1 then
 some (dW.ret 7)
 else some (dW.next ()))) λf=>
 cM (dF f a1.dc 0 ()) (eB (λ(_:Unit)=>
 de (λ(v63:List Ty)=>
 e_ (dE a1.aim)<|de (λ(l:Int) (h:Fm)=>(λ(_:Unit)=>
 cM (lY n v63 h) λa=>
 if dx a 0 then
 some (dW.ret a)
 else some (dW.next ()))) λi=>
 cM (dF i a1.aim 0 ()) (eB (λ(_:Unit)=>
 some 0) (λr=>some r))) λj64=>
 cM (j4 a1.ail) λj=>
 if j then
 e_ (eI a0 [a1.cT])<|j64 (fk a0 [a1.cT])
 else j64 a0) (λr=>some r))
def jT(a0:List Ty)(a1:Fm):Option Int:=
 cM (iH a1) λb=>
 if dx b 0 then
 some b
 else cM (lY FU a0 a1) λa=>
 some a
def ji(a0:List Ty)(a1:Fm):Option Int:=
 cM (k8 a0) λb=>
 if dx b 0 then
 some b
 else cM (jT a0 a1) λa=>
 some a
def sq(a0:List Fm)(a1:Sq):Option Int:=
 if ly (dp a0) 32 then
 some 3
 else e_ (dE a0)<|de (λ(j:Int) (d:Fm)=>(λ(_:Unit)=>
 cM (ji [] d) λa=>
 if dx a 0 then
 some (dW.ret a)
 else some (dW.next ()))) λf=>
 cM (dF f a0 0 ()) (eB (λ(_:Unit)=>
 cM (k8 a1.aip) λb=>
 if dx b 0 then
 some b
 else if ly (dp a1.ais) 16 then
 some 3
 else e_ (dE a1.ais)<|de (λ(k:Int) (h:Fm)=>(λ(_:Unit)=>
 cM (ji a1.aip h) λc=>
 if dx c 0 then
 some (dW.ret c)
 else some (dW.next ()))) λi=>
 cM (dF i a1.ais 0 ()) (eB (λ(_:Unit)=>
 some 0) (λr=>some r))) (λr=>some r))
def pj(a0:Int):Option (dZ×Bool):=
 if en (dj a0 1) true (dj a0 2)then
 some ((dZ.mk 0 0 0 true false),true)
 else if en (dj a0 3) true (dj a0 7)then
 some ((dZ.mk 0 0 2 false false),true)
 else if en (dj a0 4) true (en (dj a0 5) true (dj a0 20))then
 some ((dZ.mk 0 0 1 false false),true)
 else if dj a0 6 then
 some ((dZ.mk 0 1 1 false false),true)
 else if en (dj a0 8) true (dj a0 12)then
 some ((dZ.mk 0 0 1 false true),true)
 else if en (dj a0 9) true (dj a0 13)then
 some ((dZ.mk 1 0 1 false false),true)
 else if en (dj a0 10) true (dj a0 14)then
 some ((dZ.mk 1 1 1 false false),true)
 else if en (dj a0 11) true (dj a0 15)then
 some ((dZ.mk 0 0 2 false false),true)
 else if en (dj a0 16) true (dj a0 17)then
 some ((dZ.mk 1 1 2 false false),true)
 else if dj a0 18 then
 some ((dZ.mk 1 0 0 false false),true)
 else if dj a0 19 then
 some ((dZ.mk 0 1 2 false false),true)
 else some ((dZ.mk 0 0 0 false false),false)
def ng:Nat->Pf->Option Bool
 |0,_=>none|n+1,a0=>
 cW (pj a0.ail) λb u=>
 if en u (en (dx (dp a0.dc) b.dc) true (en (dx (dp a0.eh) b.eh) true (en (dx (dp a0.aim) b.aim) true (en (qT a0.aio 0) true (en b.aio false (dx a0.aio 0)))))) true then
 some false
 else de (λ(v33:Bool)=>
 if v33 then
 some false
 else e_ (dE a0.dc)<|de (λ(v:Int) (j:Tm)=>(λ(_:Unit)=>
 cM (jQ FU j) λk=>
 if k then
 some (dW.next ())
 else some (dW.ret false))) λl=>
 cM (dF l a0.dc 0 ()) (eB (λ(_:Unit)=>
 e_ (dE a0.eh)<|de (λ(w:Int) (o:Fm)=>(λ(_:Unit)=>
 cM (k_ FU o) λc=>
 if c then
 some (dW.next ())
 else some (dW.ret false))) λd=>
 cM (dF d a0.eh 0 ()) (eB (λ(_:Unit)=>
 e_ (dE a0.aim)<|de (λ(t:Int) (f:Pf)=>(λ(_:Unit)=>
 cM (ng n f) λh=>
 if h then
 some (dW.next ())
 else some (dW.ret false))) λi=>
 cM (dF i a0.aim 0 ()) (eB (λ(_:Unit)=>
 some true) (λr=>some r))) (λr=>some r))) (λr=>some r))) λa=>
 if b.oB then
 cM (hU a0.cT) λq=>
 if dx q 0 then
 a true
 else a false
 else cM (oU a0.cT) λs=>
 a (pL s)
def qR:Nat->Pf->Option Bool
 |0,_=>none|n+1,a0=>
 e_ (dE a0.dc)<|de (λ(l:Int) (c:Tm)=>(λ(_:Unit)=>
 cM (eQ FU c) λd=>
 if ly d 4096 then
 some (dW.ret false)
 else some (dW.next ()))) λf=>
 cM (dF f a0.dc 0 ()) (eB (λ(_:Unit)=>
 e_ (dE a0.eh)<|de (λ(o:Int) (h:Fm)=>(λ(_:Unit)=>
 cM (k7 FU h) λi=>
 if ly i 4096 then
 some (dW.ret false)
 else some (dW.next ()))) λj=>
 cM (dF j a0.eh 0 ()) (eB (λ(_:Unit)=>
 e_ (dE a0.aim)<|de (λ(q:Int) (k:Pf)=>(λ(_:Unit)=>
 cM (qR n k) λa=>
 if a then
 some (dW.next ())
 else some (dW.ret false))) λb=>
 cM (dF b a0.aim 0 ()) (eB (λ(_:Unit)=>
 some true) (λr=>some r))) (λr=>some r))) (λr=>some r))
def qw:Nat->Pf->Option Int
 |0,_=>none|n+1,a0=>
 e_ (dE a0.dc)<|de (λ(q:Int) (f:Tm)=>(λ(v32:Int)=>
 cM (eQ FU f) λh=>
 some (dW.next (dJ .i64 v32 h)))) λi=>
 cM (dF i a0.dc 0 1) (eB (λ(v32:Int)=>
 e_ (dE a0.eh)<|de (λ(s:Int) (j:Fm)=>(λ(v75:Int)=>
 cM (k7 FU j) λk=>
 some (dW.next (dJ .i64 v75 k)))) λl=>
 cM (dF l a0.eh 0 v32) (eB (λ(v75:Int)=>
 e_ (dE a0.aim)<|de (λ(o:Int) (b:Pf)=>(λ(a:Int)=>
 cM (qw n b) λc=>
 some (dW.next (dJ .i64 a c)))) λd=>
 cM (dF d a0.aim 0 v75) (eB (λ(a:Int)=>
 some a) (λr=>some r))) (λr=>some r))) (λr=>some r))
def sh(a0:Pf):Option Bool:=
 de (λ(d:Bool)=>
 some d) λc=>
 cM (qR FU a0) λa=>
 if a then
 cM (qw FU a0) λb=>
 c (Hl b 16384)
 else c false
def np(a0:Pf):Option Int:=
 cM (ng FU a0) λb=>
 if b then
 cM (sh a0) λa=>
 if a then
 some 0
 else some 4
 else some 2
def pA(a0:List (Int×Bool)):Option (List Int×List (Int×Bool)):=
 e_ (dE a0)<|e_ (vS (a0.map (·.1)))<|some (xP [] (a0.map (·.1)),a0)
def fo(a0 a1:List Int):Option (List Int):=
 e_ (dE a0)<|de (λ(k:Int) (c:Int)=>(λ(a:(List (Int×Bool)))=>
 some (dW.next (nN a c true)))) λd=>
 cM (dF d a0 0 []) (eB (λ(a:(List (Int×Bool)))=>
 e_ (dE a1)<|de (λ(j:Int) (f:Int)=>(λ(b:(List (Int×Bool)))=>
 some (dW.next (nN b f true)))) λh=>
 cM (dF h a1 0 a) (eB (λ(b:(List (Int×Bool)))=>
 cW (pA b) λi d51=>
 some i) (λr=>some r))) (λr=>some r))
def du(a0:cX)(a1 a2:Int):Option Int:=
 if en (ly (dJ .i64 (dp a0.aip) a1) 16) true (ly (dJ .i64 (dp a0.ais) a2) 16)then
 some 3
 else some 0
def fh(a0:cX)(a1:Fm):Option cX:=
 e_ (eI a0.ais [a1])<|some (cX.mk a0.lemmas a0.aip (fk a0.ais [a1]))
def kR:Nat->Tm->Tm->Option Bool
 |0,_,_=>none|n+1,a0,a1=>
 de (λ(d:Bool)=>
 if d then
 some false
 else e_ (dE a0.aim)<|de (λ(f:Int) (h:Tm)=>(λ(_:Unit)=>
 cM (dg a1.aim f) λb=>
 cM (kR n h b) λc=>
 if c then
 some (dW.next ())
 else some (dW.ret false))) λi=>
 cM (dF i a0.aim 0 ()) (eB (λ(_:Unit)=>
 some true) (λr=>some r))) λa=>
 if dx a0.ail a1.ail then
 a true
 else if dx a0.aio a1.aio then
 a true
 else cM (eC FU a0.cT a1.cT) λj=>
 if j then
 a (dx (dp a0.aim) (dp a1.aim))
 else a true
def kE:Nat->Tm->Int->Option Bool
 |0,_,_=>none|n+1,a0,a1=>
 if ly a0.aio a1 then
 some false
 else e_ (dE a0.aim)<|de (λ(d:Int) (a:Tm)=>(λ(_:Unit)=>
 cM (kE n a a1) λb=>
 if b then
 some (dW.next ())
 else some (dW.ret false))) λc=>
 cM (dF c a0.aim 0 ()) (eB (λ(_:Unit)=>
 some true) (λr=>some r))
def ux(a0:Tm):Option Bool:=
 if dj a0.ail 3 then
 cM (dg a0.aim 0) λf=>
 some (dj f.ail 2)
 else if dj a0.ail 6 then
 de (λ(h:Bool)=>
 some h) λa=>
 cM (dg a0.aim 2) λb=>
 if dj b.ail 4 then
 a true
 else a (dj b.ail 5)
 else if dj a0.ail 9 then
 de (λ(i:Bool)=>
 some i) λc=>
 cM (dg a0.aim 2) λd=>
 if dj d.ail 7 then
 c true
 else c (dj d.ail 8)
 else if en (dj a0.ail 11) true (dj a0.ail 12)then
 cM (dg a0.aim 0) λj=>
 some (dj j.ail 10)
 else some false
def kv(a0:Tm):Option Int:=
 if dj a0.ail 2 then
 some 1
 else some 0
def mo:Nat->Tm->Int->Option Int
 |0,_,_=>none|n+1,a0,a1=>
 e_ (dE a0.aim)<|de (λ(h:Int) (d:Tm)=>(λ(a:Int)=>
 cM (kv a0) λb=>
 cM (mo n d (dJ .i64 a1 b)) λc=>
 some (dW.next (dJ .i64 a c)))) λf=>
 cM (dF f a0.aim 0 (en (en (dj a0.ail 1) (dj a0.aio a1) false) (dJ .i64 0 1) 0)) (eB (λ(a:Int)=>
 some a) (λr=>some r))
def qY(a0:Tm):Option Int:=
 cM (eQ FU a0) λb=>
 if dj a0.ail 3 then
 cM (dg a0.aim 0) λh=>
 cM (dg h.aim 0) λc=>
 cM (dg a0.aim 1) λi=>
 cM (eQ FU c) λj=>
 cM (mo FU c 0) λk=>
 cM (eQ FU i) λl=>
 some (ea .i64 (dJ .i64 j (J4 .i64 k (ea .i64 l 1))) b)
 else if dj a0.ail 6 then
 cM (dg a0.aim 2) λd=>
 if dj d.ail 4 then
 cM (dg a0.aim 0) λn=>
 cM (eQ FU n) λo=>
 some (ea .i64 o b)
 else cM (dg a0.aim 1) λq=>
 cM (eQ FU q) λr=>
 cM (dg d.aim 0) λs=>
 cM (eQ FU s) λt=>
 some (ea .i64 (ea .i64 (dJ .i64 (dJ .i64 (dJ .i64 2 r) t) b) 1) b)
 else if dj a0.ail 9 then
 cM (dg a0.aim 2) λa=>
 if dj a.ail 7 then
 cM (dg a0.aim 0) λu=>
 cM (eQ FU u) λv=>
 some (ea .i64 v b)
 else cM (dg a.aim 0) λf=>
 cM (dg a.aim 1) λw=>
 cM (dg a0.aim 1) λx=>
 cM (eQ FU x) λy=>
 cM (eQ FU f) λA=>
 cM (eQ FU w) λB=>
 cM (eQ FU f) λC=>
 some (ea .i64 (ea .i64 (ea .i64 (dJ .i64 (dJ .i64 (dJ .i64 (dJ .i64 3 y) A) B) b) 1) C) b)
 else if dj a0.ail 11 then
 cM (dg a0.aim 0) λD=>
 cM (dg D.aim 0) λF=>
 cM (eQ FU F) λG=>
 some (ea .i64 G b)
 else cM (dg a0.aim 0) λH=>
 cM (dg H.aim 1) λI=>
 cM (eQ FU I) λJ=>
 some (ea .i64 J b)
def pZ:Nat->Tm->Int->Int->Option Tm
 |0,_,_,_=>none|n+1,a0,a1,a2=>
 e_ (dE a0.aim)<|de (λ(f:Int) (d:Tm)=>(λ(v105:List Tm)=>
 cM (kv a0) λb=>
 cM (pZ n d (dJ .i64 a1 b) a2) λa=>
 e_ (eI v105 [a])<|some (dW.next (fk v105 [a])))) λc=>
 cM (dF c a0.aim 0 []) (eB (λ(v105:List Tm)=>
 some (Tm.mk a0.ail (en (en (dj a0.ail 1) (og a0.aio a1) false) (dJ .i64 a0.aio a2) a0.aio) a0.cT v105)) (λr=>some r))
def uz:Nat->Tm->Int->Int->Tm->Option Tm
 |0,_,_,_,_=>none|n+1,a0,a1,a2,a3=>
 if dj a0.ail 1 then
 if dj a0.aio (dJ .i64 a1 a2)then
 cM (pZ FU a3 0 (dJ .i64 a1 a2)) λf=>
 some f
 else if ly a0.aio (dJ .i64 a1 a2)then
 cM (eK (ea .i64 a0.aio 1)) λh=>
 some h
 else some a0
 else e_ (dE a0.aim)<|de (λ(j:Int) (i:Tm)=>(λ(a:List Tm)=>
 cM (kv a0) λc=>
 cM (uz n i a1 (dJ .i64 a2 c) a3) λb=>
 e_ (eI a [b])<|some (dW.next (fk a [b])))) λd=>
 cM (dF d a0.aim 0 []) (eB (λ(a:List Tm)=>
 some (Tm.mk a0.ail a0.aio a0.cT a)) (λr=>some r))
def p4(a0:Tm):Option Tm:=
 if dj a0.ail 3 then
 cM (dg a0.aim 0) λi=>
 cM (dg i.aim 0) λj=>
 cM (dg a0.aim 1) λk=>
 cM (uz FU j 0 0 k) λl=>
 some l
 else if dj a0.ail 6 then
 cM (dg a0.aim 2) λb=>
 if dj b.ail 4 then
 cM (dg a0.aim 0) λn=>
 some n
 else cM (dg b.aim 0) λc=>
 cM (dg a0.aim 1) λd=>
 cM (eP 3 [d,c]) λo=>
 cM (dg a0.aim 0) λq=>
 cM (kJ 6 a0.cT [q,d,c]) λr=>
 cM (eP 3 [o,r]) λs=>
 some s
 else if dj a0.ail 9 then
 cM (dg a0.aim 2) λa=>
 if dj a.ail 7 then
 cM (dg a0.aim 0) λt=>
 some t
 else cM (dg a.aim 0) λu=>
 cM (dg a.aim 1) λf=>
 cM (dg a0.aim 1) λh=>
 cM (eP 3 [h,u]) λv=>
 cM (eP 3 [v,f]) λw=>
 cM (dg a0.aim 0) λx=>
 cM (kJ 9 a0.cT [x,h,f]) λy=>
 cM (eP 3 [w,y]) λA=>
 some A
 else if dj a0.ail 11 then
 cM (dg a0.aim 0) λB=>
 cM (dg B.aim 0) λC=>
 some C
 else cM (dg a0.aim 0) λD=>
 cM (dg D.aim 1) λF=>
 some F
def oY:Nat->Tm->Int->Option (Tm×Bool×Bool)
 |0,_,_=>none|n+1,a0,a1=>
 cM (ux a0) λk=>
 if k then
 cM (qY a0) λb=>
 if ly b a1 then
 some ((Tm.mk 0 0 (Ty.mk 0 []) []),true,false)
 else cM (p4 a0) λc=>
 some (c,true,true)
 else e_ (dE a0.aim)<|de (λ(a:Int) (d:Tm)=>(λ(_:Unit)=>
 gX (oY n d a1) λf h i=>
 if h then
 e_ (xN a0.aim)<|cM (dg a0.aim a) λl=>
 some (dW.ret ((Tm.mk a0.ail a0.aio a0.cT (wy a0.aim a f)),true,i))
 else some (dW.next ()))) λj=>
 cM (dF j a0.aim 0 ()) (eB (λ(_:Unit)=>
 some (a0,false,true)) (λr=>some r))
def k1(a0:Tm)(a1:Int):Option (Tm×Int×Int):=
 cM (kF a0) λo=>
 if dx o 0 then
 some ((Tm.mk 0 0 (Ty.mk 0 []) []),0,o)
 else de (λ(v23:Bool)=>
 if v23 then
 some ((Tm.mk 0 0 (Ty.mk 0 []) []),0,1)
 else de ((Tf λ(v164:Int) (b:Int) (c:Int) (v167:Int) (v168:List Ty) (d:List Tm)=>
 cM (eQ FU (Tm.mk b c (Ty.mk v167 v168) d)) λh=>
 gX (oY FU (Tm.mk b c (Ty.mk v167 v168) d) (ea .i64 4096 h)) λa i j=>
 if i then
 if dj v164 a1 then
 some (dW.ret ((Tm.mk 0 0 (Ty.mk 0 []) []),0,5))
 else if j then
 some (dW.next ((dJ .i64 v164 1),a.ail,a.aio,a.cT.ail,a.cT.aim,a.aim))
 else some (dW.ret ((Tm.mk 0 0 (Ty.mk 0 []) []),0,4))
 else cM (iA FU (Tm.mk b c (Ty.mk v167 v168) d)) λk=>
 some (dW.ret (k,v164,0)))) λl=>
 cM (nk l FU (0,a0.ail,a0.aio,a0.cT.ail,a0.cT.aim,a0.aim)) (eB (Tf λ(v164:Int) (b:Int) (c:Int) (v167:Int) (v168:List Ty) (d:List Tm)=>
 none) (λr=>some r))) λf=>
 if qT a1 0 then
 f true
 else if ly a1 65536 then
 f true
 else cM (kE FU a0 536870912) λn=>
 f (pL n)
def qI(a0 a1:Tm)(a2:Int):Option Int:=
 cM (kF a0) λj=>
 if dx j 0 then
 some j
 else cM (kF a1) λa=>
 if dx a 0 then
 some a
 else cM (kR FU a0 a1) λd=>
 if d then
 some 0
 else gX (k1 a0 a2) λf k b=>
 if dx b 0 then
 some b
 else gX (k1 a1 a2) λh l c=>
 if dx c 0 then
 some c
 else cM (kR FU f h) λi=>
 if i then
 some 0
 else some 11
def oF:Nat->Fm->Fm->Option Int
 |0,_,_=>none|n+1,a0,a1=>
 de (λ(k:Bool)=>
 if k then
 some 11
 else e_ (dE a0.dc)<|de (λ(l:Int) (o:Tm)=>(λ(_:Unit)=>
 cM (dg a1.dc l) λc=>
 cM (qI o c 1000) λa=>
 if dx a 0 then
 some (dW.ret a)
 else some (dW.next ()))) λq=>
 cM (dF q a0.dc 0 ()) (eB (λ(_:Unit)=>
 e_ (dE a0.aim)<|de (λ(d:Int) (f:Fm)=>(λ(_:Unit)=>
 cM (dg a1.aim d) λh=>
 cM (oF n f h) λb=>
 if dx b 0 then
 some (dW.ret b)
 else some (dW.next ()))) λi=>
 cM (dF i a0.aim 0 ()) (eB (λ(_:Unit)=>
 some 0) (λr=>some r))) (λr=>some r))) λj=>
 if dx a0.ail a1.ail then
 j true
 else cM (eC FU a0.cT a1.cT) λs=>
 j (pL s)
def nr(a0 a1:Fm):Option Int:=
 cM (iH a0) λc=>
 if dx c 0 then
 some c
 else cM (iH a1) λa=>
 if dx a 0 then
 some a
 else cM (oF FU a0 a1) λb=>
 some b
def me(a0:Fm):Option Int:=
 cM (j4 a0.ail) λa=>
 if a then
 some 1
 else some 0
def fL:Nat->Fm->Int->Int->Option Fm
 |0,_,_,_=>none|n+1,a0,a1,a2=>
 e_ (dE a0.dc)<|de (λ(l:Int) (i:Tm)=>(λ(v64:List Tm)=>
 cM (pZ FU i a1 a2) λc=>
 e_ (eI v64 [c])<|some (dW.next (fk v64 [c])))) λj=>
 cM (dF j a0.dc 0 []) (eB (λ(v64:List Tm)=>
 e_ (dE a0.aim)<|de (λ(k:Int) (d:Fm)=>(λ(a:List Fm)=>
 cM (me a0) λf=>
 cM (fL n d (dJ .i64 a1 f) a2) λb=>
 e_ (eI a [b])<|some (dW.next (fk a [b])))) λh=>
 cM (dF h a0.aim 0 []) (eB (λ(a:List Fm)=>
 some (Fm.mk a0.ail a0.cT v64 a)) (λr=>some r))) (λr=>some r))
def ej(a0:cX)(a1:List Ty):Option cX:=
 e_ (eI a0.aip a1)<|e_ (dE a0.ais)<|de (λ(f:Int) (c:Fm)=>(λ(a:List Fm)=>
 cM (fL FU c 0 (dp a1)) λb=>
 e_ (eI a [b])<|some (dW.next (fk a [b])))) λd=>
 cM (dF d a0.ais 0 []) (eB (λ(a:List Fm)=>
 some (cX.mk a0.lemmas (fk a0.aip a1) a)) (λr=>some r))
def fq(a0:List Int)(a1:Int):Option (List Int):=
 e_ (dE a0)<|de (λ(d:Int) (a:Int)=>(λ(v44:List Int)=>
 de (λ(b:List Int)=>
 some (dW.next b)) λj57=>
 if og a a1 then
 e_ (eI v44 [(ea .i64 a a1)])<|j57 (fk v44 [(ea .i64 a a1)])
 else j57 v44)) λc=>
 cM (dF c a0 0 []) (eB (λ(v44:List Int)=>
 some v44) (λr=>some r))
def qM(a0:List Int):Option Bool:=
 de (λ(v6:Bool)=>
 some v6) λa=>
 if ly (dp a0) 0 then
 cM (dg a0 0) λb=>
 a (dj b 0)
 else a false
def jy(a0:List Ty)(a1:Tm):Option (Ty×Int):=
 cM (k8 a0) λc=>
 if dx c 0 then
 some ((Ty.mk 0 []),c)
 else cW (oS a0 a1) λa b=>
 some (a,b)
def qm:Nat->Tm->Int->(List (Int×Bool))->Option ((List (Int×Bool)))
 |0,_,_,_=>none|n+1,a0,a1,a2=>
 de (λ(f:(List (Int×Bool)))=>
 e_ (dE a0.aim)<|de (λ(h:Int) (a:Tm)=>(λ(v51:(List (Int×Bool)))=>
 cM (kv a0) λb=>
 cM (qm n a (dJ .i64 a1 b) v51) λd73=>
 some (dW.next d73))) λc=>
 cM (dF c a0.aim 0 f) (eB (λ(v51:(List (Int×Bool)))=>
 some v51) (λr=>some r))) λd=>
 if en (dj a0.ail 1) (og a0.aio a1) false then
 d (nN a2 (ea .i64 a0.aio a1) true)
 else d a2
def uD(a0:Tm):Option ((List Int)×Int):=
 cM (kF a0) λb=>
 if dx b 0 then
 some ([],b)
 else cM (qm FU a0 0 []) λd11=>
 cW (pA d11) λa d17=>
 some (a,0)
def jA(a0:Tm):Option (List Int):=
 cW (uD a0) λa b=>
 some a
def o9:Nat->Fm->Int->Option Bool
 |0,_,_=>none|n+1,a0,a1=>
 e_ (dE a0.dc)<|de (λ(i:Int) (a:Tm)=>(λ(_:Unit)=>
 cM (kE FU a a1) λb=>
 if b then
 some (dW.next ())
 else some (dW.ret false))) λc=>
 cM (dF c a0.dc 0 ()) (eB (λ(_:Unit)=>
 e_ (dE a0.aim)<|de (λ(j:Int) (d:Fm)=>(λ(_:Unit)=>
 cM (o9 n d a1) λf=>
 if f then
 some (dW.next ())
 else some (dW.ret false))) λh=>
 cM (dF h a0.aim 0 ()) (eB (λ(_:Unit)=>
 some true) (λr=>some r))) (λr=>some r))
def oW:Nat->Fm->Int->Option Int
 |0,_,_=>none|n+1,a0,a1=>
 e_ (dE a0.dc)<|de (λ(k:Int) (f:Tm)=>(λ(v32:Int)=>
 cM (mo FU f a1) λh=>
 some (dW.next (dJ .i64 v32 h)))) λi=>
 cM (dF i a0.dc 0 0) (eB (λ(v32:Int)=>
 e_ (dE a0.aim)<|de (λ(l:Int) (j:Fm)=>(λ(a:Int)=>
 cM (me a0) λb=>
 cM (oW n j (dJ .i64 a1 b)) λc=>
 some (dW.next (dJ .i64 a c)))) λd=>
 cM (dF d a0.aim 0 v32) (eB (λ(a:Int)=>
 some a) (λr=>some r))) (λr=>some r))
def vX:Nat->Fm->Int->Int->Tm->Option Fm
 |0,_,_,_,_=>none|n+1,a0,a1,a2,a3=>
 e_ (dE a0.dc)<|de (λ(l:Int) (i:Tm)=>(λ(v64:List Tm)=>
 cM (uz FU i a1 a2 a3) λc=>
 e_ (eI v64 [c])<|some (dW.next (fk v64 [c])))) λj=>
 cM (dF j a0.dc 0 []) (eB (λ(v64:List Tm)=>
 e_ (dE a0.aim)<|de (λ(k:Int) (d:Fm)=>(λ(a:List Fm)=>
 cM (me a0) λf=>
 cM (vX n d a1 (dJ .i64 a2 f) a3) λb=>
 e_ (eI a [b])<|some (dW.next (fk a [b])))) λh=>
 cM (dF h a0.aim 0 []) (eB (λ(a:List Fm)=>
 some (Fm.mk a0.ail a0.cT v64 a)) (λr=>some r))) (λr=>some r))
def vU(a0:Fm)(a1:Int)(a2:Tm):Option (Fm×Int):=
 cM (iH a0) λn=>
 if dx n 0 then
 some ((Fm.mk 0 (Ty.mk 0 []) [] []),n)
 else if en (qT a1 0) true (ly a1 4096)then
 some ((Fm.mk 0 (Ty.mk 0 []) [] []),1)
 else cM (kF a2) λa=>
 if dx a 0 then
 some ((Fm.mk 0 (Ty.mk 0 []) [] []),a)
 else de (λ(f:Bool)=>
 if f then
 some ((Fm.mk 0 (Ty.mk 0 []) [] []),1)
 else cM (k7 FU a0) λh=>
 cM (oW FU a0 a1) λi=>
 cM (eQ FU a2) λj=>
 if ly (dJ .i64 h (J4 .i64 i (ea .i64 j 1))) 4096 then
 some ((Fm.mk 0 (Ty.mk 0 []) [] []),4)
 else cM (vX FU a0 a1 0 a2) λb=>
 cM (hZ FU b) λc=>
 some (c,0)) λd=>
 cM (o9 FU a0 536870912) λk=>
 if k then
 cM (kE FU a2 536870912) λl=>
 d (pL l)
 else d true
def iJ(a0:Fm)(a1:Tm):Option (Fm×Int):=
 cW (vU a0 0 a1) λa b=>
 some (a,b)
def tK:Nat->Tm->Int->Option Bool
 |0,_,_=>none|n+1,a0,a1=>
 if en (dj a0.ail 1) (dj a0.aio a1) false then
 some true
 else e_ (dE a0.aim)<|de (λ(f:Int) (c:Tm)=>(λ(_:Unit)=>
 cM (kv a0) λa=>
 cM (tK n c (dJ .i64 a1 a)) λb=>
 if b then
 some (dW.ret true)
 else some (dW.next ()))) λd=>
 cM (dF d a0.aim 0 ()) (eB (λ(_:Unit)=>
 some false) (λr=>some r))
def pC:Nat->Fm->Int->Option Bool
 |0,_,_=>none|n+1,a0,a1=>
 e_ (dE a0.dc)<|de (λ(j:Int) (d:Tm)=>(λ(_:Unit)=>
 cM (tK FU d a1) λf=>
 if f then
 some (dW.ret true)
 else some (dW.next ()))) λh=>
 cM (dF h a0.dc 0 ()) (eB (λ(_:Unit)=>
 e_ (dE a0.aim)<|de (λ(k:Int) (i:Fm)=>(λ(_:Unit)=>
 cM (me a0) λa=>
 cM (pC n i (dJ .i64 a1 a)) λb=>
 if b then
 some (dW.ret true)
 else some (dW.next ()))) λc=>
 cM (dF c a0.aim 0 ()) (eB (λ(_:Unit)=>
 some false) (λr=>some r))) (λr=>some r))
def mc:Nat->Fm->Option (Fm×Int)
 |0,_=>none|n+1,a0=>
 e_ (dE a0.dc)<|de (λ(s:Int) (k:Tm)=>(λ(b:List Tm)=>
 gX (k1 k 1000) λc o d=>
 if dx d 0 then
 some (dW.ret ((Fm.mk 0 (Ty.mk 0 []) [] []),d))
 else e_ (eI b [c])<|some (dW.next (fk b [c])))) λl=>
 cM (dF l a0.dc 0 []) (eB (λ(b:List Tm)=>
 e_ (dE a0.aim)<|de (λ(q:Int) (i:Fm)=>(λ(a:List Fm)=>
 cW (mc n i) λf h=>
 if dx h 0 then
 some (dW.ret ((Fm.mk 0 (Ty.mk 0 []) [] []),h))
 else e_ (eI a [f])<|some (dW.next (fk a [f])))) λj=>
 cM (dF j a0.aim 0 []) (eB (λ(a:List Fm)=>
 some ((Fm.mk a0.ail a0.cT b a),0)) (λr=>some r))) (λr=>some r))
def gd(a0:cX)(a1:Tm)(a2:Int):Option Int:=
 cW (jy a0.aip a1) λb a=>
 if dx a 0 then
 some a
 else if dx b.ail a2 then
 some 7
 else some 0
def iK:Nat->Fm->Option Bool
 |0,_=>none|n+1,a0=>
 if dj a0.ail 1 then
 some false
 else if dj a0.ail 2 then
 de (λ(v33:Bool)=>
 some v33) λa=>
 cM (dg a0.aim 0) λb=>
 cM (iK n b) λc=>
 if c then
 a true
 else cM (dg a0.aim 1) λd=>
 cM (iK n d) λf=>
 a f
 else if dj a0.ail 5 then
 some true
 else cM (dg a0.aim (ea .i64 (dp a0.aim) 1)) λh=>
 cM (iK n h) λi=>
 some i
def n_(a0:Fm):Option (Bool×Int):=
 cM (iH a0) λb=>
 if dx b 0 then
 some (false,b)
 else cM (iK FU a0) λa=>
 some (a,0)
mutual
def dn:Nat->cX->Pf->Option (qV×Int)
 |0,_,_=>none|n+1,a0,a1=>
 gX (df n a0 a1) λb h f=>
 if dx f 0 then
 some ((qV.mk (Fm.mk 0 (Ty.mk 0 []) [] []) []),f)
 else cM (iH b) λc=>
 if dx c 0 then
 some ((qV.mk (Fm.mk 0 (Ty.mk 0 []) [] []) []),4)
 else de (λ(v26:List Int)=>
 some ((qV.mk b v26),0)) λa=>
 cW (n_ b) λd i=>
 if d then
 a h
 else a []
def df:Nat->cX->Pf->Option (Fm×(List Int)×Int)
 |0,_,_=>none|n+1,a0,a1=>
 if dj a1.ail 1 then
 if og a1.aio (dp a0.ais)then
 some ((Fm.mk 0 (Ty.mk 0 []) [] []),[],8)
 else cM (dg a0.ais (ea .i64 (ea .i64 (dp a0.ais) 1) a1.aio)) λt=>
 some (t,[],0)
 else if dj a1.ail 2 then
 if og a1.aio (dp a0.lemmas)then
 some ((Fm.mk 0 (Ty.mk 0 []) [] []),[],9)
 else cM (dg a0.lemmas a1.aio) λu=>
 some (u,[],0)
 else if dj a1.ail 3 then
 cM (dg a1.aim 0) λv=>
 cW (dn n a0 v) λf h=>
 if dx h 0 then
 some ((Fm.mk 0 (Ty.mk 0 []) [] []),[],h)
 else cM (dg a1.aim 1) λw=>
 cW (dn n a0 w) λi x=>
 cM (kb 2 f.cU i.cU) λy=>
 cM (fo f.uses i.uses) λA=>
 some (y,A,x)
 else if en (dj a1.ail 4) true (dj a1.ail 5)then
 cM (dg a1.aim 0) λB=>
 cW (dn n a0 B) λb j=>
 if dx j 0 then
 some ((Fm.mk 0 (Ty.mk 0 []) [] []),[],j)
 else if dx b.cU.ail 2 then
 some ((Fm.mk 0 (Ty.mk 0 []) [] []),[],10)
 else cM (dg b.cU.aim (ea .i64 a1.ail 4)) λC=>
 some (C,b.uses,0)
 else if dj a1.ail 6 then
 cM (dg a1.eh 0) λc=>
 cM (ji a0.aip c) λk=>
 if dx k 0 then
 some ((Fm.mk 0 (Ty.mk 0 []) [] []),[],k)
 else cM (du a0 0 1) λl=>
 if dx l 0 then
 some ((Fm.mk 0 (Ty.mk 0 []) [] []),[],l)
 else cM (fh a0 c) λD=>
 cM (dg a1.aim 0) λF=>
 cW (dn n D F) λo G=>
 cM (kb 3 c o.cU) λH=>
 some (H,o.uses,G)
 else if dj a1.ail 7 then
 cM (dg a1.aim 0) λI=>
 cW (dn n a0 I) λa q=>
 if dx q 0 then
 some ((Fm.mk 0 (Ty.mk 0 []) [] []),[],q)
 else if dx a.cU.ail 3 then
 some ((Fm.mk 0 (Ty.mk 0 []) [] []),[],10)
 else cM (dg a1.aim 1) λJ=>
 cW (dn n a0 J) λr s=>
 if dx s 0 then
 some ((Fm.mk 0 (Ty.mk 0 []) [] []),[],s)
 else cM (dg a.cU.aim 1) λK=>
 cM (fo a.uses r.uses) λL=>
 cM (dg a.cU.aim 0) λM=>
 cM (nr M r.cU) λN=>
 some (K,L,N)
 else if en (dj a1.ail 8) true (dj a1.ail 12)then
 gX (mv n a0 a1) λO P Q=>
 some (O,P,Q)
 else if en (dj a1.ail 9) true (dj a1.ail 13)then
 gX (mQ n a0 a1) λR S T=>
 some (R,S,T)
 else if en (dj a1.ail 10) true (dj a1.ail 14)then
 gX (mS n a0 a1) λU V W=>
 some (U,V,W)
 else if en (dj a1.ail 11) true (dj a1.ail 15)then
 gX (lG n a0 a1) λX Y Z=>
 some (X,Y,Z)
 else if dj a1.ail 16 then
 gX (oy n a0 a1) λad ae af=>
 some (ad,ae,af)
 else if dj a1.ail 17 then
 gX (mN n a0 a1) λah ai ak=>
 some (ah,ai,ak)
 else if dj a1.ail 18 then
 cM (dg a1.dc 0) λd=>
 cM (kV d d) λan=>
 cM (gd a0 d 1) λao=>
 some (an,[],ao)
 else if dj a1.ail 19 then
 gX (mP n a0 a1) λaq ar aw=>
 some (aq,ar,aw)
 else gX (mb n a0 a1) λax ay az=>
 some (ax,ay,az)
def mv:Nat->cX->Pf->Option (Fm×(List Int)×Int)
 |0,_,_=>none|n+1,a0,a1=>
 cM (du a0 1 0) λl=>
 if dx l 0 then
 some ((Fm.mk 0 (Ty.mk 0 []) [] []),[],l)
 else cM (ej a0 [a1.cT]) λc=>
 cM (dg a1.aim 0) λd=>
 cW (dn n c d) λa b=>
 if dx b 0 then
 some ((Fm.mk 0 (Ty.mk 0 []) [] []),[],b)
 else if dj a1.ail 8 then
 cM (jm 4 a1.cT a.cU) λf=>
 cM (fq a.uses 1) λh=>
 some (f,h,0)
 else cM (qM a.uses) λi=>
 if i then
 some ((Fm.mk 0 (Ty.mk 0 []) [] []),[],12)
 else cM (jm 6 a1.cT a.cU) λj=>
 cM (fq a.uses 1) λk=>
 some (j,k,0)
def mQ:Nat->cX->Pf->Option (Fm×(List Int)×Int)
 |0,_,_=>none|n+1,a0,a1=>
 cM (dg a1.dc 0) λc=>
 cW (jy a0.aip c) λq o=>
 if dx o 0 then
 some ((Fm.mk 0 (Ty.mk 0 []) [] []),[],o)
 else cM (dg a1.aim 0) λd=>
 cW (dn n a0 d) λa b=>
 if dx b 0 then
 some ((Fm.mk 0 (Ty.mk 0 []) [] []),[],b)
 else cM (jA c) λf=>
 cM (fo a.uses f) λh=>
 if dx a.cU.ail (en (dj a1.ail 13) 6 4)then
 some ((Fm.mk 0 (Ty.mk 0 []) [] []),[],10)
 else cM (eC FU a.cU.cT q) λi=>
 if i then
 cM (dg a.cU.aim 0) λj=>
 cW (iJ j c) λk l=>
 some (k,(en (dj a1.ail 13) a.uses h),l)
 else some ((Fm.mk 0 (Ty.mk 0 []) [] []),[],7)
def mS:Nat->cX->Pf->Option (Fm×(List Int)×Int)
 |0,_,_=>none|n+1,a0,a1=>
 cM (dg a1.eh 0) λa=>
 cM (dg a1.dc 0) λb=>
 cM (ji a0.aip a) λc=>
 if dx c 0 then
 some ((Fm.mk 0 (Ty.mk 0 []) [] []),[],c)
 else if dx a.ail (en (dj a1.ail 14) 7 5)then
 some ((Fm.mk 0 (Ty.mk 0 []) [] []),[],10)
 else cW (jy a0.aip b) λi d=>
 if dx d 0 then
 some ((Fm.mk 0 (Ty.mk 0 []) [] []),[],d)
 else cM (eC FU a.cT i) λj=>
 if j then
 cM (dg a1.aim 0) λk=>
 cM (dg a.aim 0) λl=>
 cW (dY n a0 k l b) λf o=>
 de (λ(v77:List Int)=>
 some (a,v77,o)) λh=>
 if dj (en (dj a1.ail 14) 7 5) 5 then
 cM (jA b) λq=>
 cM (fo f q) λr=>
 h r
 else h f
 else some ((Fm.mk 0 (Ty.mk 0 []) [] []),[],7)
def lG:Nat->cX->Pf->Option (Fm×(List Int)×Int)
 |0,_,_=>none|n+1,a0,a1=>
 cM (dg a1.aim 0) λy=>
 cW (dn n a0 y) λc i=>
 if dx i 0 then
 some ((Fm.mk 0 (Ty.mk 0 []) [] []),[],i)
 else if dx c.cU.ail (en (dj a1.ail 15) 7 5)then
 some ((Fm.mk 0 (Ty.mk 0 []) [] []),[],10)
 else cM (du a0 1 1) λj=>
 if dx j 0 then
 some ((Fm.mk 0 (Ty.mk 0 []) [] []),[],j)
 else cM (ej a0 [c.cU.cT]) λA=>
 cM (dg c.cU.aim 0) λB=>
 cM (fh A B) λC=>
 cM (dg a1.aim 1) λD=>
 cW (dn n C D) λb k=>
 if dx k 0 then
 some ((Fm.mk 0 (Ty.mk 0 []) [] []),[],k)
 else de (λ(F:Int) (l:Int) (o:List Ty) (q:List Tm) (r:List Fm)=>
 de (λ(v139:Bool)=>
 if v139 then
 some ((Fm.mk 0 (Ty.mk 0 []) [] []),[],12)
 else cM (fL FU (Fm.mk F (Ty.mk l o) q r) 1 (-1)) λs=>
 cM (fq b.uses 1) λt=>
 cM (fo c.uses t) λu=>
 some (s,u,0)) λd=>
 if dj (en (dj a1.ail 15) 7 5) 7 then
 cM (qM b.uses) λv=>
 d v
 else d false) λf=>
 cM (pC FU b.cU 0) λw=>
 if w then
 cW (mc FU b.cU) λa h=>
 if dx h 0 then
 some ((Fm.mk 0 (Ty.mk 0 []) [] []),[],h)
 else cM (pC FU a 0) λx=>
 if x then
 some ((Fm.mk 0 (Ty.mk 0 []) [] []),[],6)
 else f a.ail a.cT.ail a.cT.aim a.dc a.aim
 else f b.cU.ail b.cU.cT.ail b.cU.cT.aim b.cU.dc b.cU.aim
def oy:Nat->cX->Pf->Option (Fm×(List Int)×Int)
 |0,_,_=>none|n+1,a0,a1=>
 cM (dg a1.eh 0) λa=>
 cM (dg a1.dc 0) λc=>
 cM (gA) λd=>
 e_ (eI a0.aip [d])<|cM (jT (fk a0.aip [d]) a) λf=>
 if dx f 0 then
 some ((Fm.mk 0 (Ty.mk 0 []) [] []),[],f)
 else cM (gd a0 c 1) λh=>
 if dx h 0 then
 some ((Fm.mk 0 (Ty.mk 0 []) [] []),[],h)
 else cM (dg a1.aim 0) λC=>
 cM (eP 4 []) λD=>
 cW (dY n a0 C a D) λF i=>
 if dx i 0 then
 some ((Fm.mk 0 (Ty.mk 0 []) [] []),[],i)
 else cM (du a0 1 1) λj=>
 if dx j 0 then
 some ((Fm.mk 0 (Ty.mk 0 []) [] []),[],j)
 else cM (gA) λk=>
 cM (ej a0 [k]) λl=>
 cM (fh l a) λo=>
 cM (dg a1.aim 1) λq=>
 cM (fL FU a 1 1) λr=>
 cM (eK 0) λs=>
 cM (eP 5 [s]) λt=>
 cW (dY n o q r t) λu b=>
 if dx b 0 then
 some ((Fm.mk 0 (Ty.mk 0 []) [] []),[],b)
 else cW (iJ a c) λv w=>
 cM (jA c) λx=>
 cM (fo x F) λy=>
 cM (fq u 1) λA=>
 cM (fo y A) λB=>
 some (v,B,w)
def mN:Nat->cX->Pf->Option (Fm×(List Int)×Int)
 |0,_,_=>none|n+1,a0,a1=>
 cM (dg a1.eh 0) λa=>
 cM (dg a1.dc 0) λc=>
 cM (lz) λd=>
 e_ (eI a0.aip [d])<|cM (jT (fk a0.aip [d]) a) λf=>
 if dx f 0 then
 some ((Fm.mk 0 (Ty.mk 0 []) [] []),[],f)
 else cM (gd a0 c 2) λh=>
 if dx h 0 then
 some ((Fm.mk 0 (Ty.mk 0 []) [] []),[],h)
 else cM (dg a1.aim 0) λG=>
 cM (eP 7 []) λH=>
 cW (dY n a0 G a H) λI i=>
 if dx i 0 then
 some ((Fm.mk 0 (Ty.mk 0 []) [] []),[],i)
 else cM (du a0 2 1) λj=>
 if dx j 0 then
 some ((Fm.mk 0 (Ty.mk 0 []) [] []),[],j)
 else cM (gA) λk=>
 cM (lz) λl=>
 cM (ej a0 [k,l]) λo=>
 cM (fL FU a 1 1) λq=>
 cM (fh o q) λr=>
 cM (dg a1.aim 1) λs=>
 cM (fL FU a 1 2) λt=>
 cM (eK 1) λu=>
 cM (eK 0) λv=>
 cM (eP 8 [u,v]) λw=>
 cW (dY n r s t w) λx b=>
 if dx b 0 then
 some ((Fm.mk 0 (Ty.mk 0 []) [] []),[],b)
 else cW (iJ a c) λy A=>
 cM (jA c) λB=>
 cM (fo B I) λC=>
 cM (fq x 2) λD=>
 cM (fo C D) λF=>
 some (y,F,A)
def mP:Nat->cX->Pf->Option (Fm×(List Int)×Int)
 |0,_,_=>none|n+1,a0,a1=>
 cM (dg a1.eh 0) λk=>
 cM (gA) λb=>
 e_ (eI a0.aip [b])<|cM (jT (fk a0.aip [b]) k) λc=>
 if dx c 0 then
 some ((Fm.mk 0 (Ty.mk 0 []) [] []),[],c)
 else cM (dg a1.aim 0) λl=>
 cW (dn n a0 l) λa d=>
 if dx d 0 then
 some ((Fm.mk 0 (Ty.mk 0 []) [] []),[],d)
 else if dx a.cU.ail 1 then
 some ((Fm.mk 0 (Ty.mk 0 []) [] []),[],10)
 else cM (dg a1.aim 1) λo=>
 cM (dg a.cU.dc 0) λq=>
 cW (dY n a0 o k q) λr f=>
 if dx f 0 then
 some ((Fm.mk 0 (Ty.mk 0 []) [] []),[],f)
 else cM (dg a.cU.dc 1) λh=>
 cW (iJ k h) λi j=>
 some (i,r,j)
def mb:Nat->cX->Pf->Option (Fm×(List Int)×Int)
 |0,_,_=>none|n+1,a0,a1=>
 cM (dg a1.aim 0) λh=>
 cW (dn n a0 h) λa b=>
 if dx b 0 then
 some ((Fm.mk 0 (Ty.mk 0 []) [] []),[],b)
 else de (λ(v35:Bool)=>
 if v35 then
 some ((Fm.mk 0 (Ty.mk 0 []) [] []),[],10)
 else cM (dg a.cU.aim 0) λc=>
 cM (j1 a.cU.cT c.cT) λd=>
 cM (hU d) λi=>
 if dx i 0 then
 some ((Fm.mk 0 (Ty.mk 0 []) [] []),[],4)
 else cM (dg c.aim 0) λj=>
 cM (fL FU j 2 1) λk=>
 cM (eK 1) λl=>
 cM (eK 0) λo=>
 cM (eP 3 [l,o]) λq=>
 cW (iJ k q) λr s=>
 cM (jm 4 a.cU.cT r) λt=>
 cM (jm 5 d t) λu=>
 some (u,a.uses,s)) λf=>
 if dx a.cU.ail 4 then
 f true
 else cM (dg a.cU.aim 0) λv=>
 f (dx v.ail 5)
def dY:Nat->cX->Pf->Fm->Tm->Option ((List Int)×Int)
 |0,_,_,_,_=>none|n+1,a0,a1,a2,a3=>
 cW (dn n a0 a1) λd f=>
 if dx f 0 then
 some ([],f)
 else cW (iJ a2 a3) λb a=>
 if dx a 0 then
 some ([],a)
 else cM (nr b d.cU) λc=>
 some (d.uses,c)
end
def iC(a0:List Fm)(a1:Sq)(a2:Pf):Option (qV×Int):=
 cM (sq a0 a1) λf=>
 if dx f 0 then
 some ((qV.mk (Fm.mk 0 (Ty.mk 0 []) [] []) []),f)
 else cM (np a2) λb=>
 if dx b 0 then
 some ((qV.mk (Fm.mk 0 (Ty.mk 0 []) [] []) []),b)
 else cW (dn FU (cX.mk a0 a1.aip a1.ais) a2) λa c=>
 if dx c 0 then
 some ((qV.mk (Fm.mk 0 (Ty.mk 0 []) [] []) []),c)
 else cM (hZ FU a.cU) λd=>
 e_ (eI [] a.uses)<|some ((qV.mk d (fk [] a.uses)),0)
def pg(a0:Sq)(a1:List Ty):Option Sq:=
 cM (lr a0.aip a1) λf=>
 e_ (dE a0.ais)<|de (λ(h:Int) (c:Fm)=>(λ(a:List Fm)=>
 cM (fL FU c 0 (dp a1)) λb=>
 e_ (eI a [b])<|some (dW.next (fk a [b])))) λd=>
 cM (dF d a0.ais 0 []) (eB (λ(a:List Fm)=>
 some (Sq.mk f a)) (λr=>some r))
def pF(a0:Int)(a1:Ty)(a2:Pf):Option Pf:=
 cM (jV a0 [a2]) λa=>
 cM (gJ FU a1) λb=>
 some (Pf.mk a.ail a.aio b a.dc a.eh a.aim)
def sV(a0:Int)(a1:Tm)(a2:Pf):Option Pf:=
 cM (jV a0 [a2]) λa=>
 cM (iA FU a1) λb=>
 some (Pf.mk a.ail a.aio a.cT [b] a.eh a.aim)
def iP(a0:Tm):Option Tm:=
 cM (kV a0 a0) λb=>
 cM (fL FU b 0 1) λc=>
 cM (dg c.dc 0) λa=>
 some a
def sQ(a0:Int)(a1:Fm)(a2:Tm)(a3:Pf):Option Pf:=
 cM (sV a0 a2 a3) λa=>
 cM (hZ FU a1) λb=>
 some (Pf.mk a.ail a.aio a.cT a.dc [b] a.aim)
def rv(a0:Int)(a1:Fm)(a2:Tm)(a3:Pf):Option (Pf×Fm):=
 cM (sV a0 a2 a3) λa=>
 cM (hZ FU a1) λb=>
 some ((Pf.mk a.ail a.aio a.cT a.dc [b] a.aim),b)
def sG(a0:dd)(a1:Sq):Option (Pf×Fm×dd):=
 cM (gA) λk=>
 cW (fj FU a0 a1.aip k 1) λc d9=>
 cM (iP c) λd=>
 cM (eK 0) λf=>
 cM (kV d f) λh=>
 cM (jm 5 k h) λi=>
 cM (jx c) λj=>
 cW (rv 10 i c j) λa b=>
 some ((Pf.mk a.ail a.aio a.cT a.dc [b] a.aim),b,d9)
def lT(a0:Int):Option Pf:=
 some (Pf.mk 1 a0 (Ty.mk 0 []) [] [] [])
def rY(a0:Int)(a1:Fm)(a2:Tm)(a3 a4:Pf):Option Pf:=
 cM (jV a0 [a3,a4]) λa=>
 cM (iA FU a2) λc=>
 cM (hZ FU a1) λb=>
 some (Pf.mk a.ail a.aio a.cT [c] [b] a.aim)
def tY(a0:Tm)(a1:Int):Option Tm:=
 cM (pZ FU a0 0 a1) λa=>
 some a
def qJ(a0:Fm)(a1 a2:Pf):Option Pf:=
 cM (jV 19 [a1,a2]) λa=>
 cM (hZ FU a0) λb=>
 some (Pf.mk a.ail a.aio a.cT a.dc [b] a.aim)
def uO(a0 a1:Tm)(a2:Pf):Option Pf:=
 cM (tY a0 1) λa=>
 cM (tY a1 1) λb=>
 cM (eP 3 [a,b]) λc=>
 cM (tY a0 1) λd=>
 cM (eK 0) λf=>
 cM (eP 3 [d,f]) λh=>
 cM (kV c h) λi=>
 cM (eP 3 [a0,a1]) λj=>
 cM (jx j) λk=>
 cM (qJ i a2 k) λl=>
 some l
def rh(a0:List Tm)(a1:List Fm)(a2:List Pf):Option Int:=
 e_ (dE a0)<|de (λ(l:Int) (f:Tm)=>(λ(_:Unit)=>
 cM (kF f) λb=>
 if dx b 0 then
 some (dW.ret b)
 else some (dW.next ()))) λh=>
 cM (dF h a0 0 ()) (eB (λ(_:Unit)=>
 e_ (dE a1)<|de (λ(n:Int) (i:Fm)=>(λ(_:Unit)=>
 cM (iH i) λc=>
 if dx c 0 then
 some (dW.ret c)
 else some (dW.next ()))) λj=>
 cM (dF j a1 0 ()) (eB (λ(_:Unit)=>
 e_ (dE a2)<|de (λ(o:Int) (k:Pf)=>(λ(_:Unit)=>
 cM (np k) λa=>
 if dx a 0 then
 some (dW.ret a)
 else some (dW.next ()))) λd=>
 cM (dF d a2 0 ()) (eB (λ(_:Unit)=>
 some 0) (λr=>some r))) (λr=>some r))) (λr=>some r))
def sZ(a0:Pf)(a1:Int):Option (Pf×Int):=
 if dx a1 0 then
 some ((Pf.mk 0 0 (Ty.mk 0 []) [] [] []),a1)
 else cM (sh a0) λb=>
 if b then
 cM (qj FU a0) λa=>
 some (a,0)
 else some ((Pf.mk 0 0 (Ty.mk 0 []) [] [] []),4)
def ua(a0 a1 a2:Tm)(a3:Pf):Option (Pf×Int):=
 cM (uO a0 a1 a3) λa=>
 cM (rh [a0,a1,a2] [] [a3]) λb=>
 cW (sZ a b) λc d=>
 some (c,d)
def yd(a0:Tm):Option Pf:=
 cM (r') λt=>
 cM (tf 0) λf=>
 cM (eK 0) λh=>
 cM (A9 t [f,h]) λa=>
 cM (eK 0) λi=>
 cM (kV a i) λj=>
 cM (gA) λk=>
 cM (eK 0) λl=>
 cM (eP 5 [l]) λn=>
 cM (kJ 2 k [n]) λo=>
 cM (eK 0) λq=>
 cM (lT 0) λr=>
 cW (ua o a q r) λs u=>
 cM (tf 0) λb=>
 cM (jx b) λc=>
 cM (rY 16 j a0 c s) λd=>
 some d
def B1(a0:dd)(a1:Sq):Option (Pf×dd):=
 cM (gA) λj=>
 cW (fj FU a0 a1.aip j 1) λa d9=>
 cM (iP a) λb=>
 cM (eK 0) λc=>
 cM (kV b c) λd=>
 cM (jm 5 j d) λf=>
 cM (jx a) λh=>
 cM (sQ 10 f a h) λi=>
 some (i,d9)
mutual
def h7:Nat->dd->(List Fm)->Sq->Int->Option (Pf×dd)
 |0,_,_,_,_=>none|n+1,a0,a1,a2,a3=>
 cM (gA) λH=>
 de (λ(bI:dd)=>
 de (λ(I:dd)=>
 cW (fj FU I a2.aip H 1) λJ K=>
 cM (jx J) λL=>
 some (L,K)) λf=>
 cW (et bI 4) λl c=>
 if dj l 0 then
 if ly (dp a2.ais) 0 then
 cW (et c (dp a2.ais)) λM N=>
 cM (lT M) λO=>
 some (O,N)
 else f c
 else if dj l 1 then
 if ly (dp a1) 0 then
 cW (et c (dp a1)) λP Q=>
 some ((Pf.mk 2 P (Ty.mk 0 []) [] [] []),Q)
 else f c
 else f c) λd=>
 if en (ly a3 0) (en (qT (dp a2.aip) 10) (qT (dp a2.ais) 10) false) false then
 cW (et a0 17) λb a=>
 if dj b 0 then
 cW (h7 n a a1 a2 (ea .i64 a3 1)) λbJ bK=>
 cW (h7 n bK a1 a2 (ea .i64 a3 1)) λbL bM=>
 cM (jV 3 [bJ,bL]) λbN=>
 some (bN,bM)
 else if dj b 1 then
 cW (et a 2) λbO bP=>
 cW (h7 n bP a1 a2 (ea .i64 a3 1)) λbQ bR=>
 cW (h7 n bR a1 a2 (ea .i64 a3 1)) λbS bT=>
 cM (jV 3 [bQ,bS]) λbU=>
 cM (jV (dJ .i64 4 bO) [bU]) λbV=>
 some (bV,bT)
 else if dj b 2 then
 cW (hR FU a a2.aip 1) λB bW=>
 cM (xn a2 B) λbX=>
 cW (h7 n bW a1 bX (ea .i64 a3 1)) λbY bZ=>
 cM (tM B bY) λb0=>
 some (b0,bZ)
 else if dj b 3 then
 cW (h7 n a a1 a2 (ea .i64 a3 1)) λC D=>
 cW (iC a1 a2 C) λF b1=>
 if dj b1 0 then
 cM (xn a2 F.cU) λb2=>
 cW (h7 n D a1 b2 (ea .i64 a3 1)) λb3 b4=>
 cM (tM F.cU b3) λb5=>
 cM (jV 7 [b5,C]) λb6=>
 some (b6,b4)
 else d D
 else if dj b 4 then
 cW (iu FU a 1) λG b7=>
 cM (pg a2 [G]) λb8=>
 cW (h7 n b7 a1 b8 (ea .i64 a3 1)) λb9 R=>
 cM (pF 8 G b9) λS=>
 some (S,R)
 else if dj b 5 then
 cW (iu FU a 1) λh T=>
 cW (fj FU T a2.aip h 1) λU V=>
 cM (pg a2 [h]) λW=>
 cW (h7 n V a1 W (ea .i64 a3 1)) λX Y=>
 cM (pF 8 h X) λZ=>
 cM (sV 9 U Z) λad=>
 some (ad,Y)
 else if dj b 6 then
 cW (fj FU a a2.aip H 1) λi ae=>
 cW (et ae 2) λo af=>
 de ([5,7]:List Int) λah=>
 cM (dg ah o) λai=>
 cM (iP i) λak=>
 cM (eK 0) λan=>
 cM (kV ak an) λao=>
 cM (jm ai H ao) λaq=>
 de ([10,14]:List Int) λar=>
 cM (dg ar o) λaw=>
 cM (jx i) λax=>
 cM (sQ aw aq i ax) λay=>
 some (ay,af)
 else if dj b 7 then
 cW (h7 n a a1 a2 (ea .i64 a3 1)) λq r=>
 cW (iC a1 a2 q) λaz aA=>
 if dj aA 0 then
 cW (iu FU r 1) λs aB=>
 cW (et aB 2) λt aC=>
 de ([5,7]:List Int) λaD=>
 cM (dg aD t) λaE=>
 cM (fL FU az.cU 0 1) λaF=>
 cM (jm aE s aF) λaG=>
 de ([10,14]:List Int) λaH=>
 cM (dg aH t) λaI=>
 cW (fj FU aC a2.aip s 1) λaJ aK=>
 cM (sQ aI aG aJ q) λaL=>
 some (aL,aK)
 else d r
 else if dj b 8 then
 cW (v_ n a a1 a2 a3) λaM aN=>
 some (aM,aN)
 else if dj b 9 then
 cW (h7 n a a1 a2 (ea .i64 a3 1)) λu v=>
 cW (iC a1 a2 u) λaO aP=>
 if dj aP 0 then
 cM (fL FU aO.cU 0 1) λaQ=>
 cW (fj FU v a2.aip H 1) λaR aS=>
 cM (lT 0) λaT=>
 cM (rY 16 aQ aR u aT) λaU=>
 some (aU,aS)
 else d v
 else if dj b 10 then
 cW (h7 n a a1 a2 (ea .i64 a3 1)) λw x=>
 cW (iC a1 a2 w) λaV aW=>
 if dj aW 0 then
 cM (fL FU aV.cU 0 1) λaX=>
 cM (lz) λaY=>
 cW (fj FU x a2.aip aY 1) λaZ a6=>
 cM (lT 0) λa7=>
 cM (rY 17 aX aZ w a7) λa8=>
 some (a8,a6)
 else d x
 else if dj b 11 then
 cW (fj FU a a2.aip H 1) λa_ a'=>
 cM (yd a_) λba=>
 some (ba,a')
 else if dj b 12 then
 cW (fj FU a a2.aip H 1) λbb bc=>
 cW (fj FU bc a2.aip H 1) λj bd=>
 cM (iP j) λbf=>
 cM (iP j) λbg=>
 cM (kV bf bg) λbh=>
 cM (jx bb) λbj=>
 cM (jx j) λbk=>
 cM (qJ bh bj bk) λbl=>
 some (bl,bd)
 else if dj b 13 then
 cW (iu FU a 0) λy bm=>
 cM (pg a2 [y]) λbn=>
 cW (B1 bm bn) λbo bp=>
 cM (pF 8 y bo) λbq=>
 cM (jV 20 [bq]) λbr=>
 some (br,bp)
 else if dj b 14 then
 cW (iu FU a 1) λA bs=>
 cM (pg a2 [A]) λbt=>
 cW (h7 n bs a1 bt (ea .i64 a3 1)) λbu bw=>
 cM (pF 12 A bu) λbz=>
 some (bz,bw)
 else if dj b 15 then
 cW (iu FU a 1) λk bA=>
 cW (fj FU bA a2.aip k 1) λbB bC=>
 cM (pg a2 [k]) λbD=>
 cW (h7 n bC a1 bD (ea .i64 a3 1)) λbE bF=>
 cM (pF 12 k bE) λbG=>
 cM (sV 13 bB bG) λbH=>
 some (bH,bF)
 else d a
 else d a0
def v_:Nat->dd->(List Fm)->Sq->Int->Option (Pf×dd)
 |0,_,_,_,_=>none|n+1,a0,a1,a2,a3=>
 gX (sG a0 a2) λf c d7=>
 de (λ(v24:Int) (v25:Int) (v26:dd) (v27:Int)=>
 cM (dg c.aim 0) λv=>
 cM (gA) λw=>
 cM (pg a2 [w]) λx=>
 cM (xn x v) λy=>
 cW (h7 n v26 a1 y (ea .i64 a3 1)) λa d101=>
 de (λ(h:Int) (v145:Int) (v146:Int) (i:List Ty) (v148:List Tm) (j:List Fm) (k:List Pf) (l:dd)=>
 cM (jV v24 [(Pf.mk v25 f.aio f.cT f.dc [(Fm.mk v27 c.cT c.dc c.aim)] f.aim),(Pf.mk h v145 (Ty.mk v146 i) v148 j k)]) λo=>
 some (o,l)) λd=>
 cW (et d101 2) λq d163=>
 if dj q 0 then
 cM (fL FU (Fm.mk v27 c.cT c.dc c.aim) 0 1) λr=>
 cM (eK 0) λs=>
 cM (lT 0) λt=>
 cM (sQ v25 r s t) λb=>
 d b.ail b.aio b.cT.ail b.cT.aim b.dc b.eh b.aim d163
 else d a.ail a.aio a.cT.ail a.cT.aim a.dc a.eh a.aim d163) λu=>
 cW (et d7 3) λA d39=>
 if dj A 0 then
 u 15 14 d39 7
 else u 11 f.ail d39 c.ail
end
def uu(a0:dd)(a1:List Fm)(a2:Sq)(a3:Int):Option (Pf×qV×dd):=
 de ((rI λ(v109:Int) (a:dd)=>
 if qT v109 4 then
 cW (h7 FU a a1 a2 a3) λb d134=>
 cW (iC a1 a2 b) λd f=>
 if dj f 0 then
 some (dW.ret (b,d,d134))
 else some (dW.next ((dJ .i64 v109 1),d134))
 else some (dW.brk (v109,a)))) λh=>
 cM (nk h FU (0,a0)) (eB (rI λ(v109:Int) (a:dd)=>
 cW (et a 4) λi d150=>
 cM (tf i) λj=>
 cM (jx j) λc=>
 cW (iC a1 a2 c) λk l=>
 some (c,k,d150)) (λr=>some r))
def ss(a0:dd):Option (sJ×dd):=
 de ((X5 λ(a:Int) (b:List iz) (A:dd)=>
 cW (et A 4) λF B=>
 if qT a (dJ .i64 2 F)then
 gX (uu B [] (Sq.mk [] []) 1) λc v G=>
 cW (et G 3) λH I=>
 de ((Ve λ(y:Int) (f:Int) (h:Int) (i:Int) (j:List Ty) (k:List Tm) (l:List Fm) (n:List Pf) (o:Int) (q:Int) (s:List Ty) (t:List Tm) (u:List Fm) (w:dd)=>
 if en (ly y 0) (ly a 0) false then
 cW (et w a) λC J=>
 cM (jV 3 [(Pf.mk f h (Ty.mk i j) k l n),(Pf.mk 2 C (Ty.mk 0 []) [] [] [])]) λd=>
 cM (dg b C) λK=>
 cM (kb 2 (Fm.mk o (Ty.mk q s) t u) K.cU) λx=>
 some (dW.next ((ea .i64 y 1),d.ail,d.aio,d.cT.ail,d.cT.aim,d.dc,d.eh,d.aim,x.ail,x.cT.ail,x.cT.aim,x.dc,x.aim,J))
 else some (dW.brk (y,f,h,i,j,k,l,n,o,q,s,t,u,w)))) λL=>
 cM (nk L FU (H,c.ail,c.aio,c.cT.ail,c.cT.aim,c.dc,c.eh,c.aim,v.cU.ail,v.cU.cT.ail,v.cU.cT.aim,v.cU.dc,v.cU.aim,I)) (eB (Ve λ(y:Int) (f:Int) (h:Int) (i:Int) (j:List Ty) (k:List Tm) (l:List Fm) (n:List Pf) (o:Int) (q:Int) (s:List Ty) (t:List Tm) (u:List Fm) (w:dd)=>
 de (λ(M:Bool)=>
 if M then
 some (dW.ret ((sJ.mk b),w))
 else e_ (eI b [(iz.mk (En [(conv .u8 (dJ .i64 97 a))]) (Fm.mk o (Ty.mk q s) t u) (Pf.mk f h (Ty.mk i j) k l n))])<|some (dW.next ((dJ .i64 a 1),(fk b [(iz.mk (En [(conv .u8 (dJ .i64 97 a))]) (Fm.mk o (Ty.mk q s) t u) (Pf.mk f h (Ty.mk i j) k l n))]),w))) λD=>
 cM (iH (Fm.mk o (Ty.mk q s) t u)) λN=>
 if dx N 0 then
 D true
 else cM (np (Pf.mk f h (Ty.mk i j) k l n)) λO=>
 D (dx O 0)) (λr=>some (dW.ret r)))
 else some (dW.brk (a,b,B)))) λP=>
 cM (nk P FU (0,[],a0)) (eB (X5 λ(a:Int) (b:List iz) (A:dd)=>
 some ((sJ.mk b),A)) (λr=>some r))
end Go.eU
