/- Part of the proof of KernelAccepts, KernelDoes: models. -/
import Derived.Test.YtobcafblgapgfaaGreatDoorL16
set_option linter.all false
namespace Go.fB
open Go
inductive Ty where
 |mk (acS:Int) (acT:List Ty)
def Ty.acS:Ty->Int|.mk x _=>x
def Ty.acT:Ty->(List Ty)|.mk _ x=>x
@[simp] theorem Ty.dn(acS:Int)(acT:List Ty):(Ty.mk acS acT).acS=acS:=rfl
@[simp] theorem Ty.dd(acS:Int)(acT:List Ty):(Ty.mk acS acT).acT=acT:=rfl
@[simp] theorem Ty.ku(x:Ty):Ty.mk x.acS x.acT=x:=by cases x;rfl
instance:Inhabited Ty:=⟨.mk default default⟩
inductive Tm where
 |mk (acS:Int) (acV:Int) (cP:Ty) (acT:List Tm)
def Tm.acS:Tm->Int|.mk x _ _ _=>x
def Tm.acV:Tm->Int|.mk _ x _ _=>x
def Tm.cP:Tm->Ty|.mk _ _ x _=>x
def Tm.acT:Tm->(List Tm)|.mk _ _ _ x=>x
@[simp] theorem Tm.dn(acS acV:Int)(cP:Ty)(acT:List Tm):(Tm.mk acS acV cP acT).acS=acS:=rfl
@[simp] theorem Tm.eP(acS acV:Int)(cP:Ty)(acT:List Tm):(Tm.mk acS acV cP acT).acV=acV:=rfl
@[simp] theorem Tm.dR(acS acV:Int)(cP:Ty)(acT:List Tm):(Tm.mk acS acV cP acT).cP=cP:=rfl
@[simp] theorem Tm.dd(acS acV:Int)(cP:Ty)(acT:List Tm):(Tm.mk acS acV cP acT).acT=acT:=rfl
@[simp] theorem Tm.ku(x:Tm):Tm.mk x.acS x.acV x.cP x.acT=x:=by cases x;rfl
instance:Inhabited Tm:=⟨.mk default default default default⟩
inductive Fm where
 |mk (acS:Int) (cP:Ty) (c9:List Tm) (acT:List Fm)
def Fm.acS:Fm->Int|.mk x _ _ _=>x
def Fm.cP:Fm->Ty|.mk _ x _ _=>x
def Fm.c9:Fm->(List Tm)|.mk _ _ x _=>x
def Fm.acT:Fm->(List Fm)|.mk _ _ _ x=>x
@[simp] theorem Fm.dn(acS:Int)(cP:Ty)(c9:List Tm)(acT:List Fm):(Fm.mk acS cP c9 acT).acS=acS:=rfl
@[simp] theorem Fm.dR(acS:Int)(cP:Ty)(c9:List Tm)(acT:List Fm):(Fm.mk acS cP c9 acT).cP=cP:=rfl
@[simp] theorem Fm.fU(acS:Int)(cP:Ty)(c9:List Tm)(acT:List Fm):(Fm.mk acS cP c9 acT).c9=c9:=rfl
@[simp] theorem Fm.dd(acS:Int)(cP:Ty)(c9:List Tm)(acT:List Fm):(Fm.mk acS cP c9 acT).acT=acT:=rfl
@[simp] theorem Fm.ku(x:Fm):Fm.mk x.acS x.cP x.c9 x.acT=x:=by cases x;rfl
instance:Inhabited Fm:=⟨.mk default default default default⟩
structure Sq where
 acW:(List Ty)
 acZ:(List Fm)
@[simp] theorem Sq.ku(x:Sq):Sq.mk x.acW x.acZ=x:=rfl
instance:Inhabited Sq:=⟨.mk default default⟩
inductive Pf where
 |mk (acS:Int) (acV:Int) (cP:Ty) (c9:List Tm) (dV:List Fm) (acT:List Pf)
def Pf.acS:Pf->Int|.mk x _ _ _ _ _=>x
def Pf.acV:Pf->Int|.mk _ x _ _ _ _=>x
def Pf.cP:Pf->Ty|.mk _ _ x _ _ _=>x
def Pf.c9:Pf->(List Tm)|.mk _ _ _ x _ _=>x
def Pf.dV:Pf->(List Fm)|.mk _ _ _ _ x _=>x
def Pf.acT:Pf->(List Pf)|.mk _ _ _ _ _ x=>x
@[simp] theorem Pf.dn(acS acV:Int)(cP:Ty)(c9:List Tm)(dV:List Fm)(acT:List Pf):(Pf.mk acS acV cP c9 dV acT).acS=acS:=rfl
@[simp] theorem Pf.eP(acS acV:Int)(cP:Ty)(c9:List Tm)(dV:List Fm)(acT:List Pf):(Pf.mk acS acV cP c9 dV acT).acV=acV:=rfl
@[simp] theorem Pf.dR(acS acV:Int)(cP:Ty)(c9:List Tm)(dV:List Fm)(acT:List Pf):(Pf.mk acS acV cP c9 dV acT).cP=cP:=rfl
@[simp] theorem Pf.fU(acS acV:Int)(cP:Ty)(c9:List Tm)(dV:List Fm)(acT:List Pf):(Pf.mk acS acV cP c9 dV acT).c9=c9:=rfl
@[simp] theorem Pf.Cg(acS acV:Int)(cP:Ty)(c9:List Tm)(dV:List Fm)(acT:List Pf):(Pf.mk acS acV cP c9 dV acT).dV=dV:=rfl
@[simp] theorem Pf.dd(acS acV:Int)(cP:Ty)(c9:List Tm)(dV:List Fm)(acT:List Pf):(Pf.mk acS acV cP c9 dV acT).acT=acT:=rfl
@[simp] theorem Pf.ku(x:Pf):Pf.mk x.acS x.acV x.cP x.c9 x.dV x.acT=x:=by cases x;rfl
instance:Inhabited Pf:=⟨.mk default default default default default default⟩
structure p_ where
 cR:Fm
 fk:(List Int)
@[simp] theorem p_.ku(x:p_):p_.mk x.cR x.fk=x:=rfl
instance:Inhabited p_:=⟨.mk default default⟩
structure cV where
 l:(List Int)
 oU:Int
@[simp] theorem cV.ku(x:cV):cV.mk x.l x.oU=x:=rfl
instance:Inhabited cV:=⟨.mk default default⟩
structure cL where
 cR:Fm
 fk:Int
@[simp] theorem cL.ku(x:cL):cL.mk x.cR x.fk=x:=rfl
instance:Inhabited cL:=⟨.mk default default⟩
structure dA where
 vars:Int
 acZ:Int
@[simp] theorem dA.ku(x:dA):dA.mk x.vars x.acZ=x:=rfl
instance:Inhabited dA:=⟨.mk default default⟩
structure cM where
 cP:Ty
 acU:Int
@[simp] theorem cM.ku(x:cM):cM.mk x.cP x.acU=x:=rfl
instance:Inhabited cM:=⟨.mk default default⟩
structure cZ where
 cR:Fm
 vars:Int
@[simp] theorem cZ.ku(x:cZ):cZ.mk x.cR x.vars=x:=rfl
instance:Inhabited cZ:=⟨.mk default default⟩
structure cQ where
 eK:dA
 acW:(List cM)
 known:(List cZ)
@[simp] theorem cQ.ku(x:cQ):cQ.mk x.eK x.acW x.known=x:=rfl
instance:Inhabited cQ:=⟨.mk default default default⟩
structure cS where
 lemmas:(List Fm)
 acW:(List Ty)
 acZ:(List Fm)
@[simp] theorem cS.ku(x:cS):cS.mk x.lemmas x.acW x.acZ=x:=rfl
instance:Inhabited cS:=⟨.mk default default default⟩
structure c0 where
 acU:Int
 gJ:Bool
@[simp] theorem c0.ku(x:c0):c0.mk x.acU x.gJ=x:=rfl
instance:Inhabited c0:=⟨.mk default default⟩
structure dE where
 acS:Int
 base:Tm
 vars:(List Ty)
 next:Tm
@[simp] theorem dE.ku(x:dE):dE.mk x.acS x.base x.vars x.next=x:=rfl
instance:Inhabited dE:=⟨.mk default default default default⟩
structure dU where
 c9:Int
 dV:Int
 acT:Int
 acV:Bool
 o0:Bool
@[simp] theorem dU.ku(x:dU):dU.mk x.c9 x.dV x.acT x.acV x.o0=x:=rfl
instance:Inhabited dU:=⟨.mk default default default default default⟩
structure ef where
 acV:Bool
 typed:Bool
 c9:Int
 dV:Int
 acT:Int
 s8:Int
 vars:Int
 acZ:Int
@[simp] theorem ef.ku(x:ef):ef.mk x.acV x.typed x.c9 x.dV x.acT x.s8 x.vars x.acZ=x:=rfl
instance:Inhabited ef:=⟨.mk default default default default default default default default⟩
structure ew where
 term:(Option Nat)
 steps:Int
@[simp] theorem ew.ku(x:ew):ew.mk x.term x.steps=x:=rfl
structure dr where
 acS:Int
 acV:Int
 o0:Ty
 acT:(List (Option Nat))
 size:Int
 free:Int
 normal:Bool
@[simp] theorem dr.ku(x:dr):dr.mk x.acS x.acV x.o0 x.acT x.size x.free x.normal=x:=rfl
inductive HC where
 |eH (x:ew)|dt (x:dr)
def HC.dP(l:List HC)(p:Nat):Option ew:=match l[p]?with|some (.eH x)=>some x|_=>none
def HC.fw{l:List HC}{p:Nat}{x:ew}(h:HC.dP l p=some x):l[p]?=some (.eH x):=by
 unfold HC.dP at h
 split at h
 ·rename_i e;rw[e];rw[gh h]
 ·cases h
def HC.cY(l:List HC)(p:Nat):Option dr:=match l[p]?with|some (.dt x)=>some x|_=>none
def HC.c7{l:List HC}{p:Nat}{x:dr}(h:HC.cY l p=some x):l[p]?=some (.dt x):=by
 unfold HC.cY at h
 split at h
 ·rename_i e;rw[e];rw[gh h]
 ·cases h
def jt(l:List HC)(p:Nat)(x:HC):List HC:=l.set p x
def kK:List Int:=[0,1,28,2,29,14,24,3,30,22,20,15,25,17,4,8,31,27,13,23,21,19,16,7,26,12,18,6,11,5,10,9]
def oh:List ef:=[⟨false,false,0,0,0,0,0,0⟩,⟨true,false,0,0,0,0,0,0⟩,⟨true,false,0,0,0,0,0,0⟩,⟨false,false,0,0,2,0,0,0⟩,⟨false,false,0,0,1,0,0,0⟩,⟨false,false,0,0,1,0,0,0⟩,⟨false,false,0,1,1,0,0,1⟩,⟨false,false,0,0,2,0,0,0⟩,⟨false,true,0,0,1,0,1,0⟩,⟨false,false,1,0,1,0,0,0⟩,⟨false,false,1,1,1,0,0,0⟩,⟨false,false,0,0,2,0,1,1⟩,⟨false,true,0,0,1,0,1,0⟩,⟨false,false,1,0,1,0,0,0⟩,⟨false,false,1,1,1,0,0,0⟩,⟨false,false,0,0,2,0,1,1⟩,⟨false,false,1,1,2,1,1,1⟩,⟨false,false,1,1,2,1,2,1⟩,⟨false,false,1,0,0,0,0,0⟩,⟨false,false,0,1,2,1,0,0⟩,⟨false,false,0,0,1,0,0,0⟩]
def pZ:List Int:=[0,0,1,2,0,1,3,0,2,3,2,1,1,0]
end Go.fB
set_option maxRecDepth 20000
namespace Go.fB
open Go
def gr:Option Ty:=some (Ty.mk 1 [])
def ez(a0:Int):Option Tm:=some (Tm.mk 1 a0 (Ty.mk 0 []) [])
def gE:Nat->Ty->Option Ty
 |0,_=>none|n+1,a0=>fD (dK a0.acT)<|df (λ(d:Int) (b:Ty)=>(λ(v40:List Ty)=>cI (gE n b) λa=>fD (eJ v40 [a])<|some (.next (fa v40 [a]))):Int->Ty->(List Ty)->(Option (eL (List Ty) (Ty)))) λc=>cI (dN c a0.acT 0 []) (eG (λ(v40:List Ty)=>some (Ty.mk a0.acS v40)) (λr=>some r))
def iF:Nat->Tm->Option Tm
 |0,_=>none|n+1,a0=>fD (dK a0.acT)<|df (λ(e:Int) (b:Tm)=>(λ(v40:List Tm)=>cI (iF n b) λa=>fD (eJ v40 [a])<|some (.next (fa v40 [a]))):Int->Tm->(List Tm)->(Option (eL (List Tm) (Tm)))) λc=>cI (dN c a0.acT 0 []) (eG (λ(v40:List Tm)=>cI (gE FU a0.cP) λd=>some (Tm.mk a0.acS a0.acV d v40)) (λr=>some r))
def jE(a0:Tm):Option Pf:=cI (iF FU a0) λa=>some (Pf.mk 18 0 (Ty.mk 0 []) [a] [] [])
def iq:Nat->Fm->Option Fm
 |0,_=>none|n+1,a0=>cI (gE FU a0.cP) λi=>fD (dK a0.c9)<|df (λ(j:Int) (f:Tm)=>(λ(v72:List Tm)=>cI (iF FU f) λc=>fD (eJ v72 [c])<|some (.next (fa v72 [c]))):Int->Tm->(List Tm)->(Option (eL (List Tm) (Fm)))) λg=>cI (dN g a0.c9 0 []) (eG (λ(v72:List Tm)=>fD (dK a0.acT)<|df (λ(h:Int) (d:Fm)=>(λ(a:List Fm)=>cI (iq n d) λb=>fD (eJ a [b])<|some (.next (fa a [b]))):Int->Fm->(List Fm)->(Option (eL (List Fm) (Fm)))) λe=>cI (dN e a0.acT 0 []) (eG (λ(a:List Fm)=>some (Fm.mk a0.acS i v72 a)) (λr=>some r))) (λr=>some r))
def kS:Nat->Pf->Option Pf
 |0,_=>none|n+1,a0=>cI (gE FU a0.cP) λo=>fD (dK a0.c9)<|df (λ(p:Int) (j:Tm)=>(λ(v72:List Tm)=>cI (iF FU j) λe=>fD (eJ v72 [e])<|some (.next (fa v72 [e]))):Int->Tm->(List Tm)->(Option (eL (List Tm) (Pf)))) λk=>cI (dN k a0.c9 0 []) (eG (λ(v72:List Tm)=>fD (dK a0.dV)<|df (λ(l:Int) (f:Fm)=>(λ(a:List Fm)=>cI (iq FU f) λc=>fD (eJ a [c])<|some (.next (fa a [c]))):Int->Fm->(List Fm)->(Option (eL (List Fm) (Pf)))) λg=>cI (dN g a0.dV 0 []) (eG (λ(a:List Fm)=>fD (dK a0.acT)<|df (λ(m:Int) (h:Pf)=>(λ(b:List Pf)=>cI (kS n h) λd=>fD (eJ b [d])<|some (.next (fa b [d]))):Int->Pf->(List Pf)->(Option (eL (List Pf) (Pf)))) λi=>cI (dN i a0.acT 0 []) (eG (λ(b:List Pf)=>some (Pf.mk a0.acS a0.acV o v72 a b)) (λr=>some r))) (λr=>some r))) (λr=>some r))
def lZ(a0:Int)(a1:List Pf):Option Pf:=fD (dK a1)<|df (λ(e:Int) (c:Pf)=>(λ(a:List Pf)=>cI (kS FU c) λb=>fD (eJ a [b])<|some (.next (fa a [b]))):Int->Pf->(List Pf)->(Option (eL (List Pf) (Pf)))) λd=>cI (dN d a1 0 []) (eG (λ(a:List Pf)=>some (Pf.mk a0 0 (Ty.mk 0 []) [] [] a)) (λr=>some r))
def oG(a0:Int)(a1:Ty)(a2:Pf):Option Pf:=cI (lZ a0 [a2]) λa=>cI (gE FU a1) λb=>some (Pf.mk a.acS a.acV b a.c9 a.dV a.acT)
def lS:Nat->Ty->Option (Int×Bool)
 |0,_=>none|n+1,a0=>df (λ(v10:Int)=>if dw (di a0.acT) v10 then some (0,false)else fD (dK a0.acT)<|df (λ(g:Int) (c:Ty)=>(λ(a:Int)=>cT (lS n c) λd e=>if e then some (.next (dF .i64 a d))else some (.ret (0,false))):Int->Ty->(Int)->(Option (eL (Int) (Int×Bool)))) λf=>cI (dN f a0.acT 0 1) (eG (λ(a:Int)=>some (a,true)) (λr=>some r))) λb=>if eu (dg a0.acS 1) true (eu (dg a0.acS 2) true (dg a0.acS 5))then b 0 else if eu (dg a0.acS 3) true (dg a0.acS 4)then b 2 else some (0,false)
def ir(a0:Ty):Option (Int×Int):=cT (lS FU a0) λa b=>if b then if kZ a 64 then some (0,4)else some (a,0)else some (0,2)
def ll(a0:Ty):Option Int:=cT (ir a0) λb a=>some a
def m0(a0:List Ty):Option Int:=if kZ (di a0) 16 then some 3 else fD (dK a0)<|df (λ(d:Int) (b:Ty)=>(λ(_:Unit)=>cI (ll b) λa=>if dw a 0 then some (.ret a)else some (.next ())):Int->Ty->(Unit)->(Option (eL (Unit) (Int)))) λc=>cI (dN c a0 0 ()) (eG (λ(_:Unit)=>some 0) (λr=>some r))
def nN(a0:Ty):Option Bool:=some (eu (dg a0.acS 0) (dg (di a0.acT) 0) false)
def qZ(a0:Fm):Option Bool:=df (λ(v10:Int) (v11:Int) (v12:Bool)=>df (some (eu (dg (di a0.c9) v10) (dg (di a0.acT) v11) false)) λb=>if v12 then cT (ir a0.cP) λe c=>if dw c 0 then some false else b else cI (nN a0.cP) λd=>if d then b else some false) λa=>if dg a0.acS 1 then a 2 0 false else if eu (dg a0.acS 2) true (dg a0.acS 3)then a 0 2 false else if eu (dg a0.acS 4) true (eu (dg a0.acS 5) true (eu (dg a0.acS 6) true (dg a0.acS 7)))then a 0 1 true else some false
def uG(a0:Int):Option (Int×Bool):=if eu (qj a0 1) true (sM a0 14)then some (0,false)else cI (de pZ a0) λa=>some (a,true)
def uO(a0:Int):Option Bool:=some (eu (dg a0 2) true (eu (dg a0 6) true (dg a0 9)))
def iW:Nat->Tm->Option (Int×Bool)
 |0,_=>none|n+1,a0=>cT (uG a0.acS) λj k=>if eu k (eu (dw (di a0.acT) j) true (eu (qj a0.acV 0) true (eu (dw a0.acV 0) (dw a0.acS 1) false))) true then some (0,false)else df (fD (dK a0.acT)<|df (λ(l:Int) (f:Tm)=>(λ(a:Int)=>cT (iW n f) λb c=>if c then some (.next (dF .i64 a b))else some (.ret (0,false))):Int->Tm->(Int)->(Option (eL (Int) (Int×Bool)))) λd=>cI (dN d a0.acT 0 1) (eG (λ(a:Int)=>some (a,true)) (λr=>some r))) λe=>cI (uO a0.acS) λg=>if g then cT (ir a0.cP) λm h=>if dw h 0 then some (0,false)else e else cI (nN a0.cP) λi=>if i then e else some (0,false)
def iP:Nat->Fm->Option (Int×Bool)
 |0,_=>none|n+1,a0=>cI (qZ a0) λk=>if k then fD (dK a0.c9)<|df (λ(l:Int) (f:Tm)=>(λ(v72:Int)=>cT (iW FU f) λg h=>if h then some (.next (dF .i64 v72 g))else some (.ret (0,false))):Int->Tm->(Int)->(Option (eL (Int) (Int×Bool)))) λi=>cI (dN i a0.c9 0 1) (eG (λ(v72:Int)=>fD (dK a0.acT)<|df (λ(j:Int) (b:Fm)=>(λ(a:Int)=>cT (iP n b) λc d=>if d then some (.next (dF .i64 a c))else some (.ret (0,false))):Int->Fm->(Int)->(Option (eL (Int) (Int×Bool)))) λe=>cI (dN e a0.acT 0 v72) (eG (λ(a:Int)=>some (a,true)) (λr=>some r))) (λr=>some r))else some (0,false)
def hB(a0:Fm):Option (Int×Int):=cT (iP FU a0) λa b=>if b then if kZ a 4096 then some (0,4)else some (a,0)else some (0,2)
def ju(a0:Fm):Option Int:=cT (hB a0) λb a=>some a
def mg(a0:Ty):Option cM:=cT (ir a0) λa b=>some (cM.mk a0 a)
def nK(a0:List Ty):Option (List cM):=fD (dK a0)<|df (λ(d:Int) (b:Ty)=>(λ(v40:List cM)=>cI (mg b) λa=>fD (eJ v40 [a])<|some (.next (fa v40 [a]))):Int->Ty->(List cM)->(Option (eL (List cM) (List cM)))) λc=>cI (dN c a0 0 []) (eG (λ(v40:List cM)=>some v40) (λr=>some r))
def e_(a0:List cM)(a1:List Ty):Option (List cM):=cI (nK a1) λa=>fD (eJ a0 a)<|some (fa a0 a)
def qY(a0:Int)(a1 a2:cM):Option (cM×Int):=if kZ (dF .i64 (dF .i64 1 a1.acU) a2.acU) 64 then some ((cM.mk (Ty.mk 0 []) 0),4)else some ((cM.mk (Ty.mk a0 [a1.cP,a2.cP]) (dF .i64 (dF .i64 1 a1.acU) a2.acU)),0)
def jb(a0:Int):Option (List Int):=if dg a0 4 then some [1] else if dg a0 5 then some [1,1] else if dg a0 7 then some [2] else if dg a0 8 then some [2,1,2] else if dg a0 13 then some [5] else some []
def iw(a0:cM)(a1:Int):Option Bool:=some (dg a0.cP.acS a1)
def iM(a0:cM)(a1:Int):Option cM:=cI (de a0.cP.acT a1) λa=>cI (mg a) λb=>some b
def fP:Nat->Ty->Ty->Option Bool
 |0,_,_=>none|n+1,a0,a1=>if eu (dw a0.acS a1.acS) true (dw (di a0.acT) (di a1.acT))then some false else fD (dK a0.acT)<|df (λ(c:Int) (d:Ty)=>(λ(_:Unit)=>cI (de a1.acT c) λa=>cI (fP n d a) λb=>if b then some (.next ())else some (.ret false)):Int->Ty->(Unit)->(Option (eL (Unit) (Bool)))) λe=>cI (dN e a0.acT 0 ()) (eG (λ(_:Unit)=>some true) (λr=>some r))
def jx(a0 a1:cM):Option Bool:=df (λ(v6:Bool)=>some v6) λa=>if dg a0.acU a1.acU then cI (fP FU a0.cP a1.cP) λb=>a b else a false
def mo:Option Ty:=some (Ty.mk 1 [])
def xe:Option Ty:=some (Ty.mk 2 [])
def oo(a0:Ty)(a1:List Ty):Option Ty:=df ((Mp λ(a:Int) (v49:Int) (b:List Ty)=>if sM a 0 then cI (de a1 a) λc=>some (.next ((dZ .i64 a 1),4,[c,(Ty.mk v49 b)]))else some (.AI (a,v49,b))):(Int×Int×(List Ty))->(Option (eL (Int×Int×(List Ty)) (Ty)))) λd=>cI (lp d FU ((dZ .i64 (di a1) 1),a0.acS,a0.acT)) (eG (Mp λ(a:Int) (v49:Int) (b:List Ty)=>some (Ty.mk v49 b)) (λr=>some r))
def pF(a0:Tm):Option Ty:=if dg a0.acS 9 then cI (mo) λa=>cI (xe) λb=>cI (oo a0.cP [a,b,a0.cP]) λc=>some c else cI (mo) λd=>cI (oo a0.cP [d,a0.cP]) λe=>some e
def fi(a0:Tm)(a1:cM×cM×cM):Option (cM×Int):=cI (jb a0.acS) λa=>if kZ (di a) 0 then cI (AT a 1 (di a)) λf=>fD (dK f)<|df (λ(b:Int) (c:Int)=>(λ(_:Unit)=>df (λ(v222:Bool)=>if v222 then some (.ret ((cM.mk (Ty.mk 0 []) 0),7))else some (.next ())) λd=>if dg b 0 then cI (iw a1.1 c) λi=>d (qf i)else if dg b 1 then cI (iw a1.2.1 c) λj=>d (qf j)else fD (dg b 2)<|cI (iw a1.2.2 c) λk=>d (qf k)):Int->Int->(Unit)->(Option (eL (Unit) (cM×Int)))) λl=>cI (dN l f 0 ()) (eG (λ(_:Unit)=>cI (de a 0) λm=>cI (mg (Ty.mk m [])) λn=>some (n,0)) (λr=>some r))else if dg a0.acS 3 then df (λ(o:Bool)=>if o then some ((cM.mk (Ty.mk 0 []) 0),7)else cI (iM a1.1 1) λp=>some (p,0)) λg=>cI (iw a1.1 4) λq=>if q then cI (iM a1.1 0) λs=>cI (jx s a1.2.1) λt=>g (qf t)else g true else if eu (dg a0.acS 6) true (dg a0.acS 9)then cI (mg a0.cP) λh=>df (λ(u:Bool)=>if u then some ((cM.mk (Ty.mk 0 []) 0),7)else some (h,0)) λe=>cI (jx a1.1 h) λv=>if v then cI (pF a0) λw=>cI (fP FU a1.2.1.cP w) λx=>if x then cI (iw a1.2.2 (eu (dg a0.acS 9) 2 1)) λy=>e (qf y)else e true else e true else if dg a0.acS 10 then cT (qY 3 a1.1 a1.2.1) λz A=>some (z,A)else cI (iw a1.1 3) λB=>if B then if dg a0.acS 11 then cI (iM a1.1 0) λC=>some (C,0)else cI (iM a1.1 1) λD=>some (D,0)else some ((cM.mk (Ty.mk 0 []) 0),7)
def dz:Nat->(List cM)->Tm->Option (cM×Int)
 |0,_,_=>none|n+1,a0,a1=>if dg a1.acS 1 then if sM a1.acV (di a0)then some ((cM.mk (Ty.mk 0 []) 0),6)else cI (de a0 (dZ .i64 (dZ .i64 (di a0) 1) a1.acV)) λF=>some (F,0)else if dg a1.acS 2 then cI (mg a1.cP) λk=>fD (eJ a0 [k])<|cI (de a1.acT 0) λB=>cT (dz n (fa a0 [k]) B) λC l=>if dw l 0 then some ((cM.mk (Ty.mk 0 []) 0),l)else cT (qY 4 k C) λD E=>some (D,E)else fD (dK a1.acT)<|df (λ(i:Int) (m:Tm)=>(Yh λ(b:Int) (c:List Ty) (v218:Int) (d:Int) (e:List Ty) (f:Int) (v222:Int) (g:List Ty) (h:Int)=>df (λ(o:Int) (p:List Ty) (q:Int) (s:Int) (t:List Ty) (u:Int) (v:Int) (w:List Ty) (x:Int)=>some (.next (o,p,q,s,t,u,v,w,x))) λj250=>cT (dz n a0 m) λa j=>if dw j 0 then some (.ret ((cM.mk (Ty.mk 0 []) 0),j))else if dg i 0 then j250 a.cP.acS a.cP.acT a.acU d e f v222 g h else if dg i 1 then j250 b c v218 a.cP.acS a.cP.acT a.acU v222 g h else fD (dg i 2)<|j250 b c v218 d e f a.cP.acS a.cP.acT a.acU):Int->Tm->(Int×(List Ty)×Int×Int×(List Ty)×Int×Int×(List Ty)×Int)->(Option (eL (Int×(List Ty)×Int×Int×(List Ty)×Int×Int×(List Ty)×Int) (cM×Int)))) λy=>cI (dN y a1.acT 0 (0,[],0,0,[],0,0,[],0)) (eG (Yh λ(b:Int) (c:List Ty) (v218:Int) (d:Int) (e:List Ty) (f:Int) (v222:Int) (g:List Ty) (h:Int)=>cT (fi a1 ((cM.mk (Ty.mk b c) v218),(cM.mk (Ty.mk d e) f),(cM.mk (Ty.mk v222 g) h))) λz A=>some (z,A)) (λr=>some r))
def gG(a0:List cM)(a1:Tm)(a2:Int):Option Int:=cT (dz FU a0 a1) λd c=>df (λ(v21:Bool)=>if v21 then some 7 else some c) λa=>if dg c 0 then cI (iw d a2) λb=>a (qf b)else a false
def gw(a0:List cM)(a1:Tm):Option Int:=cI (gG a0 a1 1) λa=>some a
def dy:Nat->(List cM)->Fm->Option Int
 |0,_,_=>none|n+1,a0,a1=>df (λ(e:List cM)=>fD (dK a1.acT)<|df (λ(k:Int) (f:Fm)=>(λ(_:Unit)=>cI (dy n e f) λa=>if dw a 0 then some (.ret a)else some (.next ())):Int->Fm->(Unit)->(Option (eL (Unit) (Int)))) λg=>cI (dN g a1.acT 0 ()) (eG (λ(_:Unit)=>some 0) (λr=>some r))) λb=>df (cI (e_ a0 [a1.cP]) λh=>b h) λc=>if eu (dg a1.acS 4) true (dg a1.acS 5)then c else if eu (dg a1.acS 6) true (dg a1.acS 7)then c else if eu (dg a1.acS 2) true (dg a1.acS 3)then b a0 else fD (dK a1.c9)<|df (λ(l:Int) (i:Tm)=>(λ(_:Unit)=>cI (gw a0 i) λd=>if dw d 0 then some (.ret d)else some (.next ())):Int->Tm->(Unit)->(Option (eL (Unit) (Int)))) λj=>cI (dN j a1.c9 0 ()) (eG (λ(_:Unit)=>some 0) (λr=>some r))
def lz(a0:List Ty)(a1:Fm):Option Int:=cI (m0 a0) λd=>if dw d 0 then some d else cI (ju a1) λa=>if dw a 0 then some a else cI (nK a0) λb=>cI (dy FU b a1) λc=>some c
def rM(a0:List Fm)(a1:Sq):Option Int:=if kZ (di a0) 32 then some 3 else fD (dK a0)<|df (λ(h:Int) (d:Fm)=>(λ(_:Unit)=>cI (lz [] d) λa=>if dw a 0 then some (.ret a)else some (.next ())):Int->Fm->(Unit)->(Option (eL (Unit) (Int)))) λe=>cI (dN e a0 0 ()) (eG (λ(_:Unit)=>cI (m0 a1.acW) λb=>if dw b 0 then some b else if kZ (di a1.acZ) 16 then some 3 else fD (dK a1.acZ)<|df (λ(i:Int) (f:Fm)=>(λ(_:Unit)=>cI (lz a1.acW f) λc=>if dw c 0 then some (.ret c)else some (.next ())):Int->Fm->(Unit)->(Option (eL (Unit) (Int)))) λg=>cI (dN g a1.acZ 0 ()) (eG (λ(_:Unit)=>some 0) (λr=>some r))) (λr=>some r))
def o9(a0:Int):Option (ef×Bool):=if eu (qj a0 1) true (sM a0 21)then some ((ef.mk false false 0 0 0 0 0 0),false)else cI (de oh a0) λa=>some (a,true)
def jB(a0:Tm):Option (Int×Int):=cT (iW FU a0) λa b=>if b then if kZ a 4096 then some (0,4)else some (a,0)else some (0,2)
def gf(a0:c0)(a1 a2:Int):Option (Bool×c0):=some ((dw a2 2),(eu a0.gJ (c0.mk (dF .i64 a0.acU a1) true) (c0.mk (dF .i64 a0.acU a1) (dg a2 4))))
def gR:Nat->c0->Pf->Option (Bool×c0)
 |0,_,_=>none|n+1,a0,a1=>cT (o9 a1.acS) λd A=>if eu A (eu (qj a1.acV 0) true (eu (dw a1.acV 0) (eu d.acV (eu (dw (di a1.c9) d.c9) true (eu (dw (di a1.dV) d.dV) true (dw (di a1.acT) d.acT))) true) (eu (dw (di a1.c9) d.c9) true (eu (dw (di a1.dV) d.dV) true (dw (di a1.acT) d.acT))))) true then some (false,a0)else df (λ(u:c0)=>fD (dK a1.c9)<|df (λ(B:Int) (v:Tm)=>(λ(a:c0)=>cT (jB v) λf g=>cT (gf a f g) λh d179=>if h then some (.next d179)else some (.ret (false,d179))):Int->Tm->(c0)->(Option (eL (c0) (Bool×c0)))) λi=>cI (dN i a1.c9 0 u) (eG (λ(a:c0)=>fD (dK a1.dV)<|df (λ(y:Int) (j:Fm)=>(λ(b:c0)=>cT (hB j) λk l=>cT (gf b k l) λm d322=>if m then some (.next d322)else some (.ret (false,d322))):Int->Fm->(c0)->(Option (eL (c0) (Bool×c0)))) λo=>cI (dN o a1.dV 0 a) (eG (λ(b:c0)=>fD (dK a1.acT)<|df (λ(z:Int) (p:Pf)=>(λ(c:c0)=>cT (gR n c p) λq e=>if q then some (.next e)else some (.ret (false,e))):Int->Pf->(c0)->(Option (eL (c0) (Bool×c0)))) λs=>cI (dN s a1.acT 0 b) (eG (λ(c:c0)=>some (true,c)) (λr=>some r))) (λr=>some r))) (λr=>some r))) λt=>if d.typed then cT (ir a1.cP) λC w=>if dw w 0 then some (false,(c0.mk (dF .i64 a0.acU 1) a0.gJ))else t (c0.mk (dF .i64 a0.acU 1) a0.gJ)else cI (nN a1.cP) λx=>if x then t (c0.mk (dF .i64 a0.acU 1) a0.gJ)else some (false,(c0.mk (dF .i64 a0.acU 1) a0.gJ))
def qG(a0:Pf):Option (Int×Int):=cT (gR FU (c0.mk 0 false) a0) λa d14=>if a then if eu d14.gJ true (kZ d14.acU 16384)then some (0,4)else some (d14.acU,0)else some (0,2)
def ta(a0:Pf):Option Int:=cT (qG a0) λb a=>some a
def xx:Option Unit:=some ()
def eI(a0:cQ)(a1:Fm):Option cQ:=fD (eJ a0.known [(cZ.mk a1 a0.eK.vars)])<|some (cQ.mk (dA.mk a0.eK.vars (dF .i64 a0.eK.acZ 1)) a0.acW (fa a0.known [(cZ.mk a1 a0.eK.vars)]))
def rO(a0:Sq):Option cQ:=cI (nK a0.acW) λg=>fD (dK a0.acZ)<|df (λ(h:Int) (e:Fm)=>(Yg λ(b:Int) (v46:Int) (c:List cM) (d:List cZ)=>cI (eI (cQ.mk (dA.mk b v46) c d) e) λa=>some (.next (a.eK.vars,a.eK.acZ,a.acW,a.known))):Int->Fm->(Int×Int×(List cM)×(List cZ))->(Option (eL (Int×Int×(List cM)×(List cZ)) (cQ)))) λf=>cI (dN f a0.acZ 0 ((di a0.acW),0,g,[])) (eG (Yg λ(b:Int) (v46:Int) (c:List cM) (d:List cZ)=>some (cQ.mk (dA.mk b v46) c d)) (λr=>some r))
def gy(a0:Int):Option Tm:=some (Tm.mk 1 a0 (Ty.mk 0 []) [])
def tk(a0 a1 a b:Int):Option Tm:=cI (gy (eu (sM (dZ .i64 a0 a1) a) (dF .i64 a0 b) a0)) λc=>some c
def kl:Nat->Ty->Option Ty
 |0,_=>none|n+1,a0=>fD (dK a0.acT)<|df (λ(e:Int) (c:Ty)=>(λ(a:List Ty)=>cI (kl n c) λb=>fD (eJ a [b])<|some (.next (fa a [b]))):Int->Ty->(List Ty)->(Option (eL (List Ty) (Ty)))) λd=>cI (dN d a0.acT 0 []) (eG (λ(a:List Ty)=>some (Ty.mk a0.acS a)) (λr=>some r))
def fT{S:Type}:Nat->Tm->Int->(S->Int->Int->Option (Tm×S))->S->Option (Tm×S)
 |0,_,_,_,_=>none|n+1,a0,a1,c,d=>if dg a0.acS 1 then cT (c d a0.acV a1) λg h=>some (g,h)else cI (kl FU a0.cP) λi=>fD (dK a0.acT)<|df (λ(k:Int) (j:Tm)=>(qw λ(a:List Tm) (v107:S)=>cT (fT n j (eu (dg a0.acS 2) (dF .i64 a1 1) a1) c v107) λb e=>fD (eJ a [b])<|some (.next ((fa a [b]),e))):Int->Tm->((List Tm)×S)->(Option (eL ((List Tm)×S) (Tm×S)))) λf=>cI (dN f a0.acT 0 ([],d)) (eG (qw λ(a:List Tm) (v107:S)=>some ((Tm.mk a0.acS a0.acV i a),v107)) (λr=>some r))
def n8{S:Type}(a0:Tm)(a1:(S->Int->Int->Option (Tm×S)))(a:S):Option (Tm×S):=cT (fT FU a0 0 a1 a) λb c=>some (b,c)
def q4(a0:Tm)(a1 a2:Int):Option Tm:=cT (n8 a0 (λ(s:Unit) (a:Int) (b:Int)=>qv (tk a b a1 a2) s) ()) λc d=>some c
def lX(a0:Tm)(a1 a b:Int):Option Tm:=cI (q4 a0 (dF .i64 a a1) b) λc=>some c
def mf(a0:Int):Option Bool:=some (eu (sM a0 4) (Em a0 7) false)
def dQ{S:Type}:Nat->Fm->Int->(S->Tm->Int->Option (Tm×S))->S->Option (Fm×S)
 |0,_,_,_,_=>none|n+1,a0,a1,a2,l=>cI (kl FU a0.cP) λq=>fD (dK a0.c9)<|df (λ(s:Int) (m:Tm)=>(qw λ(v91:List Tm) (e:S)=>cT (a2 e m a1) λb f=>fD (eJ v91 [b])<|some (.next ((fa v91 [b]),f))):Int->Tm->((List Tm)×S)->(Option (eL ((List Tm)×S) (Fm×S)))) λo=>cI (dN o a0.c9 0 ([],l)) (eG (qw λ(v91:List Tm) (e:S)=>df (λ(g:Int)=>fD (dK a0.acT)<|df (λ(p:Int) (h:Fm)=>(qw λ(a:List Fm) (v212:S)=>cT (dQ n h g a2 v212) λc i=>fD (eJ a [c])<|some (.next ((fa a [c]),i))):Int->Fm->((List Fm)×S)->(Option (eL ((List Fm)×S) (Fm×S)))) λj=>cI (dN j a0.acT 0 ([],e)) (eG (qw λ(a:List Fm) (v212:S)=>some ((Fm.mk a0.acS q v91 a),v212)) (λr=>some r))) λd=>cI (mf a0.acS) λk=>if k then d (dF .i64 a1 1)else d a1) (λr=>some r))
def en(a0:Fm)(a1 a2:Int):Option Fm:=cT (dQ FU a0 0 (λ(s:Unit) (a:Tm) (b:Int)=>qv (lX a b a1 a2) s) ()) λc d=>some c
def j8(a0:cQ)(a1:Int):Option (Fm×Bool):=if sM a1 (di a0.known)then some ((Fm.mk 0 (Ty.mk 0 []) [] []),false)else cI (de a0.known (dZ .i64 (dZ .i64 (di a0.known) 1) a1)) λa=>cI (en a.cR 0 (dZ .i64 a0.eK.vars a.vars)) λb=>some (b,true)
def n_(a0:List Fm)(a1:Pf)(a2:cQ):Option (cL×Int):=cT (j8 a2 a1.acV) λa b=>if b then some ((cL.mk a 0),0)else some ((cL.mk (Fm.mk 0 (Ty.mk 0 []) [] []) 0),8)
def mN(a0:List Fm)(a1:Pf)(a2:cQ):Option (cL×Int):=if sM a1.acV (di a0)then some ((cL.mk (Fm.mk 0 (Ty.mk 0 []) [] []) 0),9)else cI (de a0 a1.acV) λa=>some ((cL.mk a 0),0)
def zH(a0:Int)(a1:List Fm):Option Fm:=some (Fm.mk a0 (Ty.mk 0 []) [] a1)
def ds(a0:dA)(a1 a2:Int):Option Int:=if eu (kZ (dF .i64 a0.vars a1) 16) true (kZ (dF .i64 a0.acZ a2) 16)then some 3 else some 0
def pH(a0:Tm):Option Int:=cT (jB a0) λb a=>some a
def iz:Nat->Tm->Tm->Option Bool
 |0,_,_=>none|n+1,a0,a1=>df (λ(d:Bool)=>if d then some false else fD (dK a0.acT)<|df (λ(e:Int) (f:Tm)=>(λ(_:Unit)=>cI (de a1.acT e) λb=>cI (iz n f b) λc=>if c then some (.next ())else some (.ret false)):Int->Tm->(Unit)->(Option (eL (Unit) (Bool)))) λg=>cI (dN g a0.acT 0 ()) (eG (λ(_:Unit)=>some true) (λr=>some r))) λa=>if dw a0.acS a1.acS then a true else if dw a0.acV a1.acV then a true else cI (fP FU a0.cP a1.cP) λh=>if h then a (dw (di a0.acT) (di a1.acT))else a true
def qU(a0 a1:Tm):Option Bool:=cI (iz FU a0 a1) λa=>some a
def rh(a0 a1:Int)(a:Bool):Option Bool:=if a then some (Em a0 536870912)else some false
def iO{S:Type}:Nat->Tm->Int->(S->Int->Int->Option S)->S->Option S
 |0,_,_,_,_=>none|n+1,a0,a1,a,b=>df (λ(v6:S)=>fD (dK a0.acT)<|df (λ(g:Int) (c:Tm)=>(λ(v28:S)=>cI (iO n c (eu (dg a0.acS 2) (dF .i64 a1 1) a1) a v28) λd=>some (.next d)):Int->Tm->(S)->(Option (eL (S) (S)))) λe=>cI (dN e a0.acT 0 v6) (eG (λ(v28:S)=>some v28) (λr=>some r))) λf=>if dg a0.acS 1 then cI (a b a0.acV a1) λh=>f h else f b
def re{S:Type}(a0:Tm)(a1:(S->Int->Int->Option S))(a:S):Option S:=cI (iO FU a0 0 a1 a) λs1=>some s1
def wD(a0:Tm):Option Bool:=cI (re a0 (λ(s:Bool) (a:Int) (b:Int)=>rh a b s) true) λc=>some c
def jf(a0 a1:Int)(a2:Ty)(a3:(List (Option Nat)))(nh:List HC):Option ((Option Nat)×List HC):=fD (dK a3)<|df (λ(l:Int) (h:Option Nat)=>(λ(b:List HC)=>cI (HC.cY b (List.length nh)) λa=>cI (h) λg=>cI (HC.cY b g) λe=>cI (HC.cY (jt b (List.length nh) (HC.dt (dr.mk a.acS a.acV a.o0 a.acT (dF .i64 a.size e.size) a.free a.normal))) g) λi=>some (.next (jt (jt b (List.length nh) (HC.dt (dr.mk a.acS a.acV a.o0 a.acT (dF .i64 a.size e.size) a.free a.normal))) (List.length nh) (HC.dt (dr.mk a.acS a.acV a.o0 a.acT (dF .i64 a.size e.size) (imax a.free i.free) a.normal))))):Int->(Option Nat)->(List HC)->(Option (eL (List HC) ((Option Nat)×List HC)))) λj=>cI (dN j a3 0 (nh++[HC.dt (dr.mk a0 a1 a2 a3 1 0 false)])) (eG (λ(b:List HC)=>df (λ(k:List HC)=>some ((some (List.length nh)),k)) λf=>if dg a0 1 then cI (HC.cY b (List.length nh)) λd=>f (jt b (List.length nh) (HC.dt (dr.mk d.acS d.acV d.o0 d.acT d.size (dF .i64 a1 1) d.normal)))else if dg a0 2 then cI (HC.cY b (List.length nh)) λc=>f (jt b (List.length nh) (HC.dt (dr.mk c.acS c.acV c.o0 c.acT c.size (imax 0 (dZ .i64 c.free 1)) c.normal)))else f b) (λr=>some r))
def pd:Nat->Tm->List HC->Option ((Option Nat)×List HC)
 |0,_,_=>none|n+1,a0,nh=>fD (dK a0.acT)<|df (λ(h:Int) (e:Tm)=>(qw λ(v51:(List (Option Nat))) (a:List HC)=>cT (pd n e a) λb c=>fD (eJ v51 [b])<|some (.next ((fa v51 [b]),c))):Int->Tm->((List (Option Nat))×List HC)->(Option (eL ((List (Option Nat))×List HC) ((Option Nat)×List HC)))) λf=>cI (dN f a0.acT 0 ([],nh)) (eG (qw λ(v51:(List (Option Nat))) (a:List HC)=>cT (jf a0.acS a0.acV a0.cP v51 a) λg d=>some (g,d)) (λr=>some r))
def qH(a0:Option Nat)(nh:List HC):Option Int:=cI (a0) λa=>cI (HC.cY nh a) λb=>some b.size
def lF(a0:Option Nat)(nh:List HC):Option Bool:=cI (a0) λn=>cI (HC.cY nh n) λa=>if dg a.acS 3 then cI (de a.acT 0) λo=>cI (o) λp=>cI (HC.cY nh p) λq=>some (dg q.acS 2)else if dg a.acS 6 then df (λ(r:Bool)=>some r) λb=>cI (de a.acT 2) λf=>cI (f) λg=>cI (HC.cY nh g) λc=>if dg c.acS 4 then b true else b (dg c.acS 5)else if dg a.acS 9 then df (λ(h:Bool)=>some h) λd=>cI (de a.acT 2) λi=>cI (i) λj=>cI (HC.cY nh j) λe=>if dg e.acS 7 then d true else d (dg e.acS 8)else if eu (dg a.acS 11) true (dg a.acS 12)then cI (de a.acT 0) λk=>cI (k) λl=>cI (HC.cY nh l) λm=>some (dg m.acS 10)else some false
def gQ(a0:Option Nat)(nh:List HC):Option Int:=cI (a0) λa=>cI (HC.cY nh a) λb=>if dg b.acS 2 then some 1 else some 0
def jh:Nat->(Option Nat)->Int->List HC->Option Int
 |0,_,_,_=>none|n+1,a0,a1,nh=>cI (a0) λc=>cI (HC.cY nh c) λa=>if Em a.free a1 then some 0 else if dg a.acS 1 then if dg a.acV a1 then some 1 else some 0 else fD (dK a.acT)<|df (λ(h:Int) (d:Option Nat)=>(λ(b:Int)=>cI (gQ (some c) nh) λe=>cI (jh n d (dF .i64 a1 e) nh) λf=>some (.next (dF .i64 b f))):Int->(Option Nat)->(Int)->(Option (eL (Int) (Int)))) λg=>cI (dN g a.acT 0 0) (eG (λ(b:Int)=>some b) (λr=>some r))
def fv(a0:Option Nat)(a1:(List (Option Nat)))(nh:List HC):Option ((Option Nat)×List HC):=cI (a0) λc=>cI (HC.cY nh c) λa=>cT (jf a.acS a.acV a.o0 a1 nh) λd b=>some (d,b)
def iy:Nat->(Option Nat)->Int->Int->List HC->Option ((Option Nat)×List HC)
 |0,_,_,_,_=>none|n+1,a0,a1,a2,nh=>df (λ(v21:Bool)=>if v21 then some (a0,nh)else cI (a0) λe=>cI (HC.cY nh e) λc=>if dg c.acS 1 then cT (jf c.acS (dF .i64 c.acV a2) c.o0 [] nh) λo h=>some (o,h)else fD (dK c.acT)<|df (λ(s:Int) (i:Option Nat)=>(qw λ(a:(List (Option Nat))) (b:List HC)=>cI (gQ (some e) b) λj=>cT (iy n i (dF .i64 a1 j) a2 b) λd f=>fD (eJ a [d])<|some (.next ((fa a [d]),f))):Int->(Option Nat)->((List (Option Nat))×List HC)->(Option (eL ((List (Option Nat))×List HC) ((Option Nat)×List HC)))) λk=>cI (dN k c.acT 0 ([],nh)) (eG (qw λ(a:(List (Option Nat))) (b:List HC)=>cT (fv (some e) a b) λl g=>some (l,g)) (λr=>some r))) λm=>cI (a0) λp=>cI (HC.cY nh p) λq=>if Em q.free a1 then m true else m (dg a2 0)
def iR:Nat->(Option Nat)->Int->(Option Nat)->List HC->Option ((Option Nat)×List HC)
 |0,_,_,_,_=>none|n+1,a0,a1,a2,nh=>cI (a0) λd=>cI (HC.cY nh d) λa=>if Em a.free a1 then some (a0,nh)else if dg a.acS 1 then if dg a.acV a1 then cT (iy FU a2 0 a1 nh) λm g=>some (m,g)else cT (jf a.acS (dZ .i64 a.acV 1) a.o0 [] nh) λo h=>some (o,h)else fD (dK a.acT)<|df (λ(p:Int) (i:Option Nat)=>(qw λ(v131:(List (Option Nat))) (b:List HC)=>cI (gQ (some d) b) λj=>cT (iR n i (dF .i64 a1 j) a2 b) λc e=>fD (eJ v131 [c])<|some (.next ((fa v131 [c]),e))):Int->(Option Nat)->((List (Option Nat))×List HC)->(Option (eL ((List (Option Nat))×List HC) ((Option Nat)×List HC)))) λk=>cI (dN k a.acT 0 ([],nh)) (eG (qw λ(v131:(List (Option Nat))) (b:List HC)=>cT (fv (some d) v131 b) λl f=>some (l,f)) (λr=>some r))
def rv(a0:Option Nat)(a1:(List (Option Nat)))(nh:List HC):Option ((Option Nat)×List HC):=fD (dK a1)<|df (λ(g:Int) (d:Option Nat)=>(qw λ(a:Option Nat) (b:List HC)=>cT (jf 3 0 (Ty.mk 0 []) [a,d] b) λe c=>some (.next (e,c))):Int->(Option Nat)->((Option Nat)×List HC)->(Option (eL ((Option Nat)×List HC) ((Option Nat)×List HC)))) λf=>cI (dN f a1 0 (a0,nh)) (eG (qw λ(a:Option Nat) (b:List HC)=>some (a,b)) (λr=>some r))
def gV(a0:Option Nat)(nh:List HC):Option ((Option Nat)×List HC):=cI (a0) λj=>cI (HC.cY nh j) λa=>if dg a.acS 3 then cI (de a.acT 0) λk=>cI (k) λl=>cI (HC.cY nh l) λm=>cI (de m.acT 0) λn=>cI (de a.acT 1) λo=>cT (iR FU n 0 o nh) λp g=>some (p,g)else if dg a.acS 11 then cI (de a.acT 0) λq=>cI (q) λr=>cI (HC.cY nh r) λs=>cI (de s.acT 0) λt=>some (t,nh)else if dg a.acS 12 then cI (de a.acT 0) λu=>cI (u) λv=>cI (HC.cY nh v) λw=>cI (de w.acT 1) λx=>some (x,nh)else cI (de a.acT 0) λd=>cI (de a.acT 1) λe=>cI (de a.acT 2) λy=>cI (y) λf=>cI (HC.cY nh f) λb=>if dg (di b.acT) 0 then some (d,nh)else cI (de b.acT (dZ .i64 (di b.acT) 1)) λz=>cT (fv (some j) [d,e,z] nh) λA c=>cI (HC.cY c f) λB=>cT (rv e B.acT c) λC h=>cT (rv C [A] h) λD i=>some (D,i)
def lE(a0:Option Nat)(nh:List HC):Option (Int×List HC):=cI (a0) λd=>cI (HC.cY nh d) λa=>if dg a.acS 3 then cI (de a.acT 0) λi=>cI (i) λj=>cI (HC.cY nh j) λk=>cI (de k.acT 0) λl=>cI (l) λe=>cI (HC.cY nh e) λm=>cI (jh FU (some e) 0 nh) λn=>cI (de a.acT 1) λo=>cI (o) λp=>cI (HC.cY nh p) λq=>some ((dF .i64 m.size (J0 .i64 n (dZ .i64 q.size 1))),nh)else if dg a.acS 6 then cI (de a.acT 2) λr=>cI (r) λs=>cI (HC.cY nh s) λf=>if dg f.acS 5 then cI (de a.acT 1) λt=>cI (t) λu=>cI (HC.cY nh u) λg=>cI (de f.acT 0) λv=>cI (v) λw=>cI (HC.cY nh w) λx=>cI (de a.acT 0) λy=>cI (y) λz=>cI (HC.cY nh z) λA=>some ((dF .i64 (dF .i64 (dF .i64 (dF .i64 (dF .i64 2 g.size) (J0 .i64 2 x.size)) 1) A.size) g.size),nh)else cI (de a.acT 0) λB=>cI (B) λC=>cI (HC.cY nh C) λD=>some (D.size,nh)else if dg a.acS 9 then cI (de a.acT 2) λE=>cI (E) λF=>cI (HC.cY nh F) λb=>if dg b.acS 8 then cI (de a.acT 1) λG=>cI (G) λH=>cI (HC.cY nh H) λh=>cI (de b.acT 0) λI=>cI (I) λJ=>cI (HC.cY nh J) λK=>cI (de b.acT 1) λL=>cI (L) λM=>cI (HC.cY nh M) λN=>cI (de a.acT 0) λO=>cI (O) λP=>cI (HC.cY nh P) λQ=>some ((dF .i64 (dF .i64 (dF .i64 (dF .i64 (dF .i64 (dF .i64 3 h.size) K.size) (J0 .i64 2 N.size)) 1) Q.size) h.size),nh)else cI (de a.acT 0) λR=>cI (R) λS=>cI (HC.cY nh S) λT=>some (T.size,nh)else cT (gV (some d) nh) λU c=>cI (U) λV=>cI (HC.cY c V) λW=>some (W.size,c)
def oW(a0:Option Nat)(nh:List HC):Option Int:=cT (lE a0 nh) λr _=>some r
def iv:Nat->(Option Nat)->Int->List HC->Option ((Option Nat)×Int×List HC)
 |0,_,_,_=>none|n+1,a0,a1,nh=>cI (a0) λd=>cI (HC.cY nh d) λh=>if h.normal then some (none,0,nh)else cI (lF (some d) nh) λo=>if o then cI (oW (some d) nh) λp=>if kZ (dZ .i64 p h.size) a1 then some (none,4,nh)else cT (gV (some d) nh) λq k=>some (q,0,k)else fD (dK h.acT)<|df (λ(j:Int) (s:Option Nat)=>(λ(c:List HC)=>ik (iv n s a1 c) λf g b=>if dw g 0 then some (.ret (none,g,b))else if Option.isSome f then cI (HC.cY b d) λe=>fD (yk e.acT)<|cI (de e.acT j) λt=>cT (fv (some d) (wy e.acT j f) b) λl i=>some (.ret (l,0,i))else some (.next b)):Int->(Option Nat)->(List HC)->(Option (eL (List HC) ((Option Nat)×Int×List HC)))) λm=>cI (dN m h.acT 0 nh) (eG (λ(c:List HC)=>cI (HC.cY c d) λa=>some (none,0,(jt c d (HC.dt (dr.mk a.acS a.acV a.o0 a.acT a.size a.free true))))) (λr=>some r))
def iJ(a0:Option Nat)(nh:List HC):Option (Bool×Int×List HC):=cI (a0) λb=>cI (HC.dP nh b) λd=>cI (qH d.term nh) λg=>ik (iv FU d.term (dZ .i64 4096 g) nh) λc e a=>if eu (dw e 0) true (Option.isNone c)then some (false,e,a)else cI (HC.dP a b) λf=>some (true,0,(jt (jt a b (HC.eH (ew.mk c f.steps))) b (HC.eH (ew.mk c (dF .i64 f.steps 1)))))
def gL:Nat->(Option Nat)->List HC->Option Tm
 |0,_,_=>none|n+1,a0,nh=>cI (a0) λd=>cI (HC.cY nh d) λa=>cI (kl FU a.o0) λe=>fD (dK a.acT)<|df (λ(h:Int) (f:Option Nat)=>(λ(b:List Tm)=>cI (gL n f nh) λc=>fD (eJ b [c])<|some (.next (fa b [c]))):Int->(Option Nat)->(List Tm)->(Option (eL (List Tm) (Tm)))) λg=>cI (dN g a.acT 0 []) (eG (λ(b:List Tm)=>some (Tm.mk a.acS a.acV e b)) (λr=>some r))
def hU:Nat->(Option Nat)->List HC->Option (Bool×List HC)
 |0,_,_=>none|n+1,a0,nh=>cI (a0) λc=>cI (HC.cY nh c) λe=>if e.normal then some (true,nh)else cI (lF (some c) nh) λg=>if g then some (false,nh)else fD (dK e.acT)<|df (λ(j:Int) (h:Option Nat)=>(λ(d:List HC)=>cT (hU n h d) λf b=>if f then some (.next b)else some (.ret (false,b))):Int->(Option Nat)->(List HC)->(Option (eL (List HC) (Bool×List HC)))) λi=>cI (dN i e.acT 0 nh) (eG (λ(d:List HC)=>cI (HC.cY d c) λa=>some (true,(jt d c (HC.dt (dr.mk a.acS a.acV a.o0 a.acT a.size a.free true))))) (λr=>some r))
def jv(a0:Tm)(a1:Int):Option (Tm×Int×Int):=cI (pH a0) λt=>if dw t 0 then some ((Tm.mk 0 0 (Ty.mk 0 []) []),0,t)else df (λ(p:Bool)=>if p then some ((Tm.mk 0 0 (Ty.mk 0 []) []),0,1)else cT (pd FU a0 ([]:List HC)) λq a=>df ((λ(b:List HC)=>cI (HC.dP b (List.length a)) λi=>if qj i.steps a1 then ik (iJ (some (List.length a)) b) λj e c=>if dw e 0 then some (.ret ((Tm.mk 0 0 (Ty.mk 0 []) []),0,e))else if j then some (.next c)else cI (HC.dP c (List.length a)) λf=>cI (gL FU f.term c) λk=>some (.ret (k,f.steps,0))else some (.AI b)):(List HC)->(Option (eL (List HC) (Tm×Int×Int)))) λl=>cI (lp l FU (a++[HC.eH (ew.mk q 0)])) (eG (λ(b:List HC)=>cI (HC.dP b (List.length a)) λm=>cT (hU FU m.term b) λn d=>if n then cI (HC.dP d (List.length a)) λg=>cI (gL FU g.term d) λo=>some (o,g.steps,0)else some ((Tm.mk 0 0 (Ty.mk 0 []) []),0,5)) (λr=>some r))) λh=>if qj a1 0 then h true else if kZ a1 65536 then h true else cI (wD a0) λs=>h (qf s)
def pX(a0 a1:Tm)(a2:Int):Option Int:=cI (pH a0) λh=>if dw h 0 then some h else cI (pH a1) λa=>if dw a 0 then some a else cI (qU a0 a1) λd=>if d then some 0 else ik (jv a0 a2) λe i b=>if dw b 0 then some b else ik (jv a1 a2) λf j c=>if dw c 0 then some c else cI (qU e f) λg=>if g then some 0 else some 11
def lu:Nat->Fm->Fm->Option Int
 |0,_,_=>none|n+1,a0,a1=>df (λ(i:Bool)=>if i then some 11 else fD (dK a0.c9)<|df (λ(j:Int) (k:Tm)=>(λ(_:Unit)=>cI (de a1.c9 j) λc=>cI (pX k c 1000) λa=>if dw a 0 then some (.ret a)else some (.next ())):Int->Tm->(Unit)->(Option (eL (Unit) (Int)))) λl=>cI (dN l a0.c9 0 ()) (eG (λ(_:Unit)=>fD (dK a0.acT)<|df (λ(d:Int) (e:Fm)=>(λ(_:Unit)=>cI (de a1.acT d) λf=>cI (lu n e f) λb=>if dw b 0 then some (.ret b)else some (.next ())):Int->Fm->(Unit)->(Option (eL (Unit) (Int)))) λg=>cI (dN g a0.acT 0 ()) (eG (λ(_:Unit)=>some 0) (λr=>some r))) (λr=>some r))) λh=>if dw a0.acS a1.acS then h true else cI (fP FU a0.cP a1.cP) λm=>h (qf m)
def iV(a0 a1:Fm):Option Int:=cI (ju a0) λc=>if dw c 0 then some c else cI (ju a1) λa=>if dw a 0 then some a else cI (lu FU a0 a1) λb=>some b
def eC(a0:cQ)(a1:List Ty):Option cQ:=cI (e_ a0.acW a1) λa=>some (cQ.mk (dA.mk (dF .i64 a0.eK.vars (di a1)) a0.eK.acZ) a a0.known)
def ja(a0:Int)(a1:Ty)(a2:Fm):Option Fm:=some (Fm.mk a0 a1 [] [a2])
def eg(a0 a1:Int):Option Int:=fD (Hn a1)<|some (Su .u32 a0 a1)
def mX(a0 a1 a:Int):Option Int:=if sM a0 a1 then fD (Hn (dZ .i64 a0 a1))<|some (x0 .u32 a (S7 .u32 1 (dZ .i64 a0 a1)))else some a
def jj(a0:Tm):Option Int:=cI (re a0 (λ(s:Int) (a:Int) (b:Int)=>mX a b s) 0) λc=>some c
def gj(a0:cM)(a1:Ty):Option Bool:=cI (mg a1) λa=>cI (jx a0 a) λb=>some b
def nX(a0 a1 b a:Int):Option Int:=if dg (dZ .i64 a0 a1) b then some (dF .i64 a 1)else some a
def sA(a0:Tm)(a1:Int):Option Int:=cI (re a0 (λ(s:Int) (a:Int) (b:Int)=>nX a b a1 s) 0) λc=>some c
def iG(a0:Tm)(a1 a b:Int):Option Int:=cI (sA a0 (dF .i64 b a1)) λc=>some (dF .i64 a c)
def ly{S:Type}:Nat->Fm->Int->(S->Tm->Int->Option S)->S->Option S
 |0,_,_,_,_=>none|n+1,a0,a1,a2,c=>fD (dK a0.c9)<|df (λ(k:Int) (d:Tm)=>(λ(a:S)=>cI (a2 a d a1) λe=>some (.next e)):Int->Tm->(S)->(Option (eL (S) (S)))) λf=>cI (dN f a0.c9 0 c) (eG (λ(a:S)=>df (λ(v51:Int)=>fD (dK a0.acT)<|df (λ(l:Int) (g:Fm)=>(λ(v72:S)=>cI (ly n g v51 a2 v72) λh=>some (.next h)):Int->Fm->(S)->(Option (eL (S) (S)))) λi=>cI (dN i a0.acT 0 a) (eG (λ(v72:S)=>some v72) (λr=>some r))) λb=>cI (mf a0.acS) λj=>if j then b (dF .i64 a1 1)else b a1) (λr=>some r))
def jH(a0:Fm)(a1:Int):Option Int:=cI (ly FU a0 0 (λ(s:Int) (a:Tm) (b:Int)=>iG a b s a1) 0) λc=>some c
def oa(a0 a1 a:Int)(b:Tm):Option Tm:=if dg (dZ .i64 a0 a1) a then cI (q4 b 0 (dF .i64 a a1)) λc=>some c else if kZ (dZ .i64 a0 a1) a then cI (gy (dZ .i64 a0 1)) λd=>some d else cI (gy a0) λe=>some e
def zd(a0:Tm)(a1:Int)(a2:Tm):Option Tm:=cT (n8 a0 (λ(s:Unit) (a:Int) (b:Int)=>qv (oa a b a1 a2) s) ()) λc d=>some c
def hO(a0:Tm)(a1 a:Int)(b:Tm):Option Tm:=cI (zd a0 (dF .i64 a a1) b) λc=>some c
def jU(a0:Fm)(a1:Int)(a2:Tm):Option Fm:=cT (dQ FU a0 0 (λ(s:Unit) (a:Tm) (b:Int)=>qv (hO a b a1 a2) s) ()) λc d=>some c
def gZ(a0:Fm)(a1:Tm):Option (Fm×Int):=cT (hB a0) λd f=>cT (jB a1) λa e=>cI (jH a0 0) λb=>if kZ (dF .i64 d (J0 .i64 b (dZ .i64 a 1))) 4096 then some ((Fm.mk 0 (Ty.mk 0 []) [] []),4)else cI (jU a0 0 a1) λc=>some (c,0)
def pt(a0:Tm):Option Int:=some 0
def jg(a0:Tm)(a1 a:Int):Option (Tm×Int):=if dw a 0 then some (a0,a)else ik (jv a0 1000) λb d c=>some (b,c)
def lV(a0:Fm):Option (Fm×Int):=cI (jH a0 0) λc=>if dg c 0 then cI (jU a0 0 (Tm.mk 0 0 (Ty.mk 0 []) [])) λd=>some (d,0)else cT (dQ FU a0 0 (λ(s:Int) (g:Tm) (h:Int)=>jg g h s) 0) λa b=>if dw b 0 then some ((Fm.mk 0 (Ty.mk 0 []) [] []),b)else cI (jH a 0) λe=>if kZ e 0 then some ((Fm.mk 0 (Ty.mk 0 []) [] []),6)else cI (jU a 0 (Tm.mk 0 0 (Ty.mk 0 []) [])) λf=>some (f,0)
def qJ(a0:Int)(a1:List Tm):Option Tm:=some (Tm.mk a0 0 (Ty.mk 0 []) a1)
def qL(a0:Int):Option dE:=if dg a0 16 then cI (qJ 4 []) λa=>cI (mo) λb=>cI (gy 0) λc=>cI (qJ 5 [c]) λd=>some (dE.mk 1 a [b] d)else cI (qJ 7 []) λe=>cI (mo) λf=>cI (xe) λg=>cI (gy 1) λh=>cI (gy 0) λi=>cI (qJ 8 [h,i]) λj=>some (dE.mk 2 e [f,g] j)
def qz(a0 a1:Tm):Option Fm:=some (Fm.mk 1 (Ty.mk 0 []) [a0,a1] [])
def m7(a0:List Fm)(a1:Pf)(a2:cQ):Option (cL×Int):=cI (de a1.c9 0) λb=>cI (gw a2.acW b) λa=>if dw a 0 then some ((cL.mk (Fm.mk 0 (Ty.mk 0 []) [] []) 0),a)else cI (qz b b) λc=>some ((cL.mk c 0),0)
def rU(a0:Tm)(a1:List Tm):Option Tm:=fD (dK a1)<|df (λ(h:Int) (f:Tm)=>(Zq λ(b:Int) (c:Int) (v46:Int) (d:List Ty) (e:List Tm)=>cI (qJ 3 [(Tm.mk b c (Ty.mk v46 d) e),f]) λa=>some (.next (a.acS,a.acV,a.cP.acS,a.cP.acT,a.acT))):Int->Tm->(Int×Int×Int×(List Ty)×(List Tm))->(Option (eL (Int×Int×Int×(List Ty)×(List Tm)) (Tm)))) λg=>cI (dN g a1 0 (a0.acS,a0.acV,a0.cP.acS,a0.cP.acT,a0.acT)) (eG (Zq λ(b:Int) (c:Int) (v46:Int) (d:List Ty) (e:List Tm)=>some (Tm.mk b c (Ty.mk v46 d) e)) (λr=>some r))
def tg(a0:Bool):Option (Int×Int):=if a0 then some (4,3)else some (5,2)
def uA(a0:Tm)(a1:List Ty):Option Tm:=df ((Qz λ(a:Int) (b:Int) (v59:Int) (c:Int) (d:List Ty) (e:List Tm)=>if sM a 0 then cI (de a1 a) λf=>some (.next ((dZ .i64 a 1),2,0,f.acS,f.acT,[(Tm.mk b v59 (Ty.mk c d) e)]))else some (.AI (a,b,v59,c,d,e))):(Int×Int×Int×Int×(List Ty)×(List Tm))->(Option (eL (Int×Int×Int×Int×(List Ty)×(List Tm)) (Tm)))) λg=>cI (lp g FU ((dZ .i64 (di a1) 1),a0.acS,a0.acV,a0.cP.acS,a0.cP.acT,a0.acT)) (eG (Qz λ(a:Int) (b:Int) (v59:Int) (c:Int) (d:List Ty) (e:List Tm)=>some (Tm.mk b v59 (Ty.mk c d) e)) (λr=>some r))
def yL(a0:Int)(a1:Ty)(a2 a3 a4:Tm):Option Tm:=some (Tm.mk a0 0 a1 [a2,a3,a4])
def mj(a0 a1 a2:Tm):Option Tm:=cI (mo) λa=>cI (mo) λb=>cI (mo) λc=>cI (uA a1 [b,c]) λd=>cI (yL 6 a a0 d a2) λe=>some e
def uv:Option Tm:=cI (qJ 4 []) λa=>cI (gy 1) λb=>cI (gy 0) λc=>cI (mj a b c) λd=>cI (mo) λe=>cI (uA d [e]) λf=>some f
def zC(a0:Tm):Option Tm:=cI (mo) λa=>cI (mo) λb=>cI (uA a0 [a,b]) λc=>some c
def xc:Option Tm:=cI (gy 1) λa=>cI (uv) λb=>cI (gy 0) λc=>cI (rU b [c]) λd=>cI (gy 0) λe=>cI (mj a d e) λf=>cI (zC f) λg=>some g
def uM(a0 a1:Tm):Option Fm:=cI (xc) λa=>cI (qJ 5 [a0]) λb=>cI (rU a [b,a1]) λc=>cI (qJ 4 []) λd=>cI (qz c d) λe=>some e
def j4:Nat->Fm->Fm->Option Bool
 |0,_,_=>none|n+1,a0,a1=>df (λ(i:Bool)=>if i then some false else fD (dK a0.c9)<|df (λ(j:Int) (k:Tm)=>(λ(_:Unit)=>cI (de a1.c9 j) λb=>cI (iz FU k b) λc=>if c then some (.next ())else some (.ret false)):Int->Tm->(Unit)->(Option (eL (Unit) (Bool)))) λl=>cI (dN l a0.c9 0 ()) (eG (λ(_:Unit)=>fD (dK a0.acT)<|df (λ(d:Int) (e:Fm)=>(λ(_:Unit)=>cI (de a1.acT d) λf=>cI (j4 n e f) λg=>if g then some (.next ())else some (.ret false)):Int->Fm->(Unit)->(Option (eL (Unit) (Bool)))) λh=>cI (dN h a0.acT 0 ()) (eG (λ(_:Unit)=>some true) (λr=>some r))) (λr=>some r))) λa=>if dw a0.acS a1.acS then a true else cI (fP FU a0.cP a1.cP) λm=>if m then if dw (di a0.c9) (di a1.c9)then a true else a (dw (di a0.acT) (di a1.acT))else a true
def tn(a0:Fm):Option (Bool×Tm×Fm×Bool):=cT (tg (dg a0.acS 4)) λq r=>df (λ(o:Bool)=>if o then some (false,(Tm.mk 0 0 (Ty.mk 0 []) []),(Fm.mk 0 (Ty.mk 0 []) [] []),false)else cI (de a0.acT 0) λe=>cI (de e.acT 0) λf=>cI (de f.c9 0) λd=>df (λ(g:Bool)=>if g then some (false,(Tm.mk 0 0 (Ty.mk 0 []) []),(Fm.mk 0 (Ty.mk 0 []) [] []),false)else cI (de d.acT 1) λh=>cI (de e.acT 1) λi=>some ((dg a0.acS 4),h,i,true)) λa=>if dw d.acS 3 then a true else cI (de d.acT 1) λc=>cI (sA c 0) λj=>if kZ j 0 then a true else cI (gy 0) λk=>cI (uM k c) λl=>cI (j4 FU f l) λm=>a (qf m)) λb=>if dw a0.acS q then b true else if dw a0.cP.acS 1 then b true else cI (de a0.acT 0) λn=>if dw n.acS r then b true else cI (de n.acT 0) λp=>b (dw p.acS 1)
def ml:Nat->Fm->Option Int
 |0,_=>none|n+1,a0=>if dg a0.acS 1 then some 6 else cI (de a0.acT (dZ .i64 (di a0.acT) 1)) λk=>cI (ml n k) λa=>df (λ(b:Int)=>df (λ(f:Int)=>some f) λc=>OK (tn a0) λl m g h=>if h then cI (ml n g) λi=>c (x0 .u8 (qP .u8 b 1) (qP .u8 i 4))else c (qP .u8 b 1)) λd=>if eu (dg a0.acS 2) true (dg a0.acS 3)then cI (de a0.acT 0) λj=>cI (ml n j) λe=>some (x0 .u8 (qP .u8 (qP .u8 e a) 6) (qP .u8 (eu (dg a0.acS 2) (x0 .u8 a e) a) 1))else if dg a0.acS 5 then d (x0 .u8 a 1)else d a
def zO(a0:Fm)(a1:Int):Option (Bool×Int):=cI (ju a0) λb=>if dw b 0 then some (false,b)else cI (ml FU a0) λa=>some ((dw (qP .u8 a a1) 0),0)
def oz(a0:Fm):Option (Bool×Int):=cT (zO a0 1) λa b=>some (a,b)
mutual
def dC:Nat->(List Fm)->Pf->cQ->Option (cL×Int)
 |0,_,_,_=>none|n+1,a0,a1,a2=>cT (if dg a1.acS 1 then n_ a0 a1 a2 else if dg a1.acS 2 then mN a0 a1 a2 else if dg a1.acS 3 then jN n a0 a1 a2 else if dg a1.acS 4 then gq n a0 a1 a2 else if dg a1.acS 5 then gq n a0 a1 a2 else if dg a1.acS 6 then jP n a0 a1 a2 else if dg a1.acS 7 then jM n a0 a1 a2 else if dg a1.acS 8 then fW n a0 a1 a2 else if dg a1.acS 12 then fW n a0 a1 a2 else if dg a1.acS 9 then fY n a0 a1 a2 else if dg a1.acS 13 then fY n a0 a1 a2 else if dg a1.acS 10 then gm n a0 a1 a2 else if dg a1.acS 14 then gm n a0 a1 a2 else if dg a1.acS 11 then gn n a0 a1 a2 else if dg a1.acS 15 then gn n a0 a1 a2 else if dg a1.acS 16 then j9 n a0 a1 a2 else if dg a1.acS 17 then j9 n a0 a1 a2 else if dg a1.acS 18 then m7 a0 a1 a2 else if dg a1.acS 19 then jl n a0 a1 a2 else if dg a1.acS 20 then jZ n a0 a1 a2 else none) λa b=>if dw b 0 then some ((cL.mk (Fm.mk 0 (Ty.mk 0 []) [] []) 0),b)else cI (ju a.cR) λd=>if dw d 0 then some ((cL.mk (Fm.mk 0 (Ty.mk 0 []) [] []) 0),4)else df (λ(v30:Int)=>some ((cL.mk a.cR v30),0)) λc=>cT (oz a.cR) λe f=>if e then c a.fk else c 0
def jN:Nat->(List Fm)->Pf->cQ->Option (cL×Int)
 |0,_,_,_=>none|n+1,a0,a1,a2=>cI (de a1.acT 0) λe=>cT (dC n a0 e a2) λa b=>if dw b 0 then some ((cL.mk (Fm.mk 0 (Ty.mk 0 []) [] []) 0),b)else cI (de a1.acT 1) λf=>cT (dC n a0 f a2) λc d=>if dw d 0 then some ((cL.mk (Fm.mk 0 (Ty.mk 0 []) [] []) 0),d)else cI (zH 2 [a.cR,c.cR]) λg=>some ((cL.mk g (x0 .u32 a.fk c.fk)),0)
def gq:Nat->(List Fm)->Pf->cQ->Option (cL×Int)
 |0,_,_,_=>none|n+1,a0,a1,a2=>cI (de a1.acT 0) λc=>cT (dB n a0 c a2 2) λa b=>if dw b 0 then some ((cL.mk (Fm.mk 0 (Ty.mk 0 []) [] []) 0),b)else cI (de a.cR.acT (eu (dg a1.acS 5) 1 0)) λd=>some ((cL.mk d a.fk),0)
def jP:Nat->(List Fm)->Pf->cQ->Option (cL×Int)
 |0,_,_,_=>none|n+1,a0,a1,a2=>cI (de a1.dV 0) λe=>cI (dy FU a2.acW e) λa=>if dw a 0 then some ((cL.mk (Fm.mk 0 (Ty.mk 0 []) [] []) 0),a)else cI (ds a2.eK 0 1) λb=>if dw b 0 then some ((cL.mk (Fm.mk 0 (Ty.mk 0 []) [] []) 0),b)else cI (de a1.acT 0) λf=>cI (eI a2 e) λg=>cT (dC n a0 f g) λc d=>if dw d 0 then some ((cL.mk (Fm.mk 0 (Ty.mk 0 []) [] []) 0),d)else cI (zH 3 [e,c.cR]) λh=>some ((cL.mk h c.fk),0)
def jM:Nat->(List Fm)->Pf->cQ->Option (cL×Int)
 |0,_,_,_=>none|n+1,a0,a1,a2=>cI (de a1.acT 0) λf=>cT (dB n a0 f a2 3) λa b=>if dw b 0 then some ((cL.mk (Fm.mk 0 (Ty.mk 0 []) [] []) 0),b)else cI (de a1.acT 1) λg=>cT (dC n a0 g a2) λc d=>if dw d 0 then some ((cL.mk (Fm.mk 0 (Ty.mk 0 []) [] []) 0),d)else cI (de a.cR.acT 0) λh=>cI (iV h c.cR) λe=>if dw e 0 then some ((cL.mk (Fm.mk 0 (Ty.mk 0 []) [] []) 0),e)else cI (de a.cR.acT 1) λi=>some ((cL.mk i (x0 .u32 a.fk c.fk)),0)
def fW:Nat->(List Fm)->Pf->cQ->Option (cL×Int)
 |0,_,_,_=>none|n+1,a0,a1,a2=>cI (ds a2.eK 1 0) λh=>if dw h 0 then some ((cL.mk (Fm.mk 0 (Ty.mk 0 []) [] []) 0),h)else cI (de a1.acT 0) λd=>cI (eC a2 [a1.cP]) λe=>cT (dC n a0 d e) λa b=>if dw b 0 then some ((cL.mk (Fm.mk 0 (Ty.mk 0 []) [] []) 0),b)else df (λ(v40:Int)=>cI (ja v40 a1.cP a.cR) λf=>cI (eg a.fk 1) λg=>some ((cL.mk f g),0)) λc=>if dg a1.acS 12 then if dw (qP .u32 a.fk 1) 0 then some ((cL.mk (Fm.mk 0 (Ty.mk 0 []) [] []) 0),12)else c 6 else c 4
def fY:Nat->(List Fm)->Pf->cQ->Option (cL×Int)
 |0,_,_,_=>none|n+1,a0,a1,a2=>cI (de a1.c9 0) λc=>cT (dz FU a2.acW c) λk j=>if dw j 0 then some ((cL.mk (Fm.mk 0 (Ty.mk 0 []) [] []) 0),j)else cI (jj c) λd=>cI (de a1.acT 0) λe=>cT (dB n a0 e a2 (eu (dg a1.acS 13) 6 4)) λa b=>if dw b 0 then some ((cL.mk (Fm.mk 0 (Ty.mk 0 []) [] []) 0),b)else cI (gj k a.cR.cP) λf=>if f then cI (de a.cR.acT 0) λg=>cT (gZ g c) λh i=>some ((cL.mk h (x0 .u32 a.fk (eu (dg a1.acS 13) 0 d))),i)else some ((cL.mk (Fm.mk 0 (Ty.mk 0 []) [] []) 0),7)
def gm:Nat->(List Fm)->Pf->cQ->Option (cL×Int)
 |0,_,_,_=>none|n+1,a0,a1,a2=>cI (de a1.dV 0) λa=>cI (de a1.c9 0) λb=>if dg a1.acS 14 then cI (dy FU a2.acW a) λd=>if dw d 0 then some ((cL.mk (Fm.mk 0 (Ty.mk 0 []) [] []) 0),d)else if dw a.acS 7 then some ((cL.mk (Fm.mk 0 (Ty.mk 0 []) [] []) 0),10)else cT (dz FU a2.acW b) λm e=>if dw e 0 then some ((cL.mk (Fm.mk 0 (Ty.mk 0 []) [] []) 0),e)else cI (gj m a.cP) λo=>if o then cI (de a1.acT 0) λp=>cI (de a.acT 0) λq=>cT (dD n a0 p a2 q b) λr f=>if dw f 0 then some ((cL.mk (Fm.mk 0 (Ty.mk 0 []) [] []) 0),f)else cI (pt b) λs=>some ((cL.mk a (x0 .u32 r.fk s)),0)else some ((cL.mk (Fm.mk 0 (Ty.mk 0 []) [] []) 0),7)else cI (dy FU a2.acW a) λg=>if dw g 0 then some ((cL.mk (Fm.mk 0 (Ty.mk 0 []) [] []) 0),g)else if dw a.acS 5 then some ((cL.mk (Fm.mk 0 (Ty.mk 0 []) [] []) 0),10)else cT (dz FU a2.acW b) λt h=>if dw h 0 then some ((cL.mk (Fm.mk 0 (Ty.mk 0 []) [] []) 0),h)else cI (gj t a.cP) λu=>if u then cI (de a1.acT 0) λi=>cI (de a.acT 0) λj=>cT (dD n a0 i a2 j b) λk c=>if dw c 0 then some ((cL.mk (Fm.mk 0 (Ty.mk 0 []) [] []) 0),c)else cI (jj b) λl=>some ((cL.mk a (x0 .u32 k.fk l)),0)else some ((cL.mk (Fm.mk 0 (Ty.mk 0 []) [] []) 0),7)
def gn:Nat->(List Fm)->Pf->cQ->Option (cL×Int)
 |0,_,_,_=>none|n+1,a0,a1,a2=>cI (de a1.acT 0) λg=>cT (dB n a0 g a2 (eu (dg a1.acS 15) 7 5)) λa c=>if dw c 0 then some ((cL.mk (Fm.mk 0 (Ty.mk 0 []) [] []) 0),c)else cI (ds a2.eK 1 1) λd=>if dw d 0 then some ((cL.mk (Fm.mk 0 (Ty.mk 0 []) [] []) 0),d)else cI (de a1.acT 1) λh=>cI (eC a2 [a.cR.cP]) λi=>cI (de a.cR.acT 0) λj=>cI (eI i j) λk=>cT (dC n a0 h k) λb e=>if dw e 0 then some ((cL.mk (Fm.mk 0 (Ty.mk 0 []) [] []) 0),e)else cT (lV b.cR) λl f=>if dw f 0 then some ((cL.mk (Fm.mk 0 (Ty.mk 0 []) [] []) 0),f)else if eu (dg a1.acS 15) (dw (qP .u32 b.fk 1) 0) false then some ((cL.mk (Fm.mk 0 (Ty.mk 0 []) [] []) 0),12)else cI (eg b.fk 1) λm=>some ((cL.mk l (x0 .u32 a.fk m)),0)
def j9:Nat->(List Fm)->Pf->cQ->Option (cL×Int)
 |0,_,_,_=>none|n+1,a0,a1,a2=>cI (de a1.dV 0) λb=>cI (de a1.c9 0) λd=>cI (qL a1.acS) λa=>cI (e_ a2.acW [(Ty.mk a.acS [])]) λt=>cI (dy FU t b) λe=>if dw e 0 then some ((cL.mk (Fm.mk 0 (Ty.mk 0 []) [] []) 0),e)else cI (gG a2.acW d a.acS) λf=>if dw f 0 then some ((cL.mk (Fm.mk 0 (Ty.mk 0 []) [] []) 0),f)else cI (de a1.acT 0) λu=>cT (dD n a0 u a2 b a.base) λv g=>if dw g 0 then some ((cL.mk (Fm.mk 0 (Ty.mk 0 []) [] []) 0),g)else cI (ds a2.eK (di a.vars) 1) λh=>if dw h 0 then some ((cL.mk (Fm.mk 0 (Ty.mk 0 []) [] []) 0),h)else cI (eC a2 a.vars) λi=>cI (en b 1 (dZ .i64 (di a.vars) 1)) λj=>cI (eI i j) λk=>cI (de a1.acT 1) λl=>cI (en b 1 (di a.vars)) λm=>cT (dD n a0 l k m a.next) λo c=>if dw c 0 then some ((cL.mk (Fm.mk 0 (Ty.mk 0 []) [] []) 0),c)else cT (gZ b d) λp q=>cI (jj d) λr=>cI (eg o.fk (di a.vars)) λs=>some ((cL.mk p (x0 .u32 (x0 .u32 r v.fk) s)),q)
def jl:Nat->(List Fm)->Pf->cQ->Option (cL×Int)
 |0,_,_,_=>none|n+1,a0,a1,a2=>cI (de a1.dV 0) λh=>cI (mo) λi=>cI (e_ a2.acW [i]) λj=>cI (dy FU j h) λa=>if dw a 0 then some ((cL.mk (Fm.mk 0 (Ty.mk 0 []) [] []) 0),a)else cI (de a1.acT 0) λk=>cT (dB n a0 k a2 1) λb c=>if dw c 0 then some ((cL.mk (Fm.mk 0 (Ty.mk 0 []) [] []) 0),c)else cI (de a1.acT 1) λl=>cI (de b.cR.c9 0) λm=>cT (dD n a0 l a2 h m) λo d=>if dw d 0 then some ((cL.mk (Fm.mk 0 (Ty.mk 0 []) [] []) 0),d)else cI (de b.cR.c9 1) λe=>cT (gZ h e) λf g=>some ((cL.mk f o.fk),g)
def jZ:Nat->(List Fm)->Pf->cQ->Option (cL×Int)
 |0,_,_,_=>none|n+1,a0,a1,a2=>cI (de a1.acT 0) λf=>cT (dB n a0 f a2 4) λa c=>if dw c 0 then some ((cL.mk (Fm.mk 0 (Ty.mk 0 []) [] []) 0),c)else cI (de a.cR.acT 0) λb=>if dw b.acS 5 then some ((cL.mk (Fm.mk 0 (Ty.mk 0 []) [] []) 0),10)else cI (oo b.cP [a.cR.cP]) λd=>cI (de b.acT 0) λg=>cI (en g 2 1) λh=>cI (gy 1) λi=>cI (gy 0) λj=>cI (rU i [j]) λk=>cT (gZ h k) λl m=>df (λ(o:Bool)=>if o then some ((cL.mk (Fm.mk 0 (Ty.mk 0 []) [] []) 0),4)else cI (ja 4 a.cR.cP l) λp=>cI (ja 5 d p) λq=>some ((cL.mk q a.fk),0)) λe=>if dw m 0 then e true else cI (ll d) λr=>e (dw r 0)
def dB:Nat->(List Fm)->Pf->cQ->Int->Option (cL×Int)
 |0,_,_,_,_=>none|n+1,a0,a1,a2,a3=>cT (dC n a0 a1 a2) λa b=>if eu (dg b 0) (dw a.cR.acS a3) false then some ((cL.mk (Fm.mk 0 (Ty.mk 0 []) [] []) 0),10)else some (a,b)
def dD:Nat->(List Fm)->Pf->cQ->Fm->Tm->Option (cL×Int)
 |0,_,_,_,_,_=>none|n+1,a0,a1,a2,a3,a4=>cT (dC n a0 a1 a2) λd e=>if dw e 0 then some ((cL.mk (Fm.mk 0 (Ty.mk 0 []) [] []) 0),e)else cT (gZ a3 a4) λb a=>if dw a 0 then some ((cL.mk (Fm.mk 0 (Ty.mk 0 []) [] []) 0),a)else cI (iV b d.cR) λc=>some (d,c)
end
def w6:Nat->Tm->Option Tm
 |0,_=>none|n+1,a0=>cI (kl FU a0.cP) λd=>fD (dK a0.acT)<|df (λ(e:Int) (b:Tm)=>(λ(v72:List Tm)=>cI (w6 n b) λa=>fD (eJ v72 [a])<|some (.next (fa v72 [a]))):Int->Tm->(List Tm)->(Option (eL (List Tm) (Tm)))) λc=>cI (dN c a0.acT 0 []) (eG (λ(v72:List Tm)=>some (Tm.mk a0.acS a0.acV d v72)) (λr=>some r))
def mw(a0:Tm)(a1:Int):Option Tm:=cI (w6 FU a0) λa=>some a
def ox(a0:Fm):Option Fm:=cT (dQ FU a0 0 (λ(s:Unit) (a:Tm) (b:Int)=>qv (mw a b) s) ()) λc d=>some c
def je(a0:Int):Option (List Int):=df ((qw λ(v37:Int) (a:List Int)=>if dw v37 0 then cI (gD v37) λb=>fD (eJ a [b])<|some (.next ((qP .u32 v37 (dZ .u32 v37 1)),(fa a [b])))else some (.AI (v37,a))):(Int×(List Int))->(Option (eL (Int×(List Int)) (List Int)))) λc=>cI (lp c FU (a0,[])) (eG (qw λ(v37:Int) (a:List Int)=>some a) (λr=>some r))
def n9(a0:List Fm)(a1:Sq)(a2:Pf):Option (p_×Int):=cI (rM a0 a1) λg=>if dw g 0 then some ((p_.mk (Fm.mk 0 (Ty.mk 0 []) [] []) []),g)else cI (ta a2) λa=>if dw a 0 then some ((p_.mk (Fm.mk 0 (Ty.mk 0 []) [] []) []),a)else cI (xx) λh=>cI (rO a1) λd=>cT (dC FU a0 a2 d) λb c=>if dw c 0 then some ((p_.mk (Fm.mk 0 (Ty.mk 0 []) [] []) []),c)else cI (ox b.cR) λe=>cI (je b.fk) λf=>some ((p_.mk e f),0)
def kv(a0 a1:Tm):Option Fm:=cI (iF FU a0) λa=>cI (iF FU a1) λb=>some (Fm.mk 1 (Ty.mk 0 []) [a,b] [])
def iZ(a0:Int)(a1:Ty)(a2:Fm):Option Fm:=cI (gE FU a1) λa=>cI (iq FU a2) λb=>some (Fm.mk a0 a [] [b])
def eo:Nat->Ty->Ty->Option Bool
 |0,_,_=>none|n+1,a0,a1=>if eu (dw a0.acS a1.acS) true (dw (di a0.acT) (di a1.acT))then some false else fD (dK a0.acT)<|df (λ(c:Int) (d:Ty)=>(λ(_:Unit)=>cI (de a1.acT c) λa=>cI (eo n d a) λb=>if b then some (.next ())else some (.ret false)):Int->Ty->(Unit)->(Option (eL (Unit) (Bool)))) λe=>cI (dN e a0.acT 0 ()) (eG (λ(_:Unit)=>some true) (λr=>some r))
def jy:Nat->Tm->Tm->Option Bool
 |0,_,_=>none|n+1,a0,a1=>df (λ(d:Bool)=>if d then some false else fD (dK a0.acT)<|df (λ(e:Int) (f:Tm)=>(λ(_:Unit)=>cI (de a1.acT e) λb=>cI (jy n f b) λc=>if c then some (.next ())else some (.ret false)):Int->Tm->(Unit)->(Option (eL (Unit) (Bool)))) λg=>cI (dN g a0.acT 0 ()) (eG (λ(_:Unit)=>some true) (λr=>some r))) λa=>if dw a0.acS a1.acS then a true else if dw a0.acV a1.acV then a true else cI (eo FU a0.cP a1.cP) λh=>if h then a (dw (di a0.acT) (di a1.acT))else a true
def qy(a0 a1:List Tm):Option Bool:=if dw (di a0) (di a1)then some false else fD (dK a0)<|df (λ(c:Int) (d:Tm)=>(λ(_:Unit)=>cI (de a1 c) λa=>cI (jy FU d a) λb=>if b then some (.next ())else some (.ret false)):Int->Tm->(Unit)->(Option (eL (Unit) (Bool)))) λe=>cI (dN e a0 0 ()) (eG (λ(_:Unit)=>some true) (λr=>some r))
def qX:Nat->Fm->Fm->Option Bool
 |0,_,_=>none|n+1,a0,a1=>df (λ(v21:Bool)=>if v21 then some false else fD (dK a0.acT)<|df (λ(e:Int) (f:Fm)=>(λ(_:Unit)=>cI (de a1.acT e) λb=>cI (qX n f b) λc=>if c then some (.next ())else some (.ret false)):Int->Fm->(Unit)->(Option (eL (Unit) (Bool)))) λd=>cI (dN d a0.acT 0 ()) (eG (λ(_:Unit)=>some true) (λr=>some r))) λa=>if dw a0.acS a1.acS then a true else cI (eo FU a0.cP a1.cP) λg=>if g then cI (qy a0.c9 a1.c9) λh=>if h then a (dw (di a0.acT) (di a1.acT))else a true else a true
def uu:Option Bool:=cI (gr) λm=>cI (ez 0) λc=>cI (jE c) λd=>cI (oG 8 m d) λe=>cT (n9 [] (Sq.mk [] []) e) λb f=>df (λ(g:Bool)=>some g) λa=>if dg f 0 then if dg (di b.fk) 0 then cI (ez 0) λh=>cI (ez 0) λi=>cI (kv h i) λj=>cI (iZ 4 m j) λk=>cI (qX FU b.cR k) λl=>a l else a false else a false
def GO(a0:List Int):Option Bool:=some (Em (di a0) 500)
def mq:Nat->Ty->Int->Option Int
 |0,_,_=>none|n+1,a0,a1=>df ((qw λ(a:Int) (v70:Int)=>if eu (qj v70 (di a0.acT)) (Em a a1) false then cI (de a0.acT v70) λb=>cI (mq n b (dZ .i64 a1 a)) λc=>some (.next ((dF .i64 a c),(dF .i64 v70 1)))else some (.AI (a,v70))):(Int×Int)->(Option (eL (Int×Int) (Int)))) λd=>cI (lp d FU (1,0)) (eG (qw λ(a:Int) (v70:Int)=>some a) (λr=>some r))
def mB:Nat->Tm->Int->Option Int
 |0,_,_=>none|n+1,a0,a1=>cI (mq FU a0.cP (dZ .i64 a1 1)) λf=>df ((qw λ(a:Int) (b:Int)=>if eu (qj b (di a0.acT)) (Em a a1) false then cI (de a0.acT b) λc=>cI (mB n c (dZ .i64 a1 a)) λd=>some (.next ((dF .i64 a d),(dF .i64 b 1)))else some (.AI (a,b))):(Int×Int)->(Option (eL (Int×Int) (Int)))) λe=>cI (lp e FU ((dF .i64 1 f),0)) (eG (qw λ(a:Int) (b:Int)=>some a) (λr=>some r))
def kR:Nat->Fm->Int->Option Int
 |0,_,_=>none|n+1,a0,a1=>cI (mq FU a0.cP (dZ .i64 a1 1)) λj=>df ((qw λ(b:Int) (c:Int)=>if eu (qj c (di a0.c9)) (Em b a1) false then cI (de a0.c9 c) λg=>cI (mB FU g (dZ .i64 a1 b)) λh=>some (.next ((dF .i64 b h),(dF .i64 c 1)))else some (.AI (b,c))):(Int×Int)->(Option (eL (Int×Int) (Int)))) λi=>cI (lp i FU ((dF .i64 1 j),0)) (eG (qw λ(b:Int) (c:Int)=>df ((qw λ(v164:Int) (a:Int)=>if eu (qj a (di a0.acT)) (Em v164 a1) false then cI (de a0.acT a) λd=>cI (kR n d (dZ .i64 a1 v164)) λe=>some (.next ((dF .i64 v164 e),(dF .i64 a 1)))else some (.AI (v164,a))):(Int×Int)->(Option (eL (Int×Int) (Int)))) λf=>cI (lp f FU (b,0)) (eG (qw λ(v164:Int) (a:Int)=>some v164) (λr=>some r))) (λr=>some r))
def ac2:Nat->Pf->Int->Option Int
 |0,_,_=>none|n+1,a0,a1=>cI (mq FU a0.cP (dZ .i64 a1 1)) λp=>df ((qw λ(d:Int) (e:Int)=>if eu (qj e (di a0.c9)) (Em d a1) false then cI (de a0.c9 e) λl=>cI (mB FU l (dZ .i64 a1 d)) λm=>some (.next ((dF .i64 d m),(dF .i64 e 1)))else some (.AI (d,e))):(Int×Int)->(Option (eL (Int×Int) (Int)))) λo=>cI (lp o FU ((dF .i64 1 p),0)) (eG (qw λ(d:Int) (e:Int)=>df ((qw λ(v164:Int) (b:Int)=>if eu (qj b (di a0.dV)) (Em v164 a1) false then cI (de a0.dV b) λf=>cI (kR FU f (dZ .i64 a1 v164)) λg=>some (.next ((dF .i64 v164 g),(dF .i64 b 1)))else some (.AI (v164,b))):(Int×Int)->(Option (eL (Int×Int) (Int)))) λh=>cI (lp h FU (d,0)) (eG (qw λ(v164:Int) (b:Int)=>df ((qw λ(a:Int) (c:Int)=>if eu (qj c (di a0.acT)) (Em a a1) false then cI (de a0.acT c) λi=>cI (ac2 n i (dZ .i64 a1 a)) λj=>some (.next ((dF .i64 a j),(dF .i64 c 1)))else some (.AI (a,c))):(Int×Int)->(Option (eL (Int×Int) (Int)))) λk=>cI (lp k FU (v164,0)) (eG (qw λ(a:Int) (c:Int)=>some a) (λr=>some r))) (λr=>some r))) (λr=>some r))
def ac4(a0:Pf):Option Int:=cI (ac2 FU a0 20000) λa=>some a
def tj(a0:Fm):Option Int:=cI (kR FU a0 20000) λa=>some a
def ac5(a0:List Fm)(a1:Sq):Option Bool:=fD (eJ a0 a1.acZ)<|fD (dK (fa a0 a1.acZ))<|df (λ(d:Int) (a:Fm)=>(λ(v40:Int)=>cI (tj a) λb=>some (.next (dF .i64 v40 b))):Int->Fm->(Int)->(Option (eL (Int) (Bool)))) λc=>cI (dN c (fa a0 a1.acZ) 0 (di a1.acW)) (eG (λ(v40:Int)=>some (qj v40 500)) (λr=>some r))
def M0(l:List Int):Option cV:=some ⟨l,0⟩
def Gl(a0 a1:Int):Option Int:=fD (I8 a1)<|fD (I8 a1)<|some (SW .i64 (dF .i64 (SW .i64 a0 a1) a1) a1)
def eA(a0:cV)(a1:Int):Option (Int×cV):=if eu (qj a1 1) true (sM a0.oU (di a0.l))then some (0,a0)else cI (de a0.l a0.oU) λa=>cI (Gl a a1) λb=>some (b,(cV.mk a0.l (dF .i64 a0.oU 1)))
def nq(a0:Int)(a1 a2:Fm):Option Fm:=cI (iq FU a1) λa=>cI (iq FU a2) λb=>some (Fm.mk a0 (Ty.mk 0 []) [] [a,b])
def lM:Option Ty:=some (Ty.mk 2 [])
def uQ:Option Ty:=some (Ty.mk 5 [])
def ua(a0 a1:Ty):Option Ty:=cI (gE FU a0) λa=>cI (gE FU a1) λb=>some (Ty.mk 3 [a,b])
def j5(a0 a1:Ty):Option Ty:=cI (gE FU a0) λa=>cI (gE FU a1) λb=>some (Ty.mk 4 [a,b])
def gI:Nat->cV->Int->Option (Ty×cV)
 |0,_,_=>none|n+1,a0,a1=>df (λ(g:cV)=>cI (gr) λc=>some (c,g)) λb=>cT (eA a0 7) λa d63=>if eu (dg a 0) true (eu (dg a 1) true (dg a 2))then cI (gr) λh=>some (h,d63)else if dg a 3 then cI (lM) λi=>some (i,d63)else if dg a 4 then cI (uQ) λj=>some (j,d63)else if dg a 5 then if kZ a1 0 then cT (gI n d63 (dZ .i64 a1 1)) λk d89=>cT (gI n d89 (dZ .i64 a1 1)) λl d92=>cI (ua k l) λm=>some (m,d92)else b d63 else if dg a 6 then if kZ a1 0 then cT (gI n d63 (dZ .i64 a1 1)) λd d105=>cT (gI n d105 (dZ .i64 a1 1)) λe d108=>cI (j5 d e) λf=>some (f,d108)else b d63 else b d63
def lC(a0 a1:List Ty):Option (List Ty):=fD (eJ [] a0)<|fD (eJ (fa [] a0) a1)<|some (fa (fa [] a0) a1)
def B8(a0:List Ty)(a1:Ty):Option (List Int):=fD (dK a0)<|df (λ(b:Int) (g:Ty)=>(λ(a:List Int)=>df (λ(c:List Int)=>some (.next c)) λj201=>cI (de a0 (dZ .i64 (dZ .i64 (di a0) 1) b)) λd=>cI (eo FU d a1) λe=>if e then fD (eJ a [b])<|j201 (fa a [b])else j201 a):Int->Ty->(List Int)->(Option (eL (List Int) (List Int)))) λf=>cI (dN f a0 0 []) (eG (λ(a:List Int)=>some a) (λr=>some r))
def eF(a0:Int)(a1:List Tm):Option Tm:=fD (dK a1)<|df (λ(d:Int) (b:Tm)=>(λ(v40:List Tm)=>cI (iF FU b) λa=>fD (eJ v40 [a])<|some (.next (fa v40 [a]))):Int->Tm->(List Tm)->(Option (eL (List Tm) (Tm)))) λc=>cI (dN c a1 0 []) (eG (λ(v40:List Tm)=>some (Tm.mk a0 0 (Ty.mk 0 []) v40)) (λr=>some r))
def kL(a0:Int)(a1:Ty)(a2:List Tm):Option Tm:=cI (eF a0 a2) λa=>cI (gE FU a1) λb=>some (Tm.mk a.acS a.acV b a.acT)
def ql(a0:Int):Option Tm:=cI (eF 4 []) λe=>df ((Qz λ(a:Int) (v30:Int) (v31:Int) (b:Int) (c:List Ty) (d:List Tm)=>if kZ a 0 then some (.next ((dZ .i64 a 1),5,0,0,[],[(Tm.mk v30 v31 (Ty.mk b c) d)]))else some (.AI (a,v30,v31,b,c,d))):(Int×Int×Int×Int×(List Ty)×(List Tm))->(Option (eL (Int×Int×Int×Int×(List Ty)×(List Tm)) (Tm)))) λf=>cI (lp f FU (a0,e.acS,e.acV,e.cP.acS,e.cP.acT,e.acT)) (eG (Qz λ(a:Int) (v30:Int) (v31:Int) (b:Int) (c:List Ty) (d:List Tm)=>some (Tm.mk v30 v31 (Ty.mk b c) d)) (λr=>some r))
def tP(a0:Int):Option (Tm×Int):=if qj a0 0 then some ((Tm.mk 0 0 (Ty.mk 0 []) []),1)else if sM a0 4096 then some ((Tm.mk 0 0 (Ty.mk 0 []) []),4)else cI (ql a0) λa=>some (a,0)
def xD(a0:Int):Option Tm:=cT (tP a0) λa b=>some a
def kb(a0:Tm):Option Tm:=cI (gr) λa=>cI (kL 2 a [a0]) λb=>some b
def sj(a0 a1 a2:Tm):Option Tm:=cI (gr) λa=>cI (kL 6 a [a0,a1,a2]) λb=>some b
def si:Option Tm:=cI (ez 1) λa=>cI (ez 0) λb=>cI (eF 5 [b]) λc=>cI (kb c) λd=>cI (kb d) λe=>cI (ez 0) λf=>cI (sj a e f) λg=>cI (kb g) λh=>cI (kb h) λi=>some i
def AZ(a0:Tm)(a1:List Tm):Option Tm:=fD (dK a1)<|df (λ(h:Int) (f:Tm)=>(Zq λ(b:Int) (c:Int) (v46:Int) (d:List Ty) (e:List Tm)=>cI (eF 3 [(Tm.mk b c (Ty.mk v46 d) e),f]) λa=>some (.next (a.acS,a.acV,a.cP.acS,a.cP.acT,a.acT))):Int->Tm->(Int×Int×Int×(List Ty)×(List Tm))->(Option (eL (Int×Int×Int×(List Ty)×(List Tm)) (Tm)))) λg=>cI (dN g a1 0 (a0.acS,a0.acV,a0.cP.acS,a0.cP.acT,a0.acT)) (eG (Zq λ(b:Int) (c:Int) (v46:Int) (d:List Ty) (e:List Tm)=>some (Tm.mk b c (Ty.mk v46 d) e)) (λr=>some r))
def uV:Option Tm:=cI (eF 4 []) λa=>cI (ez 1) λb=>cI (kb b) λc=>cI (kb c) λd=>cI (ez 0) λe=>cI (sj a d e) λf=>cI (kb f) λg=>some g
def wH:Option Tm:=cI (ez 1) λa=>cI (uV) λb=>cI (ez 0) λc=>cI (eF 3 [b,c]) λd=>cI (kb d) λe=>cI (kb e) λf=>cI (ez 0) λg=>cI (sj a f g) λh=>cI (kb h) λi=>cI (kb i) λj=>some j
def eY:Nat->cV->(List Ty)->Ty->Int->Option (Tm×cV)
 |0,_,_,_,_=>none|n+1,a0,a1,a2,a3=>cI (B8 a1 a2) λx3=>df (λ(v37:Bool) (p:cV)=>if v37 then cT (eA p (di x3)) λbD d51=>cI (de x3 bD) λbE=>cI (ez bE) λbF=>some (bF,d51)else df (λ(b:cV)=>if dg a2.acS 1 then df (λ(q:cV)=>cT (eA q 3) λs t=>cI (xD s) λu=>some (u,t)) λg=>if kZ a3 0 then cT (eA b 5) λe d=>if dg e 0 then cT (eY n d a1 a2 (dZ .i64 a3 1)) λv w=>cI (eF 5 [v]) λx=>some (x,w)else if dg e 1 then cI (si) λy=>cT (eY n d a1 a2 (dZ .i64 a3 1)) λz A=>cT (eY n A a1 a2 (dZ .i64 a3 1)) λB C=>cI (AZ y [z,B]) λD=>some (D,C)else if dg e 2 then cI (wH) λE=>cT (eY n d a1 a2 (dZ .i64 a3 1)) λF G=>cT (eY n G a1 a2 (dZ .i64 a3 1)) λH I=>cI (AZ E [F,H]) λJ=>some (J,I)else g d else g b else if dg a2.acS 2 then df (λ(K:Bool) (h:cV)=>if K then cI (gr) λL=>cT (eY n h a1 L (dZ .i64 a3 1)) λM N=>cT (eY n N a1 a2 (dZ .i64 a3 1)) λO P=>cI (eF 8 [M,O]) λQ=>some (Q,P)else cI (eF 7 []) λR=>some (R,h)) λi=>if kZ a3 0 then cT (eA b 2) λS T=>i (dg S 0) T else i false b else if dg a2.acS 3 then cI (de a2.acT 0) λU=>cT (eY n b a1 U (dZ .i64 a3 1)) λV W=>cI (de a2.acT 1) λX=>cT (eY n W a1 X (dZ .i64 a3 1)) λY Z=>cI (eF 10 [V,Y]) λaa=>some (aa,Z)else if dg a2.acS 4 then cI (de a2.acT 0) λj=>cI (lC a1 [j]) λab=>cI (de a2.acT 1) λad=>cT (eY n b ab ad (dZ .i64 a3 1)) λae af=>cI (kL 2 j [ae]) λah=>some (ah,af)else cI (eF 13 []) λai=>some (ai,b)) λk=>if kZ a3 0 then cT (eA p 8) λc a=>if dg c 0 then cT (gI FU a 0) λl aB=>cI (lC a1 [l]) λaC=>cT (eY n aB aC a2 (dZ .i64 a3 1)) λaD aE=>cI (kL 2 l [aD]) λaF=>cT (eY n aE a1 l (dZ .i64 a3 1)) λaG aH=>cI (eF 3 [aF,aG]) λaI=>some (aI,aH)else if dg c 1 then cT (gI FU a 0) λaJ aK=>cT (eY n aK a1 a2 (dZ .i64 a3 1)) λaL aM=>cT (eY n aM a1 aJ (dZ .i64 a3 1)) λaN aO=>cI (eF 10 [aL,aN]) λaP=>cI (eF 11 [aP]) λaQ=>some (aQ,aO)else if dg c 2 then cI (gr) λaR=>cI (gr) λaS=>cI (lC a1 [aS,a2]) λaT=>cT (eY n a aT a2 (dZ .i64 a3 1)) λaU aV=>cI (kL 2 a2 [aU]) λaW=>cI (kL 2 aR [aW]) λaX=>cT (eY n aV a1 a2 (dZ .i64 a3 1)) λaY aZ=>cT (eA aZ 3) λa6 a7=>cI (xD a6) λa8=>cI (kL 6 a2 [aY,aX,a8]) λa_=>some (a_,a7)else if dg c 3 then cI (gr) λa'=>cI (lM) λba=>cI (gr) λbb=>cI (lM) λbc=>cI (lC a1 [bb,bc,a2]) λbd=>cT (eY n a bd a2 (dZ .i64 a3 1)) λbf bg=>cI (kL 2 a2 [bf]) λbh=>cI (kL 2 ba [bh]) λbj=>cI (kL 2 a' [bj]) λbk=>cT (eY n bg a1 a2 (dZ .i64 a3 1)) λbl bm=>cI (lM) λbn=>cT (eY n bm a1 bn (dZ .i64 a3 1)) λbo bp=>cI (kL 9 a2 [bl,bk,bo]) λbq=>some (bq,bp)else if dg c 4 then cT (gI FU a 0) λbr bs=>cT (eY n bs a1 br (dZ .i64 a3 1)) λbt bu=>cT (eY n bu a1 a2 (dZ .i64 a3 1)) λbw bz=>cI (eF 10 [bt,bw]) λbA=>cI (eF 12 [bA]) λbB=>some (bB,bz)else if dg c 5 then fD (dK a1)<|df (λ(o:Int) (bH:Ty)=>(λ(_:Unit)=>cI (de a1 (dZ .i64 (dZ .i64 (di a1) 1) o)) λf=>df (λ(ak:Bool)=>if ak then cI (ez o) λan=>cI (de f.acT 0) λaq=>cT (eY n a a1 aq (dZ .i64 a3 1)) λar aw=>cI (eF 3 [an,ar]) λax=>some (.ret (ax,aw))else some (.next ())) λm=>if dg f.acS 4 then cI (de f.acT 1) λay=>cI (eo FU ay a2) λaz=>m az else m false):Int->Ty->(Unit)->(Option (eL (Unit) (Tm×cV)))) λaA=>cI (dN aA a1 0 ()) (eG (λ(_:Unit)=>k a) (λr=>some r))else k a else k p) λbC=>if kZ (di x3) 0 then cT (eA a0 3) λbG d41=>bC (kZ bG 0) d41 else bC false a0
def fJ:Nat->cV->(List Ty)->Int->Option (Fm×cV)
 |0,_,_,_=>none|n+1,a0,a1,a2=>df (λ(v162:cV)=>cI (gr) λb=>cT (eY FU v162 a1 b 1) λg d351=>cT (eY FU d351 a1 b 1) λh d354=>cI (kv g h) λi=>some (i,d354)) λc=>if kZ a2 0 then cT (eA a0 9) λa d168=>if dg a 0 then cT (fJ n d168 a1 (dZ .i64 a2 1)) λj d179=>cT (fJ n d179 a1 (dZ .i64 a2 1)) λk d182=>cI (nq 2 j k) λl=>some (l,d182)else if eu (dg a 1) true (dg a 2)then cT (fJ n d168 a1 (dZ .i64 a2 1)) λm d198=>cT (fJ n d198 a1 (dZ .i64 a2 1)) λo d201=>cI (nq 3 m o) λp=>some (p,d201)else if eu (dg a 3) true (dg a 4)then cT (gI FU d168 1) λd d212=>cI (lC a1 [d]) λq=>cT (fJ n d212 q (dZ .i64 a2 1)) λr d238=>cI (iZ 4 d r) λs=>some (s,d238)else if dg a 5 then cT (gI FU d168 1) λe d246=>cI (lC a1 [e]) λt=>cT (fJ n d246 t (dZ .i64 a2 1)) λu d272=>cI (iZ 5 e u) λv=>some (v,d272)else if dg a 6 then cT (gI FU d168 0) λf d280=>cT (eA d280 2) λw d313=>cI (lC a1 [f]) λx=>cT (fJ n d313 x (dZ .i64 a2 1)) λy d318=>cI (iZ (dF .i64 6 w) f y) λz=>some (z,d318)else c d168 else c a0
def uh(a0:cV):Option ((List Fm)×cV):=cT (eA a0 3) λe d36=>df ((Mp λ(a:List Fm) (b:Int) (c:cV)=>if kZ b 0 then cT (fJ FU c [] 2) λd d75=>fD (eJ a [d])<|some (.next ((fa a [d]),(dZ .i64 b 1),d75))else some (.AI (a,b,c))):((List Fm)×Int×cV)->(Option (eL ((List Fm)×Int×cV) ((List Fm)×cV)))) λf=>cI (lp f FU ([],e,d36)) (eG (Mp λ(a:List Fm) (b:Int) (c:cV)=>some (a,c)) (λr=>some r))
def vl(a0:cV):Option ((List Ty)×cV):=cT (eA a0 4) λe d36=>df ((Mp λ(a:List Ty) (b:Int) (c:cV)=>if kZ b 0 then cT (gI FU c 1) λd d75=>fD (eJ a [d])<|some (.next ((fa a [d]),(dZ .i64 b 1),d75))else some (.AI (a,b,c))):((List Ty)×Int×cV)->(Option (eL ((List Ty)×Int×cV) ((List Ty)×cV)))) λf=>cI (lp f FU ([],e,d36)) (eG (Mp λ(a:List Ty) (b:Int) (c:cV)=>some (a,c)) (λr=>some r))
def sC(a0:cV):Option (Sq×cV):=cT (vl a0) λg d5=>cT (eA d5 3) λf d58=>df ((Mp λ(c:Int) (b:List Fm) (a:cV)=>if kZ c 0 then cT (fJ FU a g 2) λd d121=>fD (eJ b [d])<|some (.next ((dZ .i64 c 1),(fa b [d]),d121))else some (.AI (c,b,a))):(Int×(List Fm)×cV)->(Option (eL (Int×(List Fm)×cV) (Sq×cV)))) λe=>cI (lp e FU (f,[],d58)) (eG (Mp λ(c:Int) (b:List Fm) (a:cV)=>some ((Sq.mk g b),a)) (λr=>some r))
def xT(a0:Sq)(a1:Fm):Option Sq:=fD (eJ [] a0.acZ)<|fD (eJ (fa [] a0.acZ) [a1])<|some (Sq.mk a0.acW (fa (fa [] a0.acZ) [a1]))
def uf(a0:Fm)(a1:Pf):Option Pf:=cI (lZ 6 [a1]) λa=>cI (iq FU a0) λb=>some (Pf.mk a.acS a.acV a.cP a.c9 [b] a.acT)
def pI:Nat->Ty->Option Bool
 |0,_=>none|n+1,a0=>df (λ(v10:Int)=>if dw (di a0.acT) v10 then some false else fD (dK a0.acT)<|df (λ(e:Int) (b:Ty)=>(λ(_:Unit)=>cI (pI n b) λc=>if c then some (.next ())else some (.ret false)):Int->Ty->(Unit)->(Option (eL (Unit) (Bool)))) λd=>cI (dN d a0.acT 0 ()) (eG (λ(_:Unit)=>some true) (λr=>some r))) λa=>if eu (dg a0.acS 1) true (eu (dg a0.acS 2) true (dg a0.acS 5))then a 0 else if eu (dg a0.acS 3) true (dg a0.acS 4)then a 2 else some false
def qK:Nat->Ty->Option Int
 |0,_=>none|n+1,a0=>fD (dK a0.acT)<|df (λ(e:Int) (b:Ty)=>(λ(a:Int)=>cI (qK n b) λc=>some (.next (dF .i64 a c))):Int->Ty->(Int)->(Option (eL (Int) (Int)))) λd=>cI (dN d a0.acT 0 1) (eG (λ(a:Int)=>some a) (λr=>some r))
def ig(a0:Ty):Option Int:=cI (pI FU a0) λb=>if b then cI (qK FU a0) λa=>if kZ a 64 then some 4 else some 0 else some 2
def lh(a0:List Ty):Option Int:=if kZ (di a0) 16 then some 3 else fD (dK a0)<|df (λ(d:Int) (b:Ty)=>(λ(_:Unit)=>cI (ig b) λa=>if dw a 0 then some (.ret a)else some (.next ())):Int->Ty->(Unit)->(Option (eL (Unit) (Int)))) λc=>cI (dN c a0 0 ()) (eG (λ(_:Unit)=>some 0) (λr=>some r))
def pg(a0:Ty):Option Bool:=some (eu (dg a0.acS 0) (dg (di a0.acT) 0) false)
def u9(a0:Int):Option Int:=if eu (dg a0 1) true (eu (dg a0 4) true (eu (dg a0 7) true (dg a0 13)))then some 0 else if eu (dg a0 2) true (eu (dg a0 5) true (eu (dg a0 11) true (dg a0 12)))then some 1 else if eu (dg a0 3) true (eu (dg a0 8) true (dg a0 10))then some 2 else if eu (dg a0 6) true (dg a0 9)then some 3 else some (-1)
def jR:Nat->Tm->Option Bool
 |0,_=>none|n+1,a0=>df (λ(v21:Bool)=>if v21 then some false else df (fD (dK a0.acT)<|df (λ(i:Int) (c:Tm)=>(λ(_:Unit)=>cI (jR n c) λd=>if d then some (.next ())else some (.ret false)):Int->Tm->(Unit)->(Option (eL (Unit) (Bool)))) λe=>cI (dN e a0.acT 0 ()) (eG (λ(_:Unit)=>some true) (λr=>some r))) λb=>if eu (dg a0.acS 2) true (eu (dg a0.acS 6) true (dg a0.acS 9))then cI (ig a0.cP) λf=>if dw f 0 then some false else b else cI (pg a0.cP) λg=>if g then b else some false) λa=>cI (u9 a0.acS) λh=>if dw (di a0.acT) h then a true else if qj a0.acV 0 then a true else if dw a0.acS 1 then a (dw a0.acV 0)else a false
def j3(a0:Int):Option Bool:=some (eu (dg a0 4) true (eu (dg a0 5) true (eu (dg a0 6) true (dg a0 7))))
def lv:Nat->Fm->Option Bool
 |0,_=>none|n+1,a0=>if dg a0.acS 1 then df (λ(o:Bool)=>some o) λc=>if dg (di a0.acT) 0 then cI (pg a0.cP) λp=>if p then if dg (di a0.c9) 2 then cI (de a0.c9 0) λq=>cI (jR FU q) λr=>if r then cI (de a0.c9 1) λs=>cI (jR FU s) λt=>c t else c false else c false else c false else c false else if eu (dg a0.acS 2) true (dg a0.acS 3)then df (λ(d:Bool)=>some d) λa=>if dg (di a0.c9) 0 then cI (pg a0.cP) λe=>if e then if dg (di a0.acT) 2 then cI (de a0.acT 0) λf=>cI (lv n f) λg=>if g then cI (de a0.acT 1) λh=>cI (lv n h) λi=>a i else a false else a false else a false else a false else cI (j3 a0.acS) λj=>if j then df (λ(v141:Bool)=>some v141) λb=>if dg (di a0.c9) 0 then cI (ig a0.cP) λk=>if dg k 0 then if dg (di a0.acT) 1 then cI (de a0.acT 0) λl=>cI (lv n l) λm=>b m else b false else b false else b false else some false
def eM:Nat->Tm->Option Int
 |0,_=>none|n+1,a0=>fD (dK a0.acT)<|df (λ(e:Int) (b:Tm)=>(λ(a:Int)=>cI (eM n b) λc=>some (.next (dF .i64 a c))):Int->Tm->(Int)->(Option (eL (Int) (Int)))) λd=>cI (dN d a0.acT 0 1) (eG (λ(a:Int)=>some a) (λr=>some r))
def lk:Nat->Fm->Option Int
 |0,_=>none|n+1,a0=>fD (dK a0.c9)<|df (λ(h:Int) (b:Tm)=>(λ(a:Int)=>cI (eM FU b) λc=>some (.next (dF .i64 a c))):Int->Tm->(Int)->(Option (eL (Int) (Int)))) λd=>cI (dN d a0.c9 0 1) (eG (λ(a:Int)=>fD (dK a0.acT)<|df (λ(i:Int) (e:Fm)=>(λ(v75:Int)=>cI (lk n e) λf=>some (.next (dF .i64 v75 f))):Int->Fm->(Int)->(Option (eL (Int) (Int)))) λg=>cI (dN g a0.acT 0 a) (eG (λ(v75:Int)=>some v75) (λr=>some r))) (λr=>some r))
def jS(a0:Fm):Option Int:=cI (lv FU a0) λb=>if b then cI (lk FU a0) λa=>if kZ a 4096 then some 4 else some 0 else some 2
def kx(a0:Tm):Option Int:=cI (jR FU a0) λb=>if b then cI (eM FU a0) λa=>if kZ a 4096 then some 4 else some 0 else some 2
def s7(a0:Ty):Option (Ty×Int):=cI (ig a0) λa=>if dw a 0 then some ((Ty.mk 0 []),4)else some (a0,0)
def ey:Nat->(List Ty)->Tm->Option (Ty×Int)
 |0,_,_=>none|n+1,a0,a1=>if dg a1.acS 1 then if sM a1.acV (di a0)then some ((Ty.mk 0 []),6)else cI (de a0 (dZ .i64 (dZ .i64 (di a0) 1) a1.acV)) λai=>cI (gE FU ai) λak=>some (ak,0)else if dg a1.acS 2 then fD (eJ a0 [a1.cP])<|cI (de a1.acT 0) λan=>cT (ey n (fa a0 [a1.cP]) an) λaq L=>if dw L 0 then some ((Ty.mk 0 []),L)else cI (j5 a1.cP aq) λar=>cT (s7 ar) λaw ax=>some (aw,ax)else fD (dK a1.acT)<|df (λ(ay:Int) (M:Tm)=>(λ(a:List Ty)=>cT (ey n a0 M) λh i=>if dw i 0 then some (.ret ((Ty.mk 0 []),i))else fD (eJ a [h])<|some (.next (fa a [h]))):Int->Tm->(List Ty)->(Option (eL (List Ty) (Ty×Int)))) λN=>cI (dN N a1.acT 0 []) (eG (λ(a:List Ty)=>cI (gr) λb=>cI (lM) λc=>if dg a1.acS 3 then df (λ(O:Bool)=>if O then some ((Ty.mk 0 []),7)else cI (de a 0) λP=>cI (de P.acT 1) λQ=>some (Q,0)) λj=>cI (de a 0) λk=>if dw k.acS 4 then j true else cI (de k.acT 0) λR=>cI (de a 1) λS=>cI (eo FU R S) λT=>j (qf T)else if dg a1.acS 4 then some (b,0)else if dg a1.acS 5 then cI (de a 0) λU=>cI (eo FU U b) λV=>if V then some (b,0)else some ((Ty.mk 0 []),7)else if dg a1.acS 6 then df (λ(W:Bool)=>if W then some ((Ty.mk 0 []),7)else cI (gE FU a1.cP) λX=>some (X,0)) λf=>cI (de a 0) λY=>cI (eo FU Y a1.cP) λZ=>if Z then cI (de a 1) λaa=>cI (j5 a1.cP a1.cP) λab=>cI (j5 b ab) λad=>cI (eo FU aa ad) λae=>if ae then cI (de a 2) λaf=>cI (eo FU af b) λah=>f (qf ah)else f true else f true else if dg a1.acS 7 then some (c,0)else if dg a1.acS 8 then df (λ(l:Bool)=>if l then some ((Ty.mk 0 []),7)else some (c,0)) λg=>cI (de a 0) λm=>cI (eo FU m b) λo=>if o then cI (de a 1) λp=>cI (eo FU p c) λq=>g (qf q)else g true else if dg a1.acS 9 then df (λ(s:Bool)=>if s then some ((Ty.mk 0 []),7)else cI (gE FU a1.cP) λt=>some (t,0)) λd=>cI (de a 0) λu=>cI (eo FU u a1.cP) λv=>if v then cI (de a 1) λw=>cI (j5 a1.cP a1.cP) λx=>cI (j5 c x) λy=>cI (j5 b y) λz=>cI (eo FU w z) λA=>if A then cI (de a 2) λB=>cI (eo FU B c) λC=>d (qf C)else d true else d true else if dg a1.acS 10 then cI (de a 0) λD=>cI (de a 1) λE=>cI (ua D E) λF=>cT (s7 F) λG H=>some (G,H)else if eu (dg a1.acS 11) true (dg a1.acS 12)then cI (de a 0) λe=>if dw e.acS 3 then some ((Ty.mk 0 []),7)else if dg a1.acS 11 then cI (de e.acT 0) λI=>some (I,0)else cI (de e.acT 1) λJ=>some (J,0)else cI (uQ) λK=>some (K,0)) (λr=>some r))
def pD(a0:List Ty)(a1:Tm):Option (Ty×Int):=cI (kx a1) λc=>if dw c 0 then some ((Ty.mk 0 []),c)else cT (ey FU a0 a1) λa b=>some (a,b)
def mP:Nat->(List Ty)->Fm->Option Int
 |0,_,_=>none|n+1,a0,a1=>fD (dK a1.c9)<|df (λ(j:Int) (c:Tm)=>(λ(_:Unit)=>cT (pD a0 c) λd b=>if dw b 0 then some (.ret b)else if dw d.acS 1 then some (.ret 7)else some (.next ())):Int->Tm->(Unit)->(Option (eL (Unit) (Int)))) λe=>cI (dN e a1.c9 0 ()) (eG (λ(_:Unit)=>df (λ(f:List Ty)=>fD (dK a1.acT)<|df (λ(k:Int) (g:Fm)=>(λ(_:Unit)=>cI (mP n f g) λa=>if dw a 0 then some (.ret a)else some (.next ())):Int->Fm->(Unit)->(Option (eL (Unit) (Int)))) λh=>cI (dN h a1.acT 0 ()) (eG (λ(_:Unit)=>some 0) (λr=>some r))) λj64=>cI (j3 a1.acS) λi=>if i then fD (eJ a0 [a1.cP])<|j64 (fa a0 [a1.cP])else j64 a0) (λr=>some r))
def jV(a0:List Ty)(a1:Fm):Option Int:=cI (jS a1) λb=>if dw b 0 then some b else cI (mP FU a0 a1) λa=>some a
def iH(a0:List Ty)(a1:Fm):Option Int:=cI (lh a0) λb=>if dw b 0 then some b else cI (jV a0 a1) λa=>some a
def sN(a0:List Fm)(a1:Sq):Option Int:=if kZ (di a0) 32 then some 3 else fD (dK a0)<|df (λ(h:Int) (d:Fm)=>(λ(_:Unit)=>cI (iH [] d) λa=>if dw a 0 then some (.ret a)else some (.next ())):Int->Fm->(Unit)->(Option (eL (Unit) (Int)))) λe=>cI (dN e a0 0 ()) (eG (λ(_:Unit)=>cI (lh a1.acW) λb=>if dw b 0 then some b else if kZ (di a1.acZ) 16 then some 3 else fD (dK a1.acZ)<|df (λ(i:Int) (f:Fm)=>(λ(_:Unit)=>cI (iH a1.acW f) λc=>if dw c 0 then some (.ret c)else some (.next ())):Int->Fm->(Unit)->(Option (eL (Unit) (Int)))) λg=>cI (dN g a1.acZ 0 ()) (eG (λ(_:Unit)=>some 0) (λr=>some r))) (λr=>some r))
def px(a0:Int):Option (dU×Bool):=if eu (dg a0 1) true (dg a0 2)then some ((dU.mk 0 0 0 true false),true)else if eu (dg a0 3) true (dg a0 7)then some ((dU.mk 0 0 2 false false),true)else if eu (dg a0 4) true (eu (dg a0 5) true (dg a0 20))then some ((dU.mk 0 0 1 false false),true)else if dg a0 6 then some ((dU.mk 0 1 1 false false),true)else if eu (dg a0 8) true (dg a0 12)then some ((dU.mk 0 0 1 false true),true)else if eu (dg a0 9) true (dg a0 13)then some ((dU.mk 1 0 1 false false),true)else if eu (dg a0 10) true (dg a0 14)then some ((dU.mk 1 1 1 false false),true)else if eu (dg a0 11) true (dg a0 15)then some ((dU.mk 0 0 2 false false),true)else if eu (dg a0 16) true (dg a0 17)then some ((dU.mk 1 1 2 false false),true)else if dg a0 18 then some ((dU.mk 1 0 0 false false),true)else if dg a0 19 then some ((dU.mk 0 1 2 false false),true)else some ((dU.mk 0 0 0 false false),false)
def nO:Nat->Pf->Option Bool
 |0,_=>none|n+1,a0=>cT (px a0.acS) λb q=>if eu q (eu (dw (di a0.c9) b.c9) true (eu (dw (di a0.dV) b.dV) true (eu (dw (di a0.acT) b.acT) true (eu (qj a0.acV 0) true (eu b.acV false (dw a0.acV 0)))))) true then some false else df (λ(h:Bool)=>if h then some false else fD (dK a0.c9)<|df (λ(s:Int) (i:Tm)=>(λ(_:Unit)=>cI (jR FU i) λj=>if j then some (.next ())else some (.ret false)):Int->Tm->(Unit)->(Option (eL (Unit) (Bool)))) λk=>cI (dN k a0.c9 0 ()) (eG (λ(_:Unit)=>fD (dK a0.dV)<|df (λ(t:Int) (l:Fm)=>(λ(_:Unit)=>cI (lv FU l) λc=>if c then some (.next ())else some (.ret false)):Int->Fm->(Unit)->(Option (eL (Unit) (Bool)))) λd=>cI (dN d a0.dV 0 ()) (eG (λ(_:Unit)=>fD (dK a0.acT)<|df (λ(p:Int) (e:Pf)=>(λ(_:Unit)=>cI (nO n e) λf=>if f then some (.next ())else some (.ret false)):Int->Pf->(Unit)->(Option (eL (Unit) (Bool)))) λg=>cI (dN g a0.acT 0 ()) (eG (λ(_:Unit)=>some true) (λr=>some r))) (λr=>some r))) (λr=>some r))) λa=>if b.o0 then cI (ig a0.cP) λm=>if dw m 0 then a true else a false else cI (pg a0.cP) λo=>a (qf o)
def ra:Nat->Pf->Option Bool
 |0,_=>none|n+1,a0=>fD (dK a0.c9)<|df (λ(j:Int) (c:Tm)=>(λ(_:Unit)=>cI (eM FU c) λd=>if kZ d 4096 then some (.ret false)else some (.next ())):Int->Tm->(Unit)->(Option (eL (Unit) (Bool)))) λe=>cI (dN e a0.c9 0 ()) (eG (λ(_:Unit)=>fD (dK a0.dV)<|df (λ(k:Int) (f:Fm)=>(λ(_:Unit)=>cI (lk FU f) λg=>if kZ g 4096 then some (.ret false)else some (.next ())):Int->Fm->(Unit)->(Option (eL (Unit) (Bool)))) λh=>cI (dN h a0.dV 0 ()) (eG (λ(_:Unit)=>fD (dK a0.acT)<|df (λ(l:Int) (i:Pf)=>(λ(_:Unit)=>cI (ra n i) λa=>if a then some (.next ())else some (.ret false)):Int->Pf->(Unit)->(Option (eL (Unit) (Bool)))) λb=>cI (dN b a0.acT 0 ()) (eG (λ(_:Unit)=>some true) (λr=>some r))) (λr=>some r))) (λr=>some r))
def rb:Nat->Pf->Option Int
 |0,_=>none|n+1,a0=>fD (dK a0.c9)<|df (λ(m:Int) (f:Tm)=>(λ(b:Int)=>cI (eM FU f) λg=>some (.next (dF .i64 b g))):Int->Tm->(Int)->(Option (eL (Int) (Int)))) λh=>cI (dN h a0.c9 0 1) (eG (λ(b:Int)=>fD (dK a0.dV)<|df (λ(o:Int) (i:Fm)=>(λ(v75:Int)=>cI (lk FU i) λj=>some (.next (dF .i64 v75 j))):Int->Fm->(Int)->(Option (eL (Int) (Int)))) λk=>cI (dN k a0.dV 0 b) (eG (λ(v75:Int)=>fD (dK a0.acT)<|df (λ(l:Int) (c:Pf)=>(λ(a:Int)=>cI (rb n c) λd=>some (.next (dF .i64 a d))):Int->Pf->(Int)->(Option (eL (Int) (Int)))) λe=>cI (dN e a0.acT 0 v75) (eG (λ(a:Int)=>some a) (λr=>some r))) (λr=>some r))) (λr=>some r))
def sE(a0:Pf):Option Bool:=df (λ(d:Bool)=>some d) λc=>cI (ra FU a0) λa=>if a then cI (rb FU a0) λb=>c (Em b 16384)else c false
def ri(a0:Pf):Option Int:=cI (nO FU a0) λb=>if b then cI (sE a0) λa=>if a then some 0 else some 4 else some 2
def pS(a0:List (Int×Bool)):Option (List Int×List (Int×Bool)):=fD (dK a0)<|fD (wG (a0.map (·.1)))<|some (yg [] (a0.map (·.1)),a0)
def fj(a0 a1:List Int):Option (List Int):=fD (dK a0)<|df (λ(i:Int) (c:Int)=>(λ(a:(List (Int×Bool)))=>some (.next (uX a c true))):Int->Int->((List (Int×Bool)))->(Option (eL ((List (Int×Bool))) (List Int)))) λd=>cI (dN d a0 0 []) (eG (λ(a:(List (Int×Bool)))=>fD (dK a1)<|df (λ(h:Int) (e:Int)=>(λ(b:(List (Int×Bool)))=>some (.next (uX b e true))):Int->Int->((List (Int×Bool)))->(Option (eL ((List (Int×Bool))) (List Int)))) λf=>cI (dN f a1 0 a) (eG (λ(b:(List (Int×Bool)))=>cT (pS b) λg d51=>some g) (λr=>some r))) (λr=>some r))
def dq(a0:cS)(a1 a2:Int):Option Int:=if eu (kZ (dF .i64 (di a0.acW) a1) 16) true (kZ (dF .i64 (di a0.acZ) a2) 16)then some 3 else some 0
def eZ(a0:cS)(a1:Fm):Option cS:=fD (eJ a0.acZ [a1])<|some (cS.mk a0.lemmas a0.acW (fa a0.acZ [a1]))
def ky:Nat->Tm->Int->Option Bool
 |0,_,_=>none|n+1,a0,a1=>if kZ a0.acV a1 then some false else fD (dK a0.acT)<|df (λ(d:Int) (a:Tm)=>(λ(_:Unit)=>cI (ky n a a1) λb=>if b then some (.next ())else some (.ret false)):Int->Tm->(Unit)->(Option (eL (Unit) (Bool)))) λc=>cI (dN c a0.acT 0 ()) (eG (λ(_:Unit)=>some true) (λr=>some r))
def u_(a0:Tm):Option Bool:=if dg a0.acS 3 then cI (de a0.acT 0) λe=>some (dg e.acS 2)else if dg a0.acS 6 then df (λ(f:Bool)=>some f) λa=>cI (de a0.acT 2) λb=>if dg b.acS 4 then a true else a (dg b.acS 5)else if dg a0.acS 9 then df (λ(g:Bool)=>some g) λc=>cI (de a0.acT 2) λd=>if dg d.acS 7 then c true else c (dg d.acS 8)else if eu (dg a0.acS 11) true (dg a0.acS 12)then cI (de a0.acT 0) λh=>some (dg h.acS 10)else some false
def kC(a0:Tm):Option Int:=if dg a0.acS 2 then some 1 else some 0
def mv:Nat->Tm->Int->Option Int
 |0,_,_=>none|n+1,a0,a1=>fD (dK a0.acT)<|df (λ(f:Int) (d:Tm)=>(λ(a:Int)=>cI (kC a0) λb=>cI (mv n d (dF .i64 a1 b)) λc=>some (.next (dF .i64 a c))):Int->Tm->(Int)->(Option (eL (Int) (Int)))) λe=>cI (dN e a0.acT 0 (eu (eu (dg a0.acS 1) (dg a0.acV a1) false) (dF .i64 0 1) 0)) (eG (λ(a:Int)=>some a) (λr=>some r))
def rK(a0:Tm):Option Int:=cI (eM FU a0) λb=>if dg a0.acS 3 then cI (de a0.acT 0) λf=>cI (de f.acT 0) λc=>cI (de a0.acT 1) λg=>cI (eM FU c) λh=>cI (mv FU c 0) λi=>cI (eM FU g) λj=>some (dZ .i64 (dF .i64 h (J0 .i64 i (dZ .i64 j 1))) b)else if dg a0.acS 6 then cI (de a0.acT 2) λd=>if dg d.acS 4 then cI (de a0.acT 0) λk=>cI (eM FU k) λl=>some (dZ .i64 l b)else cI (de a0.acT 1) λm=>cI (eM FU m) λn=>cI (de d.acT 0) λo=>cI (eM FU o) λp=>some (dZ .i64 (dZ .i64 (dF .i64 (dF .i64 (dF .i64 2 n) p) b) 1) b)else if dg a0.acS 9 then cI (de a0.acT 2) λa=>if dg a.acS 7 then cI (de a0.acT 0) λq=>cI (eM FU q) λr=>some (dZ .i64 r b)else cI (de a.acT 0) λe=>cI (de a.acT 1) λs=>cI (de a0.acT 1) λt=>cI (eM FU t) λu=>cI (eM FU e) λv=>cI (eM FU s) λw=>cI (eM FU e) λx=>some (dZ .i64 (dZ .i64 (dZ .i64 (dF .i64 (dF .i64 (dF .i64 (dF .i64 3 u) v) w) b) 1) x) b)else if dg a0.acS 11 then cI (de a0.acT 0) λy=>cI (de y.acT 0) λz=>cI (eM FU z) λA=>some (dZ .i64 A b)else cI (de a0.acT 0) λB=>cI (de B.acT 1) λC=>cI (eM FU C) λD=>some (dZ .i64 D b)
def qs:Nat->Tm->Int->Int->Option Tm
 |0,_,_,_=>none|n+1,a0,a1,a2=>fD (dK a0.acT)<|df (λ(e:Int) (d:Tm)=>(λ(v105:List Tm)=>cI (kC a0) λb=>cI (qs n d (dF .i64 a1 b) a2) λa=>fD (eJ v105 [a])<|some (.next (fa v105 [a]))):Int->Tm->(List Tm)->(Option (eL (List Tm) (Tm)))) λc=>cI (dN c a0.acT 0 []) (eG (λ(v105:List Tm)=>some (Tm.mk a0.acS (eu (eu (dg a0.acS 1) (sM a0.acV a1) false) (dF .i64 a0.acV a2) a0.acV) a0.cP v105)) (λr=>some r))
def uR:Nat->Tm->Int->Int->Tm->Option Tm
 |0,_,_,_,_=>none|n+1,a0,a1,a2,a3=>if dg a0.acS 1 then if dg a0.acV (dF .i64 a1 a2)then cI (qs FU a3 0 (dF .i64 a1 a2)) λe=>some e else if kZ a0.acV (dF .i64 a1 a2)then cI (ez (dZ .i64 a0.acV 1)) λf=>some f else some a0 else fD (dK a0.acT)<|df (λ(h:Int) (g:Tm)=>(λ(a:List Tm)=>cI (kC a0) λc=>cI (uR n g a1 (dF .i64 a2 c) a3) λb=>fD (eJ a [b])<|some (.next (fa a [b]))):Int->Tm->(List Tm)->(Option (eL (List Tm) (Tm)))) λd=>cI (dN d a0.acT 0 []) (eG (λ(a:List Tm)=>some (Tm.mk a0.acS a0.acV a0.cP a)) (λr=>some r))
def qp(a0:Tm):Option Tm:=if dg a0.acS 3 then cI (de a0.acT 0) λg=>cI (de g.acT 0) λh=>cI (de a0.acT 1) λi=>cI (uR FU h 0 0 i) λj=>some j else if dg a0.acS 6 then cI (de a0.acT 2) λb=>if dg b.acS 4 then cI (de a0.acT 0) λk=>some k else cI (de b.acT 0) λc=>cI (de a0.acT 1) λd=>cI (eF 3 [d,c]) λl=>cI (de a0.acT 0) λm=>cI (kL 6 a0.cP [m,d,c]) λn=>cI (eF 3 [l,n]) λo=>some o else if dg a0.acS 9 then cI (de a0.acT 2) λa=>if dg a.acS 7 then cI (de a0.acT 0) λp=>some p else cI (de a.acT 0) λq=>cI (de a.acT 1) λe=>cI (de a0.acT 1) λf=>cI (eF 3 [f,q]) λr=>cI (eF 3 [r,e]) λs=>cI (de a0.acT 0) λt=>cI (kL 9 a0.cP [t,f,e]) λu=>cI (eF 3 [s,u]) λv=>some v else if dg a0.acS 11 then cI (de a0.acT 0) λw=>cI (de w.acT 0) λx=>some x else cI (de a0.acT 0) λy=>cI (de y.acT 1) λz=>some z
def nW:Nat->Tm->Int->Option (Tm×Bool×Bool)
 |0,_,_=>none|n+1,a0,a1=>cI (u_ a0) λi=>if i then cI (rK a0) λb=>if kZ b a1 then some ((Tm.mk 0 0 (Ty.mk 0 []) []),true,false)else cI (qp a0) λc=>some (c,true,true)else fD (dK a0.acT)<|df (λ(a:Int) (d:Tm)=>(λ(_:Unit)=>ik (nW n d a1) λe f g=>if f then fD (yk a0.acT)<|cI (de a0.acT a) λj=>some (.ret ((Tm.mk a0.acS a0.acV a0.cP (wy a0.acT a e)),true,g))else some (.next ())):Int->Tm->(Unit)->(Option (eL (Unit) (Tm×Bool×Bool)))) λh=>cI (dN h a0.acT 0 ()) (eG (λ(_:Unit)=>some (a0,false,true)) (λr=>some r))
def la(a0:Tm)(a1:Int):Option (Tm×Int×Int):=cI (kx a0) λm=>if dw m 0 then some ((Tm.mk 0 0 (Ty.mk 0 []) []),0,m)else df (λ(k:Bool)=>if k then some ((Tm.mk 0 0 (Ty.mk 0 []) []),0,1)else df ((Qz λ(v164:Int) (b:Int) (c:Int) (v167:Int) (v168:List Ty) (d:List Tm)=>cI (eM FU (Tm.mk b c (Ty.mk v167 v168) d)) λf=>ik (nW FU (Tm.mk b c (Ty.mk v167 v168) d) (dZ .i64 4096 f)) λa g h=>if g then if dg v164 a1 then some (.ret ((Tm.mk 0 0 (Ty.mk 0 []) []),0,5))else if h then some (.next ((dF .i64 v164 1),a.acS,a.acV,a.cP.acS,a.cP.acT,a.acT))else some (.ret ((Tm.mk 0 0 (Ty.mk 0 []) []),0,4))else cI (iF FU (Tm.mk b c (Ty.mk v167 v168) d)) λi=>some (.ret (i,v164,0))):(Int×Int×Int×Int×(List Ty)×(List Tm))->(Option (eL (Int×Int×Int×Int×(List Ty)×(List Tm)) (Tm×Int×Int)))) λj=>cI (lp j FU (0,a0.acS,a0.acV,a0.cP.acS,a0.cP.acT,a0.acT)) (eG (Qz λ(v164:Int) (b:Int) (c:Int) (v167:Int) (v168:List Ty) (d:List Tm)=>none) (λr=>some r))) λe=>if qj a1 0 then e true else if kZ a1 65536 then e true else cI (ky FU a0 536870912) λl=>e (qf l)
def rp(a0 a1:Tm)(a2:Int):Option Int:=cI (kx a0) λh=>if dw h 0 then some h else cI (kx a1) λa=>if dw a 0 then some a else cI (jy FU a0 a1) λd=>if d then some 0 else ik (la a0 a2) λe i b=>if dw b 0 then some b else ik (la a1 a2) λf j c=>if dw c 0 then some c else cI (jy FU e f) λg=>if g then some 0 else some 11
def pq:Nat->Fm->Fm->Option Int
 |0,_,_=>none|n+1,a0,a1=>df (λ(i:Bool)=>if i then some 11 else fD (dK a0.c9)<|df (λ(j:Int) (k:Tm)=>(λ(_:Unit)=>cI (de a1.c9 j) λc=>cI (rp k c 1000) λa=>if dw a 0 then some (.ret a)else some (.next ())):Int->Tm->(Unit)->(Option (eL (Unit) (Int)))) λl=>cI (dN l a0.c9 0 ()) (eG (λ(_:Unit)=>fD (dK a0.acT)<|df (λ(d:Int) (e:Fm)=>(λ(_:Unit)=>cI (de a1.acT d) λf=>cI (pq n e f) λb=>if dw b 0 then some (.ret b)else some (.next ())):Int->Fm->(Unit)->(Option (eL (Unit) (Int)))) λg=>cI (dN g a0.acT 0 ()) (eG (λ(_:Unit)=>some 0) (λr=>some r))) (λr=>some r))) λh=>if dw a0.acS a1.acS then h true else cI (eo FU a0.cP a1.cP) λm=>h (qf m)
def lx(a0 a1:Fm):Option Int:=cI (jS a0) λc=>if dw c 0 then some c else cI (jS a1) λa=>if dw a 0 then some a else cI (pq FU a0 a1) λb=>some b
def mJ(a0:Fm):Option Int:=cI (j3 a0.acS) λa=>if a then some 1 else some 0
def fH:Nat->Fm->Int->Int->Option Fm
 |0,_,_,_=>none|n+1,a0,a1,a2=>fD (dK a0.c9)<|df (λ(k:Int) (h:Tm)=>(λ(b:List Tm)=>cI (qs FU h a1 a2) λd=>fD (eJ b [d])<|some (.next (fa b [d]))):Int->Tm->(List Tm)->(Option (eL (List Tm) (Fm)))) λi=>cI (dN i a0.c9 0 []) (eG (λ(b:List Tm)=>fD (dK a0.acT)<|df (λ(j:Int) (e:Fm)=>(λ(a:List Fm)=>cI (mJ a0) λf=>cI (fH n e (dF .i64 a1 f) a2) λc=>fD (eJ a [c])<|some (.next (fa a [c]))):Int->Fm->(List Fm)->(Option (eL (List Fm) (Fm)))) λg=>cI (dN g a0.acT 0 []) (eG (λ(a:List Fm)=>some (Fm.mk a0.acS a0.cP b a)) (λr=>some r))) (λr=>some r))
def eh(a0:cS)(a1:List Ty):Option cS:=fD (eJ a0.acW a1)<|fD (dK a0.acZ)<|df (λ(e:Int) (c:Fm)=>(λ(a:List Fm)=>cI (fH FU c 0 (di a1)) λb=>fD (eJ a [b])<|some (.next (fa a [b]))):Int->Fm->(List Fm)->(Option (eL (List Fm) (cS)))) λd=>cI (dN d a0.acZ 0 []) (eG (λ(a:List Fm)=>some (cS.mk a0.lemmas (fa a0.acW a1) a)) (λr=>some r))
def fm(a0:List Int)(a1:Int):Option (List Int):=fD (dK a0)<|df (λ(e:Int) (b:Int)=>(λ(a:List Int)=>df (λ(c:List Int)=>some (.next c)) λj57=>if sM b a1 then fD (eJ a [(dZ .i64 b a1)])<|j57 (fa a [(dZ .i64 b a1)])else j57 a):Int->Int->(List Int)->(Option (eL (List Int) (List Int)))) λd=>cI (dN d a0 0 []) (eG (λ(a:List Int)=>some a) (λr=>some r))
def rn(a0:List Int):Option Bool:=df (λ(v6:Bool)=>some v6) λa=>if kZ (di a0) 0 then cI (de a0 0) λb=>a (dg b 0)else a false
def jC(a0:List Ty)(a1:Tm):Option (Ty×Int):=cI (lh a0) λc=>if dw c 0 then some ((Ty.mk 0 []),c)else cT (pD a0 a1) λa b=>some (a,b)
def pB:Nat->Tm->Int->(List (Int×Bool))->Option ((List (Int×Bool)))
 |0,_,_,_=>none|n+1,a0,a1,a2=>df (λ(e:(List (Int×Bool)))=>fD (dK a0.acT)<|df (λ(f:Int) (a:Tm)=>(λ(v51:(List (Int×Bool)))=>cI (kC a0) λb=>cI (pB n a (dF .i64 a1 b) v51) λd73=>some (.next d73)):Int->Tm->((List (Int×Bool)))->(Option (eL ((List (Int×Bool))) ((List (Int×Bool)))))) λc=>cI (dN c a0.acT 0 e) (eG (λ(v51:(List (Int×Bool)))=>some v51) (λr=>some r))) λd=>if eu (dg a0.acS 1) (sM a0.acV a1) false then d (uX a2 (dZ .i64 a0.acV a1) true)else d a2
def ve(a0:Tm):Option ((List Int)×Int):=cI (kx a0) λb=>if dw b 0 then some ([],b)else cI (pB FU a0 0 []) λd11=>cT (pS d11) λa d17=>some (a,0)
def jA(a0:Tm):Option (List Int):=cT (ve a0) λa b=>some a
def pM:Nat->Fm->Int->Option Bool
 |0,_,_=>none|n+1,a0,a1=>fD (dK a0.c9)<|df (λ(g:Int) (a:Tm)=>(λ(_:Unit)=>cI (ky FU a a1) λb=>if b then some (.next ())else some (.ret false)):Int->Tm->(Unit)->(Option (eL (Unit) (Bool)))) λc=>cI (dN c a0.c9 0 ()) (eG (λ(_:Unit)=>fD (dK a0.acT)<|df (λ(h:Int) (d:Fm)=>(λ(_:Unit)=>cI (pM n d a1) λe=>if e then some (.next ())else some (.ret false)):Int->Fm->(Unit)->(Option (eL (Unit) (Bool)))) λf=>cI (dN f a0.acT 0 ()) (eG (λ(_:Unit)=>some true) (λr=>some r))) (λr=>some r))
def pe:Nat->Fm->Int->Option Int
 |0,_,_=>none|n+1,a0,a1=>fD (dK a0.c9)<|df (λ(j:Int) (f:Tm)=>(λ(b:Int)=>cI (mv FU f a1) λg=>some (.next (dF .i64 b g))):Int->Tm->(Int)->(Option (eL (Int) (Int)))) λh=>cI (dN h a0.c9 0 0) (eG (λ(b:Int)=>fD (dK a0.acT)<|df (λ(k:Int) (i:Fm)=>(λ(a:Int)=>cI (mJ a0) λc=>cI (pe n i (dF .i64 a1 c)) λd=>some (.next (dF .i64 a d))):Int->Fm->(Int)->(Option (eL (Int) (Int)))) λe=>cI (dN e a0.acT 0 b) (eG (λ(a:Int)=>some a) (λr=>some r))) (λr=>some r))
def wX:Nat->Fm->Int->Int->Tm->Option Fm
 |0,_,_,_,_=>none|n+1,a0,a1,a2,a3=>fD (dK a0.c9)<|df (λ(k:Int) (h:Tm)=>(λ(b:List Tm)=>cI (uR FU h a1 a2 a3) λd=>fD (eJ b [d])<|some (.next (fa b [d]))):Int->Tm->(List Tm)->(Option (eL (List Tm) (Fm)))) λi=>cI (dN i a0.c9 0 []) (eG (λ(b:List Tm)=>fD (dK a0.acT)<|df (λ(j:Int) (e:Fm)=>(λ(a:List Fm)=>cI (mJ a0) λf=>cI (wX n e a1 (dF .i64 a2 f) a3) λc=>fD (eJ a [c])<|some (.next (fa a [c]))):Int->Fm->(List Fm)->(Option (eL (List Fm) (Fm)))) λg=>cI (dN g a0.acT 0 []) (eG (λ(a:List Fm)=>some (Fm.mk a0.acS a0.cP b a)) (λr=>some r))) (λr=>some r))
def wK(a0:Fm)(a1:Int)(a2:Tm):Option (Fm×Int):=cI (jS a0) λk=>if dw k 0 then some ((Fm.mk 0 (Ty.mk 0 []) [] []),k)else if eu (qj a1 0) true (kZ a1 4096)then some ((Fm.mk 0 (Ty.mk 0 []) [] []),1)else cI (kx a2) λa=>if dw a 0 then some ((Fm.mk 0 (Ty.mk 0 []) [] []),a)else df (λ(e:Bool)=>if e then some ((Fm.mk 0 (Ty.mk 0 []) [] []),1)else cI (lk FU a0) λf=>cI (pe FU a0 a1) λg=>cI (eM FU a2) λh=>if kZ (dF .i64 f (J0 .i64 g (dZ .i64 h 1))) 4096 then some ((Fm.mk 0 (Ty.mk 0 []) [] []),4)else cI (wX FU a0 a1 0 a2) λb=>cI (iq FU b) λc=>some (c,0)) λd=>cI (pM FU a0 536870912) λi=>if i then cI (ky FU a2 536870912) λj=>d (qf j)else d true
def iQ(a0:Fm)(a1:Tm):Option (Fm×Int):=cT (wK a0 0 a1) λa b=>some (a,b)
def uj:Nat->Tm->Int->Option Bool
 |0,_,_=>none|n+1,a0,a1=>if eu (dg a0.acS 1) (dg a0.acV a1) false then some true else fD (dK a0.acT)<|df (λ(e:Int) (c:Tm)=>(λ(_:Unit)=>cI (kC a0) λa=>cI (uj n c (dF .i64 a1 a)) λb=>if b then some (.ret true)else some (.next ())):Int->Tm->(Unit)->(Option (eL (Unit) (Bool)))) λd=>cI (dN d a0.acT 0 ()) (eG (λ(_:Unit)=>some false) (λr=>some r))
def pR:Nat->Fm->Int->Option Bool
 |0,_,_=>none|n+1,a0,a1=>fD (dK a0.c9)<|df (λ(h:Int) (d:Tm)=>(λ(_:Unit)=>cI (uj FU d a1) λe=>if e then some (.ret true)else some (.next ())):Int->Tm->(Unit)->(Option (eL (Unit) (Bool)))) λf=>cI (dN f a0.c9 0 ()) (eG (λ(_:Unit)=>fD (dK a0.acT)<|df (λ(i:Int) (g:Fm)=>(λ(_:Unit)=>cI (mJ a0) λa=>cI (pR n g (dF .i64 a1 a)) λb=>if b then some (.ret true)else some (.next ())):Int->Fm->(Unit)->(Option (eL (Unit) (Bool)))) λc=>cI (dN c a0.acT 0 ()) (eG (λ(_:Unit)=>some false) (λr=>some r))) (λr=>some r))
def mC:Nat->Fm->Option (Fm×Int)
 |0,_=>none|n+1,a0=>fD (dK a0.c9)<|df (λ(m:Int) (i:Tm)=>(λ(b:List Tm)=>ik (la i 1000) λc k d=>if dw d 0 then some (.ret ((Fm.mk 0 (Ty.mk 0 []) [] []),d))else fD (eJ b [c])<|some (.next (fa b [c]))):Int->Tm->(List Tm)->(Option (eL (List Tm) (Fm×Int)))) λj=>cI (dN j a0.c9 0 []) (eG (λ(b:List Tm)=>fD (dK a0.acT)<|df (λ(l:Int) (g:Fm)=>(λ(a:List Fm)=>cT (mC n g) λe f=>if dw f 0 then some (.ret ((Fm.mk 0 (Ty.mk 0 []) [] []),f))else fD (eJ a [e])<|some (.next (fa a [e]))):Int->Fm->(List Fm)->(Option (eL (List Fm) (Fm×Int)))) λh=>cI (dN h a0.acT 0 []) (eG (λ(a:List Fm)=>some ((Fm.mk a0.acS a0.cP b a),0)) (λr=>some r))) (λr=>some r))
def fX(a0:cS)(a1:Tm)(a2:Int):Option Int:=cT (jC a0.acW a1) λb a=>if dw a 0 then some a else if dw b.acS a2 then some 7 else some 0
def iU:Nat->Fm->Option Bool
 |0,_=>none|n+1,a0=>if dg a0.acS 1 then some false else if dg a0.acS 2 then df (λ(b:Bool)=>some b) λa=>cI (de a0.acT 0) λc=>cI (iU n c) λd=>if d then a true else cI (de a0.acT 1) λe=>cI (iU n e) λf=>a f else if dg a0.acS 5 then some true else cI (de a0.acT (dZ .i64 (di a0.acT) 1)) λg=>cI (iU n g) λh=>some h
def oE(a0:Fm):Option (Bool×Int):=cI (jS a0) λb=>if dw b 0 then some (false,b)else cI (iU FU a0) λa=>some (a,0)
mutual
def dj:Nat->cS->Pf->Option (p_×Int)
 |0,_,_=>none|n+1,a0,a1=>ik (dc n a0 a1) λb g f=>if dw f 0 then some ((p_.mk (Fm.mk 0 (Ty.mk 0 []) [] []) []),f)else cI (jS b) λc=>if dw c 0 then some ((p_.mk (Fm.mk 0 (Ty.mk 0 []) [] []) []),4)else df (λ(d:List Int)=>some ((p_.mk b d),0)) λa=>cT (oE b) λe h=>if e then a g else a []
def dc:Nat->cS->Pf->Option (Fm×(List Int)×Int)
 |0,_,_=>none|n+1,a0,a1=>if dg a1.acS 1 then if sM a1.acV (di a0.acZ)then some ((Fm.mk 0 (Ty.mk 0 []) [] []),[],8)else cI (de a0.acZ (dZ .i64 (dZ .i64 (di a0.acZ) 1) a1.acV)) λp=>some (p,[],0)else if dg a1.acS 2 then if sM a1.acV (di a0.lemmas)then some ((Fm.mk 0 (Ty.mk 0 []) [] []),[],9)else cI (de a0.lemmas a1.acV) λq=>some (q,[],0)else if dg a1.acS 3 then cI (de a1.acT 0) λr=>cT (dj n a0 r) λe f=>if dw f 0 then some ((Fm.mk 0 (Ty.mk 0 []) [] []),[],f)else cI (de a1.acT 1) λs=>cT (dj n a0 s) λg t=>cI (nq 2 e.cR g.cR) λu=>cI (fj e.fk g.fk) λv=>some (u,v,t)else if eu (dg a1.acS 4) true (dg a1.acS 5)then cI (de a1.acT 0) λw=>cT (dj n a0 w) λb h=>if dw h 0 then some ((Fm.mk 0 (Ty.mk 0 []) [] []),[],h)else if dw b.cR.acS 2 then some ((Fm.mk 0 (Ty.mk 0 []) [] []),[],10)else cI (de b.cR.acT (dZ .i64 a1.acS 4)) λx=>some (x,b.fk,0)else if dg a1.acS 6 then cI (de a1.dV 0) λc=>cI (iH a0.acW c) λi=>if dw i 0 then some ((Fm.mk 0 (Ty.mk 0 []) [] []),[],i)else cI (dq a0 0 1) λj=>if dw j 0 then some ((Fm.mk 0 (Ty.mk 0 []) [] []),[],j)else cI (eZ a0 c) λy=>cI (de a1.acT 0) λz=>cT (dj n y z) λk A=>cI (nq 3 c k.cR) λB=>some (B,k.fk,A)else if dg a1.acS 7 then cI (de a1.acT 0) λC=>cT (dj n a0 C) λa l=>if dw l 0 then some ((Fm.mk 0 (Ty.mk 0 []) [] []),[],l)else if dw a.cR.acS 3 then some ((Fm.mk 0 (Ty.mk 0 []) [] []),[],10)else cI (de a1.acT 1) λD=>cT (dj n a0 D) λm o=>if dw o 0 then some ((Fm.mk 0 (Ty.mk 0 []) [] []),[],o)else cI (de a.cR.acT 1) λE=>cI (fj a.fk m.fk) λF=>cI (de a.cR.acT 0) λG=>cI (lx G m.cR) λH=>some (E,F,H)else if eu (dg a1.acS 8) true (dg a1.acS 12)then ik (mE n a0 a1) λI J K=>some (I,J,K)else if eu (dg a1.acS 9) true (dg a1.acS 13)then ik (ni n a0 a1) λL M N=>some (L,M,N)else if eu (dg a1.acS 10) true (dg a1.acS 14)then ik (ny n a0 a1) λO P Q=>some (O,P,Q)else if eu (dg a1.acS 11) true (dg a1.acS 15)then ik (lR n a0 a1) λR S T=>some (R,S,T)else if dg a1.acS 16 then ik (oY n a0 a1) λU V W=>some (U,V,W)else if dg a1.acS 17 then ik (m5 n a0 a1) λX Y Z=>some (X,Y,Z)else if dg a1.acS 18 then cI (de a1.c9 0) λd=>cI (kv d d) λaa=>cI (fX a0 d 1) λab=>some (aa,[],ab)else if dg a1.acS 19 then ik (m8 n a0 a1) λad ae af=>some (ad,ae,af)else ik (mx n a0 a1) λah ai ak=>some (ah,ai,ak)
def mE:Nat->cS->Pf->Option (Fm×(List Int)×Int)
 |0,_,_=>none|n+1,a0,a1=>cI (dq a0 1 0) λj=>if dw j 0 then some ((Fm.mk 0 (Ty.mk 0 []) [] []),[],j)else cI (eh a0 [a1.cP]) λc=>cI (de a1.acT 0) λd=>cT (dj n c d) λa b=>if dw b 0 then some ((Fm.mk 0 (Ty.mk 0 []) [] []),[],b)else if dg a1.acS 8 then cI (iZ 4 a1.cP a.cR) λe=>cI (fm a.fk 1) λf=>some (e,f,0)else cI (rn a.fk) λg=>if g then some ((Fm.mk 0 (Ty.mk 0 []) [] []),[],12)else cI (iZ 6 a1.cP a.cR) λh=>cI (fm a.fk 1) λi=>some (h,i,0)
def ni:Nat->cS->Pf->Option (Fm×(List Int)×Int)
 |0,_,_=>none|n+1,a0,a1=>cI (de a1.c9 0) λc=>cT (jC a0.acW c) λl k=>if dw k 0 then some ((Fm.mk 0 (Ty.mk 0 []) [] []),[],k)else cI (de a1.acT 0) λd=>cT (dj n a0 d) λa b=>if dw b 0 then some ((Fm.mk 0 (Ty.mk 0 []) [] []),[],b)else cI (jA c) λe=>cI (fj a.fk e) λf=>if dw a.cR.acS (eu (dg a1.acS 13) 6 4)then some ((Fm.mk 0 (Ty.mk 0 []) [] []),[],10)else cI (eo FU a.cR.cP l) λg=>if g then cI (de a.cR.acT 0) λh=>cT (iQ h c) λi j=>some (i,(eu (dg a1.acS 13) a.fk f),j)else some ((Fm.mk 0 (Ty.mk 0 []) [] []),[],7)
def ny:Nat->cS->Pf->Option (Fm×(List Int)×Int)
 |0,_,_=>none|n+1,a0,a1=>cI (de a1.dV 0) λa=>cI (de a1.c9 0) λb=>cI (iH a0.acW a) λc=>if dw c 0 then some ((Fm.mk 0 (Ty.mk 0 []) [] []),[],c)else if dw a.acS (eu (dg a1.acS 14) 7 5)then some ((Fm.mk 0 (Ty.mk 0 []) [] []),[],10)else cT (jC a0.acW b) λg d=>if dw d 0 then some ((Fm.mk 0 (Ty.mk 0 []) [] []),[],d)else cI (eo FU a.cP g) λh=>if h then cI (de a1.acT 0) λi=>cI (de a.acT 0) λj=>cT (d_ n a0 i j b) λe k=>df (λ(l:List Int)=>some (a,l,k)) λf=>if dg (eu (dg a1.acS 14) 7 5) 5 then cI (jA b) λm=>cI (fj e m) λo=>f o else f e else some ((Fm.mk 0 (Ty.mk 0 []) [] []),[],7)
def lR:Nat->cS->Pf->Option (Fm×(List Int)×Int)
 |0,_,_=>none|n+1,a0,a1=>cI (de a1.acT 0) λu=>cT (dj n a0 u) λc g=>if dw g 0 then some ((Fm.mk 0 (Ty.mk 0 []) [] []),[],g)else if dw c.cR.acS (eu (dg a1.acS 15) 7 5)then some ((Fm.mk 0 (Ty.mk 0 []) [] []),[],10)else cI (dq a0 1 1) λh=>if dw h 0 then some ((Fm.mk 0 (Ty.mk 0 []) [] []),[],h)else cI (eh a0 [c.cR.cP]) λv=>cI (de c.cR.acT 0) λw=>cI (eZ v w) λx=>cI (de a1.acT 1) λy=>cT (dj n x y) λb i=>if dw i 0 then some ((Fm.mk 0 (Ty.mk 0 []) [] []),[],i)else df (λ(z:Int) (j:Int) (k:List Ty) (l:List Tm) (m:List Fm)=>df (λ(v139:Bool)=>if v139 then some ((Fm.mk 0 (Ty.mk 0 []) [] []),[],12)else cI (fH FU (Fm.mk z (Ty.mk j k) l m) 1 (-1)) λo=>cI (fm b.fk 1) λp=>cI (fj c.fk p) λq=>some (o,q,0)) λd=>if dg (eu (dg a1.acS 15) 7 5) 7 then cI (rn b.fk) λr=>d r else d false) λe=>cI (pR FU b.cR 0) λs=>if s then cT (mC FU b.cR) λa f=>if dw f 0 then some ((Fm.mk 0 (Ty.mk 0 []) [] []),[],f)else cI (pR FU a 0) λt=>if t then some ((Fm.mk 0 (Ty.mk 0 []) [] []),[],6)else e a.acS a.cP.acS a.cP.acT a.c9 a.acT else e b.cR.acS b.cR.cP.acS b.cR.cP.acT b.cR.c9 b.cR.acT
def oY:Nat->cS->Pf->Option (Fm×(List Int)×Int)
 |0,_,_=>none|n+1,a0,a1=>cI (de a1.dV 0) λa=>cI (de a1.c9 0) λc=>cI (gr) λd=>fD (eJ a0.acW [d])<|cI (jV (fa a0.acW [d]) a) λe=>if dw e 0 then some ((Fm.mk 0 (Ty.mk 0 []) [] []),[],e)else cI (fX a0 c 1) λf=>if dw f 0 then some ((Fm.mk 0 (Ty.mk 0 []) [] []),[],f)else cI (de a1.acT 0) λx=>cI (eF 4 []) λy=>cT (d_ n a0 x a y) λz g=>if dw g 0 then some ((Fm.mk 0 (Ty.mk 0 []) [] []),[],g)else cI (dq a0 1 1) λh=>if dw h 0 then some ((Fm.mk 0 (Ty.mk 0 []) [] []),[],h)else cI (gr) λi=>cI (eh a0 [i]) λj=>cI (eZ j a) λk=>cI (de a1.acT 1) λl=>cI (fH FU a 1 1) λm=>cI (ez 0) λo=>cI (eF 5 [o]) λp=>cT (d_ n k l m p) λq b=>if dw b 0 then some ((Fm.mk 0 (Ty.mk 0 []) [] []),[],b)else cT (iQ a c) λr s=>cI (jA c) λt=>cI (fj t z) λu=>cI (fm q 1) λv=>cI (fj u v) λw=>some (r,w,s)
def m5:Nat->cS->Pf->Option (Fm×(List Int)×Int)
 |0,_,_=>none|n+1,a0,a1=>cI (de a1.dV 0) λa=>cI (de a1.c9 0) λc=>cI (lM) λd=>fD (eJ a0.acW [d])<|cI (jV (fa a0.acW [d]) a) λe=>if dw e 0 then some ((Fm.mk 0 (Ty.mk 0 []) [] []),[],e)else cI (fX a0 c 2) λf=>if dw f 0 then some ((Fm.mk 0 (Ty.mk 0 []) [] []),[],f)else cI (de a1.acT 0) λA=>cI (eF 7 []) λB=>cT (d_ n a0 A a B) λC g=>if dw g 0 then some ((Fm.mk 0 (Ty.mk 0 []) [] []),[],g)else cI (dq a0 2 1) λh=>if dw h 0 then some ((Fm.mk 0 (Ty.mk 0 []) [] []),[],h)else cI (gr) λi=>cI (lM) λj=>cI (eh a0 [i,j]) λk=>cI (fH FU a 1 1) λl=>cI (eZ k l) λm=>cI (de a1.acT 1) λo=>cI (fH FU a 1 2) λp=>cI (ez 1) λq=>cI (ez 0) λr=>cI (eF 8 [q,r]) λs=>cT (d_ n m o p s) λt b=>if dw b 0 then some ((Fm.mk 0 (Ty.mk 0 []) [] []),[],b)else cT (iQ a c) λu v=>cI (jA c) λw=>cI (fj w C) λx=>cI (fm t 2) λy=>cI (fj x y) λz=>some (u,z,v)
def m8:Nat->cS->Pf->Option (Fm×(List Int)×Int)
 |0,_,_=>none|n+1,a0,a1=>cI (de a1.dV 0) λi=>cI (gr) λb=>fD (eJ a0.acW [b])<|cI (jV (fa a0.acW [b]) i) λc=>if dw c 0 then some ((Fm.mk 0 (Ty.mk 0 []) [] []),[],c)else cI (de a1.acT 0) λj=>cT (dj n a0 j) λa d=>if dw d 0 then some ((Fm.mk 0 (Ty.mk 0 []) [] []),[],d)else if dw a.cR.acS 1 then some ((Fm.mk 0 (Ty.mk 0 []) [] []),[],10)else cI (de a1.acT 1) λk=>cI (de a.cR.c9 0) λl=>cT (d_ n a0 k i l) λm e=>if dw e 0 then some ((Fm.mk 0 (Ty.mk 0 []) [] []),[],e)else cI (de a.cR.c9 1) λf=>cT (iQ i f) λg h=>some (g,m,h)
def mx:Nat->cS->Pf->Option (Fm×(List Int)×Int)
 |0,_,_=>none|n+1,a0,a1=>cI (de a1.acT 0) λf=>cT (dj n a0 f) λa b=>if dw b 0 then some ((Fm.mk 0 (Ty.mk 0 []) [] []),[],b)else df (λ(g:Bool)=>if g then some ((Fm.mk 0 (Ty.mk 0 []) [] []),[],10)else cI (de a.cR.acT 0) λc=>cI (j5 a.cR.cP c.cP) λd=>cI (ig d) λh=>if dw h 0 then some ((Fm.mk 0 (Ty.mk 0 []) [] []),[],4)else cI (de c.acT 0) λi=>cI (fH FU i 2 1) λj=>cI (ez 1) λk=>cI (ez 0) λl=>cI (eF 3 [k,l]) λm=>cT (iQ j m) λo p=>cI (iZ 4 a.cR.cP o) λq=>cI (iZ 5 d q) λr=>some (r,a.fk,p)) λe=>if dw a.cR.acS 4 then e true else cI (de a.cR.acT 0) λs=>e (dw s.acS 5)
def d_:Nat->cS->Pf->Fm->Tm->Option ((List Int)×Int)
 |0,_,_,_,_=>none|n+1,a0,a1,a2,a3=>cT (dj n a0 a1) λd e=>if dw e 0 then some ([],e)else cT (iQ a2 a3) λb a=>if dw a 0 then some ([],a)else cI (lx b d.cR) λc=>some (d.fk,c)
end
def ij(a0:List Fm)(a1:Sq)(a2:Pf):Option (p_×Int):=cI (sN a0 a1) λe=>if dw e 0 then some ((p_.mk (Fm.mk 0 (Ty.mk 0 []) [] []) []),e)else cI (ri a2) λb=>if dw b 0 then some ((p_.mk (Fm.mk 0 (Ty.mk 0 []) [] []) []),b)else cT (dj FU (cS.mk a0 a1.acW a1.acZ) a2) λa c=>if dw c 0 then some ((p_.mk (Fm.mk 0 (Ty.mk 0 []) [] []) []),c)else cI (iq FU a.cR) λd=>fD (eJ [] a.fk)<|some ((p_.mk d (fa [] a.fk)),0)
def pJ(a0:Sq)(a1:List Ty):Option Sq:=cI (lC a0.acW a1) λe=>fD (dK a0.acZ)<|df (λ(f:Int) (c:Fm)=>(λ(a:List Fm)=>cI (fH FU c 0 (di a1)) λb=>fD (eJ a [b])<|some (.next (fa a [b]))):Int->Fm->(List Fm)->(Option (eL (List Fm) (Sq)))) λd=>cI (dN d a0.acZ 0 []) (eG (λ(a:List Fm)=>some (Sq.mk e a)) (λr=>some r))
def tf(a0:Int)(a1:Tm)(a2:Pf):Option Pf:=cI (lZ a0 [a2]) λa=>cI (iF FU a1) λb=>some (Pf.mk a.acS a.acV a.cP [b] a.dV a.acT)
def iY(a0:Tm):Option Tm:=cI (kv a0 a0) λb=>cI (fH FU b 0 1) λc=>cI (de c.c9 0) λa=>some a
def s_(a0:Int)(a1:Fm)(a2:Tm)(a3:Pf):Option Pf:=cI (tf a0 a2 a3) λa=>cI (iq FU a1) λb=>some (Pf.mk a.acS a.acV a.cP a.c9 [b] a.acT)
def rZ(a0:Int)(a1:Fm)(a2:Tm)(a3:Pf):Option (Pf×Fm):=cI (tf a0 a2 a3) λa=>cI (iq FU a1) λb=>some ((Pf.mk a.acS a.acV a.cP a.c9 [b] a.acT),b)
def tp(a0:cV)(a1:Sq):Option (Pf×Fm×cV):=cI (gr) λi=>cT (eY FU a0 a1.acW i 1) λc d9=>cI (iY c) λd=>cI (ez 0) λe=>cI (kv d e) λf=>cI (iZ 5 i f) λg=>cI (jE c) λh=>cT (rZ 10 g c h) λa b=>some ((Pf.mk a.acS a.acV a.cP a.c9 [b] a.acT),b,d9)
def me(a0:Int):Option Pf:=some (Pf.mk 1 a0 (Ty.mk 0 []) [] [] [])
def sG(a0:Int)(a1:Fm)(a2:Tm)(a3 a4:Pf):Option Pf:=cI (lZ a0 [a3,a4]) λa=>cI (iF FU a2) λc=>cI (iq FU a1) λb=>some (Pf.mk a.acS a.acV a.cP [c] [b] a.acT)
def u7(a0:Tm)(a1:Int):Option Tm:=cI (qs FU a0 0 a1) λa=>some a
def q9(a0:Fm)(a1 a2:Pf):Option Pf:=cI (lZ 19 [a1,a2]) λa=>cI (iq FU a0) λb=>some (Pf.mk a.acS a.acV a.cP a.c9 [b] a.acT)
def uU(a0 a1:Tm)(a2:Pf):Option Pf:=cI (u7 a0 1) λa=>cI (u7 a1 1) λb=>cI (eF 3 [a,b]) λc=>cI (u7 a0 1) λd=>cI (ez 0) λe=>cI (eF 3 [d,e]) λf=>cI (kv c f) λg=>cI (eF 3 [a0,a1]) λh=>cI (jE h) λi=>cI (q9 g a2 i) λj=>some j
def rA(a0:List Tm)(a1:List Fm)(a2:List Pf):Option Int:=fD (dK a0)<|df (λ(j:Int) (e:Tm)=>(λ(_:Unit)=>cI (kx e) λb=>if dw b 0 then some (.ret b)else some (.next ())):Int->Tm->(Unit)->(Option (eL (Unit) (Int)))) λf=>cI (dN f a0 0 ()) (eG (λ(_:Unit)=>fD (dK a1)<|df (λ(k:Int) (g:Fm)=>(λ(_:Unit)=>cI (jS g) λc=>if dw c 0 then some (.ret c)else some (.next ())):Int->Fm->(Unit)->(Option (eL (Unit) (Int)))) λh=>cI (dN h a1 0 ()) (eG (λ(_:Unit)=>fD (dK a2)<|df (λ(l:Int) (i:Pf)=>(λ(_:Unit)=>cI (ri i) λa=>if dw a 0 then some (.ret a)else some (.next ())):Int->Pf->(Unit)->(Option (eL (Unit) (Int)))) λd=>cI (dN d a2 0 ()) (eG (λ(_:Unit)=>some 0) (λr=>some r))) (λr=>some r))) (λr=>some r))
def ti(a0:Pf)(a1:Int):Option (Pf×Int):=if dw a1 0 then some ((Pf.mk 0 0 (Ty.mk 0 []) [] [] []),a1)else cI (sE a0) λb=>if b then cI (kS FU a0) λa=>some (a,0)else some ((Pf.mk 0 0 (Ty.mk 0 []) [] [] []),4)
def uP(a0 a1 a2:Tm)(a3:Pf):Option (Pf×Int):=cI (uU a0 a1 a3) λa=>cI (rA [a0,a1,a2] [] [a3]) λb=>cT (ti a b) λc d=>some (c,d)
def zA(a0:Tm):Option Pf:=cI (si) λp=>cI (xD 0) λe=>cI (ez 0) λf=>cI (AZ p [e,f]) λa=>cI (ez 0) λg=>cI (kv a g) λh=>cI (gr) λi=>cI (ez 0) λj=>cI (eF 5 [j]) λk=>cI (kL 2 i [k]) λl=>cI (ez 0) λm=>cI (me 0) λn=>cT (uP l a m n) λo q=>cI (xD 0) λb=>cI (jE b) λc=>cI (sG 16 h a0 c o) λd=>some d
def B9(a0:cV)(a1:Sq):Option (Pf×cV):=cI (gr) λh=>cT (eY FU a0 a1.acW h 1) λa d9=>cI (iY a) λb=>cI (ez 0) λc=>cI (kv b c) λd=>cI (iZ 5 h d) λe=>cI (jE a) λf=>cI (s_ 10 e a f) λg=>some (g,d9)
mutual
def gN:Nat->cV->(List Fm)->Sq->Int->Option (Pf×cV)
 |0,_,_,_,_=>none|n+1,a0,a1,a2,a3=>cI (gr) λB=>df (λ(bB:cV)=>df (λ(C:cV)=>cT (eY FU C a2.acW B 1) λD E=>cI (jE D) λF=>some (F,E)) λe=>cT (eA bB 4) λj c=>if dg j 0 then if kZ (di a2.acZ) 0 then cT (eA c (di a2.acZ)) λG H=>cI (me G) λI=>some (I,H)else e c else if dg j 1 then if kZ (di a1) 0 then cT (eA c (di a1)) λJ K=>some ((Pf.mk 2 J (Ty.mk 0 []) [] [] []),K)else e c else e c) λd=>if eu (kZ a3 0) (eu (qj (di a2.acW) 10) (qj (di a2.acZ) 10) false) false then cT (eA a0 17) λb a=>if dg b 0 then cT (gN n a a1 a2 (dZ .i64 a3 1)) λbC bD=>cT (gN n bD a1 a2 (dZ .i64 a3 1)) λbE bF=>cI (lZ 3 [bC,bE]) λbG=>some (bG,bF)else if dg b 1 then cT (eA a 2) λbH bI=>cT (gN n bI a1 a2 (dZ .i64 a3 1)) λbJ bK=>cT (gN n bK a1 a2 (dZ .i64 a3 1)) λbL bM=>cI (lZ 3 [bJ,bL]) λbN=>cI (lZ (dF .i64 4 bH) [bN]) λbO=>some (bO,bM)else if dg b 2 then cT (fJ FU a a2.acW 1) λw bP=>cI (xT a2 w) λbQ=>cT (gN n bP a1 bQ (dZ .i64 a3 1)) λbR bS=>cI (uf w bR) λbT=>some (bT,bS)else if dg b 3 then cT (gN n a a1 a2 (dZ .i64 a3 1)) λx y=>cT (ij a1 a2 x) λz bU=>if dg bU 0 then cI (xT a2 z.cR) λbV=>cT (gN n y a1 bV (dZ .i64 a3 1)) λbW bX=>cI (uf z.cR bW) λbY=>cI (lZ 7 [bY,x]) λbZ=>some (bZ,bX)else d y else if dg b 4 then cT (gI FU a 1) λA b0=>cI (pJ a2 [A]) λb1=>cT (gN n b0 a1 b1 (dZ .i64 a3 1)) λb2 L=>cI (oG 8 A b2) λM=>some (M,L)else if dg b 5 then cT (gI FU a 1) λf N=>cT (eY FU N a2.acW f 1) λO P=>cI (pJ a2 [f]) λQ=>cT (gN n P a1 Q (dZ .i64 a3 1)) λR S=>cI (oG 8 f R) λT=>cI (tf 9 O T) λU=>some (U,S)else if dg b 6 then cT (eY FU a a2.acW B 1) λg V=>cT (eA V 2) λk W=>df ([5,7]:List Int) λX=>cI (de X k) λY=>cI (iY g) λZ=>cI (ez 0) λaa=>cI (kv Z aa) λab=>cI (iZ Y B ab) λad=>df ([10,14]:List Int) λae=>cI (de ae k) λaf=>cI (jE g) λah=>cI (s_ af ad g ah) λai=>some (ai,W)else if dg b 7 then cT (gN n a a1 a2 (dZ .i64 a3 1)) λl m=>cT (ij a1 a2 l) λak an=>if dg an 0 then cT (gI FU m 1) λo aq=>cT (eA aq 2) λp ar=>df ([5,7]:List Int) λaw=>cI (de aw p) λax=>cI (fH FU ak.cR 0 1) λay=>cI (iZ ax o ay) λaz=>df ([10,14]:List Int) λaA=>cI (de aA p) λaB=>cT (eY FU ar a2.acW o 1) λaC aD=>cI (s_ aB az aC l) λaE=>some (aE,aD)else d m else if dg b 8 then cT (wU n a a1 a2 a3) λaF aG=>some (aF,aG)else if dg b 9 then cT (gN n a a1 a2 (dZ .i64 a3 1)) λq r=>cT (ij a1 a2 q) λaH aI=>if dg aI 0 then cI (fH FU aH.cR 0 1) λaJ=>cT (eY FU r a2.acW B 1) λaK aL=>cI (me 0) λaM=>cI (sG 16 aJ aK q aM) λaN=>some (aN,aL)else d r else if dg b 10 then cT (gN n a a1 a2 (dZ .i64 a3 1)) λs t=>cT (ij a1 a2 s) λaO aP=>if dg aP 0 then cI (fH FU aO.cR 0 1) λaQ=>cI (lM) λaR=>cT (eY FU t a2.acW aR 1) λaS aT=>cI (me 0) λaU=>cI (sG 17 aQ aS s aU) λaV=>some (aV,aT)else d t else if dg b 11 then cT (eY FU a a2.acW B 1) λaW aX=>cI (zA aW) λaY=>some (aY,aX)else if dg b 12 then cT (eY FU a a2.acW B 1) λaZ a6=>cT (eY FU a6 a2.acW B 1) λh a7=>cI (iY h) λa8=>cI (iY h) λa_=>cI (kv a8 a_) λa'=>cI (jE aZ) λba=>cI (jE h) λbb=>cI (q9 a' ba bb) λbc=>some (bc,a7)else if dg b 13 then cT (gI FU a 0) λu bd=>cI (pJ a2 [u]) λbf=>cT (B9 bd bf) λbg bh=>cI (oG 8 u bg) λbj=>cI (lZ 20 [bj]) λbk=>some (bk,bh)else if dg b 14 then cT (gI FU a 1) λv bl=>cI (pJ a2 [v]) λbm=>cT (gN n bl a1 bm (dZ .i64 a3 1)) λbn bo=>cI (oG 12 v bn) λbp=>some (bp,bo)else if dg b 15 then cT (gI FU a 1) λi bq=>cT (eY FU bq a2.acW i 1) λbr bs=>cI (pJ a2 [i]) λbt=>cT (gN n bs a1 bt (dZ .i64 a3 1)) λbu bw=>cI (oG 12 i bu) λbz=>cI (tf 13 br bz) λbA=>some (bA,bw)else d a else d a0
def wU:Nat->cV->(List Fm)->Sq->Int->Option (Pf×cV)
 |0,_,_,_,_=>none|n+1,a0,a1,a2,a3=>ik (tp a0 a2) λe c d7=>df (λ(v24:Int) (f:Int) (t:cV) (g:Int)=>cI (de c.acT 0) λu=>cI (gr) λv=>cI (pJ a2 [v]) λw=>cI (xT w u) λx=>cT (gN n t a1 x (dZ .i64 a3 1)) λa d101=>df (λ(h:Int) (v145:Int) (v146:Int) (i:List Ty) (v148:List Tm) (j:List Fm) (k:List Pf) (l:cV)=>cI (lZ v24 [(Pf.mk f e.acV e.cP e.c9 [(Fm.mk g c.cP c.c9 c.acT)] e.acT),(Pf.mk h v145 (Ty.mk v146 i) v148 j k)]) λm=>some (m,l)) λd=>cT (eA d101 2) λo d163=>if dg o 0 then cI (fH FU (Fm.mk g c.cP c.c9 c.acT) 0 1) λp=>cI (ez 0) λq=>cI (me 0) λr=>cI (s_ f p q r) λb=>d b.acS b.acV b.cP.acS b.cP.acT b.c9 b.dV b.acT d163 else d a.acS a.acV a.cP.acS a.cP.acT a.c9 a.dV a.acT d163) λs=>cT (eA d7 3) λy d39=>if dg y 0 then s 15 14 d39 7 else s 11 e.acS d39 c.acS
end
def ac1(a0 a1:p_):Option Bool:=df (λ(b:Bool)=>if b then some false else fD (dK a0.fk)<|df (λ(c:Int) (d:Int)=>(λ(_:Unit)=>cI (de a1.fk c) λe=>if dw d e then some (.ret false)else some (.next ())):Int->Int->(Unit)->(Option (eL (Unit) (Bool)))) λf=>cI (dN f a0.fk 0 ()) (eG (λ(_:Unit)=>some true) (λr=>some r))) λa=>cI (qX FU a0.cR a1.cR) λg=>if g then a (dw (di a0.fk) (di a1.fk))else a true
def wB(a0:cV)(a1:List Fm)(a2:Sq)(a3:Int):Option (Pf×p_×cV):=df ((qw λ(v109:Int) (a:cV)=>if qj v109 4 then cT (gN FU a a1 a2 a3) λb d134=>cT (ij a1 a2 b) λd e=>if dg e 0 then some (.ret (b,d,d134))else some (.next ((dF .i64 v109 1),d134))else some (.AI (v109,a))):(Int×cV)->(Option (eL (Int×cV) (Pf×p_×cV)))) λf=>cI (lp f FU (0,a0)) (eG (qw λ(v109:Int) (a:cV)=>cT (eA a 4) λg d150=>cI (xD g) λh=>cI (jE h) λc=>cT (ij a1 a2 c) λi j=>some (c,i,d150)) (λr=>some r))
def q5:Option Fm:=cI (eF 4 []) λd=>cI (eF 4 []) λa=>cI (eF 5 [a]) λb=>cI (kv d b) λc=>some c
def pO(a0:List Fm)(a1:Sq)(a2:Pf)(a3:Fm):Option Int:=cT (n9 a0 a1 a2) λd c=>if dw c 0 then some c else cI (lz a1.acW a3) λa=>if dw a 0 then some a else cI (iV d.cR a3) λb=>some b
def qq(a0:List Fm)(a1:Sq)(a2:Pf)(a3:Fm):Option Int:=cT (ij a0 a1 a2) λd c=>if dw c 0 then some c else cI (iH a1.acW a3) λa=>if dw a 0 then some a else cI (lx d.cR a3) λb=>some b
end Go.fB
namespace Go.fB
open Go
inductive tz:Pf->Prop
 |mk {k i ty ts fs l}:l.length<=1000000000->(∀x∈l,tz x)->tz (.mk k i ty ts fs l)
inductive yl:Pf->Pf->Pf->Pf->Prop
 |here {p x}:yl p p x x|arg {k i ty ts fs l q a c x a'}:l[q]?=some a->yl a c x a'->yl (.mk k i ty ts fs l) c x (.mk k i ty ts fs (l.set q a'))
def yl.trans{p c x r d y:Pf}(h:yl p c r y)(g:yl c d x r):yl p d x y:=by
 induction h with
 |here=>exact g|arg h1 _ a=>exact .arg h1 (a g)
inductive Np (GT:Tm->Prop) (GF:Fm->Prop) (GP:Pf->Prop):Pf->Pf->Prop
 |term {k i ty ts fs l t}:GT t->Np GT GF GP (.mk k i ty ts fs l) (.mk k i ty (ts.set 0 t) fs l)|form {k i ty ts fs l f}:GF f->Np GT GF GP (.mk k i ty ts fs l) (.mk k i ty ts (fs.set 0 f) l)|acS {k i ty ts fs l k'}:Np GT GF GP (.mk k i ty ts fs l) (.mk k' i ty ts fs l)|new {p p'}:GP p'->Np GT GF GP p p'
structure Fk (wf:cV->Prop) (GT:Tm->Prop) (GF:Fm->Prop) (GP:Pf->Prop) (d:cV) (L:List Fm) (q:Sq) (p:Pf):Prop where
 hd:wf d
 cp:kS FU p=some p
 ao:tz p
 next:∀d,wf d->∀n:Int,1<=n->n<=1000000000->∃x d',eA d n=some (x,d')/\0<=x/\x<n/\wf d'
 term:∀d,wf d->∃y d1 t d2,gI FU d 1=some (y,d1)/\eY FU d1 q.acW y 1=some (t,d2)/\wf d2/\GT t
 form:∀d,wf d->∃f d',fJ FU d q.acW 1=some (f,d')/\wf d'/\GF f
 proof:∀d,wf d->∃p d',gN FU d L q 1=some (p,d')/\wf d'/\GP p
end Go.fB
set_option maxRecDepth 20000
namespace Go.fB
open Go
def adg(a1:List Fm)(a2:Sq)(a3:Pf)(c:List Fm)(d:Sq)(x y:Pf):Option Bool:=df (λ(v127:Bool)=>if v127 then(some false)else(df ([a3,x,y]:List Pf) λe=>fD (dK e)<|df (λ(z:Int) (a:Pf)=>(λ(_:Unit)=>cT (n9 c d a) λg h=>cT (ij c d a) λi j=>cT (n9 a1 a2 a) λk l=>cT (ij a1 a2 a) λm n=>df (λ(o:Bool)=>if o then(some (.ret false))else(some (.next ()))) λb=>if(dw h j) then(b true)else(cI (ac1 g i) λp=>if p then(if(dw l n) then(b true)else(cI (ac1 k m) λq=>b (qf q)))else(b true))):Int->Pf->(Unit)->(Option (eL (Unit) (Bool)))) λs=>cI (dN s e 0 ()) (eG (λ(_:Unit)=>some true) (λr=>some r)))) λf=>cI (rM a1 a2) λt=>cI (sN a1 a2) λu=>if(dw t u) then(f true)else(cI (rM c d) λv=>cI (sN c d) λw=>f (dw v w))
def ac3(a0:List Int)(a1:List Fm)(a2:Sq)(a3:Pf)(K:cV->List Fm->Sq->Pf->Option Bool):Option (Bool):=cI (uu) λj=>if j then(df (λ(d:Bool)=>if d then(some true)else(cI (M0 a0) λe=>cT (uh e) λb d54=>cT (sC d54) λc d57=>cT (gN FU d57 b c 3) λf d63=>K d63 b c f)) λa=>cI (GO a0) λg=>if g then(cI (ac4 a3) λh=>if(kZ h 400) then(a true)else(cI (ac5 a1 a2) λi=>a (qf i)))else(a true))else(some false)
def CX(a1:Fm)(f:List Fm)(e:Sq)(m:Pf)(n:p_)(o:Pf)(d63:cV):Option Bool:=cT (fJ FU d63 e.acW 1) λg d183=>cI (q5) λh=>df ([a1,n.cR,g,h]:List Fm) λa=>fD (dK a)<|df (λ(p:Int) (b:Fm)=>(λ(_:Unit)=>df ([m,o]:List Pf) λc=>fD (dK c)<|df (λ(q:Int) (d:Pf)=>(λ(_:Unit)=>cI (pO f e d b) λi=>cI (qq f e d b) λj=>if(dw i j) then(some (.ret false))else(some (.next ()))):Int->Pf->(Unit)->(Option (eL (Unit) (Bool)))) λk=>cI (dN k c 0 ()) (eG (λ(_:Unit)=>some (.next ())) (λr=>some (.ret r)))):Int->Fm->(Unit)->(Option (eL (Unit) (Bool)))) λl=>cI (dN l a 0 ()) (eG (λ(_:Unit)=>some true) (λr=>some r))
def my(a0:List Int)(a1:Fm)(K:cV->List Fm->Sq->Pf->p_->Option Bool):Option (Bool):=cI (uu) λj=>if j then(df (λ(d:Bool)=>if d then(some true)else(cI (M0 a0) λe=>cT (uh e) λa d46=>cT (sC d46) λb d49=>ik (wB d49 a b 3) λf g d57=>K d57 a b f g)) λc=>cI (GO a0) λh=>if h then(cI (tj a1) λi=>c (kZ i 300))else(c true))else(some false)
end Go.fB
