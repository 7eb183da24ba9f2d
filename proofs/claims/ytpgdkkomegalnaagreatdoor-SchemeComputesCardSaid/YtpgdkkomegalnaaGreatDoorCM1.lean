/- Part of the proof of SchemeComputes: models. -/
import Derived.Test.YtpgdkkomegalnaaGreatDoorCL18
set_option linter.all false
namespace Go.fF
open Go
inductive Ty where
 |mk (alX:Int) (alY:List Ty)
def Ty.alX:Ty->Int|.mk x _=>x
def Ty.alY:Ty->(List Ty)|.mk _ x=>x
@[simp] theorem Ty.eK(alX:Int)(alY:List Ty):(Ty.mk alX alY).alX=alX:=rfl
@[simp] theorem Ty.eG(alX:Int)(alY:List Ty):(Ty.mk alX alY).alY=alY:=rfl
@[simp] theorem Ty.gM(x:Ty):Ty.mk x.alX x.alY=x:=by cases x;rfl
instance:Inhabited Ty:=⟨.mk default default⟩
inductive Tm where
 |mk (alX:Int) (al0:Int) (dN:Ty) (alY:List Tm)
def Tm.alX:Tm->Int|.mk x _ _ _=>x
def Tm.al0:Tm->Int|.mk _ x _ _=>x
def Tm.dN:Tm->Ty|.mk _ _ x _=>x
def Tm.alY:Tm->(List Tm)|.mk _ _ _ x=>x
@[simp] theorem Tm.eK(alX al0:Int)(dN:Ty)(alY:List Tm):(Tm.mk alX al0 dN alY).alX=alX:=rfl
@[simp] theorem Tm.iI(alX al0:Int)(dN:Ty)(alY:List Tm):(Tm.mk alX al0 dN alY).al0=al0:=rfl
@[simp] theorem Tm.fM(alX al0:Int)(dN:Ty)(alY:List Tm):(Tm.mk alX al0 dN alY).dN=dN:=rfl
@[simp] theorem Tm.eG(alX al0:Int)(dN:Ty)(alY:List Tm):(Tm.mk alX al0 dN alY).alY=alY:=rfl
@[simp] theorem Tm.gM(x:Tm):Tm.mk x.alX x.al0 x.dN x.alY=x:=by cases x;rfl
instance:Inhabited Tm:=⟨.mk default default default default⟩
inductive Fm where
 |mk (alX:Int) (dN:Ty) (ei:List Tm) (alY:List Fm)
def Fm.alX:Fm->Int|.mk x _ _ _=>x
def Fm.dN:Fm->Ty|.mk _ x _ _=>x
def Fm.ei:Fm->(List Tm)|.mk _ _ x _=>x
def Fm.alY:Fm->(List Fm)|.mk _ _ _ x=>x
@[simp] theorem Fm.eK(alX:Int)(dN:Ty)(ei:List Tm)(alY:List Fm):(Fm.mk alX dN ei alY).alX=alX:=rfl
@[simp] theorem Fm.fM(alX:Int)(dN:Ty)(ei:List Tm)(alY:List Fm):(Fm.mk alX dN ei alY).dN=dN:=rfl
@[simp] theorem Fm.jN(alX:Int)(dN:Ty)(ei:List Tm)(alY:List Fm):(Fm.mk alX dN ei alY).ei=ei:=rfl
@[simp] theorem Fm.eG(alX:Int)(dN:Ty)(ei:List Tm)(alY:List Fm):(Fm.mk alX dN ei alY).alY=alY:=rfl
@[simp] theorem Fm.gM(x:Fm):Fm.mk x.alX x.dN x.ei x.alY=x:=by cases x;rfl
instance:Inhabited Fm:=⟨.mk default default default default⟩
inductive Pf where
 |mk (alX:Int) (al0:Int) (dN:Ty) (ei:List Tm) (fZ:List Fm) (alY:List Pf)
def Pf.alX:Pf->Int|.mk x _ _ _ _ _=>x
def Pf.al0:Pf->Int|.mk _ x _ _ _ _=>x
def Pf.dN:Pf->Ty|.mk _ _ x _ _ _=>x
def Pf.ei:Pf->(List Tm)|.mk _ _ _ x _ _=>x
def Pf.fZ:Pf->(List Fm)|.mk _ _ _ _ x _=>x
def Pf.alY:Pf->(List Pf)|.mk _ _ _ _ _ x=>x
@[simp] theorem Pf.eK(alX al0:Int)(dN:Ty)(ei:List Tm)(fZ:List Fm)(alY:List Pf):(Pf.mk alX al0 dN ei fZ alY).alX=alX:=rfl
@[simp] theorem Pf.iI(alX al0:Int)(dN:Ty)(ei:List Tm)(fZ:List Fm)(alY:List Pf):(Pf.mk alX al0 dN ei fZ alY).al0=al0:=rfl
@[simp] theorem Pf.fM(alX al0:Int)(dN:Ty)(ei:List Tm)(fZ:List Fm)(alY:List Pf):(Pf.mk alX al0 dN ei fZ alY).dN=dN:=rfl
@[simp] theorem Pf.jN(alX al0:Int)(dN:Ty)(ei:List Tm)(fZ:List Fm)(alY:List Pf):(Pf.mk alX al0 dN ei fZ alY).ei=ei:=rfl
@[simp] theorem Pf.PL(alX al0:Int)(dN:Ty)(ei:List Tm)(fZ:List Fm)(alY:List Pf):(Pf.mk alX al0 dN ei fZ alY).fZ=fZ:=rfl
@[simp] theorem Pf.eG(alX al0:Int)(dN:Ty)(ei:List Tm)(fZ:List Fm)(alY:List Pf):(Pf.mk alX al0 dN ei fZ alY).alY=alY:=rfl
@[simp] theorem Pf.gM(x:Pf):Pf.mk x.alX x.al0 x.dN x.ei x.fZ x.alY=x:=by cases x;rfl
instance:Inhabited Pf:=⟨.mk default default default default default default⟩
structure Sq where
 al1:(List Ty)
 al4:(List Fm)
@[simp] theorem Sq.gM(x:Sq):Sq.mk x.al1 x.al4=x:=rfl
instance:Inhabited Sq:=⟨.mk default default⟩
inductive Vl where
 |mk (alX:Int) (num:Int) (list:List Int) (alY:List Vl)
def Vl.alX:Vl->Int|.mk x _ _ _=>x
def Vl.num:Vl->Int|.mk _ x _ _=>x
def Vl.list:Vl->(List Int)|.mk _ _ x _=>x
def Vl.alY:Vl->(List Vl)|.mk _ _ _ x=>x
@[simp] theorem Vl.eK(alX num:Int)(list:List Int)(alY:List Vl):(Vl.mk alX num list alY).alX=alX:=rfl
@[simp] theorem Vl.afB(alX num:Int)(list:List Int)(alY:List Vl):(Vl.mk alX num list alY).num=num:=rfl
@[simp] theorem Vl.aa8(alX num:Int)(list:List Int)(alY:List Vl):(Vl.mk alX num list alY).list=list:=rfl
@[simp] theorem Vl.eG(alX num:Int)(list:List Int)(alY:List Vl):(Vl.mk alX num list alY).alY=alY:=rfl
@[simp] theorem Vl.gM(x:Vl):Vl.mk x.alX x.num x.list x.alY=x:=by cases x;rfl
instance:Inhabited Vl:=⟨.mk default default default default⟩
structure eR where
 l:(List Int)
 AM:Int
@[simp] theorem eR.gM(x:eR):eR.mk x.l x.AM=x:=rfl
instance:Inhabited eR:=⟨.mk default default⟩
structure ta where
 d_:Fm
 jX:(List Int)
@[simp] theorem ta.gM(x:ta):ta.mk x.d_ x.jX=x:=rfl
instance:Inhabited ta:=⟨.mk default default⟩
structure dT where
 lemmas:(List Fm)
 ei:(List Tm)
 next:Int
@[simp] theorem dT.gM(x:dT):dT.mk x.lemmas x.ei x.next=x:=rfl
instance:Inhabited dT:=⟨.mk default default default⟩
structure er where
 iz:Sq
 vars:(List Tm)
 al4:(List Tm)
@[simp] theorem er.gM(x:er):er.mk x.iz x.vars x.al4=x:=rfl
instance:Inhabited er:=⟨.mk default default default⟩
structure dW where
 used:Int
 qN:Int
 out:Bool
@[simp] theorem dW.gM(x:dW):dW.mk x.used x.qN x.out=x:=rfl
instance:Inhabited dW:=⟨.mk default default default⟩
inductive dJ where
 |mk (num:Int) (list:List Int) (pair:List dJ) (body:Tm) (env:List dJ)
def dJ.num:dJ->Int|.mk x _ _ _ _=>x
def dJ.list:dJ->(List Int)|.mk _ x _ _ _=>x
def dJ.pair:dJ->(List dJ)|.mk _ _ x _ _=>x
def dJ.body:dJ->Tm|.mk _ _ _ x _=>x
def dJ.env:dJ->(List dJ)|.mk _ _ _ _ x=>x
@[simp] theorem dJ.afB(num:Int)(list:List Int)(pair:List dJ)(body:Tm)(env:List dJ):(dJ.mk num list pair body env).num=num:=rfl
@[simp] theorem dJ.aa8(num:Int)(list:List Int)(pair:List dJ)(body:Tm)(env:List dJ):(dJ.mk num list pair body env).list=list:=rfl
@[simp] theorem dJ.ajh(num:Int)(list:List Int)(pair:List dJ)(body:Tm)(env:List dJ):(dJ.mk num list pair body env).pair=pair:=rfl
@[simp] theorem dJ.ajG(num:Int)(list:List Int)(pair:List dJ)(body:Tm)(env:List dJ):(dJ.mk num list pair body env).body=body:=rfl
@[simp] theorem dJ.akI(num:Int)(list:List Int)(pair:List dJ)(body:Tm)(env:List dJ):(dJ.mk num list pair body env).env=env:=rfl
@[simp] theorem dJ.gM(x:dJ):dJ.mk x.num x.list x.pair x.body x.env=x:=by cases x;rfl
instance:Inhabited dJ:=⟨.mk default default default default default⟩
structure dS where
 lemmas:(List Fm)
 al1:(List Ty)
 al4:(List Fm)
@[simp] theorem dS.gM(x:dS):dS.mk x.lemmas x.al1 x.al4=x:=rfl
instance:Inhabited dS:=⟨.mk default default default⟩
structure dO where
 dN:Ty
 alZ:Int
@[simp] theorem dO.gM(x:dO):dO.mk x.dN x.alZ=x:=rfl
instance:Inhabited dO:=⟨.mk default default⟩
structure ec where
 d_:Fm
 jX:Int
@[simp] theorem ec.gM(x:ec):ec.mk x.d_ x.jX=x:=rfl
instance:Inhabited ec:=⟨.mk default default⟩
structure eQ where
 vars:Int
 al4:Int
@[simp] theorem eQ.gM(x:eQ):eQ.mk x.vars x.al4=x:=rfl
instance:Inhabited eQ:=⟨.mk default default⟩
structure ek where
 d_:Fm
 vars:Int
@[simp] theorem ek.gM(x:ek):ek.mk x.d_ x.vars=x:=rfl
instance:Inhabited ek:=⟨.mk default default⟩
structure ew where
 nC:eQ
 al1:(List dO)
 known:(List ek)
@[simp] theorem ew.gM(x:ew):ew.mk x.nC x.al1 x.known=x:=rfl
instance:Inhabited ew:=⟨.mk default default default⟩
structure dY where
 alZ:Int
 ja:Bool
@[simp] theorem dY.gM(x:dY):dY.mk x.alZ x.ja=x:=rfl
instance:Inhabited dY:=⟨.mk default default⟩
structure fa where
 ei:Int
 fZ:Int
 alY:Int
 al0:Bool
 NQ:Bool
@[simp] theorem fa.gM(x:fa):fa.mk x.ei x.fZ x.alY x.al0 x.NQ=x:=rfl
instance:Inhabited fa:=⟨.mk default default default default default⟩
structure fA where
 al0:Bool
 typed:Bool
 ei:Int
 fZ:Int
 alY:Int
 u7:Int
 vars:Int
 al4:Int
@[simp] theorem fA.gM(x:fA):fA.mk x.al0 x.typed x.ei x.fZ x.alY x.u7 x.vars x.al4=x:=rfl
instance:Inhabited fA:=⟨.mk default default default default default default default default⟩
structure eh where
 alX:Int
 base:Tm
 vars:(List Ty)
 next:Tm
@[simp] theorem eh.gM(x:eh):eh.mk x.alX x.base x.vars x.next=x:=rfl
instance:Inhabited eh:=⟨.mk default default default default⟩
structure uj where
 term:(Option Nat)
 steps:Int
@[simp] theorem uj.gM(x:uj):uj.mk x.term x.steps=x:=rfl
structure r_ where
 alX:Int
 al0:Int
 NQ:Ty
 alY:(List (Option Nat))
 size:Int
 free:Int
 normal:Bool
@[simp] theorem r_.gM(x:r_):r_.mk x.alX x.al0 x.NQ x.alY x.size x.free x.normal=x:=rfl
inductive HC where
 |K0 (x:uj)|HG (x:r_)
def HC.HJ(l:List HC)(p:Nat):Option r_:=match l[p]?with|some (.HG x)=>some x|_=>none
def Rc(l:List HC)(p:Nat)(x:HC):List HC:=l.set p x
def lH:List Int:=[0,1,28,2,29,14,24,3,30,22,20,15,25,17,4,8,31,27,13,23,21,19,16,7,26,12,18,6,11,5,10,9]
def oH:List fA:=[⟨false,false,0,0,0,0,0,0⟩,⟨true,false,0,0,0,0,0,0⟩,⟨true,false,0,0,0,0,0,0⟩,⟨false,false,0,0,2,0,0,0⟩,⟨false,false,0,0,1,0,0,0⟩,⟨false,false,0,0,1,0,0,0⟩,⟨false,false,0,1,1,0,0,1⟩,⟨false,false,0,0,2,0,0,0⟩,⟨false,true,0,0,1,0,1,0⟩,⟨false,false,1,0,1,0,0,0⟩,⟨false,false,1,1,1,0,0,0⟩,⟨false,false,0,0,2,0,1,1⟩,⟨false,true,0,0,1,0,1,0⟩,⟨false,false,1,0,1,0,0,0⟩,⟨false,false,1,1,1,0,0,0⟩,⟨false,false,0,0,2,0,1,1⟩,⟨false,false,1,1,2,1,1,1⟩,⟨false,false,1,1,2,1,2,1⟩,⟨false,false,1,0,0,0,0,0⟩,⟨false,false,0,1,2,1,0,0⟩,⟨false,false,0,0,1,0,0,0⟩]
def ql:List Int:=[0,0,1,2,0,1,3,0,2,3,2,1,1,0]
end Go.fF
set_option maxRecDepth 20000
namespace Go.fF
open Go
def fc(a0:Int):Option Tm:=some (Tm.mk 1 a0 (Ty.mk 0 []) [])
def gY(a0:Int)(a1:List Tm):Option Tm:=some (Tm.mk a0 0 (Ty.mk 0 []) a1)
def iN(a0:Ty)(a1:Tm):Option Tm:=some (Tm.mk 2 0 a0 [a1])
def pN:Option Ty:=some (Ty.mk 2 [])
def gA:Option Ty:=some (Ty.mk 1 [])
def rH(a0:Ty)(a1:List Ty):Option Ty:=ej ((Vr λ(a:Int) (v49:Int) (b:List Ty)=>if qa a 0 then dH (dX a1 a) λc=>some (.next ((fL .i64 a 1),4,[c,(Ty.mk v49 b)]))else some (.y7 (a,v49,b))):(Int×Int×(List Ty))->(Option (gq (Int×Int×(List Ty)) (Ty)))) λd=>dH (j0 d FU ((fL .i64 (eA a1) 1),a0.alX,a0.alY)) (fO (Vr λ(a:Int) (v49:Int) (b:List Ty)=>some (Ty.mk v49 b)) (λr=>some r))
def sA:Option Ty:=dH (gA) λb=>dH (gA) λc=>dH (rH b [c]) λa=>some a
def mz:Nat->Ty->Option (Int×Bool)
 |0,_=>none|n+1,a0=>ej (λ(v10:Int)=>if eL (eA a0.alY) v10 then some (0,false)else gG (eX a0.alY)<|ej (λ(i:Int) (c:Ty)=>(λ(a:Int)=>dV (mz n c) λd f=>if f then some (.next (eW .i64 a d))else some (.ret (0,false))):Int->Ty->(Int)->(Option (gq (Int) (Int×Bool)))) λh=>dH (fw h a0.alY 0 1) (fO (λ(a:Int)=>some (a,true)) (λr=>some r))) λb=>if fp (eo a0.alX 1) true (fp (eo a0.alX 2) true (eo a0.alX 5))then b 0 else if fp (eo a0.alX 3) true (eo a0.alX 4)then b 2 else some (0,false)
def je(a0:Ty):Option (Int×Int):=dV (mz FU a0) λa b=>if b then if pj a 64 then some (0,4)else some (a,0)else some (0,2)
def rZ(a0:Ty):Option Int:=dV (je a0) λb a=>some a
def nu(a0:List Ty):Option Int:=if pj (eA a0) 16 then some 3 else gG (eX a0)<|ej (λ(d:Int) (b:Ty)=>(λ(_:Unit)=>dH (rZ b) λa=>if eL a 0 then some (.ret a)else some (.next ())):Int->Ty->(Unit)->(Option (gq (Unit) (Int)))) λc=>dH (fw c a0 0 ()) (fO (λ(_:Unit)=>some 0) (λr=>some r))
def wP(a0:Int):Option (Int×Bool):=if fp (pg a0 1) true (qa a0 14)then some (0,false)else dH (dX ql a0) λa=>some (a,true)
def wC(a0:Int):Option Bool:=some (fp (eo a0 2) true (fp (eo a0 6) true (eo a0 9)))
def ov(a0:Ty):Option Bool:=some (fp (eo a0.alX 0) (eo (eA a0.alY) 0) false)
def jH:Nat->Tm->Option (Int×Bool)
 |0,_=>none|n+1,a0=>dV (wP a0.alX) λl o=>if fp o (fp (eL (eA a0.alY) l) true (fp (pg a0.al0 0) true (fp (eL a0.al0 0) (eL a0.alX 1) false))) true then some (0,false)else ej (gG (eX a0.alY)<|ej (λ(q:Int) (h:Tm)=>(λ(a:Int)=>dV (jH n h) λb c=>if c then some (.next (eW .i64 a b))else some (.ret (0,false))):Int->Tm->(Int)->(Option (gq (Int) (Int×Bool)))) λd=>dH (fw d a0.alY 0 1) (fO (λ(a:Int)=>some (a,true)) (λr=>some r))) λf=>dH (wC a0.alX) λi=>if i then dV (je a0.dN) λs j=>if eL j 0 then some (0,false)else f else dH (ov a0.dN) λk=>if k then f else some (0,false)
def kC(a0:Tm):Option (Int×Int):=dV (jH FU a0) λa b=>if b then if pj a 4096 then some (0,4)else some (a,0)else some (0,2)
def pU(a0:Tm):Option Int:=dV (kC a0) λb a=>some a
def mP(a0:Ty):Option dO:=dV (je a0) λa b=>some (dO.mk a0 a)
def oi(a0:List Ty):Option (List dO):=gG (eX a0)<|ej (λ(d:Int) (b:Ty)=>(λ(v40:List dO)=>dH (mP b) λa=>gG (fN v40 [a])<|some (.next (fU v40 [a]))):Int->Ty->(List dO)->(Option (gq (List dO) (List dO)))) λc=>dH (fw c a0 0 []) (fO (λ(v40:List dO)=>some v40) (λr=>some r))
def rS(a0:Int)(a1 a2:dO):Option (dO×Int):=if pj (eW .i64 (eW .i64 1 a1.alZ) a2.alZ) 64 then some ((dO.mk (Ty.mk 0 []) 0),4)else some ((dO.mk (Ty.mk a0 [a1.dN,a2.dN]) (eW .i64 (eW .i64 1 a1.alZ) a2.alZ)),0)
def jY(a0:Int):Option (List Int):=if eo a0 4 then some [1] else if eo a0 5 then some [1,1] else if eo a0 7 then some [2] else if eo a0 8 then some [2,1,2] else if eo a0 13 then some [5] else some []
def jk(a0:dO)(a1:Int):Option Bool:=some (eo a0.dN.alX a1)
def jx(a0:dO)(a1:Int):Option dO:=dH (dX a0.dN.alY a1) λa=>dH (mP a) λb=>some b
def gP:Nat->Ty->Ty->Option Bool
 |0,_,_=>none|n+1,a0,a1=>if fp (eL a0.alX a1.alX) true (eL (eA a0.alY) (eA a1.alY))then some false else gG (eX a0.alY)<|ej (λ(c:Int) (d:Ty)=>(λ(_:Unit)=>dH (dX a1.alY c) λa=>dH (gP n d a) λb=>if b then some (.next ())else some (.ret false)):Int->Ty->(Unit)->(Option (gq (Unit) (Bool)))) λf=>dH (fw f a0.alY 0 ()) (fO (λ(_:Unit)=>some true) (λr=>some r))
def kD(a0 a1:dO):Option Bool:=ej (λ(v6:Bool)=>some v6) λa=>if eo a0.alZ a1.alZ then dH (gP FU a0.dN a1.dN) λb=>a b else a false
def p5:Option Ty:=some (Ty.mk 1 [])
def Ct:Option Ty:=some (Ty.mk 2 [])
def uK(a0:Ty)(a1:List Ty):Option Ty:=ej ((Vr λ(a:Int) (v49:Int) (b:List Ty)=>if qa a 0 then dH (dX a1 a) λc=>some (.next ((fL .i64 a 1),4,[c,(Ty.mk v49 b)]))else some (.y7 (a,v49,b))):(Int×Int×(List Ty))->(Option (gq (Int×Int×(List Ty)) (Ty)))) λd=>dH (j0 d FU ((fL .i64 (eA a1) 1),a0.alX,a0.alY)) (fO (Vr λ(a:Int) (v49:Int) (b:List Ty)=>some (Ty.mk v49 b)) (λr=>some r))
def p3(a0:Tm):Option Ty:=if eo a0.alX 9 then dH (p5) λa=>dH (Ct) λb=>dH (uK a0.dN [a,b,a0.dN]) λc=>some c else dH (p5) λd=>dH (uK a0.dN [d,a0.dN]) λf=>some f
def gr(a0:Tm)(a1:dO×dO×dO):Option (dO×Int):=dH (jY a0.alX) λa=>if pj (eA a) 0 then dH (tv a 1 (eA a)) λh=>gG (eX h)<|ej (λ(b:Int) (c:Int)=>(λ(_:Unit)=>ej (λ(v222:Bool)=>if v222 then some (.ret ((dO.mk (Ty.mk 0 []) 0),7))else some (.next ())) λd=>if eo b 0 then dH (jk a1.1 c) λk=>d (lV k)else if eo b 1 then dH (jk a1.2.1 c) λl=>d (lV l)else gG (eo b 2)<|dH (jk a1.2.2 c) λn=>d (lV n)):Int->Int->(Unit)->(Option (gq (Unit) (dO×Int)))) λo=>dH (fw o h 0 ()) (fO (λ(_:Unit)=>dH (dX a 0) λq=>dH (mP (Ty.mk q [])) λs=>some (s,0)) (λr=>some r))else if eo a0.alX 3 then ej (λ(t:Bool)=>if t then some ((dO.mk (Ty.mk 0 []) 0),7)else dH (jx a1.1 1) λu=>some (u,0)) λi=>dH (jk a1.1 4) λv=>if v then dH (jx a1.1 0) λw=>dH (kD w a1.2.1) λx=>i (lV x)else i true else if fp (eo a0.alX 6) true (eo a0.alX 9)then dH (mP a0.dN) λj=>ej (λ(y:Bool)=>if y then some ((dO.mk (Ty.mk 0 []) 0),7)else some (j,0)) λf=>dH (kD a1.1 j) λA=>if A then dH (p3 a0) λB=>dH (gP FU a1.2.1.dN B) λC=>if C then dH (jk a1.2.2 (fp (eo a0.alX 9) 2 1)) λD=>f (lV D)else f true else f true else if eo a0.alX 10 then dV (rS 3 a1.1 a1.2.1) λF G=>some (F,G)else dH (jk a1.1 3) λH=>if H then if eo a0.alX 11 then dH (jx a1.1 0) λI=>some (I,0)else dH (jx a1.1 1) λJ=>some (J,0)else some ((dO.mk (Ty.mk 0 []) 0),7)
def eZ:Nat->(List dO)->Tm->Option (dO×Int)
 |0,_,_=>none|n+1,a0,a1=>if eo a1.alX 1 then if qa a1.al0 (eA a0)then some ((dO.mk (Ty.mk 0 []) 0),6)else dH (dX a0 (fL .i64 (fL .i64 (eA a0) 1) a1.al0)) λL=>some (L,0)else if eo a1.alX 2 then dH (mP a1.dN) λo=>gG (fN a0 [o])<|dH (dX a1.alY 0) λH=>dV (eZ n (fU a0 [o]) H) λI q=>if eL q 0 then some ((dO.mk (Ty.mk 0 []) 0),q)else dV (rS 4 o I) λJ K=>some (J,K)else gG (eX a1.alY)<|ej (λ(k:Int) (s:Tm)=>(un9 λ(b:Int) (c:List Ty) (v218:Int) (d:Int) (f:List Ty) (h:Int) (v222:Int) (i:List Ty) (j:Int)=>ej (λ(t:Int) (u:List Ty) (v:Int) (w:Int) (x:List Ty) (y:Int) (A:Int) (B:List Ty) (C:Int)=>some (.next (t,u,v,w,x,y,A,B,C))) λj250=>dV (eZ n a0 s) λa l=>if eL l 0 then some (.ret ((dO.mk (Ty.mk 0 []) 0),l))else if eo k 0 then j250 a.dN.alX a.dN.alY a.alZ d f h v222 i j else if eo k 1 then j250 b c v218 a.dN.alX a.dN.alY a.alZ v222 i j else gG (eo k 2)<|j250 b c v218 d f h a.dN.alX a.dN.alY a.alZ):Int->Tm->(Int×(List Ty)×Int×Int×(List Ty)×Int×Int×(List Ty)×Int)->(Option (gq (Int×(List Ty)×Int×Int×(List Ty)×Int×Int×(List Ty)×Int) (dO×Int)))) λD=>dH (fw D a1.alY 0 (0,[],0,0,[],0,0,[],0)) (fO (un9 λ(b:Int) (c:List Ty) (v218:Int) (d:Int) (f:List Ty) (h:Int) (v222:Int) (i:List Ty) (j:Int)=>dV (gr a1 ((dO.mk (Ty.mk b c) v218),(dO.mk (Ty.mk d f) h),(dO.mk (Ty.mk v222 i) j))) λF G=>some (F,G)) (λr=>some r))
def kF:Nat->Ty->Option Ty
 |0,_=>none|n+1,a0=>gG (eX a0.alY)<|ej (λ(f:Int) (c:Ty)=>(λ(a:List Ty)=>dH (kF n c) λb=>gG (fN a [b])<|some (.next (fU a [b]))):Int->Ty->(List Ty)->(Option (gq (List Ty) (Ty)))) λd=>dH (fw d a0.alY 0 []) (fO (λ(a:List Ty)=>some (Ty.mk a0.alX a)) (λr=>some r))
def sn(a0:List Ty)(a1:Tm):Option (Ty×Int):=dH (nu a0) λh=>if eL h 0 then some ((Ty.mk 0 []),h)else dH (pU a1) λa=>if eL a 0 then some ((Ty.mk 0 []),a)else dH (oi a0) λc=>dV (eZ FU c a1) λd b=>if eL b 0 then some ((Ty.mk 0 []),b)else dH (kF FU d.dN) λf=>some (f,0)
def zE(a0 a1:Ty):Option Bool:=dH (gP FU a0 a1) λa=>some a
def iR(a0:Tm)(a1:Ty):Option Int:=dV (sn [] a0) λd c=>ej (λ(v21:Bool)=>if v21 then some 7 else some c) λa=>if eo c 0 then dH (zE d a1) λb=>a (lV b)else a false
def iP(a0:Int):Option (Fm×Pf×Int):=some ((Fm.mk 0 (Ty.mk 0 []) [] []),(Pf.mk 0 0 (Ty.mk 0 []) [] [] []),a0)
def Gn(a0:Int):Option Tm:=some (Tm.mk 1 a0 (Ty.mk 0 []) [])
def fj(a0:Int):Option Tm:=dH (Gn a0) λa=>some a
def lk(a0:Int)(a1:List Tm):Option Tm:=some (Tm.mk a0 0 (Ty.mk 0 []) a1)
def h7(a0:Tm)(a1:List Tm):Option Tm:=gG (eX a1)<|ej (λ(j:Int) (h:Tm)=>(un5 λ(b:Int) (c:Int) (v46:Int) (d:List Ty) (f:List Tm)=>dH (lk 3 [(Tm.mk b c (Ty.mk v46 d) f),h]) λa=>some (.next (a.alX,a.al0,a.dN.alX,a.dN.alY,a.alY))):Int->Tm->(Int×Int×Int×(List Ty)×(List Tm))->(Option (gq (Int×Int×Int×(List Ty)×(List Tm)) (Tm)))) λi=>dH (fw i a1 0 (a0.alX,a0.al0,a0.dN.alX,a0.dN.alY,a0.alY)) (fO (un5 λ(b:Int) (c:Int) (v46:Int) (d:List Ty) (f:List Tm)=>some (Tm.mk b c (Ty.mk v46 d) f)) (λr=>some r))
def lJ:Nat->Tm->Int->Int->Option Tm
 |0,_,_,_=>none|n+1,a0,a1,a2=>if eo a2 0 then some a0 else if eo a0.alX 1 then some (Tm.mk a0.alX (fp (qa a0.al0 a1) (eW .i64 a0.al0 a2) a0.al0) a0.dN a0.alY)else gG (eX a0.alY)<|ej (λ(f:Int) (c:Tm)=>(λ(a:List Tm)=>dH (lJ n c (fp (eo a0.alX 2) (eW .i64 a1 1) a1) a2) λb=>gG (fN a [b])<|some (.next (fU a [b]))):Int->Tm->(List Tm)->(Option (gq (List Tm) (Tm)))) λd=>dH (fw d a0.alY 0 []) (fO (λ(a:List Tm)=>some (Tm.mk a0.alX a0.al0 a0.dN a)) (λr=>some r))
def mR(a0 a1:Tm):Option Fm:=some (Fm.mk 1 (Ty.mk 0 []) [a0,a1] [])
def pz(a0:Int)(a1:Ty)(a2:Fm):Option Fm:=some (Fm.mk a0 a1 [] [a2])
def fR(a0:Tm):Option Fm:=dH (gA) λa=>dH (fj 0) λb=>dH (lJ FU a0 0 1) λc=>dH (mR b c) λd=>dH (pz 5 a d) λf=>some f
def kS(a0:Tm):Option Pf:=some (Pf.mk 18 0 (Ty.mk 0 []) [a0] [] [])
def jT(a0:Fm)(a1:Tm)(a2:Pf):Option Pf:=some (Pf.mk 10 0 (Ty.mk 0 []) [a1] [a0] [a2])
def p1(a0:Ty)(a1:Pf):Option Pf:=some (Pf.mk 8 0 a0 [] [] [a1])
def rM(a0:Fm):Option Bool:=ej (λ(v10:Int) (v11:Int) (v12:Bool)=>ej (some (fp (eo (eA a0.ei) v10) (eo (eA a0.alY) v11) false)) λb=>if v12 then dV (je a0.dN) λf c=>if eL c 0 then some false else b else dH (ov a0.dN) λd=>if d then b else some false) λa=>if eo a0.alX 1 then a 2 0 false else if fp (eo a0.alX 2) true (eo a0.alX 3)then a 0 2 false else if fp (eo a0.alX 4) true (fp (eo a0.alX 5) true (fp (eo a0.alX 6) true (eo a0.alX 7)))then a 0 1 true else some false
def jy:Nat->Fm->Option (Int×Bool)
 |0,_=>none|n+1,a0=>dH (rM a0) λo=>if o then gG (eX a0.ei)<|ej (λ(q:Int) (h:Tm)=>(λ(v72:Int)=>dV (jH FU h) λi j=>if j then some (.next (eW .i64 v72 i))else some (.ret (0,false))):Int->Tm->(Int)->(Option (gq (Int) (Int×Bool)))) λk=>dH (fw k a0.ei 0 1) (fO (λ(v72:Int)=>gG (eX a0.alY)<|ej (λ(l:Int) (b:Fm)=>(λ(a:Int)=>dV (jy n b) λc d=>if d then some (.next (eW .i64 a c))else some (.ret (0,false))):Int->Fm->(Int)->(Option (gq (Int) (Int×Bool)))) λf=>dH (fw f a0.alY 0 v72) (fO (λ(a:Int)=>some (a,true)) (λr=>some r))) (λr=>some r))else some (0,false)
def iX(a0:Fm):Option (Int×Int):=dV (jy FU a0) λa b=>if b then if pj a 4096 then some (0,4)else some (a,0)else some (0,2)
def km(a0:Fm):Option Int:=dV (iX a0) λb a=>some a
def pA(a0:Int):Option (fA×Bool):=if fp (pg a0 1) true (qa a0 21)then some ((fA.mk false false 0 0 0 0 0 0),false)else dH (dX oH a0) λa=>some (a,true)
def hW(a0:dY)(a1 a2:Int):Option (Bool×dY):=some ((eL a2 2),(fp a0.ja (dY.mk (eW .i64 a0.alZ a1) true) (dY.mk (eW .i64 a0.alZ a1) (eo a2 4))))
def iO:Nat->dY->Pf->Option (Bool×dY)
 |0,_,_=>none|n+1,a0,a1=>dV (pA a1.alX) λd G=>if fp G (fp (pg a1.al0 0) true (fp (eL a1.al0 0) (fp d.al0 (fp (eL (eA a1.ei) d.ei) true (fp (eL (eA a1.fZ) d.fZ) true (eL (eA a1.alY) d.alY))) true) (fp (eL (eA a1.ei) d.ei) true (fp (eL (eA a1.fZ) d.fZ) true (eL (eA a1.alY) d.alY))))) true then some (false,a0)else ej (λ(y:dY)=>gG (eX a1.ei)<|ej (λ(H:Int) (A:Tm)=>(λ(a:dY)=>dV (kC A) λh i=>dV (hW a h i) λj d179=>if j then some (.next d179)else some (.ret (false,d179))):Int->Tm->(dY)->(Option (gq (dY) (Bool×dY)))) λk=>dH (fw k a1.ei 0 y) (fO (λ(a:dY)=>gG (eX a1.fZ)<|ej (λ(D:Int) (l:Fm)=>(λ(b:dY)=>dV (iX l) λo q=>dV (hW b o q) λs d322=>if s then some (.next d322)else some (.ret (false,d322))):Int->Fm->(dY)->(Option (gq (dY) (Bool×dY)))) λt=>dH (fw t a1.fZ 0 a) (fO (λ(b:dY)=>gG (eX a1.alY)<|ej (λ(F:Int) (u:Pf)=>(λ(c:dY)=>dV (iO n c u) λv f=>if v then some (.next f)else some (.ret (false,f))):Int->Pf->(dY)->(Option (gq (dY) (Bool×dY)))) λw=>dH (fw w a1.alY 0 b) (fO (λ(c:dY)=>some (true,c)) (λr=>some r))) (λr=>some r))) (λr=>some r))) λx=>if d.typed then dV (je a1.dN) λI B=>if eL B 0 then some (false,(dY.mk (eW .i64 a0.alZ 1) a0.ja))else x (dY.mk (eW .i64 a0.alZ 1) a0.ja)else dH (ov a1.dN) λC=>if C then x (dY.mk (eW .i64 a0.alZ 1) a0.ja)else some (false,(dY.mk (eW .i64 a0.alZ 1) a0.ja))
def re(a0:Pf):Option (Int×Int):=dV (iO FU (dY.mk 0 false) a0) λa d14=>if a then if fp d14.ja true (pj d14.alZ 16384)then some (0,4)else some (d14.alZ,0)else some (0,2)
def rJ(a0:Pf):Option Int:=dV (re a0) λb a=>some a
def jA(a0:Fm)(a1:Pf):Option (Fm×Pf×Int):=dH (km a0) λc=>ej (λ(v10:Int)=>if eL v10 0 then some ((Fm.mk 0 (Ty.mk 0 []) [] []),(Pf.mk 0 0 (Ty.mk 0 []) [] [] []),4)else some (a0,a1,0)) λa=>if eo c 0 then dH (rJ a1) λb=>a b else a c
def vh(a0:Tm):Option (Fm×Pf×Int):=dH (sA) λr=>dH (iR a0 r) λb=>if eL b 0 then eT (iP b) λs t u=>some (s,t,u)else dH (fj 0) λv=>dH (h7 a0 [v]) λa=>dH (gA) λc=>dH (fR a) λd=>dH (pz 4 c d) λf=>dH (gA) λh=>dH (fR a) λi=>dH (kS a) λj=>dH (jT i a j) λk=>dH (p1 h k) λl=>eT (jA f l) λn o q=>some (n,o,q)
def nK(a0:List dO)(a1:List Ty):Option (List dO):=dH (oi a1) λa=>gG (fN a0 a)<|some (fU a0 a)
def ry(a0:List dO)(a1:Tm)(a2:Int):Option Int:=dV (eZ FU a0 a1) λd c=>ej (λ(v21:Bool)=>if v21 then some 7 else some c) λa=>if eo c 0 then dH (jk d a2) λb=>a (lV b)else a false
def mI(a0:List dO)(a1:Tm):Option Int:=dH (ry a0 a1 1) λa=>some a
def jm:Nat->(List dO)->Fm->Option Int
 |0,_,_=>none|n+1,a0,a1=>ej (λ(f:List dO)=>gG (eX a1.alY)<|ej (λ(o:Int) (h:Fm)=>(λ(_:Unit)=>dH (jm n f h) λa=>if eL a 0 then some (.ret a)else some (.next ())):Int->Fm->(Unit)->(Option (gq (Unit) (Int)))) λi=>dH (fw i a1.alY 0 ()) (fO (λ(_:Unit)=>some 0) (λr=>some r))) λb=>ej (dH (nK a0 [a1.dN]) λj=>b j) λc=>if fp (eo a1.alX 4) true (eo a1.alX 5)then c else if fp (eo a1.alX 6) true (eo a1.alX 7)then c else if fp (eo a1.alX 2) true (eo a1.alX 3)then b a0 else gG (eX a1.ei)<|ej (λ(q:Int) (k:Tm)=>(λ(_:Unit)=>dH (mI a0 k) λd=>if eL d 0 then some (.ret d)else some (.next ())):Int->Tm->(Unit)->(Option (gq (Unit) (Int)))) λl=>dH (fw l a1.ei 0 ()) (fO (λ(_:Unit)=>some 0) (λr=>some r))
def uz(a0:List Ty)(a1:Fm):Option Int:=dH (nu a0) λd=>if eL d 0 then some d else dH (km a1) λa=>if eL a 0 then some a else dH (oi a0) λb=>dH (jm FU b a1) λc=>some c
def wO(a0:List Fm)(a1:Sq):Option Int:=if pj (eA a0) 32 then some 3 else gG (eX a0)<|ej (λ(j:Int) (d:Fm)=>(λ(_:Unit)=>dH (uz [] d) λa=>if eL a 0 then some (.ret a)else some (.next ())):Int->Fm->(Unit)->(Option (gq (Unit) (Int)))) λf=>dH (fw f a0 0 ()) (fO (λ(_:Unit)=>dH (nu a1.al1) λb=>if eL b 0 then some b else if pj (eA a1.al4) 16 then some 3 else gG (eX a1.al4)<|ej (λ(k:Int) (h:Fm)=>(λ(_:Unit)=>dH (uz a1.al1 h) λc=>if eL c 0 then some (.ret c)else some (.next ())):Int->Fm->(Unit)->(Option (gq (Unit) (Int)))) λi=>dH (fw i a1.al4 0 ()) (fO (λ(_:Unit)=>some 0) (λr=>some r))) (λr=>some r))
def Ej:Option Unit:=some ()
def sK(a0:ew)(a1:Fm):Option ew:=gG (fN a0.known [(ek.mk a1 a0.nC.vars)])<|some (ew.mk (eQ.mk a0.nC.vars (eW .i64 a0.nC.al4 1)) a0.al1 (fU a0.known [(ek.mk a1 a0.nC.vars)]))
def zO(a0:Sq):Option ew:=dH (oi a0.al1) λi=>gG (eX a0.al4)<|ej (λ(j:Int) (f:Fm)=>(ZZ λ(b:Int) (v46:Int) (c:List dO) (d:List ek)=>dH (sK (ew.mk (eQ.mk b v46) c d) f) λa=>some (.next (a.nC.vars,a.nC.al4,a.al1,a.known))):Int->Fm->(Int×Int×(List dO)×(List ek))->(Option (gq (Int×Int×(List dO)×(List ek)) (ew)))) λh=>dH (fw h a0.al4 0 ((eA a0.al1),0,i,[])) (fO (ZZ λ(b:Int) (v46:Int) (c:List dO) (d:List ek)=>some (ew.mk (eQ.mk b v46) c d)) (λr=>some r))
def rA(a0:eQ)(a1 a2:Int):Option Int:=if fp (pj (eW .i64 a0.vars a1) 16) true (pj (eW .i64 a0.al4 a2) 16)then some 3 else some 0
def rp(a0:ew)(a1:List Ty):Option ew:=dH (nK a0.al1 a1) λa=>some (ew.mk (eQ.mk (eW .i64 a0.nC.vars (eA a1)) a0.nC.al4) a a0.known)
def va(a0:Int)(a1:Ty)(a2:Fm):Option Fm:=some (Fm.mk a0 a1 [] [a2])
def p0(a0 a1:Int):Option Int:=gG (Uo a1)<|some (aeD .u32 a0 a1)
def yb(a0 a1 a:Int):Option Int:=if qa a0 a1 then gG (Uo (fL .i64 a0 a1))<|some (Vn .u32 a (aeC .u32 1 (fL .i64 a0 a1)))else some a
def uO{S:Type}:Nat->Tm->Int->(S->Int->Int->Option S)->S->Option S
 |0,_,_,_,_=>none|n+1,a0,a1,a,uJ=>ej (λ(v6:S)=>gG (eX a0.alY)<|ej (λ(h:Int) (b:Tm)=>(λ(v28:S)=>dH (uO n b (fp (eo a0.alX 2) (eW .i64 a1 1) a1) a v28) λc=>some (.next c)):Int->Tm->(S)->(Option (gq (S) (S)))) λd=>dH (fw d a0.alY 0 v6) (fO (λ(v28:S)=>some v28) (λr=>some r))) λf=>if eo a0.alX 1 then dH (a uJ a0.al0 a1) λi=>f i else f uJ
def B8{S:Type}(a0:Tm)(a1:(S->Int->Int->Option S))(uJ:S):Option S:=dH (uO FU a0 0 a1 uJ) λs1=>some s1
def A2(a0:Tm):Option Int:=dH (B8 a0 (λ(s:Int) (a:Int) (b:Int)=>yb a b s) 0) λc=>some c
def pW(a0:Tm):Option Int:=some 0
def o9(a0:dO)(a1:Ty):Option Bool:=dH (mP a1) λa=>dH (kD a0 a) λb=>some b
def y0(a0 a1 b a:Int):Option Int:=if eo (fL .i64 a0 a1) b then some (eW .i64 a 1)else some a
def zX(a0:Tm)(a1:Int):Option Int:=dH (B8 a0 (λ(s:Int) (a:Int) (b:Int)=>y0 a b a1 s) 0) λc=>some c
def qy(a0:Tm)(a1 a b:Int):Option Int:=dH (zX a0 (eW .i64 b a1)) λc=>some (eW .i64 a c)
def mS(a0:Int):Option Bool:=some (fp (qa a0 4) (Zv a0 7) false)
def qO{S:Type}:Nat->Fm->Int->(S->Tm->Int->Option S)->S->Option S
 |0,_,_,_,_=>none|n+1,a0,a1,a2,uJ=>gG (eX a0.ei)<|ej (λ(l:Int) (c:Tm)=>(λ(a:S)=>dH (a2 a c a1) λd=>some (.next d)):Int->Tm->(S)->(Option (gq (S) (S)))) λf=>dH (fw f a0.ei 0 uJ) (fO (λ(a:S)=>ej (λ(v51:Int)=>gG (eX a0.alY)<|ej (λ(o:Int) (h:Fm)=>(λ(v72:S)=>dH (qO n h v51 a2 v72) λi=>some (.next i)):Int->Fm->(S)->(Option (gq (S) (S)))) λj=>dH (fw j a0.alY 0 a) (fO (λ(v72:S)=>some v72) (λr=>some r))) λb=>dH (mS a0.alX) λk=>if k then b (eW .i64 a1 1)else b a1) (λr=>some r))
def sk(a0:Fm)(a1:Int):Option Int:=dH (qO FU a0 0 (λ(s:Int) (a:Tm) (b:Int)=>qy a b s a1) 0) λc=>some c
def oP(a0:Int):Option Tm:=some (Tm.mk 1 a0 (Ty.mk 0 []) [])
def u6(a0 a1 a b:Int):Option Tm:=dH (oP (fp (qa (fL .i64 a0 a1) a) (eW .i64 a0 b) a0)) λc=>some c
def lr{S:Type}:Nat->Tm->Int->(S->Int->Int->Option (Tm×S))->S->Option (Tm×S)
 |0,_,_,_,_=>none|n+1,a0,a1,c,uJ=>if eo a0.alX 1 then dV (c uJ a0.al0 a1) λh i=>some (h,i)else dH (kF FU a0.dN) λj=>gG (eX a0.alY)<|ej (λ(l:Int) (k:Tm)=>(yn λ(a:List Tm) (v107:S)=>dV (lr n k (fp (eo a0.alX 2) (eW .i64 a1 1) a1) c v107) λb d=>gG (fN a [b])<|some (.next ((fU a [b]),d))):Int->Tm->((List Tm)×S)->(Option (gq ((List Tm)×S) (Tm×S)))) λf=>dH (fw f a0.alY 0 ([],uJ)) (fO (yn λ(a:List Tm) (v107:S)=>some ((Tm.mk a0.alX a0.al0 j a),v107)) (λr=>some r))
def sJ{S:Type}(a0:Tm)(a1:(S->Int->Int->Option (Tm×S)))(uJ:S):Option (Tm×S):=dV (lr FU a0 0 a1 uJ) λa b=>some (a,b)
def v_(a0:Tm)(a1 a2:Int):Option Tm:=dV (sJ a0 (λ(s:Unit) (a:Int) (b:Int)=>yN (u6 a b a1 a2) s) ()) λc d=>some c
def Dp(a0 a1 a:Int)(b:Tm):Option Tm:=if eo (fL .i64 a0 a1) a then dH (v_ b 0 (eW .i64 a a1)) λc=>some c else if pj (fL .i64 a0 a1) a then dH (oP (fL .i64 a0 1)) λd=>some d else dH (oP a0) λf=>some f
def Kd(a0:Tm)(a1:Int)(a2:Tm):Option Tm:=dV (sJ a0 (λ(s:Unit) (a:Int) (b:Int)=>yN (Dp a b a1 a2) s) ()) λc d=>some c
def s0(a0:Tm)(a1 a:Int)(b:Tm):Option Tm:=dH (Kd a0 (eW .i64 a a1) b) λc=>some c
def gW{S:Type}:Nat->Fm->Int->(S->Tm->Int->Option (Tm×S))->S->Option (Fm×S)
 |0,_,_,_,_=>none|n+1,a0,a1,a2,uJ=>dH (kF FU a0.dN) λu=>gG (eX a0.ei)<|ej (λ(v:Int) (q:Tm)=>(yn λ(v91:List Tm) (f:S)=>dV (a2 f q a1) λb h=>gG (fN v91 [b])<|some (.next ((fU v91 [b]),h))):Int->Tm->((List Tm)×S)->(Option (gq ((List Tm)×S) (Fm×S)))) λs=>dH (fw s a0.ei 0 ([],uJ)) (fO (yn λ(v91:List Tm) (f:S)=>ej (λ(i:Int)=>gG (eX a0.alY)<|ej (λ(t:Int) (j:Fm)=>(yn λ(a:List Fm) (v212:S)=>dV (gW n j i a2 v212) λc k=>gG (fN a [c])<|some (.next ((fU a [c]),k))):Int->Fm->((List Fm)×S)->(Option (gq ((List Fm)×S) (Fm×S)))) λl=>dH (fw l a0.alY 0 ([],f)) (fO (yn λ(a:List Fm) (v212:S)=>some ((Fm.mk a0.alX u v91 a),v212)) (λr=>some r))) λd=>dH (mS a0.alX) λo=>if o then d (eW .i64 a1 1)else d a1) (λr=>some r))
def vk(a0:Fm)(a1:Int)(a2:Tm):Option Fm:=dV (gW FU a0 0 (λ(s:Unit) (a:Tm) (b:Int)=>yN (s0 a b a1 a2) s) ()) λc d=>some c
def Di(a0:Fm)(a1:Tm):Option (Fm×Int):=dV (iX a0) λd h=>dV (kC a1) λa f=>dH (sk a0 0) λb=>if pj (eW .i64 d (Vf .i64 b (fL .i64 a 1))) 4096 then some ((Fm.mk 0 (Ty.mk 0 []) [] []),4)else dH (vk a0 0 a1) λc=>some (c,0)
def jM:Nat->Tm->Tm->Option Bool
 |0,_,_=>none|n+1,a0,a1=>ej (λ(d:Bool)=>if d then some false else gG (eX a0.alY)<|ej (λ(f:Int) (h:Tm)=>(λ(_:Unit)=>dH (dX a1.alY f) λb=>dH (jM n h b) λc=>if c then some (.next ())else some (.ret false)):Int->Tm->(Unit)->(Option (gq (Unit) (Bool)))) λi=>dH (fw i a0.alY 0 ()) (fO (λ(_:Unit)=>some true) (λr=>some r))) λa=>if eL a0.alX a1.alX then a true else if eL a0.al0 a1.al0 then a true else dH (gP FU a0.dN a1.dN) λj=>if j then a (eL (eA a0.alY) (eA a1.alY))else a true
def rv(a0 a1:Tm):Option Bool:=dH (jM FU a0 a1) λa=>some a
def CI(a0:Tm)(a1:Int):Option (Tm×Int×Int):=none
def y_(a0 a1:Tm)(a2:Int):Option Int:=dH (pU a0) λj=>if eL j 0 then some j else dH (pU a1) λa=>if eL a 0 then some a else dH (rv a0 a1) λd=>if d then some 0 else eT (CI a0 a2) λf k b=>if eL b 0 then some b else eT (CI a1 a2) λh l c=>if eL c 0 then some c else dH (rv f h) λi=>if i then some 0 else some 11
def qT:Nat->Fm->Fm->Option Int
 |0,_,_=>none|n+1,a0,a1=>ej (λ(k:Bool)=>if k then some 11 else gG (eX a0.ei)<|ej (λ(l:Int) (o:Tm)=>(λ(_:Unit)=>dH (dX a1.ei l) λc=>dH (y_ o c 1000) λa=>if eL a 0 then some (.ret a)else some (.next ())):Int->Tm->(Unit)->(Option (gq (Unit) (Int)))) λq=>dH (fw q a0.ei 0 ()) (fO (λ(_:Unit)=>gG (eX a0.alY)<|ej (λ(d:Int) (f:Fm)=>(λ(_:Unit)=>dH (dX a1.alY d) λh=>dH (qT n f h) λb=>if eL b 0 then some (.ret b)else some (.next ())):Int->Fm->(Unit)->(Option (gq (Unit) (Int)))) λi=>dH (fw i a0.alY 0 ()) (fO (λ(_:Unit)=>some 0) (λr=>some r))) (λr=>some r))) λj=>if eL a0.alX a1.alX then j true else dH (gP FU a0.dN a1.dN) λs=>j (lV s)
def ud(a0 a1:Fm):Option Int:=dH (km a0) λc=>if eL c 0 then some c else dH (km a1) λa=>if eL a 0 then some a else dH (qT FU a0 a1) λb=>some b
def um(a0 a1:Tm):Option Fm:=some (Fm.mk 1 (Ty.mk 0 []) [a0,a1] [])
def qD(a0:List Fm)(a1:Pf)(a2:ew):Option (ec×Int):=dH (dX a1.ei 0) λb=>dH (mI a2.al1 b) λa=>if eL a 0 then some ((ec.mk (Fm.mk 0 (Ty.mk 0 []) [] []) 0),a)else dH (um b b) λc=>some ((ec.mk c 0),0)
def Bh(a0:Bool):Option (Int×Int):=if a0 then some (4,3)else some (5,2)
def BY(a0:Int)(a1:List Tm):Option Tm:=some (Tm.mk a0 0 (Ty.mk 0 []) a1)
def A4(a0:Tm)(a1:List Ty):Option Tm:=ej ((un6 λ(a:Int) (b:Int) (v59:Int) (c:Int) (d:List Ty) (f:List Tm)=>if qa a 0 then dH (dX a1 a) λh=>some (.next ((fL .i64 a 1),2,0,h.alX,h.alY,[(Tm.mk b v59 (Ty.mk c d) f)]))else some (.y7 (a,b,v59,c,d,f))):(Int×Int×Int×Int×(List Ty)×(List Tm))->(Option (gq (Int×Int×Int×Int×(List Ty)×(List Tm)) (Tm)))) λi=>dH (j0 i FU ((fL .i64 (eA a1) 1),a0.alX,a0.al0,a0.dN.alX,a0.dN.alY,a0.alY)) (fO (un6 λ(a:Int) (b:Int) (v59:Int) (c:Int) (d:List Ty) (f:List Tm)=>some (Tm.mk b v59 (Ty.mk c d) f)) (λr=>some r))
def Jz(a0:Int)(a1:Ty)(a2 a3 a4:Tm):Option Tm:=some (Tm.mk a0 0 a1 [a2,a3,a4])
def rk(a0 a1 a2:Tm):Option Tm:=dH (p5) λa=>dH (p5) λb=>dH (p5) λc=>dH (A4 a1 [b,c]) λd=>dH (Jz 6 a a0 d a2) λf=>some f
def DB:Option Tm:=dH (BY 4 []) λa=>dH (oP 1) λb=>dH (oP 0) λc=>dH (rk a b c) λd=>dH (p5) λf=>dH (A4 d [f]) λh=>some h
def Fc(a0:Tm)(a1:List Tm):Option Tm:=gG (eX a1)<|ej (λ(j:Int) (h:Tm)=>(un5 λ(b:Int) (c:Int) (v46:Int) (d:List Ty) (f:List Tm)=>dH (BY 3 [(Tm.mk b c (Ty.mk v46 d) f),h]) λa=>some (.next (a.alX,a.al0,a.dN.alX,a.dN.alY,a.alY))):Int->Tm->(Int×Int×Int×(List Ty)×(List Tm))->(Option (gq (Int×Int×Int×(List Ty)×(List Tm)) (Tm)))) λi=>dH (fw i a1 0 (a0.alX,a0.al0,a0.dN.alX,a0.dN.alY,a0.alY)) (fO (un5 λ(b:Int) (c:Int) (v46:Int) (d:List Ty) (f:List Tm)=>some (Tm.mk b c (Ty.mk v46 d) f)) (λr=>some r))
def Gj(a0:Tm):Option Tm:=dH (p5) λa=>dH (p5) λb=>dH (A4 a0 [a,b]) λc=>some c
def FX:Option Tm:=dH (oP 1) λa=>dH (DB) λb=>dH (oP 0) λc=>dH (Fc b [c]) λd=>dH (oP 0) λf=>dH (rk a d f) λh=>dH (Gj h) λi=>some i
def Dz(a0 a1:Tm):Option Fm:=dH (FX) λa=>dH (BY 5 [a0]) λb=>dH (Fc a [b,a1]) λc=>dH (BY 4 []) λd=>dH (um c d) λf=>some f
def p8:Nat->Fm->Fm->Option Bool
 |0,_,_=>none|n+1,a0,a1=>ej (λ(k:Bool)=>if k then some false else gG (eX a0.ei)<|ej (λ(l:Int) (o:Tm)=>(λ(_:Unit)=>dH (dX a1.ei l) λb=>dH (jM FU o b) λc=>if c then some (.next ())else some (.ret false)):Int->Tm->(Unit)->(Option (gq (Unit) (Bool)))) λq=>dH (fw q a0.ei 0 ()) (fO (λ(_:Unit)=>gG (eX a0.alY)<|ej (λ(d:Int) (f:Fm)=>(λ(_:Unit)=>dH (dX a1.alY d) λh=>dH (p8 n f h) λi=>if i then some (.next ())else some (.ret false)):Int->Fm->(Unit)->(Option (gq (Unit) (Bool)))) λj=>dH (fw j a0.alY 0 ()) (fO (λ(_:Unit)=>some true) (λr=>some r))) (λr=>some r))) λa=>if eL a0.alX a1.alX then a true else dH (gP FU a0.dN a1.dN) λs=>if s then if eL (eA a0.ei) (eA a1.ei)then a true else a (eL (eA a0.alY) (eA a1.alY))else a true
def AP(a0:Fm):Option (Bool×Tm×Fm×Bool):=dV (Bh (eo a0.alX 4)) λu v=>ej (λ(s:Bool)=>if s then some (false,(Tm.mk 0 0 (Ty.mk 0 []) []),(Fm.mk 0 (Ty.mk 0 []) [] []),false)else dH (dX a0.alY 0) λf=>dH (dX f.alY 0) λh=>dH (dX h.ei 0) λd=>ej (λ(i:Bool)=>if i then some (false,(Tm.mk 0 0 (Ty.mk 0 []) []),(Fm.mk 0 (Ty.mk 0 []) [] []),false)else dH (dX d.alY 1) λj=>dH (dX f.alY 1) λk=>some ((eo a0.alX 4),j,k,true)) λa=>if eL d.alX 3 then a true else dH (dX d.alY 1) λc=>dH (zX c 0) λl=>if pj l 0 then a true else dH (oP 0) λn=>dH (Dz n c) λo=>dH (p8 FU h o) λq=>a (lV q)) λb=>if eL a0.alX u then b true else if eL a0.dN.alX 1 then b true else dH (dX a0.alY 0) λr=>if eL r.alX v then b true else dH (dX r.alY 0) λt=>b (eL t.alX 1)
def wm:Nat->Fm->Option Int
 |0,_=>none|n+1,a0=>if eo a0.alX 1 then some 6 else dH (dX a0.alY (fL .i64 (eA a0.alY) 1)) λo=>dH (wm n o) λa=>ej (λ(b:Int)=>ej (λ(h:Int)=>some h) λc=>W8 (AP a0) λq r i j=>if j then dH (wm n i) λk=>c (Vn .u8 (Cz .u8 b 1) (Cz .u8 k 4))else c (Cz .u8 b 1)) λd=>if fp (eo a0.alX 2) true (eo a0.alX 3)then dH (dX a0.alY 0) λl=>dH (wm n l) λf=>some (Vn .u8 (Cz .u8 (Cz .u8 f a) 6) (Cz .u8 (fp (eo a0.alX 2) (Vn .u8 a f) a) 1))else if eo a0.alX 5 then d (Vn .u8 a 1)else d a
def GI(a0:Fm)(a1:Int):Option (Bool×Int):=dH (km a0) λb=>if eL b 0 then some (false,b)else dH (wm FU a0) λa=>some ((eL (Cz .u8 a a1) 0),0)
def x9(a0:Fm):Option (Bool×Int):=dV (GI a0 1) λa b=>some (a,b)
mutual
def ke:Nat->(List Fm)->Pf->ew->Option (ec×Int)
 |0,_,_,_=>none|n+1,a0,a1,a2=>dV (if eo a1.alX 8 then qv n a0 a1 a2 else if eo a1.alX 10 then rE n a0 a1 a2 else if eo a1.alX 18 then qD a0 a1 a2 else none) λa b=>if eL b 0 then some ((ec.mk (Fm.mk 0 (Ty.mk 0 []) [] []) 0),b)else dH (km a.d_) λd=>if eL d 0 then some ((ec.mk (Fm.mk 0 (Ty.mk 0 []) [] []) 0),4)else ej (λ(v30:Int)=>some ((ec.mk a.d_ v30),0)) λc=>dV (x9 a.d_) λf h=>if f then c a.jX else c 0
def qv:Nat->(List Fm)->Pf->ew->Option (ec×Int)
 |0,_,_,_=>none|n+1,a0,a1,a2=>dH (rA a2.nC 1 0) λj=>if eL j 0 then some ((ec.mk (Fm.mk 0 (Ty.mk 0 []) [] []) 0),j)else dH (dX a1.alY 0) λd=>dH (rp a2 [a1.dN]) λf=>dV (ke n a0 d f) λa b=>if eL b 0 then some ((ec.mk (Fm.mk 0 (Ty.mk 0 []) [] []) 0),b)else ej (λ(v40:Int)=>dH (va v40 a1.dN a.d_) λh=>dH (p0 a.jX 1) λi=>some ((ec.mk h i),0)) λc=>if eo a1.alX 12 then if eL (Cz .u32 a.jX 1) 0 then some ((ec.mk (Fm.mk 0 (Ty.mk 0 []) [] []) 0),12)else c 6 else c 4
def rE:Nat->(List Fm)->Pf->ew->Option (ec×Int)
 |0,_,_,_=>none|n+1,a0,a1,a2=>dH (dX a1.fZ 0) λa=>dH (dX a1.ei 0) λb=>if eo a1.alX 14 then dH (jm FU a2.al1 a) λd=>if eL d 0 then some ((ec.mk (Fm.mk 0 (Ty.mk 0 []) [] []) 0),d)else if eL a.alX 7 then some ((ec.mk (Fm.mk 0 (Ty.mk 0 []) [] []) 0),10)else dV (eZ FU a2.al1 b) λr f=>if eL f 0 then some ((ec.mk (Fm.mk 0 (Ty.mk 0 []) [] []) 0),f)else dH (o9 r a.dN) λs=>if s then dH (dX a1.alY 0) λt=>dH (dX a.alY 0) λu=>dV (l8 n a0 t a2 u b) λv h=>if eL h 0 then some ((ec.mk (Fm.mk 0 (Ty.mk 0 []) [] []) 0),h)else dH (pW b) λw=>some ((ec.mk a (Vn .u32 v.jX w)),0)else some ((ec.mk (Fm.mk 0 (Ty.mk 0 []) [] []) 0),7)else dH (jm FU a2.al1 a) λi=>if eL i 0 then some ((ec.mk (Fm.mk 0 (Ty.mk 0 []) [] []) 0),i)else if eL a.alX 5 then some ((ec.mk (Fm.mk 0 (Ty.mk 0 []) [] []) 0),10)else dV (eZ FU a2.al1 b) λx j=>if eL j 0 then some ((ec.mk (Fm.mk 0 (Ty.mk 0 []) [] []) 0),j)else dH (o9 x a.dN) λy=>if y then dH (dX a1.alY 0) λk=>dH (dX a.alY 0) λl=>dV (l8 n a0 k a2 l b) λo c=>if eL c 0 then some ((ec.mk (Fm.mk 0 (Ty.mk 0 []) [] []) 0),c)else dH (A2 b) λq=>some ((ec.mk a (Vn .u32 o.jX q)),0)else some ((ec.mk (Fm.mk 0 (Ty.mk 0 []) [] []) 0),7)
def l8:Nat->(List Fm)->Pf->ew->Fm->Tm->Option (ec×Int)
 |0,_,_,_,_,_=>none|n+1,a0,a1,a2,a3,a4=>dV (ke n a0 a1 a2) λd f=>if eL f 0 then some ((ec.mk (Fm.mk 0 (Ty.mk 0 []) [] []) 0),f)else dV (Di a3 a4) λb a=>if eL a 0 then some ((ec.mk (Fm.mk 0 (Ty.mk 0 []) [] []) 0),a)else dH (ud b d.d_) λc=>some (d,c)
end
def E1:Nat->Tm->Option Tm
 |0,_=>none|n+1,a0=>dH (kF FU a0.dN) λd=>gG (eX a0.alY)<|ej (λ(f:Int) (b:Tm)=>(λ(v72:List Tm)=>dH (E1 n b) λa=>gG (fN v72 [a])<|some (.next (fU v72 [a]))):Int->Tm->(List Tm)->(Option (gq (List Tm) (Tm)))) λc=>dH (fw c a0.alY 0 []) (fO (λ(v72:List Tm)=>some (Tm.mk a0.alX a0.al0 d v72)) (λr=>some r))
def si(a0:Tm)(a1:Int):Option Tm:=dH (E1 FU a0) λa=>some a
def vd(a0:Fm):Option Fm:=dV (gW FU a0 0 (λ(s:Unit) (a:Tm) (b:Int)=>yN (si a b) s) ()) λc d=>some c
def nS(a0:Int):Option (List Int):=ej ((yn λ(v37:Int) (a:List Int)=>if eL v37 0 then dH (mM v37) λb=>gG (fN a [b])<|some (.next ((Cz .u32 v37 (fL .u32 v37 1)),(fU a [b])))else some (.y7 (v37,a))):(Int×(List Int))->(Option (gq (Int×(List Int)) (List Int)))) λc=>dH (j0 c FU (a0,[])) (fO (yn λ(v37:Int) (a:List Int)=>some a) (λr=>some r))
def zP(a0:List Fm)(a1:Sq)(a2:Pf):Option (ta×Int):=dH (wO a0 a1) λi=>if eL i 0 then some ((ta.mk (Fm.mk 0 (Ty.mk 0 []) [] []) []),i)else dH (rJ a2) λa=>if eL a 0 then some ((ta.mk (Fm.mk 0 (Ty.mk 0 []) [] []) []),a)else dH (Ej) λj=>dH (zO a1) λd=>dV (ke FU a0 a2 d) λb c=>if eL c 0 then some ((ta.mk (Fm.mk 0 (Ty.mk 0 []) [] []) []),c)else dH (vd b.d_) λf=>dH (nS b.jX) λh=>some ((ta.mk f h),0)
def uk(a0:Tm)(a1:Pf):Option Int:=dV (zP [] (Sq.mk [] []) a1) λj i=>if eL i 0 then some i else dH (gA) λa=>dH (fj 0) λb=>dH (h7 a0 [b]) λc=>dH (fR c) λd=>dH (pz 4 a d) λf=>dH (ud j.d_ f) λh=>some h
def kz(a0:Int):Option Pf:=some (Pf.mk 1 a0 (Ty.mk 0 []) [] [] [])
def jU(a0:Fm)(a1 a2:Pf):Option Pf:=some (Pf.mk 19 0 (Ty.mk 0 []) [] [a0] [a1,a2])
def y'(a0:Tm)(a1:Pf):Option Pf:=some (Pf.mk 9 0 (Ty.mk 0 []) [a0] [] [a1])
def mH(a0:Int)(a1:List Pf):Option Pf:=some (Pf.mk a0 0 (Ty.mk 0 []) [] [] a1)
def zu(a0:Tm)(a1:Pf)(a2:Tm)(a3:Pf):Option (Fm×Pf×Int):=ej ([a0,a2]:List Tm) λd=>gG (eX d)<|ej (λ(ae:Int) (ad:Tm)=>(λ(_:Unit)=>dH (sA) λf=>dH (iR ad f) λa=>if eL a 0 then eT (iP a) λh i j=>some (.ret (h,i,j))else some (.next ())):Int->Tm->(Unit)->(Option (gq (Unit) (Fm×Pf×Int)))) λk=>dH (fw k d 0 ()) (fO (λ(_:Unit)=>dH (uk a0 a1) λb=>if eL b 0 then eT (iP b) λl n o=>some (l,n,o)else dH (uk a2 a3) λc=>if eL c 0 then eT (iP c) λq s t=>some (q,s,t)else dH (fj 2) λu=>dH (h7 a0 [u]) λv=>dH (h7 a2 [v]) λw=>dH (fR w) λx=>dH (fj 0) λy=>dH (fj 1) λA=>dH (fj 0) λB=>dH (h7 a2 [B]) λC=>dH (mR A C) λD=>dH (kz 1) λF=>dH (kz 0) λG=>dH (jU D F G) λH=>dH (jT x y H) λI=>dH (fj 0) λJ=>dH (y' J a1) λK=>dH (fj 0) λL=>dH (y' L a3) λM=>dH (mH 11 [M,I]) λN=>dH (mH 11 [K,N]) λO=>dH (gA) λP=>dH (fj 0) λQ=>dH (h7 a0 [Q]) λR=>dH (h7 a2 [R]) λS=>dH (fR S) λT=>dH (pz 4 P T) λU=>dH (gA) λV=>dH (p1 V O) λW=>eT (jA U W) λX Y Z=>some (X,Y,Z)) (λr=>some r))
def jf:Nat->Ty->Option Ty
 |0,_=>none|n+1,a0=>gG (eX a0.alY)<|ej (λ(d:Int) (b:Ty)=>(λ(v40:List Ty)=>dH (jf n b) λa=>gG (fN v40 [a])<|some (.next (fU v40 [a]))):Int->Ty->(List Ty)->(Option (gq (List Ty) (Ty)))) λc=>dH (fw c a0.alY 0 []) (fO (λ(v40:List Ty)=>some (Ty.mk a0.alX v40)) (λr=>some r))
def lR:Nat->Tm->Option Tm
 |0,_=>none|n+1,a0=>gG (eX a0.alY)<|ej (λ(f:Int) (b:Tm)=>(λ(v40:List Tm)=>dH (lR n b) λa=>gG (fN v40 [a])<|some (.next (fU v40 [a]))):Int->Tm->(List Tm)->(Option (gq (List Tm) (Tm)))) λc=>dH (fw c a0.alY 0 []) (fO (λ(v40:List Tm)=>dH (jf FU a0.dN) λd=>some (Tm.mk a0.alX a0.al0 d v40)) (λr=>some r))
def fT(a0:Int)(a1:List Tm):Option Tm:=gG (eX a1)<|ej (λ(d:Int) (b:Tm)=>(λ(v40:List Tm)=>dH (lR FU b) λa=>gG (fN v40 [a])<|some (.next (fU v40 [a]))):Int->Tm->(List Tm)->(Option (gq (List Tm) (Tm)))) λc=>dH (fw c a1 0 []) (fO (λ(v40:List Tm)=>some (Tm.mk a0 0 (Ty.mk 0 []) v40)) (λr=>some r))
def ra(a0:Int):Option Tm:=dH (fT 4 []) λf=>ej ((un6 λ(a:Int) (v30:Int) (v31:Int) (b:Int) (c:List Ty) (d:List Tm)=>if pj a 0 then some (.next ((fL .i64 a 1),5,0,0,[],[(Tm.mk v30 v31 (Ty.mk b c) d)]))else some (.y7 (a,v30,v31,b,c,d))):(Int×Int×Int×Int×(List Ty)×(List Tm))->(Option (gq (Int×Int×Int×Int×(List Ty)×(List Tm)) (Tm)))) λh=>dH (j0 h FU (a0,f.alX,f.al0,f.dN.alX,f.dN.alY,f.alY)) (fO (un6 λ(a:Int) (v30:Int) (v31:Int) (b:Int) (c:List Ty) (d:List Tm)=>some (Tm.mk v30 v31 (Ty.mk b c) d)) (λr=>some r))
def vQ(a0:Int):Option (Tm×Int):=if pg a0 0 then some ((Tm.mk 0 0 (Ty.mk 0 []) []),1)else if qa a0 4096 then some ((Tm.mk 0 0 (Ty.mk 0 []) []),4)else dH (ra a0) λa=>some (a,0)
def rD(a0:Int):Option Tm:=dV (vQ a0) λa b=>some a
def mE(a0 a b:Tm):Option Tm:=dH (gA) λc=>some (Tm.mk 6 0 c [a,b,a0])
def mq(a0:Int)(a1:Fm)(a2:Tm)(a3 a4:Pf):Option Pf:=some (Pf.mk a0 0 (Ty.mk 0 []) [a2] [a1] [a3,a4])
def qj(a0 a1:Tm):Option (Fm×Pf×Int):=dH (gA) λae=>dH (iR a0 ae) λc=>if eL c 0 then eT (iP c) λaf ah ai=>some (af,ah,ai)else dH (gA) λd=>dH (gA) λf=>dH (gA) λh=>dH (rH d [f,h]) λi=>dH (iR a1 i) λb=>if eL b 0 then eT (iP b) λj k l=>some (j,k,l)else dH (fj 1) λn=>dH (fj 0) λo=>dH (h7 a1 [n,o]) λa=>dH (fj 1) λq=>dH (lk 5 [q]) λr=>dH (mE r a0 a1) λs=>dH (fR s) λt=>dH (lJ FU a 0 1) λu=>dH (fj 2) λv=>dH (fj 0) λw=>dH (h7 a1 [v,w]) λx=>dH (mR u x) λy=>dH (kz 0) λA=>dH (kS a) λB=>dH (jU y A B) λC=>dH (jT t a C) λD=>dH (lk 4 []) λF=>dH (mE F a0 a1) λG=>dH (fR G) λH=>dH (kS a0) λI=>dH (jT H a0 I) λJ=>dH (fj 0) λK=>dH (mE K a0 a1) λL=>dH (fR L) λM=>dH (fj 0) λN=>dH (kz 0) λO=>dH (mH 11 [O,D]) λP=>dH (mq 16 M N J P) λQ=>dH (gA) λR=>dH (fj 0) λS=>dH (mE S a0 a1) λT=>dH (fR T) λU=>dH (pz 4 R U) λV=>dH (gA) λW=>dH (p1 W Q) λX=>eT (jA V X) λY Z ad=>some (Y,Z,ad)
def wH:Option Ty:=some (Ty.mk 2 [])
def k9(a0 a b:Tm):Option Tm:=dH (gA) λc=>some (Tm.mk 9 0 c [a,b,a0])
def tX(a0 a1:Tm):Option (Fm×Pf×Int):=dH (gA) λak=>dH (iR a0 ak) λc=>if eL c 0 then eT (iP c) λan ao aq=>some (an,ao,aq)else dH (gA) λd=>dH (gA) λf=>dH (wH) λh=>dH (gA) λi=>dH (rH d [f,h,i]) λj=>dH (iR a1 j) λb=>if eL b 0 then eT (iP b) λk l n=>some (k,l,n)else dH (fj 2) λo=>dH (fj 1) λq=>dH (fj 0) λr=>dH (h7 a1 [o,q,r]) λa=>dH (fj 2) λs=>dH (fj 1) λt=>dH (lk 8 [s,t]) λu=>dH (k9 u a0 a1) λv=>dH (fR v) λw=>dH (lJ FU a 0 1) λx=>dH (fj 3) λy=>dH (fj 2) λA=>dH (fj 0) λB=>dH (h7 a1 [y,A,B]) λC=>dH (mR x C) λD=>dH (kz 0) λF=>dH (kS a) λG=>dH (jU D F G) λH=>dH (jT w a H) λI=>dH (lk 7 []) λJ=>dH (k9 J a0 a1) λK=>dH (fR K) λL=>dH (kS a0) λM=>dH (jT L a0 M) λN=>dH (fj 0) λO=>dH (k9 O a0 a1) λP=>dH (fR P) λQ=>dH (fj 0) λR=>dH (kz 0) λS=>dH (mH 11 [S,I]) λT=>dH (mq 17 Q R N T) λU=>dH (wH) λV=>dH (fj 0) λW=>dH (k9 W a0 a1) λX=>dH (fR X) λY=>dH (pz 4 V Y) λZ=>dH (wH) λad=>dH (p1 ad U) λae=>eT (jA Z ae) λaf ah ai=>some (af,ah,ai)
def gD(a0:Int):Option Tm:=some (Tm.mk 1 a0 (Ty.mk 0 []) [])
def jD:Option Ty:=some (Ty.mk 1 [])
def lG(a0:Int)(a1:Ty)(a2:List Tm):Option Tm:=dH (fT a0 a2) λa=>dH (jf FU a1) λb=>some (Tm.mk a.alX a.al0 b a.alY)
def j3(a0:Tm):Option Tm:=dH (jD) λa=>dH (lG 2 a [a0]) λb=>some b
def tP(a0 a1 a2:Tm):Option Tm:=dH (jD) λa=>dH (lG 6 a [a0,a1,a2]) λb=>some b
def pQ:Option Tm:=dH (gD 1) λa=>dH (gD 0) λb=>dH (fT 5 [b]) λc=>dH (j3 c) λd=>dH (j3 d) λf=>dH (gD 0) λh=>dH (tP a f h) λi=>dH (j3 i) λj=>dH (j3 j) λk=>some k
def rj(a0:Ty)(a1:Tm):Option Tm:=some (Tm.mk 2 0 a0 [a1])
def jS(a0:Tm)(a:Ty)(b c d:Tm):Option Tm:=dH (lk 10 [b,c]) λf=>dH (gA) λh=>dH (rj a d) λi=>dH (rj h i) λj=>some (Tm.mk 6 0 a [f,j,a0])
def iB(a0:Tm):Option Tm:=dH (lk 11 [a0]) λa=>some a
def iA(a0:Tm):Option Tm:=dH (lk 12 [a0]) λa=>some a
def jh(a0:Tm)(a:Ty):Option Fm:=dH (lJ FU a0 0 1) λn=>dH (fj 0) λb=>dH (iB b) λc=>dH (iB n) λd=>dH (mR c d) λf=>dH (fj 0) λh=>dH (iA h) λi=>dH (iA n) λj=>dH (mR i j) λk=>dH (pz 5 a (Fm.mk 2 (Ty.mk 0 []) [] [f,k])) λl=>some l
def oV(a0 a1 a2:Tm):Option (Fm×Pf×Int):=ej ([a0,a1]:List Tm) λi=>gG (eX i)<|ej (λ(bs:Int) (br:Tm)=>(λ(_:Unit)=>dH (gA) λj=>dH (iR br j) λd=>if eL d 0 then eT (iP d) λk l n=>some (.ret (k,l,n))else some (.next ())):Int->Tm->(Unit)->(Option (gq (Unit) (Fm×Pf×Int)))) λo=>dH (fw o i 0 ()) (fO (λ(_:Unit)=>dH (gA) λq=>dH (gA) λs=>dH (gA) λt=>dH (rH q [s,t]) λu=>dH (iR a2 u) λf=>if eL f 0 then eT (iP f) λv w x=>some (v,w,x)else dH (gA) λa=>dH (gA) λb=>dH (fj 0) λy=>dH (iA y) λA=>dH (fj 0) λB=>dH (iB B) λC=>dH (fj 0) λD=>dH (iA D) λF=>dH (h7 a2 [C,F]) λG=>dH (lk 10 [A,G]) λc=>dH (lk 4 []) λH=>dH (jS H (Ty.mk 3 [a,b]) a0 a1 c) λI=>dH (jh I (Ty.mk 3 [a,b])) λJ=>dH (lk 10 [a0,a1]) λK=>dH (kS a0) λL=>dH (kS a1) λM=>dH (mH 3 [L,M]) λN=>dH (jT J K N) λO=>dH (fj 1) λP=>dH (iA P) λQ=>dH (fj 0) λR=>dH (mR Q R) λS=>dH (kz 0) λT=>dH (mH 5 [T]) λU=>dH (fj 0) λV=>dH (iA V) λW=>dH (kS W) λX=>dH (jU S U X) λY=>dH (fj 1) λZ=>dH (iB Z) λad=>dH (fj 1) λae=>dH (iA ae) λaf=>dH (h7 a2 [ad,af]) λh=>dH (fj 0) λah=>dH (fj 1) λai=>dH (iA ai) λak=>dH (h7 a2 [ah,ak]) λan=>dH (mR h an) λao=>dH (kz 0) λaq=>dH (mH 4 [aq]) λar=>dH (fj 0) λaw=>dH (iB aw) λax=>dH (fj 0) λay=>dH (iA ay) λaz=>dH (h7 a2 [ax,az]) λaA=>dH (kS aA) λaB=>dH (jU ao ar aB) λaC=>dH (fj 2) λaD=>dH (jS aD (Ty.mk 3 [a,b]) a0 a1 c) λaE=>dH (iB aE) λaF=>dH (fj 0) λaG=>dH (h7 a2 [aF,aG]) λaH=>dH (mR h aH) λaI=>dH (kz 0) λaJ=>dH (mH 5 [aJ]) λaK=>dH (jU aI aK aC) λaL=>dH (kz 0) λaM=>dH (fj 1) λaN=>dH (lk 5 [aN]) λaO=>dH (jS aO (Ty.mk 3 [a,b]) a0 a1 c) λaP=>dH (jh aP (Ty.mk 3 [a,b])) λaQ=>dH (mH 3 [Y,aL]) λaR=>dH (jT aQ c aR) λaS=>dH (mH 11 [aM,aS]) λaT=>dH (fj 1) λaU=>dH (jS aU (Ty.mk 3 [a,b]) a0 a1 c) λaV=>dH (iB aV) λaW=>dH (fR aW) λaX=>dH (fj 0) λaY=>dH (iB aY) λaZ=>dH (kz 0) λa6=>dH (mH 4 [a6]) λa7=>dH (jT aX aZ a7) λa8=>dH (gA) λa_=>dH (fj 0) λa'=>dH (jS a' (Ty.mk 3 [a,b]) a0 a1 c) λba=>dH (jh ba (Ty.mk 3 [a,b])) λbb=>dH (fj 0) λbc=>dH (mq 16 bb bc O aT) λbd=>dH (mH 11 [bd,a8]) λbf=>dH (p1 a_ bf) λbg=>dH (gA) λbh=>dH (fj 0) λbj=>dH (jS bj (Ty.mk 3 [a,b]) a0 a1 c) λbk=>dH (iB bk) λbl=>dH (fR bl) λbm=>dH (pz 4 bh bm) λbn=>eT (jA bn bg) λbo bp bq=>some (bo,bp,bq)) (λr=>some r))
def pF:Nat->Ty->Option Bool
 |0,_=>none|n+1,a0=>ej (λ(v10:Int)=>if eL (eA a0.alY) v10 then some false else gG (eX a0.alY)<|ej (λ(f:Int) (b:Ty)=>(λ(_:Unit)=>dH (pF n b) λc=>if c then some (.next ())else some (.ret false)):Int->Ty->(Unit)->(Option (gq (Unit) (Bool)))) λd=>dH (fw d a0.alY 0 ()) (fO (λ(_:Unit)=>some true) (λr=>some r))) λa=>if fp (eo a0.alX 1) true (fp (eo a0.alX 2) true (eo a0.alX 5))then a 0 else if fp (eo a0.alX 3) true (eo a0.alX 4)then a 2 else some false
def p2:Nat->Ty->Option Int
 |0,_=>none|n+1,a0=>gG (eX a0.alY)<|ej (λ(f:Int) (b:Ty)=>(λ(a:Int)=>dH (p2 n b) λc=>some (.next (eW .i64 a c))):Int->Ty->(Int)->(Option (gq (Int) (Int)))) λd=>dH (fw d a0.alY 0 1) (fO (λ(a:Int)=>some a) (λr=>some r))
def iq(a0:Ty):Option Int:=dH (pF FU a0) λb=>if b then dH (p2 FU a0) λa=>if pj a 64 then some 4 else some 0 else some 2
def mh(a0:List Ty):Option Int:=if pj (eA a0) 16 then some 3 else gG (eX a0)<|ej (λ(d:Int) (b:Ty)=>(λ(_:Unit)=>dH (iq b) λa=>if eL a 0 then some (.ret a)else some (.next ())):Int->Ty->(Unit)->(Option (gq (Unit) (Int)))) λc=>dH (fw c a0 0 ()) (fO (λ(_:Unit)=>some 0) (λr=>some r))
def pI(a0:Ty):Option Bool:=some (fp (eo a0.alX 0) (eo (eA a0.alY) 0) false)
def wY(a0:Int):Option Int:=if fp (eo a0 1) true (fp (eo a0 4) true (fp (eo a0 7) true (eo a0 13)))then some 0 else if fp (eo a0 2) true (fp (eo a0 5) true (fp (eo a0 11) true (eo a0 12)))then some 1 else if fp (eo a0 3) true (fp (eo a0 8) true (eo a0 10))then some 2 else if fp (eo a0 6) true (eo a0 9)then some 3 else some (-1)
def kO:Nat->Tm->Option Bool
 |0,_=>none|n+1,a0=>ej (λ(v21:Bool)=>if v21 then some false else ej (gG (eX a0.alY)<|ej (λ(k:Int) (c:Tm)=>(λ(_:Unit)=>dH (kO n c) λd=>if d then some (.next ())else some (.ret false)):Int->Tm->(Unit)->(Option (gq (Unit) (Bool)))) λf=>dH (fw f a0.alY 0 ()) (fO (λ(_:Unit)=>some true) (λr=>some r))) λb=>if fp (eo a0.alX 2) true (fp (eo a0.alX 6) true (eo a0.alX 9))then dH (iq a0.dN) λh=>if eL h 0 then some false else b else dH (pI a0.dN) λi=>if i then b else some false) λa=>dH (wY a0.alX) λj=>if eL (eA a0.alY) j then a true else if pg a0.al0 0 then a true else if eL a0.alX 1 then a (eL a0.al0 0)else a false
def k8(a0:Int):Option Bool:=some (fp (eo a0 4) true (fp (eo a0 5) true (fp (eo a0 6) true (eo a0 7))))
def mm:Nat->Fm->Option Bool
 |0,_=>none|n+1,a0=>if eo a0.alX 1 then ej (λ(s:Bool)=>some s) λc=>if eo (eA a0.alY) 0 then dH (pI a0.dN) λt=>if t then if eo (eA a0.ei) 2 then dH (dX a0.ei 0) λu=>dH (kO FU u) λv=>if v then dH (dX a0.ei 1) λw=>dH (kO FU w) λx=>c x else c false else c false else c false else c false else if fp (eo a0.alX 2) true (eo a0.alX 3)then ej (λ(d:Bool)=>some d) λa=>if eo (eA a0.ei) 0 then dH (pI a0.dN) λf=>if f then if eo (eA a0.alY) 2 then dH (dX a0.alY 0) λh=>dH (mm n h) λi=>if i then dH (dX a0.alY 1) λj=>dH (mm n j) λk=>a k else a false else a false else a false else a false else dH (k8 a0.alX) λl=>if l then ej (λ(v141:Bool)=>some v141) λb=>if eo (eA a0.ei) 0 then dH (iq a0.dN) λo=>if eo o 0 then if eo (eA a0.alY) 1 then dH (dX a0.alY 0) λq=>dH (mm n q) λr=>b r else b false else b false else b false else some false
def fV:Nat->Tm->Option Int
 |0,_=>none|n+1,a0=>gG (eX a0.alY)<|ej (λ(f:Int) (b:Tm)=>(λ(a:Int)=>dH (fV n b) λc=>some (.next (eW .i64 a c))):Int->Tm->(Int)->(Option (gq (Int) (Int)))) λd=>dH (fw d a0.alY 0 1) (fO (λ(a:Int)=>some a) (λr=>some r))
def me:Nat->Fm->Option Int
 |0,_=>none|n+1,a0=>gG (eX a0.ei)<|ej (λ(j:Int) (b:Tm)=>(λ(a:Int)=>dH (fV FU b) λc=>some (.next (eW .i64 a c))):Int->Tm->(Int)->(Option (gq (Int) (Int)))) λd=>dH (fw d a0.ei 0 1) (fO (λ(a:Int)=>gG (eX a0.alY)<|ej (λ(k:Int) (f:Fm)=>(λ(v75:Int)=>dH (me n f) λh=>some (.next (eW .i64 v75 h))):Int->Fm->(Int)->(Option (gq (Int) (Int)))) λi=>dH (fw i a0.alY 0 a) (fO (λ(v75:Int)=>some v75) (λr=>some r))) (λr=>some r))
def j8(a0:Fm):Option Int:=dH (mm FU a0) λb=>if b then dH (me FU a0) λa=>if pj a 4096 then some 4 else some 0 else some 2
def mi(a0:Tm):Option Int:=dH (kO FU a0) λb=>if b then dH (fV FU a0) λa=>if pj a 4096 then some 4 else some 0 else some 2
def k6(a0 a1:Ty):Option Ty:=dH (jf FU a0) λa=>dH (jf FU a1) λb=>some (Ty.mk 4 [a,b])
def uP(a0:Ty):Option (Ty×Int):=dH (iq a0) λa=>if eL a 0 then some ((Ty.mk 0 []),4)else some (a0,0)
def my:Option Ty:=some (Ty.mk 2 [])
def fv:Nat->Ty->Ty->Option Bool
 |0,_,_=>none|n+1,a0,a1=>if fp (eL a0.alX a1.alX) true (eL (eA a0.alY) (eA a1.alY))then some false else gG (eX a0.alY)<|ej (λ(c:Int) (d:Ty)=>(λ(_:Unit)=>dH (dX a1.alY c) λa=>dH (fv n d a) λb=>if b then some (.next ())else some (.ret false)):Int->Ty->(Unit)->(Option (gq (Unit) (Bool)))) λf=>dH (fw f a0.alY 0 ()) (fO (λ(_:Unit)=>some true) (λr=>some r))
def tp(a0 a1:Ty):Option Ty:=dH (jf FU a0) λa=>dH (jf FU a1) λb=>some (Ty.mk 3 [a,b])
def tC:Option Ty:=some (Ty.mk 5 [])
def fJ:Nat->(List Ty)->Tm->Option (Ty×Int)
 |0,_,_=>none|n+1,a0,a1=>if eo a1.alX 1 then if qa a1.al0 (eA a0)then some ((Ty.mk 0 []),6)else dH (dX a0 (fL .i64 (fL .i64 (eA a0) 1) a1.al0)) λay=>dH (jf FU ay) λaz=>some (az,0)else if eo a1.alX 2 then gG (fN a0 [a1.dN])<|dH (dX a1.alY 0) λaA=>dV (fJ n (fU a0 [a1.dN]) aA) λaB R=>if eL R 0 then some ((Ty.mk 0 []),R)else dH (k6 a1.dN aB) λaC=>dV (uP aC) λaD aE=>some (aD,aE)else gG (eX a1.alY)<|ej (λ(aF:Int) (S:Tm)=>(λ(a:List Ty)=>dV (fJ n a0 S) λj k=>if eL k 0 then some (.ret ((Ty.mk 0 []),k))else gG (fN a [j])<|some (.next (fU a [j]))):Int->Tm->(List Ty)->(Option (gq (List Ty) (Ty×Int)))) λT=>dH (fw T a1.alY 0 []) (fO (λ(a:List Ty)=>dH (jD) λb=>dH (my) λc=>if eo a1.alX 3 then ej (λ(U:Bool)=>if U then some ((Ty.mk 0 []),7)else dH (dX a 0) λV=>dH (dX V.alY 1) λW=>some (W,0)) λl=>dH (dX a 0) λo=>if eL o.alX 4 then l true else dH (dX o.alY 0) λX=>dH (dX a 1) λY=>dH (fv FU X Y) λZ=>l (lV Z)else if eo a1.alX 4 then some (b,0)else if eo a1.alX 5 then dH (dX a 0) λad=>dH (fv FU ad b) λae=>if ae then some (b,0)else some ((Ty.mk 0 []),7)else if eo a1.alX 6 then ej (λ(af:Bool)=>if af then some ((Ty.mk 0 []),7)else dH (jf FU a1.dN) λah=>some (ah,0)) λh=>dH (dX a 0) λai=>dH (fv FU ai a1.dN) λak=>if ak then dH (dX a 1) λan=>dH (k6 a1.dN a1.dN) λao=>dH (k6 b ao) λaq=>dH (fv FU an aq) λar=>if ar then dH (dX a 2) λaw=>dH (fv FU aw b) λax=>h (lV ax)else h true else h true else if eo a1.alX 7 then some (c,0)else if eo a1.alX 8 then ej (λ(q:Bool)=>if q then some ((Ty.mk 0 []),7)else some (c,0)) λi=>dH (dX a 0) λs=>dH (fv FU s b) λt=>if t then dH (dX a 1) λu=>dH (fv FU u c) λv=>i (lV v)else i true else if eo a1.alX 9 then ej (λ(w:Bool)=>if w then some ((Ty.mk 0 []),7)else dH (jf FU a1.dN) λx=>some (x,0)) λd=>dH (dX a 0) λy=>dH (fv FU y a1.dN) λA=>if A then dH (dX a 1) λB=>dH (k6 a1.dN a1.dN) λC=>dH (k6 c C) λD=>dH (k6 b D) λF=>dH (fv FU B F) λG=>if G then dH (dX a 2) λH=>dH (fv FU H c) λI=>d (lV I)else d true else d true else if eo a1.alX 10 then dH (dX a 0) λJ=>dH (dX a 1) λK=>dH (tp J K) λL=>dV (uP L) λM N=>some (M,N)else if fp (eo a1.alX 11) true (eo a1.alX 12)then dH (dX a 0) λf=>if eL f.alX 3 then some ((Ty.mk 0 []),7)else if eo a1.alX 11 then dH (dX f.alY 0) λO=>some (O,0)else dH (dX f.alY 1) λP=>some (P,0)else dH (tC) λQ=>some (Q,0)) (λr=>some r))
def pY(a0:List Ty)(a1:Tm):Option (Ty×Int):=dH (mi a1) λc=>if eL c 0 then some ((Ty.mk 0 []),c)else dV (fJ FU a0 a1) λa b=>some (a,b)
def nb:Nat->(List Ty)->Fm->Option Int
 |0,_,_=>none|n+1,a0,a1=>gG (eX a1.ei)<|ej (λ(l:Int) (c:Tm)=>(λ(_:Unit)=>dV (pY a0 c) λd b=>if eL b 0 then some (.ret b)else if eL d.alX 1 then some (.ret 7)else some (.next ())):Int->Tm->(Unit)->(Option (gq (Unit) (Int)))) λf=>dH (fw f a1.ei 0 ()) (fO (λ(_:Unit)=>ej (λ(h:List Ty)=>gG (eX a1.alY)<|ej (λ(o:Int) (i:Fm)=>(λ(_:Unit)=>dH (nb n h i) λa=>if eL a 0 then some (.ret a)else some (.next ())):Int->Fm->(Unit)->(Option (gq (Unit) (Int)))) λj=>dH (fw j a1.alY 0 ()) (fO (λ(_:Unit)=>some 0) (λr=>some r))) λj64=>dH (k8 a1.alX) λk=>if k then gG (fN a0 [a1.dN])<|j64 (fU a0 [a1.dN])else j64 a0) (λr=>some r))
def kP(a0:List Ty)(a1:Fm):Option Int:=dH (j8 a1) λb=>if eL b 0 then some b else dH (nb FU a0 a1) λa=>some a
def ka(a0:List Ty)(a1:Fm):Option Int:=dH (mh a0) λb=>if eL b 0 then some b else dH (kP a0 a1) λa=>some a
def uC(a0:List Fm)(a1:Sq):Option Int:=if pj (eA a0) 32 then some 3 else gG (eX a0)<|ej (λ(j:Int) (d:Fm)=>(λ(_:Unit)=>dH (ka [] d) λa=>if eL a 0 then some (.ret a)else some (.next ())):Int->Fm->(Unit)->(Option (gq (Unit) (Int)))) λf=>dH (fw f a0 0 ()) (fO (λ(_:Unit)=>dH (mh a1.al1) λb=>if eL b 0 then some b else if pj (eA a1.al4) 16 then some 3 else gG (eX a1.al4)<|ej (λ(k:Int) (h:Fm)=>(λ(_:Unit)=>dH (ka a1.al1 h) λc=>if eL c 0 then some (.ret c)else some (.next ())):Int->Fm->(Unit)->(Option (gq (Unit) (Int)))) λi=>dH (fw i a1.al4 0 ()) (fO (λ(_:Unit)=>some 0) (λr=>some r))) (λr=>some r))
def pT(a0:Int):Option (fa×Bool):=if fp (eo a0 1) true (eo a0 2)then some ((fa.mk 0 0 0 true false),true)else if fp (eo a0 3) true (eo a0 7)then some ((fa.mk 0 0 2 false false),true)else if fp (eo a0 4) true (fp (eo a0 5) true (eo a0 20))then some ((fa.mk 0 0 1 false false),true)else if eo a0 6 then some ((fa.mk 0 1 1 false false),true)else if fp (eo a0 8) true (eo a0 12)then some ((fa.mk 0 0 1 false true),true)else if fp (eo a0 9) true (eo a0 13)then some ((fa.mk 1 0 1 false false),true)else if fp (eo a0 10) true (eo a0 14)then some ((fa.mk 1 1 1 false false),true)else if fp (eo a0 11) true (eo a0 15)then some ((fa.mk 0 0 2 false false),true)else if fp (eo a0 16) true (eo a0 17)then some ((fa.mk 1 1 2 false false),true)else if eo a0 18 then some ((fa.mk 1 0 0 false false),true)else if eo a0 19 then some ((fa.mk 0 1 2 false false),true)else some ((fa.mk 0 0 0 false false),false)
def oh:Nat->Pf->Option Bool
 |0,_=>none|n+1,a0=>dV (pT a0.alX) λb v=>if fp v (fp (eL (eA a0.ei) b.ei) true (fp (eL (eA a0.fZ) b.fZ) true (fp (eL (eA a0.alY) b.alY) true (fp (pg a0.al0 0) true (fp b.al0 false (eL a0.al0 0)))))) true then some false else ej (λ(j:Bool)=>if j then some false else gG (eX a0.ei)<|ej (λ(w:Int) (k:Tm)=>(λ(_:Unit)=>dH (kO FU k) λl=>if l then some (.next ())else some (.ret false)):Int->Tm->(Unit)->(Option (gq (Unit) (Bool)))) λo=>dH (fw o a0.ei 0 ()) (fO (λ(_:Unit)=>gG (eX a0.fZ)<|ej (λ(x:Int) (q:Fm)=>(λ(_:Unit)=>dH (mm FU q) λc=>if c then some (.next ())else some (.ret false)):Int->Fm->(Unit)->(Option (gq (Unit) (Bool)))) λd=>dH (fw d a0.fZ 0 ()) (fO (λ(_:Unit)=>gG (eX a0.alY)<|ej (λ(u:Int) (f:Pf)=>(λ(_:Unit)=>dH (oh n f) λh=>if h then some (.next ())else some (.ret false)):Int->Pf->(Unit)->(Option (gq (Unit) (Bool)))) λi=>dH (fw i a0.alY 0 ()) (fO (λ(_:Unit)=>some true) (λr=>some r))) (λr=>some r))) (λr=>some r))) λa=>if b.NQ then dH (iq a0.dN) λs=>if eL s 0 then a true else a false else dH (pI a0.dN) λt=>a (lV t)
def sa:Nat->Pf->Option Bool
 |0,_=>none|n+1,a0=>gG (eX a0.ei)<|ej (λ(l:Int) (c:Tm)=>(λ(_:Unit)=>dH (fV FU c) λd=>if pj d 4096 then some (.ret false)else some (.next ())):Int->Tm->(Unit)->(Option (gq (Unit) (Bool)))) λf=>dH (fw f a0.ei 0 ()) (fO (λ(_:Unit)=>gG (eX a0.fZ)<|ej (λ(o:Int) (h:Fm)=>(λ(_:Unit)=>dH (me FU h) λi=>if pj i 4096 then some (.ret false)else some (.next ())):Int->Fm->(Unit)->(Option (gq (Unit) (Bool)))) λj=>dH (fw j a0.fZ 0 ()) (fO (λ(_:Unit)=>gG (eX a0.alY)<|ej (λ(q:Int) (k:Pf)=>(λ(_:Unit)=>dH (sa n k) λa=>if a then some (.next ())else some (.ret false)):Int->Pf->(Unit)->(Option (gq (Unit) (Bool)))) λb=>dH (fw b a0.alY 0 ()) (fO (λ(_:Unit)=>some true) (λr=>some r))) (λr=>some r))) (λr=>some r))
def rN:Nat->Pf->Option Int
 |0,_=>none|n+1,a0=>gG (eX a0.ei)<|ej (λ(s:Int) (h:Tm)=>(λ(b:Int)=>dH (fV FU h) λi=>some (.next (eW .i64 b i))):Int->Tm->(Int)->(Option (gq (Int) (Int)))) λj=>dH (fw j a0.ei 0 1) (fO (λ(b:Int)=>gG (eX a0.fZ)<|ej (λ(t:Int) (k:Fm)=>(λ(v75:Int)=>dH (me FU k) λl=>some (.next (eW .i64 v75 l))):Int->Fm->(Int)->(Option (gq (Int) (Int)))) λo=>dH (fw o a0.fZ 0 b) (fO (λ(v75:Int)=>gG (eX a0.alY)<|ej (λ(q:Int) (c:Pf)=>(λ(a:Int)=>dH (rN n c) λd=>some (.next (eW .i64 a d))):Int->Pf->(Int)->(Option (gq (Int) (Int)))) λf=>dH (fw f a0.alY 0 v75) (fO (λ(a:Int)=>some a) (λr=>some r))) (λr=>some r))) (λr=>some r))
def z7(a0:Pf):Option Bool:=ej (λ(d:Bool)=>some d) λc=>dH (sa FU a0) λa=>if a then dH (rN FU a0) λb=>c (Zv b 16384)else c false
def uI(a0:Pf):Option Int:=dH (oh FU a0) λb=>if b then dH (z7 a0) λa=>if a then some 0 else some 4 else some 2
def lQ:Nat->Fm->Option Fm
 |0,_=>none|n+1,a0=>dH (jf FU a0.dN) λk=>gG (eX a0.ei)<|ej (λ(l:Int) (h:Tm)=>(λ(v72:List Tm)=>dH (lR FU h) λc=>gG (fN v72 [c])<|some (.next (fU v72 [c]))):Int->Tm->(List Tm)->(Option (gq (List Tm) (Fm)))) λi=>dH (fw i a0.ei 0 []) (fO (λ(v72:List Tm)=>gG (eX a0.alY)<|ej (λ(j:Int) (d:Fm)=>(λ(a:List Fm)=>dH (lQ n d) λb=>gG (fN a [b])<|some (.next (fU a [b]))):Int->Fm->(List Fm)->(Option (gq (List Fm) (Fm)))) λf=>dH (fw f a0.alY 0 []) (fO (λ(a:List Fm)=>some (Fm.mk a0.alX k v72 a)) (λr=>some r))) (λr=>some r))
def rV(a0:Int)(a1 a2:Fm):Option Fm:=dH (lQ FU a1) λa=>dH (lQ FU a2) λb=>some (Fm.mk a0 (Ty.mk 0 []) [] [a,b])
def qm(a0:List (Int×Bool)):Option (List Int×List (Int×Bool)):=gG (eX a0)<|gG (yM (a0.map (·.1)))<|some (Ah [] (a0.map (·.1)),a0)
def gu(a0 a1:List Int):Option (List Int):=gG (eX a0)<|ej (λ(k:Int) (c:Int)=>(λ(a:(List (Int×Bool)))=>some (.next (wJ a c true))):Int->Int->((List (Int×Bool)))->(Option (gq ((List (Int×Bool))) (List Int)))) λd=>dH (fw d a0 0 []) (fO (λ(a:(List (Int×Bool)))=>gG (eX a1)<|ej (λ(j:Int) (f:Int)=>(λ(b:(List (Int×Bool)))=>some (.next (wJ b f true))):Int->Int->((List (Int×Bool)))->(Option (gq ((List (Int×Bool))) (List Int)))) λh=>dH (fw h a1 0 a) (fO (λ(b:(List (Int×Bool)))=>dV (qm b) λi d51=>some i) (λr=>some r))) (λr=>some r))
def eD(a0:dS)(a1 a2:Int):Option Int:=if fp (pj (eW .i64 (eA a0.al1) a1) 16) true (pj (eW .i64 (eA a0.al4) a2) 16)then some 3 else some 0
def gn(a0:dS)(a1:Fm):Option dS:=gG (fN a0.al4 [a1])<|some (dS.mk a0.lemmas a0.al1 (fU a0.al4 [a1]))
def lN:Nat->Tm->Tm->Option Bool
 |0,_,_=>none|n+1,a0,a1=>ej (λ(d:Bool)=>if d then some false else gG (eX a0.alY)<|ej (λ(f:Int) (h:Tm)=>(λ(_:Unit)=>dH (dX a1.alY f) λb=>dH (lN n h b) λc=>if c then some (.next ())else some (.ret false)):Int->Tm->(Unit)->(Option (gq (Unit) (Bool)))) λi=>dH (fw i a0.alY 0 ()) (fO (λ(_:Unit)=>some true) (λr=>some r))) λa=>if eL a0.alX a1.alX then a true else if eL a0.al0 a1.al0 then a true else dH (fv FU a0.dN a1.dN) λj=>if j then a (eL (eA a0.alY) (eA a1.alY))else a true
def lz:Nat->Tm->Int->Option Bool
 |0,_,_=>none|n+1,a0,a1=>if pj a0.al0 a1 then some false else gG (eX a0.alY)<|ej (λ(d:Int) (a:Tm)=>(λ(_:Unit)=>dH (lz n a a1) λb=>if b then some (.next ())else some (.ret false)):Int->Tm->(Unit)->(Option (gq (Unit) (Bool)))) λc=>dH (fw c a0.alY 0 ()) (fO (λ(_:Unit)=>some true) (λr=>some r))
def wv(a0:Tm):Option Bool:=if eo a0.alX 3 then dH (dX a0.alY 0) λf=>some (eo f.alX 2)else if eo a0.alX 6 then ej (λ(h:Bool)=>some h) λa=>dH (dX a0.alY 2) λb=>if eo b.alX 4 then a true else a (eo b.alX 5)else if eo a0.alX 9 then ej (λ(i:Bool)=>some i) λc=>dH (dX a0.alY 2) λd=>if eo d.alX 7 then c true else c (eo d.alX 8)else if fp (eo a0.alX 11) true (eo a0.alX 12)then dH (dX a0.alY 0) λj=>some (eo j.alX 10)else some false
def lv(a0:Tm):Option Int:=if eo a0.alX 2 then some 1 else some 0
def ng:Nat->Tm->Int->Option Int
 |0,_,_=>none|n+1,a0,a1=>gG (eX a0.alY)<|ej (λ(h:Int) (d:Tm)=>(λ(a:Int)=>dH (lv a0) λb=>dH (ng n d (eW .i64 a1 b)) λc=>some (.next (eW .i64 a c))):Int->Tm->(Int)->(Option (gq (Int) (Int)))) λf=>dH (fw f a0.alY 0 (fp (fp (eo a0.alX 1) (eo a0.al0 a1) false) (eW .i64 0 1) 0)) (fO (λ(a:Int)=>some a) (λr=>some r))
def sD(a0:Tm):Option Int:=dH (fV FU a0) λb=>if eo a0.alX 3 then dH (dX a0.alY 0) λh=>dH (dX h.alY 0) λc=>dH (dX a0.alY 1) λi=>dH (fV FU c) λj=>dH (ng FU c 0) λk=>dH (fV FU i) λl=>some (fL .i64 (eW .i64 j (Vf .i64 k (fL .i64 l 1))) b)else if eo a0.alX 6 then dH (dX a0.alY 2) λd=>if eo d.alX 4 then dH (dX a0.alY 0) λn=>dH (fV FU n) λo=>some (fL .i64 o b)else dH (dX a0.alY 1) λq=>dH (fV FU q) λr=>dH (dX d.alY 0) λs=>dH (fV FU s) λt=>some (fL .i64 (fL .i64 (eW .i64 (eW .i64 (eW .i64 2 r) t) b) 1) b)else if eo a0.alX 9 then dH (dX a0.alY 2) λa=>if eo a.alX 7 then dH (dX a0.alY 0) λu=>dH (fV FU u) λv=>some (fL .i64 v b)else dH (dX a.alY 0) λf=>dH (dX a.alY 1) λw=>dH (dX a0.alY 1) λx=>dH (fV FU x) λy=>dH (fV FU f) λA=>dH (fV FU w) λB=>dH (fV FU f) λC=>some (fL .i64 (fL .i64 (fL .i64 (eW .i64 (eW .i64 (eW .i64 (eW .i64 3 y) A) B) b) 1) C) b)else if eo a0.alX 11 then dH (dX a0.alY 0) λD=>dH (dX D.alY 0) λF=>dH (fV FU F) λG=>some (fL .i64 G b)else dH (dX a0.alY 0) λH=>dH (dX H.alY 1) λI=>dH (fV FU I) λJ=>some (fL .i64 J b)
def sq:Nat->Tm->Int->Int->Option Tm
 |0,_,_,_=>none|n+1,a0,a1,a2=>gG (eX a0.alY)<|ej (λ(f:Int) (d:Tm)=>(λ(v105:List Tm)=>dH (lv a0) λb=>dH (sq n d (eW .i64 a1 b) a2) λa=>gG (fN v105 [a])<|some (.next (fU v105 [a]))):Int->Tm->(List Tm)->(Option (gq (List Tm) (Tm)))) λc=>dH (fw c a0.alY 0 []) (fO (λ(v105:List Tm)=>some (Tm.mk a0.alX (fp (fp (eo a0.alX 1) (qa a0.al0 a1) false) (eW .i64 a0.al0 a2) a0.al0) a0.dN v105)) (λr=>some r))
def xa:Nat->Tm->Int->Int->Tm->Option Tm
 |0,_,_,_,_=>none|n+1,a0,a1,a2,a3=>if eo a0.alX 1 then if eo a0.al0 (eW .i64 a1 a2)then dH (sq FU a3 0 (eW .i64 a1 a2)) λf=>some f else if pj a0.al0 (eW .i64 a1 a2)then dH (gD (fL .i64 a0.al0 1)) λh=>some h else some a0 else gG (eX a0.alY)<|ej (λ(j:Int) (i:Tm)=>(λ(a:List Tm)=>dH (lv a0) λc=>dH (xa n i a1 (eW .i64 a2 c) a3) λb=>gG (fN a [b])<|some (.next (fU a [b]))):Int->Tm->(List Tm)->(Option (gq (List Tm) (Tm)))) λd=>dH (fw d a0.alY 0 []) (fO (λ(a:List Tm)=>some (Tm.mk a0.alX a0.al0 a0.dN a)) (λr=>some r))
def q8(a0:Tm):Option Tm:=if eo a0.alX 3 then dH (dX a0.alY 0) λi=>dH (dX i.alY 0) λj=>dH (dX a0.alY 1) λk=>dH (xa FU j 0 0 k) λl=>some l else if eo a0.alX 6 then dH (dX a0.alY 2) λb=>if eo b.alX 4 then dH (dX a0.alY 0) λn=>some n else dH (dX b.alY 0) λc=>dH (dX a0.alY 1) λd=>dH (fT 3 [d,c]) λo=>dH (dX a0.alY 0) λq=>dH (lG 6 a0.dN [q,d,c]) λr=>dH (fT 3 [o,r]) λs=>some s else if eo a0.alX 9 then dH (dX a0.alY 2) λa=>if eo a.alX 7 then dH (dX a0.alY 0) λt=>some t else dH (dX a.alY 0) λu=>dH (dX a.alY 1) λf=>dH (dX a0.alY 1) λh=>dH (fT 3 [h,u]) λv=>dH (fT 3 [v,f]) λw=>dH (dX a0.alY 0) λx=>dH (lG 9 a0.dN [x,h,f]) λy=>dH (fT 3 [w,y]) λA=>some A else if eo a0.alX 11 then dH (dX a0.alY 0) λB=>dH (dX B.alY 0) λC=>some C else dH (dX a0.alY 0) λD=>dH (dX D.alY 1) λF=>some F
def oA:Nat->Tm->Int->Option (Tm×Bool×Bool)
 |0,_,_=>none|n+1,a0,a1=>dH (wv a0) λk=>if k then dH (sD a0) λb=>if pj b a1 then some ((Tm.mk 0 0 (Ty.mk 0 []) []),true,false)else dH (q8 a0) λc=>some (c,true,true)else gG (eX a0.alY)<|ej (λ(a:Int) (d:Tm)=>(λ(_:Unit)=>eT (oA n d a1) λf h i=>if h then gG (J5 a0.alY)<|dH (dX a0.alY a) λl=>some (.ret ((Tm.mk a0.alX a0.al0 a0.dN (GO a0.alY a f)),true,i))else some (.next ())):Int->Tm->(Unit)->(Option (gq (Unit) (Tm×Bool×Bool)))) λj=>dH (fw j a0.alY 0 ()) (fO (λ(_:Unit)=>some (a0,false,true)) (λr=>some r))
def lb(a0:Tm)(a1:Int):Option (Tm×Int×Int):=dH (mi a0) λq=>if eL q 0 then some ((Tm.mk 0 0 (Ty.mk 0 []) []),0,q)else ej (λ(n:Bool)=>if n then some ((Tm.mk 0 0 (Ty.mk 0 []) []),0,1)else ej ((un6 λ(v164:Int) (b:Int) (c:Int) (v167:Int) (v168:List Ty) (d:List Tm)=>dH (fV FU (Tm.mk b c (Ty.mk v167 v168) d)) λh=>eT (oA FU (Tm.mk b c (Ty.mk v167 v168) d) (fL .i64 4096 h)) λa i j=>if i then if eo v164 a1 then some (.ret ((Tm.mk 0 0 (Ty.mk 0 []) []),0,5))else if j then some (.next ((eW .i64 v164 1),a.alX,a.al0,a.dN.alX,a.dN.alY,a.alY))else some (.ret ((Tm.mk 0 0 (Ty.mk 0 []) []),0,4))else dH (lR FU (Tm.mk b c (Ty.mk v167 v168) d)) λk=>some (.ret (k,v164,0))):(Int×Int×Int×Int×(List Ty)×(List Tm))->(Option (gq (Int×Int×Int×Int×(List Ty)×(List Tm)) (Tm×Int×Int)))) λl=>dH (j0 l FU (0,a0.alX,a0.al0,a0.dN.alX,a0.dN.alY,a0.alY)) (fO (un6 λ(v164:Int) (b:Int) (c:Int) (v167:Int) (v168:List Ty) (d:List Tm)=>none) (λr=>some r))) λf=>if pg a1 0 then f true else if pj a1 65536 then f true else dH (lz FU a0 536870912) λo=>f (lV o)
def mf(a0 a1:Tm)(a2:Int):Option Int:=dH (mi a0) λj=>if eL j 0 then some j else dH (mi a1) λa=>if eL a 0 then some a else dH (lN FU a0 a1) λd=>if d then some 0 else eT (lb a0 a2) λf k b=>if eL b 0 then some b else eT (lb a1 a2) λh l c=>if eL c 0 then some c else dH (lN FU f h) λi=>if i then some 0 else some 11
def lC:Nat->Fm->Fm->Option Int
 |0,_,_=>none|n+1,a0,a1=>ej (λ(k:Bool)=>if k then some 11 else gG (eX a0.ei)<|ej (λ(l:Int) (o:Tm)=>(λ(_:Unit)=>dH (dX a1.ei l) λc=>dH (mf o c 1000) λa=>if eL a 0 then some (.ret a)else some (.next ())):Int->Tm->(Unit)->(Option (gq (Unit) (Int)))) λq=>dH (fw q a0.ei 0 ()) (fO (λ(_:Unit)=>gG (eX a0.alY)<|ej (λ(d:Int) (f:Fm)=>(λ(_:Unit)=>dH (dX a1.alY d) λh=>dH (lC n f h) λb=>if eL b 0 then some (.ret b)else some (.next ())):Int->Fm->(Unit)->(Option (gq (Unit) (Int)))) λi=>dH (fw i a0.alY 0 ()) (fO (λ(_:Unit)=>some 0) (λr=>some r))) (λr=>some r))) λj=>if eL a0.alX a1.alX then j true else dH (fv FU a0.dN a1.dN) λs=>j (lV s)
def lu(a0 a1:Fm):Option Int:=dH (j8 a0) λc=>if eL c 0 then some c else dH (j8 a1) λa=>if eL a 0 then some a else dH (lC FU a0 a1) λb=>some b
def mW(a0:Fm):Option Int:=dH (k8 a0.alX) λa=>if a then some 1 else some 0
def iD:Nat->Fm->Int->Int->Option Fm
 |0,_,_,_=>none|n+1,a0,a1,a2=>gG (eX a0.ei)<|ej (λ(o:Int) (j:Tm)=>(λ(b:List Tm)=>dH (sq FU j a1 a2) λd=>gG (fN b [d])<|some (.next (fU b [d]))):Int->Tm->(List Tm)->(Option (gq (List Tm) (Fm)))) λk=>dH (fw k a0.ei 0 []) (fO (λ(b:List Tm)=>gG (eX a0.alY)<|ej (λ(l:Int) (f:Fm)=>(λ(a:List Fm)=>dH (mW a0) λh=>dH (iD n f (eW .i64 a1 h) a2) λc=>gG (fN a [c])<|some (.next (fU a [c]))):Int->Fm->(List Fm)->(Option (gq (List Fm) (Fm)))) λi=>dH (fw i a0.alY 0 []) (fO (λ(a:List Fm)=>some (Fm.mk a0.alX a0.dN b a)) (λr=>some r))) (λr=>some r))
def fx(a0:dS)(a1:List Ty):Option dS:=gG (fN a0.al1 a1)<|gG (eX a0.al4)<|ej (λ(f:Int) (c:Fm)=>(λ(a:List Fm)=>dH (iD FU c 0 (eA a1)) λb=>gG (fN a [b])<|some (.next (fU a [b]))):Int->Fm->(List Fm)->(Option (gq (List Fm) (dS)))) λd=>dH (fw d a0.al4 0 []) (fO (λ(a:List Fm)=>some (dS.mk a0.lemmas (fU a0.al1 a1) a)) (λr=>some r))
def nO(a0:Int)(a1:Ty)(a2:Fm):Option Fm:=dH (jf FU a1) λa=>dH (lQ FU a2) λb=>some (Fm.mk a0 a [] [b])
def gy(a0:List Int)(a1:Int):Option (List Int):=gG (eX a0)<|ej (λ(f:Int) (b:Int)=>(λ(a:List Int)=>ej (λ(c:List Int)=>some (.next c)) λj57=>if qa b a1 then gG (fN a [(fL .i64 b a1)])<|j57 (fU a [(fL .i64 b a1)])else j57 a):Int->Int->(List Int)->(Option (gq (List Int) (List Int)))) λd=>dH (fw d a0 0 []) (fO (λ(a:List Int)=>some a) (λr=>some r))
def rX(a0:List Int):Option Bool:=ej (λ(v6:Bool)=>some v6) λa=>if pj (eA a0) 0 then dH (dX a0 0) λb=>a (eo b 0)else a false
def iZ(a0:List Ty)(a1:Tm):Option (Ty×Int):=dH (mh a0) λc=>if eL c 0 then some ((Ty.mk 0 []),c)else dV (pY a0 a1) λa b=>some (a,b)
def pZ:Nat->Tm->Int->(List (Int×Bool))->Option ((List (Int×Bool)))
 |0,_,_,_=>none|n+1,a0,a1,a2=>ej (λ(f:(List (Int×Bool)))=>gG (eX a0.alY)<|ej (λ(h:Int) (a:Tm)=>(λ(v51:(List (Int×Bool)))=>dH (lv a0) λb=>dH (pZ n a (eW .i64 a1 b) v51) λd73=>some (.next d73)):Int->Tm->((List (Int×Bool)))->(Option (gq ((List (Int×Bool))) ((List (Int×Bool)))))) λc=>dH (fw c a0.alY 0 f) (fO (λ(v51:(List (Int×Bool)))=>some v51) (λr=>some r))) λd=>if fp (eo a0.alX 1) (qa a0.al0 a1) false then d (wJ a2 (fL .i64 a0.al0 a1) true)else d a2
def wZ(a0:Tm):Option ((List Int)×Int):=dH (mi a0) λb=>if eL b 0 then some ([],b)else dH (pZ FU a0 0 []) λd11=>dV (qm d11) λa d17=>some (a,0)
def kB(a0:Tm):Option (List Int):=dV (wZ a0) λa b=>some a
def ot:Nat->Fm->Int->Option Bool
 |0,_,_=>none|n+1,a0,a1=>gG (eX a0.ei)<|ej (λ(i:Int) (a:Tm)=>(λ(_:Unit)=>dH (lz FU a a1) λb=>if b then some (.next ())else some (.ret false)):Int->Tm->(Unit)->(Option (gq (Unit) (Bool)))) λc=>dH (fw c a0.ei 0 ()) (fO (λ(_:Unit)=>gG (eX a0.alY)<|ej (λ(j:Int) (d:Fm)=>(λ(_:Unit)=>dH (ot n d a1) λf=>if f then some (.next ())else some (.ret false)):Int->Fm->(Unit)->(Option (gq (Unit) (Bool)))) λh=>dH (fw h a0.alY 0 ()) (fO (λ(_:Unit)=>some true) (λr=>some r))) (λr=>some r))
def p6:Nat->Fm->Int->Option Int
 |0,_,_=>none|n+1,a0,a1=>gG (eX a0.ei)<|ej (λ(l:Int) (h:Tm)=>(λ(b:Int)=>dH (ng FU h a1) λi=>some (.next (eW .i64 b i))):Int->Tm->(Int)->(Option (gq (Int) (Int)))) λj=>dH (fw j a0.ei 0 0) (fO (λ(b:Int)=>gG (eX a0.alY)<|ej (λ(o:Int) (k:Fm)=>(λ(a:Int)=>dH (mW a0) λc=>dH (p6 n k (eW .i64 a1 c)) λd=>some (.next (eW .i64 a d))):Int->Fm->(Int)->(Option (gq (Int) (Int)))) λf=>dH (fw f a0.alY 0 b) (fO (λ(a:Int)=>some a) (λr=>some r))) (λr=>some r))
def yL:Nat->Fm->Int->Int->Tm->Option Fm
 |0,_,_,_,_=>none|n+1,a0,a1,a2,a3=>gG (eX a0.ei)<|ej (λ(o:Int) (j:Tm)=>(λ(b:List Tm)=>dH (xa FU j a1 a2 a3) λd=>gG (fN b [d])<|some (.next (fU b [d]))):Int->Tm->(List Tm)->(Option (gq (List Tm) (Fm)))) λk=>dH (fw k a0.ei 0 []) (fO (λ(b:List Tm)=>gG (eX a0.alY)<|ej (λ(l:Int) (f:Fm)=>(λ(a:List Fm)=>dH (mW a0) λh=>dH (yL n f a1 (eW .i64 a2 h) a3) λc=>gG (fN a [c])<|some (.next (fU a [c]))):Int->Fm->(List Fm)->(Option (gq (List Fm) (Fm)))) λi=>dH (fw i a0.alY 0 []) (fO (λ(a:List Fm)=>some (Fm.mk a0.alX a0.dN b a)) (λr=>some r))) (λr=>some r))
def yO(a0:Fm)(a1:Int)(a2:Tm):Option (Fm×Int):=dH (j8 a0) λn=>if eL n 0 then some ((Fm.mk 0 (Ty.mk 0 []) [] []),n)else if fp (pg a1 0) true (pj a1 4096)then some ((Fm.mk 0 (Ty.mk 0 []) [] []),1)else dH (mi a2) λa=>if eL a 0 then some ((Fm.mk 0 (Ty.mk 0 []) [] []),a)else ej (λ(f:Bool)=>if f then some ((Fm.mk 0 (Ty.mk 0 []) [] []),1)else dH (me FU a0) λh=>dH (p6 FU a0 a1) λi=>dH (fV FU a2) λj=>if pj (eW .i64 h (Vf .i64 i (fL .i64 j 1))) 4096 then some ((Fm.mk 0 (Ty.mk 0 []) [] []),4)else dH (yL FU a0 a1 0 a2) λb=>dH (lQ FU b) λc=>some (c,0)) λd=>dH (ot FU a0 536870912) λk=>if k then dH (lz FU a2 536870912) λl=>d (lV l)else d true
def jB(a0:Fm)(a1:Tm):Option (Fm×Int):=dV (yO a0 0 a1) λa b=>some (a,b)
def vZ:Nat->Tm->Int->Option Bool
 |0,_,_=>none|n+1,a0,a1=>if fp (eo a0.alX 1) (eo a0.al0 a1) false then some true else gG (eX a0.alY)<|ej (λ(f:Int) (c:Tm)=>(λ(_:Unit)=>dH (lv a0) λa=>dH (vZ n c (eW .i64 a1 a)) λb=>if b then some (.ret true)else some (.next ())):Int->Tm->(Unit)->(Option (gq (Unit) (Bool)))) λd=>dH (fw d a0.alY 0 ()) (fO (λ(_:Unit)=>some false) (λr=>some r))
def qc:Nat->Fm->Int->Option Bool
 |0,_,_=>none|n+1,a0,a1=>gG (eX a0.ei)<|ej (λ(j:Int) (d:Tm)=>(λ(_:Unit)=>dH (vZ FU d a1) λf=>if f then some (.ret true)else some (.next ())):Int->Tm->(Unit)->(Option (gq (Unit) (Bool)))) λh=>dH (fw h a0.ei 0 ()) (fO (λ(_:Unit)=>gG (eX a0.alY)<|ej (λ(k:Int) (i:Fm)=>(λ(_:Unit)=>dH (mW a0) λa=>dH (qc n i (eW .i64 a1 a)) λb=>if b then some (.ret true)else some (.next ())):Int->Fm->(Unit)->(Option (gq (Unit) (Bool)))) λc=>dH (fw c a0.alY 0 ()) (fO (λ(_:Unit)=>some false) (λr=>some r))) (λr=>some r))
def nc:Nat->Fm->Option (Fm×Int)
 |0,_=>none|n+1,a0=>gG (eX a0.ei)<|ej (λ(s:Int) (k:Tm)=>(λ(b:List Tm)=>eT (lb k 1000) λc o d=>if eL d 0 then some (.ret ((Fm.mk 0 (Ty.mk 0 []) [] []),d))else gG (fN b [c])<|some (.next (fU b [c]))):Int->Tm->(List Tm)->(Option (gq (List Tm) (Fm×Int)))) λl=>dH (fw l a0.ei 0 []) (fO (λ(b:List Tm)=>gG (eX a0.alY)<|ej (λ(q:Int) (i:Fm)=>(λ(a:List Fm)=>dV (nc n i) λf h=>if eL h 0 then some (.ret ((Fm.mk 0 (Ty.mk 0 []) [] []),h))else gG (fN a [f])<|some (.next (fU a [f]))):Int->Fm->(List Fm)->(Option (gq (List Fm) (Fm×Int)))) λj=>dH (fw j a0.alY 0 []) (fO (λ(a:List Fm)=>some ((Fm.mk a0.alX a0.dN b a),0)) (λr=>some r))) (λr=>some r))
def hR(a0:dS)(a1:Tm)(a2:Int):Option Int:=dV (iZ a0.al1 a1) λb a=>if eL a 0 then some a else if eL b.alX a2 then some 7 else some 0
def yI(a0 a1:Tm):Option Fm:=dH (lR FU a0) λa=>dH (lR FU a1) λb=>some (Fm.mk 1 (Ty.mk 0 []) [a,b] [])
def jK:Nat->Fm->Option Bool
 |0,_=>none|n+1,a0=>if eo a0.alX 1 then some false else if eo a0.alX 2 then ej (λ(b:Bool)=>some b) λa=>dH (dX a0.alY 0) λc=>dH (jK n c) λd=>if d then a true else dH (dX a0.alY 1) λf=>dH (jK n f) λh=>a h else if eo a0.alX 5 then some true else dH (dX a0.alY (fL .i64 (eA a0.alY) 1)) λi=>dH (jK n i) λj=>some j
def nD(a0:Fm):Option (Bool×Int):=dH (j8 a0) λb=>if eL b 0 then some (false,b)else dH (jK FU a0) λa=>some (a,0)
mutual
def eu:Nat->dS->Pf->Option (ta×Int)
 |0,_,_=>none|n+1,a0,a1=>eT (en n a0 a1) λb i h=>if eL h 0 then some ((ta.mk (Fm.mk 0 (Ty.mk 0 []) [] []) []),h)else dH (j8 b) λc=>if eL c 0 then some ((ta.mk (Fm.mk 0 (Ty.mk 0 []) [] []) []),4)else ej (λ(d:List Int)=>some ((ta.mk b d),0)) λa=>dV (nD b) λf j=>if f then a i else a []
def en:Nat->dS->Pf->Option (Fm×(List Int)×Int)
 |0,_,_=>none|n+1,a0,a1=>if eo a1.alX 1 then if qa a1.al0 (eA a0.al4)then some ((Fm.mk 0 (Ty.mk 0 []) [] []),[],8)else dH (dX a0.al4 (fL .i64 (fL .i64 (eA a0.al4) 1) a1.al0)) λt=>some (t,[],0)else if eo a1.alX 2 then if qa a1.al0 (eA a0.lemmas)then some ((Fm.mk 0 (Ty.mk 0 []) [] []),[],9)else dH (dX a0.lemmas a1.al0) λu=>some (u,[],0)else if eo a1.alX 3 then dH (dX a1.alY 0) λv=>dV (eu n a0 v) λf h=>if eL h 0 then some ((Fm.mk 0 (Ty.mk 0 []) [] []),[],h)else dH (dX a1.alY 1) λw=>dV (eu n a0 w) λi x=>dH (rV 2 f.d_ i.d_) λy=>dH (gu f.jX i.jX) λA=>some (y,A,x)else if fp (eo a1.alX 4) true (eo a1.alX 5)then dH (dX a1.alY 0) λB=>dV (eu n a0 B) λb j=>if eL j 0 then some ((Fm.mk 0 (Ty.mk 0 []) [] []),[],j)else if eL b.d_.alX 2 then some ((Fm.mk 0 (Ty.mk 0 []) [] []),[],10)else dH (dX b.d_.alY (fL .i64 a1.alX 4)) λC=>some (C,b.jX,0)else if eo a1.alX 6 then dH (dX a1.fZ 0) λc=>dH (ka a0.al1 c) λk=>if eL k 0 then some ((Fm.mk 0 (Ty.mk 0 []) [] []),[],k)else dH (eD a0 0 1) λl=>if eL l 0 then some ((Fm.mk 0 (Ty.mk 0 []) [] []),[],l)else dH (gn a0 c) λD=>dH (dX a1.alY 0) λF=>dV (eu n D F) λo G=>dH (rV 3 c o.d_) λH=>some (H,o.jX,G)else if eo a1.alX 7 then dH (dX a1.alY 0) λI=>dV (eu n a0 I) λa q=>if eL q 0 then some ((Fm.mk 0 (Ty.mk 0 []) [] []),[],q)else if eL a.d_.alX 3 then some ((Fm.mk 0 (Ty.mk 0 []) [] []),[],10)else dH (dX a1.alY 1) λJ=>dV (eu n a0 J) λr s=>if eL s 0 then some ((Fm.mk 0 (Ty.mk 0 []) [] []),[],s)else dH (dX a.d_.alY 1) λK=>dH (gu a.jX r.jX) λL=>dH (dX a.d_.alY 0) λM=>dH (lu M r.d_) λN=>some (K,L,N)else if fp (eo a1.alX 8) true (eo a1.alX 12)then eT (mY n a0 a1) λO P Q=>some (O,P,Q)else if fp (eo a1.alX 9) true (eo a1.alX 13)then eT (nQ n a0 a1) λR S T=>some (R,S,T)else if fp (eo a1.alX 10) true (eo a1.alX 14)then eT (nW n a0 a1) λU V W=>some (U,V,W)else if fp (eo a1.alX 11) true (eo a1.alX 15)then eT (mD n a0 a1) λX Y Z=>some (X,Y,Z)else if eo a1.alX 16 then eT (pb n a0 a1) λad ae af=>some (ad,ae,af)else if eo a1.alX 17 then eT (nM n a0 a1) λah ai ak=>some (ah,ai,ak)else if eo a1.alX 18 then dH (dX a1.ei 0) λd=>dH (yI d d) λan=>dH (hR a0 d 1) λao=>some (an,[],ao)else if eo a1.alX 19 then eT (nP n a0 a1) λaq ar aw=>some (aq,ar,aw)else eT (ni n a0 a1) λax ay az=>some (ax,ay,az)
def mY:Nat->dS->Pf->Option (Fm×(List Int)×Int)
 |0,_,_=>none|n+1,a0,a1=>dH (eD a0 1 0) λl=>if eL l 0 then some ((Fm.mk 0 (Ty.mk 0 []) [] []),[],l)else dH (fx a0 [a1.dN]) λc=>dH (dX a1.alY 0) λd=>dV (eu n c d) λa b=>if eL b 0 then some ((Fm.mk 0 (Ty.mk 0 []) [] []),[],b)else if eo a1.alX 8 then dH (nO 4 a1.dN a.d_) λf=>dH (gy a.jX 1) λh=>some (f,h,0)else dH (rX a.jX) λi=>if i then some ((Fm.mk 0 (Ty.mk 0 []) [] []),[],12)else dH (nO 6 a1.dN a.d_) λj=>dH (gy a.jX 1) λk=>some (j,k,0)
def nQ:Nat->dS->Pf->Option (Fm×(List Int)×Int)
 |0,_,_=>none|n+1,a0,a1=>dH (dX a1.ei 0) λc=>dV (iZ a0.al1 c) λq o=>if eL o 0 then some ((Fm.mk 0 (Ty.mk 0 []) [] []),[],o)else dH (dX a1.alY 0) λd=>dV (eu n a0 d) λa b=>if eL b 0 then some ((Fm.mk 0 (Ty.mk 0 []) [] []),[],b)else dH (kB c) λf=>dH (gu a.jX f) λh=>if eL a.d_.alX (fp (eo a1.alX 13) 6 4)then some ((Fm.mk 0 (Ty.mk 0 []) [] []),[],10)else dH (fv FU a.d_.dN q) λi=>if i then dH (dX a.d_.alY 0) λj=>dV (jB j c) λk l=>some (k,(fp (eo a1.alX 13) a.jX h),l)else some ((Fm.mk 0 (Ty.mk 0 []) [] []),[],7)
def nW:Nat->dS->Pf->Option (Fm×(List Int)×Int)
 |0,_,_=>none|n+1,a0,a1=>dH (dX a1.fZ 0) λa=>dH (dX a1.ei 0) λb=>dH (ka a0.al1 a) λc=>if eL c 0 then some ((Fm.mk 0 (Ty.mk 0 []) [] []),[],c)else if eL a.alX (fp (eo a1.alX 14) 7 5)then some ((Fm.mk 0 (Ty.mk 0 []) [] []),[],10)else dV (iZ a0.al1 b) λi d=>if eL d 0 then some ((Fm.mk 0 (Ty.mk 0 []) [] []),[],d)else dH (fv FU a.dN i) λj=>if j then dH (dX a1.alY 0) λk=>dH (dX a.alY 0) λl=>dV (e_ n a0 k l b) λf o=>ej (λ(q:List Int)=>some (a,q,o)) λh=>if eo (fp (eo a1.alX 14) 7 5) 5 then dH (kB b) λr=>dH (gu f r) λs=>h s else h f else some ((Fm.mk 0 (Ty.mk 0 []) [] []),[],7)
def mD:Nat->dS->Pf->Option (Fm×(List Int)×Int)
 |0,_,_=>none|n+1,a0,a1=>dH (dX a1.alY 0) λy=>dV (eu n a0 y) λc i=>if eL i 0 then some ((Fm.mk 0 (Ty.mk 0 []) [] []),[],i)else if eL c.d_.alX (fp (eo a1.alX 15) 7 5)then some ((Fm.mk 0 (Ty.mk 0 []) [] []),[],10)else dH (eD a0 1 1) λj=>if eL j 0 then some ((Fm.mk 0 (Ty.mk 0 []) [] []),[],j)else dH (fx a0 [c.d_.dN]) λA=>dH (dX c.d_.alY 0) λB=>dH (gn A B) λC=>dH (dX a1.alY 1) λD=>dV (eu n C D) λb k=>if eL k 0 then some ((Fm.mk 0 (Ty.mk 0 []) [] []),[],k)else ej (λ(F:Int) (l:Int) (o:List Ty) (q:List Tm) (r:List Fm)=>ej (λ(v139:Bool)=>if v139 then some ((Fm.mk 0 (Ty.mk 0 []) [] []),[],12)else dH (iD FU (Fm.mk F (Ty.mk l o) q r) 1 (-1)) λs=>dH (gy b.jX 1) λt=>dH (gu c.jX t) λu=>some (s,u,0)) λd=>if eo (fp (eo a1.alX 15) 7 5) 7 then dH (rX b.jX) λv=>d v else d false) λf=>dH (qc FU b.d_ 0) λw=>if w then dV (nc FU b.d_) λa h=>if eL h 0 then some ((Fm.mk 0 (Ty.mk 0 []) [] []),[],h)else dH (qc FU a 0) λx=>if x then some ((Fm.mk 0 (Ty.mk 0 []) [] []),[],6)else f a.alX a.dN.alX a.dN.alY a.ei a.alY else f b.d_.alX b.d_.dN.alX b.d_.dN.alY b.d_.ei b.d_.alY
def pb:Nat->dS->Pf->Option (Fm×(List Int)×Int)
 |0,_,_=>none|n+1,a0,a1=>dH (dX a1.fZ 0) λa=>dH (dX a1.ei 0) λc=>dH (jD) λd=>gG (fN a0.al1 [d])<|dH (kP (fU a0.al1 [d]) a) λf=>if eL f 0 then some ((Fm.mk 0 (Ty.mk 0 []) [] []),[],f)else dH (hR a0 c 1) λh=>if eL h 0 then some ((Fm.mk 0 (Ty.mk 0 []) [] []),[],h)else dH (dX a1.alY 0) λC=>dH (fT 4 []) λD=>dV (e_ n a0 C a D) λF i=>if eL i 0 then some ((Fm.mk 0 (Ty.mk 0 []) [] []),[],i)else dH (eD a0 1 1) λj=>if eL j 0 then some ((Fm.mk 0 (Ty.mk 0 []) [] []),[],j)else dH (jD) λk=>dH (fx a0 [k]) λl=>dH (gn l a) λo=>dH (dX a1.alY 1) λq=>dH (iD FU a 1 1) λr=>dH (gD 0) λs=>dH (fT 5 [s]) λt=>dV (e_ n o q r t) λu b=>if eL b 0 then some ((Fm.mk 0 (Ty.mk 0 []) [] []),[],b)else dV (jB a c) λv w=>dH (kB c) λx=>dH (gu x F) λy=>dH (gy u 1) λA=>dH (gu y A) λB=>some (v,B,w)
def nM:Nat->dS->Pf->Option (Fm×(List Int)×Int)
 |0,_,_=>none|n+1,a0,a1=>dH (dX a1.fZ 0) λa=>dH (dX a1.ei 0) λc=>dH (my) λd=>gG (fN a0.al1 [d])<|dH (kP (fU a0.al1 [d]) a) λf=>if eL f 0 then some ((Fm.mk 0 (Ty.mk 0 []) [] []),[],f)else dH (hR a0 c 2) λh=>if eL h 0 then some ((Fm.mk 0 (Ty.mk 0 []) [] []),[],h)else dH (dX a1.alY 0) λG=>dH (fT 7 []) λH=>dV (e_ n a0 G a H) λI i=>if eL i 0 then some ((Fm.mk 0 (Ty.mk 0 []) [] []),[],i)else dH (eD a0 2 1) λj=>if eL j 0 then some ((Fm.mk 0 (Ty.mk 0 []) [] []),[],j)else dH (jD) λk=>dH (my) λl=>dH (fx a0 [k,l]) λo=>dH (iD FU a 1 1) λq=>dH (gn o q) λr=>dH (dX a1.alY 1) λs=>dH (iD FU a 1 2) λt=>dH (gD 1) λu=>dH (gD 0) λv=>dH (fT 8 [u,v]) λw=>dV (e_ n r s t w) λx b=>if eL b 0 then some ((Fm.mk 0 (Ty.mk 0 []) [] []),[],b)else dV (jB a c) λy A=>dH (kB c) λB=>dH (gu B I) λC=>dH (gy x 2) λD=>dH (gu C D) λF=>some (y,F,A)
def nP:Nat->dS->Pf->Option (Fm×(List Int)×Int)
 |0,_,_=>none|n+1,a0,a1=>dH (dX a1.fZ 0) λk=>dH (jD) λb=>gG (fN a0.al1 [b])<|dH (kP (fU a0.al1 [b]) k) λc=>if eL c 0 then some ((Fm.mk 0 (Ty.mk 0 []) [] []),[],c)else dH (dX a1.alY 0) λl=>dV (eu n a0 l) λa d=>if eL d 0 then some ((Fm.mk 0 (Ty.mk 0 []) [] []),[],d)else if eL a.d_.alX 1 then some ((Fm.mk 0 (Ty.mk 0 []) [] []),[],10)else dH (dX a1.alY 1) λo=>dH (dX a.d_.ei 0) λq=>dV (e_ n a0 o k q) λr f=>if eL f 0 then some ((Fm.mk 0 (Ty.mk 0 []) [] []),[],f)else dH (dX a.d_.ei 1) λh=>dV (jB k h) λi j=>some (i,r,j)
def ni:Nat->dS->Pf->Option (Fm×(List Int)×Int)
 |0,_,_=>none|n+1,a0,a1=>dH (dX a1.alY 0) λh=>dV (eu n a0 h) λa b=>if eL b 0 then some ((Fm.mk 0 (Ty.mk 0 []) [] []),[],b)else ej (λ(i:Bool)=>if i then some ((Fm.mk 0 (Ty.mk 0 []) [] []),[],10)else dH (dX a.d_.alY 0) λc=>dH (k6 a.d_.dN c.dN) λd=>dH (iq d) λj=>if eL j 0 then some ((Fm.mk 0 (Ty.mk 0 []) [] []),[],4)else dH (dX c.alY 0) λk=>dH (iD FU k 2 1) λl=>dH (gD 1) λo=>dH (gD 0) λq=>dH (fT 3 [o,q]) λr=>dV (jB l r) λs t=>dH (nO 4 a.d_.dN s) λu=>dH (nO 5 d u) λv=>some (v,a.jX,t)) λf=>if eL a.d_.alX 4 then f true else dH (dX a.d_.alY 0) λw=>f (eL w.alX 5)
def e_:Nat->dS->Pf->Fm->Tm->Option ((List Int)×Int)
 |0,_,_,_,_=>none|n+1,a0,a1,a2,a3=>dV (eu n a0 a1) λd f=>if eL f 0 then some ([],f)else dV (jB a2 a3) λb a=>if eL a 0 then some ([],a)else dH (lu b d.d_) λc=>some (d.jX,c)
end
def ns(a0:List Fm)(a1:Sq)(a2:Pf):Option (ta×Int):=dH (uC a0 a1) λf=>if eL f 0 then some ((ta.mk (Fm.mk 0 (Ty.mk 0 []) [] []) []),f)else dH (uI a2) λb=>if eL b 0 then some ((ta.mk (Fm.mk 0 (Ty.mk 0 []) [] []) []),b)else dV (eu FU (dS.mk a0 a1.al1 a1.al4) a2) λa c=>if eL c 0 then some ((ta.mk (Fm.mk 0 (Ty.mk 0 []) [] []) []),c)else dH (lQ FU a.d_) λd=>gG (fN [] a.jX)<|some ((ta.mk d (fU [] a.jX)),0)
def gz(a0:Fm):Option Bool:=dV (nD a0) λa b=>some a
def tW:Option Ty:=some (Ty.mk 5 [])
def pK(a0 a1:Ty):Option Ty:=some (Ty.mk 3 [a0,a1])
def zQ(a0:Ty):Option (Int×Int):=dH (iq a0) λb=>if eL b 0 then some (0,b)else dH (p2 FU a0) λa=>some (a,0)
def nx(a0:Ty)(a1:Int):Option (Ty×Int):=if eL a1 0 then some ((Ty.mk 0 []),a1)else dV (zQ a0) λb a=>if eL a 0 then some ((Ty.mk 0 []),a)else some (a0,0)
def sd(a0 a1:Ty):Option Ty:=some (Ty.mk 4 [a0,a1])
def k0:Nat->Fm->Option (Ty×Int)
 |0,_=>none|n+1,a0=>dH (gz a0) λae=>if ae then if eo a0.alX 2 then dH (dX a0.alY 0) λa=>dH (gz a) λi=>if i then dH (dX a0.alY 1) λb=>dH (gz b) λj=>if j then dV (k0 n a) λk c=>if eL c 0 then some ((Ty.mk 0 []),c)else dV (k0 n b) λl o=>dH (pK k l) λq=>dV (nx q o) λr s=>some (r,s)else dV (k0 n a) λt u=>some (t,u)else dH (dX a0.alY 1) λv=>dV (k0 n v) λw x=>some (w,x)else if eo a0.alX 3 then dH (dX a0.alY 0) λd=>dH (gz d) λy=>if y then dV (k0 n d) λA f=>if eL f 0 then some ((Ty.mk 0 []),f)else dH (dX a0.alY 1) λB=>dV (k0 n B) λC D=>dH (sd A C) λF=>dV (nx F D) λG H=>some (G,H)else dH (dX a0.alY 1) λI=>dV (k0 n I) λJ K=>some (J,K)else if eo a0.alX 4 then dH (dX a0.alY 0) λL=>dV (k0 n L) λM N=>dH (sd a0.dN M) λO=>dV (nx O N) λP Q=>some (P,Q)else if eo a0.alX 5 then dH (dX a0.alY 0) λh=>dH (gz h) λR=>if R then dV (k0 n h) λS T=>dH (pK a0.dN S) λU=>dV (nx U T) λV W=>some (V,W)else some (a0.dN,0)else dH (dX a0.alY 0) λX=>dV (k0 n X) λY Z=>some (Y,Z)else dH (tW) λad=>some (ad,0)
def jt(a0:Fm):Option (Ty×Int):=dH (j8 a0) λc=>if eL c 0 then some ((Ty.mk 0 []),c)else dV (k0 FU a0) λa b=>some (a,b)
def vJ(a0:List Fm)(a1:List Tm):Option Int:=if eL (eA a1) (eA a0)then some 9 else ej ((λ(a:Int)=>if pg a (eA a0)then dH (dX a0 a) λd=>dV (jt d) λf b=>if eL b 0 then some (.ret b)else dH (dX a1 a) λh=>dV (iZ [] h) λi c=>if eL c 0 then some (.ret c)else dH (fv FU f i) λj=>if j then some (.next (eW .i64 a 1))else some (.ret 7)else some (.y7 a)):(Int)->(Option (gq (Int) (Int)))) λk=>dH (j0 k FU 0) (fO (λ(a:Int)=>some 0) (λr=>some r))
def eE(a0:dT):Option (Int×dT):=some ((eW .i64 a0.next 1),(dT.mk a0.lemmas a0.ei (eW .i64 a0.next 1)))
def lY(a0:dT)(a1:Sq):Option (er×(List Int)×dT):=ej ((ZZ λ(b:List Int) (v164:Int) (d:List Tm) (j:dT)=>if pg v164 (eA a1.al1)then dV (eE j) λk d197=>gG (fN b [k])<|dH (dX (fU b [k]) v164) λu=>dH (fc u) λl=>gG (fN d [l])<|some (.next ((fU b [k]),(eW .i64 v164 1),(fU d [l]),d197))else some (.y7 (b,v164,d,j))):((List Int)×Int×(List Tm)×dT)->(Option (gq ((List Int)×Int×(List Tm)×dT) (er×(List Int)×dT)))) λv=>dH (j0 v FU ([],0,[],a0)) (fO (ZZ λ(b:List Int) (v164:Int) (d:List Tm) (j:dT)=>ej ((ZZ λ(c:List Int) (f:Int) (h:List Tm) (i:dT)=>if pg f (eA a1.al4)then ej (λ(w:List Int) (n:Int) (o:Int) (q:Int) (s:List Ty) (t:List Tm) (x:dT)=>gG (fN h [(Tm.mk n o (Ty.mk q s) t)])<|some (.next (w,(eW .i64 f 1),(fU h [(Tm.mk n o (Ty.mk q s) t)]),x))) λj718=>dH (dX a1.al4 f) λy=>dH (gz y) λA=>if A then dV (eE i) λB C=>dH (fc B) λa=>gG (fN c [a.al0])<|j718 (fU c [a.al0]) a.alX a.al0 a.dN.alX a.dN.alY a.alY C else j718 c 0 0 0 [] [] i else some (.y7 (c,f,h,i))):((List Int)×Int×(List Tm)×dT)->(Option (gq ((List Int)×Int×(List Tm)×dT) (er×(List Int)×dT)))) λD=>dH (j0 D FU (b,0,[],j)) (fO (ZZ λ(c:List Int) (f:Int) (h:List Tm) (i:dT)=>some ((er.mk a1 d h),c,i)) (λr=>some r))) (λr=>some r))
def oO(a0:List Tm)(a1:Tm):Option (List Tm):=gG (fN [] a0)<|gG (fN (fU [] a0) [a1])<|some (fU (fU [] a0) [a1])
def eJ:Nat->dT->Tm->(List Tm)->Option (Tm×dT)
 |0,_,_,_=>none|n+1,a0,a1,a2=>if eo a1.alX 1 then dH (dX a2 (fL .i64 (fL .i64 (eA a2) 1) a1.al0)) λl=>some (l,a0)else if eo a1.alX 2 then dV (eE a0) λc d57=>dH (dX a1.alY 0) λh=>dH (fc c) λi=>dH (oO a2 i) λj=>dV (eJ n d57 h j) λk d93=>some ((Tm.mk a1.alX c a1.dN [k]),d93)else ej ((Vr λ(v210:Int) (a:List Tm) (v212:dT)=>if pg v210 (eA a1.alY)then dH (dX a1.alY v210) λd=>dV (eJ n v212 d a2) λb d241=>gG (fN a [b])<|some (.next ((eW .i64 v210 1),(fU a [b]),d241))else some (.y7 (v210,a,v212))):(Int×(List Tm)×dT)->(Option (gq (Int×(List Tm)×dT) (Tm×dT)))) λf=>dH (j0 f FU (0,[],a0)) (fO (Vr λ(v210:Int) (a:List Tm) (v212:dT)=>some ((Tm.mk a1.alX 0 a1.dN a),v212)) (λr=>some r))
def e8(a0:dT)(a1:er)(a2:Pf):Option (Fm×dT):=dV (ns a0.lemmas a1.iz a2) λa b=>some (a.d_,a0)
def iu(a0:er)(a1:Fm)(a2:Tm):Option er:=dH (oO a0.al4 a2) λa=>gG (fN [] a0.iz.al4)<|gG (fN (fU [] a0.iz.al4) [a1])<|some (er.mk (Sq.mk a0.iz.al1 (fU (fU [] a0.iz.al4) [a1])) a0.vars a)
def iC(a0:Ty)(a1:Int)(a2:Tm):Option Tm:=some (Tm.mk 2 a1 a0 [a2])
def j5(a0 a1:Tm):Option Tm:=dH (gY 3 [a0,a1]) λa=>some a
def oL(a0:Fm)(a1 a2:Int):Option (Fm×Int):=dH (j8 a0) λh=>if eL h 0 then some ((Fm.mk 0 (Ty.mk 0 []) [] []),h)else ej (λ(b:Bool)=>if b then some ((Fm.mk 0 (Ty.mk 0 []) [] []),1)else dH (iD FU a0 a1 a2) λc=>dH (lQ FU c) λd=>some (d,0)) λa=>if pg a1 0 then a true else if pj a1 4096 then a true else if pg a2 0 then a true else if pj a2 4096 then a true else dH (ot FU a0 536870912) λf=>a (lV f)
def h8(a0:er)(a1:Ty)(a2:Tm):Option er:=dH (oO a0.vars a2) λh=>gG (fN [] a0.iz.al1)<|gG (fN (fU [] a0.iz.al1) [a1])<|ej ((yn λ(v117:Int) (a:List Fm)=>if pg v117 (eA a0.iz.al4)then dH (dX a0.iz.al4 v117) λc=>dV (oL c 0 1) λb f=>gG (fN a [b])<|some (.next ((eW .i64 v117 1),(fU a [b])))else some (.y7 (v117,a))):(Int×(List Fm))->(Option (gq (Int×(List Fm)) (er)))) λd=>dH (j0 d FU (0,[])) (fO (yn λ(v117:Int) (a:List Fm)=>some (er.mk (Sq.mk (fU (fU [] a0.iz.al1) [a1]) a) h a0.al4)) (λr=>some r))
def la:Nat->Ty->Option Tm
 |0,_=>none|n+1,a0=>if eo a0.alX 1 then dH (fT 4 []) λo=>some o else if eo a0.alX 2 then dH (fT 7 []) λq=>some q else if eo a0.alX 3 then dH (dX a0.alY 0) λa=>dH (la n a) λb=>dH (dX a0.alY 1) λc=>dH (la n c) λd=>dH (fT 10 [b,d]) λf=>some f else if eo a0.alX 4 then dH (dX a0.alY 0) λh=>dH (dX a0.alY 1) λi=>dH (la n i) λj=>dH (lG 2 h [j]) λk=>some k else dH (fT 13 []) λl=>some l
def uf(a0:Ty):Option (Tm×Int):=dH (iq a0) λb=>if eL b 0 then some ((Tm.mk 0 0 (Ty.mk 0 []) []),b)else dH (la FU a0) λa=>some (a,0)
def mg(a0:Ty):Option Tm:=dV (uf a0) λa b=>some a
def oS:Option Ty:=some (Ty.mk 1 [])
def pw(a0:er)(a1:Pf)(a2:List Int)(a3:Tm):Option er:=if eo a1.alX 16 then dH (oS) λo=>dH (dX a2 0) λq=>dH (fc q) λr=>dH (h8 a0 o r) λs=>dH (dX a1.fZ 0) λt=>dH (iu s t a3) λu=>some u else dH (dX a1.fZ 0) λa=>dV (oL a 1 1) λb v=>dH (oS) λc=>dH (dX a2 0) λd=>dH (fc d) λf=>dH (h8 a0 c f) λh=>dH (pN) λi=>dH (dX a2 1) λj=>dH (fc j) λk=>dH (h8 h i k) λl=>dH (iu l b a3) λn=>some n
def tK(a0:Pf)(a1:Ty)(a2 a3 a4:Tm):Option Tm:=some (Tm.mk (fp (eo a0.alX 17) 9 6) 0 a1 [a2,a3,a4])
def pJ:Nat->Tm->Option Int
 |0,_=>none|n+1,a0=>ej ((yn λ(a:Int) (v46:Int)=>if pg v46 (eA a0.alY)then dH (dX a0.alY v46) λb=>dH (pJ n b) λc=>some (.next ((eW .i64 a c),(eW .i64 v46 1)))else some (.y7 (a,v46))):(Int×Int)->(Option (gq (Int×Int) (Int)))) λd=>dH (j0 d FU (1,0)) (fO (yn λ(a:Int) (v46:Int)=>some a) (λr=>some r))
def nt(a0:Tm)(a1:Int):Option (Tm×Int):=if eL a1 0 then some ((Tm.mk 0 0 (Ty.mk 0 []) []),a1)else dH (pJ FU a0) λa=>if pj a 4096 then some ((Tm.mk 0 0 (Ty.mk 0 []) []),4)else some (a0,0)
mutual
def eg:Nat->dT->er->Pf->Option (Tm×Int×dT)
 |0,_,_,_=>none|n+1,a0,a1,a2=>eT (j4 n a0 a1 a2) λc d d7=>dV (nt c d) λa b=>some (a,b,d7)
def j4:Nat->dT->er->Pf->Option (Tm×Int×dT)
 |0,_,_,_=>none|n+1,a0,a1,a2=>if eo a2.alX 1 then dH (dX a1.al4 (fL .i64 (fL .i64 (eA a1.al4) 1) a2.al0)) λay=>some (ay,0,a0)else if eo a2.alX 2 then dH (dX a0.ei a2.al0) λaz=>dV (eJ FU a0 az []) λaA aB=>some (aA,0,aB)else if eo a2.alX 3 then dH (dX a2.alY 0) λu=>dV (e8 a0 a1 u) λaC aD=>dH (gz aC) λaE=>dH (dX a2.alY 1) λo=>dV (e8 aD a1 o) λaF v=>dH (gz aF) λaG=>if aE then eT (eg n v a1 u) λw x y=>if fp (eL x 0) true (lV aG)then some (w,x,y)else eT (eg n y a1 o) λaH aI aJ=>dH (gY 10 [w,aH]) λaK=>some (aK,aI,aJ)else eT (eg n v a1 o) λaL aM aN=>some (aL,aM,aN)else if fp (eo a2.alX 4) true (eo a2.alX 5)then dH (dX a2.alY 0) λA=>dV (e8 a0 a1 A) λB aO=>eT (eg n aO a1 A) λb C aP=>ej (λ(aQ:Int) (aR:Int) (aS:Int) (aT:List Ty) (aU:List Tm)=>some ((Tm.mk aQ aR (Ty.mk aS aT) aU),C,aP)) λD=>ej (λ(aV:Bool)=>if aV then dH (gY (fp (eo a2.alX 5) 12 11) [b]) λd=>D d.alX d.al0 d.dN.alX d.dN.alY d.alY else D b.alX b.al0 b.dN.alX b.dN.alY b.alY) λq=>if eo C 0 then dH (dX B.alY 0) λaW=>dH (gz aW) λaX=>if aX then dH (dX B.alY 1) λaY=>dH (gz aY) λaZ=>q aZ else q false else q false else if eo a2.alX 6 then dH (dX a2.fZ 0) λj=>dH (gz j) λa6=>if a6 then dV (jt j) λa7 F=>if eL F 0 then some ((Tm.mk 0 0 (Ty.mk 0 []) []),F,a0)else dV (eE a0) λG a8=>dH (fc G) λa_=>dH (iu a1 j a_) λa'=>dH (dX a2.alY 0) λba=>eT (eg n a8 a' ba) λbb bc bd=>dH (iC a7 G bb) λbf=>some (bf,bc,bd)else dH (iu a1 j (Tm.mk 0 0 (Ty.mk 0 []) [])) λbg=>dH (dX a2.alY 0) λbh=>eT (eg n a0 bg bh) λbj bk bl=>some (bj,bk,bl)else if eo a2.alX 7 then dH (dX a2.alY 0) λH=>eT (eg n a0 a1 H) λI J K=>ej (λ(bm:Bool) (L:dT)=>if bm then some (I,J,L)else dH (dX a2.alY 1) λbn=>eT (eg n L a1 bn) λbo bp bq=>dH (j5 I bo) λbr=>some (br,bp,bq)) λM=>if eL J 0 then M true K else dV (e8 K a1 H) λbs bt=>dH (dX bs.alY 0) λbu=>dH (gz bu) λbw=>M (lV bw) bt else if eo a2.alX 8 then dV (eE a0) λN bz=>dH (fc N) λbA=>dH (h8 a1 a2.dN bA) λbB=>dH (dX a2.alY 0) λbC=>eT (eg n bz bB bC) λbD bE bF=>dH (iC a2.dN N bD) λbG=>some (bG,bE,bF)else if eo a2.alX 9 then dH (dX a2.alY 0) λbH=>eT (eg n a0 a1 bH) λbI bJ bK=>dH (dX a2.ei 0) λbL=>dV (eJ FU bK bL a1.vars) λbM bN=>dH (j5 bI bM) λbO=>some (bO,bJ,bN)else if eo a2.alX 10 then dH (dX a2.ei 0) λbP=>dV (eJ FU a0 bP a1.vars) λO P=>dH (dX a2.fZ 0) λbQ=>dH (dX bQ.alY 0) λbR=>dH (gz bR) λbS=>if bS then dH (dX a2.alY 0) λbT=>eT (eg n P a1 bT) λbU bV bW=>dH (gY 10 [O,bU]) λbX=>some (bX,bV,bW)else some (O,0,P)else if eo a2.alX 11 then dH (dX a2.alY 0) λQ=>dV (e8 a0 a1 Q) λc bY=>eT (eg n bY a1 Q) λbZ R S=>if eL R 0 then some ((Tm.mk 0 0 (Ty.mk 0 []) []),R,S)else dV (eE S) λk T=>dH (fc k) λf=>ej (λ(b0:Int) (b1:List Ty) (b2:Int) (b3:Int) (b4:Int) (b5:List Ty) (b6:List Tm) (b7:Int) (b8:Int) (b9:Int) (b_:List Ty) (b':List Tm)=>dH (h8 a1 c.dN (Tm.mk b2 b3 (Ty.mk b4 b5) b6)) λca=>dH (dX c.alY 0) λcb=>dH (iu ca cb (Tm.mk b7 b8 (Ty.mk b9 b_) b')) λcc=>dH (dX a2.alY 1) λcd=>eT (eg n T cc cd) λcf cg ch=>dH (iC (Ty.mk b0 b1) k cf) λcj=>dH (j5 cj bZ) λck=>some (ck,cg,ch)) λU=>dH (dX c.alY 0) λcm=>dH (gz cm) λcn=>if cn then dV (jt c) λV W=>if eL W 0 then some ((Tm.mk 0 0 (Ty.mk 0 []) []),W,T)else dH (fc k) λcp=>dH (gY 11 [cp]) λh=>dH (fc k) λcq=>dH (gY 12 [cq]) λi=>U V.alX V.alY h.alX h.al0 h.dN.alX h.dN.alY h.alY i.alX i.al0 i.dN.alX i.dN.alY i.alY else U c.dN.alX c.dN.alY f.alX f.al0 f.dN.alX f.dN.alY f.alY 0 0 0 [] [] else if eo a2.alX 12 then dH (mg a2.dN) λcr=>dV (eJ FU a0 cr []) λcu cw=>dH (h8 a1 a2.dN cu) λcx=>dH (dX a2.alY 0) λcy=>eT (eg n cw cx cy) λcz cA cB=>some (cz,cA,cB)else if eo a2.alX 15 then dH (dX a2.alY 0) λX=>dV (e8 a0 a1 X) λa cD=>dH (mg a.dN) λcE=>dV (eJ FU cD cE []) λY Z=>dH (gz a) λcF=>if cF then eT (eg n Z a1 X) λcG ad r=>if eL ad 0 then some ((Tm.mk 0 0 (Ty.mk 0 []) []),ad,r)else dV (jt a) λcH ae=>if eL ae 0 then some ((Tm.mk 0 0 (Ty.mk 0 []) []),ae,r)else dV (eE r) λaf cI=>dH (h8 a1 a.dN Y) λcJ=>dH (dX a.alY 0) λcK=>dH (fc af) λcL=>dH (iu cJ cK cL) λcM=>dH (dX a2.alY 1) λcN=>eT (eg n cI cM cN) λcO cP cQ=>dH (iC cH af cO) λcR=>dH (j5 cR cG) λcS=>some (cS,cP,cQ)else dH (h8 a1 a.dN Y) λcT=>dH (dX a.alY 0) λcU=>dH (iu cT cU (Tm.mk 0 0 (Ty.mk 0 []) [])) λcV=>dH (dX a2.alY 1) λcW=>eT (eg n Z cV cW) λcX cY cZ=>some (cX,cY,cZ)else if fp (eo a2.alX 16) true (eo a2.alX 17)then Pe (kb n a0 a1 a2) λc0 c1 c2 ah ai=>if eL ah 0 then some ((Tm.mk 0 0 (Ty.mk 0 []) []),ah,ai)else dH (dX a2.ei 0) λc4=>dV (eJ FU ai c4 a1.vars) λc6 c7=>dH (tK a2 c0 c1 c2 c6) λc8=>some (c8,0,c7)else if eo a2.alX 19 then dH (dX a2.alY 1) λc9=>eT (eg n a0 a1 c9) λc_ c' da=>some (c_,c',da)else if eo a2.alX 20 then dH (dX a2.alY 0) λak=>eT (eg n a0 a1 ak) λan ao db=>dV (e8 db a1 ak) λl s=>ej (λ(dc:Bool)=>if dc then some (an,ao,s)else dV (jt l) λdd aq=>if eL aq 0 then some ((Tm.mk 0 0 (Ty.mk 0 []) []),aq,s)else dV (eE s) λt de=>dV (eE de) λar df=>dV (eE df) λaw dg=>dH (fc t) λdh=>dH (fc ar) λdi=>dH (j5 dh di) λdj=>dH (gY 11 [dj]) λdk=>dH (iC l.dN ar dk) λdm=>dH (fc t) λdn=>dH (fc aw) λdp=>dH (j5 dn dp) λdq=>dH (gY 12 [dq]) λdr=>dH (iC l.dN aw dr) λds=>dH (gY 10 [dm,ds]) λdt=>dH (iC dd t dt) λdu=>dH (j5 du an) λdv=>some (dv,0,dg)) λax=>if eL ao 0 then ax true else dH (dX l.alY 0) λdw=>dH (dX dw.alY 0) λdx=>dH (gz dx) λdy=>ax (lV dy)else dH (dX a2.alY 0) λdz=>eT (eg n a0 a1 dz) λdA dB dC=>some (dA,dB,dC)
def kb:Nat->dT->er->Pf->Option (Ty×Tm×Tm×Int×dT)
 |0,_,_,_=>none|n+1,a0,a1,a2=>dH (dX a2.fZ 0) λD=>dV (jt D) λB C=>if eL C 0 then some ((Ty.mk 0 []),(Tm.mk 0 0 (Ty.mk 0 []) []),(Tm.mk 0 0 (Ty.mk 0 []) []),C,a0)else dH (dX a2.alY 0) λu=>eT (eg n a0 a1 u) λv d d33=>if eL d 0 then some ((Ty.mk 0 []),(Tm.mk 0 0 (Ty.mk 0 []) []),(Tm.mk 0 0 (Ty.mk 0 []) []),d,d33)else dV (eE d33) λf d45=>dV (eE d45) λh d48=>dV (eE d48) λi d51=>dH (fc i) λw=>dH (pw a1 a2 [f,h] w) λx=>dH (dX a2.alY 1) λy=>eT (eg n d51 x y) λA j d91=>if eL j 0 then some ((Ty.mk 0 []),(Tm.mk 0 0 (Ty.mk 0 []) []),(Tm.mk 0 0 (Ty.mk 0 []) []),j,d91)else dH (iC B i A) λb=>ej (λ(k:Int) (v109:Int) (l:Int) (o:List Ty) (q:List Tm)=>dH (oS) λr=>dH (iC r f (Tm.mk k v109 (Ty.mk l o) q)) λs=>some (B,v,s,0,d91)) λc=>if eo a2.alX 17 then dH (pN) λt=>dH (iC t h b) λa=>c a.alX a.al0 a.dN.alX a.dN.alY a.alY else c b.alX b.al0 b.dN.alX b.dN.alY b.alY
end
def jz:Nat->Tm->(List Int)->Option Tm
 |0,_,_=>none|n+1,a0,a1=>if eo a0.alX 1 then ej ((λ(v212:Int)=>if qa v212 0 then dH (dX a1 v212) λd=>if eo d a0.al0 then dH (fc (fL .i64 (fL .i64 (eA a1) 1) v212)) λf=>some (.ret f)else some (.next (fL .i64 v212 1))else some (.y7 v212)):(Int)->(Option (gq (Int) (Tm)))) λh=>dH (j0 h FU (fL .i64 (eA a1) 1)) (fO (λ(v212:Int)=>some a0) (λr=>some r))else ej (λ(i:List Int)=>ej ((yn λ(a:Int) (b:List Tm)=>if pg a (eA a0.alY)then dH (dX a0.alY a) λj=>dH (jz n j i) λc=>gG (fN b [c])<|some (.next ((eW .i64 a 1),(fU b [c])))else some (.y7 (a,b))):(Int×(List Tm))->(Option (gq (Int×(List Tm)) (Tm)))) λk=>dH (j0 k FU (0,[])) (fO (yn λ(a:Int) (b:List Tm)=>some (Tm.mk a0.alX 0 a0.dN b)) (λr=>some r))) λj252=>if eo a0.alX 2 then gG (fN [] a1)<|gG (fN (fU [] a1) [a0.al0])<|j252 (fU (fU [] a1) [a0.al0])else j252 a1
def nE(a0:List Fm)(a1:List Tm)(a2:Sq)(a3:Pf):Option (Tm×Int):=dV (ns a0 a2 a3) λk j=>if eL j 0 then some ((Tm.mk 0 0 (Ty.mk 0 []) []),j)else dH (vJ a0 a1) λa=>if eL a 0 then some ((Tm.mk 0 0 (Ty.mk 0 []) []),a)else dH (gz k.d_) λc=>if c then eT (lY (dT.mk a0 a1 0) a2) λd f d29=>eT (eg FU d29 d a3) λh b d37=>if eL b 0 then some ((Tm.mk 0 0 (Ty.mk 0 []) []),b)else dH (jz FU h f) λi=>some (i,0)else some ((Tm.mk 0 0 (Ty.mk 0 []) []),40)
def r6:Nat->Vl->Option Bool
 |0,_=>none|n+1,a0=>if eo a0.alX 1 then some (fp (qa a0.num 0) (fp (eo (eA a0.list) 0) (eo (eA a0.alY) 0) false) false)else if eo a0.alX 2 then gG (eX a0.list)<|ej (λ(k:Int) (b:Int)=>(λ(_:Unit)=>if pg b 0 then some (.ret false)else some (.next ())):Int->Int->(Unit)->(Option (gq (Unit) (Bool)))) λc=>dH (fw c a0.list 0 ()) (fO (λ(_:Unit)=>some (fp (eo a0.num 0) (eo (eA a0.alY) 0) false)) (λr=>some r))else if eo a0.alX 4 then some (fp (eo a0.num 0) (fp (eo (eA a0.list) 0) (eo (eA a0.alY) 0) false) false)else if eo a0.alX 3 then ej (λ(d:Bool)=>some d) λa=>if eo a0.num 0 then if eo (eA a0.list) 0 then if eo (eA a0.alY) 2 then dH (dX a0.alY 0) λf=>dH (r6 n f) λh=>if h then dH (dX a0.alY 1) λi=>dH (r6 n i) λj=>a j else a false else a false else a false else a false else some false
def xy:Nat->Vl->Option Int
 |0,_=>none|n+1,a0=>gG (eX a0.alY)<|ej (λ(f:Int) (b:Vl)=>(λ(a:Int)=>dH (xy n b) λc=>some (.next (eW .i64 a c))):Int->Vl->(Int)->(Option (gq (Int) (Int)))) λd=>dH (fw d a0.alY 0 1) (fO (λ(a:Int)=>some a) (λr=>some r))
def xC(a0:Vl):Option Int:=dH (r6 FU a0) λb=>if b then dH (xy FU a0) λa=>if pj a 64 then some 4 else some 0 else some 2
def uQ:Nat->Vl->Option Ty
 |0,_=>none|n+1,a0=>if eo a0.alX 1 then dH (jD) λa=>some a else if eo a0.alX 2 then dH (my) λb=>some b else if eo a0.alX 3 then dH (dX a0.alY 0) λc=>dH (uQ n c) λd=>dH (dX a0.alY 1) λf=>dH (uQ n f) λh=>dH (tp d h) λi=>some i else dH (tC) λj=>some j
def p_(a0:Vl):Option (Ty×Int):=dH (xC a0) λb=>if eL b 0 then some ((Ty.mk 0 []),b)else dH (uQ FU a0) λa=>some (a,0)
def p4:Nat->Ty->Option Int
 |0,_=>none|n+1,a0=>if eo a0.alX 3 then dH (dX a0.alY 0) λf=>dH (p4 n f) λh=>dH (dX a0.alY 1) λi=>dH (p4 n i) λj=>some (imax h j)else if eo a0.alX 4 then dH (dX a0.alY 0) λa=>dH (p4 n a) λb=>dH (dX a0.alY 1) λc=>dH (p4 n c) λd=>some (imax (eW .i64 b 1) d)else some 0
def yV(a0:Ty):Option (Bool×Int):=dH (iq a0) λb=>if eL b 0 then some (false,b)else dH (p4 FU a0) λa=>some ((eo a 0),0)
mutual
def fB:Nat->dW->Tm->(List dJ)->Option (dJ×dW)
 |0,_,_,_=>none|n+1,a0,a1,a2=>if fp a0.out true (eo a0.used a0.qN)then some ((dJ.mk 0 [] [] (Tm.mk 0 0 (Ty.mk 0 []) []) []),(dW.mk a0.used a0.qN true))else if eo a1.alX 1 then dH (dX a2 (fL .i64 (fL .i64 (eA a2) 1) a1.al0)) λbc=>some (bc,(dW.mk (eW .i64 a0.used 1) a0.qN a0.out))else if eo a1.alX 2 then dH (dX a1.alY 0) λbd=>some ((dJ.mk 0 [] [] bd a2),(dW.mk (eW .i64 a0.used 1) a0.qN a0.out))else gG (eX a1.alY)<|ej (λ(bg:Int) (bf:Tm)=>(yn λ(v105:List dJ) (i:dW)=>dV (fB n i bf a2) λV d127=>gG (fN v105 [V])<|if d127.out then some (.ret ((dJ.mk 0 [] [] (Tm.mk 0 0 (Ty.mk 0 []) []) []),d127))else some (.next ((fU v105 [V]),d127))):Int->Tm->((List dJ)×dW)->(Option (gq ((List dJ)×dW) (dJ×dW)))) λbb=>dH (fw bb a1.alY 0 ([],(dW.mk (eW .i64 a0.used 1) a0.qN a0.out))) (fO (yn λ(v105:List dJ) (i:dW)=>if eo a1.alX 3 then dH (dX v105 0) λW=>dH (dX v105 1) λX=>dV (eI n i W X) λY Z=>some (Y,Z)else if eo a1.alX 5 then dH (dX v105 0) λad=>some ((dJ.mk (eW .i64 ad.num 1) [] [] (Tm.mk 0 0 (Ty.mk 0 []) []) []),i)else if eo a1.alX 6 then dH (dX v105 0) λb=>ej ((Lz λ(k:Int) (l:Int) (o:List Int) (q:List dJ) (s:Int) (t:Int) (u:Int) (v:List Ty) (w:List Tm) (x:List dJ) (y:dW)=>ej (λ(ae:Bool)=>if ae then ej (λ(af:Int) (ah:List Int) (ai:List dJ) (ak:Int) (an:Int) (ao:Int) (aq:List Ty) (ar:List Tm) (aw:List dJ) (ax:dW)=>some (.next ((eW .i64 k 1),af,ah,ai,ak,an,ao,aq,ar,aw,ax))) λP=>dH (dX v105 1) λay=>dV (eI n y ay (dJ.mk k [] [] (Tm.mk 0 0 (Ty.mk 0 []) []) [])) λaz M=>if M.out then P l o q s t u v w x M else dV (eI n M az (dJ.mk l o q (Tm.mk s t (Ty.mk u v) w) x)) λc aA=>P c.num c.list c.pair c.body.alX c.body.al0 c.body.dN.alX c.body.dN.alY c.body.alY c.env aA else some (.y7 (k,l,o,q,s,t,u,v,w,x,y))) λQ=>dH (dX v105 2) λaB=>if pg k aB.num then Q (lV y.out)else Q false):(Int×Int×(List Int)×(List dJ)×Int×Int×Int×(List Ty)×(List Tm)×(List dJ)×dW)->(Option (gq (Int×Int×(List Int)×(List dJ)×Int×Int×Int×(List Ty)×(List Tm)×(List dJ)×dW) (dJ×dW)))) λaC=>dH (j0 aC FU (0,b.num,b.list,b.pair,b.body.alX,b.body.al0,b.body.dN.alX,b.body.dN.alY,b.body.alY,b.env,i)) (fO (Lz λ(k:Int) (l:Int) (o:List Int) (q:List dJ) (s:Int) (t:Int) (u:Int) (v:List Ty) (w:List Tm) (x:List dJ) (y:dW)=>some ((dJ.mk l o q (Tm.mk s t (Ty.mk u v) w) x),y)) (λr=>some r))else if eo a1.alX 8 then dH (dX v105 0) λR=>dH (dX v105 1) λS=>gG (fN [R.num] S.list)<|some ((dJ.mk 0 (fU [R.num] S.list) [] (Tm.mk 0 0 (Ty.mk 0 []) []) []),i)else if eo a1.alX 9 then dH (dX v105 0) λd=>dH (dX v105 2) λL=>ej ((Lz λ(j:Int) (A:Int) (B:List Int) (C:List dJ) (D:Int) (F:Int) (G:Int) (H:List Ty) (I:List Tm) (J:List dJ) (K:dW)=>if fp (qa j 0) (lV K.out) false then ej (λ(aD:Int) (aE:List Int) (aF:List dJ) (aG:Int) (aH:Int) (aI:Int) (aJ:List Ty) (aK:List Tm) (aL:List dJ) (aM:dW)=>some (.next ((fL .i64 j 1),aD,aE,aF,aG,aH,aI,aJ,aK,aL,aM))) λT=>dH (dX v105 1) λaN=>dH (dX L.list j) λaO=>dV (eI n K aN (dJ.mk aO [] [] (Tm.mk 0 0 (Ty.mk 0 []) []) [])) λa N=>ej (λ(aP:Int) (aQ:List Int) (aR:List dJ) (aS:Int) (aT:Int) (aU:Int) (aV:List Ty) (aW:List Tm) (aX:List dJ) (O:dW)=>if O.out then T A B C D F G H I J O else dV (eI n O (dJ.mk aP aQ aR (Tm.mk aS aT (Ty.mk aU aV) aW) aX) (dJ.mk A B C (Tm.mk D F (Ty.mk G H) I) J)) λf aY=>T f.num f.list f.pair f.body.alX f.body.al0 f.body.dN.alX f.body.dN.alY f.body.alY f.env aY) λU=>if N.out then U a.num a.list a.pair a.body.alX a.body.al0 a.body.dN.alX a.body.dN.alY a.body.alY a.env N else dH (tv L.list (eW .i64 j 1) (eA L.list)) λaZ=>dV (eI n N a (dJ.mk 0 aZ [] (Tm.mk 0 0 (Ty.mk 0 []) []) [])) λh a6=>U h.num h.list h.pair h.body.alX h.body.al0 h.body.dN.alX h.body.dN.alY h.body.alY h.env a6 else some (.y7 (j,A,B,C,D,F,G,H,I,J,K))):(Int×Int×(List Int)×(List dJ)×Int×Int×Int×(List Ty)×(List Tm)×(List dJ)×dW)->(Option (gq (Int×Int×(List Int)×(List dJ)×Int×Int×Int×(List Ty)×(List Tm)×(List dJ)×dW) (dJ×dW)))) λa7=>dH (j0 a7 FU ((fL .i64 (eA L.list) 1),d.num,d.list,d.pair,d.body.alX,d.body.al0,d.body.dN.alX,d.body.dN.alY,d.body.alY,d.env,i)) (fO (Lz λ(j:Int) (A:Int) (B:List Int) (C:List dJ) (D:Int) (F:Int) (G:Int) (H:List Ty) (I:List Tm) (J:List dJ) (K:dW)=>some ((dJ.mk A B C (Tm.mk D F (Ty.mk G H) I) J),K)) (λr=>some r))else if eo a1.alX 10 then some ((dJ.mk 0 [] v105 (Tm.mk 0 0 (Ty.mk 0 []) []) []),i)else if eo a1.alX 11 then dH (dX v105 0) λa8=>dH (dX a8.pair 0) λa_=>some (a_,i)else if eo a1.alX 12 then dH (dX v105 0) λa'=>dH (dX a'.pair 1) λba=>some (ba,i)else some ((dJ.mk 0 [] [] (Tm.mk 0 0 (Ty.mk 0 []) []) []),i)) (λr=>some r))
def eI:Nat->dW->dJ->dJ->Option (dJ×dW)
 |0,_,_,_=>none|n+1,a0,a1,a2=>gG (fN a1.env [a2])<|dV (fB n a0 a1.body (fU a1.env [a2])) λa d15=>some (a,d15)
end
def yS:Nat->Vl->Option dJ
 |0,_=>none|n+1,a0=>gG (eX a0.alY)<|ej (λ(f:Int) (c:Vl)=>(λ(a:List dJ)=>dH (yS n c) λb=>gG (fN a [b])<|some (.next (fU a [b]))):Int->Vl->(List dJ)->(Option (gq (List dJ) (dJ)))) λd=>dH (fw d a0.alY 0 []) (fO (λ(a:List dJ)=>some (dJ.mk a0.num a0.list a (Tm.mk 0 0 (Ty.mk 0 []) []) [])) (λr=>some r))
def og:Nat->dJ->Ty->Option Vl
 |0,_,_=>none|n+1,a0,a1=>if eo a1.alX 1 then some (Vl.mk 1 a0.num [] [])else if eo a1.alX 2 then gG (fN [] a0.list)<|some (Vl.mk 2 0 (fU [] a0.list) [])else if eo a1.alX 3 then dH (dX a0.pair 0) λa=>dH (dX a1.alY 0) λb=>dH (og n a b) λc=>dH (dX a0.pair 1) λd=>dH (dX a1.alY 1) λf=>dH (og n d f) λh=>some (Vl.mk 3 0 [] [c,h])else some (Vl.mk 4 0 [] [])
def iV(a0:Tm)(a1:List Vl)(a2:Int):Option (Vl×Int×Int):=dV (iZ [] a0) λx4 x5=>if eL x5 0 then some ((Vl.mk 0 0 [] []),0,x5)else gG (eX a1)<|ej (λ(ad:Int) (C:Vl)=>(yn λ(f:Int) (c:List Ty)=>dV (p_ C) λD x=>if eL x 0 then some (.ret ((Vl.mk 0 0 [] []),0,x))else ej (λ(F:Bool)=>if F then some (.ret ((Vl.mk 0 0 [] []),0,7))else dH (dX c 1) λy=>some (.next (y.alX,y.alY))) λA=>if eL f 4 then A true else dH (dX c 0) λG=>dH (fv FU G D) λH=>A (lV H)):Int->Vl->(Int×(List Ty))->(Option (gq (Int×(List Ty)) (Vl×Int×Int)))) λI=>dH (fw I a1 0 (x4.alX,x4.alY)) (fO (yn λ(f:Int) (c:List Ty)=>dV (yV (Ty.mk f c)) λJ ae=>if J then if fp (pg a2 0) true (pj a2 65536)then some ((Vl.mk 0 0 [] []),0,1)else dV (fB FU (dW.mk 0 a2 false) a0 []) λa u=>gG (eX a1)<|ej (λ(af:Int) (K:Vl)=>(Yn λ(h:Int) (i:List Int) (j:List dJ) (k:Int) (l:Int) (n:Int) (o:List Ty) (q:List Tm) (s:List dJ) (t:Int) (v:Int) (d:Bool)=>ej (λ(L:Int) (M:List Int) (N:List dJ) (O:Int) (P:Int) (Q:Int) (R:List Ty) (S:List Tm) (T:List dJ) (U:Int) (V:Int) (W:Bool)=>some (.next (L,M,N,O,P,Q,R,S,T,U,V,W))) λB=>if d then B h i j k l n o q s t v d else dH (yS FU K) λX=>dV (eI FU (dW.mk t v d) (dJ.mk h i j (Tm.mk k l (Ty.mk n o) q) s) X) λb w=>B b.num b.list b.pair b.body.alX b.body.al0 b.body.dN.alX b.body.dN.alY b.body.alY b.env w.used w.qN w.out):Int->Vl->(Int×(List Int)×(List dJ)×Int×Int×Int×(List Ty)×(List Tm)×(List dJ)×Int×Int×Bool)->(Option (gq (Int×(List Int)×(List dJ)×Int×Int×Int×(List Ty)×(List Tm)×(List dJ)×Int×Int×Bool) (Vl×Int×Int)))) λY=>dH (fw Y a1 0 (a.num,a.list,a.pair,a.body.alX,a.body.al0,a.body.dN.alX,a.body.dN.alY,a.body.alY,a.env,u.used,u.qN,u.out)) (fO (Yn λ(h:Int) (i:List Int) (j:List dJ) (k:Int) (l:Int) (n:Int) (o:List Ty) (q:List Tm) (s:List dJ) (t:Int) (v:Int) (d:Bool)=>if d then some ((Vl.mk 0 0 [] []),0,5)else dH (og FU (dJ.mk h i j (Tm.mk k l (Ty.mk n o) q) s) (Ty.mk f c)) λZ=>some (Z,t,0)) (λr=>some r))else some ((Vl.mk 0 0 [] []),0,7)) (λr=>some r))
def uU:Option Bool:=dH (fc 0) λy=>dH (gY 5 [y]) λA=>dH (iN (Ty.mk 1 []) A) λb=>dH (fc 0) λB=>dH (gY 5 [B]) λC=>dH (iN (Ty.mk 1 []) C) λD=>dH (iN (Ty.mk 1 []) D) λF=>dH (pN) λG=>dH (fc 0) λH=>dH (gY 5 [H]) λI=>dH (iN (Ty.mk 1 []) I) λJ=>dH (iN G J) λc=>dH (iN (Ty.mk 1 []) c) λd=>eT (vh b) λf a h=>eT (zu b a b a) λK L i=>dH (rD 0) λj=>eT (qj j F) λM N k=>dH (rD 0) λl=>eT (tX l d) λO P n=>dH (rD 0) λo=>dH (rD 1) λq=>dH (pQ) λr=>eT (oV o q r) λQ s t=>dV (nE [] [] (Sq.mk [] []) s) λu v=>eT (iV u [(Vl.mk 1 5 [] [])] 20000) λw R x=>some (fp (eo h 0) (fp (eo i 0) (fp (eo k 0) (fp (eo n 0) (fp (eo t 0) (fp (eo v 0) (fp (eo x 0) (fp (eo f.alX 4) (eo w.num 5) false) false) false) false) false) false) false) false)
def JI(a0:List Int):Option Bool:=some (Zv (eA a0) 500)
def Rz(l:List Int):Option eR:=some ⟨l,0⟩
def EA:Option Ty:=dH (oS) λa=>some a
def Em(a0:List Ty)(a1:Ty):Option (List Int):=gG (eX a0)<|ej (λ(b:Int) (i:Ty)=>(λ(a:List Int)=>ej (λ(c:List Int)=>some (.next c)) λj201=>dH (dX a0 (fL .i64 (fL .i64 (eA a0) 1) b)) λd=>dH (fv FU d a1) λf=>if f then gG (fN a [b])<|j201 (fU a [b])else j201 a):Int->Ty->(List Int)->(Option (gq (List Int) (List Int)))) λh=>dH (fw h a0 0 []) (fO (λ(a:List Int)=>some a) (λr=>some r))
def Jx(a0 a1:Int):Option Int:=gG (Mf a1)<|gG (Mf a1)<|some (Wv .i64 (eW .i64 (Wv .i64 a0 a1) a1) a1)
def ir(a0:eR)(a1:Int):Option (Int×eR):=if fp (pg a1 1) true (qa a0.AM (eA a0.l))then some (0,a0)else dH (dX a0.l a0.AM) λa=>dH (Jx a a1) λb=>some (b,(eR.mk a0.l (eW .i64 a0.AM 1)))
def nN:Nat->eR->Int->Option (Ty×eR)
 |0,_,_=>none|n+1,a0,a1=>ej (λ(i:eR)=>dH (jD) λc=>some (c,i)) λb=>dV (ir a0 7) λa d63=>if fp (eo a 0) true (fp (eo a 1) true (eo a 2))then dH (jD) λj=>some (j,d63)else if eo a 3 then dH (my) λk=>some (k,d63)else if eo a 4 then dH (tC) λl=>some (l,d63)else if eo a 5 then if pj a1 0 then dV (nN n d63 (fL .i64 a1 1)) λo d89=>dV (nN n d89 (fL .i64 a1 1)) λq d92=>dH (tp o q) λr=>some (r,d92)else b d63 else if eo a 6 then if pj a1 0 then dV (nN n d63 (fL .i64 a1 1)) λd d105=>dV (nN n d105 (fL .i64 a1 1)) λf d108=>dH (k6 d f) λh=>some (h,d108)else b d63 else b d63
def rL(a0 a1:List Ty):Option (List Ty):=gG (fN [] a0)<|gG (fN (fU [] a0) a1)<|some (fU (fU [] a0) a1)
def zG(a0:Tm)(a1:List Tm):Option Tm:=gG (eX a1)<|ej (λ(j:Int) (h:Tm)=>(un5 λ(b:Int) (c:Int) (v46:Int) (d:List Ty) (f:List Tm)=>dH (fT 3 [(Tm.mk b c (Ty.mk v46 d) f),h]) λa=>some (.next (a.alX,a.al0,a.dN.alX,a.dN.alY,a.alY))):Int->Tm->(Int×Int×Int×(List Ty)×(List Tm))->(Option (gq (Int×Int×Int×(List Ty)×(List Tm)) (Tm)))) λi=>dH (fw i a1 0 (a0.alX,a0.al0,a0.dN.alX,a0.dN.alY,a0.alY)) (fO (un5 λ(b:Int) (c:Int) (v46:Int) (d:List Ty) (f:List Tm)=>some (Tm.mk b c (Ty.mk v46 d) f)) (λr=>some r))
def xd:Option Tm:=dH (fT 4 []) λa=>dH (gD 1) λb=>dH (j3 b) λc=>dH (j3 c) λd=>dH (gD 0) λf=>dH (tP a d f) λh=>dH (j3 h) λi=>some i
def rK:Option Tm:=dH (gD 1) λa=>dH (xd) λb=>dH (gD 0) λc=>dH (fT 3 [b,c]) λd=>dH (j3 d) λf=>dH (j3 f) λh=>dH (gD 0) λi=>dH (tP a h i) λj=>dH (j3 j) λk=>dH (j3 k) λl=>some l
def ik:Nat->eR->(List Ty)->Ty->Int->Option (Tm×eR)
 |0,_,_,_,_=>none|n+1,a0,a1,a2,a3=>dH (Em a1 a2) λx3=>ej (λ(v37:Bool) (u:eR)=>if v37 then dV (ir u (eA x3)) λbK d51=>dH (dX x3 bK) λbL=>dH (gD bL) λbM=>some (bM,d51)else ej (λ(b:eR)=>if eo a2.alX 1 then ej (λ(v:eR)=>dV (ir v 3) λw x=>dH (rD w) λy=>some (y,x)) λi=>if pj a3 0 then dV (ir b 5) λf d=>if eo f 0 then dV (ik n d a1 a2 (fL .i64 a3 1)) λA B=>dH (fT 5 [A]) λC=>some (C,B)else if eo f 1 then dH (pQ) λD=>dV (ik n d a1 a2 (fL .i64 a3 1)) λF G=>dV (ik n G a1 a2 (fL .i64 a3 1)) λH I=>dH (zG D [F,H]) λJ=>some (J,I)else if eo f 2 then dH (rK) λK=>dV (ik n d a1 a2 (fL .i64 a3 1)) λL M=>dV (ik n M a1 a2 (fL .i64 a3 1)) λN O=>dH (zG K [L,N]) λP=>some (P,O)else i d else i b else if eo a2.alX 2 then ej (λ(Q:Bool) (j:eR)=>if Q then dH (jD) λR=>dV (ik n j a1 R (fL .i64 a3 1)) λS T=>dV (ik n T a1 a2 (fL .i64 a3 1)) λU V=>dH (fT 8 [S,U]) λW=>some (W,V)else dH (fT 7 []) λX=>some (X,j)) λk=>if pj a3 0 then dV (ir b 2) λY Z=>k (eo Y 0) Z else k false b else if eo a2.alX 3 then dH (dX a2.alY 0) λad=>dV (ik n b a1 ad (fL .i64 a3 1)) λae af=>dH (dX a2.alY 1) λah=>dV (ik n af a1 ah (fL .i64 a3 1)) λai ak=>dH (fT 10 [ae,ai]) λan=>some (an,ak)else if eo a2.alX 4 then dH (dX a2.alY 0) λl=>dH (rL a1 [l]) λao=>dH (dX a2.alY 1) λaq=>dV (ik n b ao aq (fL .i64 a3 1)) λar aw=>dH (lG 2 l [ar]) λax=>some (ax,aw)else dH (fT 13 []) λay=>some (ay,b)) λo=>if pj a3 0 then dV (ir u 8) λc a=>if eo c 0 then dV (nN FU a 0) λq aI=>dH (rL a1 [q]) λaJ=>dV (ik n aI aJ a2 (fL .i64 a3 1)) λaK aL=>dH (lG 2 q [aK]) λaM=>dV (ik n aL a1 q (fL .i64 a3 1)) λaN aO=>dH (fT 3 [aM,aN]) λaP=>some (aP,aO)else if eo c 1 then dV (nN FU a 0) λaQ aR=>dV (ik n aR a1 a2 (fL .i64 a3 1)) λaS aT=>dV (ik n aT a1 aQ (fL .i64 a3 1)) λaU aV=>dH (fT 10 [aS,aU]) λaW=>dH (fT 11 [aW]) λaX=>some (aX,aV)else if eo c 2 then dH (jD) λaY=>dH (jD) λaZ=>dH (rL a1 [aZ,a2]) λa6=>dV (ik n a a6 a2 (fL .i64 a3 1)) λa7 a8=>dH (lG 2 a2 [a7]) λa_=>dH (lG 2 aY [a_]) λa'=>dV (ik n a8 a1 a2 (fL .i64 a3 1)) λba bb=>dV (ir bb 3) λbc bd=>dH (rD bc) λbf=>dH (lG 6 a2 [ba,a',bf]) λbg=>some (bg,bd)else if eo c 3 then dH (jD) λbh=>dH (my) λbj=>dH (jD) λbk=>dH (my) λbl=>dH (rL a1 [bk,bl,a2]) λbm=>dV (ik n a bm a2 (fL .i64 a3 1)) λbn bo=>dH (lG 2 a2 [bn]) λbp=>dH (lG 2 bj [bp]) λbq=>dH (lG 2 bh [bq]) λbr=>dV (ik n bo a1 a2 (fL .i64 a3 1)) λbs bt=>dH (my) λbu=>dV (ik n bt a1 bu (fL .i64 a3 1)) λbw bz=>dH (lG 9 a2 [bs,br,bw]) λbA=>some (bA,bz)else if eo c 4 then dV (nN FU a 0) λbB bC=>dV (ik n bC a1 bB (fL .i64 a3 1)) λbD bE=>dV (ik n bE a1 a2 (fL .i64 a3 1)) λbF bG=>dH (fT 10 [bD,bF]) λbH=>dH (fT 12 [bH]) λbI=>some (bI,bG)else if eo c 5 then gG (eX a1)<|ej (λ(t:Int) (bO:Ty)=>(λ(_:Unit)=>dH (dX a1 (fL .i64 (fL .i64 (eA a1) 1) t)) λh=>ej (λ(az:Bool)=>if az then dH (gD t) λaA=>dH (dX h.alY 0) λaB=>dV (ik n a a1 aB (fL .i64 a3 1)) λaC aD=>dH (fT 3 [aA,aC]) λaE=>some (.ret (aE,aD))else some (.next ())) λs=>if eo h.alX 4 then dH (dX h.alY 1) λaF=>dH (fv FU aF a2) λaG=>s aG else s false):Int->Ty->(Unit)->(Option (gq (Unit) (Tm×eR)))) λaH=>dH (fw aH a1 0 ()) (fO (λ(_:Unit)=>o a) (λr=>some r))else o a else o u) λbJ=>if pj (eA x3) 0 then dV (ir a0 3) λbN d41=>bJ (pj bN 0) d41 else bJ false a0
def hZ(a0:Int):Option Bool:=some (fp (eo a0 4) true (fp (eo a0 5) true (eo a0 3)))
def we(a0:Tm):Option Tm:=dH (gY 5 [a0]) λa=>some a
def yr(a0 a1 a2:Tm):Option Tm:=dH (fT 3 [a0,a1]) λa=>dH (fT 3 [a,a2]) λb=>some b
def su:Option Tm:=dH (pQ) λa=>dH (rK) λb=>dH (gD 1) λc=>dH (gD 0) λd=>dH (yr b c d) λf=>dH (rK) λh=>dH (gD 0) λi=>dH (gD 1) λj=>dH (yr h i j) λk=>dH (yr a f k) λl=>dH (j3 l) λn=>dH (j3 n) λo=>some o
def wQ(a0:eR):Option (Tm×eR):=dH (EA) λb=>dV (ir a0 6) λa d223=>if eo a 0 then dH (fc 0) λc=>dH (we c) λd=>dH (iN b d) λf=>dH (iN b f) λh=>some (h,d223)else if eo a 1 then dH (rK) λi=>dH (fc 1) λj=>dH (fc 0) λk=>dH (zG i [j,k]) λl=>dH (iN b l) λn=>dH (iN b n) λo=>some (o,d223)else if eo a 2 then dH (su) λq=>dH (fc 0) λr=>dV (ir d223 3) λs d355=>dH (rD s) λt=>dH (zG q [r,t]) λu=>dH (iN b u) λv=>dH (iN b v) λw=>some (w,d355)else if eo a 3 then dH (fc 1) λx=>dH (we x) λy=>dH (we y) λA=>dH (iN b A) λB=>dH (iN b B) λC=>some (C,d223)else if eo a 4 then dV (ik FU d223 [b,b] b 1) λD F=>dH (iN b D) λG=>dH (iN b G) λH=>some (H,F)else dH (pQ) λI=>dH (fc 0) λJ=>dH (fc 1) λK=>dH (zG I [J,K]) λL=>dH (iN b L) λM=>dH (iN b M) λN=>some (N,d223)
def mV(a0:List Int):Option Bool:=ej (λ(V:Bool)=>if V then dH (uU) λW=>some W else dH (Rz a0) λX=>dV (ir X 3) λn d49=>dV (ir d49 3) λJ d52=>dV (wQ d52) λo d55=>dH (rD n) λY=>eT (qj Y o) λao Z K=>dH (rD n) λL=>dH (rD J) λM=>eT (oV L M o) λan N q=>if fp (eL K 0) true (eL q 0)then ej (λ(v139:Bool)=>some v139) λs=>dH (hZ K) λO=>if O then s true else dH (hZ q) λP=>s P else dV (nE [] [] (Sq.mk [] []) Z) λQ t=>dV (nE [] [] (Sq.mk [] []) N) λR u=>if fp (eL t 0) true (eL u 0)then ej (λ(v183:Bool)=>some v183) λv=>dH (hZ t) λS=>if S then v true else dH (hZ u) λT=>v T else ej ((ZZ λ(b:Int) (c:Int) (d:Int) (a:Int)=>if pg a 4 then eT (iV Q [(Vl.mk 1 a [] [])] 20000) λw ad f=>eT (iV R [(Vl.mk 1 a [] [])] 20000) λx ae h=>if fp (eL f 0) true (eL h 0)then ej (λ(y:Bool)=>some (.ret y)) λi=>dH (hZ f) λA=>if A then i true else dH (hZ h) λB=>i B else if fp (eL w.num b) true (eL x.num c)then some (.ret false)else eT (iV o [(Vl.mk 1 a [] []),(Vl.mk 1 b [] [])] 20000) λC af j=>eT (iV o [(Vl.mk 1 c [] []),(Vl.mk 1 d [] [])] 20000) λD ah k=>if fp (eL j 0) true (eL k 0)then ej (λ(F:Bool)=>some (.ret F)) λl=>dH (hZ j) λG=>if G then l true else dH (hZ k) λH=>l H else some (.next (C.num,d,D.num,(eW .i64 a 1)))else some (.y7 (b,c,d,a))):(Int×Int×Int×Int)->(Option (gq (Int×Int×Int×Int) (Bool)))) λI=>dH (j0 I FU (n,n,J,0)) (fO (ZZ λ(b:Int) (c:Int) (d:Int) (a:Int)=>some true) (λr=>some r))) λU=>dH (uU) λai=>if ai then dH (JI a0) λak=>U (lV ak)else U true
def rF(a0:Tm)(a1 a b:Int):Option Tm:=dH (v_ a0 (eW .i64 a a1) b) λc=>some c
def qh(a0:Fm)(a1 a2:Int):Option Fm:=dV (gW FU a0 0 (λ(s:Unit) (a:Tm) (b:Int)=>yN (rF a b a1 a2) s) ()) λc d=>some c
end Go.fF
