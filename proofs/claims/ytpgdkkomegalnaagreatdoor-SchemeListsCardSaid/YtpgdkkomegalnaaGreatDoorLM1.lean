/- Part of the proof of SchemeLists: models. -/
import Derived.Test.YtpgdkkomegalnaaGreatDoorLL18
set_option linter.all false
namespace Go.fD
open Go
inductive Ty where
 |mk (ak5:Int) (ak6:List Ty)
def Ty.ak5:Ty->Int|.mk x _=>x
def Ty.ak6:Ty->(List Ty)|.mk _ x=>x
@[simp] theorem Ty.eL(ak5:Int)(ak6:List Ty):(Ty.mk ak5 ak6).ak5=ak5:=rfl
@[simp] theorem Ty.eH(ak5:Int)(ak6:List Ty):(Ty.mk ak5 ak6).ak6=ak6:=rfl
@[simp] theorem Ty.gE(x:Ty):Ty.mk x.ak5 x.ak6=x:=by cases x;rfl
instance:Inhabited Ty:=⟨.mk default default⟩
inductive Tm where
 |mk (ak5:Int) (ak8:Int) (dM:Ty) (ak6:List Tm)
def Tm.ak5:Tm->Int|.mk x _ _ _=>x
def Tm.ak8:Tm->Int|.mk _ x _ _=>x
def Tm.dM:Tm->Ty|.mk _ _ x _=>x
def Tm.ak6:Tm->(List Tm)|.mk _ _ _ x=>x
@[simp] theorem Tm.eL(ak5 ak8:Int)(dM:Ty)(ak6:List Tm):(Tm.mk ak5 ak8 dM ak6).ak5=ak5:=rfl
@[simp] theorem Tm.iC(ak5 ak8:Int)(dM:Ty)(ak6:List Tm):(Tm.mk ak5 ak8 dM ak6).ak8=ak8:=rfl
@[simp] theorem Tm.fK(ak5 ak8:Int)(dM:Ty)(ak6:List Tm):(Tm.mk ak5 ak8 dM ak6).dM=dM:=rfl
@[simp] theorem Tm.eH(ak5 ak8:Int)(dM:Ty)(ak6:List Tm):(Tm.mk ak5 ak8 dM ak6).ak6=ak6:=rfl
@[simp] theorem Tm.gE(x:Tm):Tm.mk x.ak5 x.ak8 x.dM x.ak6=x:=by cases x;rfl
instance:Inhabited Tm:=⟨.mk default default default default⟩
inductive Fm where
 |mk (ak5:Int) (dM:Ty) (eh:List Tm) (ak6:List Fm)
def Fm.ak5:Fm->Int|.mk x _ _ _=>x
def Fm.dM:Fm->Ty|.mk _ x _ _=>x
def Fm.eh:Fm->(List Tm)|.mk _ _ x _=>x
def Fm.ak6:Fm->(List Fm)|.mk _ _ _ x=>x
@[simp] theorem Fm.eL(ak5:Int)(dM:Ty)(eh:List Tm)(ak6:List Fm):(Fm.mk ak5 dM eh ak6).ak5=ak5:=rfl
@[simp] theorem Fm.fK(ak5:Int)(dM:Ty)(eh:List Tm)(ak6:List Fm):(Fm.mk ak5 dM eh ak6).dM=dM:=rfl
@[simp] theorem Fm.jB(ak5:Int)(dM:Ty)(eh:List Tm)(ak6:List Fm):(Fm.mk ak5 dM eh ak6).eh=eh:=rfl
@[simp] theorem Fm.eH(ak5:Int)(dM:Ty)(eh:List Tm)(ak6:List Fm):(Fm.mk ak5 dM eh ak6).ak6=ak6:=rfl
@[simp] theorem Fm.gE(x:Fm):Fm.mk x.ak5 x.dM x.eh x.ak6=x:=by cases x;rfl
instance:Inhabited Fm:=⟨.mk default default default default⟩
inductive Pf where
 |mk (ak5:Int) (ak8:Int) (dM:Ty) (eh:List Tm) (fW:List Fm) (ak6:List Pf)
def Pf.ak5:Pf->Int|.mk x _ _ _ _ _=>x
def Pf.ak8:Pf->Int|.mk _ x _ _ _ _=>x
def Pf.dM:Pf->Ty|.mk _ _ x _ _ _=>x
def Pf.eh:Pf->(List Tm)|.mk _ _ _ x _ _=>x
def Pf.fW:Pf->(List Fm)|.mk _ _ _ _ x _=>x
def Pf.ak6:Pf->(List Pf)|.mk _ _ _ _ _ x=>x
@[simp] theorem Pf.eL(ak5 ak8:Int)(dM:Ty)(eh:List Tm)(fW:List Fm)(ak6:List Pf):(Pf.mk ak5 ak8 dM eh fW ak6).ak5=ak5:=rfl
@[simp] theorem Pf.iC(ak5 ak8:Int)(dM:Ty)(eh:List Tm)(fW:List Fm)(ak6:List Pf):(Pf.mk ak5 ak8 dM eh fW ak6).ak8=ak8:=rfl
@[simp] theorem Pf.fK(ak5 ak8:Int)(dM:Ty)(eh:List Tm)(fW:List Fm)(ak6:List Pf):(Pf.mk ak5 ak8 dM eh fW ak6).dM=dM:=rfl
@[simp] theorem Pf.jB(ak5 ak8:Int)(dM:Ty)(eh:List Tm)(fW:List Fm)(ak6:List Pf):(Pf.mk ak5 ak8 dM eh fW ak6).eh=eh:=rfl
@[simp] theorem Pf.No(ak5 ak8:Int)(dM:Ty)(eh:List Tm)(fW:List Fm)(ak6:List Pf):(Pf.mk ak5 ak8 dM eh fW ak6).fW=fW:=rfl
@[simp] theorem Pf.eH(ak5 ak8:Int)(dM:Ty)(eh:List Tm)(fW:List Fm)(ak6:List Pf):(Pf.mk ak5 ak8 dM eh fW ak6).ak6=ak6:=rfl
@[simp] theorem Pf.gE(x:Pf):Pf.mk x.ak5 x.ak8 x.dM x.eh x.fW x.ak6=x:=by cases x;rfl
instance:Inhabited Pf:=⟨.mk default default default default default default⟩
structure Sq where
 ak9:(List Ty)
 ala:(List Fm)
@[simp] theorem Sq.gE(x:Sq):Sq.mk x.ak9 x.ala=x:=rfl
instance:Inhabited Sq:=⟨.mk default default⟩
inductive Vl where
 |mk (ak5:Int) (num:Int) (list:List Int) (ak6:List Vl)
def Vl.ak5:Vl->Int|.mk x _ _ _=>x
def Vl.num:Vl->Int|.mk _ x _ _=>x
def Vl.list:Vl->(List Int)|.mk _ _ x _=>x
def Vl.ak6:Vl->(List Vl)|.mk _ _ _ x=>x
@[simp] theorem Vl.eL(ak5 num:Int)(list:List Int)(ak6:List Vl):(Vl.mk ak5 num list ak6).ak5=ak5:=rfl
@[simp] theorem Vl.aew(ak5 num:Int)(list:List Int)(ak6:List Vl):(Vl.mk ak5 num list ak6).num=num:=rfl
@[simp] theorem Vl.Z_(ak5 num:Int)(list:List Int)(ak6:List Vl):(Vl.mk ak5 num list ak6).list=list:=rfl
@[simp] theorem Vl.eH(ak5 num:Int)(list:List Int)(ak6:List Vl):(Vl.mk ak5 num list ak6).ak6=ak6:=rfl
@[simp] theorem Vl.gE(x:Vl):Vl.mk x.ak5 x.num x.list x.ak6=x:=by cases x;rfl
instance:Inhabited Vl:=⟨.mk default default default default⟩
structure eF where
 l:(List Int)
 xX:Int
@[simp] theorem eF.gE(x:eF):eF.mk x.l x.xX=x:=rfl
instance:Inhabited eF:=⟨.mk default default⟩
structure sW where
 dZ:Fm
 jL:(List Int)
@[simp] theorem sW.gE(x:sW):sW.mk x.dZ x.jL=x:=rfl
instance:Inhabited sW:=⟨.mk default default⟩
structure dT where
 lemmas:(List Fm)
 eh:(List Tm)
 next:Int
@[simp] theorem dT.gE(x:dT):dT.mk x.lemmas x.eh x.next=x:=rfl
instance:Inhabited dT:=⟨.mk default default default⟩
structure er where
 ir:Sq
 vars:(List Tm)
 ala:(List Tm)
@[simp] theorem er.gE(x:er):er.mk x.ir x.vars x.ala=x:=rfl
instance:Inhabited er:=⟨.mk default default default⟩
structure dV where
 used:Int
 qQ:Int
 out:Bool
@[simp] theorem dV.gE(x:dV):dV.mk x.used x.qQ x.out=x:=rfl
instance:Inhabited dV:=⟨.mk default default default⟩
inductive dJ where
 |mk (num:Int) (list:List Int) (pair:List dJ) (body:Tm) (env:List dJ)
def dJ.num:dJ->Int|.mk x _ _ _ _=>x
def dJ.list:dJ->(List Int)|.mk _ x _ _ _=>x
def dJ.pair:dJ->(List dJ)|.mk _ _ x _ _=>x
def dJ.body:dJ->Tm|.mk _ _ _ x _=>x
def dJ.env:dJ->(List dJ)|.mk _ _ _ _ x=>x
@[simp] theorem dJ.aew(num:Int)(list:List Int)(pair:List dJ)(body:Tm)(env:List dJ):(dJ.mk num list pair body env).num=num:=rfl
@[simp] theorem dJ.Z_(num:Int)(list:List Int)(pair:List dJ)(body:Tm)(env:List dJ):(dJ.mk num list pair body env).list=list:=rfl
@[simp] theorem dJ.aiy(num:Int)(list:List Int)(pair:List dJ)(body:Tm)(env:List dJ):(dJ.mk num list pair body env).pair=pair:=rfl
@[simp] theorem dJ.ain(num:Int)(list:List Int)(pair:List dJ)(body:Tm)(env:List dJ):(dJ.mk num list pair body env).body=body:=rfl
@[simp] theorem dJ.aji(num:Int)(list:List Int)(pair:List dJ)(body:Tm)(env:List dJ):(dJ.mk num list pair body env).env=env:=rfl
@[simp] theorem dJ.gE(x:dJ):dJ.mk x.num x.list x.pair x.body x.env=x:=by cases x;rfl
instance:Inhabited dJ:=⟨.mk default default default default default⟩
structure dS where
 lemmas:(List Fm)
 ak9:(List Ty)
 ala:(List Fm)
@[simp] theorem dS.gE(x:dS):dS.mk x.lemmas x.ak9 x.ala=x:=rfl
instance:Inhabited dS:=⟨.mk default default default⟩
structure dN where
 dM:Ty
 ak7:Int
@[simp] theorem dN.gE(x:dN):dN.mk x.dM x.ak7=x:=rfl
instance:Inhabited dN:=⟨.mk default default⟩
structure d_ where
 dZ:Fm
 jL:Int
@[simp] theorem d_.gE(x:d_):d_.mk x.dZ x.jL=x:=rfl
instance:Inhabited d_:=⟨.mk default default⟩
structure eQ where
 vars:Int
 ala:Int
@[simp] theorem eQ.gE(x:eQ):eQ.mk x.vars x.ala=x:=rfl
instance:Inhabited eQ:=⟨.mk default default⟩
structure en where
 dZ:Fm
 vars:Int
@[simp] theorem en.gE(x:en):en.mk x.dZ x.vars=x:=rfl
instance:Inhabited en:=⟨.mk default default⟩
structure ew where
 nu:eQ
 ak9:(List dN)
 known:(List en)
@[simp] theorem ew.gE(x:ew):ew.mk x.nu x.ak9 x.known=x:=rfl
instance:Inhabited ew:=⟨.mk default default default⟩
structure dX where
 ak7:Int
 iS:Bool
@[simp] theorem dX.gE(x:dX):dX.mk x.ak7 x.iS=x:=rfl
instance:Inhabited dX:=⟨.mk default default⟩
structure e9 where
 eh:Int
 fW:Int
 ak6:Int
 ak8:Bool
 M':Bool
@[simp] theorem e9.gE(x:e9):e9.mk x.eh x.fW x.ak6 x.ak8 x.M'=x:=rfl
instance:Inhabited e9:=⟨.mk default default default default default⟩
structure ft where
 ak8:Bool
 typed:Bool
 eh:Int
 fW:Int
 ak6:Int
 uG:Int
 vars:Int
 ala:Int
@[simp] theorem ft.gE(x:ft):ft.mk x.ak8 x.typed x.eh x.fW x.ak6 x.uG x.vars x.ala=x:=rfl
instance:Inhabited ft:=⟨.mk default default default default default default default default⟩
structure ee where
 ak5:Int
 base:Tm
 vars:(List Ty)
 next:Tm
@[simp] theorem ee.gE(x:ee):ee.mk x.ak5 x.base x.vars x.next=x:=rfl
instance:Inhabited ee:=⟨.mk default default default default⟩
structure um where
 term:(Option Nat)
 steps:Int
@[simp] theorem um.gE(x:um):um.mk x.term x.steps=x:=rfl
structure rT where
 ak5:Int
 ak8:Int
 M':Ty
 ak6:(List (Option Nat))
 size:Int
 free:Int
 normal:Bool
@[simp] theorem rT.gE(x:rT):rT.mk x.ak5 x.ak8 x.M' x.ak6 x.size x.free x.normal=x:=rfl
inductive HC where
 |Kk (x:um)|GD (x:rT)
def HC.Ha(l:List HC)(p:Nat):Option rT:=match l[p]?with|some (.GD x)=>some x|_=>none
def P2(l:List HC)(p:Nat)(x:HC):List HC:=l.set p x
def lx:List Int:=[0,1,28,2,29,14,24,3,30,22,20,15,25,17,4,8,31,27,13,23,21,19,16,7,26,12,18,6,11,5,10,9]
def od:List ft:=[⟨false,false,0,0,0,0,0,0⟩,⟨true,false,0,0,0,0,0,0⟩,⟨true,false,0,0,0,0,0,0⟩,⟨false,false,0,0,2,0,0,0⟩,⟨false,false,0,0,1,0,0,0⟩,⟨false,false,0,0,1,0,0,0⟩,⟨false,false,0,1,1,0,0,1⟩,⟨false,false,0,0,2,0,0,0⟩,⟨false,true,0,0,1,0,1,0⟩,⟨false,false,1,0,1,0,0,0⟩,⟨false,false,1,1,1,0,0,0⟩,⟨false,false,0,0,2,0,1,1⟩,⟨false,true,0,0,1,0,1,0⟩,⟨false,false,1,0,1,0,0,0⟩,⟨false,false,1,1,1,0,0,0⟩,⟨false,false,0,0,2,0,1,1⟩,⟨false,false,1,1,2,1,1,1⟩,⟨false,false,1,1,2,1,2,1⟩,⟨false,false,1,0,0,0,0,0⟩,⟨false,false,0,1,2,1,0,0⟩,⟨false,false,0,0,1,0,0,0⟩]
def qe:List Int:=[0,0,1,2,0,1,3,0,2,3,2,1,1,0]
end Go.fD
set_option maxRecDepth 20000
namespace Go.fD
open Go
def fl(a0:Int):Option Tm:=some (Tm.mk 1 a0 (Ty.mk 0 []) [])
def gP(a0:Int)(a1:List Tm):Option Tm:=some (Tm.mk a0 0 (Ty.mk 0 []) a1)
def mD(a0:Ty)(a1:Tm):Option Tm:=some (Tm.mk 2 0 a0 [a1])
def kU:Option Ty:=some (Ty.mk 2 [])
def gw:Option Ty:=some (Ty.mk 1 [])
def rb(a0:Ty)(a1:List Ty):Option Ty:=ej ((PE λ(a:Int) (v49:Int) (b:List Ty)=>if pd a 0 then dH (dW a1 a) λc=>some (.next ((fA .i64 a 1),4,[c,(Ty.mk v49 b)]))else some (.yd (a,v49,b))):(Int×Int×(List Ty))->(Option (gm (Int×Int×(List Ty)) (Ty)))) λd=>dH (js d FU ((fA .i64 (eA a1) 1),a0.ak5,a0.ak6)) (fL (PE λ(a:Int) (v49:Int) (b:List Ty)=>some (Ty.mk v49 b)) (λr=>some r))
def sR:Option Ty:=dH (gw) λb=>dH (gw) λc=>dH (rb b [c]) λa=>some a
def me:Nat->Ty->Option (Int×Bool)
 |0,_=>none|n+1,a0=>ej (λ(v10:Int)=>if eP (eA a0.ak6) v10 then some (0,false)else gB (eV a0.ak6)<|ej (λ(i:Int) (c:Ty)=>(λ(a:Int)=>dU (me n c) λd f=>if f then some (.next (eS .i64 a d))else some (.ret (0,false))):Int->Ty->(Int)->(Option (gm (Int) (Int×Bool)))) λh=>dH (fk h a0.ak6 0 1) (fL (λ(a:Int)=>some (a,true)) (λr=>some r))) λb=>if fv (eo a0.ak5 1) true (fv (eo a0.ak5 2) true (eo a0.ak5 5))then b 0 else if fv (eo a0.ak5 3) true (eo a0.ak5 4)then b 2 else some (0,false)
def iW(a0:Ty):Option (Int×Int):=dU (me FU a0) λa b=>if b then if oQ a 64 then some (0,4)else some (a,0)else some (0,2)
def rF(a0:Ty):Option Int:=dU (iW a0) λb a=>some a
def ng(a0:List Ty):Option Int:=if oQ (eA a0) 16 then some 3 else gB (eV a0)<|ej (λ(d:Int) (b:Ty)=>(λ(_:Unit)=>dH (rF b) λa=>if eP a 0 then some (.ret a)else some (.next ())):Int->Ty->(Unit)->(Option (gm (Unit) (Int)))) λc=>dH (fk c a0 0 ()) (fL (λ(_:Unit)=>some 0) (λr=>some r))
def wD(a0:Int):Option (Int×Bool):=if fv (o7 a0 1) true (pd a0 14)then some (0,false)else dH (dW qe a0) λa=>some (a,true)
def wK(a0:Int):Option Bool:=some (fv (eo a0 2) true (fv (eo a0 6) true (eo a0 9)))
def nZ(a0:Ty):Option Bool:=some (fv (eo a0.ak5 0) (eo (eA a0.ak6) 0) false)
def jF:Nat->Tm->Option (Int×Bool)
 |0,_=>none|n+1,a0=>dU (wD a0.ak5) λl o=>if fv o (fv (eP (eA a0.ak6) l) true (fv (o7 a0.ak8 0) true (fv (eP a0.ak8 0) (eP a0.ak5 1) false))) true then some (0,false)else ej (gB (eV a0.ak6)<|ej (λ(q:Int) (h:Tm)=>(λ(a:Int)=>dU (jF n h) λb c=>if c then some (.next (eS .i64 a b))else some (.ret (0,false))):Int->Tm->(Int)->(Option (gm (Int) (Int×Bool)))) λd=>dH (fk d a0.ak6 0 1) (fL (λ(a:Int)=>some (a,true)) (λr=>some r))) λf=>dH (wK a0.ak5) λi=>if i then dU (iW a0.dM) λs j=>if eP j 0 then some (0,false)else f else dH (nZ a0.dM) λk=>if k then f else some (0,false)
def ke(a0:Tm):Option (Int×Int):=dU (jF FU a0) λa b=>if b then if oQ a 4096 then some (0,4)else some (a,0)else some (0,2)
def pq(a0:Tm):Option Int:=dU (ke a0) λb a=>some a
def mC(a0:Ty):Option dN:=dU (iW a0) λa b=>some (dN.mk a0 a)
def n9(a0:List Ty):Option (List dN):=gB (eV a0)<|ej (λ(d:Int) (b:Ty)=>(λ(v40:List dN)=>dH (mC b) λa=>gB (fI v40 [a])<|some (.next (fR v40 [a]))):Int->Ty->(List dN)->(Option (gm (List dN) (List dN)))) λc=>dH (fk c a0 0 []) (fL (λ(v40:List dN)=>some v40) (λr=>some r))
def rW(a0:Int)(a1 a2:dN):Option (dN×Int):=if oQ (eS .i64 (eS .i64 1 a1.ak7) a2.ak7) 64 then some ((dN.mk (Ty.mk 0 []) 0),4)else some ((dN.mk (Ty.mk a0 [a1.dM,a2.dM]) (eS .i64 (eS .i64 1 a1.ak7) a2.ak7)),0)
def jI(a0:Int):Option (List Int):=if eo a0 4 then some [1] else if eo a0 5 then some [1,1] else if eo a0 7 then some [2] else if eo a0 8 then some [2,1,2] else if eo a0 13 then some [5] else some []
def iZ(a0:dN)(a1:Int):Option Bool:=some (eo a0.dM.ak5 a1)
def jn(a0:dN)(a1:Int):Option dN:=dH (dW a0.dM.ak6 a1) λa=>dH (mC a) λb=>some b
def gN:Nat->Ty->Ty->Option Bool
 |0,_,_=>none|n+1,a0,a1=>if fv (eP a0.ak5 a1.ak5) true (eP (eA a0.ak6) (eA a1.ak6))then some false else gB (eV a0.ak6)<|ej (λ(c:Int) (d:Ty)=>(λ(_:Unit)=>dH (dW a1.ak6 c) λa=>dH (gN n d a) λb=>if b then some (.next ())else some (.ret false)):Int->Ty->(Unit)->(Option (gm (Unit) (Bool)))) λf=>dH (fk f a0.ak6 0 ()) (fL (λ(_:Unit)=>some true) (λr=>some r))
def kj(a0 a1:dN):Option Bool:=ej (λ(v6:Bool)=>some v6) λa=>if eo a0.ak7 a1.ak7 then dH (gN FU a0.dM a1.dM) λb=>a b else a false
def pG:Option Ty:=some (Ty.mk 1 [])
def BB:Option Ty:=some (Ty.mk 2 [])
def uO(a0:Ty)(a1:List Ty):Option Ty:=ej ((PE λ(a:Int) (v49:Int) (b:List Ty)=>if pd a 0 then dH (dW a1 a) λc=>some (.next ((fA .i64 a 1),4,[c,(Ty.mk v49 b)]))else some (.yd (a,v49,b))):(Int×Int×(List Ty))->(Option (gm (Int×Int×(List Ty)) (Ty)))) λd=>dH (js d FU ((fA .i64 (eA a1) 1),a0.ak5,a0.ak6)) (fL (PE λ(a:Int) (v49:Int) (b:List Ty)=>some (Ty.mk v49 b)) (λr=>some r))
def pR(a0:Tm):Option Ty:=if eo a0.ak5 9 then dH (pG) λa=>dH (BB) λb=>dH (uO a0.dM [a,b,a0.dM]) λc=>some c else dH (pG) λd=>dH (uO a0.dM [d,a0.dM]) λf=>some f
def gn(a0:Tm)(a1:dN×dN×dN):Option (dN×Int):=dH (jI a0.ak5) λa=>if oQ (eA a) 0 then dH (pF a 1 (eA a)) λh=>gB (eV h)<|ej (λ(b:Int) (c:Int)=>(λ(_:Unit)=>ej (λ(v222:Bool)=>if v222 then some (.ret ((dN.mk (Ty.mk 0 []) 0),7))else some (.next ())) λd=>if eo b 0 then dH (iZ a1.1 c) λk=>d (lJ k)else if eo b 1 then dH (iZ a1.2.1 c) λl=>d (lJ l)else gB (eo b 2)<|dH (iZ a1.2.2 c) λn=>d (lJ n)):Int->Int->(Unit)->(Option (gm (Unit) (dN×Int)))) λo=>dH (fk o h 0 ()) (fL (λ(_:Unit)=>dH (dW a 0) λq=>dH (mC (Ty.mk q [])) λs=>some (s,0)) (λr=>some r))else if eo a0.ak5 3 then ej (λ(t:Bool)=>if t then some ((dN.mk (Ty.mk 0 []) 0),7)else dH (jn a1.1 1) λu=>some (u,0)) λi=>dH (iZ a1.1 4) λv=>if v then dH (jn a1.1 0) λw=>dH (kj w a1.2.1) λx=>i (lJ x)else i true else if fv (eo a0.ak5 6) true (eo a0.ak5 9)then dH (mC a0.dM) λj=>ej (λ(y:Bool)=>if y then some ((dN.mk (Ty.mk 0 []) 0),7)else some (j,0)) λf=>dH (kj a1.1 j) λA=>if A then dH (pR a0) λB=>dH (gN FU a1.2.1.dM B) λC=>if C then dH (iZ a1.2.2 (fv (eo a0.ak5 9) 2 1)) λD=>f (lJ D)else f true else f true else if eo a0.ak5 10 then dU (rW 3 a1.1 a1.2.1) λF G=>some (F,G)else dH (iZ a1.1 3) λH=>if H then if eo a0.ak5 11 then dH (jn a1.1 0) λI=>some (I,0)else dH (jn a1.1 1) λJ=>some (J,0)else some ((dN.mk (Ty.mk 0 []) 0),7)
def eX:Nat->(List dN)->Tm->Option (dN×Int)
 |0,_,_=>none|n+1,a0,a1=>if eo a1.ak5 1 then if pd a1.ak8 (eA a0)then some ((dN.mk (Ty.mk 0 []) 0),6)else dH (dW a0 (fA .i64 (fA .i64 (eA a0) 1) a1.ak8)) λL=>some (L,0)else if eo a1.ak5 2 then dH (mC a1.dM) λo=>gB (fI a0 [o])<|dH (dW a1.ak6 0) λH=>dU (eX n (fR a0 [o]) H) λI q=>if eP q 0 then some ((dN.mk (Ty.mk 0 []) 0),q)else dU (rW 4 o I) λJ K=>some (J,K)else gB (eV a1.ak6)<|ej (λ(k:Int) (s:Tm)=>(un9 λ(b:Int) (c:List Ty) (v218:Int) (d:Int) (f:List Ty) (h:Int) (v222:Int) (i:List Ty) (j:Int)=>ej (λ(t:Int) (u:List Ty) (v:Int) (w:Int) (x:List Ty) (y:Int) (A:Int) (B:List Ty) (C:Int)=>some (.next (t,u,v,w,x,y,A,B,C))) λj250=>dU (eX n a0 s) λa l=>if eP l 0 then some (.ret ((dN.mk (Ty.mk 0 []) 0),l))else if eo k 0 then j250 a.dM.ak5 a.dM.ak6 a.ak7 d f h v222 i j else if eo k 1 then j250 b c v218 a.dM.ak5 a.dM.ak6 a.ak7 v222 i j else gB (eo k 2)<|j250 b c v218 d f h a.dM.ak5 a.dM.ak6 a.ak7):Int->Tm->(Int×(List Ty)×Int×Int×(List Ty)×Int×Int×(List Ty)×Int)->(Option (gm (Int×(List Ty)×Int×Int×(List Ty)×Int×Int×(List Ty)×Int) (dN×Int)))) λD=>dH (fk D a1.ak6 0 (0,[],0,0,[],0,0,[],0)) (fL (un9 λ(b:Int) (c:List Ty) (v218:Int) (d:Int) (f:List Ty) (h:Int) (v222:Int) (i:List Ty) (j:Int)=>dU (gn a1 ((dN.mk (Ty.mk b c) v218),(dN.mk (Ty.mk d f) h),(dN.mk (Ty.mk v222 i) j))) λF G=>some (F,G)) (λr=>some r))
def ki:Nat->Ty->Option Ty
 |0,_=>none|n+1,a0=>gB (eV a0.ak6)<|ej (λ(f:Int) (c:Ty)=>(λ(a:List Ty)=>dH (ki n c) λb=>gB (fI a [b])<|some (.next (fR a [b]))):Int->Ty->(List Ty)->(Option (gm (List Ty) (Ty)))) λd=>dH (fk d a0.ak6 0 []) (fL (λ(a:List Ty)=>some (Ty.mk a0.ak5 a)) (λr=>some r))
def r7(a0:List Ty)(a1:Tm):Option (Ty×Int):=dH (ng a0) λh=>if eP h 0 then some ((Ty.mk 0 []),h)else dH (pq a1) λa=>if eP a 0 then some ((Ty.mk 0 []),a)else dH (n9 a0) λc=>dU (eX FU c a1) λd b=>if eP b 0 then some ((Ty.mk 0 []),b)else dH (ki FU d.dM) λf=>some (f,0)
def zm(a0 a1:Ty):Option Bool:=dH (gN FU a0 a1) λa=>some a
def jc(a0:Tm)(a1:Ty):Option Int:=dU (r7 [] a0) λd c=>ej (λ(v21:Bool)=>if v21 then some 7 else some c) λa=>if eo c 0 then dH (zm d a1) λb=>a (lJ b)else a false
def i_(a0:Int):Option (Fm×Pf×Int):=some ((Fm.mk 0 (Ty.mk 0 []) [] []),(Pf.mk 0 0 (Ty.mk 0 []) [] [] []),a0)
def F_(a0:Int):Option Tm:=some (Tm.mk 1 a0 (Ty.mk 0 []) [])
def fa(a0:Int):Option Tm:=dH (F_ a0) λa=>some a
def lO(a0:Int)(a1:List Tm):Option Tm:=some (Tm.mk a0 0 (Ty.mk 0 []) a1)
def hX(a0:Tm)(a1:List Tm):Option Tm:=gB (eV a1)<|ej (λ(j:Int) (h:Tm)=>(un5 λ(b:Int) (c:Int) (v46:Int) (d:List Ty) (f:List Tm)=>dH (lO 3 [(Tm.mk b c (Ty.mk v46 d) f),h]) λa=>some (.next (a.ak5,a.ak8,a.dM.ak5,a.dM.ak6,a.ak6))):Int->Tm->(Int×Int×Int×(List Ty)×(List Tm))->(Option (gm (Int×Int×Int×(List Ty)×(List Tm)) (Tm)))) λi=>dH (fk i a1 0 (a0.ak5,a0.ak8,a0.dM.ak5,a0.dM.ak6,a0.ak6)) (fL (un5 λ(b:Int) (c:Int) (v46:Int) (d:List Ty) (f:List Tm)=>some (Tm.mk b c (Ty.mk v46 d) f)) (λr=>some r))
def lA:Nat->Tm->Int->Int->Option Tm
 |0,_,_,_=>none|n+1,a0,a1,a2=>if eo a2 0 then some a0 else if eo a0.ak5 1 then some (Tm.mk a0.ak5 (fv (pd a0.ak8 a1) (eS .i64 a0.ak8 a2) a0.ak8) a0.dM a0.ak6)else gB (eV a0.ak6)<|ej (λ(f:Int) (c:Tm)=>(λ(a:List Tm)=>dH (lA n c (fv (eo a0.ak5 2) (eS .i64 a1 1) a1) a2) λb=>gB (fI a [b])<|some (.next (fR a [b]))):Int->Tm->(List Tm)->(Option (gm (List Tm) (Tm)))) λd=>dH (fk d a0.ak6 0 []) (fL (λ(a:List Tm)=>some (Tm.mk a0.ak5 a0.ak8 a0.dM a)) (λr=>some r))
def mJ(a0 a1:Tm):Option Fm:=some (Fm.mk 1 (Ty.mk 0 []) [a0,a1] [])
def px(a0:Int)(a1:Ty)(a2:Fm):Option Fm:=some (Fm.mk a0 a1 [] [a2])
def gb(a0:Tm):Option Fm:=dH (gw) λa=>dH (fa 0) λb=>dH (lA FU a0 0 1) λc=>dH (mJ b c) λd=>dH (px 5 a d) λf=>some f
def kC(a0:Tm):Option Pf:=some (Pf.mk 18 0 (Ty.mk 0 []) [a0] [] [])
def jJ(a0:Fm)(a1:Tm)(a2:Pf):Option Pf:=some (Pf.mk 10 0 (Ty.mk 0 []) [a1] [a0] [a2])
def py(a0:Ty)(a1:Pf):Option Pf:=some (Pf.mk 8 0 a0 [] [] [a1])
def rX(a0:Fm):Option Bool:=ej (λ(v10:Int) (v11:Int) (v12:Bool)=>ej (some (fv (eo (eA a0.eh) v10) (eo (eA a0.ak6) v11) false)) λb=>if v12 then dU (iW a0.dM) λf c=>if eP c 0 then some false else b else dH (nZ a0.dM) λd=>if d then b else some false) λa=>if eo a0.ak5 1 then a 2 0 false else if fv (eo a0.ak5 2) true (eo a0.ak5 3)then a 0 2 false else if fv (eo a0.ak5 4) true (fv (eo a0.ak5 5) true (fv (eo a0.ak5 6) true (eo a0.ak5 7)))then a 0 1 true else some false
def jo:Nat->Fm->Option (Int×Bool)
 |0,_=>none|n+1,a0=>dH (rX a0) λo=>if o then gB (eV a0.eh)<|ej (λ(q:Int) (h:Tm)=>(λ(v72:Int)=>dU (jF FU h) λi j=>if j then some (.next (eS .i64 v72 i))else some (.ret (0,false))):Int->Tm->(Int)->(Option (gm (Int) (Int×Bool)))) λk=>dH (fk k a0.eh 0 1) (fL (λ(v72:Int)=>gB (eV a0.ak6)<|ej (λ(l:Int) (b:Fm)=>(λ(a:Int)=>dU (jo n b) λc d=>if d then some (.next (eS .i64 a c))else some (.ret (0,false))):Int->Fm->(Int)->(Option (gm (Int) (Int×Bool)))) λf=>dH (fk f a0.ak6 0 v72) (fL (λ(a:Int)=>some (a,true)) (λr=>some r))) (λr=>some r))else some (0,false)
def iN(a0:Fm):Option (Int×Int):=dU (jo FU a0) λa b=>if b then if oQ a 4096 then some (0,4)else some (a,0)else some (0,2)
def j9(a0:Fm):Option Int:=dU (iN a0) λb a=>some a
def pK(a0:Int):Option (ft×Bool):=if fv (o7 a0 1) true (pd a0 21)then some ((ft.mk false false 0 0 0 0 0 0),false)else dH (dW od a0) λa=>some (a,true)
def hV(a0:dX)(a1 a2:Int):Option (Bool×dX):=some ((eP a2 2),(fv a0.iS (dX.mk (eS .i64 a0.ak7 a1) true) (dX.mk (eS .i64 a0.ak7 a1) (eo a2 4))))
def iL:Nat->dX->Pf->Option (Bool×dX)
 |0,_,_=>none|n+1,a0,a1=>dU (pK a1.ak5) λd G=>if fv G (fv (o7 a1.ak8 0) true (fv (eP a1.ak8 0) (fv d.ak8 (fv (eP (eA a1.eh) d.eh) true (fv (eP (eA a1.fW) d.fW) true (eP (eA a1.ak6) d.ak6))) true) (fv (eP (eA a1.eh) d.eh) true (fv (eP (eA a1.fW) d.fW) true (eP (eA a1.ak6) d.ak6))))) true then some (false,a0)else ej (λ(y:dX)=>gB (eV a1.eh)<|ej (λ(H:Int) (A:Tm)=>(λ(a:dX)=>dU (ke A) λh i=>dU (hV a h i) λj d179=>if j then some (.next d179)else some (.ret (false,d179))):Int->Tm->(dX)->(Option (gm (dX) (Bool×dX)))) λk=>dH (fk k a1.eh 0 y) (fL (λ(a:dX)=>gB (eV a1.fW)<|ej (λ(D:Int) (l:Fm)=>(λ(b:dX)=>dU (iN l) λo q=>dU (hV b o q) λs d322=>if s then some (.next d322)else some (.ret (false,d322))):Int->Fm->(dX)->(Option (gm (dX) (Bool×dX)))) λt=>dH (fk t a1.fW 0 a) (fL (λ(b:dX)=>gB (eV a1.ak6)<|ej (λ(F:Int) (u:Pf)=>(λ(c:dX)=>dU (iL n c u) λv f=>if v then some (.next f)else some (.ret (false,f))):Int->Pf->(dX)->(Option (gm (dX) (Bool×dX)))) λw=>dH (fk w a1.ak6 0 b) (fL (λ(c:dX)=>some (true,c)) (λr=>some r))) (λr=>some r))) (λr=>some r))) λx=>if d.typed then dU (iW a1.dM) λI B=>if eP B 0 then some (false,(dX.mk (eS .i64 a0.ak7 1) a0.iS))else x (dX.mk (eS .i64 a0.ak7 1) a0.iS)else dH (nZ a1.dM) λC=>if C then x (dX.mk (eS .i64 a0.ak7 1) a0.iS)else some (false,(dX.mk (eS .i64 a0.ak7 1) a0.iS))
def q9(a0:Pf):Option (Int×Int):=dU (iL FU (dX.mk 0 false) a0) λa d14=>if a then if fv d14.iS true (oQ d14.ak7 16384)then some (0,4)else some (d14.ak7,0)else some (0,2)
def rY(a0:Pf):Option Int:=dU (q9 a0) λb a=>some a
def kD(a0:Fm)(a1:Pf):Option (Fm×Pf×Int):=dH (j9 a0) λc=>ej (λ(v10:Int)=>if eP v10 0 then some ((Fm.mk 0 (Ty.mk 0 []) [] []),(Pf.mk 0 0 (Ty.mk 0 []) [] [] []),4)else some (a0,a1,0)) λa=>if eo c 0 then dH (rY a1) λb=>a b else a c
def uT(a0:Tm):Option (Fm×Pf×Int):=dH (sR) λr=>dH (jc a0 r) λb=>if eP b 0 then eZ (i_ b) λs t u=>some (s,t,u)else dH (fa 0) λv=>dH (hX a0 [v]) λa=>dH (gw) λc=>dH (gb a) λd=>dH (px 4 c d) λf=>dH (gw) λh=>dH (gb a) λi=>dH (kC a) λj=>dH (jJ i a j) λk=>dH (py h k) λl=>eZ (kD f l) λn o q=>some (n,o,q)
def ny(a0:List dN)(a1:List Ty):Option (List dN):=dH (n9 a1) λa=>gB (fI a0 a)<|some (fR a0 a)
def rp(a0:List dN)(a1:Tm)(a2:Int):Option Int:=dU (eX FU a0 a1) λd c=>ej (λ(v21:Bool)=>if v21 then some 7 else some c) λa=>if eo c 0 then dH (iZ d a2) λb=>a (lJ b)else a false
def mu(a0:List dN)(a1:Tm):Option Int:=dH (rp a0 a1 1) λa=>some a
def je:Nat->(List dN)->Fm->Option Int
 |0,_,_=>none|n+1,a0,a1=>ej (λ(f:List dN)=>gB (eV a1.ak6)<|ej (λ(o:Int) (h:Fm)=>(λ(_:Unit)=>dH (je n f h) λa=>if eP a 0 then some (.ret a)else some (.next ())):Int->Fm->(Unit)->(Option (gm (Unit) (Int)))) λi=>dH (fk i a1.ak6 0 ()) (fL (λ(_:Unit)=>some 0) (λr=>some r))) λb=>ej (dH (ny a0 [a1.dM]) λj=>b j) λc=>if fv (eo a1.ak5 4) true (eo a1.ak5 5)then c else if fv (eo a1.ak5 6) true (eo a1.ak5 7)then c else if fv (eo a1.ak5 2) true (eo a1.ak5 3)then b a0 else gB (eV a1.eh)<|ej (λ(q:Int) (k:Tm)=>(λ(_:Unit)=>dH (mu a0 k) λd=>if eP d 0 then some (.ret d)else some (.next ())):Int->Tm->(Unit)->(Option (gm (Unit) (Int)))) λl=>dH (fk l a1.eh 0 ()) (fL (λ(_:Unit)=>some 0) (λr=>some r))
def uk(a0:List Ty)(a1:Fm):Option Int:=dH (ng a0) λd=>if eP d 0 then some d else dH (j9 a1) λa=>if eP a 0 then some a else dH (n9 a0) λb=>dH (je FU b a1) λc=>some c
def wV(a0:List Fm)(a1:Sq):Option Int:=if oQ (eA a0) 32 then some 3 else gB (eV a0)<|ej (λ(j:Int) (d:Fm)=>(λ(_:Unit)=>dH (uk [] d) λa=>if eP a 0 then some (.ret a)else some (.next ())):Int->Fm->(Unit)->(Option (gm (Unit) (Int)))) λf=>dH (fk f a0 0 ()) (fL (λ(_:Unit)=>dH (ng a1.ak9) λb=>if eP b 0 then some b else if oQ (eA a1.ala) 16 then some 3 else gB (eV a1.ala)<|ej (λ(k:Int) (h:Fm)=>(λ(_:Unit)=>dH (uk a1.ak9 h) λc=>if eP c 0 then some (.ret c)else some (.next ())):Int->Fm->(Unit)->(Option (gm (Unit) (Int)))) λi=>dH (fk i a1.ala 0 ()) (fL (λ(_:Unit)=>some 0) (λr=>some r))) (λr=>some r))
def DU:Option Unit:=some ()
def sm(a0:ew)(a1:Fm):Option ew:=gB (fI a0.known [(en.mk a1 a0.nu.vars)])<|some (ew.mk (eQ.mk a0.nu.vars (eS .i64 a0.nu.ala 1)) a0.ak9 (fR a0.known [(en.mk a1 a0.nu.vars)]))
def zb(a0:Sq):Option ew:=dH (n9 a0.ak9) λi=>gB (eV a0.ala)<|ej (λ(j:Int) (f:Fm)=>(un4 λ(b:Int) (v46:Int) (c:List dN) (d:List en)=>dH (sm (ew.mk (eQ.mk b v46) c d) f) λa=>some (.next (a.nu.vars,a.nu.ala,a.ak9,a.known))):Int->Fm->(Int×Int×(List dN)×(List en))->(Option (gm (Int×Int×(List dN)×(List en)) (ew)))) λh=>dH (fk h a0.ala 0 ((eA a0.ak9),0,i,[])) (fL (un4 λ(b:Int) (v46:Int) (c:List dN) (d:List en)=>some (ew.mk (eQ.mk b v46) c d)) (λr=>some r))
def rv(a0:eQ)(a1 a2:Int):Option Int:=if fv (oQ (eS .i64 a0.vars a1) 16) true (oQ (eS .i64 a0.ala a2) 16)then some 3 else some 0
def rk(a0:ew)(a1:List Ty):Option ew:=dH (ny a0.ak9 a1) λa=>some (ew.mk (eQ.mk (eS .i64 a0.nu.vars (eA a1)) a0.nu.ala) a a0.known)
def va(a0:Int)(a1:Ty)(a2:Fm):Option Fm:=some (Fm.mk a0 a1 [] [a2])
def pf(a0 a1:Int):Option Int:=gB (T0 a1)<|some (acQ .u32 a0 a1)
def xB(a0 a1 a:Int):Option Int:=if pd a0 a1 then gB (T0 (fA .i64 a0 a1))<|some (SV .u32 a (aes .u32 1 (fA .i64 a0 a1)))else some a
def uz{S:Type}:Nat->Tm->Int->(S->Int->Int->Option S)->S->Option S
 |0,_,_,_,_=>none|n+1,a0,a1,a,vn=>ej (λ(v6:S)=>gB (eV a0.ak6)<|ej (λ(h:Int) (b:Tm)=>(λ(v28:S)=>dH (uz n b (fv (eo a0.ak5 2) (eS .i64 a1 1) a1) a v28) λc=>some (.next c)):Int->Tm->(S)->(Option (gm (S) (S)))) λd=>dH (fk d a0.ak6 0 v6) (fL (λ(v28:S)=>some v28) (λr=>some r))) λf=>if eo a0.ak5 1 then dH (a vn a0.ak8 a1) λi=>f i else f vn
def BD{S:Type}(a0:Tm)(a1:(S->Int->Int->Option S))(vn:S):Option S:=dH (uz FU a0 0 a1 vn) λs1=>some s1
def A'(a0:Tm):Option Int:=dH (BD a0 (λ(s:Int) (a:Int) (b:Int)=>xB a b s) 0) λc=>some c
def pn(a0:Tm):Option Int:=some 0
def oV(a0:dN)(a1:Ty):Option Bool:=dH (mC a1) λa=>dH (kj a0 a) λb=>some b
def zv(a0 a1 b a:Int):Option Int:=if eo (fA .i64 a0 a1) b then some (eS .i64 a 1)else some a
def zy(a0:Tm)(a1:Int):Option Int:=dH (BD a0 (λ(s:Int) (a:Int) (b:Int)=>zv a b a1 s) 0) λc=>some c
def qo(a0:Tm)(a1 a b:Int):Option Int:=dH (zy a0 (eS .i64 b a1)) λc=>some (eS .i64 a c)
def mE(a0:Int):Option Bool:=some (fv (pd a0 4) (Yr a0 7) false)
def qI{S:Type}:Nat->Fm->Int->(S->Tm->Int->Option S)->S->Option S
 |0,_,_,_,_=>none|n+1,a0,a1,a2,vn=>gB (eV a0.eh)<|ej (λ(l:Int) (c:Tm)=>(λ(a:S)=>dH (a2 a c a1) λd=>some (.next d)):Int->Tm->(S)->(Option (gm (S) (S)))) λf=>dH (fk f a0.eh 0 vn) (fL (λ(a:S)=>ej (λ(v51:Int)=>gB (eV a0.ak6)<|ej (λ(o:Int) (h:Fm)=>(λ(v72:S)=>dH (qI n h v51 a2 v72) λi=>some (.next i)):Int->Fm->(S)->(Option (gm (S) (S)))) λj=>dH (fk j a0.ak6 0 a) (fL (λ(v72:S)=>some v72) (λr=>some r))) λb=>dH (mE a0.ak5) λk=>if k then b (eS .i64 a1 1)else b a1) (λr=>some r))
def r'(a0:Fm)(a1:Int):Option Int:=dH (qI FU a0 0 (λ(s:Int) (a:Tm) (b:Int)=>qo a b s a1) 0) λc=>some c
def oI(a0:Int):Option Tm:=some (Tm.mk 1 a0 (Ty.mk 0 []) [])
def uq(a0 a1 a b:Int):Option Tm:=dH (oI (fv (pd (fA .i64 a0 a1) a) (eS .i64 a0 b) a0)) λc=>some c
def ll{S:Type}:Nat->Tm->Int->(S->Int->Int->Option (Tm×S))->S->Option (Tm×S)
 |0,_,_,_,_=>none|n+1,a0,a1,c,vn=>if eo a0.ak5 1 then dU (c vn a0.ak8 a1) λh i=>some (h,i)else dH (ki FU a0.dM) λj=>gB (eV a0.ak6)<|ej (λ(l:Int) (k:Tm)=>(xm λ(a:List Tm) (v107:S)=>dU (ll n k (fv (eo a0.ak5 2) (eS .i64 a1 1) a1) c v107) λb d=>gB (fI a [b])<|some (.next ((fR a [b]),d))):Int->Tm->((List Tm)×S)->(Option (gm ((List Tm)×S) (Tm×S)))) λf=>dH (fk f a0.ak6 0 ([],vn)) (fL (xm λ(a:List Tm) (v107:S)=>some ((Tm.mk a0.ak5 a0.ak8 j a),v107)) (λr=>some r))
def sn{S:Type}(a0:Tm)(a1:(S->Int->Int->Option (Tm×S)))(vn:S):Option (Tm×S):=dU (ll FU a0 0 a1 vn) λa b=>some (a,b)
def vT(a0:Tm)(a1 a2:Int):Option Tm:=dU (sn a0 (λ(s:Unit) (a:Int) (b:Int)=>yt (uq a b a1 a2) s) ()) λc d=>some c
def CT(a0 a1 a:Int)(b:Tm):Option Tm:=if eo (fA .i64 a0 a1) a then dH (vT b 0 (eS .i64 a a1)) λc=>some c else if oQ (fA .i64 a0 a1) a then dH (oI (fA .i64 a0 1)) λd=>some d else dH (oI a0) λf=>some f
def Jj(a0:Tm)(a1:Int)(a2:Tm):Option Tm:=dU (sn a0 (λ(s:Unit) (a:Int) (b:Int)=>yt (CT a b a1 a2) s) ()) λc d=>some c
def sE(a0:Tm)(a1 a:Int)(b:Tm):Option Tm:=dH (Jj a0 (eS .i64 a a1) b) λc=>some c
def gW{S:Type}:Nat->Fm->Int->(S->Tm->Int->Option (Tm×S))->S->Option (Fm×S)
 |0,_,_,_,_=>none|n+1,a0,a1,a2,vn=>dH (ki FU a0.dM) λu=>gB (eV a0.eh)<|ej (λ(v:Int) (q:Tm)=>(xm λ(v91:List Tm) (f:S)=>dU (a2 f q a1) λb h=>gB (fI v91 [b])<|some (.next ((fR v91 [b]),h))):Int->Tm->((List Tm)×S)->(Option (gm ((List Tm)×S) (Fm×S)))) λs=>dH (fk s a0.eh 0 ([],vn)) (fL (xm λ(v91:List Tm) (f:S)=>ej (λ(i:Int)=>gB (eV a0.ak6)<|ej (λ(t:Int) (j:Fm)=>(xm λ(a:List Fm) (v212:S)=>dU (gW n j i a2 v212) λc k=>gB (fI a [c])<|some (.next ((fR a [c]),k))):Int->Fm->((List Fm)×S)->(Option (gm ((List Fm)×S) (Fm×S)))) λl=>dH (fk l a0.ak6 0 ([],f)) (fL (xm λ(a:List Fm) (v212:S)=>some ((Fm.mk a0.ak5 u v91 a),v212)) (λr=>some r))) λd=>dH (mE a0.ak5) λo=>if o then d (eS .i64 a1 1)else d a1) (λr=>some r))
def uW(a0:Fm)(a1:Int)(a2:Tm):Option Fm:=dU (gW FU a0 0 (λ(s:Unit) (a:Tm) (b:Int)=>yt (sE a b a1 a2) s) ()) λc d=>some c
def Dx(a0:Fm)(a1:Tm):Option (Fm×Int):=dU (iN a0) λd h=>dU (ke a1) λa f=>dH (r' a0 0) λb=>if oQ (eS .i64 d (T1 .i64 b (fA .i64 a 1))) 4096 then some ((Fm.mk 0 (Ty.mk 0 []) [] []),4)else dH (uW a0 0 a1) λc=>some (c,0)
def jz:Nat->Tm->Tm->Option Bool
 |0,_,_=>none|n+1,a0,a1=>ej (λ(d:Bool)=>if d then some false else gB (eV a0.ak6)<|ej (λ(f:Int) (h:Tm)=>(λ(_:Unit)=>dH (dW a1.ak6 f) λb=>dH (jz n h b) λc=>if c then some (.next ())else some (.ret false)):Int->Tm->(Unit)->(Option (gm (Unit) (Bool)))) λi=>dH (fk i a0.ak6 0 ()) (fL (λ(_:Unit)=>some true) (λr=>some r))) λa=>if eP a0.ak5 a1.ak5 then a true else if eP a0.ak8 a1.ak8 then a true else dH (gN FU a0.dM a1.dM) λj=>if j then a (eP (eA a0.ak6) (eA a1.ak6))else a true
def rh(a0 a1:Tm):Option Bool:=dH (jz FU a0 a1) λa=>some a
def CI(a0:Tm)(a1:Int):Option (Tm×Int×Int):=none
def yJ(a0 a1:Tm)(a2:Int):Option Int:=dH (pq a0) λj=>if eP j 0 then some j else dH (pq a1) λa=>if eP a 0 then some a else dH (rh a0 a1) λd=>if d then some 0 else eZ (CI a0 a2) λf k b=>if eP b 0 then some b else eZ (CI a1 a2) λh l c=>if eP c 0 then some c else dH (rh f h) λi=>if i then some 0 else some 11
def qD:Nat->Fm->Fm->Option Int
 |0,_,_=>none|n+1,a0,a1=>ej (λ(k:Bool)=>if k then some 11 else gB (eV a0.eh)<|ej (λ(l:Int) (o:Tm)=>(λ(_:Unit)=>dH (dW a1.eh l) λc=>dH (yJ o c 1000) λa=>if eP a 0 then some (.ret a)else some (.next ())):Int->Tm->(Unit)->(Option (gm (Unit) (Int)))) λq=>dH (fk q a0.eh 0 ()) (fL (λ(_:Unit)=>gB (eV a0.ak6)<|ej (λ(d:Int) (f:Fm)=>(λ(_:Unit)=>dH (dW a1.ak6 d) λh=>dH (qD n f h) λb=>if eP b 0 then some (.ret b)else some (.next ())):Int->Fm->(Unit)->(Option (gm (Unit) (Int)))) λi=>dH (fk i a0.ak6 0 ()) (fL (λ(_:Unit)=>some 0) (λr=>some r))) (λr=>some r))) λj=>if eP a0.ak5 a1.ak5 then j true else dH (gN FU a0.dM a1.dM) λs=>j (lJ s)
def uf(a0 a1:Fm):Option Int:=dH (j9 a0) λc=>if eP c 0 then some c else dH (j9 a1) λa=>if eP a 0 then some a else dH (qD FU a0 a1) λb=>some b
def uh(a0 a1:Tm):Option Fm:=some (Fm.mk 1 (Ty.mk 0 []) [a0,a1] [])
def qu(a0:List Fm)(a1:Pf)(a2:ew):Option (d_×Int):=dH (dW a1.eh 0) λb=>dH (mu a2.ak9 b) λa=>if eP a 0 then some ((d_.mk (Fm.mk 0 (Ty.mk 0 []) [] []) 0),a)else dH (uh b b) λc=>some ((d_.mk c 0),0)
def AA(a0:Bool):Option (Int×Int):=if a0 then some (4,3)else some (5,2)
def BY(a0:Int)(a1:List Tm):Option Tm:=some (Tm.mk a0 0 (Ty.mk 0 []) a1)
def Bi(a0:Tm)(a1:List Ty):Option Tm:=ej ((Ze λ(a:Int) (b:Int) (v59:Int) (c:Int) (d:List Ty) (f:List Tm)=>if pd a 0 then dH (dW a1 a) λh=>some (.next ((fA .i64 a 1),2,0,h.ak5,h.ak6,[(Tm.mk b v59 (Ty.mk c d) f)]))else some (.yd (a,b,v59,c,d,f))):(Int×Int×Int×Int×(List Ty)×(List Tm))->(Option (gm (Int×Int×Int×Int×(List Ty)×(List Tm)) (Tm)))) λi=>dH (js i FU ((fA .i64 (eA a1) 1),a0.ak5,a0.ak8,a0.dM.ak5,a0.dM.ak6,a0.ak6)) (fL (Ze λ(a:Int) (b:Int) (v59:Int) (c:Int) (d:List Ty) (f:List Tm)=>some (Tm.mk b v59 (Ty.mk c d) f)) (λr=>some r))
def Ia(a0:Int)(a1:Ty)(a2 a3 a4:Tm):Option Tm:=some (Tm.mk a0 0 a1 [a2,a3,a4])
def qZ(a0 a1 a2:Tm):Option Tm:=dH (pG) λa=>dH (pG) λb=>dH (pG) λc=>dH (Bi a1 [b,c]) λd=>dH (Ia 6 a a0 d a2) λf=>some f
def CW:Option Tm:=dH (BY 4 []) λa=>dH (oI 1) λb=>dH (oI 0) λc=>dH (qZ a b c) λd=>dH (pG) λf=>dH (Bi d [f]) λh=>some h
def EK(a0:Tm)(a1:List Tm):Option Tm:=gB (eV a1)<|ej (λ(j:Int) (h:Tm)=>(un5 λ(b:Int) (c:Int) (v46:Int) (d:List Ty) (f:List Tm)=>dH (BY 3 [(Tm.mk b c (Ty.mk v46 d) f),h]) λa=>some (.next (a.ak5,a.ak8,a.dM.ak5,a.dM.ak6,a.ak6))):Int->Tm->(Int×Int×Int×(List Ty)×(List Tm))->(Option (gm (Int×Int×Int×(List Ty)×(List Tm)) (Tm)))) λi=>dH (fk i a1 0 (a0.ak5,a0.ak8,a0.dM.ak5,a0.dM.ak6,a0.ak6)) (fL (un5 λ(b:Int) (c:Int) (v46:Int) (d:List Ty) (f:List Tm)=>some (Tm.mk b c (Ty.mk v46 d) f)) (λr=>some r))
def Ft(a0:Tm):Option Tm:=dH (pG) λa=>dH (pG) λb=>dH (Bi a0 [a,b]) λc=>some c
def FT:Option Tm:=dH (oI 1) λa=>dH (CW) λb=>dH (oI 0) λc=>dH (EK b [c]) λd=>dH (oI 0) λf=>dH (qZ a d f) λh=>dH (Ft h) λi=>some i
def DD(a0 a1:Tm):Option Fm:=dH (FT) λa=>dH (BY 5 [a0]) λb=>dH (EK a [b,a1]) λc=>dH (BY 4 []) λd=>dH (uh c d) λf=>some f
def p5:Nat->Fm->Fm->Option Bool
 |0,_,_=>none|n+1,a0,a1=>ej (λ(k:Bool)=>if k then some false else gB (eV a0.eh)<|ej (λ(l:Int) (o:Tm)=>(λ(_:Unit)=>dH (dW a1.eh l) λb=>dH (jz FU o b) λc=>if c then some (.next ())else some (.ret false)):Int->Tm->(Unit)->(Option (gm (Unit) (Bool)))) λq=>dH (fk q a0.eh 0 ()) (fL (λ(_:Unit)=>gB (eV a0.ak6)<|ej (λ(d:Int) (f:Fm)=>(λ(_:Unit)=>dH (dW a1.ak6 d) λh=>dH (p5 n f h) λi=>if i then some (.next ())else some (.ret false)):Int->Fm->(Unit)->(Option (gm (Unit) (Bool)))) λj=>dH (fk j a0.ak6 0 ()) (fL (λ(_:Unit)=>some true) (λr=>some r))) (λr=>some r))) λa=>if eP a0.ak5 a1.ak5 then a true else dH (gN FU a0.dM a1.dM) λs=>if s then if eP (eA a0.eh) (eA a1.eh)then a true else a (eP (eA a0.ak6) (eA a1.ak6))else a true
def AJ(a0:Fm):Option (Bool×Tm×Fm×Bool):=dU (AA (eo a0.ak5 4)) λu v=>ej (λ(s:Bool)=>if s then some (false,(Tm.mk 0 0 (Ty.mk 0 []) []),(Fm.mk 0 (Ty.mk 0 []) [] []),false)else dH (dW a0.ak6 0) λf=>dH (dW f.ak6 0) λh=>dH (dW h.eh 0) λd=>ej (λ(i:Bool)=>if i then some (false,(Tm.mk 0 0 (Ty.mk 0 []) []),(Fm.mk 0 (Ty.mk 0 []) [] []),false)else dH (dW d.ak6 1) λj=>dH (dW f.ak6 1) λk=>some ((eo a0.ak5 4),j,k,true)) λa=>if eP d.ak5 3 then a true else dH (dW d.ak6 1) λc=>dH (zy c 0) λl=>if oQ l 0 then a true else dH (oI 0) λn=>dH (DD n c) λo=>dH (p5 FU h o) λq=>a (lJ q)) λb=>if eP a0.ak5 u then b true else if eP a0.dM.ak5 1 then b true else dH (dW a0.ak6 0) λr=>if eP r.ak5 v then b true else dH (dW r.ak6 0) λt=>b (eP t.ak5 1)
def wq:Nat->Fm->Option Int
 |0,_=>none|n+1,a0=>if eo a0.ak5 1 then some 6 else dH (dW a0.ak6 (fA .i64 (eA a0.ak6) 1)) λo=>dH (wq n o) λa=>ej (λ(b:Int)=>ej (λ(h:Int)=>some h) λc=>VD (AJ a0) λq r i j=>if j then dH (wq n i) λk=>c (SV .u8 (B3 .u8 b 1) (B3 .u8 k 4))else c (B3 .u8 b 1)) λd=>if fv (eo a0.ak5 2) true (eo a0.ak5 3)then dH (dW a0.ak6 0) λl=>dH (wq n l) λf=>some (SV .u8 (B3 .u8 (B3 .u8 f a) 6) (B3 .u8 (fv (eo a0.ak5 2) (SV .u8 a f) a) 1))else if eo a0.ak5 5 then d (SV .u8 a 1)else d a
def FL(a0:Fm)(a1:Int):Option (Bool×Int):=dH (j9 a0) λb=>if eP b 0 then some (false,b)else dH (wq FU a0) λa=>some ((eP (B3 .u8 a a1) 0),0)
def xH(a0:Fm):Option (Bool×Int):=dU (FL a0 1) λa b=>some (a,b)
mutual
def jX:Nat->(List Fm)->Pf->ew->Option (d_×Int)
 |0,_,_,_=>none|n+1,a0,a1,a2=>dU (if eo a1.ak5 8 then qm n a0 a1 a2 else if eo a1.ak5 10 then rn n a0 a1 a2 else if eo a1.ak5 18 then qu a0 a1 a2 else none) λa b=>if eP b 0 then some ((d_.mk (Fm.mk 0 (Ty.mk 0 []) [] []) 0),b)else dH (j9 a.dZ) λd=>if eP d 0 then some ((d_.mk (Fm.mk 0 (Ty.mk 0 []) [] []) 0),4)else ej (λ(v30:Int)=>some ((d_.mk a.dZ v30),0)) λc=>dU (xH a.dZ) λf h=>if f then c a.jL else c 0
def qm:Nat->(List Fm)->Pf->ew->Option (d_×Int)
 |0,_,_,_=>none|n+1,a0,a1,a2=>dH (rv a2.nu 1 0) λj=>if eP j 0 then some ((d_.mk (Fm.mk 0 (Ty.mk 0 []) [] []) 0),j)else dH (dW a1.ak6 0) λd=>dH (rk a2 [a1.dM]) λf=>dU (jX n a0 d f) λa b=>if eP b 0 then some ((d_.mk (Fm.mk 0 (Ty.mk 0 []) [] []) 0),b)else ej (λ(v40:Int)=>dH (va v40 a1.dM a.dZ) λh=>dH (pf a.jL 1) λi=>some ((d_.mk h i),0)) λc=>if eo a1.ak5 12 then if eP (B3 .u32 a.jL 1) 0 then some ((d_.mk (Fm.mk 0 (Ty.mk 0 []) [] []) 0),12)else c 6 else c 4
def rn:Nat->(List Fm)->Pf->ew->Option (d_×Int)
 |0,_,_,_=>none|n+1,a0,a1,a2=>dH (dW a1.fW 0) λa=>dH (dW a1.eh 0) λb=>if eo a1.ak5 14 then dH (je FU a2.ak9 a) λd=>if eP d 0 then some ((d_.mk (Fm.mk 0 (Ty.mk 0 []) [] []) 0),d)else if eP a.ak5 7 then some ((d_.mk (Fm.mk 0 (Ty.mk 0 []) [] []) 0),10)else dU (eX FU a2.ak9 b) λr f=>if eP f 0 then some ((d_.mk (Fm.mk 0 (Ty.mk 0 []) [] []) 0),f)else dH (oV r a.dM) λs=>if s then dH (dW a1.ak6 0) λt=>dH (dW a.ak6 0) λu=>dU (lR n a0 t a2 u b) λv h=>if eP h 0 then some ((d_.mk (Fm.mk 0 (Ty.mk 0 []) [] []) 0),h)else dH (pn b) λw=>some ((d_.mk a (SV .u32 v.jL w)),0)else some ((d_.mk (Fm.mk 0 (Ty.mk 0 []) [] []) 0),7)else dH (je FU a2.ak9 a) λi=>if eP i 0 then some ((d_.mk (Fm.mk 0 (Ty.mk 0 []) [] []) 0),i)else if eP a.ak5 5 then some ((d_.mk (Fm.mk 0 (Ty.mk 0 []) [] []) 0),10)else dU (eX FU a2.ak9 b) λx j=>if eP j 0 then some ((d_.mk (Fm.mk 0 (Ty.mk 0 []) [] []) 0),j)else dH (oV x a.dM) λy=>if y then dH (dW a1.ak6 0) λk=>dH (dW a.ak6 0) λl=>dU (lR n a0 k a2 l b) λo c=>if eP c 0 then some ((d_.mk (Fm.mk 0 (Ty.mk 0 []) [] []) 0),c)else dH (A' b) λq=>some ((d_.mk a (SV .u32 o.jL q)),0)else some ((d_.mk (Fm.mk 0 (Ty.mk 0 []) [] []) 0),7)
def lR:Nat->(List Fm)->Pf->ew->Fm->Tm->Option (d_×Int)
 |0,_,_,_,_,_=>none|n+1,a0,a1,a2,a3,a4=>dU (jX n a0 a1 a2) λd f=>if eP f 0 then some ((d_.mk (Fm.mk 0 (Ty.mk 0 []) [] []) 0),f)else dU (Dx a3 a4) λb a=>if eP a 0 then some ((d_.mk (Fm.mk 0 (Ty.mk 0 []) [] []) 0),a)else dH (uf b d.dZ) λc=>some (d,c)
end
def Ed:Nat->Tm->Option Tm
 |0,_=>none|n+1,a0=>dH (ki FU a0.dM) λd=>gB (eV a0.ak6)<|ej (λ(f:Int) (b:Tm)=>(λ(v72:List Tm)=>dH (Ed n b) λa=>gB (fI v72 [a])<|some (.next (fR v72 [a]))):Int->Tm->(List Tm)->(Option (gm (List Tm) (Tm)))) λc=>dH (fk c a0.ak6 0 []) (fL (λ(v72:List Tm)=>some (Tm.mk a0.ak5 a0.ak8 d v72)) (λr=>some r))
def sl(a0:Tm)(a1:Int):Option Tm:=dH (Ed FU a0) λa=>some a
def u9(a0:Fm):Option Fm:=dU (gW FU a0 0 (λ(s:Unit) (a:Tm) (b:Int)=>yt (sl a b) s) ()) λc d=>some c
def nH(a0:Int):Option (List Int):=ej ((xm λ(v37:Int) (a:List Int)=>if eP v37 0 then dH (mA v37) λb=>gB (fI a [b])<|some (.next ((B3 .u32 v37 (fA .u32 v37 1)),(fR a [b])))else some (.yd (v37,a))):(Int×(List Int))->(Option (gm (Int×(List Int)) (List Int)))) λc=>dH (js c FU (a0,[])) (fL (xm λ(v37:Int) (a:List Int)=>some a) (λr=>some r))
def zg(a0:List Fm)(a1:Sq)(a2:Pf):Option (sW×Int):=dH (wV a0 a1) λi=>if eP i 0 then some ((sW.mk (Fm.mk 0 (Ty.mk 0 []) [] []) []),i)else dH (rY a2) λa=>if eP a 0 then some ((sW.mk (Fm.mk 0 (Ty.mk 0 []) [] []) []),a)else dH (DU) λj=>dH (zb a1) λd=>dU (jX FU a0 a2 d) λb c=>if eP c 0 then some ((sW.mk (Fm.mk 0 (Ty.mk 0 []) [] []) []),c)else dH (u9 b.dZ) λf=>dH (nH b.jL) λh=>some ((sW.mk f h),0)
def tX(a0:Tm)(a1:Pf):Option Int:=dU (zg [] (Sq.mk [] []) a1) λj i=>if eP i 0 then some i else dH (gw) λa=>dH (fa 0) λb=>dH (hX a0 [b]) λc=>dH (gb c) λd=>dH (px 4 a d) λf=>dH (uf j.dZ f) λh=>some h
def kh(a0:Int):Option Pf:=some (Pf.mk 1 a0 (Ty.mk 0 []) [] [] [])
def jM(a0:Fm)(a1 a2:Pf):Option Pf:=some (Pf.mk 19 0 (Ty.mk 0 []) [] [a0] [a1,a2])
def zs(a0:Tm)(a1:Pf):Option Pf:=some (Pf.mk 9 0 (Ty.mk 0 []) [a0] [] [a1])
def mg(a0:Int)(a1:List Pf):Option Pf:=some (Pf.mk a0 0 (Ty.mk 0 []) [] [] a1)
def yS(a0:Tm)(a1:Pf)(a2:Tm)(a3:Pf):Option (Fm×Pf×Int):=ej ([a0,a2]:List Tm) λd=>gB (eV d)<|ej (λ(ae:Int) (ad:Tm)=>(λ(_:Unit)=>dH (sR) λf=>dH (jc ad f) λa=>if eP a 0 then eZ (i_ a) λh i j=>some (.ret (h,i,j))else some (.next ())):Int->Tm->(Unit)->(Option (gm (Unit) (Fm×Pf×Int)))) λk=>dH (fk k d 0 ()) (fL (λ(_:Unit)=>dH (tX a0 a1) λb=>if eP b 0 then eZ (i_ b) λl n o=>some (l,n,o)else dH (tX a2 a3) λc=>if eP c 0 then eZ (i_ c) λq s t=>some (q,s,t)else dH (fa 2) λu=>dH (hX a0 [u]) λv=>dH (hX a2 [v]) λw=>dH (gb w) λx=>dH (fa 0) λy=>dH (fa 1) λA=>dH (fa 0) λB=>dH (hX a2 [B]) λC=>dH (mJ A C) λD=>dH (kh 1) λF=>dH (kh 0) λG=>dH (jM D F G) λH=>dH (jJ x y H) λI=>dH (fa 0) λJ=>dH (zs J a1) λK=>dH (fa 0) λL=>dH (zs L a3) λM=>dH (mg 11 [M,I]) λN=>dH (mg 11 [K,N]) λO=>dH (gw) λP=>dH (fa 0) λQ=>dH (hX a0 [Q]) λR=>dH (hX a2 [R]) λS=>dH (gb S) λT=>dH (px 4 P T) λU=>dH (gw) λV=>dH (py V O) λW=>eZ (kD U W) λX Y Z=>some (X,Y,Z)) (λr=>some r))
def iY:Nat->Ty->Option Ty
 |0,_=>none|n+1,a0=>gB (eV a0.ak6)<|ej (λ(d:Int) (b:Ty)=>(λ(v40:List Ty)=>dH (iY n b) λa=>gB (fI v40 [a])<|some (.next (fR v40 [a]))):Int->Ty->(List Ty)->(Option (gm (List Ty) (Ty)))) λc=>dH (fk c a0.ak6 0 []) (fL (λ(v40:List Ty)=>some (Ty.mk a0.ak5 v40)) (λr=>some r))
def lF:Nat->Tm->Option Tm
 |0,_=>none|n+1,a0=>gB (eV a0.ak6)<|ej (λ(f:Int) (b:Tm)=>(λ(v40:List Tm)=>dH (lF n b) λa=>gB (fI v40 [a])<|some (.next (fR v40 [a]))):Int->Tm->(List Tm)->(Option (gm (List Tm) (Tm)))) λc=>dH (fk c a0.ak6 0 []) (fL (λ(v40:List Tm)=>dH (iY FU a0.dM) λd=>some (Tm.mk a0.ak5 a0.ak8 d v40)) (λr=>some r))
def fQ(a0:Int)(a1:List Tm):Option Tm:=gB (eV a1)<|ej (λ(d:Int) (b:Tm)=>(λ(v40:List Tm)=>dH (lF FU b) λa=>gB (fI v40 [a])<|some (.next (fR v40 [a]))):Int->Tm->(List Tm)->(Option (gm (List Tm) (Tm)))) λc=>dH (fk c a1 0 []) (fL (λ(v40:List Tm)=>some (Tm.mk a0 0 (Ty.mk 0 []) v40)) (λr=>some r))
def qU(a0:Int):Option Tm:=dH (fQ 4 []) λf=>ej ((Ze λ(a:Int) (v30:Int) (v31:Int) (b:Int) (c:List Ty) (d:List Tm)=>if oQ a 0 then some (.next ((fA .i64 a 1),5,0,0,[],[(Tm.mk v30 v31 (Ty.mk b c) d)]))else some (.yd (a,v30,v31,b,c,d))):(Int×Int×Int×Int×(List Ty)×(List Tm))->(Option (gm (Int×Int×Int×Int×(List Ty)×(List Tm)) (Tm)))) λh=>dH (js h FU (a0,f.ak5,f.ak8,f.dM.ak5,f.dM.ak6,f.ak6)) (fL (Ze λ(a:Int) (v30:Int) (v31:Int) (b:Int) (c:List Ty) (d:List Tm)=>some (Tm.mk v30 v31 (Ty.mk b c) d)) (λr=>some r))
def vC(a0:Int):Option (Tm×Int):=if o7 a0 0 then some ((Tm.mk 0 0 (Ty.mk 0 []) []),1)else if pd a0 4096 then some ((Tm.mk 0 0 (Ty.mk 0 []) []),4)else dH (qU a0) λa=>some (a,0)
def uX(a0:Int):Option Tm:=dU (vC a0) λa b=>some a
def nK(a0 a b:Tm):Option Tm:=dH (gw) λc=>some (Tm.mk 6 0 c [a,b,a0])
def l'(a0:Int)(a1:Fm)(a2:Tm)(a3 a4:Pf):Option Pf:=some (Pf.mk a0 0 (Ty.mk 0 []) [a2] [a1] [a3,a4])
def y5(a0 a1:Tm):Option (Fm×Pf×Int):=dH (gw) λae=>dH (jc a0 ae) λc=>if eP c 0 then eZ (i_ c) λaf ah ai=>some (af,ah,ai)else dH (gw) λd=>dH (gw) λf=>dH (gw) λh=>dH (rb d [f,h]) λi=>dH (jc a1 i) λb=>if eP b 0 then eZ (i_ b) λj k l=>some (j,k,l)else dH (fa 1) λn=>dH (fa 0) λo=>dH (hX a1 [n,o]) λa=>dH (fa 1) λq=>dH (lO 5 [q]) λr=>dH (nK r a0 a1) λs=>dH (gb s) λt=>dH (lA FU a 0 1) λu=>dH (fa 2) λv=>dH (fa 0) λw=>dH (hX a1 [v,w]) λx=>dH (mJ u x) λy=>dH (kh 0) λA=>dH (kC a) λB=>dH (jM y A B) λC=>dH (jJ t a C) λD=>dH (lO 4 []) λF=>dH (nK F a0 a1) λG=>dH (gb G) λH=>dH (kC a0) λI=>dH (jJ H a0 I) λJ=>dH (fa 0) λK=>dH (nK K a0 a1) λL=>dH (gb L) λM=>dH (fa 0) λN=>dH (kh 0) λO=>dH (mg 11 [O,D]) λP=>dH (l' 16 M N J P) λQ=>dH (gw) λR=>dH (fa 0) λS=>dH (nK S a0 a1) λT=>dH (gb T) λU=>dH (px 4 R U) λV=>dH (gw) λW=>dH (py W Q) λX=>eZ (kD V X) λY Z ad=>some (Y,Z,ad)
def tj:Option Ty:=some (Ty.mk 2 [])
def jO(a0 a b:Tm):Option Tm:=dH (gw) λc=>some (Tm.mk 9 0 c [a,b,a0])
def ma(a0 a1:Tm):Option (Fm×Pf×Int):=dH (gw) λak=>dH (jc a0 ak) λc=>if eP c 0 then eZ (i_ c) λan ao aq=>some (an,ao,aq)else dH (gw) λd=>dH (gw) λf=>dH (tj) λh=>dH (gw) λi=>dH (rb d [f,h,i]) λj=>dH (jc a1 j) λb=>if eP b 0 then eZ (i_ b) λk l n=>some (k,l,n)else dH (fa 2) λo=>dH (fa 1) λq=>dH (fa 0) λr=>dH (hX a1 [o,q,r]) λa=>dH (fa 2) λs=>dH (fa 1) λt=>dH (lO 8 [s,t]) λu=>dH (jO u a0 a1) λv=>dH (gb v) λw=>dH (lA FU a 0 1) λx=>dH (fa 3) λy=>dH (fa 2) λA=>dH (fa 0) λB=>dH (hX a1 [y,A,B]) λC=>dH (mJ x C) λD=>dH (kh 0) λF=>dH (kC a) λG=>dH (jM D F G) λH=>dH (jJ w a H) λI=>dH (lO 7 []) λJ=>dH (jO J a0 a1) λK=>dH (gb K) λL=>dH (kC a0) λM=>dH (jJ L a0 M) λN=>dH (fa 0) λO=>dH (jO O a0 a1) λP=>dH (gb P) λQ=>dH (fa 0) λR=>dH (kh 0) λS=>dH (mg 11 [S,I]) λT=>dH (l' 17 Q R N T) λU=>dH (tj) λV=>dH (fa 0) λW=>dH (jO W a0 a1) λX=>dH (gb X) λY=>dH (px 4 V Y) λZ=>dH (tj) λad=>dH (py ad U) λae=>eZ (kD Z ae) λaf ah ai=>some (af,ah,ai)
def gA(a0:Int):Option Tm:=some (Tm.mk 1 a0 (Ty.mk 0 []) [])
def jy:Option Ty:=some (Ty.mk 1 [])
def lu(a0:Int)(a1:Ty)(a2:List Tm):Option Tm:=dH (fQ a0 a2) λa=>dH (iY FU a1) λb=>some (Tm.mk a.ak5 a.ak8 b a.ak6)
def jW(a0:Tm):Option Tm:=dH (jy) λa=>dH (lu 2 a [a0]) λb=>some b
def tn(a0 a1 a2:Tm):Option Tm:=dH (jy) λa=>dH (lu 6 a [a0,a1,a2]) λb=>some b
def pS:Option Tm:=dH (gA 1) λa=>dH (gA 0) λb=>dH (fQ 5 [b]) λc=>dH (jW c) λd=>dH (jW d) λf=>dH (gA 0) λh=>dH (tn a f h) λi=>dH (jW i) λj=>dH (jW j) λk=>some k
def ra(a0:Ty)(a1:Tm):Option Tm:=some (Tm.mk 2 0 a0 [a1])
def kJ(a0:Tm)(a:Ty)(b c d:Tm):Option Tm:=dH (lO 10 [b,c]) λf=>dH (gw) λh=>dH (ra a d) λi=>dH (ra h i) λj=>some (Tm.mk 6 0 a [f,j,a0])
def iG(a0:Tm):Option Tm:=dH (lO 11 [a0]) λa=>some a
def iF(a0:Tm):Option Tm:=dH (lO 12 [a0]) λa=>some a
def oG(a0:Tm)(a:Ty):Option Fm:=dH (lA FU a0 0 1) λn=>dH (fa 0) λb=>dH (iG b) λc=>dH (iG n) λd=>dH (mJ c d) λf=>dH (fa 0) λh=>dH (iF h) λi=>dH (iF n) λj=>dH (mJ i j) λk=>dH (px 5 a (Fm.mk 2 (Ty.mk 0 []) [] [f,k])) λl=>some l
def xK(a0 a1 a2:Tm):Option (Fm×Pf×Int):=ej ([a0,a1]:List Tm) λi=>gB (eV i)<|ej (λ(bs:Int) (br:Tm)=>(λ(_:Unit)=>dH (gw) λj=>dH (jc br j) λd=>if eP d 0 then eZ (i_ d) λk l n=>some (.ret (k,l,n))else some (.next ())):Int->Tm->(Unit)->(Option (gm (Unit) (Fm×Pf×Int)))) λo=>dH (fk o i 0 ()) (fL (λ(_:Unit)=>dH (gw) λq=>dH (gw) λs=>dH (gw) λt=>dH (rb q [s,t]) λu=>dH (jc a2 u) λf=>if eP f 0 then eZ (i_ f) λv w x=>some (v,w,x)else dH (gw) λa=>dH (gw) λb=>dH (fa 0) λy=>dH (iF y) λA=>dH (fa 0) λB=>dH (iG B) λC=>dH (fa 0) λD=>dH (iF D) λF=>dH (hX a2 [C,F]) λG=>dH (lO 10 [A,G]) λc=>dH (lO 4 []) λH=>dH (kJ H (Ty.mk 3 [a,b]) a0 a1 c) λI=>dH (oG I (Ty.mk 3 [a,b])) λJ=>dH (lO 10 [a0,a1]) λK=>dH (kC a0) λL=>dH (kC a1) λM=>dH (mg 3 [L,M]) λN=>dH (jJ J K N) λO=>dH (fa 1) λP=>dH (iF P) λQ=>dH (fa 0) λR=>dH (mJ Q R) λS=>dH (kh 0) λT=>dH (mg 5 [T]) λU=>dH (fa 0) λV=>dH (iF V) λW=>dH (kC W) λX=>dH (jM S U X) λY=>dH (fa 1) λZ=>dH (iG Z) λad=>dH (fa 1) λae=>dH (iF ae) λaf=>dH (hX a2 [ad,af]) λh=>dH (fa 0) λah=>dH (fa 1) λai=>dH (iF ai) λak=>dH (hX a2 [ah,ak]) λan=>dH (mJ h an) λao=>dH (kh 0) λaq=>dH (mg 4 [aq]) λar=>dH (fa 0) λaw=>dH (iG aw) λax=>dH (fa 0) λay=>dH (iF ay) λaz=>dH (hX a2 [ax,az]) λaA=>dH (kC aA) λaB=>dH (jM ao ar aB) λaC=>dH (fa 2) λaD=>dH (kJ aD (Ty.mk 3 [a,b]) a0 a1 c) λaE=>dH (iG aE) λaF=>dH (fa 0) λaG=>dH (hX a2 [aF,aG]) λaH=>dH (mJ h aH) λaI=>dH (kh 0) λaJ=>dH (mg 5 [aJ]) λaK=>dH (jM aI aK aC) λaL=>dH (kh 0) λaM=>dH (fa 1) λaN=>dH (lO 5 [aN]) λaO=>dH (kJ aO (Ty.mk 3 [a,b]) a0 a1 c) λaP=>dH (oG aP (Ty.mk 3 [a,b])) λaQ=>dH (mg 3 [Y,aL]) λaR=>dH (jJ aQ c aR) λaS=>dH (mg 11 [aM,aS]) λaT=>dH (fa 1) λaU=>dH (kJ aU (Ty.mk 3 [a,b]) a0 a1 c) λaV=>dH (iG aV) λaW=>dH (gb aW) λaX=>dH (fa 0) λaY=>dH (iG aY) λaZ=>dH (kh 0) λa6=>dH (mg 4 [a6]) λa7=>dH (jJ aX aZ a7) λa8=>dH (gw) λa_=>dH (fa 0) λa'=>dH (kJ a' (Ty.mk 3 [a,b]) a0 a1 c) λba=>dH (oG ba (Ty.mk 3 [a,b])) λbb=>dH (fa 0) λbc=>dH (l' 16 bb bc O aT) λbd=>dH (mg 11 [bd,a8]) λbf=>dH (py a_ bf) λbg=>dH (gw) λbh=>dH (fa 0) λbj=>dH (kJ bj (Ty.mk 3 [a,b]) a0 a1 c) λbk=>dH (iG bk) λbl=>dH (gb bl) λbm=>dH (px 4 bh bm) λbn=>eZ (kD bn bg) λbo bp bq=>some (bo,bp,bq)) (λr=>some r))
def p0:Nat->Ty->Option Bool
 |0,_=>none|n+1,a0=>ej (λ(v10:Int)=>if eP (eA a0.ak6) v10 then some false else gB (eV a0.ak6)<|ej (λ(f:Int) (b:Ty)=>(λ(_:Unit)=>dH (p0 n b) λc=>if c then some (.next ())else some (.ret false)):Int->Ty->(Unit)->(Option (gm (Unit) (Bool)))) λd=>dH (fk d a0.ak6 0 ()) (fL (λ(_:Unit)=>some true) (λr=>some r))) λa=>if fv (eo a0.ak5 1) true (fv (eo a0.ak5 2) true (eo a0.ak5 5))then a 0 else if fv (eo a0.ak5 3) true (eo a0.ak5 4)then a 2 else some false
def pT:Nat->Ty->Option Int
 |0,_=>none|n+1,a0=>gB (eV a0.ak6)<|ej (λ(f:Int) (b:Ty)=>(λ(a:Int)=>dH (pT n b) λc=>some (.next (eS .i64 a c))):Int->Ty->(Int)->(Option (gm (Int) (Int)))) λd=>dH (fk d a0.ak6 0 1) (fL (λ(a:Int)=>some a) (λr=>some r))
def il(a0:Ty):Option Int:=dH (p0 FU a0) λb=>if b then dH (pT FU a0) λa=>if oQ a 64 then some 4 else some 0 else some 2
def l7(a0:List Ty):Option Int:=if oQ (eA a0) 16 then some 3 else gB (eV a0)<|ej (λ(d:Int) (b:Ty)=>(λ(_:Unit)=>dH (il b) λa=>if eP a 0 then some (.ret a)else some (.next ())):Int->Ty->(Unit)->(Option (gm (Unit) (Int)))) λc=>dH (fk c a0 0 ()) (fL (λ(_:Unit)=>some 0) (λr=>some r))
def pD(a0:Ty):Option Bool:=some (fv (eo a0.ak5 0) (eo (eA a0.ak6) 0) false)
def wv(a0:Int):Option Int:=if fv (eo a0 1) true (fv (eo a0 4) true (fv (eo a0 7) true (eo a0 13)))then some 0 else if fv (eo a0 2) true (fv (eo a0 5) true (fv (eo a0 11) true (eo a0 12)))then some 1 else if fv (eo a0 3) true (fv (eo a0 8) true (eo a0 10))then some 2 else if fv (eo a0 6) true (eo a0 9)then some 3 else some (-1)
def kH:Nat->Tm->Option Bool
 |0,_=>none|n+1,a0=>ej (λ(v21:Bool)=>if v21 then some false else ej (gB (eV a0.ak6)<|ej (λ(k:Int) (c:Tm)=>(λ(_:Unit)=>dH (kH n c) λd=>if d then some (.next ())else some (.ret false)):Int->Tm->(Unit)->(Option (gm (Unit) (Bool)))) λf=>dH (fk f a0.ak6 0 ()) (fL (λ(_:Unit)=>some true) (λr=>some r))) λb=>if fv (eo a0.ak5 2) true (fv (eo a0.ak5 6) true (eo a0.ak5 9))then dH (il a0.dM) λh=>if eP h 0 then some false else b else dH (pD a0.dM) λi=>if i then b else some false) λa=>dH (wv a0.ak5) λj=>if eP (eA a0.ak6) j then a true else if o7 a0.ak8 0 then a true else if eP a0.ak5 1 then a (eP a0.ak8 0)else a false
def kV(a0:Int):Option Bool:=some (fv (eo a0 4) true (fv (eo a0 5) true (fv (eo a0 6) true (eo a0 7))))
def l9:Nat->Fm->Option Bool
 |0,_=>none|n+1,a0=>if eo a0.ak5 1 then ej (λ(s:Bool)=>some s) λc=>if eo (eA a0.ak6) 0 then dH (pD a0.dM) λt=>if t then if eo (eA a0.eh) 2 then dH (dW a0.eh 0) λu=>dH (kH FU u) λv=>if v then dH (dW a0.eh 1) λw=>dH (kH FU w) λx=>c x else c false else c false else c false else c false else if fv (eo a0.ak5 2) true (eo a0.ak5 3)then ej (λ(d:Bool)=>some d) λa=>if eo (eA a0.eh) 0 then dH (pD a0.dM) λf=>if f then if eo (eA a0.ak6) 2 then dH (dW a0.ak6 0) λh=>dH (l9 n h) λi=>if i then dH (dW a0.ak6 1) λj=>dH (l9 n j) λk=>a k else a false else a false else a false else a false else dH (kV a0.ak5) λl=>if l then ej (λ(v141:Bool)=>some v141) λb=>if eo (eA a0.eh) 0 then dH (il a0.dM) λo=>if eo o 0 then if eo (eA a0.ak6) 1 then dH (dW a0.ak6 0) λq=>dH (l9 n q) λr=>b r else b false else b false else b false else some false
def fU:Nat->Tm->Option Int
 |0,_=>none|n+1,a0=>gB (eV a0.ak6)<|ej (λ(f:Int) (b:Tm)=>(λ(a:Int)=>dH (fU n b) λc=>some (.next (eS .i64 a c))):Int->Tm->(Int)->(Option (gm (Int) (Int)))) λd=>dH (fk d a0.ak6 0 1) (fL (λ(a:Int)=>some a) (λr=>some r))
def lW:Nat->Fm->Option Int
 |0,_=>none|n+1,a0=>gB (eV a0.eh)<|ej (λ(j:Int) (b:Tm)=>(λ(a:Int)=>dH (fU FU b) λc=>some (.next (eS .i64 a c))):Int->Tm->(Int)->(Option (gm (Int) (Int)))) λd=>dH (fk d a0.eh 0 1) (fL (λ(a:Int)=>gB (eV a0.ak6)<|ej (λ(k:Int) (f:Fm)=>(λ(v75:Int)=>dH (lW n f) λh=>some (.next (eS .i64 v75 h))):Int->Fm->(Int)->(Option (gm (Int) (Int)))) λi=>dH (fk i a0.ak6 0 a) (fL (λ(v75:Int)=>some v75) (λr=>some r))) (λr=>some r))
def jV(a0:Fm):Option Int:=dH (l9 FU a0) λb=>if b then dH (lW FU a0) λa=>if oQ a 4096 then some 4 else some 0 else some 2
def lX(a0:Tm):Option Int:=dH (kH FU a0) λb=>if b then dH (fU FU a0) λa=>if oQ a 4096 then some 4 else some 0 else some 2
def kT(a0 a1:Ty):Option Ty:=dH (iY FU a0) λa=>dH (iY FU a1) λb=>some (Ty.mk 4 [a,b])
def uC(a0:Ty):Option (Ty×Int):=dH (il a0) λa=>if eP a 0 then some ((Ty.mk 0 []),4)else some (a0,0)
def mr:Option Ty:=some (Ty.mk 2 [])
def fm:Nat->Ty->Ty->Option Bool
 |0,_,_=>none|n+1,a0,a1=>if fv (eP a0.ak5 a1.ak5) true (eP (eA a0.ak6) (eA a1.ak6))then some false else gB (eV a0.ak6)<|ej (λ(c:Int) (d:Ty)=>(λ(_:Unit)=>dH (dW a1.ak6 c) λa=>dH (fm n d a) λb=>if b then some (.next ())else some (.ret false)):Int->Ty->(Unit)->(Option (gm (Unit) (Bool)))) λf=>dH (fk f a0.ak6 0 ()) (fL (λ(_:Unit)=>some true) (λr=>some r))
def tl(a0 a1:Ty):Option Ty:=dH (iY FU a0) λa=>dH (iY FU a1) λb=>some (Ty.mk 3 [a,b])
def tH:Option Ty:=some (Ty.mk 5 [])
def fG:Nat->(List Ty)->Tm->Option (Ty×Int)
 |0,_,_=>none|n+1,a0,a1=>if eo a1.ak5 1 then if pd a1.ak8 (eA a0)then some ((Ty.mk 0 []),6)else dH (dW a0 (fA .i64 (fA .i64 (eA a0) 1) a1.ak8)) λay=>dH (iY FU ay) λaz=>some (az,0)else if eo a1.ak5 2 then gB (fI a0 [a1.dM])<|dH (dW a1.ak6 0) λaA=>dU (fG n (fR a0 [a1.dM]) aA) λaB R=>if eP R 0 then some ((Ty.mk 0 []),R)else dH (kT a1.dM aB) λaC=>dU (uC aC) λaD aE=>some (aD,aE)else gB (eV a1.ak6)<|ej (λ(aF:Int) (S:Tm)=>(λ(a:List Ty)=>dU (fG n a0 S) λj k=>if eP k 0 then some (.ret ((Ty.mk 0 []),k))else gB (fI a [j])<|some (.next (fR a [j]))):Int->Tm->(List Ty)->(Option (gm (List Ty) (Ty×Int)))) λT=>dH (fk T a1.ak6 0 []) (fL (λ(a:List Ty)=>dH (jy) λb=>dH (mr) λc=>if eo a1.ak5 3 then ej (λ(U:Bool)=>if U then some ((Ty.mk 0 []),7)else dH (dW a 0) λV=>dH (dW V.ak6 1) λW=>some (W,0)) λl=>dH (dW a 0) λo=>if eP o.ak5 4 then l true else dH (dW o.ak6 0) λX=>dH (dW a 1) λY=>dH (fm FU X Y) λZ=>l (lJ Z)else if eo a1.ak5 4 then some (b,0)else if eo a1.ak5 5 then dH (dW a 0) λad=>dH (fm FU ad b) λae=>if ae then some (b,0)else some ((Ty.mk 0 []),7)else if eo a1.ak5 6 then ej (λ(af:Bool)=>if af then some ((Ty.mk 0 []),7)else dH (iY FU a1.dM) λah=>some (ah,0)) λh=>dH (dW a 0) λai=>dH (fm FU ai a1.dM) λak=>if ak then dH (dW a 1) λan=>dH (kT a1.dM a1.dM) λao=>dH (kT b ao) λaq=>dH (fm FU an aq) λar=>if ar then dH (dW a 2) λaw=>dH (fm FU aw b) λax=>h (lJ ax)else h true else h true else if eo a1.ak5 7 then some (c,0)else if eo a1.ak5 8 then ej (λ(q:Bool)=>if q then some ((Ty.mk 0 []),7)else some (c,0)) λi=>dH (dW a 0) λs=>dH (fm FU s b) λt=>if t then dH (dW a 1) λu=>dH (fm FU u c) λv=>i (lJ v)else i true else if eo a1.ak5 9 then ej (λ(w:Bool)=>if w then some ((Ty.mk 0 []),7)else dH (iY FU a1.dM) λx=>some (x,0)) λd=>dH (dW a 0) λy=>dH (fm FU y a1.dM) λA=>if A then dH (dW a 1) λB=>dH (kT a1.dM a1.dM) λC=>dH (kT c C) λD=>dH (kT b D) λF=>dH (fm FU B F) λG=>if G then dH (dW a 2) λH=>dH (fm FU H c) λI=>d (lJ I)else d true else d true else if eo a1.ak5 10 then dH (dW a 0) λJ=>dH (dW a 1) λK=>dH (tl J K) λL=>dU (uC L) λM N=>some (M,N)else if fv (eo a1.ak5 11) true (eo a1.ak5 12)then dH (dW a 0) λf=>if eP f.ak5 3 then some ((Ty.mk 0 []),7)else if eo a1.ak5 11 then dH (dW f.ak6 0) λO=>some (O,0)else dH (dW f.ak6 1) λP=>some (P,0)else dH (tH) λQ=>some (Q,0)) (λr=>some r))
def pC(a0:List Ty)(a1:Tm):Option (Ty×Int):=dH (lX a1) λc=>if eP c 0 then some ((Ty.mk 0 []),c)else dU (fG FU a0 a1) λa b=>some (a,b)
def mT:Nat->(List Ty)->Fm->Option Int
 |0,_,_=>none|n+1,a0,a1=>gB (eV a1.eh)<|ej (λ(l:Int) (c:Tm)=>(λ(_:Unit)=>dU (pC a0 c) λd b=>if eP b 0 then some (.ret b)else if eP d.ak5 1 then some (.ret 7)else some (.next ())):Int->Tm->(Unit)->(Option (gm (Unit) (Int)))) λf=>dH (fk f a1.eh 0 ()) (fL (λ(_:Unit)=>ej (λ(h:List Ty)=>gB (eV a1.ak6)<|ej (λ(o:Int) (i:Fm)=>(λ(_:Unit)=>dH (mT n h i) λa=>if eP a 0 then some (.ret a)else some (.next ())):Int->Fm->(Unit)->(Option (gm (Unit) (Int)))) λj=>dH (fk j a1.ak6 0 ()) (fL (λ(_:Unit)=>some 0) (λr=>some r))) λj64=>dH (kV a1.ak5) λk=>if k then gB (fI a0 [a1.dM])<|j64 (fR a0 [a1.dM])else j64 a0) (λr=>some r))
def kF(a0:List Ty)(a1:Fm):Option Int:=dH (jV a1) λb=>if eP b 0 then some b else dH (mT FU a0 a1) λa=>some a
def j1(a0:List Ty)(a1:Fm):Option Int:=dH (l7 a0) λb=>if eP b 0 then some b else dH (kF a0 a1) λa=>some a
def tW(a0:List Fm)(a1:Sq):Option Int:=if oQ (eA a0) 32 then some 3 else gB (eV a0)<|ej (λ(j:Int) (d:Fm)=>(λ(_:Unit)=>dH (j1 [] d) λa=>if eP a 0 then some (.ret a)else some (.next ())):Int->Fm->(Unit)->(Option (gm (Unit) (Int)))) λf=>dH (fk f a0 0 ()) (fL (λ(_:Unit)=>dH (l7 a1.ak9) λb=>if eP b 0 then some b else if oQ (eA a1.ala) 16 then some 3 else gB (eV a1.ala)<|ej (λ(k:Int) (h:Fm)=>(λ(_:Unit)=>dH (j1 a1.ak9 h) λc=>if eP c 0 then some (.ret c)else some (.next ())):Int->Fm->(Unit)->(Option (gm (Unit) (Int)))) λi=>dH (fk i a1.ala 0 ()) (fL (λ(_:Unit)=>some 0) (λr=>some r))) (λr=>some r))
def pg(a0:Int):Option (e9×Bool):=if fv (eo a0 1) true (eo a0 2)then some ((e9.mk 0 0 0 true false),true)else if fv (eo a0 3) true (eo a0 7)then some ((e9.mk 0 0 2 false false),true)else if fv (eo a0 4) true (fv (eo a0 5) true (eo a0 20))then some ((e9.mk 0 0 1 false false),true)else if eo a0 6 then some ((e9.mk 0 1 1 false false),true)else if fv (eo a0 8) true (eo a0 12)then some ((e9.mk 0 0 1 false true),true)else if fv (eo a0 9) true (eo a0 13)then some ((e9.mk 1 0 1 false false),true)else if fv (eo a0 10) true (eo a0 14)then some ((e9.mk 1 1 1 false false),true)else if fv (eo a0 11) true (eo a0 15)then some ((e9.mk 0 0 2 false false),true)else if fv (eo a0 16) true (eo a0 17)then some ((e9.mk 1 1 2 false false),true)else if eo a0 18 then some ((e9.mk 1 0 0 false false),true)else if eo a0 19 then some ((e9.mk 0 1 2 false false),true)else some ((e9.mk 0 0 0 false false),false)
def oc:Nat->Pf->Option Bool
 |0,_=>none|n+1,a0=>dU (pg a0.ak5) λb v=>if fv v (fv (eP (eA a0.eh) b.eh) true (fv (eP (eA a0.fW) b.fW) true (fv (eP (eA a0.ak6) b.ak6) true (fv (o7 a0.ak8 0) true (fv b.ak8 false (eP a0.ak8 0)))))) true then some false else ej (λ(j:Bool)=>if j then some false else gB (eV a0.eh)<|ej (λ(w:Int) (k:Tm)=>(λ(_:Unit)=>dH (kH FU k) λl=>if l then some (.next ())else some (.ret false)):Int->Tm->(Unit)->(Option (gm (Unit) (Bool)))) λo=>dH (fk o a0.eh 0 ()) (fL (λ(_:Unit)=>gB (eV a0.fW)<|ej (λ(x:Int) (q:Fm)=>(λ(_:Unit)=>dH (l9 FU q) λc=>if c then some (.next ())else some (.ret false)):Int->Fm->(Unit)->(Option (gm (Unit) (Bool)))) λd=>dH (fk d a0.fW 0 ()) (fL (λ(_:Unit)=>gB (eV a0.ak6)<|ej (λ(u:Int) (f:Pf)=>(λ(_:Unit)=>dH (oc n f) λh=>if h then some (.next ())else some (.ret false)):Int->Pf->(Unit)->(Option (gm (Unit) (Bool)))) λi=>dH (fk i a0.ak6 0 ()) (fL (λ(_:Unit)=>some true) (λr=>some r))) (λr=>some r))) (λr=>some r))) λa=>if b.M' then dH (il a0.dM) λs=>if eP s 0 then a true else a false else dH (pD a0.dM) λt=>a (lJ t)
def rU:Nat->Pf->Option Bool
 |0,_=>none|n+1,a0=>gB (eV a0.eh)<|ej (λ(l:Int) (c:Tm)=>(λ(_:Unit)=>dH (fU FU c) λd=>if oQ d 4096 then some (.ret false)else some (.next ())):Int->Tm->(Unit)->(Option (gm (Unit) (Bool)))) λf=>dH (fk f a0.eh 0 ()) (fL (λ(_:Unit)=>gB (eV a0.fW)<|ej (λ(o:Int) (h:Fm)=>(λ(_:Unit)=>dH (lW FU h) λi=>if oQ i 4096 then some (.ret false)else some (.next ())):Int->Fm->(Unit)->(Option (gm (Unit) (Bool)))) λj=>dH (fk j a0.fW 0 ()) (fL (λ(_:Unit)=>gB (eV a0.ak6)<|ej (λ(q:Int) (k:Pf)=>(λ(_:Unit)=>dH (rU n k) λa=>if a then some (.next ())else some (.ret false)):Int->Pf->(Unit)->(Option (gm (Unit) (Bool)))) λb=>dH (fk b a0.ak6 0 ()) (fL (λ(_:Unit)=>some true) (λr=>some r))) (λr=>some r))) (λr=>some r))
def rK:Nat->Pf->Option Int
 |0,_=>none|n+1,a0=>gB (eV a0.eh)<|ej (λ(s:Int) (h:Tm)=>(λ(b:Int)=>dH (fU FU h) λi=>some (.next (eS .i64 b i))):Int->Tm->(Int)->(Option (gm (Int) (Int)))) λj=>dH (fk j a0.eh 0 1) (fL (λ(b:Int)=>gB (eV a0.fW)<|ej (λ(t:Int) (k:Fm)=>(λ(v75:Int)=>dH (lW FU k) λl=>some (.next (eS .i64 v75 l))):Int->Fm->(Int)->(Option (gm (Int) (Int)))) λo=>dH (fk o a0.fW 0 b) (fL (λ(v75:Int)=>gB (eV a0.ak6)<|ej (λ(q:Int) (c:Pf)=>(λ(a:Int)=>dH (rK n c) λd=>some (.next (eS .i64 a d))):Int->Pf->(Int)->(Option (gm (Int) (Int)))) λf=>dH (fk f a0.ak6 0 v75) (fL (λ(a:Int)=>some a) (λr=>some r))) (λr=>some r))) (λr=>some r))
def yV(a0:Pf):Option Bool:=ej (λ(d:Bool)=>some d) λc=>dH (rU FU a0) λa=>if a then dH (rK FU a0) λb=>c (Yr b 16384)else c false
def ur(a0:Pf):Option Int:=dH (oc FU a0) λb=>if b then dH (yV a0) λa=>if a then some 0 else some 4 else some 2
def lD:Nat->Fm->Option Fm
 |0,_=>none|n+1,a0=>dH (iY FU a0.dM) λk=>gB (eV a0.eh)<|ej (λ(l:Int) (h:Tm)=>(λ(v72:List Tm)=>dH (lF FU h) λc=>gB (fI v72 [c])<|some (.next (fR v72 [c]))):Int->Tm->(List Tm)->(Option (gm (List Tm) (Fm)))) λi=>dH (fk i a0.eh 0 []) (fL (λ(v72:List Tm)=>gB (eV a0.ak6)<|ej (λ(j:Int) (d:Fm)=>(λ(a:List Fm)=>dH (lD n d) λb=>gB (fI a [b])<|some (.next (fR a [b]))):Int->Fm->(List Fm)->(Option (gm (List Fm) (Fm)))) λf=>dH (fk f a0.ak6 0 []) (fL (λ(a:List Fm)=>some (Fm.mk a0.ak5 k v72 a)) (λr=>some r))) (λr=>some r))
def rC(a0:Int)(a1 a2:Fm):Option Fm:=dH (lD FU a1) λa=>dH (lD FU a2) λb=>some (Fm.mk a0 (Ty.mk 0 []) [] [a,b])
def qf(a0:List (Int×Bool)):Option (List Int×List (Int×Bool)):=gB (eV a0)<|gB (xZ (a0.map (·.1)))<|some (zV [] (a0.map (·.1)),a0)
def gp(a0 a1:List Int):Option (List Int):=gB (eV a0)<|ej (λ(k:Int) (c:Int)=>(λ(a:(List (Int×Bool)))=>some (.next (wG a c true))):Int->Int->((List (Int×Bool)))->(Option (gm ((List (Int×Bool))) (List Int)))) λd=>dH (fk d a0 0 []) (fL (λ(a:(List (Int×Bool)))=>gB (eV a1)<|ej (λ(j:Int) (f:Int)=>(λ(b:(List (Int×Bool)))=>some (.next (wG b f true))):Int->Int->((List (Int×Bool)))->(Option (gm ((List (Int×Bool))) (List Int)))) λh=>dH (fk h a1 0 a) (fL (λ(b:(List (Int×Bool)))=>dU (qf b) λi d51=>some i) (λr=>some r))) (λr=>some r))
def eD(a0:dS)(a1 a2:Int):Option Int:=if fv (oQ (eS .i64 (eA a0.ak9) a1) 16) true (oQ (eS .i64 (eA a0.ala) a2) 16)then some 3 else some 0
def gl(a0:dS)(a1:Fm):Option dS:=gB (fI a0.ala [a1])<|some (dS.mk a0.lemmas a0.ak9 (fR a0.ala [a1]))
def ly:Nat->Tm->Tm->Option Bool
 |0,_,_=>none|n+1,a0,a1=>ej (λ(d:Bool)=>if d then some false else gB (eV a0.ak6)<|ej (λ(f:Int) (h:Tm)=>(λ(_:Unit)=>dH (dW a1.ak6 f) λb=>dH (ly n h b) λc=>if c then some (.next ())else some (.ret false)):Int->Tm->(Unit)->(Option (gm (Unit) (Bool)))) λi=>dH (fk i a0.ak6 0 ()) (fL (λ(_:Unit)=>some true) (λr=>some r))) λa=>if eP a0.ak5 a1.ak5 then a true else if eP a0.ak8 a1.ak8 then a true else dH (fm FU a0.dM a1.dM) λj=>if j then a (eP (eA a0.ak6) (eA a1.ak6))else a true
def lh:Nat->Tm->Int->Option Bool
 |0,_,_=>none|n+1,a0,a1=>if oQ a0.ak8 a1 then some false else gB (eV a0.ak6)<|ej (λ(d:Int) (a:Tm)=>(λ(_:Unit)=>dH (lh n a a1) λb=>if b then some (.next ())else some (.ret false)):Int->Tm->(Unit)->(Option (gm (Unit) (Bool)))) λc=>dH (fk c a0.ak6 0 ()) (fL (λ(_:Unit)=>some true) (λr=>some r))
def v8(a0:Tm):Option Bool:=if eo a0.ak5 3 then dH (dW a0.ak6 0) λf=>some (eo f.ak5 2)else if eo a0.ak5 6 then ej (λ(h:Bool)=>some h) λa=>dH (dW a0.ak6 2) λb=>if eo b.ak5 4 then a true else a (eo b.ak5 5)else if eo a0.ak5 9 then ej (λ(i:Bool)=>some i) λc=>dH (dW a0.ak6 2) λd=>if eo d.ak5 7 then c true else c (eo d.ak5 8)else if fv (eo a0.ak5 11) true (eo a0.ak5 12)then dH (dW a0.ak6 0) λj=>some (eo j.ak5 10)else some false
def lj(a0:Tm):Option Int:=if eo a0.ak5 2 then some 1 else some 0
def m0:Nat->Tm->Int->Option Int
 |0,_,_=>none|n+1,a0,a1=>gB (eV a0.ak6)<|ej (λ(h:Int) (d:Tm)=>(λ(a:Int)=>dH (lj a0) λb=>dH (m0 n d (eS .i64 a1 b)) λc=>some (.next (eS .i64 a c))):Int->Tm->(Int)->(Option (gm (Int) (Int)))) λf=>dH (fk f a0.ak6 0 (fv (fv (eo a0.ak5 1) (eo a0.ak8 a1) false) (eS .i64 0 1) 0)) (fL (λ(a:Int)=>some a) (λr=>some r))
def su(a0:Tm):Option Int:=dH (fU FU a0) λb=>if eo a0.ak5 3 then dH (dW a0.ak6 0) λh=>dH (dW h.ak6 0) λc=>dH (dW a0.ak6 1) λi=>dH (fU FU c) λj=>dH (m0 FU c 0) λk=>dH (fU FU i) λl=>some (fA .i64 (eS .i64 j (T1 .i64 k (fA .i64 l 1))) b)else if eo a0.ak5 6 then dH (dW a0.ak6 2) λd=>if eo d.ak5 4 then dH (dW a0.ak6 0) λn=>dH (fU FU n) λo=>some (fA .i64 o b)else dH (dW a0.ak6 1) λq=>dH (fU FU q) λr=>dH (dW d.ak6 0) λs=>dH (fU FU s) λt=>some (fA .i64 (fA .i64 (eS .i64 (eS .i64 (eS .i64 2 r) t) b) 1) b)else if eo a0.ak5 9 then dH (dW a0.ak6 2) λa=>if eo a.ak5 7 then dH (dW a0.ak6 0) λu=>dH (fU FU u) λv=>some (fA .i64 v b)else dH (dW a.ak6 0) λf=>dH (dW a.ak6 1) λw=>dH (dW a0.ak6 1) λx=>dH (fU FU x) λy=>dH (fU FU f) λA=>dH (fU FU w) λB=>dH (fU FU f) λC=>some (fA .i64 (fA .i64 (fA .i64 (eS .i64 (eS .i64 (eS .i64 (eS .i64 3 y) A) B) b) 1) C) b)else if eo a0.ak5 11 then dH (dW a0.ak6 0) λD=>dH (dW D.ak6 0) λF=>dH (fU FU F) λG=>some (fA .i64 G b)else dH (dW a0.ak6 0) λH=>dH (dW H.ak6 1) λI=>dH (fU FU I) λJ=>some (fA .i64 J b)
def r_:Nat->Tm->Int->Int->Option Tm
 |0,_,_,_=>none|n+1,a0,a1,a2=>gB (eV a0.ak6)<|ej (λ(f:Int) (d:Tm)=>(λ(v105:List Tm)=>dH (lj a0) λb=>dH (r_ n d (eS .i64 a1 b) a2) λa=>gB (fI v105 [a])<|some (.next (fR v105 [a]))):Int->Tm->(List Tm)->(Option (gm (List Tm) (Tm)))) λc=>dH (fk c a0.ak6 0 []) (fL (λ(v105:List Tm)=>some (Tm.mk a0.ak5 (fv (fv (eo a0.ak5 1) (pd a0.ak8 a1) false) (eS .i64 a0.ak8 a2) a0.ak8) a0.dM v105)) (λr=>some r))
def wX:Nat->Tm->Int->Int->Tm->Option Tm
 |0,_,_,_,_=>none|n+1,a0,a1,a2,a3=>if eo a0.ak5 1 then if eo a0.ak8 (eS .i64 a1 a2)then dH (r_ FU a3 0 (eS .i64 a1 a2)) λf=>some f else if oQ a0.ak8 (eS .i64 a1 a2)then dH (gA (fA .i64 a0.ak8 1)) λh=>some h else some a0 else gB (eV a0.ak6)<|ej (λ(j:Int) (i:Tm)=>(λ(a:List Tm)=>dH (lj a0) λc=>dH (wX n i a1 (eS .i64 a2 c) a3) λb=>gB (fI a [b])<|some (.next (fR a [b]))):Int->Tm->(List Tm)->(Option (gm (List Tm) (Tm)))) λd=>dH (fk d a0.ak6 0 []) (fL (λ(a:List Tm)=>some (Tm.mk a0.ak5 a0.ak8 a0.dM a)) (λr=>some r))
def qC(a0:Tm):Option Tm:=if eo a0.ak5 3 then dH (dW a0.ak6 0) λi=>dH (dW i.ak6 0) λj=>dH (dW a0.ak6 1) λk=>dH (wX FU j 0 0 k) λl=>some l else if eo a0.ak5 6 then dH (dW a0.ak6 2) λb=>if eo b.ak5 4 then dH (dW a0.ak6 0) λn=>some n else dH (dW b.ak6 0) λc=>dH (dW a0.ak6 1) λd=>dH (fQ 3 [d,c]) λo=>dH (dW a0.ak6 0) λq=>dH (lu 6 a0.dM [q,d,c]) λr=>dH (fQ 3 [o,r]) λs=>some s else if eo a0.ak5 9 then dH (dW a0.ak6 2) λa=>if eo a.ak5 7 then dH (dW a0.ak6 0) λt=>some t else dH (dW a.ak6 0) λu=>dH (dW a.ak6 1) λf=>dH (dW a0.ak6 1) λh=>dH (fQ 3 [h,u]) λv=>dH (fQ 3 [v,f]) λw=>dH (dW a0.ak6 0) λx=>dH (lu 9 a0.dM [x,h,f]) λy=>dH (fQ 3 [w,y]) λA=>some A else if eo a0.ak5 11 then dH (dW a0.ak6 0) λB=>dH (dW B.ak6 0) λC=>some C else dH (dW a0.ak6 0) λD=>dH (dW D.ak6 1) λF=>some F
def om:Nat->Tm->Int->Option (Tm×Bool×Bool)
 |0,_,_=>none|n+1,a0,a1=>dH (v8 a0) λk=>if k then dH (su a0) λb=>if oQ b a1 then some ((Tm.mk 0 0 (Ty.mk 0 []) []),true,false)else dH (qC a0) λc=>some (c,true,true)else gB (eV a0.ak6)<|ej (λ(a:Int) (d:Tm)=>(λ(_:Unit)=>eZ (om n d a1) λf h i=>if h then gB (I8 a0.ak6)<|dH (dW a0.ak6 a) λl=>some (.ret ((Tm.mk a0.ak5 a0.ak8 a0.dM (FX a0.ak6 a f)),true,i))else some (.next ())):Int->Tm->(Unit)->(Option (gm (Unit) (Tm×Bool×Bool)))) λj=>dH (fk j a0.ak6 0 ()) (fL (λ(_:Unit)=>some (a0,false,true)) (λr=>some r))
def k0(a0:Tm)(a1:Int):Option (Tm×Int×Int):=dH (lX a0) λq=>if eP q 0 then some ((Tm.mk 0 0 (Ty.mk 0 []) []),0,q)else ej (λ(n:Bool)=>if n then some ((Tm.mk 0 0 (Ty.mk 0 []) []),0,1)else ej ((Ze λ(v164:Int) (b:Int) (c:Int) (v167:Int) (v168:List Ty) (d:List Tm)=>dH (fU FU (Tm.mk b c (Ty.mk v167 v168) d)) λh=>eZ (om FU (Tm.mk b c (Ty.mk v167 v168) d) (fA .i64 4096 h)) λa i j=>if i then if eo v164 a1 then some (.ret ((Tm.mk 0 0 (Ty.mk 0 []) []),0,5))else if j then some (.next ((eS .i64 v164 1),a.ak5,a.ak8,a.dM.ak5,a.dM.ak6,a.ak6))else some (.ret ((Tm.mk 0 0 (Ty.mk 0 []) []),0,4))else dH (lF FU (Tm.mk b c (Ty.mk v167 v168) d)) λk=>some (.ret (k,v164,0))):(Int×Int×Int×Int×(List Ty)×(List Tm))->(Option (gm (Int×Int×Int×Int×(List Ty)×(List Tm)) (Tm×Int×Int)))) λl=>dH (js l FU (0,a0.ak5,a0.ak8,a0.dM.ak5,a0.dM.ak6,a0.ak6)) (fL (Ze λ(v164:Int) (b:Int) (c:Int) (v167:Int) (v168:List Ty) (d:List Tm)=>none) (λr=>some r))) λf=>if o7 a1 0 then f true else if oQ a1 65536 then f true else dH (lh FU a0 536870912) λo=>f (lJ o)
def l8(a0 a1:Tm)(a2:Int):Option Int:=dH (lX a0) λj=>if eP j 0 then some j else dH (lX a1) λa=>if eP a 0 then some a else dH (ly FU a0 a1) λd=>if d then some 0 else eZ (k0 a0 a2) λf k b=>if eP b 0 then some b else eZ (k0 a1 a2) λh l c=>if eP c 0 then some c else dH (ly FU f h) λi=>if i then some 0 else some 11
def lb:Nat->Fm->Fm->Option Int
 |0,_,_=>none|n+1,a0,a1=>ej (λ(k:Bool)=>if k then some 11 else gB (eV a0.eh)<|ej (λ(l:Int) (o:Tm)=>(λ(_:Unit)=>dH (dW a1.eh l) λc=>dH (l8 o c 1000) λa=>if eP a 0 then some (.ret a)else some (.next ())):Int->Tm->(Unit)->(Option (gm (Unit) (Int)))) λq=>dH (fk q a0.eh 0 ()) (fL (λ(_:Unit)=>gB (eV a0.ak6)<|ej (λ(d:Int) (f:Fm)=>(λ(_:Unit)=>dH (dW a1.ak6 d) λh=>dH (lb n f h) λb=>if eP b 0 then some (.ret b)else some (.next ())):Int->Fm->(Unit)->(Option (gm (Unit) (Int)))) λi=>dH (fk i a0.ak6 0 ()) (fL (λ(_:Unit)=>some 0) (λr=>some r))) (λr=>some r))) λj=>if eP a0.ak5 a1.ak5 then j true else dH (fm FU a0.dM a1.dM) λs=>j (lJ s)
def lk(a0 a1:Fm):Option Int:=dH (jV a0) λc=>if eP c 0 then some c else dH (jV a1) λa=>if eP a 0 then some a else dH (lb FU a0 a1) λb=>some b
def m8(a0:Fm):Option Int:=dH (kV a0.ak5) λa=>if a then some 1 else some 0
def iw:Nat->Fm->Int->Int->Option Fm
 |0,_,_,_=>none|n+1,a0,a1,a2=>gB (eV a0.eh)<|ej (λ(o:Int) (j:Tm)=>(λ(b:List Tm)=>dH (r_ FU j a1 a2) λd=>gB (fI b [d])<|some (.next (fR b [d]))):Int->Tm->(List Tm)->(Option (gm (List Tm) (Fm)))) λk=>dH (fk k a0.eh 0 []) (fL (λ(b:List Tm)=>gB (eV a0.ak6)<|ej (λ(l:Int) (f:Fm)=>(λ(a:List Fm)=>dH (m8 a0) λh=>dH (iw n f (eS .i64 a1 h) a2) λc=>gB (fI a [c])<|some (.next (fR a [c]))):Int->Fm->(List Fm)->(Option (gm (List Fm) (Fm)))) λi=>dH (fk i a0.ak6 0 []) (fL (λ(a:List Fm)=>some (Fm.mk a0.ak5 a0.dM b a)) (λr=>some r))) (λr=>some r))
def fp(a0:dS)(a1:List Ty):Option dS:=gB (fI a0.ak9 a1)<|gB (eV a0.ala)<|ej (λ(f:Int) (c:Fm)=>(λ(a:List Fm)=>dH (iw FU c 0 (eA a1)) λb=>gB (fI a [b])<|some (.next (fR a [b]))):Int->Fm->(List Fm)->(Option (gm (List Fm) (dS)))) λd=>dH (fk d a0.ala 0 []) (fL (λ(a:List Fm)=>some (dS.mk a0.lemmas (fR a0.ak9 a1) a)) (λr=>some r))
def nA(a0:Int)(a1:Ty)(a2:Fm):Option Fm:=dH (iY FU a1) λa=>dH (lD FU a2) λb=>some (Fm.mk a0 a [] [b])
def gx(a0:List Int)(a1:Int):Option (List Int):=gB (eV a0)<|ej (λ(f:Int) (b:Int)=>(λ(a:List Int)=>ej (λ(c:List Int)=>some (.next c)) λj57=>if pd b a1 then gB (fI a [(fA .i64 b a1)])<|j57 (fR a [(fA .i64 b a1)])else j57 a):Int->Int->(List Int)->(Option (gm (List Int) (List Int)))) λd=>dH (fk d a0 0 []) (fL (λ(a:List Int)=>some a) (λr=>some r))
def rD(a0:List Int):Option Bool:=ej (λ(v6:Bool)=>some v6) λa=>if oQ (eA a0) 0 then dH (dW a0 0) λb=>a (eo b 0)else a false
def iO(a0:List Ty)(a1:Tm):Option (Ty×Int):=dH (l7 a0) λc=>if eP c 0 then some ((Ty.mk 0 []),c)else dU (pC a0 a1) λa b=>some (a,b)
def pB:Nat->Tm->Int->(List (Int×Bool))->Option ((List (Int×Bool)))
 |0,_,_,_=>none|n+1,a0,a1,a2=>ej (λ(f:(List (Int×Bool)))=>gB (eV a0.ak6)<|ej (λ(h:Int) (a:Tm)=>(λ(v51:(List (Int×Bool)))=>dH (lj a0) λb=>dH (pB n a (eS .i64 a1 b) v51) λd73=>some (.next d73)):Int->Tm->((List (Int×Bool)))->(Option (gm ((List (Int×Bool))) ((List (Int×Bool)))))) λc=>dH (fk c a0.ak6 0 f) (fL (λ(v51:(List (Int×Bool)))=>some v51) (λr=>some r))) λd=>if fv (eo a0.ak5 1) (pd a0.ak8 a1) false then d (wG a2 (fA .i64 a0.ak8 a1) true)else d a2
def vY(a0:Tm):Option ((List Int)×Int):=dH (lX a0) λb=>if eP b 0 then some ([],b)else dH (pB FU a0 0 []) λd11=>dU (qf d11) λa d17=>some (a,0)
def kl(a0:Tm):Option (List Int):=dU (vY a0) λa b=>some a
def oa:Nat->Fm->Int->Option Bool
 |0,_,_=>none|n+1,a0,a1=>gB (eV a0.eh)<|ej (λ(i:Int) (a:Tm)=>(λ(_:Unit)=>dH (lh FU a a1) λb=>if b then some (.next ())else some (.ret false)):Int->Tm->(Unit)->(Option (gm (Unit) (Bool)))) λc=>dH (fk c a0.eh 0 ()) (fL (λ(_:Unit)=>gB (eV a0.ak6)<|ej (λ(j:Int) (d:Fm)=>(λ(_:Unit)=>dH (oa n d a1) λf=>if f then some (.next ())else some (.ret false)):Int->Fm->(Unit)->(Option (gm (Unit) (Bool)))) λh=>dH (fk h a0.ak6 0 ()) (fL (λ(_:Unit)=>some true) (λr=>some r))) (λr=>some r))
def pX:Nat->Fm->Int->Option Int
 |0,_,_=>none|n+1,a0,a1=>gB (eV a0.eh)<|ej (λ(l:Int) (h:Tm)=>(λ(b:Int)=>dH (m0 FU h a1) λi=>some (.next (eS .i64 b i))):Int->Tm->(Int)->(Option (gm (Int) (Int)))) λj=>dH (fk j a0.eh 0 0) (fL (λ(b:Int)=>gB (eV a0.ak6)<|ej (λ(o:Int) (k:Fm)=>(λ(a:Int)=>dH (m8 a0) λc=>dH (pX n k (eS .i64 a1 c)) λd=>some (.next (eS .i64 a d))):Int->Fm->(Int)->(Option (gm (Int) (Int)))) λf=>dH (fk f a0.ak6 0 b) (fL (λ(a:Int)=>some a) (λr=>some r))) (λr=>some r))
def yx:Nat->Fm->Int->Int->Tm->Option Fm
 |0,_,_,_,_=>none|n+1,a0,a1,a2,a3=>gB (eV a0.eh)<|ej (λ(o:Int) (j:Tm)=>(λ(b:List Tm)=>dH (wX FU j a1 a2 a3) λd=>gB (fI b [d])<|some (.next (fR b [d]))):Int->Tm->(List Tm)->(Option (gm (List Tm) (Fm)))) λk=>dH (fk k a0.eh 0 []) (fL (λ(b:List Tm)=>gB (eV a0.ak6)<|ej (λ(l:Int) (f:Fm)=>(λ(a:List Fm)=>dH (m8 a0) λh=>dH (yx n f a1 (eS .i64 a2 h) a3) λc=>gB (fI a [c])<|some (.next (fR a [c]))):Int->Fm->(List Fm)->(Option (gm (List Fm) (Fm)))) λi=>dH (fk i a0.ak6 0 []) (fL (λ(a:List Fm)=>some (Fm.mk a0.ak5 a0.dM b a)) (λr=>some r))) (λr=>some r))
def xY(a0:Fm)(a1:Int)(a2:Tm):Option (Fm×Int):=dH (jV a0) λn=>if eP n 0 then some ((Fm.mk 0 (Ty.mk 0 []) [] []),n)else if fv (o7 a1 0) true (oQ a1 4096)then some ((Fm.mk 0 (Ty.mk 0 []) [] []),1)else dH (lX a2) λa=>if eP a 0 then some ((Fm.mk 0 (Ty.mk 0 []) [] []),a)else ej (λ(f:Bool)=>if f then some ((Fm.mk 0 (Ty.mk 0 []) [] []),1)else dH (lW FU a0) λh=>dH (pX FU a0 a1) λi=>dH (fU FU a2) λj=>if oQ (eS .i64 h (T1 .i64 i (fA .i64 j 1))) 4096 then some ((Fm.mk 0 (Ty.mk 0 []) [] []),4)else dH (yx FU a0 a1 0 a2) λb=>dH (lD FU b) λc=>some (c,0)) λd=>dH (oa FU a0 536870912) λk=>if k then dH (lh FU a2 536870912) λl=>d (lJ l)else d true
def jx(a0:Fm)(a1:Tm):Option (Fm×Int):=dU (xY a0 0 a1) λa b=>some (a,b)
def vS:Nat->Tm->Int->Option Bool
 |0,_,_=>none|n+1,a0,a1=>if fv (eo a0.ak5 1) (eo a0.ak8 a1) false then some true else gB (eV a0.ak6)<|ej (λ(f:Int) (c:Tm)=>(λ(_:Unit)=>dH (lj a0) λa=>dH (vS n c (eS .i64 a1 a)) λb=>if b then some (.ret true)else some (.next ())):Int->Tm->(Unit)->(Option (gm (Unit) (Bool)))) λd=>dH (fk d a0.ak6 0 ()) (fL (λ(_:Unit)=>some false) (λr=>some r))
def p6:Nat->Fm->Int->Option Bool
 |0,_,_=>none|n+1,a0,a1=>gB (eV a0.eh)<|ej (λ(j:Int) (d:Tm)=>(λ(_:Unit)=>dH (vS FU d a1) λf=>if f then some (.ret true)else some (.next ())):Int->Tm->(Unit)->(Option (gm (Unit) (Bool)))) λh=>dH (fk h a0.eh 0 ()) (fL (λ(_:Unit)=>gB (eV a0.ak6)<|ej (λ(k:Int) (i:Fm)=>(λ(_:Unit)=>dH (m8 a0) λa=>dH (p6 n i (eS .i64 a1 a)) λb=>if b then some (.ret true)else some (.next ())):Int->Fm->(Unit)->(Option (gm (Unit) (Bool)))) λc=>dH (fk c a0.ak6 0 ()) (fL (λ(_:Unit)=>some false) (λr=>some r))) (λr=>some r))
def mO:Nat->Fm->Option (Fm×Int)
 |0,_=>none|n+1,a0=>gB (eV a0.eh)<|ej (λ(s:Int) (k:Tm)=>(λ(b:List Tm)=>eZ (k0 k 1000) λc o d=>if eP d 0 then some (.ret ((Fm.mk 0 (Ty.mk 0 []) [] []),d))else gB (fI b [c])<|some (.next (fR b [c]))):Int->Tm->(List Tm)->(Option (gm (List Tm) (Fm×Int)))) λl=>dH (fk l a0.eh 0 []) (fL (λ(b:List Tm)=>gB (eV a0.ak6)<|ej (λ(q:Int) (i:Fm)=>(λ(a:List Fm)=>dU (mO n i) λf h=>if eP h 0 then some (.ret ((Fm.mk 0 (Ty.mk 0 []) [] []),h))else gB (fI a [f])<|some (.next (fR a [f]))):Int->Fm->(List Fm)->(Option (gm (List Fm) (Fm×Int)))) λj=>dH (fk j a0.ak6 0 []) (fL (λ(a:List Fm)=>some ((Fm.mk a0.ak5 a0.dM b a),0)) (λr=>some r))) (λr=>some r))
def hR(a0:dS)(a1:Tm)(a2:Int):Option Int:=dU (iO a0.ak9 a1) λb a=>if eP a 0 then some a else if eP b.ak5 a2 then some 7 else some 0
def yf(a0 a1:Tm):Option Fm:=dH (lF FU a0) λa=>dH (lF FU a1) λb=>some (Fm.mk 1 (Ty.mk 0 []) [a,b] [])
def jH:Nat->Fm->Option Bool
 |0,_=>none|n+1,a0=>if eo a0.ak5 1 then some false else if eo a0.ak5 2 then ej (λ(b:Bool)=>some b) λa=>dH (dW a0.ak6 0) λc=>dH (jH n c) λd=>if d then a true else dH (dW a0.ak6 1) λf=>dH (jH n f) λh=>a h else if eo a0.ak5 5 then some true else dH (dW a0.ak6 (fA .i64 (eA a0.ak6) 1)) λi=>dH (jH n i) λj=>some j
def nc(a0:Fm):Option (Bool×Int):=dH (jV a0) λb=>if eP b 0 then some (false,b)else dH (jH FU a0) λa=>some (a,0)
mutual
def eu:Nat->dS->Pf->Option (sW×Int)
 |0,_,_=>none|n+1,a0,a1=>eZ (ek n a0 a1) λb i h=>if eP h 0 then some ((sW.mk (Fm.mk 0 (Ty.mk 0 []) [] []) []),h)else dH (jV b) λc=>if eP c 0 then some ((sW.mk (Fm.mk 0 (Ty.mk 0 []) [] []) []),4)else ej (λ(d:List Int)=>some ((sW.mk b d),0)) λa=>dU (nc b) λf j=>if f then a i else a []
def ek:Nat->dS->Pf->Option (Fm×(List Int)×Int)
 |0,_,_=>none|n+1,a0,a1=>if eo a1.ak5 1 then if pd a1.ak8 (eA a0.ala)then some ((Fm.mk 0 (Ty.mk 0 []) [] []),[],8)else dH (dW a0.ala (fA .i64 (fA .i64 (eA a0.ala) 1) a1.ak8)) λt=>some (t,[],0)else if eo a1.ak5 2 then if pd a1.ak8 (eA a0.lemmas)then some ((Fm.mk 0 (Ty.mk 0 []) [] []),[],9)else dH (dW a0.lemmas a1.ak8) λu=>some (u,[],0)else if eo a1.ak5 3 then dH (dW a1.ak6 0) λv=>dU (eu n a0 v) λf h=>if eP h 0 then some ((Fm.mk 0 (Ty.mk 0 []) [] []),[],h)else dH (dW a1.ak6 1) λw=>dU (eu n a0 w) λi x=>dH (rC 2 f.dZ i.dZ) λy=>dH (gp f.jL i.jL) λA=>some (y,A,x)else if fv (eo a1.ak5 4) true (eo a1.ak5 5)then dH (dW a1.ak6 0) λB=>dU (eu n a0 B) λb j=>if eP j 0 then some ((Fm.mk 0 (Ty.mk 0 []) [] []),[],j)else if eP b.dZ.ak5 2 then some ((Fm.mk 0 (Ty.mk 0 []) [] []),[],10)else dH (dW b.dZ.ak6 (fA .i64 a1.ak5 4)) λC=>some (C,b.jL,0)else if eo a1.ak5 6 then dH (dW a1.fW 0) λc=>dH (j1 a0.ak9 c) λk=>if eP k 0 then some ((Fm.mk 0 (Ty.mk 0 []) [] []),[],k)else dH (eD a0 0 1) λl=>if eP l 0 then some ((Fm.mk 0 (Ty.mk 0 []) [] []),[],l)else dH (gl a0 c) λD=>dH (dW a1.ak6 0) λF=>dU (eu n D F) λo G=>dH (rC 3 c o.dZ) λH=>some (H,o.jL,G)else if eo a1.ak5 7 then dH (dW a1.ak6 0) λI=>dU (eu n a0 I) λa q=>if eP q 0 then some ((Fm.mk 0 (Ty.mk 0 []) [] []),[],q)else if eP a.dZ.ak5 3 then some ((Fm.mk 0 (Ty.mk 0 []) [] []),[],10)else dH (dW a1.ak6 1) λJ=>dU (eu n a0 J) λr s=>if eP s 0 then some ((Fm.mk 0 (Ty.mk 0 []) [] []),[],s)else dH (dW a.dZ.ak6 1) λK=>dH (gp a.jL r.jL) λL=>dH (dW a.dZ.ak6 0) λM=>dH (lk M r.dZ) λN=>some (K,L,N)else if fv (eo a1.ak5 8) true (eo a1.ak5 12)then eZ (mX n a0 a1) λO P Q=>some (O,P,Q)else if fv (eo a1.ak5 9) true (eo a1.ak5 13)then eZ (nG n a0 a1) λR S T=>some (R,S,T)else if fv (eo a1.ak5 10) true (eo a1.ak5 14)then eZ (nP n a0 a1) λU V W=>some (U,V,W)else if fv (eo a1.ak5 11) true (eo a1.ak5 15)then eZ (mh n a0 a1) λX Y Z=>some (X,Y,Z)else if eo a1.ak5 16 then eZ (oX n a0 a1) λad ae af=>some (ad,ae,af)else if eo a1.ak5 17 then eZ (nB n a0 a1) λah ai ak=>some (ah,ai,ak)else if eo a1.ak5 18 then dH (dW a1.eh 0) λd=>dH (yf d d) λan=>dH (hR a0 d 1) λao=>some (an,[],ao)else if eo a1.ak5 19 then eZ (nC n a0 a1) λaq ar aw=>some (aq,ar,aw)else eZ (mK n a0 a1) λax ay az=>some (ax,ay,az)
def mX:Nat->dS->Pf->Option (Fm×(List Int)×Int)
 |0,_,_=>none|n+1,a0,a1=>dH (eD a0 1 0) λl=>if eP l 0 then some ((Fm.mk 0 (Ty.mk 0 []) [] []),[],l)else dH (fp a0 [a1.dM]) λc=>dH (dW a1.ak6 0) λd=>dU (eu n c d) λa b=>if eP b 0 then some ((Fm.mk 0 (Ty.mk 0 []) [] []),[],b)else if eo a1.ak5 8 then dH (nA 4 a1.dM a.dZ) λf=>dH (gx a.jL 1) λh=>some (f,h,0)else dH (rD a.jL) λi=>if i then some ((Fm.mk 0 (Ty.mk 0 []) [] []),[],12)else dH (nA 6 a1.dM a.dZ) λj=>dH (gx a.jL 1) λk=>some (j,k,0)
def nG:Nat->dS->Pf->Option (Fm×(List Int)×Int)
 |0,_,_=>none|n+1,a0,a1=>dH (dW a1.eh 0) λc=>dU (iO a0.ak9 c) λq o=>if eP o 0 then some ((Fm.mk 0 (Ty.mk 0 []) [] []),[],o)else dH (dW a1.ak6 0) λd=>dU (eu n a0 d) λa b=>if eP b 0 then some ((Fm.mk 0 (Ty.mk 0 []) [] []),[],b)else dH (kl c) λf=>dH (gp a.jL f) λh=>if eP a.dZ.ak5 (fv (eo a1.ak5 13) 6 4)then some ((Fm.mk 0 (Ty.mk 0 []) [] []),[],10)else dH (fm FU a.dZ.dM q) λi=>if i then dH (dW a.dZ.ak6 0) λj=>dU (jx j c) λk l=>some (k,(fv (eo a1.ak5 13) a.jL h),l)else some ((Fm.mk 0 (Ty.mk 0 []) [] []),[],7)
def nP:Nat->dS->Pf->Option (Fm×(List Int)×Int)
 |0,_,_=>none|n+1,a0,a1=>dH (dW a1.fW 0) λa=>dH (dW a1.eh 0) λb=>dH (j1 a0.ak9 a) λc=>if eP c 0 then some ((Fm.mk 0 (Ty.mk 0 []) [] []),[],c)else if eP a.ak5 (fv (eo a1.ak5 14) 7 5)then some ((Fm.mk 0 (Ty.mk 0 []) [] []),[],10)else dU (iO a0.ak9 b) λi d=>if eP d 0 then some ((Fm.mk 0 (Ty.mk 0 []) [] []),[],d)else dH (fm FU a.dM i) λj=>if j then dH (dW a1.ak6 0) λk=>dH (dW a.ak6 0) λl=>dU (e8 n a0 k l b) λf o=>ej (λ(q:List Int)=>some (a,q,o)) λh=>if eo (fv (eo a1.ak5 14) 7 5) 5 then dH (kl b) λr=>dH (gp f r) λs=>h s else h f else some ((Fm.mk 0 (Ty.mk 0 []) [] []),[],7)
def mh:Nat->dS->Pf->Option (Fm×(List Int)×Int)
 |0,_,_=>none|n+1,a0,a1=>dH (dW a1.ak6 0) λy=>dU (eu n a0 y) λc i=>if eP i 0 then some ((Fm.mk 0 (Ty.mk 0 []) [] []),[],i)else if eP c.dZ.ak5 (fv (eo a1.ak5 15) 7 5)then some ((Fm.mk 0 (Ty.mk 0 []) [] []),[],10)else dH (eD a0 1 1) λj=>if eP j 0 then some ((Fm.mk 0 (Ty.mk 0 []) [] []),[],j)else dH (fp a0 [c.dZ.dM]) λA=>dH (dW c.dZ.ak6 0) λB=>dH (gl A B) λC=>dH (dW a1.ak6 1) λD=>dU (eu n C D) λb k=>if eP k 0 then some ((Fm.mk 0 (Ty.mk 0 []) [] []),[],k)else ej (λ(F:Int) (l:Int) (o:List Ty) (q:List Tm) (r:List Fm)=>ej (λ(v139:Bool)=>if v139 then some ((Fm.mk 0 (Ty.mk 0 []) [] []),[],12)else dH (iw FU (Fm.mk F (Ty.mk l o) q r) 1 (-1)) λs=>dH (gx b.jL 1) λt=>dH (gp c.jL t) λu=>some (s,u,0)) λd=>if eo (fv (eo a1.ak5 15) 7 5) 7 then dH (rD b.jL) λv=>d v else d false) λf=>dH (p6 FU b.dZ 0) λw=>if w then dU (mO FU b.dZ) λa h=>if eP h 0 then some ((Fm.mk 0 (Ty.mk 0 []) [] []),[],h)else dH (p6 FU a 0) λx=>if x then some ((Fm.mk 0 (Ty.mk 0 []) [] []),[],6)else f a.ak5 a.dM.ak5 a.dM.ak6 a.eh a.ak6 else f b.dZ.ak5 b.dZ.dM.ak5 b.dZ.dM.ak6 b.dZ.eh b.dZ.ak6
def oX:Nat->dS->Pf->Option (Fm×(List Int)×Int)
 |0,_,_=>none|n+1,a0,a1=>dH (dW a1.fW 0) λa=>dH (dW a1.eh 0) λc=>dH (jy) λd=>gB (fI a0.ak9 [d])<|dH (kF (fR a0.ak9 [d]) a) λf=>if eP f 0 then some ((Fm.mk 0 (Ty.mk 0 []) [] []),[],f)else dH (hR a0 c 1) λh=>if eP h 0 then some ((Fm.mk 0 (Ty.mk 0 []) [] []),[],h)else dH (dW a1.ak6 0) λC=>dH (fQ 4 []) λD=>dU (e8 n a0 C a D) λF i=>if eP i 0 then some ((Fm.mk 0 (Ty.mk 0 []) [] []),[],i)else dH (eD a0 1 1) λj=>if eP j 0 then some ((Fm.mk 0 (Ty.mk 0 []) [] []),[],j)else dH (jy) λk=>dH (fp a0 [k]) λl=>dH (gl l a) λo=>dH (dW a1.ak6 1) λq=>dH (iw FU a 1 1) λr=>dH (gA 0) λs=>dH (fQ 5 [s]) λt=>dU (e8 n o q r t) λu b=>if eP b 0 then some ((Fm.mk 0 (Ty.mk 0 []) [] []),[],b)else dU (jx a c) λv w=>dH (kl c) λx=>dH (gp x F) λy=>dH (gx u 1) λA=>dH (gp y A) λB=>some (v,B,w)
def nB:Nat->dS->Pf->Option (Fm×(List Int)×Int)
 |0,_,_=>none|n+1,a0,a1=>dH (dW a1.fW 0) λa=>dH (dW a1.eh 0) λc=>dH (mr) λd=>gB (fI a0.ak9 [d])<|dH (kF (fR a0.ak9 [d]) a) λf=>if eP f 0 then some ((Fm.mk 0 (Ty.mk 0 []) [] []),[],f)else dH (hR a0 c 2) λh=>if eP h 0 then some ((Fm.mk 0 (Ty.mk 0 []) [] []),[],h)else dH (dW a1.ak6 0) λG=>dH (fQ 7 []) λH=>dU (e8 n a0 G a H) λI i=>if eP i 0 then some ((Fm.mk 0 (Ty.mk 0 []) [] []),[],i)else dH (eD a0 2 1) λj=>if eP j 0 then some ((Fm.mk 0 (Ty.mk 0 []) [] []),[],j)else dH (jy) λk=>dH (mr) λl=>dH (fp a0 [k,l]) λo=>dH (iw FU a 1 1) λq=>dH (gl o q) λr=>dH (dW a1.ak6 1) λs=>dH (iw FU a 1 2) λt=>dH (gA 1) λu=>dH (gA 0) λv=>dH (fQ 8 [u,v]) λw=>dU (e8 n r s t w) λx b=>if eP b 0 then some ((Fm.mk 0 (Ty.mk 0 []) [] []),[],b)else dU (jx a c) λy A=>dH (kl c) λB=>dH (gp B I) λC=>dH (gx x 2) λD=>dH (gp C D) λF=>some (y,F,A)
def nC:Nat->dS->Pf->Option (Fm×(List Int)×Int)
 |0,_,_=>none|n+1,a0,a1=>dH (dW a1.fW 0) λk=>dH (jy) λb=>gB (fI a0.ak9 [b])<|dH (kF (fR a0.ak9 [b]) k) λc=>if eP c 0 then some ((Fm.mk 0 (Ty.mk 0 []) [] []),[],c)else dH (dW a1.ak6 0) λl=>dU (eu n a0 l) λa d=>if eP d 0 then some ((Fm.mk 0 (Ty.mk 0 []) [] []),[],d)else if eP a.dZ.ak5 1 then some ((Fm.mk 0 (Ty.mk 0 []) [] []),[],10)else dH (dW a1.ak6 1) λo=>dH (dW a.dZ.eh 0) λq=>dU (e8 n a0 o k q) λr f=>if eP f 0 then some ((Fm.mk 0 (Ty.mk 0 []) [] []),[],f)else dH (dW a.dZ.eh 1) λh=>dU (jx k h) λi j=>some (i,r,j)
def mK:Nat->dS->Pf->Option (Fm×(List Int)×Int)
 |0,_,_=>none|n+1,a0,a1=>dH (dW a1.ak6 0) λh=>dU (eu n a0 h) λa b=>if eP b 0 then some ((Fm.mk 0 (Ty.mk 0 []) [] []),[],b)else ej (λ(i:Bool)=>if i then some ((Fm.mk 0 (Ty.mk 0 []) [] []),[],10)else dH (dW a.dZ.ak6 0) λc=>dH (kT a.dZ.dM c.dM) λd=>dH (il d) λj=>if eP j 0 then some ((Fm.mk 0 (Ty.mk 0 []) [] []),[],4)else dH (dW c.ak6 0) λk=>dH (iw FU k 2 1) λl=>dH (gA 1) λo=>dH (gA 0) λq=>dH (fQ 3 [o,q]) λr=>dU (jx l r) λs t=>dH (nA 4 a.dZ.dM s) λu=>dH (nA 5 d u) λv=>some (v,a.jL,t)) λf=>if eP a.dZ.ak5 4 then f true else dH (dW a.dZ.ak6 0) λw=>f (eP w.ak5 5)
def e8:Nat->dS->Pf->Fm->Tm->Option ((List Int)×Int)
 |0,_,_,_,_=>none|n+1,a0,a1,a2,a3=>dU (eu n a0 a1) λd f=>if eP f 0 then some ([],f)else dU (jx a2 a3) λb a=>if eP a 0 then some ([],a)else dH (lk b d.dZ) λc=>some (d.jL,c)
end
def mQ(a0:List Fm)(a1:Sq)(a2:Pf):Option (sW×Int):=dH (tW a0 a1) λf=>if eP f 0 then some ((sW.mk (Fm.mk 0 (Ty.mk 0 []) [] []) []),f)else dH (ur a2) λb=>if eP b 0 then some ((sW.mk (Fm.mk 0 (Ty.mk 0 []) [] []) []),b)else dU (eu FU (dS.mk a0 a1.ak9 a1.ala) a2) λa c=>if eP c 0 then some ((sW.mk (Fm.mk 0 (Ty.mk 0 []) [] []) []),c)else dH (lD FU a.dZ) λd=>gB (fI [] a.jL)<|some ((sW.mk d (fR [] a.jL)),0)
def gu(a0:Fm):Option Bool:=dU (nc a0) λa b=>some a
def tP:Option Ty:=some (Ty.mk 5 [])
def pZ(a0 a1:Ty):Option Ty:=some (Ty.mk 3 [a0,a1])
def zr(a0:Ty):Option (Int×Int):=dH (il a0) λb=>if eP b 0 then some (0,b)else dH (pT FU a0) λa=>some (a,0)
def nq(a0:Ty)(a1:Int):Option (Ty×Int):=if eP a1 0 then some ((Ty.mk 0 []),a1)else dU (zr a0) λb a=>if eP a 0 then some ((Ty.mk 0 []),a)else some (a0,0)
def rV(a0 a1:Ty):Option Ty:=some (Ty.mk 4 [a0,a1])
def kP:Nat->Fm->Option (Ty×Int)
 |0,_=>none|n+1,a0=>dH (gu a0) λae=>if ae then if eo a0.ak5 2 then dH (dW a0.ak6 0) λa=>dH (gu a) λi=>if i then dH (dW a0.ak6 1) λb=>dH (gu b) λj=>if j then dU (kP n a) λk c=>if eP c 0 then some ((Ty.mk 0 []),c)else dU (kP n b) λl o=>dH (pZ k l) λq=>dU (nq q o) λr s=>some (r,s)else dU (kP n a) λt u=>some (t,u)else dH (dW a0.ak6 1) λv=>dU (kP n v) λw x=>some (w,x)else if eo a0.ak5 3 then dH (dW a0.ak6 0) λd=>dH (gu d) λy=>if y then dU (kP n d) λA f=>if eP f 0 then some ((Ty.mk 0 []),f)else dH (dW a0.ak6 1) λB=>dU (kP n B) λC D=>dH (rV A C) λF=>dU (nq F D) λG H=>some (G,H)else dH (dW a0.ak6 1) λI=>dU (kP n I) λJ K=>some (J,K)else if eo a0.ak5 4 then dH (dW a0.ak6 0) λL=>dU (kP n L) λM N=>dH (rV a0.dM M) λO=>dU (nq O N) λP Q=>some (P,Q)else if eo a0.ak5 5 then dH (dW a0.ak6 0) λh=>dH (gu h) λR=>if R then dU (kP n h) λS T=>dH (pZ a0.dM S) λU=>dU (nq U T) λV W=>some (V,W)else some (a0.dM,0)else dH (dW a0.ak6 0) λX=>dU (kP n X) λY Z=>some (Y,Z)else dH (tP) λad=>some (ad,0)
def ji(a0:Fm):Option (Ty×Int):=dH (jV a0) λc=>if eP c 0 then some ((Ty.mk 0 []),c)else dU (kP FU a0) λa b=>some (a,b)
def vx(a0:List Fm)(a1:List Tm):Option Int:=if eP (eA a1) (eA a0)then some 9 else ej ((λ(a:Int)=>if o7 a (eA a0)then dH (dW a0 a) λd=>dU (ji d) λf b=>if eP b 0 then some (.ret b)else dH (dW a1 a) λh=>dU (iO [] h) λi c=>if eP c 0 then some (.ret c)else dH (fm FU f i) λj=>if j then some (.next (eS .i64 a 1))else some (.ret 7)else some (.yd a)):(Int)->(Option (gm (Int) (Int)))) λk=>dH (js k FU 0) (fL (λ(a:Int)=>some 0) (λr=>some r))
def eE(a0:dT):Option (Int×dT):=some ((eS .i64 a0.next 1),(dT.mk a0.lemmas a0.eh (eS .i64 a0.next 1)))
def lI(a0:dT)(a1:Sq):Option (er×(List Int)×dT):=ej ((un4 λ(b:List Int) (v164:Int) (d:List Tm) (j:dT)=>if o7 v164 (eA a1.ak9)then dU (eE j) λk d197=>gB (fI b [k])<|dH (dW (fR b [k]) v164) λu=>dH (fl u) λl=>gB (fI d [l])<|some (.next ((fR b [k]),(eS .i64 v164 1),(fR d [l]),d197))else some (.yd (b,v164,d,j))):((List Int)×Int×(List Tm)×dT)->(Option (gm ((List Int)×Int×(List Tm)×dT) (er×(List Int)×dT)))) λv=>dH (js v FU ([],0,[],a0)) (fL (un4 λ(b:List Int) (v164:Int) (d:List Tm) (j:dT)=>ej ((un4 λ(c:List Int) (f:Int) (h:List Tm) (i:dT)=>if o7 f (eA a1.ala)then ej (λ(w:List Int) (n:Int) (o:Int) (q:Int) (s:List Ty) (t:List Tm) (x:dT)=>gB (fI h [(Tm.mk n o (Ty.mk q s) t)])<|some (.next (w,(eS .i64 f 1),(fR h [(Tm.mk n o (Ty.mk q s) t)]),x))) λj718=>dH (dW a1.ala f) λy=>dH (gu y) λA=>if A then dU (eE i) λB C=>dH (fl B) λa=>gB (fI c [a.ak8])<|j718 (fR c [a.ak8]) a.ak5 a.ak8 a.dM.ak5 a.dM.ak6 a.ak6 C else j718 c 0 0 0 [] [] i else some (.yd (c,f,h,i))):((List Int)×Int×(List Tm)×dT)->(Option (gm ((List Int)×Int×(List Tm)×dT) (er×(List Int)×dT)))) λD=>dH (js D FU (b,0,[],j)) (fL (un4 λ(c:List Int) (f:Int) (h:List Tm) (i:dT)=>some ((er.mk a1 d h),c,i)) (λr=>some r))) (λr=>some r))
def ov(a0:List Tm)(a1:Tm):Option (List Tm):=gB (fI [] a0)<|gB (fI (fR [] a0) [a1])<|some (fR (fR [] a0) [a1])
def eK:Nat->dT->Tm->(List Tm)->Option (Tm×dT)
 |0,_,_,_=>none|n+1,a0,a1,a2=>if eo a1.ak5 1 then dH (dW a2 (fA .i64 (fA .i64 (eA a2) 1) a1.ak8)) λl=>some (l,a0)else if eo a1.ak5 2 then dU (eE a0) λc d57=>dH (dW a1.ak6 0) λh=>dH (fl c) λi=>dH (ov a2 i) λj=>dU (eK n d57 h j) λk d93=>some ((Tm.mk a1.ak5 c a1.dM [k]),d93)else ej ((PE λ(v210:Int) (a:List Tm) (v212:dT)=>if o7 v210 (eA a1.ak6)then dH (dW a1.ak6 v210) λd=>dU (eK n v212 d a2) λb d241=>gB (fI a [b])<|some (.next ((eS .i64 v210 1),(fR a [b]),d241))else some (.yd (v210,a,v212))):(Int×(List Tm)×dT)->(Option (gm (Int×(List Tm)×dT) (Tm×dT)))) λf=>dH (js f FU (0,[],a0)) (fL (PE λ(v210:Int) (a:List Tm) (v212:dT)=>some ((Tm.mk a1.ak5 0 a1.dM a),v212)) (λr=>some r))
def eY(a0:dT)(a1:er)(a2:Pf):Option (Fm×dT):=dU (mQ a0.lemmas a1.ir a2) λa b=>some (a.dZ,a0)
def iu(a0:er)(a1:Fm)(a2:Tm):Option er:=dH (ov a0.ala a2) λa=>gB (fI [] a0.ir.ala)<|gB (fI (fR [] a0.ir.ala) [a1])<|some (er.mk (Sq.mk a0.ir.ak9 (fR (fR [] a0.ir.ala) [a1])) a0.vars a)
def iy(a0:Ty)(a1:Int)(a2:Tm):Option Tm:=some (Tm.mk 2 a1 a0 [a2])
def jQ(a0 a1:Tm):Option Tm:=dH (gP 3 [a0,a1]) λa=>some a
def oF(a0:Fm)(a1 a2:Int):Option (Fm×Int):=dH (jV a0) λh=>if eP h 0 then some ((Fm.mk 0 (Ty.mk 0 []) [] []),h)else ej (λ(b:Bool)=>if b then some ((Fm.mk 0 (Ty.mk 0 []) [] []),1)else dH (iw FU a0 a1 a2) λc=>dH (lD FU c) λd=>some (d,0)) λa=>if o7 a1 0 then a true else if oQ a1 4096 then a true else if o7 a2 0 then a true else if oQ a2 4096 then a true else dH (oa FU a0 536870912) λf=>a (lJ f)
def hY(a0:er)(a1:Ty)(a2:Tm):Option er:=dH (ov a0.vars a2) λh=>gB (fI [] a0.ir.ak9)<|gB (fI (fR [] a0.ir.ak9) [a1])<|ej ((xm λ(v117:Int) (a:List Fm)=>if o7 v117 (eA a0.ir.ala)then dH (dW a0.ir.ala v117) λc=>dU (oF c 0 1) λb f=>gB (fI a [b])<|some (.next ((eS .i64 v117 1),(fR a [b])))else some (.yd (v117,a))):(Int×(List Fm))->(Option (gm (Int×(List Fm)) (er)))) λd=>dH (js d FU (0,[])) (fL (xm λ(v117:Int) (a:List Fm)=>some (er.mk (Sq.mk (fR (fR [] a0.ir.ak9) [a1]) a) h a0.ala)) (λr=>some r))
def k6:Nat->Ty->Option Tm
 |0,_=>none|n+1,a0=>if eo a0.ak5 1 then dH (fQ 4 []) λo=>some o else if eo a0.ak5 2 then dH (fQ 7 []) λq=>some q else if eo a0.ak5 3 then dH (dW a0.ak6 0) λa=>dH (k6 n a) λb=>dH (dW a0.ak6 1) λc=>dH (k6 n c) λd=>dH (fQ 10 [b,d]) λf=>some f else if eo a0.ak5 4 then dH (dW a0.ak6 0) λh=>dH (dW a0.ak6 1) λi=>dH (k6 n i) λj=>dH (lu 2 h [j]) λk=>some k else dH (fQ 13 []) λl=>some l
def tT(a0:Ty):Option (Tm×Int):=dH (il a0) λb=>if eP b 0 then some ((Tm.mk 0 0 (Ty.mk 0 []) []),b)else dH (k6 FU a0) λa=>some (a,0)
def l0(a0:Ty):Option Tm:=dU (tT a0) λa b=>some a
def oK:Option Ty:=some (Ty.mk 1 [])
def pt(a0:er)(a1:Pf)(a2:List Int)(a3:Tm):Option er:=if eo a1.ak5 16 then dH (oK) λo=>dH (dW a2 0) λq=>dH (fl q) λr=>dH (hY a0 o r) λs=>dH (dW a1.fW 0) λt=>dH (iu s t a3) λu=>some u else dH (dW a1.fW 0) λa=>dU (oF a 1 1) λb v=>dH (oK) λc=>dH (dW a2 0) λd=>dH (fl d) λf=>dH (hY a0 c f) λh=>dH (kU) λi=>dH (dW a2 1) λj=>dH (fl j) λk=>dH (hY h i k) λl=>dH (iu l b a3) λn=>some n
def tp(a0:Pf)(a1:Ty)(a2 a3 a4:Tm):Option Tm:=some (Tm.mk (fv (eo a0.ak5 17) 9 6) 0 a1 [a2,a3,a4])
def pz:Nat->Tm->Option Int
 |0,_=>none|n+1,a0=>ej ((xm λ(a:Int) (v46:Int)=>if o7 v46 (eA a0.ak6)then dH (dW a0.ak6 v46) λb=>dH (pz n b) λc=>some (.next ((eS .i64 a c),(eS .i64 v46 1)))else some (.yd (a,v46))):(Int×Int)->(Option (gm (Int×Int) (Int)))) λd=>dH (js d FU (1,0)) (fL (xm λ(a:Int) (v46:Int)=>some a) (λr=>some r))
def mR(a0:Tm)(a1:Int):Option (Tm×Int):=if eP a1 0 then some ((Tm.mk 0 0 (Ty.mk 0 []) []),a1)else dH (pz FU a0) λa=>if oQ a 4096 then some ((Tm.mk 0 0 (Ty.mk 0 []) []),4)else some (a0,0)
mutual
def ed:Nat->dT->er->Pf->Option (Tm×Int×dT)
 |0,_,_,_=>none|n+1,a0,a1,a2=>eZ (jR n a0 a1 a2) λc d d7=>dU (mR c d) λa b=>some (a,b,d7)
def jR:Nat->dT->er->Pf->Option (Tm×Int×dT)
 |0,_,_,_=>none|n+1,a0,a1,a2=>if eo a2.ak5 1 then dH (dW a1.ala (fA .i64 (fA .i64 (eA a1.ala) 1) a2.ak8)) λay=>some (ay,0,a0)else if eo a2.ak5 2 then dH (dW a0.eh a2.ak8) λaz=>dU (eK FU a0 az []) λaA aB=>some (aA,0,aB)else if eo a2.ak5 3 then dH (dW a2.ak6 0) λu=>dU (eY a0 a1 u) λaC aD=>dH (gu aC) λaE=>dH (dW a2.ak6 1) λo=>dU (eY aD a1 o) λaF v=>dH (gu aF) λaG=>if aE then eZ (ed n v a1 u) λw x y=>if fv (eP x 0) true (lJ aG)then some (w,x,y)else eZ (ed n y a1 o) λaH aI aJ=>dH (gP 10 [w,aH]) λaK=>some (aK,aI,aJ)else eZ (ed n v a1 o) λaL aM aN=>some (aL,aM,aN)else if fv (eo a2.ak5 4) true (eo a2.ak5 5)then dH (dW a2.ak6 0) λA=>dU (eY a0 a1 A) λB aO=>eZ (ed n aO a1 A) λb C aP=>ej (λ(aQ:Int) (aR:Int) (aS:Int) (aT:List Ty) (aU:List Tm)=>some ((Tm.mk aQ aR (Ty.mk aS aT) aU),C,aP)) λD=>ej (λ(aV:Bool)=>if aV then dH (gP (fv (eo a2.ak5 5) 12 11) [b]) λd=>D d.ak5 d.ak8 d.dM.ak5 d.dM.ak6 d.ak6 else D b.ak5 b.ak8 b.dM.ak5 b.dM.ak6 b.ak6) λq=>if eo C 0 then dH (dW B.ak6 0) λaW=>dH (gu aW) λaX=>if aX then dH (dW B.ak6 1) λaY=>dH (gu aY) λaZ=>q aZ else q false else q false else if eo a2.ak5 6 then dH (dW a2.fW 0) λj=>dH (gu j) λa6=>if a6 then dU (ji j) λa7 F=>if eP F 0 then some ((Tm.mk 0 0 (Ty.mk 0 []) []),F,a0)else dU (eE a0) λG a8=>dH (fl G) λa_=>dH (iu a1 j a_) λa'=>dH (dW a2.ak6 0) λba=>eZ (ed n a8 a' ba) λbb bc bd=>dH (iy a7 G bb) λbf=>some (bf,bc,bd)else dH (iu a1 j (Tm.mk 0 0 (Ty.mk 0 []) [])) λbg=>dH (dW a2.ak6 0) λbh=>eZ (ed n a0 bg bh) λbj bk bl=>some (bj,bk,bl)else if eo a2.ak5 7 then dH (dW a2.ak6 0) λH=>eZ (ed n a0 a1 H) λI J K=>ej (λ(bm:Bool) (L:dT)=>if bm then some (I,J,L)else dH (dW a2.ak6 1) λbn=>eZ (ed n L a1 bn) λbo bp bq=>dH (jQ I bo) λbr=>some (br,bp,bq)) λM=>if eP J 0 then M true K else dU (eY K a1 H) λbs bt=>dH (dW bs.ak6 0) λbu=>dH (gu bu) λbw=>M (lJ bw) bt else if eo a2.ak5 8 then dU (eE a0) λN bz=>dH (fl N) λbA=>dH (hY a1 a2.dM bA) λbB=>dH (dW a2.ak6 0) λbC=>eZ (ed n bz bB bC) λbD bE bF=>dH (iy a2.dM N bD) λbG=>some (bG,bE,bF)else if eo a2.ak5 9 then dH (dW a2.ak6 0) λbH=>eZ (ed n a0 a1 bH) λbI bJ bK=>dH (dW a2.eh 0) λbL=>dU (eK FU bK bL a1.vars) λbM bN=>dH (jQ bI bM) λbO=>some (bO,bJ,bN)else if eo a2.ak5 10 then dH (dW a2.eh 0) λbP=>dU (eK FU a0 bP a1.vars) λO P=>dH (dW a2.fW 0) λbQ=>dH (dW bQ.ak6 0) λbR=>dH (gu bR) λbS=>if bS then dH (dW a2.ak6 0) λbT=>eZ (ed n P a1 bT) λbU bV bW=>dH (gP 10 [O,bU]) λbX=>some (bX,bV,bW)else some (O,0,P)else if eo a2.ak5 11 then dH (dW a2.ak6 0) λQ=>dU (eY a0 a1 Q) λc bY=>eZ (ed n bY a1 Q) λbZ R S=>if eP R 0 then some ((Tm.mk 0 0 (Ty.mk 0 []) []),R,S)else dU (eE S) λk T=>dH (fl k) λf=>ej (λ(b0:Int) (b1:List Ty) (b2:Int) (b3:Int) (b4:Int) (b5:List Ty) (b6:List Tm) (b7:Int) (b8:Int) (b9:Int) (b_:List Ty) (b':List Tm)=>dH (hY a1 c.dM (Tm.mk b2 b3 (Ty.mk b4 b5) b6)) λca=>dH (dW c.ak6 0) λcb=>dH (iu ca cb (Tm.mk b7 b8 (Ty.mk b9 b_) b')) λcc=>dH (dW a2.ak6 1) λcd=>eZ (ed n T cc cd) λcf cg ch=>dH (iy (Ty.mk b0 b1) k cf) λcj=>dH (jQ cj bZ) λck=>some (ck,cg,ch)) λU=>dH (dW c.ak6 0) λcm=>dH (gu cm) λcn=>if cn then dU (ji c) λV W=>if eP W 0 then some ((Tm.mk 0 0 (Ty.mk 0 []) []),W,T)else dH (fl k) λcp=>dH (gP 11 [cp]) λh=>dH (fl k) λcq=>dH (gP 12 [cq]) λi=>U V.ak5 V.ak6 h.ak5 h.ak8 h.dM.ak5 h.dM.ak6 h.ak6 i.ak5 i.ak8 i.dM.ak5 i.dM.ak6 i.ak6 else U c.dM.ak5 c.dM.ak6 f.ak5 f.ak8 f.dM.ak5 f.dM.ak6 f.ak6 0 0 0 [] [] else if eo a2.ak5 12 then dH (l0 a2.dM) λcr=>dU (eK FU a0 cr []) λcu cw=>dH (hY a1 a2.dM cu) λcx=>dH (dW a2.ak6 0) λcy=>eZ (ed n cw cx cy) λcz cA cB=>some (cz,cA,cB)else if eo a2.ak5 15 then dH (dW a2.ak6 0) λX=>dU (eY a0 a1 X) λa cD=>dH (l0 a.dM) λcE=>dU (eK FU cD cE []) λY Z=>dH (gu a) λcF=>if cF then eZ (ed n Z a1 X) λcG ad r=>if eP ad 0 then some ((Tm.mk 0 0 (Ty.mk 0 []) []),ad,r)else dU (ji a) λcH ae=>if eP ae 0 then some ((Tm.mk 0 0 (Ty.mk 0 []) []),ae,r)else dU (eE r) λaf cI=>dH (hY a1 a.dM Y) λcJ=>dH (dW a.ak6 0) λcK=>dH (fl af) λcL=>dH (iu cJ cK cL) λcM=>dH (dW a2.ak6 1) λcN=>eZ (ed n cI cM cN) λcO cP cQ=>dH (iy cH af cO) λcR=>dH (jQ cR cG) λcS=>some (cS,cP,cQ)else dH (hY a1 a.dM Y) λcT=>dH (dW a.ak6 0) λcU=>dH (iu cT cU (Tm.mk 0 0 (Ty.mk 0 []) [])) λcV=>dH (dW a2.ak6 1) λcW=>eZ (ed n Z cV cW) λcX cY cZ=>some (cX,cY,cZ)else if fv (eo a2.ak5 16) true (eo a2.ak5 17)then Pe (jU n a0 a1 a2) λc0 c1 c2 ah ai=>if eP ah 0 then some ((Tm.mk 0 0 (Ty.mk 0 []) []),ah,ai)else dH (dW a2.eh 0) λc4=>dU (eK FU ai c4 a1.vars) λc6 c7=>dH (tp a2 c0 c1 c2 c6) λc8=>some (c8,0,c7)else if eo a2.ak5 19 then dH (dW a2.ak6 1) λc9=>eZ (ed n a0 a1 c9) λc_ c' da=>some (c_,c',da)else if eo a2.ak5 20 then dH (dW a2.ak6 0) λak=>eZ (ed n a0 a1 ak) λan ao db=>dU (eY db a1 ak) λl s=>ej (λ(dc:Bool)=>if dc then some (an,ao,s)else dU (ji l) λdd aq=>if eP aq 0 then some ((Tm.mk 0 0 (Ty.mk 0 []) []),aq,s)else dU (eE s) λt de=>dU (eE de) λar df=>dU (eE df) λaw dg=>dH (fl t) λdh=>dH (fl ar) λdi=>dH (jQ dh di) λdj=>dH (gP 11 [dj]) λdk=>dH (iy l.dM ar dk) λdm=>dH (fl t) λdn=>dH (fl aw) λdp=>dH (jQ dn dp) λdq=>dH (gP 12 [dq]) λdr=>dH (iy l.dM aw dr) λds=>dH (gP 10 [dm,ds]) λdt=>dH (iy dd t dt) λdu=>dH (jQ du an) λdv=>some (dv,0,dg)) λax=>if eP ao 0 then ax true else dH (dW l.ak6 0) λdw=>dH (dW dw.ak6 0) λdx=>dH (gu dx) λdy=>ax (lJ dy)else dH (dW a2.ak6 0) λdz=>eZ (ed n a0 a1 dz) λdA dB dC=>some (dA,dB,dC)
def jU:Nat->dT->er->Pf->Option (Ty×Tm×Tm×Int×dT)
 |0,_,_,_=>none|n+1,a0,a1,a2=>dH (dW a2.fW 0) λD=>dU (ji D) λB C=>if eP C 0 then some ((Ty.mk 0 []),(Tm.mk 0 0 (Ty.mk 0 []) []),(Tm.mk 0 0 (Ty.mk 0 []) []),C,a0)else dH (dW a2.ak6 0) λu=>eZ (ed n a0 a1 u) λv d d33=>if eP d 0 then some ((Ty.mk 0 []),(Tm.mk 0 0 (Ty.mk 0 []) []),(Tm.mk 0 0 (Ty.mk 0 []) []),d,d33)else dU (eE d33) λf d45=>dU (eE d45) λh d48=>dU (eE d48) λi d51=>dH (fl i) λw=>dH (pt a1 a2 [f,h] w) λx=>dH (dW a2.ak6 1) λy=>eZ (ed n d51 x y) λA j d91=>if eP j 0 then some ((Ty.mk 0 []),(Tm.mk 0 0 (Ty.mk 0 []) []),(Tm.mk 0 0 (Ty.mk 0 []) []),j,d91)else dH (iy B i A) λb=>ej (λ(k:Int) (v109:Int) (l:Int) (o:List Ty) (q:List Tm)=>dH (oK) λr=>dH (iy r f (Tm.mk k v109 (Ty.mk l o) q)) λs=>some (B,v,s,0,d91)) λc=>if eo a2.ak5 17 then dH (kU) λt=>dH (iy t h b) λa=>c a.ak5 a.ak8 a.dM.ak5 a.dM.ak6 a.ak6 else c b.ak5 b.ak8 b.dM.ak5 b.dM.ak6 b.ak6
end
def jt:Nat->Tm->(List Int)->Option Tm
 |0,_,_=>none|n+1,a0,a1=>if eo a0.ak5 1 then ej ((λ(v212:Int)=>if pd v212 0 then dH (dW a1 v212) λd=>if eo d a0.ak8 then dH (fl (fA .i64 (fA .i64 (eA a1) 1) v212)) λf=>some (.ret f)else some (.next (fA .i64 v212 1))else some (.yd v212)):(Int)->(Option (gm (Int) (Tm)))) λh=>dH (js h FU (fA .i64 (eA a1) 1)) (fL (λ(v212:Int)=>some a0) (λr=>some r))else ej (λ(i:List Int)=>ej ((xm λ(a:Int) (b:List Tm)=>if o7 a (eA a0.ak6)then dH (dW a0.ak6 a) λj=>dH (jt n j i) λc=>gB (fI b [c])<|some (.next ((eS .i64 a 1),(fR b [c])))else some (.yd (a,b))):(Int×(List Tm))->(Option (gm (Int×(List Tm)) (Tm)))) λk=>dH (js k FU (0,[])) (fL (xm λ(a:Int) (b:List Tm)=>some (Tm.mk a0.ak5 0 a0.dM b)) (λr=>some r))) λj252=>if eo a0.ak5 2 then gB (fI [] a1)<|gB (fI (fR [] a1) [a0.ak8])<|j252 (fR (fR [] a1) [a0.ak8])else j252 a1
def oh(a0:List Fm)(a1:List Tm)(a2:Sq)(a3:Pf):Option (Tm×Int):=dU (mQ a0 a2 a3) λk j=>if eP j 0 then some ((Tm.mk 0 0 (Ty.mk 0 []) []),j)else dH (vx a0 a1) λa=>if eP a 0 then some ((Tm.mk 0 0 (Ty.mk 0 []) []),a)else dH (gu k.dZ) λc=>if c then eZ (lI (dT.mk a0 a1 0) a2) λd f d29=>eZ (ed FU d29 d a3) λh b d37=>if eP b 0 then some ((Tm.mk 0 0 (Ty.mk 0 []) []),b)else dH (jt FU h f) λi=>some (i,0)else some ((Tm.mk 0 0 (Ty.mk 0 []) []),40)
def pw:Nat->Vl->Option Bool
 |0,_=>none|n+1,a0=>if eo a0.ak5 1 then some (fv (pd a0.num 0) (fv (eo (eA a0.list) 0) (eo (eA a0.ak6) 0) false) false)else if eo a0.ak5 2 then gB (eV a0.list)<|ej (λ(k:Int) (b:Int)=>(λ(_:Unit)=>if o7 b 0 then some (.ret false)else some (.next ())):Int->Int->(Unit)->(Option (gm (Unit) (Bool)))) λc=>dH (fk c a0.list 0 ()) (fL (λ(_:Unit)=>some (fv (eo a0.num 0) (eo (eA a0.ak6) 0) false)) (λr=>some r))else if eo a0.ak5 4 then some (fv (eo a0.num 0) (fv (eo (eA a0.list) 0) (eo (eA a0.ak6) 0) false) false)else if eo a0.ak5 3 then ej (λ(d:Bool)=>some d) λa=>if eo a0.num 0 then if eo (eA a0.list) 0 then if eo (eA a0.ak6) 2 then dH (dW a0.ak6 0) λf=>dH (pw n f) λh=>if h then dH (dW a0.ak6 1) λi=>dH (pw n i) λj=>a j else a false else a false else a false else a false else some false
def xa:Nat->Vl->Option Int
 |0,_=>none|n+1,a0=>gB (eV a0.ak6)<|ej (λ(f:Int) (b:Vl)=>(λ(a:Int)=>dH (xa n b) λc=>some (.next (eS .i64 a c))):Int->Vl->(Int)->(Option (gm (Int) (Int)))) λd=>dH (fk d a0.ak6 0 1) (fL (λ(a:Int)=>some a) (λr=>some r))
def uI(a0:Vl):Option Int:=dH (pw FU a0) λb=>if b then dH (xa FU a0) λa=>if oQ a 64 then some 4 else some 0 else some 2
def uL:Nat->Vl->Option Ty
 |0,_=>none|n+1,a0=>if eo a0.ak5 1 then dH (jy) λa=>some a else if eo a0.ak5 2 then dH (mr) λb=>some b else if eo a0.ak5 3 then dH (dW a0.ak6 0) λc=>dH (uL n c) λd=>dH (dW a0.ak6 1) λf=>dH (uL n f) λh=>dH (tl d h) λi=>some i else dH (tH) λj=>some j
def og(a0:Vl):Option (Ty×Int):=dH (uI a0) λb=>if eP b 0 then some ((Ty.mk 0 []),b)else dH (uL FU a0) λa=>some (a,0)
def pQ:Nat->Ty->Option Int
 |0,_=>none|n+1,a0=>if eo a0.ak5 3 then dH (dW a0.ak6 0) λf=>dH (pQ n f) λh=>dH (dW a0.ak6 1) λi=>dH (pQ n i) λj=>some (imax h j)else if eo a0.ak5 4 then dH (dW a0.ak6 0) λa=>dH (pQ n a) λb=>dH (dW a0.ak6 1) λc=>dH (pQ n c) λd=>some (imax (eS .i64 b 1) d)else some 0
def yW(a0:Ty):Option (Bool×Int):=dH (il a0) λb=>if eP b 0 then some (false,b)else dH (pQ FU a0) λa=>some ((eo a 0),0)
mutual
def fu:Nat->dV->Tm->(List dJ)->Option (dJ×dV)
 |0,_,_,_=>none|n+1,a0,a1,a2=>if fv a0.out true (eo a0.used a0.qQ)then some ((dJ.mk 0 [] [] (Tm.mk 0 0 (Ty.mk 0 []) []) []),(dV.mk a0.used a0.qQ true))else if eo a1.ak5 1 then dH (dW a2 (fA .i64 (fA .i64 (eA a2) 1) a1.ak8)) λbc=>some (bc,(dV.mk (eS .i64 a0.used 1) a0.qQ a0.out))else if eo a1.ak5 2 then dH (dW a1.ak6 0) λbd=>some ((dJ.mk 0 [] [] bd a2),(dV.mk (eS .i64 a0.used 1) a0.qQ a0.out))else gB (eV a1.ak6)<|ej (λ(bg:Int) (bf:Tm)=>(xm λ(v105:List dJ) (i:dV)=>dU (fu n i bf a2) λV d127=>gB (fI v105 [V])<|if d127.out then some (.ret ((dJ.mk 0 [] [] (Tm.mk 0 0 (Ty.mk 0 []) []) []),d127))else some (.next ((fR v105 [V]),d127))):Int->Tm->((List dJ)×dV)->(Option (gm ((List dJ)×dV) (dJ×dV)))) λbb=>dH (fk bb a1.ak6 0 ([],(dV.mk (eS .i64 a0.used 1) a0.qQ a0.out))) (fL (xm λ(v105:List dJ) (i:dV)=>if eo a1.ak5 3 then dH (dW v105 0) λW=>dH (dW v105 1) λX=>dU (eJ n i W X) λY Z=>some (Y,Z)else if eo a1.ak5 5 then dH (dW v105 0) λad=>some ((dJ.mk (eS .i64 ad.num 1) [] [] (Tm.mk 0 0 (Ty.mk 0 []) []) []),i)else if eo a1.ak5 6 then dH (dW v105 0) λb=>ej ((Kb λ(k:Int) (l:Int) (o:List Int) (q:List dJ) (s:Int) (t:Int) (u:Int) (v:List Ty) (w:List Tm) (x:List dJ) (y:dV)=>ej (λ(ae:Bool)=>if ae then ej (λ(af:Int) (ah:List Int) (ai:List dJ) (ak:Int) (an:Int) (ao:Int) (aq:List Ty) (ar:List Tm) (aw:List dJ) (ax:dV)=>some (.next ((eS .i64 k 1),af,ah,ai,ak,an,ao,aq,ar,aw,ax))) λP=>dH (dW v105 1) λay=>dU (eJ n y ay (dJ.mk k [] [] (Tm.mk 0 0 (Ty.mk 0 []) []) [])) λaz M=>if M.out then P l o q s t u v w x M else dU (eJ n M az (dJ.mk l o q (Tm.mk s t (Ty.mk u v) w) x)) λc aA=>P c.num c.list c.pair c.body.ak5 c.body.ak8 c.body.dM.ak5 c.body.dM.ak6 c.body.ak6 c.env aA else some (.yd (k,l,o,q,s,t,u,v,w,x,y))) λQ=>dH (dW v105 2) λaB=>if o7 k aB.num then Q (lJ y.out)else Q false):(Int×Int×(List Int)×(List dJ)×Int×Int×Int×(List Ty)×(List Tm)×(List dJ)×dV)->(Option (gm (Int×Int×(List Int)×(List dJ)×Int×Int×Int×(List Ty)×(List Tm)×(List dJ)×dV) (dJ×dV)))) λaC=>dH (js aC FU (0,b.num,b.list,b.pair,b.body.ak5,b.body.ak8,b.body.dM.ak5,b.body.dM.ak6,b.body.ak6,b.env,i)) (fL (Kb λ(k:Int) (l:Int) (o:List Int) (q:List dJ) (s:Int) (t:Int) (u:Int) (v:List Ty) (w:List Tm) (x:List dJ) (y:dV)=>some ((dJ.mk l o q (Tm.mk s t (Ty.mk u v) w) x),y)) (λr=>some r))else if eo a1.ak5 8 then dH (dW v105 0) λR=>dH (dW v105 1) λS=>gB (fI [R.num] S.list)<|some ((dJ.mk 0 (fR [R.num] S.list) [] (Tm.mk 0 0 (Ty.mk 0 []) []) []),i)else if eo a1.ak5 9 then dH (dW v105 0) λd=>dH (dW v105 2) λL=>ej ((Kb λ(j:Int) (A:Int) (B:List Int) (C:List dJ) (D:Int) (F:Int) (G:Int) (H:List Ty) (I:List Tm) (J:List dJ) (K:dV)=>if fv (pd j 0) (lJ K.out) false then ej (λ(aD:Int) (aE:List Int) (aF:List dJ) (aG:Int) (aH:Int) (aI:Int) (aJ:List Ty) (aK:List Tm) (aL:List dJ) (aM:dV)=>some (.next ((fA .i64 j 1),aD,aE,aF,aG,aH,aI,aJ,aK,aL,aM))) λT=>dH (dW v105 1) λaN=>dH (dW L.list j) λaO=>dU (eJ n K aN (dJ.mk aO [] [] (Tm.mk 0 0 (Ty.mk 0 []) []) [])) λa N=>ej (λ(aP:Int) (aQ:List Int) (aR:List dJ) (aS:Int) (aT:Int) (aU:Int) (aV:List Ty) (aW:List Tm) (aX:List dJ) (O:dV)=>if O.out then T A B C D F G H I J O else dU (eJ n O (dJ.mk aP aQ aR (Tm.mk aS aT (Ty.mk aU aV) aW) aX) (dJ.mk A B C (Tm.mk D F (Ty.mk G H) I) J)) λf aY=>T f.num f.list f.pair f.body.ak5 f.body.ak8 f.body.dM.ak5 f.body.dM.ak6 f.body.ak6 f.env aY) λU=>if N.out then U a.num a.list a.pair a.body.ak5 a.body.ak8 a.body.dM.ak5 a.body.dM.ak6 a.body.ak6 a.env N else dH (pF L.list (eS .i64 j 1) (eA L.list)) λaZ=>dU (eJ n N a (dJ.mk 0 aZ [] (Tm.mk 0 0 (Ty.mk 0 []) []) [])) λh a6=>U h.num h.list h.pair h.body.ak5 h.body.ak8 h.body.dM.ak5 h.body.dM.ak6 h.body.ak6 h.env a6 else some (.yd (j,A,B,C,D,F,G,H,I,J,K))):(Int×Int×(List Int)×(List dJ)×Int×Int×Int×(List Ty)×(List Tm)×(List dJ)×dV)->(Option (gm (Int×Int×(List Int)×(List dJ)×Int×Int×Int×(List Ty)×(List Tm)×(List dJ)×dV) (dJ×dV)))) λa7=>dH (js a7 FU ((fA .i64 (eA L.list) 1),d.num,d.list,d.pair,d.body.ak5,d.body.ak8,d.body.dM.ak5,d.body.dM.ak6,d.body.ak6,d.env,i)) (fL (Kb λ(j:Int) (A:Int) (B:List Int) (C:List dJ) (D:Int) (F:Int) (G:Int) (H:List Ty) (I:List Tm) (J:List dJ) (K:dV)=>some ((dJ.mk A B C (Tm.mk D F (Ty.mk G H) I) J),K)) (λr=>some r))else if eo a1.ak5 10 then some ((dJ.mk 0 [] v105 (Tm.mk 0 0 (Ty.mk 0 []) []) []),i)else if eo a1.ak5 11 then dH (dW v105 0) λa8=>dH (dW a8.pair 0) λa_=>some (a_,i)else if eo a1.ak5 12 then dH (dW v105 0) λa'=>dH (dW a'.pair 1) λba=>some (ba,i)else some ((dJ.mk 0 [] [] (Tm.mk 0 0 (Ty.mk 0 []) []) []),i)) (λr=>some r))
def eJ:Nat->dV->dJ->dJ->Option (dJ×dV)
 |0,_,_,_=>none|n+1,a0,a1,a2=>gB (fI a1.env [a2])<|dU (fu n a0 a1.body (fR a1.env [a2])) λa d15=>some (a,d15)
end
def yr:Nat->Vl->Option dJ
 |0,_=>none|n+1,a0=>gB (eV a0.ak6)<|ej (λ(f:Int) (c:Vl)=>(λ(a:List dJ)=>dH (yr n c) λb=>gB (fI a [b])<|some (.next (fR a [b]))):Int->Vl->(List dJ)->(Option (gm (List dJ) (dJ)))) λd=>dH (fk d a0.ak6 0 []) (fL (λ(a:List dJ)=>some (dJ.mk a0.num a0.list a (Tm.mk 0 0 (Ty.mk 0 []) []) [])) (λr=>some r))
def n8:Nat->dJ->Ty->Option Vl
 |0,_,_=>none|n+1,a0,a1=>if eo a1.ak5 1 then some (Vl.mk 1 a0.num [] [])else if eo a1.ak5 2 then gB (fI [] a0.list)<|some (Vl.mk 2 0 (fR [] a0.list) [])else if eo a1.ak5 3 then dH (dW a0.pair 0) λa=>dH (dW a1.ak6 0) λb=>dH (n8 n a b) λc=>dH (dW a0.pair 1) λd=>dH (dW a1.ak6 1) λf=>dH (n8 n d f) λh=>some (Vl.mk 3 0 [] [c,h])else some (Vl.mk 4 0 [] [])
def mi(a0:Tm)(a1:List Vl)(a2:Int):Option (Vl×Int×Int):=dU (iO [] a0) λx4 x5=>if eP x5 0 then some ((Vl.mk 0 0 [] []),0,x5)else gB (eV a1)<|ej (λ(ad:Int) (C:Vl)=>(xm λ(f:Int) (c:List Ty)=>dU (og C) λD x=>if eP x 0 then some (.ret ((Vl.mk 0 0 [] []),0,x))else ej (λ(F:Bool)=>if F then some (.ret ((Vl.mk 0 0 [] []),0,7))else dH (dW c 1) λy=>some (.next (y.ak5,y.ak6))) λA=>if eP f 4 then A true else dH (dW c 0) λG=>dH (fm FU G D) λH=>A (lJ H)):Int->Vl->(Int×(List Ty))->(Option (gm (Int×(List Ty)) (Vl×Int×Int)))) λI=>dH (fk I a1 0 (x4.ak5,x4.ak6)) (fL (xm λ(f:Int) (c:List Ty)=>dU (yW (Ty.mk f c)) λJ ae=>if J then if fv (o7 a2 0) true (oQ a2 65536)then some ((Vl.mk 0 0 [] []),0,1)else dU (fu FU (dV.mk 0 a2 false) a0 []) λa u=>gB (eV a1)<|ej (λ(af:Int) (K:Vl)=>(XE λ(h:Int) (i:List Int) (j:List dJ) (k:Int) (l:Int) (n:Int) (o:List Ty) (q:List Tm) (s:List dJ) (t:Int) (v:Int) (d:Bool)=>ej (λ(L:Int) (M:List Int) (N:List dJ) (O:Int) (P:Int) (Q:Int) (R:List Ty) (S:List Tm) (T:List dJ) (U:Int) (V:Int) (W:Bool)=>some (.next (L,M,N,O,P,Q,R,S,T,U,V,W))) λB=>if d then B h i j k l n o q s t v d else dH (yr FU K) λX=>dU (eJ FU (dV.mk t v d) (dJ.mk h i j (Tm.mk k l (Ty.mk n o) q) s) X) λb w=>B b.num b.list b.pair b.body.ak5 b.body.ak8 b.body.dM.ak5 b.body.dM.ak6 b.body.ak6 b.env w.used w.qQ w.out):Int->Vl->(Int×(List Int)×(List dJ)×Int×Int×Int×(List Ty)×(List Tm)×(List dJ)×Int×Int×Bool)->(Option (gm (Int×(List Int)×(List dJ)×Int×Int×Int×(List Ty)×(List Tm)×(List dJ)×Int×Int×Bool) (Vl×Int×Int)))) λY=>dH (fk Y a1 0 (a.num,a.list,a.pair,a.body.ak5,a.body.ak8,a.body.dM.ak5,a.body.dM.ak6,a.body.ak6,a.env,u.used,u.qQ,u.out)) (fL (XE λ(h:Int) (i:List Int) (j:List dJ) (k:Int) (l:Int) (n:Int) (o:List Ty) (q:List Tm) (s:List dJ) (t:Int) (v:Int) (d:Bool)=>if d then some ((Vl.mk 0 0 [] []),0,5)else dH (n8 FU (dJ.mk h i j (Tm.mk k l (Ty.mk n o) q) s) (Ty.mk f c)) λZ=>some (Z,t,0)) (λr=>some r))else some ((Vl.mk 0 0 [] []),0,7)) (λr=>some r))
def uJ:Option Bool:=dH (fl 0) λy=>dH (gP 5 [y]) λA=>dH (mD (Ty.mk 1 []) A) λb=>dH (fl 0) λB=>dH (gP 5 [B]) λC=>dH (mD (Ty.mk 1 []) C) λD=>dH (mD (Ty.mk 1 []) D) λF=>dH (kU) λG=>dH (fl 0) λH=>dH (gP 5 [H]) λI=>dH (mD (Ty.mk 1 []) I) λJ=>dH (mD G J) λc=>dH (mD (Ty.mk 1 []) c) λd=>eZ (uT b) λf a h=>eZ (yS b a b a) λK L i=>dH (uX 0) λj=>eZ (y5 j F) λM N k=>dH (uX 0) λl=>eZ (ma l d) λO P n=>dH (uX 0) λo=>dH (uX 1) λq=>dH (pS) λr=>eZ (xK o q r) λQ s t=>dU (oh [] [] (Sq.mk [] []) s) λu v=>eZ (mi u [(Vl.mk 1 5 [] [])] 20000) λw R x=>some (fv (eo h 0) (fv (eo i 0) (fv (eo k 0) (fv (eo n 0) (fv (eo t 0) (fv (eo v 0) (fv (eo x 0) (fv (eo f.ak5 4) (eo w.num 5) false) false) false) false) false) false) false) false)
def IN(a0:List Int):Option Bool:=some (Yr (eA a0) 500)
def Rj(l:List Int):Option eF:=some ⟨l,0⟩
def Et:Option Ty:=dH (oK) λa=>some a
def E5(a0:List Ty)(a1:Ty):Option (List Int):=gB (eV a0)<|ej (λ(b:Int) (i:Ty)=>(λ(a:List Int)=>ej (λ(c:List Int)=>some (.next c)) λj201=>dH (dW a0 (fA .i64 (fA .i64 (eA a0) 1) b)) λd=>dH (fm FU d a1) λf=>if f then gB (fI a [b])<|j201 (fR a [b])else j201 a):Int->Ty->(List Int)->(Option (gm (List Int) (List Int)))) λh=>dH (fk h a0 0 []) (fL (λ(a:List Int)=>some a) (λr=>some r))
def JA(a0 a1:Int):Option Int:=gB (KM a1)<|gB (KM a1)<|some (VI .i64 (eS .i64 (VI .i64 a0 a1) a1) a1)
def hJ(a0:eF)(a1:Int):Option (Int×eF):=if fv (o7 a1 1) true (pd a0.xX (eA a0.l))then some (0,a0)else dH (dW a0.l a0.xX) λa=>dH (JA a a1) λb=>some (b,(eF.mk a0.l (eS .i64 a0.xX 1)))
def nD:Nat->eF->Int->Option (Ty×eF)
 |0,_,_=>none|n+1,a0,a1=>ej (λ(i:eF)=>dH (jy) λc=>some (c,i)) λb=>dU (hJ a0 7) λa d63=>if fv (eo a 0) true (fv (eo a 1) true (eo a 2))then dH (jy) λj=>some (j,d63)else if eo a 3 then dH (mr) λk=>some (k,d63)else if eo a 4 then dH (tH) λl=>some (l,d63)else if eo a 5 then if oQ a1 0 then dU (nD n d63 (fA .i64 a1 1)) λo d89=>dU (nD n d89 (fA .i64 a1 1)) λq d92=>dH (tl o q) λr=>some (r,d92)else b d63 else if eo a 6 then if oQ a1 0 then dU (nD n d63 (fA .i64 a1 1)) λd d105=>dU (nD n d105 (fA .i64 a1 1)) λf d108=>dH (kT d f) λh=>some (h,d108)else b d63 else b d63
def rP(a0 a1:List Ty):Option (List Ty):=gB (fI [] a0)<|gB (fI (fR [] a0) a1)<|some (fR (fR [] a0) a1)
def Bj(a0:Tm)(a1:List Tm):Option Tm:=gB (eV a1)<|ej (λ(j:Int) (h:Tm)=>(un5 λ(b:Int) (c:Int) (v46:Int) (d:List Ty) (f:List Tm)=>dH (fQ 3 [(Tm.mk b c (Ty.mk v46 d) f),h]) λa=>some (.next (a.ak5,a.ak8,a.dM.ak5,a.dM.ak6,a.ak6))):Int->Tm->(Int×Int×Int×(List Ty)×(List Tm))->(Option (gm (Int×Int×Int×(List Ty)×(List Tm)) (Tm)))) λi=>dH (fk i a1 0 (a0.ak5,a0.ak8,a0.dM.ak5,a0.dM.ak6,a0.ak6)) (fL (un5 λ(b:Int) (c:Int) (v46:Int) (d:List Ty) (f:List Tm)=>some (Tm.mk b c (Ty.mk v46 d) f)) (λr=>some r))
def v7:Option Tm:=dH (fQ 4 []) λa=>dH (gA 1) λb=>dH (jW b) λc=>dH (jW c) λd=>dH (gA 0) λf=>dH (tn a d f) λh=>dH (jW h) λi=>some i
def tw:Option Tm:=dH (gA 1) λa=>dH (v7) λb=>dH (gA 0) λc=>dH (fQ 3 [b,c]) λd=>dH (jW d) λf=>dH (jW f) λh=>dH (gA 0) λi=>dH (tn a h i) λj=>dH (jW j) λk=>dH (jW k) λl=>some l
def ie:Nat->eF->(List Ty)->Ty->Int->Option (Tm×eF)
 |0,_,_,_,_=>none|n+1,a0,a1,a2,a3=>dH (E5 a1 a2) λx3=>ej (λ(v37:Bool) (u:eF)=>if v37 then dU (hJ u (eA x3)) λbK d51=>dH (dW x3 bK) λbL=>dH (gA bL) λbM=>some (bM,d51)else ej (λ(b:eF)=>if eo a2.ak5 1 then ej (λ(v:eF)=>dU (hJ v 3) λw x=>dH (uX w) λy=>some (y,x)) λi=>if oQ a3 0 then dU (hJ b 5) λf d=>if eo f 0 then dU (ie n d a1 a2 (fA .i64 a3 1)) λA B=>dH (fQ 5 [A]) λC=>some (C,B)else if eo f 1 then dH (pS) λD=>dU (ie n d a1 a2 (fA .i64 a3 1)) λF G=>dU (ie n G a1 a2 (fA .i64 a3 1)) λH I=>dH (Bj D [F,H]) λJ=>some (J,I)else if eo f 2 then dH (tw) λK=>dU (ie n d a1 a2 (fA .i64 a3 1)) λL M=>dU (ie n M a1 a2 (fA .i64 a3 1)) λN O=>dH (Bj K [L,N]) λP=>some (P,O)else i d else i b else if eo a2.ak5 2 then ej (λ(Q:Bool) (j:eF)=>if Q then dH (jy) λR=>dU (ie n j a1 R (fA .i64 a3 1)) λS T=>dU (ie n T a1 a2 (fA .i64 a3 1)) λU V=>dH (fQ 8 [S,U]) λW=>some (W,V)else dH (fQ 7 []) λX=>some (X,j)) λk=>if oQ a3 0 then dU (hJ b 2) λY Z=>k (eo Y 0) Z else k false b else if eo a2.ak5 3 then dH (dW a2.ak6 0) λad=>dU (ie n b a1 ad (fA .i64 a3 1)) λae af=>dH (dW a2.ak6 1) λah=>dU (ie n af a1 ah (fA .i64 a3 1)) λai ak=>dH (fQ 10 [ae,ai]) λan=>some (an,ak)else if eo a2.ak5 4 then dH (dW a2.ak6 0) λl=>dH (rP a1 [l]) λao=>dH (dW a2.ak6 1) λaq=>dU (ie n b ao aq (fA .i64 a3 1)) λar aw=>dH (lu 2 l [ar]) λax=>some (ax,aw)else dH (fQ 13 []) λay=>some (ay,b)) λo=>if oQ a3 0 then dU (hJ u 8) λc a=>if eo c 0 then dU (nD FU a 0) λq aI=>dH (rP a1 [q]) λaJ=>dU (ie n aI aJ a2 (fA .i64 a3 1)) λaK aL=>dH (lu 2 q [aK]) λaM=>dU (ie n aL a1 q (fA .i64 a3 1)) λaN aO=>dH (fQ 3 [aM,aN]) λaP=>some (aP,aO)else if eo c 1 then dU (nD FU a 0) λaQ aR=>dU (ie n aR a1 a2 (fA .i64 a3 1)) λaS aT=>dU (ie n aT a1 aQ (fA .i64 a3 1)) λaU aV=>dH (fQ 10 [aS,aU]) λaW=>dH (fQ 11 [aW]) λaX=>some (aX,aV)else if eo c 2 then dH (jy) λaY=>dH (jy) λaZ=>dH (rP a1 [aZ,a2]) λa6=>dU (ie n a a6 a2 (fA .i64 a3 1)) λa7 a8=>dH (lu 2 a2 [a7]) λa_=>dH (lu 2 aY [a_]) λa'=>dU (ie n a8 a1 a2 (fA .i64 a3 1)) λba bb=>dU (hJ bb 3) λbc bd=>dH (uX bc) λbf=>dH (lu 6 a2 [ba,a',bf]) λbg=>some (bg,bd)else if eo c 3 then dH (jy) λbh=>dH (mr) λbj=>dH (jy) λbk=>dH (mr) λbl=>dH (rP a1 [bk,bl,a2]) λbm=>dU (ie n a bm a2 (fA .i64 a3 1)) λbn bo=>dH (lu 2 a2 [bn]) λbp=>dH (lu 2 bj [bp]) λbq=>dH (lu 2 bh [bq]) λbr=>dU (ie n bo a1 a2 (fA .i64 a3 1)) λbs bt=>dH (mr) λbu=>dU (ie n bt a1 bu (fA .i64 a3 1)) λbw bz=>dH (lu 9 a2 [bs,br,bw]) λbA=>some (bA,bz)else if eo c 4 then dU (nD FU a 0) λbB bC=>dU (ie n bC a1 bB (fA .i64 a3 1)) λbD bE=>dU (ie n bE a1 a2 (fA .i64 a3 1)) λbF bG=>dH (fQ 10 [bD,bF]) λbH=>dH (fQ 12 [bH]) λbI=>some (bI,bG)else if eo c 5 then gB (eV a1)<|ej (λ(t:Int) (bO:Ty)=>(λ(_:Unit)=>dH (dW a1 (fA .i64 (fA .i64 (eA a1) 1) t)) λh=>ej (λ(az:Bool)=>if az then dH (gA t) λaA=>dH (dW h.ak6 0) λaB=>dU (ie n a a1 aB (fA .i64 a3 1)) λaC aD=>dH (fQ 3 [aA,aC]) λaE=>some (.ret (aE,aD))else some (.next ())) λs=>if eo h.ak5 4 then dH (dW h.ak6 1) λaF=>dH (fm FU aF a2) λaG=>s aG else s false):Int->Ty->(Unit)->(Option (gm (Unit) (Tm×eF)))) λaH=>dH (fk aH a1 0 ()) (fL (λ(_:Unit)=>o a) (λr=>some r))else o a else o u) λbJ=>if oQ (eA x3) 0 then dU (hJ a0 3) λbN d41=>bJ (oQ bN 0) d41 else bJ false a0
def kr(a0:Int):Option Bool:=some (fv (eo a0 4) true (fv (eo a0 5) true (eo a0 3)))
def yn(a0 a1 a2:Tm):Option Tm:=dH (fQ 3 [a0,a1]) λa=>dH (fQ 3 [a,a2]) λb=>some b
def sd:Option Tm:=dH (pS) λa=>dH (tw) λb=>dH (gA 1) λc=>dH (gA 0) λd=>dH (yn b c d) λf=>dH (tw) λh=>dH (gA 0) λi=>dH (gA 1) λj=>dH (yn h i j) λk=>dH (yn a f k) λl=>dH (jW l) λn=>dH (jW n) λo=>some o
def pU(a0:eF):Option (Tm×eF):=dH (Et) λi=>dH (fl 0) λA=>dH (gP 5 [A]) λa=>ej (λ(o:Int) (v49:Int) (q:Int) (v51:List Ty) (r:List Tm) (v53:eF)=>dH (kU) λj=>dH (mD i (Tm.mk o v49 (Ty.mk q v51) r)) λk=>dH (mD j k) λl=>dH (mD i l) λn=>some (n,v53)) λf=>dU (hJ a0 4) λh d59=>if eo h 0 then dH (pS) λs=>dH (fl 0) λt=>dH (fl 2) λu=>dH (Bj s [t,u]) λb=>f b.ak5 b.ak8 b.dM.ak5 b.dM.ak6 b.ak6 d59 else if eo h 1 then dH (sd) λv=>dH (fl 0) λw=>dH (fl 2) λx=>dH (Bj v [w,x]) λc=>f c.ak5 c.ak8 c.dM.ak5 c.dM.ak6 c.ak6 d59 else if eo h 2 then dH (kU) λy=>dU (ie FU d59 [i,y,i] i 1) λd d85=>f d.ak5 d.ak8 d.dM.ak5 d.dM.ak6 d.ak6 d85 else f a.ak5 a.ak8 a.dM.ak5 a.dM.ak6 a.ak6 d59
def qF:Nat->eF->Ty->Option (Vl×eF)
 |0,_,_=>none|n+1,a0,a1=>if eo a1.ak5 1 then dU (hJ a0 5) λf d145=>some ((Vl.mk 1 f [] []),d145)else if eo a1.ak5 2 then dU (hJ a0 4) λh d198=>ej ((PE λ(b:Int) (a:List Int) (c:eF)=>if oQ b 0 then dU (hJ c 4) λd d261=>gB (fI a [d])<|some (.next ((fA .i64 b 1),(fR a [d]),d261))else some (.yd (b,a,c))):(Int×(List Int)×eF)->(Option (gm (Int×(List Int)×eF) (Vl×eF)))) λi=>dH (js i FU (h,[],d198)) (fL (PE λ(b:Int) (a:List Int) (c:eF)=>some ((Vl.mk 2 0 a []),c)) (λr=>some r))else if eo a1.ak5 3 then dH (dW a1.ak6 0) λj=>dU (qF n a0 j) λk d297=>dH (dW a1.ak6 1) λl=>dU (qF n d297 l) λo d302=>some ((Vl.mk 3 0 [] [k,o]),d302)else some ((Vl.mk 4 0 [] []),a0)
def oY(a0:List Int):Option Bool:=ej (λ(A:Bool)=>if A then dH (uJ) λB=>some B else dH (Rj a0) λC=>dU (hJ C 3) λi d46=>dU (pU d46) λj d49=>dH (uX i) λD=>eZ (ma D j) λN F k=>if eP k 0 then dH (kr k) λG=>some G else dU (oh [] [] (Sq.mk [] []) F) λH l=>if eP l 0 then dH (kr l) λI=>some I else dH (kU) λn=>dU (qF FU d49 n) λb d105=>ej ((xm λ(c:Int) (a:Int)=>if pd a 0 then dH (dW b.list a) λo=>dH (pF b.list (eS .i64 a 1) (eA b.list)) λq=>eZ (mi j [(Vl.mk 1 o [] []),(Vl.mk 2 0 q []),(Vl.mk 1 c [] [])] 20000) λs L f=>if eP f 0 then dH (kr f) λt=>some (.ret t)else some (.next (s.num,(fA .i64 a 1)))else some (.yd (c,a))):(Int×Int)->(Option (gm (Int×Int) (Bool)))) λu=>dH (js u FU (i,(fA .i64 (eA b.list) 1))) (fL (xm λ(c:Int) (a:Int)=>eZ (mi H [b] 20000) λv M h=>ej (λ(w:Bool)=>some w) λd=>dH (kr h) λx=>if x then d true else if eo h 0 then d (eo v.num c)else d false) (λr=>some r))) λy=>dH (uJ) λJ=>if J then dH (IN a0) λK=>y (lJ K)else y true
def rm(a0:Tm)(a1 a b:Int):Option Tm:=dH (vT a0 (eS .i64 a a1) b) λc=>some c
def qb(a0:Fm)(a1 a2:Int):Option Fm:=dU (gW FU a0 0 (λ(s:Unit) (a:Tm) (b:Int)=>yt (rm a b a1 a2) s) ()) λc d=>some c
end Go.fD
