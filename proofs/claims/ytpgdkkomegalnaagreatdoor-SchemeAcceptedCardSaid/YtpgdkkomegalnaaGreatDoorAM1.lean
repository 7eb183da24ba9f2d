/- Part of the proof of SchemeAccepted: models. -/
import Derived.Test.YtpgdkkomegalnaaGreatDoorAL18
set_option linter.all false
namespace Go.fH
open Go
inductive Ty where
 |mk (aiI:Int) (aiJ:List Ty)
def Ty.aiI:Ty->Int|.mk x _=>x
def Ty.aiJ:Ty->(List Ty)|.mk _ x=>x
@[simp] theorem Ty.eD(aiI:Int)(aiJ:List Ty):(Ty.mk aiI aiJ).aiI=aiI:=rfl
@[simp] theorem Ty.er(aiI:Int)(aiJ:List Ty):(Ty.mk aiI aiJ).aiJ=aiJ:=rfl
@[simp] theorem Ty.jL(x:Ty):Ty.mk x.aiI x.aiJ=x:=by cases x;rfl
instance:Inhabited Ty:=⟨.mk default default⟩
inductive Tm where
 |mk (aiI:Int) (aiL:Int) (dM:Ty) (aiJ:List Tm)
def Tm.aiI:Tm->Int|.mk x _ _ _=>x
def Tm.aiL:Tm->Int|.mk _ x _ _=>x
def Tm.dM:Tm->Ty|.mk _ _ x _=>x
def Tm.aiJ:Tm->(List Tm)|.mk _ _ _ x=>x
@[simp] theorem Tm.eD(aiI aiL:Int)(dM:Ty)(aiJ:List Tm):(Tm.mk aiI aiL dM aiJ).aiI=aiI:=rfl
@[simp] theorem Tm.gY(aiI aiL:Int)(dM:Ty)(aiJ:List Tm):(Tm.mk aiI aiL dM aiJ).aiL=aiL:=rfl
@[simp] theorem Tm.fu(aiI aiL:Int)(dM:Ty)(aiJ:List Tm):(Tm.mk aiI aiL dM aiJ).dM=dM:=rfl
@[simp] theorem Tm.er(aiI aiL:Int)(dM:Ty)(aiJ:List Tm):(Tm.mk aiI aiL dM aiJ).aiJ=aiJ:=rfl
@[simp] theorem Tm.jL(x:Tm):Tm.mk x.aiI x.aiL x.dM x.aiJ=x:=by cases x;rfl
instance:Inhabited Tm:=⟨.mk default default default default⟩
inductive Fm where
 |mk (aiI:Int) (dM:Ty) (ef:List Tm) (aiJ:List Fm)
def Fm.aiI:Fm->Int|.mk x _ _ _=>x
def Fm.dM:Fm->Ty|.mk _ x _ _=>x
def Fm.ef:Fm->(List Tm)|.mk _ _ x _=>x
def Fm.aiJ:Fm->(List Fm)|.mk _ _ _ x=>x
@[simp] theorem Fm.eD(aiI:Int)(dM:Ty)(ef:List Tm)(aiJ:List Fm):(Fm.mk aiI dM ef aiJ).aiI=aiI:=rfl
@[simp] theorem Fm.fu(aiI:Int)(dM:Ty)(ef:List Tm)(aiJ:List Fm):(Fm.mk aiI dM ef aiJ).dM=dM:=rfl
@[simp] theorem Fm.hZ(aiI:Int)(dM:Ty)(ef:List Tm)(aiJ:List Fm):(Fm.mk aiI dM ef aiJ).ef=ef:=rfl
@[simp] theorem Fm.er(aiI:Int)(dM:Ty)(ef:List Tm)(aiJ:List Fm):(Fm.mk aiI dM ef aiJ).aiJ=aiJ:=rfl
@[simp] theorem Fm.jL(x:Fm):Fm.mk x.aiI x.dM x.ef x.aiJ=x:=by cases x;rfl
instance:Inhabited Fm:=⟨.mk default default default default⟩
inductive Pf where
 |mk (aiI:Int) (aiL:Int) (dM:Ty) (ef:List Tm) (fI:List Fm) (aiJ:List Pf)
def Pf.aiI:Pf->Int|.mk x _ _ _ _ _=>x
def Pf.aiL:Pf->Int|.mk _ x _ _ _ _=>x
def Pf.dM:Pf->Ty|.mk _ _ x _ _ _=>x
def Pf.ef:Pf->(List Tm)|.mk _ _ _ x _ _=>x
def Pf.fI:Pf->(List Fm)|.mk _ _ _ _ x _=>x
def Pf.aiJ:Pf->(List Pf)|.mk _ _ _ _ _ x=>x
@[simp] theorem Pf.eD(aiI aiL:Int)(dM:Ty)(ef:List Tm)(fI:List Fm)(aiJ:List Pf):(Pf.mk aiI aiL dM ef fI aiJ).aiI=aiI:=rfl
@[simp] theorem Pf.gY(aiI aiL:Int)(dM:Ty)(ef:List Tm)(fI:List Fm)(aiJ:List Pf):(Pf.mk aiI aiL dM ef fI aiJ).aiL=aiL:=rfl
@[simp] theorem Pf.fu(aiI aiL:Int)(dM:Ty)(ef:List Tm)(fI:List Fm)(aiJ:List Pf):(Pf.mk aiI aiL dM ef fI aiJ).dM=dM:=rfl
@[simp] theorem Pf.hZ(aiI aiL:Int)(dM:Ty)(ef:List Tm)(fI:List Fm)(aiJ:List Pf):(Pf.mk aiI aiL dM ef fI aiJ).ef=ef:=rfl
@[simp] theorem Pf.NG(aiI aiL:Int)(dM:Ty)(ef:List Tm)(fI:List Fm)(aiJ:List Pf):(Pf.mk aiI aiL dM ef fI aiJ).fI=fI:=rfl
@[simp] theorem Pf.er(aiI aiL:Int)(dM:Ty)(ef:List Tm)(fI:List Fm)(aiJ:List Pf):(Pf.mk aiI aiL dM ef fI aiJ).aiJ=aiJ:=rfl
@[simp] theorem Pf.jL(x:Pf):Pf.mk x.aiI x.aiL x.dM x.ef x.fI x.aiJ=x:=by cases x;rfl
instance:Inhabited Pf:=⟨.mk default default default default default default⟩
structure Sq where
 aiM:(List Ty)
 aiP:(List Fm)
@[simp] theorem Sq.jL(x:Sq):Sq.mk x.aiM x.aiP=x:=rfl
instance:Inhabited Sq:=⟨.mk default default⟩
inductive Vl where
 |mk (aiI:Int) (num:Int) (list:List Int) (aiJ:List Vl)
def Vl.aiI:Vl->Int|.mk x _ _ _=>x
def Vl.num:Vl->Int|.mk _ x _ _=>x
def Vl.list:Vl->(List Int)|.mk _ _ x _=>x
def Vl.aiJ:Vl->(List Vl)|.mk _ _ _ x=>x
@[simp] theorem Vl.eD(aiI num:Int)(list:List Int)(aiJ:List Vl):(Vl.mk aiI num list aiJ).aiI=aiI:=rfl
@[simp] theorem Vl.abn(aiI num:Int)(list:List Int)(aiJ:List Vl):(Vl.mk aiI num list aiJ).num=num:=rfl
@[simp] theorem Vl.Zb(aiI num:Int)(list:List Int)(aiJ:List Vl):(Vl.mk aiI num list aiJ).list=list:=rfl
@[simp] theorem Vl.er(aiI num:Int)(list:List Int)(aiJ:List Vl):(Vl.mk aiI num list aiJ).aiJ=aiJ:=rfl
@[simp] theorem Vl.jL(x:Vl):Vl.mk x.aiI x.num x.list x.aiJ=x:=by cases x;rfl
instance:Inhabited Vl:=⟨.mk default default default default⟩
structure ey where
 l:(List Int)
 xy:Int
@[simp] theorem ey.jL(x:ey):ey.mk x.l x.xy=x:=rfl
instance:Inhabited ey:=⟨.mk default default⟩
structure su where
 dW:Fm
 jG:(List Int)
@[simp] theorem su.jL(x:su):su.mk x.dW x.jG=x:=rfl
instance:Inhabited su:=⟨.mk default default⟩
structure dU where
 lemmas:(List Fm)
 ef:(List Tm)
 next:Int
@[simp] theorem dU.jL(x:dU):dU.mk x.lemmas x.ef x.next=x:=rfl
instance:Inhabited dU:=⟨.mk default default default⟩
structure en where
 ie:Sq
 vars:(List Tm)
 aiP:(List Tm)
@[simp] theorem en.jL(x:en):en.mk x.ie x.vars x.aiP=x:=rfl
instance:Inhabited en:=⟨.mk default default default⟩
structure eg where
 used:Int
 ra:Int
 out:Bool
@[simp] theorem eg.jL(x:eg):eg.mk x.used x.ra x.out=x:=rfl
instance:Inhabited eg:=⟨.mk default default default⟩
inductive dG where
 |mk (num:Int) (list:List Int) (pair:List dG) (body:Tm) (env:List dG)
def dG.num:dG->Int|.mk x _ _ _ _=>x
def dG.list:dG->(List Int)|.mk _ x _ _ _=>x
def dG.pair:dG->(List dG)|.mk _ _ x _ _=>x
def dG.body:dG->Tm|.mk _ _ _ x _=>x
def dG.env:dG->(List dG)|.mk _ _ _ _ x=>x
@[simp] theorem dG.abn(num:Int)(list:List Int)(pair:List dG)(body:Tm)(env:List dG):(dG.mk num list pair body env).num=num:=rfl
@[simp] theorem dG.Zb(num:Int)(list:List Int)(pair:List dG)(body:Tm)(env:List dG):(dG.mk num list pair body env).list=list:=rfl
@[simp] theorem dG.agy(num:Int)(list:List Int)(pair:List dG)(body:Tm)(env:List dG):(dG.mk num list pair body env).pair=pair:=rfl
@[simp] theorem dG.agD(num:Int)(list:List Int)(pair:List dG)(body:Tm)(env:List dG):(dG.mk num list pair body env).body=body:=rfl
@[simp] theorem dG.ahe(num:Int)(list:List Int)(pair:List dG)(body:Tm)(env:List dG):(dG.mk num list pair body env).env=env:=rfl
@[simp] theorem dG.jL(x:dG):dG.mk x.num x.list x.pair x.body x.env=x:=by cases x;rfl
instance:Inhabited dG:=⟨.mk default default default default default⟩
structure dP where
 lemmas:(List Fm)
 aiM:(List Ty)
 aiP:(List Fm)
@[simp] theorem dP.jL(x:dP):dP.mk x.lemmas x.aiM x.aiP=x:=rfl
instance:Inhabited dP:=⟨.mk default default default⟩
structure dK where
 dM:Ty
 aiK:Int
@[simp] theorem dK.jL(x:dK):dK.mk x.dM x.aiK=x:=rfl
instance:Inhabited dK:=⟨.mk default default⟩
structure dV where
 dW:Fm
 jG:Int
@[simp] theorem dV.jL(x:dV):dV.mk x.dW x.jG=x:=rfl
instance:Inhabited dV:=⟨.mk default default⟩
structure eA where
 vars:Int
 aiP:Int
@[simp] theorem eA.jL(x:eA):eA.mk x.vars x.aiP=x:=rfl
instance:Inhabited eA:=⟨.mk default default⟩
structure ec where
 dW:Fm
 vars:Int
@[simp] theorem ec.jL(x:ec):ec.mk x.dW x.vars=x:=rfl
instance:Inhabited ec:=⟨.mk default default⟩
structure d_ where
 my:eA
 aiM:(List dK)
 known:(List ec)
@[simp] theorem d_.jL(x:d_):d_.mk x.my x.aiM x.known=x:=rfl
instance:Inhabited d_:=⟨.mk default default default⟩
structure dR where
 aiK:Int
 iN:Bool
@[simp] theorem dR.jL(x:dR):dR.mk x.aiK x.iN=x:=rfl
instance:Inhabited dR:=⟨.mk default default⟩
structure eU where
 ef:Int
 fI:Int
 aiJ:Int
 aiL:Bool
 Mt:Bool
@[simp] theorem eU.jL(x:eU):eU.mk x.ef x.fI x.aiJ x.aiL x.Mt=x:=rfl
instance:Inhabited eU:=⟨.mk default default default default default⟩
structure fi where
 aiL:Bool
 typed:Bool
 ef:Int
 fI:Int
 aiJ:Int
 tR:Int
 vars:Int
 aiP:Int
@[simp] theorem fi.jL(x:fi):fi.mk x.aiL x.typed x.ef x.fI x.aiJ x.tR x.vars x.aiP=x:=rfl
instance:Inhabited fi:=⟨.mk default default default default default default default default⟩
structure dY where
 aiI:Int
 base:Tm
 vars:(List Ty)
 next:Tm
@[simp] theorem dY.jL(x:dY):dY.mk x.aiI x.base x.vars x.next=x:=rfl
instance:Inhabited dY:=⟨.mk default default default default⟩
structure tw where
 term:(Option Nat)
 steps:Int
@[simp] theorem tw.jL(x:tw):tw.mk x.term x.steps=x:=rfl
structure rp where
 aiI:Int
 aiL:Int
 Mt:Ty
 aiJ:(List (Option Nat))
 size:Int
 free:Int
 normal:Bool
@[simp] theorem rp.jL(x:rp):rp.mk x.aiI x.aiL x.Mt x.aiJ x.size x.free x.normal=x:=rfl
inductive HC where
 |JV (x:tw)|FT (x:rp)
def HC.G7(l:List HC)(p:Nat):Option rp:=match l[p]?with|some (.FT x)=>some x|_=>none
def Qs(l:List HC)(p:Nat)(x:HC):List HC:=l.set p x
def lj:List Int:=[0,1,28,2,29,14,24,3,30,22,20,15,25,17,4,8,31,27,13,23,21,19,16,7,26,12,18,6,11,5,10,9]
def oa:List fi:=[⟨false,false,0,0,0,0,0,0⟩,⟨true,false,0,0,0,0,0,0⟩,⟨true,false,0,0,0,0,0,0⟩,⟨false,false,0,0,2,0,0,0⟩,⟨false,false,0,0,1,0,0,0⟩,⟨false,false,0,0,1,0,0,0⟩,⟨false,false,0,1,1,0,0,1⟩,⟨false,false,0,0,2,0,0,0⟩,⟨false,true,0,0,1,0,1,0⟩,⟨false,false,1,0,1,0,0,0⟩,⟨false,false,1,1,1,0,0,0⟩,⟨false,false,0,0,2,0,1,1⟩,⟨false,true,0,0,1,0,1,0⟩,⟨false,false,1,0,1,0,0,0⟩,⟨false,false,1,1,1,0,0,0⟩,⟨false,false,0,0,2,0,1,1⟩,⟨false,false,1,1,2,1,1,1⟩,⟨false,false,1,1,2,1,2,1⟩,⟨false,false,1,0,0,0,0,0⟩,⟨false,false,0,1,2,1,0,0⟩,⟨false,false,0,0,1,0,0,0⟩]
def p_:List Int:=[0,0,1,2,0,1,3,0,2,3,2,1,1,0]
end Go.fH
set_option maxRecDepth 20000
namespace Go.fH
open Go
def fA(a0:Int):Option Tm:=some (Tm.mk 1 a0 (Ty.mk 0 []) [])
def iS(a0:Int)(a:List Tm):Option Tm:=some (Tm.mk a0 0 (Ty.mk 0 []) a)
def gU(a0:Ty)(a:Tm):Option Tm:=some (Tm.mk 2 0 a0 [a])
def pE:Option Ty:=some (Ty.mk 2 [])
def gj:Option Ty:=some (Ty.mk 1 [])
def pA(a0:Ty)(f:List Ty):Option Ty:=eh ((Xz λ(a:Int) (v49:Int) (b:List Ty)=>if rb a 0 then dE (eb f a) λc=>some (.next ((fU .i64 a 1),4,[c,(Ty.mk v49 b)]))else some (.Jq (a,v49,b))):(Int×Int×(List Ty))->(Option (fZ (Int×Int×(List Ty)) (Ty)))) λd=>dE (oC d FU ((fU .i64 (ez f) 1),a0.aiI,a0.aiJ)) (fO (Xz λ(a:Int) (v49:Int) (b:List Ty)=>some (Ty.mk v49 b)) (λr=>some r))
def px:Option Ty:=dE (gj) λb=>dE (gj) λc=>dE (pA b [c]) λa=>some a
def me:Nat->Ty->Option (Int×Bool)
 |0,_=>none|n+1,a0=>eh (λ(v10:Int)=>if eE (ez a0.aiJ) v10 then some (0,false)else gu (eP a0.aiJ)<|eh (λ(i:Int) (c:Ty)=>(λ(a:Int)=>dS (me n c) λd f=>if f then some (.next (fl .i64 a d))else some (.ret (0,false))):Int->Ty->(Int)->(Option (fZ (Int) (Int×Bool)))) λh=>dE (eY h a0.aiJ 0 1) (fO (λ(a:Int)=>some (a,true)) (λr=>some r))) λb=>if e_ (ei a0.aiI 1) true (e_ (ei a0.aiI 2) true (ei a0.aiI 5))then b 0 else if e_ (ei a0.aiI 3) true (ei a0.aiI 4)then b 2 else some (0,false)
def iT(a0:Ty):Option (Int×Int):=dS (me FU a0) λa b=>if b then if o0 a 64 then some (0,4)else some (a,0)else some (0,2)
def rN(a0:Ty):Option Int:=dS (iT a0) λb a=>some a
def nq(a0:List Ty):Option Int:=if o0 (ez a0) 16 then some 3 else gu (eP a0)<|eh (λ(d:Int) (b:Ty)=>(λ(_:Unit)=>dE (rN b) λa=>if eE a 0 then some (.ret a)else some (.next ())):Int->Ty->(Unit)->(Option (fZ (Unit) (Int)))) λc=>dE (eY c a0 0 ()) (fO (λ(_:Unit)=>some 0) (λr=>some r))
def vD(a0:Int):Option (Int×Bool):=if e_ (sx a0 1) true (rb a0 14)then some (0,false)else dE (eb p_ a0) λa=>some (a,true)
def vT(a0:Int):Option Bool:=some (e_ (ei a0 2) true (e_ (ei a0 6) true (ei a0 9)))
def n7(a0:Ty):Option Bool:=some (e_ (ei a0.aiI 0) (ei (ez a0.aiJ) 0) false)
def jA:Nat->Tm->Option (Int×Bool)
 |0,_=>none|n+1,a0=>dS (vD a0.aiI) λl o=>if e_ o (e_ (eE (ez a0.aiJ) l) true (e_ (sx a0.aiL 0) true (e_ (eE a0.aiL 0) (eE a0.aiI 1) false))) true then some (0,false)else eh (gu (eP a0.aiJ)<|eh (λ(q:Int) (h:Tm)=>(λ(a:Int)=>dS (jA n h) λb c=>if c then some (.next (fl .i64 a b))else some (.ret (0,false))):Int->Tm->(Int)->(Option (fZ (Int) (Int×Bool)))) λd=>dE (eY d a0.aiJ 0 1) (fO (λ(a:Int)=>some (a,true)) (λr=>some r))) λf=>dE (vT a0.aiI) λi=>if i then dS (iT a0.dM) λs j=>if eE j 0 then some (0,false)else f else dE (n7 a0.dM) λk=>if k then f else some (0,false)
def ki(a0:Tm):Option (Int×Int):=dS (jA FU a0) λa b=>if b then if o0 a 4096 then some (0,4)else some (a,0)else some (0,2)
def o8(a0:Tm):Option Int:=dS (ki a0) λb a=>some a
def mC(a0:Ty):Option dK:=dS (iT a0) λa b=>some (dK.mk a0 a)
def mV(a0:List Ty):Option (List dK):=gu (eP a0)<|eh (λ(d:Int) (b:Ty)=>(λ(v40:List dK)=>dE (mC b) λa=>gu (fL v40 [a])<|some (.next (fT v40 [a]))):Int->Ty->(List dK)->(Option (fZ (List dK) (List dK)))) λc=>dE (eY c a0 0 []) (fO (λ(v40:List dK)=>some v40) (λr=>some r))
def rM(a0:Int)(a a2:dK):Option (dK×Int):=if o0 (fl .i64 (fl .i64 1 a.aiK) a2.aiK) 64 then some ((dK.mk (Ty.mk 0 []) 0),4)else some ((dK.mk (Ty.mk a0 [a.dM,a2.dM]) (fl .i64 (fl .i64 1 a.aiK) a2.aiK)),0)
def jF(a0:Int):Option (List Int):=if ei a0 4 then some [1] else if ei a0 5 then some [1,1] else if ei a0 7 then some [2] else if ei a0 8 then some [2,1,2] else if ei a0 13 then some [5] else some []
def iV(a0:dK)(a:Int):Option Bool:=some (ei a0.dM.aiI a)
def ji(a0:dK)(a:Int):Option dK:=dE (eb a0.dM.aiJ a) λb=>dE (mC b) λc=>some c
def gD:Nat->Ty->Ty->Option Bool
 |0,_,_=>none|n+1,a0,c=>if e_ (eE a0.aiI c.aiI) true (eE (ez a0.aiJ) (ez c.aiJ))then some false else gu (eP a0.aiJ)<|eh (λ(d:Int) (f:Ty)=>(λ(_:Unit)=>dE (eb c.aiJ d) λa=>dE (gD n f a) λb=>if b then some (.next ())else some (.ret false)):Int->Ty->(Unit)->(Option (fZ (Unit) (Bool)))) λh=>dE (eY h a0.aiJ 0 ()) (fO (λ(_:Unit)=>some true) (λr=>some r))
def ka(a0 a:dK):Option Bool:=eh (λ(v6:Bool)=>some v6) λb=>if ei a0.aiK a.aiK then dE (gD FU a0.dM a.dM) λc=>b c else b false
def ph:Option Ty:=some (Ty.mk 1 [])
def A_:Option Ty:=some (Ty.mk 2 [])
def tN(a0:Ty)(f:List Ty):Option Ty:=eh ((Xz λ(a:Int) (v49:Int) (b:List Ty)=>if rb a 0 then dE (eb f a) λc=>some (.next ((fU .i64 a 1),4,[c,(Ty.mk v49 b)]))else some (.Jq (a,v49,b))):(Int×Int×(List Ty))->(Option (fZ (Int×Int×(List Ty)) (Ty)))) λd=>dE (oC d FU ((fU .i64 (ez f) 1),a0.aiI,a0.aiJ)) (fO (Xz λ(a:Int) (v49:Int) (b:List Ty)=>some (Ty.mk v49 b)) (λr=>some r))
def pw(a0:Tm):Option Ty:=if ei a0.aiI 9 then dE (ph) λa=>dE (A_) λb=>dE (tN a0.dM [a,b,a0.dM]) λc=>some c else dE (ph) λd=>dE (tN a0.dM [d,a0.dM]) λf=>some f
def gf(a0:Tm)(a:dK×dK×dK):Option (dK×Int):=dE (jF a0.aiI) λb=>if o0 (ez b) 0 then dE (Ag b 1 (ez b)) λi=>gu (eP i)<|eh (λ(c:Int) (d:Int)=>(λ(_:Unit)=>eh (λ(v222:Bool)=>if v222 then some (.ret ((dK.mk (Ty.mk 0 []) 0),7))else some (.next ())) λf=>if ei c 0 then dE (iV a.1 d) λl=>f (mS l)else if ei c 1 then dE (iV a.2.1 d) λn=>f (mS n)else gu (ei c 2)<|dE (iV a.2.2 d) λo=>f (mS o)):Int->Int->(Unit)->(Option (fZ (Unit) (dK×Int)))) λq=>dE (eY q i 0 ()) (fO (λ(_:Unit)=>dE (eb b 0) λs=>dE (mC (Ty.mk s [])) λt=>some (t,0)) (λr=>some r))else if ei a0.aiI 3 then eh (λ(u:Bool)=>if u then some ((dK.mk (Ty.mk 0 []) 0),7)else dE (ji a.1 1) λv=>some (v,0)) λj=>dE (iV a.1 4) λw=>if w then dE (ji a.1 0) λx=>dE (ka x a.2.1) λy=>j (mS y)else j true else if e_ (ei a0.aiI 6) true (ei a0.aiI 9)then dE (mC a0.dM) λk=>eh (λ(A:Bool)=>if A then some ((dK.mk (Ty.mk 0 []) 0),7)else some (k,0)) λh=>dE (ka a.1 k) λB=>if B then dE (pw a0) λC=>dE (gD FU a.2.1.dM C) λD=>if D then dE (iV a.2.2 (e_ (ei a0.aiI 9) 2 1)) λF=>h (mS F)else h true else h true else if ei a0.aiI 10 then dS (rM 3 a.1 a.2.1) λG H=>some (G,H)else dE (iV a.1 3) λI=>if I then if ei a0.aiI 11 then dE (ji a.1 0) λJ=>some (J,0)else dE (ji a.1 1) λK=>some (K,0)else some ((dK.mk (Ty.mk 0 []) 0),7)
def eM:Nat->(List dK)->Tm->Option (dK×Int)
 |0,_,_=>none|n+1,a0,l=>if ei l.aiI 1 then if rb l.aiL (ez a0)then some ((dK.mk (Ty.mk 0 []) 0),6)else dE (eb a0 (fU .i64 (fU .i64 (ez a0) 1) l.aiL)) λM=>some (M,0)else if ei l.aiI 2 then dE (mC l.dM) λq=>gu (fL a0 [q])<|dE (eb l.aiJ 0) λI=>dS (eM n (fT a0 [q]) I) λJ s=>if eE s 0 then some ((dK.mk (Ty.mk 0 []) 0),s)else dS (rM 4 q J) λK L=>some (K,L)else gu (eP l.aiJ)<|eh (λ(k:Int) (t:Tm)=>(un9 λ(b:Int) (c:List Ty) (v218:Int) (d:Int) (f:List Ty) (h:Int) (v222:Int) (i:List Ty) (j:Int)=>eh (λ(u:Int) (v:List Ty) (w:Int) (x:Int) (y:List Ty) (A:Int) (B:Int) (C:List Ty) (D:Int)=>some (.next (u,v,w,x,y,A,B,C,D))) λj250=>dS (eM n a0 t) λa o=>if eE o 0 then some (.ret ((dK.mk (Ty.mk 0 []) 0),o))else if ei k 0 then j250 a.dM.aiI a.dM.aiJ a.aiK d f h v222 i j else if ei k 1 then j250 b c v218 a.dM.aiI a.dM.aiJ a.aiK v222 i j else gu (ei k 2)<|j250 b c v218 d f h a.dM.aiI a.dM.aiJ a.aiK):Int->Tm->(Int×(List Ty)×Int×Int×(List Ty)×Int×Int×(List Ty)×Int)->(Option (fZ (Int×(List Ty)×Int×Int×(List Ty)×Int×Int×(List Ty)×Int) (dK×Int)))) λF=>dE (eY F l.aiJ 0 (0,[],0,0,[],0,0,[],0)) (fO (un9 λ(b:Int) (c:List Ty) (v218:Int) (d:Int) (f:List Ty) (h:Int) (v222:Int) (i:List Ty) (j:Int)=>dS (gf l ((dK.mk (Ty.mk b c) v218),(dK.mk (Ty.mk d f) h),(dK.mk (Ty.mk v222 i) j))) λG H=>some (G,H)) (λr=>some r))
def j8:Nat->Ty->Option Ty
 |0,_=>none|n+1,a0=>gu (eP a0.aiJ)<|eh (λ(f:Int) (c:Ty)=>(λ(a:List Ty)=>dE (j8 n c) λb=>gu (fL a [b])<|some (.next (fT a [b]))):Int->Ty->(List Ty)->(Option (fZ (List Ty) (Ty)))) λd=>dE (eY d a0.aiJ 0 []) (fO (λ(a:List Ty)=>some (Ty.mk a0.aiI a)) (λr=>some r))
def sm(a0:List Ty)(h:Tm):Option (Ty×Int):=dE (nq a0) λi=>if eE i 0 then some ((Ty.mk 0 []),i)else dE (o8 h) λa=>if eE a 0 then some ((Ty.mk 0 []),a)else dE (mV a0) λc=>dS (eM FU c h) λd b=>if eE b 0 then some ((Ty.mk 0 []),b)else dE (j8 FU d.dM) λf=>some (f,0)
def yB(a0 a:Ty):Option Bool:=dE (gD FU a0 a) λb=>some b
def iB(a0:Tm)(d:Ty):Option Int:=dS (sm [] a0) λf c=>eh (λ(v21:Bool)=>if v21 then some 7 else some c) λa=>if ei c 0 then dE (yB f d) λb=>a (mS b)else a false
def iy(a0:Int):Option (Fm×Pf×Int):=some ((Fm.mk 0 (Ty.mk 0 []) [] []),(Pf.mk 0 0 (Ty.mk 0 []) [] [] []),a0)
def E1(a0:Int):Option Tm:=some (Tm.mk 1 a0 (Ty.mk 0 []) [])
def eX(a0:Int):Option Tm:=dE (E1 a0) λa=>some a
def kl(a0:Int)(a:List Tm):Option Tm:=some (Tm.mk a0 0 (Ty.mk 0 []) a)
def gN(a0:Tm)(j:List Tm):Option Tm:=gu (eP j)<|eh (λ(k:Int) (h:Tm)=>(un5 λ(b:Int) (c:Int) (v46:Int) (d:List Ty) (f:List Tm)=>dE (kl 3 [(Tm.mk b c (Ty.mk v46 d) f),h]) λa=>some (.next (a.aiI,a.aiL,a.dM.aiI,a.dM.aiJ,a.aiJ))):Int->Tm->(Int×Int×Int×(List Ty)×(List Tm))->(Option (fZ (Int×Int×Int×(List Ty)×(List Tm)) (Tm)))) λi=>dE (eY i j 0 (a0.aiI,a0.aiL,a0.dM.aiI,a0.dM.aiJ,a0.aiJ)) (fO (un5 λ(b:Int) (c:Int) (v46:Int) (d:List Ty) (f:List Tm)=>some (Tm.mk b c (Ty.mk v46 d) f)) (λr=>some r))
def kS:Nat->Tm->Int->Int->Option Tm
 |0,_,_,_=>none|n+1,a0,c,a2=>if ei a2 0 then some a0 else if ei a0.aiI 1 then some (Tm.mk a0.aiI (e_ (rb a0.aiL c) (fl .i64 a0.aiL a2) a0.aiL) a0.dM a0.aiJ)else gu (eP a0.aiJ)<|eh (λ(h:Int) (d:Tm)=>(λ(a:List Tm)=>dE (kS n d (e_ (ei a0.aiI 2) (fl .i64 c 1) c) a2) λb=>gu (fL a [b])<|some (.next (fT a [b]))):Int->Tm->(List Tm)->(Option (fZ (List Tm) (Tm)))) λf=>dE (eY f a0.aiJ 0 []) (fO (λ(a:List Tm)=>some (Tm.mk a0.aiI a0.aiL a0.dM a)) (λr=>some r))
def mD(a0 a:Tm):Option Fm:=some (Fm.mk 1 (Ty.mk 0 []) [a0,a] [])
def pG(a0:Int)(a:Ty)(a2:Fm):Option Fm:=some (Fm.mk a0 a [] [a2])
def eR(a0:Tm):Option Fm:=dE (gj) λa=>dE (eX 0) λb=>dE (kS FU a0 0 1) λc=>dE (mD b c) λd=>dE (pG 5 a d) λf=>some f
def kv(a0:Tm):Option Pf:=some (Pf.mk 18 0 (Ty.mk 0 []) [a0] [] [])
def jH(a0:Fm)(a:Tm)(a2:Pf):Option Pf:=some (Pf.mk 10 0 (Ty.mk 0 []) [a] [a0] [a2])
def o5(a0:Ty)(a:Pf):Option Pf:=some (Pf.mk 8 0 a0 [] [] [a])
def rv(a0:Fm):Option Bool:=eh (λ(v10:Int) (v11:Int) (v12:Bool)=>eh (some (e_ (ei (ez a0.ef) v10) (ei (ez a0.aiJ) v11) false)) λb=>if v12 then dS (iT a0.dM) λf c=>if eE c 0 then some false else b else dE (n7 a0.dM) λd=>if d then b else some false) λa=>if ei a0.aiI 1 then a 2 0 false else if e_ (ei a0.aiI 2) true (ei a0.aiI 3)then a 0 2 false else if e_ (ei a0.aiI 4) true (e_ (ei a0.aiI 5) true (e_ (ei a0.aiI 6) true (ei a0.aiI 7)))then a 0 1 true else some false
def jg:Nat->Fm->Option (Int×Bool)
 |0,_=>none|n+1,a0=>dE (rv a0) λo=>if o then gu (eP a0.ef)<|eh (λ(q:Int) (h:Tm)=>(λ(v72:Int)=>dS (jA FU h) λi j=>if j then some (.next (fl .i64 v72 i))else some (.ret (0,false))):Int->Tm->(Int)->(Option (fZ (Int) (Int×Bool)))) λk=>dE (eY k a0.ef 0 1) (fO (λ(v72:Int)=>gu (eP a0.aiJ)<|eh (λ(l:Int) (b:Fm)=>(λ(a:Int)=>dS (jg n b) λc d=>if d then some (.next (fl .i64 a c))else some (.ret (0,false))):Int->Fm->(Int)->(Option (fZ (Int) (Int×Bool)))) λf=>dE (eY f a0.aiJ 0 v72) (fO (λ(a:Int)=>some (a,true)) (λr=>some r))) (λr=>some r))else some (0,false)
def iK(a0:Fm):Option (Int×Int):=dS (jg FU a0) λa b=>if b then if o0 a 4096 then some (0,4)else some (a,0)else some (0,2)
def j2(a0:Fm):Option Int:=dS (iK a0) λb a=>some a
def pF(a0:Int):Option (fi×Bool):=if e_ (sx a0 1) true (rb a0 21)then some ((fi.mk false false 0 0 0 0 0 0),false)else dE (eb oa a0) λa=>some (a,true)
def hB(a0:dR)(a a2:Int):Option (Bool×dR):=some ((eE a2 2),(e_ a0.iN (dR.mk (fl .i64 a0.aiK a) true) (dR.mk (fl .i64 a0.aiK a) (ei a2 4))))
def iz:Nat->dR->Pf->Option (Bool×dR)
 |0,_,_=>none|n+1,a0,a=>dS (pF a.aiI) λf H=>if e_ H (e_ (sx a.aiL 0) true (e_ (eE a.aiL 0) (e_ f.aiL (e_ (eE (ez a.ef) f.ef) true (e_ (eE (ez a.fI) f.fI) true (eE (ez a.aiJ) f.aiJ))) true) (e_ (eE (ez a.ef) f.ef) true (e_ (eE (ez a.fI) f.fI) true (eE (ez a.aiJ) f.aiJ))))) true then some (false,a0)else eh (λ(A:dR)=>gu (eP a.ef)<|eh (λ(I:Int) (B:Tm)=>(λ(b:dR)=>dS (ki B) λi j=>dS (hB b i j) λk d179=>if k then some (.next d179)else some (.ret (false,d179))):Int->Tm->(dR)->(Option (fZ (dR) (Bool×dR)))) λl=>dE (eY l a.ef 0 A) (fO (λ(b:dR)=>gu (eP a.fI)<|eh (λ(F:Int) (o:Fm)=>(λ(c:dR)=>dS (iK o) λq s=>dS (hB c q s) λt d322=>if t then some (.next d322)else some (.ret (false,d322))):Int->Fm->(dR)->(Option (fZ (dR) (Bool×dR)))) λu=>dE (eY u a.fI 0 b) (fO (λ(c:dR)=>gu (eP a.aiJ)<|eh (λ(G:Int) (v:Pf)=>(λ(d:dR)=>dS (iz n d v) λw h=>if w then some (.next h)else some (.ret (false,h))):Int->Pf->(dR)->(Option (fZ (dR) (Bool×dR)))) λx=>dE (eY x a.aiJ 0 c) (fO (λ(d:dR)=>some (true,d)) (λr=>some r))) (λr=>some r))) (λr=>some r))) λy=>if f.typed then dS (iT a.dM) λJ C=>if eE C 0 then some (false,(dR.mk (fl .i64 a0.aiK 1) a0.iN))else y (dR.mk (fl .i64 a0.aiK 1) a0.iN)else dE (n7 a.dM) λD=>if D then y (dR.mk (fl .i64 a0.aiK 1) a0.iN)else some (false,(dR.mk (fl .i64 a0.aiK 1) a0.iN))
def qW(a0:Pf):Option (Int×Int):=dS (iz FU (dR.mk 0 false) a0) λa d14=>if a then if e_ d14.iN true (o0 d14.aiK 16384)then some (0,4)else some (d14.aiK,0)else some (0,2)
def rz(a0:Pf):Option Int:=dS (qW a0) λb a=>some a
def gT(a0:Fm)(c:Pf):Option (Fm×Pf×Int):=dE (j2 a0) λd=>eh (λ(v10:Int)=>if eE v10 0 then some ((Fm.mk 0 (Ty.mk 0 []) [] []),(Pf.mk 0 0 (Ty.mk 0 []) [] [] []),4)else some (a0,c,0)) λa=>if ei d 0 then dE (rz c) λb=>a b else a d
def lu(a0:Tm):Option (Fm×Pf×Int):=dE (px) λr=>dE (iB a0 r) λb=>if eE b 0 then fE (iy b) λs t u=>some (s,t,u)else dE (eX 0) λv=>dE (gN a0 [v]) λa=>dE (gj) λc=>dE (eR a) λd=>dE (pG 4 c d) λf=>dE (gj) λh=>dE (eR a) λi=>dE (kv a) λj=>dE (jH i a j) λk=>dE (o5 h k) λl=>fE (gT f l) λn o q=>some (n,o,q)
def kp(a0:List dK)(b:List Ty):Option (List dK):=dE (mV b) λa=>gu (fL a0 a)<|some (fT a0 a)
def mi(a0:List dK)(d:Tm)(a2:Int):Option Int:=dS (eM FU a0 d) λf c=>eh (λ(v21:Bool)=>if v21 then some 7 else some c) λa=>if ei c 0 then dE (iV f a2) λb=>a (mS b)else a false
def iH(a0:List dK)(a:Tm):Option Int:=dE (mi a0 a 1) λb=>some b
def fB:Nat->(List dK)->Fm->Option Int
 |0,_,_=>none|n+1,a0,a=>eh (λ(h:List dK)=>gu (eP a.aiJ)<|eh (λ(q:Int) (i:Fm)=>(λ(_:Unit)=>dE (fB n h i) λb=>if eE b 0 then some (.ret b)else some (.next ())):Int->Fm->(Unit)->(Option (fZ (Unit) (Int)))) λj=>dE (eY j a.aiJ 0 ()) (fO (λ(_:Unit)=>some 0) (λr=>some r))) λc=>eh (dE (kp a0 [a.dM]) λk=>c k) λd=>if e_ (ei a.aiI 4) true (ei a.aiI 5)then d else if e_ (ei a.aiI 6) true (ei a.aiI 7)then d else if e_ (ei a.aiI 2) true (ei a.aiI 3)then c a0 else gu (eP a.ef)<|eh (λ(s:Int) (l:Tm)=>(λ(_:Unit)=>dE (iH a0 l) λf=>if eE f 0 then some (.ret f)else some (.next ())):Int->Tm->(Unit)->(Option (fZ (Unit) (Int)))) λo=>dE (eY o a.ef 0 ()) (fO (λ(_:Unit)=>some 0) (λr=>some r))
def tx(a0:List Ty)(d:Fm):Option Int:=dE (nq a0) λf=>if eE f 0 then some f else dE (j2 d) λa=>if eE a 0 then some a else dE (mV a0) λb=>dE (fB FU b d) λc=>some c
def si(a0:List Fm)(a:Sq):Option Int:=if o0 (ez a0) 32 then some 3 else gu (eP a0)<|eh (λ(k:Int) (f:Fm)=>(λ(_:Unit)=>dE (tx [] f) λb=>if eE b 0 then some (.ret b)else some (.next ())):Int->Fm->(Unit)->(Option (fZ (Unit) (Int)))) λh=>dE (eY h a0 0 ()) (fO (λ(_:Unit)=>dE (nq a.aiM) λc=>if eE c 0 then some c else if o0 (ez a.aiP) 16 then some 3 else gu (eP a.aiP)<|eh (λ(l:Int) (i:Fm)=>(λ(_:Unit)=>dE (tx a.aiM i) λd=>if eE d 0 then some (.ret d)else some (.next ())):Int->Fm->(Unit)->(Option (fZ (Unit) (Int)))) λj=>dE (eY j a.aiP 0 ()) (fO (λ(_:Unit)=>some 0) (λr=>some r))) (λr=>some r))
def yl:Option Unit:=some ()
def r7(a0:d_)(a:Fm):Option d_:=gu (fL a0.known [(ec.mk a a0.my.vars)])<|some (d_.mk (eA.mk a0.my.vars (fl .i64 a0.my.aiP 1)) a0.aiM (fT a0.known [(ec.mk a a0.my.vars)]))
def uT(a0:Sq):Option d_:=dE (mV a0.aiM) λi=>gu (eP a0.aiP)<|eh (λ(j:Int) (f:Fm)=>(un4 λ(b:Int) (v46:Int) (c:List dK) (d:List ec)=>dE (r7 (d_.mk (eA.mk b v46) c d) f) λa=>some (.next (a.my.vars,a.my.aiP,a.aiM,a.known))):Int->Fm->(Int×Int×(List dK)×(List ec))->(Option (fZ (Int×Int×(List dK)×(List ec)) (d_)))) λh=>dE (eY h a0.aiP 0 ((ez a0.aiM),0,i,[])) (fO (un4 λ(b:Int) (v46:Int) (c:List dK) (d:List ec)=>some (d_.mk (eA.mk b v46) c d)) (λr=>some r))
def ou(a0:eA)(a a2:Int):Option Int:=if e_ (o0 (fl .i64 a0.vars a) 16) true (o0 (fl .i64 a0.aiP a2) 16)then some 3 else some 0
def mf(a0:d_)(a:List Ty):Option d_:=dE (kp a0.aiM a) λb=>some (d_.mk (eA.mk (fl .i64 a0.my.vars (ez a)) a0.my.aiP) b a0.known)
def oD(a0:Int)(a:Ty)(a2:Fm):Option Fm:=some (Fm.mk a0 a [] [a2])
def jR(a0 a:Int):Option Int:=gu (Li a)<|some (Vr .u32 a0 a)
def nx(a0 b a:Int):Option Int:=if rb a0 b then gu (Li (fU .i64 a0 b))<|some (JU .u32 a (Ve .u32 1 (fU .i64 a0 b)))else some a
def k8{S:Type}:Nat->Tm->Int->(S->Int->Int->Option S)->S->Option S
 |0,_,_,_,_=>none|n+1,a0,b,a,vK=>eh (λ(v6:S)=>gu (eP a0.aiJ)<|eh (λ(i:Int) (c:Tm)=>(λ(v28:S)=>dE (k8 n c (e_ (ei a0.aiI 2) (fl .i64 b 1) b) a v28) λd=>some (.next d)):Int->Tm->(S)->(Option (fZ (S) (S)))) λf=>dE (eY f a0.aiJ 0 v6) (fO (λ(v28:S)=>some v28) (λr=>some r))) λh=>if ei a0.aiI 1 then dE (a vK a0.aiL b) λj=>h j else h vK
def vl{S:Type}(a0:Tm)(a:(S->Int->Int->Option S))(vK:S):Option S:=dE (k8 FU a0 0 a vK) λs1=>some s1
def tO(a0:Tm):Option Int:=dE (vl a0 (λ(s:Int) (a:Int) (b:Int)=>nx a b s) 0) λc=>some c
def pt(a0:Tm):Option Int:=some 0
def mX(a0:dK)(c:Ty):Option Bool:=dE (mC c) λa=>dE (ka a0 a) λb=>some b
def og(a0 c b a:Int):Option Int:=if ei (fU .i64 a0 c) b then some (fl .i64 a 1)else some a
def s7(a0:Tm)(a:Int):Option Int:=dE (vl a0 (λ(s:Int) (b:Int) (c:Int)=>og b c a s) 0) λd=>some d
def jf(a0:Tm)(c a b:Int):Option Int:=dE (s7 a0 (fl .i64 b c)) λd=>some (fl .i64 a d)
def mH(a0:Int):Option Bool:=some (e_ (rb a0 4) (XA a0 7) false)
def l0{S:Type}:Nat->Fm->Int->(S->Tm->Int->Option S)->S->Option S
 |0,_,_,_,_=>none|n+1,a0,c,a2,vK=>gu (eP a0.ef)<|eh (λ(o:Int) (d:Tm)=>(λ(a:S)=>dE (a2 a d c) λf=>some (.next f)):Int->Tm->(S)->(Option (fZ (S) (S)))) λh=>dE (eY h a0.ef 0 vK) (fO (λ(a:S)=>eh (λ(v51:Int)=>gu (eP a0.aiJ)<|eh (λ(q:Int) (i:Fm)=>(λ(v72:S)=>dE (l0 n i v51 a2 v72) λj=>some (.next j)):Int->Fm->(S)->(Option (fZ (S) (S)))) λk=>dE (eY k a0.aiJ 0 a) (fO (λ(v72:S)=>some v72) (λr=>some r))) λb=>dE (mH a0.aiI) λl=>if l then b (fl .i64 c 1)else b c) (λr=>some r))
def m_(a0:Fm)(a:Int):Option Int:=dE (l0 FU a0 0 (λ(s:Int) (b:Tm) (c:Int)=>jf b c s a) 0) λd=>some d
def lN(a0:Int):Option Tm:=some (Tm.mk 1 a0 (Ty.mk 0 []) [])
def tL(a0 c a b:Int):Option Tm:=dE (lN (e_ (rb (fU .i64 a0 c) a) (fl .i64 a0 b) a0)) λd=>some d
def hO{S:Type}:Nat->Tm->Int->(S->Int->Int->Option (Tm×S))->S->Option (Tm×S)
 |0,_,_,_,_=>none|n+1,a0,h,c,vK=>if ei a0.aiI 1 then dS (c vK a0.aiL h) λi j=>some (i,j)else dE (j8 FU a0.dM) λk=>gu (eP a0.aiJ)<|eh (λ(o:Int) (l:Tm)=>(zU λ(a:List Tm) (v107:S)=>dS (hO n l (e_ (ei a0.aiI 2) (fl .i64 h 1) h) c v107) λb d=>gu (fL a [b])<|some (.next ((fT a [b]),d))):Int->Tm->((List Tm)×S)->(Option (fZ ((List Tm)×S) (Tm×S)))) λf=>dE (eY f a0.aiJ 0 ([],vK)) (fO (zU λ(a:List Tm) (v107:S)=>some ((Tm.mk a0.aiI a0.aiL k a),v107)) (λr=>some r))
def pZ{S:Type}(a0:Tm)(a:(S->Int->Int->Option (Tm×S)))(vK:S):Option (Tm×S):=dS (hO FU a0 0 a vK) λb c=>some (b,c)
def td(a0:Tm)(a a2:Int):Option Tm:=dS (pZ a0 (λ(s:Unit) (b:Int) (c:Int)=>qy (tL b c a a2) s) ()) λd f=>some d
def n_(a0 b a:Int)(c:Tm):Option Tm:=if ei (fU .i64 a0 b) a then dE (td c 0 (fl .i64 a b)) λd=>some d else if o0 (fU .i64 a0 b) a then dE (lN (fU .i64 a0 1)) λf=>some f else dE (lN a0) λh=>some h
def Aa(a0:Tm)(a:Int)(a2:Tm):Option Tm:=dS (pZ a0 (λ(s:Unit) (b:Int) (c:Int)=>qy (n_ b c a a2) s) ()) λd f=>some d
def iI(a0:Tm)(c a:Int)(b:Tm):Option Tm:=dE (Aa a0 (fl .i64 a c) b) λd=>some d
def fq{S:Type}:Nat->Fm->Int->(S->Tm->Int->Option (Tm×S))->S->Option (Fm×S)
 |0,_,_,_,_=>none|n+1,a0,q,a2,vK=>dE (j8 FU a0.dM) λv=>gu (eP a0.ef)<|eh (λ(w:Int) (s:Tm)=>(zU λ(v91:List Tm) (f:S)=>dS (a2 f s q) λb h=>gu (fL v91 [b])<|some (.next ((fT v91 [b]),h))):Int->Tm->((List Tm)×S)->(Option (fZ ((List Tm)×S) (Fm×S)))) λt=>dE (eY t a0.ef 0 ([],vK)) (fO (zU λ(v91:List Tm) (f:S)=>eh (λ(i:Int)=>gu (eP a0.aiJ)<|eh (λ(u:Int) (j:Fm)=>(zU λ(a:List Fm) (v212:S)=>dS (fq n j i a2 v212) λc k=>gu (fL a [c])<|some (.next ((fT a [c]),k))):Int->Fm->((List Fm)×S)->(Option (fZ ((List Fm)×S) (Fm×S)))) λl=>dE (eY l a0.aiJ 0 ([],f)) (fO (zU λ(a:List Fm) (v212:S)=>some ((Fm.mk a0.aiI v v91 a),v212)) (λr=>some r))) λd=>dE (mH a0.aiI) λo=>if o then d (fl .i64 q 1)else d q) (λr=>some r))
def oG(a0:Fm)(a:Int)(a2:Tm):Option Fm:=dS (fq FU a0 0 (λ(s:Unit) (b:Tm) (c:Int)=>qy (iI b c a a2) s) ()) λd f=>some d
def vI(a0:Fm)(d:Tm):Option (Fm×Int):=dS (iK a0) λf i=>dS (ki d) λa h=>dE (m_ a0 0) λb=>if o0 (fl .i64 f (Sz .i64 b (fU .i64 a 1))) 4096 then some ((Fm.mk 0 (Ty.mk 0 []) [] []),4)else dE (oG a0 0 d) λc=>some (c,0)
def iW:Nat->Tm->Tm->Option Bool
 |0,_,_=>none|n+1,a0,b=>eh (λ(f:Bool)=>if f then some false else gu (eP a0.aiJ)<|eh (λ(h:Int) (i:Tm)=>(λ(_:Unit)=>dE (eb b.aiJ h) λc=>dE (iW n i c) λd=>if d then some (.next ())else some (.ret false)):Int->Tm->(Unit)->(Option (fZ (Unit) (Bool)))) λj=>dE (eY j a0.aiJ 0 ()) (fO (λ(_:Unit)=>some true) (λr=>some r))) λa=>if eE a0.aiI b.aiI then a true else if eE a0.aiL b.aiL then a true else dE (gD FU a0.dM b.dM) λk=>if k then a (eE (ez a0.aiJ) (ez b.aiJ))else a true
def rk(a0 a:Tm):Option Bool:=dE (iW FU a0 a) λb=>some b
def Ca(a0:Tm)(a:Int):Option (Tm×Int×Int):=none
def pV(a0 d:Tm)(a2:Int):Option Int:=dE (o8 a0) λk=>if eE k 0 then some k else dE (o8 d) λa=>if eE a 0 then some a else dE (rk a0 d) λf=>if f then some 0 else fE (Ca a0 a2) λh l b=>if eE b 0 then some b else fE (Ca d a2) λi n c=>if eE c 0 then some c else dE (rk h i) λj=>if j then some 0 else some 11
def l6:Nat->Fm->Fm->Option Int
 |0,_,_=>none|n+1,a0,k=>eh (λ(l:Bool)=>if l then some 11 else gu (eP a0.ef)<|eh (λ(o:Int) (q:Tm)=>(λ(_:Unit)=>dE (eb k.ef o) λc=>dE (pV q c 1000) λa=>if eE a 0 then some (.ret a)else some (.next ())):Int->Tm->(Unit)->(Option (fZ (Unit) (Int)))) λs=>dE (eY s a0.ef 0 ()) (fO (λ(_:Unit)=>gu (eP a0.aiJ)<|eh (λ(d:Int) (f:Fm)=>(λ(_:Unit)=>dE (eb k.aiJ d) λh=>dE (l6 n f h) λb=>if eE b 0 then some (.ret b)else some (.next ())):Int->Fm->(Unit)->(Option (fZ (Unit) (Int)))) λi=>dE (eY i a0.aiJ 0 ()) (fO (λ(_:Unit)=>some 0) (λr=>some r))) (λr=>some r))) λj=>if eE a0.aiI k.aiI then j true else dE (gD FU a0.dM k.dM) λt=>j (mS t)
def np(a0 c:Fm):Option Int:=dE (j2 a0) λd=>if eE d 0 then some d else dE (j2 c) λa=>if eE a 0 then some a else dE (l6 FU a0 c) λb=>some b
def qJ(a0 a:Tm):Option Fm:=some (Fm.mk 1 (Ty.mk 0 []) [a0,a] [])
def kq(a0:List Fm)(d:Pf)(a2:d_):Option (dV×Int):=dE (eb d.ef 0) λb=>dE (iH a2.aiM b) λa=>if eE a 0 then some ((dV.mk (Fm.mk 0 (Ty.mk 0 []) [] []) 0),a)else dE (qJ b b) λc=>some ((dV.mk c 0),0)
def tY(a0:Bool):Option (Int×Int):=if a0 then some (4,3)else some (5,2)
def w7(a0:Int)(a:List Tm):Option Tm:=some (Tm.mk a0 0 (Ty.mk 0 []) a)
def vP(a0:Tm)(j:List Ty):Option Tm:=eh ((Ts λ(a:Int) (b:Int) (v59:Int) (c:Int) (d:List Ty) (f:List Tm)=>if rb a 0 then dE (eb j a) λh=>some (.next ((fU .i64 a 1),2,0,h.aiI,h.aiJ,[(Tm.mk b v59 (Ty.mk c d) f)]))else some (.Jq (a,b,v59,c,d,f))):(Int×Int×Int×Int×(List Ty)×(List Tm))->(Option (fZ (Int×Int×Int×Int×(List Ty)×(List Tm)) (Tm)))) λi=>dE (oC i FU ((fU .i64 (ez j) 1),a0.aiI,a0.aiL,a0.dM.aiI,a0.dM.aiJ,a0.aiJ)) (fO (Ts λ(a:Int) (b:Int) (v59:Int) (c:Int) (d:List Ty) (f:List Tm)=>some (Tm.mk b v59 (Ty.mk c d) f)) (λr=>some r))
def Ak(a0:Int)(a:Ty)(a2 a3 a4:Tm):Option Tm:=some (Tm.mk a0 0 a [a2,a3,a4])
def mB(a0 h a2:Tm):Option Tm:=dE (ph) λa=>dE (ph) λb=>dE (ph) λc=>dE (vP h [b,c]) λd=>dE (Ak 6 a a0 d a2) λf=>some f
def vQ:Option Tm:=dE (w7 4 []) λa=>dE (lN 1) λb=>dE (lN 0) λc=>dE (mB a b c) λd=>dE (ph) λf=>dE (vP d [f]) λh=>some h
def xF(a0:Tm)(j:List Tm):Option Tm:=gu (eP j)<|eh (λ(k:Int) (h:Tm)=>(un5 λ(b:Int) (c:Int) (v46:Int) (d:List Ty) (f:List Tm)=>dE (w7 3 [(Tm.mk b c (Ty.mk v46 d) f),h]) λa=>some (.next (a.aiI,a.aiL,a.dM.aiI,a.dM.aiJ,a.aiJ))):Int->Tm->(Int×Int×Int×(List Ty)×(List Tm))->(Option (fZ (Int×Int×Int×(List Ty)×(List Tm)) (Tm)))) λi=>dE (eY i j 0 (a0.aiI,a0.aiL,a0.dM.aiI,a0.dM.aiJ,a0.aiJ)) (fO (un5 λ(b:Int) (c:Int) (v46:Int) (d:List Ty) (f:List Tm)=>some (Tm.mk b c (Ty.mk v46 d) f)) (λr=>some r))
def Bf(a0:Tm):Option Tm:=dE (ph) λa=>dE (ph) λb=>dE (vP a0 [a,b]) λc=>some c
def xQ:Option Tm:=dE (lN 1) λa=>dE (vQ) λb=>dE (lN 0) λc=>dE (xF b [c]) λd=>dE (lN 0) λf=>dE (mB a d f) λh=>dE (Bf h) λi=>some i
def vL(a0 h:Tm):Option Fm:=dE (xQ) λa=>dE (w7 5 [a0]) λb=>dE (xF a [b,h]) λc=>dE (w7 4 []) λd=>dE (qJ c d) λf=>some f
def kM:Nat->Fm->Fm->Option Bool
 |0,_,_=>none|n+1,a0,b=>eh (λ(l:Bool)=>if l then some false else gu (eP a0.ef)<|eh (λ(o:Int) (q:Tm)=>(λ(_:Unit)=>dE (eb b.ef o) λc=>dE (iW FU q c) λd=>if d then some (.next ())else some (.ret false)):Int->Tm->(Unit)->(Option (fZ (Unit) (Bool)))) λs=>dE (eY s a0.ef 0 ()) (fO (λ(_:Unit)=>gu (eP a0.aiJ)<|eh (λ(f:Int) (h:Fm)=>(λ(_:Unit)=>dE (eb b.aiJ f) λi=>dE (kM n h i) λj=>if j then some (.next ())else some (.ret false)):Int->Fm->(Unit)->(Option (fZ (Unit) (Bool)))) λk=>dE (eY k a0.aiJ 0 ()) (fO (λ(_:Unit)=>some true) (λr=>some r))) (λr=>some r))) λa=>if eE a0.aiI b.aiI then a true else dE (gD FU a0.dM b.dM) λt=>if t then if eE (ez a0.ef) (ez b.ef)then a true else a (eE (ez a0.aiJ) (ez b.aiJ))else a true
def ud(a0:Fm):Option (Bool×Tm×Fm×Bool):=dS (tY (ei a0.aiI 4)) λu v=>eh (λ(s:Bool)=>if s then some (false,(Tm.mk 0 0 (Ty.mk 0 []) []),(Fm.mk 0 (Ty.mk 0 []) [] []),false)else dE (eb a0.aiJ 0) λf=>dE (eb f.aiJ 0) λh=>dE (eb h.ef 0) λd=>eh (λ(i:Bool)=>if i then some (false,(Tm.mk 0 0 (Ty.mk 0 []) []),(Fm.mk 0 (Ty.mk 0 []) [] []),false)else dE (eb d.aiJ 1) λj=>dE (eb f.aiJ 1) λk=>some ((ei a0.aiI 4),j,k,true)) λa=>if eE d.aiI 3 then a true else dE (eb d.aiJ 1) λc=>dE (s7 c 0) λl=>if o0 l 0 then a true else dE (lN 0) λn=>dE (vL n c) λo=>dE (kM FU h o) λq=>a (mS q)) λb=>if eE a0.aiI u then b true else if eE a0.dM.aiI 1 then b true else dE (eb a0.aiJ 0) λr=>if eE r.aiI v then b true else dE (eb r.aiJ 0) λt=>b (eE t.aiI 1)
def nd:Nat->Fm->Option Int
 |0,_=>none|n+1,a0=>if ei a0.aiI 1 then some 6 else dE (eb a0.aiJ (fU .i64 (ez a0.aiJ) 1)) λo=>dE (nd n o) λa=>eh (λ(b:Int)=>eh (λ(h:Int)=>some h) λc=>Rw (ud a0) λq r i j=>if j then dE (nd n i) λk=>c (JU .u8 (ue .u8 b 1) (ue .u8 k 4))else c (ue .u8 b 1)) λd=>if e_ (ei a0.aiI 2) true (ei a0.aiI 3)then dE (eb a0.aiJ 0) λl=>dE (nd n l) λf=>some (JU .u8 (ue .u8 (ue .u8 f a) 6) (ue .u8 (e_ (ei a0.aiI 2) (JU .u8 a f) a) 1))else if ei a0.aiI 5 then d (JU .u8 a 1)else d a
def Bp(a0:Fm)(c:Int):Option (Bool×Int):=dE (j2 a0) λb=>if eE b 0 then some (false,b)else dE (nd FU a0) λa=>some ((eE (ue .u8 a c) 0),0)
def qR(a0:Fm):Option (Bool×Int):=dS (Bp a0 1) λa b=>some (a,b)
mutual
def gv:Nat->(List Fm)->Pf->d_->Option (dV×Int)
 |0,_,_,_=>none|n+1,a0,b,a2=>dS (if ei b.aiI 8 then lL n a0 b a2 else if ei b.aiI 10 then kN n a0 b a2 else if ei b.aiI 18 then kq a0 b a2 else none) λa c=>if eE c 0 then some ((dV.mk (Fm.mk 0 (Ty.mk 0 []) [] []) 0),c)else dE (j2 a.dW) λf=>if eE f 0 then some ((dV.mk (Fm.mk 0 (Ty.mk 0 []) [] []) 0),4)else eh (λ(v30:Int)=>some ((dV.mk a.dW v30),0)) λd=>dS (qR a.dW) λh i=>if h then d a.jG else d 0
def lL:Nat->(List Fm)->Pf->d_->Option (dV×Int)
 |0,_,_,_=>none|n+1,a0,d,a2=>dE (ou a2.my 1 0) λk=>if eE k 0 then some ((dV.mk (Fm.mk 0 (Ty.mk 0 []) [] []) 0),k)else dE (eb d.aiJ 0) λf=>dE (mf a2 [d.dM]) λh=>dS (gv n a0 f h) λa b=>if eE b 0 then some ((dV.mk (Fm.mk 0 (Ty.mk 0 []) [] []) 0),b)else eh (λ(v40:Int)=>dE (oD v40 d.dM a.dW) λi=>dE (jR a.jG 1) λj=>some ((dV.mk i j),0)) λc=>if ei d.aiI 12 then if eE (ue .u32 a.jG 1) 0 then some ((dV.mk (Fm.mk 0 (Ty.mk 0 []) [] []) 0),12)else c 6 else c 4
def kN:Nat->(List Fm)->Pf->d_->Option (dV×Int)
 |0,_,_,_=>none|n+1,a0,d,a2=>dE (eb d.fI 0) λa=>dE (eb d.ef 0) λb=>if ei d.aiI 14 then dE (fB FU a2.aiM a) λf=>if eE f 0 then some ((dV.mk (Fm.mk 0 (Ty.mk 0 []) [] []) 0),f)else if eE a.aiI 7 then some ((dV.mk (Fm.mk 0 (Ty.mk 0 []) [] []) 0),10)else dS (eM FU a2.aiM b) λs h=>if eE h 0 then some ((dV.mk (Fm.mk 0 (Ty.mk 0 []) [] []) 0),h)else dE (mX s a.dM) λt=>if t then dE (eb d.aiJ 0) λu=>dE (eb a.aiJ 0) λv=>dS (je n a0 u a2 v b) λw i=>if eE i 0 then some ((dV.mk (Fm.mk 0 (Ty.mk 0 []) [] []) 0),i)else dE (pt b) λx=>some ((dV.mk a (JU .u32 w.jG x)),0)else some ((dV.mk (Fm.mk 0 (Ty.mk 0 []) [] []) 0),7)else dE (fB FU a2.aiM a) λj=>if eE j 0 then some ((dV.mk (Fm.mk 0 (Ty.mk 0 []) [] []) 0),j)else if eE a.aiI 5 then some ((dV.mk (Fm.mk 0 (Ty.mk 0 []) [] []) 0),10)else dS (eM FU a2.aiM b) λy k=>if eE k 0 then some ((dV.mk (Fm.mk 0 (Ty.mk 0 []) [] []) 0),k)else dE (mX y a.dM) λA=>if A then dE (eb d.aiJ 0) λl=>dE (eb a.aiJ 0) λo=>dS (je n a0 l a2 o b) λq c=>if eE c 0 then some ((dV.mk (Fm.mk 0 (Ty.mk 0 []) [] []) 0),c)else dE (tO b) λr=>some ((dV.mk a (JU .u32 q.jG r)),0)else some ((dV.mk (Fm.mk 0 (Ty.mk 0 []) [] []) 0),7)
def je:Nat->(List Fm)->Pf->d_->Fm->Tm->Option (dV×Int)
 |0,_,_,_,_,_=>none|n+1,a0,h,a2,a3,a4=>dS (gv n a0 h a2) λd f=>if eE f 0 then some ((dV.mk (Fm.mk 0 (Ty.mk 0 []) [] []) 0),f)else dS (vI a3 a4) λb a=>if eE a 0 then some ((dV.mk (Fm.mk 0 (Ty.mk 0 []) [] []) 0),a)else dE (np b d.dW) λc=>some (d,c)
end
def xW:Nat->Tm->Option Tm
 |0,_=>none|n+1,a0=>dE (j8 FU a0.dM) λd=>gu (eP a0.aiJ)<|eh (λ(f:Int) (b:Tm)=>(λ(v72:List Tm)=>dE (xW n b) λa=>gu (fL v72 [a])<|some (.next (fT v72 [a]))):Int->Tm->(List Tm)->(Option (fZ (List Tm) (Tm)))) λc=>dE (eY c a0.aiJ 0 []) (fO (λ(v72:List Tm)=>some (Tm.mk a0.aiI a0.aiL d v72)) (λr=>some r))
def m9(a0:Tm)(b:Int):Option Tm:=dE (xW FU a0) λa=>some a
def oE(a0:Fm):Option Fm:=dS (fq FU a0 0 (λ(s:Unit) (a:Tm) (b:Int)=>qy (m9 a b) s) ()) λc d=>some c
def lp(a0:Int):Option (List Int):=eh ((zU λ(v37:Int) (a:List Int)=>if eE v37 0 then dE (mA v37) λb=>gu (fL a [b])<|some (.next ((ue .u32 v37 (fU .u32 v37 1)),(fT a [b])))else some (.Jq (v37,a))):(Int×(List Int))->(Option (fZ (Int×(List Int)) (List Int)))) λc=>dE (oC c FU (a0,[])) (fO (zU λ(v37:Int) (a:List Int)=>some a) (λr=>some r))
def rY(a0:List Fm)(i:Sq)(a2:Pf):Option (su×Int):=dE (si a0 i) λj=>if eE j 0 then some ((su.mk (Fm.mk 0 (Ty.mk 0 []) [] []) []),j)else dE (rz a2) λa=>if eE a 0 then some ((su.mk (Fm.mk 0 (Ty.mk 0 []) [] []) []),a)else dE (yl) λk=>dE (uT i) λd=>dS (gv FU a0 a2 d) λb c=>if eE c 0 then some ((su.mk (Fm.mk 0 (Ty.mk 0 []) [] []) []),c)else dE (oE b.dW) λf=>dE (lp b.jG) λh=>some ((su.mk f h),0)
def j3(a0:Tm)(j:Pf):Option Int:=dS (rY [] (Sq.mk [] []) j) λk i=>if eE i 0 then some i else dE (gj) λa=>dE (eX 0) λb=>dE (gN a0 [b]) λc=>dE (eR c) λd=>dE (pG 4 a d) λf=>dE (np k.dW f) λh=>some h
def km(a0:Int):Option Pf:=some (Pf.mk 1 a0 (Ty.mk 0 []) [] [] [])
def jE(a0:Fm)(a a2:Pf):Option Pf:=some (Pf.mk 19 0 (Ty.mk 0 []) [] [a0] [a,a2])
def vM(a0:Tm)(a:Pf):Option Pf:=some (Pf.mk 9 0 (Ty.mk 0 []) [a0] [] [a])
def l_(a0:Int)(a:List Pf):Option Pf:=some (Pf.mk a0 0 (Ty.mk 0 []) [] [] a)
def qd(a0:Tm)(a1:Pf)(a2:Tm)(a3:Pf):Option (Fm×Pf×Int):=eh ([a0,a2]:List Tm) λd=>gu (eP d)<|eh (λ(ae:Int) (ad:Tm)=>(λ(_:Unit)=>dE (px) λf=>dE (iB ad f) λa=>if eE a 0 then fE (iy a) λh i j=>some (.ret (h,i,j))else some (.next ())):Int->Tm->(Unit)->(Option (fZ (Unit) (Fm×Pf×Int)))) λk=>dE (eY k d 0 ()) (fO (λ(_:Unit)=>dE (j3 a0 a1) λb=>if eE b 0 then fE (iy b) λl n o=>some (l,n,o)else dE (j3 a2 a3) λc=>if eE c 0 then fE (iy c) λq s t=>some (q,s,t)else dE (eX 2) λu=>dE (gN a0 [u]) λv=>dE (gN a2 [v]) λw=>dE (eR w) λx=>dE (eX 0) λy=>dE (eX 1) λA=>dE (eX 0) λB=>dE (gN a2 [B]) λC=>dE (mD A C) λD=>dE (km 1) λF=>dE (km 0) λG=>dE (jE D F G) λH=>dE (jH x y H) λI=>dE (eX 0) λJ=>dE (vM J a1) λK=>dE (eX 0) λL=>dE (vM L a3) λM=>dE (l_ 11 [M,I]) λN=>dE (l_ 11 [K,N]) λO=>dE (gj) λP=>dE (eX 0) λQ=>dE (gN a0 [Q]) λR=>dE (gN a2 [R]) λS=>dE (eR S) λT=>dE (pG 4 P T) λU=>dE (gj) λV=>dE (o5 V O) λW=>fE (gT U W) λX Y Z=>some (X,Y,Z)) (λr=>some r))
def iQ:Nat->Ty->Option Ty
 |0,_=>none|n+1,a0=>gu (eP a0.aiJ)<|eh (λ(d:Int) (b:Ty)=>(λ(v40:List Ty)=>dE (iQ n b) λa=>gu (fL v40 [a])<|some (.next (fT v40 [a]))):Int->Ty->(List Ty)->(Option (fZ (List Ty) (Ty)))) λc=>dE (eY c a0.aiJ 0 []) (fO (λ(v40:List Ty)=>some (Ty.mk a0.aiI v40)) (λr=>some r))
def lr:Nat->Tm->Option Tm
 |0,_=>none|n+1,a0=>gu (eP a0.aiJ)<|eh (λ(f:Int) (b:Tm)=>(λ(v40:List Tm)=>dE (lr n b) λa=>gu (fL v40 [a])<|some (.next (fT v40 [a]))):Int->Tm->(List Tm)->(Option (fZ (List Tm) (Tm)))) λc=>dE (eY c a0.aiJ 0 []) (fO (λ(v40:List Tm)=>dE (iQ FU a0.dM) λd=>some (Tm.mk a0.aiI a0.aiL d v40)) (λr=>some r))
def fF(a0:Int)(d:List Tm):Option Tm:=gu (eP d)<|eh (λ(f:Int) (b:Tm)=>(λ(v40:List Tm)=>dE (lr FU b) λa=>gu (fL v40 [a])<|some (.next (fT v40 [a]))):Int->Tm->(List Tm)->(Option (fZ (List Tm) (Tm)))) λc=>dE (eY c d 0 []) (fO (λ(v40:List Tm)=>some (Tm.mk a0 0 (Ty.mk 0 []) v40)) (λr=>some r))
def qw(a0:Int):Option Tm:=dE (fF 4 []) λf=>eh ((Ts λ(a:Int) (v30:Int) (v31:Int) (b:Int) (c:List Ty) (d:List Tm)=>if o0 a 0 then some (.next ((fU .i64 a 1),5,0,0,[],[(Tm.mk v30 v31 (Ty.mk b c) d)]))else some (.Jq (a,v30,v31,b,c,d))):(Int×Int×Int×Int×(List Ty)×(List Tm))->(Option (fZ (Int×Int×Int×Int×(List Ty)×(List Tm)) (Tm)))) λh=>dE (oC h FU (a0,f.aiI,f.aiL,f.dM.aiI,f.dM.aiJ,f.aiJ)) (fO (Ts λ(a:Int) (v30:Int) (v31:Int) (b:Int) (c:List Ty) (d:List Tm)=>some (Tm.mk v30 v31 (Ty.mk b c) d)) (λr=>some r))
def uS(a0:Int):Option (Tm×Int):=if sx a0 0 then some ((Tm.mk 0 0 (Ty.mk 0 []) []),1)else if rb a0 4096 then some ((Tm.mk 0 0 (Ty.mk 0 []) []),4)else dE (qw a0) λa=>some (a,0)
def uq(a0:Int):Option Tm:=dS (uS a0) λa b=>some a
def mg(a0 a b:Tm):Option Tm:=dE (gj) λc=>some (Tm.mk 6 0 c [a,b,a0])
def l8(a0:Int)(a:Fm)(a2:Tm)(a3 a4:Pf):Option Pf:=some (Pf.mk a0 0 (Ty.mk 0 []) [a2] [a] [a3,a4])
def p4(a0 c:Tm):Option (Fm×Pf×Int):=dE (gj) λaf=>dE (iB a0 af) λd=>if eE d 0 then fE (iy d) λah ai ak=>some (ah,ai,ak)else dE (gj) λf=>dE (gj) λh=>dE (gj) λi=>dE (pA f [h,i]) λj=>dE (iB c j) λb=>if eE b 0 then fE (iy b) λk l n=>some (k,l,n)else dE (eX 1) λo=>dE (eX 0) λq=>dE (gN c [o,q]) λa=>dE (eX 1) λr=>dE (kl 5 [r]) λs=>dE (mg s a0 c) λt=>dE (eR t) λu=>dE (kS FU a 0 1) λv=>dE (eX 2) λw=>dE (eX 0) λx=>dE (gN c [w,x]) λy=>dE (mD v y) λA=>dE (km 0) λB=>dE (kv a) λC=>dE (jE A B C) λD=>dE (jH u a D) λF=>dE (kl 4 []) λG=>dE (mg G a0 c) λH=>dE (eR H) λI=>dE (kv a0) λJ=>dE (jH I a0 J) λK=>dE (eX 0) λL=>dE (mg L a0 c) λM=>dE (eR M) λN=>dE (eX 0) λO=>dE (km 0) λP=>dE (l_ 11 [P,F]) λQ=>dE (l8 16 N O K Q) λR=>dE (gj) λS=>dE (eX 0) λT=>dE (mg T a0 c) λU=>dE (eR U) λV=>dE (pG 4 S V) λW=>dE (gj) λX=>dE (o5 X R) λY=>fE (gT W Y) λZ ad ae=>some (Z,ad,ae)
def s5:Option Ty:=some (Ty.mk 2 [])
def jM(a0 a b:Tm):Option Tm:=dE (gj) λc=>some (Tm.mk 9 0 c [a,b,a0])
def l9(a0 c:Tm):Option (Fm×Pf×Int):=dE (gj) λan=>dE (iB a0 an) λd=>if eE d 0 then fE (iy d) λao aq ar=>some (ao,aq,ar)else dE (gj) λf=>dE (gj) λh=>dE (s5) λi=>dE (gj) λj=>dE (pA f [h,i,j]) λk=>dE (iB c k) λb=>if eE b 0 then fE (iy b) λl n o=>some (l,n,o)else dE (eX 2) λq=>dE (eX 1) λr=>dE (eX 0) λs=>dE (gN c [q,r,s]) λa=>dE (eX 2) λt=>dE (eX 1) λu=>dE (kl 8 [t,u]) λv=>dE (jM v a0 c) λw=>dE (eR w) λx=>dE (kS FU a 0 1) λy=>dE (eX 3) λA=>dE (eX 2) λB=>dE (eX 0) λC=>dE (gN c [A,B,C]) λD=>dE (mD y D) λF=>dE (km 0) λG=>dE (kv a) λH=>dE (jE F G H) λI=>dE (jH x a I) λJ=>dE (kl 7 []) λK=>dE (jM K a0 c) λL=>dE (eR L) λM=>dE (kv a0) λN=>dE (jH M a0 N) λO=>dE (eX 0) λP=>dE (jM P a0 c) λQ=>dE (eR Q) λR=>dE (eX 0) λS=>dE (km 0) λT=>dE (l_ 11 [T,J]) λU=>dE (l8 17 R S O U) λV=>dE (s5) λW=>dE (eX 0) λX=>dE (jM X a0 c) λY=>dE (eR Y) λZ=>dE (pG 4 W Z) λad=>dE (s5) λae=>dE (o5 ae V) λaf=>fE (gT ad af) λah ai ak=>some (ah,ai,ak)
def gn(a0:Int):Option Tm:=some (Tm.mk 1 a0 (Ty.mk 0 []) [])
def jn:Option Ty:=some (Ty.mk 1 [])
def lh(a0:Int)(b:Ty)(a2:List Tm):Option Tm:=dE (fF a0 a2) λa=>dE (iQ FU b) λc=>some (Tm.mk a.aiI a.aiL c a.aiJ)
def jV(a0:Tm):Option Tm:=dE (jn) λa=>dE (lh 2 a [a0]) λb=>some b
def tk(a0 c a2:Tm):Option Tm:=dE (jn) λa=>dE (lh 6 a [a0,c,a2]) λb=>some b
def oq:Option Tm:=dE (gn 1) λa=>dE (gn 0) λb=>dE (fF 5 [b]) λc=>dE (jV c) λd=>dE (jV d) λf=>dE (gn 0) λh=>dE (tk a f h) λi=>dE (jV i) λj=>dE (jV j) λk=>some k
def qT(a0:Ty)(a:Tm):Option Tm:=some (Tm.mk 2 0 a0 [a])
def jI(a0:Tm)(a:Ty)(b c d:Tm):Option Tm:=dE (kl 10 [b,c]) λf=>dE (gj) λh=>dE (qT a d) λi=>dE (qT h i) λj=>some (Tm.mk 6 0 a [f,j,a0])
def ig(a0:Tm):Option Tm:=dE (kl 11 [a0]) λa=>some a
def ij(a0:Tm):Option Tm:=dE (kl 12 [a0]) λa=>some a
def iY(a0:Tm)(a:Ty):Option Fm:=dE (kS FU a0 0 1) λn=>dE (eX 0) λb=>dE (ig b) λc=>dE (ig n) λd=>dE (mD c d) λf=>dE (eX 0) λh=>dE (ij h) λi=>dE (ij n) λj=>dE (mD i j) λk=>dE (pG 5 a (Fm.mk 2 (Ty.mk 0 []) [] [f,k])) λl=>some l
def oJ(a0 d a2:Tm):Option (Fm×Pf×Int):=eh ([a0,d]:List Tm) λj=>gu (eP j)<|eh (λ(bt:Int) (bs:Tm)=>(λ(_:Unit)=>dE (gj) λk=>dE (iB bs k) λf=>if eE f 0 then fE (iy f) λl n o=>some (.ret (l,n,o))else some (.next ())):Int->Tm->(Unit)->(Option (fZ (Unit) (Fm×Pf×Int)))) λq=>dE (eY q j 0 ()) (fO (λ(_:Unit)=>dE (gj) λs=>dE (gj) λt=>dE (gj) λu=>dE (pA s [t,u]) λv=>dE (iB a2 v) λh=>if eE h 0 then fE (iy h) λw x y=>some (w,x,y)else dE (gj) λa=>dE (gj) λb=>dE (eX 0) λA=>dE (ij A) λB=>dE (eX 0) λC=>dE (ig C) λD=>dE (eX 0) λF=>dE (ij F) λG=>dE (gN a2 [D,G]) λH=>dE (kl 10 [B,H]) λc=>dE (kl 4 []) λI=>dE (jI I (Ty.mk 3 [a,b]) a0 d c) λJ=>dE (iY J (Ty.mk 3 [a,b])) λK=>dE (kl 10 [a0,d]) λL=>dE (kv a0) λM=>dE (kv d) λN=>dE (l_ 3 [M,N]) λO=>dE (jH K L O) λP=>dE (eX 1) λQ=>dE (ij Q) λR=>dE (eX 0) λS=>dE (mD R S) λT=>dE (km 0) λU=>dE (l_ 5 [U]) λV=>dE (eX 0) λW=>dE (ij W) λX=>dE (kv X) λY=>dE (jE T V Y) λZ=>dE (eX 1) λad=>dE (ig ad) λae=>dE (eX 1) λaf=>dE (ij af) λah=>dE (gN a2 [ae,ah]) λi=>dE (eX 0) λai=>dE (eX 1) λak=>dE (ij ak) λan=>dE (gN a2 [ai,an]) λao=>dE (mD i ao) λaq=>dE (km 0) λar=>dE (l_ 4 [ar]) λaw=>dE (eX 0) λax=>dE (ig ax) λay=>dE (eX 0) λaz=>dE (ij az) λaA=>dE (gN a2 [ay,aA]) λaB=>dE (kv aB) λaC=>dE (jE aq aw aC) λaD=>dE (eX 2) λaE=>dE (jI aE (Ty.mk 3 [a,b]) a0 d c) λaF=>dE (ig aF) λaG=>dE (eX 0) λaH=>dE (gN a2 [aG,aH]) λaI=>dE (mD i aI) λaJ=>dE (km 0) λaK=>dE (l_ 5 [aK]) λaL=>dE (jE aJ aL aD) λaM=>dE (km 0) λaN=>dE (eX 1) λaO=>dE (kl 5 [aO]) λaP=>dE (jI aP (Ty.mk 3 [a,b]) a0 d c) λaQ=>dE (iY aQ (Ty.mk 3 [a,b])) λaR=>dE (l_ 3 [Z,aM]) λaS=>dE (jH aR c aS) λaT=>dE (l_ 11 [aN,aT]) λaU=>dE (eX 1) λaV=>dE (jI aV (Ty.mk 3 [a,b]) a0 d c) λaW=>dE (ig aW) λaX=>dE (eR aX) λaY=>dE (eX 0) λaZ=>dE (ig aZ) λa6=>dE (km 0) λa7=>dE (l_ 4 [a7]) λa8=>dE (jH aY a6 a8) λa_=>dE (gj) λa'=>dE (eX 0) λba=>dE (jI ba (Ty.mk 3 [a,b]) a0 d c) λbb=>dE (iY bb (Ty.mk 3 [a,b])) λbc=>dE (eX 0) λbd=>dE (l8 16 bc bd P aU) λbf=>dE (l_ 11 [bf,a_]) λbg=>dE (o5 a' bg) λbh=>dE (gj) λbj=>dE (eX 0) λbk=>dE (jI bk (Ty.mk 3 [a,b]) a0 d c) λbl=>dE (ig bl) λbm=>dE (eR bm) λbn=>dE (pG 4 bj bn) λbo=>fE (gT bo bh) λbp bq br=>some (bp,bq,br)) (λr=>some r))
def pR:Nat->Ty->Option Bool
 |0,_=>none|n+1,a0=>eh (λ(v10:Int)=>if eE (ez a0.aiJ) v10 then some false else gu (eP a0.aiJ)<|eh (λ(f:Int) (b:Ty)=>(λ(_:Unit)=>dE (pR n b) λc=>if c then some (.next ())else some (.ret false)):Int->Ty->(Unit)->(Option (fZ (Unit) (Bool)))) λd=>dE (eY d a0.aiJ 0 ()) (fO (λ(_:Unit)=>some true) (λr=>some r))) λa=>if e_ (ei a0.aiI 1) true (e_ (ei a0.aiI 2) true (ei a0.aiI 5))then a 0 else if e_ (ei a0.aiI 3) true (ei a0.aiI 4)then a 2 else some false
def pk:Nat->Ty->Option Int
 |0,_=>none|n+1,a0=>gu (eP a0.aiJ)<|eh (λ(f:Int) (b:Ty)=>(λ(a:Int)=>dE (pk n b) λc=>some (.next (fl .i64 a c))):Int->Ty->(Int)->(Option (fZ (Int) (Int)))) λd=>dE (eY d a0.aiJ 0 1) (fO (λ(a:Int)=>some a) (λr=>some r))
def h8(a0:Ty):Option Int:=dE (pR FU a0) λb=>if b then dE (pk FU a0) λa=>if o0 a 64 then some 4 else some 0 else some 2
def lU(a0:List Ty):Option Int:=if o0 (ez a0) 16 then some 3 else gu (eP a0)<|eh (λ(d:Int) (b:Ty)=>(λ(_:Unit)=>dE (h8 b) λa=>if eE a 0 then some (.ret a)else some (.next ())):Int->Ty->(Unit)->(Option (fZ (Unit) (Int)))) λc=>dE (eY c a0 0 ()) (fO (λ(_:Unit)=>some 0) (λr=>some r))
def pJ(a0:Ty):Option Bool:=some (e_ (ei a0.aiI 0) (ei (ez a0.aiJ) 0) false)
def vS(a0:Int):Option Int:=if e_ (ei a0 1) true (e_ (ei a0 4) true (e_ (ei a0 7) true (ei a0 13)))then some 0 else if e_ (ei a0 2) true (e_ (ei a0 5) true (e_ (ei a0 11) true (ei a0 12)))then some 1 else if e_ (ei a0 3) true (e_ (ei a0 8) true (ei a0 10))then some 2 else if e_ (ei a0 6) true (ei a0 9)then some 3 else some (-1)
def kx:Nat->Tm->Option Bool
 |0,_=>none|n+1,a0=>eh (λ(v21:Bool)=>if v21 then some false else eh (gu (eP a0.aiJ)<|eh (λ(k:Int) (c:Tm)=>(λ(_:Unit)=>dE (kx n c) λd=>if d then some (.next ())else some (.ret false)):Int->Tm->(Unit)->(Option (fZ (Unit) (Bool)))) λf=>dE (eY f a0.aiJ 0 ()) (fO (λ(_:Unit)=>some true) (λr=>some r))) λb=>if e_ (ei a0.aiI 2) true (e_ (ei a0.aiI 6) true (ei a0.aiI 9))then dE (h8 a0.dM) λh=>if eE h 0 then some false else b else dE (pJ a0.dM) λi=>if i then b else some false) λa=>dE (vS a0.aiI) λj=>if eE (ez a0.aiJ) j then a true else if sx a0.aiL 0 then a true else if eE a0.aiI 1 then a (eE a0.aiL 0)else a false
def kU(a0:Int):Option Bool:=some (e_ (ei a0 4) true (e_ (ei a0 5) true (e_ (ei a0 6) true (ei a0 7))))
def lY:Nat->Fm->Option Bool
 |0,_=>none|n+1,a0=>if ei a0.aiI 1 then eh (λ(s:Bool)=>some s) λc=>if ei (ez a0.aiJ) 0 then dE (pJ a0.dM) λt=>if t then if ei (ez a0.ef) 2 then dE (eb a0.ef 0) λu=>dE (kx FU u) λv=>if v then dE (eb a0.ef 1) λw=>dE (kx FU w) λx=>c x else c false else c false else c false else c false else if e_ (ei a0.aiI 2) true (ei a0.aiI 3)then eh (λ(d:Bool)=>some d) λa=>if ei (ez a0.ef) 0 then dE (pJ a0.dM) λf=>if f then if ei (ez a0.aiJ) 2 then dE (eb a0.aiJ 0) λh=>dE (lY n h) λi=>if i then dE (eb a0.aiJ 1) λj=>dE (lY n j) λk=>a k else a false else a false else a false else a false else dE (kU a0.aiI) λl=>if l then eh (λ(v141:Bool)=>some v141) λb=>if ei (ez a0.ef) 0 then dE (h8 a0.dM) λo=>if ei o 0 then if ei (ez a0.aiJ) 1 then dE (eb a0.aiJ 0) λq=>dE (lY n q) λr=>b r else b false else b false else b false else some false
def fJ:Nat->Tm->Option Int
 |0,_=>none|n+1,a0=>gu (eP a0.aiJ)<|eh (λ(f:Int) (b:Tm)=>(λ(a:Int)=>dE (fJ n b) λc=>some (.next (fl .i64 a c))):Int->Tm->(Int)->(Option (fZ (Int) (Int)))) λd=>dE (eY d a0.aiJ 0 1) (fO (λ(a:Int)=>some a) (λr=>some r))
def lX:Nat->Fm->Option Int
 |0,_=>none|n+1,a0=>gu (eP a0.ef)<|eh (λ(j:Int) (b:Tm)=>(λ(a:Int)=>dE (fJ FU b) λc=>some (.next (fl .i64 a c))):Int->Tm->(Int)->(Option (fZ (Int) (Int)))) λd=>dE (eY d a0.ef 0 1) (fO (λ(a:Int)=>gu (eP a0.aiJ)<|eh (λ(k:Int) (f:Fm)=>(λ(v75:Int)=>dE (lX n f) λh=>some (.next (fl .i64 v75 h))):Int->Fm->(Int)->(Option (fZ (Int) (Int)))) λi=>dE (eY i a0.aiJ 0 a) (fO (λ(v75:Int)=>some v75) (λr=>some r))) (λr=>some r))
def jP(a0:Fm):Option Int:=dE (lY FU a0) λb=>if b then dE (lX FU a0) λa=>if o0 a 4096 then some 4 else some 0 else some 2
def lV(a0:Tm):Option Int:=dE (kx FU a0) λb=>if b then dE (fJ FU a0) λa=>if o0 a 4096 then some 4 else some 0 else some 2
def kR(a0 c:Ty):Option Ty:=dE (iQ FU a0) λa=>dE (iQ FU c) λb=>some (Ty.mk 4 [a,b])
def ub(a0:Ty):Option (Ty×Int):=dE (h8 a0) λa=>if eE a 0 then some ((Ty.mk 0 []),4)else some (a0,0)
def mc:Option Ty:=some (Ty.mk 2 [])
def fh:Nat->Ty->Ty->Option Bool
 |0,_,_=>none|n+1,a0,c=>if e_ (eE a0.aiI c.aiI) true (eE (ez a0.aiJ) (ez c.aiJ))then some false else gu (eP a0.aiJ)<|eh (λ(d:Int) (f:Ty)=>(λ(_:Unit)=>dE (eb c.aiJ d) λa=>dE (fh n f a) λb=>if b then some (.next ())else some (.ret false)):Int->Ty->(Unit)->(Option (fZ (Unit) (Bool)))) λh=>dE (eY h a0.aiJ 0 ()) (fO (λ(_:Unit)=>some true) (λr=>some r))
def sW(a0 c:Ty):Option Ty:=dE (iQ FU a0) λa=>dE (iQ FU c) λb=>some (Ty.mk 3 [a,b])
def sZ:Option Ty:=some (Ty.mk 5 [])
def fv:Nat->(List Ty)->Tm->Option (Ty×Int)
 |0,_,_=>none|n+1,a0,b=>if ei b.aiI 1 then if rb b.aiL (ez a0)then some ((Ty.mk 0 []),6)else dE (eb a0 (fU .i64 (fU .i64 (ez a0) 1) b.aiL)) λaz=>dE (iQ FU az) λaA=>some (aA,0)else if ei b.aiI 2 then gu (fL a0 [b.dM])<|dE (eb b.aiJ 0) λaB=>dS (fv n (fT a0 [b.dM]) aB) λaC S=>if eE S 0 then some ((Ty.mk 0 []),S)else dE (kR b.dM aC) λaD=>dS (ub aD) λaE aF=>some (aE,aF)else gu (eP b.aiJ)<|eh (λ(aG:Int) (T:Tm)=>(λ(a:List Ty)=>dS (fv n a0 T) λk l=>if eE l 0 then some (.ret ((Ty.mk 0 []),l))else gu (fL a [k])<|some (.next (fT a [k]))):Int->Tm->(List Ty)->(Option (fZ (List Ty) (Ty×Int)))) λU=>dE (eY U b.aiJ 0 []) (fO (λ(a:List Ty)=>dE (jn) λc=>dE (mc) λd=>if ei b.aiI 3 then eh (λ(V:Bool)=>if V then some ((Ty.mk 0 []),7)else dE (eb a 0) λW=>dE (eb W.aiJ 1) λX=>some (X,0)) λo=>dE (eb a 0) λq=>if eE q.aiI 4 then o true else dE (eb q.aiJ 0) λY=>dE (eb a 1) λZ=>dE (fh FU Y Z) λad=>o (mS ad)else if ei b.aiI 4 then some (c,0)else if ei b.aiI 5 then dE (eb a 0) λae=>dE (fh FU ae c) λaf=>if af then some (c,0)else some ((Ty.mk 0 []),7)else if ei b.aiI 6 then eh (λ(ah:Bool)=>if ah then some ((Ty.mk 0 []),7)else dE (iQ FU b.dM) λai=>some (ai,0)) λi=>dE (eb a 0) λak=>dE (fh FU ak b.dM) λan=>if an then dE (eb a 1) λao=>dE (kR b.dM b.dM) λaq=>dE (kR c aq) λar=>dE (fh FU ao ar) λaw=>if aw then dE (eb a 2) λax=>dE (fh FU ax c) λay=>i (mS ay)else i true else i true else if ei b.aiI 7 then some (d,0)else if ei b.aiI 8 then eh (λ(s:Bool)=>if s then some ((Ty.mk 0 []),7)else some (d,0)) λj=>dE (eb a 0) λt=>dE (fh FU t c) λu=>if u then dE (eb a 1) λv=>dE (fh FU v d) λw=>j (mS w)else j true else if ei b.aiI 9 then eh (λ(x:Bool)=>if x then some ((Ty.mk 0 []),7)else dE (iQ FU b.dM) λy=>some (y,0)) λf=>dE (eb a 0) λA=>dE (fh FU A b.dM) λB=>if B then dE (eb a 1) λC=>dE (kR b.dM b.dM) λD=>dE (kR d D) λF=>dE (kR c F) λG=>dE (fh FU C G) λH=>if H then dE (eb a 2) λI=>dE (fh FU I d) λJ=>f (mS J)else f true else f true else if ei b.aiI 10 then dE (eb a 0) λK=>dE (eb a 1) λL=>dE (sW K L) λM=>dS (ub M) λN O=>some (N,O)else if e_ (ei b.aiI 11) true (ei b.aiI 12)then dE (eb a 0) λh=>if eE h.aiI 3 then some ((Ty.mk 0 []),7)else if ei b.aiI 11 then dE (eb h.aiJ 0) λP=>some (P,0)else dE (eb h.aiJ 1) λQ=>some (Q,0)else dE (sZ) λR=>some (R,0)) (λr=>some r))
def po(a0:List Ty)(c:Tm):Option (Ty×Int):=dE (lV c) λd=>if eE d 0 then some ((Ty.mk 0 []),d)else dS (fv FU a0 c) λa b=>some (a,b)
def mR:Nat->(List Ty)->Fm->Option Int
 |0,_,_=>none|n+1,a0,b=>gu (eP b.ef)<|eh (λ(o:Int) (d:Tm)=>(λ(_:Unit)=>dS (po a0 d) λf c=>if eE c 0 then some (.ret c)else if eE f.aiI 1 then some (.ret 7)else some (.next ())):Int->Tm->(Unit)->(Option (fZ (Unit) (Int)))) λh=>dE (eY h b.ef 0 ()) (fO (λ(_:Unit)=>eh (λ(i:List Ty)=>gu (eP b.aiJ)<|eh (λ(q:Int) (j:Fm)=>(λ(_:Unit)=>dE (mR n i j) λa=>if eE a 0 then some (.ret a)else some (.next ())):Int->Fm->(Unit)->(Option (fZ (Unit) (Int)))) λk=>dE (eY k b.aiJ 0 ()) (fO (λ(_:Unit)=>some 0) (λr=>some r))) λj64=>dE (kU b.aiI) λl=>if l then gu (fL a0 [b.dM])<|j64 (fT a0 [b.dM])else j64 a0) (λr=>some r))
def kB(a0:List Ty)(b:Fm):Option Int:=dE (jP b) λc=>if eE c 0 then some c else dE (mR FU a0 b) λa=>some a
def jh(a0:List Ty)(c:Fm):Option Int:=dE (lU a0) λb=>if eE b 0 then some b else dE (kB a0 c) λa=>some a
def tE(a0:List Fm)(a:Sq):Option Int:=if o0 (ez a0) 32 then some 3 else gu (eP a0)<|eh (λ(k:Int) (f:Fm)=>(λ(_:Unit)=>dE (jh [] f) λb=>if eE b 0 then some (.ret b)else some (.next ())):Int->Fm->(Unit)->(Option (fZ (Unit) (Int)))) λh=>dE (eY h a0 0 ()) (fO (λ(_:Unit)=>dE (lU a.aiM) λc=>if eE c 0 then some c else if o0 (ez a.aiP) 16 then some 3 else gu (eP a.aiP)<|eh (λ(l:Int) (i:Fm)=>(λ(_:Unit)=>dE (jh a.aiM i) λd=>if eE d 0 then some (.ret d)else some (.next ())):Int->Fm->(Unit)->(Option (fZ (Unit) (Int)))) λj=>dE (eY j a.aiP 0 ()) (fO (λ(_:Unit)=>some 0) (λr=>some r))) (λr=>some r))
def o3(a0:Int):Option (eU×Bool):=if e_ (ei a0 1) true (ei a0 2)then some ((eU.mk 0 0 0 true false),true)else if e_ (ei a0 3) true (ei a0 7)then some ((eU.mk 0 0 2 false false),true)else if e_ (ei a0 4) true (e_ (ei a0 5) true (ei a0 20))then some ((eU.mk 0 0 1 false false),true)else if ei a0 6 then some ((eU.mk 0 1 1 false false),true)else if e_ (ei a0 8) true (ei a0 12)then some ((eU.mk 0 0 1 false true),true)else if e_ (ei a0 9) true (ei a0 13)then some ((eU.mk 1 0 1 false false),true)else if e_ (ei a0 10) true (ei a0 14)then some ((eU.mk 1 1 1 false false),true)else if e_ (ei a0 11) true (ei a0 15)then some ((eU.mk 0 0 2 false false),true)else if e_ (ei a0 16) true (ei a0 17)then some ((eU.mk 1 1 2 false false),true)else if ei a0 18 then some ((eU.mk 1 0 0 false false),true)else if ei a0 19 then some ((eU.mk 0 1 2 false false),true)else some ((eU.mk 0 0 0 false false),false)
def nY:Nat->Pf->Option Bool
 |0,_=>none|n+1,a0=>dS (o3 a0.aiI) λb v=>if e_ v (e_ (eE (ez a0.ef) b.ef) true (e_ (eE (ez a0.fI) b.fI) true (e_ (eE (ez a0.aiJ) b.aiJ) true (e_ (sx a0.aiL 0) true (e_ b.aiL false (eE a0.aiL 0)))))) true then some false else eh (λ(j:Bool)=>if j then some false else gu (eP a0.ef)<|eh (λ(w:Int) (k:Tm)=>(λ(_:Unit)=>dE (kx FU k) λl=>if l then some (.next ())else some (.ret false)):Int->Tm->(Unit)->(Option (fZ (Unit) (Bool)))) λo=>dE (eY o a0.ef 0 ()) (fO (λ(_:Unit)=>gu (eP a0.fI)<|eh (λ(x:Int) (q:Fm)=>(λ(_:Unit)=>dE (lY FU q) λc=>if c then some (.next ())else some (.ret false)):Int->Fm->(Unit)->(Option (fZ (Unit) (Bool)))) λd=>dE (eY d a0.fI 0 ()) (fO (λ(_:Unit)=>gu (eP a0.aiJ)<|eh (λ(u:Int) (f:Pf)=>(λ(_:Unit)=>dE (nY n f) λh=>if h then some (.next ())else some (.ret false)):Int->Pf->(Unit)->(Option (fZ (Unit) (Bool)))) λi=>dE (eY i a0.aiJ 0 ()) (fO (λ(_:Unit)=>some true) (λr=>some r))) (λr=>some r))) (λr=>some r))) λa=>if b.Mt then dE (h8 a0.dM) λs=>if eE s 0 then a true else a false else dE (pJ a0.dM) λt=>a (mS t)
def ry:Nat->Pf->Option Bool
 |0,_=>none|n+1,a0=>gu (eP a0.ef)<|eh (λ(l:Int) (c:Tm)=>(λ(_:Unit)=>dE (fJ FU c) λd=>if o0 d 4096 then some (.ret false)else some (.next ())):Int->Tm->(Unit)->(Option (fZ (Unit) (Bool)))) λf=>dE (eY f a0.ef 0 ()) (fO (λ(_:Unit)=>gu (eP a0.fI)<|eh (λ(o:Int) (h:Fm)=>(λ(_:Unit)=>dE (lX FU h) λi=>if o0 i 4096 then some (.ret false)else some (.next ())):Int->Fm->(Unit)->(Option (fZ (Unit) (Bool)))) λj=>dE (eY j a0.fI 0 ()) (fO (λ(_:Unit)=>gu (eP a0.aiJ)<|eh (λ(q:Int) (k:Pf)=>(λ(_:Unit)=>dE (ry n k) λa=>if a then some (.next ())else some (.ret false)):Int->Pf->(Unit)->(Option (fZ (Unit) (Bool)))) λb=>dE (eY b a0.aiJ 0 ()) (fO (λ(_:Unit)=>some true) (λr=>some r))) (λr=>some r))) (λr=>some r))
def rJ:Nat->Pf->Option Int
 |0,_=>none|n+1,a0=>gu (eP a0.ef)<|eh (λ(s:Int) (h:Tm)=>(λ(b:Int)=>dE (fJ FU h) λi=>some (.next (fl .i64 b i))):Int->Tm->(Int)->(Option (fZ (Int) (Int)))) λj=>dE (eY j a0.ef 0 1) (fO (λ(b:Int)=>gu (eP a0.fI)<|eh (λ(t:Int) (k:Fm)=>(λ(v75:Int)=>dE (lX FU k) λl=>some (.next (fl .i64 v75 l))):Int->Fm->(Int)->(Option (fZ (Int) (Int)))) λo=>dE (eY o a0.fI 0 b) (fO (λ(v75:Int)=>gu (eP a0.aiJ)<|eh (λ(q:Int) (c:Pf)=>(λ(a:Int)=>dE (rJ n c) λd=>some (.next (fl .i64 a d))):Int->Pf->(Int)->(Option (fZ (Int) (Int)))) λf=>dE (eY f a0.aiJ 0 v75) (fO (λ(a:Int)=>some a) (λr=>some r))) (λr=>some r))) (λr=>some r))
def yK(a0:Pf):Option Bool:=eh (λ(d:Bool)=>some d) λc=>dE (ry FU a0) λa=>if a then dE (rJ FU a0) λb=>c (XA b 16384)else c false
def tV(a0:Pf):Option Int:=dE (nY FU a0) λb=>if b then dE (yK a0) λa=>if a then some 0 else some 4 else some 2
def ly:Nat->Fm->Option Fm
 |0,_=>none|n+1,a0=>dE (iQ FU a0.dM) λk=>gu (eP a0.ef)<|eh (λ(l:Int) (h:Tm)=>(λ(v72:List Tm)=>dE (lr FU h) λc=>gu (fL v72 [c])<|some (.next (fT v72 [c]))):Int->Tm->(List Tm)->(Option (fZ (List Tm) (Fm)))) λi=>dE (eY i a0.ef 0 []) (fO (λ(v72:List Tm)=>gu (eP a0.aiJ)<|eh (λ(j:Int) (d:Fm)=>(λ(a:List Fm)=>dE (ly n d) λb=>gu (fL a [b])<|some (.next (fT a [b]))):Int->Fm->(List Fm)->(Option (fZ (List Fm) (Fm)))) λf=>dE (eY f a0.aiJ 0 []) (fO (λ(a:List Fm)=>some (Fm.mk a0.aiI k v72 a)) (λr=>some r))) (λr=>some r))
def rC(a0:Int)(c a2:Fm):Option Fm:=dE (ly FU c) λa=>dE (ly FU a2) λb=>some (Fm.mk a0 (Ty.mk 0 []) [] [a,b])
def p6(a0:List (Int×Bool)):Option (List Int×List (Int×Bool)):=gu (eP a0)<|gu (xK (a0.map (·.1)))<|some (zt [] (a0.map (·.1)),a0)
def gd(a0 j:List Int):Option (List Int):=gu (eP a0)<|eh (λ(l:Int) (c:Int)=>(λ(a:(List (Int×Bool)))=>some (.next (v_ a c true))):Int->Int->((List (Int×Bool)))->(Option (fZ ((List (Int×Bool))) (List Int)))) λd=>dE (eY d a0 0 []) (fO (λ(a:(List (Int×Bool)))=>gu (eP j)<|eh (λ(k:Int) (f:Int)=>(λ(b:(List (Int×Bool)))=>some (.next (v_ b f true))):Int->Int->((List (Int×Bool)))->(Option (fZ ((List (Int×Bool))) (List Int)))) λh=>dE (eY h j 0 a) (fO (λ(b:(List (Int×Bool)))=>dS (p6 b) λi d51=>some i) (λr=>some r))) (λr=>some r))
def eu(a0:dP)(a a2:Int):Option Int:=if e_ (o0 (fl .i64 (ez a0.aiM) a) 16) true (o0 (fl .i64 (ez a0.aiP) a2) 16)then some 3 else some 0
def fX(a0:dP)(a:Fm):Option dP:=gu (fL a0.aiP [a])<|some (dP.mk a0.lemmas a0.aiM (fT a0.aiP [a]))
def lq:Nat->Tm->Tm->Option Bool
 |0,_,_=>none|n+1,a0,b=>eh (λ(f:Bool)=>if f then some false else gu (eP a0.aiJ)<|eh (λ(h:Int) (i:Tm)=>(λ(_:Unit)=>dE (eb b.aiJ h) λc=>dE (lq n i c) λd=>if d then some (.next ())else some (.ret false)):Int->Tm->(Unit)->(Option (fZ (Unit) (Bool)))) λj=>dE (eY j a0.aiJ 0 ()) (fO (λ(_:Unit)=>some true) (λr=>some r))) λa=>if eE a0.aiI b.aiI then a true else if eE a0.aiL b.aiL then a true else dE (fh FU a0.dM b.dM) λk=>if k then a (eE (ez a0.aiJ) (ez b.aiJ))else a true
def lb:Nat->Tm->Int->Option Bool
 |0,_,_=>none|n+1,a0,d=>if o0 a0.aiL d then some false else gu (eP a0.aiJ)<|eh (λ(f:Int) (a:Tm)=>(λ(_:Unit)=>dE (lb n a d) λb=>if b then some (.next ())else some (.ret false)):Int->Tm->(Unit)->(Option (fZ (Unit) (Bool)))) λc=>dE (eY c a0.aiJ 0 ()) (fO (λ(_:Unit)=>some true) (λr=>some r))
def vo(a0:Tm):Option Bool:=if ei a0.aiI 3 then dE (eb a0.aiJ 0) λf=>some (ei f.aiI 2)else if ei a0.aiI 6 then eh (λ(h:Bool)=>some h) λa=>dE (eb a0.aiJ 2) λb=>if ei b.aiI 4 then a true else a (ei b.aiI 5)else if ei a0.aiI 9 then eh (λ(i:Bool)=>some i) λc=>dE (eb a0.aiJ 2) λd=>if ei d.aiI 7 then c true else c (ei d.aiI 8)else if e_ (ei a0.aiI 11) true (ei a0.aiI 12)then dE (eb a0.aiJ 0) λj=>some (ei j.aiI 10)else some false
def k5(a0:Tm):Option Int:=if ei a0.aiI 2 then some 1 else some 0
def nb:Nat->Tm->Int->Option Int
 |0,_,_=>none|n+1,a0,h=>gu (eP a0.aiJ)<|eh (λ(i:Int) (d:Tm)=>(λ(a:Int)=>dE (k5 a0) λb=>dE (nb n d (fl .i64 h b)) λc=>some (.next (fl .i64 a c))):Int->Tm->(Int)->(Option (fZ (Int) (Int)))) λf=>dE (eY f a0.aiJ 0 (e_ (e_ (ei a0.aiI 1) (ei a0.aiL h) false) (fl .i64 0 1) 0)) (fO (λ(a:Int)=>some a) (λr=>some r))
def sl(a0:Tm):Option Int:=dE (fJ FU a0) λb=>if ei a0.aiI 3 then dE (eb a0.aiJ 0) λh=>dE (eb h.aiJ 0) λc=>dE (eb a0.aiJ 1) λi=>dE (fJ FU c) λj=>dE (nb FU c 0) λk=>dE (fJ FU i) λl=>some (fU .i64 (fl .i64 j (Sz .i64 k (fU .i64 l 1))) b)else if ei a0.aiI 6 then dE (eb a0.aiJ 2) λd=>if ei d.aiI 4 then dE (eb a0.aiJ 0) λn=>dE (fJ FU n) λo=>some (fU .i64 o b)else dE (eb a0.aiJ 1) λq=>dE (fJ FU q) λr=>dE (eb d.aiJ 0) λs=>dE (fJ FU s) λt=>some (fU .i64 (fU .i64 (fl .i64 (fl .i64 (fl .i64 2 r) t) b) 1) b)else if ei a0.aiI 9 then dE (eb a0.aiJ 2) λa=>if ei a.aiI 7 then dE (eb a0.aiJ 0) λu=>dE (fJ FU u) λv=>some (fU .i64 v b)else dE (eb a.aiJ 0) λf=>dE (eb a.aiJ 1) λw=>dE (eb a0.aiJ 1) λx=>dE (fJ FU x) λy=>dE (fJ FU f) λA=>dE (fJ FU w) λB=>dE (fJ FU f) λC=>some (fU .i64 (fU .i64 (fU .i64 (fl .i64 (fl .i64 (fl .i64 (fl .i64 3 y) A) B) b) 1) C) b)else if ei a0.aiI 11 then dE (eb a0.aiJ 0) λD=>dE (eb D.aiJ 0) λF=>dE (fJ FU F) λG=>some (fU .i64 G b)else dE (eb a0.aiJ 0) λH=>dE (eb H.aiJ 1) λI=>dE (fJ FU I) λJ=>some (fU .i64 J b)
def rV:Nat->Tm->Int->Int->Option Tm
 |0,_,_,_=>none|n+1,a0,f,a2=>gu (eP a0.aiJ)<|eh (λ(h:Int) (d:Tm)=>(λ(v105:List Tm)=>dE (k5 a0) λb=>dE (rV n d (fl .i64 f b) a2) λa=>gu (fL v105 [a])<|some (.next (fT v105 [a]))):Int->Tm->(List Tm)->(Option (fZ (List Tm) (Tm)))) λc=>dE (eY c a0.aiJ 0 []) (fO (λ(v105:List Tm)=>some (Tm.mk a0.aiI (e_ (e_ (ei a0.aiI 1) (rb a0.aiL f) false) (fl .i64 a0.aiL a2) a0.aiL) a0.dM v105)) (λr=>some r))
def vC:Nat->Tm->Int->Int->Tm->Option Tm
 |0,_,_,_,_=>none|n+1,a0,f,a2,a3=>if ei a0.aiI 1 then if ei a0.aiL (fl .i64 f a2)then dE (rV FU a3 0 (fl .i64 f a2)) λh=>some h else if o0 a0.aiL (fl .i64 f a2)then dE (gn (fU .i64 a0.aiL 1)) λi=>some i else some a0 else gu (eP a0.aiJ)<|eh (λ(k:Int) (j:Tm)=>(λ(a:List Tm)=>dE (k5 a0) λc=>dE (vC n j f (fl .i64 a2 c) a3) λb=>gu (fL a [b])<|some (.next (fT a [b]))):Int->Tm->(List Tm)->(Option (fZ (List Tm) (Tm)))) λd=>dE (eY d a0.aiJ 0 []) (fO (λ(a:List Tm)=>some (Tm.mk a0.aiI a0.aiL a0.dM a)) (λr=>some r))
def qN(a0:Tm):Option Tm:=if ei a0.aiI 3 then dE (eb a0.aiJ 0) λi=>dE (eb i.aiJ 0) λj=>dE (eb a0.aiJ 1) λk=>dE (vC FU j 0 0 k) λl=>some l else if ei a0.aiI 6 then dE (eb a0.aiJ 2) λb=>if ei b.aiI 4 then dE (eb a0.aiJ 0) λn=>some n else dE (eb b.aiJ 0) λc=>dE (eb a0.aiJ 1) λd=>dE (fF 3 [d,c]) λo=>dE (eb a0.aiJ 0) λq=>dE (lh 6 a0.dM [q,d,c]) λr=>dE (fF 3 [o,r]) λs=>some s else if ei a0.aiI 9 then dE (eb a0.aiJ 2) λa=>if ei a.aiI 7 then dE (eb a0.aiJ 0) λt=>some t else dE (eb a.aiJ 0) λu=>dE (eb a.aiJ 1) λf=>dE (eb a0.aiJ 1) λh=>dE (fF 3 [h,u]) λv=>dE (fF 3 [v,f]) λw=>dE (eb a0.aiJ 0) λx=>dE (lh 9 a0.dM [x,h,f]) λy=>dE (fF 3 [w,y]) λA=>some A else if ei a0.aiI 11 then dE (eb a0.aiJ 0) λB=>dE (eb B.aiJ 0) λC=>some C else dE (eb a0.aiJ 0) λD=>dE (eb D.aiJ 1) λF=>some F
def ow:Nat->Tm->Int->Option (Tm×Bool×Bool)
 |0,_,_=>none|n+1,a0,l=>dE (vo a0) λk=>if k then dE (sl a0) λb=>if o0 b l then some ((Tm.mk 0 0 (Ty.mk 0 []) []),true,false)else dE (qN a0) λc=>some (c,true,true)else gu (eP a0.aiJ)<|eh (λ(a:Int) (d:Tm)=>(λ(_:Unit)=>fE (ow n d l) λf h i=>if h then gu (HU a0.aiJ)<|dE (eb a0.aiJ a) λo=>some (.ret ((Tm.mk a0.aiI a0.aiL a0.dM (Fk a0.aiJ a f)),true,i))else some (.next ())):Int->Tm->(Unit)->(Option (fZ (Unit) (Tm×Bool×Bool)))) λj=>dE (eY j a0.aiJ 0 ()) (fO (λ(_:Unit)=>some (a0,false,true)) (λr=>some r))
def kX(a0:Tm)(n:Int):Option (Tm×Int×Int):=dE (lV a0) λs=>if eE s 0 then some ((Tm.mk 0 0 (Ty.mk 0 []) []),0,s)else eh (λ(o:Bool)=>if o then some ((Tm.mk 0 0 (Ty.mk 0 []) []),0,1)else eh ((Ts λ(v164:Int) (b:Int) (c:Int) (v167:Int) (v168:List Ty) (d:List Tm)=>dE (fJ FU (Tm.mk b c (Ty.mk v167 v168) d)) λh=>fE (ow FU (Tm.mk b c (Ty.mk v167 v168) d) (fU .i64 4096 h)) λa i j=>if i then if ei v164 n then some (.ret ((Tm.mk 0 0 (Ty.mk 0 []) []),0,5))else if j then some (.next ((fl .i64 v164 1),a.aiI,a.aiL,a.dM.aiI,a.dM.aiJ,a.aiJ))else some (.ret ((Tm.mk 0 0 (Ty.mk 0 []) []),0,4))else dE (lr FU (Tm.mk b c (Ty.mk v167 v168) d)) λk=>some (.ret (k,v164,0))):(Int×Int×Int×Int×(List Ty)×(List Tm))->(Option (fZ (Int×Int×Int×Int×(List Ty)×(List Tm)) (Tm×Int×Int)))) λl=>dE (oC l FU (0,a0.aiI,a0.aiL,a0.dM.aiI,a0.dM.aiJ,a0.aiJ)) (fO (Ts λ(v164:Int) (b:Int) (c:Int) (v167:Int) (v168:List Ty) (d:List Tm)=>none) (λr=>some r))) λf=>if sx n 0 then f true else if o0 n 65536 then f true else dE (lb FU a0 536870912) λq=>f (mS q)
def lW(a0 d:Tm)(a2:Int):Option Int:=dE (lV a0) λk=>if eE k 0 then some k else dE (lV d) λa=>if eE a 0 then some a else dE (lq FU a0 d) λf=>if f then some 0 else fE (kX a0 a2) λh l b=>if eE b 0 then some b else fE (kX d a2) λi n c=>if eE c 0 then some c else dE (lq FU h i) λj=>if j then some 0 else some 11
def k0:Nat->Fm->Fm->Option Int
 |0,_,_=>none|n+1,a0,k=>eh (λ(l:Bool)=>if l then some 11 else gu (eP a0.ef)<|eh (λ(o:Int) (q:Tm)=>(λ(_:Unit)=>dE (eb k.ef o) λc=>dE (lW q c 1000) λa=>if eE a 0 then some (.ret a)else some (.next ())):Int->Tm->(Unit)->(Option (fZ (Unit) (Int)))) λs=>dE (eY s a0.ef 0 ()) (fO (λ(_:Unit)=>gu (eP a0.aiJ)<|eh (λ(d:Int) (f:Fm)=>(λ(_:Unit)=>dE (eb k.aiJ d) λh=>dE (k0 n f h) λb=>if eE b 0 then some (.ret b)else some (.next ())):Int->Fm->(Unit)->(Option (fZ (Unit) (Int)))) λi=>dE (eY i a0.aiJ 0 ()) (fO (λ(_:Unit)=>some 0) (λr=>some r))) (λr=>some r))) λj=>if eE a0.aiI k.aiI then j true else dE (fh FU a0.dM k.dM) λt=>j (mS t)
def jQ(a0 c:Fm):Option Int:=dE (jP a0) λd=>if eE d 0 then some d else dE (jP c) λa=>if eE a 0 then some a else dE (k0 FU a0 c) λb=>some b
def mU(a0:Fm):Option Int:=dE (kU a0.aiI) λa=>if a then some 1 else some 0
def ik:Nat->Fm->Int->Int->Option Fm
 |0,_,_,_=>none|n+1,a0,l,a2=>gu (eP a0.ef)<|eh (λ(q:Int) (j:Tm)=>(λ(b:List Tm)=>dE (rV FU j l a2) λd=>gu (fL b [d])<|some (.next (fT b [d]))):Int->Tm->(List Tm)->(Option (fZ (List Tm) (Fm)))) λk=>dE (eY k a0.ef 0 []) (fO (λ(b:List Tm)=>gu (eP a0.aiJ)<|eh (λ(o:Int) (f:Fm)=>(λ(a:List Fm)=>dE (mU a0) λh=>dE (ik n f (fl .i64 l h) a2) λc=>gu (fL a [c])<|some (.next (fT a [c]))):Int->Fm->(List Fm)->(Option (fZ (List Fm) (Fm)))) λi=>dE (eY i a0.aiJ 0 []) (fO (λ(a:List Fm)=>some (Fm.mk a0.aiI a0.dM b a)) (λr=>some r))) (λr=>some r))
def fg(a0:dP)(c:List Ty):Option dP:=gu (fL a0.aiM c)<|gu (eP a0.aiP)<|eh (λ(h:Int) (d:Fm)=>(λ(a:List Fm)=>dE (ik FU d 0 (ez c)) λb=>gu (fL a [b])<|some (.next (fT a [b]))):Int->Fm->(List Fm)->(Option (fZ (List Fm) (dP)))) λf=>dE (eY f a0.aiP 0 []) (fO (λ(a:List Fm)=>some (dP.mk a0.lemmas (fT a0.aiM c) a)) (λr=>some r))
def nC(a0:Int)(c:Ty)(a2:Fm):Option Fm:=dE (iQ FU c) λa=>dE (ly FU a2) λb=>some (Fm.mk a0 a [] [b])
def gk(a0:List Int)(c:Int):Option (List Int):=gu (eP a0)<|eh (λ(h:Int) (b:Int)=>(λ(a:List Int)=>eh (λ(d:List Int)=>some (.next d)) λj57=>if rb b c then gu (fL a [(fU .i64 b c)])<|j57 (fT a [(fU .i64 b c)])else j57 a):Int->Int->(List Int)->(Option (fZ (List Int) (List Int)))) λf=>dE (eY f a0 0 []) (fO (λ(a:List Int)=>some a) (λr=>some r))
def rF(a0:List Int):Option Bool:=eh (λ(v6:Bool)=>some v6) λa=>if o0 (ez a0) 0 then dE (eb a0 0) λb=>a (ei b 0)else a false
def jb(a0:List Ty)(d:Tm):Option (Ty×Int):=dE (lU a0) λc=>if eE c 0 then some ((Ty.mk 0 []),c)else dS (po a0 d) λa b=>some (a,b)
def pz:Nat->Tm->Int->(List (Int×Bool))->Option ((List (Int×Bool)))
 |0,_,_,_=>none|n+1,a0,a,a2=>eh (λ(h:(List (Int×Bool)))=>gu (eP a0.aiJ)<|eh (λ(i:Int) (b:Tm)=>(λ(v51:(List (Int×Bool)))=>dE (k5 a0) λc=>dE (pz n b (fl .i64 a c) v51) λd73=>some (.next d73)):Int->Tm->((List (Int×Bool)))->(Option (fZ ((List (Int×Bool))) ((List (Int×Bool)))))) λd=>dE (eY d a0.aiJ 0 h) (fO (λ(v51:(List (Int×Bool)))=>some v51) (λr=>some r))) λf=>if e_ (ei a0.aiI 1) (rb a0.aiL a) false then f (v_ a2 (fU .i64 a0.aiL a) true)else f a2
def vp(a0:Tm):Option ((List Int)×Int):=dE (lV a0) λb=>if eE b 0 then some ([],b)else dE (pz FU a0 0 []) λd11=>dS (p6 d11) λa d17=>some (a,0)
def ke(a0:Tm):Option (List Int):=dS (vp a0) λa b=>some a
def nZ:Nat->Fm->Int->Option Bool
 |0,_,_=>none|n+1,a0,i=>gu (eP a0.ef)<|eh (λ(j:Int) (a:Tm)=>(λ(_:Unit)=>dE (lb FU a i) λb=>if b then some (.next ())else some (.ret false)):Int->Tm->(Unit)->(Option (fZ (Unit) (Bool)))) λc=>dE (eY c a0.ef 0 ()) (fO (λ(_:Unit)=>gu (eP a0.aiJ)<|eh (λ(k:Int) (d:Fm)=>(λ(_:Unit)=>dE (nZ n d i) λf=>if f then some (.next ())else some (.ret false)):Int->Fm->(Unit)->(Option (fZ (Unit) (Bool)))) λh=>dE (eY h a0.aiJ 0 ()) (fO (λ(_:Unit)=>some true) (λr=>some r))) (λr=>some r))
def pc:Nat->Fm->Int->Option Int
 |0,_,_=>none|n+1,a0,l=>gu (eP a0.ef)<|eh (λ(o:Int) (h:Tm)=>(λ(b:Int)=>dE (nb FU h l) λi=>some (.next (fl .i64 b i))):Int->Tm->(Int)->(Option (fZ (Int) (Int)))) λj=>dE (eY j a0.ef 0 0) (fO (λ(b:Int)=>gu (eP a0.aiJ)<|eh (λ(q:Int) (k:Fm)=>(λ(a:Int)=>dE (mU a0) λc=>dE (pc n k (fl .i64 l c)) λd=>some (.next (fl .i64 a d))):Int->Fm->(Int)->(Option (fZ (Int) (Int)))) λf=>dE (eY f a0.aiJ 0 b) (fO (λ(a:Int)=>some a) (λr=>some r))) (λr=>some r))
def xR:Nat->Fm->Int->Int->Tm->Option Fm
 |0,_,_,_,_=>none|n+1,a0,l,a2,a3=>gu (eP a0.ef)<|eh (λ(q:Int) (j:Tm)=>(λ(b:List Tm)=>dE (vC FU j l a2 a3) λd=>gu (fL b [d])<|some (.next (fT b [d]))):Int->Tm->(List Tm)->(Option (fZ (List Tm) (Fm)))) λk=>dE (eY k a0.ef 0 []) (fO (λ(b:List Tm)=>gu (eP a0.aiJ)<|eh (λ(o:Int) (f:Fm)=>(λ(a:List Fm)=>dE (mU a0) λh=>dE (xR n f l (fl .i64 a2 h) a3) λc=>gu (fL a [c])<|some (.next (fT a [c]))):Int->Fm->(List Fm)->(Option (fZ (List Fm) (Fm)))) λi=>dE (eY i a0.aiJ 0 []) (fO (λ(a:List Fm)=>some (Fm.mk a0.aiI a0.dM b a)) (λr=>some r))) (λr=>some r))
def x_(a0:Fm)(f:Int)(a2:Tm):Option (Fm×Int):=dE (jP a0) λo=>if eE o 0 then some ((Fm.mk 0 (Ty.mk 0 []) [] []),o)else if e_ (sx f 0) true (o0 f 4096)then some ((Fm.mk 0 (Ty.mk 0 []) [] []),1)else dE (lV a2) λa=>if eE a 0 then some ((Fm.mk 0 (Ty.mk 0 []) [] []),a)else eh (λ(h:Bool)=>if h then some ((Fm.mk 0 (Ty.mk 0 []) [] []),1)else dE (lX FU a0) λi=>dE (pc FU a0 f) λj=>dE (fJ FU a2) λk=>if o0 (fl .i64 i (Sz .i64 j (fU .i64 k 1))) 4096 then some ((Fm.mk 0 (Ty.mk 0 []) [] []),4)else dE (xR FU a0 f 0 a2) λb=>dE (ly FU b) λc=>some (c,0)) λd=>dE (nZ FU a0 536870912) λl=>if l then dE (lb FU a2 536870912) λn=>d (mS n)else d true
def jq(a0:Fm)(a:Tm):Option (Fm×Int):=dS (x_ a0 0 a) λb c=>some (b,c)
def u_:Nat->Tm->Int->Option Bool
 |0,_,_=>none|n+1,a0,f=>if e_ (ei a0.aiI 1) (ei a0.aiL f) false then some true else gu (eP a0.aiJ)<|eh (λ(h:Int) (c:Tm)=>(λ(_:Unit)=>dE (k5 a0) λa=>dE (u_ n c (fl .i64 f a)) λb=>if b then some (.ret true)else some (.next ())):Int->Tm->(Unit)->(Option (fZ (Unit) (Bool)))) λd=>dE (eY d a0.aiJ 0 ()) (fO (λ(_:Unit)=>some false) (λr=>some r))
def p8:Nat->Fm->Int->Option Bool
 |0,_,_=>none|n+1,a0,j=>gu (eP a0.ef)<|eh (λ(k:Int) (d:Tm)=>(λ(_:Unit)=>dE (u_ FU d j) λf=>if f then some (.ret true)else some (.next ())):Int->Tm->(Unit)->(Option (fZ (Unit) (Bool)))) λh=>dE (eY h a0.ef 0 ()) (fO (λ(_:Unit)=>gu (eP a0.aiJ)<|eh (λ(l:Int) (i:Fm)=>(λ(_:Unit)=>dE (mU a0) λa=>dE (p8 n i (fl .i64 j a)) λb=>if b then some (.ret true)else some (.next ())):Int->Fm->(Unit)->(Option (fZ (Unit) (Bool)))) λc=>dE (eY c a0.aiJ 0 ()) (fO (λ(_:Unit)=>some false) (λr=>some r))) (λr=>some r))
def mY:Nat->Fm->Option (Fm×Int)
 |0,_=>none|n+1,a0=>gu (eP a0.ef)<|eh (λ(s:Int) (k:Tm)=>(λ(b:List Tm)=>fE (kX k 1000) λc o d=>if eE d 0 then some (.ret ((Fm.mk 0 (Ty.mk 0 []) [] []),d))else gu (fL b [c])<|some (.next (fT b [c]))):Int->Tm->(List Tm)->(Option (fZ (List Tm) (Fm×Int)))) λl=>dE (eY l a0.ef 0 []) (fO (λ(b:List Tm)=>gu (eP a0.aiJ)<|eh (λ(q:Int) (i:Fm)=>(λ(a:List Fm)=>dS (mY n i) λf h=>if eE h 0 then some (.ret ((Fm.mk 0 (Ty.mk 0 []) [] []),h))else gu (fL a [f])<|some (.next (fT a [f]))):Int->Fm->(List Fm)->(Option (fZ (List Fm) (Fm×Int)))) λj=>dE (eY j a0.aiJ 0 []) (fO (λ(a:List Fm)=>some ((Fm.mk a0.aiI a0.dM b a),0)) (λr=>some r))) (λr=>some r))
def gX(a0:dP)(b:Tm)(a2:Int):Option Int:=dS (jb a0.aiM b) λc a=>if eE a 0 then some a else if eE c.aiI a2 then some 7 else some 0
def yg(a0 c:Tm):Option Fm:=dE (lr FU a0) λa=>dE (lr FU c) λb=>some (Fm.mk 1 (Ty.mk 0 []) [a,b] [])
def jt:Nat->Fm->Option Bool
 |0,_=>none|n+1,a0=>if ei a0.aiI 1 then some false else if ei a0.aiI 2 then eh (λ(b:Bool)=>some b) λa=>dE (eb a0.aiJ 0) λc=>dE (jt n c) λd=>if d then a true else dE (eb a0.aiJ 1) λf=>dE (jt n f) λh=>a h else if ei a0.aiI 5 then some true else dE (eb a0.aiJ (fU .i64 (ez a0.aiJ) 1)) λi=>dE (jt n i) λj=>some j
def ns(a0:Fm):Option (Bool×Int):=dE (jP a0) λb=>if eE b 0 then some (false,b)else dE (jt FU a0) λa=>some (a,0)
mutual
def ej:Nat->dP->Pf->Option (su×Int)
 |0,_,_=>none|n+1,a0,i=>fE (ee n a0 i) λb j h=>if eE h 0 then some ((su.mk (Fm.mk 0 (Ty.mk 0 []) [] []) []),h)else dE (jP b) λc=>if eE c 0 then some ((su.mk (Fm.mk 0 (Ty.mk 0 []) [] []) []),4)else eh (λ(d:List Int)=>some ((su.mk b d),0)) λa=>dS (ns b) λf k=>if f then a j else a []
def ee:Nat->dP->Pf->Option (Fm×(List Int)×Int)
 |0,_,_=>none|n+1,a0,a=>if ei a.aiI 1 then if rb a.aiL (ez a0.aiP)then some ((Fm.mk 0 (Ty.mk 0 []) [] []),[],8)else dE (eb a0.aiP (fU .i64 (fU .i64 (ez a0.aiP) 1) a.aiL)) λu=>some (u,[],0)else if ei a.aiI 2 then if rb a.aiL (ez a0.lemmas)then some ((Fm.mk 0 (Ty.mk 0 []) [] []),[],9)else dE (eb a0.lemmas a.aiL) λv=>some (v,[],0)else if ei a.aiI 3 then dE (eb a.aiJ 0) λw=>dS (ej n a0 w) λh i=>if eE i 0 then some ((Fm.mk 0 (Ty.mk 0 []) [] []),[],i)else dE (eb a.aiJ 1) λx=>dS (ej n a0 x) λj y=>dE (rC 2 h.dW j.dW) λA=>dE (gd h.jG j.jG) λB=>some (A,B,y)else if e_ (ei a.aiI 4) true (ei a.aiI 5)then dE (eb a.aiJ 0) λC=>dS (ej n a0 C) λc k=>if eE k 0 then some ((Fm.mk 0 (Ty.mk 0 []) [] []),[],k)else if eE c.dW.aiI 2 then some ((Fm.mk 0 (Ty.mk 0 []) [] []),[],10)else dE (eb c.dW.aiJ (fU .i64 a.aiI 4)) λD=>some (D,c.jG,0)else if ei a.aiI 6 then dE (eb a.fI 0) λd=>dE (jh a0.aiM d) λl=>if eE l 0 then some ((Fm.mk 0 (Ty.mk 0 []) [] []),[],l)else dE (eu a0 0 1) λo=>if eE o 0 then some ((Fm.mk 0 (Ty.mk 0 []) [] []),[],o)else dE (fX a0 d) λF=>dE (eb a.aiJ 0) λG=>dS (ej n F G) λq H=>dE (rC 3 d q.dW) λI=>some (I,q.jG,H)else if ei a.aiI 7 then dE (eb a.aiJ 0) λJ=>dS (ej n a0 J) λb r=>if eE r 0 then some ((Fm.mk 0 (Ty.mk 0 []) [] []),[],r)else if eE b.dW.aiI 3 then some ((Fm.mk 0 (Ty.mk 0 []) [] []),[],10)else dE (eb a.aiJ 1) λK=>dS (ej n a0 K) λs t=>if eE t 0 then some ((Fm.mk 0 (Ty.mk 0 []) [] []),[],t)else dE (eb b.dW.aiJ 1) λL=>dE (gd b.jG s.jG) λM=>dE (eb b.dW.aiJ 0) λN=>dE (jQ N s.dW) λO=>some (L,M,O)else if e_ (ei a.aiI 8) true (ei a.aiI 12)then fE (mQ n a0 a) λP Q R=>some (P,Q,R)else if e_ (ei a.aiI 9) true (ei a.aiI 13)then fE (nK n a0 a) λS T U=>some (S,T,U)else if e_ (ei a.aiI 10) true (ei a.aiI 14)then fE (nT n a0 a) λV W X=>some (V,W,X)else if e_ (ei a.aiI 11) true (ei a.aiI 15)then fE (mb n a0 a) λY Z ad=>some (Y,Z,ad)else if ei a.aiI 16 then fE (oR n a0 a) λae af ah=>some (ae,af,ah)else if ei a.aiI 17 then fE (nF n a0 a) λai ak an=>some (ai,ak,an)else if ei a.aiI 18 then dE (eb a.ef 0) λf=>dE (yg f f) λao=>dE (gX a0 f 1) λaq=>some (ao,[],aq)else if ei a.aiI 19 then fE (nD n a0 a) λar aw ax=>some (ar,aw,ax)else fE (m6 n a0 a) λay az aA=>some (ay,az,aA)
def mQ:Nat->dP->Pf->Option (Fm×(List Int)×Int)
 |0,_,_=>none|n+1,a0,b=>dE (eu a0 1 0) λo=>if eE o 0 then some ((Fm.mk 0 (Ty.mk 0 []) [] []),[],o)else dE (fg a0 [b.dM]) λd=>dE (eb b.aiJ 0) λf=>dS (ej n d f) λa c=>if eE c 0 then some ((Fm.mk 0 (Ty.mk 0 []) [] []),[],c)else if ei b.aiI 8 then dE (nC 4 b.dM a.dW) λh=>dE (gk a.jG 1) λi=>some (h,i,0)else dE (rF a.jG) λj=>if j then some ((Fm.mk 0 (Ty.mk 0 []) [] []),[],12)else dE (nC 6 b.dM a.dW) λk=>dE (gk a.jG 1) λl=>some (k,l,0)
def nK:Nat->dP->Pf->Option (Fm×(List Int)×Int)
 |0,_,_=>none|n+1,a0,c=>dE (eb c.ef 0) λd=>dS (jb a0.aiM d) λr q=>if eE q 0 then some ((Fm.mk 0 (Ty.mk 0 []) [] []),[],q)else dE (eb c.aiJ 0) λf=>dS (ej n a0 f) λa b=>if eE b 0 then some ((Fm.mk 0 (Ty.mk 0 []) [] []),[],b)else dE (ke d) λh=>dE (gd a.jG h) λi=>if eE a.dW.aiI (e_ (ei c.aiI 13) 6 4)then some ((Fm.mk 0 (Ty.mk 0 []) [] []),[],10)else dE (fh FU a.dW.dM r) λj=>if j then dE (eb a.dW.aiJ 0) λk=>dS (jq k d) λl o=>some (l,(e_ (ei c.aiI 13) a.jG i),o)else some ((Fm.mk 0 (Ty.mk 0 []) [] []),[],7)
def nT:Nat->dP->Pf->Option (Fm×(List Int)×Int)
 |0,_,_=>none|n+1,a0,c=>dE (eb c.fI 0) λa=>dE (eb c.ef 0) λb=>dE (jh a0.aiM a) λd=>if eE d 0 then some ((Fm.mk 0 (Ty.mk 0 []) [] []),[],d)else if eE a.aiI (e_ (ei c.aiI 14) 7 5)then some ((Fm.mk 0 (Ty.mk 0 []) [] []),[],10)else dS (jb a0.aiM b) λj f=>if eE f 0 then some ((Fm.mk 0 (Ty.mk 0 []) [] []),[],f)else dE (fh FU a.dM j) λk=>if k then dE (eb c.aiJ 0) λl=>dE (eb a.aiJ 0) λo=>dS (eS n a0 l o b) λh q=>eh (λ(r:List Int)=>some (a,r,q)) λi=>if ei (e_ (ei c.aiI 14) 7 5) 5 then dE (ke b) λs=>dE (gd h s) λt=>i t else i h else some ((Fm.mk 0 (Ty.mk 0 []) [] []),[],7)
def mb:Nat->dP->Pf->Option (Fm×(List Int)×Int)
 |0,_,_=>none|n+1,a0,y=>dE (eb y.aiJ 0) λA=>dS (ej n a0 A) λc i=>if eE i 0 then some ((Fm.mk 0 (Ty.mk 0 []) [] []),[],i)else if eE c.dW.aiI (e_ (ei y.aiI 15) 7 5)then some ((Fm.mk 0 (Ty.mk 0 []) [] []),[],10)else dE (eu a0 1 1) λj=>if eE j 0 then some ((Fm.mk 0 (Ty.mk 0 []) [] []),[],j)else dE (fg a0 [c.dW.dM]) λB=>dE (eb c.dW.aiJ 0) λC=>dE (fX B C) λD=>dE (eb y.aiJ 1) λF=>dS (ej n D F) λb k=>if eE k 0 then some ((Fm.mk 0 (Ty.mk 0 []) [] []),[],k)else eh (λ(G:Int) (l:Int) (o:List Ty) (q:List Tm) (r:List Fm)=>eh (λ(v139:Bool)=>if v139 then some ((Fm.mk 0 (Ty.mk 0 []) [] []),[],12)else dE (ik FU (Fm.mk G (Ty.mk l o) q r) 1 (-1)) λs=>dE (gk b.jG 1) λt=>dE (gd c.jG t) λu=>some (s,u,0)) λd=>if ei (e_ (ei y.aiI 15) 7 5) 7 then dE (rF b.jG) λv=>d v else d false) λf=>dE (p8 FU b.dW 0) λw=>if w then dS (mY FU b.dW) λa h=>if eE h 0 then some ((Fm.mk 0 (Ty.mk 0 []) [] []),[],h)else dE (p8 FU a 0) λx=>if x then some ((Fm.mk 0 (Ty.mk 0 []) [] []),[],6)else f a.aiI a.dM.aiI a.dM.aiJ a.ef a.aiJ else f b.dW.aiI b.dW.dM.aiI b.dW.dM.aiJ b.dW.ef b.dW.aiJ
def oR:Nat->dP->Pf->Option (Fm×(List Int)×Int)
 |0,_,_=>none|n+1,a0,C=>dE (eb C.fI 0) λa=>dE (eb C.ef 0) λc=>dE (jn) λd=>gu (fL a0.aiM [d])<|dE (kB (fT a0.aiM [d]) a) λf=>if eE f 0 then some ((Fm.mk 0 (Ty.mk 0 []) [] []),[],f)else dE (gX a0 c 1) λh=>if eE h 0 then some ((Fm.mk 0 (Ty.mk 0 []) [] []),[],h)else dE (eb C.aiJ 0) λD=>dE (fF 4 []) λF=>dS (eS n a0 D a F) λG i=>if eE i 0 then some ((Fm.mk 0 (Ty.mk 0 []) [] []),[],i)else dE (eu a0 1 1) λj=>if eE j 0 then some ((Fm.mk 0 (Ty.mk 0 []) [] []),[],j)else dE (jn) λk=>dE (fg a0 [k]) λl=>dE (fX l a) λo=>dE (eb C.aiJ 1) λq=>dE (ik FU a 1 1) λr=>dE (gn 0) λs=>dE (fF 5 [s]) λt=>dS (eS n o q r t) λu b=>if eE b 0 then some ((Fm.mk 0 (Ty.mk 0 []) [] []),[],b)else dS (jq a c) λv w=>dE (ke c) λx=>dE (gd x G) λy=>dE (gk u 1) λA=>dE (gd y A) λB=>some (v,B,w)
def nF:Nat->dP->Pf->Option (Fm×(List Int)×Int)
 |0,_,_=>none|n+1,a0,G=>dE (eb G.fI 0) λa=>dE (eb G.ef 0) λc=>dE (mc) λd=>gu (fL a0.aiM [d])<|dE (kB (fT a0.aiM [d]) a) λf=>if eE f 0 then some ((Fm.mk 0 (Ty.mk 0 []) [] []),[],f)else dE (gX a0 c 2) λh=>if eE h 0 then some ((Fm.mk 0 (Ty.mk 0 []) [] []),[],h)else dE (eb G.aiJ 0) λH=>dE (fF 7 []) λI=>dS (eS n a0 H a I) λJ i=>if eE i 0 then some ((Fm.mk 0 (Ty.mk 0 []) [] []),[],i)else dE (eu a0 2 1) λj=>if eE j 0 then some ((Fm.mk 0 (Ty.mk 0 []) [] []),[],j)else dE (jn) λk=>dE (mc) λl=>dE (fg a0 [k,l]) λo=>dE (ik FU a 1 1) λq=>dE (fX o q) λr=>dE (eb G.aiJ 1) λs=>dE (ik FU a 1 2) λt=>dE (gn 1) λu=>dE (gn 0) λv=>dE (fF 8 [u,v]) λw=>dS (eS n r s t w) λx b=>if eE b 0 then some ((Fm.mk 0 (Ty.mk 0 []) [] []),[],b)else dS (jq a c) λy A=>dE (ke c) λB=>dE (gd B J) λC=>dE (gk x 2) λD=>dE (gd C D) λF=>some (y,F,A)
def nD:Nat->dP->Pf->Option (Fm×(List Int)×Int)
 |0,_,_=>none|n+1,a0,k=>dE (eb k.fI 0) λl=>dE (jn) λb=>gu (fL a0.aiM [b])<|dE (kB (fT a0.aiM [b]) l) λc=>if eE c 0 then some ((Fm.mk 0 (Ty.mk 0 []) [] []),[],c)else dE (eb k.aiJ 0) λo=>dS (ej n a0 o) λa d=>if eE d 0 then some ((Fm.mk 0 (Ty.mk 0 []) [] []),[],d)else if eE a.dW.aiI 1 then some ((Fm.mk 0 (Ty.mk 0 []) [] []),[],10)else dE (eb k.aiJ 1) λq=>dE (eb a.dW.ef 0) λr=>dS (eS n a0 q l r) λs f=>if eE f 0 then some ((Fm.mk 0 (Ty.mk 0 []) [] []),[],f)else dE (eb a.dW.ef 1) λh=>dS (jq l h) λi j=>some (i,s,j)
def m6:Nat->dP->Pf->Option (Fm×(List Int)×Int)
 |0,_,_=>none|n+1,a0,x=>dE (eb x.aiJ 0) λh=>dS (ej n a0 h) λa b=>if eE b 0 then some ((Fm.mk 0 (Ty.mk 0 []) [] []),[],b)else eh (λ(i:Bool)=>if i then some ((Fm.mk 0 (Ty.mk 0 []) [] []),[],10)else dE (eb a.dW.aiJ 0) λc=>dE (kR a.dW.dM c.dM) λd=>dE (h8 d) λj=>if eE j 0 then some ((Fm.mk 0 (Ty.mk 0 []) [] []),[],4)else dE (eb c.aiJ 0) λk=>dE (ik FU k 2 1) λl=>dE (gn 1) λo=>dE (gn 0) λq=>dE (fF 3 [o,q]) λr=>dS (jq l r) λs t=>dE (nC 4 a.dW.dM s) λu=>dE (nC 5 d u) λv=>some (v,a.jG,t)) λf=>if eE a.dW.aiI 4 then f true else dE (eb a.dW.aiJ 0) λw=>f (eE w.aiI 5)
def eS:Nat->dP->Pf->Fm->Tm->Option ((List Int)×Int)
 |0,_,_,_,_=>none|n+1,a0,h,a2,a3=>dS (ej n a0 h) λd f=>if eE f 0 then some ([],f)else dS (jq a2 a3) λb a=>if eE a 0 then some ([],a)else dE (jQ b d.dW) λc=>some (d.jG,c)
end
def kz(a0:List Fm)(d:Sq)(a2:Pf):Option (su×Int):=dE (tE a0 d) λh=>if eE h 0 then some ((su.mk (Fm.mk 0 (Ty.mk 0 []) [] []) []),h)else dE (tV a2) λb=>if eE b 0 then some ((su.mk (Fm.mk 0 (Ty.mk 0 []) [] []) []),b)else dS (ej FU (dP.mk a0 d.aiM d.aiP) a2) λa c=>if eE c 0 then some ((su.mk (Fm.mk 0 (Ty.mk 0 []) [] []) []),c)else dE (ly FU a.dW) λf=>gu (fL [] a.jG)<|some ((su.mk f (fT [] a.jG)),0)
def jd(a0:Fm):Option Bool:=dS (ns a0) λa b=>some a
def C6:Option Ty:=some (Ty.mk 5 [])
def yp(a0 a:Ty):Option Ty:=some (Ty.mk 3 [a0,a])
def Dc(a0:Ty):Option (Int×Int):=dE (h8 a0) λb=>if eE b 0 then some (0,b)else dE (pk FU a0) λa=>some (a,0)
def tj(a0:Ty)(b:Int):Option (Ty×Int):=if eE b 0 then some ((Ty.mk 0 []),b)else dS (Dc a0) λc a=>if eE a 0 then some ((Ty.mk 0 []),a)else some (a0,0)
def Bw(a0 a:Ty):Option Ty:=some (Ty.mk 4 [a0,a])
def nU:Nat->Fm->Option (Ty×Int)
 |0,_=>none|n+1,a0=>dE (jd a0) λae=>if ae then if ei a0.aiI 2 then dE (eb a0.aiJ 0) λa=>dE (jd a) λi=>if i then dE (eb a0.aiJ 1) λb=>dE (jd b) λj=>if j then dS (nU n a) λk c=>if eE c 0 then some ((Ty.mk 0 []),c)else dS (nU n b) λl o=>dE (yp k l) λq=>dS (tj q o) λr s=>some (r,s)else dS (nU n a) λt u=>some (t,u)else dE (eb a0.aiJ 1) λv=>dS (nU n v) λw x=>some (w,x)else if ei a0.aiI 3 then dE (eb a0.aiJ 0) λd=>dE (jd d) λy=>if y then dS (nU n d) λA f=>if eE f 0 then some ((Ty.mk 0 []),f)else dE (eb a0.aiJ 1) λB=>dS (nU n B) λC D=>dE (Bw A C) λF=>dS (tj F D) λG H=>some (G,H)else dE (eb a0.aiJ 1) λI=>dS (nU n I) λJ K=>some (J,K)else if ei a0.aiI 4 then dE (eb a0.aiJ 0) λL=>dS (nU n L) λM N=>dE (Bw a0.dM M) λO=>dS (tj O N) λP Q=>some (P,Q)else if ei a0.aiI 5 then dE (eb a0.aiJ 0) λh=>dE (jd h) λR=>if R then dS (nU n h) λS T=>dE (yp a0.dM S) λU=>dS (tj U T) λV W=>some (V,W)else some (a0.dM,0)else dE (eb a0.aiJ 0) λX=>dS (nU n X) λY Z=>some (Y,Z)else dE (C6) λad=>some (ad,0)
def py(a0:Fm):Option (Ty×Int):=dE (jP a0) λc=>if eE c 0 then some ((Ty.mk 0 []),c)else dS (nU FU a0) λa b=>some (a,b)
def yS(a0:List Fm)(l:List Tm):Option Int:=if eE (ez l) (ez a0)then some 9 else eh ((λ(a:Int)=>if sx a (ez a0)then dE (eb a0 a) λd=>dS (py d) λf b=>if eE b 0 then some (.ret b)else dE (eb l a) λh=>dS (jb [] h) λi c=>if eE c 0 then some (.ret c)else dE (fh FU f i) λj=>if j then some (.next (fl .i64 a 1))else some (.ret 7)else some (.Jq a)):(Int)->(Option (fZ (Int) (Int)))) λk=>dE (oC k FU 0) (fO (λ(a:Int)=>some 0) (λr=>some r))
def fG(a0:dU):Option (Int×dU):=some ((fl .i64 a0.next 1),(dU.mk a0.lemmas a0.ef (fl .i64 a0.next 1)))
def qp(a0:dU)(F:Sq):Option (en×(List Int)×dU):=eh ((un4 λ(b:List Int) (v164:Int) (d:List Tm) (j:dU)=>if sx v164 (ez F.aiM)then dS (fG j) λk d197=>gu (fL b [k])<|dE (eb (fT b [k]) v164) λu=>dE (fA u) λl=>gu (fL d [l])<|some (.next ((fT b [k]),(fl .i64 v164 1),(fT d [l]),d197))else some (.Jq (b,v164,d,j))):((List Int)×Int×(List Tm)×dU)->(Option (fZ ((List Int)×Int×(List Tm)×dU) (en×(List Int)×dU)))) λv=>dE (oC v FU ([],0,[],a0)) (fO (un4 λ(b:List Int) (v164:Int) (d:List Tm) (j:dU)=>eh ((un4 λ(c:List Int) (f:Int) (h:List Tm) (i:dU)=>if sx f (ez F.aiP)then eh (λ(w:List Int) (n:Int) (o:Int) (q:Int) (s:List Ty) (t:List Tm) (x:dU)=>gu (fL h [(Tm.mk n o (Ty.mk q s) t)])<|some (.next (w,(fl .i64 f 1),(fT h [(Tm.mk n o (Ty.mk q s) t)]),x))) λj718=>dE (eb F.aiP f) λy=>dE (jd y) λA=>if A then dS (fG i) λB C=>dE (fA B) λa=>gu (fL c [a.aiL])<|j718 (fT c [a.aiL]) a.aiI a.aiL a.dM.aiI a.dM.aiJ a.aiJ C else j718 c 0 0 0 [] [] i else some (.Jq (c,f,h,i))):((List Int)×Int×(List Tm)×dU)->(Option (fZ ((List Int)×Int×(List Tm)×dU) (en×(List Int)×dU)))) λD=>dE (oC D FU (b,0,[],j)) (fO (un4 λ(c:List Int) (f:Int) (h:List Tm) (i:dU)=>some ((en.mk F d h),c,i)) (λr=>some r))) (λr=>some r))
def vz(a0:List Tm)(a:Tm):Option (List Tm):=gu (fL [] a0)<|gu (fL (fT [] a0) [a])<|some (fT (fT [] a0) [a])
def gR:Nat->dU->Tm->(List Tm)->Option (Tm×dU)
 |0,_,_,_=>none|n+1,a0,b,a2=>if ei b.aiI 1 then dE (eb a2 (fU .i64 (fU .i64 (ez a2) 1) b.aiL)) λo=>some (o,a0)else if ei b.aiI 2 then dS (fG a0) λd d57=>dE (eb b.aiJ 0) λi=>dE (fA d) λj=>dE (vz a2 j) λk=>dS (gR n d57 i k) λl d93=>some ((Tm.mk b.aiI d b.dM [l]),d93)else eh ((Xz λ(v210:Int) (a:List Tm) (v212:dU)=>if sx v210 (ez b.aiJ)then dE (eb b.aiJ v210) λf=>dS (gR n v212 f a2) λc d241=>gu (fL a [c])<|some (.next ((fl .i64 v210 1),(fT a [c]),d241))else some (.Jq (v210,a,v212))):(Int×(List Tm)×dU)->(Option (fZ (Int×(List Tm)×dU) (Tm×dU)))) λh=>dE (oC h FU (0,[],a0)) (fO (Xz λ(v210:Int) (a:List Tm) (v212:dU)=>some ((Tm.mk b.aiI 0 b.dM a),v212)) (λr=>some r))
def gS(a0:dU)(b:en)(a2:Pf):Option (Fm×dU):=dS (kz a0.lemmas b.ie a2) λa c=>some (a.dW,a0)
def lP(a0:en)(a:Fm)(a2:Tm):Option en:=dE (vz a0.aiP a2) λb=>gu (fL [] a0.ie.aiP)<|gu (fL (fT [] a0.ie.aiP) [a])<|some (en.mk (Sq.mk a0.ie.aiM (fT (fT [] a0.ie.aiP) [a])) a0.vars b)
def mJ(a0:Ty)(a:Int)(a2:Tm):Option Tm:=some (Tm.mk 2 a a0 [a2])
def p5(a0 a:Tm):Option Tm:=dE (iS 3 [a0,a]) λb=>some b
def yO(a0:Fm)(b a2:Int):Option (Fm×Int):=dE (jP a0) λi=>if eE i 0 then some ((Fm.mk 0 (Ty.mk 0 []) [] []),i)else eh (λ(c:Bool)=>if c then some ((Fm.mk 0 (Ty.mk 0 []) [] []),1)else dE (ik FU a0 b a2) λd=>dE (ly FU d) λf=>some (f,0)) λa=>if sx b 0 then a true else if o0 b 4096 then a true else if sx a2 0 then a true else if o0 a2 4096 then a true else dE (nZ FU a0 536870912) λh=>a (mS h)
def lZ(a0:en)(f:Ty)(a2:Tm):Option en:=dE (vz a0.vars a2) λi=>gu (fL [] a0.ie.aiM)<|gu (fL (fT [] a0.ie.aiM) [f])<|eh ((zU λ(v117:Int) (a:List Fm)=>if sx v117 (ez a0.ie.aiP)then dE (eb a0.ie.aiP v117) λc=>dS (yO c 0 1) λb h=>gu (fL a [b])<|some (.next ((fl .i64 v117 1),(fT a [b])))else some (.Jq (v117,a))):(Int×(List Fm))->(Option (fZ (Int×(List Fm)) (en)))) λd=>dE (oC d FU (0,[])) (fO (zU λ(v117:Int) (a:List Fm)=>some (en.mk (Sq.mk (fT (fT [] a0.ie.aiM) [f]) a) i a0.aiP)) (λr=>some r))
def p7:Nat->Ty->Option Tm
 |0,_=>none|n+1,a0=>if ei a0.aiI 1 then dE (fF 4 []) λo=>some o else if ei a0.aiI 2 then dE (fF 7 []) λq=>some q else if ei a0.aiI 3 then dE (eb a0.aiJ 0) λa=>dE (p7 n a) λb=>dE (eb a0.aiJ 1) λc=>dE (p7 n c) λd=>dE (fF 10 [b,d]) λf=>some f else if ei a0.aiI 4 then dE (eb a0.aiJ 0) λh=>dE (eb a0.aiJ 1) λi=>dE (p7 n i) λj=>dE (lh 2 h [j]) λk=>some k else dE (fF 13 []) λl=>some l
def xi(a0:Ty):Option (Tm×Int):=dE (h8 a0) λb=>if eE b 0 then some ((Tm.mk 0 0 (Ty.mk 0 []) []),b)else dE (p7 FU a0) λa=>some (a,0)
def tl(a0:Ty):Option Tm:=dS (xi a0) λa b=>some a
def u7:Option Ty:=some (Ty.mk 1 [])
def CN(a0:en)(o:Pf)(a2:List Int)(a3:Tm):Option en:=if ei o.aiI 16 then dE (u7) λq=>dE (eb a2 0) λr=>dE (fA r) λs=>dE (lZ a0 q s) λt=>dE (eb o.fI 0) λu=>dE (lP t u a3) λv=>some v else dE (eb o.fI 0) λa=>dS (yO a 1 1) λb w=>dE (u7) λc=>dE (eb a2 0) λd=>dE (fA d) λf=>dE (lZ a0 c f) λh=>dE (pE) λi=>dE (eb a2 1) λj=>dE (fA j) λk=>dE (lZ h i k) λl=>dE (lP l b a3) λn=>some n
def Ct(a0:Pf)(a:Ty)(a2 a3 a4:Tm):Option Tm:=some (Tm.mk (e_ (ei a0.aiI 17) 9 6) 0 a [a2,a3,a4])
def yq:Nat->Tm->Option Int
 |0,_=>none|n+1,a0=>eh ((zU λ(a:Int) (v46:Int)=>if sx v46 (ez a0.aiJ)then dE (eb a0.aiJ v46) λb=>dE (yq n b) λc=>some (.next ((fl .i64 a c),(fl .i64 v46 1)))else some (.Jq (a,v46))):(Int×Int)->(Option (fZ (Int×Int) (Int)))) λd=>dE (oC d FU (1,0)) (fO (zU λ(a:Int) (v46:Int)=>some a) (λr=>some r))
def zN(a0:Tm)(a:Int):Option (Tm×Int):=if eE a 0 then some ((Tm.mk 0 0 (Ty.mk 0 []) []),a)else dE (yq FU a0) λb=>if o0 b 4096 then some ((Tm.mk 0 0 (Ty.mk 0 []) []),4)else some (a0,0)
mutual
def eN:Nat->dU->en->Pf->Option (Tm×Int×dU)
 |0,_,_,_=>none|n+1,a0,c,a2=>fE (sM n a0 c a2) λd f d7=>dS (zN d f) λa b=>some (a,b,d7)
def sM:Nat->dU->en->Pf->Option (Tm×Int×dU)
 |0,_,_,_=>none|n+1,a0,a,a2=>if ei a2.aiI 1 then dE (eb a.aiP (fU .i64 (fU .i64 (ez a.aiP) 1) a2.aiL)) λaz=>some (az,0,a0)else if ei a2.aiI 2 then dE (eb a0.ef a2.aiL) λaA=>dS (gR FU a0 aA []) λaB aC=>some (aB,0,aC)else if ei a2.aiI 3 then dE (eb a2.aiJ 0) λv=>dS (gS a0 a v) λaD aE=>dE (jd aD) λaF=>dE (eb a2.aiJ 1) λq=>dS (gS aE a q) λaG w=>dE (jd aG) λaH=>if aF then fE (eN n w a v) λx y A=>if e_ (eE y 0) true (mS aH)then some (x,y,A)else fE (eN n A a q) λaI aJ aK=>dE (iS 10 [x,aI]) λaL=>some (aL,aJ,aK)else fE (eN n w a q) λaM aN aO=>some (aM,aN,aO)else if e_ (ei a2.aiI 4) true (ei a2.aiI 5)then dE (eb a2.aiJ 0) λB=>dS (gS a0 a B) λC aP=>fE (eN n aP a B) λc D aQ=>eh (λ(aR:Int) (aS:Int) (aT:Int) (aU:List Ty) (aV:List Tm)=>some ((Tm.mk aR aS (Ty.mk aT aU) aV),D,aQ)) λF=>eh (λ(aW:Bool)=>if aW then dE (iS (e_ (ei a2.aiI 5) 12 11) [c]) λf=>F f.aiI f.aiL f.dM.aiI f.dM.aiJ f.aiJ else F c.aiI c.aiL c.dM.aiI c.dM.aiJ c.aiJ) λr=>if ei D 0 then dE (eb C.aiJ 0) λaX=>dE (jd aX) λaY=>if aY then dE (eb C.aiJ 1) λaZ=>dE (jd aZ) λa6=>r a6 else r false else r false else if ei a2.aiI 6 then dE (eb a2.fI 0) λk=>dE (jd k) λa7=>if a7 then dS (py k) λa8 G=>if eE G 0 then some ((Tm.mk 0 0 (Ty.mk 0 []) []),G,a0)else dS (fG a0) λH a_=>dE (fA H) λa'=>dE (lP a k a') λba=>dE (eb a2.aiJ 0) λbb=>fE (eN n a_ ba bb) λbc bd bf=>dE (mJ a8 H bc) λbg=>some (bg,bd,bf)else dE (lP a k (Tm.mk 0 0 (Ty.mk 0 []) [])) λbh=>dE (eb a2.aiJ 0) λbj=>fE (eN n a0 bh bj) λbk bl bm=>some (bk,bl,bm)else if ei a2.aiI 7 then dE (eb a2.aiJ 0) λI=>fE (eN n a0 a I) λJ K L=>eh (λ(bn:Bool) (M:dU)=>if bn then some (J,K,M)else dE (eb a2.aiJ 1) λbo=>fE (eN n M a bo) λbp bq br=>dE (p5 J bp) λbs=>some (bs,bq,br)) λN=>if eE K 0 then N true L else dS (gS L a I) λbt bu=>dE (eb bt.aiJ 0) λbw=>dE (jd bw) λbz=>N (mS bz) bu else if ei a2.aiI 8 then dS (fG a0) λO bA=>dE (fA O) λbB=>dE (lZ a a2.dM bB) λbC=>dE (eb a2.aiJ 0) λbD=>fE (eN n bA bC bD) λbE bF bG=>dE (mJ a2.dM O bE) λbH=>some (bH,bF,bG)else if ei a2.aiI 9 then dE (eb a2.aiJ 0) λbI=>fE (eN n a0 a bI) λbJ bK bL=>dE (eb a2.ef 0) λbM=>dS (gR FU bL bM a.vars) λbN bO=>dE (p5 bJ bN) λbP=>some (bP,bK,bO)else if ei a2.aiI 10 then dE (eb a2.ef 0) λbQ=>dS (gR FU a0 bQ a.vars) λP Q=>dE (eb a2.fI 0) λbR=>dE (eb bR.aiJ 0) λbS=>dE (jd bS) λbT=>if bT then dE (eb a2.aiJ 0) λbU=>fE (eN n Q a bU) λbV bW bX=>dE (iS 10 [P,bV]) λbY=>some (bY,bW,bX)else some (P,0,Q)else if ei a2.aiI 11 then dE (eb a2.aiJ 0) λR=>dS (gS a0 a R) λd bZ=>fE (eN n bZ a R) λb0 S T=>if eE S 0 then some ((Tm.mk 0 0 (Ty.mk 0 []) []),S,T)else dS (fG T) λl U=>dE (fA l) λh=>eh (λ(b1:Int) (b2:List Ty) (b3:Int) (b4:Int) (b5:Int) (b6:List Ty) (b7:List Tm) (b8:Int) (b9:Int) (b_:Int) (b':List Ty) (ca:List Tm)=>dE (lZ a d.dM (Tm.mk b3 b4 (Ty.mk b5 b6) b7)) λcb=>dE (eb d.aiJ 0) λcc=>dE (lP cb cc (Tm.mk b8 b9 (Ty.mk b_ b') ca)) λcd=>dE (eb a2.aiJ 1) λcf=>fE (eN n U cd cf) λcg ch cj=>dE (mJ (Ty.mk b1 b2) l cg) λck=>dE (p5 ck b0) λcm=>some (cm,ch,cj)) λV=>dE (eb d.aiJ 0) λcn=>dE (jd cn) λcp=>if cp then dS (py d) λW X=>if eE X 0 then some ((Tm.mk 0 0 (Ty.mk 0 []) []),X,U)else dE (fA l) λcq=>dE (iS 11 [cq]) λi=>dE (fA l) λcr=>dE (iS 12 [cr]) λj=>V W.aiI W.aiJ i.aiI i.aiL i.dM.aiI i.dM.aiJ i.aiJ j.aiI j.aiL j.dM.aiI j.dM.aiJ j.aiJ else V d.dM.aiI d.dM.aiJ h.aiI h.aiL h.dM.aiI h.dM.aiJ h.aiJ 0 0 0 [] [] else if ei a2.aiI 12 then dE (tl a2.dM) λcu=>dS (gR FU a0 cu []) λcw cx=>dE (lZ a a2.dM cw) λcy=>dE (eb a2.aiJ 0) λcz=>fE (eN n cx cy cz) λcA cB cD=>some (cA,cB,cD)else if ei a2.aiI 15 then dE (eb a2.aiJ 0) λY=>dS (gS a0 a Y) λb cE=>dE (tl b.dM) λcF=>dS (gR FU cE cF []) λZ ad=>dE (jd b) λcG=>if cG then fE (eN n ad a Y) λcH ae s=>if eE ae 0 then some ((Tm.mk 0 0 (Ty.mk 0 []) []),ae,s)else dS (py b) λcI af=>if eE af 0 then some ((Tm.mk 0 0 (Ty.mk 0 []) []),af,s)else dS (fG s) λah cJ=>dE (lZ a b.dM Z) λcK=>dE (eb b.aiJ 0) λcL=>dE (fA ah) λcM=>dE (lP cK cL cM) λcN=>dE (eb a2.aiJ 1) λcO=>fE (eN n cJ cN cO) λcP cQ cR=>dE (mJ cI ah cP) λcS=>dE (p5 cS cH) λcT=>some (cT,cQ,cR)else dE (lZ a b.dM Z) λcU=>dE (eb b.aiJ 0) λcV=>dE (lP cU cV (Tm.mk 0 0 (Ty.mk 0 []) [])) λcW=>dE (eb a2.aiJ 1) λcX=>fE (eN n ad cW cX) λcY cZ c0=>some (cY,cZ,c0)else if e_ (ei a2.aiI 16) true (ei a2.aiI 17)then Wz (o9 n a0 a a2) λc1 c2 c4 ai ak=>if eE ai 0 then some ((Tm.mk 0 0 (Ty.mk 0 []) []),ai,ak)else dE (eb a2.ef 0) λc6=>dS (gR FU ak c6 a.vars) λc7 c8=>dE (Ct a2 c1 c2 c4 c7) λc9=>some (c9,0,c8)else if ei a2.aiI 19 then dE (eb a2.aiJ 1) λc_=>fE (eN n a0 a c_) λc' da db=>some (c',da,db)else if ei a2.aiI 20 then dE (eb a2.aiJ 0) λan=>fE (eN n a0 a an) λao aq dc=>dS (gS dc a an) λo t=>eh (λ(dd:Bool)=>if dd then some (ao,aq,t)else dS (py o) λde ar=>if eE ar 0 then some ((Tm.mk 0 0 (Ty.mk 0 []) []),ar,t)else dS (fG t) λu df=>dS (fG df) λaw dg=>dS (fG dg) λax dh=>dE (fA u) λdi=>dE (fA aw) λdj=>dE (p5 di dj) λdk=>dE (iS 11 [dk]) λdm=>dE (mJ o.dM aw dm) λdn=>dE (fA u) λdp=>dE (fA ax) λdq=>dE (p5 dp dq) λdr=>dE (iS 12 [dr]) λds=>dE (mJ o.dM ax ds) λdt=>dE (iS 10 [dn,dt]) λdu=>dE (mJ de u du) λdv=>dE (p5 dv ao) λdw=>some (dw,0,dh)) λay=>if eE aq 0 then ay true else dE (eb o.aiJ 0) λdx=>dE (eb dx.aiJ 0) λdy=>dE (jd dy) λdz=>ay (mS dz)else dE (eb a2.aiJ 0) λdA=>fE (eN n a0 a dA) λdB dC dD=>some (dB,dC,dD)
def o9:Nat->dU->en->Pf->Option (Ty×Tm×Tm×Int×dU)
 |0,_,_,_=>none|n+1,a0,B,a2=>dE (eb a2.fI 0) λF=>dS (py F) λC D=>if eE D 0 then some ((Ty.mk 0 []),(Tm.mk 0 0 (Ty.mk 0 []) []),(Tm.mk 0 0 (Ty.mk 0 []) []),D,a0)else dE (eb a2.aiJ 0) λu=>fE (eN n a0 B u) λv d d33=>if eE d 0 then some ((Ty.mk 0 []),(Tm.mk 0 0 (Ty.mk 0 []) []),(Tm.mk 0 0 (Ty.mk 0 []) []),d,d33)else dS (fG d33) λf d45=>dS (fG d45) λh d48=>dS (fG d48) λi d51=>dE (fA i) λw=>dE (CN B a2 [f,h] w) λx=>dE (eb a2.aiJ 1) λy=>fE (eN n d51 x y) λA j d91=>if eE j 0 then some ((Ty.mk 0 []),(Tm.mk 0 0 (Ty.mk 0 []) []),(Tm.mk 0 0 (Ty.mk 0 []) []),j,d91)else dE (mJ C i A) λb=>eh (λ(k:Int) (v109:Int) (l:Int) (o:List Ty) (q:List Tm)=>dE (u7) λr=>dE (mJ r f (Tm.mk k v109 (Ty.mk l o) q)) λs=>some (C,v,s,0,d91)) λc=>if ei a2.aiI 17 then dE (pE) λt=>dE (mJ t h b) λa=>c a.aiI a.aiL a.dM.aiI a.dM.aiJ a.aiJ else c b.aiI b.aiL b.dM.aiI b.dM.aiJ b.aiJ
end
def wY:Nat->Tm->(List Int)->Option Tm
 |0,_,_=>none|n+1,a0,d=>if ei a0.aiI 1 then eh ((λ(v212:Int)=>if rb v212 0 then dE (eb d v212) λf=>if ei f a0.aiL then dE (fA (fU .i64 (fU .i64 (ez d) 1) v212)) λh=>some (.ret h)else some (.next (fU .i64 v212 1))else some (.Jq v212)):(Int)->(Option (fZ (Int) (Tm)))) λi=>dE (oC i FU (fU .i64 (ez d) 1)) (fO (λ(v212:Int)=>some a0) (λr=>some r))else eh (λ(j:List Int)=>eh ((zU λ(a:Int) (b:List Tm)=>if sx a (ez a0.aiJ)then dE (eb a0.aiJ a) λk=>dE (wY n k j) λc=>gu (fL b [c])<|some (.next ((fl .i64 a 1),(fT b [c])))else some (.Jq (a,b))):(Int×(List Tm))->(Option (fZ (Int×(List Tm)) (Tm)))) λl=>dE (oC l FU (0,[])) (fO (zU λ(a:Int) (b:List Tm)=>some (Tm.mk a0.aiI 0 a0.dM b)) (λr=>some r))) λj252=>if ei a0.aiI 2 then gu (fL [] d)<|gu (fL (fT [] d) [a0.aiL])<|j252 (fT (fT [] d) [a0.aiL])else j252 d
def C7(a0:List Fm)(j:List Tm)(a2:Sq)(a3:Pf):Option (Tm×Int):=dS (kz a0 a2 a3) λl k=>if eE k 0 then some ((Tm.mk 0 0 (Ty.mk 0 []) []),k)else dE (yS a0 j) λa=>if eE a 0 then some ((Tm.mk 0 0 (Ty.mk 0 []) []),a)else dE (jd l.dW) λc=>if c then fE (qp (dU.mk a0 j 0) a2) λd f d29=>fE (eN FU d29 d a3) λh b d37=>if eE b 0 then some ((Tm.mk 0 0 (Ty.mk 0 []) []),b)else dE (wY FU h f) λi=>some (i,0)else some ((Tm.mk 0 0 (Ty.mk 0 []) []),40)
def uc:Nat->Vl->Option Bool
 |0,_=>none|n+1,a0=>if ei a0.aiI 1 then some (e_ (rb a0.num 0) (e_ (ei (ez a0.list) 0) (ei (ez a0.aiJ) 0) false) false)else if ei a0.aiI 2 then gu (eP a0.list)<|eh (λ(k:Int) (b:Int)=>(λ(_:Unit)=>if sx b 0 then some (.ret false)else some (.next ())):Int->Int->(Unit)->(Option (fZ (Unit) (Bool)))) λc=>dE (eY c a0.list 0 ()) (fO (λ(_:Unit)=>some (e_ (ei a0.num 0) (ei (ez a0.aiJ) 0) false)) (λr=>some r))else if ei a0.aiI 4 then some (e_ (ei a0.num 0) (e_ (ei (ez a0.list) 0) (ei (ez a0.aiJ) 0) false) false)else if ei a0.aiI 3 then eh (λ(d:Bool)=>some d) λa=>if ei a0.num 0 then if ei (ez a0.list) 0 then if ei (ez a0.aiJ) 2 then dE (eb a0.aiJ 0) λf=>dE (uc n f) λh=>if h then dE (eb a0.aiJ 1) λi=>dE (uc n i) λj=>a j else a false else a false else a false else a false else some false
def wJ:Nat->Vl->Option Int
 |0,_=>none|n+1,a0=>gu (eP a0.aiJ)<|eh (λ(f:Int) (b:Vl)=>(λ(a:Int)=>dE (wJ n b) λc=>some (.next (fl .i64 a c))):Int->Vl->(Int)->(Option (fZ (Int) (Int)))) λd=>dE (eY d a0.aiJ 0 1) (fO (λ(a:Int)=>some a) (λr=>some r))
def A5(a0:Vl):Option Int:=dE (uc FU a0) λb=>if b then dE (wJ FU a0) λa=>if o0 a 64 then some 4 else some 0 else some 2
def tS:Nat->Vl->Option Ty
 |0,_=>none|n+1,a0=>if ei a0.aiI 1 then dE (jn) λa=>some a else if ei a0.aiI 2 then dE (mc) λb=>some b else if ei a0.aiI 3 then dE (eb a0.aiJ 0) λc=>dE (tS n c) λd=>dE (eb a0.aiJ 1) λf=>dE (tS n f) λh=>dE (sW d h) λi=>some i else dE (sZ) λj=>some j
def yt(a0:Vl):Option (Ty×Int):=dE (A5 a0) λb=>if eE b 0 then some ((Ty.mk 0 []),b)else dE (tS FU a0) λa=>some (a,0)
def pg:Nat->Ty->Option Int
 |0,_=>none|n+1,a0=>if ei a0.aiI 3 then dE (eb a0.aiJ 0) λf=>dE (pg n f) λh=>dE (eb a0.aiJ 1) λi=>dE (pg n i) λj=>some (imax h j)else if ei a0.aiI 4 then dE (eb a0.aiJ 0) λa=>dE (pg n a) λb=>dE (eb a0.aiJ 1) λc=>dE (pg n c) λd=>some (imax (fl .i64 b 1) d)else some 0
def C8(a0:Ty):Option (Bool×Int):=dE (h8 a0) λb=>if eE b 0 then some (false,b)else dE (pg FU a0) λa=>some ((ei a 0),0)
mutual
def kP:Nat->eg->Tm->(List dG)->Option (dG×eg)
 |0,_,_,_=>none|n+1,a0,P,a2=>if e_ a0.out true (ei a0.used a0.ra)then some ((dG.mk 0 [] [] (Tm.mk 0 0 (Ty.mk 0 []) []) []),(eg.mk a0.used a0.ra true))else if ei P.aiI 1 then dE (eb a2 (fU .i64 (fU .i64 (ez a2) 1) P.aiL)) λbd=>some (bd,(eg.mk (fl .i64 a0.used 1) a0.ra a0.out))else if ei P.aiI 2 then dE (eb P.aiJ 0) λbf=>some ((dG.mk 0 [] [] bf a2),(eg.mk (fl .i64 a0.used 1) a0.ra a0.out))else gu (eP P.aiJ)<|eh (λ(bh:Int) (bg:Tm)=>(zU λ(v105:List dG) (i:eg)=>dS (kP n i bg a2) λW d127=>gu (fL v105 [W])<|if d127.out then some (.ret ((dG.mk 0 [] [] (Tm.mk 0 0 (Ty.mk 0 []) []) []),d127))else some (.next ((fT v105 [W]),d127))):Int->Tm->((List dG)×eg)->(Option (fZ ((List dG)×eg) (dG×eg)))) λbc=>dE (eY bc P.aiJ 0 ([],(eg.mk (fl .i64 a0.used 1) a0.ra a0.out))) (fO (zU λ(v105:List dG) (i:eg)=>if ei P.aiI 3 then dE (eb v105 0) λX=>dE (eb v105 1) λY=>dS (hW n i X Y) λZ ad=>some (Z,ad)else if ei P.aiI 5 then dE (eb v105 0) λae=>some ((dG.mk (fl .i64 ae.num 1) [] [] (Tm.mk 0 0 (Ty.mk 0 []) []) []),i)else if ei P.aiI 6 then dE (eb v105 0) λb=>eh ((VF λ(k:Int) (l:Int) (o:List Int) (q:List dG) (s:Int) (t:Int) (u:Int) (v:List Ty) (w:List Tm) (x:List dG) (y:eg)=>eh (λ(af:Bool)=>if af then eh (λ(ah:Int) (ai:List Int) (ak:List dG) (an:Int) (ao:Int) (aq:Int) (ar:List Ty) (aw:List Tm) (ax:List dG) (ay:eg)=>some (.next ((fl .i64 k 1),ah,ai,ak,an,ao,aq,ar,aw,ax,ay))) λQ=>dE (eb v105 1) λaz=>dS (hW n y az (dG.mk k [] [] (Tm.mk 0 0 (Ty.mk 0 []) []) [])) λaA M=>if M.out then Q l o q s t u v w x M else dS (hW n M aA (dG.mk l o q (Tm.mk s t (Ty.mk u v) w) x)) λc aB=>Q c.num c.list c.pair c.body.aiI c.body.aiL c.body.dM.aiI c.body.dM.aiJ c.body.aiJ c.env aB else some (.Jq (k,l,o,q,s,t,u,v,w,x,y))) λR=>dE (eb v105 2) λaC=>if sx k aC.num then R (mS y.out)else R false):(Int×Int×(List Int)×(List dG)×Int×Int×Int×(List Ty)×(List Tm)×(List dG)×eg)->(Option (fZ (Int×Int×(List Int)×(List dG)×Int×Int×Int×(List Ty)×(List Tm)×(List dG)×eg) (dG×eg)))) λaD=>dE (oC aD FU (0,b.num,b.list,b.pair,b.body.aiI,b.body.aiL,b.body.dM.aiI,b.body.dM.aiJ,b.body.aiJ,b.env,i)) (fO (VF λ(k:Int) (l:Int) (o:List Int) (q:List dG) (s:Int) (t:Int) (u:Int) (v:List Ty) (w:List Tm) (x:List dG) (y:eg)=>some ((dG.mk l o q (Tm.mk s t (Ty.mk u v) w) x),y)) (λr=>some r))else if ei P.aiI 8 then dE (eb v105 0) λS=>dE (eb v105 1) λT=>gu (fL [S.num] T.list)<|some ((dG.mk 0 (fT [S.num] T.list) [] (Tm.mk 0 0 (Ty.mk 0 []) []) []),i)else if ei P.aiI 9 then dE (eb v105 0) λd=>dE (eb v105 2) λL=>eh ((VF λ(j:Int) (A:Int) (B:List Int) (C:List dG) (D:Int) (F:Int) (G:Int) (H:List Ty) (I:List Tm) (J:List dG) (K:eg)=>if e_ (rb j 0) (mS K.out) false then eh (λ(aE:Int) (aF:List Int) (aG:List dG) (aH:Int) (aI:Int) (aJ:Int) (aK:List Ty) (aL:List Tm) (aM:List dG) (aN:eg)=>some (.next ((fU .i64 j 1),aE,aF,aG,aH,aI,aJ,aK,aL,aM,aN))) λU=>dE (eb v105 1) λaO=>dE (eb L.list j) λaP=>dS (hW n K aO (dG.mk aP [] [] (Tm.mk 0 0 (Ty.mk 0 []) []) [])) λa N=>eh (λ(aQ:Int) (aR:List Int) (aS:List dG) (aT:Int) (aU:Int) (aV:Int) (aW:List Ty) (aX:List Tm) (aY:List dG) (O:eg)=>if O.out then U A B C D F G H I J O else dS (hW n O (dG.mk aQ aR aS (Tm.mk aT aU (Ty.mk aV aW) aX) aY) (dG.mk A B C (Tm.mk D F (Ty.mk G H) I) J)) λf aZ=>U f.num f.list f.pair f.body.aiI f.body.aiL f.body.dM.aiI f.body.dM.aiJ f.body.aiJ f.env aZ) λV=>if N.out then V a.num a.list a.pair a.body.aiI a.body.aiL a.body.dM.aiI a.body.dM.aiJ a.body.aiJ a.env N else dE (Ag L.list (fl .i64 j 1) (ez L.list)) λa6=>dS (hW n N a (dG.mk 0 a6 [] (Tm.mk 0 0 (Ty.mk 0 []) []) [])) λh a7=>V h.num h.list h.pair h.body.aiI h.body.aiL h.body.dM.aiI h.body.dM.aiJ h.body.aiJ h.env a7 else some (.Jq (j,A,B,C,D,F,G,H,I,J,K))):(Int×Int×(List Int)×(List dG)×Int×Int×Int×(List Ty)×(List Tm)×(List dG)×eg)->(Option (fZ (Int×Int×(List Int)×(List dG)×Int×Int×Int×(List Ty)×(List Tm)×(List dG)×eg) (dG×eg)))) λa8=>dE (oC a8 FU ((fU .i64 (ez L.list) 1),d.num,d.list,d.pair,d.body.aiI,d.body.aiL,d.body.dM.aiI,d.body.dM.aiJ,d.body.aiJ,d.env,i)) (fO (VF λ(j:Int) (A:Int) (B:List Int) (C:List dG) (D:Int) (F:Int) (G:Int) (H:List Ty) (I:List Tm) (J:List dG) (K:eg)=>some ((dG.mk A B C (Tm.mk D F (Ty.mk G H) I) J),K)) (λr=>some r))else if ei P.aiI 10 then some ((dG.mk 0 [] v105 (Tm.mk 0 0 (Ty.mk 0 []) []) []),i)else if ei P.aiI 11 then dE (eb v105 0) λa_=>dE (eb a_.pair 0) λa'=>some (a',i)else if ei P.aiI 12 then dE (eb v105 0) λba=>dE (eb ba.pair 1) λbb=>some (bb,i)else some ((dG.mk 0 [] [] (Tm.mk 0 0 (Ty.mk 0 []) []) []),i)) (λr=>some r))
def hW:Nat->eg->dG->dG->Option (dG×eg)
 |0,_,_,_=>none|n+1,a0,a,a2=>gu (fL a.env [a2])<|dS (kP n a0 a.body (fT a.env [a2])) λb d15=>some (b,d15)
end
def D5:Nat->Vl->Option dG
 |0,_=>none|n+1,a0=>gu (eP a0.aiJ)<|eh (λ(f:Int) (c:Vl)=>(λ(a:List dG)=>dE (D5 n c) λb=>gu (fL a [b])<|some (.next (fT a [b]))):Int->Vl->(List dG)->(Option (fZ (List dG) (dG)))) λd=>dE (eY d a0.aiJ 0 []) (fO (λ(a:List dG)=>some (dG.mk a0.num a0.list a (Tm.mk 0 0 (Ty.mk 0 []) []) [])) (λr=>some r))
def tP:Nat->dG->Ty->Option Vl
 |0,_,_=>none|n+1,a0,a=>if ei a.aiI 1 then some (Vl.mk 1 a0.num [] [])else if ei a.aiI 2 then gu (fL [] a0.list)<|some (Vl.mk 2 0 (fT [] a0.list) [])else if ei a.aiI 3 then dE (eb a0.pair 0) λb=>dE (eb a.aiJ 0) λc=>dE (tP n b c) λd=>dE (eb a0.pair 1) λf=>dE (eb a.aiJ 1) λh=>dE (tP n f h) λi=>some (Vl.mk 3 0 [] [d,i])else some (Vl.mk 4 0 [] [])
def CY(a0:Tm)(a1:List Vl)(a2:Int):Option (Vl×Int×Int):=dS (jb [] a0) λx4 x5=>if eE x5 0 then some ((Vl.mk 0 0 [] []),0,x5)else gu (eP a1)<|eh (λ(ad:Int) (C:Vl)=>(zU λ(f:Int) (c:List Ty)=>dS (yt C) λD x=>if eE x 0 then some (.ret ((Vl.mk 0 0 [] []),0,x))else eh (λ(F:Bool)=>if F then some (.ret ((Vl.mk 0 0 [] []),0,7))else dE (eb c 1) λy=>some (.next (y.aiI,y.aiJ))) λA=>if eE f 4 then A true else dE (eb c 0) λG=>dE (fh FU G D) λH=>A (mS H)):Int->Vl->(Int×(List Ty))->(Option (fZ (Int×(List Ty)) (Vl×Int×Int)))) λI=>dE (eY I a1 0 (x4.aiI,x4.aiJ)) (fO (zU λ(f:Int) (c:List Ty)=>dS (C8 (Ty.mk f c)) λJ ae=>if J then if e_ (sx a2 0) true (o0 a2 65536)then some ((Vl.mk 0 0 [] []),0,1)else dS (kP FU (eg.mk 0 a2 false) a0 []) λa u=>gu (eP a1)<|eh (λ(af:Int) (K:Vl)=>(acy λ(h:Int) (i:List Int) (j:List dG) (k:Int) (l:Int) (n:Int) (o:List Ty) (q:List Tm) (s:List dG) (t:Int) (v:Int) (d:Bool)=>eh (λ(L:Int) (M:List Int) (N:List dG) (O:Int) (P:Int) (Q:Int) (R:List Ty) (S:List Tm) (T:List dG) (U:Int) (V:Int) (W:Bool)=>some (.next (L,M,N,O,P,Q,R,S,T,U,V,W))) λB=>if d then B h i j k l n o q s t v d else dE (D5 FU K) λX=>dS (hW FU (eg.mk t v d) (dG.mk h i j (Tm.mk k l (Ty.mk n o) q) s) X) λb w=>B b.num b.list b.pair b.body.aiI b.body.aiL b.body.dM.aiI b.body.dM.aiJ b.body.aiJ b.env w.used w.ra w.out):Int->Vl->(Int×(List Int)×(List dG)×Int×Int×Int×(List Ty)×(List Tm)×(List dG)×Int×Int×Bool)->(Option (fZ (Int×(List Int)×(List dG)×Int×Int×Int×(List Ty)×(List Tm)×(List dG)×Int×Int×Bool) (Vl×Int×Int)))) λY=>dE (eY Y a1 0 (a.num,a.list,a.pair,a.body.aiI,a.body.aiL,a.body.dM.aiI,a.body.dM.aiJ,a.body.aiJ,a.env,u.used,u.ra,u.out)) (fO (acy λ(h:Int) (i:List Int) (j:List dG) (k:Int) (l:Int) (n:Int) (o:List Ty) (q:List Tm) (s:List dG) (t:Int) (v:Int) (d:Bool)=>if d then some ((Vl.mk 0 0 [] []),0,5)else dE (tP FU (dG.mk h i j (Tm.mk k l (Ty.mk n o) q) s) (Ty.mk f c)) λZ=>some (Z,t,0)) (λr=>some r))else some ((Vl.mk 0 0 [] []),0,7)) (λr=>some r))
def ui:Option Bool:=dE (fA 0) λy=>dE (iS 5 [y]) λA=>dE (gU (Ty.mk 1 []) A) λb=>dE (fA 0) λB=>dE (iS 5 [B]) λC=>dE (gU (Ty.mk 1 []) C) λD=>dE (gU (Ty.mk 1 []) D) λF=>dE (pE) λG=>dE (fA 0) λH=>dE (iS 5 [H]) λI=>dE (gU (Ty.mk 1 []) I) λJ=>dE (gU G J) λc=>dE (gU (Ty.mk 1 []) c) λd=>fE (lu b) λf a h=>fE (qd b a b a) λK L i=>dE (uq 0) λj=>fE (p4 j F) λM N k=>dE (uq 0) λl=>fE (l9 l d) λO P n=>dE (uq 0) λo=>dE (uq 1) λq=>dE (oq) λr=>fE (oJ o q r) λQ s t=>dS (C7 [] [] (Sq.mk [] []) s) λu v=>fE (CY u [(Vl.mk 1 5 [] [])] 20000) λw R x=>some (e_ (ei h 0) (e_ (ei i 0) (e_ (ei k 0) (e_ (ei n 0) (e_ (ei t 0) (e_ (ei v 0) (e_ (ei x 0) (e_ (ei f.aiI 4) (ei w.num 5) false) false) false) false) false) false) false) false)
def Ji(a0:List Int):Option Bool:=some (XA (ez a0) 500)
def Qq(l:List Int):Option ey:=some ⟨l,0⟩
def oF:Option Ty:=dE (u7) λa=>some a
def Dq(a0:List Ty)(i:Ty):Option (List Int):=gu (eP a0)<|eh (λ(b:Int) (j:Ty)=>(λ(a:List Int)=>eh (λ(c:List Int)=>some (.next c)) λj201=>dE (eb a0 (fU .i64 (fU .i64 (ez a0) 1) b)) λd=>dE (fh FU d i) λf=>if f then gu (fL a [b])<|j201 (fT a [b])else j201 a):Int->Ty->(List Int)->(Option (fZ (List Int) (List Int)))) λh=>dE (eY h a0 0 []) (fO (λ(a:List Int)=>some a) (λr=>some r))
def I_(a0 a:Int):Option Int:=gu (Kz a)<|gu (Kz a)<|some (UI .i64 (fl .i64 (UI .i64 a0 a) a) a)
def h9(a0:ey)(c:Int):Option (Int×ey):=if e_ (sx c 1) true (rb a0.xy (ez a0.l))then some (0,a0)else dE (eb a0.l a0.xy) λa=>dE (I_ a c) λb=>some (b,(ey.mk a0.l (fl .i64 a0.xy 1)))
def nE:Nat->ey->Int->Option (Ty×ey)
 |0,_,_=>none|n+1,a0,c=>eh (λ(j:ey)=>dE (jn) λd=>some (d,j)) λb=>dS (h9 a0 7) λa d63=>if e_ (ei a 0) true (e_ (ei a 1) true (ei a 2))then dE (jn) λk=>some (k,d63)else if ei a 3 then dE (mc) λl=>some (l,d63)else if ei a 4 then dE (sZ) λo=>some (o,d63)else if ei a 5 then if o0 c 0 then dS (nE n d63 (fU .i64 c 1)) λq d89=>dS (nE n d89 (fU .i64 c 1)) λr d92=>dE (sW q r) λs=>some (s,d92)else b d63 else if ei a 6 then if o0 c 0 then dS (nE n d63 (fU .i64 c 1)) λf d105=>dS (nE n d105 (fU .i64 c 1)) λh d108=>dE (kR f h) λi=>some (i,d108)else b d63 else b d63
def rE(a0 a:List Ty):Option (List Ty):=gu (fL [] a0)<|gu (fL (fT [] a0) a)<|some (fT (fT [] a0) a)
def vW(a0:Tm)(j:List Tm):Option Tm:=gu (eP j)<|eh (λ(k:Int) (h:Tm)=>(un5 λ(b:Int) (c:Int) (v46:Int) (d:List Ty) (f:List Tm)=>dE (fF 3 [(Tm.mk b c (Ty.mk v46 d) f),h]) λa=>some (.next (a.aiI,a.aiL,a.dM.aiI,a.dM.aiJ,a.aiJ))):Int->Tm->(Int×Int×Int×(List Ty)×(List Tm))->(Option (fZ (Int×Int×Int×(List Ty)×(List Tm)) (Tm)))) λi=>dE (eY i j 0 (a0.aiI,a0.aiL,a0.dM.aiI,a0.dM.aiJ,a0.aiJ)) (fO (un5 λ(b:Int) (c:Int) (v46:Int) (d:List Ty) (f:List Tm)=>some (Tm.mk b c (Ty.mk v46 d) f)) (λr=>some r))
def vt:Option Tm:=dE (fF 4 []) λa=>dE (gn 1) λb=>dE (jV b) λc=>dE (jV c) λd=>dE (gn 0) λf=>dE (tk a d f) λh=>dE (jV h) λi=>some i
def ru:Option Tm:=dE (gn 1) λa=>dE (vt) λb=>dE (gn 0) λc=>dE (fF 3 [b,c]) λd=>dE (jV d) λf=>dE (jV f) λh=>dE (gn 0) λi=>dE (tk a h i) λj=>dE (jV j) λk=>dE (jV k) λl=>some l
def gJ:Nat->ey->(List Ty)->Ty->Int->Option (Tm×ey)
 |0,_,_,_,_=>none|n+1,a0,a,a2,a3=>dE (Dq a a2) λx3=>eh (λ(v37:Bool) (v:ey)=>if v37 then dS (h9 v (ez x3)) λbL d51=>dE (eb x3 bL) λbM=>dE (gn bM) λbN=>some (bN,d51)else eh (λ(c:ey)=>if ei a2.aiI 1 then eh (λ(w:ey)=>dS (h9 w 3) λx y=>dE (uq x) λA=>some (A,y)) λj=>if o0 a3 0 then dS (h9 c 5) λh f=>if ei h 0 then dS (gJ n f a a2 (fU .i64 a3 1)) λB C=>dE (fF 5 [B]) λD=>some (D,C)else if ei h 1 then dE (oq) λF=>dS (gJ n f a a2 (fU .i64 a3 1)) λG H=>dS (gJ n H a a2 (fU .i64 a3 1)) λI J=>dE (vW F [G,I]) λK=>some (K,J)else if ei h 2 then dE (ru) λL=>dS (gJ n f a a2 (fU .i64 a3 1)) λM N=>dS (gJ n N a a2 (fU .i64 a3 1)) λO P=>dE (vW L [M,O]) λQ=>some (Q,P)else j f else j c else if ei a2.aiI 2 then eh (λ(R:Bool) (k:ey)=>if R then dE (jn) λS=>dS (gJ n k a S (fU .i64 a3 1)) λT U=>dS (gJ n U a a2 (fU .i64 a3 1)) λV W=>dE (fF 8 [T,V]) λX=>some (X,W)else dE (fF 7 []) λY=>some (Y,k)) λl=>if o0 a3 0 then dS (h9 c 2) λZ ad=>l (ei Z 0) ad else l false c else if ei a2.aiI 3 then dE (eb a2.aiJ 0) λae=>dS (gJ n c a ae (fU .i64 a3 1)) λaf ah=>dE (eb a2.aiJ 1) λai=>dS (gJ n ah a ai (fU .i64 a3 1)) λak an=>dE (fF 10 [af,ak]) λao=>some (ao,an)else if ei a2.aiI 4 then dE (eb a2.aiJ 0) λo=>dE (rE a [o]) λaq=>dE (eb a2.aiJ 1) λar=>dS (gJ n c aq ar (fU .i64 a3 1)) λaw ax=>dE (lh 2 o [aw]) λay=>some (ay,ax)else dE (fF 13 []) λaz=>some (az,c)) λq=>if o0 a3 0 then dS (h9 v 8) λd b=>if ei d 0 then dS (nE FU b 0) λs aJ=>dE (rE a [s]) λaK=>dS (gJ n aJ aK a2 (fU .i64 a3 1)) λaL aM=>dE (lh 2 s [aL]) λaN=>dS (gJ n aM a s (fU .i64 a3 1)) λaO aP=>dE (fF 3 [aN,aO]) λaQ=>some (aQ,aP)else if ei d 1 then dS (nE FU b 0) λaR aS=>dS (gJ n aS a a2 (fU .i64 a3 1)) λaT aU=>dS (gJ n aU a aR (fU .i64 a3 1)) λaV aW=>dE (fF 10 [aT,aV]) λaX=>dE (fF 11 [aX]) λaY=>some (aY,aW)else if ei d 2 then dE (jn) λaZ=>dE (jn) λa6=>dE (rE a [a6,a2]) λa7=>dS (gJ n b a7 a2 (fU .i64 a3 1)) λa8 a_=>dE (lh 2 a2 [a8]) λa'=>dE (lh 2 aZ [a']) λba=>dS (gJ n a_ a a2 (fU .i64 a3 1)) λbb bc=>dS (h9 bc 3) λbd bf=>dE (uq bd) λbg=>dE (lh 6 a2 [bb,ba,bg]) λbh=>some (bh,bf)else if ei d 3 then dE (jn) λbj=>dE (mc) λbk=>dE (jn) λbl=>dE (mc) λbm=>dE (rE a [bl,bm,a2]) λbn=>dS (gJ n b bn a2 (fU .i64 a3 1)) λbo bp=>dE (lh 2 a2 [bo]) λbq=>dE (lh 2 bk [bq]) λbr=>dE (lh 2 bj [br]) λbs=>dS (gJ n bp a a2 (fU .i64 a3 1)) λbt bu=>dE (mc) λbw=>dS (gJ n bu a bw (fU .i64 a3 1)) λbz bA=>dE (lh 9 a2 [bt,bs,bz]) λbB=>some (bB,bA)else if ei d 4 then dS (nE FU b 0) λbC bD=>dS (gJ n bD a bC (fU .i64 a3 1)) λbE bF=>dS (gJ n bF a a2 (fU .i64 a3 1)) λbG bH=>dE (fF 10 [bE,bG]) λbI=>dE (fF 12 [bI]) λbJ=>some (bJ,bH)else if ei d 5 then gu (eP a)<|eh (λ(u:Int) (bP:Ty)=>(λ(_:Unit)=>dE (eb a (fU .i64 (fU .i64 (ez a) 1) u)) λi=>eh (λ(aA:Bool)=>if aA then dE (gn u) λaB=>dE (eb i.aiJ 0) λaC=>dS (gJ n b a aC (fU .i64 a3 1)) λaD aE=>dE (fF 3 [aB,aD]) λaF=>some (.ret (aF,aE))else some (.next ())) λt=>if ei i.aiI 4 then dE (eb i.aiJ 1) λaG=>dE (fh FU aG a2) λaH=>t aH else t false):Int->Ty->(Unit)->(Option (fZ (Unit) (Tm×ey)))) λaI=>dE (eY aI a 0 ()) (fO (λ(_:Unit)=>q b) (λr=>some r))else q b else q v) λbK=>if o0 (ez x3) 0 then dS (h9 a0 3) λbO d41=>bK (o0 bO 0) d41 else bK false a0
def u9(a0:ey):Option (Tm×ey):=dE (oF) λa=>dE (oF) λb=>dE (oF) λc=>dS (gJ FU a0 [b] c 2) λd d19=>dE (gU a d) λf=>some (f,d19)
def hI(a0:Int):Option Bool:=some (e_ (ei a0 4) true (e_ (ei a0 5) true (ei a0 3)))
def nk(a0:List Fm)(c:Sq)(a2:Pf)(a3:Fm):Option Int:=dS (kz a0 c a2) λf d=>if eE d 0 then some d else dE (jh c.aiM a3) λa=>if eE a 0 then some a else dE (jQ f.dW a3) λb=>some b
def jv(a0:Fm)(d:Pf):Option Bool:=dE (nk [] (Sq.mk [] []) d a0) λc=>eh (λ(v10:Bool)=>some v10) λa=>if ei c 0 then a true else dE (hI c) λb=>a b
def pN(a0:ey):Option (Tm×ey):=dE (oF) λa=>dS (gJ FU a0 [] a 2) λb d9=>some (b,d9)
def vj(a0:Tm):Option Tm:=dE (iS 5 [a0]) λa=>some a
def xB(a0 c a2:Tm):Option Tm:=dE (fF 3 [a0,c]) λa=>dE (fF 3 [a,a2]) λb=>some b
def pH:Option Tm:=dE (oq) λa=>dE (ru) λb=>dE (gn 1) λc=>dE (gn 0) λd=>dE (xB b c d) λf=>dE (ru) λh=>dE (gn 0) λi=>dE (gn 1) λj=>dE (xB h i j) λk=>dE (xB a f k) λl=>dE (jV l) λn=>dE (jV n) λo=>some o
def s0(a0:ey):Option (Tm×ey):=dE (oF) λb=>dS (h9 a0 6) λa d223=>if ei a 0 then dE (fA 0) λc=>dE (vj c) λd=>dE (gU b d) λf=>dE (gU b f) λh=>some (h,d223)else if ei a 1 then dE (ru) λi=>dE (fA 1) λj=>dE (fA 0) λk=>dE (vW i [j,k]) λl=>dE (gU b l) λn=>dE (gU b n) λo=>some (o,d223)else if ei a 2 then dE (pH) λq=>dE (fA 0) λr=>dS (h9 d223 3) λs d355=>dE (uq s) λt=>dE (vW q [r,t]) λu=>dE (gU b u) λv=>dE (gU b v) λw=>some (w,d355)else if ei a 3 then dE (fA 1) λx=>dE (vj x) λy=>dE (vj y) λA=>dE (gU b A) λB=>dE (gU b B) λC=>some (C,d223)else if ei a 4 then dS (gJ FU d223 [b,b] b 1) λD F=>dE (gU b D) λG=>dE (gU b G) λH=>some (H,F)else dE (oq) λI=>dE (fA 0) λJ=>dE (fA 1) λK=>dE (vW I [J,K]) λL=>dE (gU b L) λM=>dE (gU b M) λN=>some (N,d223)
def pQ(a0:ey):Option (Tm×ey):=dE (oF) λi=>dE (fA 0) λA=>dE (iS 5 [A]) λa=>eh (λ(o:Int) (v49:Int) (q:Int) (v51:List Ty) (r:List Tm) (v53:ey)=>dE (pE) λj=>dE (gU i (Tm.mk o v49 (Ty.mk q v51) r)) λk=>dE (gU j k) λl=>dE (gU i l) λn=>some (n,v53)) λf=>dS (h9 a0 4) λh d59=>if ei h 0 then dE (oq) λs=>dE (fA 0) λt=>dE (fA 2) λu=>dE (vW s [t,u]) λb=>f b.aiI b.aiL b.dM.aiI b.dM.aiJ b.aiJ d59 else if ei h 1 then dE (pH) λv=>dE (fA 0) λw=>dE (fA 2) λx=>dE (vW v [w,x]) λc=>f c.aiI c.aiL c.dM.aiI c.dM.aiJ c.aiJ d59 else if ei h 2 then dE (pE) λy=>dS (gJ FU d59 [i,y,i] i 1) λd d85=>f d.aiI d.aiL d.dM.aiI d.dM.aiJ d.aiJ d85 else f a.aiI a.aiL a.dM.aiI a.dM.aiJ a.aiJ d59
def m0(a0:List Int):Option Bool:=eh (λ(X:Bool)=>if X then dE (ui) λY=>some Y else dE (Qq a0) λZ=>dS (u9 Z) λj d46=>dS (u9 d46) λk d49=>fE (lu j) λad l n=>fE (lu k) λae o q=>fE (qd j l k o) λaf ah r=>if e_ (eE n 0) true (e_ (eE q 0) true (eE r 0))then eh (λ(v107:Bool)=>some v107) λa=>dE (hI n) λs=>if s then a true else dE (hI q) λt=>if t then a true else dE (hI r) λu=>a u else eh (λ(v141:Bool)=>if v141 then some false else dS (pN d49) λv d160=>dS (s0 d160) λw d163=>fE (p4 v w) λx y f=>dS (pN d163) λA d180=>dS (pQ d180) λB d183=>fE (l9 A B) λC D h=>dS (h9 d183 4) λF d205=>dE (uq F) λG=>dS (pN d205) λH d210=>dS (s0 d210) λI d213=>fE (oJ G H I) λJ K i=>if e_ (eE f 0) true (e_ (eE h 0) true (eE i 0))then eh (λ(L:Bool)=>some L) λb=>dE (hI f) λM=>if M then b true else dE (hI h) λN=>if N then b true else dE (hI i) λO=>b O else eh (λ(P:Bool)=>some P) λc=>dE (jv x y) λQ=>if Q then dE (jv C D) λR=>if R then dE (jv J K) λS=>c S else c false else c false) λd=>dE (jv ad l) λT=>if T then dE (jv ae o) λU=>if U then dE (jv af ah) λV=>d (mS V)else d true else d true) λW=>dE (ui) λai=>if ai then dE (Ji a0) λak=>W (mS ak)else W true
def rh(a0:Tm)(c a b:Int):Option Tm:=dE (td a0 (fl .i64 a c) b) λd=>some d
def pT(a0:Fm)(a a2:Int):Option Fm:=dS (fq FU a0 0 (λ(s:Unit) (b:Tm) (c:Int)=>qy (rh b c a a2) s) ()) λd f=>some d
end Go.fH
