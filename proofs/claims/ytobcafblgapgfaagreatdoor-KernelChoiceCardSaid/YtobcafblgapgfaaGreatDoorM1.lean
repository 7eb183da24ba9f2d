/- Part of the proof of KernelChoice: models. -/
import Derived.Test.YtobcafblgapgfaaGreatDoorL15
set_option linter.all false
namespace Go.fg
open Go
inductive Ty where
 |mk (abd:Int) (abe:List Ty)
def Ty.abd:Ty->Int|.mk x _=>x
def Ty.abe:Ty->(List Ty)|.mk _ x=>x
@[simp] theorem Ty.df(abd:Int)(abe:List Ty):(Ty.mk abd abe).abd=abd:=rfl
@[simp] theorem Ty.cZ(abd:Int)(abe:List Ty):(Ty.mk abd abe).abe=abe:=rfl
@[simp] theorem Ty.ke(x:Ty):Ty.mk x.abd x.abe=x:=by cases x;rfl
instance:Inhabited Ty:=⟨.mk default default⟩
inductive Tm where
 |mk (abd:Int) (abg:Int) (cD:Ty) (abe:List Tm)
def Tm.abd:Tm->Int|.mk x _ _ _=>x
def Tm.abg:Tm->Int|.mk _ x _ _=>x
def Tm.cD:Tm->Ty|.mk _ _ x _=>x
def Tm.abe:Tm->(List Tm)|.mk _ _ _ x=>x
@[simp] theorem Tm.df(abd:Int)(abg:Int)(cD:Ty)(abe:List Tm):(Tm.mk abd abg cD abe).abd=abd:=rfl
@[simp] theorem Tm.eE(abd:Int)(abg:Int)(cD:Ty)(abe:List Tm):(Tm.mk abd abg cD abe).abg=abg:=rfl
@[simp] theorem Tm.dI(abd:Int)(abg:Int)(cD:Ty)(abe:List Tm):(Tm.mk abd abg cD abe).cD=cD:=rfl
@[simp] theorem Tm.cZ(abd:Int)(abg:Int)(cD:Ty)(abe:List Tm):(Tm.mk abd abg cD abe).abe=abe:=rfl
@[simp] theorem Tm.ke(x:Tm):Tm.mk x.abd x.abg x.cD x.abe=x:=by cases x;rfl
instance:Inhabited Tm:=⟨.mk default default default default⟩
inductive Fm where
 |mk (abd:Int) (cD:Ty) (cU:List Tm) (abe:List Fm)
def Fm.abd:Fm->Int|.mk x _ _ _=>x
def Fm.cD:Fm->Ty|.mk _ x _ _=>x
def Fm.cU:Fm->(List Tm)|.mk _ _ x _=>x
def Fm.abe:Fm->(List Fm)|.mk _ _ _ x=>x
@[simp] theorem Fm.df(abd:Int)(cD:Ty)(cU:List Tm)(abe:List Fm):(Fm.mk abd cD cU abe).abd=abd:=rfl
@[simp] theorem Fm.dI(abd:Int)(cD:Ty)(cU:List Tm)(abe:List Fm):(Fm.mk abd cD cU abe).cD=cD:=rfl
@[simp] theorem Fm.fv(abd:Int)(cD:Ty)(cU:List Tm)(abe:List Fm):(Fm.mk abd cD cU abe).cU=cU:=rfl
@[simp] theorem Fm.cZ(abd:Int)(cD:Ty)(cU:List Tm)(abe:List Fm):(Fm.mk abd cD cU abe).abe=abe:=rfl
@[simp] theorem Fm.ke(x:Fm):Fm.mk x.abd x.cD x.cU x.abe=x:=by cases x;rfl
instance:Inhabited Fm:=⟨.mk default default default default⟩
structure Sq where
 abh:(List Ty)
 abk:(List Fm)
@[simp] theorem Sq.ke(x:Sq):Sq.mk x.abh x.abk=x:=rfl
instance:Inhabited Sq:=⟨.mk default default⟩
inductive Pf where
 |mk (abd:Int) (abg:Int) (cD:Ty) (cU:List Tm) (ef:List Fm) (abe:List Pf)
def Pf.abd:Pf->Int|.mk x _ _ _ _ _=>x
def Pf.abg:Pf->Int|.mk _ x _ _ _ _=>x
def Pf.cD:Pf->Ty|.mk _ _ x _ _ _=>x
def Pf.cU:Pf->(List Tm)|.mk _ _ _ x _ _=>x
def Pf.ef:Pf->(List Fm)|.mk _ _ _ _ x _=>x
def Pf.abe:Pf->(List Pf)|.mk _ _ _ _ _ x=>x
@[simp] theorem Pf.df(abd:Int)(abg:Int)(cD:Ty)(cU:List Tm)(ef:List Fm)(abe:List Pf):(Pf.mk abd abg cD cU ef abe).abd=abd:=rfl
@[simp] theorem Pf.eE(abd:Int)(abg:Int)(cD:Ty)(cU:List Tm)(ef:List Fm)(abe:List Pf):(Pf.mk abd abg cD cU ef abe).abg=abg:=rfl
@[simp] theorem Pf.dI(abd:Int)(abg:Int)(cD:Ty)(cU:List Tm)(ef:List Fm)(abe:List Pf):(Pf.mk abd abg cD cU ef abe).cD=cD:=rfl
@[simp] theorem Pf.fv(abd:Int)(abg:Int)(cD:Ty)(cU:List Tm)(ef:List Fm)(abe:List Pf):(Pf.mk abd abg cD cU ef abe).cU=cU:=rfl
@[simp] theorem Pf.vr(abd:Int)(abg:Int)(cD:Ty)(cU:List Tm)(ef:List Fm)(abe:List Pf):(Pf.mk abd abg cD cU ef abe).ef=ef:=rfl
@[simp] theorem Pf.cZ(abd:Int)(abg:Int)(cD:Ty)(cU:List Tm)(ef:List Fm)(abe:List Pf):(Pf.mk abd abg cD cU ef abe).abe=abe:=rfl
@[simp] theorem Pf.ke(x:Pf):Pf.mk x.abd x.abg x.cD x.cU x.ef x.abe=x:=by cases x;rfl
instance:Inhabited Pf:=⟨.mk default default default default default default⟩
structure qE where
 cK:Fm
 eS:(List Int)
@[simp] theorem qE.ke(x:qE):qE.mk x.cK x.eS=x:=rfl
instance:Inhabited qE:=⟨.mk default default⟩
structure c6 where
 l:(List Int)
 qU:Int
@[simp] theorem c6.ke(x:c6):c6.mk x.l x.qU=x:=rfl
instance:Inhabited c6:=⟨.mk default default⟩
structure cE where
 cK:Fm
 eS:Int
@[simp] theorem cE.ke(x:cE):cE.mk x.cK x.eS=x:=rfl
instance:Inhabited cE:=⟨.mk default default⟩
structure dw where
 vars:Int
 abk:Int
@[simp] theorem dw.ke(x:dw):dw.mk x.vars x.abk=x:=rfl
instance:Inhabited dw:=⟨.mk default default⟩
structure cH where
 cD:Ty
 abf:Int
@[simp] theorem cH.ke(x:cH):cH.mk x.cD x.abf=x:=rfl
instance:Inhabited cH:=⟨.mk default default⟩
structure cP where
 cK:Fm
 vars:Int
@[simp] theorem cP.ke(x:cP):cP.mk x.cK x.vars=x:=rfl
instance:Inhabited cP:=⟨.mk default default⟩
structure cJ where
 eu:dw
 abh:(List cH)
 known:(List cP)
@[simp] theorem cJ.ke(x:cJ):cJ.mk x.eu x.abh x.known=x:=rfl
instance:Inhabited cJ:=⟨.mk default default default⟩
structure cY where
 lemmas:(List Fm)
 abh:(List Ty)
 abk:(List Fm)
@[simp] theorem cY.ke(x:cY):cY.mk x.lemmas x.abh x.abk=x:=rfl
instance:Inhabited cY:=⟨.mk default default default⟩
structure cO where
 abf:Int
 fP:Bool
@[simp] theorem cO.ke(x:cO):cO.mk x.abf x.fP=x:=rfl
instance:Inhabited cO:=⟨.mk default default⟩
structure dh where
 abd:Int
 base:Tm
 vars:(List Ty)
 next:Tm
@[simp] theorem dh.ke(x:dh):dh.mk x.abd x.base x.vars x.next=x:=rfl
instance:Inhabited dh:=⟨.mk default default default default⟩
structure fN where
 cU:Int
 ef:Int
 abe:Int
 abg:Bool
 nU:Bool
@[simp] theorem fN.ke(x:fN):fN.mk x.cU x.ef x.abe x.abg x.nU=x:=rfl
instance:Inhabited fN:=⟨.mk default default default default default⟩
structure dV where
 abg:Bool
 typed:Bool
 cU:Int
 ef:Int
 abe:Int
 pt:Int
 vars:Int
 abk:Int
@[simp] theorem dV.ke(x:dV):dV.mk x.abg x.typed x.cU x.ef x.abe x.pt x.vars x.abk=x:=rfl
instance:Inhabited dV:=⟨.mk default default default default default default default default⟩
structure eb where
 term:(Option Nat)
 steps:Int
@[simp] theorem eb.ke(x:eb):eb.mk x.term x.steps=x:=rfl
structure di where
 abd:Int
 abg:Int
 nU:Ty
 abe:(List (Option Nat))
 size:Int
 free:Int
 normal:Bool
@[simp] theorem di.ke(x:di):di.mk x.abd x.abg x.nU x.abe x.size x.free x.normal=x:=rfl
inductive HC where
 |en (x:eb)|dn (x:di)
def HC.dD(l:List HC)(p:Nat):Option eb:=match l[p]?with|some (.en x)=>some x|_=>none
def HC.eV{l:List HC}{p:Nat}{x:eb}(h:HC.dD l p=some x):l[p]?=some (.en x):=by
 unfold HC.dD at h
 split at h
 ·rename_i e;rw[e];rw[gk h]
 ·cases h
def HC.cM(l:List HC)(p:Nat):Option di:=match l[p]?with|some (.dn x)=>some x|_=>none
def HC.cS{l:List HC}{p:Nat}{x:di}(h:HC.cM l p=some x):l[p]?=some (.dn x):=by
 unfold HC.cM at h
 split at h
 ·rename_i e;rw[e];rw[gk h]
 ·cases h
def iF(l:List HC)(p:Nat)(x:HC):List HC:=l.set p x
def jZ:List Int:=[0,1,28,2,29,14,24,3,30,22,20,15,25,17,4,8,31,27,13,23,21,19,16,7,26,12,18,6,11,5,10,9]
def mv:List dV:=[⟨false,false,0,0,0,0,0,0⟩,⟨true,false,0,0,0,0,0,0⟩,⟨true,false,0,0,0,0,0,0⟩,⟨false,false,0,0,2,0,0,0⟩,⟨false,false,0,0,1,0,0,0⟩,⟨false,false,0,0,1,0,0,0⟩,⟨false,false,0,1,1,0,0,1⟩,⟨false,false,0,0,2,0,0,0⟩,⟨false,true,0,0,1,0,1,0⟩,⟨false,false,1,0,1,0,0,0⟩,⟨false,false,1,1,1,0,0,0⟩,⟨false,false,0,0,2,0,1,1⟩,⟨false,true,0,0,1,0,1,0⟩,⟨false,false,1,0,1,0,0,0⟩,⟨false,false,1,1,1,0,0,0⟩,⟨false,false,0,0,2,0,1,1⟩,⟨false,false,1,1,2,1,1,1⟩,⟨false,false,1,1,2,1,2,1⟩,⟨false,false,1,0,0,0,0,0⟩,⟨false,false,0,1,2,1,0,0⟩,⟨false,false,0,0,1,0,0,0⟩]
def nK:List Int:=[0,0,1,2,0,1,3,0,2,3,2,1,1,0]
end Go.fg
set_option maxRecDepth 20000
namespace Go.fg
open Go
def gT:Option Ty:=some (Ty.mk 1 [])
def eN(a0:Int):Option Tm:=some (Tm.mk 1 a0 (Ty.mk 0 []) [])
def f_:Nat->Ty->Option Ty
 |0,_=>none|n+1,a0=>fh (dG a0.abe)<|db (λ(d:Int) (b:Ty)=>(λ(v40:List Ty)=>cA (f_ n b) λa=>fh (eC v40 [a])<|some (.next (fp v40 [a]))):Int->Ty->(List Ty)->(Option (eA (List Ty) (Ty)))) λc=>cA (dH c a0.abe 0 []) (ez (λ(v40:List Ty)=>some (Ty.mk a0.abd v40)) (λr=>some r))
def gY:Nat->Tm->Option Tm
 |0,_=>none|n+1,a0=>fh (dG a0.abe)<|db (λ(e:Int) (b:Tm)=>(λ(v40:List Tm)=>cA (gY n b) λa=>fh (eC v40 [a])<|some (.next (fp v40 [a]))):Int->Tm->(List Tm)->(Option (eA (List Tm) (Tm)))) λc=>cA (dH c a0.abe 0 []) (ez (λ(v40:List Tm)=>cA (f_ FU a0.cD) λd=>some (Tm.mk a0.abd a0.abg d v40)) (λr=>some r))
def oN(a0:Tm):Option Pf:=cA (gY FU a0) λa=>some (Pf.mk 18 0 (Ty.mk 0 []) [a] [] [])
def iZ:Nat->Fm->Option Fm
 |0,_=>none|n+1,a0=>cA (f_ FU a0.cD) λi=>fh (dG a0.cU)<|db (λ(j:Int) (f:Tm)=>(λ(v72:List Tm)=>cA (gY FU f) λc=>fh (eC v72 [c])<|some (.next (fp v72 [c]))):Int->Tm->(List Tm)->(Option (eA (List Tm) (Fm)))) λg=>cA (dH g a0.cU 0 []) (ez (λ(v72:List Tm)=>fh (dG a0.abe)<|db (λ(h:Int) (d:Fm)=>(λ(a:List Fm)=>cA (iZ n d) λb=>fh (eC a [b])<|some (.next (fp a [b]))):Int->Fm->(List Fm)->(Option (eA (List Fm) (Fm)))) λe=>cA (dH e a0.abe 0 []) (ez (λ(a:List Fm)=>some (Fm.mk a0.abd i v72 a)) (λr=>some r))) (λr=>some r))
def oT:Nat->Pf->Option Pf
 |0,_=>none|n+1,a0=>cA (f_ FU a0.cD) λo=>fh (dG a0.cU)<|db (λ(p:Int) (j:Tm)=>(λ(v72:List Tm)=>cA (gY FU j) λe=>fh (eC v72 [e])<|some (.next (fp v72 [e]))):Int->Tm->(List Tm)->(Option (eA (List Tm) (Pf)))) λk=>cA (dH k a0.cU 0 []) (ez (λ(v72:List Tm)=>fh (dG a0.ef)<|db (λ(l:Int) (f:Fm)=>(λ(a:List Fm)=>cA (iZ FU f) λc=>fh (eC a [c])<|some (.next (fp a [c]))):Int->Fm->(List Fm)->(Option (eA (List Fm) (Pf)))) λg=>cA (dH g a0.ef 0 []) (ez (λ(a:List Fm)=>fh (dG a0.abe)<|db (λ(m:Int) (h:Pf)=>(λ(b:List Pf)=>cA (oT n h) λd=>fh (eC b [d])<|some (.next (fp b [d]))):Int->Pf->(List Pf)->(Option (eA (List Pf) (Pf)))) λi=>cA (dH i a0.abe 0 []) (ez (λ(b:List Pf)=>some (Pf.mk a0.abd a0.abg o v72 a b)) (λr=>some r))) (λr=>some r))) (λr=>some r))
def sG(a0:Int)(a1:List Pf):Option Pf:=fh (dG a1)<|db (λ(e:Int) (c:Pf)=>(λ(a:List Pf)=>cA (oT FU c) λb=>fh (eC a [b])<|some (.next (fp a [b]))):Int->Pf->(List Pf)->(Option (eA (List Pf) (Pf)))) λd=>cA (dH d a1 0 []) (ez (λ(a:List Pf)=>some (Pf.mk a0 0 (Ty.mk 0 []) [] [] a)) (λr=>some r))
def qj(a0:Int)(a1:Ty)(a2:Pf):Option Pf:=cA (sG a0 [a2]) λa=>cA (f_ FU a1) λb=>some (Pf.mk a.abd a.abg b a.cU a.ef a.abe)
def jP:Nat->Ty->Option (Int×Bool)
 |0,_=>none|n+1,a0=>db (λ(v10:Int)=>if dr (dm a0.abe) v10 then some (0,false)else fh (dG a0.abe)<|db (λ(g:Int) (c:Ty)=>(λ(a:Int)=>cN (jP n c) λd e=>if e=true then some (.next (dB .i64 a d))else some (.ret (0,false))):Int->Ty->(Int)->(Option (eA (Int) (Int×Bool)))) λf=>cA (dH f a0.abe 0 1) (ez (λ(a:Int)=>some (a,true)) (λr=>some r))) λb=>if ew (de a0.abd 1) true (ew (de a0.abd 2) true (de a0.abd 5))then b 0 else if ew (de a0.abd 3) true (de a0.abd 4)then b 2 else some (0,false)
def gX(a0:Ty):Option (Int×Int):=cN (jP FU a0) λa b=>if b=true then if mV a 64 then some (0,4)else some (a,0)else some (0,2)
def kq(a0:Ty):Option Int:=cN (gX a0) λb a=>some a
def lC(a0:List Ty):Option Int:=if mV (dm a0) 16 then some 3 else fh (dG a0)<|db (λ(d:Int) (b:Ty)=>(λ(_:Unit)=>cA (kq b) λa=>if dr a 0 then some (.ret a)else some (.next ())):Int->Ty->(Unit)->(Option (eA (Unit) (Int)))) λc=>cA (dH c a0 0 ()) (ez (λ(_:Unit)=>some 0) (λr=>some r))
def l7(a0:Ty):Option Bool:=some (ew (de a0.abd 0) (de (dm a0.abe) 0) false)
def oY(a0:Fm):Option Bool:=db (λ(v10:Int) (v11:Int) (v12:Bool)=>db (some (ew (de (dm a0.cU) v10) (de (dm a0.abe) v11) false)) λb=>if v12=true then cN (gX a0.cD) λe c=>if dr c 0 then some false else b else cA (l7 a0.cD) λd=>if d=true then b else some false) λa=>if de a0.abd 1 then a 2 0 false else if ew (de a0.abd 2) true (de a0.abd 3)then a 0 2 false else if ew (de a0.abd 4) true (ew (de a0.abd 5) true (ew (de a0.abd 6) true (de a0.abd 7)))then a 0 1 true else some false
def rZ(a0:Int):Option (Int×Bool):=if ew (rv a0 1) true (qT a0 14)then some (0,false)else cA (c_ nK a0) λa=>some (a,true)
def sl(a0:Int):Option Bool:=some (ew (de a0 2) true (ew (de a0 6) true (de a0 9)))
def ie:Nat->Tm->Option (Int×Bool)
 |0,_=>none|n+1,a0=>cN (rZ a0.abd) λj k=>if ew k (ew (dr (dm a0.abe) j) true (ew (rv a0.abg 0) true (ew (dr a0.abg 0) (dr a0.abd 1) false))) true then some (0,false)else db (fh (dG a0.abe)<|db (λ(l:Int) (f:Tm)=>(λ(a:Int)=>cN (ie n f) λb c=>if c=true then some (.next (dB .i64 a b))else some (.ret (0,false))):Int->Tm->(Int)->(Option (eA (Int) (Int×Bool)))) λd=>cA (dH d a0.abe 0 1) (ez (λ(a:Int)=>some (a,true)) (λr=>some r))) λe=>cA (sl a0.abd) λg=>if g=true then cN (gX a0.cD) λm h=>if dr h 0 then some (0,false)else e else cA (l7 a0.cD) λi=>if i=true then e else some (0,false)
def hX:Nat->Fm->Option (Int×Bool)
 |0,_=>none|n+1,a0=>cA (oY a0) λk=>if k=true then fh (dG a0.cU)<|db (λ(l:Int) (f:Tm)=>(λ(v72:Int)=>cN (ie FU f) λg h=>if h=true then some (.next (dB .i64 v72 g))else some (.ret (0,false))):Int->Tm->(Int)->(Option (eA (Int) (Int×Bool)))) λi=>cA (dH i a0.cU 0 1) (ez (λ(v72:Int)=>fh (dG a0.abe)<|db (λ(j:Int) (b:Fm)=>(λ(a:Int)=>cN (hX n b) λc d=>if d=true then some (.next (dB .i64 a c))else some (.ret (0,false))):Int->Fm->(Int)->(Option (eA (Int) (Int×Bool)))) λe=>cA (dH e a0.abe 0 v72) (ez (λ(a:Int)=>some (a,true)) (λr=>some r))) (λr=>some r))else some (0,false)
def gO(a0:Fm):Option (Int×Int):=cN (hX FU a0) λa b=>if b=true then if mV a 4096 then some (0,4)else some (a,0)else some (0,2)
def iT(a0:Fm):Option Int:=cN (gO a0) λb a=>some a
def kT(a0:Ty):Option cH:=cN (gX a0) λa b=>some (cH.mk a0 a)
def lZ(a0:List Ty):Option (List cH):=fh (dG a0)<|db (λ(d:Int) (b:Ty)=>(λ(v40:List cH)=>cA (kT b) λa=>fh (eC v40 [a])<|some (.next (fp v40 [a]))):Int->Ty->(List cH)->(Option (eA (List cH) (List cH)))) λc=>cA (dH c a0 0 []) (ez (λ(v40:List cH)=>some v40) (λr=>some r))
def eG(a0:List cH)(a1:List Ty):Option (List cH):=cA (lZ a1) λa=>fh (eC a0 a)<|some (fp a0 a)
def o8(a0:Int)(a1:cH)(a2:cH):Option (cH×Int):=if mV (dB .i64 (dB .i64 1 a1.abf) a2.abf) 64 then some ((cH.mk (Ty.mk 0 []) 0),4)else some ((cH.mk (Ty.mk a0 [a1.cD,a2.cD]) (dB .i64 (dB .i64 1 a1.abf) a2.abf)),0)
def im(a0:Int):Option (List Int):=if de a0 4 then some [1] else if de a0 5 then some [1,1] else if de a0 7 then some [2] else if de a0 8 then some [2,1,2] else if de a0 13 then some [5] else some []
def hI(a0:cH)(a1:Int):Option Bool:=some (de a0.cD.abd a1)
def hV(a0:cH)(a1:Int):Option cH:=cA (c_ a0.cD.abe a1) λa=>cA (kT a) λb=>some b
def eU:Nat->Ty->Ty->Option Bool
 |0,_,_=>none|n+1,a0,a1=>if ew (dr a0.abd a1.abd) true (dr (dm a0.abe) (dm a1.abe))then some false else fh (dG a0.abe)<|db (λ(c:Int) (d:Ty)=>(λ(_:Unit)=>cA (c_ a1.abe c) λa=>cA (eU n d a) λb=>if b=true then some (.next ())else some (.ret false)):Int->Ty->(Unit)->(Option (eA (Unit) (Bool)))) λe=>cA (dH e a0.abe 0 ()) (ez (λ(_:Unit)=>some true) (λr=>some r))
def je(a0:cH)(a1:cH):Option Bool:=db (λ(v6:Bool)=>some v6) λa=>if de a0.abf a1.abf then cA (eU FU a0.cD a1.cD) λb=>a b else a false
def la:Option Ty:=some (Ty.mk 1 [])
def ux:Option Ty:=some (Ty.mk 2 [])
def my(a0:Ty)(a1:List Ty):Option Ty:=db ((Jc λ(a:Int) (v49:Int) (b:List Ty)=>if qT a 0 then cA (c_ a1 a) λc=>some (.next ((dX .i64 a 1),4,[c,(Ty.mk v49 b)]))else some (.zO (a,v49,b))):(Int×Int×(List Ty))->(Option (eA (Int×Int×(List Ty)) (Ty)))) λd=>cA (lu d FU ((dX .i64 (dm a1) 1),a0.abd,a0.abe)) (ez (Jc λ(a:Int) (v49:Int) (b:List Ty)=>some (Ty.mk v49 b)) (λr=>some r))
def m8(a0:Tm):Option Ty:=if de a0.abd 9 then cA (la) λa=>cA (ux) λb=>cA (my a0.cD [a,b,a0.cD]) λc=>some c else cA (la) λd=>cA (my a0.cD [d,a0.cD]) λe=>some e
def eK(a0:Tm)(a1:cH×cH×cH):Option (cH×Int):=cA (im a0.abd) λa=>if mV (dm a) 0 then cA (xO a 1 (dm a)) λf=>fh (dG f)<|db (λ(b:Int) (c:Int)=>(λ(_:Unit)=>db (λ(v222:Bool)=>if v222=true then some (.ret ((cH.mk (Ty.mk 0 []) 0),7))else some (.next ())) λd=>if de b 0 then cA (hI a1.1 c) λi=>d (k4 i)else if de b 1 then cA (hI a1.2.1 c) λj=>d (k4 j)else fh (de b 2)<|cA (hI a1.2.2 c) λk=>d (k4 k)):Int->Int->(Unit)->(Option (eA (Unit) (cH×Int)))) λl=>cA (dH l f 0 ()) (ez (λ(_:Unit)=>cA (c_ a 0) λm=>cA (kT (Ty.mk m [])) λn=>some (n,0)) (λr=>some r))else if de a0.abd 3 then db (λ(o:Bool)=>if o=true then some ((cH.mk (Ty.mk 0 []) 0),7)else cA (hV a1.1 1) λp=>some (p,0)) λg=>cA (hI a1.1 4) λq=>if q=true then cA (hV a1.1 0) λs=>cA (je s a1.2.1) λt=>g (k4 t)else g true else if ew (de a0.abd 6) true (de a0.abd 9)then cA (kT a0.cD) λh=>db (λ(u:Bool)=>if u=true then some ((cH.mk (Ty.mk 0 []) 0),7)else some (h,0)) λe=>cA (je a1.1 h) λv=>if v=true then cA (m8 a0) λw=>cA (eU FU a1.2.1.cD w) λx=>if x=true then cA (hI a1.2.2 (ew (de a0.abd 9) 2 1)) λy=>e (k4 y)else e true else e true else if de a0.abd 10 then cN (o8 3 a1.1 a1.2.1) λz A=>some (z,A)else cA (hI a1.1 3) λB=>if B=true then if de a0.abd 11 then cA (hV a1.1 0) λC=>some (C,0)else cA (hV a1.1 1) λD=>some (D,0)else some ((cH.mk (Ty.mk 0 []) 0),7)
def du:Nat->(List cH)->Tm->Option (cH×Int)
 |0,_,_=>none|n+1,a0,a1=>if de a1.abd 1 then if qT a1.abg (dm a0)then some ((cH.mk (Ty.mk 0 []) 0),6)else cA (c_ a0 (dX .i64 (dX .i64 (dm a0) 1) a1.abg)) λF=>some (F,0)else if de a1.abd 2 then cA (kT a1.cD) λk=>fh (eC a0 [k])<|cA (c_ a1.abe 0) λB=>cN (du n (fp a0 [k]) B) λC l=>if dr l 0 then some ((cH.mk (Ty.mk 0 []) 0),l)else cN (o8 4 k C) λD E=>some (D,E)else fh (dG a1.abe)<|db (λ(i:Int) (m:Tm)=>(Wc λ(b:Int) (c:List Ty) (v218:Int) (d:Int) (e:List Ty) (f:Int) (v222:Int) (g:List Ty) (h:Int)=>db (λ(o:Int) (p:List Ty) (q:Int) (s:Int) (t:List Ty) (u:Int) (v:Int) (w:List Ty) (x:Int)=>some (.next (o,p,q,s,t,u,v,w,x))) λj250=>cN (du n a0 m) λa j=>if dr j 0 then some (.ret ((cH.mk (Ty.mk 0 []) 0),j))else if de i 0 then j250 a.cD.abd a.cD.abe a.abf d e f v222 g h else if de i 1 then j250 b c v218 a.cD.abd a.cD.abe a.abf v222 g h else fh (de i 2)<|j250 b c v218 d e f a.cD.abd a.cD.abe a.abf):Int->Tm->(Int×(List Ty)×Int×Int×(List Ty)×Int×Int×(List Ty)×Int)->(Option (eA (Int×(List Ty)×Int×Int×(List Ty)×Int×Int×(List Ty)×Int) (cH×Int)))) λy=>cA (dH y a1.abe 0 (0,[],0,0,[],0,0,[],0)) (ez (Wc λ(b:Int) (c:List Ty) (v218:Int) (d:Int) (e:List Ty) (f:Int) (v222:Int) (g:List Ty) (h:Int)=>cN (eK a1 ((cH.mk (Ty.mk b c) v218),(cH.mk (Ty.mk d e) f),(cH.mk (Ty.mk v222 g) h))) λz A=>some (z,A)) (λr=>some r))
def gn(a0:List cH)(a1:Tm)(a2:Int):Option Int:=cN (du FU a0 a1) λd c=>db (λ(v21:Bool)=>if v21=true then some 7 else some c) λa=>if de c 0 then cA (hI d a2) λb=>a (k4 b)else a false
def fY(a0:List cH)(a1:Tm):Option Int:=cA (gn a0 a1 1) λa=>some a
def ds:Nat->(List cH)->Fm->Option Int
 |0,_,_=>none|n+1,a0,a1=>db (λ(e:List cH)=>fh (dG a1.abe)<|db (λ(k:Int) (f:Fm)=>(λ(_:Unit)=>cA (ds n e f) λa=>if dr a 0 then some (.ret a)else some (.next ())):Int->Fm->(Unit)->(Option (eA (Unit) (Int)))) λg=>cA (dH g a1.abe 0 ()) (ez (λ(_:Unit)=>some 0) (λr=>some r))) λb=>db (cA (eG a0 [a1.cD]) λh=>b h) λc=>if ew (de a1.abd 4) true (de a1.abd 5)then c else if ew (de a1.abd 6) true (de a1.abd 7)then c else if ew (de a1.abd 2) true (de a1.abd 3)then b a0 else fh (dG a1.cU)<|db (λ(l:Int) (i:Tm)=>(λ(_:Unit)=>cA (fY a0 i) λd=>if dr d 0 then some (.ret d)else some (.next ())):Int->Tm->(Unit)->(Option (eA (Unit) (Int)))) λj=>cA (dH j a1.cU 0 ()) (ez (λ(_:Unit)=>some 0) (λr=>some r))
def km(a0:List Ty)(a1:Fm):Option Int:=cA (lC a0) λd=>if dr d 0 then some d else cA (iT a1) λa=>if dr a 0 then some a else cA (lZ a0) λb=>cA (ds FU b a1) λc=>some c
def pz(a0:List Fm)(a1:Sq):Option Int:=if mV (dm a0) 32 then some 3 else fh (dG a0)<|db (λ(h:Int) (d:Fm)=>(λ(_:Unit)=>cA (km [] d) λa=>if dr a 0 then some (.ret a)else some (.next ())):Int->Fm->(Unit)->(Option (eA (Unit) (Int)))) λe=>cA (dH e a0 0 ()) (ez (λ(_:Unit)=>cA (lC a1.abh) λb=>if dr b 0 then some b else if mV (dm a1.abk) 16 then some 3 else fh (dG a1.abk)<|db (λ(i:Int) (f:Fm)=>(λ(_:Unit)=>cA (km a1.abh f) λc=>if dr c 0 then some (.ret c)else some (.next ())):Int->Fm->(Unit)->(Option (eA (Unit) (Int)))) λg=>cA (dH g a1.abk 0 ()) (ez (λ(_:Unit)=>some 0) (λr=>some r))) (λr=>some r))
def m7(a0:Int):Option (dV×Bool):=if ew (rv a0 1) true (qT a0 21)then some ((dV.mk false false 0 0 0 0 0 0),false)else cA (c_ mv a0) λa=>some (a,true)
def ja(a0:Tm):Option (Int×Int):=cN (ie FU a0) λa b=>if b=true then if mV a 4096 then some (0,4)else some (a,0)else some (0,2)
def fJ(a0:cO)(a1:Int)(a2:Int):Option (Bool×cO):=some ((dr a2 2),(ew a0.fP (cO.mk (dB .i64 a0.abf a1) true) (cO.mk (dB .i64 a0.abf a1) (de a2 4))))
def gy:Nat->cO->Pf->Option (Bool×cO)
 |0,_,_=>none|n+1,a0,a1=>cN (m7 a1.abd) λd A=>if ew A (ew (rv a1.abg 0) true (ew (dr a1.abg 0) (ew d.abg (ew (dr (dm a1.cU) d.cU) true (ew (dr (dm a1.ef) d.ef) true (dr (dm a1.abe) d.abe))) true) (ew (dr (dm a1.cU) d.cU) true (ew (dr (dm a1.ef) d.ef) true (dr (dm a1.abe) d.abe))))) true then some (false,a0)else db (λ(u:cO)=>fh (dG a1.cU)<|db (λ(B:Int) (v:Tm)=>(λ(a:cO)=>cN (ja v) λf g=>cN (fJ a f g) λh d179=>if h=true then some (.next d179)else some (.ret (false,d179))):Int->Tm->(cO)->(Option (eA (cO) (Bool×cO)))) λi=>cA (dH i a1.cU 0 u) (ez (λ(a:cO)=>fh (dG a1.ef)<|db (λ(y:Int) (j:Fm)=>(λ(b:cO)=>cN (gO j) λk l=>cN (fJ b k l) λm d322=>if m=true then some (.next d322)else some (.ret (false,d322))):Int->Fm->(cO)->(Option (eA (cO) (Bool×cO)))) λo=>cA (dH o a1.ef 0 a) (ez (λ(b:cO)=>fh (dG a1.abe)<|db (λ(z:Int) (p:Pf)=>(λ(c:cO)=>cN (gy n c p) λq e=>if q=true then some (.next e)else some (.ret (false,e))):Int->Pf->(cO)->(Option (eA (cO) (Bool×cO)))) λs=>cA (dH s a1.abe 0 b) (ez (λ(c:cO)=>some (true,c)) (λr=>some r))) (λr=>some r))) (λr=>some r))) λt=>if d.typed=true then cN (gX a1.cD) λC w=>if dr w 0 then some (false,(cO.mk (dB .i64 a0.abf 1) a0.fP))else t (cO.mk (dB .i64 a0.abf 1) a0.fP)else cA (l7 a1.cD) λx=>if x=true then t (cO.mk (dB .i64 a0.abf 1) a0.fP)else some (false,(cO.mk (dB .i64 a0.abf 1) a0.fP))
def oJ(a0:Pf):Option (Int×Int):=cN (gy FU (cO.mk 0 false) a0) λa d14=>if a=true then if ew d14.fP true (mV d14.abf 16384)then some (0,4)else some (d14.abf,0)else some (0,2)
def qG(a0:Pf):Option Int:=cN (oJ a0) λb a=>some a
def uU:Option Unit:=some ()
def eo(a0:cJ)(a1:Fm):Option cJ:=fh (eC a0.known [(cP.mk a1 a0.eu.vars)])<|some (cJ.mk (dw.mk a0.eu.vars (dB .i64 a0.eu.abk 1)) a0.abh (fp a0.known [(cP.mk a1 a0.eu.vars)]))
def pB(a0:Sq):Option cJ:=cA (lZ a0.abh) λg=>fh (dG a0.abk)<|db (λ(h:Int) (e:Fm)=>(Ve λ(b:Int) (v46:Int) (c:List cH) (d:List cP)=>cA (eo (cJ.mk (dw.mk b v46) c d) e) λa=>some (.next (a.eu.vars,a.eu.abk,a.abh,a.known))):Int->Fm->(Int×Int×(List cH)×(List cP))->(Option (eA (Int×Int×(List cH)×(List cP)) (cJ)))) λf=>cA (dH f a0.abk 0 ((dm a0.abh),0,g,[])) (ez (Ve λ(b:Int) (v46:Int) (c:List cH) (d:List cP)=>some (cJ.mk (dw.mk b v46) c d)) (λr=>some r))
def gf(a0:Int):Option Tm:=some (Tm.mk 1 a0 (Ty.mk 0 []) [])
def qM(a0:Int)(a1:Int)(a:Int)(b:Int):Option Tm:=cA (gf (ew (qT (dX .i64 a0 a1) a) (dB .i64 a0 b) a0)) λc=>some c
def iX:Nat->Ty->Option Ty
 |0,_=>none|n+1,a0=>fh (dG a0.abe)<|db (λ(e:Int) (c:Ty)=>(λ(a:List Ty)=>cA (iX n c) λb=>fh (eC a [b])<|some (.next (fp a [b]))):Int->Ty->(List Ty)->(Option (eA (List Ty) (Ty)))) λd=>cA (dH d a0.abe 0 []) (ez (λ(a:List Ty)=>some (Ty.mk a0.abd a)) (λr=>some r))
def fy{S:Type}:Nat->Tm->Int->(S->Int->Int->Option (Tm×S))->S->Option (Tm×S)
 |0,_,_,_,_=>none|n+1,a0,a1,c,d=>if de a0.abd 1 then cN (c d a0.abg a1) λg h=>some (g,h)else cA (iX FU a0.cD) λi=>fh (dG a0.abe)<|db (λ(k:Int) (j:Tm)=>(p0 λ(a:List Tm) (v107:S)=>cN (fy n j (ew (de a0.abd 2) (dB .i64 a1 1) a1) c v107) λb e=>fh (eC a [b])<|some (.next ((fp a [b]),e))):Int->Tm->((List Tm)×S)->(Option (eA ((List Tm)×S) (Tm×S)))) λf=>cA (dH f a0.abe 0 ([],d)) (ez (p0 λ(a:List Tm) (v107:S)=>some ((Tm.mk a0.abd a0.abg i a),v107)) (λr=>some r))
def ml{S:Type}(a0:Tm)(a1:(S->Int->Int->Option (Tm×S)))(a:S):Option (Tm×S):=cN (fy FU a0 0 a1 a) λb c=>some (b,c)
def oV(a0:Tm)(a1:Int)(a2:Int):Option Tm:=cN (ml a0 (λ(s:Unit) (a:Int) (b:Int)=>oy (qM a b a1 a2) s) ()) λc d=>some c
def kD(a0:Tm)(a1:Int)(a:Int)(b:Int):Option Tm:=cA (oV a0 (dB .i64 a a1) b) λc=>some c
def kW(a0:Int):Option Bool:=some (ew (qT a0 4) (Gd a0 7) false)
def dE{S:Type}:Nat->Fm->Int->(S->Tm->Int->Option (Tm×S))->S->Option (Fm×S)
 |0,_,_,_,_=>none|n+1,a0,a1,a2,l=>cA (iX FU a0.cD) λq=>fh (dG a0.cU)<|db (λ(s:Int) (m:Tm)=>(p0 λ(v91:List Tm) (e:S)=>cN (a2 e m a1) λb f=>fh (eC v91 [b])<|some (.next ((fp v91 [b]),f))):Int->Tm->((List Tm)×S)->(Option (eA ((List Tm)×S) (Fm×S)))) λo=>cA (dH o a0.cU 0 ([],l)) (ez (p0 λ(v91:List Tm) (e:S)=>db (λ(g:Int)=>fh (dG a0.abe)<|db (λ(p:Int) (h:Fm)=>(p0 λ(a:List Fm) (v212:S)=>cN (dE n h g a2 v212) λc i=>fh (eC a [c])<|some (.next ((fp a [c]),i))):Int->Fm->((List Fm)×S)->(Option (eA ((List Fm)×S) (Fm×S)))) λj=>cA (dH j a0.abe 0 ([],e)) (ez (p0 λ(a:List Fm) (v212:S)=>some ((Fm.mk a0.abd q v91 a),v212)) (λr=>some r))) λd=>cA (kW a0.abd) λk=>if k=true then d (dB .i64 a1 1)else d a1) (λr=>some r))
def dY(a0:Fm)(a1:Int)(a2:Int):Option Fm:=cN (dE FU a0 0 (λ(s:Unit) (a:Tm) (b:Int)=>oy (kD a b a1 a2) s) ()) λc d=>some c
def ju(a0:cJ)(a1:Int):Option (Fm×Bool):=if qT a1 (dm a0.known)then some ((Fm.mk 0 (Ty.mk 0 []) [] []),false)else cA (c_ a0.known (dX .i64 (dX .i64 (dm a0.known) 1) a1)) λa=>cA (dY a.cK 0 (dX .i64 a0.eu.vars a.vars)) λb=>some (b,true)
def mc(a0:List Fm)(a1:Pf)(a2:cJ):Option (cE×Int):=cN (ju a2 a1.abg) λa b=>if b=true then some ((cE.mk a 0),0)else some ((cE.mk (Fm.mk 0 (Ty.mk 0 []) [] []) 0),8)
def lq(a0:List Fm)(a1:Pf)(a2:cJ):Option (cE×Int):=if qT a1.abg (dm a0)then some ((cE.mk (Fm.mk 0 (Ty.mk 0 []) [] []) 0),9)else cA (c_ a0 a1.abg) λa=>some ((cE.mk a 0),0)
def w8(a0:Int)(a1:List Fm):Option Fm:=some (Fm.mk a0 (Ty.mk 0 []) [] a1)
def dq(a0:dw)(a1:Int)(a2:Int):Option Int:=if ew (mV (dB .i64 a0.vars a1) 16) true (mV (dB .i64 a0.abk a2) 16)then some 3 else some 0
def nt(a0:Tm):Option Int:=cN (ja a0) λb a=>some a
def gx:Nat->Tm->Tm->Option Bool
 |0,_,_=>none|n+1,a0,a1=>db (λ(d:Bool)=>if d=true then some false else fh (dG a0.abe)<|db (λ(e:Int) (f:Tm)=>(λ(_:Unit)=>cA (c_ a1.abe e) λb=>cA (gx n f b) λc=>if c=true then some (.next ())else some (.ret false)):Int->Tm->(Unit)->(Option (eA (Unit) (Bool)))) λg=>cA (dH g a0.abe 0 ()) (ez (λ(_:Unit)=>some true) (λr=>some r))) λa=>if dr a0.abd a1.abd then a true else if dr a0.abg a1.abg then a true else cA (eU FU a0.cD a1.cD) λh=>if h=true then a (dr (dm a0.abe) (dm a1.abe))else a true
def oR(a0:Tm)(a1:Tm):Option Bool:=cA (gx FU a0 a1) λa=>some a
def oU(a0:Int)(a1:Int)(a:Bool):Option Bool:=if a=true then some (Gd a0 536870912)else some false
def hU{S:Type}:Nat->Tm->Int->(S->Int->Int->Option S)->S->Option S
 |0,_,_,_,_=>none|n+1,a0,a1,a,b=>db (λ(v6:S)=>fh (dG a0.abe)<|db (λ(g:Int) (c:Tm)=>(λ(v28:S)=>cA (hU n c (ew (de a0.abd 2) (dB .i64 a1 1) a1) a v28) λd=>some (.next d)):Int->Tm->(S)->(Option (eA (S) (S)))) λe=>cA (dH e a0.abe 0 v6) (ez (λ(v28:S)=>some v28) (λr=>some r))) λf=>if de a0.abd 1 then cA (a b a0.abg a1) λh=>f h else f b
def pj{S:Type}(a0:Tm)(a1:(S->Int->Int->Option S))(a:S):Option S:=cA (hU FU a0 0 a1 a) λs1=>some s1
def tM(a0:Tm):Option Bool:=cA (pj a0 (λ(s:Bool) (a:Int) (b:Int)=>oU a b s) true) λc=>some c
def iD(a0:Int)(a1:Int)(a2:Ty)(a3:(List (Option Nat)))(nh:List HC):Option ((Option Nat)×List HC):=fh (dG a3)<|db (λ(l:Int) (h:Option Nat)=>(λ(b:List HC)=>cA (HC.cM b (List.length nh)) λa=>cA (h) λg=>cA (HC.cM b g) λe=>cA (HC.cM (iF b (List.length nh) (HC.dn (di.mk a.abd a.abg a.nU a.abe (dB .i64 a.size e.size) a.free a.normal))) g) λi=>some (.next (iF (iF b (List.length nh) (HC.dn (di.mk a.abd a.abg a.nU a.abe (dB .i64 a.size e.size) a.free a.normal))) (List.length nh) (HC.dn (di.mk a.abd a.abg a.nU a.abe (dB .i64 a.size e.size) (imax a.free i.free) a.normal))))):Int->(Option Nat)->(List HC)->(Option (eA (List HC) ((Option Nat)×List HC)))) λj=>cA (dH j a3 0 (nh++[HC.dn (di.mk a0 a1 a2 a3 1 0 false)])) (ez (λ(b:List HC)=>db (λ(k:List HC)=>some ((some (List.length nh)),k)) λf=>if de a0 1 then cA (HC.cM b (List.length nh)) λd=>f (iF b (List.length nh) (HC.dn (di.mk d.abd d.abg d.nU d.abe d.size (dB .i64 a1 1) d.normal)))else if de a0 2 then cA (HC.cM b (List.length nh)) λc=>f (iF b (List.length nh) (HC.dn (di.mk c.abd c.abg c.nU c.abe c.size (imax 0 (dX .i64 c.free 1)) c.normal)))else f b) (λr=>some r))
def ng:Nat->Tm->List HC->Option ((Option Nat)×List HC)
 |0,_,_=>none|n+1,a0,nh=>fh (dG a0.abe)<|db (λ(h:Int) (e:Tm)=>(p0 λ(v51:(List (Option Nat))) (a:List HC)=>cN (ng n e a) λb c=>fh (eC v51 [b])<|some (.next ((fp v51 [b]),c))):Int->Tm->((List (Option Nat))×List HC)->(Option (eA ((List (Option Nat))×List HC) ((Option Nat)×List HC)))) λf=>cA (dH f a0.abe 0 ([],nh)) (ez (p0 λ(v51:(List (Option Nat))) (a:List HC)=>cN (iD a0.abd a0.abg a0.cD v51 a) λg d=>some (g,d)) (λr=>some r))
def oH(a0:Option Nat)(nh:List HC):Option Int:=cA (a0) λa=>cA (HC.cM nh a) λb=>some b.size
def iC(a0:Option Nat)(nh:List HC):Option Bool:=cA (a0) λn=>cA (HC.cM nh n) λa=>if de a.abd 3 then cA (c_ a.abe 0) λo=>cA (o) λp=>cA (HC.cM nh p) λq=>some (de q.abd 2)else if de a.abd 6 then db (λ(r:Bool)=>some r) λb=>cA (c_ a.abe 2) λf=>cA (f) λg=>cA (HC.cM nh g) λc=>if de c.abd 4 then b true else b (de c.abd 5)else if de a.abd 9 then db (λ(h:Bool)=>some h) λd=>cA (c_ a.abe 2) λi=>cA (i) λj=>cA (HC.cM nh j) λe=>if de e.abd 7 then d true else d (de e.abd 8)else if ew (de a.abd 11) true (de a.abd 12)then cA (c_ a.abe 0) λk=>cA (k) λl=>cA (HC.cM nh l) λm=>some (de m.abd 10)else some false
def gA(a0:Option Nat)(nh:List HC):Option Int:=cA (a0) λa=>cA (HC.cM nh a) λb=>if de b.abd 2 then some 1 else some 0
def iG:Nat->(Option Nat)->Int->List HC->Option Int
 |0,_,_,_=>none|n+1,a0,a1,nh=>cA (a0) λc=>cA (HC.cM nh c) λa=>if Gd a.free a1 then some 0 else if de a.abd 1 then if de a.abg a1 then some 1 else some 0 else fh (dG a.abe)<|db (λ(h:Int) (d:Option Nat)=>(λ(b:Int)=>cA (gA (some c) nh) λe=>cA (iG n d (dB .i64 a1 e) nh) λf=>some (.next (dB .i64 b f))):Int->(Option Nat)->(Int)->(Option (eA (Int) (Int)))) λg=>cA (dH g a.abe 0 0) (ez (λ(b:Int)=>some b) (λr=>some r))
def eT(a0:Option Nat)(a1:(List (Option Nat)))(nh:List HC):Option ((Option Nat)×List HC):=cA (a0) λc=>cA (HC.cM nh c) λa=>cN (iD a.abd a.abg a.nU a1 nh) λd b=>some (d,b)
def hH:Nat->(Option Nat)->Int->Int->List HC->Option ((Option Nat)×List HC)
 |0,_,_,_,_=>none|n+1,a0,a1,a2,nh=>db (λ(v21:Bool)=>if v21=true then some (a0,nh)else cA (a0) λe=>cA (HC.cM nh e) λc=>if de c.abd 1 then cN (iD c.abd (dB .i64 c.abg a2) c.nU [] nh) λo h=>some (o,h)else fh (dG c.abe)<|db (λ(s:Int) (i:Option Nat)=>(p0 λ(a:(List (Option Nat))) (b:List HC)=>cA (gA (some e) b) λj=>cN (hH n i (dB .i64 a1 j) a2 b) λd f=>fh (eC a [d])<|some (.next ((fp a [d]),f))):Int->(Option Nat)->((List (Option Nat))×List HC)->(Option (eA ((List (Option Nat))×List HC) ((Option Nat)×List HC)))) λk=>cA (dH k c.abe 0 ([],nh)) (ez (p0 λ(a:(List (Option Nat))) (b:List HC)=>cN (eT (some e) a b) λl g=>some (l,g)) (λr=>some r))) λm=>cA (a0) λp=>cA (HC.cM nh p) λq=>if Gd q.free a1 then m true else m (de a2 0)
def ij:Nat->(Option Nat)->Int->(Option Nat)->List HC->Option ((Option Nat)×List HC)
 |0,_,_,_,_=>none|n+1,a0,a1,a2,nh=>cA (a0) λd=>cA (HC.cM nh d) λa=>if Gd a.free a1 then some (a0,nh)else if de a.abd 1 then if de a.abg a1 then cN (hH FU a2 0 a1 nh) λm g=>some (m,g)else cN (iD a.abd (dX .i64 a.abg 1) a.nU [] nh) λo h=>some (o,h)else fh (dG a.abe)<|db (λ(p:Int) (i:Option Nat)=>(p0 λ(v131:(List (Option Nat))) (b:List HC)=>cA (gA (some d) b) λj=>cN (ij n i (dB .i64 a1 j) a2 b) λc e=>fh (eC v131 [c])<|some (.next ((fp v131 [c]),e))):Int->(Option Nat)->((List (Option Nat))×List HC)->(Option (eA ((List (Option Nat))×List HC) ((Option Nat)×List HC)))) λk=>cA (dH k a.abe 0 ([],nh)) (ez (p0 λ(v131:(List (Option Nat))) (b:List HC)=>cN (eT (some d) v131 b) λl f=>some (l,f)) (λr=>some r))
def o6(a0:Option Nat)(a1:(List (Option Nat)))(nh:List HC):Option ((Option Nat)×List HC):=fh (dG a1)<|db (λ(g:Int) (d:Option Nat)=>(p0 λ(a:Option Nat) (b:List HC)=>cN (iD 3 0 (Ty.mk 0 []) [a,d] b) λe c=>some (.next (e,c))):Int->(Option Nat)->((Option Nat)×List HC)->(Option (eA ((Option Nat)×List HC) ((Option Nat)×List HC)))) λf=>cA (dH f a1 0 (a0,nh)) (ez (p0 λ(a:Option Nat) (b:List HC)=>some (a,b)) (λr=>some r))
def gE(a0:Option Nat)(nh:List HC):Option ((Option Nat)×List HC):=cA (a0) λj=>cA (HC.cM nh j) λa=>if de a.abd 3 then cA (c_ a.abe 0) λk=>cA (k) λl=>cA (HC.cM nh l) λm=>cA (c_ m.abe 0) λn=>cA (c_ a.abe 1) λo=>cN (ij FU n 0 o nh) λp g=>some (p,g)else if de a.abd 11 then cA (c_ a.abe 0) λq=>cA (q) λr=>cA (HC.cM nh r) λs=>cA (c_ s.abe 0) λt=>some (t,nh)else if de a.abd 12 then cA (c_ a.abe 0) λu=>cA (u) λv=>cA (HC.cM nh v) λw=>cA (c_ w.abe 1) λx=>some (x,nh)else cA (c_ a.abe 0) λd=>cA (c_ a.abe 1) λe=>cA (c_ a.abe 2) λy=>cA (y) λf=>cA (HC.cM nh f) λb=>if de (dm b.abe) 0 then some (d,nh)else cA (c_ b.abe (dX .i64 (dm b.abe) 1)) λz=>cN (eT (some j) [d,e,z] nh) λA c=>cA (HC.cM c f) λB=>cN (o6 e B.abe c) λC h=>cN (o6 C [A] h) λD i=>some (D,i)
def ku(a0:Option Nat)(nh:List HC):Option (Int×List HC):=cA (a0) λd=>cA (HC.cM nh d) λa=>if de a.abd 3 then cA (c_ a.abe 0) λi=>cA (i) λj=>cA (HC.cM nh j) λk=>cA (c_ k.abe 0) λl=>cA (l) λe=>cA (HC.cM nh e) λm=>cA (iG FU (some e) 0 nh) λn=>cA (c_ a.abe 1) λo=>cA (o) λp=>cA (HC.cM nh p) λq=>some ((dB .i64 m.size (GL .i64 n (dX .i64 q.size 1))),nh)else if de a.abd 6 then cA (c_ a.abe 2) λr=>cA (r) λs=>cA (HC.cM nh s) λf=>if de f.abd 5 then cA (c_ a.abe 1) λt=>cA (t) λu=>cA (HC.cM nh u) λg=>cA (c_ f.abe 0) λv=>cA (v) λw=>cA (HC.cM nh w) λx=>cA (c_ a.abe 0) λy=>cA (y) λz=>cA (HC.cM nh z) λA=>some ((dB .i64 (dB .i64 (dB .i64 (dB .i64 (dB .i64 2 g.size) (GL .i64 2 x.size)) 1) A.size) g.size),nh)else cA (c_ a.abe 0) λB=>cA (B) λC=>cA (HC.cM nh C) λD=>some (D.size,nh)else if de a.abd 9 then cA (c_ a.abe 2) λE=>cA (E) λF=>cA (HC.cM nh F) λb=>if de b.abd 8 then cA (c_ a.abe 1) λG=>cA (G) λH=>cA (HC.cM nh H) λh=>cA (c_ b.abe 0) λI=>cA (I) λJ=>cA (HC.cM nh J) λK=>cA (c_ b.abe 1) λL=>cA (L) λM=>cA (HC.cM nh M) λN=>cA (c_ a.abe 0) λO=>cA (O) λP=>cA (HC.cM nh P) λQ=>some ((dB .i64 (dB .i64 (dB .i64 (dB .i64 (dB .i64 (dB .i64 3 h.size) K.size) (GL .i64 2 N.size)) 1) Q.size) h.size),nh)else cA (c_ a.abe 0) λR=>cA (R) λS=>cA (HC.cM nh S) λT=>some (T.size,nh)else cN (gE (some d) nh) λU c=>cA (U) λV=>cA (HC.cM c V) λW=>some (W.size,c)
def mR(a0:Option Nat)(nh:List HC):Option Int:=cN (ku a0 nh) λr _=>some r
def hD:Nat->(Option Nat)->Int->List HC->Option ((Option Nat)×Int×List HC)
 |0,_,_,_=>none|n+1,a0,a1,nh=>cA (a0) λd=>cA (HC.cM nh d) λh=>if h.normal=true then some (none,0,nh)else cA (iC (some d) nh) λo=>if o=true then cA (mR (some d) nh) λp=>if mV (dX .i64 p h.size) a1 then some (none,4,nh)else cN (gE (some d) nh) λq k=>some (q,0,k)else fh (dG h.abe)<|db (λ(j:Int) (s:Option Nat)=>(λ(c:List HC)=>gd (hD n s a1 c) λf g b=>if dr g 0 then some (.ret (none,g,b))else if Option.isSome f then cA (HC.cM b d) λe=>fh (vA e.abe)<|cA (c_ e.abe j) λt=>cN (eT (some d) (yH e.abe j f) b) λl i=>some (.ret (l,0,i))else some (.next b)):Int->(Option Nat)->(List HC)->(Option (eA (List HC) ((Option Nat)×Int×List HC)))) λm=>cA (dH m h.abe 0 nh) (ez (λ(c:List HC)=>cA (HC.cM c d) λa=>some (none,0,(iF c d (HC.dn (di.mk a.abd a.abg a.nU a.abe a.size a.free true))))) (λr=>some r))
def h6(a0:Option Nat)(nh:List HC):Option (Bool×Int×List HC):=cA (a0) λb=>cA (HC.dD nh b) λd=>cA (oH d.term nh) λg=>gd (hD FU d.term (dX .i64 4096 g) nh) λc e a=>if ew (dr e 0) true (Option.isNone c)then some (false,e,a)else cA (HC.dD a b) λf=>some (true,0,(iF (iF a b (HC.en (eb.mk c f.steps))) b (HC.en (eb.mk c (dB .i64 f.steps 1)))))
def gw:Nat->(Option Nat)->List HC->Option Tm
 |0,_,_=>none|n+1,a0,nh=>cA (a0) λd=>cA (HC.cM nh d) λa=>cA (iX FU a.nU) λe=>fh (dG a.abe)<|db (λ(h:Int) (f:Option Nat)=>(λ(b:List Tm)=>cA (gw n f nh) λc=>fh (eC b [c])<|some (.next (fp b [c]))):Int->(Option Nat)->(List Tm)->(Option (eA (List Tm) (Tm)))) λg=>cA (dH g a.abe 0 []) (ez (λ(b:List Tm)=>some (Tm.mk a.abd a.abg e b)) (λr=>some r))
def gR:Nat->(Option Nat)->List HC->Option (Bool×List HC)
 |0,_,_=>none|n+1,a0,nh=>cA (a0) λc=>cA (HC.cM nh c) λe=>if e.normal=true then some (true,nh)else cA (iC (some c) nh) λg=>if g=true then some (false,nh)else fh (dG e.abe)<|db (λ(j:Int) (h:Option Nat)=>(λ(d:List HC)=>cN (gR n h d) λf b=>if f=true then some (.next b)else some (.ret (false,b))):Int->(Option Nat)->(List HC)->(Option (eA (List HC) (Bool×List HC)))) λi=>cA (dH i e.abe 0 nh) (ez (λ(d:List HC)=>cA (HC.cM d c) λa=>some (true,(iF d c (HC.dn (di.mk a.abd a.abg a.nU a.abe a.size a.free true))))) (λr=>some r))
def iU(a0:Tm)(a1:Int):Option (Tm×Int×Int):=cA (nt a0) λt=>if dr t 0 then some ((Tm.mk 0 0 (Ty.mk 0 []) []),0,t)else db (λ(p:Bool)=>if p=true then some ((Tm.mk 0 0 (Ty.mk 0 []) []),0,1)else cN (ng FU a0 ([]:List HC)) λq a=>db ((λ(b:List HC)=>cA (HC.dD b (List.length a)) λi=>if rv i.steps a1 then gd (h6 (some (List.length a)) b) λj e c=>if dr e 0 then some (.ret ((Tm.mk 0 0 (Ty.mk 0 []) []),0,e))else if j=true then some (.next c)else cA (HC.dD c (List.length a)) λf=>cA (gw FU f.term c) λk=>some (.ret (k,f.steps,0))else some (.zO b)):(List HC)->(Option (eA (List HC) (Tm×Int×Int)))) λl=>cA (lu l FU (a++[HC.en (eb.mk q 0)])) (ez (λ(b:List HC)=>cA (HC.dD b (List.length a)) λm=>cN (gR FU m.term b) λn d=>if n=true then cA (HC.dD d (List.length a)) λg=>cA (gw FU g.term d) λo=>some (o,g.steps,0)else some ((Tm.mk 0 0 (Ty.mk 0 []) []),0,5)) (λr=>some r))) λh=>if rv a1 0 then h true else if mV a1 65536 then h true else cA (tM a0) λs=>h (k4 s)
def jF(a0:Tm)(a1:Tm)(a2:Int):Option Int:=cA (nt a0) λh=>if dr h 0 then some h else cA (nt a1) λa=>if dr a 0 then some a else cA (oR a0 a1) λd=>if d=true then some 0 else gd (iU a0 a2) λe i b=>if dr b 0 then some b else gd (iU a1 a2) λf j c=>if dr c 0 then some c else cA (oR e f) λg=>if g=true then some 0 else some 11
def hE:Nat->Fm->Fm->Option Int
 |0,_,_=>none|n+1,a0,a1=>db (λ(i:Bool)=>if i=true then some 11 else fh (dG a0.cU)<|db (λ(j:Int) (k:Tm)=>(λ(_:Unit)=>cA (c_ a1.cU j) λc=>cA (jF k c 1000) λa=>if dr a 0 then some (.ret a)else some (.next ())):Int->Tm->(Unit)->(Option (eA (Unit) (Int)))) λl=>cA (dH l a0.cU 0 ()) (ez (λ(_:Unit)=>fh (dG a0.abe)<|db (λ(d:Int) (e:Fm)=>(λ(_:Unit)=>cA (c_ a1.abe d) λf=>cA (hE n e f) λb=>if dr b 0 then some (.ret b)else some (.next ())):Int->Fm->(Unit)->(Option (eA (Unit) (Int)))) λg=>cA (dH g a0.abe 0 ()) (ez (λ(_:Unit)=>some 0) (λr=>some r))) (λr=>some r))) λh=>if dr a0.abd a1.abd then h true else cA (eU FU a0.cD a1.cD) λm=>h (k4 m)
def gB(a0:Fm)(a1:Fm):Option Int:=cA (iT a0) λc=>if dr c 0 then some c else cA (iT a1) λa=>if dr a 0 then some a else cA (hE FU a0 a1) λb=>some b
def eg(a0:cJ)(a1:List Ty):Option cJ:=cA (eG a0.abh a1) λa=>some (cJ.mk (dw.mk (dB .i64 a0.eu.vars (dm a1)) a0.eu.abk) a a0.known)
def il(a0:Int)(a1:Ty)(a2:Fm):Option Fm:=some (Fm.mk a0 a1 [] [a2])
def dS(a0:Int)(a1:Int):Option Int:=fh (Ex a1)<|some (Oj .u32 a0 a1)
def lv(a0:Int)(a1:Int)(a:Int):Option Int:=if qT a0 a1 then fh (Ex (dX .i64 a0 a1))<|some (tO .u32 a (NM .u32 1 (dX .i64 a0 a1)))else some a
def iN(a0:Tm):Option Int:=cA (pj a0 (λ(s:Int) (a:Int) (b:Int)=>lv a b s) 0) λc=>some c
def fK(a0:cH)(a1:Ty):Option Bool:=cA (kT a1) λa=>cA (je a0 a) λb=>some b
def mq(a0:Int)(a1:Int)(b:Int)(a:Int):Option Int:=if de (dX .i64 a0 a1) b then some (dB .i64 a 1)else some a
def qg(a0:Tm)(a1:Int):Option Int:=cA (pj a0 (λ(s:Int) (a:Int) (b:Int)=>mq a b a1 s) 0) λc=>some c
def hQ(a0:Tm)(a1:Int)(a:Int)(b:Int):Option Int:=cA (qg a0 (dB .i64 b a1)) λc=>some (dB .i64 a c)
def ki{S:Type}:Nat->Fm->Int->(S->Tm->Int->Option S)->S->Option S
 |0,_,_,_,_=>none|n+1,a0,a1,a2,c=>fh (dG a0.cU)<|db (λ(k:Int) (d:Tm)=>(λ(a:S)=>cA (a2 a d a1) λe=>some (.next e)):Int->Tm->(S)->(Option (eA (S) (S)))) λf=>cA (dH f a0.cU 0 c) (ez (λ(a:S)=>db (λ(v51:Int)=>fh (dG a0.abe)<|db (λ(l:Int) (g:Fm)=>(λ(v72:S)=>cA (ki n g v51 a2 v72) λh=>some (.next h)):Int->Fm->(S)->(Option (eA (S) (S)))) λi=>cA (dH i a0.abe 0 a) (ez (λ(v72:S)=>some v72) (λr=>some r))) λb=>cA (kW a0.abd) λj=>if j=true then b (dB .i64 a1 1)else b a1) (λr=>some r))
def iV(a0:Fm)(a1:Int):Option Int:=cA (ki FU a0 0 (λ(s:Int) (a:Tm) (b:Int)=>hQ a b s a1) 0) λc=>some c
def mu(a0:Int)(a1:Int)(a:Int)(b:Tm):Option Tm:=if de (dX .i64 a0 a1) a then cA (oV b 0 (dB .i64 a a1)) λc=>some c else if mV (dX .i64 a0 a1) a then cA (gf (dX .i64 a0 1)) λd=>some d else cA (gf a0) λe=>some e
def wh(a0:Tm)(a1:Int)(a2:Tm):Option Tm:=cN (ml a0 (λ(s:Unit) (a:Int) (b:Int)=>oy (mu a b a1 a2) s) ()) λc d=>some c
def gM(a0:Tm)(a1:Int)(a:Int)(b:Tm):Option Tm:=cA (wh a0 (dB .i64 a a1) b) λc=>some c
def jn(a0:Fm)(a1:Int)(a2:Tm):Option Fm:=cN (dE FU a0 0 (λ(s:Unit) (a:Tm) (b:Int)=>oy (gM a b a1 a2) s) ()) λc d=>some c
def gJ(a0:Fm)(a1:Tm):Option (Fm×Int):=cN (gO a0) λd f=>cN (ja a1) λa e=>cA (iV a0 0) λb=>if mV (dB .i64 d (GL .i64 b (dX .i64 a 1))) 4096 then some ((Fm.mk 0 (Ty.mk 0 []) [] []),4)else cA (jn a0 0 a1) λc=>some (c,0)
def nd(a0:Tm):Option Int:=some 0
def iI(a0:Tm)(a1:Int)(a:Int):Option (Tm×Int):=if dr a 0 then some (a0,a)else gd (iU a0 1000) λb d c=>some (b,c)
def kI(a0:Fm):Option (Fm×Int):=cA (iV a0 0) λc=>if de c 0 then cA (jn a0 0 (Tm.mk 0 0 (Ty.mk 0 []) [])) λd=>some (d,0)else cN (dE FU a0 0 (λ(s:Int) (g:Tm) (h:Int)=>iI g h s) 0) λa b=>if dr b 0 then some ((Fm.mk 0 (Ty.mk 0 []) [] []),b)else cA (iV a 0) λe=>if mV e 0 then some ((Fm.mk 0 (Ty.mk 0 []) [] []),6)else cA (jn a 0 (Tm.mk 0 0 (Ty.mk 0 []) [])) λf=>some (f,0)
def oG(a0:Int)(a1:List Tm):Option Tm:=some (Tm.mk a0 0 (Ty.mk 0 []) a1)
def iw(a0:Int):Option dh:=if de a0 16 then cA (oG 4 []) λa=>cA (la) λb=>cA (gf 0) λc=>cA (oG 5 [c]) λd=>some (dh.mk 1 a [b] d)else cA (oG 7 []) λe=>cA (la) λf=>cA (ux) λg=>cA (gf 1) λh=>cA (gf 0) λi=>cA (oG 8 [h,i]) λj=>some (dh.mk 2 e [f,g] j)
def ot(a0:Tm)(a1:Tm):Option Fm:=some (Fm.mk 1 (Ty.mk 0 []) [a0,a1] [])
def lI(a0:List Fm)(a1:Pf)(a2:cJ):Option (cE×Int):=cA (c_ a1.cU 0) λb=>cA (fY a2.abh b) λa=>if dr a 0 then some ((cE.mk (Fm.mk 0 (Ty.mk 0 []) [] []) 0),a)else cA (ot b b) λc=>some ((cE.mk c 0),0)
def pQ(a0:Tm)(a1:List Tm):Option Tm:=fh (dG a1)<|db (λ(h:Int) (f:Tm)=>(WD λ(b:Int) (c:Int) (v46:Int) (d:List Ty) (e:List Tm)=>cA (oG 3 [(Tm.mk b c (Ty.mk v46 d) e),f]) λa=>some (.next (a.abd,a.abg,a.cD.abd,a.cD.abe,a.abe))):Int->Tm->(Int×Int×Int×(List Ty)×(List Tm))->(Option (eA (Int×Int×Int×(List Ty)×(List Tm)) (Tm)))) λg=>cA (dH g a1 0 (a0.abd,a0.abg,a0.cD.abd,a0.cD.abe,a0.abe)) (ez (WD λ(b:Int) (c:Int) (v46:Int) (d:List Ty) (e:List Tm)=>some (Tm.mk b c (Ty.mk v46 d) e)) (λr=>some r))
def qO(a0:Bool):Option (Int×Int):=if a0=true then some (4,3)else some (5,2)
def r8(a0:Tm)(a1:List Ty):Option Tm:=db ((M4 λ(a:Int) (b:Int) (v59:Int) (c:Int) (d:List Ty) (e:List Tm)=>if qT a 0 then cA (c_ a1 a) λf=>some (.next ((dX .i64 a 1),2,0,f.abd,f.abe,[(Tm.mk b v59 (Ty.mk c d) e)]))else some (.zO (a,b,v59,c,d,e))):(Int×Int×Int×Int×(List Ty)×(List Tm))->(Option (eA (Int×Int×Int×Int×(List Ty)×(List Tm)) (Tm)))) λg=>cA (lu g FU ((dX .i64 (dm a1) 1),a0.abd,a0.abg,a0.cD.abd,a0.cD.abe,a0.abe)) (ez (M4 λ(a:Int) (b:Int) (v59:Int) (c:Int) (d:List Ty) (e:List Tm)=>some (Tm.mk b v59 (Ty.mk c d) e)) (λr=>some r))
def we(a0:Int)(a1:Ty)(a2:Tm)(a3:Tm)(a4:Tm):Option Tm:=some (Tm.mk a0 0 a1 [a2,a3,a4])
def kV(a0:Tm)(a1:Tm)(a2:Tm):Option Tm:=cA (la) λa=>cA (la) λb=>cA (la) λc=>cA (r8 a1 [b,c]) λd=>cA (we 6 a a0 d a2) λe=>some e
def rU:Option Tm:=cA (oG 4 []) λa=>cA (gf 1) λb=>cA (gf 0) λc=>cA (kV a b c) λd=>cA (la) λe=>cA (r8 d [e]) λf=>some f
def wU(a0:Tm):Option Tm:=cA (la) λa=>cA (la) λb=>cA (r8 a0 [a,b]) λc=>some c
def uC:Option Tm:=cA (gf 1) λa=>cA (rU) λb=>cA (gf 0) λc=>cA (pQ b [c]) λd=>cA (gf 0) λe=>cA (kV a d e) λf=>cA (wU f) λg=>some g
def rE(a0:Tm)(a1:Tm):Option Fm:=cA (uC) λa=>cA (oG 5 [a0]) λb=>cA (pQ a [b,a1]) λc=>cA (oG 4 []) λd=>cA (ot c d) λe=>some e
def iM:Nat->Fm->Fm->Option Bool
 |0,_,_=>none|n+1,a0,a1=>db (λ(i:Bool)=>if i=true then some false else fh (dG a0.cU)<|db (λ(j:Int) (k:Tm)=>(λ(_:Unit)=>cA (c_ a1.cU j) λb=>cA (gx FU k b) λc=>if c=true then some (.next ())else some (.ret false)):Int->Tm->(Unit)->(Option (eA (Unit) (Bool)))) λl=>cA (dH l a0.cU 0 ()) (ez (λ(_:Unit)=>fh (dG a0.abe)<|db (λ(d:Int) (e:Fm)=>(λ(_:Unit)=>cA (c_ a1.abe d) λf=>cA (iM n e f) λg=>if g=true then some (.next ())else some (.ret false)):Int->Fm->(Unit)->(Option (eA (Unit) (Bool)))) λh=>cA (dH h a0.abe 0 ()) (ez (λ(_:Unit)=>some true) (λr=>some r))) (λr=>some r))) λa=>if dr a0.abd a1.abd then a true else cA (eU FU a0.cD a1.cD) λm=>if m=true then if dr (dm a0.cU) (dm a1.cU)then a true else a (dr (dm a0.abe) (dm a1.abe))else a true
def qQ(a0:Fm):Option (Bool×Tm×Fm×Bool):=cN (qO (de a0.abd 4)) λq r=>db (λ(o:Bool)=>if o=true then some (false,(Tm.mk 0 0 (Ty.mk 0 []) []),(Fm.mk 0 (Ty.mk 0 []) [] []),false)else cA (c_ a0.abe 0) λe=>cA (c_ e.abe 0) λf=>cA (c_ f.cU 0) λd=>db (λ(g:Bool)=>if g=true then some (false,(Tm.mk 0 0 (Ty.mk 0 []) []),(Fm.mk 0 (Ty.mk 0 []) [] []),false)else cA (c_ d.abe 1) λh=>cA (c_ e.abe 1) λi=>some ((de a0.abd 4),h,i,true)) λa=>if dr d.abd 3 then a true else cA (c_ d.abe 1) λc=>cA (qg c 0) λj=>if mV j 0 then a true else cA (gf 0) λk=>cA (rE k c) λl=>cA (iM FU f l) λm=>a (k4 m)) λb=>if dr a0.abd q then b true else if dr a0.cD.abd 1 then b true else cA (c_ a0.abe 0) λn=>if dr n.abd r then b true else cA (c_ n.abe 0) λp=>b (dr p.abd 1)
def lj:Nat->Fm->Option Int
 |0,_=>none|n+1,a0=>if de a0.abd 1 then some 6 else cA (c_ a0.abe (dX .i64 (dm a0.abe) 1)) λk=>cA (lj n k) λa=>db (λ(b:Int)=>db (λ(f:Int)=>some f) λc=>LG (qQ a0) λl m g h=>if h=true then cA (lj n g) λi=>c (tO .u8 (nI .u8 b 1) (nI .u8 i 4))else c (nI .u8 b 1)) λd=>if ew (de a0.abd 2) true (de a0.abd 3)then cA (c_ a0.abe 0) λj=>cA (lj n j) λe=>some (tO .u8 (nI .u8 (nI .u8 e a) 6) (nI .u8 (ew (de a0.abd 2) (tO .u8 a e) a) 1))else if de a0.abd 5 then d (tO .u8 a 1)else d a
def wR(a0:Fm)(a1:Int):Option (Bool×Int):=cA (iT a0) λb=>if dr b 0 then some (false,b)else cA (lj FU a0) λa=>some ((dr (nI .u8 a a1) 0),0)
def mL(a0:Fm):Option (Bool×Int):=cN (wR a0 1) λa b=>some (a,b)
mutual
def dv:Nat->(List Fm)->Pf->cJ->Option (cE×Int)
 |0,_,_,_=>none|n+1,a0,a1,a2=>cN (if de a1.abd 1=true then mc a0 a1 a2 else if de a1.abd 2=true then lq a0 a1 a2 else if de a1.abd 3=true then jh n a0 a1 a2 else if de a1.abd 4=true then fS n a0 a1 a2 else if de a1.abd 5=true then fS n a0 a1 a2 else if de a1.abd 6=true then jf n a0 a1 a2 else if de a1.abd 7=true then ji n a0 a1 a2 else if de a1.abd 8=true then fH n a0 a1 a2 else if de a1.abd 12=true then fH n a0 a1 a2 else if de a1.abd 9=true then fG n a0 a1 a2 else if de a1.abd 13=true then fG n a0 a1 a2 else if de a1.abd 10=true then fR n a0 a1 a2 else if de a1.abd 14=true then fR n a0 a1 a2 else if de a1.abd 11=true then fU n a0 a1 a2 else if de a1.abd 15=true then fU n a0 a1 a2 else if de a1.abd 16=true then fT n a0 a1 a2 else if de a1.abd 17=true then fT n a0 a1 a2 else if de a1.abd 18=true then lI a0 a1 a2 else if de a1.abd 19=true then iH n a0 a1 a2 else if de a1.abd 20=true then ib n a0 a1 a2 else none) λa b=>if dr b 0 then some ((cE.mk (Fm.mk 0 (Ty.mk 0 []) [] []) 0),b)else cA (iT a.cK) λd=>if dr d 0 then some ((cE.mk (Fm.mk 0 (Ty.mk 0 []) [] []) 0),4)else db (λ(v30:Int)=>some ((cE.mk a.cK v30),0)) λc=>cN (mL a.cK) λe f=>if e=true then c a.eS else c 0
def jh:Nat->(List Fm)->Pf->cJ->Option (cE×Int)
 |0,_,_,_=>none|n+1,a0,a1,a2=>cA (c_ a1.abe 0) λe=>cN (dv n a0 e a2) λa b=>if dr b 0 then some ((cE.mk (Fm.mk 0 (Ty.mk 0 []) [] []) 0),b)else cA (c_ a1.abe 1) λf=>cN (dv n a0 f a2) λc d=>if dr d 0 then some ((cE.mk (Fm.mk 0 (Ty.mk 0 []) [] []) 0),d)else cA (w8 2 [a.cK,c.cK]) λg=>some ((cE.mk g (tO .u32 a.eS c.eS)),0)
def fS:Nat->(List Fm)->Pf->cJ->Option (cE×Int)
 |0,_,_,_=>none|n+1,a0,a1,a2=>cA (c_ a1.abe 0) λc=>cN (dx n a0 c a2 2) λa b=>if dr b 0 then some ((cE.mk (Fm.mk 0 (Ty.mk 0 []) [] []) 0),b)else cA (c_ a.cK.abe (ew (de a1.abd 5) 1 0)) λd=>some ((cE.mk d a.eS),0)
def jf:Nat->(List Fm)->Pf->cJ->Option (cE×Int)
 |0,_,_,_=>none|n+1,a0,a1,a2=>cA (c_ a1.ef 0) λe=>cA (ds FU a2.abh e) λa=>if dr a 0 then some ((cE.mk (Fm.mk 0 (Ty.mk 0 []) [] []) 0),a)else cA (dq a2.eu 0 1) λb=>if dr b 0 then some ((cE.mk (Fm.mk 0 (Ty.mk 0 []) [] []) 0),b)else cA (c_ a1.abe 0) λf=>cA (eo a2 e) λg=>cN (dv n a0 f g) λc d=>if dr d 0 then some ((cE.mk (Fm.mk 0 (Ty.mk 0 []) [] []) 0),d)else cA (w8 3 [e,c.cK]) λh=>some ((cE.mk h c.eS),0)
def ji:Nat->(List Fm)->Pf->cJ->Option (cE×Int)
 |0,_,_,_=>none|n+1,a0,a1,a2=>cA (c_ a1.abe 0) λf=>cN (dx n a0 f a2 3) λa b=>if dr b 0 then some ((cE.mk (Fm.mk 0 (Ty.mk 0 []) [] []) 0),b)else cA (c_ a1.abe 1) λg=>cN (dv n a0 g a2) λc d=>if dr d 0 then some ((cE.mk (Fm.mk 0 (Ty.mk 0 []) [] []) 0),d)else cA (c_ a.cK.abe 0) λh=>cA (gB h c.cK) λe=>if dr e 0 then some ((cE.mk (Fm.mk 0 (Ty.mk 0 []) [] []) 0),e)else cA (c_ a.cK.abe 1) λi=>some ((cE.mk i (tO .u32 a.eS c.eS)),0)
def fH:Nat->(List Fm)->Pf->cJ->Option (cE×Int)
 |0,_,_,_=>none|n+1,a0,a1,a2=>cA (dq a2.eu 1 0) λh=>if dr h 0 then some ((cE.mk (Fm.mk 0 (Ty.mk 0 []) [] []) 0),h)else cA (c_ a1.abe 0) λd=>cA (eg a2 [a1.cD]) λe=>cN (dv n a0 d e) λa b=>if dr b 0 then some ((cE.mk (Fm.mk 0 (Ty.mk 0 []) [] []) 0),b)else db (λ(v40:Int)=>cA (il v40 a1.cD a.cK) λf=>cA (dS a.eS 1) λg=>some ((cE.mk f g),0)) λc=>if de a1.abd 12 then if dr (nI .u32 a.eS 1) 0 then some ((cE.mk (Fm.mk 0 (Ty.mk 0 []) [] []) 0),12)else c 6 else c 4
def fG:Nat->(List Fm)->Pf->cJ->Option (cE×Int)
 |0,_,_,_=>none|n+1,a0,a1,a2=>cA (c_ a1.cU 0) λc=>cN (du FU a2.abh c) λk j=>if dr j 0 then some ((cE.mk (Fm.mk 0 (Ty.mk 0 []) [] []) 0),j)else cA (iN c) λd=>cA (c_ a1.abe 0) λe=>cN (dx n a0 e a2 (ew (de a1.abd 13) 6 4)) λa b=>if dr b 0 then some ((cE.mk (Fm.mk 0 (Ty.mk 0 []) [] []) 0),b)else cA (fK k a.cK.cD) λf=>if f=true then cA (c_ a.cK.abe 0) λg=>cN (gJ g c) λh i=>some ((cE.mk h (tO .u32 a.eS (ew (de a1.abd 13) 0 d))),i)else some ((cE.mk (Fm.mk 0 (Ty.mk 0 []) [] []) 0),7)
def fR:Nat->(List Fm)->Pf->cJ->Option (cE×Int)
 |0,_,_,_=>none|n+1,a0,a1,a2=>cA (c_ a1.ef 0) λa=>cA (c_ a1.cU 0) λb=>if de a1.abd 14 then cA (ds FU a2.abh a) λd=>if dr d 0 then some ((cE.mk (Fm.mk 0 (Ty.mk 0 []) [] []) 0),d)else if dr a.abd 7 then some ((cE.mk (Fm.mk 0 (Ty.mk 0 []) [] []) 0),10)else cN (du FU a2.abh b) λm e=>if dr e 0 then some ((cE.mk (Fm.mk 0 (Ty.mk 0 []) [] []) 0),e)else cA (fK m a.cD) λo=>if o=true then cA (c_ a1.abe 0) λp=>cA (c_ a.abe 0) λq=>cN (dz n a0 p a2 q b) λr f=>if dr f 0 then some ((cE.mk (Fm.mk 0 (Ty.mk 0 []) [] []) 0),f)else cA (nd b) λs=>some ((cE.mk a (tO .u32 r.eS s)),0)else some ((cE.mk (Fm.mk 0 (Ty.mk 0 []) [] []) 0),7)else cA (ds FU a2.abh a) λg=>if dr g 0 then some ((cE.mk (Fm.mk 0 (Ty.mk 0 []) [] []) 0),g)else if dr a.abd 5 then some ((cE.mk (Fm.mk 0 (Ty.mk 0 []) [] []) 0),10)else cN (du FU a2.abh b) λt h=>if dr h 0 then some ((cE.mk (Fm.mk 0 (Ty.mk 0 []) [] []) 0),h)else cA (fK t a.cD) λu=>if u=true then cA (c_ a1.abe 0) λi=>cA (c_ a.abe 0) λj=>cN (dz n a0 i a2 j b) λk c=>if dr c 0 then some ((cE.mk (Fm.mk 0 (Ty.mk 0 []) [] []) 0),c)else cA (iN b) λl=>some ((cE.mk a (tO .u32 k.eS l)),0)else some ((cE.mk (Fm.mk 0 (Ty.mk 0 []) [] []) 0),7)
def fU:Nat->(List Fm)->Pf->cJ->Option (cE×Int)
 |0,_,_,_=>none|n+1,a0,a1,a2=>cA (c_ a1.abe 0) λg=>cN (dx n a0 g a2 (ew (de a1.abd 15) 7 5)) λa c=>if dr c 0 then some ((cE.mk (Fm.mk 0 (Ty.mk 0 []) [] []) 0),c)else cA (dq a2.eu 1 1) λd=>if dr d 0 then some ((cE.mk (Fm.mk 0 (Ty.mk 0 []) [] []) 0),d)else cA (c_ a1.abe 1) λh=>cA (eg a2 [a.cK.cD]) λi=>cA (c_ a.cK.abe 0) λj=>cA (eo i j) λk=>cN (dv n a0 h k) λb e=>if dr e 0 then some ((cE.mk (Fm.mk 0 (Ty.mk 0 []) [] []) 0),e)else cN (kI b.cK) λl f=>if dr f 0 then some ((cE.mk (Fm.mk 0 (Ty.mk 0 []) [] []) 0),f)else if ew (de a1.abd 15) (dr (nI .u32 b.eS 1) 0) false then some ((cE.mk (Fm.mk 0 (Ty.mk 0 []) [] []) 0),12)else cA (dS b.eS 1) λm=>some ((cE.mk l (tO .u32 a.eS m)),0)
def fT:Nat->(List Fm)->Pf->cJ->Option (cE×Int)
 |0,_,_,_=>none|n+1,a0,a1,a2=>cA (c_ a1.ef 0) λb=>cA (c_ a1.cU 0) λd=>cA (iw a1.abd) λa=>cA (eG a2.abh [(Ty.mk a.abd [])]) λt=>cA (ds FU t b) λe=>if dr e 0 then some ((cE.mk (Fm.mk 0 (Ty.mk 0 []) [] []) 0),e)else cA (gn a2.abh d a.abd) λf=>if dr f 0 then some ((cE.mk (Fm.mk 0 (Ty.mk 0 []) [] []) 0),f)else cA (c_ a1.abe 0) λu=>cN (dz n a0 u a2 b a.base) λv g=>if dr g 0 then some ((cE.mk (Fm.mk 0 (Ty.mk 0 []) [] []) 0),g)else cA (dq a2.eu (dm a.vars) 1) λh=>if dr h 0 then some ((cE.mk (Fm.mk 0 (Ty.mk 0 []) [] []) 0),h)else cA (eg a2 a.vars) λi=>cA (dY b 1 (dX .i64 (dm a.vars) 1)) λj=>cA (eo i j) λk=>cA (c_ a1.abe 1) λl=>cA (dY b 1 (dm a.vars)) λm=>cN (dz n a0 l k m a.next) λo c=>if dr c 0 then some ((cE.mk (Fm.mk 0 (Ty.mk 0 []) [] []) 0),c)else cN (gJ b d) λp q=>cA (iN d) λr=>cA (dS o.eS (dm a.vars)) λs=>some ((cE.mk p (tO .u32 (tO .u32 r v.eS) s)),q)
def iH:Nat->(List Fm)->Pf->cJ->Option (cE×Int)
 |0,_,_,_=>none|n+1,a0,a1,a2=>cA (c_ a1.ef 0) λh=>cA (la) λi=>cA (eG a2.abh [i]) λj=>cA (ds FU j h) λa=>if dr a 0 then some ((cE.mk (Fm.mk 0 (Ty.mk 0 []) [] []) 0),a)else cA (c_ a1.abe 0) λk=>cN (dx n a0 k a2 1) λb c=>if dr c 0 then some ((cE.mk (Fm.mk 0 (Ty.mk 0 []) [] []) 0),c)else cA (c_ a1.abe 1) λl=>cA (c_ b.cK.cU 0) λm=>cN (dz n a0 l a2 h m) λo d=>if dr d 0 then some ((cE.mk (Fm.mk 0 (Ty.mk 0 []) [] []) 0),d)else cA (c_ b.cK.cU 1) λe=>cN (gJ h e) λf g=>some ((cE.mk f o.eS),g)
def ib:Nat->(List Fm)->Pf->cJ->Option (cE×Int)
 |0,_,_,_=>none|n+1,a0,a1,a2=>cA (c_ a1.abe 0) λf=>cN (dx n a0 f a2 4) λa c=>if dr c 0 then some ((cE.mk (Fm.mk 0 (Ty.mk 0 []) [] []) 0),c)else cA (c_ a.cK.abe 0) λb=>if dr b.abd 5 then some ((cE.mk (Fm.mk 0 (Ty.mk 0 []) [] []) 0),10)else cA (my b.cD [a.cK.cD]) λd=>cA (c_ b.abe 0) λg=>cA (dY g 2 1) λh=>cA (gf 1) λi=>cA (gf 0) λj=>cA (pQ i [j]) λk=>cN (gJ h k) λl m=>db (λ(o:Bool)=>if o=true then some ((cE.mk (Fm.mk 0 (Ty.mk 0 []) [] []) 0),4)else cA (il 4 a.cK.cD l) λp=>cA (il 5 d p) λq=>some ((cE.mk q a.eS),0)) λe=>if dr m 0 then e true else cA (kq d) λr=>e (dr r 0)
def dx:Nat->(List Fm)->Pf->cJ->Int->Option (cE×Int)
 |0,_,_,_,_=>none|n+1,a0,a1,a2,a3=>cN (dv n a0 a1 a2) λa b=>if ew (de b 0) (dr a.cK.abd a3) false then some ((cE.mk (Fm.mk 0 (Ty.mk 0 []) [] []) 0),10)else some (a,b)
def dz:Nat->(List Fm)->Pf->cJ->Fm->Tm->Option (cE×Int)
 |0,_,_,_,_,_=>none|n+1,a0,a1,a2,a3,a4=>cN (dv n a0 a1 a2) λd e=>if dr e 0 then some ((cE.mk (Fm.mk 0 (Ty.mk 0 []) [] []) 0),e)else cN (gJ a3 a4) λb a=>if dr a 0 then some ((cE.mk (Fm.mk 0 (Ty.mk 0 []) [] []) 0),a)else cA (gB b d.cK) λc=>some (d,c)
end
def rN:Nat->Tm->Option Tm
 |0,_=>none|n+1,a0=>cA (iX FU a0.cD) λd=>fh (dG a0.abe)<|db (λ(e:Int) (b:Tm)=>(λ(v72:List Tm)=>cA (rN n b) λa=>fh (eC v72 [a])<|some (.next (fp v72 [a]))):Int->Tm->(List Tm)->(Option (eA (List Tm) (Tm)))) λc=>cA (dH c a0.abe 0 []) (ez (λ(v72:List Tm)=>some (Tm.mk a0.abd a0.abg d v72)) (λr=>some r))
def k5(a0:Tm)(a1:Int):Option Tm:=cA (rN FU a0) λa=>some a
def mH(a0:Fm):Option Fm:=cN (dE FU a0 0 (λ(s:Unit) (a:Tm) (b:Int)=>oy (k5 a b) s) ()) λc d=>some c
def iB(a0:Int):Option (List Int):=db ((p0 λ(v37:Int) (a:List Int)=>if dr v37 0 then cA (gm v37) λb=>fh (eC a [b])<|some (.next ((nI .u32 v37 (dX .u32 v37 1)),(fp a [b])))else some (.zO (v37,a))):(Int×(List Int))->(Option (eA (Int×(List Int)) (List Int)))) λc=>cA (lu c FU (a0,[])) (ez (p0 λ(v37:Int) (a:List Int)=>some a) (λr=>some r))
def jd(a0:List Fm)(a1:Sq)(a2:Pf):Option (qE×Int):=cA (pz a0 a1) λg=>if dr g 0 then some ((qE.mk (Fm.mk 0 (Ty.mk 0 []) [] []) []),g)else cA (qG a2) λa=>if dr a 0 then some ((qE.mk (Fm.mk 0 (Ty.mk 0 []) [] []) []),a)else cA (uU) λh=>cA (pB a1) λd=>cN (dv FU a0 a2 d) λb c=>if dr c 0 then some ((qE.mk (Fm.mk 0 (Ty.mk 0 []) [] []) []),c)else cA (mH b.cK) λe=>cA (iB b.eS) λf=>some ((qE.mk e f),0)
def pT(a0:Tm)(a1:Tm):Option Fm:=cA (gY FU a0) λa=>cA (gY FU a1) λb=>some (Fm.mk 1 (Ty.mk 0 []) [a,b] [])
def js(a0:Int)(a1:Ty)(a2:Fm):Option Fm:=cA (f_ FU a1) λa=>cA (iZ FU a2) λb=>some (Fm.mk a0 a [] [b])
def dR:Nat->Ty->Ty->Option Bool
 |0,_,_=>none|n+1,a0,a1=>if ew (dr a0.abd a1.abd) true (dr (dm a0.abe) (dm a1.abe))then some false else fh (dG a0.abe)<|db (λ(c:Int) (d:Ty)=>(λ(_:Unit)=>cA (c_ a1.abe c) λa=>cA (dR n d a) λb=>if b=true then some (.next ())else some (.ret false)):Int->Ty->(Unit)->(Option (eA (Unit) (Bool)))) λe=>cA (dH e a0.abe 0 ()) (ez (λ(_:Unit)=>some true) (λr=>some r))
def iv:Nat->Tm->Tm->Option Bool
 |0,_,_=>none|n+1,a0,a1=>db (λ(d:Bool)=>if d=true then some false else fh (dG a0.abe)<|db (λ(e:Int) (f:Tm)=>(λ(_:Unit)=>cA (c_ a1.abe e) λb=>cA (iv n f b) λc=>if c=true then some (.next ())else some (.ret false)):Int->Tm->(Unit)->(Option (eA (Unit) (Bool)))) λg=>cA (dH g a0.abe 0 ()) (ez (λ(_:Unit)=>some true) (λr=>some r))) λa=>if dr a0.abd a1.abd then a true else if dr a0.abg a1.abg then a true else cA (dR FU a0.cD a1.cD) λh=>if h=true then a (dr (dm a0.abe) (dm a1.abe))else a true
def oD(a0:List Tm)(a1:List Tm):Option Bool:=if dr (dm a0) (dm a1)then some false else fh (dG a0)<|db (λ(c:Int) (d:Tm)=>(λ(_:Unit)=>cA (c_ a1 c) λa=>cA (iv FU d a) λb=>if b=true then some (.next ())else some (.ret false)):Int->Tm->(Unit)->(Option (eA (Unit) (Bool)))) λe=>cA (dH e a0 0 ()) (ez (λ(_:Unit)=>some true) (λr=>some r))
def ny:Nat->Fm->Fm->Option Bool
 |0,_,_=>none|n+1,a0,a1=>db (λ(v21:Bool)=>if v21=true then some false else fh (dG a0.abe)<|db (λ(e:Int) (f:Fm)=>(λ(_:Unit)=>cA (c_ a1.abe e) λb=>cA (ny n f b) λc=>if c=true then some (.next ())else some (.ret false)):Int->Fm->(Unit)->(Option (eA (Unit) (Bool)))) λd=>cA (dH d a0.abe 0 ()) (ez (λ(_:Unit)=>some true) (λr=>some r))) λa=>if dr a0.abd a1.abd then a true else cA (dR FU a0.cD a1.cD) λg=>if g=true then cA (oD a0.cU a1.cU) λh=>if h=true then a (dr (dm a0.abe) (dm a1.abe))else a true else a true
def sa:Option Bool:=cA (gT) λm=>cA (eN 0) λc=>cA (oN c) λd=>cA (qj 8 m d) λe=>cN (jd [] (Sq.mk [] []) e) λb f=>db (λ(g:Bool)=>some g) λa=>if de f 0 then if de (dm b.eS) 0 then cA (eN 0) λh=>cA (eN 0) λi=>cA (pT h i) λj=>cA (js 4 m j) λk=>cA (ny FU b.cK k) λl=>a l else a false else a false
def C9(a0:List Int):Option Bool:=some (Gd (dm a0) 500)
def JG(l:List Int):Option c6:=some ⟨l,0⟩
def D8(a0:Int)(a1:Int):Option Int:=fh (FQ a1)<|fh (FQ a1)<|some (Ox .i64 (dB .i64 (Ox .i64 a0 a1) a1) a1)
def fM(a0:c6)(a1:Int):Option (Int×c6):=if ew (rv a1 1) true (qT a0.qU (dm a0.l))then some (0,a0)else cA (c_ a0.l a0.qU) λa=>cA (D8 a a1) λb=>some (b,(c6.mk a0.l (dB .i64 a0.qU 1)))
def lN(a0:Int)(a1:Fm)(a2:Fm):Option Fm:=cA (iZ FU a1) λa=>cA (iZ FU a2) λb=>some (Fm.mk a0 (Ty.mk 0 []) [] [a,b])
def lB:Option Ty:=some (Ty.mk 2 [])
def sk:Option Ty:=some (Ty.mk 5 [])
def rD(a0:Ty)(a1:Ty):Option Ty:=cA (f_ FU a0) λa=>cA (f_ FU a1) λb=>some (Ty.mk 3 [a,b])
def jg(a0:Ty)(a1:Ty):Option Ty:=cA (f_ FU a0) λa=>cA (f_ FU a1) λb=>some (Ty.mk 4 [a,b])
def iQ:Nat->c6->Int->Option (Ty×c6)
 |0,_,_=>none|n+1,a0,a1=>db (λ(g:c6)=>cA (gT) λc=>some (c,g)) λb=>cN (fM a0 7) λa d63=>if ew (de a 0) true (ew (de a 1) true (de a 2))then cA (gT) λh=>some (h,d63)else if de a 3 then cA (lB) λi=>some (i,d63)else if de a 4 then cA (sk) λj=>some (j,d63)else if de a 5 then if mV a1 0 then cN (iQ n d63 (dX .i64 a1 1)) λk d89=>cN (iQ n d89 (dX .i64 a1 1)) λl d92=>cA (rD k l) λm=>some (m,d92)else b d63 else if de a 6 then if mV a1 0 then cN (iQ n d63 (dX .i64 a1 1)) λd d105=>cN (iQ n d105 (dX .i64 a1 1)) λe d108=>cA (jg d e) λf=>some (f,d108)else b d63 else b d63
def kU(a0:List Ty)(a1:List Ty):Option (List Ty):=fh (eC [] a0)<|fh (eC (fp [] a0) a1)<|some (fp (fp [] a0) a1)
def zN(a0:List Ty)(a1:Ty):Option (List Int):=fh (dG a0)<|db (λ(b:Int) (g:Ty)=>(λ(a:List Int)=>db (λ(c:List Int)=>some (.next c)) λj201=>cA (c_ a0 (dX .i64 (dX .i64 (dm a0) 1) b)) λd=>cA (dR FU d a1) λe=>if e=true then fh (eC a [b])<|j201 (fp a [b])else j201 a):Int->Ty->(List Int)->(Option (eA (List Int) (List Int)))) λf=>cA (dH f a0 0 []) (ez (λ(a:List Int)=>some a) (λr=>some r))
def eF(a0:Int)(a1:List Tm):Option Tm:=fh (dG a1)<|db (λ(d:Int) (b:Tm)=>(λ(v40:List Tm)=>cA (gY FU b) λa=>fh (eC v40 [a])<|some (.next (fp v40 [a]))):Int->Tm->(List Tm)->(Option (eA (List Tm) (Tm)))) λc=>cA (dH c a1 0 []) (ez (λ(v40:List Tm)=>some (Tm.mk a0 0 (Ty.mk 0 []) v40)) (λr=>some r))
def j1(a0:Int)(a1:Ty)(a2:List Tm):Option Tm:=cA (eF a0 a2) λa=>cA (f_ FU a1) λb=>some (Tm.mk a.abd a.abg b a.abe)
def ou(a0:Int):Option Tm:=cA (eF 4 []) λe=>db ((M4 λ(a:Int) (v30:Int) (v31:Int) (b:Int) (c:List Ty) (d:List Tm)=>if mV a 0 then some (.next ((dX .i64 a 1),5,0,0,[],[(Tm.mk v30 v31 (Ty.mk b c) d)]))else some (.zO (a,v30,v31,b,c,d))):(Int×Int×Int×Int×(List Ty)×(List Tm))->(Option (eA (Int×Int×Int×Int×(List Ty)×(List Tm)) (Tm)))) λf=>cA (lu f FU (a0,e.abd,e.abg,e.cD.abd,e.cD.abe,e.abe)) (ez (M4 λ(a:Int) (v30:Int) (v31:Int) (b:Int) (c:List Ty) (d:List Tm)=>some (Tm.mk v30 v31 (Ty.mk b c) d)) (λr=>some r))
def rn(a0:Int):Option (Tm×Int):=if rv a0 0 then some ((Tm.mk 0 0 (Ty.mk 0 []) []),1)else if qT a0 4096 then some ((Tm.mk 0 0 (Ty.mk 0 []) []),4)else cA (ou a0) λa=>some (a,0)
def AD(a0:Int):Option Tm:=cN (rn a0) λa b=>some a
def jv(a0:Tm):Option Tm:=cA (gT) λa=>cA (j1 2 a [a0]) λb=>some b
def qn(a0:Tm)(a1:Tm)(a2:Tm):Option Tm:=cA (gT) λa=>cA (j1 6 a [a0,a1,a2]) λb=>some b
def r':Option Tm:=cA (eN 1) λa=>cA (eN 0) λb=>cA (eF 5 [b]) λc=>cA (jv c) λd=>cA (jv d) λe=>cA (eN 0) λf=>cA (qn a e f) λg=>cA (jv g) λh=>cA (jv h) λi=>some i
def z8(a0:Tm)(a1:List Tm):Option Tm:=fh (dG a1)<|db (λ(h:Int) (f:Tm)=>(WD λ(b:Int) (c:Int) (v46:Int) (d:List Ty) (e:List Tm)=>cA (eF 3 [(Tm.mk b c (Ty.mk v46 d) e),f]) λa=>some (.next (a.abd,a.abg,a.cD.abd,a.cD.abe,a.abe))):Int->Tm->(Int×Int×Int×(List Ty)×(List Tm))->(Option (eA (Int×Int×Int×(List Ty)×(List Tm)) (Tm)))) λg=>cA (dH g a1 0 (a0.abd,a0.abg,a0.cD.abd,a0.cD.abe,a0.abe)) (ez (WD λ(b:Int) (c:Int) (v46:Int) (d:List Ty) (e:List Tm)=>some (Tm.mk b c (Ty.mk v46 d) e)) (λr=>some r))
def rG:Option Tm:=cA (eF 4 []) λa=>cA (eN 1) λb=>cA (jv b) λc=>cA (jv c) λd=>cA (eN 0) λe=>cA (qn a d e) λf=>cA (jv f) λg=>some g
def t_:Option Tm:=cA (eN 1) λa=>cA (rG) λb=>cA (eN 0) λc=>cA (eF 3 [b,c]) λd=>cA (jv d) λe=>cA (jv e) λf=>cA (eN 0) λg=>cA (qn a f g) λh=>cA (jv h) λi=>cA (jv i) λj=>some j
def fI:Nat->c6->(List Ty)->Ty->Int->Option (Tm×c6)
 |0,_,_,_,_=>none|n+1,a0,a1,a2,a3=>cA (zN a1 a2) λx3=>db (λ(v37:Bool) (p:c6)=>if v37=true then cN (fM p (dm x3)) λbx d51=>cA (c_ x3 bx) λbz=>cA (eN bz) λbA=>some (bA,d51)else db (λ(b:c6)=>if de a2.abd 1 then db (λ(q:c6)=>cN (fM q 3) λs t=>cA (AD s) λu=>some (u,t)) λg=>if mV a3 0 then cN (fM b 5) λe d=>if de e 0 then cN (fI n d a1 a2 (dX .i64 a3 1)) λv w=>cA (eF 5 [v]) λx=>some (x,w)else if de e 1 then cA (r') λy=>cN (fI n d a1 a2 (dX .i64 a3 1)) λz A=>cN (fI n A a1 a2 (dX .i64 a3 1)) λB C=>cA (z8 y [z,B]) λD=>some (D,C)else if de e 2 then cA (t_) λE=>cN (fI n d a1 a2 (dX .i64 a3 1)) λF G=>cN (fI n G a1 a2 (dX .i64 a3 1)) λH I=>cA (z8 E [F,H]) λJ=>some (J,I)else g d else g b else if de a2.abd 2 then db (λ(K:Bool) (h:c6)=>if K=true then cA (gT) λL=>cN (fI n h a1 L (dX .i64 a3 1)) λM N=>cN (fI n N a1 a2 (dX .i64 a3 1)) λO P=>cA (eF 8 [M,O]) λQ=>some (Q,P)else cA (eF 7 []) λR=>some (R,h)) λi=>if mV a3 0 then cN (fM b 2) λS T=>i (de S 0) T else i false b else if de a2.abd 3 then cA (c_ a2.abe 0) λU=>cN (fI n b a1 U (dX .i64 a3 1)) λV W=>cA (c_ a2.abe 1) λX=>cN (fI n W a1 X (dX .i64 a3 1)) λY Z=>cA (eF 10 [V,Y]) λaa=>some (aa,Z)else if de a2.abd 4 then cA (c_ a2.abe 0) λj=>cA (kU a1 [j]) λab=>cA (c_ a2.abe 1) λad=>cN (fI n b ab ad (dX .i64 a3 1)) λae af=>cA (j1 2 j [ae]) λah=>some (ah,af)else cA (eF 13 []) λai=>some (ai,b)) λk=>if mV a3 0 then cN (fM p 8) λc a=>if de c 0 then cN (iQ FU a 0) λl ax=>cA (kU a1 [l]) λay=>cN (fI n ax ay a2 (dX .i64 a3 1)) λaz aA=>cA (j1 2 l [az]) λaB=>cN (fI n aA a1 l (dX .i64 a3 1)) λaC aD=>cA (eF 3 [aB,aC]) λaE=>some (aE,aD)else if de c 1 then cN (iQ FU a 0) λaF aG=>cN (fI n aG a1 a2 (dX .i64 a3 1)) λaH aI=>cN (fI n aI a1 aF (dX .i64 a3 1)) λaJ aK=>cA (eF 10 [aH,aJ]) λaL=>cA (eF 11 [aL]) λaM=>some (aM,aK)else if de c 2 then cA (gT) λaN=>cA (gT) λaO=>cA (kU a1 [aO,a2]) λaP=>cN (fI n a aP a2 (dX .i64 a3 1)) λaQ aR=>cA (j1 2 a2 [aQ]) λaS=>cA (j1 2 aN [aS]) λaT=>cN (fI n aR a1 a2 (dX .i64 a3 1)) λaU aV=>cN (fM aV 3) λaW aX=>cA (AD aW) λaY=>cA (j1 6 a2 [aU,aT,aY]) λaZ=>some (aZ,aX)else if de c 3 then cA (gT) λa6=>cA (lB) λa7=>cA (gT) λa8=>cA (lB) λa_=>cA (kU a1 [a8,a_,a2]) λa'=>cN (fI n a a' a2 (dX .i64 a3 1)) λba bb=>cA (j1 2 a2 [ba]) λbc=>cA (j1 2 a7 [bc]) λbd=>cA (j1 2 a6 [bd]) λbf=>cN (fI n bb a1 a2 (dX .i64 a3 1)) λbg bh=>cA (lB) λbj=>cN (fI n bh a1 bj (dX .i64 a3 1)) λbk bl=>cA (j1 9 a2 [bg,bf,bk]) λbm=>some (bm,bl)else if de c 4 then cN (iQ FU a 0) λbn bo=>cN (fI n bo a1 bn (dX .i64 a3 1)) λbp bq=>cN (fI n bq a1 a2 (dX .i64 a3 1)) λbr bs=>cA (eF 10 [bp,br]) λbt=>cA (eF 12 [bt]) λbu=>some (bu,bs)else if de c 5 then fh (dG a1)<|db (λ(o:Int) (bC:Ty)=>(λ(_:Unit)=>cA (c_ a1 (dX .i64 (dX .i64 (dm a1) 1) o)) λf=>db (λ(aj:Bool)=>if aj=true then cA (eN o) λak=>cA (c_ f.abe 0) λal=>cN (fI n a a1 al (dX .i64 a3 1)) λan ao=>cA (eF 3 [ak,an]) λaq=>some (.ret (aq,ao))else some (.next ())) λm=>if de f.abd 4 then cA (c_ f.abe 1) λar=>cA (dR FU ar a2) λau=>m au else m false):Int->Ty->(Unit)->(Option (eA (Unit) (Tm×c6)))) λaw=>cA (dH aw a1 0 ()) (ez (λ(_:Unit)=>k a) (λr=>some r))else k a else k p) λbw=>if mV (dm x3) 0 then cN (fM a0 3) λbB d41=>bw (mV bB 0) d41 else bw false a0
def fQ:Nat->c6->(List Ty)->Int->Option (Fm×c6)
 |0,_,_,_=>none|n+1,a0,a1,a2=>db (λ(v162:c6)=>cA (gT) λb=>cN (fI FU v162 a1 b 1) λg d351=>cN (fI FU d351 a1 b 1) λh d354=>cA (pT g h) λi=>some (i,d354)) λc=>if mV a2 0 then cN (fM a0 9) λa d168=>if de a 0 then cN (fQ n d168 a1 (dX .i64 a2 1)) λj d179=>cN (fQ n d179 a1 (dX .i64 a2 1)) λk d182=>cA (lN 2 j k) λl=>some (l,d182)else if ew (de a 1) true (de a 2)then cN (fQ n d168 a1 (dX .i64 a2 1)) λm d198=>cN (fQ n d198 a1 (dX .i64 a2 1)) λo d201=>cA (lN 3 m o) λp=>some (p,d201)else if ew (de a 3) true (de a 4)then cN (iQ FU d168 1) λd d212=>cA (kU a1 [d]) λq=>cN (fQ n d212 q (dX .i64 a2 1)) λr d238=>cA (js 4 d r) λs=>some (s,d238)else if de a 5 then cN (iQ FU d168 1) λe d246=>cA (kU a1 [e]) λt=>cN (fQ n d246 t (dX .i64 a2 1)) λu d272=>cA (js 5 e u) λv=>some (v,d272)else if de a 6 then cN (iQ FU d168 0) λf d280=>cN (fM d280 2) λw d313=>cA (kU a1 [f]) λx=>cN (fQ n d313 x (dX .i64 a2 1)) λy d318=>cA (js (dB .i64 6 w) f y) λz=>some (z,d318)else c d168 else c a0
def rL(a0:c6):Option ((List Ty)×c6):=cN (fM a0 4) λe d36=>db ((Jc λ(a:List Ty) (b:Int) (c:c6)=>if mV b 0 then cN (iQ FU c 1) λd d75=>fh (eC a [d])<|some (.next ((fp a [d]),(dX .i64 b 1),d75))else some (.zO (a,b,c))):((List Ty)×Int×c6)->(Option (eA ((List Ty)×Int×c6) ((List Ty)×c6)))) λf=>cA (lu f FU ([],e,d36)) (ez (Jc λ(a:List Ty) (b:Int) (c:c6)=>some (a,c)) (λr=>some r))
def qk(a0:c6):Option (Sq×c6):=cN (rL a0) λg d5=>cN (fM d5 3) λf d58=>db ((Jc λ(c:Int) (b:List Fm) (a:c6)=>if mV c 0 then cN (fQ FU a g 2) λd d121=>fh (eC b [d])<|some (.next ((dX .i64 c 1),(fp b [d]),d121))else some (.zO (c,b,a))):(Int×(List Fm)×c6)->(Option (eA (Int×(List Fm)×c6) (Sq×c6)))) λe=>cA (lu e FU (f,[],d58)) (ez (Jc λ(c:Int) (b:List Fm) (a:c6)=>some ((Sq.mk g b),a)) (λr=>some r))
def l6:Nat->Ty->Option Bool
 |0,_=>none|n+1,a0=>db (λ(v10:Int)=>if dr (dm a0.abe) v10 then some false else fh (dG a0.abe)<|db (λ(e:Int) (b:Ty)=>(λ(_:Unit)=>cA (l6 n b) λc=>if c=true then some (.next ())else some (.ret false)):Int->Ty->(Unit)->(Option (eA (Unit) (Bool)))) λd=>cA (dH d a0.abe 0 ()) (ez (λ(_:Unit)=>some true) (λr=>some r))) λa=>if ew (de a0.abd 1) true (ew (de a0.abd 2) true (de a0.abd 5))then a 0 else if ew (de a0.abd 3) true (de a0.abd 4)then a 2 else some false
def nw:Nat->Ty->Option Int
 |0,_=>none|n+1,a0=>fh (dG a0.abe)<|db (λ(e:Int) (b:Ty)=>(λ(a:Int)=>cA (nw n b) λc=>some (.next (dB .i64 a c))):Int->Ty->(Int)->(Option (eA (Int) (Int)))) λd=>cA (dH d a0.abe 0 1) (ez (λ(a:Int)=>some a) (λr=>some r))
def gW(a0:Ty):Option Int:=cA (l6 FU a0) λb=>if b=true then cA (nw FU a0) λa=>if mV a 64 then some 4 else some 0 else some 2
def kl(a0:List Ty):Option Int:=if mV (dm a0) 16 then some 3 else fh (dG a0)<|db (λ(d:Int) (b:Ty)=>(λ(_:Unit)=>cA (gW b) λa=>if dr a 0 then some (.ret a)else some (.next ())):Int->Ty->(Unit)->(Option (eA (Unit) (Int)))) λc=>cA (dH c a0 0 ()) (ez (λ(_:Unit)=>some 0) (λr=>some r))
def np(a0:Ty):Option Bool:=some (ew (de a0.abd 0) (de (dm a0.abe) 0) false)
def si(a0:Int):Option Int:=if ew (de a0 1) true (ew (de a0 4) true (ew (de a0 7) true (de a0 13)))then some 0 else if ew (de a0 2) true (ew (de a0 5) true (ew (de a0 11) true (de a0 12)))then some 1 else if ew (de a0 3) true (ew (de a0 8) true (de a0 10))then some 2 else if ew (de a0 6) true (de a0 9)then some 3 else some (-1)
def iK:Nat->Tm->Option Bool
 |0,_=>none|n+1,a0=>db (λ(v21:Bool)=>if v21=true then some false else db (fh (dG a0.abe)<|db (λ(i:Int) (c:Tm)=>(λ(_:Unit)=>cA (iK n c) λd=>if d=true then some (.next ())else some (.ret false)):Int->Tm->(Unit)->(Option (eA (Unit) (Bool)))) λe=>cA (dH e a0.abe 0 ()) (ez (λ(_:Unit)=>some true) (λr=>some r))) λb=>if ew (de a0.abd 2) true (ew (de a0.abd 6) true (de a0.abd 9))then cA (gW a0.cD) λf=>if dr f 0 then some false else b else cA (np a0.cD) λg=>if g=true then b else some false) λa=>cA (si a0.abd) λh=>if dr (dm a0.abe) h then a true else if rv a0.abg 0 then a true else if dr a0.abd 1 then a (dr a0.abg 0)else a false
def jw(a0:Int):Option Bool:=some (ew (de a0 4) true (ew (de a0 5) true (ew (de a0 6) true (de a0 7))))
def jO:Nat->Fm->Option Bool
 |0,_=>none|n+1,a0=>if de a0.abd 1 then db (λ(o:Bool)=>some o) λc=>if de (dm a0.abe) 0 then cA (np a0.cD) λp=>if p=true then if de (dm a0.cU) 2 then cA (c_ a0.cU 0) λq=>cA (iK FU q) λr=>if r=true then cA (c_ a0.cU 1) λs=>cA (iK FU s) λt=>c t else c false else c false else c false else c false else if ew (de a0.abd 2) true (de a0.abd 3)then db (λ(d:Bool)=>some d) λa=>if de (dm a0.cU) 0 then cA (np a0.cD) λe=>if e=true then if de (dm a0.abe) 2 then cA (c_ a0.abe 0) λf=>cA (jO n f) λg=>if g=true then cA (c_ a0.abe 1) λh=>cA (jO n h) λi=>a i else a false else a false else a false else a false else cA (jw a0.abd) λj=>if j=true then db (λ(v141:Bool)=>some v141) λb=>if de (dm a0.cU) 0 then cA (gW a0.cD) λk=>if de k 0 then if de (dm a0.abe) 1 then cA (c_ a0.abe 0) λl=>cA (jO n l) λm=>b m else b false else b false else b false else some false
def ep:Nat->Tm->Option Int
 |0,_=>none|n+1,a0=>fh (dG a0.abe)<|db (λ(e:Int) (b:Tm)=>(λ(a:Int)=>cA (ep n b) λc=>some (.next (dB .i64 a c))):Int->Tm->(Int)->(Option (eA (Int) (Int)))) λd=>cA (dH d a0.abe 0 1) (ez (λ(a:Int)=>some a) (λr=>some r))
def jJ:Nat->Fm->Option Int
 |0,_=>none|n+1,a0=>fh (dG a0.cU)<|db (λ(h:Int) (b:Tm)=>(λ(a:Int)=>cA (ep FU b) λc=>some (.next (dB .i64 a c))):Int->Tm->(Int)->(Option (eA (Int) (Int)))) λd=>cA (dH d a0.cU 0 1) (ez (λ(a:Int)=>fh (dG a0.abe)<|db (λ(i:Int) (e:Fm)=>(λ(v75:Int)=>cA (jJ n e) λf=>some (.next (dB .i64 v75 f))):Int->Fm->(Int)->(Option (eA (Int) (Int)))) λg=>cA (dH g a0.abe 0 a) (ez (λ(v75:Int)=>some v75) (λr=>some r))) (λr=>some r))
def jR(a0:Fm):Option Int:=cA (jO FU a0) λb=>if b=true then cA (jJ FU a0) λa=>if mV a 4096 then some 4 else some 0 else some 2
def jT(a0:Tm):Option Int:=cA (iK FU a0) λb=>if b=true then cA (ep FU a0) λa=>if mV a 4096 then some 4 else some 0 else some 2
def qI(a0:Ty):Option (Ty×Int):=cA (gW a0) λa=>if dr a 0 then some ((Ty.mk 0 []),4)else some (a0,0)
def dZ:Nat->(List Ty)->Tm->Option (Ty×Int)
 |0,_,_=>none|n+1,a0,a1=>if de a1.abd 1 then if qT a1.abg (dm a0)then some ((Ty.mk 0 []),6)else cA (c_ a0 (dX .i64 (dX .i64 (dm a0) 1) a1.abg)) λai=>cA (f_ FU ai) λaj=>some (aj,0)else if de a1.abd 2 then fh (eC a0 [a1.cD])<|cA (c_ a1.abe 0) λak=>cN (dZ n (fp a0 [a1.cD]) ak) λal L=>if dr L 0 then some ((Ty.mk 0 []),L)else cA (jg a1.cD al) λan=>cN (qI an) λao aq=>some (ao,aq)else fh (dG a1.abe)<|db (λ(ar:Int) (M:Tm)=>(λ(a:List Ty)=>cN (dZ n a0 M) λh i=>if dr i 0 then some (.ret ((Ty.mk 0 []),i))else fh (eC a [h])<|some (.next (fp a [h]))):Int->Tm->(List Ty)->(Option (eA (List Ty) (Ty×Int)))) λN=>cA (dH N a1.abe 0 []) (ez (λ(a:List Ty)=>cA (gT) λb=>cA (lB) λc=>if de a1.abd 3 then db (λ(O:Bool)=>if O=true then some ((Ty.mk 0 []),7)else cA (c_ a 0) λP=>cA (c_ P.abe 1) λQ=>some (Q,0)) λj=>cA (c_ a 0) λk=>if dr k.abd 4 then j true else cA (c_ k.abe 0) λR=>cA (c_ a 1) λS=>cA (dR FU R S) λT=>j (k4 T)else if de a1.abd 4 then some (b,0)else if de a1.abd 5 then cA (c_ a 0) λU=>cA (dR FU U b) λV=>if V=true then some (b,0)else some ((Ty.mk 0 []),7)else if de a1.abd 6 then db (λ(W:Bool)=>if W=true then some ((Ty.mk 0 []),7)else cA (f_ FU a1.cD) λX=>some (X,0)) λf=>cA (c_ a 0) λY=>cA (dR FU Y a1.cD) λZ=>if Z=true then cA (c_ a 1) λaa=>cA (jg a1.cD a1.cD) λab=>cA (jg b ab) λad=>cA (dR FU aa ad) λae=>if ae=true then cA (c_ a 2) λaf=>cA (dR FU af b) λah=>f (k4 ah)else f true else f true else if de a1.abd 7 then some (c,0)else if de a1.abd 8 then db (λ(l:Bool)=>if l=true then some ((Ty.mk 0 []),7)else some (c,0)) λg=>cA (c_ a 0) λm=>cA (dR FU m b) λo=>if o=true then cA (c_ a 1) λp=>cA (dR FU p c) λq=>g (k4 q)else g true else if de a1.abd 9 then db (λ(s:Bool)=>if s=true then some ((Ty.mk 0 []),7)else cA (f_ FU a1.cD) λt=>some (t,0)) λd=>cA (c_ a 0) λu=>cA (dR FU u a1.cD) λv=>if v=true then cA (c_ a 1) λw=>cA (jg a1.cD a1.cD) λx=>cA (jg c x) λy=>cA (jg b y) λz=>cA (dR FU w z) λA=>if A=true then cA (c_ a 2) λB=>cA (dR FU B c) λC=>d (k4 C)else d true else d true else if de a1.abd 10 then cA (c_ a 0) λD=>cA (c_ a 1) λE=>cA (rD D E) λF=>cN (qI F) λG H=>some (G,H)else if ew (de a1.abd 11) true (de a1.abd 12)then cA (c_ a 0) λe=>if dr e.abd 3 then some ((Ty.mk 0 []),7)else if de a1.abd 11 then cA (c_ e.abe 0) λI=>some (I,0)else cA (c_ e.abe 1) λJ=>some (J,0)else cA (sk) λK=>some (K,0)) (λr=>some r))
def ns(a0:List Ty)(a1:Tm):Option (Ty×Int):=cA (jT a1) λc=>if dr c 0 then some ((Ty.mk 0 []),c)else cN (dZ FU a0 a1) λa b=>some (a,b)
def kn:Nat->(List Ty)->Fm->Option Int
 |0,_,_=>none|n+1,a0,a1=>fh (dG a1.cU)<|db (λ(j:Int) (c:Tm)=>(λ(_:Unit)=>cN (ns a0 c) λd b=>if dr b 0 then some (.ret b)else if dr d.abd 1 then some (.ret 7)else some (.next ())):Int->Tm->(Unit)->(Option (eA (Unit) (Int)))) λe=>cA (dH e a1.cU 0 ()) (ez (λ(_:Unit)=>db (λ(f:List Ty)=>fh (dG a1.abe)<|db (λ(k:Int) (g:Fm)=>(λ(_:Unit)=>cA (kn n f g) λa=>if dr a 0 then some (.ret a)else some (.next ())):Int->Fm->(Unit)->(Option (eA (Unit) (Int)))) λh=>cA (dH h a1.abe 0 ()) (ez (λ(_:Unit)=>some 0) (λr=>some r))) λj64=>cA (jw a1.abd) λi=>if i=true then fh (eC a0 [a1.cD])<|j64 (fp a0 [a1.cD])else j64 a0) (λr=>some r))
def jo(a0:List Ty)(a1:Fm):Option Int:=cA (jR a1) λb=>if dr b 0 then some b else cA (kn FU a0 a1) λa=>some a
def hY(a0:List Ty)(a1:Fm):Option Int:=cA (kl a0) λb=>if dr b 0 then some b else cA (jo a0 a1) λa=>some a
def xC(a0:List Fm)(a1:Sq):Option Int:=if mV (dm a0) 32 then some 3 else fh (dG a0)<|db (λ(h:Int) (d:Fm)=>(λ(_:Unit)=>cA (hY [] d) λa=>if dr a 0 then some (.ret a)else some (.next ())):Int->Fm->(Unit)->(Option (eA (Unit) (Int)))) λe=>cA (dH e a0 0 ()) (ez (λ(_:Unit)=>cA (kl a1.abh) λb=>if dr b 0 then some b else if mV (dm a1.abk) 16 then some 3 else fh (dG a1.abk)<|db (λ(i:Int) (f:Fm)=>(λ(_:Unit)=>cA (hY a1.abh f) λc=>if dr c 0 then some (.ret c)else some (.next ())):Int->Fm->(Unit)->(Option (eA (Unit) (Int)))) λg=>cA (dH g a1.abk 0 ()) (ez (λ(_:Unit)=>some 0) (λr=>some r))) (λr=>some r))
def qL(a0:Int):Option (fN×Bool):=if ew (de a0 1) true (de a0 2)then some ((fN.mk 0 0 0 true false),true)else if ew (de a0 3) true (de a0 7)then some ((fN.mk 0 0 2 false false),true)else if ew (de a0 4) true (ew (de a0 5) true (de a0 20))then some ((fN.mk 0 0 1 false false),true)else if de a0 6 then some ((fN.mk 0 1 1 false false),true)else if ew (de a0 8) true (de a0 12)then some ((fN.mk 0 0 1 false true),true)else if ew (de a0 9) true (de a0 13)then some ((fN.mk 1 0 1 false false),true)else if ew (de a0 10) true (de a0 14)then some ((fN.mk 1 1 1 false false),true)else if ew (de a0 11) true (de a0 15)then some ((fN.mk 0 0 2 false false),true)else if ew (de a0 16) true (de a0 17)then some ((fN.mk 1 1 2 false false),true)else if de a0 18 then some ((fN.mk 1 0 0 false false),true)else if de a0 19 then some ((fN.mk 0 1 2 false false),true)else some ((fN.mk 0 0 0 false false),false)
def oZ:Nat->Pf->Option Bool
 |0,_=>none|n+1,a0=>cN (qL a0.abd) λb q=>if ew q (ew (dr (dm a0.cU) b.cU) true (ew (dr (dm a0.ef) b.ef) true (ew (dr (dm a0.abe) b.abe) true (ew (rv a0.abg 0) true (ew b.abg false (dr a0.abg 0)))))) true then some false else db (λ(h:Bool)=>if h=true then some false else fh (dG a0.cU)<|db (λ(s:Int) (i:Tm)=>(λ(_:Unit)=>cA (iK FU i) λj=>if j=true then some (.next ())else some (.ret false)):Int->Tm->(Unit)->(Option (eA (Unit) (Bool)))) λk=>cA (dH k a0.cU 0 ()) (ez (λ(_:Unit)=>fh (dG a0.ef)<|db (λ(t:Int) (l:Fm)=>(λ(_:Unit)=>cA (jO FU l) λc=>if c=true then some (.next ())else some (.ret false)):Int->Fm->(Unit)->(Option (eA (Unit) (Bool)))) λd=>cA (dH d a0.ef 0 ()) (ez (λ(_:Unit)=>fh (dG a0.abe)<|db (λ(p:Int) (e:Pf)=>(λ(_:Unit)=>cA (oZ n e) λf=>if f=true then some (.next ())else some (.ret false)):Int->Pf->(Unit)->(Option (eA (Unit) (Bool)))) λg=>cA (dH g a0.abe 0 ()) (ez (λ(_:Unit)=>some true) (λr=>some r))) (λr=>some r))) (λr=>some r))) λa=>if b.nU=true then cA (gW a0.cD) λm=>if dr m 0 then a true else a false else cA (np a0.cD) λo=>a (k4 o)
def sZ:Nat->Pf->Option Bool
 |0,_=>none|n+1,a0=>fh (dG a0.cU)<|db (λ(j:Int) (c:Tm)=>(λ(_:Unit)=>cA (ep FU c) λd=>if mV d 4096 then some (.ret false)else some (.next ())):Int->Tm->(Unit)->(Option (eA (Unit) (Bool)))) λe=>cA (dH e a0.cU 0 ()) (ez (λ(_:Unit)=>fh (dG a0.ef)<|db (λ(k:Int) (f:Fm)=>(λ(_:Unit)=>cA (jJ FU f) λg=>if mV g 4096 then some (.ret false)else some (.next ())):Int->Fm->(Unit)->(Option (eA (Unit) (Bool)))) λh=>cA (dH h a0.ef 0 ()) (ez (λ(_:Unit)=>fh (dG a0.abe)<|db (λ(l:Int) (i:Pf)=>(λ(_:Unit)=>cA (sZ n i) λa=>if a=true then some (.next ())else some (.ret false)):Int->Pf->(Unit)->(Option (eA (Unit) (Bool)))) λb=>cA (dH b a0.abe 0 ()) (ez (λ(_:Unit)=>some true) (λr=>some r))) (λr=>some r))) (λr=>some r))
def sQ:Nat->Pf->Option Int
 |0,_=>none|n+1,a0=>fh (dG a0.cU)<|db (λ(m:Int) (f:Tm)=>(λ(b:Int)=>cA (ep FU f) λg=>some (.next (dB .i64 b g))):Int->Tm->(Int)->(Option (eA (Int) (Int)))) λh=>cA (dH h a0.cU 0 1) (ez (λ(b:Int)=>fh (dG a0.ef)<|db (λ(o:Int) (i:Fm)=>(λ(v75:Int)=>cA (jJ FU i) λj=>some (.next (dB .i64 v75 j))):Int->Fm->(Int)->(Option (eA (Int) (Int)))) λk=>cA (dH k a0.ef 0 b) (ez (λ(v75:Int)=>fh (dG a0.abe)<|db (λ(l:Int) (c:Pf)=>(λ(a:Int)=>cA (sQ n c) λd=>some (.next (dB .i64 a d))):Int->Pf->(Int)->(Option (eA (Int) (Int)))) λe=>cA (dH e a0.abe 0 v75) (ez (λ(a:Int)=>some a) (λr=>some r))) (λr=>some r))) (λr=>some r))
def CH(a0:Pf):Option Bool:=db (λ(d:Bool)=>some d) λc=>cA (sZ FU a0) λa=>if a=true then cA (sQ FU a0) λb=>c (Gd b 16384)else c false
def vD(a0:Pf):Option Int:=cA (oZ FU a0) λb=>if b=true then cA (CH a0) λa=>if a=true then some 0 else some 4 else some 2
def ru(a0:List (Int×Bool)):Option (List Int×List (Int×Bool)):=fh (dG a0)<|fh (wO (a0.map (·.1)))<|some (vE [] (a0.map (·.1)),a0)
def e_(a0:List Int)(a1:List Int):Option (List Int):=fh (dG a0)<|db (λ(i:Int) (c:Int)=>(λ(a:(List (Int×Bool)))=>some (.next (uf a c true))):Int->Int->((List (Int×Bool)))->(Option (eA ((List (Int×Bool))) (List Int)))) λd=>cA (dH d a0 0 []) (ez (λ(a:(List (Int×Bool)))=>fh (dG a1)<|db (λ(h:Int) (e:Int)=>(λ(b:(List (Int×Bool)))=>some (.next (uf b e true))):Int->Int->((List (Int×Bool)))->(Option (eA ((List (Int×Bool))) (List Int)))) λf=>cA (dH f a1 0 a) (ez (λ(b:(List (Int×Bool)))=>cN (ru b) λg d51=>some g) (λr=>some r))) (λr=>some r))
def dt(a0:cY)(a1:Int)(a2:Int):Option Int:=if ew (mV (dB .i64 (dm a0.abh) a1) 16) true (mV (dB .i64 (dm a0.abk) a2) 16)then some 3 else some 0
def fk(a0:cY)(a1:Fm):Option cY:=fh (eC a0.abk [a1])<|some (cY.mk a0.lemmas a0.abh (fp a0.abk [a1]))
def hW:Nat->Tm->Int->Option Bool
 |0,_,_=>none|n+1,a0,a1=>if mV a0.abg a1 then some false else fh (dG a0.abe)<|db (λ(d:Int) (a:Tm)=>(λ(_:Unit)=>cA (hW n a a1) λb=>if b=true then some (.next ())else some (.ret false)):Int->Tm->(Unit)->(Option (eA (Unit) (Bool)))) λc=>cA (dH c a0.abe 0 ()) (ez (λ(_:Unit)=>some true) (λr=>some r))
def yj(a0:Tm):Option Bool:=if de a0.abd 3 then cA (c_ a0.abe 0) λe=>some (de e.abd 2)else if de a0.abd 6 then db (λ(f:Bool)=>some f) λa=>cA (c_ a0.abe 2) λb=>if de b.abd 4 then a true else a (de b.abd 5)else if de a0.abd 9 then db (λ(g:Bool)=>some g) λc=>cA (c_ a0.abe 2) λd=>if de d.abd 7 then c true else c (de d.abd 8)else if ew (de a0.abd 11) true (de a0.abd 12)then cA (c_ a0.abe 0) λh=>some (de h.abd 10)else some false
def jS(a0:Tm):Option Int:=if de a0.abd 2 then some 1 else some 0
def kj:Nat->Tm->Int->Option Int
 |0,_,_=>none|n+1,a0,a1=>fh (dG a0.abe)<|db (λ(f:Int) (d:Tm)=>(λ(a:Int)=>cA (jS a0) λb=>cA (kj n d (dB .i64 a1 b)) λc=>some (.next (dB .i64 a c))):Int->Tm->(Int)->(Option (eA (Int) (Int)))) λe=>cA (dH e a0.abe 0 (ew (ew (de a0.abd 1) (de a0.abg a1) false) (dB .i64 0 1) 0)) (ez (λ(a:Int)=>some a) (λr=>some r))
def uL(a0:Tm):Option Int:=cA (ep FU a0) λb=>if de a0.abd 3 then cA (c_ a0.abe 0) λf=>cA (c_ f.abe 0) λc=>cA (c_ a0.abe 1) λg=>cA (ep FU c) λh=>cA (kj FU c 0) λi=>cA (ep FU g) λj=>some (dX .i64 (dB .i64 h (GL .i64 i (dX .i64 j 1))) b)else if de a0.abd 6 then cA (c_ a0.abe 2) λd=>if de d.abd 4 then cA (c_ a0.abe 0) λk=>cA (ep FU k) λl=>some (dX .i64 l b)else cA (c_ a0.abe 1) λm=>cA (ep FU m) λn=>cA (c_ d.abe 0) λo=>cA (ep FU o) λp=>some (dX .i64 (dX .i64 (dB .i64 (dB .i64 (dB .i64 2 n) p) b) 1) b)else if de a0.abd 9 then cA (c_ a0.abe 2) λa=>if de a.abd 7 then cA (c_ a0.abe 0) λq=>cA (ep FU q) λr=>some (dX .i64 r b)else cA (c_ a.abe 0) λe=>cA (c_ a.abe 1) λs=>cA (c_ a0.abe 1) λt=>cA (ep FU t) λu=>cA (ep FU e) λv=>cA (ep FU s) λw=>cA (ep FU e) λx=>some (dX .i64 (dX .i64 (dX .i64 (dB .i64 (dB .i64 (dB .i64 (dB .i64 3 u) v) w) b) 1) x) b)else if de a0.abd 11 then cA (c_ a0.abe 0) λy=>cA (c_ y.abe 0) λz=>cA (ep FU z) λA=>some (dX .i64 A b)else cA (c_ a0.abe 0) λB=>cA (c_ B.abe 1) λC=>cA (ep FU C) λD=>some (dX .i64 D b)
def mJ:Nat->Tm->Int->Int->Option Tm
 |0,_,_,_=>none|n+1,a0,a1,a2=>fh (dG a0.abe)<|db (λ(e:Int) (d:Tm)=>(λ(v105:List Tm)=>cA (jS a0) λb=>cA (mJ n d (dB .i64 a1 b) a2) λa=>fh (eC v105 [a])<|some (.next (fp v105 [a]))):Int->Tm->(List Tm)->(Option (eA (List Tm) (Tm)))) λc=>cA (dH c a0.abe 0 []) (ez (λ(v105:List Tm)=>some (Tm.mk a0.abd (ew (ew (de a0.abd 1) (qT a0.abg a1) false) (dB .i64 a0.abg a2) a0.abg) a0.cD v105)) (λr=>some r))
def qH:Nat->Tm->Int->Int->Tm->Option Tm
 |0,_,_,_,_=>none|n+1,a0,a1,a2,a3=>if de a0.abd 1 then if de a0.abg (dB .i64 a1 a2)then cA (mJ FU a3 0 (dB .i64 a1 a2)) λe=>some e else if mV a0.abg (dB .i64 a1 a2)then cA (eN (dX .i64 a0.abg 1)) λf=>some f else some a0 else fh (dG a0.abe)<|db (λ(h:Int) (g:Tm)=>(λ(a:List Tm)=>cA (jS a0) λc=>cA (qH n g a1 (dB .i64 a2 c) a3) λb=>fh (eC a [b])<|some (.next (fp a [b]))):Int->Tm->(List Tm)->(Option (eA (List Tm) (Tm)))) λd=>cA (dH d a0.abe 0 []) (ez (λ(a:List Tm)=>some (Tm.mk a0.abd a0.abg a0.cD a)) (λr=>some r))
def tG(a0:Tm):Option Tm:=if de a0.abd 3 then cA (c_ a0.abe 0) λg=>cA (c_ g.abe 0) λh=>cA (c_ a0.abe 1) λi=>cA (qH FU h 0 0 i) λj=>some j else if de a0.abd 6 then cA (c_ a0.abe 2) λb=>if de b.abd 4 then cA (c_ a0.abe 0) λk=>some k else cA (c_ b.abe 0) λc=>cA (c_ a0.abe 1) λd=>cA (eF 3 [d,c]) λl=>cA (c_ a0.abe 0) λm=>cA (j1 6 a0.cD [m,d,c]) λn=>cA (eF 3 [l,n]) λo=>some o else if de a0.abd 9 then cA (c_ a0.abe 2) λa=>if de a.abd 7 then cA (c_ a0.abe 0) λp=>some p else cA (c_ a.abe 0) λq=>cA (c_ a.abe 1) λe=>cA (c_ a0.abe 1) λf=>cA (eF 3 [f,q]) λr=>cA (eF 3 [r,e]) λs=>cA (c_ a0.abe 0) λt=>cA (j1 9 a0.cD [t,f,e]) λu=>cA (eF 3 [s,u]) λv=>some v else if de a0.abd 11 then cA (c_ a0.abe 0) λw=>cA (c_ w.abe 0) λx=>some x else cA (c_ a0.abe 0) λy=>cA (c_ y.abe 1) λz=>some z
def qe:Nat->Tm->Int->Option (Tm×Bool×Bool)
 |0,_,_=>none|n+1,a0,a1=>cA (yj a0) λi=>if i=true then cA (uL a0) λb=>if mV b a1 then some ((Tm.mk 0 0 (Ty.mk 0 []) []),true,false)else cA (tG a0) λc=>some (c,true,true)else fh (dG a0.abe)<|db (λ(a:Int) (d:Tm)=>(λ(_:Unit)=>gd (qe n d a1) λe f g=>if f=true then fh (vA a0.abe)<|cA (c_ a0.abe a) λj=>some (.ret ((Tm.mk a0.abd a0.abg a0.cD (yH a0.abe a e)),true,g))else some (.next ())):Int->Tm->(Unit)->(Option (eA (Unit) (Tm×Bool×Bool)))) λh=>cA (dH h a0.abe 0 ()) (ez (λ(_:Unit)=>some (a0,false,true)) (λr=>some r))
def mf(a0:Tm)(a1:Int):Option (Tm×Int×Int):=cA (jT a0) λm=>if dr m 0 then some ((Tm.mk 0 0 (Ty.mk 0 []) []),0,m)else db (λ(k:Bool)=>if k=true then some ((Tm.mk 0 0 (Ty.mk 0 []) []),0,1)else db ((M4 λ(v164:Int) (b:Int) (c:Int) (v167:Int) (v168:List Ty) (d:List Tm)=>cA (ep FU (Tm.mk b c (Ty.mk v167 v168) d)) λf=>gd (qe FU (Tm.mk b c (Ty.mk v167 v168) d) (dX .i64 4096 f)) λa g h=>if g=true then if de v164 a1 then some (.ret ((Tm.mk 0 0 (Ty.mk 0 []) []),0,5))else if h=true then some (.next ((dB .i64 v164 1),a.abd,a.abg,a.cD.abd,a.cD.abe,a.abe))else some (.ret ((Tm.mk 0 0 (Ty.mk 0 []) []),0,4))else cA (gY FU (Tm.mk b c (Ty.mk v167 v168) d)) λi=>some (.ret (i,v164,0))):(Int×Int×Int×Int×(List Ty)×(List Tm))->(Option (eA (Int×Int×Int×Int×(List Ty)×(List Tm)) (Tm×Int×Int)))) λj=>cA (lu j FU (0,a0.abd,a0.abg,a0.cD.abd,a0.cD.abe,a0.abe)) (ez (M4 λ(v164:Int) (b:Int) (c:Int) (v167:Int) (v168:List Ty) (d:List Tm)=>none) (λr=>some r))) λe=>if rv a1 0 then e true else if mV a1 65536 then e true else cA (hW FU a0 536870912) λl=>e (k4 l)
def sR(a0:Tm)(a1:Tm)(a2:Int):Option Int:=cA (jT a0) λh=>if dr h 0 then some h else cA (jT a1) λa=>if dr a 0 then some a else cA (iv FU a0 a1) λd=>if d=true then some 0 else gd (mf a0 a2) λe i b=>if dr b 0 then some b else gd (mf a1 a2) λf j c=>if dr c 0 then some c else cA (iv FU e f) λg=>if g=true then some 0 else some 11
def qP:Nat->Fm->Fm->Option Int
 |0,_,_=>none|n+1,a0,a1=>db (λ(i:Bool)=>if i=true then some 11 else fh (dG a0.cU)<|db (λ(j:Int) (k:Tm)=>(λ(_:Unit)=>cA (c_ a1.cU j) λc=>cA (sR k c 1000) λa=>if dr a 0 then some (.ret a)else some (.next ())):Int->Tm->(Unit)->(Option (eA (Unit) (Int)))) λl=>cA (dH l a0.cU 0 ()) (ez (λ(_:Unit)=>fh (dG a0.abe)<|db (λ(d:Int) (e:Fm)=>(λ(_:Unit)=>cA (c_ a1.abe d) λf=>cA (qP n e f) λb=>if dr b 0 then some (.ret b)else some (.next ())):Int->Fm->(Unit)->(Option (eA (Unit) (Int)))) λg=>cA (dH g a0.abe 0 ()) (ez (λ(_:Unit)=>some 0) (λr=>some r))) (λr=>some r))) λh=>if dr a0.abd a1.abd then h true else cA (dR FU a0.cD a1.cD) λm=>h (k4 m)
def pk(a0:Fm)(a1:Fm):Option Int:=cA (jR a0) λc=>if dr c 0 then some c else cA (jR a1) λa=>if dr a 0 then some a else cA (qP FU a0 a1) λb=>some b
def k7(a0:Fm):Option Int:=cA (jw a0.abd) λa=>if a=true then some 1 else some 0
def gN:Nat->Fm->Int->Int->Option Fm
 |0,_,_,_=>none|n+1,a0,a1,a2=>fh (dG a0.cU)<|db (λ(k:Int) (h:Tm)=>(λ(b:List Tm)=>cA (mJ FU h a1 a2) λd=>fh (eC b [d])<|some (.next (fp b [d]))):Int->Tm->(List Tm)->(Option (eA (List Tm) (Fm)))) λi=>cA (dH i a0.cU 0 []) (ez (λ(b:List Tm)=>fh (dG a0.abe)<|db (λ(j:Int) (e:Fm)=>(λ(a:List Fm)=>cA (k7 a0) λf=>cA (gN n e (dB .i64 a1 f) a2) λc=>fh (eC a [c])<|some (.next (fp a [c]))):Int->Fm->(List Fm)->(Option (eA (List Fm) (Fm)))) λg=>cA (dH g a0.abe 0 []) (ez (λ(a:List Fm)=>some (Fm.mk a0.abd a0.cD b a)) (λr=>some r))) (λr=>some r))
def ee(a0:cY)(a1:List Ty):Option cY:=fh (eC a0.abh a1)<|fh (dG a0.abk)<|db (λ(e:Int) (c:Fm)=>(λ(a:List Fm)=>cA (gN FU c 0 (dm a1)) λb=>fh (eC a [b])<|some (.next (fp a [b]))):Int->Fm->(List Fm)->(Option (eA (List Fm) (cY)))) λd=>cA (dH d a0.abk 0 []) (ez (λ(a:List Fm)=>some (cY.mk a0.lemmas (fp a0.abh a1) a)) (λr=>some r))
def fi(a0:List Int)(a1:Int):Option (List Int):=fh (dG a0)<|db (λ(e:Int) (b:Int)=>(λ(a:List Int)=>db (λ(c:List Int)=>some (.next c)) λj57=>if qT b a1 then fh (eC a [(dX .i64 b a1)])<|j57 (fp a [(dX .i64 b a1)])else j57 a):Int->Int->(List Int)->(Option (eA (List Int) (List Int)))) λd=>cA (dH d a0 0 []) (ez (λ(a:List Int)=>some a) (λr=>some r))
def rz(a0:List Int):Option Bool:=db (λ(v6:Bool)=>some v6) λa=>if mV (dm a0) 0 then cA (c_ a0 0) λb=>a (de b 0)else a false
def kb(a0:List Ty)(a1:Tm):Option (Ty×Int):=cA (kl a0) λc=>if dr c 0 then some ((Ty.mk 0 []),c)else cN (ns a0 a1) λa b=>some (a,b)
def rY:Nat->Tm->Int->(List (Int×Bool))->Option ((List (Int×Bool)))
 |0,_,_,_=>none|n+1,a0,a1,a2=>db (λ(e:(List (Int×Bool)))=>fh (dG a0.abe)<|db (λ(f:Int) (a:Tm)=>(λ(v51:(List (Int×Bool)))=>cA (jS a0) λb=>cA (rY n a (dB .i64 a1 b) v51) λd73=>some (.next d73)):Int->Tm->((List (Int×Bool)))->(Option (eA ((List (Int×Bool))) ((List (Int×Bool)))))) λc=>cA (dH c a0.abe 0 e) (ez (λ(v51:(List (Int×Bool)))=>some v51) (λr=>some r))) λd=>if ew (de a0.abd 1) (qT a0.abg a1) false then d (uf a2 (dX .i64 a0.abg a1) true)else d a2
def yd(a0:Tm):Option ((List Int)×Int):=cA (jT a0) λb=>if dr b 0 then some ([],b)else cA (rY FU a0 0 []) λd11=>cN (ru d11) λa d17=>some (a,0)
def j7(a0:Tm):Option (List Int):=cN (yd a0) λa b=>some a
def lY:Nat->Fm->Int->Option Bool
 |0,_,_=>none|n+1,a0,a1=>fh (dG a0.cU)<|db (λ(g:Int) (a:Tm)=>(λ(_:Unit)=>cA (hW FU a a1) λb=>if b=true then some (.next ())else some (.ret false)):Int->Tm->(Unit)->(Option (eA (Unit) (Bool)))) λc=>cA (dH c a0.cU 0 ()) (ez (λ(_:Unit)=>fh (dG a0.abe)<|db (λ(h:Int) (d:Fm)=>(λ(_:Unit)=>cA (lY n d a1) λe=>if e=true then some (.next ())else some (.ret false)):Int->Fm->(Unit)->(Option (eA (Unit) (Bool)))) λf=>cA (dH f a0.abe 0 ()) (ez (λ(_:Unit)=>some true) (λr=>some r))) (λr=>some r))
def l0:Nat->Fm->Int->Option Int
 |0,_,_=>none|n+1,a0,a1=>fh (dG a0.cU)<|db (λ(j:Int) (f:Tm)=>(λ(b:Int)=>cA (kj FU f a1) λg=>some (.next (dB .i64 b g))):Int->Tm->(Int)->(Option (eA (Int) (Int)))) λh=>cA (dH h a0.cU 0 0) (ez (λ(b:Int)=>fh (dG a0.abe)<|db (λ(k:Int) (i:Fm)=>(λ(a:Int)=>cA (k7 a0) λc=>cA (l0 n i (dB .i64 a1 c)) λd=>some (.next (dB .i64 a d))):Int->Fm->(Int)->(Option (eA (Int) (Int)))) λe=>cA (dH e a0.abe 0 b) (ez (λ(a:Int)=>some a) (λr=>some r))) (λr=>some r))
def rM:Nat->Fm->Int->Int->Tm->Option Fm
 |0,_,_,_,_=>none|n+1,a0,a1,a2,a3=>fh (dG a0.cU)<|db (λ(k:Int) (h:Tm)=>(λ(b:List Tm)=>cA (qH FU h a1 a2 a3) λd=>fh (eC b [d])<|some (.next (fp b [d]))):Int->Tm->(List Tm)->(Option (eA (List Tm) (Fm)))) λi=>cA (dH i a0.cU 0 []) (ez (λ(b:List Tm)=>fh (dG a0.abe)<|db (λ(j:Int) (e:Fm)=>(λ(a:List Fm)=>cA (k7 a0) λf=>cA (rM n e a1 (dB .i64 a2 f) a3) λc=>fh (eC a [c])<|some (.next (fp a [c]))):Int->Fm->(List Fm)->(Option (eA (List Fm) (Fm)))) λg=>cA (dH g a0.abe 0 []) (ez (λ(a:List Fm)=>some (Fm.mk a0.abd a0.cD b a)) (λr=>some r))) (λr=>some r))
def qs(a0:Fm)(a1:Int)(a2:Tm):Option (Fm×Int):=cA (jR a0) λk=>if dr k 0 then some ((Fm.mk 0 (Ty.mk 0 []) [] []),k)else if ew (rv a1 0) true (mV a1 4096)then some ((Fm.mk 0 (Ty.mk 0 []) [] []),1)else cA (jT a2) λa=>if dr a 0 then some ((Fm.mk 0 (Ty.mk 0 []) [] []),a)else db (λ(e:Bool)=>if e=true then some ((Fm.mk 0 (Ty.mk 0 []) [] []),1)else cA (jJ FU a0) λf=>cA (l0 FU a0 a1) λg=>cA (ep FU a2) λh=>if mV (dB .i64 f (GL .i64 g (dX .i64 h 1))) 4096 then some ((Fm.mk 0 (Ty.mk 0 []) [] []),4)else cA (rM FU a0 a1 0 a2) λb=>cA (iZ FU b) λc=>some (c,0)) λd=>cA (lY FU a0 536870912) λi=>if i=true then cA (hW FU a2 536870912) λj=>d (k4 j)else d true
def jk(a0:Fm)(a1:Tm):Option (Fm×Int):=cN (qs a0 0 a1) λa b=>some (a,b)
def wW:Nat->Tm->Int->Option Bool
 |0,_,_=>none|n+1,a0,a1=>if ew (de a0.abd 1) (de a0.abg a1) false then some true else fh (dG a0.abe)<|db (λ(e:Int) (c:Tm)=>(λ(_:Unit)=>cA (jS a0) λa=>cA (wW n c (dB .i64 a1 a)) λb=>if b=true then some (.ret true)else some (.next ())):Int->Tm->(Unit)->(Option (eA (Unit) (Bool)))) λd=>cA (dH d a0.abe 0 ()) (ez (λ(_:Unit)=>some false) (λr=>some r))
def qq:Nat->Fm->Int->Option Bool
 |0,_,_=>none|n+1,a0,a1=>fh (dG a0.cU)<|db (λ(h:Int) (d:Tm)=>(λ(_:Unit)=>cA (wW FU d a1) λe=>if e=true then some (.ret true)else some (.next ())):Int->Tm->(Unit)->(Option (eA (Unit) (Bool)))) λf=>cA (dH f a0.cU 0 ()) (ez (λ(_:Unit)=>fh (dG a0.abe)<|db (λ(i:Int) (g:Fm)=>(λ(_:Unit)=>cA (k7 a0) λa=>cA (qq n g (dB .i64 a1 a)) λb=>if b=true then some (.ret true)else some (.next ())):Int->Fm->(Unit)->(Option (eA (Unit) (Bool)))) λc=>cA (dH c a0.abe 0 ()) (ez (λ(_:Unit)=>some false) (λr=>some r))) (λr=>some r))
def nS:Nat->Fm->Option (Fm×Int)
 |0,_=>none|n+1,a0=>fh (dG a0.cU)<|db (λ(m:Int) (i:Tm)=>(λ(b:List Tm)=>gd (mf i 1000) λc k d=>if dr d 0 then some (.ret ((Fm.mk 0 (Ty.mk 0 []) [] []),d))else fh (eC b [c])<|some (.next (fp b [c]))):Int->Tm->(List Tm)->(Option (eA (List Tm) (Fm×Int)))) λj=>cA (dH j a0.cU 0 []) (ez (λ(b:List Tm)=>fh (dG a0.abe)<|db (λ(l:Int) (g:Fm)=>(λ(a:List Fm)=>cN (nS n g) λe f=>if dr f 0 then some (.ret ((Fm.mk 0 (Ty.mk 0 []) [] []),f))else fh (eC a [e])<|some (.next (fp a [e]))):Int->Fm->(List Fm)->(Option (eA (List Fm) (Fm×Int)))) λh=>cA (dH h a0.abe 0 []) (ez (λ(a:List Fm)=>some ((Fm.mk a0.abd a0.cD b a),0)) (λr=>some r))) (λr=>some r))
def gG(a0:cY)(a1:Tm)(a2:Int):Option Int:=cN (kb a0.abh a1) λb a=>if dr a 0 then some a else if dr b.abd a2 then some 7 else some 0
def jC:Nat->Fm->Option Bool
 |0,_=>none|n+1,a0=>if de a0.abd 1 then some false else if de a0.abd 2 then db (λ(b:Bool)=>some b) λa=>cA (c_ a0.abe 0) λc=>cA (jC n c) λd=>if d=true then a true else cA (c_ a0.abe 1) λe=>cA (jC n e) λf=>a f else if de a0.abd 5 then some true else cA (c_ a0.abe (dX .i64 (dm a0.abe) 1)) λg=>cA (jC n g) λh=>some h
def qA(a0:Fm):Option (Bool×Int):=cA (jR a0) λb=>if dr b 0 then some (false,b)else cA (jC FU a0) λa=>some (a,0)
mutual
def dd:Nat->cY->Pf->Option (qE×Int)
 |0,_,_=>none|n+1,a0,a1=>gd (c0 n a0 a1) λb g f=>if dr f 0 then some ((qE.mk (Fm.mk 0 (Ty.mk 0 []) [] []) []),f)else cA (jR b) λc=>if dr c 0 then some ((qE.mk (Fm.mk 0 (Ty.mk 0 []) [] []) []),4)else db (λ(d:List Int)=>some ((qE.mk b d),0)) λa=>cN (qA b) λe h=>if e=true then a g else a []
def c0:Nat->cY->Pf->Option (Fm×(List Int)×Int)
 |0,_,_=>none|n+1,a0,a1=>if de a1.abd 1 then if qT a1.abg (dm a0.abk)then some ((Fm.mk 0 (Ty.mk 0 []) [] []),[],8)else cA (c_ a0.abk (dX .i64 (dX .i64 (dm a0.abk) 1) a1.abg)) λp=>some (p,[],0)else if de a1.abd 2 then if qT a1.abg (dm a0.lemmas)then some ((Fm.mk 0 (Ty.mk 0 []) [] []),[],9)else cA (c_ a0.lemmas a1.abg) λq=>some (q,[],0)else if de a1.abd 3 then cA (c_ a1.abe 0) λr=>cN (dd n a0 r) λe f=>if dr f 0 then some ((Fm.mk 0 (Ty.mk 0 []) [] []),[],f)else cA (c_ a1.abe 1) λs=>cN (dd n a0 s) λg t=>cA (lN 2 e.cK g.cK) λu=>cA (e_ e.eS g.eS) λv=>some (u,v,t)else if ew (de a1.abd 4) true (de a1.abd 5)then cA (c_ a1.abe 0) λw=>cN (dd n a0 w) λb h=>if dr h 0 then some ((Fm.mk 0 (Ty.mk 0 []) [] []),[],h)else if dr b.cK.abd 2 then some ((Fm.mk 0 (Ty.mk 0 []) [] []),[],10)else cA (c_ b.cK.abe (dX .i64 a1.abd 4)) λx=>some (x,b.eS,0)else if de a1.abd 6 then cA (c_ a1.ef 0) λc=>cA (hY a0.abh c) λi=>if dr i 0 then some ((Fm.mk 0 (Ty.mk 0 []) [] []),[],i)else cA (dt a0 0 1) λj=>if dr j 0 then some ((Fm.mk 0 (Ty.mk 0 []) [] []),[],j)else cA (fk a0 c) λy=>cA (c_ a1.abe 0) λz=>cN (dd n y z) λk A=>cA (lN 3 c k.cK) λB=>some (B,k.eS,A)else if de a1.abd 7 then cA (c_ a1.abe 0) λC=>cN (dd n a0 C) λa l=>if dr l 0 then some ((Fm.mk 0 (Ty.mk 0 []) [] []),[],l)else if dr a.cK.abd 3 then some ((Fm.mk 0 (Ty.mk 0 []) [] []),[],10)else cA (c_ a1.abe 1) λD=>cN (dd n a0 D) λm o=>if dr o 0 then some ((Fm.mk 0 (Ty.mk 0 []) [] []),[],o)else cA (c_ a.cK.abe 1) λE=>cA (e_ a.eS m.eS) λF=>cA (c_ a.cK.abe 0) λG=>cA (pk G m.cK) λH=>some (E,F,H)else if ew (de a1.abd 8) true (de a1.abd 12)then gd (k9 n a0 a1) λI J K=>some (I,J,K)else if ew (de a1.abd 9) true (de a1.abd 13)then gd (lT n a0 a1) λL M N=>some (L,M,N)else if ew (de a1.abd 10) true (de a1.abd 14)then gd (lU n a0 a1) λO P Q=>some (O,P,Q)else if ew (de a1.abd 11) true (de a1.abd 15)then gd (kA n a0 a1) λR S T=>some (R,S,T)else if de a1.abd 16 then gd (pL n a0 a1) λU V W=>some (U,V,W)else if de a1.abd 17 then gd (n_ n a0 a1) λX Y Z=>some (X,Y,Z)else if de a1.abd 18 then cA (c_ a1.cU 0) λd=>cA (pT d d) λaa=>cA (gG a0 d 1) λab=>some (aa,[],ab)else if de a1.abd 19 then gd (oe n a0 a1) λad ae af=>some (ad,ae,af)else gd (mW n a0 a1) λah ai aj=>some (ah,ai,aj)
def k9:Nat->cY->Pf->Option (Fm×(List Int)×Int)
 |0,_,_=>none|n+1,a0,a1=>cA (dt a0 1 0) λj=>if dr j 0 then some ((Fm.mk 0 (Ty.mk 0 []) [] []),[],j)else cA (ee a0 [a1.cD]) λc=>cA (c_ a1.abe 0) λd=>cN (dd n c d) λa b=>if dr b 0 then some ((Fm.mk 0 (Ty.mk 0 []) [] []),[],b)else if de a1.abd 8 then cA (js 4 a1.cD a.cK) λe=>cA (fi a.eS 1) λf=>some (e,f,0)else cA (rz a.eS) λg=>if g=true then some ((Fm.mk 0 (Ty.mk 0 []) [] []),[],12)else cA (js 6 a1.cD a.cK) λh=>cA (fi a.eS 1) λi=>some (h,i,0)
def lT:Nat->cY->Pf->Option (Fm×(List Int)×Int)
 |0,_,_=>none|n+1,a0,a1=>cA (c_ a1.cU 0) λc=>cN (kb a0.abh c) λl k=>if dr k 0 then some ((Fm.mk 0 (Ty.mk 0 []) [] []),[],k)else cA (c_ a1.abe 0) λd=>cN (dd n a0 d) λa b=>if dr b 0 then some ((Fm.mk 0 (Ty.mk 0 []) [] []),[],b)else cA (j7 c) λe=>cA (e_ a.eS e) λf=>if dr a.cK.abd (ew (de a1.abd 13) 6 4)then some ((Fm.mk 0 (Ty.mk 0 []) [] []),[],10)else cA (dR FU a.cK.cD l) λg=>if g=true then cA (c_ a.cK.abe 0) λh=>cN (jk h c) λi j=>some (i,(ew (de a1.abd 13) a.eS f),j)else some ((Fm.mk 0 (Ty.mk 0 []) [] []),[],7)
def lU:Nat->cY->Pf->Option (Fm×(List Int)×Int)
 |0,_,_=>none|n+1,a0,a1=>cA (c_ a1.ef 0) λa=>cA (c_ a1.cU 0) λb=>cA (hY a0.abh a) λc=>if dr c 0 then some ((Fm.mk 0 (Ty.mk 0 []) [] []),[],c)else if dr a.abd (ew (de a1.abd 14) 7 5)then some ((Fm.mk 0 (Ty.mk 0 []) [] []),[],10)else cN (kb a0.abh b) λg d=>if dr d 0 then some ((Fm.mk 0 (Ty.mk 0 []) [] []),[],d)else cA (dR FU a.cD g) λh=>if h=true then cA (c_ a1.abe 0) λi=>cA (c_ a.abe 0) λj=>cN (dU n a0 i j b) λe k=>db (λ(l:List Int)=>some (a,l,k)) λf=>if de (ew (de a1.abd 14) 7 5) 5 then cA (j7 b) λm=>cA (e_ e m) λo=>f o else f e else some ((Fm.mk 0 (Ty.mk 0 []) [] []),[],7)
def kA:Nat->cY->Pf->Option (Fm×(List Int)×Int)
 |0,_,_=>none|n+1,a0,a1=>cA (c_ a1.abe 0) λu=>cN (dd n a0 u) λc g=>if dr g 0 then some ((Fm.mk 0 (Ty.mk 0 []) [] []),[],g)else if dr c.cK.abd (ew (de a1.abd 15) 7 5)then some ((Fm.mk 0 (Ty.mk 0 []) [] []),[],10)else cA (dt a0 1 1) λh=>if dr h 0 then some ((Fm.mk 0 (Ty.mk 0 []) [] []),[],h)else cA (ee a0 [c.cK.cD]) λv=>cA (c_ c.cK.abe 0) λw=>cA (fk v w) λx=>cA (c_ a1.abe 1) λy=>cN (dd n x y) λb i=>if dr i 0 then some ((Fm.mk 0 (Ty.mk 0 []) [] []),[],i)else db (λ(z:Int) (j:Int) (k:List Ty) (l:List Tm) (m:List Fm)=>db (λ(v139:Bool)=>if v139=true then some ((Fm.mk 0 (Ty.mk 0 []) [] []),[],12)else cA (gN FU (Fm.mk z (Ty.mk j k) l m) 1 (-1)) λo=>cA (fi b.eS 1) λp=>cA (e_ c.eS p) λq=>some (o,q,0)) λd=>if de (ew (de a1.abd 15) 7 5) 7 then cA (rz b.eS) λr=>d r else d false) λe=>cA (qq FU b.cK 0) λs=>if s=true then cN (nS FU b.cK) λa f=>if dr f 0 then some ((Fm.mk 0 (Ty.mk 0 []) [] []),[],f)else cA (qq FU a 0) λt=>if t=true then some ((Fm.mk 0 (Ty.mk 0 []) [] []),[],6)else e a.abd a.cD.abd a.cD.abe a.cU a.abe else e b.cK.abd b.cK.cD.abd b.cK.cD.abe b.cK.cU b.cK.abe
def pL:Nat->cY->Pf->Option (Fm×(List Int)×Int)
 |0,_,_=>none|n+1,a0,a1=>cA (c_ a1.ef 0) λa=>cA (c_ a1.cU 0) λc=>cA (gT) λd=>fh (eC a0.abh [d])<|cA (jo (fp a0.abh [d]) a) λe=>if dr e 0 then some ((Fm.mk 0 (Ty.mk 0 []) [] []),[],e)else cA (gG a0 c 1) λf=>if dr f 0 then some ((Fm.mk 0 (Ty.mk 0 []) [] []),[],f)else cA (c_ a1.abe 0) λx=>cA (eF 4 []) λy=>cN (dU n a0 x a y) λz g=>if dr g 0 then some ((Fm.mk 0 (Ty.mk 0 []) [] []),[],g)else cA (dt a0 1 1) λh=>if dr h 0 then some ((Fm.mk 0 (Ty.mk 0 []) [] []),[],h)else cA (gT) λi=>cA (ee a0 [i]) λj=>cA (fk j a) λk=>cA (c_ a1.abe 1) λl=>cA (gN FU a 1 1) λm=>cA (eN 0) λo=>cA (eF 5 [o]) λp=>cN (dU n k l m p) λq b=>if dr b 0 then some ((Fm.mk 0 (Ty.mk 0 []) [] []),[],b)else cN (jk a c) λr s=>cA (j7 c) λt=>cA (e_ t z) λu=>cA (fi q 1) λv=>cA (e_ u v) λw=>some (r,w,s)
def n_:Nat->cY->Pf->Option (Fm×(List Int)×Int)
 |0,_,_=>none|n+1,a0,a1=>cA (c_ a1.ef 0) λa=>cA (c_ a1.cU 0) λc=>cA (lB) λd=>fh (eC a0.abh [d])<|cA (jo (fp a0.abh [d]) a) λe=>if dr e 0 then some ((Fm.mk 0 (Ty.mk 0 []) [] []),[],e)else cA (gG a0 c 2) λf=>if dr f 0 then some ((Fm.mk 0 (Ty.mk 0 []) [] []),[],f)else cA (c_ a1.abe 0) λA=>cA (eF 7 []) λB=>cN (dU n a0 A a B) λC g=>if dr g 0 then some ((Fm.mk 0 (Ty.mk 0 []) [] []),[],g)else cA (dt a0 2 1) λh=>if dr h 0 then some ((Fm.mk 0 (Ty.mk 0 []) [] []),[],h)else cA (gT) λi=>cA (lB) λj=>cA (ee a0 [i,j]) λk=>cA (gN FU a 1 1) λl=>cA (fk k l) λm=>cA (c_ a1.abe 1) λo=>cA (gN FU a 1 2) λp=>cA (eN 1) λq=>cA (eN 0) λr=>cA (eF 8 [q,r]) λs=>cN (dU n m o p s) λt b=>if dr b 0 then some ((Fm.mk 0 (Ty.mk 0 []) [] []),[],b)else cN (jk a c) λu v=>cA (j7 c) λw=>cA (e_ w C) λx=>cA (fi t 2) λy=>cA (e_ x y) λz=>some (u,z,v)
def oe:Nat->cY->Pf->Option (Fm×(List Int)×Int)
 |0,_,_=>none|n+1,a0,a1=>cA (c_ a1.ef 0) λi=>cA (gT) λb=>fh (eC a0.abh [b])<|cA (jo (fp a0.abh [b]) i) λc=>if dr c 0 then some ((Fm.mk 0 (Ty.mk 0 []) [] []),[],c)else cA (c_ a1.abe 0) λj=>cN (dd n a0 j) λa d=>if dr d 0 then some ((Fm.mk 0 (Ty.mk 0 []) [] []),[],d)else if dr a.cK.abd 1 then some ((Fm.mk 0 (Ty.mk 0 []) [] []),[],10)else cA (c_ a1.abe 1) λk=>cA (c_ a.cK.cU 0) λl=>cN (dU n a0 k i l) λm e=>if dr e 0 then some ((Fm.mk 0 (Ty.mk 0 []) [] []),[],e)else cA (c_ a.cK.cU 1) λf=>cN (jk i f) λg h=>some (g,m,h)
def mW:Nat->cY->Pf->Option (Fm×(List Int)×Int)
 |0,_,_=>none|n+1,a0,a1=>cA (c_ a1.abe 0) λf=>cN (dd n a0 f) λa b=>if dr b 0 then some ((Fm.mk 0 (Ty.mk 0 []) [] []),[],b)else db (λ(g:Bool)=>if g=true then some ((Fm.mk 0 (Ty.mk 0 []) [] []),[],10)else cA (c_ a.cK.abe 0) λc=>cA (jg a.cK.cD c.cD) λd=>cA (gW d) λh=>if dr h 0 then some ((Fm.mk 0 (Ty.mk 0 []) [] []),[],4)else cA (c_ c.abe 0) λi=>cA (gN FU i 2 1) λj=>cA (eN 1) λk=>cA (eN 0) λl=>cA (eF 3 [k,l]) λm=>cN (jk j m) λo p=>cA (js 4 a.cK.cD o) λq=>cA (js 5 d q) λr=>some (r,a.eS,p)) λe=>if dr a.cK.abd 4 then e true else cA (c_ a.cK.abe 0) λs=>e (dr s.abd 5)
def dU:Nat->cY->Pf->Fm->Tm->Option ((List Int)×Int)
 |0,_,_,_,_=>none|n+1,a0,a1,a2,a3=>cN (dd n a0 a1) λd e=>if dr e 0 then some ([],e)else cN (jk a2 a3) λb a=>if dr a 0 then some ([],a)else cA (pk b d.cK) λc=>some (d.eS,c)
end
def vy(a0:List Fm)(a1:Sq)(a2:Pf):Option (qE×Int):=cA (xC a0 a1) λe=>if dr e 0 then some ((qE.mk (Fm.mk 0 (Ty.mk 0 []) [] []) []),e)else cA (vD a2) λb=>if dr b 0 then some ((qE.mk (Fm.mk 0 (Ty.mk 0 []) [] []) []),b)else cN (dd FU (cY.mk a0 a1.abh a1.abk) a2) λa c=>if dr c 0 then some ((qE.mk (Fm.mk 0 (Ty.mk 0 []) [] []) []),c)else cA (iZ FU a.cK) λd=>fh (eC [] a.eS)<|some ((qE.mk d (fp [] a.eS)),0)
def wq(a0:Int)(a1:Tm)(a2:Pf):Option Pf:=cA (sG a0 [a2]) λa=>cA (gY FU a1) λb=>some (Pf.mk a.abd a.abg a.cD [b] a.ef a.abe)
def wz(a0:Int)(a1:Fm)(a2:Tm)(a3:Pf):Option Pf:=cA (wq a0 a2 a3) λa=>cA (iZ FU a1) λb=>some (Pf.mk a.abd a.abg a.cD a.cU [b] a.abe)
def o9(a0:Int):Option Bool:=some (ew (de a0 0) true (ew (de a0 4) true (ew (de a0 5) true (de a0 3))))
def nE(a0:List Fm)(a1:Sq)(a2:Pf)(a3:Fm):Option Int:=cN (jd a0 a1 a2) λd c=>if dr c 0 then some c else cA (km a1.abh a3) λa=>if dr a 0 then some a else cA (gB d.cK a3) λb=>some b
def sn(a0:Tm)(a1:Int)(a2:Int):Option (Tm×Int):=cA (jT a0) λf=>if dr f 0 then some ((Tm.mk 0 0 (Ty.mk 0 []) []),f)else db (λ(b:Bool)=>if b=true then some ((Tm.mk 0 0 (Ty.mk 0 []) []),1)else cA (mJ FU a0 a1 a2) λc=>cA (gY FU c) λd=>some (d,0)) λa=>if rv a1 0 then a true else if mV a1 4096 then a true else if rv a2 0 then a true else if mV a2 4096 then a true else cA (hW FU a0 536870912) λe=>a (k4 e)
def mr(a0:List Int):Option Bool:=cA (sa) λI=>if I=true then cA (C9 a0) λA=>if A=true then cA (JG a0) λB=>cN (qk B) λb d25=>cA (gT) λj=>cN (iQ FU d25 1) λd d35=>fh (eC [] b.abh)<|fh (eC (fp [] b.abh) [d])<|cN (fI FU d35 (fp (fp [] b.abh) [d]) j 2) λe d49=>cN (sn e 0 1) λC D=>if dr D 0 then some false else cA (eN 0) λE=>cA (pT E C) λF=>cA (js 5 j F) λG=>cA (oN e) λH=>cA (wz 10 G e H) λk=>cA (qj 8 d k) λf=>cN (jd [] b f) λl g=>cA (sG 20 [f]) λm=>cN (jd [] b m) λa h=>if dr g 0 then cA (o9 g) λn=>some n else if dr h 0 then cA (o9 h) λo=>some o else cA (jg d j) λp=>db (λ(v171:Bool)=>if v171=true then some false else cA (c_ a.cK.abe 0) λq=>cA (j1 2 d [e]) λr=>cN (qs q 0 r) λs t=>cA (oN e) λu=>cA (qj 8 d u) λv=>db (λ(v228:Bool)=>some v228) λi=>if de t 0 then cA (nE [] b v s) λw=>cA (o9 w) λx=>i x else i false) λc=>if dr a.cK.abd 5 then c true else cA (dR FU a.cK.cD p) λy=>if y=true then if dr (dm l.eS) (dm a.eS)then c true else cA (hY b.abh a.cK) λz=>c (dr z 0)else c true else some true else some false
end Go.fg
