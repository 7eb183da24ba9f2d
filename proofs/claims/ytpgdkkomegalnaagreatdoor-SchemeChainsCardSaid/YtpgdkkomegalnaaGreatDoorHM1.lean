/- Part of the proof of SchemeChains: models. -/
import Derived.Test.YtpgdkkomegalnaaGreatDoorHL16
set_option linter.all false
namespace Go.fP
open Go
inductive Ty where
 |mk (aop:Int) (aoq:List Ty)
def Ty.aop:Ty->Int|.mk x _=>x
def Ty.aoq:Ty->(List Ty)|.mk _ x=>x
@[simp] theorem Ty.eD(aop:Int)(aoq:List Ty):(Ty.mk aop aoq).aop=aop:=rfl
@[simp] theorem Ty.ey(aop:Int)(aoq:List Ty):(Ty.mk aop aoq).aoq=aoq:=rfl
@[simp] theorem Ty.hR(x:Ty):Ty.mk x.aop x.aoq=x:=by cases x;rfl
instance:Inhabited Ty:=⟨.mk default default⟩
inductive Tm where
 |mk (aop:Int) (aos:Int) (dM:Ty) (aoq:List Tm)
def Tm.aop:Tm->Int|.mk x _ _ _=>x
def Tm.aos:Tm->Int|.mk _ x _ _=>x
def Tm.dM:Tm->Ty|.mk _ _ x _=>x
def Tm.aoq:Tm->(List Tm)|.mk _ _ _ x=>x
@[simp] theorem Tm.eD(aop aos:Int)(dM:Ty)(aoq:List Tm):(Tm.mk aop aos dM aoq).aop=aop:=rfl
@[simp] theorem Tm.gn(aop aos:Int)(dM:Ty)(aoq:List Tm):(Tm.mk aop aos dM aoq).aos=aos:=rfl
@[simp] theorem Tm.fx(aop aos:Int)(dM:Ty)(aoq:List Tm):(Tm.mk aop aos dM aoq).dM=dM:=rfl
@[simp] theorem Tm.ey(aop aos:Int)(dM:Ty)(aoq:List Tm):(Tm.mk aop aos dM aoq).aoq=aoq:=rfl
@[simp] theorem Tm.hR(x:Tm):Tm.mk x.aop x.aos x.dM x.aoq=x:=by cases x;rfl
instance:Inhabited Tm:=⟨.mk default default default default⟩
inductive Fm where
 |mk (aop:Int) (dM:Ty) (ek:List Tm) (aoq:List Fm)
def Fm.aop:Fm->Int|.mk x _ _ _=>x
def Fm.dM:Fm->Ty|.mk _ x _ _=>x
def Fm.ek:Fm->(List Tm)|.mk _ _ x _=>x
def Fm.aoq:Fm->(List Fm)|.mk _ _ _ x=>x
@[simp] theorem Fm.eD(aop:Int)(dM:Ty)(ek:List Tm)(aoq:List Fm):(Fm.mk aop dM ek aoq).aop=aop:=rfl
@[simp] theorem Fm.fx(aop:Int)(dM:Ty)(ek:List Tm)(aoq:List Fm):(Fm.mk aop dM ek aoq).dM=dM:=rfl
@[simp] theorem Fm.ik(aop:Int)(dM:Ty)(ek:List Tm)(aoq:List Fm):(Fm.mk aop dM ek aoq).ek=ek:=rfl
@[simp] theorem Fm.ey(aop:Int)(dM:Ty)(ek:List Tm)(aoq:List Fm):(Fm.mk aop dM ek aoq).aoq=aoq:=rfl
@[simp] theorem Fm.hR(x:Fm):Fm.mk x.aop x.dM x.ek x.aoq=x:=by cases x;rfl
instance:Inhabited Fm:=⟨.mk default default default default⟩
inductive Pf where
 |mk (aop:Int) (aos:Int) (dM:Ty) (ek:List Tm) (gh:List Fm) (aoq:List Pf)
def Pf.aop:Pf->Int|.mk x _ _ _ _ _=>x
def Pf.aos:Pf->Int|.mk _ x _ _ _ _=>x
def Pf.dM:Pf->Ty|.mk _ _ x _ _ _=>x
def Pf.ek:Pf->(List Tm)|.mk _ _ _ x _ _=>x
def Pf.gh:Pf->(List Fm)|.mk _ _ _ _ x _=>x
def Pf.aoq:Pf->(List Pf)|.mk _ _ _ _ _ x=>x
@[simp] theorem Pf.eD(aop aos:Int)(dM:Ty)(ek:List Tm)(gh:List Fm)(aoq:List Pf):(Pf.mk aop aos dM ek gh aoq).aop=aop:=rfl
@[simp] theorem Pf.gn(aop aos:Int)(dM:Ty)(ek:List Tm)(gh:List Fm)(aoq:List Pf):(Pf.mk aop aos dM ek gh aoq).aos=aos:=rfl
@[simp] theorem Pf.fx(aop aos:Int)(dM:Ty)(ek:List Tm)(gh:List Fm)(aoq:List Pf):(Pf.mk aop aos dM ek gh aoq).dM=dM:=rfl
@[simp] theorem Pf.ik(aop aos:Int)(dM:Ty)(ek:List Tm)(gh:List Fm)(aoq:List Pf):(Pf.mk aop aos dM ek gh aoq).ek=ek:=rfl
@[simp] theorem Pf.QB(aop aos:Int)(dM:Ty)(ek:List Tm)(gh:List Fm)(aoq:List Pf):(Pf.mk aop aos dM ek gh aoq).gh=gh:=rfl
@[simp] theorem Pf.ey(aop aos:Int)(dM:Ty)(ek:List Tm)(gh:List Fm)(aoq:List Pf):(Pf.mk aop aos dM ek gh aoq).aoq=aoq:=rfl
@[simp] theorem Pf.hR(x:Pf):Pf.mk x.aop x.aos x.dM x.ek x.gh x.aoq=x:=by cases x;rfl
instance:Inhabited Pf:=⟨.mk default default default default default default⟩
structure Sq where
 aot:(List Ty)
 aow:(List Fm)
@[simp] theorem Sq.hR(x:Sq):Sq.mk x.aot x.aow=x:=rfl
instance:Inhabited Sq:=⟨.mk default default⟩
inductive Vl where
 |mk (aop:Int) (num:Int) (list:List Int) (aoq:List Vl)
def Vl.aop:Vl->Int|.mk x _ _ _=>x
def Vl.num:Vl->Int|.mk _ x _ _=>x
def Vl.list:Vl->(List Int)|.mk _ _ x _=>x
def Vl.aoq:Vl->(List Vl)|.mk _ _ _ x=>x
@[simp] theorem Vl.eD(aop num:Int)(list:List Int)(aoq:List Vl):(Vl.mk aop num list aoq).aop=aop:=rfl
@[simp] theorem Vl.ahA(aop num:Int)(list:List Int)(aoq:List Vl):(Vl.mk aop num list aoq).num=num:=rfl
@[simp] theorem Vl.adp(aop num:Int)(list:List Int)(aoq:List Vl):(Vl.mk aop num list aoq).list=list:=rfl
@[simp] theorem Vl.ey(aop num:Int)(list:List Int)(aoq:List Vl):(Vl.mk aop num list aoq).aoq=aoq:=rfl
@[simp] theorem Vl.hR(x:Vl):Vl.mk x.aop x.num x.list x.aoq=x:=by cases x;rfl
instance:Inhabited Vl:=⟨.mk default default default default⟩
structure eN where
 l:(List Int)
 yI:Int
@[simp] theorem eN.hR(x:eN):eN.mk x.l x.yI=x:=rfl
instance:Inhabited eN:=⟨.mk default default⟩
structure tk where
 eh:Fm
 lx:(List Int)
@[simp] theorem tk.hR(x:tk):tk.mk x.eh x.lx=x:=rfl
instance:Inhabited tk:=⟨.mk default default⟩
structure dS where
 lemmas:(List Fm)
 ek:(List Tm)
 next:Int
@[simp] theorem dS.hR(x:dS):dS.mk x.lemmas x.ek x.next=x:=rfl
instance:Inhabited dS:=⟨.mk default default default⟩
structure eA where
 ir:Sq
 vars:(List Tm)
 aow:(List Tm)
@[simp] theorem eA.hR(x:eA):eA.mk x.ir x.vars x.aow=x:=rfl
instance:Inhabited eA:=⟨.mk default default default⟩
structure d_ where
 used:Int
 rE:Int
 out:Bool
@[simp] theorem d_.hR(x:d_):d_.mk x.used x.rE x.out=x:=rfl
instance:Inhabited d_:=⟨.mk default default default⟩
inductive dJ where
 |mk (num:Int) (list:List Int) (pair:List dJ) (body:Tm) (env:List dJ)
def dJ.num:dJ->Int|.mk x _ _ _ _=>x
def dJ.list:dJ->(List Int)|.mk _ x _ _ _=>x
def dJ.pair:dJ->(List dJ)|.mk _ _ x _ _=>x
def dJ.body:dJ->Tm|.mk _ _ _ x _=>x
def dJ.env:dJ->(List dJ)|.mk _ _ _ _ x=>x
@[simp] theorem dJ.ahA(num:Int)(list:List Int)(pair:List dJ)(body:Tm)(env:List dJ):(dJ.mk num list pair body env).num=num:=rfl
@[simp] theorem dJ.adp(num:Int)(list:List Int)(pair:List dJ)(body:Tm)(env:List dJ):(dJ.mk num list pair body env).list=list:=rfl
@[simp] theorem dJ.al9(num:Int)(list:List Int)(pair:List dJ)(body:Tm)(env:List dJ):(dJ.mk num list pair body env).pair=pair:=rfl
@[simp] theorem dJ.alV(num:Int)(list:List Int)(pair:List dJ)(body:Tm)(env:List dJ):(dJ.mk num list pair body env).body=body:=rfl
@[simp] theorem dJ.amS(num:Int)(list:List Int)(pair:List dJ)(body:Tm)(env:List dJ):(dJ.mk num list pair body env).env=env:=rfl
@[simp] theorem dJ.hR(x:dJ):dJ.mk x.num x.list x.pair x.body x.env=x:=by cases x;rfl
instance:Inhabited dJ:=⟨.mk default default default default default⟩
structure dT where
 lemmas:(List Fm)
 aot:(List Ty)
 aow:(List Fm)
@[simp] theorem dT.hR(x:dT):dT.mk x.lemmas x.aot x.aow=x:=rfl
instance:Inhabited dT:=⟨.mk default default default⟩
structure dN where
 dM:Ty
 aor:Int
@[simp] theorem dN.hR(x:dN):dN.mk x.dM x.aor=x:=rfl
instance:Inhabited dN:=⟨.mk default default⟩
structure dQ where
 eh:Fm
 lx:Int
@[simp] theorem dQ.hR(x:dQ):dQ.mk x.eh x.lx=x:=rfl
instance:Inhabited dQ:=⟨.mk default default⟩
structure eX where
 vars:Int
 aow:Int
@[simp] theorem eX.hR(x:eX):eX.mk x.vars x.aow=x:=rfl
instance:Inhabited eX:=⟨.mk default default⟩
structure et where
 eh:Fm
 vars:Int
@[simp] theorem et.hR(x:et):et.mk x.eh x.vars=x:=rfl
instance:Inhabited et:=⟨.mk default default⟩
structure dZ where
 iA:eX
 aot:(List dN)
 known:(List et)
@[simp] theorem dZ.hR(x:dZ):dZ.mk x.iA x.aot x.known=x:=rfl
instance:Inhabited dZ:=⟨.mk default default default⟩
structure ec where
 aor:Int
 jh:Bool
@[simp] theorem ec.hR(x:ec):ec.mk x.aor x.jh=x:=rfl
instance:Inhabited ec:=⟨.mk default default⟩
structure fw where
 ek:Int
 gh:Int
 aoq:Int
 aos:Bool
 p0:Bool
@[simp] theorem fw.hR(x:fw):fw.mk x.ek x.gh x.aoq x.aos x.p0=x:=rfl
instance:Inhabited fw:=⟨.mk default default default default default⟩
structure fL where
 aos:Bool
 typed:Bool
 ek:Int
 gh:Int
 aoq:Int
 uM:Int
 vars:Int
 aow:Int
@[simp] theorem fL.hR(x:fL):fL.mk x.aos x.typed x.ek x.gh x.aoq x.uM x.vars x.aow=x:=rfl
instance:Inhabited fL:=⟨.mk default default default default default default default default⟩
structure ej where
 aop:Int
 base:Tm
 vars:(List Ty)
 next:Tm
@[simp] theorem ej.hR(x:ej):ej.mk x.aop x.base x.vars x.next=x:=rfl
instance:Inhabited ej:=⟨.mk default default default default⟩
structure fT where
 term:(Option Nat)
 steps:Int
@[simp] theorem fT.hR(x:fT):fT.mk x.term x.steps=x:=rfl
structure eI where
 aop:Int
 aos:Int
 p0:Ty
 aoq:(List (Option Nat))
 size:Int
 free:Int
 normal:Bool
@[simp] theorem eI.hR(x:eI):eI.mk x.aop x.aos x.p0 x.aoq x.size x.free x.normal=x:=rfl
inductive HC where
 |fZ (x:fT)|eJ (x:eI)
def HC.fj(l:List HC)(p:Nat):Option fT:=match l[p]?with|some (.fZ x)=>some x|_=>none
def HC.gH{l:List HC}{p:Nat}{x:fT}(h:HC.fj l p=some x):l[p]?=some (.fZ x):=by
 unfold HC.fj at h
 split at h
 .rename_i e;rw[e];rw[hU h]
 .cases h
def HC.dX(l:List HC)(p:Nat):Option eI:=match l[p]?with|some (.eJ x)=>some x|_=>none
def HC.ed{l:List HC}{p:Nat}{x:eI}(h:HC.dX l p=some x):l[p]?=some (.eJ x):=by
 unfold HC.dX at h
 split at h
 .rename_i e;rw[e];rw[hU h]
 .cases h
def kB(l:List HC)(p:Nat)(x:HC):List HC:=l.set p x
def lO:List Int:=[0,1,28,2,29,14,24,3,30,22,20,15,25,17,4,8,31,27,13,23,21,19,16,7,26,12,18,6,11,5,10,9]
def pj:List fL:=[⟨false,false,0,0,0,0,0,0⟩,⟨true,false,0,0,0,0,0,0⟩,⟨true,false,0,0,0,0,0,0⟩,⟨false,false,0,0,2,0,0,0⟩,⟨false,false,0,0,1,0,0,0⟩,⟨false,false,0,0,1,0,0,0⟩,⟨false,false,0,1,1,0,0,1⟩,⟨false,false,0,0,2,0,0,0⟩,⟨false,true,0,0,1,0,1,0⟩,⟨false,false,1,0,1,0,0,0⟩,⟨false,false,1,1,1,0,0,0⟩,⟨false,false,0,0,2,0,1,1⟩,⟨false,true,0,0,1,0,1,0⟩,⟨false,false,1,0,1,0,0,0⟩,⟨false,false,1,1,1,0,0,0⟩,⟨false,false,0,0,2,0,1,1⟩,⟨false,false,1,1,2,1,1,1⟩,⟨false,false,1,1,2,1,2,1⟩,⟨false,false,1,0,0,0,0,0⟩,⟨false,false,0,1,2,1,0,0⟩,⟨false,false,0,0,1,0,0,0⟩]
def qF:List Int:=[0,0,1,2,0,1,3,0,2,3,2,1,1,0]
end Go.fP
set_option maxRecDepth 20000
namespace Go.fP
open Go
def fS(a0:Int):Option Tm:=some (Tm.mk 1 a0 (Ty.mk 0 []) [])
def g_(a0:Int)(a1:List Tm):Option Tm:=some (Tm.mk a0 0 (Ty.mk 0 []) a1)
def mC(a0:Ty)(a1:Tm):Option Tm:=some (Tm.mk 2 0 a0 [a1])
def wX:Option Ty:=some (Ty.mk 2 [])
def gz:Option Ty:=some (Ty.mk 1 [])
def tW(a0:Ty)(a1:List Ty):Option Ty:=en ((T3 λ(a:Int) (v49:Int) (b:List Ty)=>if qz a 0 then dH (dW a1 a) λc=>some (fp.next ((fD .i64 a 1),4,[c,(Ty.mk v49 b)]))else some (fp.xA (a,v49,b)))) λd=>dH (jL d FU ((fD .i64 (eE a1) 1),a0.aop,a0.aoq)) (fQ (T3 λ(a:Int) (v49:Int) (b:List Ty)=>some (Ty.mk v49 b)) (λr=>some r))
def qv:Option Ty:=dH (gz) λb=>dH (gz) λc=>dH (tW b [c]) λa=>some a
def mM:Nat->Ty->Option (Int×Bool)
 |0,_=>none|n+1,a0=>en (λ(v10:Int)=>if eR (eE a0.aoq) v10 then some (0,false)else gq (e_ a0.aoq)<|en (λ(i:Int) (c:Ty)=>(λ(a:Int)=>dR (mM n c) λd f=>if f then some (fp.next (eH .i64 a d))else some (fp.ret (0,false)))) λh=>dH (fa h a0.aoq 0 1) (fQ (λ(a:Int)=>some (a,true)) (λr=>some r))) λb=>if fq (eo a0.aop 1) true (fq (eo a0.aop 2) true (eo a0.aop 5))then b 0 else if fq (eo a0.aop 3) true (eo a0.aop 4)then b 2 else some (0,false)
def jl(a0:Ty):Option (Int×Int):=dR (mM FU a0) λa b=>if b then if pw a 64 then some (0,4)else some (a,0)else some (0,2)
def sj(a0:Ty):Option Int:=dR (jl a0) λb a=>some a
def nR(a0:List Ty):Option Int:=if pw (eE a0) 16 then some 3 else gq (e_ a0)<|en (λ(d:Int) (b:Ty)=>(λ(_:Unit)=>dH (sj b) λa=>if eR a 0 then some (fp.ret a)else some (fp.next ()))) λc=>dH (fa c a0 0 ()) (fQ (λ(_:Unit)=>some 0) (λr=>some r))
def wz(a0:Int):Option (Int×Bool):=if fq (pH a0 1) true (qz a0 14)then some (0,false)else dH (dW qF a0) λa=>some (a,true)
def wT(a0:Int):Option Bool:=some (fq (eo a0 2) true (fq (eo a0 6) true (eo a0 9)))
def oK(a0:Ty):Option Bool:=some (fq (eo a0.aop 0) (eo (eE a0.aoq) 0) false)
def jV:Nat->Tm->Option (Int×Bool)
 |0,_=>none|n+1,a0=>dR (wz a0.aop) λl o=>if fq o (fq (eR (eE a0.aoq) l) true (fq (pH a0.aos 0) true (fq (eR a0.aos 0) (eR a0.aop 1) false))) true then some (0,false)else en (gq (e_ a0.aoq)<|en (λ(q:Int) (h:Tm)=>(λ(a:Int)=>dR (jV n h) λb c=>if c then some (fp.next (eH .i64 a b))else some (fp.ret (0,false)))) λd=>dH (fa d a0.aoq 0 1) (fQ (λ(a:Int)=>some (a,true)) (λr=>some r))) λf=>dH (wT a0.aop) λi=>if i then dR (jl a0.dM) λs j=>if eR j 0 then some (0,false)else f else dH (oK a0.dM) λk=>if k then f else some (0,false)
def kL(a0:Tm):Option (Int×Int):=dR (jV FU a0) λa b=>if b then if pw a 4096 then some (0,4)else some (a,0)else some (0,2)
def oG(a0:Tm):Option Int:=dR (kL a0) λb a=>some a
def m0(a0:Ty):Option dN:=dR (jl a0) λa b=>some (dN.mk a0 a)
def nj(a0:List Ty):Option (List dN):=gq (e_ a0)<|en (λ(d:Int) (b:Ty)=>(λ(v40:List dN)=>dH (m0 b) λa=>gq (fM v40 [a])<|some (fp.next (fW v40 [a])))) λc=>dH (fa c a0 0 []) (fQ (λ(v40:List dN)=>some v40) (λr=>some r))
def si(a0:Int)(a1 a2:dN):Option (dN×Int):=if pw (eH .i64 (eH .i64 1 a1.aor) a2.aor) 64 then some ((dN.mk (Ty.mk 0 []) 0),4)else some ((dN.mk (Ty.mk a0 [a1.dM,a2.dM]) (eH .i64 (eH .i64 1 a1.aor) a2.aor)),0)
def jX(a0:Int):Option (List Int):=if eo a0 4 then some [1] else if eo a0 5 then some [1,1] else if eo a0 7 then some [2] else if eo a0 8 then some [2,1,2] else if eo a0 13 then some [5] else some []
def jr(a0:dN)(a1:Int):Option Bool:=some (eo a0.dM.aop a1)
def jD(a0:dN)(a1:Int):Option dN:=dH (dW a0.dM.aoq a1) λa=>dH (m0 a) λb=>some b
def gR:Nat->Ty->Ty->Option Bool
 |0,_,_=>none|n+1,a0,a1=>if fq (eR a0.aop a1.aop) true (eR (eE a0.aoq) (eE a1.aoq))then some false else gq (e_ a0.aoq)<|en (λ(c:Int) (d:Ty)=>(λ(_:Unit)=>dH (dW a1.aoq c) λa=>dH (gR n d a) λb=>if b then some (fp.next ())else some (fp.ret false))) λf=>dH (fa f a0.aoq 0 ()) (fQ (λ(_:Unit)=>some true) (λr=>some r))
def kP(a0 a1:dN):Option Bool:=en (λ(v6:Bool)=>some v6) λa=>if eo a0.aor a1.aor then dH (gR FU a0.dM a1.dM) λb=>a b else a false
def ot:Option Ty:=some (Ty.mk 1 [])
def BH:Option Ty:=some (Ty.mk 2 [])
def uu(a0:Ty)(a1:List Ty):Option Ty:=en ((T3 λ(a:Int) (v49:Int) (b:List Ty)=>if qz a 0 then dH (dW a1 a) λc=>some (fp.next ((fD .i64 a 1),4,[c,(Ty.mk v49 b)]))else some (fp.xA (a,v49,b)))) λd=>dH (jL d FU ((fD .i64 (eE a1) 1),a0.aop,a0.aoq)) (fQ (T3 λ(a:Int) (v49:Int) (b:List Ty)=>some (Ty.mk v49 b)) (λr=>some r))
def qm(a0:Tm):Option Ty:=if eo a0.aop 9 then dH (ot) λa=>dH (BH) λb=>dH (uu a0.dM [a,b,a0.dM]) λc=>some c else dH (ot) λd=>dH (uu a0.dM [d,a0.dM]) λf=>some f
def gx(a0:Tm)(a1:dN×dN×dN):Option (dN×Int):=dH (jX a0.aop) λa=>if pw (eE a) 0 then dH (tD a 1 (eE a)) λh=>gq (e_ h)<|en (λ(b:Int) (c:Int)=>(λ(_:Unit)=>en (λ(v222:Bool)=>if v222 then some (fp.ret ((dN.mk (Ty.mk 0 []) 0),7))else some (fp.next ())) λd=>if eo b 0 then dH (jr a1.1 c) λk=>d (lF k)else if eo b 1 then dH (jr a1.2.1 c) λl=>d (lF l)else gq (eo b 2)<|dH (jr a1.2.2 c) λn=>d (lF n))) λo=>dH (fa o h 0 ()) (fQ (λ(_:Unit)=>dH (dW a 0) λq=>dH (m0 (Ty.mk q [])) λs=>some (s,0)) (λr=>some r))else if eo a0.aop 3 then en (λ(t:Bool)=>if t then some ((dN.mk (Ty.mk 0 []) 0),7)else dH (jD a1.1 1) λu=>some (u,0)) λi=>dH (jr a1.1 4) λv=>if v then dH (jD a1.1 0) λw=>dH (kP w a1.2.1) λx=>i (lF x)else i true else if fq (eo a0.aop 6) true (eo a0.aop 9)then dH (m0 a0.dM) λj=>en (λ(y:Bool)=>if y then some ((dN.mk (Ty.mk 0 []) 0),7)else some (j,0)) λf=>dH (kP a1.1 j) λA=>if A then dH (qm a0) λB=>dH (gR FU a1.2.1.dM B) λC=>if C then dH (jr a1.2.2 (fq (eo a0.aop 9) 2 1)) λD=>f (lF D)else f true else f true else if eo a0.aop 10 then dR (si 3 a1.1 a1.2.1) λF G=>some (F,G)else dH (jr a1.1 3) λH=>if H then if eo a0.aop 11 then dH (jD a1.1 0) λI=>some (I,0)else dH (jD a1.1 1) λJ=>some (J,0)else some ((dN.mk (Ty.mk 0 []) 0),7)
def eU:Nat->(List dN)->Tm->Option (dN×Int)
 |0,_,_=>none|n+1,a0,a1=>if eo a1.aop 1 then if qz a1.aos (eE a0)then some ((dN.mk (Ty.mk 0 []) 0),6)else dH (dW a0 (fD .i64 (fD .i64 (eE a0) 1) a1.aos)) λL=>some (L,0)else if eo a1.aop 2 then dH (m0 a1.dM) λo=>gq (fM a0 [o])<|dH (dW a1.aoq 0) λH=>dR (eU n (fW a0 [o]) H) λI q=>if eR q 0 then some ((dN.mk (Ty.mk 0 []) 0),q)else dR (si 4 o I) λJ K=>some (J,K)else gq (e_ a1.aoq)<|en (λ(k:Int) (s:Tm)=>(un9 λ(b:Int) (c:List Ty) (v218:Int) (d:Int) (f:List Ty) (h:Int) (v222:Int) (i:List Ty) (j:Int)=>en (λ(t:Int) (u:List Ty) (v:Int) (w:Int) (x:List Ty) (y:Int) (A:Int) (B:List Ty) (C:Int)=>some (fp.next (t,u,v,w,x,y,A,B,C))) λj250=>dR (eU n a0 s) λa l=>if eR l 0 then some (fp.ret ((dN.mk (Ty.mk 0 []) 0),l))else if eo k 0 then j250 a.dM.aop a.dM.aoq a.aor d f h v222 i j else if eo k 1 then j250 b c v218 a.dM.aop a.dM.aoq a.aor v222 i j else gq (eo k 2)<|j250 b c v218 d f h a.dM.aop a.dM.aoq a.aor)) λD=>dH (fa D a1.aoq 0 (0,[],0,0,[],0,0,[],0)) (fQ (un9 λ(b:Int) (c:List Ty) (v218:Int) (d:Int) (f:List Ty) (h:Int) (v222:Int) (i:List Ty) (j:Int)=>dR (gx a1 ((dN.mk (Ty.mk b c) v218),(dN.mk (Ty.mk d f) h),(dN.mk (Ty.mk v222 i) j))) λF G=>some (F,G)) (λr=>some r))
def jY:Nat->Ty->Option Ty
 |0,_=>none|n+1,a0=>gq (e_ a0.aoq)<|en (λ(f:Int) (c:Ty)=>(λ(a:List Ty)=>dH (jY n c) λb=>gq (fM a [b])<|some (fp.next (fW a [b])))) λd=>dH (fa d a0.aoq 0 []) (fQ (λ(a:List Ty)=>some (Ty.mk a0.aop a)) (λr=>some r))
def tg(a0:List Ty)(a1:Tm):Option (Ty×Int):=dH (nR a0) λh=>if eR h 0 then some ((Ty.mk 0 []),h)else dH (oG a1) λa=>if eR a 0 then some ((Ty.mk 0 []),a)else dH (nj a0) λc=>dR (eU FU c a1) λd b=>if eR b 0 then some ((Ty.mk 0 []),b)else dH (jY FU d.dM) λf=>some (f,0)
def zf(a0 a1:Ty):Option Bool:=dH (gR FU a0 a1) λa=>some a
def iW(a0:Tm)(a1:Ty):Option Int:=dR (tg [] a0) λd c=>en (λ(v21:Bool)=>if v21 then some 7 else some c) λa=>if eo c 0 then dH (zf d a1) λb=>a (lF b)else a false
def iR(a0:Int):Option (Fm×Pf×Int):=some ((Fm.mk 0 (Ty.mk 0 []) [] []),(Pf.mk 0 0 (Ty.mk 0 []) [] [] []),a0)
def FX(a0:Int):Option Tm:=some (Tm.mk 1 a0 (Ty.mk 0 []) [])
def fB(a0:Int):Option Tm:=dH (FX a0) λa=>some a
def nA(a0:Int)(a1:List Tm):Option Tm:=some (Tm.mk a0 0 (Ty.mk 0 []) a1)
def hY(a0:Tm)(a1:List Tm):Option Tm:=gq (e_ a1)<|en (λ(j:Int) (h:Tm)=>(un5 λ(b:Int) (c:Int) (v46:Int) (d:List Ty) (f:List Tm)=>dH (nA 3 [(Tm.mk b c (Ty.mk v46 d) f),h]) λa=>some (fp.next (a.aop,a.aos,a.dM.aop,a.dM.aoq,a.aoq)))) λi=>dH (fa i a1 0 (a0.aop,a0.aos,a0.dM.aop,a0.dM.aoq,a0.aoq)) (fQ (un5 λ(b:Int) (c:Int) (v46:Int) (d:List Ty) (f:List Tm)=>some (Tm.mk b c (Ty.mk v46 d) f)) (λr=>some r))
def nX:Nat->Tm->Int->Int->Option Tm
 |0,_,_,_=>none|n+1,a0,a1,a2=>if eo a2 0 then some a0 else if eo a0.aop 1 then some (Tm.mk a0.aop (fq (qz a0.aos a1) (eH .i64 a0.aos a2) a0.aos) a0.dM a0.aoq)else gq (e_ a0.aoq)<|en (λ(f:Int) (c:Tm)=>(λ(a:List Tm)=>dH (nX n c (fq (eo a0.aop 2) (eH .i64 a1 1) a1) a2) λb=>gq (fM a [b])<|some (fp.next (fW a [b])))) λd=>dH (fa d a0.aoq 0 []) (fQ (λ(a:List Tm)=>some (Tm.mk a0.aop a0.aos a0.dM a)) (λr=>some r))
def m6(a0 a1:Tm):Option Fm:=some (Fm.mk 1 (Ty.mk 0 []) [a0,a1] [])
def qq(a0:Int)(a1:Ty)(a2:Fm):Option Fm:=some (Fm.mk a0 a1 [] [a2])
def fY(a0:Tm):Option Fm:=dH (gz) λa=>dH (fB 0) λb=>dH (nX FU a0 0 1) λc=>dH (m6 b c) λd=>dH (qq 5 a d) λf=>some f
def k8(a0:Tm):Option Pf:=some (Pf.mk 18 0 (Ty.mk 0 []) [a0] [] [])
def j0(a0:Fm)(a1:Tm)(a2:Pf):Option Pf:=some (Pf.mk 10 0 (Ty.mk 0 []) [a1] [a0] [a2])
def p6(a0:Ty)(a1:Pf):Option Pf:=some (Pf.mk 8 0 a0 [] [] [a1])
def rY(a0:Fm):Option Bool:=en (λ(v10:Int) (v11:Int) (v12:Bool)=>en (some (fq (eo (eE a0.ek) v10) (eo (eE a0.aoq) v11) false)) λb=>if v12 then dR (jl a0.dM) λf c=>if eR c 0 then some false else b else dH (oK a0.dM) λd=>if d then b else some false) λa=>if eo a0.aop 1 then a 2 0 false else if fq (eo a0.aop 2) true (eo a0.aop 3)then a 0 2 false else if fq (eo a0.aop 4) true (fq (eo a0.aop 5) true (fq (eo a0.aop 6) true (eo a0.aop 7)))then a 0 1 true else some false
def jG:Nat->Fm->Option (Int×Bool)
 |0,_=>none|n+1,a0=>dH (rY a0) λo=>if o then gq (e_ a0.ek)<|en (λ(q:Int) (h:Tm)=>(λ(v72:Int)=>dR (jV FU h) λi j=>if j then some (fp.next (eH .i64 v72 i))else some (fp.ret (0,false)))) λk=>dH (fa k a0.ek 0 1) (fQ (λ(v72:Int)=>gq (e_ a0.aoq)<|en (λ(l:Int) (b:Fm)=>(λ(a:Int)=>dR (jG n b) λc d=>if d then some (fp.next (eH .i64 a c))else some (fp.ret (0,false)))) λf=>dH (fa f a0.aoq 0 v72) (fQ (λ(a:Int)=>some (a,true)) (λr=>some r))) (λr=>some r))else some (0,false)
def jd(a0:Fm):Option (Int×Int):=dR (jG FU a0) λa b=>if b then if pw a 4096 then some (0,4)else some (a,0)else some (0,2)
def kF(a0:Fm):Option Int:=dR (jd a0) λb a=>some a
def p5(a0:Int):Option (fL×Bool):=if fq (pH a0 1) true (qz a0 21)then some ((fL.mk false false 0 0 0 0 0 0),false)else dH (dW pj a0) λa=>some (a,true)
def hX(a0:ec)(a1 a2:Int):Option (Bool×ec):=some ((eR a2 2),(fq a0.jh (ec.mk (eH .i64 a0.aor a1) true) (ec.mk (eH .i64 a0.aor a1) (eo a2 4))))
def iS:Nat->ec->Pf->Option (Bool×ec)
 |0,_,_=>none|n+1,a0,a1=>dR (p5 a1.aop) λd G=>if fq G (fq (pH a1.aos 0) true (fq (eR a1.aos 0) (fq d.aos (fq (eR (eE a1.ek) d.ek) true (fq (eR (eE a1.gh) d.gh) true (eR (eE a1.aoq) d.aoq))) true) (fq (eR (eE a1.ek) d.ek) true (fq (eR (eE a1.gh) d.gh) true (eR (eE a1.aoq) d.aoq))))) true then some (false,a0)else en (λ(y:ec)=>gq (e_ a1.ek)<|en (λ(H:Int) (A:Tm)=>(λ(a:ec)=>dR (kL A) λh i=>dR (hX a h i) λj d179=>if j then some (fp.next d179)else some (fp.ret (false,d179)))) λk=>dH (fa k a1.ek 0 y) (fQ (λ(a:ec)=>gq (e_ a1.gh)<|en (λ(D:Int) (l:Fm)=>(λ(b:ec)=>dR (jd l) λo q=>dR (hX b o q) λs d322=>if s then some (fp.next d322)else some (fp.ret (false,d322)))) λt=>dH (fa t a1.gh 0 a) (fQ (λ(b:ec)=>gq (e_ a1.aoq)<|en (λ(F:Int) (u:Pf)=>(λ(c:ec)=>dR (iS n c u) λv f=>if v then some (fp.next f)else some (fp.ret (false,f)))) λw=>dH (fa w a1.aoq 0 b) (fQ (λ(c:ec)=>some (true,c)) (λr=>some r))) (λr=>some r))) (λr=>some r))) λx=>if d.typed then dR (jl a1.dM) λI B=>if eR B 0 then some (false,(ec.mk (eH .i64 a0.aor 1) a0.jh))else x (ec.mk (eH .i64 a0.aor 1) a0.jh)else dH (oK a1.dM) λC=>if C then x (ec.mk (eH .i64 a0.aor 1) a0.jh)else some (false,(ec.mk (eH .i64 a0.aor 1) a0.jh))
def rM(a0:Pf):Option (Int×Int):=dR (iS FU (ec.mk 0 false) a0) λa d14=>if a then if fq d14.jh true (pw d14.aor 16384)then some (0,4)else some (d14.aor,0)else some (0,2)
def sl(a0:Pf):Option Int:=dR (rM a0) λb a=>some a
def jO(a0:Fm)(a1:Pf):Option (Fm×Pf×Int):=dH (kF a0) λc=>en (λ(v10:Int)=>if eR v10 0 then some ((Fm.mk 0 (Ty.mk 0 []) [] []),(Pf.mk 0 0 (Ty.mk 0 []) [] [] []),4)else some (a0,a1,0)) λa=>if eo c 0 then dH (sl a1) λb=>a b else a c
def k7(a0:Tm):Option (Fm×Pf×Int):=dH (qv) λr=>dH (iW a0 r) λb=>if eR b 0 then fm (iR b) λs t u=>some (s,t,u)else dH (fB 0) λv=>dH (hY a0 [v]) λa=>dH (gz) λc=>dH (fY a) λd=>dH (qq 4 c d) λf=>dH (gz) λh=>dH (fY a) λi=>dH (k8 a) λj=>dH (j0 i a j) λk=>dH (p6 h k) λl=>fm (jO f l) λn o q=>some (n,o,q)
def jB(a0:List dN)(a1:List Ty):Option (List dN):=dH (nj a1) λa=>gq (fM a0 a)<|some (fW a0 a)
def mJ(a0:List dN)(a1:Tm)(a2:Int):Option Int:=dR (eU FU a0 a1) λd c=>en (λ(v21:Bool)=>if v21 then some 7 else some c) λa=>if eo c 0 then dH (jr d a2) λb=>a (lF b)else a false
def ja(a0:List dN)(a1:Tm):Option Int:=dH (mJ a0 a1 1) λa=>some a
def fK:Nat->(List dN)->Fm->Option Int
 |0,_,_=>none|n+1,a0,a1=>en (λ(f:List dN)=>gq (e_ a1.aoq)<|en (λ(o:Int) (h:Fm)=>(λ(_:Unit)=>dH (fK n f h) λa=>if eR a 0 then some (fp.ret a)else some (fp.next ()))) λi=>dH (fa i a1.aoq 0 ()) (fQ (λ(_:Unit)=>some 0) (λr=>some r))) λb=>en (dH (jB a0 [a1.dM]) λj=>b j) λc=>if fq (eo a1.aop 4) true (eo a1.aop 5)then c else if fq (eo a1.aop 6) true (eo a1.aop 7)then c else if fq (eo a1.aop 2) true (eo a1.aop 3)then b a0 else gq (e_ a1.ek)<|en (λ(q:Int) (k:Tm)=>(λ(_:Unit)=>dH (ja a0 k) λd=>if eR d 0 then some (fp.ret d)else some (fp.next ()))) λl=>dH (fa l a1.ek 0 ()) (fQ (λ(_:Unit)=>some 0) (λr=>some r))
def ua(a0:List Ty)(a1:Fm):Option Int:=dH (nR a0) λd=>if eR d 0 then some d else dH (kF a1) λa=>if eR a 0 then some a else dH (nj a0) λb=>dH (fK FU b a1) λc=>some c
def ta(a0:List Fm)(a1:Sq):Option Int:=if pw (eE a0) 32 then some 3 else gq (e_ a0)<|en (λ(j:Int) (d:Fm)=>(λ(_:Unit)=>dH (ua [] d) λa=>if eR a 0 then some (fp.ret a)else some (fp.next ()))) λf=>dH (fa f a0 0 ()) (fQ (λ(_:Unit)=>dH (nR a1.aot) λb=>if eR b 0 then some b else if pw (eE a1.aow) 16 then some 3 else gq (e_ a1.aow)<|en (λ(k:Int) (h:Fm)=>(λ(_:Unit)=>dH (ua a1.aot h) λc=>if eR c 0 then some (fp.ret c)else some (fp.next ()))) λi=>dH (fa i a1.aow 0 ()) (fQ (λ(_:Unit)=>some 0) (λr=>some r))) (λr=>some r))
def zp:Option Unit:=some ()
def lR(a0:dZ)(a1:Fm):Option dZ:=gq (fM a0.known [(et.mk a1 a0.iA.vars)])<|some (dZ.mk (eX.mk a0.iA.vars (eH .i64 a0.iA.aow 1)) a0.aot (fW a0.known [(et.mk a1 a0.iA.vars)]))
def u9(a0:Sq):Option dZ:=dH (nj a0.aot) λi=>gq (e_ a0.aow)<|en (λ(j:Int) (f:Fm)=>(un4 λ(b:Int) (v46:Int) (c:List dN) (d:List et)=>dH (lR (dZ.mk (eX.mk b v46) c d) f) λa=>some (fp.next (a.iA.vars,a.iA.aow,a.aot,a.known)))) λh=>dH (fa h a0.aow 0 ((eE a0.aot),0,i,[])) (fQ (un4 λ(b:Int) (v46:Int) (c:List dN) (d:List et)=>some (dZ.mk (eX.mk b v46) c d)) (λr=>some r))
def l_(a0:Int):Option Tm:=some (Tm.mk 1 a0 (Ty.mk 0 []) [])
def uG(a0 a1 a b:Int):Option Tm:=dH (l_ (fq (qz (fD .i64 a0 a1) a) (eH .i64 a0 b) a0)) λc=>some c
def hD{S:Type}:Nat->Tm->Int->(S->Int->Int->Option (Tm×S))->S->Option (Tm×S)
 |0,_,_,_,_=>none|n+1,a0,a1,c,vh=>if eo a0.aop 1 then dR (c vh a0.aos a1) λh i=>some (h,i)else dH (jY FU a0.dM) λj=>gq (e_ a0.aoq)<|en (λ(l:Int) (k:Tm)=>(re λ(a:List Tm) (v107:S)=>dR (hD n k (fq (eo a0.aop 2) (eH .i64 a1 1) a1) c v107) λb d=>gq (fM a [b])<|some (fp.next ((fW a [b]),d)))) λf=>dH (fa f a0.aoq 0 ([],vh)) (fQ (re λ(a:List Tm) (v107:S)=>some ((Tm.mk a0.aop a0.aos j a),v107)) (λr=>some r))
def oZ{S:Type}(a0:Tm)(a1:(S->Int->Int->Option (Tm×S)))(vh:S):Option (Tm×S):=dR (hD FU a0 0 a1 vh) λa b=>some (a,b)
def r8(a0:Tm)(a1 a2:Int):Option Tm:=dR (oZ a0 (λ(s:Unit) (a:Int) (b:Int)=>rh (uG a b a1 a2) s) ()) λc d=>some c
def mH(a0:Tm)(a1 a b:Int):Option Tm:=dH (r8 a0 (eH .i64 a a1) b) λc=>some c
def m7(a0:Int):Option Bool:=some (fq (qz a0 4) (Tq a0 7) false)
def fH{S:Type}:Nat->Fm->Int->(S->Tm->Int->Option (Tm×S))->S->Option (Fm×S)
 |0,_,_,_,_=>none|n+1,a0,a1,a2,vh=>dH (jY FU a0.dM) λu=>gq (e_ a0.ek)<|en (λ(v:Int) (q:Tm)=>(re λ(v91:List Tm) (f:S)=>dR (a2 f q a1) λb h=>gq (fM v91 [b])<|some (fp.next ((fW v91 [b]),h)))) λs=>dH (fa s a0.ek 0 ([],vh)) (fQ (re λ(v91:List Tm) (f:S)=>en (λ(i:Int)=>gq (e_ a0.aoq)<|en (λ(t:Int) (j:Fm)=>(re λ(a:List Fm) (v212:S)=>dR (fH n j i a2 v212) λc k=>gq (fM a [c])<|some (fp.next ((fW a [c]),k)))) λl=>dH (fa l a0.aoq 0 ([],f)) (fQ (re λ(a:List Fm) (v212:S)=>some ((Fm.mk a0.aop u v91 a),v212)) (λr=>some r))) λd=>dH (m7 a0.aop) λo=>if o then d (eH .i64 a1 1)else d a1) (λr=>some r))
def lk(a0:Fm)(a1 a2:Int):Option Fm:=dR (fH FU a0 0 (λ(s:Unit) (a:Tm) (b:Int)=>rh (mH a b a1 a2) s) ()) λc d=>some c
def ow(a0:dZ)(a1:Int):Option (Fm×Bool):=if qz a1 (eE a0.known)then some ((Fm.mk 0 (Ty.mk 0 []) [] []),false)else dH (dW a0.known (fD .i64 (fD .i64 (eE a0.known) 1) a1)) λa=>dH (lk a.eh 0 (fD .i64 a0.iA.vars a.vars)) λb=>some (b,true)
def jn(a0:List Fm)(a1:Pf)(a2:dZ):Option (dQ×Int):=dR (ow a2 a1.aos) λa b=>if b then some ((dQ.mk a 0),0)else some ((dQ.mk (Fm.mk 0 (Ty.mk 0 []) [] []) 0),8)
def kg(a0:eX)(a1 a2:Int):Option Int:=if fq (pw (eH .i64 a0.vars a1) 16) true (pw (eH .i64 a0.aow a2) 16)then some 3 else some 0
def ke(a0:dZ)(a1:List Ty):Option dZ:=dH (jB a0.aot a1) λa=>some (dZ.mk (eX.mk (eH .i64 a0.iA.vars (eE a1)) a0.iA.aow) a a0.known)
def pF(a0:Int)(a1:Ty)(a2:Fm):Option Fm:=some (Fm.mk a0 a1 [] [a2])
def iC(a0 a1:Int):Option Int:=gq (Ox a1)<|some (aah .u32 a0 a1)
def n5(a0 a1 a:Int):Option Int:=if qz a0 a1 then gq (Ox (fD .i64 a0 a1))<|some (F8 .u32 a (Z1 .u32 1 (fD .i64 a0 a1)))else some a
def jN{S:Type}:Nat->Tm->Int->(S->Int->Int->Option S)->S->Option S
 |0,_,_,_,_=>none|n+1,a0,a1,a,vh=>en (λ(v6:S)=>gq (e_ a0.aoq)<|en (λ(h:Int) (b:Tm)=>(λ(v28:S)=>dH (jN n b (fq (eo a0.aop 2) (eH .i64 a1 1) a1) a v28) λc=>some (fp.next c))) λd=>dH (fa d a0.aoq 0 v6) (fQ (λ(v28:S)=>some v28) (λr=>some r))) λf=>if eo a0.aop 1 then dH (a vh a0.aos a1) λi=>f i else f vh
def sq{S:Type}(a0:Tm)(a1:(S->Int->Int->Option S))(vh:S):Option S:=dH (jN FU a0 0 a1 vh) λs1=>some s1
def oF(a0:Tm):Option Int:=dH (sq a0 (λ(s:Int) (a:Int) (b:Int)=>n5 a b s) 0) λc=>some c
def jF(a0:dN)(a1:Ty):Option Bool:=dH (m0 a1) λa=>dH (kP a0 a) λb=>some b
def oQ(a0 a1 b a:Int):Option Int:=if eo (fD .i64 a0 a1) b then some (eH .i64 a 1)else some a
def tT(a0:Tm)(a1:Int):Option Int:=dH (sq a0 (λ(s:Int) (a:Int) (b:Int)=>oQ a b a1 s) 0) λc=>some c
def jC(a0:Tm)(a1 a b:Int):Option Int:=dH (tT a0 (eH .i64 b a1)) λc=>some (eH .i64 a c)
def mw{S:Type}:Nat->Fm->Int->(S->Tm->Int->Option S)->S->Option S
 |0,_,_,_,_=>none|n+1,a0,a1,a2,vh=>gq (e_ a0.ek)<|en (λ(l:Int) (c:Tm)=>(λ(a:S)=>dH (a2 a c a1) λd=>some (fp.next d))) λf=>dH (fa f a0.ek 0 vh) (fQ (λ(a:S)=>en (λ(v51:Int)=>gq (e_ a0.aoq)<|en (λ(o:Int) (h:Fm)=>(λ(v72:S)=>dH (mw n h v51 a2 v72) λi=>some (fp.next i))) λj=>dH (fa j a0.aoq 0 a) (fQ (λ(v72:S)=>some v72) (λr=>some r))) λb=>dH (m7 a0.aop) λk=>if k then b (eH .i64 a1 1)else b a1) (λr=>some r))
def kR(a0:Fm)(a1:Int):Option Int:=dH (mw FU a0 0 (λ(s:Int) (a:Tm) (b:Int)=>jC a b s a1) 0) λc=>some c
def o7(a0 a1 a:Int)(b:Tm):Option Tm:=if eo (fD .i64 a0 a1) a then dH (r8 b 0 (eH .i64 a a1)) λc=>some c else if pw (fD .i64 a0 a1) a then dH (l_ (fD .i64 a0 1)) λd=>some d else dH (l_ a0) λf=>some f
def Ap(a0:Tm)(a1:Int)(a2:Tm):Option Tm:=dR (oZ a0 (λ(s:Unit) (a:Int) (b:Int)=>rh (o7 a b a1 a2) s) ()) λc d=>some c
def jg(a0:Tm)(a1 a:Int)(b:Tm):Option Tm:=dH (Ap a0 (eH .i64 a a1) b) λc=>some c
def k0(a0:Fm)(a1:Int)(a2:Tm):Option Fm:=dR (fH FU a0 0 (λ(s:Unit) (a:Tm) (b:Int)=>rh (jg a b a1 a2) s) ()) λc d=>some c
def rT(a0:Fm)(a1:Tm):Option (Fm×Int):=dR (jd a0) λd h=>dR (kL a1) λa f=>dH (kR a0 0) λb=>if pw (eH .i64 d (O5 .i64 b (fD .i64 a 1))) 4096 then some ((Fm.mk 0 (Ty.mk 0 []) [] []),4)else dH (k0 a0 0 a1) λc=>some (c,0)
def qo(a0:Tm):Option Int:=some 0
def jq:Nat->Tm->Tm->Option Bool
 |0,_,_=>none|n+1,a0,a1=>en (λ(d:Bool)=>if d then some false else gq (e_ a0.aoq)<|en (λ(f:Int) (h:Tm)=>(λ(_:Unit)=>dH (dW a1.aoq f) λb=>dH (jq n h b) λc=>if c then some (fp.next ())else some (fp.ret false))) λi=>dH (fa i a0.aoq 0 ()) (fQ (λ(_:Unit)=>some true) (λr=>some r))) λa=>if eR a0.aop a1.aop then a true else if eR a0.aos a1.aos then a true else dH (gR FU a0.dM a1.dM) λj=>if j then a (eR (eE a0.aoq) (eE a1.aoq))else a true
def rW(a0 a1:Tm):Option Bool:=dH (jq FU a0 a1) λa=>some a
def rZ(a0 a1:Int)(a:Bool):Option Bool:=if a then some (Tq a0 536870912)else some false
def yH(a0:Tm):Option Bool:=dH (sq a0 (λ(s:Bool) (a:Int) (b:Int)=>rZ a b s) true) λc=>some c
def ku(a0 a1:Int)(a2:Ty)(a3:(List (Option Nat)))(nh:List HC):Option ((Option Nat)×List HC):=gq (e_ a3)<|en (λ(o:Int) (j:Option Nat)=>(λ(b:List HC)=>dH (HC.dX b (List.length nh)) λa=>dH (j) λi=>dH (HC.dX b i) λf=>dH (HC.dX (kB b (List.length nh) (HC.eJ (eI.mk a.aop a.aos a.p0 a.aoq (eH .i64 a.size f.size) a.free a.normal))) i) λk=>some (fp.next (kB (kB b (List.length nh) (HC.eJ (eI.mk a.aop a.aos a.p0 a.aoq (eH .i64 a.size f.size) a.free a.normal))) (List.length nh) (HC.eJ (eI.mk a.aop a.aos a.p0 a.aoq (eH .i64 a.size f.size) (imax a.free k.free) a.normal)))))) λl=>dH (fa l a3 0 (nh++[HC.eJ (eI.mk a0 a1 a2 a3 1 0 false)])) (fQ (λ(b:List HC)=>en (λ(n:List HC)=>some ((some (List.length nh)),n)) λh=>if eo a0 1 then dH (HC.dX b (List.length nh)) λd=>h (kB b (List.length nh) (HC.eJ (eI.mk d.aop d.aos d.p0 d.aoq d.size (eH .i64 a1 1) d.normal)))else if eo a0 2 then dH (HC.dX b (List.length nh)) λc=>h (kB b (List.length nh) (HC.eJ (eI.mk c.aop c.aos c.p0 c.aoq c.size (imax 0 (fD .i64 c.free 1)) c.normal)))else h b) (λr=>some r))
def qw:Nat->Tm->List HC->Option ((Option Nat)×List HC)
 |0,_,_=>none|n+1,a0,nh=>gq (e_ a0.aoq)<|en (λ(j:Int) (f:Tm)=>(re λ(v51:(List (Option Nat))) (a:List HC)=>dR (qw n f a) λb c=>gq (fM v51 [b])<|some (fp.next ((fW v51 [b]),c)))) λh=>dH (fa h a0.aoq 0 ([],nh)) (fQ (re λ(v51:(List (Option Nat))) (a:List HC)=>dR (ku a0.aop a0.aos a0.dM v51 a) λi d=>some (i,d)) (λr=>some r))
def rJ(a0:Option Nat)(nh:List HC):Option Int:=dH (a0) λa=>dH (HC.dX nh a) λb=>some b.size
def mD(a0:Option Nat)(nh:List HC):Option Bool:=dH (a0) λr=>dH (HC.dX nh r) λa=>if eo a.aop 3 then dH (dW a.aoq 0) λs=>dH (s) λt=>dH (HC.dX nh t) λu=>some (eo u.aop 2)else if eo a.aop 6 then en (λ(v:Bool)=>some v) λb=>dH (dW a.aoq 2) λh=>dH (h) λi=>dH (HC.dX nh i) λc=>if eo c.aop 4 then b true else b (eo c.aop 5)else if eo a.aop 9 then en (λ(j:Bool)=>some j) λd=>dH (dW a.aoq 2) λk=>dH (k) λl=>dH (HC.dX nh l) λf=>if eo f.aop 7 then d true else d (eo f.aop 8)else if fq (eo a.aop 11) true (eo a.aop 12)then dH (dW a.aoq 0) λn=>dH (n) λo=>dH (HC.dX nh o) λq=>some (eo q.aop 10)else some false
def iT(a0:Option Nat)(nh:List HC):Option Int:=dH (a0) λa=>dH (HC.dX nh a) λb=>if eo b.aop 2 then some 1 else some 0
def kv:Nat->(Option Nat)->Int->List HC->Option Int
 |0,_,_,_=>none|n+1,a0,a1,nh=>dH (a0) λc=>dH (HC.dX nh c) λa=>if Tq a.free a1 then some 0 else if eo a.aop 1 then if eo a.aos a1 then some 1 else some 0 else gq (e_ a.aoq)<|en (λ(j:Int) (d:Option Nat)=>(λ(b:Int)=>dH (iT (some c) nh) λf=>dH (kv n d (eH .i64 a1 f) nh) λh=>some (fp.next (eH .i64 b h)))) λi=>dH (fa i a.aoq 0 0) (fQ (λ(b:Int)=>some b) (λr=>some r))
def gE(a0:Option Nat)(a1:(List (Option Nat)))(nh:List HC):Option ((Option Nat)×List HC):=dH (a0) λc=>dH (HC.dX nh c) λa=>dR (ku a.aop a.aos a.p0 a1 nh) λd b=>some (d,b)
def js:Nat->(Option Nat)->Int->Int->List HC->Option ((Option Nat)×List HC)
 |0,_,_,_,_=>none|n+1,a0,a1,a2,nh=>en (λ(v21:Bool)=>if v21 then some (a0,nh)else dH (a0) λf=>dH (HC.dX nh f) λc=>if eo c.aop 1 then dR (ku c.aop (eH .i64 c.aos a2) c.p0 [] nh) λt j=>some (t,j)else gq (e_ c.aoq)<|en (λ(w:Int) (k:Option Nat)=>(re λ(a:(List (Option Nat))) (b:List HC)=>dH (iT (some f) b) λl=>dR (js n k (eH .i64 a1 l) a2 b) λd h=>gq (fM a [d])<|some (fp.next ((fW a [d]),h)))) λo=>dH (fa o c.aoq 0 ([],nh)) (fQ (re λ(a:(List (Option Nat))) (b:List HC)=>dR (gE (some f) a b) λq i=>some (q,i)) (λr=>some r))) λs=>dH (a0) λu=>dH (HC.dX nh u) λv=>if Tq v.free a1 then s true else s (eo a2 0)
def jT:Nat->(Option Nat)->Int->(Option Nat)->List HC->Option ((Option Nat)×List HC)
 |0,_,_,_,_=>none|n+1,a0,a1,a2,nh=>dH (a0) λd=>dH (HC.dX nh d) λa=>if Tq a.free a1 then some (a0,nh)else if eo a.aop 1 then if eo a.aos a1 then dR (js FU a2 0 a1 nh) λs i=>some (s,i)else dR (ku a.aop (fD .i64 a.aos 1) a.p0 [] nh) λt j=>some (t,j)else gq (e_ a.aoq)<|en (λ(u:Int) (k:Option Nat)=>(re λ(v131:(List (Option Nat))) (b:List HC)=>dH (iT (some d) b) λl=>dR (jT n k (eH .i64 a1 l) a2 b) λc f=>gq (fM v131 [c])<|some (fp.next ((fW v131 [c]),f)))) λo=>dH (fa o a.aoq 0 ([],nh)) (fQ (re λ(v131:(List (Option Nat))) (b:List HC)=>dR (gE (some d) v131 b) λq h=>some (q,h)) (λr=>some r))
def sn(a0:Option Nat)(a1:(List (Option Nat)))(nh:List HC):Option ((Option Nat)×List HC):=gq (e_ a1)<|en (λ(i:Int) (d:Option Nat)=>(re λ(a:Option Nat) (b:List HC)=>dR (ku 3 0 (Ty.mk 0 []) [a,d] b) λf c=>some (fp.next (f,c)))) λh=>dH (fa h a1 0 (a0,nh)) (fQ (re λ(a:Option Nat) (b:List HC)=>some (a,b)) (λr=>some r))
def iX(a0:Option Nat)(nh:List HC):Option ((Option Nat)×List HC):=dH (a0) λl=>dH (HC.dX nh l) λa=>if eo a.aop 3 then dH (dW a.aoq 0) λn=>dH (n) λo=>dH (HC.dX nh o) λq=>dH (dW q.aoq 0) λr=>dH (dW a.aoq 1) λs=>dR (jT FU r 0 s nh) λt i=>some (t,i)else if eo a.aop 11 then dH (dW a.aoq 0) λu=>dH (u) λv=>dH (HC.dX nh v) λw=>dH (dW w.aoq 0) λx=>some (x,nh)else if eo a.aop 12 then dH (dW a.aoq 0) λy=>dH (y) λA=>dH (HC.dX nh A) λB=>dH (dW B.aoq 1) λC=>some (C,nh)else dH (dW a.aoq 0) λd=>dH (dW a.aoq 1) λf=>dH (dW a.aoq 2) λD=>dH (D) λh=>dH (HC.dX nh h) λb=>if eo (eE b.aoq) 0 then some (d,nh)else dH (dW b.aoq (fD .i64 (eE b.aoq) 1)) λF=>dR (gE (some l) [d,f,F] nh) λG c=>dH (HC.dX c h) λH=>dR (sn f H.aoq c) λI j=>dR (sn I [G] j) λJ k=>some (J,k)
def mE(a0:Option Nat)(nh:List HC):Option (Int×List HC):=dH (a0) λd=>dH (HC.dX nh d) λa=>if eo a.aop 3 then dH (dW a.aoq 0) λk=>dH (k) λl=>dH (HC.dX nh l) λn=>dH (dW n.aoq 0) λo=>dH (o) λf=>dH (HC.dX nh f) λq=>dH (kv FU (some f) 0 nh) λr=>dH (dW a.aoq 1) λs=>dH (s) λt=>dH (HC.dX nh t) λu=>some ((eH .i64 q.size (O5 .i64 r (fD .i64 u.size 1))),nh)else if eo a.aop 6 then dH (dW a.aoq 2) λv=>dH (v) λw=>dH (HC.dX nh w) λh=>if eo h.aop 5 then dH (dW a.aoq 1) λx=>dH (x) λy=>dH (HC.dX nh y) λi=>dH (dW h.aoq 0) λA=>dH (A) λB=>dH (HC.dX nh B) λC=>dH (dW a.aoq 0) λD=>dH (D) λF=>dH (HC.dX nh F) λG=>some ((eH .i64 (eH .i64 (eH .i64 (eH .i64 (eH .i64 2 i.size) (O5 .i64 2 C.size)) 1) G.size) i.size),nh)else dH (dW a.aoq 0) λH=>dH (H) λI=>dH (HC.dX nh I) λJ=>some (J.size,nh)else if eo a.aop 9 then dH (dW a.aoq 2) λK=>dH (K) λL=>dH (HC.dX nh L) λb=>if eo b.aop 8 then dH (dW a.aoq 1) λM=>dH (M) λN=>dH (HC.dX nh N) λj=>dH (dW b.aoq 0) λO=>dH (O) λP=>dH (HC.dX nh P) λQ=>dH (dW b.aoq 1) λR=>dH (R) λS=>dH (HC.dX nh S) λT=>dH (dW a.aoq 0) λU=>dH (U) λV=>dH (HC.dX nh V) λW=>some ((eH .i64 (eH .i64 (eH .i64 (eH .i64 (eH .i64 (eH .i64 3 j.size) Q.size) (O5 .i64 2 T.size)) 1) W.size) j.size),nh)else dH (dW a.aoq 0) λX=>dH (X) λY=>dH (HC.dX nh Y) λZ=>some (Z.size,nh)else dR (iX (some d) nh) λad c=>dH (ad) λae=>dH (HC.dX c ae) λaf=>some (af.size,c)
def pR(a0:Option Nat)(nh:List HC):Option Int:=dR (mE a0 nh) λr _=>some r
def jo:Nat->(Option Nat)->Int->List HC->Option ((Option Nat)×Int×List HC)
 |0,_,_,_=>none|n+1,a0,a1,nh=>dH (a0) λd=>dH (HC.dX nh d) λj=>if j.normal then some (none,0,nh)else dH (mD (some d) nh) λt=>if t then dH (pR (some d) nh) λu=>if pw (fD .i64 u j.size) a1 then some (none,4,nh)else dR (iX (some d) nh) λv o=>some (v,0,o)else gq (e_ j.aoq)<|en (λ(l:Int) (w:Option Nat)=>(λ(c:List HC)=>fm (jo n w a1 c) λh i b=>if eR i 0 then some (fp.ret (none,i,b))else if Option.isSome h then dH (HC.dX b d) λf=>gq (zP f.aoq)<|dH (dW f.aoq l) λx=>dR (gE (some d) (yb f.aoq l h) b) λq k=>some (fp.ret (q,0,k))else some (fp.next b))) λs=>dH (fa s j.aoq 0 nh) (fQ (λ(c:List HC)=>dH (HC.dX c d) λa=>some (none,0,(kB c d (HC.eJ (eI.mk a.aop a.aos a.p0 a.aoq a.size a.free true))))) (λr=>some r))
def jE(a0:Option Nat)(nh:List HC):Option (Bool×Int×List HC):=dH (a0) λb=>dH (HC.fj nh b) λd=>dH (rJ d.term nh) λi=>fm (jo FU d.term (fD .i64 4096 i) nh) λc f a=>if fq (eR f 0) true (Option.isNone c)then some (false,f,a)else dH (HC.fj a b) λh=>some (true,0,(kB (kB a b (HC.fZ (fT.mk c h.steps))) b (HC.fZ (fT.mk c (eH .i64 h.steps 1)))))
def iN:Nat->(Option Nat)->List HC->Option Tm
 |0,_,_=>none|n+1,a0,nh=>dH (a0) λd=>dH (HC.dX nh d) λa=>dH (jY FU a.p0) λf=>gq (e_ a.aoq)<|en (λ(j:Int) (h:Option Nat)=>(λ(b:List Tm)=>dH (iN n h nh) λc=>gq (fM b [c])<|some (fp.next (fW b [c])))) λi=>dH (fa i a.aoq 0 []) (fQ (λ(b:List Tm)=>some (Tm.mk a.aop a.aos f b)) (λr=>some r))
def jc:Nat->(Option Nat)->List HC->Option (Bool×List HC)
 |0,_,_=>none|n+1,a0,nh=>dH (a0) λc=>dH (HC.dX nh c) λf=>if f.normal then some (true,nh)else dH (mD (some c) nh) λi=>if i then some (false,nh)else gq (e_ f.aoq)<|en (λ(l:Int) (j:Option Nat)=>(λ(d:List HC)=>dR (jc n j d) λh b=>if h then some (fp.next b)else some (fp.ret (false,b)))) λk=>dH (fa k f.aoq 0 nh) (fQ (λ(d:List HC)=>dH (HC.dX d c) λa=>some (true,(kB d c (HC.eJ (eI.mk a.aop a.aos a.p0 a.aoq a.size a.free true))))) (λr=>some r))
def mv(a0:Tm)(a1:Int):Option (Tm×Int×Int):=dH (oG a0) λx=>if eR x 0 then some ((Tm.mk 0 0 (Ty.mk 0 []) []),0,x)else en (λ(u:Bool)=>if u then some ((Tm.mk 0 0 (Ty.mk 0 []) []),0,1)else dR (qw FU a0 ([]:List HC)) λv a=>en ((λ(b:List HC)=>dH (HC.fj b (List.length a)) λk=>if pH k.steps a1 then fm (jE (some (List.length a)) b) λl f c=>if eR f 0 then some (fp.ret ((Tm.mk 0 0 (Ty.mk 0 []) []),0,f))else if l then some (fp.next c)else dH (HC.fj c (List.length a)) λh=>dH (iN FU h.term c) λn=>some (fp.ret (n,h.steps,0))else some (fp.xA b))) λo=>dH (jL o FU (a++[HC.fZ (fT.mk v 0)])) (fQ (λ(b:List HC)=>dH (HC.fj b (List.length a)) λq=>dR (jc FU q.term b) λs d=>if s then dH (HC.fj d (List.length a)) λi=>dH (iN FU i.term d) λt=>some (t,i.steps,0)else some ((Tm.mk 0 0 (Ty.mk 0 []) []),0,5)) (λr=>some r))) λj=>if pH a1 0 then j true else if pw a1 65536 then j true else dH (yH a0) λw=>j (lF w)
def qP(a0 a1:Tm)(a2:Int):Option Int:=dH (oG a0) λj=>if eR j 0 then some j else dH (oG a1) λa=>if eR a 0 then some a else dH (rW a0 a1) λd=>if d then some 0 else fm (mv a0 a2) λf k b=>if eR b 0 then some b else fm (mv a1 a2) λh l c=>if eR c 0 then some c else dH (rW f h) λi=>if i then some 0 else some 11
def mm:Nat->Fm->Fm->Option Int
 |0,_,_=>none|n+1,a0,a1=>en (λ(k:Bool)=>if k then some 11 else gq (e_ a0.ek)<|en (λ(l:Int) (o:Tm)=>(λ(_:Unit)=>dH (dW a1.ek l) λc=>dH (qP o c 1000) λa=>if eR a 0 then some (fp.ret a)else some (fp.next ()))) λq=>dH (fa q a0.ek 0 ()) (fQ (λ(_:Unit)=>gq (e_ a0.aoq)<|en (λ(d:Int) (f:Fm)=>(λ(_:Unit)=>dH (dW a1.aoq d) λh=>dH (mm n f h) λb=>if eR b 0 then some (fp.ret b)else some (fp.next ()))) λi=>dH (fa i a0.aoq 0 ()) (fQ (λ(_:Unit)=>some 0) (λr=>some r))) (λr=>some r))) λj=>if eR a0.aop a1.aop then j true else dH (gR FU a0.dM a1.dM) λs=>j (lF s)
def lB(a0 a1:Fm):Option Int:=dH (kF a0) λc=>if eR c 0 then some c else dH (kF a1) λa=>if eR a 0 then some a else dH (mm FU a0 a1) λb=>some b
def tO(a0:Tm)(a1 a:Int):Option (Tm×Int):=if eR a 0 then some (a0,a)else fm (mv a0 1000) λb d c=>some (b,c)
def oy(a0:Fm):Option (Fm×Int):=dH (kR a0 0) λc=>if eo c 0 then dH (k0 a0 0 (Tm.mk 0 0 (Ty.mk 0 []) [])) λd=>some (d,0)else dR (fH FU a0 0 (λ(s:Int) (i:Tm) (j:Int)=>tO i j s) 0) λa b=>if eR b 0 then some ((Fm.mk 0 (Ty.mk 0 []) [] []),b)else dH (kR a 0) λf=>if pw f 0 then some ((Fm.mk 0 (Ty.mk 0 []) [] []),6)else dH (k0 a 0 (Tm.mk 0 0 (Ty.mk 0 []) [])) λh=>some (h,0)
def ri(a0 a1:Tm):Option Fm:=some (Fm.mk 1 (Ty.mk 0 []) [a0,a1] [])
def kU(a0:List Fm)(a1:Pf)(a2:dZ):Option (dQ×Int):=dH (dW a1.ek 0) λb=>dH (ja a2.aot b) λa=>if eR a 0 then some ((dQ.mk (Fm.mk 0 (Ty.mk 0 []) [] []) 0),a)else dH (ri b b) λc=>some ((dQ.mk c 0),0)
def uw(a0:Bool):Option (Int×Int):=if a0 then some (4,3)else some (5,2)
def xC(a0:Int)(a1:List Tm):Option Tm:=some (Tm.mk a0 0 (Ty.mk 0 []) a1)
def wy(a0:Tm)(a1:List Ty):Option Tm:=en ((XP λ(a:Int) (b:Int) (v59:Int) (c:Int) (d:List Ty) (f:List Tm)=>if qz a 0 then dH (dW a1 a) λh=>some (fp.next ((fD .i64 a 1),2,0,h.aop,h.aoq,[(Tm.mk b v59 (Ty.mk c d) f)]))else some (fp.xA (a,b,v59,c,d,f)))) λi=>dH (jL i FU ((fD .i64 (eE a1) 1),a0.aop,a0.aos,a0.dM.aop,a0.dM.aoq,a0.aoq)) (fQ (XP λ(a:Int) (b:Int) (v59:Int) (c:Int) (d:List Ty) (f:List Tm)=>some (Tm.mk b v59 (Ty.mk c d) f)) (λr=>some r))
def Ba(a0:Int)(a1:Ty)(a2 a3 a4:Tm):Option Tm:=some (Tm.mk a0 0 a1 [a2,a3,a4])
def m9(a0 a1 a2:Tm):Option Tm:=dH (ot) λa=>dH (ot) λb=>dH (ot) λc=>dH (wy a1 [b,c]) λd=>dH (Ba 6 a a0 d a2) λf=>some f
def wx:Option Tm:=dH (xC 4 []) λa=>dH (l_ 1) λb=>dH (l_ 0) λc=>dH (m9 a b c) λd=>dH (ot) λf=>dH (wy d [f]) λh=>some h
def yu(a0:Tm)(a1:List Tm):Option Tm:=gq (e_ a1)<|en (λ(j:Int) (h:Tm)=>(un5 λ(b:Int) (c:Int) (v46:Int) (d:List Ty) (f:List Tm)=>dH (xC 3 [(Tm.mk b c (Ty.mk v46 d) f),h]) λa=>some (fp.next (a.aop,a.aos,a.dM.aop,a.dM.aoq,a.aoq)))) λi=>dH (fa i a1 0 (a0.aop,a0.aos,a0.dM.aop,a0.dM.aoq,a0.aoq)) (fQ (un5 λ(b:Int) (c:Int) (v46:Int) (d:List Ty) (f:List Tm)=>some (Tm.mk b c (Ty.mk v46 d) f)) (λr=>some r))
def Bt(a0:Tm):Option Tm:=dH (ot) λa=>dH (ot) λb=>dH (wy a0 [a,b]) λc=>some c
def yr:Option Tm:=dH (l_ 1) λa=>dH (wx) λb=>dH (l_ 0) λc=>dH (yu b [c]) λd=>dH (l_ 0) λf=>dH (m9 a d f) λh=>dH (Bt h) λi=>some i
def wO(a0 a1:Tm):Option Fm:=dH (yr) λa=>dH (xC 5 [a0]) λb=>dH (yu a [b,a1]) λc=>dH (xC 4 []) λd=>dH (ri c d) λf=>some f
def lp:Nat->Fm->Fm->Option Bool
 |0,_,_=>none|n+1,a0,a1=>en (λ(k:Bool)=>if k then some false else gq (e_ a0.ek)<|en (λ(l:Int) (o:Tm)=>(λ(_:Unit)=>dH (dW a1.ek l) λb=>dH (jq FU o b) λc=>if c then some (fp.next ())else some (fp.ret false))) λq=>dH (fa q a0.ek 0 ()) (fQ (λ(_:Unit)=>gq (e_ a0.aoq)<|en (λ(d:Int) (f:Fm)=>(λ(_:Unit)=>dH (dW a1.aoq d) λh=>dH (lp n f h) λi=>if i then some (fp.next ())else some (fp.ret false))) λj=>dH (fa j a0.aoq 0 ()) (fQ (λ(_:Unit)=>some true) (λr=>some r))) (λr=>some r))) λa=>if eR a0.aop a1.aop then a true else dH (gR FU a0.dM a1.dM) λs=>if s then if eR (eE a0.ek) (eE a1.ek)then a true else a (eR (eE a0.aoq) (eE a1.aoq))else a true
def uq(a0:Fm):Option (Bool×Tm×Fm×Bool):=dR (uw (eo a0.aop 4)) λu v=>en (λ(s:Bool)=>if s then some (false,(Tm.mk 0 0 (Ty.mk 0 []) []),(Fm.mk 0 (Ty.mk 0 []) [] []),false)else dH (dW a0.aoq 0) λf=>dH (dW f.aoq 0) λh=>dH (dW h.ek 0) λd=>en (λ(i:Bool)=>if i then some (false,(Tm.mk 0 0 (Ty.mk 0 []) []),(Fm.mk 0 (Ty.mk 0 []) [] []),false)else dH (dW d.aoq 1) λj=>dH (dW f.aoq 1) λk=>some ((eo a0.aop 4),j,k,true)) λa=>if eR d.aop 3 then a true else dH (dW d.aoq 1) λc=>dH (tT c 0) λl=>if pw l 0 then a true else dH (l_ 0) λn=>dH (wO n c) λo=>dH (lp FU h o) λq=>a (lF q)) λb=>if eR a0.aop u then b true else if eR a0.dM.aop 1 then b true else dH (dW a0.aoq 0) λr=>if eR r.aop v then b true else dH (dW r.aoq 0) λt=>b (eR t.aop 1)
def nd:Nat->Fm->Option Int
 |0,_=>none|n+1,a0=>if eo a0.aop 1 then some 6 else dH (dW a0.aoq (fD .i64 (eE a0.aoq) 1)) λo=>dH (nd n o) λa=>en (λ(b:Int)=>en (λ(h:Int)=>some h) λc=>VQ (uq a0) λq r i j=>if j then dH (nd n i) λk=>c (F8 .u8 (um .u8 b 1) (um .u8 k 4))else c (um .u8 b 1)) λd=>if fq (eo a0.aop 2) true (eo a0.aop 3)then dH (dW a0.aoq 0) λl=>dH (nd n l) λf=>some (F8 .u8 (um .u8 (um .u8 f a) 6) (um .u8 (fq (eo a0.aop 2) (F8 .u8 a f) a) 1))else if eo a0.aop 5 then d (F8 .u8 a 1)else d a
def Bp(a0:Fm)(a1:Int):Option (Bool×Int):=dH (kF a0) λb=>if eR b 0 then some (false,b)else dH (nd FU a0) λa=>some ((eR (um .u8 a a1) 0),0)
def rF(a0:Fm):Option (Bool×Int):=dR (Bp a0 1) λa b=>some (a,b)
mutual
def eC:Nat->(List Fm)->Pf->dZ->Option (dQ×Int)
 |0,_,_,_=>none|n+1,a0,a1,a2=>dR (if eo a1.aop 1 then jn a0 a1 a2 else if eo a1.aop 8 then kS n a0 a1 a2 else if eo a1.aop 9 then kW n a0 a1 a2 else if eo a1.aop 10 then lr n a0 a1 a2 else if eo a1.aop 11 then lu n a0 a1 a2 else if eo a1.aop 18 then kU a0 a1 a2 else if eo a1.aop 19 then kn n a0 a1 a2 else none) λa b=>if eR b 0 then some ((dQ.mk (Fm.mk 0 (Ty.mk 0 []) [] []) 0),b)else dH (kF a.eh) λd=>if eR d 0 then some ((dQ.mk (Fm.mk 0 (Ty.mk 0 []) [] []) 0),4)else en (λ(v30:Int)=>some ((dQ.mk a.eh v30),0)) λc=>dR (rF a.eh) λf h=>if f then c a.lx else c 0
def kS:Nat->(List Fm)->Pf->dZ->Option (dQ×Int)
 |0,_,_,_=>none|n+1,a0,a1,a2=>dH (kg a2.iA 1 0) λj=>if eR j 0 then some ((dQ.mk (Fm.mk 0 (Ty.mk 0 []) [] []) 0),j)else dH (dW a1.aoq 0) λd=>dH (ke a2 [a1.dM]) λf=>dR (eC n a0 d f) λa b=>if eR b 0 then some ((dQ.mk (Fm.mk 0 (Ty.mk 0 []) [] []) 0),b)else en (λ(v40:Int)=>dH (pF v40 a1.dM a.eh) λh=>dH (iC a.lx 1) λi=>some ((dQ.mk h i),0)) λc=>if eo a1.aop 12 then if eR (um .u32 a.lx 1) 0 then some ((dQ.mk (Fm.mk 0 (Ty.mk 0 []) [] []) 0),12)else c 6 else c 4
def kW:Nat->(List Fm)->Pf->dZ->Option (dQ×Int)
 |0,_,_,_=>none|n+1,a0,a1,a2=>dH (dW a1.ek 0) λc=>dR (eU FU a2.aot c) λo l=>if eR l 0 then some ((dQ.mk (Fm.mk 0 (Ty.mk 0 []) [] []) 0),l)else dH (oF c) λd=>dH (dW a1.aoq 0) λf=>dR (gD n a0 f a2 (fq (eo a1.aop 13) 6 4)) λa b=>if eR b 0 then some ((dQ.mk (Fm.mk 0 (Ty.mk 0 []) [] []) 0),b)else dH (jF o a.eh.dM) λh=>if h then dH (dW a.eh.aoq 0) λi=>dR (rT i c) λj k=>some ((dQ.mk j (F8 .u32 a.lx (fq (eo a1.aop 13) 0 d))),k)else some ((dQ.mk (Fm.mk 0 (Ty.mk 0 []) [] []) 0),7)
def lr:Nat->(List Fm)->Pf->dZ->Option (dQ×Int)
 |0,_,_,_=>none|n+1,a0,a1,a2=>dH (dW a1.gh 0) λa=>dH (dW a1.ek 0) λb=>if eo a1.aop 14 then dH (fK FU a2.aot a) λd=>if eR d 0 then some ((dQ.mk (Fm.mk 0 (Ty.mk 0 []) [] []) 0),d)else if eR a.aop 7 then some ((dQ.mk (Fm.mk 0 (Ty.mk 0 []) [] []) 0),10)else dR (eU FU a2.aot b) λr f=>if eR f 0 then some ((dQ.mk (Fm.mk 0 (Ty.mk 0 []) [] []) 0),f)else dH (jF r a.dM) λs=>if s then dH (dW a1.aoq 0) λt=>dH (dW a.aoq 0) λu=>dR (iG n a0 t a2 u b) λv h=>if eR h 0 then some ((dQ.mk (Fm.mk 0 (Ty.mk 0 []) [] []) 0),h)else dH (qo b) λw=>some ((dQ.mk a (F8 .u32 v.lx w)),0)else some ((dQ.mk (Fm.mk 0 (Ty.mk 0 []) [] []) 0),7)else dH (fK FU a2.aot a) λi=>if eR i 0 then some ((dQ.mk (Fm.mk 0 (Ty.mk 0 []) [] []) 0),i)else if eR a.aop 5 then some ((dQ.mk (Fm.mk 0 (Ty.mk 0 []) [] []) 0),10)else dR (eU FU a2.aot b) λx j=>if eR j 0 then some ((dQ.mk (Fm.mk 0 (Ty.mk 0 []) [] []) 0),j)else dH (jF x a.dM) λy=>if y then dH (dW a1.aoq 0) λk=>dH (dW a.aoq 0) λl=>dR (iG n a0 k a2 l b) λo c=>if eR c 0 then some ((dQ.mk (Fm.mk 0 (Ty.mk 0 []) [] []) 0),c)else dH (oF b) λq=>some ((dQ.mk a (F8 .u32 o.lx q)),0)else some ((dQ.mk (Fm.mk 0 (Ty.mk 0 []) [] []) 0),7)
def lu:Nat->(List Fm)->Pf->dZ->Option (dQ×Int)
 |0,_,_,_=>none|n+1,a0,a1,a2=>dH (dW a1.aoq 0) λi=>dR (gD n a0 i a2 (fq (eo a1.aop 15) 7 5)) λa c=>if eR c 0 then some ((dQ.mk (Fm.mk 0 (Ty.mk 0 []) [] []) 0),c)else dH (kg a2.iA 1 1) λd=>if eR d 0 then some ((dQ.mk (Fm.mk 0 (Ty.mk 0 []) [] []) 0),d)else dH (dW a1.aoq 1) λj=>dH (ke a2 [a.eh.dM]) λk=>dH (dW a.eh.aoq 0) λl=>dH (lR k l) λo=>dR (eC n a0 j o) λb f=>if eR f 0 then some ((dQ.mk (Fm.mk 0 (Ty.mk 0 []) [] []) 0),f)else dR (oy b.eh) λq h=>if eR h 0 then some ((dQ.mk (Fm.mk 0 (Ty.mk 0 []) [] []) 0),h)else if fq (eo a1.aop 15) (eR (um .u32 b.lx 1) 0) false then some ((dQ.mk (Fm.mk 0 (Ty.mk 0 []) [] []) 0),12)else dH (iC b.lx 1) λr=>some ((dQ.mk q (F8 .u32 a.lx r)),0)
def kn:Nat->(List Fm)->Pf->dZ->Option (dQ×Int)
 |0,_,_,_=>none|n+1,a0,a1,a2=>dH (dW a1.gh 0) λj=>dH (ot) λk=>dH (jB a2.aot [k]) λl=>dH (fK FU l j) λa=>if eR a 0 then some ((dQ.mk (Fm.mk 0 (Ty.mk 0 []) [] []) 0),a)else dH (dW a1.aoq 0) λo=>dR (gD n a0 o a2 1) λb c=>if eR c 0 then some ((dQ.mk (Fm.mk 0 (Ty.mk 0 []) [] []) 0),c)else dH (dW a1.aoq 1) λq=>dH (dW b.eh.ek 0) λr=>dR (iG n a0 q a2 j r) λs d=>if eR d 0 then some ((dQ.mk (Fm.mk 0 (Ty.mk 0 []) [] []) 0),d)else dH (dW b.eh.ek 1) λf=>dR (rT j f) λh i=>some ((dQ.mk h s.lx),i)
def gD:Nat->(List Fm)->Pf->dZ->Int->Option (dQ×Int)
 |0,_,_,_,_=>none|n+1,a0,a1,a2,a3=>dR (eC n a0 a1 a2) λa b=>if fq (eo b 0) (eR a.eh.aop a3) false then some ((dQ.mk (Fm.mk 0 (Ty.mk 0 []) [] []) 0),10)else some (a,b)
def iG:Nat->(List Fm)->Pf->dZ->Fm->Tm->Option (dQ×Int)
 |0,_,_,_,_,_=>none|n+1,a0,a1,a2,a3,a4=>dR (eC n a0 a1 a2) λd f=>if eR f 0 then some ((dQ.mk (Fm.mk 0 (Ty.mk 0 []) [] []) 0),f)else dR (rT a3 a4) λb a=>if eR a 0 then some ((dQ.mk (Fm.mk 0 (Ty.mk 0 []) [] []) 0),a)else dH (lB b d.eh) λc=>some (d,c)
end
def yn:Nat->Tm->Option Tm
 |0,_=>none|n+1,a0=>dH (jY FU a0.dM) λd=>gq (e_ a0.aoq)<|en (λ(f:Int) (b:Tm)=>(λ(v72:List Tm)=>dH (yn n b) λa=>gq (fM v72 [a])<|some (fp.next (fW v72 [a])))) λc=>dH (fa c a0.aoq 0 []) (fQ (λ(v72:List Tm)=>some (Tm.mk a0.aop a0.aos d v72)) (λr=>some r))
def nM(a0:Tm)(a1:Int):Option Tm:=dH (yn FU a0) λa=>some a
def pz(a0:Fm):Option Fm:=dR (fH FU a0 0 (λ(s:Unit) (a:Tm) (b:Int)=>rh (nM a b) s) ()) λc d=>some c
def lU(a0:Int):Option (List Int):=en ((re λ(v37:Int) (a:List Int)=>if eR v37 0 then dH (mY v37) λb=>gq (fM a [b])<|some (fp.next ((um .u32 v37 (fD .u32 v37 1)),(fW a [b])))else some (fp.xA (v37,a)))) λc=>dH (jL c FU (a0,[])) (fQ (re λ(v37:Int) (a:List Int)=>some a) (λr=>some r))
def nG(a0:List Fm)(a1:Sq)(a2:Pf):Option (tk×Int):=dH (ta a0 a1) λi=>if eR i 0 then some ((tk.mk (Fm.mk 0 (Ty.mk 0 []) [] []) []),i)else dH (sl a2) λa=>if eR a 0 then some ((tk.mk (Fm.mk 0 (Ty.mk 0 []) [] []) []),a)else dH (zp) λj=>dH (u9 a1) λd=>dR (eC FU a0 a2 d) λb c=>if eR c 0 then some ((tk.mk (Fm.mk 0 (Ty.mk 0 []) [] []) []),c)else dH (pz b.eh) λf=>dH (lU b.lx) λh=>some ((tk.mk f h),0)
def kE(a0:Tm)(a1:Pf):Option Int:=dR (nG [] (Sq.mk [] []) a1) λj i=>if eR i 0 then some i else dH (gz) λa=>dH (fB 0) λb=>dH (hY a0 [b]) λc=>dH (fY c) λd=>dH (qq 4 a d) λf=>dH (lB j.eh f) λh=>some h
def kM(a0:Int):Option Pf:=some (Pf.mk 1 a0 (Ty.mk 0 []) [] [] [])
def jZ(a0:Fm)(a1 a2:Pf):Option Pf:=some (Pf.mk 19 0 (Ty.mk 0 []) [] [a0] [a1,a2])
def vT(a0:Tm)(a1:Pf):Option Pf:=some (Pf.mk 9 0 (Ty.mk 0 []) [a0] [] [a1])
def mL(a0:Int)(a1:List Pf):Option Pf:=some (Pf.mk a0 0 (Ty.mk 0 []) [] [] a1)
def mh(a0:Tm)(a1:Pf)(a2:Tm)(a3:Pf):Option (Fm×Pf×Int):=en ([a0,a2]:List Tm) λd=>gq (e_ d)<|en (λ(ae:Int) (ad:Tm)=>(λ(_:Unit)=>dH (qv) λf=>dH (iW ad f) λa=>if eR a 0 then fm (iR a) λh i j=>some (fp.ret (h,i,j))else some (fp.next ()))) λk=>dH (fa k d 0 ()) (fQ (λ(_:Unit)=>dH (kE a0 a1) λb=>if eR b 0 then fm (iR b) λl n o=>some (l,n,o)else dH (kE a2 a3) λc=>if eR c 0 then fm (iR c) λq s t=>some (q,s,t)else dH (fB 2) λu=>dH (hY a0 [u]) λv=>dH (hY a2 [v]) λw=>dH (fY w) λx=>dH (fB 0) λy=>dH (fB 1) λA=>dH (fB 0) λB=>dH (hY a2 [B]) λC=>dH (m6 A C) λD=>dH (kM 1) λF=>dH (kM 0) λG=>dH (jZ D F G) λH=>dH (j0 x y H) λI=>dH (fB 0) λJ=>dH (vT J a1) λK=>dH (fB 0) λL=>dH (vT L a3) λM=>dH (mL 11 [M,I]) λN=>dH (mL 11 [K,N]) λO=>dH (gz) λP=>dH (fB 0) λQ=>dH (hY a0 [Q]) λR=>dH (hY a2 [R]) λS=>dH (fY S) λT=>dH (qq 4 P T) λU=>dH (gz) λV=>dH (p6 V O) λW=>fm (jO U W) λX Y Z=>some (X,Y,Z)) (λr=>some r))
def jm:Nat->Ty->Option Ty
 |0,_=>none|n+1,a0=>gq (e_ a0.aoq)<|en (λ(d:Int) (b:Ty)=>(λ(v40:List Ty)=>dH (jm n b) λa=>gq (fM v40 [a])<|some (fp.next (fW v40 [a])))) λc=>dH (fa c a0.aoq 0 []) (fQ (λ(v40:List Ty)=>some (Ty.mk a0.aop v40)) (λr=>some r))
def l6:Nat->Tm->Option Tm
 |0,_=>none|n+1,a0=>gq (e_ a0.aoq)<|en (λ(f:Int) (b:Tm)=>(λ(v40:List Tm)=>dH (l6 n b) λa=>gq (fM v40 [a])<|some (fp.next (fW v40 [a])))) λc=>dH (fa c a0.aoq 0 []) (fQ (λ(v40:List Tm)=>dH (jm FU a0.dM) λd=>some (Tm.mk a0.aop a0.aos d v40)) (λr=>some r))
def gV(a0:Int)(a1:List Tm):Option Tm:=gq (e_ a1)<|en (λ(d:Int) (b:Tm)=>(λ(v40:List Tm)=>dH (l6 FU b) λa=>gq (fM v40 [a])<|some (fp.next (fW v40 [a])))) λc=>dH (fa c a1 0 []) (fQ (λ(v40:List Tm)=>some (Tm.mk a0 0 (Ty.mk 0 []) v40)) (λr=>some r))
def rv(a0:Int):Option Tm:=dH (gV 4 []) λf=>en ((XP λ(a:Int) (v30:Int) (v31:Int) (b:Int) (c:List Ty) (d:List Tm)=>if pw a 0 then some (fp.next ((fD .i64 a 1),5,0,0,[],[(Tm.mk v30 v31 (Ty.mk b c) d)]))else some (fp.xA (a,v30,v31,b,c,d)))) λh=>dH (jL h FU (a0,f.aop,f.aos,f.dM.aop,f.dM.aoq,f.aoq)) (fQ (XP λ(a:Int) (v30:Int) (v31:Int) (b:Int) (c:List Ty) (d:List Tm)=>some (Tm.mk v30 v31 (Ty.mk b c) d)) (λr=>some r))
def vw(a0:Int):Option (Tm×Int):=if pH a0 0 then some ((Tm.mk 0 0 (Ty.mk 0 []) []),1)else if qz a0 4096 then some ((Tm.mk 0 0 (Ty.mk 0 []) []),4)else dH (rv a0) λa=>some (a,0)
def xN(a0:Int):Option Tm:=dR (vw a0) λa b=>some a
def ou(a0 a b:Tm):Option Tm:=dH (gz) λc=>some (Tm.mk 6 0 c [a,b,a0])
def og(a0:Int)(a1:Fm)(a2:Tm)(a3 a4:Pf):Option Pf:=some (Pf.mk a0 0 (Ty.mk 0 []) [a2] [a1] [a3,a4])
def zu(a0 a1:Tm):Option (Fm×Pf×Int):=dH (gz) λae=>dH (iW a0 ae) λc=>if eR c 0 then fm (iR c) λaf ah ai=>some (af,ah,ai)else dH (gz) λd=>dH (gz) λf=>dH (gz) λh=>dH (tW d [f,h]) λi=>dH (iW a1 i) λb=>if eR b 0 then fm (iR b) λj k l=>some (j,k,l)else dH (fB 1) λn=>dH (fB 0) λo=>dH (hY a1 [n,o]) λa=>dH (fB 1) λq=>dH (nA 5 [q]) λr=>dH (ou r a0 a1) λs=>dH (fY s) λt=>dH (nX FU a 0 1) λu=>dH (fB 2) λv=>dH (fB 0) λw=>dH (hY a1 [v,w]) λx=>dH (m6 u x) λy=>dH (kM 0) λA=>dH (k8 a) λB=>dH (jZ y A B) λC=>dH (j0 t a C) λD=>dH (nA 4 []) λF=>dH (ou F a0 a1) λG=>dH (fY G) λH=>dH (k8 a0) λI=>dH (j0 H a0 I) λJ=>dH (fB 0) λK=>dH (ou K a0 a1) λL=>dH (fY L) λM=>dH (fB 0) λN=>dH (kM 0) λO=>dH (mL 11 [O,D]) λP=>dH (og 16 M N J P) λQ=>dH (gz) λR=>dH (fB 0) λS=>dH (ou S a0 a1) λT=>dH (fY T) λU=>dH (qq 4 R U) λV=>dH (gz) λW=>dH (p6 W Q) λX=>fm (jO V X) λY Z ad=>some (Y,Z,ad)
def wC:Option Ty:=some (Ty.mk 2 [])
def ll(a0 a b:Tm):Option Tm:=dH (gz) λc=>some (Tm.mk 9 0 c [a,b,a0])
def tV(a0 a1:Tm):Option (Fm×Pf×Int):=dH (gz) λak=>dH (iW a0 ak) λc=>if eR c 0 then fm (iR c) λan ao aq=>some (an,ao,aq)else dH (gz) λd=>dH (gz) λf=>dH (wC) λh=>dH (gz) λi=>dH (tW d [f,h,i]) λj=>dH (iW a1 j) λb=>if eR b 0 then fm (iR b) λk l n=>some (k,l,n)else dH (fB 2) λo=>dH (fB 1) λq=>dH (fB 0) λr=>dH (hY a1 [o,q,r]) λa=>dH (fB 2) λs=>dH (fB 1) λt=>dH (nA 8 [s,t]) λu=>dH (ll u a0 a1) λv=>dH (fY v) λw=>dH (nX FU a 0 1) λx=>dH (fB 3) λy=>dH (fB 2) λA=>dH (fB 0) λB=>dH (hY a1 [y,A,B]) λC=>dH (m6 x C) λD=>dH (kM 0) λF=>dH (k8 a) λG=>dH (jZ D F G) λH=>dH (j0 w a H) λI=>dH (nA 7 []) λJ=>dH (ll J a0 a1) λK=>dH (fY K) λL=>dH (k8 a0) λM=>dH (j0 L a0 M) λN=>dH (fB 0) λO=>dH (ll O a0 a1) λP=>dH (fY P) λQ=>dH (fB 0) λR=>dH (kM 0) λS=>dH (mL 11 [S,I]) λT=>dH (og 17 Q R N T) λU=>dH (wC) λV=>dH (fB 0) λW=>dH (ll W a0 a1) λX=>dH (fY X) λY=>dH (qq 4 V Y) λZ=>dH (wC) λad=>dH (p6 ad U) λae=>fm (jO Z ae) λaf ah ai=>some (af,ah,ai)
def gZ(a0:Int):Option Tm:=some (Tm.mk 1 a0 (Ty.mk 0 []) [])
def jP:Option Ty:=some (Ty.mk 1 [])
def lS(a0:Int)(a1:Ty)(a2:List Tm):Option Tm:=dH (gV a0 a2) λa=>dH (jm FU a1) λb=>some (Tm.mk a.aop a.aos b a.aoq)
def lv(a0:Tm):Option Tm:=dH (jP) λa=>dH (lS 2 a [a0]) λb=>some b
def tH(a0 a1 a2:Tm):Option Tm:=dH (jP) λa=>dH (lS 6 a [a0,a1,a2]) λb=>some b
def tK:Option Tm:=dH (gZ 1) λa=>dH (gZ 0) λb=>dH (gV 5 [b]) λc=>dH (lv c) λd=>dH (lv d) λf=>dH (gZ 0) λh=>dH (tH a f h) λi=>dH (lv i) λj=>dH (lv j) λk=>some k
def rK(a0:Ty)(a1:Tm):Option Tm:=some (Tm.mk 2 0 a0 [a1])
def k_(a0:Tm)(a:Ty)(b c d:Tm):Option Tm:=dH (nA 10 [b,c]) λf=>dH (gz) λh=>dH (rK a d) λi=>dH (rK h i) λj=>some (Tm.mk 6 0 a [f,j,a0])
def iM(a0:Tm):Option Tm:=dH (nA 11 [a0]) λa=>some a
def iL(a0:Tm):Option Tm:=dH (nA 12 [a0]) λa=>some a
def px(a0:Tm)(a:Ty):Option Fm:=dH (nX FU a0 0 1) λn=>dH (fB 0) λb=>dH (iM b) λc=>dH (iM n) λd=>dH (m6 c d) λf=>dH (fB 0) λh=>dH (iL h) λi=>dH (iL n) λj=>dH (m6 i j) λk=>dH (qq 5 a (Fm.mk 2 (Ty.mk 0 []) [] [f,k])) λl=>some l
def xT(a0 a1 a2:Tm):Option (Fm×Pf×Int):=en ([a0,a1]:List Tm) λi=>gq (e_ i)<|en (λ(bs:Int) (br:Tm)=>(λ(_:Unit)=>dH (gz) λj=>dH (iW br j) λd=>if eR d 0 then fm (iR d) λk l n=>some (fp.ret (k,l,n))else some (fp.next ()))) λo=>dH (fa o i 0 ()) (fQ (λ(_:Unit)=>dH (gz) λq=>dH (gz) λs=>dH (gz) λt=>dH (tW q [s,t]) λu=>dH (iW a2 u) λf=>if eR f 0 then fm (iR f) λv w x=>some (v,w,x)else dH (gz) λa=>dH (gz) λb=>dH (fB 0) λy=>dH (iL y) λA=>dH (fB 0) λB=>dH (iM B) λC=>dH (fB 0) λD=>dH (iL D) λF=>dH (hY a2 [C,F]) λG=>dH (nA 10 [A,G]) λc=>dH (nA 4 []) λH=>dH (k_ H (Ty.mk 3 [a,b]) a0 a1 c) λI=>dH (px I (Ty.mk 3 [a,b])) λJ=>dH (nA 10 [a0,a1]) λK=>dH (k8 a0) λL=>dH (k8 a1) λM=>dH (mL 3 [L,M]) λN=>dH (j0 J K N) λO=>dH (fB 1) λP=>dH (iL P) λQ=>dH (fB 0) λR=>dH (m6 Q R) λS=>dH (kM 0) λT=>dH (mL 5 [T]) λU=>dH (fB 0) λV=>dH (iL V) λW=>dH (k8 W) λX=>dH (jZ S U X) λY=>dH (fB 1) λZ=>dH (iM Z) λad=>dH (fB 1) λae=>dH (iL ae) λaf=>dH (hY a2 [ad,af]) λh=>dH (fB 0) λah=>dH (fB 1) λai=>dH (iL ai) λak=>dH (hY a2 [ah,ak]) λan=>dH (m6 h an) λao=>dH (kM 0) λaq=>dH (mL 4 [aq]) λar=>dH (fB 0) λaw=>dH (iM aw) λax=>dH (fB 0) λay=>dH (iL ay) λaz=>dH (hY a2 [ax,az]) λaA=>dH (k8 aA) λaB=>dH (jZ ao ar aB) λaC=>dH (fB 2) λaD=>dH (k_ aD (Ty.mk 3 [a,b]) a0 a1 c) λaE=>dH (iM aE) λaF=>dH (fB 0) λaG=>dH (hY a2 [aF,aG]) λaH=>dH (m6 h aH) λaI=>dH (kM 0) λaJ=>dH (mL 5 [aJ]) λaK=>dH (jZ aI aK aC) λaL=>dH (kM 0) λaM=>dH (fB 1) λaN=>dH (nA 5 [aN]) λaO=>dH (k_ aO (Ty.mk 3 [a,b]) a0 a1 c) λaP=>dH (px aP (Ty.mk 3 [a,b])) λaQ=>dH (mL 3 [Y,aL]) λaR=>dH (j0 aQ c aR) λaS=>dH (mL 11 [aM,aS]) λaT=>dH (fB 1) λaU=>dH (k_ aU (Ty.mk 3 [a,b]) a0 a1 c) λaV=>dH (iM aV) λaW=>dH (fY aW) λaX=>dH (fB 0) λaY=>dH (iM aY) λaZ=>dH (kM 0) λa6=>dH (mL 4 [a6]) λa7=>dH (j0 aX aZ a7) λa8=>dH (gz) λa_=>dH (fB 0) λa'=>dH (k_ a' (Ty.mk 3 [a,b]) a0 a1 c) λba=>dH (px ba (Ty.mk 3 [a,b])) λbb=>dH (fB 0) λbc=>dH (og 16 bb bc O aT) λbd=>dH (mL 11 [bd,a8]) λbf=>dH (p6 a_ bf) λbg=>dH (gz) λbh=>dH (fB 0) λbj=>dH (k_ bj (Ty.mk 3 [a,b]) a0 a1 c) λbk=>dH (iM bk) λbl=>dH (fY bl) λbm=>dH (qq 4 bh bm) λbn=>fm (jO bn bg) λbo bp bq=>some (bo,bp,bq)) (λr=>some r))
def qj:Nat->Ty->Option Bool
 |0,_=>none|n+1,a0=>en (λ(v10:Int)=>if eR (eE a0.aoq) v10 then some false else gq (e_ a0.aoq)<|en (λ(f:Int) (b:Ty)=>(λ(_:Unit)=>dH (qj n b) λc=>if c then some (fp.next ())else some (fp.ret false))) λd=>dH (fa d a0.aoq 0 ()) (fQ (λ(_:Unit)=>some true) (λr=>some r))) λa=>if fq (eo a0.aop 1) true (fq (eo a0.aop 2) true (eo a0.aop 5))then a 0 else if fq (eo a0.aop 3) true (eo a0.aop 4)then a 2 else some false
def qp:Nat->Ty->Option Int
 |0,_=>none|n+1,a0=>gq (e_ a0.aoq)<|en (λ(f:Int) (b:Ty)=>(λ(a:Int)=>dH (qp n b) λc=>some (fp.next (eH .i64 a c)))) λd=>dH (fa d a0.aoq 0 1) (fQ (λ(a:Int)=>some a) (λr=>some r))
def jj(a0:Ty):Option Int:=dH (qj FU a0) λb=>if b then dH (qp FU a0) λa=>if pw a 64 then some 4 else some 0 else some 2
def mq(a0:List Ty):Option Int:=if pw (eE a0) 16 then some 3 else gq (e_ a0)<|en (λ(d:Int) (b:Ty)=>(λ(_:Unit)=>dH (jj b) λa=>if eR a 0 then some (fp.ret a)else some (fp.next ()))) λc=>dH (fa c a0 0 ()) (fQ (λ(_:Unit)=>some 0) (λr=>some r))
def qa(a0:Ty):Option Bool:=some (fq (eo a0.aop 0) (eo (eE a0.aoq) 0) false)
def vZ(a0:Int):Option Int:=if fq (eo a0 1) true (fq (eo a0 4) true (fq (eo a0 7) true (eo a0 13)))then some 0 else if fq (eo a0 2) true (fq (eo a0 5) true (fq (eo a0 11) true (eo a0 12)))then some 1 else if fq (eo a0 3) true (fq (eo a0 8) true (eo a0 10))then some 2 else if fq (eo a0 6) true (eo a0 9)then some 3 else some (-1)
def k9:Nat->Tm->Option Bool
 |0,_=>none|n+1,a0=>en (λ(v21:Bool)=>if v21 then some false else en (gq (e_ a0.aoq)<|en (λ(k:Int) (c:Tm)=>(λ(_:Unit)=>dH (k9 n c) λd=>if d then some (fp.next ())else some (fp.ret false))) λf=>dH (fa f a0.aoq 0 ()) (fQ (λ(_:Unit)=>some true) (λr=>some r))) λb=>if fq (eo a0.aop 2) true (fq (eo a0.aop 6) true (eo a0.aop 9))then dH (jj a0.dM) λh=>if eR h 0 then some false else b else dH (qa a0.dM) λi=>if i then b else some false) λa=>dH (vZ a0.aop) λj=>if eR (eE a0.aoq) j then a true else if pH a0.aos 0 then a true else if eR a0.aop 1 then a (eR a0.aos 0)else a false
def lA(a0:Int):Option Bool:=some (fq (eo a0 4) true (fq (eo a0 5) true (fq (eo a0 6) true (eo a0 7))))
def ml:Nat->Fm->Option Bool
 |0,_=>none|n+1,a0=>if eo a0.aop 1 then en (λ(s:Bool)=>some s) λc=>if eo (eE a0.aoq) 0 then dH (qa a0.dM) λt=>if t then if eo (eE a0.ek) 2 then dH (dW a0.ek 0) λu=>dH (k9 FU u) λv=>if v then dH (dW a0.ek 1) λw=>dH (k9 FU w) λx=>c x else c false else c false else c false else c false else if fq (eo a0.aop 2) true (eo a0.aop 3)then en (λ(d:Bool)=>some d) λa=>if eo (eE a0.ek) 0 then dH (qa a0.dM) λf=>if f then if eo (eE a0.aoq) 2 then dH (dW a0.aoq 0) λh=>dH (ml n h) λi=>if i then dH (dW a0.aoq 1) λj=>dH (ml n j) λk=>a k else a false else a false else a false else a false else dH (lA a0.aop) λl=>if l then en (λ(v141:Bool)=>some v141) λb=>if eo (eE a0.ek) 0 then dH (jj a0.dM) λo=>if eo o 0 then if eo (eE a0.aoq) 1 then dH (dW a0.aoq 0) λq=>dH (ml n q) λr=>b r else b false else b false else b false else some false
def gj:Nat->Tm->Option Int
 |0,_=>none|n+1,a0=>gq (e_ a0.aoq)<|en (λ(f:Int) (b:Tm)=>(λ(a:Int)=>dH (gj n b) λc=>some (fp.next (eH .i64 a c)))) λd=>dH (fa d a0.aoq 0 1) (fQ (λ(a:Int)=>some a) (λr=>some r))
def my:Nat->Fm->Option Int
 |0,_=>none|n+1,a0=>gq (e_ a0.ek)<|en (λ(j:Int) (b:Tm)=>(λ(a:Int)=>dH (gj FU b) λc=>some (fp.next (eH .i64 a c)))) λd=>dH (fa d a0.ek 0 1) (fQ (λ(a:Int)=>gq (e_ a0.aoq)<|en (λ(k:Int) (f:Fm)=>(λ(v75:Int)=>dH (my n f) λh=>some (fp.next (eH .i64 v75 h)))) λi=>dH (fa i a0.aoq 0 a) (fQ (λ(v75:Int)=>some v75) (λr=>some r))) (λr=>some r))
def km(a0:Fm):Option Int:=dH (ml FU a0) λb=>if b then dH (my FU a0) λa=>if pw a 4096 then some 4 else some 0 else some 2
def mr(a0:Tm):Option Int:=dH (k9 FU a0) λb=>if b then dH (gj FU a0) λa=>if pw a 4096 then some 4 else some 0 else some 2
def m5(a0 a1:Ty):Option Ty:=dH (jm FU a0) λa=>dH (jm FU a1) λb=>some (Ty.mk 4 [a,b])
def uE(a0:Ty):Option (Ty×Int):=dH (jj a0) λa=>if eR a 0 then some ((Ty.mk 0 []),4)else some (a0,0)
def mO:Option Ty:=some (Ty.mk 2 [])
def fO:Nat->Ty->Ty->Option Bool
 |0,_,_=>none|n+1,a0,a1=>if fq (eR a0.aop a1.aop) true (eR (eE a0.aoq) (eE a1.aoq))then some false else gq (e_ a0.aoq)<|en (λ(c:Int) (d:Ty)=>(λ(_:Unit)=>dH (dW a1.aoq c) λa=>dH (fO n d a) λb=>if b then some (fp.next ())else some (fp.ret false))) λf=>dH (fa f a0.aoq 0 ()) (fQ (λ(_:Unit)=>some true) (λr=>some r))
def tP(a0 a1:Ty):Option Ty:=dH (jm FU a0) λa=>dH (jm FU a1) λb=>some (Ty.mk 3 [a,b])
def tU:Option Ty:=some (Ty.mk 5 [])
def fU:Nat->(List Ty)->Tm->Option (Ty×Int)
 |0,_,_=>none|n+1,a0,a1=>if eo a1.aop 1 then if qz a1.aos (eE a0)then some ((Ty.mk 0 []),6)else dH (dW a0 (fD .i64 (fD .i64 (eE a0) 1) a1.aos)) λay=>dH (jm FU ay) λaz=>some (az,0)else if eo a1.aop 2 then gq (fM a0 [a1.dM])<|dH (dW a1.aoq 0) λaA=>dR (fU n (fW a0 [a1.dM]) aA) λaB R=>if eR R 0 then some ((Ty.mk 0 []),R)else dH (m5 a1.dM aB) λaC=>dR (uE aC) λaD aE=>some (aD,aE)else gq (e_ a1.aoq)<|en (λ(aF:Int) (S:Tm)=>(λ(a:List Ty)=>dR (fU n a0 S) λj k=>if eR k 0 then some (fp.ret ((Ty.mk 0 []),k))else gq (fM a [j])<|some (fp.next (fW a [j])))) λT=>dH (fa T a1.aoq 0 []) (fQ (λ(a:List Ty)=>dH (jP) λb=>dH (mO) λc=>if eo a1.aop 3 then en (λ(U:Bool)=>if U then some ((Ty.mk 0 []),7)else dH (dW a 0) λV=>dH (dW V.aoq 1) λW=>some (W,0)) λl=>dH (dW a 0) λo=>if eR o.aop 4 then l true else dH (dW o.aoq 0) λX=>dH (dW a 1) λY=>dH (fO FU X Y) λZ=>l (lF Z)else if eo a1.aop 4 then some (b,0)else if eo a1.aop 5 then dH (dW a 0) λad=>dH (fO FU ad b) λae=>if ae then some (b,0)else some ((Ty.mk 0 []),7)else if eo a1.aop 6 then en (λ(af:Bool)=>if af then some ((Ty.mk 0 []),7)else dH (jm FU a1.dM) λah=>some (ah,0)) λh=>dH (dW a 0) λai=>dH (fO FU ai a1.dM) λak=>if ak then dH (dW a 1) λan=>dH (m5 a1.dM a1.dM) λao=>dH (m5 b ao) λaq=>dH (fO FU an aq) λar=>if ar then dH (dW a 2) λaw=>dH (fO FU aw b) λax=>h (lF ax)else h true else h true else if eo a1.aop 7 then some (c,0)else if eo a1.aop 8 then en (λ(q:Bool)=>if q then some ((Ty.mk 0 []),7)else some (c,0)) λi=>dH (dW a 0) λs=>dH (fO FU s b) λt=>if t then dH (dW a 1) λu=>dH (fO FU u c) λv=>i (lF v)else i true else if eo a1.aop 9 then en (λ(w:Bool)=>if w then some ((Ty.mk 0 []),7)else dH (jm FU a1.dM) λx=>some (x,0)) λd=>dH (dW a 0) λy=>dH (fO FU y a1.dM) λA=>if A then dH (dW a 1) λB=>dH (m5 a1.dM a1.dM) λC=>dH (m5 c C) λD=>dH (m5 b D) λF=>dH (fO FU B F) λG=>if G then dH (dW a 2) λH=>dH (fO FU H c) λI=>d (lF I)else d true else d true else if eo a1.aop 10 then dH (dW a 0) λJ=>dH (dW a 1) λK=>dH (tP J K) λL=>dR (uE L) λM N=>some (M,N)else if fq (eo a1.aop 11) true (eo a1.aop 12)then dH (dW a 0) λf=>if eR f.aop 3 then some ((Ty.mk 0 []),7)else if eo a1.aop 11 then dH (dW f.aoq 0) λO=>some (O,0)else dH (dW f.aoq 1) λP=>some (P,0)else dH (tU) λQ=>some (Q,0)) (λr=>some r))
def qx(a0:List Ty)(a1:Tm):Option (Ty×Int):=dH (mr a1) λc=>if eR c 0 then some ((Ty.mk 0 []),c)else dR (fU FU a0 a1) λa b=>some (a,b)
def ns:Nat->(List Ty)->Fm->Option Int
 |0,_,_=>none|n+1,a0,a1=>gq (e_ a1.ek)<|en (λ(l:Int) (c:Tm)=>(λ(_:Unit)=>dR (qx a0 c) λd b=>if eR b 0 then some (fp.ret b)else if eR d.aop 1 then some (fp.ret 7)else some (fp.next ()))) λf=>dH (fa f a1.ek 0 ()) (fQ (λ(_:Unit)=>en (λ(h:List Ty)=>gq (e_ a1.aoq)<|en (λ(o:Int) (i:Fm)=>(λ(_:Unit)=>dH (ns n h i) λa=>if eR a 0 then some (fp.ret a)else some (fp.next ()))) λj=>dH (fa j a1.aoq 0 ()) (fQ (λ(_:Unit)=>some 0) (λr=>some r))) λj64=>dH (lA a1.aop) λk=>if k then gq (fM a0 [a1.dM])<|j64 (fW a0 [a1.dM])else j64 a0) (λr=>some r))
def mu(a0:List Ty)(a1:Fm):Option Int:=dH (km a1) λb=>if eR b 0 then some b else dH (ns FU a0 a1) λa=>some a
def lL(a0:List Ty)(a1:Fm):Option Int:=dH (mq a0) λb=>if eR b 0 then some b else dH (mu a0 a1) λa=>some a
def ue(a0:List Fm)(a1:Sq):Option Int:=if pw (eE a0) 32 then some 3 else gq (e_ a0)<|en (λ(j:Int) (d:Fm)=>(λ(_:Unit)=>dH (lL [] d) λa=>if eR a 0 then some (fp.ret a)else some (fp.next ()))) λf=>dH (fa f a0 0 ()) (fQ (λ(_:Unit)=>dH (mq a1.aot) λb=>if eR b 0 then some b else if pw (eE a1.aow) 16 then some 3 else gq (e_ a1.aow)<|en (λ(k:Int) (h:Fm)=>(λ(_:Unit)=>dH (lL a1.aot h) λc=>if eR c 0 then some (fp.ret c)else some (fp.next ()))) λi=>dH (fa i a1.aow 0 ()) (fQ (λ(_:Unit)=>some 0) (λr=>some r))) (λr=>some r))
def qf(a0:Int):Option (fw×Bool):=if fq (eo a0 1) true (eo a0 2)then some ((fw.mk 0 0 0 true false),true)else if fq (eo a0 3) true (eo a0 7)then some ((fw.mk 0 0 2 false false),true)else if fq (eo a0 4) true (fq (eo a0 5) true (eo a0 20))then some ((fw.mk 0 0 1 false false),true)else if eo a0 6 then some ((fw.mk 0 1 1 false false),true)else if fq (eo a0 8) true (eo a0 12)then some ((fw.mk 0 0 1 false true),true)else if fq (eo a0 9) true (eo a0 13)then some ((fw.mk 1 0 1 false false),true)else if fq (eo a0 10) true (eo a0 14)then some ((fw.mk 1 1 1 false false),true)else if fq (eo a0 11) true (eo a0 15)then some ((fw.mk 0 0 2 false false),true)else if fq (eo a0 16) true (eo a0 17)then some ((fw.mk 1 1 2 false false),true)else if eo a0 18 then some ((fw.mk 1 0 0 false false),true)else if eo a0 19 then some ((fw.mk 0 1 2 false false),true)else some ((fw.mk 0 0 0 false false),false)
def oH:Nat->Pf->Option Bool
 |0,_=>none|n+1,a0=>dR (qf a0.aop) λb v=>if fq v (fq (eR (eE a0.ek) b.ek) true (fq (eR (eE a0.gh) b.gh) true (fq (eR (eE a0.aoq) b.aoq) true (fq (pH a0.aos 0) true (fq b.aos false (eR a0.aos 0)))))) true then some false else en (λ(j:Bool)=>if j then some false else gq (e_ a0.ek)<|en (λ(w:Int) (k:Tm)=>(λ(_:Unit)=>dH (k9 FU k) λl=>if l then some (fp.next ())else some (fp.ret false))) λo=>dH (fa o a0.ek 0 ()) (fQ (λ(_:Unit)=>gq (e_ a0.gh)<|en (λ(x:Int) (q:Fm)=>(λ(_:Unit)=>dH (ml FU q) λc=>if c then some (fp.next ())else some (fp.ret false))) λd=>dH (fa d a0.gh 0 ()) (fQ (λ(_:Unit)=>gq (e_ a0.aoq)<|en (λ(u:Int) (f:Pf)=>(λ(_:Unit)=>dH (oH n f) λh=>if h then some (fp.next ())else some (fp.ret false))) λi=>dH (fa i a0.aoq 0 ()) (fQ (λ(_:Unit)=>some true) (λr=>some r))) (λr=>some r))) (λr=>some r))) λa=>if b.p0 then dH (jj a0.dM) λs=>if eR s 0 then a true else a false else dH (qa a0.dM) λt=>a (lF t)
def r_:Nat->Pf->Option Bool
 |0,_=>none|n+1,a0=>gq (e_ a0.ek)<|en (λ(l:Int) (c:Tm)=>(λ(_:Unit)=>dH (gj FU c) λd=>if pw d 4096 then some (fp.ret false)else some (fp.next ()))) λf=>dH (fa f a0.ek 0 ()) (fQ (λ(_:Unit)=>gq (e_ a0.gh)<|en (λ(o:Int) (h:Fm)=>(λ(_:Unit)=>dH (my FU h) λi=>if pw i 4096 then some (fp.ret false)else some (fp.next ()))) λj=>dH (fa j a0.gh 0 ()) (fQ (λ(_:Unit)=>gq (e_ a0.aoq)<|en (λ(q:Int) (k:Pf)=>(λ(_:Unit)=>dH (r_ n k) λa=>if a then some (fp.next ())else some (fp.ret false))) λb=>dH (fa b a0.aoq 0 ()) (fQ (λ(_:Unit)=>some true) (λr=>some r))) (λr=>some r))) (λr=>some r))
def sd:Nat->Pf->Option Int
 |0,_=>none|n+1,a0=>gq (e_ a0.ek)<|en (λ(s:Int) (h:Tm)=>(λ(b:Int)=>dH (gj FU h) λi=>some (fp.next (eH .i64 b i)))) λj=>dH (fa j a0.ek 0 1) (fQ (λ(b:Int)=>gq (e_ a0.gh)<|en (λ(t:Int) (k:Fm)=>(λ(v75:Int)=>dH (my FU k) λl=>some (fp.next (eH .i64 v75 l)))) λo=>dH (fa o a0.gh 0 b) (fQ (λ(v75:Int)=>gq (e_ a0.aoq)<|en (λ(q:Int) (c:Pf)=>(λ(a:Int)=>dH (sd n c) λd=>some (fp.next (eH .i64 a d)))) λf=>dH (fa f a0.aoq 0 v75) (fQ (λ(a:Int)=>some a) (λr=>some r))) (λr=>some r))) (λr=>some r))
def y5(a0:Pf):Option Bool:=en (λ(d:Bool)=>some d) λc=>dH (r_ FU a0) λa=>if a then dH (sd FU a0) λb=>c (Tq b 16384)else c false
def uN(a0:Pf):Option Int:=dH (oH FU a0) λb=>if b then dH (y5 a0) λa=>if a then some 0 else some 4 else some 2
def l0:Nat->Fm->Option Fm
 |0,_=>none|n+1,a0=>dH (jm FU a0.dM) λk=>gq (e_ a0.ek)<|en (λ(l:Int) (h:Tm)=>(λ(v72:List Tm)=>dH (l6 FU h) λc=>gq (fM v72 [c])<|some (fp.next (fW v72 [c])))) λi=>dH (fa i a0.ek 0 []) (fQ (λ(v72:List Tm)=>gq (e_ a0.aoq)<|en (λ(j:Int) (d:Fm)=>(λ(a:List Fm)=>dH (l0 n d) λb=>gq (fM a [b])<|some (fp.next (fW a [b])))) λf=>dH (fa f a0.aoq 0 []) (fQ (λ(a:List Fm)=>some (Fm.mk a0.aop k v72 a)) (λr=>some r))) (λr=>some r))
def BI(a0:Int)(a1 a2:Fm):Option Fm:=dH (l0 FU a1) λa=>dH (l0 FU a2) λb=>some (Fm.mk a0 (Ty.mk 0 []) [] [a,b])
def qG(a0:List (Int×Bool)):Option (List Int×List (Int×Bool)):=gq (e_ a0)<|gq (x_ (a0.map (·.1)))<|some (zN [] (a0.map (·.1)),a0)
def iD(a0 a1:List Int):Option (List Int):=gq (e_ a0)<|en (λ(k:Int) (c:Int)=>(λ(a:(List (Int×Bool)))=>some (fp.next (wE a c true)))) λd=>dH (fa d a0 0 []) (fQ (λ(a:(List (Int×Bool)))=>gq (e_ a1)<|en (λ(j:Int) (f:Int)=>(λ(b:(List (Int×Bool)))=>some (fp.next (wE b f true)))) λh=>dH (fa h a1 0 a) (fQ (λ(b:(List (Int×Bool)))=>dR (qG b) λi d51=>some i) (λr=>some r))) (λr=>some r))
def gb(a0:dT)(a1 a2:Int):Option Int:=if fq (pw (eH .i64 (eE a0.aot) a1) 16) true (pw (eH .i64 (eE a0.aow) a2) 16)then some 3 else some 0
def ia(a0:dT)(a1:Fm):Option dT:=gq (fM a0.aow [a1])<|some (dT.mk a0.lemmas a0.aot (fW a0.aow [a1]))
def lX:Nat->Tm->Tm->Option Bool
 |0,_,_=>none|n+1,a0,a1=>en (λ(d:Bool)=>if d then some false else gq (e_ a0.aoq)<|en (λ(f:Int) (h:Tm)=>(λ(_:Unit)=>dH (dW a1.aoq f) λb=>dH (lX n h b) λc=>if c then some (fp.next ())else some (fp.ret false))) λi=>dH (fa i a0.aoq 0 ()) (fQ (λ(_:Unit)=>some true) (λr=>some r))) λa=>if eR a0.aop a1.aop then a true else if eR a0.aos a1.aos then a true else dH (fO FU a0.dM a1.dM) λj=>if j then a (eR (eE a0.aoq) (eE a1.aoq))else a true
def lJ:Nat->Tm->Int->Option Bool
 |0,_,_=>none|n+1,a0,a1=>if pw a0.aos a1 then some false else gq (e_ a0.aoq)<|en (λ(d:Int) (a:Tm)=>(λ(_:Unit)=>dH (lJ n a a1) λb=>if b then some (fp.next ())else some (fp.ret false))) λc=>dH (fa c a0.aoq 0 ()) (fQ (λ(_:Unit)=>some true) (λr=>some r))
def wm(a0:Tm):Option Bool:=if eo a0.aop 3 then dH (dW a0.aoq 0) λf=>some (eo f.aop 2)else if eo a0.aop 6 then en (λ(h:Bool)=>some h) λa=>dH (dW a0.aoq 2) λb=>if eo b.aop 4 then a true else a (eo b.aop 5)else if eo a0.aop 9 then en (λ(i:Bool)=>some i) λc=>dH (dW a0.aoq 2) λd=>if eo d.aop 7 then c true else c (eo d.aop 8)else if fq (eo a0.aop 11) true (eo a0.aop 12)then dH (dW a0.aoq 0) λj=>some (eo j.aop 10)else some false
def lK(a0:Tm):Option Int:=if eo a0.aop 2 then some 1 else some 0
def nH:Nat->Tm->Int->Option Int
 |0,_,_=>none|n+1,a0,a1=>gq (e_ a0.aoq)<|en (λ(h:Int) (d:Tm)=>(λ(a:Int)=>dH (lK a0) λb=>dH (nH n d (eH .i64 a1 b)) λc=>some (fp.next (eH .i64 a c)))) λf=>dH (fa f a0.aoq 0 (fq (fq (eo a0.aop 1) (eo a0.aos a1) false) (eH .i64 0 1) 0)) (fQ (λ(a:Int)=>some a) (λr=>some r))
def sX(a0:Tm):Option Int:=dH (gj FU a0) λb=>if eo a0.aop 3 then dH (dW a0.aoq 0) λh=>dH (dW h.aoq 0) λc=>dH (dW a0.aoq 1) λi=>dH (gj FU c) λj=>dH (nH FU c 0) λk=>dH (gj FU i) λl=>some (fD .i64 (eH .i64 j (O5 .i64 k (fD .i64 l 1))) b)else if eo a0.aop 6 then dH (dW a0.aoq 2) λd=>if eo d.aop 4 then dH (dW a0.aoq 0) λn=>dH (gj FU n) λo=>some (fD .i64 o b)else dH (dW a0.aoq 1) λq=>dH (gj FU q) λr=>dH (dW d.aoq 0) λs=>dH (gj FU s) λt=>some (fD .i64 (fD .i64 (eH .i64 (eH .i64 (eH .i64 2 r) t) b) 1) b)else if eo a0.aop 9 then dH (dW a0.aoq 2) λa=>if eo a.aop 7 then dH (dW a0.aoq 0) λu=>dH (gj FU u) λv=>some (fD .i64 v b)else dH (dW a.aoq 0) λf=>dH (dW a.aoq 1) λw=>dH (dW a0.aoq 1) λx=>dH (gj FU x) λy=>dH (gj FU f) λA=>dH (gj FU w) λB=>dH (gj FU f) λC=>some (fD .i64 (fD .i64 (fD .i64 (eH .i64 (eH .i64 (eH .i64 (eH .i64 3 y) A) B) b) 1) C) b)else if eo a0.aop 11 then dH (dW a0.aoq 0) λD=>dH (dW D.aoq 0) λF=>dH (gj FU F) λG=>some (fD .i64 G b)else dH (dW a0.aoq 0) λH=>dH (dW H.aoq 1) λI=>dH (gj FU I) λJ=>some (fD .i64 J b)
def sK:Nat->Tm->Int->Int->Option Tm
 |0,_,_,_=>none|n+1,a0,a1,a2=>gq (e_ a0.aoq)<|en (λ(f:Int) (d:Tm)=>(λ(v105:List Tm)=>dH (lK a0) λb=>dH (sK n d (eH .i64 a1 b) a2) λa=>gq (fM v105 [a])<|some (fp.next (fW v105 [a])))) λc=>dH (fa c a0.aoq 0 []) (fQ (λ(v105:List Tm)=>some (Tm.mk a0.aop (fq (fq (eo a0.aop 1) (qz a0.aos a1) false) (eH .i64 a0.aos a2) a0.aos) a0.dM v105)) (λr=>some r))
def v7:Nat->Tm->Int->Int->Tm->Option Tm
 |0,_,_,_,_=>none|n+1,a0,a1,a2,a3=>if eo a0.aop 1 then if eo a0.aos (eH .i64 a1 a2)then dH (sK FU a3 0 (eH .i64 a1 a2)) λf=>some f else if pw a0.aos (eH .i64 a1 a2)then dH (gZ (fD .i64 a0.aos 1)) λh=>some h else some a0 else gq (e_ a0.aoq)<|en (λ(j:Int) (i:Tm)=>(λ(a:List Tm)=>dH (lK a0) λc=>dH (v7 n i a1 (eH .i64 a2 c) a3) λb=>gq (fM a [b])<|some (fp.next (fW a [b])))) λd=>dH (fa d a0.aoq 0 []) (fQ (λ(a:List Tm)=>some (Tm.mk a0.aop a0.aos a0.dM a)) (λr=>some r))
def rH(a0:Tm):Option Tm:=if eo a0.aop 3 then dH (dW a0.aoq 0) λi=>dH (dW i.aoq 0) λj=>dH (dW a0.aoq 1) λk=>dH (v7 FU j 0 0 k) λl=>some l else if eo a0.aop 6 then dH (dW a0.aoq 2) λb=>if eo b.aop 4 then dH (dW a0.aoq 0) λn=>some n else dH (dW b.aoq 0) λc=>dH (dW a0.aoq 1) λd=>dH (gV 3 [d,c]) λo=>dH (dW a0.aoq 0) λq=>dH (lS 6 a0.dM [q,d,c]) λr=>dH (gV 3 [o,r]) λs=>some s else if eo a0.aop 9 then dH (dW a0.aoq 2) λa=>if eo a.aop 7 then dH (dW a0.aoq 0) λt=>some t else dH (dW a.aoq 0) λu=>dH (dW a.aoq 1) λf=>dH (dW a0.aoq 1) λh=>dH (gV 3 [h,u]) λv=>dH (gV 3 [v,f]) λw=>dH (dW a0.aoq 0) λx=>dH (lS 9 a0.dM [x,h,f]) λy=>dH (gV 3 [w,y]) λA=>some A else if eo a0.aop 11 then dH (dW a0.aoq 0) λB=>dH (dW B.aoq 0) λC=>some C else dH (dW a0.aoq 0) λD=>dH (dW D.aoq 1) λF=>some F
def pt:Nat->Tm->Int->Option (Tm×Bool×Bool)
 |0,_,_=>none|n+1,a0,a1=>dH (wm a0) λk=>if k then dH (sX a0) λb=>if pw b a1 then some ((Tm.mk 0 0 (Ty.mk 0 []) []),true,false)else dH (rH a0) λc=>some (c,true,true)else gq (e_ a0.aoq)<|en (λ(a:Int) (d:Tm)=>(λ(_:Unit)=>fm (pt n d a1) λf h i=>if h then gq (zP a0.aoq)<|dH (dW a0.aoq a) λl=>some (fp.ret ((Tm.mk a0.aop a0.aos a0.dM (yb a0.aoq a f)),true,i))else some (fp.next ()))) λj=>dH (fa j a0.aoq 0 ()) (fQ (λ(_:Unit)=>some (a0,false,true)) (λr=>some r))
def kO(a0:Tm)(a1:Int):Option (Tm×Int×Int):=dH (mr a0) λq=>if eR q 0 then some ((Tm.mk 0 0 (Ty.mk 0 []) []),0,q)else en (λ(n:Bool)=>if n then some ((Tm.mk 0 0 (Ty.mk 0 []) []),0,1)else en ((XP λ(v164:Int) (b:Int) (c:Int) (v167:Int) (v168:List Ty) (d:List Tm)=>dH (gj FU (Tm.mk b c (Ty.mk v167 v168) d)) λh=>fm (pt FU (Tm.mk b c (Ty.mk v167 v168) d) (fD .i64 4096 h)) λa i j=>if i then if eo v164 a1 then some (fp.ret ((Tm.mk 0 0 (Ty.mk 0 []) []),0,5))else if j then some (fp.next ((eH .i64 v164 1),a.aop,a.aos,a.dM.aop,a.dM.aoq,a.aoq))else some (fp.ret ((Tm.mk 0 0 (Ty.mk 0 []) []),0,4))else dH (l6 FU (Tm.mk b c (Ty.mk v167 v168) d)) λk=>some (fp.ret (k,v164,0)))) λl=>dH (jL l FU (0,a0.aop,a0.aos,a0.dM.aop,a0.dM.aoq,a0.aoq)) (fQ (XP λ(v164:Int) (b:Int) (c:Int) (v167:Int) (v168:List Ty) (d:List Tm)=>none) (λr=>some r))) λf=>if pH a1 0 then f true else if pw a1 65536 then f true else dH (lJ FU a0 536870912) λo=>f (lF o)
def ki(a0 a1:Tm)(a2:Int):Option Int:=dH (mr a0) λj=>if eR j 0 then some j else dH (mr a1) λa=>if eR a 0 then some a else dH (lX FU a0 a1) λd=>if d then some 0 else fm (kO a0 a2) λf k b=>if eR b 0 then some b else fm (kO a1 a2) λh l c=>if eR c 0 then some c else dH (lX FU f h) λi=>if i then some 0 else some 11
def jK:Nat->Fm->Fm->Option Int
 |0,_,_=>none|n+1,a0,a1=>en (λ(k:Bool)=>if k then some 11 else gq (e_ a0.ek)<|en (λ(l:Int) (o:Tm)=>(λ(_:Unit)=>dH (dW a1.ek l) λc=>dH (ki o c 1000) λa=>if eR a 0 then some (fp.ret a)else some (fp.next ()))) λq=>dH (fa q a0.ek 0 ()) (fQ (λ(_:Unit)=>gq (e_ a0.aoq)<|en (λ(d:Int) (f:Fm)=>(λ(_:Unit)=>dH (dW a1.aoq d) λh=>dH (jK n f h) λb=>if eR b 0 then some (fp.ret b)else some (fp.next ()))) λi=>dH (fa i a0.aoq 0 ()) (fQ (λ(_:Unit)=>some 0) (λr=>some r))) (λr=>some r))) λj=>if eR a0.aop a1.aop then j true else dH (fO FU a0.dM a1.dM) λs=>j (lF s)
def k4(a0 a1:Fm):Option Int:=dH (km a0) λc=>if eR c 0 then some c else dH (km a1) λa=>if eR a 0 then some a else dH (jK FU a0 a1) λb=>some b
def nk(a0:Fm):Option Int:=dH (lA a0.aop) λa=>if a then some 1 else some 0
def mK:Nat->Fm->Int->Int->Option Fm
 |0,_,_,_=>none|n+1,a0,a1,a2=>gq (e_ a0.ek)<|en (λ(o:Int) (j:Tm)=>(λ(b:List Tm)=>dH (sK FU j a1 a2) λd=>gq (fM b [d])<|some (fp.next (fW b [d])))) λk=>dH (fa k a0.ek 0 []) (fQ (λ(b:List Tm)=>gq (e_ a0.aoq)<|en (λ(l:Int) (f:Fm)=>(λ(a:List Fm)=>dH (nk a0) λh=>dH (mK n f (eH .i64 a1 h) a2) λc=>gq (fM a [c])<|some (fp.next (fW a [c])))) λi=>dH (fa i a0.aoq 0 []) (fQ (λ(a:List Fm)=>some (Fm.mk a0.aop a0.dM b a)) (λr=>some r))) (λr=>some r))
def gu(a0:dT)(a1:List Ty):Option dT:=gq (fM a0.aot a1)<|gq (e_ a0.aow)<|en (λ(f:Int) (c:Fm)=>(λ(a:List Fm)=>dH (mK FU c 0 (eE a1)) λb=>gq (fM a [b])<|some (fp.next (fW a [b])))) λd=>dH (fa d a0.aow 0 []) (fQ (λ(a:List Fm)=>some (dT.mk a0.lemmas (fW a0.aot a1) a)) (λr=>some r))
def vg(a0:Int)(a1:Ty)(a2:Fm):Option Fm:=dH (jm FU a1) λa=>dH (l0 FU a2) λb=>some (Fm.mk a0 a [] [b])
def iV(a0:List Int)(a1:Int):Option (List Int):=gq (e_ a0)<|en (λ(f:Int) (b:Int)=>(λ(a:List Int)=>en (λ(c:List Int)=>some (fp.next c)) λj57=>if qz b a1 then gq (fM a [(fD .i64 b a1)])<|j57 (fW a [(fD .i64 b a1)])else j57 a)) λd=>dH (fa d a0 0 []) (fQ (λ(a:List Int)=>some a) (λr=>some r))
def BO(a0:List Int):Option Bool:=en (λ(v6:Bool)=>some v6) λa=>if pw (eE a0) 0 then dH (dW a0 0) λb=>a (eo b 0)else a false
def j4(a0:List Ty)(a1:Tm):Option (Ty×Int):=dH (mq a0) λc=>if eR c 0 then some ((Ty.mk 0 []),c)else dR (qx a0 a1) λa b=>some (a,b)
def p4:Nat->Tm->Int->(List (Int×Bool))->Option ((List (Int×Bool)))
 |0,_,_,_=>none|n+1,a0,a1,a2=>en (λ(f:(List (Int×Bool)))=>gq (e_ a0.aoq)<|en (λ(h:Int) (a:Tm)=>(λ(v51:(List (Int×Bool)))=>dH (lK a0) λb=>dH (p4 n a (eH .i64 a1 b) v51) λd73=>some (fp.next d73))) λc=>dH (fa c a0.aoq 0 f) (fQ (λ(v51:(List (Int×Bool)))=>some v51) (λr=>some r))) λd=>if fq (eo a0.aop 1) (qz a0.aos a1) false then d (wE a2 (fD .i64 a0.aos a1) true)else d a2
def wR(a0:Tm):Option ((List Int)×Int):=dH (mr a0) λb=>if eR b 0 then some ([],b)else dH (p4 FU a0 0 []) λd11=>dR (qG d11) λa d17=>some (a,0)
def mS(a0:Tm):Option (List Int):=dR (wR a0) λa b=>some a
def oJ:Nat->Fm->Int->Option Bool
 |0,_,_=>none|n+1,a0,a1=>gq (e_ a0.ek)<|en (λ(i:Int) (a:Tm)=>(λ(_:Unit)=>dH (lJ FU a a1) λb=>if b then some (fp.next ())else some (fp.ret false))) λc=>dH (fa c a0.ek 0 ()) (fQ (λ(_:Unit)=>gq (e_ a0.aoq)<|en (λ(j:Int) (d:Fm)=>(λ(_:Unit)=>dH (oJ n d a1) λf=>if f then some (fp.next ())else some (fp.ret false))) λh=>dH (fa h a0.aoq 0 ()) (fQ (λ(_:Unit)=>some true) (λr=>some r))) (λr=>some r))
def qs:Nat->Fm->Int->Option Int
 |0,_,_=>none|n+1,a0,a1=>gq (e_ a0.ek)<|en (λ(l:Int) (h:Tm)=>(λ(b:Int)=>dH (nH FU h a1) λi=>some (fp.next (eH .i64 b i)))) λj=>dH (fa j a0.ek 0 0) (fQ (λ(b:Int)=>gq (e_ a0.aoq)<|en (λ(o:Int) (k:Fm)=>(λ(a:Int)=>dH (nk a0) λc=>dH (qs n k (eH .i64 a1 c)) λd=>some (fp.next (eH .i64 a d)))) λf=>dH (fa f a0.aoq 0 b) (fQ (λ(a:Int)=>some a) (λr=>some r))) (λr=>some r))
def yt:Nat->Fm->Int->Int->Tm->Option Fm
 |0,_,_,_,_=>none|n+1,a0,a1,a2,a3=>gq (e_ a0.ek)<|en (λ(o:Int) (j:Tm)=>(λ(b:List Tm)=>dH (v7 FU j a1 a2 a3) λd=>gq (fM b [d])<|some (fp.next (fW b [d])))) λk=>dH (fa k a0.ek 0 []) (fQ (λ(b:List Tm)=>gq (e_ a0.aoq)<|en (λ(l:Int) (f:Fm)=>(λ(a:List Fm)=>dH (nk a0) λh=>dH (yt n f a1 (eH .i64 a2 h) a3) λc=>gq (fM a [c])<|some (fp.next (fW a [c])))) λi=>dH (fa i a0.aoq 0 []) (fQ (λ(a:List Fm)=>some (Fm.mk a0.aop a0.dM b a)) (λr=>some r))) (λr=>some r))
def yg(a0:Fm)(a1:Int)(a2:Tm):Option (Fm×Int):=dH (km a0) λn=>if eR n 0 then some ((Fm.mk 0 (Ty.mk 0 []) [] []),n)else if fq (pH a1 0) true (pw a1 4096)then some ((Fm.mk 0 (Ty.mk 0 []) [] []),1)else dH (mr a2) λa=>if eR a 0 then some ((Fm.mk 0 (Ty.mk 0 []) [] []),a)else en (λ(f:Bool)=>if f then some ((Fm.mk 0 (Ty.mk 0 []) [] []),1)else dH (my FU a0) λh=>dH (qs FU a0 a1) λi=>dH (gj FU a2) λj=>if pw (eH .i64 h (O5 .i64 i (fD .i64 j 1))) 4096 then some ((Fm.mk 0 (Ty.mk 0 []) [] []),4)else dH (yt FU a0 a1 0 a2) λb=>dH (l0 FU b) λc=>some (c,0)) λd=>dH (oJ FU a0 536870912) λk=>if k then dH (lJ FU a2 536870912) λl=>d (lF l)else d true
def m4(a0:Fm)(a1:Tm):Option (Fm×Int):=dR (yg a0 0 a1) λa b=>some (a,b)
def vE:Nat->Tm->Int->Option Bool
 |0,_,_=>none|n+1,a0,a1=>if fq (eo a0.aop 1) (eo a0.aos a1) false then some true else gq (e_ a0.aoq)<|en (λ(f:Int) (c:Tm)=>(λ(_:Unit)=>dH (lK a0) λa=>dH (vE n c (eH .i64 a1 a)) λb=>if b then some (fp.ret true)else some (fp.next ()))) λd=>dH (fa d a0.aoq 0 ()) (fQ (λ(_:Unit)=>some false) (λr=>some r))
def qT:Nat->Fm->Int->Option Bool
 |0,_,_=>none|n+1,a0,a1=>gq (e_ a0.ek)<|en (λ(j:Int) (d:Tm)=>(λ(_:Unit)=>dH (vE FU d a1) λf=>if f then some (fp.ret true)else some (fp.next ()))) λh=>dH (fa h a0.ek 0 ()) (fQ (λ(_:Unit)=>gq (e_ a0.aoq)<|en (λ(k:Int) (i:Fm)=>(λ(_:Unit)=>dH (nk a0) λa=>dH (qT n i (eH .i64 a1 a)) λb=>if b then some (fp.ret true)else some (fp.next ()))) λc=>dH (fa c a0.aoq 0 ()) (fQ (λ(_:Unit)=>some false) (λr=>some r))) (λr=>some r))
def np:Nat->Fm->Option (Fm×Int)
 |0,_=>none|n+1,a0=>gq (e_ a0.ek)<|en (λ(s:Int) (k:Tm)=>(λ(b:List Tm)=>fm (kO k 1000) λc o d=>if eR d 0 then some (fp.ret ((Fm.mk 0 (Ty.mk 0 []) [] []),d))else gq (fM b [c])<|some (fp.next (fW b [c])))) λl=>dH (fa l a0.ek 0 []) (fQ (λ(b:List Tm)=>gq (e_ a0.aoq)<|en (λ(q:Int) (i:Fm)=>(λ(a:List Fm)=>dR (np n i) λf h=>if eR h 0 then some (fp.ret ((Fm.mk 0 (Ty.mk 0 []) [] []),h))else gq (fM a [f])<|some (fp.next (fW a [f])))) λj=>dH (fa j a0.aoq 0 []) (fQ (λ(a:List Fm)=>some ((Fm.mk a0.aop a0.dM b a),0)) (λr=>some r))) (λr=>some r))
def iY(a0:dT)(a1:Tm)(a2:Int):Option Int:=dR (j4 a0.aot a1) λb a=>if eR a 0 then some a else if eR b.aop a2 then some 7 else some 0
def ye(a0 a1:Tm):Option Fm:=dH (l6 FU a0) λa=>dH (l6 FU a1) λb=>some (Fm.mk 1 (Ty.mk 0 []) [a,b] [])
def jU:Nat->Fm->Option Bool
 |0,_=>none|n+1,a0=>if eo a0.aop 1 then some false else if eo a0.aop 2 then en (λ(b:Bool)=>some b) λa=>dH (dW a0.aoq 0) λc=>dH (jU n c) λd=>if d then a true else dH (dW a0.aoq 1) λf=>dH (jU n f) λh=>a h else if eo a0.aop 5 then some true else dH (dW a0.aoq (fD .i64 (eE a0.aoq) 1)) λi=>dH (jU n i) λj=>some j
def nW(a0:Fm):Option (Bool×Int):=dH (km a0) λb=>if eR b 0 then some (false,b)else dH (jU FU a0) λa=>some (a,0)
mutual
def eS:Nat->dT->Pf->Option (tk×Int)
 |0,_,_=>none|n+1,a0,a1=>fm (fR n a0 a1) λb i h=>if eR h 0 then some ((tk.mk (Fm.mk 0 (Ty.mk 0 []) [] []) []),h)else dH (km b) λc=>if eR c 0 then some ((tk.mk (Fm.mk 0 (Ty.mk 0 []) [] []) []),4)else en (λ(d:List Int)=>some ((tk.mk b d),0)) λa=>dR (nW b) λf j=>if f then a i else a []
def fR:Nat->dT->Pf->Option (Fm×(List Int)×Int)
 |0,_,_=>none|n+1,a0,a1=>if eo a1.aop 1 then if qz a1.aos (eE a0.aow)then some ((Fm.mk 0 (Ty.mk 0 []) [] []),[],8)else dH (dW a0.aow (fD .i64 (fD .i64 (eE a0.aow) 1) a1.aos)) λt=>some (t,[],0)else if eo a1.aop 2 then if qz a1.aos (eE a0.lemmas)then some ((Fm.mk 0 (Ty.mk 0 []) [] []),[],9)else dH (dW a0.lemmas a1.aos) λu=>some (u,[],0)else if eo a1.aop 3 then dH (dW a1.aoq 0) λv=>dR (eS n a0 v) λf h=>if eR h 0 then some ((Fm.mk 0 (Ty.mk 0 []) [] []),[],h)else dH (dW a1.aoq 1) λw=>dR (eS n a0 w) λi x=>dH (BI 2 f.eh i.eh) λy=>dH (iD f.lx i.lx) λA=>some (y,A,x)else if fq (eo a1.aop 4) true (eo a1.aop 5)then dH (dW a1.aoq 0) λB=>dR (eS n a0 B) λb j=>if eR j 0 then some ((Fm.mk 0 (Ty.mk 0 []) [] []),[],j)else if eR b.eh.aop 2 then some ((Fm.mk 0 (Ty.mk 0 []) [] []),[],10)else dH (dW b.eh.aoq (fD .i64 a1.aop 4)) λC=>some (C,b.lx,0)else if eo a1.aop 6 then dH (dW a1.gh 0) λc=>dH (lL a0.aot c) λk=>if eR k 0 then some ((Fm.mk 0 (Ty.mk 0 []) [] []),[],k)else dH (gb a0 0 1) λl=>if eR l 0 then some ((Fm.mk 0 (Ty.mk 0 []) [] []),[],l)else dH (ia a0 c) λD=>dH (dW a1.aoq 0) λF=>dR (eS n D F) λo G=>dH (BI 3 c o.eh) λH=>some (H,o.lx,G)else if eo a1.aop 7 then dH (dW a1.aoq 0) λI=>dR (eS n a0 I) λa q=>if eR q 0 then some ((Fm.mk 0 (Ty.mk 0 []) [] []),[],q)else if eR a.eh.aop 3 then some ((Fm.mk 0 (Ty.mk 0 []) [] []),[],10)else dH (dW a1.aoq 1) λJ=>dR (eS n a0 J) λr s=>if eR s 0 then some ((Fm.mk 0 (Ty.mk 0 []) [] []),[],s)else dH (dW a.eh.aoq 1) λK=>dH (iD a.lx r.lx) λL=>dH (dW a.eh.aoq 0) λM=>dH (k4 M r.eh) λN=>some (K,L,N)else if fq (eo a1.aop 8) true (eo a1.aop 12)then fm (pT n a0 a1) λO P Q=>some (O,P,Q)else if fq (eo a1.aop 9) true (eo a1.aop 13)then fm (qM n a0 a1) λR S T=>some (R,S,T)else if fq (eo a1.aop 10) true (eo a1.aop 14)then fm (qE n a0 a1) λU V W=>some (U,V,W)else if fq (eo a1.aop 11) true (eo a1.aop 15)then fm (oS n a0 a1) λX Y Z=>some (X,Y,Z)else if eo a1.aop 16 then fm (s9 n a0 a1) λad ae af=>some (ad,ae,af)else if eo a1.aop 17 then fm (qZ n a0 a1) λah ai ak=>some (ah,ai,ak)else if eo a1.aop 18 then dH (dW a1.ek 0) λd=>dH (ye d d) λan=>dH (iY a0 d 1) λao=>some (an,[],ao)else if eo a1.aop 19 then fm (od n a0 a1) λaq ar aw=>some (aq,ar,aw)else fm (qe n a0 a1) λax ay az=>some (ax,ay,az)
def pT:Nat->dT->Pf->Option (Fm×(List Int)×Int)
 |0,_,_=>none|n+1,a0,a1=>dH (gb a0 1 0) λl=>if eR l 0 then some ((Fm.mk 0 (Ty.mk 0 []) [] []),[],l)else dH (gu a0 [a1.dM]) λc=>dH (dW a1.aoq 0) λd=>dR (eS n c d) λa b=>if eR b 0 then some ((Fm.mk 0 (Ty.mk 0 []) [] []),[],b)else if eo a1.aop 8 then dH (vg 4 a1.dM a.eh) λf=>dH (iV a.lx 1) λh=>some (f,h,0)else dH (BO a.lx) λi=>if i then some ((Fm.mk 0 (Ty.mk 0 []) [] []),[],12)else dH (vg 6 a1.dM a.eh) λj=>dH (iV a.lx 1) λk=>some (j,k,0)
def qM:Nat->dT->Pf->Option (Fm×(List Int)×Int)
 |0,_,_=>none|n+1,a0,a1=>dH (dW a1.ek 0) λc=>dR (j4 a0.aot c) λq o=>if eR o 0 then some ((Fm.mk 0 (Ty.mk 0 []) [] []),[],o)else dH (dW a1.aoq 0) λd=>dR (eS n a0 d) λa b=>if eR b 0 then some ((Fm.mk 0 (Ty.mk 0 []) [] []),[],b)else dH (mS c) λf=>dH (iD a.lx f) λh=>if eR a.eh.aop (fq (eo a1.aop 13) 6 4)then some ((Fm.mk 0 (Ty.mk 0 []) [] []),[],10)else dH (fO FU a.eh.dM q) λi=>if i then dH (dW a.eh.aoq 0) λj=>dR (m4 j c) λk l=>some (k,(fq (eo a1.aop 13) a.lx h),l)else some ((Fm.mk 0 (Ty.mk 0 []) [] []),[],7)
def qE:Nat->dT->Pf->Option (Fm×(List Int)×Int)
 |0,_,_=>none|n+1,a0,a1=>dH (dW a1.gh 0) λa=>dH (dW a1.ek 0) λb=>dH (lL a0.aot a) λc=>if eR c 0 then some ((Fm.mk 0 (Ty.mk 0 []) [] []),[],c)else if eR a.aop (fq (eo a1.aop 14) 7 5)then some ((Fm.mk 0 (Ty.mk 0 []) [] []),[],10)else dR (j4 a0.aot b) λi d=>if eR d 0 then some ((Fm.mk 0 (Ty.mk 0 []) [] []),[],d)else dH (fO FU a.dM i) λj=>if j then dH (dW a1.aoq 0) λk=>dH (dW a.aoq 0) λl=>dR (gd n a0 k l b) λf o=>en (λ(q:List Int)=>some (a,q,o)) λh=>if eo (fq (eo a1.aop 14) 7 5) 5 then dH (mS b) λr=>dH (iD f r) λs=>h s else h f else some ((Fm.mk 0 (Ty.mk 0 []) [] []),[],7)
def oS:Nat->dT->Pf->Option (Fm×(List Int)×Int)
 |0,_,_=>none|n+1,a0,a1=>dH (dW a1.aoq 0) λy=>dR (eS n a0 y) λc i=>if eR i 0 then some ((Fm.mk 0 (Ty.mk 0 []) [] []),[],i)else if eR c.eh.aop (fq (eo a1.aop 15) 7 5)then some ((Fm.mk 0 (Ty.mk 0 []) [] []),[],10)else dH (gb a0 1 1) λj=>if eR j 0 then some ((Fm.mk 0 (Ty.mk 0 []) [] []),[],j)else dH (gu a0 [c.eh.dM]) λA=>dH (dW c.eh.aoq 0) λB=>dH (ia A B) λC=>dH (dW a1.aoq 1) λD=>dR (eS n C D) λb k=>if eR k 0 then some ((Fm.mk 0 (Ty.mk 0 []) [] []),[],k)else en (λ(F:Int) (l:Int) (o:List Ty) (q:List Tm) (r:List Fm)=>en (λ(v139:Bool)=>if v139 then some ((Fm.mk 0 (Ty.mk 0 []) [] []),[],12)else dH (mK FU (Fm.mk F (Ty.mk l o) q r) 1 (-1)) λs=>dH (iV b.lx 1) λt=>dH (iD c.lx t) λu=>some (s,u,0)) λd=>if eo (fq (eo a1.aop 15) 7 5) 7 then dH (BO b.lx) λv=>d v else d false) λf=>dH (qT FU b.eh 0) λw=>if w then dR (np FU b.eh) λa h=>if eR h 0 then some ((Fm.mk 0 (Ty.mk 0 []) [] []),[],h)else dH (qT FU a 0) λx=>if x then some ((Fm.mk 0 (Ty.mk 0 []) [] []),[],6)else f a.aop a.dM.aop a.dM.aoq a.ek a.aoq else f b.eh.aop b.eh.dM.aop b.eh.dM.aoq b.eh.ek b.eh.aoq
def s9:Nat->dT->Pf->Option (Fm×(List Int)×Int)
 |0,_,_=>none|n+1,a0,a1=>dH (dW a1.gh 0) λa=>dH (dW a1.ek 0) λc=>dH (jP) λd=>gq (fM a0.aot [d])<|dH (mu (fW a0.aot [d]) a) λf=>if eR f 0 then some ((Fm.mk 0 (Ty.mk 0 []) [] []),[],f)else dH (iY a0 c 1) λh=>if eR h 0 then some ((Fm.mk 0 (Ty.mk 0 []) [] []),[],h)else dH (dW a1.aoq 0) λC=>dH (gV 4 []) λD=>dR (gd n a0 C a D) λF i=>if eR i 0 then some ((Fm.mk 0 (Ty.mk 0 []) [] []),[],i)else dH (gb a0 1 1) λj=>if eR j 0 then some ((Fm.mk 0 (Ty.mk 0 []) [] []),[],j)else dH (jP) λk=>dH (gu a0 [k]) λl=>dH (ia l a) λo=>dH (dW a1.aoq 1) λq=>dH (mK FU a 1 1) λr=>dH (gZ 0) λs=>dH (gV 5 [s]) λt=>dR (gd n o q r t) λu b=>if eR b 0 then some ((Fm.mk 0 (Ty.mk 0 []) [] []),[],b)else dR (m4 a c) λv w=>dH (mS c) λx=>dH (iD x F) λy=>dH (iV u 1) λA=>dH (iD y A) λB=>some (v,B,w)
def qZ:Nat->dT->Pf->Option (Fm×(List Int)×Int)
 |0,_,_=>none|n+1,a0,a1=>dH (dW a1.gh 0) λa=>dH (dW a1.ek 0) λc=>dH (mO) λd=>gq (fM a0.aot [d])<|dH (mu (fW a0.aot [d]) a) λf=>if eR f 0 then some ((Fm.mk 0 (Ty.mk 0 []) [] []),[],f)else dH (iY a0 c 2) λh=>if eR h 0 then some ((Fm.mk 0 (Ty.mk 0 []) [] []),[],h)else dH (dW a1.aoq 0) λG=>dH (gV 7 []) λH=>dR (gd n a0 G a H) λI i=>if eR i 0 then some ((Fm.mk 0 (Ty.mk 0 []) [] []),[],i)else dH (gb a0 2 1) λj=>if eR j 0 then some ((Fm.mk 0 (Ty.mk 0 []) [] []),[],j)else dH (jP) λk=>dH (mO) λl=>dH (gu a0 [k,l]) λo=>dH (mK FU a 1 1) λq=>dH (ia o q) λr=>dH (dW a1.aoq 1) λs=>dH (mK FU a 1 2) λt=>dH (gZ 1) λu=>dH (gZ 0) λv=>dH (gV 8 [u,v]) λw=>dR (gd n r s t w) λx b=>if eR b 0 then some ((Fm.mk 0 (Ty.mk 0 []) [] []),[],b)else dR (m4 a c) λy A=>dH (mS c) λB=>dH (iD B I) λC=>dH (iV x 2) λD=>dH (iD C D) λF=>some (y,F,A)
def od:Nat->dT->Pf->Option (Fm×(List Int)×Int)
 |0,_,_=>none|n+1,a0,a1=>dH (dW a1.gh 0) λk=>dH (jP) λb=>gq (fM a0.aot [b])<|dH (mu (fW a0.aot [b]) k) λc=>if eR c 0 then some ((Fm.mk 0 (Ty.mk 0 []) [] []),[],c)else dH (dW a1.aoq 0) λl=>dR (eS n a0 l) λa d=>if eR d 0 then some ((Fm.mk 0 (Ty.mk 0 []) [] []),[],d)else if eR a.eh.aop 1 then some ((Fm.mk 0 (Ty.mk 0 []) [] []),[],10)else dH (dW a1.aoq 1) λo=>dH (dW a.eh.ek 0) λq=>dR (gd n a0 o k q) λr f=>if eR f 0 then some ((Fm.mk 0 (Ty.mk 0 []) [] []),[],f)else dH (dW a.eh.ek 1) λh=>dR (m4 k h) λi j=>some (i,r,j)
def qe:Nat->dT->Pf->Option (Fm×(List Int)×Int)
 |0,_,_=>none|n+1,a0,a1=>dH (dW a1.aoq 0) λh=>dR (eS n a0 h) λa b=>if eR b 0 then some ((Fm.mk 0 (Ty.mk 0 []) [] []),[],b)else en (λ(i:Bool)=>if i then some ((Fm.mk 0 (Ty.mk 0 []) [] []),[],10)else dH (dW a.eh.aoq 0) λc=>dH (m5 a.eh.dM c.dM) λd=>dH (jj d) λj=>if eR j 0 then some ((Fm.mk 0 (Ty.mk 0 []) [] []),[],4)else dH (dW c.aoq 0) λk=>dH (mK FU k 2 1) λl=>dH (gZ 1) λo=>dH (gZ 0) λq=>dH (gV 3 [o,q]) λr=>dR (m4 l r) λs t=>dH (vg 4 a.eh.dM s) λu=>dH (vg 5 d u) λv=>some (v,a.lx,t)) λf=>if eR a.eh.aop 4 then f true else dH (dW a.eh.aoq 0) λw=>f (eR w.aop 5)
def gd:Nat->dT->Pf->Fm->Tm->Option ((List Int)×Int)
 |0,_,_,_,_=>none|n+1,a0,a1,a2,a3=>dR (eS n a0 a1) λd f=>if eR f 0 then some ([],f)else dR (m4 a2 a3) λb a=>if eR a 0 then some ([],a)else dH (k4 b d.eh) λc=>some (d.lx,c)
end
def ny(a0:List Fm)(a1:Sq)(a2:Pf):Option (tk×Int):=dH (ue a0 a1) λf=>if eR f 0 then some ((tk.mk (Fm.mk 0 (Ty.mk 0 []) [] []) []),f)else dH (uN a2) λb=>if eR b 0 then some ((tk.mk (Fm.mk 0 (Ty.mk 0 []) [] []) []),b)else dR (eS FU (dT.mk a0 a1.aot a1.aow) a2) λa c=>if eR c 0 then some ((tk.mk (Fm.mk 0 (Ty.mk 0 []) [] []) []),c)else dH (l0 FU a.eh) λd=>gq (fM [] a.lx)<|some ((tk.mk d (fW [] a.lx)),0)
def gA(a0:Fm):Option Bool:=dR (nW a0) λa b=>some a
def tC:Option Ty:=some (Ty.mk 5 [])
def qt(a0 a1:Ty):Option Ty:=some (Ty.mk 3 [a0,a1])
def y0(a0:Ty):Option (Int×Int):=dH (jj a0) λb=>if eR b 0 then some (0,b)else dH (qp FU a0) λa=>some (a,0)
def nU(a0:Ty)(a1:Int):Option (Ty×Int):=if eR a1 0 then some ((Ty.mk 0 []),a1)else dR (y0 a0) λb a=>if eR a 0 then some ((Ty.mk 0 []),a)else some (a0,0)
def r5(a0 a1:Ty):Option Ty:=some (Ty.mk 4 [a0,a1])
def lf:Nat->Fm->Option (Ty×Int)
 |0,_=>none|n+1,a0=>dH (gA a0) λae=>if ae then if eo a0.aop 2 then dH (dW a0.aoq 0) λa=>dH (gA a) λi=>if i then dH (dW a0.aoq 1) λb=>dH (gA b) λj=>if j then dR (lf n a) λk c=>if eR c 0 then some ((Ty.mk 0 []),c)else dR (lf n b) λl o=>dH (qt k l) λq=>dR (nU q o) λr s=>some (r,s)else dR (lf n a) λt u=>some (t,u)else dH (dW a0.aoq 1) λv=>dR (lf n v) λw x=>some (w,x)else if eo a0.aop 3 then dH (dW a0.aoq 0) λd=>dH (gA d) λy=>if y then dR (lf n d) λA f=>if eR f 0 then some ((Ty.mk 0 []),f)else dH (dW a0.aoq 1) λB=>dR (lf n B) λC D=>dH (r5 A C) λF=>dR (nU F D) λG H=>some (G,H)else dH (dW a0.aoq 1) λI=>dR (lf n I) λJ K=>some (J,K)else if eo a0.aop 4 then dH (dW a0.aoq 0) λL=>dR (lf n L) λM N=>dH (r5 a0.dM M) λO=>dR (nU O N) λP Q=>some (P,Q)else if eo a0.aop 5 then dH (dW a0.aoq 0) λh=>dH (gA h) λR=>if R then dR (lf n h) λS T=>dH (qt a0.dM S) λU=>dR (nU U T) λV W=>some (V,W)else some (a0.dM,0)else dH (dW a0.aoq 0) λX=>dR (lf n X) λY Z=>some (Y,Z)else dH (tC) λad=>some (ad,0)
def j9(a0:Fm):Option (Ty×Int):=dH (km a0) λc=>if eR c 0 then some ((Ty.mk 0 []),c)else dR (lf FU a0) λa b=>some (a,b)
def vr(a0:List Fm)(a1:List Tm):Option Int:=if eR (eE a1) (eE a0)then some 9 else en ((λ(a:Int)=>if pH a (eE a0)then dH (dW a0 a) λd=>dR (j9 d) λf b=>if eR b 0 then some (fp.ret b)else dH (dW a1 a) λh=>dR (j4 [] h) λi c=>if eR c 0 then some (fp.ret c)else dH (fO FU f i) λj=>if j then some (fp.next (eH .i64 a 1))else some (fp.ret 7)else some (fp.xA a))) λk=>dH (jL k FU 0) (fQ (λ(a:Int)=>some 0) (λr=>some r))
def eM(a0:dS):Option (Int×dS):=some ((eH .i64 a0.next 1),(dS.mk a0.lemmas a0.ek (eH .i64 a0.next 1)))
def mb(a0:dS)(a1:Sq):Option (eA×(List Int)×dS):=en ((un4 λ(b:List Int) (v164:Int) (d:List Tm) (j:dS)=>if pH v164 (eE a1.aot)then dR (eM j) λk d197=>gq (fM b [k])<|dH (dW (fW b [k]) v164) λu=>dH (fS u) λl=>gq (fM d [l])<|some (fp.next ((fW b [k]),(eH .i64 v164 1),(fW d [l]),d197))else some (fp.xA (b,v164,d,j)))) λv=>dH (jL v FU ([],0,[],a0)) (fQ (un4 λ(b:List Int) (v164:Int) (d:List Tm) (j:dS)=>en ((un4 λ(c:List Int) (f:Int) (h:List Tm) (i:dS)=>if pH f (eE a1.aow)then en (λ(w:List Int) (n:Int) (o:Int) (q:Int) (s:List Ty) (t:List Tm) (x:dS)=>gq (fM h [(Tm.mk n o (Ty.mk q s) t)])<|some (fp.next (w,(eH .i64 f 1),(fW h [(Tm.mk n o (Ty.mk q s) t)]),x))) λj718=>dH (dW a1.aow f) λy=>dH (gA y) λA=>if A then dR (eM i) λB C=>dH (fS B) λa=>gq (fM c [a.aos])<|j718 (fW c [a.aos]) a.aop a.aos a.dM.aop a.dM.aoq a.aoq C else j718 c 0 0 0 [] [] i else some (fp.xA (c,f,h,i)))) λD=>dH (jL D FU (b,0,[],j)) (fQ (un4 λ(c:List Int) (f:Int) (h:List Tm) (i:dS)=>some ((eA.mk a1 d h),c,i)) (λr=>some r))) (λr=>some r))
def oW(a0:List Tm)(a1:Tm):Option (List Tm):=gq (fM [] a0)<|gq (fM (fW [] a0) [a1])<|some (fW (fW [] a0) [a1])
def eP:Nat->dS->Tm->(List Tm)->Option (Tm×dS)
 |0,_,_,_=>none|n+1,a0,a1,a2=>if eo a1.aop 1 then dH (dW a2 (fD .i64 (fD .i64 (eE a2) 1) a1.aos)) λl=>some (l,a0)else if eo a1.aop 2 then dR (eM a0) λc d57=>dH (dW a1.aoq 0) λh=>dH (fS c) λi=>dH (oW a2 i) λj=>dR (eP n d57 h j) λk d93=>some ((Tm.mk a1.aop c a1.dM [k]),d93)else en ((T3 λ(v210:Int) (a:List Tm) (v212:dS)=>if pH v210 (eE a1.aoq)then dH (dW a1.aoq v210) λd=>dR (eP n v212 d a2) λb d241=>gq (fM a [b])<|some (fp.next ((eH .i64 v210 1),(fW a [b]),d241))else some (fp.xA (v210,a,v212)))) λf=>dH (jL f FU (0,[],a0)) (fQ (T3 λ(v210:Int) (a:List Tm) (v212:dS)=>some ((Tm.mk a1.aop 0 a1.dM a),v212)) (λr=>some r))
def ft(a0:dS)(a1:eA)(a2:Pf):Option (Fm×dS):=dR (ny a0.lemmas a1.ir a2) λa b=>some (a.eh,a0)
def iq(a0:eA)(a1:Fm)(a2:Tm):Option eA:=dH (oW a0.aow a2) λa=>gq (fM [] a0.ir.aow)<|gq (fM (fW [] a0.ir.aow) [a1])<|some (eA.mk (Sq.mk a0.ir.aot (fW (fW [] a0.ir.aow) [a1])) a0.vars a)
def ji(a0:Ty)(a1:Int)(a2:Tm):Option Tm:=some (Tm.mk 2 a1 a0 [a2])
def hW(a0 a1:Tm):Option Tm:=dH (g_ 3 [a0,a1]) λa=>some a
def qg(a0:Fm)(a1 a2:Int):Option (Fm×Int):=dH (km a0) λh=>if eR h 0 then some ((Fm.mk 0 (Ty.mk 0 []) [] []),h)else en (λ(b:Bool)=>if b then some ((Fm.mk 0 (Ty.mk 0 []) [] []),1)else dH (mK FU a0 a1 a2) λc=>dH (l0 FU c) λd=>some (d,0)) λa=>if pH a1 0 then a true else if pw a1 4096 then a true else if pH a2 0 then a true else if pw a2 4096 then a true else dH (oJ FU a0 536870912) λf=>a (lF f)
def h7(a0:eA)(a1:Ty)(a2:Tm):Option eA:=dH (oW a0.vars a2) λh=>gq (fM [] a0.ir.aot)<|gq (fM (fW [] a0.ir.aot) [a1])<|en ((re λ(v117:Int) (a:List Fm)=>if pH v117 (eE a0.ir.aow)then dH (dW a0.ir.aow v117) λc=>dR (qg c 0 1) λb f=>gq (fM a [b])<|some (fp.next ((eH .i64 v117 1),(fW a [b])))else some (fp.xA (v117,a)))) λd=>dH (jL d FU (0,[])) (fQ (re λ(v117:Int) (a:List Fm)=>some (eA.mk (Sq.mk (fW (fW [] a0.ir.aot) [a1]) a) h a0.aow)) (λr=>some r))
def pq:Nat->Ty->Option Tm
 |0,_=>none|n+1,a0=>if eo a0.aop 1 then dH (gV 4 []) λo=>some o else if eo a0.aop 2 then dH (gV 7 []) λq=>some q else if eo a0.aop 3 then dH (dW a0.aoq 0) λa=>dH (pq n a) λb=>dH (dW a0.aoq 1) λc=>dH (pq n c) λd=>dH (gV 10 [b,d]) λf=>some f else if eo a0.aop 4 then dH (dW a0.aoq 0) λh=>dH (dW a0.aoq 1) λi=>dH (pq n i) λj=>dH (lS 2 h [j]) λk=>some k else dH (gV 13 []) λl=>some l
def xF(a0:Ty):Option (Tm×Int):=dH (jj a0) λb=>if eR b 0 then some ((Tm.mk 0 0 (Ty.mk 0 []) []),b)else dH (pq FU a0) λa=>some (a,0)
def pJ(a0:Ty):Option Tm:=dR (xF a0) λa b=>some a
def vz:Option Ty:=some (Ty.mk 1 [])
def Dr(a0:eA)(a1:Pf)(a2:List Int)(a3:Tm):Option eA:=if eo a1.aop 16 then dH (vz) λo=>dH (dW a2 0) λq=>dH (fS q) λr=>dH (h7 a0 o r) λs=>dH (dW a1.gh 0) λt=>dH (iq s t a3) λu=>some u else dH (dW a1.gh 0) λa=>dR (qg a 1 1) λb v=>dH (vz) λc=>dH (dW a2 0) λd=>dH (fS d) λf=>dH (h7 a0 c f) λh=>dH (wX) λi=>dH (dW a2 1) λj=>dH (fS j) λk=>dH (h7 h i k) λl=>dH (iq l b a3) λn=>some n
def zh(a0:Pf)(a1:Ty)(a2 a3 a4:Tm):Option Tm:=some (Tm.mk (fq (eo a0.aop 17) 9 6) 0 a1 [a2,a3,a4])
def qn:Nat->Tm->Option Int
 |0,_=>none|n+1,a0=>en ((re λ(a:Int) (v46:Int)=>if pH v46 (eE a0.aoq)then dH (dW a0.aoq v46) λb=>dH (qn n b) λc=>some (fp.next ((eH .i64 a c),(eH .i64 v46 1)))else some (fp.xA (a,v46)))) λd=>dH (jL d FU (1,0)) (fQ (re λ(a:Int) (v46:Int)=>some a) (λr=>some r))
def nB(a0:Tm)(a1:Int):Option (Tm×Int):=if eR a1 0 then some ((Tm.mk 0 0 (Ty.mk 0 []) []),a1)else dH (qn FU a0) λa=>if pw a 4096 then some ((Tm.mk 0 0 (Ty.mk 0 []) []),4)else some (a0,0)
mutual
def er:Nat->dS->eA->Pf->Option (Tm×Int×dS)
 |0,_,_,_=>none|n+1,a0,a1,a2=>fm (kq n a0 a1 a2) λc d d7=>dR (nB c d) λa b=>some (a,b,d7)
def kq:Nat->dS->eA->Pf->Option (Tm×Int×dS)
 |0,_,_,_=>none|n+1,a0,a1,a2=>if eo a2.aop 1 then dH (dW a1.aow (fD .i64 (fD .i64 (eE a1.aow) 1) a2.aos)) λay=>some (ay,0,a0)else if eo a2.aop 2 then dH (dW a0.ek a2.aos) λaz=>dR (eP FU a0 az []) λaA aB=>some (aA,0,aB)else if eo a2.aop 3 then dH (dW a2.aoq 0) λu=>dR (ft a0 a1 u) λaC aD=>dH (gA aC) λaE=>dH (dW a2.aoq 1) λo=>dR (ft aD a1 o) λaF v=>dH (gA aF) λaG=>if aE then fm (er n v a1 u) λw x y=>if fq (eR x 0) true (lF aG)then some (w,x,y)else fm (er n y a1 o) λaH aI aJ=>dH (g_ 10 [w,aH]) λaK=>some (aK,aI,aJ)else fm (er n v a1 o) λaL aM aN=>some (aL,aM,aN)else if fq (eo a2.aop 4) true (eo a2.aop 5)then dH (dW a2.aoq 0) λA=>dR (ft a0 a1 A) λB aO=>fm (er n aO a1 A) λb C aP=>en (λ(aQ:Int) (aR:Int) (aS:Int) (aT:List Ty) (aU:List Tm)=>some ((Tm.mk aQ aR (Ty.mk aS aT) aU),C,aP)) λD=>en (λ(aV:Bool)=>if aV then dH (g_ (fq (eo a2.aop 5) 12 11) [b]) λd=>D d.aop d.aos d.dM.aop d.dM.aoq d.aoq else D b.aop b.aos b.dM.aop b.dM.aoq b.aoq) λq=>if eo C 0 then dH (dW B.aoq 0) λaW=>dH (gA aW) λaX=>if aX then dH (dW B.aoq 1) λaY=>dH (gA aY) λaZ=>q aZ else q false else q false else if eo a2.aop 6 then dH (dW a2.gh 0) λj=>dH (gA j) λa6=>if a6 then dR (j9 j) λa7 F=>if eR F 0 then some ((Tm.mk 0 0 (Ty.mk 0 []) []),F,a0)else dR (eM a0) λG a8=>dH (fS G) λa_=>dH (iq a1 j a_) λa'=>dH (dW a2.aoq 0) λba=>fm (er n a8 a' ba) λbb bc bd=>dH (ji a7 G bb) λbf=>some (bf,bc,bd)else dH (iq a1 j (Tm.mk 0 0 (Ty.mk 0 []) [])) λbg=>dH (dW a2.aoq 0) λbh=>fm (er n a0 bg bh) λbj bk bl=>some (bj,bk,bl)else if eo a2.aop 7 then dH (dW a2.aoq 0) λH=>fm (er n a0 a1 H) λI J K=>en (λ(bm:Bool) (L:dS)=>if bm then some (I,J,L)else dH (dW a2.aoq 1) λbn=>fm (er n L a1 bn) λbo bp bq=>dH (hW I bo) λbr=>some (br,bp,bq)) λM=>if eR J 0 then M true K else dR (ft K a1 H) λbs bt=>dH (dW bs.aoq 0) λbu=>dH (gA bu) λbw=>M (lF bw) bt else if eo a2.aop 8 then dR (eM a0) λN bz=>dH (fS N) λbA=>dH (h7 a1 a2.dM bA) λbB=>dH (dW a2.aoq 0) λbC=>fm (er n bz bB bC) λbD bE bF=>dH (ji a2.dM N bD) λbG=>some (bG,bE,bF)else if eo a2.aop 9 then dH (dW a2.aoq 0) λbH=>fm (er n a0 a1 bH) λbI bJ bK=>dH (dW a2.ek 0) λbL=>dR (eP FU bK bL a1.vars) λbM bN=>dH (hW bI bM) λbO=>some (bO,bJ,bN)else if eo a2.aop 10 then dH (dW a2.ek 0) λbP=>dR (eP FU a0 bP a1.vars) λO P=>dH (dW a2.gh 0) λbQ=>dH (dW bQ.aoq 0) λbR=>dH (gA bR) λbS=>if bS then dH (dW a2.aoq 0) λbT=>fm (er n P a1 bT) λbU bV bW=>dH (g_ 10 [O,bU]) λbX=>some (bX,bV,bW)else some (O,0,P)else if eo a2.aop 11 then dH (dW a2.aoq 0) λQ=>dR (ft a0 a1 Q) λc bY=>fm (er n bY a1 Q) λbZ R S=>if eR R 0 then some ((Tm.mk 0 0 (Ty.mk 0 []) []),R,S)else dR (eM S) λk T=>dH (fS k) λf=>en (λ(b0:Int) (b1:List Ty) (b2:Int) (b3:Int) (b4:Int) (b5:List Ty) (b6:List Tm) (b7:Int) (b8:Int) (b9:Int) (b_:List Ty) (b':List Tm)=>dH (h7 a1 c.dM (Tm.mk b2 b3 (Ty.mk b4 b5) b6)) λca=>dH (dW c.aoq 0) λcb=>dH (iq ca cb (Tm.mk b7 b8 (Ty.mk b9 b_) b')) λcc=>dH (dW a2.aoq 1) λcd=>fm (er n T cc cd) λcf cg ch=>dH (ji (Ty.mk b0 b1) k cf) λcj=>dH (hW cj bZ) λck=>some (ck,cg,ch)) λU=>dH (dW c.aoq 0) λcm=>dH (gA cm) λcn=>if cn then dR (j9 c) λV W=>if eR W 0 then some ((Tm.mk 0 0 (Ty.mk 0 []) []),W,T)else dH (fS k) λcp=>dH (g_ 11 [cp]) λh=>dH (fS k) λcq=>dH (g_ 12 [cq]) λi=>U V.aop V.aoq h.aop h.aos h.dM.aop h.dM.aoq h.aoq i.aop i.aos i.dM.aop i.dM.aoq i.aoq else U c.dM.aop c.dM.aoq f.aop f.aos f.dM.aop f.dM.aoq f.aoq 0 0 0 [] [] else if eo a2.aop 12 then dH (pJ a2.dM) λcr=>dR (eP FU a0 cr []) λcu cw=>dH (h7 a1 a2.dM cu) λcx=>dH (dW a2.aoq 0) λcy=>fm (er n cw cx cy) λcz cA cB=>some (cz,cA,cB)else if eo a2.aop 15 then dH (dW a2.aoq 0) λX=>dR (ft a0 a1 X) λa cD=>dH (pJ a.dM) λcE=>dR (eP FU cD cE []) λY Z=>dH (gA a) λcF=>if cF then fm (er n Z a1 X) λcG ad r=>if eR ad 0 then some ((Tm.mk 0 0 (Ty.mk 0 []) []),ad,r)else dR (j9 a) λcH ae=>if eR ae 0 then some ((Tm.mk 0 0 (Ty.mk 0 []) []),ae,r)else dR (eM r) λaf cI=>dH (h7 a1 a.dM Y) λcJ=>dH (dW a.aoq 0) λcK=>dH (fS af) λcL=>dH (iq cJ cK cL) λcM=>dH (dW a2.aoq 1) λcN=>fm (er n cI cM cN) λcO cP cQ=>dH (ji cH af cO) λcR=>dH (hW cR cG) λcS=>some (cS,cP,cQ)else dH (h7 a1 a.dM Y) λcT=>dH (dW a.aoq 0) λcU=>dH (iq cT cU (Tm.mk 0 0 (Ty.mk 0 []) [])) λcV=>dH (dW a2.aoq 1) λcW=>fm (er n Z cV cW) λcX cY cZ=>some (cX,cY,cZ)else if fq (eo a2.aop 16) true (eo a2.aop 17)then R1 (nD n a0 a1 a2) λc0 c1 c2 ah ai=>if eR ah 0 then some ((Tm.mk 0 0 (Ty.mk 0 []) []),ah,ai)else dH (dW a2.ek 0) λc4=>dR (eP FU ai c4 a1.vars) λc6 c7=>dH (zh a2 c0 c1 c2 c6) λc8=>some (c8,0,c7)else if eo a2.aop 19 then dH (dW a2.aoq 1) λc9=>fm (er n a0 a1 c9) λc_ c' da=>some (c_,c',da)else if eo a2.aop 20 then dH (dW a2.aoq 0) λak=>fm (er n a0 a1 ak) λan ao db=>dR (ft db a1 ak) λl s=>en (λ(dc:Bool)=>if dc then some (an,ao,s)else dR (j9 l) λdd aq=>if eR aq 0 then some ((Tm.mk 0 0 (Ty.mk 0 []) []),aq,s)else dR (eM s) λt de=>dR (eM de) λar df=>dR (eM df) λaw dg=>dH (fS t) λdh=>dH (fS ar) λdi=>dH (hW dh di) λdj=>dH (g_ 11 [dj]) λdk=>dH (ji l.dM ar dk) λdm=>dH (fS t) λdn=>dH (fS aw) λdp=>dH (hW dn dp) λdq=>dH (g_ 12 [dq]) λdr=>dH (ji l.dM aw dr) λds=>dH (g_ 10 [dm,ds]) λdt=>dH (ji dd t dt) λdu=>dH (hW du an) λdv=>some (dv,0,dg)) λax=>if eR ao 0 then ax true else dH (dW l.aoq 0) λdw=>dH (dW dw.aoq 0) λdx=>dH (gA dx) λdy=>ax (lF dy)else dH (dW a2.aoq 0) λdz=>fm (er n a0 a1 dz) λdA dB dC=>some (dA,dB,dC)
def nD:Nat->dS->eA->Pf->Option (Ty×Tm×Tm×Int×dS)
 |0,_,_,_=>none|n+1,a0,a1,a2=>dH (dW a2.gh 0) λD=>dR (j9 D) λB C=>if eR C 0 then some ((Ty.mk 0 []),(Tm.mk 0 0 (Ty.mk 0 []) []),(Tm.mk 0 0 (Ty.mk 0 []) []),C,a0)else dH (dW a2.aoq 0) λu=>fm (er n a0 a1 u) λv d d33=>if eR d 0 then some ((Ty.mk 0 []),(Tm.mk 0 0 (Ty.mk 0 []) []),(Tm.mk 0 0 (Ty.mk 0 []) []),d,d33)else dR (eM d33) λf d45=>dR (eM d45) λh d48=>dR (eM d48) λi d51=>dH (fS i) λw=>dH (Dr a1 a2 [f,h] w) λx=>dH (dW a2.aoq 1) λy=>fm (er n d51 x y) λA j d91=>if eR j 0 then some ((Ty.mk 0 []),(Tm.mk 0 0 (Ty.mk 0 []) []),(Tm.mk 0 0 (Ty.mk 0 []) []),j,d91)else dH (ji B i A) λb=>en (λ(k:Int) (v109:Int) (l:Int) (o:List Ty) (q:List Tm)=>dH (vz) λr=>dH (ji r f (Tm.mk k v109 (Ty.mk l o) q)) λs=>some (B,v,s,0,d91)) λc=>if eo a2.aop 17 then dH (wX) λt=>dH (ji t h b) λa=>c a.aop a.aos a.dM.aop a.dM.aoq a.aoq else c b.aop b.aos b.dM.aop b.dM.aoq b.aoq
end
def jJ:Nat->Tm->(List Int)->Option Tm
 |0,_,_=>none|n+1,a0,a1=>if eo a0.aop 1 then en ((λ(v212:Int)=>if qz v212 0 then dH (dW a1 v212) λd=>if eo d a0.aos then dH (fS (fD .i64 (fD .i64 (eE a1) 1) v212)) λf=>some (fp.ret f)else some (fp.next (fD .i64 v212 1))else some (fp.xA v212))) λh=>dH (jL h FU (fD .i64 (eE a1) 1)) (fQ (λ(v212:Int)=>some a0) (λr=>some r))else en (λ(i:List Int)=>en ((re λ(a:Int) (b:List Tm)=>if pH a (eE a0.aoq)then dH (dW a0.aoq a) λj=>dH (jJ n j i) λc=>gq (fM b [c])<|some (fp.next ((eH .i64 a 1),(fW b [c])))else some (fp.xA (a,b)))) λk=>dH (jL k FU (0,[])) (fQ (re λ(a:Int) (b:List Tm)=>some (Tm.mk a0.aop 0 a0.dM b)) (λr=>some r))) λj252=>if eo a0.aop 2 then gq (fM [] a1)<|gq (fM (fW [] a1) [a0.aos])<|j252 (fW (fW [] a1) [a0.aos])else j252 a1
def nP(a0:List Fm)(a1:List Tm)(a2:Sq)(a3:Pf):Option (Tm×Int):=dR (ny a0 a2 a3) λk j=>if eR j 0 then some ((Tm.mk 0 0 (Ty.mk 0 []) []),j)else dH (vr a0 a1) λa=>if eR a 0 then some ((Tm.mk 0 0 (Ty.mk 0 []) []),a)else dH (gA k.eh) λc=>if c then fm (mb (dS.mk a0 a1 0) a2) λd f d29=>fm (er FU d29 d a3) λh b d37=>if eR b 0 then some ((Tm.mk 0 0 (Ty.mk 0 []) []),b)else dH (jJ FU h f) λi=>some (i,0)else some ((Tm.mk 0 0 (Ty.mk 0 []) []),40)
def sm:Nat->Vl->Option Bool
 |0,_=>none|n+1,a0=>if eo a0.aop 1 then some (fq (qz a0.num 0) (fq (eo (eE a0.list) 0) (eo (eE a0.aoq) 0) false) false)else if eo a0.aop 2 then gq (e_ a0.list)<|en (λ(k:Int) (b:Int)=>(λ(_:Unit)=>if pH b 0 then some (fp.ret false)else some (fp.next ()))) λc=>dH (fa c a0.list 0 ()) (fQ (λ(_:Unit)=>some (fq (eo a0.num 0) (eo (eE a0.aoq) 0) false)) (λr=>some r))else if eo a0.aop 4 then some (fq (eo a0.num 0) (fq (eo (eE a0.list) 0) (eo (eE a0.aoq) 0) false) false)else if eo a0.aop 3 then en (λ(d:Bool)=>some d) λa=>if eo a0.num 0 then if eo (eE a0.list) 0 then if eo (eE a0.aoq) 2 then dH (dW a0.aoq 0) λf=>dH (sm n f) λh=>if h then dH (dW a0.aoq 1) λi=>dH (sm n i) λj=>a j else a false else a false else a false else a false else some false
def xw:Nat->Vl->Option Int
 |0,_=>none|n+1,a0=>gq (e_ a0.aoq)<|en (λ(f:Int) (b:Vl)=>(λ(a:Int)=>dH (xw n b) λc=>some (fp.next (eH .i64 a c)))) λd=>dH (fa d a0.aoq 0 1) (fQ (λ(a:Int)=>some a) (λr=>some r))
def xi(a0:Vl):Option Int:=dH (sm FU a0) λb=>if b then dH (xw FU a0) λa=>if pw a 64 then some 4 else some 0 else some 2
def uD:Nat->Vl->Option Ty
 |0,_=>none|n+1,a0=>if eo a0.aop 1 then dH (jP) λa=>some a else if eo a0.aop 2 then dH (mO) λb=>some b else if eo a0.aop 3 then dH (dW a0.aoq 0) λc=>dH (uD n c) λd=>dH (dW a0.aoq 1) λf=>dH (uD n f) λh=>dH (tP d h) λi=>some i else dH (tU) λj=>some j
def qD(a0:Vl):Option (Ty×Int):=dH (xi a0) λb=>if eR b 0 then some ((Ty.mk 0 []),b)else dH (uD FU a0) λa=>some (a,0)
def p8:Nat->Ty->Option Int
 |0,_=>none|n+1,a0=>if eo a0.aop 3 then dH (dW a0.aoq 0) λf=>dH (p8 n f) λh=>dH (dW a0.aoq 1) λi=>dH (p8 n i) λj=>some (imax h j)else if eo a0.aop 4 then dH (dW a0.aoq 0) λa=>dH (p8 n a) λb=>dH (dW a0.aoq 1) λc=>dH (p8 n c) λd=>some (imax (eH .i64 b 1) d)else some 0
def yW(a0:Ty):Option (Bool×Int):=dH (jj a0) λb=>if eR b 0 then some (false,b)else dH (p8 FU a0) λa=>some ((eo a 0),0)
mutual
def fJ:Nat->d_->Tm->(List dJ)->Option (dJ×d_)
 |0,_,_,_=>none|n+1,a0,a1,a2=>if fq a0.out true (eo a0.used a0.rE)then some ((dJ.mk 0 [] [] (Tm.mk 0 0 (Ty.mk 0 []) []) []),(d_.mk a0.used a0.rE true))else if eo a1.aop 1 then dH (dW a2 (fD .i64 (fD .i64 (eE a2) 1) a1.aos)) λbc=>some (bc,(d_.mk (eH .i64 a0.used 1) a0.rE a0.out))else if eo a1.aop 2 then dH (dW a1.aoq 0) λbd=>some ((dJ.mk 0 [] [] bd a2),(d_.mk (eH .i64 a0.used 1) a0.rE a0.out))else gq (e_ a1.aoq)<|en (λ(bg:Int) (bf:Tm)=>(re λ(v105:List dJ) (i:d_)=>dR (fJ n i bf a2) λV d127=>gq (fM v105 [V])<|if d127.out then some (fp.ret ((dJ.mk 0 [] [] (Tm.mk 0 0 (Ty.mk 0 []) []) []),d127))else some (fp.next ((fW v105 [V]),d127)))) λbb=>dH (fa bb a1.aoq 0 ([],(d_.mk (eH .i64 a0.used 1) a0.rE a0.out))) (fQ (re λ(v105:List dJ) (i:d_)=>if eo a1.aop 3 then dH (dW v105 0) λW=>dH (dW v105 1) λX=>dR (eL n i W X) λY Z=>some (Y,Z)else if eo a1.aop 5 then dH (dW v105 0) λad=>some ((dJ.mk (eH .i64 ad.num 1) [] [] (Tm.mk 0 0 (Ty.mk 0 []) []) []),i)else if eo a1.aop 6 then dH (dW v105 0) λb=>en ((KA λ(k:Int) (l:Int) (o:List Int) (q:List dJ) (s:Int) (t:Int) (u:Int) (v:List Ty) (w:List Tm) (x:List dJ) (y:d_)=>en (λ(ae:Bool)=>if ae then en (λ(af:Int) (ah:List Int) (ai:List dJ) (ak:Int) (an:Int) (ao:Int) (aq:List Ty) (ar:List Tm) (aw:List dJ) (ax:d_)=>some (fp.next ((eH .i64 k 1),af,ah,ai,ak,an,ao,aq,ar,aw,ax))) λP=>dH (dW v105 1) λay=>dR (eL n y ay (dJ.mk k [] [] (Tm.mk 0 0 (Ty.mk 0 []) []) [])) λaz M=>if M.out then P l o q s t u v w x M else dR (eL n M az (dJ.mk l o q (Tm.mk s t (Ty.mk u v) w) x)) λc aA=>P c.num c.list c.pair c.body.aop c.body.aos c.body.dM.aop c.body.dM.aoq c.body.aoq c.env aA else some (fp.xA (k,l,o,q,s,t,u,v,w,x,y))) λQ=>dH (dW v105 2) λaB=>if pH k aB.num then Q (lF y.out)else Q false)) λaC=>dH (jL aC FU (0,b.num,b.list,b.pair,b.body.aop,b.body.aos,b.body.dM.aop,b.body.dM.aoq,b.body.aoq,b.env,i)) (fQ (KA λ(k:Int) (l:Int) (o:List Int) (q:List dJ) (s:Int) (t:Int) (u:Int) (v:List Ty) (w:List Tm) (x:List dJ) (y:d_)=>some ((dJ.mk l o q (Tm.mk s t (Ty.mk u v) w) x),y)) (λr=>some r))else if eo a1.aop 8 then dH (dW v105 0) λR=>dH (dW v105 1) λS=>gq (fM [R.num] S.list)<|some ((dJ.mk 0 (fW [R.num] S.list) [] (Tm.mk 0 0 (Ty.mk 0 []) []) []),i)else if eo a1.aop 9 then dH (dW v105 0) λd=>dH (dW v105 2) λL=>en ((KA λ(j:Int) (A:Int) (B:List Int) (C:List dJ) (D:Int) (F:Int) (G:Int) (H:List Ty) (I:List Tm) (J:List dJ) (K:d_)=>if fq (qz j 0) (lF K.out) false then en (λ(aD:Int) (aE:List Int) (aF:List dJ) (aG:Int) (aH:Int) (aI:Int) (aJ:List Ty) (aK:List Tm) (aL:List dJ) (aM:d_)=>some (fp.next ((fD .i64 j 1),aD,aE,aF,aG,aH,aI,aJ,aK,aL,aM))) λT=>dH (dW v105 1) λaN=>dH (dW L.list j) λaO=>dR (eL n K aN (dJ.mk aO [] [] (Tm.mk 0 0 (Ty.mk 0 []) []) [])) λa N=>en (λ(aP:Int) (aQ:List Int) (aR:List dJ) (aS:Int) (aT:Int) (aU:Int) (aV:List Ty) (aW:List Tm) (aX:List dJ) (O:d_)=>if O.out then T A B C D F G H I J O else dR (eL n O (dJ.mk aP aQ aR (Tm.mk aS aT (Ty.mk aU aV) aW) aX) (dJ.mk A B C (Tm.mk D F (Ty.mk G H) I) J)) λf aY=>T f.num f.list f.pair f.body.aop f.body.aos f.body.dM.aop f.body.dM.aoq f.body.aoq f.env aY) λU=>if N.out then U a.num a.list a.pair a.body.aop a.body.aos a.body.dM.aop a.body.dM.aoq a.body.aoq a.env N else dH (tD L.list (eH .i64 j 1) (eE L.list)) λaZ=>dR (eL n N a (dJ.mk 0 aZ [] (Tm.mk 0 0 (Ty.mk 0 []) []) [])) λh a6=>U h.num h.list h.pair h.body.aop h.body.aos h.body.dM.aop h.body.dM.aoq h.body.aoq h.env a6 else some (fp.xA (j,A,B,C,D,F,G,H,I,J,K)))) λa7=>dH (jL a7 FU ((fD .i64 (eE L.list) 1),d.num,d.list,d.pair,d.body.aop,d.body.aos,d.body.dM.aop,d.body.dM.aoq,d.body.aoq,d.env,i)) (fQ (KA λ(j:Int) (A:Int) (B:List Int) (C:List dJ) (D:Int) (F:Int) (G:Int) (H:List Ty) (I:List Tm) (J:List dJ) (K:d_)=>some ((dJ.mk A B C (Tm.mk D F (Ty.mk G H) I) J),K)) (λr=>some r))else if eo a1.aop 10 then some ((dJ.mk 0 [] v105 (Tm.mk 0 0 (Ty.mk 0 []) []) []),i)else if eo a1.aop 11 then dH (dW v105 0) λa8=>dH (dW a8.pair 0) λa_=>some (a_,i)else if eo a1.aop 12 then dH (dW v105 0) λa'=>dH (dW a'.pair 1) λba=>some (ba,i)else some ((dJ.mk 0 [] [] (Tm.mk 0 0 (Ty.mk 0 []) []) []),i)) (λr=>some r))
def eL:Nat->d_->dJ->dJ->Option (dJ×d_)
 |0,_,_,_=>none|n+1,a0,a1,a2=>gq (fM a1.env [a2])<|dR (fJ n a0 a1.body (fW a1.env [a2])) λa d15=>some (a,d15)
end
def x0:Nat->Vl->Option dJ
 |0,_=>none|n+1,a0=>gq (e_ a0.aoq)<|en (λ(f:Int) (c:Vl)=>(λ(a:List dJ)=>dH (x0 n c) λb=>gq (fM a [b])<|some (fp.next (fW a [b])))) λd=>dH (fa d a0.aoq 0 []) (fQ (λ(a:List dJ)=>some (dJ.mk a0.num a0.list a (Tm.mk 0 0 (Ty.mk 0 []) []) [])) (λr=>some r))
def oI:Nat->dJ->Ty->Option Vl
 |0,_,_=>none|n+1,a0,a1=>if eo a1.aop 1 then some (Vl.mk 1 a0.num [] [])else if eo a1.aop 2 then gq (fM [] a0.list)<|some (Vl.mk 2 0 (fW [] a0.list) [])else if eo a1.aop 3 then dH (dW a0.pair 0) λa=>dH (dW a1.aoq 0) λb=>dH (oI n a b) λc=>dH (dW a0.pair 1) λd=>dH (dW a1.aoq 1) λf=>dH (oI n d f) λh=>some (Vl.mk 3 0 [] [c,h])else some (Vl.mk 4 0 [] [])
def lY(a0:Tm)(a1:List Vl)(a2:Int):Option (Vl×Int×Int):=dR (j4 [] a0) λx4 x5=>if eR x5 0 then some ((Vl.mk 0 0 [] []),0,x5)else gq (e_ a1)<|en (λ(ad:Int) (C:Vl)=>(re λ(f:Int) (c:List Ty)=>dR (qD C) λD x=>if eR x 0 then some (fp.ret ((Vl.mk 0 0 [] []),0,x))else en (λ(F:Bool)=>if F then some (fp.ret ((Vl.mk 0 0 [] []),0,7))else dH (dW c 1) λy=>some (fp.next (y.aop,y.aoq))) λA=>if eR f 4 then A true else dH (dW c 0) λG=>dH (fO FU G D) λH=>A (lF H))) λI=>dH (fa I a1 0 (x4.aop,x4.aoq)) (fQ (re λ(f:Int) (c:List Ty)=>dR (yW (Ty.mk f c)) λJ ae=>if J then if fq (pH a2 0) true (pw a2 65536)then some ((Vl.mk 0 0 [] []),0,1)else dR (fJ FU (d_.mk 0 a2 false) a0 []) λa u=>gq (e_ a1)<|en (λ(af:Int) (K:Vl)=>(Zk λ(h:Int) (i:List Int) (j:List dJ) (k:Int) (l:Int) (n:Int) (o:List Ty) (q:List Tm) (s:List dJ) (t:Int) (v:Int) (d:Bool)=>en (λ(L:Int) (M:List Int) (N:List dJ) (O:Int) (P:Int) (Q:Int) (R:List Ty) (S:List Tm) (T:List dJ) (U:Int) (V:Int) (W:Bool)=>some (fp.next (L,M,N,O,P,Q,R,S,T,U,V,W))) λB=>if d then B h i j k l n o q s t v d else dH (x0 FU K) λX=>dR (eL FU (d_.mk t v d) (dJ.mk h i j (Tm.mk k l (Ty.mk n o) q) s) X) λb w=>B b.num b.list b.pair b.body.aop b.body.aos b.body.dM.aop b.body.dM.aoq b.body.aoq b.env w.used w.rE w.out)) λY=>dH (fa Y a1 0 (a.num,a.list,a.pair,a.body.aop,a.body.aos,a.body.dM.aop,a.body.dM.aoq,a.body.aoq,a.env,u.used,u.rE,u.out)) (fQ (Zk λ(h:Int) (i:List Int) (j:List dJ) (k:Int) (l:Int) (n:Int) (o:List Ty) (q:List Tm) (s:List dJ) (t:Int) (v:Int) (d:Bool)=>if d then some ((Vl.mk 0 0 [] []),0,5)else dH (oI FU (dJ.mk h i j (Tm.mk k l (Ty.mk n o) q) s) (Ty.mk f c)) λZ=>some (Z,t,0)) (λr=>some r))else some ((Vl.mk 0 0 [] []),0,7)) (λr=>some r))
def uF:Option Bool:=dH (fS 0) λy=>dH (g_ 5 [y]) λA=>dH (mC (Ty.mk 1 []) A) λb=>dH (fS 0) λB=>dH (g_ 5 [B]) λC=>dH (mC (Ty.mk 1 []) C) λD=>dH (mC (Ty.mk 1 []) D) λF=>dH (wX) λG=>dH (fS 0) λH=>dH (g_ 5 [H]) λI=>dH (mC (Ty.mk 1 []) I) λJ=>dH (mC G J) λc=>dH (mC (Ty.mk 1 []) c) λd=>fm (k7 b) λf a h=>fm (mh b a b a) λK L i=>dH (xN 0) λj=>fm (zu j F) λM N k=>dH (xN 0) λl=>fm (tV l d) λO P n=>dH (xN 0) λo=>dH (xN 1) λq=>dH (tK) λr=>fm (xT o q r) λQ s t=>dR (nP [] [] (Sq.mk [] []) s) λu v=>fm (lY u [(Vl.mk 1 5 [] [])] 20000) λw R x=>some (fq (eo h 0) (fq (eo i 0) (fq (eo k 0) (fq (eo n 0) (fq (eo t 0) (fq (eo v 0) (fq (eo x 0) (fq (eo f.aop 4) (eo w.num 5) false) false) false) false) false) false) false) false)
def I0(a0:List Int):Option Bool:=some (Tq (eE a0) 500)
def SS(l:List Int):Option eN:=some ⟨l,0⟩
def ur:Option Ty:=dH (vz) λa=>some a
def EW(a0:List Ty)(a1:Ty):Option (List Int):=gq (e_ a0)<|en (λ(b:Int) (i:Ty)=>(λ(a:List Int)=>en (λ(c:List Int)=>some (fp.next c)) λj201=>dH (dW a0 (fD .i64 (fD .i64 (eE a0) 1) b)) λd=>dH (fO FU d a1) λf=>if f then gq (fM a [b])<|j201 (fW a [b])else j201 a)) λh=>dH (fa h a0 0 []) (fQ (λ(a:List Int)=>some a) (λr=>some r))
def Kn(a0 a1:Int):Option Int:=gq (Ms a1)<|gq (Ms a1)<|some (aa5 .i64 (eH .i64 (aa5 .i64 a0 a1) a1) a1)
def iF(a0:eN)(a1:Int):Option (Int×eN):=if fq (pH a1 1) true (qz a0.yI (eE a0.l))then some (0,a0)else dH (dW a0.l a0.yI) λa=>dH (Kn a a1) λb=>some (b,(eN.mk a0.l (eH .i64 a0.yI 1)))
def oe:Nat->eN->Int->Option (Ty×eN)
 |0,_,_=>none|n+1,a0,a1=>en (λ(i:eN)=>dH (jP) λc=>some (c,i)) λb=>dR (iF a0 7) λa d63=>if fq (eo a 0) true (fq (eo a 1) true (eo a 2))then dH (jP) λj=>some (j,d63)else if eo a 3 then dH (mO) λk=>some (k,d63)else if eo a 4 then dH (tU) λl=>some (l,d63)else if eo a 5 then if pw a1 0 then dR (oe n d63 (fD .i64 a1 1)) λo d89=>dR (oe n d89 (fD .i64 a1 1)) λq d92=>dH (tP o q) λr=>some (r,d92)else b d63 else if eo a 6 then if pw a1 0 then dR (oe n d63 (fD .i64 a1 1)) λd d105=>dR (oe n d105 (fD .i64 a1 1)) λf d108=>dH (m5 d f) λh=>some (h,d108)else b d63 else b d63
def r9(a0 a1:List Ty):Option (List Ty):=gq (fM [] a0)<|gq (fM (fW [] a0) a1)<|some (fW (fW [] a0) a1)
def FJ(a0:Tm)(a1:List Tm):Option Tm:=gq (e_ a1)<|en (λ(j:Int) (h:Tm)=>(un5 λ(b:Int) (c:Int) (v46:Int) (d:List Ty) (f:List Tm)=>dH (gV 3 [(Tm.mk b c (Ty.mk v46 d) f),h]) λa=>some (fp.next (a.aop,a.aos,a.dM.aop,a.dM.aoq,a.aoq)))) λi=>dH (fa i a1 0 (a0.aop,a0.aos,a0.dM.aop,a0.dM.aoq,a0.aoq)) (fQ (un5 λ(b:Int) (c:Int) (v46:Int) (d:List Ty) (f:List Tm)=>some (Tm.mk b c (Ty.mk v46 d) f)) (λr=>some r))
def we:Option Tm:=dH (gV 4 []) λa=>dH (gZ 1) λb=>dH (lv b) λc=>dH (lv c) λd=>dH (gZ 0) λf=>dH (tH a d f) λh=>dH (lv h) λi=>some i
def yp:Option Tm:=dH (gZ 1) λa=>dH (we) λb=>dH (gZ 0) λc=>dH (gV 3 [b,c]) λd=>dH (lv d) λf=>dH (lv f) λh=>dH (gZ 0) λi=>dH (tH a h i) λj=>dH (lv j) λk=>dH (lv k) λl=>some l
def ic:Nat->eN->(List Ty)->Ty->Int->Option (Tm×eN)
 |0,_,_,_,_=>none|n+1,a0,a1,a2,a3=>dH (EW a1 a2) λx3=>en (λ(v37:Bool) (u:eN)=>if v37 then dR (iF u (eE x3)) λbK d51=>dH (dW x3 bK) λbL=>dH (gZ bL) λbM=>some (bM,d51)else en (λ(b:eN)=>if eo a2.aop 1 then en (λ(v:eN)=>dR (iF v 3) λw x=>dH (xN w) λy=>some (y,x)) λi=>if pw a3 0 then dR (iF b 5) λf d=>if eo f 0 then dR (ic n d a1 a2 (fD .i64 a3 1)) λA B=>dH (gV 5 [A]) λC=>some (C,B)else if eo f 1 then dH (tK) λD=>dR (ic n d a1 a2 (fD .i64 a3 1)) λF G=>dR (ic n G a1 a2 (fD .i64 a3 1)) λH I=>dH (FJ D [F,H]) λJ=>some (J,I)else if eo f 2 then dH (yp) λK=>dR (ic n d a1 a2 (fD .i64 a3 1)) λL M=>dR (ic n M a1 a2 (fD .i64 a3 1)) λN O=>dH (FJ K [L,N]) λP=>some (P,O)else i d else i b else if eo a2.aop 2 then en (λ(Q:Bool) (j:eN)=>if Q then dH (jP) λR=>dR (ic n j a1 R (fD .i64 a3 1)) λS T=>dR (ic n T a1 a2 (fD .i64 a3 1)) λU V=>dH (gV 8 [S,U]) λW=>some (W,V)else dH (gV 7 []) λX=>some (X,j)) λk=>if pw a3 0 then dR (iF b 2) λY Z=>k (eo Y 0) Z else k false b else if eo a2.aop 3 then dH (dW a2.aoq 0) λad=>dR (ic n b a1 ad (fD .i64 a3 1)) λae af=>dH (dW a2.aoq 1) λah=>dR (ic n af a1 ah (fD .i64 a3 1)) λai ak=>dH (gV 10 [ae,ai]) λan=>some (an,ak)else if eo a2.aop 4 then dH (dW a2.aoq 0) λl=>dH (r9 a1 [l]) λao=>dH (dW a2.aoq 1) λaq=>dR (ic n b ao aq (fD .i64 a3 1)) λar aw=>dH (lS 2 l [ar]) λax=>some (ax,aw)else dH (gV 13 []) λay=>some (ay,b)) λo=>if pw a3 0 then dR (iF u 8) λc a=>if eo c 0 then dR (oe FU a 0) λq aI=>dH (r9 a1 [q]) λaJ=>dR (ic n aI aJ a2 (fD .i64 a3 1)) λaK aL=>dH (lS 2 q [aK]) λaM=>dR (ic n aL a1 q (fD .i64 a3 1)) λaN aO=>dH (gV 3 [aM,aN]) λaP=>some (aP,aO)else if eo c 1 then dR (oe FU a 0) λaQ aR=>dR (ic n aR a1 a2 (fD .i64 a3 1)) λaS aT=>dR (ic n aT a1 aQ (fD .i64 a3 1)) λaU aV=>dH (gV 10 [aS,aU]) λaW=>dH (gV 11 [aW]) λaX=>some (aX,aV)else if eo c 2 then dH (jP) λaY=>dH (jP) λaZ=>dH (r9 a1 [aZ,a2]) λa6=>dR (ic n a a6 a2 (fD .i64 a3 1)) λa7 a8=>dH (lS 2 a2 [a7]) λa_=>dH (lS 2 aY [a_]) λa'=>dR (ic n a8 a1 a2 (fD .i64 a3 1)) λba bb=>dR (iF bb 3) λbc bd=>dH (xN bc) λbf=>dH (lS 6 a2 [ba,a',bf]) λbg=>some (bg,bd)else if eo c 3 then dH (jP) λbh=>dH (mO) λbj=>dH (jP) λbk=>dH (mO) λbl=>dH (r9 a1 [bk,bl,a2]) λbm=>dR (ic n a bm a2 (fD .i64 a3 1)) λbn bo=>dH (lS 2 a2 [bn]) λbp=>dH (lS 2 bj [bp]) λbq=>dH (lS 2 bh [bq]) λbr=>dR (ic n bo a1 a2 (fD .i64 a3 1)) λbs bt=>dH (mO) λbu=>dR (ic n bt a1 bu (fD .i64 a3 1)) λbw bz=>dH (lS 9 a2 [bs,br,bw]) λbA=>some (bA,bz)else if eo c 4 then dR (oe FU a 0) λbB bC=>dR (ic n bC a1 bB (fD .i64 a3 1)) λbD bE=>dR (ic n bE a1 a2 (fD .i64 a3 1)) λbF bG=>dH (gV 10 [bD,bF]) λbH=>dH (gV 12 [bH]) λbI=>some (bI,bG)else if eo c 5 then gq (e_ a1)<|en (λ(t:Int) (bO:Ty)=>(λ(_:Unit)=>dH (dW a1 (fD .i64 (fD .i64 (eE a1) 1) t)) λh=>en (λ(az:Bool)=>if az then dH (gZ t) λaA=>dH (dW h.aoq 0) λaB=>dR (ic n a a1 aB (fD .i64 a3 1)) λaC aD=>dH (gV 3 [aA,aC]) λaE=>some (fp.ret (aE,aD))else some (fp.next ())) λs=>if eo h.aop 4 then dH (dW h.aoq 1) λaF=>dH (fO FU aF a2) λaG=>s aG else s false)) λaH=>dH (fa aH a1 0 ()) (fQ (λ(_:Unit)=>o a) (λr=>some r))else o a else o u) λbJ=>if pw (eE x3) 0 then dR (iF a0 3) λbN d41=>bJ (pw bN 0) d41 else bJ false a0
def tY(a0:eN):Option (Tm×eN):=dH (ur) λa=>dH (ur) λb=>dH (ur) λc=>dR (ic FU a0 [b] c 2) λd d19=>dH (mC a d) λf=>some (f,d19)
def hZ(a0:Int):Option Bool:=some (fq (eo a0 4) true (fq (eo a0 5) true (eo a0 3)))
def rA:Nat->eN->Ty->Option (Vl×eN)
 |0,_,_=>none|n+1,a0,a1=>if eo a1.aop 1 then dR (iF a0 5) λf d145=>some ((Vl.mk 1 f [] []),d145)else if eo a1.aop 2 then dR (iF a0 4) λh d198=>en ((T3 λ(b:Int) (a:List Int) (c:eN)=>if pw b 0 then dR (iF c 4) λd d261=>gq (fM a [d])<|some (fp.next ((fD .i64 b 1),(fW a [d]),d261))else some (fp.xA (b,a,c)))) λi=>dH (jL i FU (h,[],d198)) (fQ (T3 λ(b:Int) (a:List Int) (c:eN)=>some ((Vl.mk 2 0 a []),c)) (λr=>some r))else if eo a1.aop 3 then dH (dW a1.aoq 0) λj=>dR (rA n a0 j) λk d297=>dH (dW a1.aoq 1) λl=>dR (rA n d297 l) λo d302=>some ((Vl.mk 3 0 [] [k,o]),d302)else some ((Vl.mk 4 0 [] []),a0)
def oN(a0:List Int):Option Bool:=en (λ(aF:Bool)=>if aF then dH (uF) λaG=>some aG else dH (SS a0) λaH=>dR (tY aH) λc d49=>dR (tY d49) λb d52=>dR (tY d52) λd d55=>fm (k7 c) λaR y A=>fm (k7 b) λaS B C=>fm (k7 d) λaT D F=>if fq (eR A 0) true (fq (eR C 0) true (eR F 0))then en (λ(G:Bool)=>some G) λf=>dH (hZ A) λH=>if H then f true else dH (hZ C) λI=>if I then f true else dH (hZ F) λJ=>f J else dH (ur) λa=>dH (fS 0) λK=>dH (hW c K) λL=>dH (hW b L) λM=>dH (mC a M) λN=>dH (fS 0) λO=>dH (hW b O) λP=>dH (hW d P) λQ=>dH (mC a Q) λR=>fm (mh c y b B) λaK S j=>fm (mh b B d D) λaL T k=>if fq (eR j 0) true (eR k 0)then en (λ(U:Bool)=>some U) λl=>dH (hZ j) λV=>if V then l true else dH (hZ k) λW=>l W else fm (mh N S d D) λaM X n=>fm (mh c y R T) λaN Y o=>if fq (eR n 0) true (eR o 0)then en (λ(Z:Bool)=>some Z) λq=>dH (hZ n) λad=>if ad then q true else dH (hZ o) λae=>q ae else dR (nP [] [] (Sq.mk [] []) X) λaf r=>dR (nP [] [] (Sq.mk [] []) Y) λah s=>if fq (eR r 0) true (eR s 0)then en (λ(ai:Bool)=>some ai) λt=>dH (hZ r) λak=>if ak then t true else dH (hZ s) λan=>t an else dR (rA FU d55 a) λh d333=>fm (lY af [h] 30000) λao aO u=>fm (lY ah [h] 30000) λaq aP v=>dH (fS 0) λar=>dH (hW c ar) λaw=>dH (hW b aw) λax=>dH (hW d ax) λay=>dH (mC a ay) λaz=>fm (lY az [h] 30000) λw aQ x=>if fq (eR u 0) true (fq (eR v 0) true (eR x 0))then en (λ(aA:Bool)=>some aA) λi=>dH (hZ u) λaB=>if aB then i true else dH (hZ v) λaC=>if aC then i true else dH (hZ x) λaD=>i aD else some (fq (eo ao.num w.num) (eo aq.num w.num) false)) λaE=>dH (uF) λaI=>if aI then dH (I0 a0) λaJ=>aE (lF aJ)else aE true
end Go.fP
