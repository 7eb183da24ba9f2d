/- Part of the proof of TranslateWitness: models. -/
import Derived.Test.YtffcgfpaakhbjaaGreatDoorL16
set_option linter.all false
namespace Go.dF
open Go
inductive Ty where
 |mk (acH:Int) (acI:List Ty)
def Ty.acH:Ty->Int|.mk x _=>x
def Ty.acI:Ty->(List Ty)|.mk _ x=>x
@[simp] theorem Ty.cx(acH:Int)(acI:List Ty):(Ty.mk acH acI).acH=acH:=rfl
@[simp] theorem Ty.ck(acH:Int)(acI:List Ty):(Ty.mk acH acI).acI=acI:=rfl
@[simp] theorem Ty.ig(x:Ty):Ty.mk x.acH x.acI=x:=by cases x;rfl
instance:Inhabited Ty:=⟨.mk default default⟩
inductive Tm where
 |mk (acH:Int) (acK:Int) (b7:Ty) (acI:List Tm)
def Tm.acH:Tm->Int|.mk x _ _ _=>x
def Tm.acK:Tm->Int|.mk _ x _ _=>x
def Tm.b7:Tm->Ty|.mk _ _ x _=>x
def Tm.acI:Tm->(List Tm)|.mk _ _ _ x=>x
@[simp] theorem Tm.cx(acH acK:Int)(b7:Ty)(acI:List Tm):(Tm.mk acH acK b7 acI).acH=acH:=rfl
@[simp] theorem Tm.dK(acH acK:Int)(b7:Ty)(acI:List Tm):(Tm.mk acH acK b7 acI).acK=acK:=rfl
@[simp] theorem Tm.cT(acH acK:Int)(b7:Ty)(acI:List Tm):(Tm.mk acH acK b7 acI).b7=b7:=rfl
@[simp] theorem Tm.ck(acH acK:Int)(b7:Ty)(acI:List Tm):(Tm.mk acH acK b7 acI).acI=acI:=rfl
@[simp] theorem Tm.ig(x:Tm):Tm.mk x.acH x.acK x.b7 x.acI=x:=by cases x;rfl
instance:Inhabited Tm:=⟨.mk default default default default⟩
inductive Fm where
 |mk (acH:Int) (b7:Ty) (cv:List Tm) (acI:List Fm)
def Fm.acH:Fm->Int|.mk x _ _ _=>x
def Fm.b7:Fm->Ty|.mk _ x _ _=>x
def Fm.cv:Fm->(List Tm)|.mk _ _ x _=>x
def Fm.acI:Fm->(List Fm)|.mk _ _ _ x=>x
@[simp] theorem Fm.cx(acH:Int)(b7:Ty)(cv:List Tm)(acI:List Fm):(Fm.mk acH b7 cv acI).acH=acH:=rfl
@[simp] theorem Fm.cT(acH:Int)(b7:Ty)(cv:List Tm)(acI:List Fm):(Fm.mk acH b7 cv acI).b7=b7:=rfl
@[simp] theorem Fm.eI(acH:Int)(b7:Ty)(cv:List Tm)(acI:List Fm):(Fm.mk acH b7 cv acI).cv=cv:=rfl
@[simp] theorem Fm.ck(acH:Int)(b7:Ty)(cv:List Tm)(acI:List Fm):(Fm.mk acH b7 cv acI).acI=acI:=rfl
@[simp] theorem Fm.ig(x:Fm):Fm.mk x.acH x.b7 x.cv x.acI=x:=by cases x;rfl
instance:Inhabited Fm:=⟨.mk default default default default⟩
inductive Pf where
 |mk (acH:Int) (acK:Int) (b7:Ty) (cv:List Tm) (dw:List Fm) (acI:List Pf)
def Pf.acH:Pf->Int|.mk x _ _ _ _ _=>x
def Pf.acK:Pf->Int|.mk _ x _ _ _ _=>x
def Pf.b7:Pf->Ty|.mk _ _ x _ _ _=>x
def Pf.cv:Pf->(List Tm)|.mk _ _ _ x _ _=>x
def Pf.dw:Pf->(List Fm)|.mk _ _ _ _ x _=>x
def Pf.acI:Pf->(List Pf)|.mk _ _ _ _ _ x=>x
@[simp] theorem Pf.cx(acH acK:Int)(b7:Ty)(cv:List Tm)(dw:List Fm)(acI:List Pf):(Pf.mk acH acK b7 cv dw acI).acH=acH:=rfl
@[simp] theorem Pf.dK(acH acK:Int)(b7:Ty)(cv:List Tm)(dw:List Fm)(acI:List Pf):(Pf.mk acH acK b7 cv dw acI).acK=acK:=rfl
@[simp] theorem Pf.cT(acH acK:Int)(b7:Ty)(cv:List Tm)(dw:List Fm)(acI:List Pf):(Pf.mk acH acK b7 cv dw acI).b7=b7:=rfl
@[simp] theorem Pf.eI(acH acK:Int)(b7:Ty)(cv:List Tm)(dw:List Fm)(acI:List Pf):(Pf.mk acH acK b7 cv dw acI).cv=cv:=rfl
@[simp] theorem Pf.Ee(acH acK:Int)(b7:Ty)(cv:List Tm)(dw:List Fm)(acI:List Pf):(Pf.mk acH acK b7 cv dw acI).dw=dw:=rfl
@[simp] theorem Pf.ck(acH acK:Int)(b7:Ty)(cv:List Tm)(dw:List Fm)(acI:List Pf):(Pf.mk acH acK b7 cv dw acI).acI=acI:=rfl
@[simp] theorem Pf.ig(x:Pf):Pf.mk x.acH x.acK x.b7 x.cv x.dw x.acI=x:=by cases x;rfl
instance:Inhabited Pf:=⟨.mk default default default default default default⟩
structure Sq where
 acL:(List Ty)
 acO:(List Fm)
@[simp] theorem Sq.ig(x:Sq):Sq.mk x.acL x.acO=x:=rfl
instance:Inhabited Sq:=⟨.mk default default⟩
structure yn where
 n:Int
@[simp] theorem yn.ig(x:yn):yn.mk x.n=x:=rfl
instance:Inhabited yn:=⟨.mk default⟩
structure sh where
 cf:Fm
 eD:(List Int)
@[simp] theorem sh.ig(x:sh):sh.mk x.cf x.eD=x:=rfl
instance:Inhabited sh:=⟨.mk default default⟩
structure cH where
 l:(List Int)
 ua:Int
@[simp] theorem cH.ig(x:cH):cH.mk x.l x.ua=x:=rfl
instance:Inhabited cH:=⟨.mk default default⟩
structure rU where
 Tw:Sq
 vars:(List Tm)
 acO:(List Tm)
@[simp] theorem rU.ig(x:rU):rU.mk x.Tw x.vars x.acO=x:=rfl
instance:Inhabited rU:=⟨.mk default default default⟩
structure bZ where
 lemmas:(List Fm)
 acL:(List Ty)
 acO:(List Fm)
@[simp] theorem bZ.ig(x:bZ):bZ.mk x.lemmas x.acL x.acO=x:=rfl
instance:Inhabited bZ:=⟨.mk default default default⟩
structure p5 where
 lemmas:(List Fm)
 cv:(List Tm)
 next:Int
@[simp] theorem p5.ig(x:p5):p5.mk x.lemmas x.cv x.next=x:=rfl
instance:Inhabited p5:=⟨.mk default default default⟩
structure cz where
 answers:(List Fm)
 room:Int
@[simp] theorem cz.ig(x:cz):cz.mk x.answers x.room=x:=rfl
instance:Inhabited cz:=⟨.mk default default⟩
structure b0 where
 cf:Fm
 eD:Int
@[simp] theorem b0.ig(x:b0):b0.mk x.cf x.eD=x:=rfl
instance:Inhabited b0:=⟨.mk default default⟩
structure fv where
 vars:Int
 acO:Int
@[simp] theorem fv.ig(x:fv):fv.mk x.vars x.acO=x:=rfl
instance:Inhabited fv:=⟨.mk default default⟩
structure cj where
 b7:Ty
 acJ:Int
@[simp] theorem cj.ig(x:cj):cj.mk x.b7 x.acJ=x:=rfl
instance:Inhabited cj:=⟨.mk default default⟩
structure cZ where
 cf:Fm
 vars:Int
@[simp] theorem cZ.ig(x:cZ):cZ.mk x.cf x.vars=x:=rfl
instance:Inhabited cZ:=⟨.mk default default⟩
structure cm where
 ey:fv
 acL:(List cj)
 known:(List cZ)
@[simp] theorem cm.ig(x:cm):cm.mk x.ey x.acL x.known=x:=rfl
instance:Inhabited cm:=⟨.mk default default default⟩
structure cb where
 acJ:Int
 fI:Bool
@[simp] theorem cb.ig(x:cb):cb.mk x.acJ x.fI=x:=rfl
instance:Inhabited cb:=⟨.mk default default⟩
structure c8 where
 vars:Int
 acO:Int
@[simp] theorem c8.ig(x:c8):c8.mk x.vars x.acO=x:=rfl
instance:Inhabited c8:=⟨.mk default default⟩
structure cP where
 room:Int
@[simp] theorem cP.ig(x:cP):cP.mk x.room=x:=rfl
instance:Inhabited cP:=⟨.mk default⟩
structure db where
 cv:Int
 dw:Int
 acI:Int
 acK:Bool
 xX:Bool
@[simp] theorem db.ig(x:db):db.mk x.cv x.dw x.acI x.acK x.xX=x:=rfl
instance:Inhabited db:=⟨.mk default default default default default⟩
structure c9 where
 acK:Bool
 typed:Bool
 cv:Int
 dw:Int
 acI:Int
 ri:Int
 vars:Int
 acO:Int
@[simp] theorem c9.ig(x:c9):c9.mk x.acK x.typed x.cv x.dw x.acI x.ri x.vars x.acO=x:=rfl
instance:Inhabited c9:=⟨.mk default default default default default default default default⟩
structure il where
 acH:Int
 base:Tm
 vars:(List Ty)
 next:Tm
@[simp] theorem il.ig(x:il):il.mk x.acH x.base x.vars x.next=x:=rfl
instance:Inhabited il:=⟨.mk default default default default⟩
structure fR where
 term:(Option Nat)
 steps:Int
@[simp] theorem fR.ig(x:fR):fR.mk x.term x.steps=x:=rfl
structure dz where
 acH:Int
 acK:Int
 xX:Ty
 acI:(List (Option Nat))
 size:Int
 free:Int
 normal:Bool
@[simp] theorem dz.ig(x:dz):dz.mk x.acH x.acK x.xX x.acI x.size x.free x.normal=x:=rfl
inductive HC where
 |ik (x:fR)|dH (x:dz)
def HC.c7(l:List HC)(p:Nat):Option fR:=match l[p]?with|some (.ik x)=>some x|_=>none
def HC.jZ{l:List HC}{p:Nat}{x:fR}(h:HC.c7 l p=some x):l[p]?=some (.ik x):=by
 unfold HC.c7 at h
 split at h
 ·rename_i e;rw[e];rw[gv h]
 ·cases h
def HC.b_(l:List HC)(p:Nat):Option dz:=match l[p]?with|some (.dH x)=>some x|_=>none
def HC.kP{l:List HC}{p:Nat}{x:dz}(h:HC.b_ l p=some x):l[p]?=some (.dH x):=by
 unfold HC.b_ at h
 split at h
 ·rename_i e;rw[e];rw[gv h]
 ·cases h
def mB(l:List HC)(p:Nat)(x:HC):List HC:=l.set p x
def ll:List c9:=[⟨false,false,0,0,0,0,0,0⟩,⟨true,false,0,0,0,0,0,0⟩,⟨true,false,0,0,0,0,0,0⟩,⟨false,false,0,0,2,0,0,0⟩,⟨false,false,0,0,1,0,0,0⟩,⟨false,false,0,0,1,0,0,0⟩,⟨false,false,0,1,1,0,0,1⟩,⟨false,false,0,0,2,0,0,0⟩,⟨false,true,0,0,1,0,1,0⟩,⟨false,false,1,0,1,0,0,0⟩,⟨false,false,1,1,1,0,0,0⟩,⟨false,false,0,0,2,0,1,1⟩,⟨false,true,0,0,1,0,1,0⟩,⟨false,false,1,0,1,0,0,0⟩,⟨false,false,1,1,1,0,0,0⟩,⟨false,false,0,0,2,0,1,1⟩,⟨false,false,1,1,2,1,1,1⟩,⟨false,false,1,1,2,1,2,1⟩,⟨false,false,1,0,0,0,0,0⟩,⟨false,false,0,1,2,1,0,0⟩,⟨false,false,0,0,1,0,0,0⟩]
def oc:List Int:=[0,0,1,2,0,1,3,0,2,3,2,1,1,0]
end Go.dF
set_option maxRecDepth 20000
namespace Go.dF
open Go
def gr:Nat->Ty->Option Ty
 |0,_=>none|n+1,a0=>ef (c0 a0.acI)<|cB (λ(d:Int) (b:Ty)=>(λ(v40:List Ty)=>bU (gr n b) λa=>ef (dP v40 [a])<|some (.next (dN v40 [a]))):Int->Ty->(List Ty)->(Option (dJ (List Ty) (Ty)))) λc=>bU (cY c a0.acI 0 []) (dI (λ(v40:List Ty)=>some (Ty.mk a0.acH v40)) (λr=>some r))
def jQ:Nat->Tm->Option Tm
 |0,_=>none|n+1,a0=>ef (c0 a0.acI)<|cB (λ(e:Int) (b:Tm)=>(λ(v40:List Tm)=>bU (jQ n b) λa=>ef (dP v40 [a])<|some (.next (dN v40 [a]))):Int->Tm->(List Tm)->(Option (dJ (List Tm) (Tm)))) λc=>bU (cY c a0.acI 0 []) (dI (λ(v40:List Tm)=>bU (gr FU a0.b7) λd=>some (Tm.mk a0.acH a0.acK d v40)) (λr=>some r))
def dR(a0:Int)(a1:List Tm):Option Tm:=ef (c0 a1)<|cB (λ(d:Int) (b:Tm)=>(λ(v40:List Tm)=>bU (jQ FU b) λa=>ef (dP v40 [a])<|some (.next (dN v40 [a]))):Int->Tm->(List Tm)->(Option (dJ (List Tm) (Tm)))) λc=>bU (cY c a1 0 []) (dI (λ(v40:List Tm)=>some (Tm.mk a0 0 (Ty.mk 0 []) v40)) (λr=>some r))
def oD(a0:Int):Option Tm:=bU (dR 4 []) λe=>cB ((Ph λ(a:Int) (v30:Int) (v31:Int) (b:Int) (c:List Ty) (d:List Tm)=>if m8 a 0 then some (.next ((di .i64 a 1),5,0,0,[],[(Tm.mk v30 v31 (Ty.mk b c) d)]))else some (.Fy (a,v30,v31,b,c,d))):(Int×Int×Int×Int×(List Ty)×(List Tm))->(Option (dJ (Int×Int×Int×Int×(List Ty)×(List Tm)) (Tm)))) λf=>bU (mJ f FU (a0,e.acH,e.acK,e.b7.acH,e.b7.acI,e.acI)) (dI (Ph λ(a:Int) (v30:Int) (v31:Int) (b:Int) (c:List Ty) (d:List Tm)=>some (Tm.mk v30 v31 (Ty.mk b c) d)) (λr=>some r))
def rR(a0:Int):Option (Tm×Int):=if tD a0 0 then some ((Tm.mk 0 0 (Ty.mk 0 []) []),1)else if qf a0 4096 then some ((Tm.mk 0 0 (Ty.mk 0 []) []),4)else bU (oD a0) λa=>some (a,0)
def rJ(a0:Int):Option Tm:=b8 (rR a0) λa b=>some a
def nS(a0 a1:Tm):Option Fm:=bU (jQ FU a0) λa=>bU (jQ FU a1) λb=>some (Fm.mk 1 (Ty.mk 0 []) [a,b] [])
def ky:Nat->Ty->Option (Int×Bool)
 |0,_=>none|n+1,a0=>cB (λ(v10:Int)=>if cG (cE a0.acI) v10 then some (0,false)else ef (c0 a0.acI)<|cB (λ(g:Int) (c:Ty)=>(λ(a:Int)=>b8 (ky n c) λd e=>if e then some (.next (da .i64 a d))else some (.ret (0,false))):Int->Ty->(Int)->(Option (dJ (Int) (Int×Bool)))) λf=>bU (cY f a0.acI 0 1) (dI (λ(a:Int)=>some (a,true)) (λr=>some r))) λb=>if dq (cr a0.acH 1) true (dq (cr a0.acH 2) true (cr a0.acH 5))then b 0 else if dq (cr a0.acH 3) true (cr a0.acH 4)then b 2 else some (0,false)
def gp(a0:Ty):Option (Int×Int):=b8 (ky FU a0) λa b=>if b then if m8 a 64 then some (0,4)else some (a,0)else some (0,2)
def l_(a0:Ty):Option Bool:=some (dq (cr a0.acH 0) (cr (cE a0.acI) 0) false)
def pD(a0:Fm):Option Bool:=cB (λ(v10:Int) (v11:Int) (v12:Bool)=>cB (some (dq (cr (cE a0.cv) v10) (cr (cE a0.acI) v11) false)) λb=>if v12 then b8 (gp a0.b7) λe c=>if cG c 0 then some false else b else bU (l_ a0.b7) λd=>if d then b else some false) λa=>if cr a0.acH 1 then a 2 0 false else if dq (cr a0.acH 2) true (cr a0.acH 3)then a 0 2 false else if dq (cr a0.acH 4) true (dq (cr a0.acH 5) true (dq (cr a0.acH 6) true (cr a0.acH 7)))then a 0 1 true else some false
def sy(a0:Int):Option (Int×Bool):=if dq (tD a0 1) true (qf a0 14)then some (0,false)else bU (cq oc a0) λa=>some (a,true)
def s_(a0:Int):Option Bool:=some (dq (cr a0 2) true (dq (cr a0 6) true (cr a0 9)))
def gW:Nat->Tm->Option (Int×Bool)
 |0,_=>none|n+1,a0=>b8 (sy a0.acH) λj k=>if dq k (dq (cG (cE a0.acI) j) true (dq (tD a0.acK 0) true (dq (cG a0.acK 0) (cG a0.acH 1) false))) true then some (0,false)else cB (ef (c0 a0.acI)<|cB (λ(l:Int) (f:Tm)=>(λ(a:Int)=>b8 (gW n f) λb c=>if c then some (.next (da .i64 a b))else some (.ret (0,false))):Int->Tm->(Int)->(Option (dJ (Int) (Int×Bool)))) λd=>bU (cY d a0.acI 0 1) (dI (λ(a:Int)=>some (a,true)) (λr=>some r))) λe=>bU (s_ a0.acH) λg=>if g then b8 (gp a0.b7) λm h=>if cG h 0 then some (0,false)else e else bU (l_ a0.b7) λi=>if i then e else some (0,false)
def gO:Nat->Fm->Option (Int×Bool)
 |0,_=>none|n+1,a0=>bU (pD a0) λk=>if k then ef (c0 a0.cv)<|cB (λ(l:Int) (f:Tm)=>(λ(v72:Int)=>b8 (gW FU f) λg h=>if h then some (.next (da .i64 v72 g))else some (.ret (0,false))):Int->Tm->(Int)->(Option (dJ (Int) (Int×Bool)))) λi=>bU (cY i a0.cv 0 1) (dI (λ(v72:Int)=>ef (c0 a0.acI)<|cB (λ(j:Int) (b:Fm)=>(λ(a:Int)=>b8 (gO n b) λc d=>if d then some (.next (da .i64 a c))else some (.ret (0,false))):Int->Fm->(Int)->(Option (dJ (Int) (Int×Bool)))) λe=>bU (cY e a0.acI 0 v72) (dI (λ(a:Int)=>some (a,true)) (λr=>some r))) (λr=>some r))else some (0,false)
def eL(a0:Fm):Option (Int×Int):=b8 (gO FU a0) λa b=>if b then if m8 a 4096 then some (0,4)else some (a,0)else some (0,2)
def fA(a0:Fm):Option Int:=b8 (eL a0) λb a=>some a
def jF:Nat->Fm->Option Bool
 |0,_=>none|n+1,a0=>if dq (cr a0.acH 6) true (cr a0.acH 7)then some true else ef (c0 a0.acI)<|cB (λ(d:Int) (a:Fm)=>(λ(_:Unit)=>bU (jF n a) λb=>if b then some (.ret true)else some (.next ())):Int->Fm->(Unit)->(Option (dJ (Unit) (Bool)))) λc=>bU (cY c a0.acI 0 ()) (dI (λ(_:Unit)=>some false) (λr=>some r))
def lS(a0:Int):Option Bool:=some (dq (qf a0 0) (Dh a0 4096) false)
def ke(a0 a1:Int)(a:Bool):Option Bool:=if a then some (Dh a0 536870912)else some false
def fD{S:Type}:Nat->Tm->Int->(S->Int->Int->Option S)->S->Option S
 |0,_,_,_,_=>none|n+1,a0,a1,a,b=>cB (λ(v6:S)=>ef (c0 a0.acI)<|cB (λ(g:Int) (c:Tm)=>(λ(v28:S)=>bU (fD n c (dq (cr a0.acH 2) (da .i64 a1 1) a1) a v28) λd=>some (.next d)):Int->Tm->(S)->(Option (dJ (S) (S)))) λe=>bU (cY e a0.acI 0 v6) (dI (λ(v28:S)=>some v28) (λr=>some r))) λf=>if cr a0.acH 1 then bU (a b a0.acK a1) λh=>f h else f b
def og{S:Type}(a0:Tm)(a1:(S->Int->Int->Option S))(a:S):Option S:=bU (fD FU a0 0 a1 a) λs1=>some s1
def py(a0:Tm):Option Bool:=bU (og a0 (λ(s:Bool) (a:Int) (b:Int)=>ke a b s) true) λc=>some c
def gy(a0:Tm)(a1:Int)(a:Bool):Option Bool:=if a then bU (py a0) λb=>some b else some false
def kL(a0:Int):Option Bool:=some (dq (qf a0 4) (Dh a0 7) false)
def gA{S:Type}:Nat->Fm->Int->(S->Tm->Int->Option S)->S->Option S
 |0,_,_,_,_=>none|n+1,a0,a1,a2,c=>ef (c0 a0.cv)<|cB (λ(k:Int) (d:Tm)=>(λ(a:S)=>bU (a2 a d a1) λe=>some (.next e)):Int->Tm->(S)->(Option (dJ (S) (S)))) λf=>bU (cY f a0.cv 0 c) (dI (λ(a:S)=>cB (λ(v51:Int)=>ef (c0 a0.acI)<|cB (λ(l:Int) (g:Fm)=>(λ(v72:S)=>bU (gA n g v51 a2 v72) λh=>some (.next h)):Int->Fm->(S)->(Option (dJ (S) (S)))) λi=>bU (cY i a0.acI 0 a) (dI (λ(v72:S)=>some v72) (λr=>some r))) λb=>bU (kL a0.acH) λj=>if j then b (da .i64 a1 1)else b a1) (λr=>some r))
def lU(a0:Fm):Option Bool:=bU (gA FU a0 0 (λ(s:Bool) (a:Tm) (b:Int)=>gy a b s) true) λc=>some c
def fk(a0:Int):Option Tm:=some (Tm.mk 1 a0 (Ty.mk 0 []) [])
def rn(a0 a1 a b:Int):Option Tm:=bU (fk (dq (qf (di .i64 a0 a1) a) (da .i64 a0 b) a0)) λc=>some c
def iq:Nat->Ty->Option Ty
 |0,_=>none|n+1,a0=>ef (c0 a0.acI)<|cB (λ(e:Int) (c:Ty)=>(λ(a:List Ty)=>bU (iq n c) λb=>ef (dP a [b])<|some (.next (dN a [b]))):Int->Ty->(List Ty)->(Option (dJ (List Ty) (Ty)))) λd=>bU (cY d a0.acI 0 []) (dI (λ(a:List Ty)=>some (Ty.mk a0.acH a)) (λr=>some r))
def eP{S:Type}:Nat->Tm->Int->(S->Int->Int->Option (Tm×S))->S->Option (Tm×S)
 |0,_,_,_,_=>none|n+1,a0,a1,c,d=>if cr a0.acH 1 then b8 (c d a0.acK a1) λg h=>some (g,h)else bU (iq FU a0.b7) λi=>ef (c0 a0.acI)<|cB (λ(k:Int) (j:Tm)=>(rD λ(a:List Tm) (v107:S)=>b8 (eP n j (dq (cr a0.acH 2) (da .i64 a1 1) a1) c v107) λb e=>ef (dP a [b])<|some (.next ((dN a [b]),e))):Int->Tm->((List Tm)×S)->(Option (dJ ((List Tm)×S) (Tm×S)))) λf=>bU (cY f a0.acI 0 ([],d)) (dI (rD λ(a:List Tm) (v107:S)=>some ((Tm.mk a0.acH a0.acK i a),v107)) (λr=>some r))
def mg{S:Type}(a0:Tm)(a1:(S->Int->Int->Option (Tm×S)))(a:S):Option (Tm×S):=b8 (eP FU a0 0 a1 a) λb c=>some (b,c)
def pe(a0:Tm)(a1 a2:Int):Option Tm:=b8 (mg a0 (λ(s:Unit) (a:Int) (b:Int)=>mK (rn a b a1 a2) s) ()) λc d=>some c
def kA(a0:Tm)(a1 a b:Int):Option Tm:=bU (pe a0 (da .i64 a a1) b) λc=>some c
def cL{S:Type}:Nat->Fm->Int->(S->Tm->Int->Option (Tm×S))->S->Option (Fm×S)
 |0,_,_,_,_=>none|n+1,a0,a1,a2,l=>bU (iq FU a0.b7) λq=>ef (c0 a0.cv)<|cB (λ(s:Int) (m:Tm)=>(rD λ(v91:List Tm) (e:S)=>b8 (a2 e m a1) λb f=>ef (dP v91 [b])<|some (.next ((dN v91 [b]),f))):Int->Tm->((List Tm)×S)->(Option (dJ ((List Tm)×S) (Fm×S)))) λo=>bU (cY o a0.cv 0 ([],l)) (dI (rD λ(v91:List Tm) (e:S)=>cB (λ(g:Int)=>ef (c0 a0.acI)<|cB (λ(p:Int) (h:Fm)=>(rD λ(a:List Fm) (v212:S)=>b8 (cL n h g a2 v212) λc i=>ef (dP a [c])<|some (.next ((dN a [c]),i))):Int->Fm->((List Fm)×S)->(Option (dJ ((List Fm)×S) (Fm×S)))) λj=>bU (cY j a0.acI 0 ([],e)) (dI (rD λ(a:List Fm) (v212:S)=>some ((Fm.mk a0.acH q v91 a),v212)) (λr=>some r))) λd=>bU (kL a0.acH) λk=>if k then d (da .i64 a1 1)else d a1) (λr=>some r))
def c_(a0:Fm)(a1 a2:Int):Option Fm:=b8 (cL FU a0 0 (λ(s:Unit) (a:Tm) (b:Int)=>mK (kA a b a1 a2) s) ()) λc d=>some c
def pZ(a0:Fm)(a1 a2:Int):Option (Fm×Int):=bU (fA a0) λg=>if cG g 0 then some ((Fm.mk 0 (Ty.mk 0 []) [] []),g)else cB (λ(b:Bool)=>if b then some ((Fm.mk 0 (Ty.mk 0 []) [] []),1)else bU (c_ a0 a1 a2) λc=>some (c,0)) λa=>bU (lS a1) λd=>if d then bU (lS a2) λe=>if e then bU (lU a0) λf=>a (mq f)else a true else a true
def fL:Nat->Fm->Int->Option Int
 |0,_,_=>none|n+1,a0,a1=>b8 (eL a0) λg i=>if cr a0.acH 1 then some (da .i64 (da .i64 g 2) (y9 .i64 2 a1))else if cr a0.acH 5 then bU (cq a0.acI 0) λb=>bU (fL n b a1) λc=>some (da .i64 (da .i64 c 3) (y9 .i64 2 a1))else ef (c0 a0.acI)<|cB (λ(h:Int) (d:Fm)=>(λ(a:Int)=>bU (fL n d a1) λe=>some (.next (da .i64 a e))):Int->Fm->(Int)->(Option (dJ (Int) (Int)))) λf=>bU (cY f a0.acI 0 1) (dI (λ(a:Int)=>some a) (λr=>some r))
def nG(a0 a1:Fm):Option Int:=bU (fA a0) λf=>if cG f 0 then some f else bU (fA a1) λa=>if cG a 0 then some a else bU (jF FU a1) λc=>if c then some 10 else b8 (pZ a0 0 1) λg b=>if cG b 0 then some b else b8 (eL a0) λd h=>bU (fL FU a1 d) λe=>if m8 e 4096 then some 4 else some 0
def qL(a0:Int)(a1:List Fm):Option Fm:=some (Fm.mk a0 (Ty.mk 0 []) [] a1)
def jr(a0 a1:Fm):Option Fm:=bU (qL 3 [a0,a1]) λa=>some a
def sC:Nat->Tm->Option Tm
 |0,_=>none|n+1,a0=>bU (iq FU a0.b7) λd=>ef (c0 a0.acI)<|cB (λ(e:Int) (b:Tm)=>(λ(v72:List Tm)=>bU (sC n b) λa=>ef (dP v72 [a])<|some (.next (dN v72 [a]))):Int->Tm->(List Tm)->(Option (dJ (List Tm) (Tm)))) λc=>bU (cY c a0.acI 0 []) (dI (λ(v72:List Tm)=>some (Tm.mk a0.acH a0.acK d v72)) (λr=>some r))
def iD(a0:Tm)(a1:Int):Option Tm:=bU (sC FU a0) λa=>some a
def hH(a0:Fm):Option Fm:=b8 (cL FU a0 0 (λ(s:Unit) (a:Tm) (b:Int)=>mK (iD a b) s) ()) λc d=>some c
def eW(a0:Int)(a1:Ty)(a2:Fm):Option Fm:=some (Fm.mk a0 a1 [] [a2])
def mi:Nat->Fm->Option Fm
 |0,a=>some a|k+1,a=>bU (mi k a) λx=>c_ x 0 1
def fg:Nat->Fm->Fm->Nat->Option Fm
 |0,_,_,_=>none|n+1,a,f,k=>if cr f.acH 1 then bU (mi k a) λx=>bU (jr f x) λy=>bU (jr y x) λz=>some z else if dq (cr f.acH 2) true (cr f.acH 3)then bU (cq f.acI 0) λx=>bU (fg n a x k) λy=>bU (cq f.acI 1) λu=>bU (fg n a u k) λv=>bU (qL f.acH [y,v]) λz=>some z else if cr f.acH 4 then bU (cq f.acI 0) λx=>bU (fg n a x (k+1)) λy=>bU (eW 4 f.b7 y) λz=>some z else bU (cq f.acI 0) λx=>bU (fg n a x (k+1)) λy=>bU (mi (k+1) a) λu=>bU (jr y u) λv=>bU (eW 4 f.b7 v) λw=>bU (mi k a) λq=>bU (jr w q) λz=>some z
def iF(a0 a1:Fm):Option (Fm×Int):=bU (nG a0 a1) λe=>if cG e 0 then some ((Fm.mk 0 (Ty.mk 0 []) [] []),e)else bU (fg FU a0 a1 0) λx=>bU (hH x) λy=>some (y,0)
def jN:Nat->Fm->Option Fm
 |0,_=>none|n+1,a0=>bU (gr FU a0.b7) λi=>ef (c0 a0.cv)<|cB (λ(j:Int) (f:Tm)=>(λ(v72:List Tm)=>bU (jQ FU f) λc=>ef (dP v72 [c])<|some (.next (dN v72 [c]))):Int->Tm->(List Tm)->(Option (dJ (List Tm) (Fm)))) λg=>bU (cY g a0.cv 0 []) (dI (λ(v72:List Tm)=>ef (c0 a0.acI)<|cB (λ(h:Int) (d:Fm)=>(λ(a:List Fm)=>bU (jN n d) λb=>ef (dP a [b])<|some (.next (dN a [b]))):Int->Fm->(List Fm)->(Option (dJ (List Fm) (Fm)))) λe=>bU (cY e a0.acI 0 []) (dI (λ(a:List Fm)=>some (Fm.mk a0.acH i v72 a)) (λr=>some r))) (λr=>some r))
def gf(a0:Int)(a1 a2:Fm):Option Fm:=bU (jN FU a1) λa=>bU (jN FU a2) λb=>some (Fm.mk a0 (Ty.mk 0 []) [] [a,b])
def dr:Nat->Ty->Ty->Option Bool
 |0,_,_=>none|n+1,a0,a1=>if dq (cG a0.acH a1.acH) true (cG (cE a0.acI) (cE a1.acI))then some false else ef (c0 a0.acI)<|cB (λ(c:Int) (d:Ty)=>(λ(_:Unit)=>bU (cq a1.acI c) λa=>bU (dr n d a) λb=>if b then some (.next ())else some (.ret false)):Int->Ty->(Unit)->(Option (dJ (Unit) (Bool)))) λe=>bU (cY e a0.acI 0 ()) (dI (λ(_:Unit)=>some true) (λr=>some r))
def ir:Nat->Tm->Tm->Option Bool
 |0,_,_=>none|n+1,a0,a1=>cB (λ(d:Bool)=>if d then some false else ef (c0 a0.acI)<|cB (λ(e:Int) (f:Tm)=>(λ(_:Unit)=>bU (cq a1.acI e) λb=>bU (ir n f b) λc=>if c then some (.next ())else some (.ret false)):Int->Tm->(Unit)->(Option (dJ (Unit) (Bool)))) λg=>bU (cY g a0.acI 0 ()) (dI (λ(_:Unit)=>some true) (λr=>some r))) λa=>if cG a0.acH a1.acH then a true else if cG a0.acK a1.acK then a true else bU (dr FU a0.b7 a1.b7) λh=>if h then a (cG (cE a0.acI) (cE a1.acI))else a true
def oI(a0 a1:List Tm):Option Bool:=if cG (cE a0) (cE a1)then some false else ef (c0 a0)<|cB (λ(c:Int) (d:Tm)=>(λ(_:Unit)=>bU (cq a1 c) λa=>bU (ir FU d a) λb=>if b then some (.next ())else some (.ret false)):Int->Tm->(Unit)->(Option (dJ (Unit) (Bool)))) λe=>bU (cY e a0 0 ()) (dI (λ(_:Unit)=>some true) (λr=>some r))
def nF:Nat->Fm->Fm->Option Bool
 |0,_,_=>none|n+1,a0,a1=>cB (λ(v21:Bool)=>if v21 then some false else ef (c0 a0.acI)<|cB (λ(e:Int) (f:Fm)=>(λ(_:Unit)=>bU (cq a1.acI e) λb=>bU (nF n f b) λc=>if c then some (.next ())else some (.ret false)):Int->Fm->(Unit)->(Option (dJ (Unit) (Bool)))) λd=>bU (cY d a0.acI 0 ()) (dI (λ(_:Unit)=>some true) (λr=>some r))) λa=>if cG a0.acH a1.acH then a true else bU (dr FU a0.b7 a1.b7) λg=>if g then bU (oI a0.cv a1.cv) λh=>if h then a (cG (cE a0.acI) (cE a1.acI))else a true else a true
def sR:Option Bool:=bU (rJ 0) λd=>bU (rJ 0) λe=>bU (nS d e) λb=>bU (rJ 1) λf=>bU (rJ 2) λg=>bU (nS f g) λa=>b8 (iF a b) λh i=>cB (λ(v46:Bool)=>some v46) λc=>if cr i 0 then bU (gf 3 b a) λj=>bU (gf 3 j a) λk=>bU (nF FU h k) λl=>c l else c false
def Es(a0:List Int):Option Bool:=some (Dh (cE a0) 500)
def La(l:List Int):Option cH:=some ⟨l,0⟩
def E7(a0 a1:Int):Option Int:=ef (G2 a1)<|ef (G2 a1)<|some (QA .i64 (da .i64 (QA .i64 a0 a1) a1) a1)
def eQ(a0:cH)(a1:Int):Option (Int×cH):=if dq (tD a1 1) true (qf a0.ua (cE a0.l))then some (0,a0)else bU (cq a0.l a0.ua) λa=>bU (E7 a a1) λb=>some (b,(cH.mk a0.l (da .i64 a0.ua 1)))
def ib:Option Ty:=some (Ty.mk 1 [])
def lu:Option Ty:=some (Ty.mk 2 [])
def sG:Option Ty:=some (Ty.mk 5 [])
def sb(a0 a1:Ty):Option Ty:=bU (gr FU a0) λa=>bU (gr FU a1) λb=>some (Ty.mk 3 [a,b])
def i_(a0 a1:Ty):Option Ty:=bU (gr FU a0) λa=>bU (gr FU a1) λb=>some (Ty.mk 4 [a,b])
def j7:Nat->cH->Int->Option (Ty×cH)
 |0,_,_=>none|n+1,a0,a1=>cB (λ(g:cH)=>bU (ib) λc=>some (c,g)) λb=>b8 (eQ a0 7) λa d63=>if dq (cr a 0) true (dq (cr a 1) true (cr a 2))then bU (ib) λh=>some (h,d63)else if cr a 3 then bU (lu) λi=>some (i,d63)else if cr a 4 then bU (sG) λj=>some (j,d63)else if cr a 5 then if m8 a1 0 then b8 (j7 n d63 (di .i64 a1 1)) λk d89=>b8 (j7 n d89 (di .i64 a1 1)) λl d92=>bU (sb k l) λm=>some (m,d92)else b d63 else if cr a 6 then if m8 a1 0 then b8 (j7 n d63 (di .i64 a1 1)) λd d105=>b8 (j7 n d105 (di .i64 a1 1)) λe d108=>bU (i_ d e) λf=>some (f,d108)else b d63 else b d63
def su(a0:cH):Option ((List Ty)×cH):=b8 (eQ a0 4) λe d36=>cB ((Tr λ(a:List Ty) (b:Int) (c:cH)=>if m8 b 0 then b8 (j7 FU c 1) λd d75=>ef (dP a [d])<|some (.next ((dN a [d]),(di .i64 b 1),d75))else some (.Fy (a,b,c))):((List Ty)×Int×cH)->(Option (dJ ((List Ty)×Int×cH) ((List Ty)×cH)))) λf=>bU (mJ f FU ([],e,d36)) (dI (Tr λ(a:List Ty) (b:Int) (c:cH)=>some (a,c)) (λr=>some r))
def Ah(a0:List Ty)(a1:Ty):Option (List Int):=ef (c0 a0)<|cB (λ(b:Int) (g:Ty)=>(λ(a:List Int)=>cB (λ(c:List Int)=>some (.next c)) λj201=>bU (cq a0 (di .i64 (di .i64 (cE a0) 1) b)) λd=>bU (dr FU d a1) λe=>if e then ef (dP a [b])<|j201 (dN a [b])else j201 a):Int->Ty->(List Int)->(Option (dJ (List Int) (List Int)))) λf=>bU (cY f a0 0 []) (dI (λ(a:List Int)=>some a) (λr=>some r))
def eJ(a0:Int):Option Tm:=some (Tm.mk 1 a0 (Ty.mk 0 []) [])
def o8(a0 a1:List Ty):Option (List Ty):=ef (dP [] a0)<|ef (dP (dN [] a0) a1)<|some (dN (dN [] a0) a1)
def j5(a0:Int)(a1:Ty)(a2:List Tm):Option Tm:=bU (dR a0 a2) λa=>bU (gr FU a1) λb=>some (Tm.mk a.acH a.acK b a.acI)
def jb(a0:Tm):Option Tm:=bU (ib) λa=>bU (j5 2 a [a0]) λb=>some b
def qm(a0 a1 a2:Tm):Option Tm:=bU (ib) λa=>bU (j5 6 a [a0,a1,a2]) λb=>some b
def s5:Option Tm:=bU (eJ 1) λa=>bU (eJ 0) λb=>bU (dR 5 [b]) λc=>bU (jb c) λd=>bU (jb d) λe=>bU (eJ 0) λf=>bU (qm a e f) λg=>bU (jb g) λh=>bU (jb h) λi=>some i
def BN(a0:Tm)(a1:List Tm):Option Tm:=ef (c0 a1)<|cB (λ(h:Int) (f:Tm)=>(Zs λ(b:Int) (c:Int) (v46:Int) (d:List Ty) (e:List Tm)=>bU (dR 3 [(Tm.mk b c (Ty.mk v46 d) e),f]) λa=>some (.next (a.acH,a.acK,a.b7.acH,a.b7.acI,a.acI))):Int->Tm->(Int×Int×Int×(List Ty)×(List Tm))->(Option (dJ (Int×Int×Int×(List Ty)×(List Tm)) (Tm)))) λg=>bU (cY g a1 0 (a0.acH,a0.acK,a0.b7.acH,a0.b7.acI,a0.acI)) (dI (Zs λ(b:Int) (c:Int) (v46:Int) (d:List Ty) (e:List Tm)=>some (Tm.mk b c (Ty.mk v46 d) e)) (λr=>some r))
def sK:Option Tm:=bU (dR 4 []) λa=>bU (eJ 1) λb=>bU (jb b) λc=>bU (jb c) λd=>bU (eJ 0) λe=>bU (qm a d e) λf=>bU (jb f) λg=>some g
def uM:Option Tm:=bU (eJ 1) λa=>bU (sK) λb=>bU (eJ 0) λc=>bU (dR 3 [b,c]) λd=>bU (jb d) λe=>bU (jb e) λf=>bU (eJ 0) λg=>bU (qm a f g) λh=>bU (jb h) λi=>bU (jb i) λj=>some j
def eA:Nat->cH->(List Ty)->Ty->Int->Option (Tm×cH)
 |0,_,_,_,_=>none|n+1,a0,a1,a2,a3=>bU (Ah a1 a2) λx3=>cB (λ(v37:Bool) (p:cH)=>if v37 then b8 (eQ p (cE x3)) λbC d51=>bU (cq x3 bC) λbD=>bU (eJ bD) λbE=>some (bE,d51)else cB (λ(b:cH)=>if cr a2.acH 1 then cB (λ(q:cH)=>b8 (eQ q 3) λs t=>bU (rJ s) λu=>some (u,t)) λg=>if m8 a3 0 then b8 (eQ b 5) λe d=>if cr e 0 then b8 (eA n d a1 a2 (di .i64 a3 1)) λv w=>bU (dR 5 [v]) λx=>some (x,w)else if cr e 1 then bU (s5) λy=>b8 (eA n d a1 a2 (di .i64 a3 1)) λz A=>b8 (eA n A a1 a2 (di .i64 a3 1)) λB C=>bU (BN y [z,B]) λD=>some (D,C)else if cr e 2 then bU (uM) λE=>b8 (eA n d a1 a2 (di .i64 a3 1)) λF G=>b8 (eA n G a1 a2 (di .i64 a3 1)) λH I=>bU (BN E [F,H]) λJ=>some (J,I)else g d else g b else if cr a2.acH 2 then cB (λ(K:Bool) (h:cH)=>if K then bU (ib) λL=>b8 (eA n h a1 L (di .i64 a3 1)) λM N=>b8 (eA n N a1 a2 (di .i64 a3 1)) λO P=>bU (dR 8 [M,O]) λQ=>some (Q,P)else bU (dR 7 []) λR=>some (R,h)) λi=>if m8 a3 0 then b8 (eQ b 2) λS T=>i (cr S 0) T else i false b else if cr a2.acH 3 then bU (cq a2.acI 0) λU=>b8 (eA n b a1 U (di .i64 a3 1)) λV W=>bU (cq a2.acI 1) λX=>b8 (eA n W a1 X (di .i64 a3 1)) λY Z=>bU (dR 10 [V,Y]) λaa=>some (aa,Z)else if cr a2.acH 4 then bU (cq a2.acI 0) λj=>bU (o8 a1 [j]) λab=>bU (cq a2.acI 1) λad=>b8 (eA n b ab ad (di .i64 a3 1)) λae af=>bU (j5 2 j [ae]) λah=>some (ah,af)else bU (dR 13 []) λai=>some (ai,b)) λk=>if m8 a3 0 then b8 (eQ p 8) λc a=>if cr c 0 then b8 (j7 FU a 0) λl aA=>bU (o8 a1 [l]) λaB=>b8 (eA n aA aB a2 (di .i64 a3 1)) λaC aD=>bU (j5 2 l [aC]) λaE=>b8 (eA n aD a1 l (di .i64 a3 1)) λaF aG=>bU (dR 3 [aE,aF]) λaH=>some (aH,aG)else if cr c 1 then b8 (j7 FU a 0) λaI aJ=>b8 (eA n aJ a1 a2 (di .i64 a3 1)) λaK aL=>b8 (eA n aL a1 aI (di .i64 a3 1)) λaM aN=>bU (dR 10 [aK,aM]) λaO=>bU (dR 11 [aO]) λaP=>some (aP,aN)else if cr c 2 then bU (ib) λaQ=>bU (ib) λaR=>bU (o8 a1 [aR,a2]) λaS=>b8 (eA n a aS a2 (di .i64 a3 1)) λaT aU=>bU (j5 2 a2 [aT]) λaV=>bU (j5 2 aQ [aV]) λaW=>b8 (eA n aU a1 a2 (di .i64 a3 1)) λaX aY=>b8 (eQ aY 3) λaZ a6=>bU (rJ aZ) λa7=>bU (j5 6 a2 [aX,aW,a7]) λa8=>some (a8,a6)else if cr c 3 then bU (ib) λa_=>bU (lu) λa'=>bU (ib) λba=>bU (lu) λbb=>bU (o8 a1 [ba,bb,a2]) λbc=>b8 (eA n a bc a2 (di .i64 a3 1)) λbd bf=>bU (j5 2 a2 [bd]) λbg=>bU (j5 2 a' [bg]) λbh=>bU (j5 2 a_ [bh]) λbj=>b8 (eA n bf a1 a2 (di .i64 a3 1)) λbk bl=>bU (lu) λbm=>b8 (eA n bl a1 bm (di .i64 a3 1)) λbn bo=>bU (j5 9 a2 [bk,bj,bn]) λbp=>some (bp,bo)else if cr c 4 then b8 (j7 FU a 0) λbq br=>b8 (eA n br a1 bq (di .i64 a3 1)) λbs bt=>b8 (eA n bt a1 a2 (di .i64 a3 1)) λbu bw=>bU (dR 10 [bs,bu]) λbz=>bU (dR 12 [bz]) λbA=>some (bA,bw)else if cr c 5 then ef (c0 a1)<|cB (λ(o:Int) (bG:Ty)=>(λ(_:Unit)=>bU (cq a1 (di .i64 (di .i64 (cE a1) 1) o)) λf=>cB (λ(ak:Bool)=>if ak then bU (eJ o) λan=>bU (cq f.acI 0) λao=>b8 (eA n a a1 ao (di .i64 a3 1)) λaq ar=>bU (dR 3 [an,aq]) λaw=>some (.ret (aw,ar))else some (.next ())) λm=>if cr f.acH 4 then bU (cq f.acI 1) λax=>bU (dr FU ax a2) λay=>m ay else m false):Int->Ty->(Unit)->(Option (dJ (Unit) (Tm×cH)))) λaz=>bU (cY az a1 0 ()) (dI (λ(_:Unit)=>k a) (λr=>some r))else k a else k p) λbB=>if m8 (cE x3) 0 then b8 (eQ a0 3) λbF d41=>bB (m8 bF 0) d41 else bB false a0
def ic(a0:Int)(a1:Ty)(a2:Fm):Option Fm:=bU (gr FU a1) λa=>bU (jN FU a2) λb=>some (Fm.mk a0 a [] [b])
def nq(a0:Ty):Option Bool:=some (dq (cr a0.acH 0) (cr (cE a0.acI) 0) false)
def sJ(a0:Int):Option Int:=if dq (cr a0 1) true (dq (cr a0 4) true (dq (cr a0 7) true (cr a0 13)))then some 0 else if dq (cr a0 2) true (dq (cr a0 5) true (dq (cr a0 11) true (cr a0 12)))then some 1 else if dq (cr a0 3) true (dq (cr a0 8) true (cr a0 10))then some 2 else if dq (cr a0 6) true (cr a0 9)then some 3 else some (-1)
def nT:Nat->Ty->Option Bool
 |0,_=>none|n+1,a0=>cB (λ(v10:Int)=>if cG (cE a0.acI) v10 then some false else ef (c0 a0.acI)<|cB (λ(e:Int) (b:Ty)=>(λ(_:Unit)=>bU (nT n b) λc=>if c then some (.next ())else some (.ret false)):Int->Ty->(Unit)->(Option (dJ (Unit) (Bool)))) λd=>bU (cY d a0.acI 0 ()) (dI (λ(_:Unit)=>some true) (λr=>some r))) λa=>if dq (cr a0.acH 1) true (dq (cr a0.acH 2) true (cr a0.acH 5))then a 0 else if dq (cr a0.acH 3) true (cr a0.acH 4)then a 2 else some false
def oT:Nat->Ty->Option Int
 |0,_=>none|n+1,a0=>ef (c0 a0.acI)<|cB (λ(e:Int) (b:Ty)=>(λ(a:Int)=>bU (oT n b) λc=>some (.next (da .i64 a c))):Int->Ty->(Int)->(Option (dJ (Int) (Int)))) λd=>bU (cY d a0.acI 0 1) (dI (λ(a:Int)=>some a) (λr=>some r))
def gk(a0:Ty):Option Int:=bU (nT FU a0) λb=>if b then bU (oT FU a0) λa=>if m8 a 64 then some 4 else some 0 else some 2
def iN:Nat->Tm->Option Bool
 |0,_=>none|n+1,a0=>cB (λ(v21:Bool)=>if v21 then some false else cB (ef (c0 a0.acI)<|cB (λ(i:Int) (c:Tm)=>(λ(_:Unit)=>bU (iN n c) λd=>if d then some (.next ())else some (.ret false)):Int->Tm->(Unit)->(Option (dJ (Unit) (Bool)))) λe=>bU (cY e a0.acI 0 ()) (dI (λ(_:Unit)=>some true) (λr=>some r))) λb=>if dq (cr a0.acH 2) true (dq (cr a0.acH 6) true (cr a0.acH 9))then bU (gk a0.b7) λf=>if cG f 0 then some false else b else bU (nq a0.b7) λg=>if g then b else some false) λa=>bU (sJ a0.acH) λh=>if cG (cE a0.acI) h then a true else if tD a0.acK 0 then a true else if cG a0.acH 1 then a (cG a0.acK 0)else a false
def je(a0:Int):Option Bool:=some (dq (cr a0 4) true (dq (cr a0 5) true (dq (cr a0 6) true (cr a0 7))))
def km:Nat->Fm->Option Bool
 |0,_=>none|n+1,a0=>if cr a0.acH 1 then cB (λ(o:Bool)=>some o) λc=>if cr (cE a0.acI) 0 then bU (nq a0.b7) λp=>if p then if cr (cE a0.cv) 2 then bU (cq a0.cv 0) λq=>bU (iN FU q) λr=>if r then bU (cq a0.cv 1) λs=>bU (iN FU s) λt=>c t else c false else c false else c false else c false else if dq (cr a0.acH 2) true (cr a0.acH 3)then cB (λ(d:Bool)=>some d) λa=>if cr (cE a0.cv) 0 then bU (nq a0.b7) λe=>if e then if cr (cE a0.acI) 2 then bU (cq a0.acI 0) λf=>bU (km n f) λg=>if g then bU (cq a0.acI 1) λh=>bU (km n h) λi=>a i else a false else a false else a false else a false else bU (je a0.acH) λj=>if j then cB (λ(v141:Bool)=>some v141) λb=>if cr (cE a0.cv) 0 then bU (gk a0.b7) λk=>if cr k 0 then if cr (cE a0.acI) 1 then bU (cq a0.acI 0) λl=>bU (km n l) λm=>b m else b false else b false else b false else some false
def dG:Nat->Tm->Option Int
 |0,_=>none|n+1,a0=>ef (c0 a0.acI)<|cB (λ(e:Int) (b:Tm)=>(λ(a:Int)=>bU (dG n b) λc=>some (.next (da .i64 a c))):Int->Tm->(Int)->(Option (dJ (Int) (Int)))) λd=>bU (cY d a0.acI 0 1) (dI (λ(a:Int)=>some a) (λr=>some r))
def iR:Nat->Fm->Option Int
 |0,_=>none|n+1,a0=>ef (c0 a0.cv)<|cB (λ(h:Int) (b:Tm)=>(λ(a:Int)=>bU (dG FU b) λc=>some (.next (da .i64 a c))):Int->Tm->(Int)->(Option (dJ (Int) (Int)))) λd=>bU (cY d a0.cv 0 1) (dI (λ(a:Int)=>ef (c0 a0.acI)<|cB (λ(i:Int) (e:Fm)=>(λ(v75:Int)=>bU (iR n e) λf=>some (.next (da .i64 v75 f))):Int->Fm->(Int)->(Option (dJ (Int) (Int)))) λg=>bU (cY g a0.acI 0 a) (dI (λ(v75:Int)=>some v75) (λr=>some r))) (λr=>some r))
def hY(a0:Fm):Option Int:=bU (km FU a0) λb=>if b then bU (iR FU a0) λa=>if m8 a 4096 then some 4 else some 0 else some 2
def jm:Nat->Fm->Option Bool
 |0,_=>none|n+1,a0=>if dq (cr a0.acH 6) true (cr a0.acH 7)then some true else ef (c0 a0.acI)<|cB (λ(d:Int) (a:Fm)=>(λ(_:Unit)=>bU (jm n a) λb=>if b then some (.ret true)else some (.next ())):Int->Fm->(Unit)->(Option (dJ (Unit) (Bool)))) λc=>bU (cY c a0.acI 0 ()) (dI (λ(_:Unit)=>some false) (λr=>some r))
def jC:Nat->Tm->Int->Option Bool
 |0,_,_=>none|n+1,a0,a1=>if m8 a0.acK a1 then some false else ef (c0 a0.acI)<|cB (λ(d:Int) (a:Tm)=>(λ(_:Unit)=>bU (jC n a a1) λb=>if b then some (.next ())else some (.ret false)):Int->Tm->(Unit)->(Option (dJ (Unit) (Bool)))) λc=>bU (cY c a0.acI 0 ()) (dI (λ(_:Unit)=>some true) (λr=>some r))
def l0:Nat->Fm->Int->Option Bool
 |0,_,_=>none|n+1,a0,a1=>ef (c0 a0.cv)<|cB (λ(g:Int) (a:Tm)=>(λ(_:Unit)=>bU (jC FU a a1) λb=>if b then some (.next ())else some (.ret false)):Int->Tm->(Unit)->(Option (dJ (Unit) (Bool)))) λc=>bU (cY c a0.cv 0 ()) (dI (λ(_:Unit)=>ef (c0 a0.acI)<|cB (λ(h:Int) (d:Fm)=>(λ(_:Unit)=>bU (l0 n d a1) λe=>if e then some (.next ())else some (.ret false)):Int->Fm->(Unit)->(Option (dJ (Unit) (Bool)))) λf=>bU (cY f a0.acI 0 ()) (dI (λ(_:Unit)=>some true) (λr=>some r))) (λr=>some r))
def kf:Nat->Fm->Int->Option Int
 |0,_,_=>none|n+1,a0,a1=>cB (λ(b:Int)=>some (O' b 4097)) λa=>if cr a0.acH 1 then bU (iR FU a0) λc=>a (da .i64 (da .i64 c (y9 .i64 2 a1)) 2)else if cr a0.acH 5 then bU (cq a0.acI 0) λd=>bU (kf n d a1) λe=>a (da .i64 (da .i64 e (y9 .i64 2 a1)) 3)else ef (c0 a0.acI)<|cB (λ(i:Int) (f:Fm)=>(λ(v49:Int)=>bU (kf n f a1) λg=>some (.next (da .i64 v49 g))):Int->Fm->(Int)->(Option (dJ (Int) (Int)))) λh=>bU (cY h a0.acI 0 1) (dI (λ(v49:Int)=>a v49) (λr=>some r))
def oA(a0 a1:Fm):Option Int:=bU (hY a0) λf=>if cG f 0 then some f else bU (hY a1) λa=>if cG a 0 then some a else bU (jm FU a1) λb=>if b then some 10 else bU (l0 FU a0 536870912) λc=>if c then bU (iR FU a0) λd=>bU (kf FU a1 d) λe=>if m8 e 4096 then some 4 else some 0 else some 1
def pc(a0 a1:Fm):Option Fm:=bU (gf 3 a0 a1) λa=>some a
def jz(a0:Tm):Option Int:=if cr a0.acH 2 then some 1 else some 0
def pO:Nat->Tm->Int->Int->Option Tm
 |0,_,_,_=>none|n+1,a0,a1,a2=>ef (c0 a0.acI)<|cB (λ(e:Int) (d:Tm)=>(λ(v105:List Tm)=>bU (jz a0) λb=>bU (pO n d (da .i64 a1 b) a2) λa=>ef (dP v105 [a])<|some (.next (dN v105 [a]))):Int->Tm->(List Tm)->(Option (dJ (List Tm) (Tm)))) λc=>bU (cY c a0.acI 0 []) (dI (λ(v105:List Tm)=>some (Tm.mk a0.acH (dq (dq (cr a0.acH 1) (qf a0.acK a1) false) (da .i64 a0.acK a2) a0.acK) a0.b7 v105)) (λr=>some r))
def kO(a0:Fm):Option Int:=bU (je a0.acH) λa=>if a then some 1 else some 0
def ft:Nat->Fm->Int->Int->Option Fm
 |0,_,_,_=>none|n+1,a0,a1,a2=>ef (c0 a0.cv)<|cB (λ(k:Int) (h:Tm)=>(λ(b:List Tm)=>bU (pO FU h a1 a2) λd=>ef (dP b [d])<|some (.next (dN b [d]))):Int->Tm->(List Tm)->(Option (dJ (List Tm) (Fm)))) λi=>bU (cY i a0.cv 0 []) (dI (λ(b:List Tm)=>ef (c0 a0.acI)<|cB (λ(j:Int) (e:Fm)=>(λ(a:List Fm)=>bU (kO a0) λf=>bU (ft n e (da .i64 a1 f) a2) λc=>ef (dP a [c])<|some (.next (dN a [c]))):Int->Fm->(List Fm)->(Option (dJ (List Fm) (Fm)))) λg=>bU (cY g a0.acI 0 []) (dI (λ(a:List Fm)=>some (Fm.mk a0.acH a0.b7 b a)) (λr=>some r))) (λr=>some r))
def sS(a0:Fm):Option Fm:=bU (ft FU a0 0 1) λa=>some a
mutual
def m5:Nat->Fm->Fm->Option Fm
 |0,_,_=>none|n+1,a0,a1=>if cr a1.acH 1 then bU (pc a1 a0) λa=>bU (pc a a0) λb=>some b else if dq (cr a1.acH 2) true (cr a1.acH 3)then bU (cq a1.acI 0) λc=>bU (m5 n a0 c) λd=>bU (cq a1.acI 1) λe=>bU (m5 n a0 e) λf=>bU (gf a1.acH d f) λg=>some g else if cr a1.acH 4 then bU (sS a0) λh=>bU (cq a1.acI 0) λi=>bU (m5 n h i) λj=>bU (ic 4 a1.b7 j) λk=>some k else bU (qQ n a0 a1) λl=>bU (pc l a0) λm=>some m
def qQ:Nat->Fm->Fm->Option Fm
 |0,_,_=>none|n+1,a0,a1=>bU (sS a0) λa=>bU (cq a1.acI 0) λb=>bU (m5 n a b) λc=>bU (sS a0) λd=>bU (pc c d) λe=>bU (ic 4 a1.b7 e) λf=>some f
end
def kb(a0 a1:Fm):Option (Fm×Int):=bU (oA a0 a1) λc=>if cG c 0 then some ((Fm.mk 0 (Ty.mk 0 []) [] []),c)else bU (m5 FU a0 a1) λa=>bU (jN FU a) λb=>some (b,0)
def so(a0:Int):Option Pf:=some (Pf.mk 1 a0 (Ty.mk 0 []) [] [] [])
def kh(a0:Int):Option (c9×Bool):=if dq (tD a0 1) true (qf a0 21)then some ((c9.mk false false 0 0 0 0 0 0),false)else bU (cq ll a0) λa=>some (a,true)
def nV(a0:c8)(a1:c9)(a2:Int):Option c8:=some (c8.mk (dq (cr a2 (di .i64 a1.acI 1)) (da .i64 a0.vars a1.vars) a0.vars) (dq (cr a2 (di .i64 a1.acI 1)) (da .i64 a0.acO a1.acO) a0.acO))
def im:Nat->Pf->c8->Int->Option Pf
 |0,_,_,_=>none|n+1,a0,a1,a2=>b8 (kh a0.acH) λq t=>bU (iq FU a0.b7) λl=>ef (c0 a0.cv)<|cB (λ(s:Int) (m:Tm)=>(λ(b:List Tm)=>bU (sC FU m) λe=>ef (dP b [e])<|some (.next (dN b [e]))):Int->Tm->(List Tm)->(Option (dJ (List Tm) (Pf)))) λo=>bU (cY o a0.cv 0 []) (dI (λ(b:List Tm)=>ef (c0 a0.dw)<|cB (λ(p:Int) (f:Fm)=>(λ(v164:List Fm)=>bU (hH f) λc=>ef (dP v164 [c])<|some (.next (dN v164 [c]))):Int->Fm->(List Fm)->(Option (dJ (List Fm) (Pf)))) λg=>bU (cY g a0.dw 0 []) (dI (λ(v164:List Fm)=>ef (c0 a0.acI)<|cB (λ(h:Int) (i:Pf)=>(λ(a:List Pf)=>bU (nV a1 q h) λj=>bU (im n i j a2) λd=>ef (dP a [d])<|some (.next (dN a [d]))):Int->Pf->(List Pf)->(Option (dJ (List Pf) (Pf)))) λk=>bU (cY k a0.acI 0 []) (dI (λ(a:List Pf)=>some (Pf.mk a0.acH a0.acK l b v164 a)) (λr=>some r))) (λr=>some r))) (λr=>some r))
def q8(a0:Pf):Option Pf:=bU (im FU a0 (c8.mk 0 0) 0) λa=>some a
def iC(a0:Tm):Option (Int×Int):=b8 (gW FU a0) λa b=>if b then if m8 a 4096 then some (0,4)else some (a,0)else some (0,2)
def eV(a0:cb)(a1 a2:Int):Option (Bool×cb):=some ((cG a2 2),(dq a0.fI (cb.mk (da .i64 a0.acJ a1) true) (cb.mk (da .i64 a0.acJ a1) (cr a2 4))))
def fP:Nat->cb->Pf->Option (Bool×cb)
 |0,_,_=>none|n+1,a0,a1=>b8 (kh a1.acH) λd A=>if dq A (dq (tD a1.acK 0) true (dq (cG a1.acK 0) (dq d.acK (dq (cG (cE a1.cv) d.cv) true (dq (cG (cE a1.dw) d.dw) true (cG (cE a1.acI) d.acI))) true) (dq (cG (cE a1.cv) d.cv) true (dq (cG (cE a1.dw) d.dw) true (cG (cE a1.acI) d.acI))))) true then some (false,a0)else cB (λ(u:cb)=>ef (c0 a1.cv)<|cB (λ(B:Int) (v:Tm)=>(λ(a:cb)=>b8 (iC v) λf g=>b8 (eV a f g) λh d179=>if h then some (.next d179)else some (.ret (false,d179))):Int->Tm->(cb)->(Option (dJ (cb) (Bool×cb)))) λi=>bU (cY i a1.cv 0 u) (dI (λ(a:cb)=>ef (c0 a1.dw)<|cB (λ(y:Int) (j:Fm)=>(λ(b:cb)=>b8 (eL j) λk l=>b8 (eV b k l) λm d322=>if m then some (.next d322)else some (.ret (false,d322))):Int->Fm->(cb)->(Option (dJ (cb) (Bool×cb)))) λo=>bU (cY o a1.dw 0 a) (dI (λ(b:cb)=>ef (c0 a1.acI)<|cB (λ(z:Int) (p:Pf)=>(λ(c:cb)=>b8 (fP n c p) λq e=>if q then some (.next e)else some (.ret (false,e))):Int->Pf->(cb)->(Option (dJ (cb) (Bool×cb)))) λs=>bU (cY s a1.acI 0 b) (dI (λ(c:cb)=>some (true,c)) (λr=>some r))) (λr=>some r))) (λr=>some r))) λt=>if d.typed then b8 (gp a1.b7) λC w=>if cG w 0 then some (false,(cb.mk (da .i64 a0.acJ 1) a0.fI))else t (cb.mk (da .i64 a0.acJ 1) a0.fI)else bU (l_ a1.b7) λx=>if x then t (cb.mk (da .i64 a0.acJ 1) a0.fI)else some (false,(cb.mk (da .i64 a0.acJ 1) a0.fI))
def oO(a0:Pf):Option (Int×Int):=b8 (fP FU (cb.mk 0 false) a0) λa d14=>if a then if dq d14.fI true (m8 d14.acJ 16384)then some (0,4)else some (d14.acJ,0)else some (0,2)
def nw(a0:Pf):Option Int:=b8 (oO a0) λb a=>some a
def Ff(a0:Int):Option Pf:=some (Pf.mk 1 a0 (Ty.mk 0 []) [] [] [])
def q9(a0:Int):Option Pf:=bU (Ff a0) λa=>some a
def pH(a0:Fm)(a1:Pf):Option Pf:=some (Pf.mk 6 0 (Ty.mk 0 []) [] [a0] [a1])
def nI(a0:Int)(a1:List Pf):Option Pf:=some (Pf.mk a0 0 (Ty.mk 0 []) [] [] a1)
def pN(a0 a1:Pf):Option Pf:=bU (nI 7 [a0,a1]) λa=>some a
def tu(a0:Ty)(a1:Pf):Option Pf:=some (Pf.mk 8 0 a0 [] [] [a1])
def Nl(f:Fm)(p:Pf):Pf:=.mk 6 0 (Ty.mk 0 []) [] [f] [p]
def Mf(i:Int):Pf:=.mk 1 i (Ty.mk 0 []) [] [] []
def DD(k:Int)(l:List Pf):Pf:=.mk k 0 (Ty.mk 0 []) [] [] l
def TM(p q:Pf):Pf:=DD 7 [p,q]
def yK:Pf:=.mk 0 0 (Ty.mk 0 []) [] [] []
def AL(a f:Fm)(rm:Int):Option (Bool×Int):=b8 (eL a) λn _=>bU (fL FU f n) λk=>some (dq (Dh k 4096) (qf (di .i64 rm k) 0) false,di .i64 rm k)
def yp(p:Pf)(rm:Int):Option (Pf×Int):=if tD rm 0 then some (yK,4)else bU (nw p) λe=>if cG e 0 then some (yK,4)else bU (q8 p) λq=>some (q,0)
def rv(a0:Bool):Option (Int×Int):=if a0 then some (4,3)else some (5,2)
def mr(a0 a1 b a:Int):Option Int:=if cr (di .i64 a0 a1) b then some (da .i64 a 1)else some a
def qt(a0:Tm)(a1:Int):Option Int:=bU (og a0 (λ(s:Int) (a:Int) (b:Int)=>mr a b a1 s) 0) λc=>some c
def oL(a0:Int)(a1:List Tm):Option Tm:=some (Tm.mk a0 0 (Ty.mk 0 []) a1)
def kS:Option Ty:=some (Ty.mk 1 [])
def sF(a0:Tm)(a1:List Ty):Option Tm:=cB ((Ph λ(a:Int) (b:Int) (v59:Int) (c:Int) (d:List Ty) (e:List Tm)=>if qf a 0 then bU (cq a1 a) λf=>some (.next ((di .i64 a 1),2,0,f.acH,f.acI,[(Tm.mk b v59 (Ty.mk c d) e)]))else some (.Fy (a,b,v59,c,d,e))):(Int×Int×Int×Int×(List Ty)×(List Tm))->(Option (dJ (Int×Int×Int×Int×(List Ty)×(List Tm)) (Tm)))) λg=>bU (mJ g FU ((di .i64 (cE a1) 1),a0.acH,a0.acK,a0.b7.acH,a0.b7.acI,a0.acI)) (dI (Ph λ(a:Int) (b:Int) (v59:Int) (c:Int) (d:List Ty) (e:List Tm)=>some (Tm.mk b v59 (Ty.mk c d) e)) (λr=>some r))
def xB(a0:Int)(a1:Ty)(a2 a3 a4:Tm):Option Tm:=some (Tm.mk a0 0 a1 [a2,a3,a4])
def kM(a0 a1 a2:Tm):Option Tm:=bU (kS) λa=>bU (kS) λb=>bU (kS) λc=>bU (sF a1 [b,c]) λd=>bU (xB 6 a a0 d a2) λe=>some e
def ss:Option Tm:=bU (oL 4 []) λa=>bU (fk 1) λb=>bU (fk 0) λc=>bU (kM a b c) λd=>bU (kS) λe=>bU (sF d [e]) λf=>some f
def qe(a0:Tm)(a1:List Tm):Option Tm:=ef (c0 a1)<|cB (λ(h:Int) (f:Tm)=>(Zs λ(b:Int) (c:Int) (v46:Int) (d:List Ty) (e:List Tm)=>bU (oL 3 [(Tm.mk b c (Ty.mk v46 d) e),f]) λa=>some (.next (a.acH,a.acK,a.b7.acH,a.b7.acI,a.acI))):Int->Tm->(Int×Int×Int×(List Ty)×(List Tm))->(Option (dJ (Int×Int×Int×(List Ty)×(List Tm)) (Tm)))) λg=>bU (cY g a1 0 (a0.acH,a0.acK,a0.b7.acH,a0.b7.acI,a0.acI)) (dI (Zs λ(b:Int) (c:Int) (v46:Int) (d:List Ty) (e:List Tm)=>some (Tm.mk b c (Ty.mk v46 d) e)) (λr=>some r))
def x'(a0:Tm):Option Tm:=bU (kS) λa=>bU (kS) λb=>bU (sF a0 [a,b]) λc=>some c
def uT:Option Tm:=bU (fk 1) λa=>bU (ss) λb=>bU (fk 0) λc=>bU (qe b [c]) λd=>bU (fk 0) λe=>bU (kM a d e) λf=>bU (x' f) λg=>some g
def ox(a0 a1:Tm):Option Fm:=some (Fm.mk 1 (Ty.mk 0 []) [a0,a1] [])
def sw(a0 a1:Tm):Option Fm:=bU (uT) λa=>bU (oL 5 [a0]) λb=>bU (qe a [b,a1]) λc=>bU (oL 4 []) λd=>bU (ox c d) λe=>some e
def eu:Nat->Ty->Ty->Option Bool
 |0,_,_=>none|n+1,a0,a1=>if dq (cG a0.acH a1.acH) true (cG (cE a0.acI) (cE a1.acI))then some false else ef (c0 a0.acI)<|cB (λ(c:Int) (d:Ty)=>(λ(_:Unit)=>bU (cq a1.acI c) λa=>bU (eu n d a) λb=>if b then some (.next ())else some (.ret false)):Int->Ty->(Unit)->(Option (dJ (Unit) (Bool)))) λe=>bU (cY e a0.acI 0 ()) (dI (λ(_:Unit)=>some true) (λr=>some r))
def gB:Nat->Tm->Tm->Option Bool
 |0,_,_=>none|n+1,a0,a1=>cB (λ(d:Bool)=>if d then some false else ef (c0 a0.acI)<|cB (λ(e:Int) (f:Tm)=>(λ(_:Unit)=>bU (cq a1.acI e) λb=>bU (gB n f b) λc=>if c then some (.next ())else some (.ret false)):Int->Tm->(Unit)->(Option (dJ (Unit) (Bool)))) λg=>bU (cY g a0.acI 0 ()) (dI (λ(_:Unit)=>some true) (λr=>some r))) λa=>if cG a0.acH a1.acH then a true else if cG a0.acK a1.acK then a true else bU (eu FU a0.b7 a1.b7) λh=>if h then a (cG (cE a0.acI) (cE a1.acI))else a true
def iZ:Nat->Fm->Fm->Option Bool
 |0,_,_=>none|n+1,a0,a1=>cB (λ(i:Bool)=>if i then some false else ef (c0 a0.cv)<|cB (λ(j:Int) (k:Tm)=>(λ(_:Unit)=>bU (cq a1.cv j) λb=>bU (gB FU k b) λc=>if c then some (.next ())else some (.ret false)):Int->Tm->(Unit)->(Option (dJ (Unit) (Bool)))) λl=>bU (cY l a0.cv 0 ()) (dI (λ(_:Unit)=>ef (c0 a0.acI)<|cB (λ(d:Int) (e:Fm)=>(λ(_:Unit)=>bU (cq a1.acI d) λf=>bU (iZ n e f) λg=>if g then some (.next ())else some (.ret false)):Int->Fm->(Unit)->(Option (dJ (Unit) (Bool)))) λh=>bU (cY h a0.acI 0 ()) (dI (λ(_:Unit)=>some true) (λr=>some r))) (λr=>some r))) λa=>if cG a0.acH a1.acH then a true else bU (eu FU a0.b7 a1.b7) λm=>if m then if cG (cE a0.cv) (cE a1.cv)then a true else a (cG (cE a0.acI) (cE a1.acI))else a true
def rB(a0:Fm):Option (Bool×Tm×Fm×Bool):=b8 (rv (cr a0.acH 4)) λq r=>cB (λ(o:Bool)=>if o then some (false,(Tm.mk 0 0 (Ty.mk 0 []) []),(Fm.mk 0 (Ty.mk 0 []) [] []),false)else bU (cq a0.acI 0) λe=>bU (cq e.acI 0) λf=>bU (cq f.cv 0) λd=>cB (λ(g:Bool)=>if g then some (false,(Tm.mk 0 0 (Ty.mk 0 []) []),(Fm.mk 0 (Ty.mk 0 []) [] []),false)else bU (cq d.acI 1) λh=>bU (cq e.acI 1) λi=>some ((cr a0.acH 4),h,i,true)) λa=>if cG d.acH 3 then a true else bU (cq d.acI 1) λc=>bU (qt c 0) λj=>if m8 j 0 then a true else bU (fk 0) λk=>bU (sw k c) λl=>bU (iZ FU f l) λm=>a (mq m)) λb=>if cG a0.acH q then b true else if cG a0.b7.acH 1 then b true else bU (cq a0.acI 0) λn=>if cG n.acH r then b true else bU (cq n.acI 0) λp=>b (cG p.acH 1)
def jt:Nat->Fm->Option Int
 |0,_=>none|n+1,a0=>if cr a0.acH 1 then some 6 else bU (cq a0.acI (di .i64 (cE a0.acI) 1)) λk=>bU (jt n k) λa=>cB (λ(b:Int)=>cB (λ(f:Int)=>some f) λc=>KM (rB a0) λl m g h=>if h then bU (jt n g) λi=>c (tZ .u8 (lX .u8 b 1) (lX .u8 i 4))else c (lX .u8 b 1)) λd=>if dq (cr a0.acH 2) true (cr a0.acH 3)then bU (cq a0.acI 0) λj=>bU (jt n j) λe=>some (tZ .u8 (lX .u8 (lX .u8 e a) 6) (lX .u8 (dq (cr a0.acH 2) (tZ .u8 a e) a) 1))else if cr a0.acH 5 then d (tZ .u8 a 1)else d a
def qq(a0:Fm)(a1:Int):Option (Bool×Int):=bU (fA a0) λb=>if cG b 0 then some (false,b)else bU (jt FU a0) λa=>some ((cG (lX .u8 a a1) 0),0)
def oW(a0:Fm):Option (Bool×Int):=b8 (qq a0 2) λa b=>some (a,b)
def fN:Nat->Fm->Option Bool
 |0,_=>none|n+1,a0=>cB (λ(v12:Bool)=>some v12) λa=>if cr a0.acH 1 then a true else if cr a0.acH 2 then bU (cq a0.acI 0) λb=>bU (fN n b) λc=>if c then bU (cq a0.acI 1) λd=>bU (fN n d) λe=>a e else a false else a false
def p8:Nat->Fm->(Int->Option Pf)->Int->((Int->Option Pf)->Int->Option Pf)->Option Pf
 |0,_,_,_,_=>none|n+1,f,p,h,a=>if cr f.acH 1 then bU (p h) λx=>bU (a (λm=>some (Mf (di .i64 (di .i64 m 1) h))) (da .i64 h 1)) λy=>some (TM x (Nl f y))else bU (cq f.acI 0) λx=>p8 n x (λm=>bU (p m) λy=>some (DD 4 [y])) h λq b=>bU (cq f.acI 1) λy=>p8 n y (λm=>bU (p m) λz=>some (DD 5 [z])) b λr c=>a (λm=>bU (q m) λu=>bU (r m) λv=>some (DD 3 [u,v])) c
def fy(a0:Fm)(a1:Pf):Option (Pf×Int):=bU (fA a0) λe=>if cG e 0 then some (yK,e)else b8 (oW a0) λfree _=>cB (λ(bad:Bool)=>if bad then some (yK,10)else bU (nw a1) λe=>if cG e 0 then some (yK,e)else bU (cq a0.acI 0) λx=>bU (c_ a0 0 1) λl=>b8 (AL l x 1048576) λok rm=>if mq ok then some (yK,4)else bU (p8 FU x (λh=>some (Mf (di .i64 h 1))) 1 (λq h=>bU (q h) λy=>some (.mk 10 0 (Ty.mk 0 []) [.mk 1 0 (Ty.mk 0 []) []] [l] [y]))) λw=>bU (fg FU l x 0) λt=>yp (TM a1 (.mk 8 0 a0.b7 [] [] [Nl t w])) rm) λj=>if free then j true else if cG a0.acH 5 then j true else bU (cq a0.acI 0) λx=>bU (fN FU x) λb=>j (mq b)
def kn(a0:List Ty):Option Int:=if m8 (cE a0) 16 then some 3 else ef (c0 a0)<|cB (λ(d:Int) (b:Ty)=>(λ(_:Unit)=>bU (gk b) λa=>if cG a 0 then some (.ret a)else some (.next ())):Int->Ty->(Unit)->(Option (dJ (Unit) (Int)))) λc=>bU (cY c a0 0 ()) (dI (λ(_:Unit)=>some 0) (λr=>some r))
def ka(a0:Tm):Option Int:=bU (iN FU a0) λb=>if b then bU (dG FU a0) λa=>if m8 a 4096 then some 4 else some 0 else some 2
def ry(a0:Ty):Option (Ty×Int):=bU (gk a0) λa=>if cG a 0 then some ((Ty.mk 0 []),4)else some (a0,0)
def dt:Nat->(List Ty)->Tm->Option (Ty×Int)
 |0,_,_=>none|n+1,a0,a1=>if cr a1.acH 1 then if qf a1.acK (cE a0)then some ((Ty.mk 0 []),6)else bU (cq a0 (di .i64 (di .i64 (cE a0) 1) a1.acK)) λai=>bU (gr FU ai) λak=>some (ak,0)else if cr a1.acH 2 then ef (dP a0 [a1.b7])<|bU (cq a1.acI 0) λan=>b8 (dt n (dN a0 [a1.b7]) an) λao L=>if cG L 0 then some ((Ty.mk 0 []),L)else bU (i_ a1.b7 ao) λaq=>b8 (ry aq) λar aw=>some (ar,aw)else ef (c0 a1.acI)<|cB (λ(ax:Int) (M:Tm)=>(λ(a:List Ty)=>b8 (dt n a0 M) λh i=>if cG i 0 then some (.ret ((Ty.mk 0 []),i))else ef (dP a [h])<|some (.next (dN a [h]))):Int->Tm->(List Ty)->(Option (dJ (List Ty) (Ty×Int)))) λN=>bU (cY N a1.acI 0 []) (dI (λ(a:List Ty)=>bU (ib) λb=>bU (lu) λc=>if cr a1.acH 3 then cB (λ(O:Bool)=>if O then some ((Ty.mk 0 []),7)else bU (cq a 0) λP=>bU (cq P.acI 1) λQ=>some (Q,0)) λj=>bU (cq a 0) λk=>if cG k.acH 4 then j true else bU (cq k.acI 0) λR=>bU (cq a 1) λS=>bU (dr FU R S) λT=>j (mq T)else if cr a1.acH 4 then some (b,0)else if cr a1.acH 5 then bU (cq a 0) λU=>bU (dr FU U b) λV=>if V then some (b,0)else some ((Ty.mk 0 []),7)else if cr a1.acH 6 then cB (λ(W:Bool)=>if W then some ((Ty.mk 0 []),7)else bU (gr FU a1.b7) λX=>some (X,0)) λf=>bU (cq a 0) λY=>bU (dr FU Y a1.b7) λZ=>if Z then bU (cq a 1) λaa=>bU (i_ a1.b7 a1.b7) λab=>bU (i_ b ab) λad=>bU (dr FU aa ad) λae=>if ae then bU (cq a 2) λaf=>bU (dr FU af b) λah=>f (mq ah)else f true else f true else if cr a1.acH 7 then some (c,0)else if cr a1.acH 8 then cB (λ(l:Bool)=>if l then some ((Ty.mk 0 []),7)else some (c,0)) λg=>bU (cq a 0) λm=>bU (dr FU m b) λo=>if o then bU (cq a 1) λp=>bU (dr FU p c) λq=>g (mq q)else g true else if cr a1.acH 9 then cB (λ(s:Bool)=>if s then some ((Ty.mk 0 []),7)else bU (gr FU a1.b7) λt=>some (t,0)) λd=>bU (cq a 0) λu=>bU (dr FU u a1.b7) λv=>if v then bU (cq a 1) λw=>bU (i_ a1.b7 a1.b7) λx=>bU (i_ c x) λy=>bU (i_ b y) λz=>bU (dr FU w z) λA=>if A then bU (cq a 2) λB=>bU (dr FU B c) λC=>d (mq C)else d true else d true else if cr a1.acH 10 then bU (cq a 0) λD=>bU (cq a 1) λE=>bU (sb D E) λF=>b8 (ry F) λG H=>some (G,H)else if dq (cr a1.acH 11) true (cr a1.acH 12)then bU (cq a 0) λe=>if cG e.acH 3 then some ((Ty.mk 0 []),7)else if cr a1.acH 11 then bU (cq e.acI 0) λI=>some (I,0)else bU (cq e.acI 1) λJ=>some (J,0)else bU (sG) λK=>some (K,0)) (λr=>some r))
def np(a0:List Ty)(a1:Tm):Option (Ty×Int):=bU (ka a1) λc=>if cG c 0 then some ((Ty.mk 0 []),c)else b8 (dt FU a0 a1) λa b=>some (a,b)
def kQ:Nat->(List Ty)->Fm->Option Int
 |0,_,_=>none|n+1,a0,a1=>ef (c0 a1.cv)<|cB (λ(j:Int) (c:Tm)=>(λ(_:Unit)=>b8 (np a0 c) λd b=>if cG b 0 then some (.ret b)else if cG d.acH 1 then some (.ret 7)else some (.next ())):Int->Tm->(Unit)->(Option (dJ (Unit) (Int)))) λe=>bU (cY e a1.cv 0 ()) (dI (λ(_:Unit)=>cB (λ(f:List Ty)=>ef (c0 a1.acI)<|cB (λ(k:Int) (g:Fm)=>(λ(_:Unit)=>bU (kQ n f g) λa=>if cG a 0 then some (.ret a)else some (.next ())):Int->Fm->(Unit)->(Option (dJ (Unit) (Int)))) λh=>bU (cY h a1.acI 0 ()) (dI (λ(_:Unit)=>some 0) (λr=>some r))) λj64=>bU (je a1.acH) λi=>if i then ef (dP a0 [a1.b7])<|j64 (dN a0 [a1.b7])else j64 a0) (λr=>some r))
def iL(a0:List Ty)(a1:Fm):Option Int:=bU (hY a1) λb=>if cG b 0 then some b else bU (kQ FU a0 a1) λa=>some a
def gP(a0:List Ty)(a1:Fm):Option Int:=bU (kn a0) λb=>if cG b 0 then some b else bU (iL a0 a1) λa=>some a
def qZ(a0:List Fm)(a1:Sq):Option Int:=if m8 (cE a0) 32 then some 3 else ef (c0 a0)<|cB (λ(h:Int) (d:Fm)=>(λ(_:Unit)=>bU (gP [] d) λa=>if cG a 0 then some (.ret a)else some (.next ())):Int->Fm->(Unit)->(Option (dJ (Unit) (Int)))) λe=>bU (cY e a0 0 ()) (dI (λ(_:Unit)=>bU (kn a1.acL) λb=>if cG b 0 then some b else if m8 (cE a1.acO) 16 then some 3 else ef (c0 a1.acO)<|cB (λ(i:Int) (f:Fm)=>(λ(_:Unit)=>bU (gP a1.acL f) λc=>if cG c 0 then some (.ret c)else some (.next ())):Int->Fm->(Unit)->(Option (dJ (Unit) (Int)))) λg=>bU (cY g a1.acO 0 ()) (dI (λ(_:Unit)=>some 0) (λr=>some r))) (λr=>some r))
def nt(a0:Int):Option (db×Bool):=if dq (cr a0 1) true (cr a0 2)then some ((db.mk 0 0 0 true false),true)else if dq (cr a0 3) true (cr a0 7)then some ((db.mk 0 0 2 false false),true)else if dq (cr a0 4) true (dq (cr a0 5) true (cr a0 20))then some ((db.mk 0 0 1 false false),true)else if cr a0 6 then some ((db.mk 0 1 1 false false),true)else if dq (cr a0 8) true (cr a0 12)then some ((db.mk 0 0 1 false true),true)else if dq (cr a0 9) true (cr a0 13)then some ((db.mk 1 0 1 false false),true)else if dq (cr a0 10) true (cr a0 14)then some ((db.mk 1 1 1 false false),true)else if dq (cr a0 11) true (cr a0 15)then some ((db.mk 0 0 2 false false),true)else if dq (cr a0 16) true (cr a0 17)then some ((db.mk 1 1 2 false false),true)else if cr a0 18 then some ((db.mk 1 0 0 false false),true)else if cr a0 19 then some ((db.mk 0 1 2 false false),true)else some ((db.mk 0 0 0 false false),false)
def l8:Nat->Pf->Option Bool
 |0,_=>none|n+1,a0=>b8 (nt a0.acH) λb q=>if dq q (dq (cG (cE a0.cv) b.cv) true (dq (cG (cE a0.dw) b.dw) true (dq (cG (cE a0.acI) b.acI) true (dq (tD a0.acK 0) true (dq b.acK false (cG a0.acK 0)))))) true then some false else cB (λ(h:Bool)=>if h then some false else ef (c0 a0.cv)<|cB (λ(s:Int) (i:Tm)=>(λ(_:Unit)=>bU (iN FU i) λj=>if j then some (.next ())else some (.ret false)):Int->Tm->(Unit)->(Option (dJ (Unit) (Bool)))) λk=>bU (cY k a0.cv 0 ()) (dI (λ(_:Unit)=>ef (c0 a0.dw)<|cB (λ(t:Int) (l:Fm)=>(λ(_:Unit)=>bU (km FU l) λc=>if c then some (.next ())else some (.ret false)):Int->Fm->(Unit)->(Option (dJ (Unit) (Bool)))) λd=>bU (cY d a0.dw 0 ()) (dI (λ(_:Unit)=>ef (c0 a0.acI)<|cB (λ(p:Int) (e:Pf)=>(λ(_:Unit)=>bU (l8 n e) λf=>if f then some (.next ())else some (.ret false)):Int->Pf->(Unit)->(Option (dJ (Unit) (Bool)))) λg=>bU (cY g a0.acI 0 ()) (dI (λ(_:Unit)=>some true) (λr=>some r))) (λr=>some r))) (λr=>some r))) λa=>if b.xX then bU (gk a0.b7) λm=>if cG m 0 then a true else a false else bU (nq a0.b7) λo=>a (mq o)
def pq:Nat->Pf->Option Bool
 |0,_=>none|n+1,a0=>ef (c0 a0.cv)<|cB (λ(j:Int) (c:Tm)=>(λ(_:Unit)=>bU (dG FU c) λd=>if m8 d 4096 then some (.ret false)else some (.next ())):Int->Tm->(Unit)->(Option (dJ (Unit) (Bool)))) λe=>bU (cY e a0.cv 0 ()) (dI (λ(_:Unit)=>ef (c0 a0.dw)<|cB (λ(k:Int) (f:Fm)=>(λ(_:Unit)=>bU (iR FU f) λg=>if m8 g 4096 then some (.ret false)else some (.next ())):Int->Fm->(Unit)->(Option (dJ (Unit) (Bool)))) λh=>bU (cY h a0.dw 0 ()) (dI (λ(_:Unit)=>ef (c0 a0.acI)<|cB (λ(l:Int) (i:Pf)=>(λ(_:Unit)=>bU (pq n i) λa=>if a then some (.next ())else some (.ret false)):Int->Pf->(Unit)->(Option (dJ (Unit) (Bool)))) λb=>bU (cY b a0.acI 0 ()) (dI (λ(_:Unit)=>some true) (λr=>some r))) (λr=>some r))) (λr=>some r))
def pg:Nat->Pf->Option Int
 |0,_=>none|n+1,a0=>ef (c0 a0.cv)<|cB (λ(m:Int) (f:Tm)=>(λ(b:Int)=>bU (dG FU f) λg=>some (.next (da .i64 b g))):Int->Tm->(Int)->(Option (dJ (Int) (Int)))) λh=>bU (cY h a0.cv 0 1) (dI (λ(b:Int)=>ef (c0 a0.dw)<|cB (λ(o:Int) (i:Fm)=>(λ(v75:Int)=>bU (iR FU i) λj=>some (.next (da .i64 v75 j))):Int->Fm->(Int)->(Option (dJ (Int) (Int)))) λk=>bU (cY k a0.dw 0 b) (dI (λ(v75:Int)=>ef (c0 a0.acI)<|cB (λ(l:Int) (c:Pf)=>(λ(a:Int)=>bU (pg n c) λd=>some (.next (da .i64 a d))):Int->Pf->(Int)->(Option (dJ (Int) (Int)))) λe=>bU (cY e a0.acI 0 v75) (dI (λ(a:Int)=>some a) (λr=>some r))) (λr=>some r))) (λr=>some r))
def vS(a0:Pf):Option Bool:=cB (λ(d:Bool)=>some d) λc=>bU (pq FU a0) λa=>if a then bU (pg FU a0) λb=>c (Dh b 16384)else c false
def rk(a0:Pf):Option Int:=bU (l8 FU a0) λb=>if b then bU (vS a0) λa=>if a then some 0 else some 4 else some 2
def oi(a0:List (Int×Bool)):Option (List Int×List (Int×Bool)):=ef (c0 a0)<|ef (vi (a0.map (·.1)))<|some (wM [] (a0.map (·.1)),a0)
def dZ(a0 a1:List Int):Option (List Int):=ef (c0 a0)<|cB (λ(i:Int) (c:Int)=>(λ(a:(List (Int×Bool)))=>some (.next (tj a c true))):Int->Int->((List (Int×Bool)))->(Option (dJ ((List (Int×Bool))) (List Int)))) λd=>bU (cY d a0 0 []) (dI (λ(a:(List (Int×Bool)))=>ef (c0 a1)<|cB (λ(h:Int) (e:Int)=>(λ(b:(List (Int×Bool)))=>some (.next (tj b e true))):Int->Int->((List (Int×Bool)))->(Option (dJ ((List (Int×Bool))) (List Int)))) λf=>bU (cY f a1 0 a) (dI (λ(b:(List (Int×Bool)))=>b8 (oi b) λg d51=>some g) (λr=>some r))) (λr=>some r))
def cF(a0:bZ)(a1 a2:Int):Option Int:=if dq (m8 (da .i64 (cE a0.acL) a1) 16) true (m8 (da .i64 (cE a0.acO) a2) 16)then some 3 else some 0
def dU(a0:bZ)(a1:Fm):Option bZ:=ef (dP a0.acO [a1])<|some (bZ.mk a0.lemmas a0.acL (dN a0.acO [a1]))
def tp(a0:Tm):Option Bool:=if cr a0.acH 3 then bU (cq a0.acI 0) λe=>some (cr e.acH 2)else if cr a0.acH 6 then cB (λ(f:Bool)=>some f) λa=>bU (cq a0.acI 2) λb=>if cr b.acH 4 then a true else a (cr b.acH 5)else if cr a0.acH 9 then cB (λ(g:Bool)=>some g) λc=>bU (cq a0.acI 2) λd=>if cr d.acH 7 then c true else c (cr d.acH 8)else if dq (cr a0.acH 11) true (cr a0.acH 12)then bU (cq a0.acI 0) λh=>some (cr h.acH 10)else some false
def kW:Nat->Tm->Int->Option Int
 |0,_,_=>none|n+1,a0,a1=>ef (c0 a0.acI)<|cB (λ(f:Int) (d:Tm)=>(λ(a:Int)=>bU (jz a0) λb=>bU (kW n d (da .i64 a1 b)) λc=>some (.next (da .i64 a c))):Int->Tm->(Int)->(Option (dJ (Int) (Int)))) λe=>bU (cY e a0.acI 0 (dq (dq (cr a0.acH 1) (cr a0.acK a1) false) (da .i64 0 1) 0)) (dI (λ(a:Int)=>some a) (λr=>some r))
def p7(a0:Tm):Option Int:=bU (dG FU a0) λb=>if cr a0.acH 3 then bU (cq a0.acI 0) λf=>bU (cq f.acI 0) λc=>bU (cq a0.acI 1) λg=>bU (dG FU c) λh=>bU (kW FU c 0) λi=>bU (dG FU g) λj=>some (di .i64 (da .i64 h (y9 .i64 i (di .i64 j 1))) b)else if cr a0.acH 6 then bU (cq a0.acI 2) λd=>if cr d.acH 4 then bU (cq a0.acI 0) λk=>bU (dG FU k) λl=>some (di .i64 l b)else bU (cq a0.acI 1) λm=>bU (dG FU m) λn=>bU (cq d.acI 0) λo=>bU (dG FU o) λp=>some (di .i64 (di .i64 (da .i64 (da .i64 (da .i64 2 n) p) b) 1) b)else if cr a0.acH 9 then bU (cq a0.acI 2) λa=>if cr a.acH 7 then bU (cq a0.acI 0) λq=>bU (dG FU q) λr=>some (di .i64 r b)else bU (cq a.acI 0) λe=>bU (cq a.acI 1) λs=>bU (cq a0.acI 1) λt=>bU (dG FU t) λu=>bU (dG FU e) λv=>bU (dG FU s) λw=>bU (dG FU e) λx=>some (di .i64 (di .i64 (di .i64 (da .i64 (da .i64 (da .i64 (da .i64 3 u) v) w) b) 1) x) b)else if cr a0.acH 11 then bU (cq a0.acI 0) λy=>bU (cq y.acI 0) λz=>bU (dG FU z) λA=>some (di .i64 A b)else bU (cq a0.acI 0) λB=>bU (cq B.acI 1) λC=>bU (dG FU C) λD=>some (di .i64 D b)
def sP:Nat->Tm->Int->Int->Tm->Option Tm
 |0,_,_,_,_=>none|n+1,a0,a1,a2,a3=>if cr a0.acH 1 then if cr a0.acK (da .i64 a1 a2)then bU (pO FU a3 0 (da .i64 a1 a2)) λe=>some e else if m8 a0.acK (da .i64 a1 a2)then bU (eJ (di .i64 a0.acK 1)) λf=>some f else some a0 else ef (c0 a0.acI)<|cB (λ(h:Int) (g:Tm)=>(λ(a:List Tm)=>bU (jz a0) λc=>bU (sP n g a1 (da .i64 a2 c) a3) λb=>ef (dP a [b])<|some (.next (dN a [b]))):Int->Tm->(List Tm)->(Option (dJ (List Tm) (Tm)))) λd=>bU (cY d a0.acI 0 []) (dI (λ(a:List Tm)=>some (Tm.mk a0.acH a0.acK a0.b7 a)) (λr=>some r))
def oJ(a0:Tm):Option Tm:=if cr a0.acH 3 then bU (cq a0.acI 0) λg=>bU (cq g.acI 0) λh=>bU (cq a0.acI 1) λi=>bU (sP FU h 0 0 i) λj=>some j else if cr a0.acH 6 then bU (cq a0.acI 2) λb=>if cr b.acH 4 then bU (cq a0.acI 0) λk=>some k else bU (cq b.acI 0) λc=>bU (cq a0.acI 1) λd=>bU (dR 3 [d,c]) λl=>bU (cq a0.acI 0) λm=>bU (j5 6 a0.b7 [m,d,c]) λn=>bU (dR 3 [l,n]) λo=>some o else if cr a0.acH 9 then bU (cq a0.acI 2) λa=>if cr a.acH 7 then bU (cq a0.acI 0) λp=>some p else bU (cq a.acI 0) λq=>bU (cq a.acI 1) λe=>bU (cq a0.acI 1) λf=>bU (dR 3 [f,q]) λr=>bU (dR 3 [r,e]) λs=>bU (cq a0.acI 0) λt=>bU (j5 9 a0.b7 [t,f,e]) λu=>bU (dR 3 [s,u]) λv=>some v else if cr a0.acH 11 then bU (cq a0.acI 0) λw=>bU (cq w.acI 0) λx=>some x else bU (cq a0.acI 0) λy=>bU (cq y.acI 1) λz=>some z
def ml:Nat->Tm->Int->Option (Tm×Bool×Bool)
 |0,_,_=>none|n+1,a0,a1=>bU (tp a0) λi=>if i then bU (p7 a0) λb=>if m8 b a1 then some ((Tm.mk 0 0 (Ty.mk 0 []) []),true,false)else bU (oJ a0) λc=>some (c,true,true)else ef (c0 a0.acI)<|cB (λ(a:Int) (d:Tm)=>(λ(_:Unit)=>gM (ml n d a1) λe f g=>if f then ef (wF a0.acI)<|bU (cq a0.acI a) λj=>some (.ret ((Tm.mk a0.acH a0.acK a0.b7 (vU a0.acI a e)),true,g))else some (.next ())):Int->Tm->(Unit)->(Option (dJ (Unit) (Tm×Bool×Bool)))) λh=>bU (cY h a0.acI 0 ()) (dI (λ(_:Unit)=>some (a0,false,true)) (λr=>some r))
def j8(a0:Tm)(a1:Int):Option (Tm×Int×Int):=bU (ka a0) λm=>if cG m 0 then some ((Tm.mk 0 0 (Ty.mk 0 []) []),0,m)else cB (λ(k:Bool)=>if k then some ((Tm.mk 0 0 (Ty.mk 0 []) []),0,1)else cB ((Ph λ(v164:Int) (b:Int) (c:Int) (v167:Int) (v168:List Ty) (d:List Tm)=>bU (dG FU (Tm.mk b c (Ty.mk v167 v168) d)) λf=>gM (ml FU (Tm.mk b c (Ty.mk v167 v168) d) (di .i64 4096 f)) λa g h=>if g then if cr v164 a1 then some (.ret ((Tm.mk 0 0 (Ty.mk 0 []) []),0,5))else if h then some (.next ((da .i64 v164 1),a.acH,a.acK,a.b7.acH,a.b7.acI,a.acI))else some (.ret ((Tm.mk 0 0 (Ty.mk 0 []) []),0,4))else bU (jQ FU (Tm.mk b c (Ty.mk v167 v168) d)) λi=>some (.ret (i,v164,0))):(Int×Int×Int×Int×(List Ty)×(List Tm))->(Option (dJ (Int×Int×Int×Int×(List Ty)×(List Tm)) (Tm×Int×Int)))) λj=>bU (mJ j FU (0,a0.acH,a0.acK,a0.b7.acH,a0.b7.acI,a0.acI)) (dI (Ph λ(v164:Int) (b:Int) (c:Int) (v167:Int) (v168:List Ty) (d:List Tm)=>none) (λr=>some r))) λe=>if tD a1 0 then e true else if m8 a1 65536 then e true else bU (jC FU a0 536870912) λl=>e (mq l)
def pd(a0 a1:Tm)(a2:Int):Option Int:=bU (ka a0) λh=>if cG h 0 then some h else bU (ka a1) λa=>if cG a 0 then some a else bU (ir FU a0 a1) λd=>if d then some 0 else gM (j8 a0 a2) λe i b=>if cG b 0 then some b else gM (j8 a1 a2) λf j c=>if cG c 0 then some c else bU (ir FU e f) λg=>if g then some 0 else some 11
def nD:Nat->Fm->Fm->Option Int
 |0,_,_=>none|n+1,a0,a1=>cB (λ(i:Bool)=>if i then some 11 else ef (c0 a0.cv)<|cB (λ(j:Int) (k:Tm)=>(λ(_:Unit)=>bU (cq a1.cv j) λc=>bU (pd k c 1000) λa=>if cG a 0 then some (.ret a)else some (.next ())):Int->Tm->(Unit)->(Option (dJ (Unit) (Int)))) λl=>bU (cY l a0.cv 0 ()) (dI (λ(_:Unit)=>ef (c0 a0.acI)<|cB (λ(d:Int) (e:Fm)=>(λ(_:Unit)=>bU (cq a1.acI d) λf=>bU (nD n e f) λb=>if cG b 0 then some (.ret b)else some (.next ())):Int->Fm->(Unit)->(Option (dJ (Unit) (Int)))) λg=>bU (cY g a0.acI 0 ()) (dI (λ(_:Unit)=>some 0) (λr=>some r))) (λr=>some r))) λh=>if cG a0.acH a1.acH then h true else bU (dr FU a0.b7 a1.b7) λm=>h (mq m)
def ki(a0 a1:Fm):Option Int:=bU (hY a0) λc=>if cG c 0 then some c else bU (hY a1) λa=>if cG a 0 then some a else bU (nD FU a0 a1) λb=>some b
def dk(a0:bZ)(a1:List Ty):Option bZ:=ef (dP a0.acL a1)<|ef (c0 a0.acO)<|cB (λ(e:Int) (c:Fm)=>(λ(a:List Fm)=>bU (ft FU c 0 (cE a1)) λb=>ef (dP a [b])<|some (.next (dN a [b]))):Int->Fm->(List Fm)->(Option (dJ (List Fm) (bZ)))) λd=>bU (cY d a0.acO 0 []) (dI (λ(a:List Fm)=>some (bZ.mk a0.lemmas (dN a0.acL a1) a)) (λr=>some r))
def eb(a0:List Int)(a1:Int):Option (List Int):=ef (c0 a0)<|cB (λ(e:Int) (b:Int)=>(λ(a:List Int)=>cB (λ(c:List Int)=>some (.next c)) λj57=>if qf b a1 then ef (dP a [(di .i64 b a1)])<|j57 (dN a [(di .i64 b a1)])else j57 a):Int->Int->(List Int)->(Option (dJ (List Int) (List Int)))) λd=>bU (cY d a0 0 []) (dI (λ(a:List Int)=>some a) (λr=>some r))
def pt(a0:List Int):Option Bool:=cB (λ(v6:Bool)=>some v6) λa=>if m8 (cE a0) 0 then bU (cq a0 0) λb=>a (cr b 0)else a false
def iH(a0:List Ty)(a1:Tm):Option (Ty×Int):=bU (kn a0) λc=>if cG c 0 then some ((Ty.mk 0 []),c)else b8 (np a0 a1) λa b=>some (a,b)
def nJ:Nat->Tm->Int->(List (Int×Bool))->Option ((List (Int×Bool)))
 |0,_,_,_=>none|n+1,a0,a1,a2=>cB (λ(e:(List (Int×Bool)))=>ef (c0 a0.acI)<|cB (λ(f:Int) (a:Tm)=>(λ(v51:(List (Int×Bool)))=>bU (jz a0) λb=>bU (nJ n a (da .i64 a1 b) v51) λd73=>some (.next d73)):Int->Tm->((List (Int×Bool)))->(Option (dJ ((List (Int×Bool))) ((List (Int×Bool)))))) λc=>bU (cY c a0.acI 0 e) (dI (λ(v51:(List (Int×Bool)))=>some v51) (λr=>some r))) λd=>if dq (cr a0.acH 1) (qf a0.acK a1) false then d (tj a2 (di .i64 a0.acK a1) true)else d a2
def sM(a0:Tm):Option ((List Int)×Int):=bU (ka a0) λb=>if cG b 0 then some ([],b)else bU (nJ FU a0 0 []) λd11=>b8 (oi d11) λa d17=>some (a,0)
def iv(a0:Tm):Option (List Int):=b8 (sM a0) λa b=>some a
def nH:Nat->Fm->Int->Option Int
 |0,_,_=>none|n+1,a0,a1=>ef (c0 a0.cv)<|cB (λ(j:Int) (f:Tm)=>(λ(b:Int)=>bU (kW FU f a1) λg=>some (.next (da .i64 b g))):Int->Tm->(Int)->(Option (dJ (Int) (Int)))) λh=>bU (cY h a0.cv 0 0) (dI (λ(b:Int)=>ef (c0 a0.acI)<|cB (λ(k:Int) (i:Fm)=>(λ(a:Int)=>bU (kO a0) λc=>bU (nH n i (da .i64 a1 c)) λd=>some (.next (da .i64 a d))):Int->Fm->(Int)->(Option (dJ (Int) (Int)))) λe=>bU (cY e a0.acI 0 b) (dI (λ(a:Int)=>some a) (λr=>some r))) (λr=>some r))
def vA:Nat->Fm->Int->Int->Tm->Option Fm
 |0,_,_,_,_=>none|n+1,a0,a1,a2,a3=>ef (c0 a0.cv)<|cB (λ(k:Int) (h:Tm)=>(λ(b:List Tm)=>bU (sP FU h a1 a2 a3) λd=>ef (dP b [d])<|some (.next (dN b [d]))):Int->Tm->(List Tm)->(Option (dJ (List Tm) (Fm)))) λi=>bU (cY i a0.cv 0 []) (dI (λ(b:List Tm)=>ef (c0 a0.acI)<|cB (λ(j:Int) (e:Fm)=>(λ(a:List Fm)=>bU (kO a0) λf=>bU (vA n e a1 (da .i64 a2 f) a3) λc=>ef (dP a [c])<|some (.next (dN a [c]))):Int->Fm->(List Fm)->(Option (dJ (List Fm) (Fm)))) λg=>bU (cY g a0.acI 0 []) (dI (λ(a:List Fm)=>some (Fm.mk a0.acH a0.b7 b a)) (λr=>some r))) (λr=>some r))
def va(a0:Fm)(a1:Int)(a2:Tm):Option (Fm×Int):=bU (hY a0) λk=>if cG k 0 then some ((Fm.mk 0 (Ty.mk 0 []) [] []),k)else if dq (tD a1 0) true (m8 a1 4096)then some ((Fm.mk 0 (Ty.mk 0 []) [] []),1)else bU (ka a2) λa=>if cG a 0 then some ((Fm.mk 0 (Ty.mk 0 []) [] []),a)else cB (λ(e:Bool)=>if e then some ((Fm.mk 0 (Ty.mk 0 []) [] []),1)else bU (iR FU a0) λf=>bU (nH FU a0 a1) λg=>bU (dG FU a2) λh=>if m8 (da .i64 f (y9 .i64 g (di .i64 h 1))) 4096 then some ((Fm.mk 0 (Ty.mk 0 []) [] []),4)else bU (vA FU a0 a1 0 a2) λb=>bU (jN FU b) λc=>some (c,0)) λd=>bU (l0 FU a0 536870912) λi=>if i then bU (jC FU a2 536870912) λj=>d (mq j)else d true
def gU(a0:Fm)(a1:Tm):Option (Fm×Int):=b8 (va a0 0 a1) λa b=>some (a,b)
def si:Nat->Tm->Int->Option Bool
 |0,_,_=>none|n+1,a0,a1=>if dq (cr a0.acH 1) (cr a0.acK a1) false then some true else ef (c0 a0.acI)<|cB (λ(e:Int) (c:Tm)=>(λ(_:Unit)=>bU (jz a0) λa=>bU (si n c (da .i64 a1 a)) λb=>if b then some (.ret true)else some (.next ())):Int->Tm->(Unit)->(Option (dJ (Unit) (Bool)))) λd=>bU (cY d a0.acI 0 ()) (dI (λ(_:Unit)=>some false) (λr=>some r))
def nW:Nat->Fm->Int->Option Bool
 |0,_,_=>none|n+1,a0,a1=>ef (c0 a0.cv)<|cB (λ(h:Int) (d:Tm)=>(λ(_:Unit)=>bU (si FU d a1) λe=>if e then some (.ret true)else some (.next ())):Int->Tm->(Unit)->(Option (dJ (Unit) (Bool)))) λf=>bU (cY f a0.cv 0 ()) (dI (λ(_:Unit)=>ef (c0 a0.acI)<|cB (λ(i:Int) (g:Fm)=>(λ(_:Unit)=>bU (kO a0) λa=>bU (nW n g (da .i64 a1 a)) λb=>if b then some (.ret true)else some (.next ())):Int->Fm->(Unit)->(Option (dJ (Unit) (Bool)))) λc=>bU (cY c a0.acI 0 ()) (dI (λ(_:Unit)=>some false) (λr=>some r))) (λr=>some r))
def kR:Nat->Fm->Option (Fm×Int)
 |0,_=>none|n+1,a0=>ef (c0 a0.cv)<|cB (λ(m:Int) (i:Tm)=>(λ(b:List Tm)=>gM (j8 i 1000) λc k d=>if cG d 0 then some (.ret ((Fm.mk 0 (Ty.mk 0 []) [] []),d))else ef (dP b [c])<|some (.next (dN b [c]))):Int->Tm->(List Tm)->(Option (dJ (List Tm) (Fm×Int)))) λj=>bU (cY j a0.cv 0 []) (dI (λ(b:List Tm)=>ef (c0 a0.acI)<|cB (λ(l:Int) (g:Fm)=>(λ(a:List Fm)=>b8 (kR n g) λe f=>if cG f 0 then some (.ret ((Fm.mk 0 (Ty.mk 0 []) [] []),f))else ef (dP a [e])<|some (.next (dN a [e]))):Int->Fm->(List Fm)->(Option (dJ (List Fm) (Fm×Int)))) λh=>bU (cY h a0.acI 0 []) (dI (λ(a:List Fm)=>some ((Fm.mk a0.acH a0.b7 b a),0)) (λr=>some r))) (λr=>some r))
def eR(a0:bZ)(a1:Tm)(a2:Int):Option Int:=b8 (iH a0.acL a1) λb a=>if cG a 0 then some a else if cG b.acH a2 then some 7 else some 0
def gY:Nat->Fm->Option Bool
 |0,_=>none|n+1,a0=>if cr a0.acH 1 then some false else if cr a0.acH 2 then cB (λ(b:Bool)=>some b) λa=>bU (cq a0.acI 0) λc=>bU (gY n c) λd=>if d then a true else bU (cq a0.acI 1) λe=>bU (gY n e) λf=>a f else if cr a0.acH 5 then some true else bU (cq a0.acI (di .i64 (cE a0.acI) 1)) λg=>bU (gY n g) λh=>some h
def mQ(a0:Fm):Option (Bool×Int):=bU (hY a0) λb=>if cG b 0 then some (false,b)else bU (gY FU a0) λa=>some (a,0)
mutual
def cA:Nat->bZ->Pf->Option (sh×Int)
 |0,_,_=>none|n+1,a0,a1=>gM (cp n a0 a1) λb g f=>if cG f 0 then some ((sh.mk (Fm.mk 0 (Ty.mk 0 []) [] []) []),f)else bU (hY b) λc=>if cG c 0 then some ((sh.mk (Fm.mk 0 (Ty.mk 0 []) [] []) []),4)else cB (λ(d:List Int)=>some ((sh.mk b d),0)) λa=>b8 (mQ b) λe h=>if e then a g else a []
def cp:Nat->bZ->Pf->Option (Fm×(List Int)×Int)
 |0,_,_=>none|n+1,a0,a1=>if cr a1.acH 1 then if qf a1.acK (cE a0.acO)then some ((Fm.mk 0 (Ty.mk 0 []) [] []),[],8)else bU (cq a0.acO (di .i64 (di .i64 (cE a0.acO) 1) a1.acK)) λp=>some (p,[],0)else if cr a1.acH 2 then if qf a1.acK (cE a0.lemmas)then some ((Fm.mk 0 (Ty.mk 0 []) [] []),[],9)else bU (cq a0.lemmas a1.acK) λq=>some (q,[],0)else if cr a1.acH 3 then bU (cq a1.acI 0) λr=>b8 (cA n a0 r) λe f=>if cG f 0 then some ((Fm.mk 0 (Ty.mk 0 []) [] []),[],f)else bU (cq a1.acI 1) λs=>b8 (cA n a0 s) λg t=>bU (gf 2 e.cf g.cf) λu=>bU (dZ e.eD g.eD) λv=>some (u,v,t)else if dq (cr a1.acH 4) true (cr a1.acH 5)then bU (cq a1.acI 0) λw=>b8 (cA n a0 w) λb h=>if cG h 0 then some ((Fm.mk 0 (Ty.mk 0 []) [] []),[],h)else if cG b.cf.acH 2 then some ((Fm.mk 0 (Ty.mk 0 []) [] []),[],10)else bU (cq b.cf.acI (di .i64 a1.acH 4)) λx=>some (x,b.eD,0)else if cr a1.acH 6 then bU (cq a1.dw 0) λc=>bU (gP a0.acL c) λi=>if cG i 0 then some ((Fm.mk 0 (Ty.mk 0 []) [] []),[],i)else bU (cF a0 0 1) λj=>if cG j 0 then some ((Fm.mk 0 (Ty.mk 0 []) [] []),[],j)else bU (dU a0 c) λy=>bU (cq a1.acI 0) λz=>b8 (cA n y z) λk A=>bU (gf 3 c k.cf) λB=>some (B,k.eD,A)else if cr a1.acH 7 then bU (cq a1.acI 0) λC=>b8 (cA n a0 C) λa l=>if cG l 0 then some ((Fm.mk 0 (Ty.mk 0 []) [] []),[],l)else if cG a.cf.acH 3 then some ((Fm.mk 0 (Ty.mk 0 []) [] []),[],10)else bU (cq a1.acI 1) λD=>b8 (cA n a0 D) λm o=>if cG o 0 then some ((Fm.mk 0 (Ty.mk 0 []) [] []),[],o)else bU (cq a.cf.acI 1) λE=>bU (dZ a.eD m.eD) λF=>bU (cq a.cf.acI 0) λG=>bU (ki G m.cf) λH=>some (E,F,H)else if dq (cr a1.acH 8) true (cr a1.acH 12)then gM (lh n a0 a1) λI J K=>some (I,J,K)else if dq (cr a1.acH 9) true (cr a1.acH 13)then gM (lH n a0 a1) λL M N=>some (L,M,N)else if dq (cr a1.acH 10) true (cr a1.acH 14)then gM (lR n a0 a1) λO P Q=>some (O,P,Q)else if dq (cr a1.acH 11) true (cr a1.acH 15)then gM (kB n a0 a1) λR S T=>some (R,S,T)else if cr a1.acH 16 then gM (mY n a0 a1) λU V W=>some (U,V,W)else if cr a1.acH 17 then gM (lz n a0 a1) λX Y Z=>some (X,Y,Z)else if cr a1.acH 18 then bU (cq a1.cv 0) λd=>bU (nS d d) λaa=>bU (eR a0 d 1) λab=>some (aa,[],ab)else if cr a1.acH 19 then gM (lD n a0 a1) λad ae af=>some (ad,ae,af)else gM (kT n a0 a1) λah ai ak=>some (ah,ai,ak)
def lh:Nat->bZ->Pf->Option (Fm×(List Int)×Int)
 |0,_,_=>none|n+1,a0,a1=>bU (cF a0 1 0) λj=>if cG j 0 then some ((Fm.mk 0 (Ty.mk 0 []) [] []),[],j)else bU (dk a0 [a1.b7]) λc=>bU (cq a1.acI 0) λd=>b8 (cA n c d) λa b=>if cG b 0 then some ((Fm.mk 0 (Ty.mk 0 []) [] []),[],b)else if cr a1.acH 8 then bU (ic 4 a1.b7 a.cf) λe=>bU (eb a.eD 1) λf=>some (e,f,0)else bU (pt a.eD) λg=>if g then some ((Fm.mk 0 (Ty.mk 0 []) [] []),[],12)else bU (ic 6 a1.b7 a.cf) λh=>bU (eb a.eD 1) λi=>some (h,i,0)
def lH:Nat->bZ->Pf->Option (Fm×(List Int)×Int)
 |0,_,_=>none|n+1,a0,a1=>bU (cq a1.cv 0) λc=>b8 (iH a0.acL c) λl k=>if cG k 0 then some ((Fm.mk 0 (Ty.mk 0 []) [] []),[],k)else bU (cq a1.acI 0) λd=>b8 (cA n a0 d) λa b=>if cG b 0 then some ((Fm.mk 0 (Ty.mk 0 []) [] []),[],b)else bU (iv c) λe=>bU (dZ a.eD e) λf=>if cG a.cf.acH (dq (cr a1.acH 13) 6 4)then some ((Fm.mk 0 (Ty.mk 0 []) [] []),[],10)else bU (dr FU a.cf.b7 l) λg=>if g then bU (cq a.cf.acI 0) λh=>b8 (gU h c) λi j=>some (i,(dq (cr a1.acH 13) a.eD f),j)else some ((Fm.mk 0 (Ty.mk 0 []) [] []),[],7)
def lR:Nat->bZ->Pf->Option (Fm×(List Int)×Int)
 |0,_,_=>none|n+1,a0,a1=>bU (cq a1.dw 0) λa=>bU (cq a1.cv 0) λb=>bU (gP a0.acL a) λc=>if cG c 0 then some ((Fm.mk 0 (Ty.mk 0 []) [] []),[],c)else if cG a.acH (dq (cr a1.acH 14) 7 5)then some ((Fm.mk 0 (Ty.mk 0 []) [] []),[],10)else b8 (iH a0.acL b) λg d=>if cG d 0 then some ((Fm.mk 0 (Ty.mk 0 []) [] []),[],d)else bU (dr FU a.b7 g) λh=>if h then bU (cq a1.acI 0) λi=>bU (cq a.acI 0) λj=>b8 (dd n a0 i j b) λe k=>cB (λ(l:List Int)=>some (a,l,k)) λf=>if cr (dq (cr a1.acH 14) 7 5) 5 then bU (iv b) λm=>bU (dZ e m) λo=>f o else f e else some ((Fm.mk 0 (Ty.mk 0 []) [] []),[],7)
def kB:Nat->bZ->Pf->Option (Fm×(List Int)×Int)
 |0,_,_=>none|n+1,a0,a1=>bU (cq a1.acI 0) λu=>b8 (cA n a0 u) λc g=>if cG g 0 then some ((Fm.mk 0 (Ty.mk 0 []) [] []),[],g)else if cG c.cf.acH (dq (cr a1.acH 15) 7 5)then some ((Fm.mk 0 (Ty.mk 0 []) [] []),[],10)else bU (cF a0 1 1) λh=>if cG h 0 then some ((Fm.mk 0 (Ty.mk 0 []) [] []),[],h)else bU (dk a0 [c.cf.b7]) λv=>bU (cq c.cf.acI 0) λw=>bU (dU v w) λx=>bU (cq a1.acI 1) λy=>b8 (cA n x y) λb i=>if cG i 0 then some ((Fm.mk 0 (Ty.mk 0 []) [] []),[],i)else cB (λ(z:Int) (j:Int) (k:List Ty) (l:List Tm) (m:List Fm)=>cB (λ(v139:Bool)=>if v139 then some ((Fm.mk 0 (Ty.mk 0 []) [] []),[],12)else bU (ft FU (Fm.mk z (Ty.mk j k) l m) 1 (-1)) λo=>bU (eb b.eD 1) λp=>bU (dZ c.eD p) λq=>some (o,q,0)) λd=>if cr (dq (cr a1.acH 15) 7 5) 7 then bU (pt b.eD) λr=>d r else d false) λe=>bU (nW FU b.cf 0) λs=>if s then b8 (kR FU b.cf) λa f=>if cG f 0 then some ((Fm.mk 0 (Ty.mk 0 []) [] []),[],f)else bU (nW FU a 0) λt=>if t then some ((Fm.mk 0 (Ty.mk 0 []) [] []),[],6)else e a.acH a.b7.acH a.b7.acI a.cv a.acI else e b.cf.acH b.cf.b7.acH b.cf.b7.acI b.cf.cv b.cf.acI
def mY:Nat->bZ->Pf->Option (Fm×(List Int)×Int)
 |0,_,_=>none|n+1,a0,a1=>bU (cq a1.dw 0) λa=>bU (cq a1.cv 0) λc=>bU (ib) λd=>ef (dP a0.acL [d])<|bU (iL (dN a0.acL [d]) a) λe=>if cG e 0 then some ((Fm.mk 0 (Ty.mk 0 []) [] []),[],e)else bU (eR a0 c 1) λf=>if cG f 0 then some ((Fm.mk 0 (Ty.mk 0 []) [] []),[],f)else bU (cq a1.acI 0) λx=>bU (dR 4 []) λy=>b8 (dd n a0 x a y) λz g=>if cG g 0 then some ((Fm.mk 0 (Ty.mk 0 []) [] []),[],g)else bU (cF a0 1 1) λh=>if cG h 0 then some ((Fm.mk 0 (Ty.mk 0 []) [] []),[],h)else bU (ib) λi=>bU (dk a0 [i]) λj=>bU (dU j a) λk=>bU (cq a1.acI 1) λl=>bU (ft FU a 1 1) λm=>bU (eJ 0) λo=>bU (dR 5 [o]) λp=>b8 (dd n k l m p) λq b=>if cG b 0 then some ((Fm.mk 0 (Ty.mk 0 []) [] []),[],b)else b8 (gU a c) λr s=>bU (iv c) λt=>bU (dZ t z) λu=>bU (eb q 1) λv=>bU (dZ u v) λw=>some (r,w,s)
def lz:Nat->bZ->Pf->Option (Fm×(List Int)×Int)
 |0,_,_=>none|n+1,a0,a1=>bU (cq a1.dw 0) λa=>bU (cq a1.cv 0) λc=>bU (lu) λd=>ef (dP a0.acL [d])<|bU (iL (dN a0.acL [d]) a) λe=>if cG e 0 then some ((Fm.mk 0 (Ty.mk 0 []) [] []),[],e)else bU (eR a0 c 2) λf=>if cG f 0 then some ((Fm.mk 0 (Ty.mk 0 []) [] []),[],f)else bU (cq a1.acI 0) λA=>bU (dR 7 []) λB=>b8 (dd n a0 A a B) λC g=>if cG g 0 then some ((Fm.mk 0 (Ty.mk 0 []) [] []),[],g)else bU (cF a0 2 1) λh=>if cG h 0 then some ((Fm.mk 0 (Ty.mk 0 []) [] []),[],h)else bU (ib) λi=>bU (lu) λj=>bU (dk a0 [i,j]) λk=>bU (ft FU a 1 1) λl=>bU (dU k l) λm=>bU (cq a1.acI 1) λo=>bU (ft FU a 1 2) λp=>bU (eJ 1) λq=>bU (eJ 0) λr=>bU (dR 8 [q,r]) λs=>b8 (dd n m o p s) λt b=>if cG b 0 then some ((Fm.mk 0 (Ty.mk 0 []) [] []),[],b)else b8 (gU a c) λu v=>bU (iv c) λw=>bU (dZ w C) λx=>bU (eb t 2) λy=>bU (dZ x y) λz=>some (u,z,v)
def lD:Nat->bZ->Pf->Option (Fm×(List Int)×Int)
 |0,_,_=>none|n+1,a0,a1=>bU (cq a1.dw 0) λi=>bU (ib) λb=>ef (dP a0.acL [b])<|bU (iL (dN a0.acL [b]) i) λc=>if cG c 0 then some ((Fm.mk 0 (Ty.mk 0 []) [] []),[],c)else bU (cq a1.acI 0) λj=>b8 (cA n a0 j) λa d=>if cG d 0 then some ((Fm.mk 0 (Ty.mk 0 []) [] []),[],d)else if cG a.cf.acH 1 then some ((Fm.mk 0 (Ty.mk 0 []) [] []),[],10)else bU (cq a1.acI 1) λk=>bU (cq a.cf.cv 0) λl=>b8 (dd n a0 k i l) λm e=>if cG e 0 then some ((Fm.mk 0 (Ty.mk 0 []) [] []),[],e)else bU (cq a.cf.cv 1) λf=>b8 (gU i f) λg h=>some (g,m,h)
def kT:Nat->bZ->Pf->Option (Fm×(List Int)×Int)
 |0,_,_=>none|n+1,a0,a1=>bU (cq a1.acI 0) λf=>b8 (cA n a0 f) λa b=>if cG b 0 then some ((Fm.mk 0 (Ty.mk 0 []) [] []),[],b)else cB (λ(g:Bool)=>if g then some ((Fm.mk 0 (Ty.mk 0 []) [] []),[],10)else bU (cq a.cf.acI 0) λc=>bU (i_ a.cf.b7 c.b7) λd=>bU (gk d) λh=>if cG h 0 then some ((Fm.mk 0 (Ty.mk 0 []) [] []),[],4)else bU (cq c.acI 0) λi=>bU (ft FU i 2 1) λj=>bU (eJ 1) λk=>bU (eJ 0) λl=>bU (dR 3 [k,l]) λm=>b8 (gU j m) λo p=>bU (ic 4 a.cf.b7 o) λq=>bU (ic 5 d q) λr=>some (r,a.eD,p)) λe=>if cG a.cf.acH 4 then e true else bU (cq a.cf.acI 0) λs=>e (cG s.acH 5)
def dd:Nat->bZ->Pf->Fm->Tm->Option ((List Int)×Int)
 |0,_,_,_,_=>none|n+1,a0,a1,a2,a3=>b8 (cA n a0 a1) λd e=>if cG e 0 then some ([],e)else b8 (gU a2 a3) λb a=>if cG a 0 then some ([],a)else bU (ki b d.cf) λc=>some (d.eD,c)
end
def j_(a0:List Fm)(a1:Sq)(a2:Pf):Option (sh×Int):=bU (qZ a0 a1) λe=>if cG e 0 then some ((sh.mk (Fm.mk 0 (Ty.mk 0 []) [] []) []),e)else bU (rk a2) λb=>if cG b 0 then some ((sh.mk (Fm.mk 0 (Ty.mk 0 []) [] []) []),b)else b8 (cA FU (bZ.mk a0 a1.acL a1.acO) a2) λa c=>if cG c 0 then some ((sh.mk (Fm.mk 0 (Ty.mk 0 []) [] []) []),c)else bU (jN FU a.cf) λd=>ef (dP [] a.eD)<|some ((sh.mk d (dN [] a.eD)),0)
def lp(a0:List Fm)(a1:Sq)(a2:Pf)(a3:Fm):Option Int:=b8 (j_ a0 a1 a2) λd c=>if cG c 0 then some c else bU (gP a1.acL a3) λa=>if cG a 0 then some a else bU (ki d.cf a3) λb=>some b
def rz(a0:List Fm)(a1:Sq)(a2:Pf)(a3:Fm):Option Bool:=bU (lp a0 a1 a2 a3) λa=>some (dq (cr a 0) true (dq (cr a 4) true (dq (cr a 5) true (cr a 3))))
def j4(a0:List Int):Option Bool:=bU (sR) λZ=>if Z then bU (Es a0) λT=>if T then bU (La a0) λU=>b8 (su U) λk d25=>b8 (j7 FU d25 1) λl d31=>ef (dP [] k)<|ef (dP (dN [] k) [l])<|b8 (eA FU d31 (dN (dN [] k) [l]) (Ty.mk 1 []) 2) λV d50=>b8 (eA FU d50 (dN (dN [] k) [l]) (Ty.mk 1 []) 1) λW d53=>bU (nS V W) λm=>b8 (eQ d53 4) λu d224=>cB ((Vp λ(i:Int) (a:Int) (b:Int) (c:List Ty) (d:List Tm) (e:List Fm) (n:cH)=>if m8 i 0 then cB (λ(v:Int) (w:Int) (x:List Ty) (y:List Tm) (z:List Fm) (A:cH)=>some (.next ((di .i64 i 1),v,w,x,y,z,A))) λq=>b8 (eA FU n (dN (dN [] k) [l]) (Ty.mk 1 []) 1) λB C=>b8 (eQ C 3) λD E=>bU (rJ D) λF=>bU (nS B F) λs=>b8 (eQ E 2) λG t=>if cr G 0 then bU (gf 2 (Fm.mk a (Ty.mk b c) d e) s) λf=>q f.acH f.b7.acH f.b7.acI f.cv f.acI t else bU (gf 2 s (Fm.mk a (Ty.mk b c) d e)) λg=>q g.acH g.b7.acH g.b7.acI g.cv g.acI t else some (.Fy (i,a,b,c,d,e,n))):(Int×Int×Int×(List Ty)×(List Tm)×(List Fm)×cH)->(Option (dJ (Int×Int×Int×(List Ty)×(List Tm)×(List Fm)×cH) (Bool)))) λH=>bU (mJ H FU (u,m.acH,m.b7.acH,m.b7.acI,m.cv,m.acI,d224)) (dI (Vp λ(i:Int) (a:Int) (b:Int) (c:List Ty) (d:List Tm) (e:List Fm) (n:cH)=>bU (ic 5 l (Fm.mk a (Ty.mk b c) d e)) λj=>b8 (kb j j) λI o=>bU (so 0) λJ=>b8 (fy j J) λK h=>bU (so 0) λL=>b8 (fy (Fm.mk a (Ty.mk b c) d e) L) λX M=>bU (gf 3 (Fm.mk a (Ty.mk b c) d e) (Fm.mk a (Ty.mk b c) d e)) λN=>bU (ic 5 l N) λO=>bU (so 0) λP=>b8 (fy O P) λY Q=>if dq (cG o 0) true (cG h 0)then some (dq (cr o 0) (dq (cr h 0) true (cr h 4)) (dq (cr o 4) (dq (cr h 0) true (cr h 4)) false))else cB (λ(R:Bool)=>some R) λp=>if cr M 10 then if cr Q 10 then bU (rz [] (Sq.mk k [I]) K j) λS=>p S else p false else p false) (λr=>some r))else some true else some false
def ma(a0:Ty):Option Int:=b8 (gp a0) λb a=>some a
def jS(a0:Tm)(a1 a b:Int):Option Int:=bU (qt a0 (da .i64 b a1)) λc=>some (da .i64 a c)
def kY(a0:Fm)(a1:Int):Option Int:=bU (gA FU a0 0 (λ(s:Int) (a:Tm) (b:Int)=>jS a b s a1) 0) λc=>some c
def oS(a0 a1 a:Int)(b:Tm):Option Tm:=if cr (di .i64 a0 a1) a then bU (pe b 0 (da .i64 a a1)) λc=>some c else if m8 (di .i64 a0 a1) a then bU (fk (di .i64 a0 1)) λd=>some d else bU (fk a0) λe=>some e
def Fc(a0:Tm)(a1:Int)(a2:Tm):Option Tm:=b8 (mg a0 (λ(s:Unit) (a:Int) (b:Int)=>mK (oS a b a1 a2) s) ()) λc d=>some c
def iG(a0:Tm)(a1 a:Int)(b:Tm):Option Tm:=bU (Fc a0 (da .i64 a a1) b) λc=>some c
def kK(a0:Fm)(a1:Int)(a2:Tm):Option Fm:=b8 (cL FU a0 0 (λ(s:Unit) (a:Tm) (b:Int)=>mK (iG a b a1 a2) s) ()) λc d=>some c
def ow(a0:List Ty):Option Int:=if m8 (cE a0) 16 then some 3 else ef (c0 a0)<|cB (λ(d:Int) (b:Ty)=>(λ(_:Unit)=>bU (ma b) λa=>if cG a 0 then some (.ret a)else some (.next ())):Int->Ty->(Unit)->(Option (dJ (Unit) (Int)))) λc=>bU (cY c a0 0 ()) (dI (λ(_:Unit)=>some 0) (λr=>some r))
def mN(a0:Ty):Option cj:=b8 (gp a0) λa b=>some (cj.mk a0 a)
def pA(a0:List Ty):Option (List cj):=ef (c0 a0)<|cB (λ(d:Int) (b:Ty)=>(λ(v40:List cj)=>bU (mN b) λa=>ef (dP v40 [a])<|some (.next (dN v40 [a]))):Int->Ty->(List cj)->(Option (dJ (List cj) (List cj)))) λc=>bU (cY c a0 0 []) (dI (λ(v40:List cj)=>some v40) (λr=>some r))
def eC(a0:List cj)(a1:List Ty):Option (List cj):=bU (pA a1) λa=>ef (dP a0 a)<|some (dN a0 a)
def tY(a0:Int)(a1 a2:cj):Option (cj×Int):=if m8 (da .i64 (da .i64 1 a1.acJ) a2.acJ) 64 then some ((cj.mk (Ty.mk 0 []) 0),4)else some ((cj.mk (Ty.mk a0 [a1.b7,a2.b7]) (da .i64 (da .i64 1 a1.acJ) a2.acJ)),0)
def jn(a0:Int):Option (List Int):=if cr a0 4 then some [1] else if cr a0 5 then some [1,1] else if cr a0 7 then some [2] else if cr a0 8 then some [2,1,2] else if cr a0 13 then some [5] else some []
def iM(a0:cj)(a1:Int):Option Bool:=some (cr a0.b7.acH a1)
def jH(a0:cj)(a1:Int):Option cj:=bU (cq a0.b7.acI a1) λa=>bU (mN a) λb=>some b
def kU(a0 a1:cj):Option Bool:=cB (λ(v6:Bool)=>some v6) λa=>if cr a0.acJ a1.acJ then bU (eu FU a0.b7 a1.b7) λb=>a b else a false
def Bv:Option Ty:=some (Ty.mk 2 [])
def oz(a0:Ty)(a1:List Ty):Option Ty:=cB ((Tr λ(a:Int) (v49:Int) (b:List Ty)=>if qf a 0 then bU (cq a1 a) λc=>some (.next ((di .i64 a 1),4,[c,(Ty.mk v49 b)]))else some (.Fy (a,v49,b))):(Int×Int×(List Ty))->(Option (dJ (Int×Int×(List Ty)) (Ty)))) λd=>bU (mJ d FU ((di .i64 (cE a1) 1),a0.acH,a0.acI)) (dI (Tr λ(a:Int) (v49:Int) (b:List Ty)=>some (Ty.mk v49 b)) (λr=>some r))
def rj(a0:Tm):Option Ty:=if cr a0.acH 9 then bU (kS) λa=>bU (Bv) λb=>bU (oz a0.b7 [a,b,a0.b7]) λc=>some c else bU (kS) λd=>bU (oz a0.b7 [d,a0.b7]) λe=>some e
def ek(a0:Tm)(a1:cj×cj×cj):Option (cj×Int):=bU (jn a0.acH) λa=>if m8 (cE a) 0 then bU (HE a 1 (cE a)) λf=>ef (c0 f)<|cB (λ(b:Int) (c:Int)=>(λ(_:Unit)=>cB (λ(v222:Bool)=>if v222 then some (.ret ((cj.mk (Ty.mk 0 []) 0),7))else some (.next ())) λd=>if cr b 0 then bU (iM a1.1 c) λi=>d (mq i)else if cr b 1 then bU (iM a1.2.1 c) λj=>d (mq j)else ef (cr b 2)<|bU (iM a1.2.2 c) λk=>d (mq k)):Int->Int->(Unit)->(Option (dJ (Unit) (cj×Int)))) λl=>bU (cY l f 0 ()) (dI (λ(_:Unit)=>bU (cq a 0) λm=>bU (mN (Ty.mk m [])) λn=>some (n,0)) (λr=>some r))else if cr a0.acH 3 then cB (λ(o:Bool)=>if o then some ((cj.mk (Ty.mk 0 []) 0),7)else bU (jH a1.1 1) λp=>some (p,0)) λg=>bU (iM a1.1 4) λq=>if q then bU (jH a1.1 0) λs=>bU (kU s a1.2.1) λt=>g (mq t)else g true else if dq (cr a0.acH 6) true (cr a0.acH 9)then bU (mN a0.b7) λh=>cB (λ(u:Bool)=>if u then some ((cj.mk (Ty.mk 0 []) 0),7)else some (h,0)) λe=>bU (kU a1.1 h) λv=>if v then bU (rj a0) λw=>bU (eu FU a1.2.1.b7 w) λx=>if x then bU (iM a1.2.2 (dq (cr a0.acH 9) 2 1)) λy=>e (mq y)else e true else e true else if cr a0.acH 10 then b8 (tY 3 a1.1 a1.2.1) λz A=>some (z,A)else bU (iM a1.1 3) λB=>if B then if cr a0.acH 11 then bU (jH a1.1 0) λC=>some (C,0)else bU (jH a1.1 1) λD=>some (D,0)else some ((cj.mk (Ty.mk 0 []) 0),7)
def cO:Nat->(List cj)->Tm->Option (cj×Int)
 |0,_,_=>none|n+1,a0,a1=>if cr a1.acH 1 then if qf a1.acK (cE a0)then some ((cj.mk (Ty.mk 0 []) 0),6)else bU (cq a0 (di .i64 (di .i64 (cE a0) 1) a1.acK)) λF=>some (F,0)else if cr a1.acH 2 then bU (mN a1.b7) λk=>ef (dP a0 [k])<|bU (cq a1.acI 0) λB=>b8 (cO n (dN a0 [k]) B) λC l=>if cG l 0 then some ((cj.mk (Ty.mk 0 []) 0),l)else b8 (tY 4 k C) λD E=>some (D,E)else ef (c0 a1.acI)<|cB (λ(i:Int) (m:Tm)=>(XI λ(b:Int) (c:List Ty) (v218:Int) (d:Int) (e:List Ty) (f:Int) (v222:Int) (g:List Ty) (h:Int)=>cB (λ(o:Int) (p:List Ty) (q:Int) (s:Int) (t:List Ty) (u:Int) (v:Int) (w:List Ty) (x:Int)=>some (.next (o,p,q,s,t,u,v,w,x))) λj250=>b8 (cO n a0 m) λa j=>if cG j 0 then some (.ret ((cj.mk (Ty.mk 0 []) 0),j))else if cr i 0 then j250 a.b7.acH a.b7.acI a.acJ d e f v222 g h else if cr i 1 then j250 b c v218 a.b7.acH a.b7.acI a.acJ v222 g h else ef (cr i 2)<|j250 b c v218 d e f a.b7.acH a.b7.acI a.acJ):Int->Tm->(Int×(List Ty)×Int×Int×(List Ty)×Int×Int×(List Ty)×Int)->(Option (dJ (Int×(List Ty)×Int×Int×(List Ty)×Int×Int×(List Ty)×Int) (cj×Int)))) λy=>bU (cY y a1.acI 0 (0,[],0,0,[],0,0,[],0)) (dI (XI λ(b:Int) (c:List Ty) (v218:Int) (d:Int) (e:List Ty) (f:Int) (v222:Int) (g:List Ty) (h:Int)=>b8 (ek a1 ((cj.mk (Ty.mk b c) v218),(cj.mk (Ty.mk d e) f),(cj.mk (Ty.mk v222 g) h))) λz A=>some (z,A)) (λr=>some r))
def hQ(a0:List cj)(a1:Tm)(a2:Int):Option Int:=b8 (cO FU a0 a1) λd c=>cB (λ(v21:Bool)=>if v21 then some 7 else some c) λa=>if cr c 0 then bU (iM d a2) λb=>a (mq b)else a false
def gV(a0:List cj)(a1:Tm):Option Int:=bU (hQ a0 a1 1) λa=>some a
def cN:Nat->(List cj)->Fm->Option Int
 |0,_,_=>none|n+1,a0,a1=>cB (λ(e:List cj)=>ef (c0 a1.acI)<|cB (λ(k:Int) (f:Fm)=>(λ(_:Unit)=>bU (cN n e f) λa=>if cG a 0 then some (.ret a)else some (.next ())):Int->Fm->(Unit)->(Option (dJ (Unit) (Int)))) λg=>bU (cY g a1.acI 0 ()) (dI (λ(_:Unit)=>some 0) (λr=>some r))) λb=>cB (bU (eC a0 [a1.b7]) λh=>b h) λc=>if dq (cr a1.acH 4) true (cr a1.acH 5)then c else if dq (cr a1.acH 6) true (cr a1.acH 7)then c else if dq (cr a1.acH 2) true (cr a1.acH 3)then b a0 else ef (c0 a1.cv)<|cB (λ(l:Int) (i:Tm)=>(λ(_:Unit)=>bU (gV a0 i) λd=>if cG d 0 then some (.ret d)else some (.next ())):Int->Tm->(Unit)->(Option (dJ (Unit) (Int)))) λj=>bU (cY j a1.cv 0 ()) (dI (λ(_:Unit)=>some 0) (λr=>some r))
def oy(a0:List Ty)(a1:Fm):Option Int:=bU (ow a0) λd=>if cG d 0 then some d else bU (fA a1) λa=>if cG a 0 then some a else bU (pA a0) λb=>bU (cN FU b a1) λc=>some c
def xe(a0:List Fm)(a1:Sq):Option Int:=if m8 (cE a0) 32 then some 3 else ef (c0 a0)<|cB (λ(h:Int) (d:Fm)=>(λ(_:Unit)=>bU (oy [] d) λa=>if cG a 0 then some (.ret a)else some (.next ())):Int->Fm->(Unit)->(Option (dJ (Unit) (Int)))) λe=>bU (cY e a0 0 ()) (dI (λ(_:Unit)=>bU (ow a1.acL) λb=>if cG b 0 then some b else if m8 (cE a1.acO) 16 then some 3 else ef (c0 a1.acO)<|cB (λ(i:Int) (f:Fm)=>(λ(_:Unit)=>bU (oy a1.acL f) λc=>if cG c 0 then some (.ret c)else some (.next ())):Int->Fm->(Unit)->(Option (dJ (Unit) (Int)))) λg=>bU (cY g a1.acO 0 ()) (dI (λ(_:Unit)=>some 0) (λr=>some r))) (λr=>some r))
def AJ:Option Unit:=some ()
def dV(a0:cm)(a1:Fm):Option cm:=ef (dP a0.known [(cZ.mk a1 a0.ey.vars)])<|some (cm.mk (fv.mk a0.ey.vars (da .i64 a0.ey.acO 1)) a0.acL (dN a0.known [(cZ.mk a1 a0.ey.vars)]))
def v8(a0:Sq):Option cm:=bU (pA a0.acL) λg=>ef (c0 a0.acO)<|cB (λ(h:Int) (e:Fm)=>(Xo λ(b:Int) (v46:Int) (c:List cj) (d:List cZ)=>bU (dV (cm.mk (fv.mk b v46) c d) e) λa=>some (.next (a.ey.vars,a.ey.acO,a.acL,a.known))):Int->Fm->(Int×Int×(List cj)×(List cZ))->(Option (dJ (Int×Int×(List cj)×(List cZ)) (cm)))) λf=>bU (cY f a0.acO 0 ((cE a0.acL),0,g,[])) (dI (Xo λ(b:Int) (v46:Int) (c:List cj) (d:List cZ)=>some (cm.mk (fv.mk b v46) c d)) (λr=>some r))
def lO(a0:cm)(a1:Int):Option (Fm×Bool):=if qf a1 (cE a0.known)then some ((Fm.mk 0 (Ty.mk 0 []) [] []),false)else bU (cq a0.known (di .i64 (di .i64 (cE a0.known) 1) a1)) λa=>bU (c_ a.cf 0 (di .i64 a0.ey.vars a.vars)) λb=>some (b,true)
def tk(a0:List Fm)(a1:Pf)(a2:cm):Option (b0×Int):=b8 (lO a2 a1.acK) λa b=>if b then some ((b0.mk a 0),0)else some ((b0.mk (Fm.mk 0 (Ty.mk 0 []) [] []) 0),8)
def re(a0:List Fm)(a1:Pf)(a2:cm):Option (b0×Int):=if qf a1.acK (cE a0)then some ((b0.mk (Fm.mk 0 (Ty.mk 0 []) [] []) 0),9)else bU (cq a0 a1.acK) λa=>some ((b0.mk a 0),0)
def cK(a0:fv)(a1 a2:Int):Option Int:=if dq (m8 (da .i64 a0.vars a1) 16) true (m8 (da .i64 a0.acO a2) 16)then some 3 else some 0
def rp(a0:Tm):Option Int:=b8 (iC a0) λb a=>some a
def tz(a0 a1:Tm):Option Bool:=bU (gB FU a0 a1) λa=>some a
def jw(a0 a1:Int)(a2:Ty)(a3:(List (Option Nat)))(nh:List HC):Option ((Option Nat)×List HC):=ef (c0 a3)<|cB (λ(l:Int) (h:Option Nat)=>(λ(b:List HC)=>bU (HC.b_ b (List.length nh)) λa=>bU (h) λg=>bU (HC.b_ b g) λe=>bU (HC.b_ (mB b (List.length nh) (HC.dH (dz.mk a.acH a.acK a.xX a.acI (da .i64 a.size e.size) a.free a.normal))) g) λi=>some (.next (mB (mB b (List.length nh) (HC.dH (dz.mk a.acH a.acK a.xX a.acI (da .i64 a.size e.size) a.free a.normal))) (List.length nh) (HC.dH (dz.mk a.acH a.acK a.xX a.acI (da .i64 a.size e.size) (imax a.free i.free) a.normal))))):Int->(Option Nat)->(List HC)->(Option (dJ (List HC) ((Option Nat)×List HC)))) λj=>bU (cY j a3 0 (nh++[HC.dH (dz.mk a0 a1 a2 a3 1 0 false)])) (dI (λ(b:List HC)=>cB (λ(k:List HC)=>some ((some (List.length nh)),k)) λf=>if cr a0 1 then bU (HC.b_ b (List.length nh)) λd=>f (mB b (List.length nh) (HC.dH (dz.mk d.acH d.acK d.xX d.acI d.size (da .i64 a1 1) d.normal)))else if cr a0 2 then bU (HC.b_ b (List.length nh)) λc=>f (mB b (List.length nh) (HC.dH (dz.mk c.acH c.acK c.xX c.acI c.size (imax 0 (di .i64 c.free 1)) c.normal)))else f b) (λr=>some r))
def sO:Nat->Tm->List HC->Option ((Option Nat)×List HC)
 |0,_,_=>none|n+1,a0,nh=>ef (c0 a0.acI)<|cB (λ(h:Int) (e:Tm)=>(rD λ(v51:(List (Option Nat))) (a:List HC)=>b8 (sO n e a) λb c=>ef (dP v51 [b])<|some (.next ((dN v51 [b]),c))):Int->Tm->((List (Option Nat))×List HC)->(Option (dJ ((List (Option Nat))×List HC) ((Option Nat)×List HC)))) λf=>bU (cY f a0.acI 0 ([],nh)) (dI (rD λ(v51:(List (Option Nat))) (a:List HC)=>b8 (jw a0.acH a0.acK a0.b7 v51 a) λg d=>some (g,d)) (λr=>some r))
def wG(a0:Option Nat)(nh:List HC):Option Int:=bU (a0) λa=>bU (HC.b_ nh a) λb=>some b.size
def n9(a0:Option Nat)(nh:List HC):Option Bool:=bU (a0) λn=>bU (HC.b_ nh n) λa=>if cr a.acH 3 then bU (cq a.acI 0) λo=>bU (o) λp=>bU (HC.b_ nh p) λq=>some (cr q.acH 2)else if cr a.acH 6 then cB (λ(r:Bool)=>some r) λb=>bU (cq a.acI 2) λf=>bU (f) λg=>bU (HC.b_ nh g) λc=>if cr c.acH 4 then b true else b (cr c.acH 5)else if cr a.acH 9 then cB (λ(h:Bool)=>some h) λd=>bU (cq a.acI 2) λi=>bU (i) λj=>bU (HC.b_ nh j) λe=>if cr e.acH 7 then d true else d (cr e.acH 8)else if dq (cr a.acH 11) true (cr a.acH 12)then bU (cq a.acI 0) λk=>bU (k) λl=>bU (HC.b_ nh l) λm=>some (cr m.acH 10)else some false
def h_(a0:Option Nat)(nh:List HC):Option Int:=bU (a0) λa=>bU (HC.b_ nh a) λb=>if cr b.acH 2 then some 1 else some 0
def lK:Nat->(Option Nat)->Int->List HC->Option Int
 |0,_,_,_=>none|n+1,a0,a1,nh=>bU (a0) λc=>bU (HC.b_ nh c) λa=>if Dh a.free a1 then some 0 else if cr a.acH 1 then if cr a.acK a1 then some 1 else some 0 else ef (c0 a.acI)<|cB (λ(h:Int) (d:Option Nat)=>(λ(b:Int)=>bU (h_ (some c) nh) λe=>bU (lK n d (da .i64 a1 e) nh) λf=>some (.next (da .i64 b f))):Int->(Option Nat)->(Int)->(Option (dJ (Int) (Int)))) λg=>bU (cY g a.acI 0 0) (dI (λ(b:Int)=>some b) (λr=>some r))
def fq(a0:Option Nat)(a1:(List (Option Nat)))(nh:List HC):Option ((Option Nat)×List HC):=bU (a0) λc=>bU (HC.b_ nh c) λa=>b8 (jw a.acH a.acK a.xX a1 nh) λd b=>some (d,b)
def mA:Nat->(Option Nat)->Int->Int->List HC->Option ((Option Nat)×List HC)
 |0,_,_,_,_=>none|n+1,a0,a1,a2,nh=>cB (λ(v21:Bool)=>if v21 then some (a0,nh)else bU (a0) λe=>bU (HC.b_ nh e) λc=>if cr c.acH 1 then b8 (jw c.acH (da .i64 c.acK a2) c.xX [] nh) λo h=>some (o,h)else ef (c0 c.acI)<|cB (λ(s:Int) (i:Option Nat)=>(rD λ(a:(List (Option Nat))) (b:List HC)=>bU (h_ (some e) b) λj=>b8 (mA n i (da .i64 a1 j) a2 b) λd f=>ef (dP a [d])<|some (.next ((dN a [d]),f))):Int->(Option Nat)->((List (Option Nat))×List HC)->(Option (dJ ((List (Option Nat))×List HC) ((Option Nat)×List HC)))) λk=>bU (cY k c.acI 0 ([],nh)) (dI (rD λ(a:(List (Option Nat))) (b:List HC)=>b8 (fq (some e) a b) λl g=>some (l,g)) (λr=>some r))) λm=>bU (a0) λp=>bU (HC.b_ nh p) λq=>if Dh q.free a1 then m true else m (cr a2 0)
def ns:Nat->(Option Nat)->Int->(Option Nat)->List HC->Option ((Option Nat)×List HC)
 |0,_,_,_,_=>none|n+1,a0,a1,a2,nh=>bU (a0) λd=>bU (HC.b_ nh d) λa=>if Dh a.free a1 then some (a0,nh)else if cr a.acH 1 then if cr a.acK a1 then b8 (mA FU a2 0 a1 nh) λm g=>some (m,g)else b8 (jw a.acH (di .i64 a.acK 1) a.xX [] nh) λo h=>some (o,h)else ef (c0 a.acI)<|cB (λ(p:Int) (i:Option Nat)=>(rD λ(v131:(List (Option Nat))) (b:List HC)=>bU (h_ (some d) b) λj=>b8 (ns n i (da .i64 a1 j) a2 b) λc e=>ef (dP v131 [c])<|some (.next ((dN v131 [c]),e))):Int->(Option Nat)->((List (Option Nat))×List HC)->(Option (dJ ((List (Option Nat))×List HC) ((Option Nat)×List HC)))) λk=>bU (cY k a.acI 0 ([],nh)) (dI (rD λ(v131:(List (Option Nat))) (b:List HC)=>b8 (fq (some d) v131 b) λl f=>some (l,f)) (λr=>some r))
def sq(a0:Option Nat)(a1:(List (Option Nat)))(nh:List HC):Option ((Option Nat)×List HC):=ef (c0 a1)<|cB (λ(g:Int) (d:Option Nat)=>(rD λ(a:Option Nat) (b:List HC)=>b8 (jw 3 0 (Ty.mk 0 []) [a,d] b) λe c=>some (.next (e,c))):Int->(Option Nat)->((Option Nat)×List HC)->(Option (dJ ((Option Nat)×List HC) ((Option Nat)×List HC)))) λf=>bU (cY f a1 0 (a0,nh)) (dI (rD λ(a:Option Nat) (b:List HC)=>some (a,b)) (λr=>some r))
def lB(a0:Option Nat)(nh:List HC):Option ((Option Nat)×List HC):=bU (a0) λj=>bU (HC.b_ nh j) λa=>if cr a.acH 3 then bU (cq a.acI 0) λk=>bU (k) λl=>bU (HC.b_ nh l) λm=>bU (cq m.acI 0) λn=>bU (cq a.acI 1) λo=>b8 (ns FU n 0 o nh) λp g=>some (p,g)else if cr a.acH 11 then bU (cq a.acI 0) λq=>bU (q) λr=>bU (HC.b_ nh r) λs=>bU (cq s.acI 0) λt=>some (t,nh)else if cr a.acH 12 then bU (cq a.acI 0) λu=>bU (u) λv=>bU (HC.b_ nh v) λw=>bU (cq w.acI 1) λx=>some (x,nh)else bU (cq a.acI 0) λd=>bU (cq a.acI 1) λe=>bU (cq a.acI 2) λy=>bU (y) λf=>bU (HC.b_ nh f) λb=>if cr (cE b.acI) 0 then some (d,nh)else bU (cq b.acI (di .i64 (cE b.acI) 1)) λz=>b8 (fq (some j) [d,e,z] nh) λA c=>bU (HC.b_ c f) λB=>b8 (sq e B.acI c) λC h=>b8 (sq C [A] h) λD i=>some (D,i)
def uZ(a0:Option Nat)(nh:List HC):Option (Int×List HC):=bU (a0) λd=>bU (HC.b_ nh d) λa=>if cr a.acH 3 then bU (cq a.acI 0) λi=>bU (i) λj=>bU (HC.b_ nh j) λk=>bU (cq k.acI 0) λl=>bU (l) λe=>bU (HC.b_ nh e) λm=>bU (lK FU (some e) 0 nh) λn=>bU (cq a.acI 1) λo=>bU (o) λp=>bU (HC.b_ nh p) λq=>some ((da .i64 m.size (y9 .i64 n (di .i64 q.size 1))),nh)else if cr a.acH 6 then bU (cq a.acI 2) λr=>bU (r) λs=>bU (HC.b_ nh s) λf=>if cr f.acH 5 then bU (cq a.acI 1) λt=>bU (t) λu=>bU (HC.b_ nh u) λg=>bU (cq f.acI 0) λv=>bU (v) λw=>bU (HC.b_ nh w) λx=>bU (cq a.acI 0) λy=>bU (y) λz=>bU (HC.b_ nh z) λA=>some ((da .i64 (da .i64 (da .i64 (da .i64 (da .i64 2 g.size) (y9 .i64 2 x.size)) 1) A.size) g.size),nh)else bU (cq a.acI 0) λB=>bU (B) λC=>bU (HC.b_ nh C) λD=>some (D.size,nh)else if cr a.acH 9 then bU (cq a.acI 2) λE=>bU (E) λF=>bU (HC.b_ nh F) λb=>if cr b.acH 8 then bU (cq a.acI 1) λG=>bU (G) λH=>bU (HC.b_ nh H) λh=>bU (cq b.acI 0) λI=>bU (I) λJ=>bU (HC.b_ nh J) λK=>bU (cq b.acI 1) λL=>bU (L) λM=>bU (HC.b_ nh M) λN=>bU (cq a.acI 0) λO=>bU (O) λP=>bU (HC.b_ nh P) λQ=>some ((da .i64 (da .i64 (da .i64 (da .i64 (da .i64 (da .i64 3 h.size) K.size) (y9 .i64 2 N.size)) 1) Q.size) h.size),nh)else bU (cq a.acI 0) λR=>bU (R) λS=>bU (HC.b_ nh S) λT=>some (T.size,nh)else b8 (lB (some d) nh) λU c=>bU (U) λV=>bU (HC.b_ c V) λW=>some (W.size,c)
def qa(a0:Option Nat)(nh:List HC):Option Int:=b8 (uZ a0 nh) λr _=>some r
def jP:Nat->(Option Nat)->Int->List HC->Option ((Option Nat)×Int×List HC)
 |0,_,_,_=>none|n+1,a0,a1,nh=>bU (a0) λd=>bU (HC.b_ nh d) λh=>if h.normal then some (none,0,nh)else bU (n9 (some d) nh) λo=>if o then bU (qa (some d) nh) λp=>if m8 (di .i64 p h.size) a1 then some (none,4,nh)else b8 (lB (some d) nh) λq k=>some (q,0,k)else ef (c0 h.acI)<|cB (λ(j:Int) (s:Option Nat)=>(λ(c:List HC)=>gM (jP n s a1 c) λf g b=>if cG g 0 then some (.ret (none,g,b))else if Option.isSome f then bU (HC.b_ b d) λe=>ef (wF e.acI)<|bU (cq e.acI j) λt=>b8 (fq (some d) (vU e.acI j f) b) λl i=>some (.ret (l,0,i))else some (.next b)):Int->(Option Nat)->(List HC)->(Option (dJ (List HC) ((Option Nat)×Int×List HC)))) λm=>bU (cY m h.acI 0 nh) (dI (λ(c:List HC)=>bU (HC.b_ c d) λa=>some (none,0,(mB c d (HC.dH (dz.mk a.acH a.acK a.xX a.acI a.size a.free true))))) (λr=>some r))
def jE(a0:Option Nat)(nh:List HC):Option (Bool×Int×List HC):=bU (a0) λb=>bU (HC.c7 nh b) λd=>bU (wG d.term nh) λg=>gM (jP FU d.term (di .i64 4096 g) nh) λc e a=>if dq (cG e 0) true (Option.isNone c)then some (false,e,a)else bU (HC.c7 a b) λf=>some (true,0,(mB (mB a b (HC.ik (fR.mk c f.steps))) b (HC.ik (fR.mk c (da .i64 f.steps 1)))))
def iP:Nat->(Option Nat)->List HC->Option Tm
 |0,_,_=>none|n+1,a0,nh=>bU (a0) λd=>bU (HC.b_ nh d) λa=>bU (iq FU a.xX) λe=>ef (c0 a.acI)<|cB (λ(h:Int) (f:Option Nat)=>(λ(b:List Tm)=>bU (iP n f nh) λc=>ef (dP b [c])<|some (.next (dN b [c]))):Int->(Option Nat)->(List Tm)->(Option (dJ (List Tm) (Tm)))) λg=>bU (cY g a.acI 0 []) (dI (λ(b:List Tm)=>some (Tm.mk a.acH a.acK e b)) (λr=>some r))
def jI:Nat->(Option Nat)->List HC->Option (Bool×List HC)
 |0,_,_=>none|n+1,a0,nh=>bU (a0) λc=>bU (HC.b_ nh c) λe=>if e.normal then some (true,nh)else bU (n9 (some c) nh) λg=>if g then some (false,nh)else ef (c0 e.acI)<|cB (λ(j:Int) (h:Option Nat)=>(λ(d:List HC)=>b8 (jI n h d) λf b=>if f then some (.next b)else some (.ret (false,b))):Int->(Option Nat)->(List HC)->(Option (dJ (List HC) (Bool×List HC)))) λi=>bU (cY i e.acI 0 nh) (dI (λ(d:List HC)=>bU (HC.b_ d c) λa=>some (true,(mB d c (HC.dH (dz.mk a.acH a.acK a.xX a.acI a.size a.free true))))) (λr=>some r))
def kg(a0:Tm)(a1:Int):Option (Tm×Int×Int):=bU (rp a0) λt=>if cG t 0 then some ((Tm.mk 0 0 (Ty.mk 0 []) []),0,t)else cB (λ(p:Bool)=>if p then some ((Tm.mk 0 0 (Ty.mk 0 []) []),0,1)else b8 (sO FU a0 ([]:List HC)) λq a=>cB ((λ(b:List HC)=>bU (HC.c7 b (List.length a)) λi=>if tD i.steps a1 then gM (jE (some (List.length a)) b) λj e c=>if cG e 0 then some (.ret ((Tm.mk 0 0 (Ty.mk 0 []) []),0,e))else if j then some (.next c)else bU (HC.c7 c (List.length a)) λf=>bU (iP FU f.term c) λk=>some (.ret (k,f.steps,0))else some (.Fy b)):(List HC)->(Option (dJ (List HC) (Tm×Int×Int)))) λl=>bU (mJ l FU (a++[HC.ik (fR.mk q 0)])) (dI (λ(b:List HC)=>bU (HC.c7 b (List.length a)) λm=>b8 (jI FU m.term b) λn d=>if n then bU (HC.c7 d (List.length a)) λg=>bU (iP FU g.term d) λo=>some (o,g.steps,0)else some ((Tm.mk 0 0 (Ty.mk 0 []) []),0,5)) (λr=>some r))) λh=>if tD a1 0 then h true else if m8 a1 65536 then h true else bU (py a0) λs=>h (mq s)
def kX(a0 a1:Tm)(a2:Int):Option Int:=bU (rp a0) λh=>if cG h 0 then some h else bU (rp a1) λa=>if cG a 0 then some a else bU (tz a0 a1) λd=>if d then some 0 else gM (kg a0 a2) λe i b=>if cG b 0 then some b else gM (kg a1 a2) λf j c=>if cG c 0 then some c else bU (tz e f) λg=>if g then some 0 else some 11
def js:Nat->Fm->Fm->Option Int
 |0,_,_=>none|n+1,a0,a1=>cB (λ(i:Bool)=>if i then some 11 else ef (c0 a0.cv)<|cB (λ(j:Int) (k:Tm)=>(λ(_:Unit)=>bU (cq a1.cv j) λc=>bU (kX k c 1000) λa=>if cG a 0 then some (.ret a)else some (.next ())):Int->Tm->(Unit)->(Option (dJ (Unit) (Int)))) λl=>bU (cY l a0.cv 0 ()) (dI (λ(_:Unit)=>ef (c0 a0.acI)<|cB (λ(d:Int) (e:Fm)=>(λ(_:Unit)=>bU (cq a1.acI d) λf=>bU (js n e f) λb=>if cG b 0 then some (.ret b)else some (.next ())):Int->Fm->(Unit)->(Option (dJ (Unit) (Int)))) λg=>bU (cY g a0.acI 0 ()) (dI (λ(_:Unit)=>some 0) (λr=>some r))) (λr=>some r))) λh=>if cG a0.acH a1.acH then h true else bU (eu FU a0.b7 a1.b7) λm=>h (mq m)
def jk(a0 a1:Fm):Option Int:=bU (fA a0) λc=>if cG c 0 then some c else bU (fA a1) λa=>if cG a 0 then some a else bU (js FU a0 a1) λb=>some b
def dO(a0:cm)(a1:List Ty):Option cm:=bU (eC a0.acL a1) λa=>some (cm.mk (fv.mk (da .i64 a0.ey.vars (cE a1)) a0.ey.acO) a a0.known)
def dv(a0 a1:Int):Option Int:=ef (O7 a1)<|some (VB .u32 a0 a1)
def oE(a0 a1 a:Int):Option Int:=if qf a0 a1 then ef (O7 (di .i64 a0 a1))<|some (tZ .u32 a (U5 .u32 1 (di .i64 a0 a1)))else some a
def jv(a0:Tm):Option Int:=bU (og a0 (λ(s:Int) (a:Int) (b:Int)=>oE a b s) 0) λc=>some c
def gb(a0:cj)(a1:Ty):Option Bool:=bU (mN a1) λa=>bU (kU a0 a) λb=>some b
def gI(a0:Fm)(a1:Tm):Option (Fm×Int):=b8 (eL a0) λd f=>b8 (iC a1) λa e=>bU (kY a0 0) λb=>if m8 (da .i64 d (y9 .i64 b (di .i64 a 1))) 4096 then some ((Fm.mk 0 (Ty.mk 0 []) [] []),4)else bU (kK a0 0 a1) λc=>some (c,0)
def xH(a0:Tm):Option Int:=some 0
def kr(a0:Tm)(a1 a:Int):Option (Tm×Int):=if cG a 0 then some (a0,a)else gM (kg a0 1000) λb d c=>some (b,c)
def ny(a0:Fm):Option (Fm×Int):=bU (kY a0 0) λc=>if cr c 0 then bU (kK a0 0 (Tm.mk 0 0 (Ty.mk 0 []) [])) λd=>some (d,0)else b8 (cL FU a0 0 (λ(s:Int) (g:Tm) (h:Int)=>kr g h s) 0) λa b=>if cG b 0 then some ((Fm.mk 0 (Ty.mk 0 []) [] []),b)else bU (kY a 0) λe=>if m8 e 0 then some ((Fm.mk 0 (Ty.mk 0 []) [] []),6)else bU (kK a 0 (Tm.mk 0 0 (Ty.mk 0 []) [])) λf=>some (f,0)
def zx(a0:Int):Option il:=if cr a0 16 then bU (oL 4 []) λa=>bU (kS) λb=>bU (fk 0) λc=>bU (oL 5 [c]) λd=>some (il.mk 1 a [b] d)else bU (oL 7 []) λe=>bU (kS) λf=>bU (Bv) λg=>bU (fk 1) λh=>bU (fk 0) λi=>bU (oL 8 [h,i]) λj=>some (il.mk 2 e [f,g] j)
def rM(a0:List Fm)(a1:Pf)(a2:cm):Option (b0×Int):=bU (cq a1.cv 0) λb=>bU (gV a2.acL b) λa=>if cG a 0 then some ((b0.mk (Fm.mk 0 (Ty.mk 0 []) [] []) 0),a)else bU (ox b b) λc=>some ((b0.mk c 0),0)
def qX(a0:Fm):Option (Bool×Int):=b8 (qq a0 1) λa b=>some (a,b)
mutual
def cR:Nat->(List Fm)->Pf->cm->Option (b0×Int)
 |0,_,_,_=>none|n+1,a0,a1,a2=>b8 (if cr a1.acH 1 then tk a0 a1 a2 else if cr a1.acH 2 then re a0 a1 a2 else if cr a1.acH 3 then lE n a0 a1 a2 else if cr a1.acH 4 then gn n a0 a1 a2 else if cr a1.acH 5 then gn n a0 a1 a2 else if cr a1.acH 6 then lA n a0 a1 a2 else if cr a1.acH 7 then lC n a0 a1 a2 else if cr a1.acH 8 then fY n a0 a1 a2 else if cr a1.acH 12 then fY n a0 a1 a2 else if cr a1.acH 9 then fT n a0 a1 a2 else if cr a1.acH 13 then fT n a0 a1 a2 else if cr a1.acH 10 then gq n a0 a1 a2 else if cr a1.acH 14 then gq n a0 a1 a2 else if cr a1.acH 11 then gm n a0 a1 a2 else if cr a1.acH 15 then gm n a0 a1 a2 else if cr a1.acH 16 then mj n a0 a1 a2 else if cr a1.acH 17 then mj n a0 a1 a2 else if cr a1.acH 18 then rM a0 a1 a2 else if cr a1.acH 19 then lb n a0 a1 a2 else if cr a1.acH 20 then mT n a0 a1 a2 else none) λa b=>if cG b 0 then some ((b0.mk (Fm.mk 0 (Ty.mk 0 []) [] []) 0),b)else bU (fA a.cf) λd=>if cG d 0 then some ((b0.mk (Fm.mk 0 (Ty.mk 0 []) [] []) 0),4)else cB (λ(v30:Int)=>some ((b0.mk a.cf v30),0)) λc=>b8 (qX a.cf) λe f=>if e then c a.eD else c 0
def lE:Nat->(List Fm)->Pf->cm->Option (b0×Int)
 |0,_,_,_=>none|n+1,a0,a1,a2=>bU (cq a1.acI 0) λe=>b8 (cR n a0 e a2) λa b=>if cG b 0 then some ((b0.mk (Fm.mk 0 (Ty.mk 0 []) [] []) 0),b)else bU (cq a1.acI 1) λf=>b8 (cR n a0 f a2) λc d=>if cG d 0 then some ((b0.mk (Fm.mk 0 (Ty.mk 0 []) [] []) 0),d)else bU (qL 2 [a.cf,c.cf]) λg=>some ((b0.mk g (tZ .u32 a.eD c.eD)),0)
def gn:Nat->(List Fm)->Pf->cm->Option (b0×Int)
 |0,_,_,_=>none|n+1,a0,a1,a2=>bU (cq a1.acI 0) λc=>b8 (cU n a0 c a2 2) λa b=>if cG b 0 then some ((b0.mk (Fm.mk 0 (Ty.mk 0 []) [] []) 0),b)else bU (cq a.cf.acI (dq (cr a1.acH 5) 1 0)) λd=>some ((b0.mk d a.eD),0)
def lA:Nat->(List Fm)->Pf->cm->Option (b0×Int)
 |0,_,_,_=>none|n+1,a0,a1,a2=>bU (cq a1.dw 0) λe=>bU (cN FU a2.acL e) λa=>if cG a 0 then some ((b0.mk (Fm.mk 0 (Ty.mk 0 []) [] []) 0),a)else bU (cK a2.ey 0 1) λb=>if cG b 0 then some ((b0.mk (Fm.mk 0 (Ty.mk 0 []) [] []) 0),b)else bU (cq a1.acI 0) λf=>bU (dV a2 e) λg=>b8 (cR n a0 f g) λc d=>if cG d 0 then some ((b0.mk (Fm.mk 0 (Ty.mk 0 []) [] []) 0),d)else bU (qL 3 [e,c.cf]) λh=>some ((b0.mk h c.eD),0)
def lC:Nat->(List Fm)->Pf->cm->Option (b0×Int)
 |0,_,_,_=>none|n+1,a0,a1,a2=>bU (cq a1.acI 0) λf=>b8 (cU n a0 f a2 3) λa b=>if cG b 0 then some ((b0.mk (Fm.mk 0 (Ty.mk 0 []) [] []) 0),b)else bU (cq a1.acI 1) λg=>b8 (cR n a0 g a2) λc d=>if cG d 0 then some ((b0.mk (Fm.mk 0 (Ty.mk 0 []) [] []) 0),d)else bU (cq a.cf.acI 0) λh=>bU (jk h c.cf) λe=>if cG e 0 then some ((b0.mk (Fm.mk 0 (Ty.mk 0 []) [] []) 0),e)else bU (cq a.cf.acI 1) λi=>some ((b0.mk i (tZ .u32 a.eD c.eD)),0)
def fY:Nat->(List Fm)->Pf->cm->Option (b0×Int)
 |0,_,_,_=>none|n+1,a0,a1,a2=>bU (cK a2.ey 1 0) λh=>if cG h 0 then some ((b0.mk (Fm.mk 0 (Ty.mk 0 []) [] []) 0),h)else bU (cq a1.acI 0) λd=>bU (dO a2 [a1.b7]) λe=>b8 (cR n a0 d e) λa b=>if cG b 0 then some ((b0.mk (Fm.mk 0 (Ty.mk 0 []) [] []) 0),b)else cB (λ(v40:Int)=>bU (eW v40 a1.b7 a.cf) λf=>bU (dv a.eD 1) λg=>some ((b0.mk f g),0)) λc=>if cr a1.acH 12 then if cG (lX .u32 a.eD 1) 0 then some ((b0.mk (Fm.mk 0 (Ty.mk 0 []) [] []) 0),12)else c 6 else c 4
def fT:Nat->(List Fm)->Pf->cm->Option (b0×Int)
 |0,_,_,_=>none|n+1,a0,a1,a2=>bU (cq a1.cv 0) λc=>b8 (cO FU a2.acL c) λk j=>if cG j 0 then some ((b0.mk (Fm.mk 0 (Ty.mk 0 []) [] []) 0),j)else bU (jv c) λd=>bU (cq a1.acI 0) λe=>b8 (cU n a0 e a2 (dq (cr a1.acH 13) 6 4)) λa b=>if cG b 0 then some ((b0.mk (Fm.mk 0 (Ty.mk 0 []) [] []) 0),b)else bU (gb k a.cf.b7) λf=>if f then bU (cq a.cf.acI 0) λg=>b8 (gI g c) λh i=>some ((b0.mk h (tZ .u32 a.eD (dq (cr a1.acH 13) 0 d))),i)else some ((b0.mk (Fm.mk 0 (Ty.mk 0 []) [] []) 0),7)
def gq:Nat->(List Fm)->Pf->cm->Option (b0×Int)
 |0,_,_,_=>none|n+1,a0,a1,a2=>bU (cq a1.dw 0) λa=>bU (cq a1.cv 0) λb=>if cr a1.acH 14 then bU (cN FU a2.acL a) λd=>if cG d 0 then some ((b0.mk (Fm.mk 0 (Ty.mk 0 []) [] []) 0),d)else if cG a.acH 7 then some ((b0.mk (Fm.mk 0 (Ty.mk 0 []) [] []) 0),10)else b8 (cO FU a2.acL b) λm e=>if cG e 0 then some ((b0.mk (Fm.mk 0 (Ty.mk 0 []) [] []) 0),e)else bU (gb m a.b7) λo=>if o then bU (cq a1.acI 0) λp=>bU (cq a.acI 0) λq=>b8 (c6 n a0 p a2 q b) λr f=>if cG f 0 then some ((b0.mk (Fm.mk 0 (Ty.mk 0 []) [] []) 0),f)else bU (xH b) λs=>some ((b0.mk a (tZ .u32 r.eD s)),0)else some ((b0.mk (Fm.mk 0 (Ty.mk 0 []) [] []) 0),7)else bU (cN FU a2.acL a) λg=>if cG g 0 then some ((b0.mk (Fm.mk 0 (Ty.mk 0 []) [] []) 0),g)else if cG a.acH 5 then some ((b0.mk (Fm.mk 0 (Ty.mk 0 []) [] []) 0),10)else b8 (cO FU a2.acL b) λt h=>if cG h 0 then some ((b0.mk (Fm.mk 0 (Ty.mk 0 []) [] []) 0),h)else bU (gb t a.b7) λu=>if u then bU (cq a1.acI 0) λi=>bU (cq a.acI 0) λj=>b8 (c6 n a0 i a2 j b) λk c=>if cG c 0 then some ((b0.mk (Fm.mk 0 (Ty.mk 0 []) [] []) 0),c)else bU (jv b) λl=>some ((b0.mk a (tZ .u32 k.eD l)),0)else some ((b0.mk (Fm.mk 0 (Ty.mk 0 []) [] []) 0),7)
def gm:Nat->(List Fm)->Pf->cm->Option (b0×Int)
 |0,_,_,_=>none|n+1,a0,a1,a2=>bU (cq a1.acI 0) λg=>b8 (cU n a0 g a2 (dq (cr a1.acH 15) 7 5)) λa c=>if cG c 0 then some ((b0.mk (Fm.mk 0 (Ty.mk 0 []) [] []) 0),c)else bU (cK a2.ey 1 1) λd=>if cG d 0 then some ((b0.mk (Fm.mk 0 (Ty.mk 0 []) [] []) 0),d)else bU (cq a1.acI 1) λh=>bU (dO a2 [a.cf.b7]) λi=>bU (cq a.cf.acI 0) λj=>bU (dV i j) λk=>b8 (cR n a0 h k) λb e=>if cG e 0 then some ((b0.mk (Fm.mk 0 (Ty.mk 0 []) [] []) 0),e)else b8 (ny b.cf) λl f=>if cG f 0 then some ((b0.mk (Fm.mk 0 (Ty.mk 0 []) [] []) 0),f)else if dq (cr a1.acH 15) (cG (lX .u32 b.eD 1) 0) false then some ((b0.mk (Fm.mk 0 (Ty.mk 0 []) [] []) 0),12)else bU (dv b.eD 1) λm=>some ((b0.mk l (tZ .u32 a.eD m)),0)
def mj:Nat->(List Fm)->Pf->cm->Option (b0×Int)
 |0,_,_,_=>none|n+1,a0,a1,a2=>bU (cq a1.dw 0) λb=>bU (cq a1.cv 0) λd=>bU (zx a1.acH) λa=>bU (eC a2.acL [(Ty.mk a.acH [])]) λt=>bU (cN FU t b) λe=>if cG e 0 then some ((b0.mk (Fm.mk 0 (Ty.mk 0 []) [] []) 0),e)else bU (hQ a2.acL d a.acH) λf=>if cG f 0 then some ((b0.mk (Fm.mk 0 (Ty.mk 0 []) [] []) 0),f)else bU (cq a1.acI 0) λu=>b8 (c6 n a0 u a2 b a.base) λv g=>if cG g 0 then some ((b0.mk (Fm.mk 0 (Ty.mk 0 []) [] []) 0),g)else bU (cK a2.ey (cE a.vars) 1) λh=>if cG h 0 then some ((b0.mk (Fm.mk 0 (Ty.mk 0 []) [] []) 0),h)else bU (dO a2 a.vars) λi=>bU (c_ b 1 (di .i64 (cE a.vars) 1)) λj=>bU (dV i j) λk=>bU (cq a1.acI 1) λl=>bU (c_ b 1 (cE a.vars)) λm=>b8 (c6 n a0 l k m a.next) λo c=>if cG c 0 then some ((b0.mk (Fm.mk 0 (Ty.mk 0 []) [] []) 0),c)else b8 (gI b d) λp q=>bU (jv d) λr=>bU (dv o.eD (cE a.vars)) λs=>some ((b0.mk p (tZ .u32 (tZ .u32 r v.eD) s)),q)
def lb:Nat->(List Fm)->Pf->cm->Option (b0×Int)
 |0,_,_,_=>none|n+1,a0,a1,a2=>bU (cq a1.dw 0) λh=>bU (kS) λi=>bU (eC a2.acL [i]) λj=>bU (cN FU j h) λa=>if cG a 0 then some ((b0.mk (Fm.mk 0 (Ty.mk 0 []) [] []) 0),a)else bU (cq a1.acI 0) λk=>b8 (cU n a0 k a2 1) λb c=>if cG c 0 then some ((b0.mk (Fm.mk 0 (Ty.mk 0 []) [] []) 0),c)else bU (cq a1.acI 1) λl=>bU (cq b.cf.cv 0) λm=>b8 (c6 n a0 l a2 h m) λo d=>if cG d 0 then some ((b0.mk (Fm.mk 0 (Ty.mk 0 []) [] []) 0),d)else bU (cq b.cf.cv 1) λe=>b8 (gI h e) λf g=>some ((b0.mk f o.eD),g)
def mT:Nat->(List Fm)->Pf->cm->Option (b0×Int)
 |0,_,_,_=>none|n+1,a0,a1,a2=>bU (cq a1.acI 0) λf=>b8 (cU n a0 f a2 4) λa c=>if cG c 0 then some ((b0.mk (Fm.mk 0 (Ty.mk 0 []) [] []) 0),c)else bU (cq a.cf.acI 0) λb=>if cG b.acH 5 then some ((b0.mk (Fm.mk 0 (Ty.mk 0 []) [] []) 0),10)else bU (oz b.b7 [a.cf.b7]) λd=>bU (cq b.acI 0) λg=>bU (c_ g 2 1) λh=>bU (fk 1) λi=>bU (fk 0) λj=>bU (qe i [j]) λk=>b8 (gI h k) λl m=>cB (λ(o:Bool)=>if o then some ((b0.mk (Fm.mk 0 (Ty.mk 0 []) [] []) 0),4)else bU (eW 4 a.cf.b7 l) λp=>bU (eW 5 d p) λq=>some ((b0.mk q a.eD),0)) λe=>if cG m 0 then e true else bU (ma d) λr=>e (cG r 0)
def cU:Nat->(List Fm)->Pf->cm->Int->Option (b0×Int)
 |0,_,_,_,_=>none|n+1,a0,a1,a2,a3=>b8 (cR n a0 a1 a2) λa b=>if dq (cr b 0) (cG a.cf.acH a3) false then some ((b0.mk (Fm.mk 0 (Ty.mk 0 []) [] []) 0),10)else some (a,b)
def c6:Nat->(List Fm)->Pf->cm->Fm->Tm->Option (b0×Int)
 |0,_,_,_,_,_=>none|n+1,a0,a1,a2,a3,a4=>b8 (cR n a0 a1 a2) λd e=>if cG e 0 then some ((b0.mk (Fm.mk 0 (Ty.mk 0 []) [] []) 0),e)else b8 (gI a3 a4) λb a=>if cG a 0 then some ((b0.mk (Fm.mk 0 (Ty.mk 0 []) [] []) 0),a)else bU (jk b d.cf) λc=>some (d,c)
end
def lG(a0:Int):Option (List Int):=cB ((rD λ(v37:Int) (a:List Int)=>if cG v37 0 then bU (iV v37) λb=>ef (dP a [b])<|some (.next ((lX .u32 v37 (di .u32 v37 1)),(dN a [b])))else some (.Fy (v37,a))):(Int×(List Int))->(Option (dJ (Int×(List Int)) (List Int)))) λc=>bU (mJ c FU (a0,[])) (dI (rD λ(v37:Int) (a:List Int)=>some a) (λr=>some r))
def wk(a0:List Fm)(a1:Sq)(a2:Pf):Option (sh×Int):=bU (xe a0 a1) λg=>if cG g 0 then some ((sh.mk (Fm.mk 0 (Ty.mk 0 []) [] []) []),g)else bU (nw a2) λa=>if cG a 0 then some ((sh.mk (Fm.mk 0 (Ty.mk 0 []) [] []) []),a)else bU (AJ) λh=>bU (v8 a1) λd=>b8 (cR FU a0 a2 d) λb c=>if cG c 0 then some ((sh.mk (Fm.mk 0 (Ty.mk 0 []) [] []) []),c)else bU (hH b.cf) λe=>bU (lG b.eD) λf=>some ((sh.mk e f),0)
end Go.dF
