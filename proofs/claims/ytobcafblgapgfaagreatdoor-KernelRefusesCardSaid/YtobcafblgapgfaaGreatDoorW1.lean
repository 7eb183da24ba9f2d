/- Part of the proof of KernelRefuses: walks. -/
import Derived.Test.YtobcafblgapgfaaGreatDoorProg
import Derived.Test.YtobcafblgapgfaaGreatDoorChecked
import Derived.WalkKit
import Derived.Laws.Bits64b
import Derived.BigCall
import Derived.Test.YtobcafblgapgfaaGreatDoorG1
set_option linter.all false
namespace Go.Proofs.YtobcafblgapgfaaGreatDoor
open Go Go.nd Go.gV Tryz
def acR:prog.follows .mixedOrders=true:=by kernel_rfl
end Go.Proofs.YtobcafblgapgfaaGreatDoor
namespace Go.gV
open Go Go.nd
mutual
def Ty.av:Ty->AV
 |.mk acM acN=>.agg [sI acM,AV.slice .iR (Ty.J5 acN)]
def Ty.J5:List Ty->List AV
 |[]=>[]|x::l=>x.av::Ty.J5 l
end
def Ty.BJ(l:List Ty):Ty.J5 l=l.map Ty.av:=by
 induction l with
 |nil=>rfl|cons x l a=>simp[Ty.J5,a]
def Ty.fL(acM:Int)(acN:List Ty):(Ty.mk acM acN).av=.agg [sI acM,sL Ty.av acN]:=by rw[Ty.av];simp only[Ty.BJ]
mutual
@[simp] theorem Ty.zy(k:Nat):∀x:Ty,x.av.low k=true
 |.mk acM acN=>by rw[Ty.fL];simp[AV.low,AV.jj,Ty.sO k acN]
@[simp] theorem Ty.sO(k:Nat):∀l:List Ty,AV.jj k (l.map Ty.av)=true
 |[]=>rfl|x::l=>by simp[AV.jj,Ty.zy k x,Ty.sO k l]
end
def Ty.gX(x:Ty):x.av=.agg [sI x.acM,sL Ty.av x.acN]:=by cases x;exact Ty.fL _ _
@[simp] theorem Ty.mw(x:Ty):x.av.cells=[sI x.acM,sL Ty.av x.acN]:=by rw[Ty.gX];rfl
@[simp] theorem Ty.uA(x:Ty):f_ x.av=true:=by rw[Ty.gX];rfl
@[simp] theorem Ty.qM(x:Ty):x.av.norm=x.av:=by rw[Ty.gX];rfl
@[simp] theorem Ty.aah(a:Int)(b:List Ty):AV.agg [sI a,sL Ty.av b]=Ty.av (Ty.mk a b):=by rw[Ty.fL]<;>rfl
@[simp] theorem Ty.abV(a:Int):AV.agg [sI a,AV.slice .iR []]=Ty.av (Ty.mk a []):=by rw[Ty.fL]<;>rfl
mutual
def Tm.av:Tm->AV
 |.mk acM acP dv acN=>.agg [sI acM,sI acP,sI dv.acM,sL Ty.av dv.acN,AV.slice .iR (Tm.J5 acN)]
def Tm.J5:List Tm->List AV
 |[]=>[]|x::l=>x.av::Tm.J5 l
end
def Tm.BJ(l:List Tm):Tm.J5 l=l.map Tm.av:=by
 induction l with
 |nil=>rfl|cons x l a=>simp[Tm.J5,a]
def Tm.fL(acM acP:Int)(dv:Ty)(acN:List Tm):(Tm.mk acM acP dv acN).av=.agg [sI acM,sI acP,sI dv.acM,sL Ty.av dv.acN,sL Tm.av acN]:=by rw[Tm.av];simp only[Tm.BJ]
mutual
@[simp] theorem Tm.zy(k:Nat):∀x:Tm,x.av.low k=true
 |.mk acM acP dv acN=>by rw[Tm.fL];simp[AV.low,AV.jj,Tm.sO k acN]
@[simp] theorem Tm.sO(k:Nat):∀l:List Tm,AV.jj k (l.map Tm.av)=true
 |[]=>rfl|x::l=>by simp[AV.jj,Tm.zy k x,Tm.sO k l]
end
def Tm.gX(x:Tm):x.av=.agg [sI x.acM,sI x.acP,sI x.dv.acM,sL Ty.av x.dv.acN,sL Tm.av x.acN]:=by cases x;exact Tm.fL _ _ _ _
@[simp] theorem Tm.mw(x:Tm):x.av.cells=[sI x.acM,sI x.acP,sI x.dv.acM,sL Ty.av x.dv.acN,sL Tm.av x.acN]:=by rw[Tm.gX];rfl
@[simp] theorem Tm.uA(x:Tm):f_ x.av=true:=by rw[Tm.gX];rfl
@[simp] theorem Tm.qM(x:Tm):x.av.norm=x.av:=by rw[Tm.gX];rfl
@[simp] theorem Tm.Wq(a b c:Int)(c3:List Ty)(d:List Tm):AV.agg [sI a,sI b,sI c,sL Ty.av c3,sL Tm.av d]=Tm.av (Tm.mk a b (Ty.mk c c3) d):=by rw[Tm.fL]<;>rfl
@[simp] theorem Tm.aci(a b c:Int)(d:List Tm):AV.agg [sI a,sI b,sI c,AV.slice .iR [],sL Tm.av d]=Tm.av (Tm.mk a b (Ty.mk c []) d):=by rw[Tm.fL]<;>rfl
@[simp] theorem Tm.Zv(a b c:Int):AV.agg [sI a,sI b,sI c,AV.slice .iR [],AV.slice .iR []]=Tm.av (Tm.mk a b (Ty.mk c []) []):=by rw[Tm.fL]<;>rfl
mutual
def Fm.av:Fm->AV
 |.mk acM dv ek acN=>.agg [sI acM,sI dv.acM,sL Ty.av dv.acN,sL Tm.av ek,AV.slice .iR (Fm.J5 acN)]
def Fm.J5:List Fm->List AV
 |[]=>[]|x::l=>x.av::Fm.J5 l
end
def Fm.BJ(l:List Fm):Fm.J5 l=l.map Fm.av:=by
 induction l with
 |nil=>rfl|cons x l a=>simp[Fm.J5,a]
def Fm.fL(acM:Int)(dv:Ty)(ek:List Tm)(acN:List Fm):(Fm.mk acM dv ek acN).av=.agg [sI acM,sI dv.acM,sL Ty.av dv.acN,sL Tm.av ek,sL Fm.av acN]:=by rw[Fm.av];simp only[Fm.BJ]
mutual
@[simp] theorem Fm.zy(k:Nat):∀x:Fm,x.av.low k=true
 |.mk acM dv ek acN=>by rw[Fm.fL];simp[AV.low,AV.jj,Fm.sO k acN]
@[simp] theorem Fm.sO(k:Nat):∀l:List Fm,AV.jj k (l.map Fm.av)=true
 |[]=>rfl|x::l=>by simp[AV.jj,Fm.zy k x,Fm.sO k l]
end
def Fm.gX(x:Fm):x.av=.agg [sI x.acM,sI x.dv.acM,sL Ty.av x.dv.acN,sL Tm.av x.ek,sL Fm.av x.acN]:=by cases x;exact Fm.fL _ _ _ _
@[simp] theorem Fm.mw(x:Fm):x.av.cells=[sI x.acM,sI x.dv.acM,sL Ty.av x.dv.acN,sL Tm.av x.ek,sL Fm.av x.acN]:=by rw[Fm.gX];rfl
@[simp] theorem Fm.uA(x:Fm):f_ x.av=true:=by rw[Fm.gX];rfl
@[simp] theorem Fm.qM(x:Fm):x.av.norm=x.av:=by rw[Fm.gX];rfl
@[simp] theorem Fm.NZ(a b:Int)(c:List Ty)(c3:List Tm)(d:List Fm):AV.agg [sI a,sI b,sL Ty.av c,sL Tm.av c3,sL Fm.av d]=Fm.av (Fm.mk a (Ty.mk b c) c3 d):=by rw[Fm.fL]<;>rfl
@[simp] theorem Fm.aby(a b:Int)(c:List Fm):AV.agg [sI a,sI b,AV.slice .iR [],AV.slice .iR [],sL Fm.av c]=Fm.av (Fm.mk a (Ty.mk b []) [] c):=by rw[Fm.fL]<;>rfl
@[simp] theorem Fm.WS(a b:Int):AV.agg [sI a,sI b,AV.slice .iR [],AV.slice .iR [],AV.slice .iR []]=Fm.av (Fm.mk a (Ty.mk b []) [] []):=by rw[Fm.fL]<;>rfl
def Sq.av(x:Sq):AV:=.agg [sL Ty.av x.acQ,sL Fm.av x.acT]
def Sq.fL(acQ:List Ty)(acT:List Fm):(Sq.mk acQ acT).av=.agg [sL Ty.av acQ,sL Fm.av acT]:=rfl
def Sq.gX(x:Sq):x.av=.agg [sL Ty.av x.acQ,sL Fm.av x.acT]:=by cases x;exact Sq.fL _ _
@[simp] theorem Sq.mw(x:Sq):x.av.cells=[sL Ty.av x.acQ,sL Fm.av x.acT]:=by rw[Sq.gX];rfl
@[simp] theorem Sq.uA(x:Sq):f_ x.av=true:=by rw[Sq.gX];rfl
@[simp] theorem Sq.qM(x:Sq):x.av.norm=x.av:=by rw[Sq.gX];rfl
@[simp] theorem Sq.Wq(a:List Ty)(b:List Fm):AV.agg [sL Ty.av a,sL Fm.av b]=Sq.av (Sq.mk a b):=by rw[Sq.fL]<;>rfl
@[simp] theorem Sq.Zv:AV.agg [AV.slice .iR [],AV.slice .iR []]=Sq.av (Sq.mk [] []):=by rw[Sq.fL]<;>rfl
mutual
def Pf.av:Pf->AV
 |.mk acM acP dv ek fj acN=>.agg [sI acM,sI acP,sI dv.acM,sL Ty.av dv.acN,sL Tm.av ek,sL Fm.av fj,AV.slice .iR (Pf.J5 acN)]
def Pf.J5:List Pf->List AV
 |[]=>[]|x::l=>x.av::Pf.J5 l
end
def Pf.BJ(l:List Pf):Pf.J5 l=l.map Pf.av:=by
 induction l with
 |nil=>rfl|cons x l a=>simp[Pf.J5,a]
def Pf.fL(acM acP:Int)(dv:Ty)(ek:List Tm)(fj:List Fm)(acN:List Pf):(Pf.mk acM acP dv ek fj acN).av=.agg [sI acM,sI acP,sI dv.acM,sL Ty.av dv.acN,sL Tm.av ek,sL Fm.av fj,sL Pf.av acN]:=by rw[Pf.av];simp only[Pf.BJ]
mutual
@[simp] theorem Pf.zy(k:Nat):∀x:Pf,x.av.low k=true
 |.mk acM acP dv ek fj acN=>by rw[Pf.fL];simp[AV.low,AV.jj,Pf.sO k acN]
@[simp] theorem Pf.sO(k:Nat):∀l:List Pf,AV.jj k (l.map Pf.av)=true
 |[]=>rfl|x::l=>by simp[AV.jj,Pf.zy k x,Pf.sO k l]
end
def Pf.gX(x:Pf):x.av=.agg [sI x.acM,sI x.acP,sI x.dv.acM,sL Ty.av x.dv.acN,sL Tm.av x.ek,sL Fm.av x.fj,sL Pf.av x.acN]:=by cases x;exact Pf.fL _ _ _ _ _ _
@[simp] theorem Pf.mw(x:Pf):x.av.cells=[sI x.acM,sI x.acP,sI x.dv.acM,sL Ty.av x.dv.acN,sL Tm.av x.ek,sL Fm.av x.fj,sL Pf.av x.acN]:=by rw[Pf.gX];rfl
@[simp] theorem Pf.uA(x:Pf):f_ x.av=true:=by rw[Pf.gX];rfl
@[simp] theorem Pf.qM(x:Pf):x.av.norm=x.av:=by rw[Pf.gX];rfl
@[simp] theorem Pf.Uj(a b c:Int)(c3:List Ty)(d:List Tm)(c5:List Fm)(e:List Pf):AV.agg [sI a,sI b,sI c,sL Ty.av c3,sL Tm.av d,sL Fm.av c5,sL Pf.av e]=Pf.av (Pf.mk a b (Ty.mk c c3) d c5 e):=by rw[Pf.fL]<;>rfl
@[simp] theorem Pf.abl(a b c:Int)(d:List Pf):AV.agg [sI a,sI b,sI c,AV.slice .iR [],AV.slice .iR [],AV.slice .iR [],sL Pf.av d]=Pf.av (Pf.mk a b (Ty.mk c []) [] [] d):=by rw[Pf.fL]<;>rfl
@[simp] theorem Pf.Vu(a b c:Int):AV.agg [sI a,sI b,sI c,AV.slice .iR [],AV.slice .iR [],AV.slice .iR [],AV.slice .iR []]=Pf.av (Pf.mk a b (Ty.mk c []) [] [] []):=by rw[Pf.fL]<;>rfl
def sX.av(x:sX):AV:=.agg [sI x.eh.acM,sI x.eh.dv.acM,sL Ty.av x.eh.dv.acN,sL Tm.av x.eh.ek,sL Fm.av x.eh.acN,AV.slice .iR (List.map (λn=>AV.sc (Value.int .i64 n)) x.gP)]
def sX.fL(eh:Fm)(gP:List Int):(sX.mk eh gP).av=.agg [sI eh.acM,sI eh.dv.acM,sL Ty.av eh.dv.acN,sL Tm.av eh.ek,sL Fm.av eh.acN,AV.slice .iR (List.map (λn=>AV.sc (Value.int .i64 n)) gP)]:=rfl
@[simp] theorem sX.zy(k:Nat)(x:sX):x.av.low k=true:=by
 cases x;rw[sX.fL];simp[AV.low,AV.jj]
def sX.gX(x:sX):x.av=.agg [sI x.eh.acM,sI x.eh.dv.acM,sL Ty.av x.eh.dv.acN,sL Tm.av x.eh.ek,sL Fm.av x.eh.acN,AV.slice .iR (List.map (λn=>AV.sc (Value.int .i64 n)) x.gP)]:=by cases x;exact sX.fL _ _
@[simp] theorem sX.mw(x:sX):x.av.cells=[sI x.eh.acM,sI x.eh.dv.acM,sL Ty.av x.eh.dv.acN,sL Tm.av x.eh.ek,sL Fm.av x.eh.acN,AV.slice .iR (List.map (λn=>AV.sc (Value.int .i64 n)) x.gP)]:=by rw[sX.gX];rfl
@[simp] theorem sX.uA(x:sX):f_ x.av=true:=by rw[sX.gX];rfl
@[simp] theorem sX.qM(x:sX):x.av.norm=x.av:=by rw[sX.gX];rfl
@[simp] theorem sX.Uj(a b:Int)(c:List Ty)(c3:List Tm)(d:List Fm)(c5:List Int):AV.agg [sI a,sI b,sL Ty.av c,sL Tm.av c3,sL Fm.av d,AV.slice .iR (List.map (λn=>AV.sc (Value.int .i64 n)) c5)]=sX.av (sX.mk (Fm.mk a (Ty.mk b c) c3 d) c5):=by rw[sX.fL]<;>rfl
@[simp] theorem sX.Vu(a b:Int):AV.agg [sI a,sI b,AV.slice .iR [],AV.slice .iR [],AV.slice .iR [],AV.slice .iR []]=sX.av (sX.mk (Fm.mk a (Ty.mk b []) [] []) []):=by rw[sX.fL]<;>rfl
def eG.av(x:eG):AV:=.agg [AV.slice .iR (List.map (λn=>AV.sc (Value.int .i64 n)) x.l),sI x.r']
def eG.fL(l:List Int)(r':Int):(eG.mk l r').av=.agg [AV.slice .iR (List.map (λn=>AV.sc (Value.int .i64 n)) l),sI r']:=rfl
def eG.gX(x:eG):x.av=.agg [AV.slice .iR (List.map (λn=>AV.sc (Value.int .i64 n)) x.l),sI x.r']:=by cases x;exact eG.fL _ _
@[simp] theorem eG.mw(x:eG):x.av.cells=[AV.slice .iR (List.map (λn=>AV.sc (Value.int .i64 n)) x.l),sI x.r']:=by rw[eG.gX];rfl
@[simp] theorem eG.uA(x:eG):f_ x.av=true:=by rw[eG.gX];rfl
@[simp] theorem eG.aah(a:List Int)(b:Int):AV.agg [AV.slice .iR (List.map (λn=>AV.sc (Value.int .i64 n)) a),sI b]=eG.av (eG.mk a b):=by rw[eG.fL]<;>rfl
def ec.av(x:ec):AV:=.agg [sI x.eh.acM,sI x.eh.dv.acM,sL Ty.av x.eh.dv.acN,sL Tm.av x.eh.ek,sL Fm.av x.eh.acN,AV.sc (.int .u32 x.gP)]
def ec.fL(eh:Fm)(gP:Int):(ec.mk eh gP).av=.agg [sI eh.acM,sI eh.dv.acM,sL Ty.av eh.dv.acN,sL Tm.av eh.ek,sL Fm.av eh.acN,AV.sc (.int .u32 gP)]:=rfl
def ec.gX(x:ec):x.av=.agg [sI x.eh.acM,sI x.eh.dv.acM,sL Ty.av x.eh.dv.acN,sL Tm.av x.eh.ek,sL Fm.av x.eh.acN,AV.sc (.int .u32 x.gP)]:=by cases x;exact ec.fL _ _
@[simp] theorem ec.mw(x:ec):x.av.cells=[sI x.eh.acM,sI x.eh.dv.acM,sL Ty.av x.eh.dv.acN,sL Tm.av x.eh.ek,sL Fm.av x.eh.acN,AV.sc (.int .u32 x.gP)]:=by rw[ec.gX];rfl
@[simp] theorem ec.uA(x:ec):f_ x.av=true:=by rw[ec.gX];rfl
@[simp] theorem ec.qM(x:ec):x.av.norm=x.av:=by rw[ec.gX];rfl
@[simp] theorem ec.NZ(a b:Int)(c:List Ty)(c3:List Tm)(d:List Fm)(c5:Int):AV.agg [sI a,sI b,sL Ty.av c,sL Tm.av c3,sL Fm.av d,AV.sc (.int .u32 c5)]=ec.av (ec.mk (Fm.mk a (Ty.mk b c) c3 d) c5):=by rw[ec.fL]<;>rfl
@[simp] theorem ec.WS(a b c5:Int):AV.agg [sI a,sI b,AV.slice .iR [],AV.slice .iR [],AV.slice .iR [],AV.sc (.int .u32 c5)]=ec.av (ec.mk (Fm.mk a (Ty.mk b []) [] []) c5):=by rw[ec.fL]<;>rfl
def fa.av(x:fa):AV:=.agg [sI x.vars,sI x.acT]
def fa.fL(vars acT:Int):(fa.mk vars acT).av=.agg [sI vars,sI acT]:=rfl
def fa.gX(x:fa):x.av=.agg [sI x.vars,sI x.acT]:=by cases x;exact fa.fL _ _
@[simp] theorem fa.mw(x:fa):x.av.cells=[sI x.vars,sI x.acT]:=by rw[fa.gX];rfl
@[simp] theorem fa.uA(x:fa):f_ x.av=true:=by rw[fa.gX];rfl
@[simp] theorem fa.qM(x:fa):x.av.norm=x.av:=by rw[fa.gX];rfl
@[simp] theorem fa.agg(a b:Int):AV.agg [sI a,sI b]=fa.av (fa.mk a b):=by rw[fa.fL]<;>rfl
def ed.av(x:ed):AV:=.agg [sI x.dv.acM,sL Ty.av x.dv.acN,sI x.acO]
def ed.fL(dv:Ty)(acO:Int):(ed.mk dv acO).av=.agg [sI dv.acM,sL Ty.av dv.acN,sI acO]:=rfl
def ed.gX(x:ed):x.av=.agg [sI x.dv.acM,sL Ty.av x.dv.acN,sI x.acO]:=by cases x;exact ed.fL _ _
@[simp] theorem ed.mw(x:ed):x.av.cells=[sI x.dv.acM,sL Ty.av x.dv.acN,sI x.acO]:=by rw[ed.gX];rfl
@[simp] theorem ed.uA(x:ed):f_ x.av=true:=by rw[ed.gX];rfl
@[simp] theorem ed.qM(x:ed):x.av.norm=x.av:=by rw[ed.gX];rfl
@[simp] theorem ed.aah(a:Int)(b:List Ty)(c:Int):AV.agg [sI a,sL Ty.av b,sI c]=ed.av (ed.mk (Ty.mk a b) c):=by rw[ed.fL]<;>rfl
@[simp] theorem ed.abV(a b:Int):AV.agg [sI a,AV.slice .iR [],sI b]=ed.av (ed.mk (Ty.mk a []) b):=by rw[ed.fL]<;>rfl
def eu.av(x:eu):AV:=.agg [sI x.eh.acM,sI x.eh.dv.acM,sL Ty.av x.eh.dv.acN,sL Tm.av x.eh.ek,sL Fm.av x.eh.acN,sI x.vars]
def eu.fL(eh:Fm)(vars:Int):(eu.mk eh vars).av=.agg [sI eh.acM,sI eh.dv.acM,sL Ty.av eh.dv.acN,sL Tm.av eh.ek,sL Fm.av eh.acN,sI vars]:=rfl
def eu.gX(x:eu):x.av=.agg [sI x.eh.acM,sI x.eh.dv.acM,sL Ty.av x.eh.dv.acN,sL Tm.av x.eh.ek,sL Fm.av x.eh.acN,sI x.vars]:=by cases x;exact eu.fL _ _
@[simp] theorem eu.mw(x:eu):x.av.cells=[sI x.eh.acM,sI x.eh.dv.acM,sL Ty.av x.eh.dv.acN,sL Tm.av x.eh.ek,sL Fm.av x.eh.acN,sI x.vars]:=by rw[eu.gX];rfl
@[simp] theorem eu.uA(x:eu):f_ x.av=true:=by rw[eu.gX];rfl
@[simp] theorem eu.qM(x:eu):x.av.norm=x.av:=by rw[eu.gX];rfl
@[simp] theorem eu.NZ(a b:Int)(c:List Ty)(c3:List Tm)(d:List Fm)(c5:Int):AV.agg [sI a,sI b,sL Ty.av c,sL Tm.av c3,sL Fm.av d,sI c5]=eu.av (eu.mk (Fm.mk a (Ty.mk b c) c3 d) c5):=by rw[eu.fL]<;>rfl
def eg.av(x:eg):AV:=.agg [sI x.gj.vars,sI x.gj.acT,sL ed.av x.acQ,sL eu.av x.known]
def eg.fL(gj:fa)(acQ:List ed)(known:List eu):(eg.mk gj acQ known).av=.agg [sI gj.vars,sI gj.acT,sL ed.av acQ,sL eu.av known]:=rfl
def eg.gX(x:eg):x.av=.agg [sI x.gj.vars,sI x.gj.acT,sL ed.av x.acQ,sL eu.av x.known]:=by cases x;exact eg.fL _ _ _
@[simp] theorem eg.mw(x:eg):x.av.cells=[sI x.gj.vars,sI x.gj.acT,sL ed.av x.acQ,sL eu.av x.known]:=by rw[eg.gX];rfl
@[simp] theorem eg.uA(x:eg):f_ x.av=true:=by rw[eg.gX];rfl
@[simp] theorem eg.qM(x:eg):x.av.norm=x.av:=by rw[eg.gX];rfl
@[simp] theorem eg.Wq(a b:Int)(c:List ed)(c3:List eu):AV.agg [sI a,sI b,sL ed.av c,sL eu.av c3]=eg.av (eg.mk (fa.mk a b) c c3):=by rw[eg.fL]<;>rfl
def ei.av(x:ei):AV:=.agg [sL Fm.av x.lemmas,sL Ty.av x.acQ,sL Fm.av x.acT]
def ei.fL(lemmas:List Fm)(acQ:List Ty)(acT:List Fm):(ei.mk lemmas acQ acT).av=.agg [sL Fm.av lemmas,sL Ty.av acQ,sL Fm.av acT]:=rfl
def ei.gX(x:ei):x.av=.agg [sL Fm.av x.lemmas,sL Ty.av x.acQ,sL Fm.av x.acT]:=by cases x;exact ei.fL _ _ _
@[simp] theorem ei.mw(x:ei):x.av.cells=[sL Fm.av x.lemmas,sL Ty.av x.acQ,sL Fm.av x.acT]:=by rw[ei.gX];rfl
@[simp] theorem ei.uA(x:ei):f_ x.av=true:=by rw[ei.gX];rfl
@[simp] theorem ei.qM(x:ei):x.av.norm=x.av:=by rw[ei.gX];rfl
@[simp] theorem ei.NZ(a:List Fm)(b:List Ty)(c:List Fm):AV.agg [sL Fm.av a,sL Ty.av b,sL Fm.av c]=ei.av (ei.mk a b c):=by rw[ei.fL]<;>rfl
def et.av(x:et):AV:=.agg [sI x.acO,sB x.iE]
def et.fL(acO:Int)(iE:Bool):(et.mk acO iE).av=.agg [sI acO,sB iE]:=rfl
def et.gX(x:et):x.av=.agg [sI x.acO,sB x.iE]:=by cases x;exact et.fL _ _
@[simp] theorem et.mw(x:et):x.av.cells=[sI x.acO,sB x.iE]:=by rw[et.gX];rfl
@[simp] theorem et.uA(x:et):f_ x.av=true:=by rw[et.gX];rfl
@[simp] theorem et.agg(a:Int)(b:Bool):AV.agg [sI a,sB b]=et.av (et.mk a b):=by rw[et.fL]<;>rfl
def eQ.av(x:eQ):AV:=.agg [sI x.acM,sI x.base.acM,sI x.base.acP,sI x.base.dv.acM,sL Ty.av x.base.dv.acN,sL Tm.av x.base.acN,sL Ty.av x.vars,sI x.next.acM,sI x.next.acP,sI x.next.dv.acM,sL Ty.av x.next.dv.acN,sL Tm.av x.next.acN]
def eQ.fL(acM:Int)(base:Tm)(vars:List Ty)(next:Tm):(eQ.mk acM base vars next).av=.agg [sI acM,sI base.acM,sI base.acP,sI base.dv.acM,sL Ty.av base.dv.acN,sL Tm.av base.acN,sL Ty.av vars,sI next.acM,sI next.acP,sI next.dv.acM,sL Ty.av next.dv.acN,sL Tm.av next.acN]:=rfl
def eQ.gX(x:eQ):x.av=.agg [sI x.acM,sI x.base.acM,sI x.base.acP,sI x.base.dv.acM,sL Ty.av x.base.dv.acN,sL Tm.av x.base.acN,sL Ty.av x.vars,sI x.next.acM,sI x.next.acP,sI x.next.dv.acM,sL Ty.av x.next.dv.acN,sL Tm.av x.next.acN]:=by cases x;exact eQ.fL _ _ _ _
@[simp] theorem eQ.mw(x:eQ):x.av.cells=[sI x.acM,sI x.base.acM,sI x.base.acP,sI x.base.dv.acM,sL Ty.av x.base.dv.acN,sL Tm.av x.base.acN,sL Ty.av x.vars,sI x.next.acM,sI x.next.acP,sI x.next.dv.acM,sL Ty.av x.next.dv.acN,sL Tm.av x.next.acN]:=by rw[eQ.gX];rfl
@[simp] theorem eQ.uA(x:eQ):f_ x.av=true:=by rw[eQ.gX];rfl
def fx.av(x:fx):AV:=.agg [sI x.ek,sI x.fj,sI x.acN,sB x.acP,sB x.pM]
def fx.fL(ek fj acN:Int)(acP pM:Bool):(fx.mk ek fj acN acP pM).av=.agg [sI ek,sI fj,sI acN,sB acP,sB pM]:=rfl
def fx.gX(x:fx):x.av=.agg [sI x.ek,sI x.fj,sI x.acN,sB x.acP,sB x.pM]:=by cases x;exact fx.fL _ _ _ _ _
@[simp] theorem fx.mw(x:fx):x.av.cells=[sI x.ek,sI x.fj,sI x.acN,sB x.acP,sB x.pM]:=by rw[fx.gX];rfl
@[simp] theorem fx.uA(x:fx):f_ x.av=true:=by rw[fx.gX];rfl
@[simp] theorem fx.qM(x:fx):x.av.norm=x.av:=by rw[fx.gX];rfl
@[simp] theorem fx.agg(a b c:Int)(c3 d:Bool):AV.agg [sI a,sI b,sI c,sB c3,sB d]=fx.av (fx.mk a b c c3 d):=by rw[fx.fL]<;>rfl
def fN.av(x:fN):AV:=.agg [sB x.acP,sB x.typed,sI x.ek,sI x.fj,sI x.acN,sI x.sA,sI x.vars,sI x.acT]
def fN.fL(acP typed:Bool)(ek fj acN sA vars acT:Int):(fN.mk acP typed ek fj acN sA vars acT).av=.agg [sB acP,sB typed,sI ek,sI fj,sI acN,sI sA,sI vars,sI acT]:=rfl
def fN.gX(x:fN):x.av=.agg [sB x.acP,sB x.typed,sI x.ek,sI x.fj,sI x.acN,sI x.sA,sI x.vars,sI x.acT]:=by cases x;exact fN.fL _ _ _ _ _ _ _ _
@[simp] theorem fN.mw(x:fN):x.av.cells=[sB x.acP,sB x.typed,sI x.ek,sI x.fj,sI x.acN,sI x.sA,sI x.vars,sI x.acT]:=by rw[fN.gX];rfl
@[simp] theorem fN.uA(x:fN):f_ x.av=true:=by rw[fN.gX];rfl
@[simp] theorem fN.qM(x:fN):x.av.norm=x.av:=by rw[fN.gX];rfl
@[simp] theorem fN.agg(a b:Bool)(c c3 d c5 e f:Int):AV.agg [sB a,sB b,sI c,sI c3,sI d,sI c5,sI e,sI f]=fN.av (fN.mk a b c c3 d c5 e f):=by rw[fN.fL]<;>rfl
def HC.cells(k:Nat):HC->List AV
 |.gf x=>[nb k x.term,sI x.steps]|.eS x=>[sI x.acM,sI x.acP,sI x.pM.acM,sL Ty.av x.pM.acN,AV.slice .iR (List.map (nb k) x.acN),sI x.size,sI x.free,sB x.normal]
@[simp] theorem HC.Nr(k:Nat)(x:fY):HC.cells k (.gf x)=[nb k x.term,sI x.steps]:=rfl
@[simp] theorem HC.Pe(k:Nat)(x:eR):HC.cells k (.eS x)=[sI x.acM,sI x.acP,sI x.pM.acM,sL Ty.av x.pM.acN,AV.slice .iR (List.map (nb k) x.acN),sI x.size,sI x.free,sB x.normal]:=rfl
abbrev iK(k:Nat)(l:List HC):eB:=wD HC.cells k l
end Go.gV
namespace Go.Proofs.YtobcafblgapgfaaGreatDoor
open Go Go.nd Go.gV Tryz
@[simp] theorem SH:gq prog 3=some (false,1):=by kernel_rfl
@[simp] theorem VS:lG prog 3=some [.sc (.int .i64 0)]:=by kernel_rfl
@[simp] theorem uI:prog.underlying 3=some (.int .i64):=by kernel_rfl
@[simp] theorem acF:gq prog 4=some (false,1)/\lG prog 4=some [.sc (.bool false)]/\gq prog 22=some (false,1)/\gq prog 23=some (false,1)/\gq prog 24=some (false,1)/\gq prog 26=some (true,2)/\qZ prog 26=some [.slice .full [],.slice .full []]/\lG prog 26=some [.slice .full [],.slice .full []]/\fD prog 26 0=some (0,24)/\hS prog 26 0=some (0,1):=by and_intros<;>kernel_rfl
@[simp] theorem P6:qL prog 22=some (3,1):=by kernel_rfl
@[simp] theorem aar:prog.underlying 22=some (.slice 3):=by kernel_rfl
@[simp] theorem Gq:qL prog 23=some (46,5):=by kernel_rfl
@[simp] theorem aaG:prog.underlying 23=some (.slice 46):=by kernel_rfl
@[simp] theorem GM:qL prog 24=some (28,2):=by kernel_rfl
@[simp] theorem Zh:prog.underlying 24=some (.slice 28):=by kernel_rfl
@[simp] theorem YE:fD prog 26 1=some (1,23)/\hS prog 26 1=some (1,1)/\qZ prog 28=some [.sc (.int .i64 0),.slice .full []]/\lG prog 28=some [.sc (.int .i64 0),.slice .full []]/\fD prog 28 0=some (0,3)/\hS prog 28 0=some (0,1)/\fD prog 28 1=some (1,24)/\hS prog 28 1=some (1,1)/\gq prog 29=some (false,1)/\gq prog 30=some (false,1):=by and_intros<;>kernel_rfl
@[simp] theorem V0:gq prog 28=some (true,2):=by kernel_rfl
@[simp] theorem Ty.Y5(x:Ty):sw prog 28 x.av=true:=by rw[Ty.gX,v_,V0];rfl
@[simp] theorem CX:qL prog 29=some (64,5):=by kernel_rfl
@[simp] theorem Z9:qL prog 30=some (32,7):=by kernel_rfl
@[simp] theorem ZS:gq prog 32=some (true,7):=by kernel_rfl
@[simp] theorem ab7:qZ prog 32=some [.sc (.int .i64 0),.sc (.int .i64 0),.sc (.int .i64 0),.slice .full [],.slice .full [],.slice .full [],.slice .full []]/\lG prog 32=some [.sc (.int .i64 0),.sc (.int .i64 0),.sc (.int .i64 0),.slice .full [],.slice .full [],.slice .full [],.slice .full []]/\fD prog 32 0=some (0,3)/\hS prog 32 0=some (0,1)/\fD prog 32 1=some (1,3)/\hS prog 32 1=some (1,1)/\fD prog 32 2=some (2,28)/\hS prog 32 2=some (2,2)/\fD prog 32 3=some (4,29)/\hS prog 32 3=some (4,1):=by and_intros<;>kernel_rfl
@[simp] theorem YW:fD prog 32 4=some (5,23)/\fD prog 32 5=some (6,30)/\gq prog 43=some (false,1)/\lG prog 43=some [.sc (.int .i64 0)]/\qZ prog 46=some [.sc (.int .i64 0),.sc (.int .i64 0),.slice .full [],.slice .full [],.slice .full []]/\lG prog 46=some [.sc (.int .i64 0),.sc (.int .i64 0),.slice .full [],.slice .full [],.slice .full []]/\fD prog 46 0=some (0,3)/\hS prog 46 0=some (0,1)/\fD prog 46 1=some (1,28)/\hS prog 46 1=some (1,2):=by and_intros<;>kernel_rfl
@[simp] theorem Pf.Zd(x:Pf):sw prog 32 x.av=true:=by rw[Pf.gX,v_,ZS];rfl
@[simp] theorem VT:gq prog 46=some (true,5):=by kernel_rfl
@[simp] theorem Y3:fD prog 46 2=some (3,29)/\hS prog 46 2=some (3,1)/\fD prog 46 3=some (4,23)/\hS prog 46 3=some (4,1)/\gq prog 48=some (true,6)/\qZ prog 48=some [.sc (.int .i64 0),.sc (.int .i64 0),.slice .full [],.slice .full [],.slice .full [],.slice .full []]/\lG prog 48=some [.sc (.int .i64 0),.sc (.int .i64 0),.slice .full [],.slice .full [],.slice .full [],.slice .full []]/\fD prog 48 0=some (0,46)/\hS prog 48 0=some (0,5)/\fD prog 48 1=some (5,22):=by and_intros<;>kernel_rfl
@[simp] theorem Fm.Zf(x:Fm):sw prog 46 x.av=true:=by rw[Fm.gX,v_,VT];rfl
@[simp] theorem YN:hS prog 48 1=some (5,1)/\qZ prog 64=some [.sc (.int .i64 0),.sc (.int .i64 0),.sc (.int .i64 0),.slice .full [],.slice .full []]/\fD prog 64 0=some (0,3)/\hS prog 64 0=some (0,1)/\fD prog 64 1=some (1,3)/\hS prog 64 1=some (1,1)/\fD prog 64 2=some (2,28)/\hS prog 64 2=some (2,2)/\fD prog 64 3=some (4,29)/\hS prog 64 3=some (4,1):=by and_intros<;>kernel_rfl
@[simp] theorem Wk:gq prog 64=some (true,5):=by kernel_rfl
@[simp] theorem XE:lG prog 64=some [.sc (.int .i64 0),.sc (.int .i64 0),.sc (.int .i64 0),.slice .full [],.slice .full []]:=by kernel_rfl
@[simp] theorem Tm.YI(x:Tm):sw prog 64 x.av=true:=by rw[Tm.gX,v_,Wk];rfl
@[simp] theorem abQ:qZ prog 99=some [.slice .full [],.sc (.int .i64 0)]/\fD prog 99 0=some (0,22)/\hS prog 99 0=some (0,1)/\fD prog 99 1=some (1,3)/\gq prog 113=some (false,1)/\qZ prog 116=some [.slice .full [],.sc (.map none)]/\fD prog 116 0=some (0,23)/\hS prog 116 0=some (0,1)/\fD prog 116 1=some (1,113)/\hS prog 116 1=some (1,1):=by and_intros<;>kernel_rfl
@[simp] theorem ab0:gq prog 118=some (false,1)/\lG prog 118=some [.sc (.int .u32 0)]/\gq prog 120=some (true,6)/\qZ prog 120=some [.sc (.int .i64 0),.sc (.int .i64 0),.slice .full [],.slice .full [],.slice .full [],.sc (.int .u32 0)]/\lG prog 120=some [.sc (.int .i64 0),.sc (.int .i64 0),.slice .full [],.slice .full [],.slice .full [],.sc (.int .u32 0)]/\fD prog 120 0=some (0,46)/\hS prog 120 0=some (0,5)/\fD prog 120 1=some (5,118)/\hS prog 120 1=some (5,1)/\gq prog 124=some (true,2):=by and_intros<;>kernel_rfl
@[simp] theorem XC:fD prog 124 0=some (0,3)/\fD prog 124 1=some (1,3)/\gq prog 126=some (false,1)/\gq prog 127=some (false,1)/\gq prog 129=some (true,4)/\qZ prog 129=some [.sc (.int .i64 0),.sc (.int .i64 0),.slice .full [],.slice .full []]/\lG prog 129=some [.sc (.int .i64 0),.sc (.int .i64 0),.slice .full [],.slice .full []]/\fD prog 129 0=some (0,124)/\fD prog 129 1=some (2,126)/\hS prog 129 1=some (2,1):=by and_intros<;>kernel_rfl
@[simp] theorem Td:qL prog 126=some (191,3):=by kernel_rfl
@[simp] theorem Ye:prog.underlying 126=some (.slice 191):=by kernel_rfl
@[simp] theorem Zy:qL prog 127=some (221,6):=by kernel_rfl
@[simp] theorem XT:prog.underlying 127=some (.slice 221):=by kernel_rfl
@[simp] theorem W5:fD prog 129 2=some (3,127)/\gq prog 134=some (true,3)/\qZ prog 134=some [.slice .full [],.slice .full [],.slice .full []]/\lG prog 134=some [.slice .full [],.slice .full [],.slice .full []]/\fD prog 134 0=some (0,23)/\hS prog 134 0=some (0,1)/\fD prog 134 1=some (1,24)/\hS prog 134 1=some (1,1)/\fD prog 134 2=some (2,23)/\hS prog 134 2=some (2,1):=by and_intros<;>kernel_rfl
@[simp] theorem Ox:prog.underlying 148=some (.map 3 4):=by kernel_rfl
@[simp] theorem abt:gq prog 175=some (false,1)/\lG prog 175=some [.sc .nilFunc]/\qZ prog 191=some [.sc (.int .i64 0),.slice .full [],.sc (.int .i64 0)]/\lG prog 191=some [.sc (.int .i64 0),.slice .full [],.sc (.int .i64 0)]/\fD prog 191 0=some (0,28)/\hS prog 191 0=some (0,2)/\fD prog 191 1=some (2,3)/\hS prog 191 1=some (2,1)/\qZ prog 199=some [.sc (.int .i64 0),.sc (.bool false)]/\fD prog 199 0=some (0,3):=by and_intros<;>kernel_rfl
@[simp] theorem zh:gq prog 191=some (true,3):=by kernel_rfl
@[simp] theorem ed.X'(x:ed):sw prog 191 x.av=true:=by rw[ed.gX,v_,zh];rfl
@[simp] theorem Yx:fD prog 199 1=some (1,4)/\gq prog 214=some (true,12)/\qZ prog 214=some [.sc (.int .i64 0),.sc (.int .i64 0),.sc (.int .i64 0),.sc (.int .i64 0),.slice .full [],.slice .full [],.slice .full [],.sc (.int .i64 0),.sc (.int .i64 0),.sc (.int .i64 0),.slice .full [],.slice .full []]/\lG prog 214=some [.sc (.int .i64 0),.sc (.int .i64 0),.sc (.int .i64 0),.sc (.int .i64 0),.slice .full [],.slice .full [],.slice .full [],.sc (.int .i64 0),.sc (.int .i64 0),.sc (.int .i64 0),.slice .full [],.slice .full []]/\fD prog 214 0=some (0,3)/\hS prog 214 0=some (0,1)/\fD prog 214 1=some (1,64)/\hS prog 214 1=some (1,5)/\fD prog 214 2=some (6,24)/\hS prog 214 2=some (6,1):=by and_intros<;>kernel_rfl
@[simp] theorem XP:fD prog 214 3=some (7,64)/\hS prog 214 3=some (7,5)/\qZ prog 221=some [.sc (.int .i64 0),.sc (.int .i64 0),.slice .full [],.slice .full [],.slice .full [],.sc (.int .i64 0)]/\lG prog 221=some [.sc (.int .i64 0),.sc (.int .i64 0),.slice .full [],.slice .full [],.slice .full [],.sc (.int .i64 0)]/\fD prog 221 0=some (0,46)/\hS prog 221 0=some (0,5)/\fD prog 221 1=some (5,3)/\hS prog 221 1=some (5,1)/\gq prog 225=some (true,5)/\qZ prog 225=some [.sc (.int .i64 0),.sc (.int .i64 0),.sc (.int .i64 0),.sc (.bool false),.sc (.bool false)]:=by and_intros<;>kernel_rfl
@[simp] theorem TN:gq prog 221=some (true,6):=by kernel_rfl
@[simp] theorem eu.X8(x:eu):sw prog 221 x.av=true:=by rw[eu.gX,v_,TN];rfl
@[simp] theorem abf:lG prog 225=some [.sc (.int .i64 0),.sc (.int .i64 0),.sc (.int .i64 0),.sc (.bool false),.sc (.bool false)]/\fD prog 225 0=some (0,3)/\hS prog 225 0=some (0,1)/\fD prog 225 1=some (1,3)/\hS prog 225 1=some (1,1)/\fD prog 225 2=some (2,3)/\hS prog 225 2=some (2,1)/\fD prog 225 3=some (3,4)/\hS prog 225 3=some (3,1)/\fD prog 225 4=some (4,4):=by and_intros<;>kernel_rfl
@[simp] theorem WB:hS prog 225 4=some (4,1)/\qZ prog 238=some [.sc (.bool false),.sc (.bool false),.sc (.int .i64 0),.sc (.int .i64 0),.sc (.int .i64 0),.sc (.int .i64 0),.sc (.int .i64 0),.sc (.int .i64 0)]/\lG prog 238=some [.sc (.bool false),.sc (.bool false),.sc (.int .i64 0),.sc (.int .i64 0),.sc (.int .i64 0),.sc (.int .i64 0),.sc (.int .i64 0),.sc (.int .i64 0)]/\fD prog 238 0=some (0,4)/\fD prog 238 1=some (1,4)/\fD prog 238 2=some (2,3)/\fD prog 238 3=some (3,3)/\fD prog 238 4=some (4,3)/\gq prog 244=some (true,9)/\lG prog 244=some [.sc (.int .i64 0),.slice .full [],.sc (.int .i64 0),.sc (.int .i64 0),.slice .full [],.sc (.int .i64 0),.sc (.int .i64 0),.slice .full [],.sc (.int .i64 0)]:=by and_intros<;>kernel_rfl
@[simp] theorem SC:gq prog 238=some (true,8):=by kernel_rfl
@[simp] theorem fN.Yv(x:fN):sw prog 238 x.av=true:=by rw[fN.gX,v_,SC];rfl
@[simp] theorem DY:prog.underlying 244=some (.array 3 191):=by kernel_rfl
@[simp] theorem Z8(b g o:Nat):gQ prog 244 (.eD b g o) (.sc (.int .i64 0))=some (.eD b g (o+0)):=by kernel_rfl
@[simp] theorem aam(b g o:Nat):gQ prog 244 (.eD b g o) (.sc (.int .i64 1))=some (.eD b g (o+3)):=by kernel_rfl
@[simp] theorem ZN(b g o:Nat):gQ prog 244 (.eD b g o) (.sc (.int .i64 2))=some (.eD b g (o+6)):=by kernel_rfl
@[simp] theorem abO:gq prog 247=some (false,1)/\gq prog 262=some (false,1)/\lG prog 262=some [.sc .nilFunc]/\qZ prog 269=some [.sc (.pointer none),.sc (.int .i64 0)]/\fD prog 269 0=some (0,266)/\hS prog 269 0=some (0,1)/\fD prog 269 1=some (1,3)/\gq prog 277=some (false,1)/\qZ prog 283=some [.sc (.int .i64 0),.sc (.int .i64 0),.sc (.int .i64 0),.slice .full [],.slice .full [],.sc (.int .i64 0),.sc (.int .i64 0),.sc (.bool false)]/\fD prog 283 0=some (0,3):=by and_intros<;>kernel_rfl
@[simp] theorem WI:prog.underlying 258=some (.array 21 238):=by kernel_rfl
@[simp] theorem Wx:gq prog 266=some (false,1):=by kernel_rfl
@[simp] theorem Vx:lG prog 266=some [.sc (.pointer none)]:=by kernel_rfl
@[simp] theorem RY:prog.underlying 266=some (.pointer 283):=by kernel_rfl
@[simp] theorem abv(k:Nat)(x:Option Nat):oF prog .eql 266 (nb k x) (.sc (.pointer none))=some (.sc (.bool x.isNone)):=SP RY
@[simp] theorem abA(k:Nat)(x:Option Nat):oF prog .neq 266 (nb k x) (.sc (.pointer none))=some (.sc (.bool x.isSome)):=RK RY
@[simp] theorem Pw:qL prog 277=some (266,1):=by kernel_rfl
@[simp] theorem Yc:hS prog 283 0=some (0,1)/\fD prog 283 1=some (1,3)/\hS prog 283 1=some (1,1)/\fD prog 283 2=some (2,28)/\hS prog 283 2=some (2,2)/\fD prog 283 3=some (4,277)/\hS prog 283 3=some (4,1)/\fD prog 283 4=some (5,3)/\hS prog 283 4=some (5,1)/\fD prog 283 5=some (6,3):=by and_intros<;>kernel_rfl
@[simp] theorem Xb:fD prog 283 6=some (7,4):=by kernel_rfl
@[simp] theorem ab8:gq prog 284=some (false,1):=by kernel_rfl
@[simp] theorem Yu:prog.underlying 287=some (.array 14 3):=by kernel_rfl
@[simp] theorem ab'(tag:Tag)(l:List Int)(a:Int):qa prog 22 (.slice tag (List.map sI l)) (some (.sc (.int .i64 a))) none none=(Br l a (eN l)).map λr=>.slice .iR (List.map sI r):=Mg _ l aar SH (λx=>by simp)
@[simp] theorem abi(tag:Tag)(l:List Fm):qa prog 23 (.slice tag (List.map Fm.av l)) none (some (.sc (.int .i64 (eN l)))) (some (.sc (.int .i64 (eN l))))=some (.slice .full (List.map Fm.av l)):=yl _ l aaG VT (λx=>by simp)
@[simp] theorem abp(tag:Tag)(l:List Ty):qa prog 24 (.slice tag (List.map Ty.av l)) none (some (.sc (.int .i64 (eN l)))) (some (.sc (.int .i64 (eN l))))=some (.slice .full (List.map Ty.av l)):=yl _ l Zh V0 (λx=>by simp)
@[simp] theorem aaA(tag:Tag)(l:List ed):qa prog 126 (.slice tag (List.map ed.av l)) none (some (.sc (.int .i64 (eN l)))) (some (.sc (.int .i64 (eN l))))=some (.slice .full (List.map ed.av l)):=yl _ l Ye zh (λx=>by simp)
@[simp] theorem aaJ(tag:Tag)(l:List eu):qa prog 127 (.slice tag (List.map eu.av l)) none (some (.sc (.int .i64 (eN l)))) (some (.sc (.int .i64 (eN l))))=some (.slice .full (List.map eu.av l)):=yl _ l XT TN (λx=>by simp)
def fN.cs(x:fN):List AV:=x.av.cells
@[simp] theorem acv(a:Int):gQ prog 258 (.nr (.agg (List.flatMap (λx=>fN.cs x) oU))) (.sc (.int .i64 a))=(eI oU a).map λx=>.nr x.av:=Fv WI SC (λx=>rfl) (λx=>⟨_,fN.gX x⟩) (λx=>by simp) rfl
@[simp] theorem acJ(a:Int):gQ prog 287 (.nr (.agg (List.map (λn=>AV.sc (Value.int .i64 n)) qI))) (.sc (.int .i64 a))=(eI qI a).map λx=>.nr (.sc (.int .i64 x)):=GB Yu SH rfl
@[simp] theorem lL:prog.underlying 113=some (.map 3 172):=by kernel_rfl
def S5:MG prog 172=some (.sc .nilFunc):=by kernel_rfl
def Nw:List Value:=[.int .i64 1,.int .i64 2,.int .i64 3,.int .i64 4,.int .i64 5,.int .i64 6,.int .i64 7,.int .i64 8,.int .i64 12,.int .i64 9,.int .i64 13,.int .i64 10,.int .i64 14,.int .i64 11,.int .i64 15,.int .i64 16,.int .i64 17,.int .i64 18,.int .i64 19,.int .i64 20]
def Ov:List AV:=[.func (.func 139) [] [],.func (.func 140) [] [],.func (.func 141) [] [],.func (.func 142) [] [],.func (.func 142) [] [],.func (.func 143) [] [],.func (.func 144) [] [],.func (.func 145) [] [],.func (.func 145) [] [],.func (.func 146) [] [],.func (.func 146) [] [],.func (.func 147) [] [],.func (.func 147) [] [],.func (.func 148) [] [],.func (.func 148) [] [],.func (.func 149) [] [],.func (.func 149) [] [],.func (.func 150) [] [],.func (.func 151) [] [],.func (.func 152) [] []]
def KX:AV:=.tR Nw Ov
def J4(k:Int):AV:=match mapIdx Nw (.int .i64 k)with|some j=>Ov.getD j .undef|none=>.sc .nilFunc
abbrev KC(H:eB)(o:Nat)(l:List Fm):Prop:=H[o]?=some [sL Fm.av l,AV.om (o-1)]/\H[o-1]?=some [KX]
def OH{H:eB}{o:Nat}{k:Int}(h:H[o]?=some [KX]):uV prog H 113 (AV.om o) (sI k) false=some (J4 k):=Qy lL uI S5 h (by decide+kernel) (by decide+kernel)
def jD{k key:Int}{x:AV}(h:eH k key=true)(a:J4 key=x):J4 k=x:=by rw[R7 h];exact a
def oD{T:fh}{g:Nat}{xs:List AV}{H H':eB}{r:AV}(h:e_ prog T g xs H r H'):qc prog T (.func (.func g) [] []) xs H r H':=by
 unfold qc ru;simp only[pk,yy];exact h
abbrev qv(T:fh):Prop:=T 2=some (AV.agg (List.map (λn=>AV.sc (Value.int .i64 n)) qI))/\T 1=some (AV.agg (List.flatMap (λx=>fN.cs x) oU))/\T 0=some (AV.agg (List.map (λn=>AV.sc (Value.int .u8 n)) l9))
def B8{S:Type}(T:fh)(g:Nat)(cap:List AV)(st:S->eB)(w:(S->Tm->Int->Option (Tm×S))):Prop:=
 ∀(X:eB) (s:S) (a:Tm) (b:Int) (c:Tm) (d:S),w s a b=some (c,d)->e_ prog T g ([Tm.av a,sI b]++cap) (st s++X) (Tm.av c) (st d++X)
def B8.Xm{S:Type}{T:fh}{g:Nat}{cap:List AV}{st:S->eB}{w:(S->Tm->Int->Option (Tm×S))}(h:B8 T g cap st w){s:S}{a:Tm}{b:Int}{c:Tm}{d:S}(hw:w s a b=some (c,d)):e_ prog T g ([Tm.av a,sI b]++cap) (st s) (Tm.av c) (st d):=by
 have:=h [] s a b c d hw
 rwa [yy,yy] at this
def tE{S:Type}(T:fh)(g:Nat)(cap:List AV)(st:S->eB)(w:(S->Int->Int->Option (S))):Prop:=
 ∀(X:eB) (s:S) (a:Int) (b:Int) (c:S),w s a b=some c->e_ prog T g ([sI a,sI b]++cap) (st s++X) (AV.tuple []) (st c++X)
def tE.ext{S:Type}{T:fh}{g:Nat}{cap:List AV}{st:S->eB}{w:(S->Int->Int->Option (S))}(h:tE T g cap st w){Y:eB}:tE T g cap (λs=>st s++Y) w:=λX s a b c hw=>by
 have:=h (Y++X) s a b c hw
 rwa [<-qW,<-qW] at this
def tE.Xm{S:Type}{T:fh}{g:Nat}{cap:List AV}{st:S->eB}{w:(S->Int->Int->Option (S))}(h:tE T g cap st w){s:S}{a b:Int}{c:S}(hw:w s a b=some c):e_ prog T g ([sI a,sI b]++cap) (st s) (AV.tuple []) (st c):=by
 have:=h [] s a b c hw
 rwa [yy,yy] at this
def Dp{S:Type}(T:fh)(g:Nat)(cap:List AV)(st:S->eB)(w:(S->Tm->Int->Option (S))):Prop:=
 ∀(X:eB) (s:S) (a:Tm) (b:Int) (c:S),w s a b=some c->e_ prog T g ([Tm.av a,sI b]++cap) (st s++X) (AV.tuple []) (st c++X)
def Dp.Xm{S:Type}{T:fh}{g:Nat}{cap:List AV}{st:S->eB}{w:(S->Tm->Int->Option (S))}(h:Dp T g cap st w){s:S}{a:Tm}{b:Int}{c:S}(hw:w s a b=some c):e_ prog T g ([Tm.av a,sI b]++cap) (st s) (AV.tuple []) (st c):=by
 have:=h [] s a b c hw
 rwa [yy,yy] at this
def tF{S:Type}(T:fh)(g:Nat)(cap:List AV)(st:S->eB)(w:(S->Int->Int->Option (Tm×S))):Prop:=
 ∀(X:eB) (s:S) (a:Int) (b:Int) (c:Tm) (d:S),w s a b=some (c,d)->e_ prog T g ([sI a,sI b]++cap) (st s++X) (Tm.av c) (st d++X)
def tF.ext{S:Type}{T:fh}{g:Nat}{cap:List AV}{st:S->eB}{w:(S->Int->Int->Option (Tm×S))}(h:tF T g cap st w){Y:eB}:tF T g cap (λs=>st s++Y) w:=λX s a b c d hw=>by
 have:=h (Y++X) s a b c d hw
 rwa [<-qW,<-qW] at this
def tF.Xm{S:Type}{T:fh}{g:Nat}{cap:List AV}{st:S->eB}{w:(S->Int->Int->Option (Tm×S))}(h:tF T g cap st w){s:S}{a b:Int}{c:Tm}{d:S}(hw:w s a b=some (c,d)):e_ prog T g ([sI a,sI b]++cap) (st s) (Tm.av c) (st d):=by
 have:=h [] s a b c d hw
 rwa [yy,yy] at this
end Go.Proofs.YtobcafblgapgfaaGreatDoor
set_option maxRecDepth 20000
set_option maxHeartbeats 4000000
namespace Go.Proofs.YtobcafblgapgfaaGreatDoor
open Go Go.nd Go.gV Tryz
def hR:C0 prog 48 iu Ty.av:=by
 intro T H r hm;rw[iu] at hm;have e:=trivial;refine wi acR func48 [] [] 999 ?_;cases hm;simp[e]
def fI:C1 prog 52 fy Tm.av sI:=by
 intro T H a0 r hm;rw[fy] at hm;have e:=trivial;refine wi acR func52 [] [] 999 ?_;cases hm;simp[e]
def Ig:∀(n:Nat),C1 prog 98 (iO n) Ty.av Ty.av:=by
  intro n
  induction n with
  |zero=>
   skip
   all_goals(intro _ _;intros;rename_i hm;cases hm)
  |succ n j=>
 intro T H a0 r hm;rw[iO] at hm;have e:=trivial;refine wi acR func98 [] [] 999 ?_;simp[e];refine Wr e hm 999 (λi s2 f h=>∃(a:Tag),(h=H/\f.1 1=AV.eD 1 (f.gen 1) 0/\f.1 2=AV.eD 2 (f.gen 2) 0/\f.1 3=sT a Ty.av s2/\f.1 7=sL Ty.av a0.acN/\f.1 8=sI (eN a0.acN)/\f.1 9=sI i/\f.box 1=some (Ty.av a0).cells/\f.box 2=some [sI 0,AV.slice .full []])/\Ow f [17] a s2) (by exact⟨.full,by simp[e],js.full⟩) (λs2 c k l E m=>?_) (λi p s2 c k l n6 q E e m o d=>?_)
 ·have⟨a,E,b⟩:=E;have e:=Aj e E;dsimp only[en]at m;cases m;simp[e]
 have⟨a,E,b⟩:=E;have e:=Aj e E;have⟨g,e,m⟩:=ep e m;simp[e];refine Cf (j e.2) ?_;have⟨e,m⟩:=Ck e m;simp[e];refine Ao (f:=Ty.av) s2 [g] b GM e.2 ?_;simp[e];cases m;exact d _ _ _ ⟨(.loc 17 (c.fP 17+1)),by simp[e],(On 17)⟩ o
def jT{n:Nat}:C1 prog 98 (iO n) Ty.av Ty.av:=(Ig n)
def IP:∀(n:Nat),C1 prog 104 (jI n) Tm.av Tm.av:=by
  intro n
  induction n with
  |zero=>
   skip
   all_goals(intro _ _;intros;rename_i hm;cases hm)
  |succ n j=>
 intro T H a0 r hm;rw[jI] at hm;have e:=trivial;refine wi acR func104 [] [] 999 ?_;simp[e];refine Wr e hm 999 (λi s2 f h=>∃(a:Tag),(h=H/\f.1 1=AV.eD 1 (f.gen 1) 0/\f.1 2=AV.eD 2 (f.gen 2) 0/\f.1 3=sT a Tm.av s2/\f.1 7=sL Tm.av a0.acN/\f.1 8=sI (eN a0.acN)/\f.1 9=sI i/\f.box 1=some (Tm.av a0).cells/\f.box 2=some [sI 0,sI 0,sI 0,AV.slice .full [],AV.slice .full []])/\Ow f [17] a s2) (by exact⟨.full,by simp[e],js.full⟩) (λs2 c k l E m=>?_) (λi q s2 c k l n6 s E e m o d=>?_)
 ·have⟨a,E,b⟩:=E;have e:=Aj e E;dsimp only[en]at m;have⟨p,e,m⟩:=ep e m;simp[e];refine Cs (jT e.2) ?_;cases m;simp[e]
 have⟨a,E,b⟩:=E;have e:=Aj e E;have⟨g,e,m⟩:=ep e m;simp[e];refine Cf (j e.2) ?_;have⟨e,m⟩:=Ck e m;simp[e];refine Ao (f:=Tm.av) s2 [g] b CX e.2 ?_;simp[e];cases m;exact d _ _ _ ⟨(.loc 17 (c.fP 17+1)),by simp[e],(On 17)⟩ o
def mC{n:Nat}:C1 prog 104 (jI n) Tm.av Tm.av:=(IP n)
def kT:C1 prog 53 kq Pf.av Tm.av:=by
 intro T H a0 r hm;rw[kq] at hm;have e:=trivial;refine wi acR func53 [] [] 999 ?_;have⟨a,e,m⟩:=ep e hm;simp[e];refine Cf (mC e.2) ?_;have e:=Aj e (show AV.agg [sI 18,sI 0,sI 0,AV.slice .iR [],AV.slice .iR [Tm.av a],AV.slice .iR [],AV.slice .iR []]=Pf.av (Pf.mk 18 0 (Ty.mk 0 []) [a] [] []) by rw[Pf.fL];rfl);cases m;simp[e]
def Iv:∀(n:Nat),C1 prog 87 (ji n) Fm.av Fm.av:=by
  intro n
  induction n with
  |zero=>
   skip
   all_goals(intro _ _;intros;rename_i hm;cases hm)
  |succ n A=>
 intro T H a0 r hm;rw[ji] at hm;have e:=trivial;refine wi acR func87 [] [] 999 ?_;have⟨t,e,m⟩:=ep e hm;simp[e];refine Cs (jT e.2) ?_;simp[e];refine Wr e m 999 (λz l f h=>∃(c:Tag),(h=H/\f.1 1=AV.eD 1 (f.gen 1) 0/\f.1 2=AV.eD 2 (f.gen 2) 0/\f.1 3=AV.eD 3 (f.gen 3) 0/\f.1 15=sL Tm.av a0.ek/\f.1 16=sI (eN a0.ek)/\f.1 17=sI z/\f.box 1=some (Fm.av a0).cells/\f.box 2=some [sI 0,sI 0,AV.slice .full [],AV.slice .full [],AV.slice .full []]/\f.box 3=some [sI a0.acM,sI t.acM,sL Ty.av t.acN,sT c Tm.av l,AV.slice .full []])/\Ow f [26] c l) (by exact⟨.full,by simp[e],js.full⟩) (λl o B C E m=>?_) (λz I l o B C J K E e m z9 p=>?_);rotate_left
 ·have⟨c,E,g⟩:=E;have e:=Aj e E;have⟨u,e,m⟩:=ep e m;simp[e];refine Cs (mC e.2) ?_;have⟨e,m⟩:=Ck e m;simp[e];refine Ad (f:=Tm.av) l [u] g CX e.2 ?_;simp[e];cases m;exact p _ _ _ ⟨(.loc 26 (o.fP 26+1)),by simp[e],(On 26)⟩ z9
 have⟨c,E,g⟩:=E;have e:=Aj e E;dsimp only[en]at m;simp[e];refine Wr e m 999 (λq i f h=>∃(a:Tag) (b:Tag),(h=H/\f.1 2=AV.eD 2 (f.gen 2) 0/\f.1 3=AV.eD 3 (f.gen 3) 0/\f.1 30=sL Fm.av a0.acN/\f.1 31=sI (eN a0.acN)/\f.1 32=sI q/\f.box 2=some [sI 0,sI 0,AV.slice .full [],AV.slice .full [],AV.slice .full []]/\f.box 3=some [sI a0.acM,sI t.acM,sL Ty.av t.acN,sT a Tm.av l,sT b Fm.av i])/\Ow f [26] a l/\Ow f [41] b i) (by exact⟨c,.full,by simp[e],g,js.full⟩) (λi k v w E m=>?_) (λq D i k v w F G E e m x s=>?_)
 ·have⟨a,b,E,j,d⟩:=E;have e:=Aj e E;dsimp only[en]at m;cases m;simp[e]
 have⟨a,b,E,j,d⟩:=E;have e:=Aj e E;have⟨y,e,m⟩:=ep e m;simp[e];refine Cs (A e.2) ?_;have⟨e,m⟩:=Ck e m;simp[e];refine Ad (f:=Fm.av) i [y] d Gq e.2 ?_;simp[e];cases m;exact s _ _ _ ⟨a,(.loc 41 (k.fP 41+1)),by simp[e],(js.other j d (by decide) (by decide)),(On 41)⟩ x
def kS{n:Nat}:C1 prog 87 (ji n) Fm.av Fm.av:=(Iv n)
def Ih:∀(n:Nat),C1 prog 75 (qk n) Pf.av Pf.av:=by
  intro n
  induction n with
  |zero=>
   skip
   all_goals(intro _ _;intros;rename_i hm;cases hm)
  |succ n Q=>
 intro T H a0 r hm;rw[qk] at hm;have e:=trivial;refine wi acR func75 [] [] 999 ?_;have⟨x,e,m⟩:=ep e hm;simp[e];refine Cs (jT e.2) ?_;simp[e];refine Wr e m 999 (λP u f h=>∃(i:Tag),(h=H/\f.1 1=AV.eD 1 (f.gen 1) 0/\f.1 2=AV.eD 2 (f.gen 2) 0/\f.1 3=AV.eD 3 (f.gen 3) 0/\f.1 19=sL Tm.av a0.ek/\f.1 20=sI (eN a0.ek)/\f.1 21=sI P/\f.box 1=some (Pf.av a0).cells/\f.box 2=some [sI 0,sI 0,sI 0,AV.slice .full [],AV.slice .full [],AV.slice .full [],AV.slice .full []]/\f.box 3=some [sI a0.acM,sI a0.acP,sI x.acM,sL Ty.av x.acN,sT i Tm.av u,AV.slice .full [],AV.slice .full []])/\Ow f [30] i u) (by exact⟨.full,by simp[e],js.full⟩) (λu y R S E m=>?_) (λP x6 u y R S n7 c8 E e m z9 z=>?_);rotate_left
 ·have⟨i,E,p⟩:=E;have e:=Aj e E;have⟨F,e,m⟩:=ep e m;simp[e];refine Cs (mC e.2) ?_;have⟨e,m⟩:=Ck e m;simp[e];refine Ad (f:=Tm.av) u [F] p CX e.2 ?_;simp[e];cases m;exact z _ _ _ ⟨(.loc 30 (y.fP 30+1)),by simp[e],(On 30)⟩ z9
 have⟨i,E,p⟩:=E;have e:=Aj e E;dsimp only[en]at m;simp[e];refine Wr e m 999 (λA l f h=>∃(a:Tag) (b:Tag),(h=H/\f.1 1=AV.eD 1 (f.gen 1) 0/\f.1 2=AV.eD 2 (f.gen 2) 0/\f.1 3=AV.eD 3 (f.gen 3) 0/\f.1 34=sL Fm.av a0.fj/\f.1 35=sI (eN a0.fj)/\f.1 36=sI A/\f.box 1=some (Pf.av a0).cells/\f.box 2=some [sI 0,sI 0,sI 0,AV.slice .full [],AV.slice .full [],AV.slice .full [],AV.slice .full []]/\f.box 3=some [sI a0.acM,sI a0.acP,sI x.acM,sL Ty.av x.acN,sT a Tm.av u,sT b Fm.av l,AV.slice .full []])/\Ow f [30] a u/\Ow f [45] b l) (by exact⟨i,.full,by simp[e],p,js.full⟩) (λl v G I E m=>?_) (λA U l v G I V W E e m J B=>?_);rotate_left
 ·have⟨a,b,E,o,j⟩:=E;have e:=Aj e E;have⟨K,e,m⟩:=ep e m;simp[e];refine Cs (kS e.2) ?_;have⟨e,m⟩:=Ck e m;simp[e];refine Ad (f:=Fm.av) l [K] j Gq e.2 ?_;simp[e];cases m;exact B _ _ _ ⟨a,(.loc 45 (v.fP 45+1)),by simp[e],(js.other o j (by decide) (by decide)),(On 45)⟩ J
 have⟨a,b,E,o,j⟩:=E;have e:=Aj e E;dsimp only[en]at m;simp[e];refine Wr e m 999 (λC q f h=>∃(c:Tag) (d:Tag) (g:Tag),(h=H/\f.1 2=AV.eD 2 (f.gen 2) 0/\f.1 3=AV.eD 3 (f.gen 3) 0/\f.1 49=sL Pf.av a0.acN/\f.1 50=sI (eN a0.acN)/\f.1 51=sI C/\f.box 2=some [sI 0,sI 0,sI 0,AV.slice .full [],AV.slice .full [],AV.slice .full [],AV.slice .full []]/\f.box 3=some [sI a0.acM,sI a0.acP,sI x.acM,sL Ty.av x.acN,sT c Tm.av u,sT d Fm.av l,sT g Pf.av q])/\Ow f [30] c u/\Ow f [45] d l/\Ow f [60] g q) (by exact⟨a,b,.full,by simp[e],o,j,js.full⟩) (λq w L M E m=>?_) (λC X q w L M Y Z E e m N D=>?_)
 ·have⟨c,d,g,E,s,t,k⟩:=E;have e:=Aj e E;dsimp only[en]at m;cases m;simp[e]
 have⟨c,d,g,E,s,t,k⟩:=E;have e:=Aj e E;have⟨O,e,m⟩:=ep e m;simp[e];refine Cs (Q e.2) ?_;have⟨e,m⟩:=Ck e m;simp[e];refine Ad (f:=Pf.av) q [O] k Z9 e.2 ?_;simp[e];cases m;exact D _ _ _ ⟨c,d,(.loc 60 (w.fP 60+1)),by simp[e],(js.other s k (by decide) (by decide)),(js.other t k (by decide) (by decide)),(On 60)⟩ N
def Dl{n:Nat}:C1 prog 75 (qk n) Pf.av Pf.av:=(Ih n)
def nH:C2 prog 56 mb Pf.av sI (sL Pf.av):=by
 intro T H a0 a1 r hm;rw[mb] at hm;have e:=trivial;refine wi acR func56 [] [] 999 ?_;simp[e];refine Wr e hm 999 (λi s2 f h=>∃(a:Tag),(h=H/\f.1 4=AV.eD 4 (f.gen 4) 0/\f.1 5=AV.eD 5 (f.gen 5) 0/\f.1 10=sL Pf.av a1/\f.1 11=sI (eN a1)/\f.1 12=sI i/\f.box 4=some [sI 0,sI 0,sI 0,AV.slice .full [],AV.slice .full [],AV.slice .full [],AV.slice .full []]/\f.box 5=some [sI a0,sI 0,sI 0,AV.slice .full [],AV.slice .full [],AV.slice .full [],sT a Pf.av s2])/\Ow f [21] a s2) (by exact⟨.full,by simp[e],js.full⟩) (λs2 c j k E m=>?_) (λi n s2 c j k n6 o E e m l d=>?_)
 ·have⟨a,E,b⟩:=E;have e:=Aj e E;dsimp only[en]at m;cases m;simp[e]
 have⟨a,E,b⟩:=E;have e:=Aj e E;have⟨g,e,m⟩:=ep e m;simp[e];refine Cs (Dl e.2) ?_;have⟨e,m⟩:=Ck e m;simp[e];refine Ad (f:=Pf.av) s2 [g] b Z9 e.2 ?_;simp[e];cases m;exact d _ _ _ ⟨(.loc 21 (c.fP 21+1)),by simp[e],(On 21)⟩ l
def oL:C3 prog 34 nF Pf.av sI Ty.av Pf.av:=by
 intro T H a0 a1 a2 r hm;rw[nF] at hm;have e:=trivial;refine wi acR func34 [] [] 999 ?_;have⟨a,e,m⟩:=ep e hm;simp[e];refine Cf (nH e.2) ?_;have⟨b,e,m⟩:=ep e m;simp[e];refine Cf (jT e.2) ?_;cases m;simp[e]
def CR:∀(n:Nat),C1 prog 236 (lX n) (t2 sI sB) Ty.av:=by
  intro n
  induction n with
  |zero=>
    skip
    all_goals(intro _ _;intros;rename_i hm;cases hm)
  |succ n q=>
 intro T H a0 r hm;rw[lX] at hm;have e:=trivial;refine wi acR func236 [] [] 4 ?_;simp[e];refine Wj hm 3 999 (λk f h=>∃(v2:Int),(h=H/\f.1 1=AV.eD 1 (f.gen 1) 0/\f.1 4=sI v2/\f.box 1=some (Ty.av a0).cells)/\k v2=some r) (λk F c m=>?_) ?_;rotate_left
 ·rintro s G ⟨v2,E,m⟩;have e:=Aj e E;rcases Io e m with⟨e,m⟩|⟨e,m⟩
  ·cases m;simp[e]
  simp[e];refine Wr e m 999 (λl i f h=>h=H/\f.1 5=sI i/\f.1 25=sL Ty.av a0.acN/\f.1 26=sI (eN a0.acN)/\f.1 27=sI l) (by simp[e]) (λi j t u E m=>?_) (λl v i j t u w x E e m d g=>?_)
  ·have e:=Aj e E;dsimp only[en]at m;cases m;simp[e]
  have e:=Aj e E;have⟨y,z,e,m⟩:=gr e m;simp[e];refine Cf (q e.2) ?_;rcases Io e m with⟨e,m⟩|⟨e,m⟩;rotate_left
  ·cases m;cases d;simp[e]
  simp[e];cases m;exact g _ _ _ (by simp[e]) d
 simp[e];refine wj 999 0 (λf h=>h=H/\f.1 1=AV.eD 1 (f.gen 1) 0/\f.1 4=sI 0/\f.1 11=sI a0.acM/\f.1 12=sB (fW (eH a0.acM 1) true (fW (eH a0.acM 2) true (eH a0.acM 5)))/\f.box 1=some (Ty.av a0).cells) (λA a=>?_) ?_
 ·rcases Pb (eH a0.acM 1) e with e|e
  ·simp[e];exact a _ _ (by simp[e])
  rcases Pb (eH a0.acM 2) e with e|e
  ·simp[e];exact a _ _ (by simp[e])
  simp[e];exact a _ _ (by simp[e])
 rintro o B E;have e:=Aj e E;rcases Io e m with⟨e,m⟩|⟨e,m⟩
 ·apply wg 999;simp[e];exact c _ _ ⟨0,by simp[e],m⟩
 apply wg 1;simp[e];refine wj 999 999 (λf h=>h=H/\f.1 1=AV.eD 1 (f.gen 1) 0/\f.1 16=sB (fW (eH a0.acM 3) true (eH a0.acM 4))/\f.box 1=some (Ty.av a0).cells) (λC b=>?_) ?_
 ·rcases Pb (eH a0.acM 3) e with e|e
  ·simp[e];exact b _ _ (by simp[e])
  simp[e];exact b _ _ (by simp[e])
 rintro p D E;have e:=Aj e E;rcases Io e m with⟨e,m⟩|⟨e,m⟩;rotate_left
 ·cases m;simp[e]
 simp[e];exact c _ _ ⟨2,by simp[e],m⟩
def Dy{n:Nat}:C1 prog 236 (lX n) (t2 sI sB) Ty.av:=(CR n)
def oE:C1 prog 186 jG (t2 sI sI) Ty.av:=by
 intro T H a0 r hm;rw[jG] at hm;have e:=trivial;refine wi acR func186 [] [] 999 ?_;have⟨a,b,e,m⟩:=gr e hm;simp[e];refine Cf (Dy e.2) ?_;rcases Io e m with⟨e,m⟩|⟨e,m⟩;rotate_left
 ·cases m;simp[e]
 rcases Io e m with⟨e,m⟩|⟨e,m⟩
 ·cases m;simp[e]
 cases m;simp[e]
def A':C1 prog 136 mL sI Ty.av:=by
 intro T H a0 r hm;rw[mL] at hm;have e:=trivial;refine wi acR func136 [] [] 999 ?_;have⟨a,b,e,m⟩:=gr e hm;simp[e];refine Cf (oE e.2) ?_;cases m;simp[e]
def yG:C1 prog 77 oe sI (sL Ty.av):=by
 intro T H a0 r hm;rw[oe] at hm;have e:=trivial;refine wi acR func77 [] [] 999 ?_;rcases Io e hm with⟨e,m⟩|⟨e,m⟩
 ·cases m;simp[e]
 simp[e];refine Wr e m 999 (λc s2 f h=>h=H/\f.1 9=sL Ty.av a0/\f.1 10=sI (eN a0)/\f.1 11=sI c) (by simp[e]) (λs2 a g i E m=>?_) (λc k s2 a g i n6 l E e m d b=>?_)
 ·have e:=Aj e E;dsimp only[en]at m;cases m;simp[e]
 have e:=Aj e E;have⟨j,e,m⟩:=ep e m;simp[e];refine Cf (A' e.2) ?_;rcases Io e m with⟨e,m⟩|⟨e,m⟩
 ·cases m;cases d;simp[e]
 simp[e];cases m;exact b _ _ _ (by simp[e]) d
def w9:C1 prog 238 oO sB Ty.av:=by
 intro T H a0 r hm;rw[oO] at hm;have e:=trivial;refine wi acR func238 [] [] 2 ?_;simp[e];refine wj 999 999 (λf h=>h=H/\f.1 2=sB (fW (eH a0.acM 0) (eH (eN a0.acN) 0) false)) (λc a=>?_) ?_;rotate_left
 ·rintro b d E;have e:=Aj e E;cases hm;simp[e]
 rcases Pb (eH a0.acM 0) e with e|e
 ·simp[e];exact a _ _ (by simp[e])
 simp[e];exact a _ _ (by simp[e])
def Il:C1 prog 269 r5 sB Fm.av:=by
 intro T H a0 r hm;rw[r5] at hm;have e:=trivial;refine wi acR func269 [] [] 4 ?_;simp[e];refine Wj hm 5 0 (λi f h=>∃(v2:Int) (v3:Int) (v4:Bool),(h=H/\f.1 1=AV.eD 1 (f.gen 1) 0/\f.1 3=sI v2/\f.1 4=sI v3/\f.1 5=sB v4/\f.box 1=some (Fm.av a0).cells)/\i v2 v3 v4=some r) (λi B g m=>?_) ?_;rotate_left
 ·rintro p C ⟨v2,v3,v4,E,m⟩;have e:=Aj e E;refine Wj m 999 0 (λj f h=>(h=H/\f.1 1=AV.eD 1 (f.gen 1) 0/\f.1 3=sI v2/\f.1 4=sI v3/\f.box 1=some (Fm.av a0).cells)/\j=some r) (λj D b m=>?_) ?_;rotate_left
  ·rintro k q ⟨E,m⟩;have e:=Aj e E;refine wj 999 999 (λf h=>h=H/\f.1 2=sB (fW (eH (eN a0.ek) v2) (eH (eN a0.acN) v3) false)) (λs c=>?_) ?_;rotate_left
   ·rintro l t E;have e:=Aj e E;cases m;simp[e]
   rcases Pb (eH (eN a0.ek) v2) e with e|e
   ·simp[e];exact c _ _ (by simp[e])
   simp[e];exact c _ _ (by simp[e])
  rcases Io e m with⟨e,m⟩|⟨e,m⟩
  ·have⟨u,v,e,m⟩:=gr e m;simp[e];refine Cf (oE e.2) ?_;rcases Io e m with⟨e,m⟩|⟨e,m⟩
   ·cases m;simp[e]
   simp[e];exact b _ _ ⟨by simp[e],m⟩
  have⟨w,e,m⟩:=ep e m;simp[e];refine Cf (w9 e.2) ?_;rcases Io e m with⟨e,m⟩|⟨e,m⟩;rotate_left
  ·cases m;simp[e]
  simp[e];exact b _ _ ⟨by simp[e],m⟩
 simp[e];rcases Io e m with⟨e,m⟩|⟨e,m⟩
 ·apply wg 999;simp[e];exact g _ _ ⟨2,0,false,by simp[e],m⟩
 apply wg 1;simp[e];refine wj 999 0 (λf h=>h=H/\f.1 1=AV.eD 1 (f.gen 1) 0/\f.1 3=sI 0/\f.1 5=sB false/\f.1 9=sI a0.acM/\f.1 12=sB (fW (eH a0.acM 2) true (eH a0.acM 3))/\f.box 1=some (Fm.av a0).cells) (λx d=>?_) ?_
 ·rcases Pb (eH a0.acM 2) e with e|e
  ·simp[e];exact d _ _ (by simp[e])
  simp[e];exact d _ _ (by simp[e])
 rintro n y E;have e:=Aj e E;rcases Io e m with⟨e,m⟩|⟨e,m⟩
 ·apply wg 999;simp[e];exact g _ _ ⟨0,2,false,by simp[e],m⟩
 apply wg 1;simp[e];refine wj 999 999 (λf h=>h=H/\f.1 1=AV.eD 1 (f.gen 1) 0/\f.1 3=sI 0/\f.1 15=sB (fW (eH a0.acM 4) true (fW (eH a0.acM 5) true (fW (eH a0.acM 6) true (eH a0.acM 7))))/\f.box 1=some (Fm.av a0).cells) (λz a=>?_) ?_;rotate_left
 ·rintro o A E;have e:=Aj e E;rcases Io e m with⟨e,m⟩|⟨e,m⟩;rotate_left
  ·cases m;simp[e]
  simp[e];exact g _ _ ⟨0,1,true,by simp[e],m⟩
 rcases Pb (eH a0.acM 4) e with e|e
 ·simp[e];exact a _ _ (by simp[e])
 rcases Pb (eH a0.acM 5) e with e|e
 ·simp[e];exact a _ _ (by simp[e])
 rcases Pb (eH a0.acM 6) e with e|e
 ·simp[e];exact a _ _ (by simp[e])
 simp[e];exact a _ _ (by simp[e])
def Kc(T:fh)(d:qv T){H:eB}{a0 b:Int}{c:Bool}(hm:vq a0=some (b,c)):e_ prog T 294 [sI a0] H (AV.tuple [sI b,sB c]) H:=by
 rw[vq] at hm;have e:=d;refine wi acR func294 [] [] 3 ?_;simp[e];refine wj 999 999 (λf h=>h=H/\f.1 0=sI a0/\f.1 9=sB (fW (uX a0 1) true (ue a0 14))) (λi a=>?_) ?_
 ·rcases Pb (uX a0 1) e with e|e
  ·simp[e];exact a _ _ (by simp[e])
  simp[e];exact a _ _ (by simp[e])
 rintro g j E;have e:=Aj e E;rcases Io e hm with⟨e,m⟩|⟨e,m⟩
 ·cases m;simp[e]
 have⟨k,e,m⟩:=ep e m;cases m;simp[e]
def KA:C1 prog 295 vI sB sI:=by
 intro T H a0 r hm;rw[vI] at hm;have e:=trivial;refine wi acR func295 [] [] 2 ?_;simp[e];refine wj 999 999 (λf h=>h=H/\f.1 2=sB (fW (eH a0 2) true (fW (eH a0 6) true (eH a0 9)))) (λc a=>?_) ?_;rotate_left
 ·rintro b d E;have e:=Aj e E;cases hm;simp[e]
 rcases Pb (eH a0 2) e with e|e
 ·simp[e];exact a _ _ (by simp[e])
 rcases Pb (eH a0 6) e with e|e
 ·simp[e];exact a _ _ (by simp[e])
 simp[e];exact a _ _ (by simp[e])
def B6(T:fh)(p:qv T):∀(n:Nat),(∀{H:eB} {a0:Tm} {j:Int} {k:Bool} (hm:kf n a0=some (j,k)),e_ prog T 270 [Tm.av a0] H (AV.tuple [sI j,sB k]) H):=by
  intro n
  induction n with
  |zero=>
    skip
    all_goals(intro _ _;intros;rename_i hm;cases hm)
  |succ n u=>
 intro H a0 j k hm;rw[kf] at hm;have e:=p;refine wi acR func270 [] [] 5 ?_;have⟨q,r,e,m⟩:=gr e hm;simp[e];refine Cf (Kc T p e.2) ?_;simp[e];refine wj 999 0 (λf h=>h=H/\f.1 1=AV.eD 1 (f.gen 1) 0/\f.1 42=sB (fW r (fW (eW (eN a0.acN) q) true (fW (uX a0.acP 0) true (fW (eW a0.acP 0) (eW a0.acM 1) false))) true)/\f.box 1=some (Tm.av a0).cells) (λG a=>?_) ?_
 ·rcases Pb r e with e|e;rotate_left
  ·simp[e];exact a _ _ (by simp[e])
  rcases Pb (eW (eN a0.acN) q) e with e|e
  ·simp[e];exact a _ _ (by simp[e])
  rcases Pb (uX a0.acP 0) e with e|e
  ·simp[e];exact a _ _ (by simp[e])
  rcases Pb (eW a0.acP 0) e with e|e
  ·simp[e];exact a _ _ (by simp[e])
  simp[e];exact a _ _ (by simp[e])
 rintro v I E;have e:=Aj e E;rcases Io e m with⟨e,m⟩|⟨e,m⟩
 ·apply wg 999;cases m;simp[e]
 apply wg 2;simp[e];refine Wj m 999 999 (λs f h=>(h=H/\f.1 1=AV.eD 1 (f.gen 1) 0/\f.box 1=some (Tm.av a0).cells)/\s=some (j,k)) (λs J c m=>?_) ?_
 ·have⟨K,e,m⟩:=ep e m;simp[e];refine Cf (KA e.2) ?_;rcases Io e m with⟨e,m⟩|⟨e,m⟩
  ·have⟨w,x,e,m⟩:=gr e m;simp[e];refine Cf (oE e.2) ?_;rcases Io e m with⟨e,m⟩|⟨e,m⟩
   ·cases m;simp[e]
   simp[e];exact c _ _ ⟨by simp[e],m⟩
  have⟨y,e,m⟩:=ep e m;simp[e];refine Cf (w9 e.2) ?_;rcases Io e m with⟨e,m⟩|⟨e,m⟩;rotate_left
  ·cases m;simp[e]
  simp[e];exact c _ _ ⟨by simp[e],m⟩
 rintro t z ⟨E,m⟩;have e:=Aj e E;simp[e];refine Wr e m 999 (λd b f h=>h=H/\f.1 8=sI b/\f.1 59=sL Tm.av a0.acN/\f.1 60=sI (eN a0.acN)/\f.1 61=sI d) (by simp[e]) (λb g l o E m=>?_) (λd A b g l o B C E e m z21 i=>?_)
 ·have e:=Aj e E;dsimp only[en]at m;cases m;simp[e]
 have e:=Aj e E;have⟨D,F,e,m⟩:=gr e m;simp[e];refine Cf (u e.2) ?_;rcases Io e m with⟨e,m⟩|⟨e,m⟩;rotate_left
 ·cases m;cases z21;simp[e]
 simp[e];cases m;exact i _ _ _ (by simp[e]) z21
def xA(T:fh)(c:qv T){H:eB}{a0:Tm}{a:Int}{b:Bool}{n:Nat}(hm:kf n a0=some (a,b)):e_ prog T 270 [Tm.av a0] H (AV.tuple [sI a,sB b]) H:=(B6 T c n) hm
def zl(T:fh)(q:qv T):∀(n:Nat),(∀{H:eB} {a0:Fm} {i:Int} {j:Bool} (hm:jY n a0=some (i,j)),e_ prog T 235 [Fm.av a0] H (AV.tuple [sI i,sB j]) H):=by
  intro n
  induction n with
  |zero=>
    skip
    all_goals(intro _ _;intros;rename_i hm;cases hm)
  |succ n s=>
 intro H a0 i j hm;rw[jY] at hm;have e:=q;refine wi acR func235 [] [] 999 ?_;have⟨C,e,m⟩:=ep e hm;simp[e];refine Cf (Il e.2) ?_;rcases Io e m with⟨e,m⟩|⟨e,m⟩;rotate_left
 ·cases m;simp[e]
 simp[e];refine Wr e m 999 (λr k f h=>h=H/\f.1 1=AV.eD 1 (f.gen 1) 0/\f.1 4=sI k/\f.1 17=sL Tm.av a0.ek/\f.1 18=sI (eN a0.ek)/\f.1 19=sI r/\f.box 1=some (Fm.av a0).cells) (by simp[e]) (λk l t u E m=>?_) (λr D k l t u F G E e m z9 b=>?_);rotate_left
 ·have e:=Aj e E;have⟨v,w,e,m⟩:=gr e m;simp[e];refine Cf (xA T q e.2) ?_;rcases Io e m with⟨e,m⟩|⟨e,m⟩;rotate_left
  ·cases m;cases z9;simp[e]
  simp[e];cases m;exact b _ _ _ (by simp[e]) z9
 have e:=Aj e E;dsimp only[en]at m;simp[e];refine Wr e m 999 (λc a f h=>h=H/\f.1 4=sI a/\f.1 35=sL Fm.av a0.acN/\f.1 36=sI (eN a0.acN)/\f.1 37=sI c) (by simp[e]) (λa d o p E m=>?_) (λc x a d o p y z E e m z20 g=>?_)
 ·have e:=Aj e E;dsimp only[en]at m;cases m;simp[e]
 have e:=Aj e E;have⟨A,B,e,m⟩:=gr e m;simp[e];refine Cf (s e.2) ?_;rcases Io e m with⟨e,m⟩|⟨e,m⟩;rotate_left
 ·cases m;cases z20;simp[e]
 simp[e];cases m;exact g _ _ _ (by simp[e]) z20
def AN(T:fh)(c:qv T){H:eB}{a0:Fm}{a:Int}{b:Bool}{n:Nat}(hm:jY n a0=some (a,b)):e_ prog T 235 [Fm.av a0] H (AV.tuple [sI a,sB b]) H:=(zl T c n) hm
def qV(T:fh)(a:qv T){H:eB}{a0:Fm}{b c:Int}(hm:jv a0=some (b,c)):e_ prog T 182 [Fm.av a0] H (AV.tuple [sI b,sI c]) H:=by
 rw[jv] at hm;have e:=a;refine wi acR func182 [] [] 999 ?_;have⟨d,f,e,m⟩:=gr e hm;simp[e];refine Cf (AN T a e.2) ?_;rcases Io e m with⟨e,m⟩|⟨e,m⟩;rotate_left
 ·cases m;simp[e]
 rcases Io e m with⟨e,m⟩|⟨e,m⟩
 ·cases m;simp[e]
 cases m;simp[e]
def px(T:fh)(a:qv T){H:eB}{a0:Fm}{b:Int}(hm:kN a0=some b):e_ prog T 133 [Fm.av a0] H (sI b) H:=by
 rw[kN] at hm;have e:=a;refine wi acR func133 [] [] 999 ?_;have⟨c,d,e,m⟩:=gr e hm;simp[e];refine Cf (qV T a e.2) ?_;cases m;simp[e]
def rL:C1 prog 183 nE ed.av Ty.av:=by
 intro T H a0 r hm;rw[nE] at hm;have e:=trivial;refine wi acR func183 [] [] 999 ?_;have⟨a,b,e,m⟩:=gr e hm;simp[e];refine Cf (oE e.2) ?_;cases m;simp[e]
def xc:C1 prog 134 oP (sL ed.av) (sL Ty.av):=by
 intro T H a0 r hm;rw[oP] at hm;have e:=trivial;refine wi acR func134 [] [] 999 ?_;simp[e];refine Wr e hm 999 (λi s2 f h=>∃(a:Tag),(h=H/\f.1 3=sT a ed.av s2/\f.1 6=sL Ty.av a0/\f.1 7=sI (eN a0)/\f.1 8=sI i)/\Ow f [16] a s2) (by exact⟨.full,by simp[e],js.full⟩) (λs2 c j k E m=>?_) (λi n s2 c j k n6 o E e m l d=>?_)
 ·have⟨a,E,b⟩:=E;have e:=Aj e E;dsimp only[en]at m;cases m;simp[e]
 have⟨a,E,b⟩:=E;have e:=Aj e E;have⟨g,e,m⟩:=ep e m;simp[e];refine Cf (rL e.2) ?_;have⟨e,m⟩:=Ck e m;simp[e];refine Ao (f:=ed.av) s2 [g] b Td e.2 ?_;simp[e];cases m;exact d _ _ _ ⟨(.loc 16 (c.fP 16+1)),by simp[e],(On 16)⟩ l
def nq:C2 prog 184 gI (sL ed.av) (sL ed.av) (sL Ty.av):=by
 intro T H a0 a1 r hm;rw[gI] at hm;have e:=trivial;refine wi acR func184 [] [] 999 ?_;have⟨a,e,m⟩:=ep e hm;simp[e];refine Cs (xc e.2) ?_;have⟨e,m⟩:=Ck e m;simp[e];refine Ad (f:=ed.av) a0 a (js.full (D:=[])) Td e.2 ?_;cases m;simp[e]
def A7:C3 prog 241 rW (t2 ed.av sI) sI ed.av ed.av:=by
 intro T H a0 a1 a2 r hm;rw[rW] at hm;have e:=trivial;refine wi acR func241 [] [] 999 ?_;rcases Io e hm with⟨e,m⟩|⟨e,m⟩
 ·cases m;simp[e]
 have e:=Aj e (show AV.agg [sI a0,AV.slice .iR [Ty.av a1.dv,Ty.av a2.dv],sI (fk .i64 (fk .i64 1 a1.acO) a2.acO)]=ed.av (ed.mk (Ty.mk a0 [a1.dv,a2.dv]) (fk .i64 (fk .i64 1 a1.acO) a2.acO)) by rw[ed.fL];rfl);cases m;simp[e]
def HO:C1 prog 271 kh (sL sI) sI:=by
 intro T H a0 r hm;rw[kh] at hm;have e:=trivial;refine wi acR func271 [] [] 999 ?_;rcases Io e hm with⟨e,m⟩|⟨e,m⟩
 ·cases m;simp[e]
 rcases Io e m with⟨e,m⟩|⟨e,m⟩
 ·cases m;simp[e]
 rcases Io e m with⟨e,m⟩|⟨e,m⟩
 ·cases m;simp[e]
 rcases Io e m with⟨e,m⟩|⟨e,m⟩
 ·cases m;simp[e]
 rcases Io e m with⟨e,m⟩|⟨e,m⟩
 ·cases m;simp[e]
 cases m;simp[e]
def kW:C2 prog 252 jQ sB ed.av sI:=by
 intro T H a0 a1 r hm;rw[jQ] at hm;have e:=trivial;refine wi acR func252 [] [] 999 ?_;cases hm;simp[e]
def oq:C2 prog 272 jZ ed.av ed.av sI:=by
 intro T H a0 a1 r hm;rw[jZ] at hm;have e:=trivial;refine wi acR func272 [] [] 999 ?_;have⟨a,e,m⟩:=ep e hm;have⟨b,e,m⟩:=ep e m;simp[e];refine Cf (rL e.2) ?_;cases m;simp[e]
def DF:∀(n:Nat),C2 prog 230 (hD n) sB Ty.av Ty.av:=by
  intro n
  induction n with
  |zero=>
    skip
    all_goals(intro _ _;intros;rename_i hm;cases hm)
  |succ n j=>
 intro T H a0 a1 r hm;rw[hD] at hm;have e:=trivial;refine wi acR func230 [] [] 3 ?_;simp[e];refine wj 999 999 (λf h=>h=H/\f.1 2=AV.eD 2 (f.gen 2) 0/\f.1 3=AV.eD 3 (f.gen 3) 0/\f.1 20=sB (fW (eW a0.acM a1.acM) true (eW (eN a0.acN) (eN a1.acN)))/\f.box 2=some (Ty.av a0).cells/\f.box 3=some (Ty.av a1).cells) (λt a=>?_) ?_
 ·rcases Pb (eW a0.acM a1.acM) e with e|e
  ·simp[e];exact a _ _ (by simp[e])
  simp[e];exact a _ _ (by simp[e])
 rintro k u E;have e:=Aj e E;rcases Io e hm with⟨e,m⟩|⟨e,m⟩
 ·cases m;simp[e]
 simp[e];refine Wr e m 999 (λg i f h=>h=H/\f.1 3=AV.eD 3 (f.gen 3) 0/\f.1 22=sL Ty.av a0.acN/\f.1 23=sI (eN a0.acN)/\f.1 24=sI g/\f.box 3=some (Ty.av a1).cells) (by simp[e]) (λi d l o E m=>?_) (λg v i d l o w p E e m b c=>?_)
 ·have e:=Aj e E;dsimp only[en]at m;cases m;simp[e]
 have e:=Aj e E;have⟨q,e,m⟩:=ep e m;have⟨s,e,m⟩:=ep e m;simp[e];refine Cs (j e.2) ?_;rcases Io e m with⟨e,m⟩|⟨e,m⟩;rotate_left
 ·cases m;cases b;simp[e]
 simp[e];cases m;exact c _ _ _ (by simp[e]) b
def py{n:Nat}:C2 prog 230 (hD n) sB Ty.av Ty.av:=(DF n)
def qX:C2 prog 245 kZ sB ed.av ed.av:=by
 intro T H a0 a1 r hm;rw[kZ] at hm;have e:=trivial;refine wi acR func245 [] [] 2 ?_;simp[e];refine Wj hm 999 999 (λb f h=>∃(v2:Bool),(h=H/\f.1 4=sB v2)/\b v2=some r) (λb g a m=>?_) ?_;rotate_left
 ·rintro c i ⟨v2,E,m⟩;have e:=Aj e E;cases m;simp[e]
 rcases Io e m with⟨e,m⟩|⟨e,m⟩;rotate_left
 ·simp[e];exact a _ _ ⟨false,by simp[e],m⟩
 have⟨d,e,m⟩:=ep e m;simp[e];refine Cf (py e.2) ?_;simp[e];exact a _ _ ⟨d,by simp[e],m⟩
def m5:C0 prog 208 nU Ty.av:=by
 intro T H r hm;rw[nU] at hm;have e:=trivial;refine wi acR func208 [] [] 999 ?_;cases hm;simp[e]
def EP:C0 prog 251 xQ Ty.av:=by
 intro T H r hm;rw[xQ] at hm;have e:=trivial;refine wi acR func251 [] [] 999 ?_;cases hm;simp[e]
def BI:C2 prog 209 pz Ty.av Ty.av (sL Ty.av):=by
 intro T H a0 a1 r hm;rw[pz] at hm;have e:=trivial;refine wi acR func209 [] [] 999 ?_;simp[e];refine Wn hm 999 (λs1 f h=>∃(a:Tag),h=H/\f.1 1=sL Ty.av a1/\f.1 2=AV.eD 2 (f.gen 2) 0/\f.1 4=AV.eD 4 (f.gen 4) 0/\f.1 5=sI s1.1/\f.box 2=some [sI s1.2.1,sT a Ty.av s1.2.2]/\f.box 4=some [sI 0,AV.slice .full []]) ⟨.iR,by simp[e]⟩ (λs1 fr2 g i n4 c5 E m c b=>?_);have⟨j,v9,v10⟩:=s1;have⟨a,E⟩:=E;have e:=Aj e E;dsimp only[Tr]at m;rcases Io e m with⟨e,m⟩|⟨e,m⟩;rotate_left
 ·cases m;have m:=Qb c;dsimp only[Tr]at m;cases m;simp[e]
 have⟨d,e,m⟩:=ep e m;simp[e];cases m;exact b _ _ _ ⟨.full,by simp[e]⟩ c
def IW:C1 prog 273 p7 Ty.av Tm.av:=by
 intro T H a0 r hm;rw[p7] at hm;have e:=trivial;refine wi acR func273 [] [] 999 ?_;rcases Io e hm with⟨e,m⟩|⟨e,m⟩;rotate_left
 ·have⟨a,e,m⟩:=ep e m;simp[e];refine Cs (m5 e.2) ?_;have⟨b,e,m⟩:=ep e m;simp[e];refine Cs (BI e.2) ?_;cases m;simp[e]
 have⟨c,e,m⟩:=ep e m;simp[e];refine Cs (m5 e.2) ?_;have⟨d,e,m⟩:=ep e m;simp[e];refine Cs (EP e.2) ?_;have⟨f,e,m⟩:=ep e m;simp[e];refine Cs (BI e.2) ?_;cases m;simp[e]
def I4:C2 prog 242 gM (t2 ed.av sI) Tm.av (λp=>AV.agg [sI p.1.dv.acM,sL Ty.av p.1.dv.acN,sI p.1.acO,sI p.2.1.dv.acM,sL Ty.av p.2.1.dv.acN,sI p.2.1.acO,sI p.2.2.dv.acM,sL Ty.av p.2.2.dv.acN,sI p.2.2.acO]):=by
 intro T H a0 a1 r hm;rw[gM] at hm;have e:=trivial;refine wi acR func242 [] [] 7 ?_;have⟨D,e,m⟩:=ep e hm;simp[e];refine Cf (HO e.2) ?_;simp[e];rcases Io e m with⟨e,m⟩|⟨e,m⟩
 ·apply wg 999;have⟨x,e,m⟩:=ep e m;simp[e];refine Wr e m 0 (λq F f h=>h=H/\f.1 3=AV.eD 3 (f.gen 3) 0/\f.1 4=AV.eD 4 (f.gen 4) 0/\f.1 6=sL sI D/\f.1 18=sL sI x/\f.1 19=sI (eN x)/\f.1 20=sI q/\f.box 3=some [sI a1.1.dv.acM,sL Ty.av a1.1.dv.acN,sI a1.1.acO,sI a1.2.1.dv.acM,sL Ty.av a1.2.1.dv.acN,sI a1.2.1.acO,sI a1.2.2.dv.acM,sL Ty.av a1.2.2.dv.acN,sI a1.2.2.acO]/\f.box 4=some [sI 0,AV.slice .full [],sI 0]) (by simp[e]) (λF a M N E m=>?_) (λq x7 F a M N n8 O E e m s t=>?_)
  ·have e:=Aj e E;apply wg 999;dsimp only[en]at m;have⟨P,e,m⟩:=ep e m;have⟨Q,e,m⟩:=ep e m;simp[e];refine Cf (rL e.2) ?_;cases m;simp[e]
  have e:=Aj e E;apply wg 9;simp[e];refine Wj m 999 999 (λu f h=>∃(l:Bool),(h=H/\f.1 3=AV.eD 3 (f.gen 3) 0/\f.1 4=AV.eD 4 (f.gen 4) 0/\f.1 6=sL sI D/\f.1 18=sL sI x/\f.1 19=sI (eN x)/\f.1 20=sI q/\f.1 30=sB l/\f.box 3=some [sI a1.1.dv.acM,sL Ty.av a1.1.dv.acN,sI a1.1.acO,sI a1.2.1.dv.acM,sL Ty.av a1.2.1.dv.acN,sI a1.2.1.acO,sI a1.2.2.dv.acM,sL Ty.av a1.2.2.dv.acN,sI a1.2.2.acO]/\f.box 4=some [sI 0,AV.slice .full [],sI 0])/\u l=some O) (λu R c m=>?_) ?_;rotate_left
  ·rintro G S ⟨l,E,m⟩;have e:=Aj e E;rcases Io e m with⟨e,m⟩|⟨e,m⟩
   ·cases m;cases s;simp[e]
   simp[e];cases m;exact t _ _ _ (by simp[e]) s
  rcases Io e m with⟨e,m⟩|⟨e,m⟩
  ·have e:=Aj e (Ee (j:=0) DY zh (by simp[e]) (by decide):gQ prog 244 (AV.eD 3 (a.gen 3) 0) (sI q)=some (AV.eD 3 (a.gen 3) 0));have⟨y,e,m⟩:=ep e m;simp[e];refine Cf (kW e.2) ?_;simp[e];exact c _ _ ⟨(nB y),by simp[e],m⟩
  rcases Io e m with⟨e,m⟩|⟨e,m⟩
  ·have e:=Aj e (Ee (j:=1) DY zh (by simp[e]) (by decide):gQ prog 244 (AV.eD 3 (a.gen 3) 0) (sI q)=some (AV.eD 3 (a.gen 3) 3));have⟨z,e,m⟩:=ep e m;simp[e];refine Cf (kW e.2) ?_;simp[e];exact c _ _ ⟨(nB z),by simp[e],m⟩
  have⟨e,m⟩:=Ck e m;have e:=Aj e (Ee (j:=2) DY zh (by simp[e]) (by decide):gQ prog 244 (AV.eD 3 (a.gen 3) 0) (sI q)=some (AV.eD 3 (a.gen 3) 6));have⟨A,e,m⟩:=ep e m;simp[e];refine Cf (kW e.2) ?_;simp[e];exact c _ _ ⟨(nB A),by simp[e],m⟩
 apply wg 8;simp[e];rcases Io e m with⟨e,m⟩|⟨e,m⟩
 ·apply wg 2;simp[e];refine Wj m 999 999 (λv f h=>∃(n:Bool),(h=H/\f.1 3=AV.eD 3 (f.gen 3) 0/\f.1 4=AV.eD 4 (f.gen 4) 0/\f.1 54=sB n/\f.box 3=some [sI a1.1.dv.acM,sL Ty.av a1.1.dv.acN,sI a1.1.acO,sI a1.2.1.dv.acM,sL Ty.av a1.2.1.dv.acN,sI a1.2.1.acO,sI a1.2.2.dv.acM,sL Ty.av a1.2.2.dv.acN,sI a1.2.2.acO]/\f.box 4=some [sI 0,AV.slice .full [],sI 0])/\v n=some r) (λv U g m=>?_) ?_;rotate_left
  ·rintro I V ⟨n,E,m⟩;have e:=Aj e E;rcases Io e m with⟨e,m⟩|⟨e,m⟩
   ·cases m;simp[e]
   have⟨W,e,m⟩:=ep e m;simp[e];refine Cf (oq e.2) ?_;cases m;simp[e]
  have⟨X,e,m⟩:=ep e m;simp[e];refine Cs (kW e.2) ?_;rcases Io e m with⟨e,m⟩|⟨e,m⟩;rotate_left
  ·simp[e];exact g _ _ ⟨true,by simp[e],m⟩
  have⟨Y,e,m⟩:=ep e m;simp[e];refine Cs (oq e.2) ?_;have⟨B,e,m⟩:=ep e m;simp[e];refine Cs (qX e.2) ?_;simp[e];exact g _ _ ⟨(nB B),by simp[e],m⟩
 apply wg 1;simp[e];refine wj 999 0 (λf h=>h=H/\f.1 2=AV.eD 2 (f.gen 2) 0/\f.1 3=AV.eD 3 (f.gen 3) 0/\f.1 4=AV.eD 4 (f.gen 4) 0/\f.1 39=sI a0.acM/\f.1 59=sB (fW (eH a0.acM 6) true (eH a0.acM 9))/\f.box 2=some (Tm.av a0).cells/\f.box 3=some [sI a1.1.dv.acM,sL Ty.av a1.1.dv.acN,sI a1.1.acO,sI a1.2.1.dv.acM,sL Ty.av a1.2.1.dv.acN,sI a1.2.1.acO,sI a1.2.2.dv.acM,sL Ty.av a1.2.2.dv.acN,sI a1.2.2.acO]/\f.box 4=some [sI 0,AV.slice .full [],sI 0]) (λZ i=>?_) ?_
 ·rcases Pb (eH a0.acM 6) e with e|e
  ·simp[e];exact i _ _ (by simp[e])
  simp[e];exact i _ _ (by simp[e])
 rintro J aa E;have e:=Aj e E;rcases Io e m with⟨e,m⟩|⟨e,m⟩;rotate_left
 ·apply wg 999;rcases Io e m with⟨e,m⟩|⟨e,m⟩
  ·have⟨ab,ad,e,m⟩:=gr e m;simp[e];refine Cf (A7 e.2) ?_;cases m;simp[e]
  have⟨ae,e,m⟩:=ep e m;simp[e];refine Cf (kW e.2) ?_;rcases Io e m with⟨e,m⟩|⟨e,m⟩;rotate_left
  ·cases m;simp[e]
  rcases Io e m with⟨e,m⟩|⟨e,m⟩
  ·have⟨af,e,m⟩:=ep e m;simp[e];refine Cf (oq e.2) ?_;cases m;simp[e]
  have⟨ah,e,m⟩:=ep e m;simp[e];refine Cf (oq e.2) ?_;cases m;simp[e]
 apply wg 3;have⟨b,e,m⟩:=ep e m;simp[e];refine Cf (rL e.2) ?_;simp[e];refine wj 2 1 (λf h=>h=H/\f.1 2=AV.eD 2 (f.gen 2) 0/\f.1 3=AV.eD 3 (f.gen 3) 0/\f.1 4=AV.eD 4 (f.gen 4) 0/\f.1 9=AV.eD 9 (f.gen 9) 0/\f.1 10=sI (fW (eH a0.acM 9) 2 1)/\f.box 2=some (Tm.av a0).cells/\f.box 3=some [sI a1.1.dv.acM,sL Ty.av a1.1.dv.acN,sI a1.1.acO,sI a1.2.1.dv.acM,sL Ty.av a1.2.1.dv.acN,sI a1.2.1.acO,sI a1.2.2.dv.acM,sL Ty.av a1.2.2.dv.acN,sI a1.2.2.acO]/\f.box 4=some [sI 0,AV.slice .full [],sI 0]/\f.box 9=some [sI b.dv.acM,sL Ty.av b.dv.acN,sI b.acO]) (λai k=>?_) ?_
 ·simp[e];rcases Pb (eH a0.acM 9) e with e|e
  ·apply wg 999;simp[e];exact k _ _ (by simp[e])
  apply wg 999;simp[e];exact k _ _ (by simp[e])
 rintro K aj E;have e:=Aj e E;simp[e];refine Wj m 999 999 (λw f h=>∃(o:Bool),(h=H/\f.1 4=AV.eD 4 (f.gen 4) 0/\f.1 9=AV.eD 9 (f.gen 9) 0/\f.1 88=sB o/\f.box 4=some [sI 0,AV.slice .full [],sI 0]/\f.box 9=some [sI b.dv.acM,sL Ty.av b.dv.acN,sI b.acO])/\w o=some r) (λw ak d m=>?_) ?_;rotate_left
 ·rintro L al ⟨o,E,m⟩;have e:=Aj e E;rcases Io e m with⟨e,m⟩|⟨e,m⟩
  ·cases m;simp[e]
  cases m;simp[e]
 have⟨an,e,m⟩:=ep e m;simp[e];refine Cs (qX e.2) ?_;rcases Io e m with⟨e,m⟩|⟨e,m⟩;rotate_left
 ·simp[e];exact d _ _ ⟨true,by simp[e],m⟩
 have⟨ao,e,m⟩:=ep e m;simp[e];refine Cs (IW e.2) ?_;have⟨aq,e,m⟩:=ep e m;simp[e];refine Cs (py e.2) ?_;rcases Io e m with⟨e,m⟩|⟨e,m⟩;rotate_left
 ·simp[e];exact d _ _ ⟨true,by simp[e],m⟩
 have⟨C,e,m⟩:=ep e m;simp[e];refine Cs (kW e.2) ?_;simp[e];exact d _ _ ⟨(nB C),by simp[e],m⟩
def xh:∀(n:Nat),C2 prog 197 (eZ n) (t2 ed.av sI) (sL ed.av) Tm.av:=by
  intro n
  induction n with
  |zero=>
    skip
    all_goals(intro _ _;intros;rename_i hm;cases hm)
  |succ n N=>
 intro T H a0 a1 r hm;rw[eZ] at hm;have e:=trivial;refine wi acR func197 [] [] 999 ?_;rcases Io e hm with⟨e,m⟩|⟨e,m⟩
 ·rcases Io e m with⟨e,m⟩|⟨e,m⟩
  ·cases m;simp[e]
  have⟨Y,e,m⟩:=ep e m;cases m;simp[e]
 rcases Io e m with⟨e,m⟩|⟨e,m⟩
 ·have⟨P,e,m⟩:=ep e m;simp[e];refine Cf (rL e.2) ?_;have⟨e,m⟩:=Ck e m;simp[e];refine Ad (f:=ed.av) a0 [P] (js.full (D:=[])) Td e.2 ?_;have⟨Z,e,m⟩:=ep e m;have⟨x4,x5,e,m⟩:=gr e m;simp[e];refine Cs (N e.2) ?_;rcases Io e m with⟨e,m⟩|⟨e,m⟩
  ·cases m;simp[e]
  have⟨x6,x7,e,m⟩:=gr e m;simp[e];refine Cf (A7 e.2) ?_;cases m;simp[e]
 simp[e];refine Wr e m 0 (λF o f h=>∃(a:Tag) (b:Tag) (c:Tag),h=H/\f.1 0=sL ed.av a0/\f.1 3=AV.eD 3 (f.gen 3) 0/\f.1 4=AV.eD 4 (f.gen 4) 0/\f.1 9=AV.eD 9 (f.gen 9) 0/\f.1 65=sL Tm.av a1.acN/\f.1 66=sI (eN a1.acN)/\f.1 67=sI F/\f.box 3=some (Tm.av a1).cells/\f.box 4=some [sI 0,AV.slice .full [],sI 0]/\f.box 9=some [sI o.1,sT a Ty.av o.2.1,sI o.2.2.1,sI o.2.2.2.1,sT b Ty.av o.2.2.2.2.1,sI o.2.2.2.2.2.1,sI o.2.2.2.2.2.2.1,sT c Ty.av o.2.2.2.2.2.2.2.1,sI o.2.2.2.2.2.2.2.2]) ⟨.full,.full,.full,by simp[e]⟩ (λo d K L E m=>?_) (λF Q o d K L R M E e m G I=>?_)
 ·have⟨q,s,t,v20,v21,u,v,v24,w⟩:=o;have⟨a,b,c,E⟩:=E;have e:=Aj e E;apply wg 999;dsimp only[en,TD]at m;have⟨S,U,e,m⟩:=gr e m;simp[e];refine Cf (I4 e.2) ?_;cases m;simp[e]
 have⟨q,s,t,v20,v21,u,v,v24,w⟩:=o;have⟨a,b,c,E⟩:=E;have e:=Aj e E;dsimp only[TD]at m;apply wg 5;simp[e];refine Wj m 999 999 (λJ f h=>∃(x:Int) (v30:List Ty) (v31:Int) (y:Int) (z:List Ty) (A:Int) (B:Int) (C:List Ty) (v37:Int) (g:Tag) (i:Tag) (k:Tag),(h=H/\f.1 0=sL ed.av a0/\f.1 3=AV.eD 3 (f.gen 3) 0/\f.1 4=AV.eD 4 (f.gen 4) 0/\f.1 9=AV.eD 9 (f.gen 9) 0/\f.1 65=sL Tm.av a1.acN/\f.1 66=sI (eN a1.acN)/\f.1 67=sI F/\f.box 3=some (Tm.av a1).cells/\f.box 4=some [sI 0,AV.slice .full [],sI 0]/\f.box 9=some [sI x,sT g Ty.av v30,sI v31,sI y,sT i Ty.av z,sI A,sI B,sT k Ty.av C,sI v37])/\J x v30 v31 y z A B C v37=some M) (λJ V p m=>?_) ?_;rotate_left
 ·rintro O W ⟨x,v30,v31,y,z,A,B,C,v37,g,i,k,E,m⟩;have e:=Aj e E;simp[e];cases m;exact I _ _ _ ⟨g,i,k,by simp[e]⟩ G
 have⟨l,X,e,m⟩:=gr e m;simp[e];refine Cf (N e.2) ?_;rcases Io e m with⟨e,m⟩|⟨e,m⟩
 ·cases m;cases G;simp[e]
 rcases Io e m with⟨e,m⟩|⟨e,m⟩
 ·have e:=Aj e (Ee (j:=0) DY zh (by simp[e]) (by decide):gQ prog 244 (AV.eD 9 (d.gen 9) 0) (sI F)=some (AV.eD 9 (d.gen 9) 0));simp[e];exact p _ _ ⟨l.dv.acM,l.dv.acN,l.acO,v20,v21,u,v,v24,w,.iR,b,c,by simp[e],m⟩
 rcases Io e m with⟨e,m⟩|⟨e,m⟩
 ·have e:=Aj e (Ee (j:=1) DY zh (by simp[e]) (by decide):gQ prog 244 (AV.eD 9 (d.gen 9) 0) (sI F)=some (AV.eD 9 (d.gen 9) 3));simp[e];exact p _ _ ⟨q,s,t,l.dv.acM,l.dv.acN,l.acO,v,v24,w,a,.iR,c,by simp[e],m⟩
 have⟨e,m⟩:=Ck e m;have e:=Aj e (Ee (j:=2) DY zh (by simp[e]) (by decide):gQ prog 244 (AV.eD 9 (d.gen 9) 0) (sI F)=some (AV.eD 9 (d.gen 9) 6));simp[e];exact p _ _ ⟨q,s,t,v20,v21,u,l.dv.acM,l.dv.acN,l.acO,a,b,.iR,by simp[e],m⟩
def l_{n:Nat}:C2 prog 197 (eZ n) (t2 ed.av sI) (sL ed.av) Tm.av:=(xh n)
def ud:C3 prog 205 iU sI (sL ed.av) Tm.av sI:=by
 intro T H a0 a1 a2 r hm;rw[iU] at hm;have e:=trivial;refine wi acR func205 [] [] 5 ?_;have⟨i,c,e,m⟩:=gr e hm;simp[e];refine Cf (l_ e.2) ?_;simp[e];refine Wj m 999 999 (λb f h=>∃(v4:Bool),(h=H/\f.1 8=sI c/\f.1 22=sB v4)/\b v4=some r) (λb j a m=>?_) ?_;rotate_left
 ·rintro d k ⟨v4,E,m⟩;have e:=Aj e E;rcases Io e m with⟨e,m⟩|⟨e,m⟩
  ·cases m;simp[e]
  cases m;simp[e]
 rcases Io e m with⟨e,m⟩|⟨e,m⟩;rotate_left
 ·simp[e];exact a _ _ ⟨false,by simp[e],m⟩
 have⟨g,e,m⟩:=ep e m;simp[e];refine Cf (kW e.2) ?_;simp[e];exact a _ _ ⟨(nB g),by simp[e],m⟩
def rO:C2 prog 185 iM sI (sL ed.av) Tm.av:=by
 intro T H a0 a1 r hm;rw[iM] at hm;have e:=trivial;refine wi acR func185 [] [] 999 ?_;have⟨a,e,m⟩:=ep e hm;simp[e];refine Cf (ud e.2) ?_;cases m;simp[e]
def wo:∀(n:Nat),C2 prog 135 (eX n) sI (sL ed.av) Fm.av:=by
  intro n
  induction n with
  |zero=>
    skip
    all_goals(intro _ _;intros;rename_i hm;cases hm)
  |succ n D=>
 intro T H a0 a1 r hm;rw[eX] at hm;have e:=trivial;refine wi acR func135 [] [] 6 ?_;simp[e];refine Wj hm 1 999 (λw f h=>∃(v2:List ed),(h=H/\f.1 0=sL ed.av v2/\f.1 3=AV.eD 3 (f.gen 3) 0/\f.box 3=some (Fm.av a1).cells)/\w v2=some r) (λw K3 g m=>?_) ?_;rotate_left
 ·rintro F h5 ⟨v2,E,m⟩;have e:=Aj e E;simp[e];refine Wr e m 999 (λx y f h=>h=H/\f.1 0=sL ed.av v2/\f.1 28=sL Fm.av a1.acN/\f.1 29=sI (eN a1.acN)/\f.1 30=sI x) (by simp[e]) (λy s G I E m=>?_) (λx J y s G I K L E e m i j=>?_)
  ·have e:=Aj e E;dsimp only[en]at m;cases m;simp[e]
  have e:=Aj e E;have⟨M,e,m⟩:=ep e m;simp[e];refine Cf (D e.2) ?_;rcases Io e m with⟨e,m⟩|⟨e,m⟩
  ·cases m;cases i;simp[e]
  simp[e];cases m;exact j _ _ _ (by simp[e]) i
 simp[e];refine Wj m 4 999 (λk f h=>(h=H/\f.1 0=sL ed.av a0/\f.1 3=AV.eD 3 (f.gen 3) 0/\f.box 3=some (Fm.av a1).cells)/\k=some r) (λk N a m=>?_) ?_;rotate_left
 ·rintro z O ⟨E,m⟩;have e:=Aj e E;have⟨t,e,m⟩:=ep e m;simp[e];refine Cf (nq e.2) ?_;simp[e];exact g _ _ ⟨t,by simp[e],m⟩
 simp[e];refine wj 999 0 (λf h=>h=H/\f.1 0=sL ed.av a0/\f.1 3=AV.eD 3 (f.gen 3) 0/\f.1 12=sI a1.acM/\f.1 13=sB (fW (eH a1.acM 4) true (eH a1.acM 5))/\f.box 3=some (Fm.av a1).cells) (λP b=>?_) ?_
 ·rcases Pb (eH a1.acM 4) e with e|e
  ·simp[e];exact b _ _ (by simp[e])
  simp[e];exact b _ _ (by simp[e])
 rintro A Q E;have e:=Aj e E;rcases Io e m with⟨e,m⟩|⟨e,m⟩
 ·apply wg 999;simp[e];exact a _ _ ⟨by simp[e],m⟩
 apply wg 3;simp[e];refine wj 999 0 (λf h=>h=H/\f.1 0=sL ed.av a0/\f.1 3=AV.eD 3 (f.gen 3) 0/\f.1 12=sI a1.acM/\f.1 16=sB (fW (eH a1.acM 6) true (eH a1.acM 7))/\f.box 3=some (Fm.av a1).cells) (λR c=>?_) ?_
 ·rcases Pb (eH a1.acM 6) e with e|e
  ·simp[e];exact c _ _ (by simp[e])
  simp[e];exact c _ _ (by simp[e])
 rintro B S E;have e:=Aj e E;rcases Io e m with⟨e,m⟩|⟨e,m⟩
 ·apply wg 999;simp[e];exact a _ _ ⟨by simp[e],m⟩
 apply wg 2;simp[e];refine wj 999 999 (λf h=>h=H/\f.1 0=sL ed.av a0/\f.1 3=AV.eD 3 (f.gen 3) 0/\f.1 19=sB (fW (eH a1.acM 2) true (eH a1.acM 3))/\f.box 3=some (Fm.av a1).cells) (λU d=>?_) ?_
 ·rcases Pb (eH a1.acM 2) e with e|e
  ·simp[e];exact d _ _ (by simp[e])
  simp[e];exact d _ _ (by simp[e])
 rintro C V E;have e:=Aj e E;rcases Io e m with⟨e,m⟩|⟨e,m⟩
 ·simp[e];exact g _ _ ⟨a0,by simp[e],m⟩
 simp[e];refine Wr e m 999 (λl o f h=>h=H/\f.1 0=sL ed.av a0/\f.1 42=sL Tm.av a1.ek/\f.1 43=sI (eN a1.ek)/\f.1 44=sI l) (by simp[e]) (λo p u v E m=>?_) (λl W o p u v X Y E e m z37 q=>?_)
 ·have e:=Aj e E;dsimp only[en]at m;cases m;simp[e]
 have e:=Aj e E;have⟨Z,e,m⟩:=ep e m;simp[e];refine Cf (rO e.2) ?_;rcases Io e m with⟨e,m⟩|⟨e,m⟩
 ·cases m;cases z37;simp[e]
 simp[e];cases m;exact q _ _ _ (by simp[e]) z37
def jc{n:Nat}:C2 prog 135 (eX n) sI (sL ed.av) Fm.av:=(wo n)
def uu(T:fh)(a:qv T){H:eB}{a0:List Ty}{a1:Fm}{b:Int}(hm:mM a0 a1=some b):e_ prog T 76 [sL Ty.av a0,Fm.av a1] H (sI b) H:=by
 rw[mM] at hm;have e:=a;refine wi acR func76 [] [] 999 ?_;have⟨c,e,m⟩:=ep e hm;simp[e];refine Cf (yG e.2) ?_;rcases Io e m with⟨e,m⟩|⟨e,m⟩
 ·cases m;simp[e]
 have⟨d,e,m⟩:=ep e m;simp[e];refine Cf (px T a e.2) ?_;rcases Io e m with⟨e,m⟩|⟨e,m⟩
 ·cases m;simp[e]
 have⟨f,e,m⟩:=ep e m;simp[e];refine Cs (xc e.2) ?_;have⟨g,e,m⟩:=ep e m;simp[e];refine Cs (jc e.2) ?_;cases m;simp[e]
def Es(T:fh)(i:qv T){H:eB}{a0:List Fm}{a1:Sq}{o:Int}(hm:sq a0 a1=some o):e_ prog T 21 [sL Fm.av a0,Sq.av a1] H (sI o) H:=by
 rw[sq] at hm;have e:=i;refine wi acR func21 [] [] 999 ?_;rcases Io e hm with⟨e,m⟩|⟨e,m⟩
 ·cases m;simp[e]
 simp[e];refine Wr e m 999 (λp s2 f h=>h=H/\f.1 3=AV.eD 3 (f.gen 3) 0/\f.1 15=sL Fm.av a0/\f.1 16=sI (eN a0)/\f.1 17=sI p/\f.box 3=some (Sq.av a1).cells) (by simp[e]) (λs2 j r s E m=>?_) (λp z s2 j r s n6 A E e m q k=>?_);rotate_left
 ·have e:=Aj e E;have⟨t,e,m⟩:=ep e m;simp[e];refine Cf (uu T i e.2) ?_;rcases Io e m with⟨e,m⟩|⟨e,m⟩
  ·cases m;cases q;simp[e]
  simp[e];cases m;exact k _ _ _ (by simp[e]) q
 have e:=Aj e E;dsimp only[en]at m;have⟨u,e,m⟩:=ep e m;simp[e];refine Cf (yG e.2) ?_;rcases Io e m with⟨e,m⟩|⟨e,m⟩
 ·cases m;simp[e]
 rcases Io e m with⟨e,m⟩|⟨e,m⟩
 ·cases m;simp[e]
 simp[e];refine Wr e m 999 (λa b f h=>h=H/\f.1 3=AV.eD 3 (f.gen 3) 0/\f.1 38=sL Fm.av a1.acT/\f.1 39=sI (eN a1.acT)/\f.1 40=sI a/\f.box 3=some (Sq.av a1).cells) (by simp[e]) (λb c l n E m=>?_) (λa v b c l n w x E e m d g=>?_)
 ·have e:=Aj e E;dsimp only[en]at m;cases m;simp[e]
 have e:=Aj e E;have⟨y,e,m⟩:=ep e m;simp[e];refine Cf (uu T i e.2) ?_;rcases Io e m with⟨e,m⟩|⟨e,m⟩
 ·cases m;cases d;simp[e]
 simp[e];cases m;exact g _ _ _ (by simp[e]) d
def Je(T:fh)(d:qv T){H:eB}{a0:Int}{b:fN}{c:Bool}(hm:qe a0=some (b,c)):e_ prog T 237 [sI a0] H (AV.tuple [fN.av b,sB c]) H:=by
 rw[qe] at hm;have e:=d;refine wi acR func237 [] [] 3 ?_;simp[e];refine wj 999 999 (λf h=>h=H/\f.1 0=sI a0/\f.1 2=AV.eD 2 (f.gen 2) 0/\f.1 9=sB (fW (uX a0 1) true (ue a0 21))/\f.box 2=some [sB false,sB false,sI 0,sI 0,sI 0,sI 0,sI 0,sI 0]) (λi a=>?_) ?_
 ·rcases Pb (uX a0 1) e with e|e
  ·simp[e];exact a _ _ (by simp[e])
  simp[e];exact a _ _ (by simp[e])
 rintro g j E;have e:=Aj e E;rcases Io e hm with⟨e,m⟩|⟨e,m⟩
 ·cases m;simp[e]
 have⟨k,e,m⟩:=ep e m;cases m;simp[e]
def tn(T:fh)(a:qv T){H:eB}{a0:Tm}{b c:Int}(hm:k6 a0=some (b,c)):e_ prog T 240 [Tm.av a0] H (AV.tuple [sI b,sI c]) H:=by
 rw[k6] at hm;have e:=a;refine wi acR func240 [] [] 999 ?_;have⟨d,f,e,m⟩:=gr e hm;simp[e];refine Cf (xA T a e.2) ?_;rcases Io e m with⟨e,m⟩|⟨e,m⟩;rotate_left
 ·cases m;simp[e]
 rcases Io e m with⟨e,m⟩|⟨e,m⟩
 ·cases m;simp[e]
 cases m;simp[e]
def vi(T:fh){H:eB}{a0:et}{a1 a2:Int}{i:Bool}{a:et}{d:Nat}(b:H[d]?=some [sI a0.acO,sB a0.iE])(hm:iv a0 a1 a2=some (i,a)):e_ prog T 239 [AV.fT d 0,sI a1,sI a2] H (sB i) (gC H d [sI a.acO,sB a.iE]):=by
 rw[iv] at hm;have g:=gn b;refine fQ.Nq b ?_;have e:=g;refine wi acR func239 [] [] 4 ?_;simp[e];refine wj 999 999 (λf h=>h=gC H d [sI (fW a0.iE (et.mk (fk .i64 a0.acO a1) true) (et.mk (fk .i64 a0.acO a1) (eH a2 4))).acO,sB (fW a0.iE (et.mk (fk .i64 a0.acO a1) true) (et.mk (fk .i64 a0.acO a1) (eH a2 4))).iE]/\f.1 2=sI a2) (λk c=>?_) ?_;rotate_left
 ·rintro j l E;have e:=Aj e E;cases hm;simp[e]
 rcases Pb a0.iE e with e|e
 ·simp[e];exact c _ _ (by simp[e])
 simp[e];exact c _ _ (by simp[e])
def A0(T:fh)(z:qv T):∀(n:Nat),(∀{H:eB} {a0:et} {a1:Pf} {A:Bool} {d:et} {b:Nat} (k:H[b]?=some [sI a0.acO,sB a0.iE]) (hm:iZ n a0 a1=some (A,d)),e_ prog T 189 [AV.fT b 0,Pf.av a1] H (sB A) (gC H b [sI d.acO,sB d.iE])):=by
  intro n
  induction n with
  |zero=>
    skip
    all_goals(intro _ _;intros;rename_i hm;cases hm)
  |succ n O=>
 intro H a0 a1 A d b k hm;rw[iZ] at hm;have C:=gn k;refine fQ.Nq k ?_;have e:=Aj z C;refine wi acR func189 [] [] 5 ?_;have⟨c,L,e,m⟩:=gr e hm;simp[e];refine Cf (Je T z e.2) ?_;simp[e];refine wj 999 0 (λf h=>h=gC H b [sI a0.acO,sB a0.iE]/\f.1 0=AV.fT b 0/\f.1 3=AV.eD 3 (f.gen 3) 0/\f.1 5=AV.eD 5 (f.gen 5) 0/\f.1 61=sB (fW L (fW (uX a1.acP 0) true (fW (eW a1.acP 0) (fW c.acP (fW (eW (eN a1.ek) c.ek) true (fW (eW (eN a1.fj) c.fj) true (eW (eN a1.acN) c.acN))) true) (fW (eW (eN a1.ek) c.ek) true (fW (eW (eN a1.fj) c.fj) true (eW (eN a1.acN) c.acN))))) true)/\f.box 3=some (Pf.av a1).cells/\f.box 5=some (fN.av c).cells) (λK3 a=>?_) ?_
 ·rcases Pb L e with e|e;rotate_left
  ·simp[e];exact a _ _ (by simp[e])
  rcases Pb (uX a1.acP 0) e with e|e
  ·simp[e];exact a _ _ (by simp[e])
  rcases Pb (eW a1.acP 0) e with e|e;rotate_left
  ·rcases Pb (eW (eN a1.ek) c.ek) e with e|e
   ·simp[e];exact a _ _ (by simp[e])
   rcases Pb (eW (eN a1.fj) c.fj) e with e|e
   ·simp[e];exact a _ _ (by simp[e])
   simp[e];exact a _ _ (by simp[e])
  rcases Pb c.acP e with e|e;rotate_left
  ·simp[e];exact a _ _ (by simp[e])
  rcases Pb (eW (eN a1.ek) c.ek) e with e|e
  ·simp[e];exact a _ _ (by simp[e])
  rcases Pb (eW (eN a1.fj) c.fj) e with e|e
  ·simp[e];exact a _ _ (by simp[e])
  simp[e];exact a _ _ (by simp[e])
 rintro P h5 E;have e:=Aj e E;rcases Io e m with⟨e,m⟩|⟨e,m⟩
 ·apply wg 999;cases m;simp[e]
 apply wg 4;simp[e];refine Wj m 999 999 (λM f h=>∃(B:et),(h=gC H b [sI B.acO,sB B.iE]/\f.1 0=AV.fT b 0/\f.1 3=AV.eD 3 (f.gen 3) 0/\f.box 3=some (Pf.av a1).cells)/\M B=some (A,d)) (λM K8 l m=>?_) ?_
 ·rcases Io e m with⟨e,m⟩|⟨e,m⟩
  ·have⟨Q,R,e,m⟩:=gr e m;simp[e];refine Cf (oE e.2) ?_;rcases Io e m with⟨e,m⟩|⟨e,m⟩
   ·cases m;simp[e]
   simp[e];exact l _ _ ⟨(et.mk (fk .i64 a0.acO 1) a0.iE),by simp[e],m⟩
  have⟨S,e,m⟩:=ep e m;simp[e];refine Cf (w9 e.2) ?_;rcases Io e m with⟨e,m⟩|⟨e,m⟩;rotate_left
  ·cases m;simp[e]
  simp[e];exact l _ _ ⟨(et.mk (fk .i64 a0.acO 1) a0.iE),by simp[e],m⟩
 rintro N U ⟨B,E,m⟩;have e:=Aj e E;simp[e];refine Wr e m 999 (λo g f h=>h=gC H b [sI g.acO,sB g.iE]/\f.1 0=AV.fT b 0/\f.1 3=AV.eD 3 (f.gen 3) 0/\f.1 84=sL Tm.av a1.ek/\f.1 85=sI (eN a1.ek)/\f.1 86=sI o/\f.box 3=some (Pf.av a1).cells) (by simp[e]) (λg p D F E m=>?_) (λo V g p D F W X E e m z21 q=>?_);rotate_left
 ·have e:=Aj e E;have⟨Y,Z,e,m⟩:=gr e m;simp[e];refine Cf (tn T z e.2) ?_;have⟨aa,d26,e,m⟩:=gr e m;simp[e];refine Cf (vi T (by simp[e]) e.2) ?_;rcases Io e m with⟨e,m⟩|⟨e,m⟩;rotate_left
  ·cases m;cases z21;simp[e]
  simp[e];cases m;exact q _ _ _ (by simp[e]) z21
 have e:=Aj e E;dsimp only[en]at m;simp[e];refine Wr e m 999 (λr i f h=>h=gC H b [sI i.acO,sB i.iE]/\f.1 0=AV.fT b 0/\f.1 3=AV.eD 3 (f.gen 3) 0/\f.1 99=sL Fm.av a1.fj/\f.1 100=sI (eN a1.fj)/\f.1 101=sI r/\f.box 3=some (Pf.av a1).cells) (by simp[e]) (λi s G I E m=>?_) (λr ab i s G I ad ae E e m t u=>?_);rotate_left
 ·have e:=Aj e E;have⟨af,ah,e,m⟩:=gr e m;simp[e];refine Cf (qV T z e.2) ?_;have⟨ai,d39,e,m⟩:=gr e m;simp[e];refine Cf (vi T (by simp[e]) e.2) ?_;rcases Io e m with⟨e,m⟩|⟨e,m⟩;rotate_left
  ·cases m;cases t;simp[e]
  simp[e];cases m;exact u _ _ _ (by simp[e]) t
 have e:=Aj e E;dsimp only[en]at m;simp[e];refine Wr e m 999 (λv j f h=>h=gC H b [sI j.acO,sB j.iE]/\f.1 0=AV.fT b 0/\f.1 114=sL Pf.av a1.acN/\f.1 115=sI (eN a1.acN)/\f.1 116=sI v) (by simp[e]) (λj w J K E m=>?_) (λv aj j w J K ak al E e m x y=>?_)
 ·have e:=Aj e E;dsimp only[en]at m;cases m;simp[e]
 have e:=Aj e E;have⟨an,d50,e,m⟩:=gr e m;simp[e];refine Cf (O (by simp[e]) e.2) ?_;rcases Io e m with⟨e,m⟩|⟨e,m⟩;rotate_left
 ·cases m;cases x;simp[e]
 simp[e];cases m;exact y _ _ _ (by simp[e]) x
def BL(T:fh)(e:qv T){H:eB}{a0:et}{a1:Pf}{d:Bool}{a:et}{b:Nat}(c:H[b]?=some [sI a0.acO,sB a0.iE]){n:Nat}(hm:iZ n a0 a1=some (d,a)):e_ prog T 189 [AV.fT b 0,Pf.av a1] H (sB d) (gC H b [sI a.acO,sB a.iE]):=(A0 T e n) c hm
def B_(T:fh)(d:qv T){H:eB}{a0:Pf}{b c:Int}(hm:rn a0=some (b,c)):e_ prog T 138 [Pf.av a0] H (AV.tuple [sI b,sI c]) H:=by
 rw[rn] at hm;refine fQ.uC (Post:=λx K=>x=AV.tuple [sI b,sI c]/\∃X,K=H++X) ?_ (λ_ _ h=>⟨_,h.2.choose_spec,by rw[h.1];simp[AV.low,AV.jj],h.1,rfl⟩);have e:=d;refine wi acR func138 [6] [] 8 ?_;have⟨i,d2,e,m⟩:=gr e hm;simp[e];refine Cf (BL T d (by simp[e]) e.2) ?_;simp[e];rcases Io e m with⟨e,m⟩|⟨e,m⟩;rotate_left
 ·apply wg 999;cases m;simp[e]
 apply wg 1;simp[e];refine wj 999 999 (λf h=>h=H++[[sI d2.acO,sB d2.iE]]/\f.1 4=AV.fT (List.length H) 0/\f.1 12=sB (fW d2.iE true (pc d2.acO 16384))) (λj a=>?_) ?_;rotate_left
 ·rintro g k E;have e:=Aj e E;rcases Io e m with⟨e,m⟩|⟨e,m⟩
  ·cases m;simp[e]
  cases m;simp[e]
 rcases Pb d2.iE e with e|e
 ·simp[e];exact a _ _ (by simp[e])
 simp[e];exact a _ _ (by simp[e])
def ID(T:fh)(a:qv T){H:eB}{a0:Pf}{b:Int}(hm:ug a0=some b):e_ prog T 79 [Pf.av a0] H (sI b) H:=by
 rw[ug] at hm;have e:=a;refine wi acR func79 [] [] 999 ?_;have⟨c,d,e,m⟩:=gr e hm;simp[e];refine Cf (B_ T a e.2) ?_;cases m;simp[e]
def Gu(T:fh){H:eB}{u:Unit}(hm:yp=some u):e_ prog T 80 [] H (AV.om (List.length H)) (H++[[KX]]):=by
 refine wi acR func80 [] [] 999 ?_;simp;refine uk.xY lL uI (by decide+kernel) (by decide+kernel) ?_;simp;refine uk.xY lL uI (by decide+kernel) (by decide+kernel) ?_;simp;refine uk.xY lL uI (by decide+kernel) (by decide+kernel) ?_;simp;refine uk.xY lL uI (by decide+kernel) (by decide+kernel) ?_;simp;refine uk.xY lL uI (by decide+kernel) (by decide+kernel) ?_;simp;refine uk.xY lL uI (by decide+kernel) (by decide+kernel) ?_;simp;refine uk.xY lL uI (by decide+kernel) (by decide+kernel) ?_;simp;refine uk.xY lL uI (by decide+kernel) (by decide+kernel) ?_;simp;refine uk.xY lL uI (by decide+kernel) (by decide+kernel) ?_;simp;refine uk.xY lL uI (by decide+kernel) (by decide+kernel) ?_;simp;refine uk.xY lL uI (by decide+kernel) (by decide+kernel) ?_;simp;refine uk.xY lL uI (by decide+kernel) (by decide+kernel) ?_;simp;refine uk.xY lL uI (by decide+kernel) (by decide+kernel) ?_;simp;refine uk.xY lL uI (by decide+kernel) (by decide+kernel) ?_;simp;refine uk.xY lL uI (by decide+kernel) (by decide+kernel) ?_;simp;refine uk.xY lL uI (by decide+kernel) (by decide+kernel) ?_;simp;refine uk.xY lL uI (by decide+kernel) (by decide+kernel) ?_;simp;refine uk.xY lL uI (by decide+kernel) (by decide+kernel) ?_;simp;refine uk.xY lL uI (by decide+kernel) (by decide+kernel) ?_;simp;refine uk.xY lL uI (by decide+kernel) (by decide+kernel) ?_;simp;simp[KX,Nw,Ov]
def oo:C2 prog 154 gi eg.av eg.av Fm.av:=by
 intro T H a0 a1 r hm;rw[gi] at hm;have e:=trivial;refine wi acR func154 [] [] 999 ?_;have⟨e,m⟩:=Ck e hm;simp[e];refine Ad (f:=eu.av) a0.known [(eu.mk a1 a0.gj.vars)] (js.full (D:=[])) Zy e.2 ?_;cases m;simp[e]
def GS:C1 prog 82 sb eg.av Sq.av:=by
 intro T H a0 r hm;rw[sb] at hm;have e:=trivial;refine wi acR func82 [] [] 999 ?_;have⟨o,e,m⟩:=ep e hm;simp[e];refine Cf (xc e.2) ?_;simp[e];refine Wr e m 999 (λj b f h=>∃(a:Tag),h=H/\f.1 2=AV.eD 2 (f.gen 2) 0/\f.1 3=AV.eD 3 (f.gen 3) 0/\f.1 16=sL Fm.av a0.acT/\f.1 17=sI (eN a0.acT)/\f.1 18=sI j/\f.box 2=some [sI 0,sI 0,AV.slice .full [],AV.slice .full []]/\f.box 3=some [sI b.1,sI b.2.1,sL ed.av b.2.2.1,sT a eu.av b.2.2.2]) ⟨.full,by simp[e]⟩ (λb d k l E m=>?_) (λj p b d k l q s E e m z9 c=>?_)
 ·have⟨v11,v12,g,i⟩:=b;have⟨a,E⟩:=E;have e:=Aj e E;dsimp only[en,RM]at m;cases m;simp[e]
 have⟨v11,v12,g,i⟩:=b;have⟨a,E⟩:=E;have e:=Aj e E;dsimp only[RM]at m;have⟨n,e,m⟩:=ep e m;simp[e];refine Cf (oo e.2) ?_;simp[e];cases m;exact c _ _ _ ⟨.iR,by simp[e]⟩ z9
def kX:C1 prog 211 iP Tm.av sI:=by
 intro T H a0 r hm;rw[iP] at hm;have e:=trivial;refine wi acR func211 [] [] 999 ?_;cases hm;simp[e]
def Ip(T:fh){H:eB}{a0 a1 a b:Int}{k:Tm}{q0 q1:Nat}(c:H[q0]?=some [sI a])(d:H[q1]?=some [sI b])(hm:uf a0 a1 a b=some k):e_ prog T 286 [sI a0,sI a1,AV.fT q0 0,AV.fT q1 0] H (Tm.av k) H:=by
 rw[uf] at hm;have i:=gn c;have j:=gn d;have e:=Aj (Aj (Aj i c) j) d;refine wi acR func286 [] [] 2 ?_;simp[e];refine wj 999 999 (λf h=>h=H/\f.1 0=sI (fW (ue (fG .i64 a0 a1) a) (fk .i64 a0 b) a0)/\f.1 6=AV.eD 6 (f.gen 6) 0/\f.box 6=some [sI 0,sI 0,sI 0,AV.slice .full [],AV.slice .full []]) (λn g=>?_) ?_;rotate_left
 ·rintro l o E;have e:=Aj e E;have⟨p,e,m⟩:=ep e hm;simp[e];refine Cf (kX e.2) ?_;cases m;simp[e]
 rcases Pb (ue (fG .i64 a0 a1) a) e with e|e
 ·simp[e];exact g _ _ (by simp[e])
 simp[e];exact g _ _ (by simp[e])
def Fb:∀(n:Nat),C1 prog 213 (kR n) Ty.av Ty.av:=by
  intro n
  induction n with
  |zero=>
   skip
   all_goals(intro _ _;intros;rename_i hm;cases hm)
  |succ n j=>
 intro T H a0 r hm;rw[kR] at hm;have e:=trivial;refine wi acR func213 [] [] 999 ?_;simp[e];refine Wr e hm 999 (λi s2 f h=>∃(a:Tag),(h=H/\f.1 2=AV.eD 2 (f.gen 2) 0/\f.1 3=AV.eD 3 (f.gen 3) 0/\f.1 10=sL Ty.av a0.acN/\f.1 11=sI (eN a0.acN)/\f.1 12=sI i/\f.box 2=some [sI 0,AV.slice .full []]/\f.box 3=some [sI a0.acM,sT a Ty.av s2])/\Ow f [21] a s2) (by exact⟨.full,by simp[e],js.full⟩) (λs2 c k l E m=>?_) (λi p s2 c k l n6 q E e m o d=>?_)
 ·have⟨a,E,b⟩:=E;have e:=Aj e E;dsimp only[en]at m;cases m;simp[e]
 have⟨a,E,b⟩:=E;have e:=Aj e E;have⟨g,e,m⟩:=ep e m;simp[e];refine Cs (j e.2) ?_;have⟨e,m⟩:=Ck e m;simp[e];refine Ad (f:=Ty.av) s2 [g] b GM e.2 ?_;simp[e];cases m;exact d _ _ _ ⟨(.loc 21 (c.fP 21+1)),by simp[e],(On 21)⟩ o
def sM{n:Nat}:C1 prog 213 (kR n) Ty.av Ty.av:=(Fb n)
def B9(T:fh):∀(n:Nat),(∀{S:Type} {st:S->eB} {k:Nat} {a0:Tm} {a1:Int} {j:(S->Int->Int->Option (Tm×S))} {c:S} {x:Tm} {l:S} {q0:Nat} {q1:Nat} {o:Nat} {p:List AV} (hF:B2 st k) (d:∀s,(st s)[q0]?=some [AV.func (.func o) [] p]) (b:tF T o p st j) (g:∀s,(st s)[q1]?=some [AV.func (.func 303) [] [AV.fT q0 0,AV.fT q1 0]]) (hm:ib n a0 a1 j c=some (x,l)),e_ prog T 303 [Tm.av a0,sI a1,AV.fT q0 0,AV.fT q1 0] (st c) (Tm.av x) (st l)):=by
  intro n
  induction n with
  |zero=>
    skip
    all_goals(intro _ _;intros;rename_i hm;cases hm)
  |succ n G=>
 intro S st k a0 a1 j c x l q0 q1 o p hF d b g hm;rw[ib] at hm;have y:=λs=>gn (d s);have z:=λs=>gn (g s);have e:=Aj (Aj (Aj (Aj hF.len y) d) z) g;refine wi acR func303 [] [(9,false,[true,true,false,true,true,true,true,true,true,true])] 5 ?_;simp[e];rcases Io e hm with⟨e,m⟩|⟨e,m⟩
 ·apply wg 999;have⟨N,O,e,m⟩:=gr e m;simp[e];refine m0.UG (by rfl) (tF.Xm b e.2) ?_;cases m;simp[e]
 apply wg 4;have⟨w,e,m⟩:=ep e m;simp[e];refine Cs (sM e.2) ?_;simp[e];refine wj 999 999 (λf h=>h=st c/\f.1 1=sI (fW (eH a0.acM 2) (fk .i64 a1 1) a1)/\f.1 3=AV.fT q1 0/\f.1 4=AV.eD 4 (f.gen 4) 0/\f.1 6=AV.eD 6 (f.gen 6) 0/\f.1 7=AV.eD 7 (f.gen 7) 0/\f.box 4=some (Tm.av a0).cells/\f.box 6=some [sI 0,sI 0,sI 0,AV.slice .full [],AV.slice .full []]/\f.box 7=some [sI a0.acM,sI a0.acP,sI w.acM,sL Ty.av w.acN,AV.slice .full []]) (λP r=>?_) ?_
 ·rcases Pb (eH a0.acM 2) e with e|e
  ·simp[e];exact r _ _ (by simp[e])
  simp[e];exact r _ _ (by simp[e])
 rintro H Q E;have e:=Aj e E;simp[e];refine Wr e m 999 (λF q f h=>∃(a:Tag),(h=st q.2/\f.1 1=sI (fW (eH a0.acM 2) (fk .i64 a1 1) a1)/\f.1 3=AV.fT q1 0/\f.1 6=AV.eD 6 (f.gen 6) 0/\f.1 7=AV.eD 7 (f.gen 7) 0/\f.1 32=sL Tm.av a0.acN/\f.1 33=sI (eN a0.acN)/\f.1 34=sI F/\f.box 6=some [sI 0,sI 0,sI 0,AV.slice .full [],AV.slice .full []]/\f.box 7=some [sI a0.acM,sI a0.acP,sI w.acM,sL Ty.av w.acN,sT a Tm.av q.1])/\Ow f [45] a q.1) (by exact⟨.full,by simp[e],js.full⟩) (λq t I A E m=>?_) (λF J q t I A K L E e m B u=>?_)
 ·have⟨v,C⟩:=q;have⟨a,E,i⟩:=E;have e:=Aj e E;dsimp only[en,mY]at m;cases m;simp[e]
 have⟨v,C⟩:=q;have⟨a,E,i⟩:=E;have e:=Aj e E;dsimp only[mY]at m;have⟨D,M,e,m⟩:=gr e m;simp[e];refine qK.UG (by rfl) (G hF d b g e.2) (by simp) ?_;have⟨e,m⟩:=Ck e m;simp[e];refine Ad (f:=Tm.av) v [D] i CX e.2 ?_;simp[e];cases m;exact u _ _ _ ⟨(.loc 45 (t.fP 45+1)),by simp[e],(On 45)⟩ B
def Ep(T:fh){S:Type}{st:S->eB}{k:Nat}{a0:Tm}{a1:Int}{a:(S->Int->Int->Option (Tm×S))}{b:S}{i:Tm}{c:S}{q0 q1 d:Nat}{e:List AV}(hF:B2 st k)(g:∀s,(st s)[q0]?=some [AV.func (.func d) [] e])(f:tF T d e st a)(h:∀s,(st s)[q1]?=some [AV.func (.func 303) [] [AV.fT q0 0,AV.fT q1 0]]){n:Nat}(hm:ib n a0 a1 a b=some (i,c)):e_ prog T 303 [Tm.av a0,sI a1,AV.fT q0 0,AV.fT q1 0] (st b) (Tm.av i) (st c):=(B9 T n) hF g f h hm
def zc(T:fh){S:Type}{st:S->eB}{k:Nat}{a0:Tm}{a1:(S->Int->Int->Option (Tm×S))}{c:S}{d:Tm}{b:S}{g1:Nat}{a:List AV}(hF:B2 st k)(f:tF T g1 a st a1)(hm:oW a0 a1 c=some (d,b)):e_ prog T 285 [Tm.av a0,AV.func (.func g1) [] a] (st c) (Tm.av d) (st b):=by
 rw[oW] at hm;refine fQ.VV hF (Post:=λx K=>x=Tm.av d/\∃X,K=(st b)++X) ?_ (λ_ _ h=>⟨_,h.2.choose,h.2.choose_spec,by rw[h.1];simp[AV.low,AV.jj],h.1,rfl⟩);have e:=hF.len;refine wi acR func285 [3,5] [] 999 ?_;have⟨g,s2,e,m⟩:=gr e hm;simp[e];refine m0.UG (by rfl) (Ep T (st:=λs=>st s++[[AV.func (.func g1) [] a],[AV.func (.func 303) [] [AV.fT k 0,AV.fT (k+1) 0]]]) (B2.ext hF _ (n:=k+2) (by simp)) (λ_=>(by simp[e])) (tF.ext f) (λ_=>(by simp[e])) e.2) ?_;cases m;simp[e]
def EU(T:fh){H:eB}{a0:Tm}{a1 a2:Int}{a:Tm}(hm:rP a0 a1 a2=some a):e_ prog T 254 [Tm.av a0,sI a1,sI a2] H (Tm.av a) H:=by
 rw[rP] at hm;refine fQ.uC (Post:=λx K=>x=Tm.av a/\∃X,K=H++X) ?_ (λ_ _ h=>⟨_,h.2.choose_spec,by rw[h.1];simp[AV.low,AV.jj],h.1,rfl⟩);have e:=trivial;refine wi acR func254 [4,5] [] 999 ?_;have⟨c,s2,e,m⟩:=gr e hm;simp[e];refine Cf (zc T (st:=λ_:Unit=>H++[[sI a1],[sI a2]]) (B2.const _) (λX _ _ _ _ _ h=>by obtain⟨b,rfl⟩:=vu h;exact Ip T (q0:=(List.length H)) (q1:=(List.length H+1)) (by simp[e]) (by simp[e]) b) e.2) ?_;cases m;simp[e]
def za(T:fh){H:eB}{a0:Tm}{a1 a b:Int}{h:Tm}{q0 q1:Nat}(c:H[q0]?=some [sI a])(d:H[q1]?=some [sI b])(hm:mX a0 a1 a b=some h):e_ prog T 253 [Tm.av a0,sI a1,AV.fT q0 0,AV.fT q1 0] H (Tm.av h) H:=by
 rw[mX] at hm;have f:=gn c;have g:=gn d;have e:=Aj (Aj (Aj f c) g) d;refine wi acR func253 [] [] 999 ?_;have⟨i,e,m⟩:=ep e hm;simp[e];refine Cf (EU T e.2) ?_;cases m;simp[e]
def wH:C1 prog 214 nI sB sI:=by
 intro T H a0 r hm;rw[nI] at hm;have e:=trivial;refine wi acR func214 [] [] 2 ?_;simp[e];refine wj 999 999 (λf h=>h=H/\f.1 2=sB (fW (ue a0 4) (LP a0 7) false)) (λc a=>?_) ?_;rotate_left
 ·rintro b d E;have e:=Aj e E;cases hm;simp[e]
 rcases Pb (ue a0 4) e with e|e
 ·simp[e];exact a _ _ (by simp[e])
 simp[e];exact a _ _ (by simp[e])
def yv(T:fh):∀(n:Nat),(∀{S:Type} {st:S->eB} {k:Nat} {a0:Fm} {a1:Int} {a2:(S->Tm->Int->Option (Tm×S))} {t:S} {D:Fm} {p:S} {g2:Nat} {g:List AV} (hF:B2 st k) (u:B8 T g2 g st a2) (hm:fq n a0 a1 a2 t=some (D,p)),e_ prog T 155 [Fm.av a0,sI a1,AV.func (.func g2) [] g] (st t) (Fm.av D) (st p)):=by
  intro n
  induction n with
  |zero=>
    skip
    all_goals(intro _ _;intros;rename_i hm;cases hm)
  |succ n L=>
 intro S st k a0 a1 a2 t D p g2 g hF u hm;rw[fq] at hm;have e:=hF.len;refine wi acR func155 [] [] 999 ?_;have⟨x,e,m⟩:=ep e hm;simp[e];refine Cs (sM e.2) ?_;simp[e];refine Wr e m 0 (λJ v f h=>∃(b:Tag),(h=st v.2/\f.1 1=sI a1/\f.1 2=AV.func (.func g2) [] g/\f.1 3=AV.eD 3 (f.gen 3) 0/\f.1 6=AV.eD 6 (f.gen 6) 0/\f.1 7=AV.eD 7 (f.gen 7) 0/\f.1 19=sL Tm.av a0.ek/\f.1 20=sI (eN a0.ek)/\f.1 21=sI J/\f.box 3=some (Fm.av a0).cells/\f.box 6=some [sI 0,sI 0,AV.slice .full [],AV.slice .full [],AV.slice .full []]/\f.box 7=some [sI a0.acM,sI x.acM,sL Ty.av x.acN,sT b Tm.av v.1,AV.slice .full []])/\Ow f [32] b v.1) (by exact⟨.full,by simp[e],js.full⟩) (λv y M N E m=>?_) (λJ Y v y M N Z c8 E e m z9 z=>?_);rotate_left
 ·have⟨v11,v12⟩:=v;have⟨b,E,l⟩:=E;have e:=Aj e E;dsimp only[mY]at m;apply wg 999;have⟨F,O,e,m⟩:=gr e m;simp[e];refine qK.UG (by rfl) (B8.Xm u e.2) (by simp) ?_;have⟨e,m⟩:=Ck e m;simp[e];refine Ad (f:=Tm.av) v11 [F] l CX e.2 ?_;simp[e];cases m;exact z _ _ _ ⟨(.loc 32 (y.fP 32+1)),by simp[e],(On 32)⟩ z9
 have⟨v11,v12⟩:=v;have⟨b,E,l⟩:=E;have e:=Aj e E;apply wg 5;dsimp only[en,mY]at m;simp[e];refine Wj m 999 999 (λA f h=>∃(q:Int) (c:Tag),(h=st v12/\f.1 1=sI q/\f.1 2=AV.func (.func g2) [] g/\f.1 3=AV.eD 3 (f.gen 3) 0/\f.1 6=AV.eD 6 (f.gen 6) 0/\f.1 7=AV.eD 7 (f.gen 7) 0/\f.box 3=some (Fm.av a0).cells/\f.box 6=some [sI 0,sI 0,AV.slice .full [],AV.slice .full [],AV.slice .full []]/\f.box 7=some [sI a0.acM,sI x.acM,sL Ty.av x.acN,sT c Tm.av v11,AV.slice .full []])/\Ow f [32] c v11/\A q=some (D,p)) (λA P r m=>?_) ?_
 ·have⟨Q,e,m⟩:=ep e m;simp[e];refine Cf (wH e.2) ?_;rcases Io e m with⟨e,m⟩|⟨e,m⟩;rotate_left
  ·simp[e];exact r _ _ ⟨a1,b,by simp[e],l,m⟩
  simp[e];exact r _ _ ⟨(fk .i64 a1 1),b,by simp[e],l,m⟩
 rintro K R ⟨q,c,E,w,m⟩;have e:=Aj e E;simp[e];refine Wr e m 999 (λB i f h=>∃(a:Tag) (d:Tag),(h=st i.2/\f.1 1=sI q/\f.1 2=AV.func (.func g2) [] g/\f.1 6=AV.eD 6 (f.gen 6) 0/\f.1 7=AV.eD 7 (f.gen 7) 0/\f.1 41=sL Fm.av a0.acN/\f.1 42=sI (eN a0.acN)/\f.1 43=sI B/\f.box 6=some [sI 0,sI 0,AV.slice .full [],AV.slice .full [],AV.slice .full []]/\f.box 7=some [sI a0.acM,sI x.acM,sL Ty.av x.acN,sT a Tm.av v11,sT d Fm.av i.1])/\Ow f [32] a v11/\Ow f [54] d i.1) (by exact⟨c,.full,by simp[e],w,js.full⟩) (λi s G H E m=>?_) (λB U i s G H V W E e m z28 C=>?_)
 ·have⟨v30,v31⟩:=i;have⟨a,d,E,o,j⟩:=E;have e:=Aj e E;dsimp only[en,mY]at m;cases m;simp[e]
 have⟨v30,v31⟩:=i;have⟨a,d,E,o,j⟩:=E;have e:=Aj e E;dsimp only[mY]at m;have⟨I,X,e,m⟩:=gr e m;simp[e];refine Cs (L hF u e.2) ?_;have⟨e,m⟩:=Ck e m;simp[e];refine Ad (f:=Fm.av) v30 [I] j Gq e.2 ?_;simp[e];cases m;exact C _ _ _ ⟨a,(.loc 54 (s.fP 54+1)),by simp[e],(js.other o j (by decide) (by decide)),(On 54)⟩ z28
def nk(T:fh){S:Type}{st:S->eB}{k:Nat}{a0:Fm}{a1:Int}{a2:(S->Tm->Int->Option (Tm×S))}{b:S}{e:Fm}{c:S}{g2:Nat}{a:List AV}(hF:B2 st k)(d:B8 T g2 a st a2){n:Nat}(hm:fq n a0 a1 a2 b=some (e,c)):e_ prog T 155 [Fm.av a0,sI a1,AV.func (.func g2) [] a] (st b) (Fm.av e) (st c):=(yv T n) hF d hm
def oT(T:fh){H:eB}{a0:Fm}{a1 a2:Int}{a:Fm}(hm:fS a0 a1 a2=some a):e_ prog T 206 [Fm.av a0,sI a1,sI a2] H (Fm.av a) H:=by
 rw[fS] at hm;refine fQ.uC (Post:=λx K=>x=Fm.av a/\∃X,K=H++X) ?_ (λ_ _ h=>⟨_,h.2.choose_spec,by rw[h.1];simp[AV.low,AV.jj],h.1,rfl⟩);have e:=trivial;refine wi acR func206 [4,5] [] 999 ?_;have⟨c,s2,e,m⟩:=gr e hm;simp[e];refine Cf (nk T (st:=λ_:Unit=>H++[[sI a1],[sI a2]]) (B2.const _) (λX _ _ _ _ _ h=>by obtain⟨b,rfl⟩:=vu h;exact za T (q0:=(List.length H)) (q1:=(List.length H+1)) (by simp[e]) (by simp[e]) b) e.2) ?_;cases m;simp[e]
def BO:C2 prog 190 lx (t2 Fm.av sB) eg.av sI:=by
 intro T H a0 a1 r hm;rw[lx] at hm;have e:=trivial;refine wi acR func190 [] [] 999 ?_;rcases Io e hm with⟨e,m⟩|⟨e,m⟩
 ·cases m;simp[e]
 have⟨a,e,m⟩:=ep e m;have⟨b,e,m⟩:=ep e m;simp[e];refine Cf (oT T e.2) ?_;cases m;simp[e]
def z6(T:fh){H:eB}{a0:List Fm}{a1:Pf}{a2:eg}{b:ec}{c:Int}{d:Nat}(a:KC H d a0)(hm:pe a0 a1 a2=some (b,c)):e_ prog T 139 [AV.fT d 0,Pf.av a1,eg.av a2] H (AV.tuple [ec.av b,sI c]) H:=by
 rw[pe] at hm;have e:=a;refine wi acR func139 [] [] 999 ?_;have⟨f,g,e,m⟩:=gr e hm;simp[e];refine Cf (BO e.2) ?_;rcases Io e m with⟨e,m⟩|⟨e,m⟩
 ·cases m;simp[e]
 cases m;simp[e]
def yr(T:fh){H:eB}{a0:List Fm}{a1:Pf}{a2:eg}{b:ec}{c:Int}{d:Nat}(a:KC H d a0)(hm:nN a0 a1 a2=some (b,c)):e_ prog T 140 [AV.fT d 0,Pf.av a1,eg.av a2] H (AV.tuple [ec.av b,sI c]) H:=by
 rw[nN] at hm;have e:=a;refine wi acR func140 [] [(1,true,[]),(3,true,[])] 999 ?_;rcases Io e hm with⟨e,m⟩|⟨e,m⟩
 ·cases m;simp[e]
 have⟨f,e,m⟩:=ep e m;cases m;simp[e]
def ET:C2 prog 191 AH Fm.av sI (sL Fm.av):=by
 intro T H a0 a1 r hm;rw[AH] at hm;have e:=trivial;refine wi acR func191 [] [] 999 ?_;cases hm;simp[e]
def nT:C3 prog 193 eV sI fa.av sI sI:=by
 intro T H a0 a1 a2 r hm;rw[eV] at hm;have e:=trivial;refine wi acR func193 [] [] 3 ?_;simp[e];refine wj 999 999 (λf h=>h=H/\f.1 18=sB (fW (pc (fk .i64 a0.vars a1) 16) true (pc (fk .i64 a0.acT a2) 16))) (λc a=>?_) ?_;rotate_left
 ·rintro b d E;have e:=Aj e E;rcases Io e hm with⟨e,m⟩|⟨e,m⟩
  ·cases m;simp[e]
  cases m;simp[e]
 rcases Pb (pc (fk .i64 a0.vars a1) 16) e with e|e
 ·simp[e];exact a _ _ (by simp[e])
 simp[e];exact a _ _ (by simp[e])
def wY(T:fh)(a:qv T){H:eB}{a0:Tm}{b:Int}(hm:p4 a0=some b):e_ prog T 266 [Tm.av a0] H (sI b) H:=by
 rw[p4] at hm;have e:=a;refine wi acR func266 [] [] 999 ?_;have⟨c,d,e,m⟩:=gr e hm;simp[e];refine Cf (tn T a e.2) ?_;cases m;simp[e]
def DE:∀(n:Nat),C2 prog 292 (ja n) sB Tm.av Tm.av:=by
  intro n
  induction n with
  |zero=>
    skip
    all_goals(intro _ _;intros;rename_i hm;cases hm)
  |succ n l=>
 intro T H a0 a1 r hm;rw[ja] at hm;have e:=trivial;refine wi acR func292 [] [] 3 ?_;simp[e];refine Wj hm 999 999 (λi f h=>∃(v2:Bool),(h=H/\f.1 2=AV.eD 2 (f.gen 2) 0/\f.1 3=AV.eD 3 (f.gen 3) 0/\f.1 35=sB v2/\f.box 2=some (Tm.av a0).cells/\f.box 3=some (Tm.av a1).cells)/\i v2=some r) (λi w a m=>?_) ?_
 ·rcases Io e m with⟨e,m⟩|⟨e,m⟩
  ·simp[e];exact a _ _ ⟨true,by simp[e],m⟩
  rcases Io e m with⟨e,m⟩|⟨e,m⟩
  ·simp[e];exact a _ _ ⟨true,by simp[e],m⟩
  have⟨x,e,m⟩:=ep e m;simp[e];refine Cf (py e.2) ?_;rcases Io e m with⟨e,m⟩|⟨e,m⟩;rotate_left
  ·simp[e];exact a _ _ ⟨true,by simp[e],m⟩
  simp[e];exact a _ _ ⟨(eW (eN a0.acN) (eN a1.acN)),by simp[e],m⟩
 rintro o y ⟨v2,E,m⟩;have e:=Aj e E;rcases Io e m with⟨e,m⟩|⟨e,m⟩
 ·cases m;simp[e]
 simp[e];refine Wr e m 999 (λj k f h=>h=H/\f.1 3=AV.eD 3 (f.gen 3) 0/\f.1 37=sL Tm.av a0.acN/\f.1 38=sI (eN a0.acN)/\f.1 39=sI j/\f.box 3=some (Tm.av a1).cells) (by simp[e]) (λk d p g E m=>?_) (λj q k d p g s t E e m b c=>?_)
 ·have e:=Aj e E;dsimp only[en]at m;cases m;simp[e]
 have e:=Aj e E;have⟨u,e,m⟩:=ep e m;have⟨v,e,m⟩:=ep e m;simp[e];refine Cs (l e.2) ?_;rcases Io e m with⟨e,m⟩|⟨e,m⟩;rotate_left
 ·cases m;cases b;simp[e]
 simp[e];cases m;exact c _ _ _ (by simp[e]) b
def yF{n:Nat}:C2 prog 292 (ja n) sB Tm.av Tm.av:=(DE n)
def De:C2 prog 267 rC sB Tm.av Tm.av:=by
 intro T H a0 a1 r hm;rw[rC] at hm;have e:=trivial;refine wi acR func267 [] [] 999 ?_;have⟨a,e,m⟩:=ep e hm;simp[e];refine Cf (yF e.2) ?_;cases m;simp[e]
def H3(T:fh){H:eB}{a0 a1:Int}{a b:Bool}{q0:Nat}(c:H[q0]?=some [sB a])(hm:rS a0 a1 a=some b):e_ prog T 298 [sI a0,sI a1,AV.fT q0 0] H (AV.tuple []) (gC H q0 [sB b]):=by
 rw[rS] at hm;have d:=gn c;refine fQ.Nq c ?_;have e:=d;refine wi acR func298 [] [] 999 ?_;rcases Io e hm with⟨e,m⟩|⟨e,m⟩
 ·cases m;simp[e]
 cases m;simp[e]
def F_(T:fh):∀(n:Nat),(∀{S:Type} {st:S->eB} {k:Nat} {a0:Tm} {a1:Int} {i:(S->Int->Int->Option (S))} {b:S} {c:S} {q0:Nat} {q1:Nat} {j:Nat} {l:List AV} (hF:B2 st k) (d:∀s,(st s)[q0]?=some [AV.func (.func j) [] l]) (a:tE T j l st i) (g:∀s,(st s)[q1]?=some [AV.func (.func 274) [] [AV.fT q0 0,AV.fT q1 0]]) (hm:jW n a0 a1 i b=some c),e_ prog T 274 [Tm.av a0,sI a1,AV.fT q0 0,AV.fT q1 0] (st b) (AV.tuple []) (st c)):=by
  intro n
  induction n with
  |zero=>
    skip
    all_goals(intro _ _;intros;rename_i hm;cases hm)
  |succ n B=>
 intro S st k a0 a1 i b c q0 q1 j l hF d a g hm;rw[jW] at hm;have v:=λs=>gn (d s);have w:=λs=>gn (g s);have e:=Aj (Aj (Aj (Aj hF.len v) d) w) g;refine wi acR func274 [] [] 2 ?_;simp[e];refine Wj hm 999 0 (λA f h=>∃(v2:S),(h=st v2/\f.1 1=sI a1/\f.1 3=AV.fT q1 0/\f.1 4=AV.eD 4 (f.gen 4) 0/\f.box 4=some (Tm.av a0).cells)/\A v2=some c) (λA K p m=>?_) ?_
 ·rcases Io e m with⟨e,m⟩|⟨e,m⟩;rotate_left
  ·simp[e];exact p _ _ ⟨b,by simp[e],m⟩
  have⟨C,e,m⟩:=ep e m;simp[e];refine m0.UG (by rfl) (tE.Xm a e.2) ?_;simp[e];exact p _ _ ⟨C,by simp[e],m⟩
 rintro D L ⟨v2,E,m⟩;have e:=Aj e E;refine wj 999 999 (λf h=>h=st v2/\f.1 1=sI (fW (eH a0.acM 2) (fk .i64 a1 1) a1)/\f.1 3=AV.fT q1 0/\f.1 4=AV.eD 4 (f.gen 4) 0/\f.box 4=some (Tm.av a0).cells) (λM q=>?_) ?_
 ·rcases Pb (eH a0.acM 2) e with e|e
  ·simp[e];exact q _ _ (by simp[e])
  simp[e];exact q _ _ (by simp[e])
 rintro F N E;have e:=Aj e E;simp[e];refine Wr e m 999 (λr o f h=>h=st o/\f.1 1=sI (fW (eH a0.acM 2) (fk .i64 a1 1) a1)/\f.1 3=AV.fT q1 0/\f.1 22=sL Tm.av a0.acN/\f.1 23=sI (eN a0.acN)/\f.1 24=sI r) (by simp[e]) (λo t x y E m=>?_) (λr G o t x y H I E e m z u=>?_)
 ·have e:=Aj e E;dsimp only[en]at m;cases m;simp[e]
 have e:=Aj e E;have⟨J,e,m⟩:=ep e m;simp[e];refine m0.UG (by rfl) (B hF d a g e.2) ?_;simp[e];cases m;exact u _ _ _ (by simp[e]) z
def IU(T:fh){S:Type}{st:S->eB}{k:Nat}{a0:Tm}{a1:Int}{a:(S->Int->Int->Option (S))}{b c:S}{q0 q1 d:Nat}{e:List AV}(hF:B2 st k)(g:∀s,(st s)[q0]?=some [AV.func (.func d) [] e])(f:tE T d e st a)(h:∀s,(st s)[q1]?=some [AV.func (.func 274) [] [AV.fT q0 0,AV.fT q1 0]]){n:Nat}(hm:jW n a0 a1 a b=some c):e_ prog T 274 [Tm.av a0,sI a1,AV.fT q0 0,AV.fT q1 0] (st b) (AV.tuple []) (st c):=(F_ T n) hF g f h hm
def zQ(T:fh){S:Type}{st:S->eB}{k:Nat}{a0:Tm}{a1:(S->Int->Int->Option (S))}{c b:S}{g1:Nat}{a:List AV}(hF:B2 st k)(d:tE T g1 a st a1)(hm:rJ a0 a1 c=some b):e_ prog T 243 [Tm.av a0,AV.func (.func g1) [] a] (st c) (AV.tuple []) (st b):=by
 rw[rJ] at hm;refine fQ.VV hF (Post:=λx K=>x=AV.tuple []/\∃X,K=(st b)++X) ?_ (λ_ _ h=>⟨_,h.2.choose,h.2.choose_spec,by rw[h.1];simp[AV.low,AV.jj],h.1,rfl⟩);have e:=hF.len;refine wi acR func243 [3,4] [] 999 ?_;have⟨s1,e,m⟩:=ep e hm;simp[e];refine m0.UG (by rfl) (IU T (st:=λs=>st s++[[AV.func (.func g1) [] a],[AV.func (.func 274) [] [AV.fT k 0,AV.fT (k+1) 0]]]) (B2.ext hF _ (n:=k+2) (by simp)) (λ_=>(by simp[e])) (tE.ext d) (λ_=>(by simp[e])) e.2) ?_;cases m;simp[e]
def LH(T:fh){H:eB}{a0:Tm}{a:Bool}(hm:xC a0=some a):e_ prog T 280 [Tm.av a0] H (sB a) H:=by
 rw[xC] at hm;refine fQ.uC (Post:=λx K=>x=sB a/\∃X,K=H++X) ?_ (λ_ _ h=>⟨_,h.2.choose_spec,by rw[h.1];simp[AV.low,AV.jj],h.1,rfl⟩);have e:=trivial;refine wi acR func280 [3] [] 999 ?_;have⟨s1,e,m⟩:=ep e hm;simp[e];refine Cf (zQ T (st:=λs:Bool=>H++[[sB s]]) (B2.SD H (λs:Bool=>[[sB s]]) 1 (λ_=>rfl) (by simp[AV.low,AV.jj])) (λX s _ _ b h=>by have:=H3 T (H:=H++[[sB s]]++X) (q0:=(List.length H)) (by simp[e]) h;simpa using this) e.2) ?_;cases m;simp[e]
def q3(T:fh){H:eB}{a0 a1:Int}{a2:Ty}{a3:(List (Option Nat))}{nh:List HC}{C:Option Nat}{p:List HC}(hm:kI a0 a1 a2 a3 nh=some (C,p)):e_ prog T 299 [sI a0,sI a1,Ty.av a2,sL (nb (List.length H)) a3] (H++iK (List.length H) nh) (nb (List.length H) C) (H++iK (List.length H) p):=by
 rw[kI] at hm;have e:=trivial;refine wi acR func299 [17] [(5,false,[true,true,true,false,true,true,true,false,true,true,true,false]),(6,false,[true,true,true,true,false,true,true,true,false,true,true,true,false])] 999 ?_;have D:iK (List.length H) nh++[[sI a0,sI a1,sI a2.acM,sL Ty.av a2.acN,sL (nb (List.length H)) a3,sI 1,sI 0,sB false]]=iK (List.length H) (nh++[HC.eS (eR.mk a0 a1 a2 a3 1 0 false)]):=JS rfl;have e:=Aj e D;have F:(nh++[HC.eS (eR.mk a0 a1 a2 a3 1 0 false)])[(List.length nh)]?=some (HC.eS (eR.mk a0 a1 a2 a3 1 0 false)):=O4;have e:=Aj e F;simp[e];refine Wr e hm 0 (λJ g f h=>h=H++iK (List.length H) g/\f.1 0=sI a0/\f.1 1=sI a1/\f.1 9=AV.fT (List.length H+(List.length nh)) 0/\f.1 18=sL (nb (List.length H)) a3/\f.1 19=sI (eN a3)/\f.1 20=sI J) (by simp[e]) (λg G M N E m=>?_) (λJ R g G M N S U E e m I r=>?_);rotate_left
 ·have e:=Aj e E;have K:=e;apply wg 999;have⟨a,e,m⟩:=ep e m;have k:=HC.ey e.2;have e:=Aj e.1 k;have⟨O,e,m⟩:=ep e m;have⟨d,e,m⟩:=ep e m;have s:=HC.ey e.2;have e:=Aj e.1 s;have t:gC (iK (List.length H) g) (List.length nh) [sI a.acM,sI a.acP,sI a.pM.acM,sL Ty.av a.pM.acN,sL (nb (List.length H)) a.acN,sI (fk .i64 a.size d.size),sI a.free,sB a.normal]=iK (List.length H) (kF g (List.length nh) (HC.eS (eR.mk a.acM a.acP a.pM a.acN (fk .i64 a.size d.size) a.free a.normal))):=qb rfl;have e:=Aj e t;have l:(kF g (List.length nh) (HC.eS (eR.mk a.acM a.acP a.pM a.acN (fk .i64 a.size d.size) a.free a.normal)))[(List.length nh)]?=some (HC.eS (eR.mk a.acM a.acP a.pM a.acN (fk .i64 a.size d.size) a.free a.normal)):=wI k;have e:=Aj e l;have⟨j,e,m⟩:=ep e m;have u:=HC.ey e.2;have e:=Aj e.1 u;have v:gC (iK (List.length H) (kF g (List.length nh) (HC.eS (eR.mk a.acM a.acP a.pM a.acN (fk .i64 a.size d.size) a.free a.normal)))) (List.length nh) [sI a.acM,sI a.acP,sI a.pM.acM,sL Ty.av a.pM.acN,sL (nb (List.length H)) a.acN,sI (fk .i64 a.size d.size),sI (imax a.free j.free),sB a.normal]=iK (List.length H) (kF (kF g (List.length nh) (HC.eS (eR.mk a.acM a.acP a.pM a.acN (fk .i64 a.size d.size) a.free a.normal))) (List.length nh) (HC.eS (eR.mk a.acM a.acP a.pM a.acN (fk .i64 a.size d.size) (imax a.free j.free) a.normal))):=qb rfl;have e:=Aj e v;have w:(kF (kF g (List.length nh) (HC.eS (eR.mk a.acM a.acP a.pM a.acN (fk .i64 a.size d.size) a.free a.normal))) (List.length nh) (HC.eS (eR.mk a.acM a.acP a.pM a.acN (fk .i64 a.size d.size) (imax a.free j.free) a.normal)))[(List.length nh)]?=some (HC.eS (eR.mk a.acM a.acP a.pM a.acN (fk .i64 a.size d.size) (imax a.free j.free) a.normal)):=wI l;have e:=Aj e w;simp[e];cases m;exact r _ _ _ (by simp[e]) I
 have e:=Aj e E;apply wg 5;dsimp only[en]at m;simp[e];refine Wj m 999 999 (λx f h=>∃(q:List HC),(h=H++iK (List.length H) q/\f.1 9=AV.fT (List.length H+(List.length nh)) 0)/\x q=some (C,p)) (λx P i m=>?_) ?_;rotate_left
 ·rintro L Q ⟨q,E,m⟩;have e:=Aj e E;cases m;simp[e]
 rcases Io e m with⟨e,m⟩|⟨e,m⟩
 ·have⟨c,e,m⟩:=ep e m;have n:=HC.ey e.2;have e:=Aj e.1 n;have y:gC (iK (List.length H) g) (List.length nh) [sI c.acM,sI c.acP,sI c.pM.acM,sL Ty.av c.pM.acN,sL (nb (List.length H)) c.acN,sI c.size,sI (fk .i64 a1 1),sB c.normal]=iK (List.length H) (kF g (List.length nh) (HC.eS (eR.mk c.acM c.acP c.pM c.acN c.size (fk .i64 a1 1) c.normal))):=qb rfl;have e:=Aj e y;have z:(kF g (List.length nh) (HC.eS (eR.mk c.acM c.acP c.pM c.acN c.size (fk .i64 a1 1) c.normal)))[(List.length nh)]?=some (HC.eS (eR.mk c.acM c.acP c.pM c.acN c.size (fk .i64 a1 1) c.normal)):=wI n;have e:=Aj e z;simp[e];exact i _ _ ⟨(kF g (List.length nh) (HC.eS (eR.mk c.acM c.acP c.pM c.acN c.size (fk .i64 a1 1) c.normal))),by simp[e],m⟩
 rcases Io e m with⟨e,m⟩|⟨e,m⟩;rotate_left
 ·simp[e];exact i _ _ ⟨g,by simp[e],m⟩
 have⟨b,e,m⟩:=ep e m;have o:=HC.ey e.2;have e:=Aj e.1 o;have A:gC (iK (List.length H) g) (List.length nh) [sI b.acM,sI b.acP,sI b.pM.acM,sL Ty.av b.pM.acN,sL (nb (List.length H)) b.acN,sI b.size,sI (imax 0 (fG .i64 b.free 1)),sB b.normal]=iK (List.length H) (kF g (List.length nh) (HC.eS (eR.mk b.acM b.acP b.pM b.acN b.size (imax 0 (fG .i64 b.free 1)) b.normal))):=qb rfl;have e:=Aj e A;have B:(kF g (List.length nh) (HC.eS (eR.mk b.acM b.acP b.pM b.acN b.size (imax 0 (fG .i64 b.free 1)) b.normal)))[(List.length nh)]?=some (HC.eS (eR.mk b.acM b.acP b.pM b.acN b.size (imax 0 (fG .i64 b.free 1)) b.normal)):=wI o;have e:=Aj e B;simp[e];exact i _ _ ⟨(kF g (List.length nh) (HC.eS (eR.mk b.acM b.acP b.pM b.acN b.size (imax 0 (fG .i64 b.free 1)) b.normal))),by simp[e],m⟩
def Jd(T:fh):∀(n:Nat),(∀{H:eB} {a0:Tm} {nh:List HC} {g:Option Nat} {c:List HC} (hm:qi n a0 nh=some (g,c)),e_ prog T 281 [Tm.av a0] (H++iK (List.length H) nh) (nb (List.length H) g) (H++iK (List.length H) c)):=by
  intro n
  induction n with
  |zero=>
   skip
   all_goals(intro _ _;intros;rename_i hm;cases hm)
  |succ n q=>
 intro H a0 nh g c hm;rw[qi] at hm;have e:=trivial;refine wi acR func281 [] [] 999 ?_;simp[e];refine Wr e hm 999 (λk s2 f h=>∃(a:Tag),(h=H++iK (List.length H) s2.2/\f.1 1=AV.eD 1 (f.gen 1) 0/\f.1 3=sT a (nb (List.length H)) s2.1/\f.1 7=sL Tm.av a0.acN/\f.1 8=sI (eN a0.acN)/\f.1 9=sI k/\f.box 1=some (Tm.av a0).cells)/\Ow f [17] a s2.1) (by exact⟨.full,by simp[e],js.full⟩) (λs2 d r s E m=>?_) (λk v s2 d r s n6 w E e m t i=>?_)
 ·have⟨v10,v11⟩:=s2;have⟨a,E,b⟩:=E;have e:=Aj e E;dsimp only[en,mY]at m;have⟨u,l,e,m⟩:=gr e m;simp[e];refine Cf (q3 T (H:=H) e.2) ?_;cases m;simp[e]
 have⟨v10,v11⟩:=s2;have⟨a,E,b⟩:=E;have e:=Aj e E;have o:=e;dsimp only[mY]at m;have⟨j,p,e,m⟩:=gr e m;simp[e];refine Cf (q (H:=H) e.2) ?_;have⟨e,m⟩:=Ck e m;simp[e];refine Ao (f:=(nb (List.length H))) v10 [j] b Pw e.2 ?_;simp[e];cases m;exact i _ _ _ ⟨(.loc 17 (d.fP 17+1)),by simp[e],(On 17)⟩ t
def Ld(T:fh){H:eB}{a0:Tm}{nh:List HC}{b:Option Nat}{a:List HC}{n:Nat}(hm:qi n a0 nh=some (b,a)):e_ prog T 281 [Tm.av a0] (H++iK (List.length H) nh) (nb (List.length H) b) (H++iK (List.length H) a):=(Jd T n) hm
def B5(T:fh){H:eB}{a0:Option Nat}{nh:List HC}{b:Int}(hm:rl a0 nh=some b):e_ prog T 301 [nb (List.length H) a0] (H++iK (List.length H) nh) (sI b) (H++iK (List.length H) nh):=by
 rw[rl] at hm;have e:=trivial;refine wi acR func301 [] [] 999 ?_;have⟨c,e,m⟩:=ep e hm;have⟨d,e,m⟩:=ep e m;have a:=HC.ey e.2;have e:=Aj e.1 a;cases m;simp[e]
def vh(T:fh){H:eB}{a0:Option Nat}{nh:List HC}{l:Bool}(hm:mW a0 nh=some l):e_ prog T 302 [nb (List.length H) a0] (H++iK (List.length H) nh) (sB l) (H++iK (List.length H) nh):=by
 rw[mW] at hm;have e:=trivial;refine wi acR func302 [] [] 8 ?_;have⟨L,e,m⟩:=ep e hm;have⟨n,e,m⟩:=ep e m;have o:=HC.ey e.2;have e:=Aj e.1 o;simp[e];rcases Io e m with⟨e,m⟩|⟨e,m⟩
 ·apply wg 999;have⟨M,e,m⟩:=ep e m;have⟨N,e,m⟩:=ep e m;have⟨O,e,m⟩:=ep e m;have p:=HC.ey e.2;have e:=Aj e.1 p;cases m;simp[e]
 apply wg 3;simp[e];rcases Io e m with⟨e,m⟩|⟨e,m⟩
 ·apply wg 1;simp[e];refine Wj m 999 999 (λs f h=>∃(v9:Bool),(h=H++iK (List.length H) nh/\f.1 2=sB v9)/\s v9=some l) (λs w a m=>?_) ?_;rotate_left
  ·rintro t x ⟨v9,E,m⟩;have e:=Aj e E;cases m;simp[e]
  have⟨y,e,m⟩:=ep e m;have⟨z,e,m⟩:=ep e m;have⟨q,e,m⟩:=ep e m;have g:=HC.ey e.2;have e:=Aj e.1 g;rcases Io e m with⟨e,m⟩|⟨e,m⟩
  ·simp[e];exact a _ _ ⟨true,by simp[e],m⟩
  simp[e];exact a _ _ ⟨(eH q.acM 5),by simp[e],m⟩
 apply wg 4;rcases Io e m with⟨e,m⟩|⟨e,m⟩
 ·simp[e];refine Wj m 999 999 (λi f h=>∃(d:Bool),(h=H++iK (List.length H) nh/\f.1 2=sB d)/\i d=some l) (λi A b m=>?_) ?_;rotate_left
  ·rintro u B ⟨d,E,m⟩;have e:=Aj e E;cases m;simp[e]
  have⟨C,e,m⟩:=ep e m;have⟨D,e,m⟩:=ep e m;have⟨r,e,m⟩:=ep e m;have j:=HC.ey e.2;have e:=Aj e.1 j;rcases Io e m with⟨e,m⟩|⟨e,m⟩
  ·simp[e];exact b _ _ ⟨true,by simp[e],m⟩
  simp[e];exact b _ _ ⟨(eH r.acM 8),by simp[e],m⟩
 simp[e];refine wj 999 999 (λf h=>h=H++iK (List.length H) nh/\f.1 0=nb (List.length H) a0/\f.1 67=sB (fW (eH n.acM 11) true (eH n.acM 12))) (λF c=>?_) ?_
 ·rcases Pb (eH n.acM 11) e with e|e
  ·simp[e];exact c _ _ (by simp[e])
  simp[e];exact c _ _ (by simp[e])
 rintro v G E;have e:=Aj e E;rcases Io e m with⟨e,m⟩|⟨e,m⟩;rotate_left
 ·cases m;simp[e]
 have⟨I,e,m⟩:=ep e m;have⟨J,e,m⟩:=ep e m;have⟨K,e,m⟩:=ep e m;have k:=HC.ey e.2;have e:=Aj e.1 k;cases m;simp[e]
def rE(T:fh){H:eB}{a0:Option Nat}{nh:List HC}{b:Int}(hm:jb a0 nh=some b):e_ prog T 317 [nb (List.length H) a0] (H++iK (List.length H) nh) (sI b) (H++iK (List.length H) nh):=by
 rw[jb] at hm;have e:=trivial;refine wi acR func317 [] [] 999 ?_;have⟨c,e,m⟩:=ep e hm;have⟨d,e,m⟩:=ep e m;have a:=HC.ey e.2;have e:=Aj e.1 a;rcases Io e m with⟨e,m⟩|⟨e,m⟩
 ·cases m;simp[e]
 cases m;simp[e]
def AY(T:fh):∀(n:Nat),(∀{H:eB} {a0:Option Nat} {a1:Int} {nh:List HC} {b:Int} (hm:kv n a0 a1 nh=some b),e_ prog T 311 [nb (List.length H) a0,sI a1] (H++iK (List.length H) nh) (sI b) (H++iK (List.length H) nh)):=by
  intro n
  induction n with
  |zero=>
    skip
    all_goals(intro _ _;intros;rename_i hm;cases hm)
  |succ n o=>
 intro H a0 a1 nh b hm;rw[kv] at hm;have e:=trivial;refine wi acR func311 [] [] 999 ?_;have⟨u,e,m⟩:=ep e hm;have⟨j,e,m⟩:=ep e m;have c:=HC.ey e.2;have e:=Aj e.1 c;rcases Io e m with⟨e,m⟩|⟨e,m⟩
 ·cases m;simp[e]
 rcases Io e m with⟨e,m⟩|⟨e,m⟩
 ·rcases Io e m with⟨e,m⟩|⟨e,m⟩
  ·cases m;simp[e]
  cases m;simp[e]
 simp[e];refine Wr e m 999 (λk d f h=>h=H++iK (List.length H) nh/\f.1 0=nb (List.length H) a0/\f.1 1=sI a1/\f.1 5=sI d/\f.1 28=sL (nb (List.length H)) j.acN/\f.1 29=sI (eN j.acN)/\f.1 30=sI k) (by simp[e]) (λd g p q E m=>?_) (λk v d g p q w r E e m i a=>?_)
 ·have e:=Aj e E;dsimp only[en]at m;cases m;simp[e]
 have e:=Aj e E;have l:=e;have⟨s,e,m⟩:=ep e m;simp[e];refine Cf (rE T (H:=H) e.2) ?_;have⟨t,e,m⟩:=ep e m;simp[e];refine Cf (o (H:=H) e.2) ?_;simp[e];cases m;exact a _ _ _ (by simp[e]) i
def BB(T:fh){H:eB}{a0:Option Nat}{a1:Int}{nh:List HC}{a:Int}{n:Nat}(hm:kv n a0 a1 nh=some a):e_ prog T 311 [nb (List.length H) a0,sI a1] (H++iK (List.length H) nh) (sI a) (H++iK (List.length H) nh):=(AY T n) hm
def pP(T:fh){H:eB}{a0:Option Nat}{a1:(List (Option Nat))}{nh:List HC}{c:Option Nat}{a:List HC}(hm:gY a0 a1 nh=some (c,a)):e_ prog T 309 [nb (List.length H) a0,sL (nb (List.length H)) a1] (H++iK (List.length H) nh) (nb (List.length H) c) (H++iK (List.length H) a):=by
 rw[gY] at hm;have e:=trivial;refine wi acR func309 [] [(1,false,[true,true,true,false,true,true,true,false,true,true,true,false,true,true,true])] 999 ?_;have⟨f,e,m⟩:=ep e hm;have⟨g,e,m⟩:=ep e m;have b:=HC.ey e.2;have e:=Aj e.1 b;have⟨h,d,e,m⟩:=gr e m;simp[e];refine Cs (q3 T (H:=H) e.2) ?_;cases m;simp[e]
def Bu(T:fh):∀(n:Nat),(∀{H:eB} {a0:Option Nat} {a1:Int} {a2:Int} {nh:List HC} {q:Option Nat} {d:List HC} (hm:jP n a0 a1 a2 nh=some (q,d)),e_ prog T 318 [nb (List.length H) a0,sI a1,sI a2] (H++iK (List.length H) nh) (nb (List.length H) q) (H++iK (List.length H) d)):=by
  intro n
  induction n with
  |zero=>
    skip
    all_goals(intro _ _;intros;rename_i hm;cases hm)
  |succ n A=>
 intro H a0 a1 a2 nh q d hm;rw[jP] at hm;have e:=trivial;refine wi acR func318 [] [(4,false,[true,true,true,false,true,true,true,false,true,true,true,true,true,false,true,true])] 3 ?_;simp[e];refine Wj hm 999 999 (λv f h=>∃(v2:Bool),(h=H++iK (List.length H) nh/\f.1 0=nb (List.length H) a0/\f.1 1=sI a1/\f.1 2=sI a2/\f.1 19=sB v2)/\v v2=some (q,d)) (λv K i m=>?_) ?_
 ·have⟨L,e,m⟩:=ep e m;have⟨M,e,m⟩:=ep e m;have r:=HC.ey e.2;have e:=Aj e.1 r;rcases Io e m with⟨e,m⟩|⟨e,m⟩
  ·simp[e];exact i _ _ ⟨true,by simp[e],m⟩
  simp[e];exact i _ _ ⟨(eH a2 0),by simp[e],m⟩
 rintro B N ⟨v2,E,m⟩;have e:=Aj e E;rcases Io e m with⟨e,m⟩|⟨e,m⟩
 ·cases m;simp[e]
 have⟨O,e,m⟩:=ep e m;have⟨j,e,m⟩:=ep e m;have k:=HC.ey e.2;have e:=Aj e.1 k;rcases Io e m with⟨e,m⟩|⟨e,m⟩
 ·have⟨C,w,e,m⟩:=gr e m;simp[e];refine Cs (q3 T (H:=H) e.2) ?_;cases m;simp[e]
 simp[e];refine Wr e m 999 (λl b f h=>∃(a:Tag),(h=H++iK (List.length H) b.2/\f.1 0=nb (List.length H) a0/\f.1 1=sI a1/\f.1 2=sI a2/\f.1 7=sT a (nb (List.length H)) b.1/\f.1 44=sL (nb (List.length H)) j.acN/\f.1 45=sI (eN j.acN)/\f.1 46=sI l)/\Ow f [59] a b.1) (by exact⟨.full,by simp[e],js.full⟩) (λb g s t E m=>?_) (λl D b g s t F G E e m z21 o=>?_)
 ·have⟨p,v24⟩:=b;have⟨a,E,c⟩:=E;have e:=Aj e E;dsimp only[en,mY]at m;have⟨I,x,e,m⟩:=gr e m;simp[e];refine Cf (pP T (H:=H) e.2) ?_;cases m;simp[e]
 have⟨p,v24⟩:=b;have⟨a,E,c⟩:=E;have e:=Aj e E;have y:=e;dsimp only[mY]at m;have⟨J,e,m⟩:=ep e m;simp[e];refine Cf (rE T (H:=H) e.2) ?_;have⟨u,z,e,m⟩:=gr e m;simp[e];refine Cf (A (H:=H) e.2) ?_;have⟨e,m⟩:=Ck e m;simp[e];refine Ao (f:=(nb (List.length H))) p [u] c Pw e.2 ?_;simp[e];cases m;exact o _ _ _ ⟨(.loc 59 (g.fP 59+1)),by simp[e],(On 59)⟩ z21
def CF(T:fh){H:eB}{a0:Option Nat}{a1 a2:Int}{nh:List HC}{b:Option Nat}{a:List HC}{n:Nat}(hm:jP n a0 a1 a2 nh=some (b,a)):e_ prog T 318 [nb (List.length H) a0,sI a1,sI a2] (H++iK (List.length H) nh) (nb (List.length H) b) (H++iK (List.length H) a):=(Bu T n) hm
def CZ(T:fh):∀(n:Nat),(∀{H:eB} {a0:Option Nat} {a1:Int} {a2:Option Nat} {nh:List HC} {k:Option Nat} {d:List HC} (hm:kb n a0 a1 a2 nh=some (k,d)),e_ prog T 312 [nb (List.length H) a0,sI a1,nb (List.length H) a2] (H++iK (List.length H) nh) (nb (List.length H) k) (H++iK (List.length H) d)):=by
  intro n
  induction n with
  |zero=>
    skip
    all_goals(intro _ _;intros;rename_i hm;cases hm)
  |succ n y=>
 intro H a0 a1 a2 nh k d hm;rw[kb] at hm;have e:=trivial;refine wi acR func312 [] [(6,false,[true,true,true,false,true,true,true,false,true,true,true,true,false,true,true])] 999 ?_;have⟨I,e,m⟩:=ep e hm;have⟨t,e,m⟩:=ep e m;have l:=HC.ey e.2;have e:=Aj e.1 l;rcases Io e m with⟨e,m⟩|⟨e,m⟩
 ·cases m;simp[e]
 rcases Io e m with⟨e,m⟩|⟨e,m⟩
 ·rcases Io e m with⟨e,m⟩|⟨e,m⟩;rotate_left
  ·have⟨J,z,e,m⟩:=gr e m;simp[e];refine Cs (q3 T (H:=H) e.2) ?_;cases m;simp[e]
  have⟨K,A,e,m⟩:=gr e m;simp[e];refine Cf (CF T (H:=H) e.2) ?_;cases m;simp[e]
 simp[e];refine Wr e m 999 (λu g f h=>∃(a:Tag),(h=H++iK (List.length H) g.2/\f.1 0=nb (List.length H) a0/\f.1 1=sI a1/\f.1 2=nb (List.length H) a2/\f.1 7=sT a (nb (List.length H)) g.1/\f.1 48=sL (nb (List.length H)) t.acN/\f.1 49=sI (eN t.acN)/\f.1 50=sI u)/\Ow f [63] a g.1) (by exact⟨.full,by simp[e],js.full⟩) (λg c o p E m=>?_) (λu B g c o p C D E e m q i=>?_)
 ·have⟨j,r⟩:=g;have⟨a,E,b⟩:=E;have e:=Aj e E;dsimp only[en,mY]at m;have⟨F,v,e,m⟩:=gr e m;simp[e];refine Cf (pP T (H:=H) e.2) ?_;cases m;simp[e]
 have⟨j,r⟩:=g;have⟨a,E,b⟩:=E;have e:=Aj e E;have w:=e;dsimp only[mY]at m;have⟨G,e,m⟩:=ep e m;simp[e];refine Cf (rE T (H:=H) e.2) ?_;have⟨s,x,e,m⟩:=gr e m;simp[e];refine Cf (y (H:=H) e.2) ?_;have⟨e,m⟩:=Ck e m;simp[e];refine Ao (f:=(nb (List.length H))) j [s] b Pw e.2 ?_;simp[e];cases m;exact i _ _ _ ⟨(.loc 63 (c.fP 63+1)),by simp[e],(On 63)⟩ q
def D7(T:fh){H:eB}{a0:Option Nat}{a1:Int}{a2:Option Nat}{nh:List HC}{b:Option Nat}{a:List HC}{n:Nat}(hm:kb n a0 a1 a2 nh=some (b,a)):e_ prog T 312 [nb (List.length H) a0,sI a1,nb (List.length H) a2] (H++iK (List.length H) nh) (nb (List.length H) b) (H++iK (List.length H) a):=(CZ T n) hm
def E5(T:fh){H:eB}{a0:Option Nat}{a1:(List (Option Nat))}{nh:List HC}{d:Option Nat}{a:List HC}(hm:rU a0 a1 nh=some (d,a)):e_ prog T 313 [nb (List.length H) a0,sL (nb (List.length H)) a1] (H++iK (List.length H) nh) (nb (List.length H) d) (H++iK (List.length H) a):=by
 rw[rU] at hm;have e:=trivial;refine wi acR func313 [] [] 999 ?_;simp[e];refine Wr e hm 999 (λg s2 f h=>h=H++iK (List.length H) s2.2/\f.1 0=nb (List.length H) s2.1/\f.1 7=sL (nb (List.length H)) a1/\f.1 8=sI (eN a1)/\f.1 9=sI g) (by simp[e]) (λs2 b k l E m=>?_) (λg p s2 b k l n6 q E e m n c=>?_)
 ·have⟨v10,v11⟩:=s2;have e:=Aj e E;dsimp only[en,mY]at m;cases m;simp[e]
 have⟨v10,v11⟩:=s2;have e:=Aj e E;have i:=e;dsimp only[mY]at m;have⟨o,j,e,m⟩:=gr e m;simp[e];refine Cf (q3 T (H:=H) e.2) ?_;simp[e];cases m;exact c _ _ _ (by simp[e]) n
def s5(T:fh){H:eB}{a0:Option Nat}{nh:List HC}{i:Option Nat}{a:List HC}(hm:je a0 nh=some (i,a)):e_ prog T 308 [nb (List.length H) a0] (H++iK (List.length H) nh) (nb (List.length H) i) (H++iK (List.length H) a):=by
 rw[je] at hm;have e:=trivial;refine wi acR func308 [] [(3,false,[true,true,true,false,true,true,true,true,false,true,true,true,true,true,false,true,true,true,true]),(8,true,[]),(11,false,[true,true,true,true,true,true,false,true,true,true,false,true,true,true,true,true,true,true])] 999 ?_;have⟨I,e,m⟩:=ep e hm;have⟨J,e,m⟩:=ep e m;have g:=HC.ey e.2;have e:=Aj e.1 g;rcases Io e m with⟨e,m⟩|⟨e,m⟩
 ·have⟨K,e,m⟩:=ep e m;have⟨L,e,m⟩:=ep e m;have⟨M,e,m⟩:=ep e m;have h:=HC.ey e.2;have e:=Aj e.1 h;have⟨N,e,m⟩:=ep e m;have⟨O,e,m⟩:=ep e m;have⟨o,j,e,m⟩:=gr e m;simp[e];refine Cs (D7 T (H:=H) e.2) ?_;cases m;simp[e]
 rcases Io e m with⟨e,m⟩|⟨e,m⟩
 ·have⟨p,e,m⟩:=ep e m;have⟨q,e,m⟩:=ep e m;have⟨r,e,m⟩:=ep e m;have b:=HC.ey e.2;have e:=Aj e.1 b;have⟨s,e,m⟩:=ep e m;cases m;simp[e]
 rcases Io e m with⟨e,m⟩|⟨e,m⟩
 ·have⟨t,e,m⟩:=ep e m;have⟨u,e,m⟩:=ep e m;have⟨v,e,m⟩:=ep e m;have c:=HC.ey e.2;have e:=Aj e.1 c;have⟨w,e,m⟩:=ep e m;cases m;simp[e]
 have⟨x,e,m⟩:=ep e m;have⟨y,e,m⟩:=ep e m;have⟨z,e,m⟩:=ep e m;have⟨A,e,m⟩:=ep e m;have⟨B,e,m⟩:=ep e m;have d:=HC.ey e.2;have e:=Aj e.1 d;rcases Io e m with⟨e,m⟩|⟨e,m⟩
 ·cases m;simp[e]
 have⟨C,e,m⟩:=ep e m;have⟨D,k,e,m⟩:=gr e m;simp[e];refine Cs (pP T (H:=H) e.2) ?_;have⟨E,e,m⟩:=ep e m;have f:=HC.ey e.2;have e:=Aj e.1 f;have⟨F,l,e,m⟩:=gr e m;simp[e];refine Cf (E5 T (H:=H) e.2) ?_;have⟨G,n,e,m⟩:=gr e m;simp[e];refine Cf (E5 T (H:=H) e.2) ?_;cases m;simp[e]
def BP(T:fh){H:eB}{a0:Option Nat}{nh:List HC}{t:Int}{a:List HC}(hm:mU a0 nh=some (t,a)):e_ prog T 307 [nb (List.length H) a0] (H++iK (List.length H) nh) (sI t) (H++iK (List.length H) a):=by
 rw[mU] at hm;have e:=trivial;refine wi acR func307 [] [(4,true,[]),(7,true,[]),(12,true,[])] 999 ?_;have⟨x1,e,m⟩:=ep e hm;have⟨x2,e,m⟩:=ep e m;have r:=HC.ey e.2;have e:=Aj e.1 r;rcases Io e m with⟨e,m⟩|⟨e,m⟩
 ·have⟨x4,e,m⟩:=ep e m;have⟨x5,e,m⟩:=ep e m;have⟨x6,e,m⟩:=ep e m;have s:=HC.ey e.2;have e:=Aj e.1 s;have⟨x8,e,m⟩:=ep e m;have⟨x9,e,m⟩:=ep e m;have⟨v,e,m⟩:=ep e m;have b:=HC.ey e.2;have e:=Aj e.1 b;have⟨w,e,m⟩:=ep e m;simp[e];refine Cs (BB T (H:=H) e.2) ?_;have⟨x,e,m⟩:=ep e m;have⟨y,e,m⟩:=ep e m;have⟨z,e,m⟩:=ep e m;have c:=HC.ey e.2;have e:=Aj e.1 c;cases m;simp[e]
 rcases Io e m with⟨e,m⟩|⟨e,m⟩
 ·have⟨A,e,m⟩:=ep e m;have⟨B,e,m⟩:=ep e m;have⟨C,e,m⟩:=ep e m;have d:=HC.ey e.2;have e:=Aj e.1 d;rcases Io e m with⟨e,m⟩|⟨e,m⟩;rotate_left
  ·have⟨D,e,m⟩:=ep e m;have⟨E,e,m⟩:=ep e m;have⟨F,e,m⟩:=ep e m;have f:=HC.ey e.2;have e:=Aj e.1 f;cases m;simp[e]
  have⟨G,e,m⟩:=ep e m;have⟨I,e,m⟩:=ep e m;have⟨J,e,m⟩:=ep e m;have g:=HC.ey e.2;have e:=Aj e.1 g;have⟨K,e,m⟩:=ep e m;have⟨L,e,m⟩:=ep e m;have⟨M,e,m⟩:=ep e m;have h:=HC.ey e.2;have e:=Aj e.1 h;have⟨N,e,m⟩:=ep e m;have⟨O,e,m⟩:=ep e m;have⟨P,e,m⟩:=ep e m;have i:=HC.ey e.2;have e:=Aj e.1 i;cases m;simp[e]
 rcases Io e m with⟨e,m⟩|⟨e,m⟩;rotate_left
 ·have⟨Q,u,e,m⟩:=gr e m;simp[e];refine Cf (s5 T (H:=H) e.2) ?_;have⟨R,e,m⟩:=ep e m;have⟨S,e,m⟩:=ep e m;have j:=HC.ey e.2;have e:=Aj e.1 j;cases m;simp[e]
 have⟨U,e,m⟩:=ep e m;have⟨V,e,m⟩:=ep e m;have⟨W,e,m⟩:=ep e m;have k:=HC.ey e.2;have e:=Aj e.1 k;rcases Io e m with⟨e,m⟩|⟨e,m⟩;rotate_left
 ·have⟨X,e,m⟩:=ep e m;have⟨Y,e,m⟩:=ep e m;have⟨Z,e,m⟩:=ep e m;have l:=HC.ey e.2;have e:=Aj e.1 l;cases m;simp[e]
 have⟨aa,e,m⟩:=ep e m;have⟨ab,e,m⟩:=ep e m;have⟨ad,e,m⟩:=ep e m;have n:=HC.ey e.2;have e:=Aj e.1 n;have⟨ae,e,m⟩:=ep e m;have⟨af,e,m⟩:=ep e m;have⟨ah,e,m⟩:=ep e m;have o:=HC.ey e.2;have e:=Aj e.1 o;have⟨ai,e,m⟩:=ep e m;have⟨aj,e,m⟩:=ep e m;have⟨ak,e,m⟩:=ep e m;have p:=HC.ey e.2;have e:=Aj e.1 p;have⟨al,e,m⟩:=ep e m;have⟨an,e,m⟩:=ep e m;have⟨ao,e,m⟩:=ep e m;have q:=HC.ey e.2;have e:=Aj e.1 q;cases m;simp[e]
def AL(T:fh){H:eB}{a0:Option Nat}{nh:List HC}{a:Int}(hm:pS a0 nh=some a):e_ prog T 307 [nb (List.length H) a0] (H++iK (List.length H) nh) (sI a) (H++iK (List.length H) nh):=by
 have⟨r,c,b,d⟩:=jl hm;obtain rfl:=iD d;obtain⟨X,rfl⟩:=Co b;exact fQ.uC (BP T b) (λ_ _ h=>⟨iK (List.length H) X,by rw[h.2];simp[wD],by rw[h.1];rfl,h.1,rfl⟩)
def Qe:su prog 300=true:=by kernel_rfl
def BE(T:fh):∀(n:Nat),(∀{H:eB} {a0:Option Nat} {a1:Int} {nh:List HC} {r0:Option Nat} {r1:Int} {al:List HC} (hm:jN n a0 a1 nh=some (r0,r1,al)),e_ prog T 300 [nb (List.length H) a0,sI a1] (H++iK (List.length H) nh) (AV.tuple [nb (List.length H) r0,sI r1]) (H++iK (List.length H) al)):=by
  intro n
  induction n with
  |zero=>
    skip
    all_goals(intro _ _;intros;rename_i hm;cases hm)
  |succ n ih=>
 intro H a0 a1 nh r0 r1 al hm;rw[jN] at hm;refine fQ.intro (fn:=f300) func300 rfl Qe (Sf rfl) ?_;refine gJ.sr [] λK1 bs=>?_;simp;apply bs;refine gJ.ux λK3 bt=>?_;refine gJ.sr [] λK5 bu=>?_;have⟨x7,j,an⟩:=eO hm;clear hm
 try dsimp only at an
 have⟨C,a,K⟩:=eO an;replace a:=HC.ey a;clear an
 try dsimp only at K
 simp[j,a];apply bu;refine gJ.tS λb6 b7 aU aV=>?_;rcases jr K with⟨b,aa⟩|⟨b,ab⟩
 ·clear K;simp[j,a,b];apply aU;refine gJ.sr [] λb8 aW=>?_;simp[j,a,b];apply aW;refine gJ.ret ?_;simp only[tC,GP] at aa;obtain⟨rfl,rfl,rfl⟩:=aa;simp[vR,j,a,b]
 clear K;simp[j,a,b];apply aV;refine gJ.skip ?_;apply bt;refine gJ.ux λb9 aX=>?_;refine gJ.sr [] λb_ aY=>?_;have⟨b',aZ,M⟩:=eO ab;clear ab
 try dsimp only at M
 simp[j,a,b];refine m0.fn (vh T (H:=H) aZ) ?_;simp[j,a,b];apply aY;refine gJ.tS λca cb a6 a7=>?_;rcases jr M with⟨c,ad⟩|⟨c,ae⟩
 ·clear M;simp[j,a,b,c];apply a6;refine gJ.ux λcc a8=>?_;refine gJ.ux λcd a_=>?_;refine gJ.Ur [] true acR (by decide+kernel) (by decide+kernel) ?_;have⟨cf,a',N⟩:=eO ad;clear ad
  try dsimp only at N
  simp[j,a,b,c];refine Df.fn (AL T (H:=H) a') (by simp) ?_;simp[j,a,b,c];apply a_;refine gJ.tS λcg ch ba bb=>?_;rcases jr N with⟨w,af⟩|⟨w,ah⟩
  ·clear N;simp[j,a,b,c,w];apply ba;refine gJ.sr [] λcj bc=>?_;simp[j,a,b,c,w];apply bc;refine gJ.ret ?_;simp only[tC,GP] at af;obtain⟨rfl,rfl,rfl⟩:=af;simp[vR,j,a,b,c,w]
  clear N;simp[j,a,b,c,w];apply bb;refine gJ.skip ?_;apply a8;refine gJ.sr [] λck bd=>?_;have⟨cm,bC,bf,P⟩:=jl ah;clear ah
  try dsimp only at P
  simp[j,a,b,c,w];refine m0.fn (s5 T (H:=H) bf) ?_;simp[j,a,b,c,w];apply bd;refine gJ.ret ?_;simp only[tC,GP] at P;obtain⟨rfl,rfl,rfl⟩:=P;simp[vR,j,a,b,c,w]
 clear M;simp[j,a,b,c];apply a7;refine gJ.skip ?_;apply aX;refine gJ.ux λcn bg=>?_;refine gJ.sr [] λcp bh=>?_;simp[j,a,b,c];apply bh;have⟨ao,ai⟩:=m9 ae;clear ae;have⟨bw,bj,Q⟩:=mu ai;clear ai
 try dsimp only at Q
 have⟨aq,y,s⟩:=eO Q;clear Q;refine gJ.z_ λcq bD bk bE aj=>?_;refine gJ.Nb (λn75 fr h=>∃(i76:Nat) (R:Int) (O:List HC),H++iK (List.length H) O=h/\(fr.env 0=nb (List.length H) a0/\fr.env 1=sI a1/\fr.env 31=sL (nb (List.length H)) C.acN/\fr.env 32=sI (eN C.acN)/\fr.env 33=sI R)/\R=(i76:Int)/\i76+n75=List.length C.acN/\fo bw (List.drop i76 C.acN) i76 O=some aq) (List.length C.acN) ?_ ?_
 ·refine⟨0,0,nh,?_,⟨?_,?_,?_,?_,?_⟩,rfl,(by simp),y⟩<;>first|rfl|simp[j,a,b,c]
 rintro n75 bl cr ⟨i76,R,O,rfl,p,D,bF,y⟩ cu bm;rcases n75 with _|n75
 ·have e:=M1 (l:=C.acN) D (by omega);refine gJ.sr [] λcw bn=>?_;simp[p,j,a,e,b,c];apply bn;refine gJ.ux λcx bG=>?_;refine gJ.tS λcy cz bH bo=>?_;simp[p,j,a,e,b,c];apply bo;refine gJ.exit ?_;apply bk;rw[Iz (by omega),pw] at y;obtain rfl:=iD y;rw[en] at s
  try dsimp only at s
  apply bg;refine gJ.sr [] λcA bp=>?_;have⟨t,z,S⟩:=eO s;replace z:=HC.ey z;clear s
  try dsimp only at S
  have U:gC (iK (List.length H) O) x7 [sI t.acM,sI t.acP,sI t.pM.acM,sL Ty.av t.pM.acN,sL (nb (List.length H)) t.acN,sI t.size,sI t.free,sB true]=iK (List.length H) (kF O x7 (HC.eS (eR.mk t.acM t.acP t.pM t.acN t.size t.free true))):=qb rfl;have V:(kF O x7 (HC.eS (eR.mk t.acM t.acP t.pM t.acN t.size t.free true)))[x7]?=some (HC.eS (eR.mk t.acM t.acP t.pM t.acN t.size t.free true)):=wI z;simp[p,j,a,e,z,U,V,b,c];apply bp;refine gJ.sr [] λbI ar=>?_;simp[p,j,a,e,z,U,V,b,c];apply ar;refine gJ.ret ?_;simp only[tC,GP] at S;obtain⟨rfl,rfl,rfl⟩:=S;simp[vR,p,j,a,e,z,U,V,b,c]
 have e:=Pn (l:=C.acN) D (by omega);have⟨bJ,au,i⟩:=LC (l:=C.acN) D (by omega);rw[au,fl] at y;have⟨bK,A,v⟩:=eO y;clear y;rw[bj,<-D] at A
 try dsimp only at A
 refine gJ.sr [] λbL aw=>?_;simp[p,j,a,e,i,b,c];apply aw;refine gJ.ux λbM ax=>?_;refine gJ.tS λbN bO ay bx=>?_;simp[p,j,a,e,i,b,c];apply ay;refine gJ.skip ?_;apply ax;refine gJ.ux λbP az=>?_;refine gJ.z_ λbQ aA bz bA W=>?_;refine gJ.sr [] λbR aB=>?_;simp[p,j,a,e,i,b,c];apply aB;refine gJ.sr [] λbS aC=>?_;have⟨ak,bT,aD,aE,B⟩:=Bn A;clear A
 try dsimp only at B
 simp[p,j,a,e,i,b,c];refine m0.fn (ih (H:=H) aE) ?_;simp[p,j,a,e,i,b,c];apply aC;refine gJ.ux λbU aF=>?_;refine gJ.sr [] λbV aG=>?_;simp[p,j,a,e,i,b,c];apply aG;refine gJ.tS λbW bX aH aI=>?_;rcases jr B with⟨m,aJ⟩|⟨m,F⟩
 ·clear B;simp[p,j,a,e,i,b,c,m];apply aH;refine gJ.sr [] λbY aK=>?_;simp[p,j,a,e,i,b,c,m];apply aK;refine gJ.ret ?_;apply W;apply aj;obtain rfl:=iD aJ;rw[zD] at v;obtain rfl:=iD v;rw[qs] at s
  try dsimp only at s
  simp only[tC,GP] at s;obtain⟨rfl,rfl,rfl⟩:=s;simp[vR,p,j,a,e,i,b,c,m]
 clear B;simp[p,j,a,e,i,b,c,m];apply aI;refine gJ.skip ?_;apply aF;refine gJ.sr [] λbZ aL=>?_;simp[p,j,a,e,i,b,c,m];apply aL;refine gJ.tS λb0 b1 aM aN=>?_;rcases jr F with⟨o,X⟩|⟨o,aO⟩;rotate_left
 ·clear F;simp[p,j,a,e,i,b,c,m,o];apply aN;refine gJ.skip ?_;apply aA;apply az;refine gJ.region [] (by decide+kernel) ?_;simp[p,j,a,e,i,b,c,m,o];obtain rfl:=iD aO;rw[fv] at v
  refine bm _ _ n75 (ZM _) ⟨(i76+1),(fk .i64 R 1),aD,?_,⟨?_,?_,?_,?_,?_⟩,(JN D (by omega) ao),(by omega),v⟩<;>first|rfl|simp[p,j,a,e,i,b,c,m,o]
 clear F;simp[p,j,a,e,i,b,c,m,o];apply aM;refine gJ.sr [] λb2 aP=>?_;have⟨E,q,G⟩:=eO X;replace q:=HC.ey q;clear X
 try dsimp only at G
 have⟨aQ,Y⟩:=m9 G;clear G;simp[p,j,a,e,i,q,b,c,m,o];refine sC.Xk (f:=(nb (List.length H))) E.acN Pw ⟨_,Vx⟩ (by intro x;simp) aQ (by first|rfl|simp) (by first|rfl|simp) λI bq=>?_;simp[p,j,a,e,i,q,b,c,m,o];apply aP;refine gJ.sr [] λb3 aR=>?_;have⟨br,r,J⟩:=eO Y;clear Y
 try dsimp only at J
 have u:=HI r;simp[p,j,a,e,i,q,r,u,b,c,m,o];refine zN.arr (f:=(nb (List.length H))) (L:=E.acN) (k:=((I-List.length E.acN)*1)) ak Wx (by intro x;simp) (by simp[p,j,a,e,i,q,r,u,b,c,m,o]) (x:=br) (by assumption) (by simp[p,j,a,e,i,q,r,u,b,c,m,o]) (by simp[p,j,a,e,i,q,r,u,b,c,m,o]) (by simp[p,j,a,e,i,q,r,u,b,c,m,o]) ?_;simp[p,j,a,e,i,q,r,u,b,c,m,o];apply aR;refine gJ.ux λb4 aS=>?_;refine gJ.Zj 10 (f:=(nb (List.length H))) (L:=(xj E.acN R ak)) (k:=((I-List.length E.acN)*1)) (sz:=1) (d:=53) (g:=(bl.gen 53+1)) (cap:=I) (by intro x;simp) (by intro x;simp) (by simp[p,j,a,e,i,q,r,u,b,c,m,o]) (by simp[p,j,a,e,i,q,r,u,b,c,m,o]) (by simp[p,j,a,e,i,q,r,u,b,c,m,o]) ?_;refine gJ.region [] (by decide+kernel) ?_;have⟨b5,bB,aT,Z⟩:=jl J;clear J
 try dsimp only at Z
 simp[p,j,a,e,i,q,r,u,b,c,m,o];refine m0.fn (pP T (H:=H) aT) ?_;simp[p,j,a,e,i,q,r,u,b,c,m,o];apply aS;refine gJ.ret ?_;apply W;apply aj;obtain rfl:=iD Z;rw[zD] at v;obtain rfl:=iD v;rw[qs] at s
 try dsimp only at s
 simp only[tC,GP] at s;obtain⟨rfl,rfl,rfl⟩:=s;simp[vR,p,j,a,e,i,q,r,u,b,c,m,o]
def Cn(T:fh){H:eB}{a0:Option Nat}{a1:Int}{nh:List HC}{b:Option Nat}{c:Int}{a:List HC}{n:Nat}(hm:jN n a0 a1 nh=some (b,c,a)):e_ prog T 300 [nb (List.length H) a0,sI a1] (H++iK (List.length H) nh) (AV.tuple [nb (List.length H) b,sI c]) (H++iK (List.length H) a):=(BE T n) hm
def AT(T:fh){H:eB}{a0:Option Nat}{nh:List HC}{r:Bool}{s:Int}{j:List HC}(hm:j1 a0 nh=some (r,s,j)):e_ prog T 282 [nb (List.length H) a0] (H++iK (List.length H) nh) (AV.tuple [sB r,sI s]) (H++iK (List.length H) j):=by
 rw[j1] at hm;have e:=trivial;refine wi acR func282 [] [(1,true,[true,true,true,true,true,true,true,true,true,true,false,true,true,true,true,true])] 5 ?_;have⟨d,e,m⟩:=ep e hm;have⟨v,e,m⟩:=ep e m;have p:=HC.gZ e.2;have e:=Aj e.1 p;have⟨w,e,m⟩:=ep e m;simp[e];refine Cs (B5 T (H:=H) e.2) ?_;have⟨c,q,b,e,m⟩:=Le e m;simp[e];refine Dg.fn (Cn T (H:=H) e.2) ?_;simp[e];refine wj 999 999 (λf h=>h=H++iK (List.length H) b/\f.1 0=nb (List.length H) a0/\f.1 4=nb (List.length H) c/\f.1 5=sI q/\f.1 25=sB (fW (eW q 0) true (Option.isNone c))) (λx k=>?_) ?_
 ·rcases Pb (eW q 0) e with e|e
  ·simp[e];exact k _ _ (by simp[e])
  simp[e];exact k _ _ (by simp[e])
 rintro t u E;have e:=Aj e E;rcases Io e m with⟨e,m⟩|⟨e,m⟩
 ·cases m;simp[e]
 have⟨a,e,m⟩:=ep e m;have g:=HC.gZ e.2;have e:=Aj e.1 g;have l:gC (iK (List.length H) b) d [nb (List.length H) c,sI a.steps]=iK (List.length H) (kF b d (HC.gf (fY.mk c a.steps))):=qb rfl;have e:=Aj e l;have i:(kF b d (HC.gf (fY.mk c a.steps)))[d]?=some (HC.gf (fY.mk c a.steps)):=wI g;have e:=Aj e i;have n:gC (iK (List.length H) (kF b d (HC.gf (fY.mk c a.steps)))) d [nb (List.length H) c,sI (fk .i64 a.steps 1)]=iK (List.length H) (kF (kF b d (HC.gf (fY.mk c a.steps))) d (HC.gf (fY.mk c (fk .i64 a.steps 1)))):=qb rfl;have e:=Aj e n;have o:(kF (kF b d (HC.gf (fY.mk c a.steps))) d (HC.gf (fY.mk c (fk .i64 a.steps 1))))[d]?=some (HC.gf (fY.mk c (fk .i64 a.steps 1))):=wI i;have e:=Aj e o;cases m;simp[e]
def Bo(T:fh):∀(n:Nat),(∀{H:eB} {a0:Option Nat} {nh:List HC} {j:Tm} (hm:iW n a0 nh=some j),e_ prog T 283 [nb (List.length H) a0] (H++iK (List.length H) nh) (Tm.av j) (H++iK (List.length H) nh)):=by
  intro n
  induction n with
  |zero=>
   skip
   all_goals(intro _ _;intros;rename_i hm;cases hm)
  |succ n r=>
 intro H a0 nh j hm;rw[iW] at hm;have e:=trivial;refine wi acR func283 [] [(1,true,[])] 999 ?_;have⟨w,e,m⟩:=ep e hm;have⟨i,e,m⟩:=ep e m;have k:=HC.ey e.2;have e:=Aj e.1 k;have⟨o,e,m⟩:=ep e m;simp[e];refine Cs (sM e.2) ?_;simp[e];refine Wr e m 999 (λp c f h=>∃(a:Tag),(h=H++iK (List.length H) nh/\f.1 2=AV.eD 2 (f.gen 2) 0/\f.1 3=AV.eD 3 (f.gen 3) 0/\f.1 23=sL (nb (List.length H)) i.acN/\f.1 24=sI (eN i.acN)/\f.1 25=sI p/\f.box 2=some [sI 0,sI 0,sI 0,AV.slice .full [],AV.slice .full []]/\f.box 3=some [sI i.acM,sI i.acP,sI o.acM,sL Ty.av o.acN,sT a Tm.av c])/\Ow f [34] a c) (by exact⟨.full,by simp[e],js.full⟩) (λc d s t E m=>?_) (λp x c d s t u v E e m z12 g=>?_)
 ·have⟨a,E,b⟩:=E;have e:=Aj e E;dsimp only[en]at m;cases m;simp[e]
 have⟨a,E,b⟩:=E;have e:=Aj e E;have q:=e;have⟨l,e,m⟩:=ep e m;simp[e];refine Cs (r (H:=H) e.2) ?_;have⟨e,m⟩:=Ck e m;simp[e];refine Ad (f:=Tm.av) c [l] b CX e.2 ?_;simp[e];cases m;exact g _ _ _ ⟨(.loc 34 (d.fP 34+1)),by simp[e],(On 34)⟩ z12
def wC(T:fh){H:eB}{a0:Option Nat}{nh:List HC}{a:Tm}{n:Nat}(hm:iW n a0 nh=some a):e_ prog T 283 [nb (List.length H) a0] (H++iK (List.length H) nh) (Tm.av a) (H++iK (List.length H) nh):=(Bo T n) hm
def zj(T:fh):∀(n:Nat),(∀{H:eB} {a0:Option Nat} {nh:List HC} {l:Bool} {c:List HC} (hm:jx n a0 nh=some (l,c)),e_ prog T 284 [nb (List.length H) a0] (H++iK (List.length H) nh) (sB l) (H++iK (List.length H) c)):=by
  intro n
  induction n with
  |zero=>
    skip
    all_goals(intro _ _;intros;rename_i hm;cases hm)
  |succ n u=>
 intro H a0 nh l c hm;rw[jx] at hm;have e:=trivial;refine wi acR func284 [] [] 999 ?_;have⟨k,e,m⟩:=ep e hm;have⟨q,e,m⟩:=ep e m;have o:=HC.ey e.2;have e:=Aj e.1 o;rcases Io e m with⟨e,m⟩|⟨e,m⟩
 ·cases m;simp[e]
 have⟨A,e,m⟩:=ep e m;simp[e];refine Cf (vh T (H:=H) e.2) ?_;rcases Io e m with⟨e,m⟩|⟨e,m⟩
 ·cases m;simp[e]
 simp[e];refine Wr e m 999 (λr d f h=>h=H++iK (List.length H) d/\f.1 0=nb (List.length H) a0/\f.1 14=sL (nb (List.length H)) q.acN/\f.1 15=sI (eN q.acN)/\f.1 16=sI r) (by simp[e]) (λd p v w E m=>?_) (λr B d p v w x y E e m z12 g=>?_);rotate_left
 ·have e:=Aj e E;have s:=e;have⟨z,t,e,m⟩:=gr e m;simp[e];refine Cf (u (H:=H) e.2) ?_;rcases Io e m with⟨e,m⟩|⟨e,m⟩;rotate_left
  ·cases m;cases z12;simp[e]
  simp[e];cases m;exact g _ _ _ (by simp[e]) z12
 have e:=Aj e E;dsimp only[en]at m;have⟨a,e,m⟩:=ep e m;have b:=HC.ey e.2;have e:=Aj e.1 b;have i:gC (iK (List.length H) d) k [sI a.acM,sI a.acP,sI a.pM.acM,sL Ty.av a.pM.acN,sL (nb (List.length H)) a.acN,sI a.size,sI a.free,sB true]=iK (List.length H) (kF d k (HC.eS (eR.mk a.acM a.acP a.pM a.acN a.size a.free true))):=qb rfl;have e:=Aj e i;have j:(kF d k (HC.eS (eR.mk a.acM a.acP a.pM a.acN a.size a.free true)))[k]?=some (HC.eS (eR.mk a.acM a.acP a.pM a.acN a.size a.free true)):=wI b;have e:=Aj e j;cases m;simp[e]
def AU(T:fh){H:eB}{a0:Option Nat}{nh:List HC}{b:Bool}{a:List HC}{n:Nat}(hm:jx n a0 nh=some (b,a)):e_ prog T 284 [nb (List.length H) a0] (H++iK (List.length H) nh) (sB b) (H++iK (List.length H) a):=(zj T n) hm
def um(T:fh)(v:qv T){H:eB}{a0:Tm}{a1:Int}{r:Tm}{s t:Int}(hm:kM a0 a1=some (r,s,t)):e_ prog T 249 [Tm.av a0,sI a1] H (AV.tuple [Tm.av r,sI s,sI t]) H:=by
 rw[kM] at hm;refine fQ.uC (Post:=λx K=>x=AV.tuple [Tm.av r,sI s,sI t]/\∃X,K=H++X) ?_ (λ_ _ h=>⟨_,h.2.choose_spec,by rw[h.1];simp[AV.low,AV.jj],h.1,rfl⟩);refine fQ.Zm (c:=HC.cells) ?_;have e:=v;refine wi acR func249 [32] [(12,true,[]),(15,true,[])] 7 ?_;have⟨U,e,m⟩:=ep e hm;simp[e];refine Cf (wY T v e.2) ?_;simp[e];rcases Io e m with⟨e,m⟩|⟨e,m⟩
 ·apply wg 999;cases m;simp[e]
 apply wg 3;simp[e];refine Wj m 999 999 (λw f h=>∃(v3:Bool),(h=H++iK (List.length H) ([]:List HC)/\f.1 1=sI a1/\f.1 2=AV.eD 2 (f.gen 2) 0/\f.1 4=AV.eD 4 (f.gen 4) 0/\f.1 27=sB v3/\f.box 2=some (Tm.av a0).cells/\f.box 4=some [sI 0,sI 0,sI 0,AV.slice .full [],AV.slice .full []])/\w v3=some (r,s,t)) (λw V d m=>?_) ?_
 ·rcases Io e m with⟨e,m⟩|⟨e,m⟩
  ·simp[e];exact d _ _ ⟨true,by simp[e],m⟩
  rcases Io e m with⟨e,m⟩|⟨e,m⟩
  ·simp[e];exact d _ _ ⟨true,by simp[e],m⟩
  have⟨B,e,m⟩:=ep e m;simp[e];refine Cf (LH T e.2) ?_;simp[e];exact d _ _ ⟨(nB B),by simp[e],m⟩
 rintro C W ⟨v3,E,m⟩;have e:=Aj e E;rcases Io e m with⟨e,m⟩|⟨e,m⟩
 ·cases m;simp[e]
 have⟨u,a,e,m⟩:=gr e m;simp[e];refine Cf (Ld T (H:=H) e.2) ?_;have g:iK (List.length H) a++[[nb (List.length H) u,sI 0]]=iK (List.length H) (a++[HC.gf (fY.mk u 0)]):=JS rfl;have e:=Aj e g;have i:(a++[HC.gf (fY.mk u 0)])[(List.length a)]?=some (HC.gf (fY.mk u 0)):=O4;have e:=Aj e i;simp[e];refine Wn m 3 (λj f h=>h=H++iK (List.length H) j/\f.1 1=sI a1/\f.1 4=AV.eD 4 (f.gen 4) 0/\f.1 8=AV.fT (List.length H+(List.length a)) 0/\f.box 4=some [sI 0,sI 0,sI 0,AV.slice .full [],AV.slice .full []]) (by simp[e]) (λj y D F G I E m b k=>?_);have e:=Aj e E;have l:=e;have⟨J,e,m⟩:=ep e m;have n:=HC.gZ e.2;have e:=Aj e.1 n;simp[e];rcases Io e m with⟨e,m⟩|⟨e,m⟩
 ·apply wg 999;have⟨L,M,z,e,m⟩:=Le e m;simp[e];refine Cf (AT T (H:=H) e.2) ?_;rcases Io e m with⟨e,m⟩|⟨e,m⟩
  ·cases m;cases b;simp[e]
  rcases Io e m with⟨e,m⟩|⟨e,m⟩
  ·simp[e];cases m;exact k _ _ _ (by simp[e]) b
  have⟨N,e,m⟩:=ep e m;have o:=HC.gZ e.2;have e:=Aj e.1 o;have⟨O,e,m⟩:=ep e m;simp[e];refine Cs (wC T (H:=H) e.2) ?_;cases m;cases b;simp[e]
 apply wg 2;simp[e];cases m;have m:=Qb b
 try dsimp only at m
 have e:=l;apply wg 999;have⟨P,e,m⟩:=ep e m;have p:=HC.gZ e.2;have e:=Aj e.1 p;have⟨Q,A,e,m⟩:=gr e m;simp[e];refine Cf (AU T (H:=H) e.2) ?_;rcases Io e m with⟨e,m⟩|⟨e,m⟩;rotate_left
 ·cases m;simp[e]
 have⟨R,e,m⟩:=ep e m;have q:=HC.gZ e.2;have e:=Aj e.1 q;have⟨S,e,m⟩:=ep e m;simp[e];refine Cs (wC T (H:=H) e.2) ?_;cases m;simp[e]
def Gh(T:fh)(a:qv T){H:eB}{a0 a1:Tm}{a2 b:Int}(hm:lM a0 a1 a2=some b):e_ prog T 231 [Tm.av a0,Tm.av a1,sI a2] H (sI b) H:=by
 rw[lM] at hm;have e:=a;refine wi acR func231 [] [] 999 ?_;have⟨d,e,m⟩:=ep e hm;simp[e];refine Cf (wY T a e.2) ?_;rcases Io e m with⟨e,m⟩|⟨e,m⟩
 ·cases m;simp[e]
 have⟨f,e,m⟩:=ep e m;simp[e];refine Cf (wY T a e.2) ?_;rcases Io e m with⟨e,m⟩|⟨e,m⟩
 ·cases m;simp[e]
 have⟨g,e,m⟩:=ep e m;simp[e];refine Cf (De e.2) ?_;rcases Io e m with⟨e,m⟩|⟨e,m⟩
 ·cases m;simp[e]
 have⟨h,i,j,e,m⟩:=Le e m;simp[e];refine Cf (um T a e.2) ?_;rcases Io e m with⟨e,m⟩|⟨e,m⟩
 ·cases m;simp[e]
 have⟨k,l,n,e,m⟩:=Le e m;simp[e];refine Cf (um T a e.2) ?_;rcases Io e m with⟨e,m⟩|⟨e,m⟩
 ·cases m;simp[e]
 have⟨c,e,m⟩:=ep e m;simp[e];refine Cf (De e.2) ?_;rcases Io e m with⟨e,m⟩|⟨e,m⟩
 ·cases m;simp[e]
 cases m;simp[e]
def DO(T:fh)(s:qv T):∀(n:Nat),(∀{H:eB} {a0:Fm} {a1:Fm} {l:Int} (hm:jM n a0 a1=some l),e_ prog T 169 [Fm.av a0,Fm.av a1] H (sI l) H):=by
  intro n
  induction n with
  |zero=>
    skip
    all_goals(intro _ _;intros;rename_i hm;cases hm)
  |succ n w=>
 intro H a0 a1 l hm;rw[jM] at hm;have e:=s;refine wi acR func169 [] [] 3 ?_;simp[e];refine Wj hm 999 999 (λt f h=>∃(v2:Bool),(h=H/\f.1 2=AV.eD 2 (f.gen 2) 0/\f.1 3=AV.eD 3 (f.gen 3) 0/\f.1 23=sB v2/\f.box 2=some (Fm.av a0).cells/\f.box 3=some (Fm.av a1).cells)/\t v2=some l) (λt M a m=>?_) ?_
 ·rcases Io e m with⟨e,m⟩|⟨e,m⟩
  ·simp[e];exact a _ _ ⟨true,by simp[e],m⟩
  have⟨x,e,m⟩:=ep e m;simp[e];refine Cf (py e.2) ?_;simp[e];exact a _ _ ⟨(nB x),by simp[e],m⟩
 rintro y N ⟨v2,E,m⟩;have e:=Aj e E;rcases Io e m with⟨e,m⟩|⟨e,m⟩
 ·cases m;simp[e]
 simp[e];refine Wr e m 999 (λu v f h=>h=H/\f.1 2=AV.eD 2 (f.gen 2) 0/\f.1 3=AV.eD 3 (f.gen 3) 0/\f.1 25=sL Tm.av a0.ek/\f.1 26=sI (eN a0.ek)/\f.1 27=sI u/\f.box 2=some (Fm.av a0).cells/\f.box 3=some (Fm.av a1).cells) (by simp[e]) (λv o z p E m=>?_) (λu A v o z p B C E e m b c=>?_);rotate_left
 ·have e:=Aj e E;have⟨D,e,m⟩:=ep e m;have⟨F,e,m⟩:=ep e m;simp[e];refine Cs (Gh T s e.2) ?_;rcases Io e m with⟨e,m⟩|⟨e,m⟩
  ·cases m;cases b;simp[e]
  simp[e];cases m;exact c _ _ _ (by simp[e]) b
 have e:=Aj e E;dsimp only[en]at m;simp[e];refine Wr e m 999 (λd g f h=>h=H/\f.1 3=AV.eD 3 (f.gen 3) 0/\f.1 44=sL Fm.av a0.acN/\f.1 45=sI (eN a0.acN)/\f.1 46=sI d/\f.box 3=some (Fm.av a1).cells) (by simp[e]) (λg i q r E m=>?_) (λd G g i q r I J E e m j k=>?_)
 ·have e:=Aj e E;dsimp only[en]at m;cases m;simp[e]
 have e:=Aj e E;have⟨K,e,m⟩:=ep e m;have⟨L,e,m⟩:=ep e m;simp[e];refine Cs (w e.2) ?_;rcases Io e m with⟨e,m⟩|⟨e,m⟩
 ·cases m;cases j;simp[e]
 simp[e];cases m;exact k _ _ _ (by simp[e]) j
def FF(T:fh)(b:qv T){H:eB}{a0 a1:Fm}{a:Int}{n:Nat}(hm:jM n a0 a1=some a):e_ prog T 169 [Fm.av a0,Fm.av a1] H (sI a) H:=(DO T b n) hm
def uy(T:fh)(a:qv T){H:eB}{a0 a1:Fm}{b:Int}(hm:i_ a0 a1=some b):e_ prog T 107 [Fm.av a0,Fm.av a1] H (sI b) H:=by
 rw[i_] at hm;have e:=a;refine wi acR func107 [] [] 999 ?_;have⟨c,e,m⟩:=ep e hm;simp[e];refine Cf (px T a e.2) ?_;rcases Io e m with⟨e,m⟩|⟨e,m⟩
 ·cases m;simp[e]
 have⟨d,e,m⟩:=ep e m;simp[e];refine Cf (px T a e.2) ?_;rcases Io e m with⟨e,m⟩|⟨e,m⟩
 ·cases m;simp[e]
 have⟨f,e,m⟩:=ep e m;simp[e];refine Cf (FF T a e.2) ?_;cases m;simp[e]
def pZ:C2 prog 194 fZ eg.av eg.av (sL Ty.av):=by
 intro T H a0 a1 r hm;rw[fZ] at hm;have e:=trivial;refine wi acR func194 [] [] 999 ?_;have⟨a,e,m⟩:=ep e hm;simp[e];refine Cf (nq e.2) ?_;cases m;simp[e]
def sP:C3 prog 195 ki Fm.av sI Ty.av Fm.av:=by
 intro T H a0 a1 a2 r hm;rw[ki] at hm;have e:=trivial;refine wi acR func195 [] [] 999 ?_;have e:=Aj e (show AV.agg [sI a0,sI a1.acM,sL Ty.av a1.acN,AV.slice .iR [],AV.slice .iR [Fm.av a2]]=Fm.av (Fm.mk a0 a1 [] [a2]) by rw[Fm.fL];rfl);cases hm;simp[e]
def o9:C2 prog 196 fH (λn=>AV.sc (Value.int .u32 n)) (λn=>AV.sc (Value.int .u32 n)) sI:=by
 intro T H a0 a1 r hm;rw[fH] at hm;have e:=trivial;refine wi acR func196 [] [] 999 ?_;have⟨e,m⟩:=Ck e hm;cases m;simp[e]
def Fo(T:fh){H:eB}{a0 a1 a b:Int}{q0:Nat}(c:H[q0]?=some [AV.sc (.int .u32 a)])(hm:oh a0 a1 a=some b):e_ prog T 244 [sI a0,sI a1,AV.fT q0 0] H (AV.tuple []) (gC H q0 [AV.sc (.int .u32 b)]):=by
 rw[oh] at hm;have d:=gn c;refine fQ.Nq c ?_;have e:=d;refine wi acR func244 [] [(1,false,[false,true,true,true,true,true,false])] 999 ?_;rcases Io e hm with⟨e,m⟩|⟨e,m⟩;rotate_left
 ·cases m;simp[e]
 have⟨e,m⟩:=Ck e m;cases m;simp[e]
def wU(T:fh){H:eB}{a0:Tm}{a:Int}(hm:kG a0=some a):e_ prog T 198 [Tm.av a0] H (AV.sc (.int .u32 a)) H:=by
 rw[kG] at hm;refine fQ.uC (Post:=λx K=>x=AV.sc (.int .u32 a)/\∃X,K=H++X) ?_ (λ_ _ h=>⟨_,h.2.choose_spec,by rw[h.1];simp[AV.low,AV.jj],h.1,rfl⟩);have e:=trivial;refine wi acR func198 [3] [] 999 ?_;have⟨s1,e,m⟩:=ep e hm;simp[e];refine Cf (zQ T (st:=λs:Int=>H++[[AV.sc (.int .u32 s)]]) (B2.SD H (λs:Int=>[[AV.sc (.int .u32 s)]]) 1 (λ_=>rfl) (by simp[AV.low,AV.jj])) (λX s _ _ b h=>by have:=Fo T (H:=H++[[AV.sc (.int .u32 s)]]++X) (q0:=(List.length H)) (by simp[e]) h;simpa using this) e.2) ?_;cases m;simp[e]
def qT:C2 prog 199 iB sB ed.av Ty.av:=by
 intro T H a0 a1 r hm;rw[iB] at hm;have e:=trivial;refine wi acR func199 [] [] 999 ?_;have⟨a,e,m⟩:=ep e hm;simp[e];refine Cs (rL e.2) ?_;have⟨b,e,m⟩:=ep e m;simp[e];refine Cs (qX e.2) ?_;cases m;simp[e]
def GZ(T:fh){H:eB}{a0 a1 a b c:Int}{q0 q1:Nat}(d:H[q0]?=some [sI a])(f:H[q1]?=some [sI b])(g:q0≠q1)(hm:oV a0 a1 a b=some c):e_ prog T 296 [sI a0,sI a1,AV.fT q0 0,AV.fT q1 0] H (AV.tuple []) (gC H q1 [sI c]):=by
 rw[oV] at hm;have h:=gn d;have i:=gn f;refine fQ.Nq f ?_;have e:=Aj (Aj (Aj (Aj h d) i) g) g.symm;refine wi acR func296 [] [] 999 ?_;rcases Io e hm with⟨e,m⟩|⟨e,m⟩
 ·cases m;simp[e]
 cases m;simp[e]
def C7(T:fh){H:eB}{a0:Tm}{a1 a:Int}(hm:tq a0 a1=some a):e_ prog T 277 [Tm.av a0,sI a1] H (sI a) H:=by
 rw[tq] at hm;refine fQ.uC (Post:=λx K=>x=sI a/\∃X,K=H++X) ?_ (λ_ _ h=>⟨_,h.2.choose_spec,by rw[h.1];simp[AV.low,AV.jj],h.1,rfl⟩);have e:=trivial;refine wi acR func277 [3,5] [] 999 ?_;have⟨s1,e,m⟩:=ep e hm;simp[e];refine Cf (zQ T (st:=λs:Int=>H++[[sI a1],[sI s]]) (B2.SD H (λs:Int=>[[sI a1],[sI s]]) 2 (λ_=>rfl) (by simp[AV.low,AV.jj])) (λX s _ _ b h=>by have:=GZ T (H:=H++[[sI a1],[sI s]]++X) (q0:=(List.length H)) (q1:=(List.length H+1)) (by simp[e]) (by simp[e]) (by simp[e]) h;simpa using this) e.2) ?_;cases m;simp[e]
def yS(T:fh){H:eB}{a0:Tm}{a1 a b c:Int}{q0 q1:Nat}(d:H[q0]?=some [sI a])(f:H[q1]?=some [sI b])(g:q0≠q1)(hm:jU a0 a1 a b=some c):e_ prog T 276 [Tm.av a0,sI a1,AV.fT q0 0,AV.fT q1 0] H (AV.tuple []) (gC H q0 [sI c]):=by
 rw[jU] at hm;have h:=gn d;have i:=gn f;refine fQ.Nq d ?_;have e:=Aj (Aj (Aj (Aj h i) f) g) g.symm;refine wi acR func276 [] [(1,true,[true,true,true,true,true,true,true,false])] 999 ?_;have⟨j,e,m⟩:=ep e hm;simp[e];refine Cs (C7 T e.2) ?_;cases m;simp[e]
def Eg(T:fh):∀(n:Nat),(∀{S:Type} {st:S->eB} {k:Nat} {a0:Fm} {a1:Int} {a2:(S->Tm->Int->Option (S))} {d:S} {b:S} {g2:Nat} {a:List AV} (hF:B2 st k) (g:Dp T g2 a st a2) (hm:mP n a0 a1 a2 d=some b),e_ prog T 275 [Fm.av a0,sI a1,AV.func (.func g2) [] a] (st d) (AV.tuple []) (st b)):=by
  intro n
  induction n with
  |zero=>
    skip
    all_goals(intro _ _;intros;rename_i hm;cases hm)
  |succ n w=>
 intro S st k a0 a1 a2 d b g2 a hF g hm;rw[mP] at hm;have e:=hF.len;refine wi acR func275 [] [] 999 ?_;simp[e];refine Wr e hm 0 (λu s2 f h=>h=st s2/\f.1 1=sI a1/\f.1 2=AV.func (.func g2) [] a/\f.1 3=AV.eD 3 (f.gen 3) 0/\f.1 11=sL Tm.av a0.ek/\f.1 12=sI (eN a0.ek)/\f.1 13=sI u/\f.box 3=some (Fm.av a0).cells) (by simp[e]) (λs2 q x y E m=>?_) (λu J s2 q x y n6 K E e m z r=>?_);rotate_left
 ·have e:=Aj e E;apply wg 999;have⟨A,e,m⟩:=ep e m;simp[e];refine m0.UG (by rfl) (Dp.Xm g e.2) ?_;simp[e];cases m;exact r _ _ _ (by simp[e]) z
 have e:=Aj e E;apply wg 5;dsimp only[en]at m;simp[e];refine Wj m 999 999 (λj f h=>∃(v12:Int),(h=st s2/\f.1 1=sI v12/\f.1 2=AV.func (.func g2) [] a/\f.1 3=AV.eD 3 (f.gen 3) 0/\f.box 3=some (Fm.av a0).cells)/\j v12=some b) (λj B c m=>?_) ?_
 ·have⟨C,e,m⟩:=ep e m;simp[e];refine Cf (wH e.2) ?_;rcases Io e m with⟨e,m⟩|⟨e,m⟩;rotate_left
  ·simp[e];exact c _ _ ⟨a1,by simp[e],m⟩
  simp[e];exact c _ _ ⟨(fk .i64 a1 1),by simp[e],m⟩
 rintro v D ⟨v12,E,m⟩;have e:=Aj e E;simp[e];refine Wr e m 999 (λl i f h=>h=st i/\f.1 1=sI v12/\f.1 2=AV.func (.func g2) [] a/\f.1 28=sL Fm.av a0.acN/\f.1 29=sI (eN a0.acN)/\f.1 30=sI l) (by simp[e]) (λi o s t E m=>?_) (λl F i o s t G H E e m z24 p=>?_)
 ·have e:=Aj e E;dsimp only[en]at m;cases m;simp[e]
 have e:=Aj e E;have⟨I,e,m⟩:=ep e m;simp[e];refine Cf (w hF g e.2) ?_;simp[e];cases m;exact p _ _ _ (by simp[e]) z24
def Fk(T:fh){S:Type}{st:S->eB}{k:Nat}{a0:Fm}{a1:Int}{a2:(S->Tm->Int->Option (S))}{b c:S}{g2:Nat}{a:List AV}(hF:B2 st k)(d:Dp T g2 a st a2){n:Nat}(hm:mP n a0 a1 a2 b=some c):e_ prog T 275 [Fm.av a0,sI a1,AV.func (.func g2) [] a] (st b) (AV.tuple []) (st c):=(Eg T n) hF d hm
def qY(T:fh){H:eB}{a0:Fm}{a1 a:Int}(hm:k5 a0 a1=some a):e_ prog T 246 [Fm.av a0,sI a1] H (sI a) H:=by
 rw[k5] at hm;refine fQ.uC (Post:=λx K=>x=sI a/\∃X,K=H++X) ?_ (λ_ _ h=>⟨_,h.2.choose_spec,by rw[h.1];simp[AV.low,AV.jj],h.1,rfl⟩);have e:=trivial;refine wi acR func246 [3,5] [] 999 ?_;have⟨s1,e,m⟩:=ep e hm;simp[e];refine Cf (Fk T (st:=λs:Int=>H++[[sI a1],[sI s]]) (B2.SD H (λs:Int=>[[sI a1],[sI s]]) 2 (λ_=>rfl) (by simp[AV.low,AV.jj])) (λX s _ _ b h=>by have:=yS T (H:=H++[[sI a1],[sI s]]++X) (q0:=(List.length H+1)) (q1:=(List.length H)) (by simp[e]) (by simp[e]) (by simp[e]) h;simpa using this) e.2) ?_;cases m;simp[e]
def Lo(T:fh){H:eB}{a0 a1 b:Int}{a h:Tm}{q0 q1:Nat}(c:H[q0]?=some [sI b])(d:H[q1]?=some [sI a.acM,sI a.acP,sI a.dv.acM,sL Ty.av a.dv.acN,sL Tm.av a.acN])(hm:o_ a0 a1 b a=some h):e_ prog T 297 [sI a0,sI a1,AV.fT q0 0,AV.fT q1 0] H (Tm.av h) H:=by
 rw[o_] at hm;have f:=gn c;have g:=gn d;have e:=Aj (Aj (Aj f c) g) d;refine wi acR func297 [] [] 999 ?_;rcases Io e hm with⟨e,m⟩|⟨e,m⟩
 ·have⟨i,e,m⟩:=ep e m;simp[e];refine Cf (EU T e.2) ?_;cases m;simp[e]
 rcases Io e m with⟨e,m⟩|⟨e,m⟩
 ·have⟨j,e,m⟩:=ep e m;simp[e];refine Cf (kX e.2) ?_;cases m;simp[e]
 have⟨k,e,m⟩:=ep e m;simp[e];refine Cf (kX e.2) ?_;cases m;simp[e]
def Nu(T:fh){H:eB}{a0:Tm}{a1:Int}{a2 a:Tm}(hm:zG a0 a1 a2=some a):e_ prog T 279 [Tm.av a0,sI a1,Tm.av a2] H (Tm.av a) H:=by
 rw[zG] at hm;refine fQ.uC (Post:=λx K=>x=Tm.av a/\∃X,K=H++X) ?_ (λ_ _ h=>⟨_,h.2.choose_spec,by rw[h.1];simp[AV.low,AV.jj],h.1,rfl⟩);have e:=trivial;refine wi acR func279 [4,5] [] 999 ?_;have⟨c,s2,e,m⟩:=gr e hm;simp[e];refine Cf (zc T (st:=λ_:Unit=>H++[[sI a1],[sI a2.acM,sI a2.acP,sI a2.dv.acM,sL Ty.av a2.dv.acN,sL Tm.av a2.acN]]) (B2.const _) (λX _ _ _ _ _ h=>by obtain⟨b,rfl⟩:=vu h;exact Lo T (q0:=(List.length H)) (q1:=(List.length H+1)) (by simp[e]) (by simp[e]) b) e.2) ?_;cases m;simp[e]
def AM(T:fh){H:eB}{a0:Tm}{a1 b:Int}{a h:Tm}{q0 q1:Nat}(c:H[q0]?=some [sI b])(d:H[q1]?=some [sI a.acM,sI a.acP,sI a.dv.acM,sL Ty.av a.dv.acN,sL Tm.av a.acN])(hm:jy a0 a1 b a=some h):e_ prog T 278 [Tm.av a0,sI a1,AV.fT q0 0,AV.fT q1 0] H (Tm.av h) H:=by
 rw[jy] at hm;have f:=gn c;have g:=gn d;have e:=Aj (Aj (Aj f c) g) d;refine wi acR func278 [] [] 999 ?_;have⟨i,e,m⟩:=ep e hm;simp[e];refine Cf (Nu T e.2) ?_;cases m;simp[e]
def sn(T:fh){H:eB}{a0:Fm}{a1:Int}{a2:Tm}{a:Fm}(hm:lj a0 a1 a2=some a):e_ prog T 247 [Fm.av a0,sI a1,Tm.av a2] H (Fm.av a) H:=by
 rw[lj] at hm;refine fQ.uC (Post:=λx K=>x=Fm.av a/\∃X,K=H++X) ?_ (λ_ _ h=>⟨_,h.2.choose_spec,by rw[h.1];simp[AV.low,AV.jj],h.1,rfl⟩);have e:=trivial;refine wi acR func247 [4,5] [] 999 ?_;have⟨c,s2,e,m⟩:=gr e hm;simp[e];refine Cf (nk T (st:=λ_:Unit=>H++[[sI a1],[sI a2.acM,sI a2.acP,sI a2.dv.acM,sL Ty.av a2.dv.acN,sL Tm.av a2.acN]]) (B2.const _) (λX _ _ _ _ _ h=>by obtain⟨b,rfl⟩:=vu h;exact AM T (q0:=(List.length H)) (q1:=(List.length H+1)) (by simp[e]) (by simp[e]) b) e.2) ?_;cases m;simp[e]
def se(T:fh)(a:qv T){H:eB}{a0:Fm}{a1:Tm}{b:Fm}{c:Int}(hm:jh a0 a1=some (b,c)):e_ prog T 200 [Fm.av a0,Tm.av a1] H (AV.tuple [Fm.av b,sI c]) H:=by
 rw[jh] at hm;have e:=a;refine wi acR func200 [] [] 999 ?_;have⟨d,f,e,m⟩:=gr e hm;simp[e];refine Cf (qV T a e.2) ?_;have⟨g,h,e,m⟩:=gr e m;simp[e];refine Cf (tn T a e.2) ?_;have⟨i,e,m⟩:=ep e m;simp[e];refine Cf (qY T e.2) ?_;rcases Io e m with⟨e,m⟩|⟨e,m⟩
 ·cases m;simp[e]
 have⟨j,e,m⟩:=ep e m;simp[e];refine Cf (sn T e.2) ?_;cases m;simp[e]
def yA:C1 prog 201 pW (λn=>AV.sc (Value.int .u32 n)) Tm.av:=by
 intro T H a0 r hm;rw[pW] at hm;have e:=trivial;refine wi acR func201 [] [] 999 ?_;cases hm;simp[e]
def BY(T:fh)(f:qv T){H:eB}{a0:Tm}{a1 a:Int}{g:Tm}{b:Int}{q0:Nat}(c:H[q0]?=some [sI a])(hm:kx a0 a1 a=some (g,b)):e_ prog T 248 [Tm.av a0,sI a1,AV.fT q0 0] H (Tm.av g) (gC H q0 [sI b]):=by
 rw[kx] at hm;have d:=gn c;refine fQ.Nq c ?_;have e:=Aj f d;refine wi acR func248 [] [] 999 ?_;rcases Io e hm with⟨e,m⟩|⟨e,m⟩
 ·cases m;simp[e]
 have⟨h,i,j,e,m⟩:=Le e m;simp[e];refine Cf (um T f e.2) ?_;cases m;simp[e]
def DD(T:fh)(c:qv T){H:eB}{a0 a:Fm}{b:Int}(hm:mZ a0=some (a,b)):e_ prog T 203 [Fm.av a0] H (AV.tuple [Fm.av a,sI b]) H:=by
 rw[mZ] at hm;refine fQ.uC (Post:=λx K=>x=AV.tuple [Fm.av a,sI b]/\∃X,K=H++X) ?_ (λ_ _ h=>⟨_,h.2.choose_spec,by rw[h.1];simp[AV.low,AV.jj],h.1,rfl⟩);have e:=c;refine wi acR func203 [4] [(6,true,[])] 999 ?_;have⟨d,e,m⟩:=ep e hm;simp[e];refine Cf (qY T e.2) ?_;rcases Io e m with⟨e,m⟩|⟨e,m⟩
 ·have⟨f,e,m⟩:=ep e m;simp[e];refine Cf (sn T e.2) ?_;cases m;simp[e]
 have⟨g,i,e,m⟩:=gr e m;simp[e];refine Cf (nk T (st:=λs:Int=>H++[[sI s]]) (B2.SD H (λs:Int=>[[sI s]]) 1 (λ_=>rfl) (by simp[AV.low,AV.jj])) (λX s _ _ _ j h=>by have:=BY T c (H:=H++[[sI s]]++X) (q0:=(List.length H)) (by simp[e]) h;simpa using this) e.2) ?_;rcases Io e m with⟨e,m⟩|⟨e,m⟩
 ·cases m;simp[e]
 have⟨k,e,m⟩:=ep e m;simp[e];refine Cf (qY T e.2) ?_;rcases Io e m with⟨e,m⟩|⟨e,m⟩
 ·cases m;simp[e]
 have⟨l,e,m⟩:=ep e m;simp[e];refine Cf (sn T e.2) ?_;cases m;simp[e]
def r6:C2 prog 250 rp Tm.av sI (sL Tm.av):=by
 intro T H a0 a1 r hm;rw[rp] at hm;have e:=trivial;refine wi acR func250 [] [] 999 ?_;cases hm;simp[e]
def zu:C1 prog 204 kr eQ.av sI:=by
 intro T H a0 r hm;rw[kr] at hm;have e:=trivial;refine wi acR func204 [] [] 999 ?_;rcases Io e hm with⟨e,m⟩|⟨e,m⟩
 ·have⟨b,e,m⟩:=ep e m;simp[e];refine Cf (r6 e.2) ?_;have⟨f,e,m⟩:=ep e m;simp[e];refine Cf (m5 e.2) ?_;have⟨i,e,m⟩:=ep e m;simp[e];refine Cf (kX e.2) ?_;have⟨c,e,m⟩:=ep e m;simp[e];refine Cf (r6 e.2) ?_;have e:=Aj e (show AV.agg [sI 1,sI b.acM,sI b.acP,sI b.dv.acM,sL Ty.av b.dv.acN,sL Tm.av b.acN,AV.slice .iR [Ty.av f],sI c.acM,sI c.acP,sI c.dv.acM,sL Ty.av c.dv.acN,sL Tm.av c.acN]=eQ.av (eQ.mk 1 b [f] c) by rw[eQ.fL];rfl);cases m;simp[e]
 have⟨d,e,m⟩:=ep e m;simp[e];refine Cf (r6 e.2) ?_;have⟨g,e,m⟩:=ep e m;simp[e];refine Cf (m5 e.2) ?_;have⟨h,e,m⟩:=ep e m;simp[e];refine Cf (EP e.2) ?_;have⟨j,e,m⟩:=ep e m;simp[e];refine Cf (kX e.2) ?_;have⟨k,e,m⟩:=ep e m;simp[e];refine Cf (kX e.2) ?_;have⟨a,e,m⟩:=ep e m;simp[e];refine Cf (r6 e.2) ?_;have e:=Aj e (show AV.agg [sI 2,sI d.acM,sI d.acP,sI d.dv.acM,sL Ty.av d.dv.acN,sL Tm.av d.acN,AV.slice .iR [Ty.av g,Ty.av h],sI a.acM,sI a.acP,sI a.dv.acM,sL Ty.av a.dv.acN,sL Tm.av a.acN]=eQ.av (eQ.mk 2 d [g,h] a) by rw[eQ.fL];rfl);cases m;simp[e]
def yH:C2 prog 207 rh Fm.av Tm.av Tm.av:=by
 intro T H a0 a1 r hm;rw[rh] at hm;have e:=trivial;refine wi acR func207 [] [] 999 ?_;have e:=Aj e (show AV.agg [sI 1,sI 0,AV.slice .iR [],AV.slice .iR [Tm.av a0,Tm.av a1],AV.slice .iR []]=Fm.av (Fm.mk 1 (Ty.mk 0 []) [a0,a1] []) by rw[Fm.fL];rfl);cases hm;simp[e]
def yU(T:fh){H:eB}{a0:List Fm}{a1:Pf}{a2:eg}{b:ec}{c:Int}{d:Nat}(a:KC H d a0)(hm:ou a0 a1 a2=some (b,c)):e_ prog T 150 [AV.fT d 0,Pf.av a1,eg.av a2] H (AV.tuple [ec.av b,sI c]) H:=by
 rw[ou] at hm;have e:=a;refine wi acR func150 [] [] 999 ?_;have⟨f,e,m⟩:=ep e hm;have⟨g,e,m⟩:=ep e m;simp[e];refine Cf (rO e.2) ?_;rcases Io e m with⟨e,m⟩|⟨e,m⟩
 ·cases m;simp[e]
 have⟨h,e,m⟩:=ep e m;simp[e];refine Cf (yH e.2) ?_;cases m;simp[e]
def BN:C2 prog 210 sd Tm.av Tm.av (sL Tm.av):=by
 intro T H a0 a1 r hm;rw[sd] at hm;have e:=trivial;refine wi acR func210 [] [] 999 ?_;simp[e];refine Wr e hm 999 (λg s2 f h=>h=H/\f.1 2=AV.eD 2 (f.gen 2) 0/\f.1 4=AV.eD 4 (f.gen 4) 0/\f.1 7=sL Tm.av a1/\f.1 8=sI (eN a1)/\f.1 9=sI g/\f.box 2=some [sI s2.1,sI s2.2.1,sI s2.2.2.1,sL Ty.av s2.2.2.2.1,sL Tm.av s2.2.2.2.2]/\f.box 4=some [sI 0,sI 0,sI 0,AV.slice .full [],AV.slice .full []]) (by simp[e]) (λs2 a i j E m=>?_) (λg n s2 a i j n6 o E e m k b=>?_)
 ·have⟨v10,v11,v12,c,d⟩:=s2;have e:=Aj e E;dsimp only[en,Hj]at m;cases m;simp[e]
 have⟨v10,v11,v12,c,d⟩:=s2;have e:=Aj e E;dsimp only[Hj]at m;have⟨l,e,m⟩:=ep e m;simp[e];refine Cf (r6 e.2) ?_;simp[e];cases m;exact b _ _ _ (by simp[e]) k
def HZ:C1 prog 304 tU (t2 sI sI) sB:=by
 intro T H a0 r hm;rw[tU] at hm;have e:=trivial;refine wi acR func304 [] [] 999 ?_;rcases Io e hm with⟨e,m⟩|⟨e,m⟩
 ·cases m;simp[e]
 cases m;simp[e]
def By:C2 prog 319 vm Tm.av Tm.av (sL Ty.av):=by
 intro T H a0 a1 r hm;rw[vm] at hm;have e:=trivial;refine wi acR func319 [] [] 999 ?_;simp[e];refine Wn hm 999 (λs1 f h=>∃(a:Tag),h=H/\f.1 1=sL Ty.av a1/\f.1 2=AV.eD 2 (f.gen 2) 0/\f.1 4=AV.eD 4 (f.gen 4) 0/\f.1 5=sI s1.1/\f.box 2=some [sI s1.2.1,sI s1.2.2.1,sI s1.2.2.2.1,sL Ty.av s1.2.2.2.2.1,sT a Tm.av s1.2.2.2.2.2]/\f.box 4=some [sI 0,sI 0,sI 0,AV.slice .full [],AV.slice .full []]) ⟨.iR,by simp[e]⟩ (λs1 fr2 i j n4 c5 E m c b=>?_);have⟨k,v9,v10,v11,v12,d⟩:=s1;have⟨a,E⟩:=E;have e:=Aj e E;dsimp only[wT]at m;rcases Io e m with⟨e,m⟩|⟨e,m⟩;rotate_left
 ·cases m;have m:=Qb c;dsimp only[wT]at m;cases m;simp[e]
 have⟨g,e,m⟩:=ep e m;simp[e];cases m;exact b _ _ _ ⟨.full,by simp[e]⟩ c
def NM:C5 prog 320 Ab Tm.av sI Ty.av Tm.av Tm.av Tm.av:=by
 intro T H a0 a1 a2 a3 a4 r hm;rw[Ab] at hm;have e:=trivial;refine wi acR func320 [] [] 999 ?_;have e:=Aj e (show AV.agg [sI a0,sI 0,sI a1.acM,sL Ty.av a1.acN,AV.slice .iR [Tm.av a2,Tm.av a3,Tm.av a4]]=Tm.av (Tm.mk a0 0 a1 [a2,a3,a4]) by rw[Tm.fL];rfl);cases hm;simp[e]
def wM:C3 prog 315 nG Tm.av Tm.av Tm.av Tm.av:=by
 intro T H a0 a1 a2 r hm;rw[nG] at hm;have e:=trivial;refine wi acR func315 [] [] 999 ?_;have⟨a,e,m⟩:=ep e hm;simp[e];refine Cs (m5 e.2) ?_;have⟨b,e,m⟩:=ep e m;simp[e];refine Cs (m5 e.2) ?_;have⟨c,e,m⟩:=ep e m;simp[e];refine Cs (m5 e.2) ?_;have⟨d,e,m⟩:=ep e m;simp[e];refine Cs (By e.2) ?_;have⟨f,e,m⟩:=ep e m;simp[e];refine Cs (NM e.2) ?_;cases m;simp[e]
def Lh:C0 prog 316 vJ Tm.av:=by
 intro T H r hm;rw[vJ] at hm;have e:=trivial;refine wi acR func316 [] [] 999 ?_;have⟨a,e,m⟩:=ep e hm;simp[e];refine Cf (r6 e.2) ?_;have⟨b,e,m⟩:=ep e m;simp[e];refine Cf (kX e.2) ?_;have⟨c,e,m⟩:=ep e m;simp[e];refine Cf (kX e.2) ?_;have⟨d,e,m⟩:=ep e m;simp[e];refine Cf (wM e.2) ?_;have⟨f,e,m⟩:=ep e m;simp[e];refine Cf (m5 e.2) ?_;have⟨g,e,m⟩:=ep e m;simp[e];refine Cf (By e.2) ?_;cases m;simp[e]
def LQ:C1 prog 314 An Tm.av Tm.av:=by
 intro T H a0 r hm;rw[An] at hm;have e:=trivial;refine wi acR func314 [] [] 999 ?_;have⟨a,e,m⟩:=ep e hm;simp[e];refine Cs (m5 e.2) ?_;have⟨b,e,m⟩:=ep e m;simp[e];refine Cs (m5 e.2) ?_;have⟨c,e,m⟩:=ep e m;simp[e];refine Cs (By e.2) ?_;cases m;simp[e]
def M9:C0 prog 310 xR Tm.av:=by
 intro T H r hm;rw[xR] at hm;have e:=trivial;refine wi acR func310 [] [] 999 ?_;have⟨a,e,m⟩:=ep e hm;simp[e];refine Cf (kX e.2) ?_;have⟨b,e,m⟩:=ep e m;simp[e];refine Cf (Lh e.2) ?_;have⟨c,e,m⟩:=ep e m;simp[e];refine Cf (kX e.2) ?_;have⟨d,e,m⟩:=ep e m;simp[e];refine Cf (BN e.2) ?_;have⟨f,e,m⟩:=ep e m;simp[e];refine Cf (kX e.2) ?_;have⟨g,e,m⟩:=ep e m;simp[e];refine Cf (wM e.2) ?_;have⟨h,e,m⟩:=ep e m;simp[e];refine Cf (LQ e.2) ?_;cases m;simp[e]
def La:C2 prog 306 vb Fm.av Tm.av Tm.av:=by
 intro T H a0 a1 r hm;rw[vb] at hm;have e:=trivial;refine wi acR func306 [] [] 999 ?_;have⟨a,e,m⟩:=ep e hm;simp[e];refine Cs (M9 e.2) ?_;have⟨b,e,m⟩:=ep e m;simp[e];refine Cs (r6 e.2) ?_;have⟨c,e,m⟩:=ep e m;simp[e];refine Cs (BN e.2) ?_;have⟨d,e,m⟩:=ep e m;simp[e];refine Cs (r6 e.2) ?_;have⟨f,e,m⟩:=ep e m;simp[e];refine Cs (yH e.2) ?_;cases m;simp[e]
def AZ:∀(n:Nat),C2 prog 305 (ky n) sB Fm.av Fm.av:=by
  intro n
  induction n with
  |zero=>
    skip
    all_goals(intro _ _;intros;rename_i hm;cases hm)
  |succ n v=>
 intro T H a0 a1 r hm;rw[ky] at hm;have e:=trivial;refine wi acR func305 [] [] 3 ?_;simp[e];refine Wj hm 999 999 (λs f h=>∃(v2:Bool),(h=H/\f.1 2=AV.eD 2 (f.gen 2) 0/\f.1 3=AV.eD 3 (f.gen 3) 0/\f.1 39=sB v2/\f.box 2=some (Fm.av a0).cells/\f.box 3=some (Fm.av a1).cells)/\s v2=some r) (λs K a m=>?_) ?_
 ·rcases Io e m with⟨e,m⟩|⟨e,m⟩
  ·simp[e];exact a _ _ ⟨true,by simp[e],m⟩
  have⟨L,e,m⟩:=ep e m;simp[e];refine Cf (py e.2) ?_;rcases Io e m with⟨e,m⟩|⟨e,m⟩;rotate_left
  ·simp[e];exact a _ _ ⟨true,by simp[e],m⟩
  rcases Io e m with⟨e,m⟩|⟨e,m⟩
  ·simp[e];exact a _ _ ⟨true,by simp[e],m⟩
  simp[e];exact a _ _ ⟨(eW (eN a0.acN) (eN a1.acN)),by simp[e],m⟩
 rintro w M ⟨v2,E,m⟩;have e:=Aj e E;rcases Io e m with⟨e,m⟩|⟨e,m⟩
 ·cases m;simp[e]
 simp[e];refine Wr e m 999 (λt u f h=>h=H/\f.1 2=AV.eD 2 (f.gen 2) 0/\f.1 3=AV.eD 3 (f.gen 3) 0/\f.1 41=sL Tm.av a0.ek/\f.1 42=sI (eN a0.ek)/\f.1 43=sI t/\f.box 2=some (Fm.av a0).cells/\f.box 3=some (Fm.av a1).cells) (by simp[e]) (λu l x o E m=>?_) (λt y u l x o z A E e m b c=>?_);rotate_left
 ·have e:=Aj e E;have⟨B,e,m⟩:=ep e m;have⟨C,e,m⟩:=ep e m;simp[e];refine Cs (yF e.2) ?_;rcases Io e m with⟨e,m⟩|⟨e,m⟩;rotate_left
  ·cases m;cases b;simp[e]
  simp[e];cases m;exact c _ _ _ (by simp[e]) b
 have e:=Aj e E;dsimp only[en]at m;simp[e];refine Wr e m 999 (λd g f h=>h=H/\f.1 3=AV.eD 3 (f.gen 3) 0/\f.1 58=sL Fm.av a0.acN/\f.1 59=sI (eN a0.acN)/\f.1 60=sI d/\f.box 3=some (Fm.av a1).cells) (by simp[e]) (λg i p q E m=>?_) (λd D g i p q F G E e m j k=>?_)
 ·have e:=Aj e E;dsimp only[en]at m;cases m;simp[e]
 have e:=Aj e E;have⟨I,e,m⟩:=ep e m;have⟨J,e,m⟩:=ep e m;simp[e];refine Cs (v e.2) ?_;rcases Io e m with⟨e,m⟩|⟨e,m⟩;rotate_left
 ·cases m;cases j;simp[e]
 simp[e];cases m;exact k _ _ _ (by simp[e]) j
def BF{n:Nat}:C2 prog 305 (ky n) sB Fm.av Fm.av:=(AZ n)
def Ji(T:fh){H:eB}{a0:Fm}{g:Bool}{i:Tm}{j:Fm}{k:Bool}(hm:uj a0=some (g,i,j,k)):e_ prog T 287 [Fm.av a0] H (AV.tuple [sB g,Tm.av i,Fm.av j,sB k]) H:=by
 rw[uj] at hm;have e:=trivial;refine wi acR func287 [] [] 7 ?_;have⟨C,D,e,m⟩:=gr e hm;simp[e];refine Cf (HZ e.2) ?_;simp[e];refine Wj m 999 0 (λo f h=>∃(v4:Bool),(h=H/\f.1 1=AV.eD 1 (f.gen 1) 0/\f.1 3=AV.eD 3 (f.gen 3) 0/\f.1 4=AV.eD 4 (f.gen 4) 0/\f.1 6=sB (eH a0.acM 4)/\f.1 48=sB v4/\f.box 1=some (Fm.av a0).cells/\f.box 3=some [sI 0,sI 0,sI 0,AV.slice .full [],AV.slice .full []]/\f.box 4=some [sI 0,sI 0,AV.slice .full [],AV.slice .full [],AV.slice .full []])/\o v4=some (g,i,j,k)) (λo F b m=>?_) ?_
 ·rcases Io e m with⟨e,m⟩|⟨e,m⟩
  ·simp[e];exact b _ _ ⟨true,by simp[e],m⟩
  rcases Io e m with⟨e,m⟩|⟨e,m⟩
  ·simp[e];exact b _ _ ⟨true,by simp[e],m⟩
  have⟨G,e,m⟩:=ep e m;rcases Io e m with⟨e,m⟩|⟨e,m⟩
  ·simp[e];exact b _ _ ⟨true,by simp[e],m⟩
  have⟨q,e,m⟩:=ep e m;simp[e];exact b _ _ ⟨(eW q.acM 1),by simp[e],m⟩
 rintro r I ⟨v4,E,m⟩;have e:=Aj e E;rcases Io e m with⟨e,m⟩|⟨e,m⟩
 ·apply wg 999;cases m;simp[e]
 apply wg 7;have⟨s,e,m⟩:=ep e m;have⟨t,e,m⟩:=ep e m;have⟨l,e,m⟩:=ep e m;simp[e];refine Wj m 999 999 (λd f h=>∃(c:Bool),(h=H/\f.1 1=AV.eD 1 (f.gen 1) 0/\f.1 3=AV.eD 3 (f.gen 3) 0/\f.1 4=AV.eD 4 (f.gen 4) 0/\f.1 6=sB (eH a0.acM 4)/\f.1 10=AV.eD 10 (f.gen 10) 0/\f.1 83=sB c/\f.box 1=some (Fm.av a0).cells/\f.box 3=some [sI 0,sI 0,sI 0,AV.slice .full [],AV.slice .full []]/\f.box 4=some [sI 0,sI 0,AV.slice .full [],AV.slice .full [],AV.slice .full []]/\f.box 10=some (Tm.av l).cells)/\d c=some (g,i,j,k)) (λd u a m=>?_) ?_;rotate_left
 ·rintro p v ⟨c,E,m⟩;have e:=Aj e E;rcases Io e m with⟨e,m⟩|⟨e,m⟩
  ·cases m;simp[e]
  have⟨w,e,m⟩:=ep e m;have⟨x,e,m⟩:=ep e m;cases m;simp[e]
 rcases Io e m with⟨e,m⟩|⟨e,m⟩
 ·simp[e];exact a _ _ ⟨true,by simp[e],m⟩
 have⟨y,e,m⟩:=ep e m;have⟨z,e,m⟩:=ep e m;simp[e];refine Cs (C7 T e.2) ?_;rcases Io e m with⟨e,m⟩|⟨e,m⟩
 ·simp[e];exact a _ _ ⟨true,by simp[e],m⟩
 have⟨A,e,m⟩:=ep e m;simp[e];refine Cs (kX e.2) ?_;have⟨B,e,m⟩:=ep e m;simp[e];refine Cs (La e.2) ?_;have⟨n,e,m⟩:=ep e m;simp[e];refine Cs (BF e.2) ?_;simp[e];exact a _ _ ⟨(nB n),by simp[e],m⟩
def Mo:∀(n:Nat),C1 prog 255 (n5 n) (λn=>AV.sc (Value.int .u8 n)) Fm.av:=by
  intro n
  induction n with
  |zero=>
    skip
    all_goals(intro _ _;intros;rename_i hm;cases hm)
  |succ n j=>
 intro T H a0 r hm;rw[n5] at hm;have e:=trivial;refine wi acR func255 [] [] 5 ?_;simp[e];rcases Io e hm with⟨e,m⟩|⟨e,m⟩
 ·apply wg 999;cases m;simp[e]
 apply wg 4;have⟨G,e,m⟩:=ep e m;have⟨d,e,m⟩:=ep e m;simp[e];refine Cf (j e.2) ?_;simp[e];refine Wj m 3 2 (λl f h=>∃(v4:Int),(h=H/\f.1 1=AV.eD 1 (f.gen 1) 0/\f.1 3=AV.sc (.int .u8 v4)/\f.box 1=some (Fm.av a0).cells)/\l v4=some r) (λl I g m=>?_) ?_;rotate_left
 ·rintro t J ⟨v4,E,m⟩;have e:=Aj e E;simp[e];refine Wj m 999 999 (λo f h=>∃(v9:Int),(h=H/\f.1 6=AV.sc (.int .u8 v9))/\o v9=some r) (λo u a m=>?_) ?_;rotate_left
  ·rintro p v ⟨v9,E,m⟩;have e:=Aj e E;cases m;simp[e]
  have⟨w,x,y,z,e,m⟩:=Bo4 e m;simp[e];refine Cf (Ji T e.2) ?_;rcases Io e m with⟨e,m⟩|⟨e,m⟩;rotate_left
  ·simp[e];exact a _ _ ⟨(qC .u8 v4 1),by simp[e],m⟩
  have⟨k,e,m⟩:=ep e m;simp[e];refine Cf (j e.2) ?_;simp[e];exact a _ _ ⟨(xp .u8 (qC .u8 v4 1) (qC .u8 k 4)),by simp[e],m⟩
 simp[e];refine wj 999 0 (λf h=>h=H/\f.1 1=AV.eD 1 (f.gen 1) 0/\f.1 3=AV.sc (.int .u8 d)/\f.1 24=sI a0.acM/\f.1 25=sB (fW (eH a0.acM 2) true (eH a0.acM 3))/\f.box 1=some (Fm.av a0).cells) (λA b=>?_) ?_
 ·rcases Pb (eH a0.acM 2) e with e|e
  ·simp[e];exact b _ _ (by simp[e])
  simp[e];exact b _ _ (by simp[e])
 rintro q B E;have e:=Aj e E;rcases Io e m with⟨e,m⟩|⟨e,m⟩;rotate_left
 ·apply wg 999;rcases Io e m with⟨e,m⟩|⟨e,m⟩;rotate_left
  ·simp[e];exact g _ _ ⟨d,by simp[e],m⟩
  simp[e];exact g _ _ ⟨(xp .u8 d 1),by simp[e],m⟩
 apply wg 5;have⟨C,e,m⟩:=ep e m;have⟨i,e,m⟩:=ep e m;simp[e];refine Cf (j e.2) ?_;simp[e];refine wj 2 999 (λf h=>h=H/\f.1 3=AV.sc (.int .u8 (fW (eH a0.acM 2) (xp .u8 d i) d))/\f.1 5=AV.sc (.int .u8 (qC .u8 (qC .u8 i d) 6))) (λD c=>?_) ?_;rotate_left
 ·rintro s F E;have e:=Aj e E;cases m;simp[e]
 simp[e];rcases Pb (eH a0.acM 2) e with e|e
 ·apply wg 999;simp[e];exact c _ _ (by simp[e])
 apply wg 999;simp[e];exact c _ _ (by simp[e])
def NW{n:Nat}:C1 prog 255 (n5 n) (λn=>AV.sc (Value.int .u8 n)) Fm.av:=(Mo n)
def MM(T:fh)(a:qv T){H:eB}{a0:Fm}{a1:Int}{b:Bool}{c:Int}(hm:Az a0 a1=some (b,c)):e_ prog T 212 [Fm.av a0,AV.sc (.int .u8 a1)] H (AV.tuple [sB b,sI c]) H:=by
 rw[Az] at hm;have e:=a;refine wi acR func212 [] [] 999 ?_;have⟨d,e,m⟩:=ep e hm;simp[e];refine Cf (px T a e.2) ?_;rcases Io e m with⟨e,m⟩|⟨e,m⟩
 ·cases m;simp[e]
 have⟨f,e,m⟩:=ep e m;simp[e];refine Cf (NW e.2) ?_;cases m;simp[e]
def Fy(T:fh)(a:qv T){H:eB}{a0:Fm}{b:Bool}{c:Int}(hm:pF a0=some (b,c)):e_ prog T 153 [Fm.av a0] H (AV.tuple [sB b,sI c]) H:=by
 rw[pF] at hm;have e:=a;refine wi acR func153 [] [] 999 ?_;have⟨d,f,e,m⟩:=gr e hm;simp[e];refine Cf (MM T a e.2) ?_;cases m;simp[e]
def xL(T:fh)(k:qv T):∀(n:Nat),(∀{H:eB} {a0:List Fm} {a1:Pf} {a2:eg} {c:ec} {d:Int} {g:Nat} (a:KC H g a0) (hm:e9 n a0 a1 a2=some (c,d)),e_ prog T 81 [AV.fT g 0,Pf.av a1,eg.av a2] H (AV.tuple [ec.av c,sI d]) H)/\(∀{H:eB} {a0:List Fm} {a1:Pf} {a2:eg} {c:ec} {d:Int} {g:Nat} (a:KC H g a0) (hm:k9 n a0 a1 a2=some (c,d)),e_ prog T 141 [AV.fT g 0,Pf.av a1,eg.av a2] H (AV.tuple [ec.av c,sI d]) H)/\(∀{H:eB} {a0:List Fm} {a1:Pf} {a2:eg} {c:ec} {d:Int} {g:Nat} (a:KC H g a0) (hm:iG n a0 a1 a2=some (c,d)),e_ prog T 142 [AV.fT g 0,Pf.av a1,eg.av a2] H (AV.tuple [ec.av c,sI d]) H)/\(∀{H:eB} {a0:List Fm} {a1:Pf} {a2:eg} {c:ec} {d:Int} {g:Nat} (a:KC H g a0) (hm:k_ n a0 a1 a2=some (c,d)),e_ prog T 143 [AV.fT g 0,Pf.av a1,eg.av a2] H (AV.tuple [ec.av c,sI d]) H)/\(∀{H:eB} {a0:List Fm} {a1:Pf} {a2:eg} {c:ec} {d:Int} {g:Nat} (a:KC H g a0) (hm:la n a0 a1 a2=some (c,d)),e_ prog T 144 [AV.fT g 0,Pf.av a1,eg.av a2] H (AV.tuple [ec.av c,sI d]) H)/\(∀{H:eB} {a0:List Fm} {a1:Pf} {a2:eg} {c:ec} {d:Int} {g:Nat} (a:KC H g a0) (hm:im n a0 a1 a2=some (c,d)),e_ prog T 145 [AV.fT g 0,Pf.av a1,eg.av a2] H (AV.tuple [ec.av c,sI d]) H)/\(∀{H:eB} {a0:List Fm} {a1:Pf} {a2:eg} {c:ec} {d:Int} {g:Nat} (a:KC H g a0) (hm:il n a0 a1 a2=some (c,d)),e_ prog T 146 [AV.fT g 0,Pf.av a1,eg.av a2] H (AV.tuple [ec.av c,sI d]) H)/\(∀{H:eB} {a0:List Fm} {a1:Pf} {a2:eg} {c:ec} {d:Int} {g:Nat} (a:KC H g a0) (hm:iI n a0 a1 a2=some (c,d)),e_ prog T 147 [AV.fT g 0,Pf.av a1,eg.av a2] H (AV.tuple [ec.av c,sI d]) H)/\(∀{H:eB} {a0:List Fm} {a1:Pf} {a2:eg} {c:ec} {d:Int} {g:Nat} (a:KC H g a0) (hm:iF n a0 a1 a2=some (c,d)),e_ prog T 148 [AV.fT g 0,Pf.av a1,eg.av a2] H (AV.tuple [ec.av c,sI d]) H)/\(∀{H:eB} {a0:List Fm} {a1:Pf} {a2:eg} {c:ec} {d:Int} {g:Nat} (a:KC H g a0) (hm:iH n a0 a1 a2=some (c,d)),e_ prog T 149 [AV.fT g 0,Pf.av a1,eg.av a2] H (AV.tuple [ec.av c,sI d]) H)/\(∀{H:eB} {a0:List Fm} {a1:Pf} {a2:eg} {c:ec} {d:Int} {g:Nat} (a:KC H g a0) (hm:kE n a0 a1 a2=some (c,d)),e_ prog T 151 [AV.fT g 0,Pf.av a1,eg.av a2] H (AV.tuple [ec.av c,sI d]) H)/\(∀{H:eB} {a0:List Fm} {a1:Pf} {a2:eg} {c:ec} {d:Int} {g:Nat} (a:KC H g a0) (hm:j8 n a0 a1 a2=some (c,d)),e_ prog T 152 [AV.fT g 0,Pf.av a1,eg.av a2] H (AV.tuple [ec.av c,sI d]) H)/\(∀{H:eB} {a0:List Fm} {a1:Pf} {a2:eg} {a3:Int} {c:ec} {d:Int} {g:Nat} (a:KC H g a0) (hm:fg n a0 a1 a2 a3=some (c,d)),e_ prog T 192 [AV.fT g 0,Pf.av a1,eg.av a2,sI a3] H (AV.tuple [ec.av c,sI d]) H)/\(∀{H:eB} {a0:List Fm} {a1:Pf} {a2:eg} {a3:Fm} {a4:Tm} {c:ec} {d:Int} {g:Nat} (a:KC H g a0) (hm:fi n a0 a1 a2 a3 a4=some (c,d)),e_ prog T 202 [AV.fT g 0,Pf.av a1,eg.av a2,Fm.av a3,Tm.av a4] H (AV.tuple [ec.av c,sI d]) H):=by
  intro n
  induction n with
  |zero=>
    refine⟨?_,?_,?_,?_,?_,?_,?_,?_,?_,?_,?_,?_,?_,?_⟩
    all_goals(intro _ _;intros;rename_i hm;cases hm)
  |succ n i=>
 refine⟨?_,?_,?_,?_,?_,?_,?_,?_,?_,?_,?_,?_,?_,?_⟩
 ·intro H a0 a1 a2 c d g a hm;rw[e9] at hm;have e:=Aj k a;refine wi acR func81 [] [(1,true,[])] 7 ?_;have V:uV prog H 113 (AV.om (g-1)) (sI a1.acM) false=some (J4 a1.acM):=OH a.2;have e:=Aj e V;have⟨s,x3,e,m⟩:=gr e hm;simp[e];refine qK.val (r:=AV.tuple [ec.av s,sI x3]) (H':=H) ?_ (by simp) ?_
  ·have b:=e.2;rcases xT (eH a1.acM 1=true)with hk|hk
   ·rw[ee hk] at b;rw[jD hk (by rfl)];exact oD (z6 T a b)
   rw[ea hk] at b;rcases xT (eH a1.acM 2=true)with hk|hk
   ·rw[ee hk] at b;rw[jD hk (by rfl)];exact oD (yr T a b)
   rw[ea hk] at b;rcases xT (eH a1.acM 3=true)with hk|hk
   ·rw[ee hk] at b;rw[jD hk (by rfl)];exact oD (i.2.1 a b)
   rw[ea hk] at b;rcases xT (eH a1.acM 4=true)with hk|hk
   ·rw[ee hk] at b;rw[jD hk (by rfl)];exact oD (i.2.2.1 a b)
   rw[ea hk] at b;rcases xT (eH a1.acM 5=true)with hk|hk
   ·rw[ee hk] at b;rw[jD hk (by rfl)];exact oD (i.2.2.1 a b)
   rw[ea hk] at b;rcases xT (eH a1.acM 6=true)with hk|hk
   ·rw[ee hk] at b;rw[jD hk (by rfl)];exact oD (i.2.2.2.1 a b)
   rw[ea hk] at b;rcases xT (eH a1.acM 7=true)with hk|hk
   ·rw[ee hk] at b;rw[jD hk (by rfl)];exact oD (i.2.2.2.2.1 a b)
   rw[ea hk] at b;rcases xT (eH a1.acM 8=true)with hk|hk
   ·rw[ee hk] at b;rw[jD hk (by rfl)];exact oD (i.2.2.2.2.2.1 a b)
   rw[ea hk] at b;rcases xT (eH a1.acM 12=true)with hk|hk
   ·rw[ee hk] at b;rw[jD hk (by rfl)];exact oD (i.2.2.2.2.2.1 a b)
   rw[ea hk] at b;rcases xT (eH a1.acM 9=true)with hk|hk
   ·rw[ee hk] at b;rw[jD hk (by rfl)];exact oD (i.2.2.2.2.2.2.1 a b)
   rw[ea hk] at b;rcases xT (eH a1.acM 13=true)with hk|hk
   ·rw[ee hk] at b;rw[jD hk (by rfl)];exact oD (i.2.2.2.2.2.2.1 a b)
   rw[ea hk] at b;rcases xT (eH a1.acM 10=true)with hk|hk
   ·rw[ee hk] at b;rw[jD hk (by rfl)];exact oD (i.2.2.2.2.2.2.2.1 a b)
   rw[ea hk] at b;rcases xT (eH a1.acM 14=true)with hk|hk
   ·rw[ee hk] at b;rw[jD hk (by rfl)];exact oD (i.2.2.2.2.2.2.2.1 a b)
   rw[ea hk] at b;rcases xT (eH a1.acM 11=true)with hk|hk
   ·rw[ee hk] at b;rw[jD hk (by rfl)];exact oD (i.2.2.2.2.2.2.2.2.1 a b)
   rw[ea hk] at b;rcases xT (eH a1.acM 15=true)with hk|hk
   ·rw[ee hk] at b;rw[jD hk (by rfl)];exact oD (i.2.2.2.2.2.2.2.2.1 a b)
   rw[ea hk] at b;rcases xT (eH a1.acM 16=true)with hk|hk
   ·rw[ee hk] at b;rw[jD hk (by rfl)];exact oD (i.2.2.2.2.2.2.2.2.2.1 a b)
   rw[ea hk] at b;rcases xT (eH a1.acM 17=true)with hk|hk
   ·rw[ee hk] at b;rw[jD hk (by rfl)];exact oD (i.2.2.2.2.2.2.2.2.2.1 a b)
   rw[ea hk] at b;rcases xT (eH a1.acM 18=true)with hk|hk
   ·rw[ee hk] at b;rw[jD hk (by rfl)];exact oD (yU T a b)
   rw[ea hk] at b;rcases xT (eH a1.acM 19=true)with hk|hk
   ·rw[ee hk] at b;rw[jD hk (by rfl)];exact oD (i.2.2.2.2.2.2.2.2.2.2.1 a b)
   rw[ea hk] at b;rcases xT (eH a1.acM 20=true)with hk|hk
   ·rw[ee hk] at b;rw[jD hk (by rfl)];exact oD (i.2.2.2.2.2.2.2.2.2.2.2.1 a b)
   rw[ea hk] at b;cases b
  simp[e];rcases Io e m with⟨e,m⟩|⟨e,m⟩
  ·apply wg 999;cases m;simp[e]
  apply wg 5;have⟨v,e,m⟩:=ep e m;simp[e];refine Cf (px T k e.2) ?_;simp[e];rcases Io e m with⟨e,m⟩|⟨e,m⟩
  ·apply wg 999;cases m;simp[e]
  apply wg 2;simp[e];refine Wj m 999 999 (λj6 f h=>∃(W:Int),(h=H/\f.1 6=AV.eD 6 (f.gen 6) 0/\f.1 8=AV.eD 8 (f.gen 8) 0/\f.box 6=some [sI 0,sI 0,AV.slice .full [],AV.slice .full [],AV.slice .full [],AV.sc (.int .u32 0)]/\f.box 8=some [sI s.eh.acM,sI s.eh.dv.acM,sL Ty.av s.eh.dv.acN,sL Tm.av s.eh.ek,sL Fm.av s.eh.acN,AV.sc (.int .u32 W)])/\j6 W=some (c,d)) (λj6 K8 J m=>?_) ?_;rotate_left
  ·rintro aq aA ⟨W,E,m⟩;have e:=Aj e E;cases m;simp[e]
  have⟨K,B,e,m⟩:=gr e m;simp[e];refine Cf (Fy T k e.2) ?_;rcases Io e m with⟨e,m⟩|⟨e,m⟩;rotate_left
  ·simp[e];exact J _ _ ⟨0,by simp[e],m⟩
  simp[e];exact J _ _ ⟨s.gP,by simp[e],m⟩
 ·intro H a0 a1 a2 c d g a hm;rw[k9] at hm;have e:=Aj k a;refine wi acR func141 [] [] 999 ?_;have⟨C,e,m⟩:=ep e hm;have⟨j,v,e,m⟩:=gr e m;simp[e];refine Cs (i.1 a e.2) ?_;rcases Io e m with⟨e,m⟩|⟨e,m⟩
  ·cases m;simp[e]
  have⟨B,e,m⟩:=ep e m;have⟨X,Y,e,m⟩:=gr e m;simp[e];refine Cs (i.1 a e.2) ?_;rcases Io e m with⟨e,m⟩|⟨e,m⟩
  ·cases m;simp[e]
  have⟨L,e,m⟩:=ep e m;simp[e];refine Cs (ET e.2) ?_;cases m;simp[e]
 ·intro H a0 a1 a2 c d g a hm;rw[iG] at hm;have e:=Aj k a;refine wi acR func142 [] [] 7 ?_;have⟨C,e,m⟩:=ep e hm;have⟨j,v,e,m⟩:=gr e m;simp[e];refine Cs (i.2.2.2.2.2.2.2.2.2.2.2.2.1 a e.2) ?_;simp[e];rcases Io e m with⟨e,m⟩|⟨e,m⟩
  ·apply wg 999;cases m;simp[e]
  apply wg 4;simp[e];refine wj 999 999 (λf h=>h=H/\f.1 6=AV.eD 6 (f.gen 6) 0/\f.1 8=AV.eD 8 (f.gen 8) 0/\f.1 10=sI (fW (eH a1.acM 5) 1 0)/\f.box 6=some [sI 0,sI 0,AV.slice .full [],AV.slice .full [],AV.slice .full [],AV.sc (.int .u32 0)]/\f.box 8=some [sI j.eh.acM,sI j.eh.dv.acM,sL Ty.av j.eh.dv.acN,sL Tm.av j.eh.ek,sL Fm.av j.eh.acN,AV.sc (.int .u32 j.gP)]) (λaB w=>?_) ?_;rotate_left
  ·rintro ar aC E;have e:=Aj e E;have⟨x7,e,m⟩:=ep e m;cases m;simp[e]
  rcases Pb (eH a1.acM 5) e with e|e
  ·simp[e];exact w _ _ (by simp[e])
  simp[e];exact w _ _ (by simp[e])
 ·intro H a0 a1 a2 c d g a hm;rw[k_] at hm;have e:=Aj k a;refine wi acR func143 [] [] 999 ?_;have⟨D,e,m⟩:=ep e hm;have⟨s,e,m⟩:=ep e m;simp[e];refine Cf (jc e.2) ?_;rcases Io e m with⟨e,m⟩|⟨e,m⟩
  ·cases m;simp[e]
  have⟨v,e,m⟩:=ep e m;simp[e];refine Cf (nT e.2) ?_;rcases Io e m with⟨e,m⟩|⟨e,m⟩
  ·cases m;simp[e]
  have⟨Z,e,m⟩:=ep e m;have⟨M,e,m⟩:=ep e m;simp[e];refine Cs (oo e.2) ?_;have⟨aa,L,e,m⟩:=gr e m;simp[e];refine Cs (i.1 a e.2) ?_;rcases Io e m with⟨e,m⟩|⟨e,m⟩
  ·cases m;simp[e]
  have⟨ab,e,m⟩:=ep e m;simp[e];refine Cs (ET e.2) ?_;cases m;simp[e]
 ·intro H a0 a1 a2 c d g a hm;rw[la] at hm;have e:=Aj k a;refine wi acR func144 [] [] 999 ?_;have⟨C,e,m⟩:=ep e hm;have⟨j,v,e,m⟩:=gr e m;simp[e];refine Cs (i.2.2.2.2.2.2.2.2.2.2.2.2.1 a e.2) ?_;rcases Io e m with⟨e,m⟩|⟨e,m⟩
  ·cases m;simp[e]
  have⟨B,e,m⟩:=ep e m;have⟨X,Y,e,m⟩:=gr e m;simp[e];refine Cs (i.1 a e.2) ?_;rcases Io e m with⟨e,m⟩|⟨e,m⟩
  ·cases m;simp[e]
  have⟨ad,e,m⟩:=ep e m;have⟨t,e,m⟩:=ep e m;simp[e];refine Cs (uy T k e.2) ?_;rcases Io e m with⟨e,m⟩|⟨e,m⟩
  ·cases m;simp[e]
  have⟨N,e,m⟩:=ep e m;cases m;simp[e]
 ·intro H a0 a1 a2 c d g a hm;rw[im] at hm;have e:=Aj k a;refine wi acR func145 [] [] 7 ?_;have⟨aD,e,m⟩:=ep e hm;simp[e];refine Cf (nT e.2) ?_;simp[e];rcases Io e m with⟨e,m⟩|⟨e,m⟩
  ·apply wg 999;cases m;simp[e]
  apply wg 7;have⟨x7,e,m⟩:=ep e m;have⟨aE,e,m⟩:=ep e m;simp[e];refine Cs (pZ e.2) ?_;have⟨q,K,e,m⟩:=gr e m;simp[e];refine Cs (i.1 a e.2) ?_;simp[e];rcases Io e m with⟨e,m⟩|⟨e,m⟩
  ·apply wg 999;cases m;simp[e]
  apply wg 4;simp[e];refine Wj m 999 999 (λO f h=>∃(F:Int),(h=H/\f.1 4=AV.eD 4 (f.gen 4) 0/\f.1 6=AV.eD 6 (f.gen 6) 0/\f.1 9=AV.eD 9 (f.gen 9) 0/\f.1 11=sI F/\f.box 4=some (Pf.av a1).cells/\f.box 6=some [sI 0,sI 0,AV.slice .full [],AV.slice .full [],AV.slice .full [],AV.sc (.int .u32 0)]/\f.box 9=some [sI q.eh.acM,sI q.eh.dv.acM,sL Ty.av q.eh.dv.acN,sL Tm.av q.eh.ek,sL Fm.av q.eh.acN,AV.sc (.int .u32 q.gP)])/\O F=some (c,d)) (λO aF x m=>?_) ?_
  ·rcases Io e m with⟨e,m⟩|⟨e,m⟩;rotate_left
   ·simp[e];exact x _ _ ⟨4,by simp[e],m⟩
   rcases Io e m with⟨e,m⟩|⟨e,m⟩
   ·cases m;simp[e]
   simp[e];exact x _ _ ⟨6,by simp[e],m⟩
  rintro au aG ⟨F,E,m⟩;have e:=Aj e E;have⟨aH,e,m⟩:=ep e m;simp[e];refine Cs (sP e.2) ?_;have⟨aI,e,m⟩:=ep e m;simp[e];refine Cs (o9 e.2) ?_;cases m;simp[e]
 ·intro H a0 a1 a2 c d g a hm;rw[il] at hm;have e:=Aj k a;refine wi acR func146 [] [] 9 ?_;have⟨D,e,m⟩:=ep e hm;have⟨G,aJ,e,m⟩:=gr e m;simp[e];refine Cf (l_ e.2) ?_;simp[e];rcases Io e m with⟨e,m⟩|⟨e,m⟩
  ·apply wg 999;cases m;simp[e]
  apply wg 4;have⟨P,e,m⟩:=ep e m;simp[e];refine Cf (wU T e.2) ?_;simp[e];refine wj 999 999 (λf h=>h=H/\f.1 0=AV.fT g 0/\f.1 4=AV.eD 4 (f.gen 4) 0/\f.1 5=AV.eD 5 (f.gen 5) 0/\f.1 6=AV.eD 6 (f.gen 6) 0/\f.1 8=AV.eD 8 (f.gen 8) 0/\f.1 9=AV.eD 9 (f.gen 9) 0/\f.1 11=sI (fW (eH a1.acM 13) 6 4)/\f.1 12=AV.sc (.int .u32 (fW (eH a1.acM 13) 0 P))/\f.box 4=some (Pf.av a1).cells/\f.box 5=some [sI a2.gj.vars,sI a2.gj.acT,sL ed.av a2.acQ,sL eu.av a2.known]/\f.box 6=some [sI 0,sI 0,AV.slice .full [],AV.slice .full [],AV.slice .full [],AV.sc (.int .u32 0)]/\f.box 8=some (Tm.av D).cells/\f.box 9=some [sI G.dv.acM,sL Ty.av G.dv.acN,sI G.acO]) (λaK y=>?_) ?_
  ·rcases Pb (eH a1.acM 13) e with e|e
   ·simp[e];exact y _ _ (by simp[e])
   simp[e];exact y _ _ (by simp[e])
  rintro aw aL E;have e:=Aj e E;have⟨aM,e,m⟩:=ep e m;have⟨K,B,e,m⟩:=gr e m;simp[e];refine Cs (i.2.2.2.2.2.2.2.2.2.2.2.2.1 a e.2) ?_;rcases Io e m with⟨e,m⟩|⟨e,m⟩
  ·cases m;simp[e]
  have⟨M,e,m⟩:=ep e m;simp[e];refine Cf (qT e.2) ?_;rcases Io e m with⟨e,m⟩|⟨e,m⟩;rotate_left
  ·cases m;simp[e]
  have⟨aN,e,m⟩:=ep e m;have⟨ae,af,e,m⟩:=gr e m;simp[e];refine Cs (se T k e.2) ?_;cases m;simp[e]
 ·intro H a0 a1 a2 c d g a hm;rw[iI] at hm;have e:=Aj k a;refine wi acR func147 [] [] 999 ?_;have⟨P,e,m⟩:=ep e hm;have⟨aO,e,m⟩:=ep e m;rcases Io e m with⟨e,m⟩|⟨e,m⟩;rotate_left
  ·have⟨aP,e,m⟩:=ep e m;simp[e];refine Cf (jc e.2) ?_;rcases Io e m with⟨e,m⟩|⟨e,m⟩
   ·cases m;simp[e]
   rcases Io e m with⟨e,m⟩|⟨e,m⟩
   ·cases m;simp[e]
   have⟨aQ,ah,e,m⟩:=gr e m;simp[e];refine Cf (l_ e.2) ?_;rcases Io e m with⟨e,m⟩|⟨e,m⟩
   ·cases m;simp[e]
   have⟨aR,e,m⟩:=ep e m;simp[e];refine Cf (qT e.2) ?_;rcases Io e m with⟨e,m⟩|⟨e,m⟩;rotate_left
   ·cases m;simp[e]
   have⟨ai,e,m⟩:=ep e m;have⟨aS,e,m⟩:=ep e m;have⟨aT,aU,e,m⟩:=gr e m;simp[e];refine Cs (i.2.2.2.2.2.2.2.2.2.2.2.2.2 a e.2) ?_;rcases Io e m with⟨e,m⟩|⟨e,m⟩
   ·cases m;simp[e]
   have⟨aV,e,m⟩:=ep e m;simp[e];refine Cs (wU T e.2) ?_;cases m;simp[e]
  have⟨Q,e,m⟩:=ep e m;simp[e];refine Cf (jc e.2) ?_;rcases Io e m with⟨e,m⟩|⟨e,m⟩
  ·cases m;simp[e]
  rcases Io e m with⟨e,m⟩|⟨e,m⟩
  ·cases m;simp[e]
  have⟨x9,aW,e,m⟩:=gr e m;simp[e];refine Cf (l_ e.2) ?_;rcases Io e m with⟨e,m⟩|⟨e,m⟩
  ·cases m;simp[e]
  have⟨aX,e,m⟩:=ep e m;simp[e];refine Cf (qT e.2) ?_;rcases Io e m with⟨e,m⟩|⟨e,m⟩;rotate_left
  ·cases m;simp[e]
  have⟨aY,e,m⟩:=ep e m;have⟨aZ,e,m⟩:=ep e m;have⟨af,aj,e,m⟩:=gr e m;simp[e];refine Cs (i.2.2.2.2.2.2.2.2.2.2.2.2.2 a e.2) ?_;rcases Io e m with⟨e,m⟩|⟨e,m⟩
  ·cases m;simp[e]
  have⟨l,e,m⟩:=ep e m;simp[e];refine Cs (yA e.2) ?_;cases m;simp[e]
 ·intro H a0 a1 a2 c d g a hm;rw[iF] at hm;have e:=Aj k a;refine wi acR func148 [] [] 6 ?_;simp[e];refine wj 999 5 (λf h=>h=H/\f.1 0=AV.fT g 0/\f.1 4=AV.eD 4 (f.gen 4) 0/\f.1 5=AV.eD 5 (f.gen 5) 0/\f.1 6=AV.eD 6 (f.gen 6) 0/\f.1 8=sB (eH a1.acM 15)/\f.1 9=sI (fW (eH a1.acM 15) 7 5)/\f.box 4=some (Pf.av a1).cells/\f.box 5=some [sI a2.gj.vars,sI a2.gj.acT,sL ed.av a2.acQ,sL eu.av a2.known]/\f.box 6=some [sI 0,sI 0,AV.slice .full [],AV.slice .full [],AV.slice .full [],AV.sc (.int .u32 0)]) (λa6 R=>?_) ?_
  ·rcases Pb (eH a1.acM 15) e with e|e
   ·simp[e];exact R _ _ (by simp[e])
   simp[e];exact R _ _ (by simp[e])
  rintro ax a7 E;have e:=Aj e E;have⟨v,e,m⟩:=ep e hm;have⟨p,a8,e,m⟩:=gr e m;simp[e];refine Cs (i.2.2.2.2.2.2.2.2.2.2.2.2.1 a e.2) ?_;simp[e];rcases Io e m with⟨e,m⟩|⟨e,m⟩
  ·apply wg 999;cases m;simp[e]
  apply wg 7;have⟨x7,e,m⟩:=ep e m;simp[e];refine Cf (nT e.2) ?_;simp[e];rcases Io e m with⟨e,m⟩|⟨e,m⟩
  ·apply wg 999;cases m;simp[e]
  apply wg 7;have⟨aj,e,m⟩:=ep e m;have⟨a_,e,m⟩:=ep e m;simp[e];refine Cs (pZ e.2) ?_;have⟨ad,e,m⟩:=ep e m;have⟨t,e,m⟩:=ep e m;simp[e];refine Cs (oo e.2) ?_;have⟨l,a',e,m⟩:=gr e m;simp[e];refine Cs (i.1 a e.2) ?_;simp[e];rcases Io e m with⟨e,m⟩|⟨e,m⟩
  ·apply wg 999;cases m;simp[e]
  apply wg 7;have⟨N,ak,e,m⟩:=gr e m;simp[e];refine Cf (DD T k e.2) ?_;simp[e];rcases Io e m with⟨e,m⟩|⟨e,m⟩
  ·apply wg 999;cases m;simp[e]
  apply wg 3;simp[e];refine wj 999 999 (λf h=>h=H/\f.1 6=AV.eD 6 (f.gen 6) 0/\f.1 10=AV.eD 10 (f.gen 10) 0/\f.1 13=AV.eD 13 (f.gen 13) 0/\f.1 14=AV.eD 14 (f.gen 14) 0/\f.1 82=sB (fW (eH a1.acM 15) (eW (qC .u32 l.gP 1) 0) false)/\f.box 6=some [sI 0,sI 0,AV.slice .full [],AV.slice .full [],AV.slice .full [],AV.sc (.int .u32 0)]/\f.box 10=some [sI p.eh.acM,sI p.eh.dv.acM,sL Ty.av p.eh.dv.acN,sL Tm.av p.eh.ek,sL Fm.av p.eh.acN,AV.sc (.int .u32 p.gP)]/\f.box 13=some [sI l.eh.acM,sI l.eh.dv.acM,sL Ty.av l.eh.dv.acN,sL Tm.av l.eh.ek,sL Fm.av l.eh.acN,AV.sc (.int .u32 l.gP)]/\f.box 14=some (Fm.av N).cells) (λba z=>?_) ?_
  ·rcases Pb (eH a1.acM 15) e with e|e
   ·simp[e];exact z _ _ (by simp[e])
   simp[e];exact z _ _ (by simp[e])
  rintro ay bb E;have e:=Aj e E;rcases Io e m with⟨e,m⟩|⟨e,m⟩
  ·cases m;simp[e]
  have⟨al,e,m⟩:=ep e m;simp[e];refine Cs (o9 e.2) ?_;cases m;simp[e]
 ·intro H a0 a1 a2 c d g a hm;rw[iH] at hm;have e:=Aj k a;refine wi acR func149 [] [] 999 ?_;have⟨v,e,m⟩:=ep e hm;have⟨p,e,m⟩:=ep e m;have⟨Q,e,m⟩:=ep e m;simp[e];refine Cs (zu e.2) ?_;have⟨an,e,m⟩:=ep e m;simp[e];refine Cs (nq e.2) ?_;have⟨ab,e,m⟩:=ep e m;simp[e];refine Cs (jc e.2) ?_;rcases Io e m with⟨e,m⟩|⟨e,m⟩
  ·cases m;simp[e]
  have⟨ae,e,m⟩:=ep e m;simp[e];refine Cf (ud e.2) ?_;rcases Io e m with⟨e,m⟩|⟨e,m⟩
  ·cases m;simp[e]
  have⟨ak,e,m⟩:=ep e m;have⟨bc,bd,e,m⟩:=gr e m;simp[e];refine Cs (i.2.2.2.2.2.2.2.2.2.2.2.2.2 a e.2) ?_;rcases Io e m with⟨e,m⟩|⟨e,m⟩
  ·cases m;simp[e]
  have⟨bf,e,m⟩:=ep e m;simp[e];refine Cf (nT e.2) ?_;rcases Io e m with⟨e,m⟩|⟨e,m⟩
  ·cases m;simp[e]
  have⟨bg,e,m⟩:=ep e m;simp[e];refine Cs (pZ e.2) ?_;have⟨bh,e,m⟩:=ep e m;simp[e];refine Cs (oT T e.2) ?_;have⟨bj,e,m⟩:=ep e m;simp[e];refine Cs (oo e.2) ?_;have⟨bk,e,m⟩:=ep e m;have⟨bl,e,m⟩:=ep e m;simp[e];refine Cs (oT T e.2) ?_;have⟨bm,bn,e,m⟩:=gr e m;simp[e];refine Cs (i.2.2.2.2.2.2.2.2.2.2.2.2.2 a e.2) ?_;rcases Io e m with⟨e,m⟩|⟨e,m⟩
  ·cases m;simp[e]
  have⟨bo,bp,e,m⟩:=gr e m;simp[e];refine Cf (se T k e.2) ?_;have⟨bq,e,m⟩:=ep e m;simp[e];refine Cs (wU T e.2) ?_;have⟨br,e,m⟩:=ep e m;simp[e];refine Cs (o9 e.2) ?_;cases m;simp[e]
 ·intro H a0 a1 a2 c d g a hm;rw[kE] at hm;have e:=Aj k a;refine wi acR func151 [] [] 999 ?_;have⟨D,e,m⟩:=ep e hm;have⟨L,e,m⟩:=ep e m;simp[e];refine Cs (m5 e.2) ?_;have⟨bs,e,m⟩:=ep e m;simp[e];refine Cs (nq e.2) ?_;have⟨bt,e,m⟩:=ep e m;simp[e];refine Cs (jc e.2) ?_;rcases Io e m with⟨e,m⟩|⟨e,m⟩
  ·cases m;simp[e]
  have⟨bu,e,m⟩:=ep e m;have⟨bw,t,e,m⟩:=gr e m;simp[e];refine Cs (i.2.2.2.2.2.2.2.2.2.2.2.2.1 a e.2) ?_;rcases Io e m with⟨e,m⟩|⟨e,m⟩
  ·cases m;simp[e]
  have⟨al,e,m⟩:=ep e m;have⟨bx,e,m⟩:=ep e m;have⟨bz,bA,e,m⟩:=gr e m;simp[e];refine Cs (i.2.2.2.2.2.2.2.2.2.2.2.2.2 a e.2) ?_;rcases Io e m with⟨e,m⟩|⟨e,m⟩
  ·cases m;simp[e]
  have⟨bB,e,m⟩:=ep e m;have⟨ai,bC,e,m⟩:=gr e m;simp[e];refine Cs (se T k e.2) ?_;cases m;simp[e]
 ·intro H a0 a1 a2 c d g a hm;rw[j8] at hm;have e:=Aj k a;refine wi acR func152 [] [] 7 ?_;have⟨C,e,m⟩:=ep e hm;have⟨j,v,e,m⟩:=gr e m;simp[e];refine Cs (i.2.2.2.2.2.2.2.2.2.2.2.2.1 a e.2) ?_;simp[e];rcases Io e m with⟨e,m⟩|⟨e,m⟩
  ·apply wg 999;cases m;simp[e]
  apply wg 9;have⟨Q,e,m⟩:=ep e m;simp[e];rcases Io e m with⟨e,m⟩|⟨e,m⟩
  ·apply wg 999;cases m;simp[e]
  apply wg 7;have⟨x8,e,m⟩:=ep e m;simp[e];refine Cf (BI e.2) ?_;have⟨Z,e,m⟩:=ep e m;have⟨M,e,m⟩:=ep e m;simp[e];refine Cf (oT T e.2) ?_;have⟨aa,e,m⟩:=ep e m;simp[e];refine Cf (kX e.2) ?_;have⟨bD,e,m⟩:=ep e m;simp[e];refine Cf (kX e.2) ?_;have⟨bE,e,m⟩:=ep e m;simp[e];refine Cf (BN e.2) ?_;have⟨ao,an,e,m⟩:=gr e m;simp[e];refine Cf (se T k e.2) ?_;simp[e];refine Wj m 999 999 (λS f h=>∃(I:Bool),(h=H/\f.1 6=AV.eD 6 (f.gen 6) 0/\f.1 8=AV.eD 8 (f.gen 8) 0/\f.1 10=AV.eD 10 (f.gen 10) 0/\f.1 12=AV.eD 12 (f.gen 12) 0/\f.1 13=AV.eD 13 (f.gen 13) 0/\f.1 63=sB I/\f.box 6=some [sI 0,sI 0,AV.slice .full [],AV.slice .full [],AV.slice .full [],AV.sc (.int .u32 0)]/\f.box 8=some [sI j.eh.acM,sI j.eh.dv.acM,sL Ty.av j.eh.dv.acN,sL Tm.av j.eh.ek,sL Fm.av j.eh.acN,AV.sc (.int .u32 j.gP)]/\f.box 10=some (Fm.av j.eh).cells/\f.box 12=some (Ty.av x8).cells/\f.box 13=some (Fm.av ao).cells)/\S I=some (c,d)) (λS bF A m=>?_) ?_
  ·rcases Io e m with⟨e,m⟩|⟨e,m⟩
   ·simp[e];exact A _ _ ⟨true,by simp[e],m⟩
   have⟨t,e,m⟩:=ep e m;simp[e];refine Cf (A' e.2) ?_;simp[e];exact A _ _ ⟨(eW t 0),by simp[e],m⟩
  rintro az bG ⟨I,E,m⟩;have e:=Aj e E;rcases Io e m with⟨e,m⟩|⟨e,m⟩
  ·cases m;simp[e]
  have⟨bH,e,m⟩:=ep e m;simp[e];refine Cs (sP e.2) ?_;have⟨ah,e,m⟩:=ep e m;simp[e];refine Cs (sP e.2) ?_;cases m;simp[e]
 ·intro H a0 a1 a2 a3 c d g a hm;rw[fg] at hm;have e:=Aj k a;refine wi acR func192 [] [] 5 ?_;have⟨o,u,e,m⟩:=gr e hm;simp[e];refine Cf (i.1 a e.2) ?_;simp[e];refine wj 999 999 (λf h=>h=H/\f.1 8=AV.eD 8 (f.gen 8) 0/\f.1 10=AV.eD 10 (f.gen 10) 0/\f.1 11=sI u/\f.1 27=sB (fW (eH u 0) (eW o.eh.acM a3) false)/\f.box 8=some [sI 0,sI 0,AV.slice .full [],AV.slice .full [],AV.slice .full [],AV.sc (.int .u32 0)]/\f.box 10=some [sI o.eh.acM,sI o.eh.dv.acM,sL Ty.av o.eh.dv.acN,sL Tm.av o.eh.ek,sL Fm.av o.eh.acN,AV.sc (.int .u32 o.gP)]) (λK1 U=>?_) ?_;rotate_left
  ·rintro bI h3 E;have e:=Aj e E;rcases Io e m with⟨e,m⟩|⟨e,m⟩
   ·cases m;simp[e]
   cases m;simp[e]
  rcases Pb (eH u 0) e with e|e
  ·simp[e];exact U _ _ (by simp[e])
  simp[e];exact U _ _ (by simp[e])
 ·intro H a0 a1 a2 a3 a4 c d g a hm;rw[fi] at hm;have e:=Aj k a;refine wi acR func202 [] [] 999 ?_;have⟨o,u,e,m⟩:=gr e hm;simp[e];refine Cf (i.1 a e.2) ?_;rcases Io e m with⟨e,m⟩|⟨e,m⟩
  ·cases m;simp[e]
  have⟨x1,s,e,m⟩:=gr e m;simp[e];refine Cf (se T k e.2) ?_;rcases Io e m with⟨e,m⟩|⟨e,m⟩
  ·cases m;simp[e]
  have⟨v,e,m⟩:=ep e m;simp[e];refine Cs (uy T k e.2) ?_;cases m;simp[e]
def ye(T:fh)(e:qv T){H:eB}{a0:List Fm}{a1:Pf}{a2:eg}{b:ec}{c:Int}{d:Nat}(a:KC H d a0){n:Nat}(hm:e9 n a0 a1 a2=some (b,c)):e_ prog T 81 [AV.fT d 0,Pf.av a1,eg.av a2] H (AV.tuple [ec.av b,sI c]) H:=(xL T e n).1 a hm
def L2:∀(n:Nat),C1 prog 157 (vN n) Tm.av Tm.av:=by
  intro n
  induction n with
  |zero=>
   skip
   all_goals(intro _ _;intros;rename_i hm;cases hm)
  |succ n l=>
 intro T H a0 r hm;rw[vN] at hm;have e:=trivial;refine wi acR func157 [] [] 999 ?_;have⟨j,e,m⟩:=ep e hm;simp[e];refine Cs (sM e.2) ?_;simp[e];refine Wr e m 999 (λk c f h=>∃(a:Tag),(h=H/\f.1 2=AV.eD 2 (f.gen 2) 0/\f.1 3=AV.eD 3 (f.gen 3) 0/\f.1 15=sL Tm.av a0.acN/\f.1 16=sI (eN a0.acN)/\f.1 17=sI k/\f.box 2=some [sI 0,sI 0,sI 0,AV.slice .full [],AV.slice .full []]/\f.box 3=some [sI a0.acM,sI a0.acP,sI j.acM,sL Ty.av j.acN,sT a Tm.av c])/\Ow f [26] a c) (by exact⟨.full,by simp[e],js.full⟩) (λc d o p E m=>?_) (λk q c d o p s t E e m z9 g=>?_)
 ·have⟨a,E,b⟩:=E;have e:=Aj e E;dsimp only[en]at m;cases m;simp[e]
 have⟨a,E,b⟩:=E;have e:=Aj e E;have⟨i,e,m⟩:=ep e m;simp[e];refine Cs (l e.2) ?_;have⟨e,m⟩:=Ck e m;simp[e];refine Ad (f:=Tm.av) c [i] b CX e.2 ?_;simp[e];cases m;exact g _ _ _ ⟨(.loc 26 (d.fP 26+1)),by simp[e],(On 26)⟩ z9
def N0{n:Nat}:C1 prog 157 (vN n) Tm.av Tm.av:=(L2 n)
def AW:C2 prog 156 nL Tm.av Tm.av sI:=by
 intro T H a0 a1 r hm;rw[nL] at hm;have e:=trivial;refine wi acR func156 [] [] 999 ?_;have⟨a,e,m⟩:=ep e hm;simp[e];refine Cf (N0 e.2) ?_;cases m;simp[e]
def Da:C1 prog 83 pB Fm.av Fm.av:=by
 intro T H a0 r hm;rw[pB] at hm;have e:=trivial;refine wi acR func83 [] [] 999 ?_;have⟨b,s2,e,m⟩:=gr e hm;simp[e];refine Cf (nk T (st:=λ_:Unit=>H) (B2.const _) (λX _ _ _ _ _ h=>by obtain⟨a,rfl⟩:=vu h;exact AW a) e.2) ?_;cases m;simp[e]
def QX:su prog 158=true:=by kernel_rfl
set_option maxHeartbeats 4000000 in
def Vn(x k idx:Nat)(w:World)(b:((x:Int)==0)=false)
  (key:bits BinOp.and IntKind.u32 (x:Int) (-(x:Int)%4294967296)*125613361%4294967296/134217728=(idx:Int))
  (hi:idx<32) (c:k<32) (a:w.cell? ⟨0,idx,none⟩=some (.int .u8 k)):Calls prog 158 #[.int .u32 x] w λe w'=>e=.returned (.int .i64 k)/\w'=w:=by
 go_enter func158,ntmps158
 go_wp2_with (simp only[key])
 go_ret
 exact⟨rfl,rfl⟩
set_option maxHeartbeats 4000000 in
def Uk(w:World):Calls prog 158 #[.int .u32 0] w λe w'=>e=.returned (.int .i64 32)/\w'=w:=by
 go_enter func158,ntmps158
 go_wp2
 go_ret
 exact⟨rfl,rfl⟩
def US(n:Int):IntKind.u32.wrap n=n%4294967296:=by simp[IntKind.wrap,IntKind.signed,IntKind.bits]
def XX(a b:Nat)(e:a<4294967296)(f:b<4294967296):bits .and .u32 (a:Int) (b:Int)=((a&&&b:Nat):Int):=by
 have g:a&&&b<2^32:=DN _ (by omega)
 have c:(BitVec.ofInt 32 (a:Int)).toNat=a:=by
  rw[sU];omega
 have d:(BitVec.ofInt 32 (b:Int)).toNat=b:=by
  rw[sU];omega
 show IntKind.u32.wrap ((BitVec.ofInt 32 (a:Int)&&&BitVec.ofInt 32 (b:Int)).toNat:Int)=_;rw[BitVec.toNat_and,c,d,US];omega
def Xp(x a:Nat)(c:x<4294967296)(d:x≠0)(b:x&&&(4294967296-x)=a):bits BinOp.and IntKind.u32 (x:Int) (-(x:Int)%4294967296)*125613361%4294967296/134217728=((a*125613361%4294967296/134217728:Nat):Int):=by
 have e:-(x:Int)%4294967296=((4294967296-x:Nat):Int):=by omega
 rw[e,XX x _ c (by omega),b];omega
def XZ:∀j,j<32->l9[j]?=some ((Lib.deBruijn32tab.getD j 0:Nat):Int):=by decide+kernel
def uK(T:fh)(n:qv T){H:eB}{a0 g:Int}(hm:iT a0=some g):e_ prog T 158 [AV.sc (.int .u32 a0)] H (sI g) H:=by
 unfold iT at hm
 split at hm
 case isFalse=>cases hm
 rename_i h;obtain⟨x,rfl⟩:∃x:Nat,a0=(x:Int):=⟨a0.toNat,by omega⟩;obtain rfl:=iD hm
 have j:x<2^32:=by omega
 rw[AX];refine e_.Vr QX λG F w vs hg o=>?_
 obtain⟨v1,rfl,a⟩:∃v,vs=[v]/\ic F G H.length (AV.sc (.int .u32 (x:Int))) v:=by
  cases o with
  |cons a b=>cases b;exact⟨_,rfl,a⟩
 cases a;refine⟨_,.sc rfl,?_⟩
 by_cases c:x=0
 ·subst c;exact(Uk w).mono λe w' ⟨a,b⟩=>⟨a,by rw[b];exact UB _ _⟩
 ·have⟨d,k⟩:=Lib.lowest_bit 32 x c j;have⟨hi,f⟩:=Lib.deBruijn32_at _ k;have p:=hg.AS 0 _ n.2.2;cases p with
  |nr a b r=>
   have l:=XZ _ hi;rw[f] at l;have⟨v,q,h⟩:=a.get (i:=2^Lib.ctz 32 x*125613361%4294967296/134217728) (x:=.sc (.int .u8 (Lib.ctz 32 x:Int))) (by simp[AV.cells,l]);cases h;have m:=hg.Fa _ _ _ (b _ _ q);rw[vl] at m;exact(Vn x (Lib.ctz 32 x) _ w (by simp;omega) (Xp x _ j c d) hi k m).mono λe w' ⟨a,b⟩=>⟨a,by rw[b];exact UB _ _⟩
def wm(T:fh)(g:qv T){H:eB}{a0:Int}{i:List Int}(hm:kB a0=some i):e_ prog T 84 [AV.sc (.int .u32 a0)] H (sL sI i) H:=by
 rw[kB] at hm;have e:=g;refine wi acR func84 [] [] 999 ?_;simp[e];refine Wn hm 999 (λs1 f h=>∃(a:Tag),(h=H/\f.1 0=AV.sc (.int .u32 s1.1)/\f.1 3=sT a sI s1.2)/\Ow f [14] a s1.2) (by exact⟨.full,by simp[e],js.full⟩) (λs1 fr2 k l n4 c5 E m j c=>?_);have⟨n,v9⟩:=s1;have⟨a,E,b⟩:=E;have e:=Aj e E;dsimp only[mY]at m;rcases Io e m with⟨e,m⟩|⟨e,m⟩;rotate_left
 ·cases m;have m:=Qb j;dsimp only[mY]at m;cases m;simp[e]
 have⟨d,e,m⟩:=ep e m;simp[e];refine Cf (uK T g e.2) ?_;have⟨e,m⟩:=Ck e m;simp[e];refine Ao (f:=sI) v9 [d] b P6 e.2 ?_;simp[e];cases m;exact c _ _ _ ⟨(.loc 14 (fr2.fP 14+1)),by simp[e],(On 14)⟩ j
def qy(T:fh)(a:qv T){H:eB}{a0:List Fm}{a1:Sq}{a2:Pf}{b:sX}{c:Int}(hm:jz a0 a1 a2=some (b,c)):e_ prog T 23 [sL Fm.av a0,Sq.av a1,Pf.av a2] H (AV.tuple [sX.av b,sI c]) H:=by
 rw[jz] at hm;refine fQ.uC (Post:=λx K=>x=AV.tuple [sX.av b,sI c]/\∃X,K=H++X) ?_ (λ_ _ h=>⟨_,h.2.choose_spec,by rw[h.1];simp[AV.low,AV.jj],h.1,rfl⟩);have e:=a;refine wi acR func23 [29] [] 999 ?_;have⟨d,e,m⟩:=ep e hm;simp[e];refine Cf (Es T a e.2) ?_;rcases Io e m with⟨e,m⟩|⟨e,m⟩
 ·cases m;simp[e]
 have⟨f,e,m⟩:=ep e m;simp[e];refine Cf (ID T a e.2) ?_;rcases Io e m with⟨e,m⟩|⟨e,m⟩
 ·cases m;simp[e]
 have⟨g,e,m⟩:=ep e m;simp[e];refine Cf (Gu T e.2) ?_;have⟨i,e,m⟩:=ep e m;simp[e];refine Cs (GS e.2) ?_;have⟨j,k,e,m⟩:=gr e m;simp[e];refine Cs (ye T a ⟨by simp[e],by simp[e]⟩ e.2) ?_;rcases Io e m with⟨e,m⟩|⟨e,m⟩
 ·cases m;simp[e]
 have⟨l,e,m⟩:=ep e m;simp[e];refine Cs (Da e.2) ?_;have⟨n,e,m⟩:=ep e m;simp[e];refine Cs (wm T a e.2) ?_;cases m;simp[e]
def lE:C2 prog 51 k0 Fm.av Tm.av Tm.av:=by
 intro T H a0 a1 r hm;rw[k0] at hm;have e:=trivial;refine wi acR func51 [] [] 999 ?_;have⟨a,e,m⟩:=ep e hm;simp[e];refine Cs (mC e.2) ?_;have⟨b,e,m⟩:=ep e m;simp[e];refine Cs (mC e.2) ?_;have e:=Aj e (show AV.agg [sI 1,sI 0,AV.slice .iR [],AV.slice .iR [Tm.av a,Tm.av b],AV.slice .iR []]=Fm.av (Fm.mk 1 (Ty.mk 0 []) [a,b] []) by rw[Fm.fL];rfl);cases m;simp[e]
def me:C3 prog 50 jS Fm.av sI Ty.av Fm.av:=by
 intro T H a0 a1 a2 r hm;rw[jS] at hm;have e:=trivial;refine wi acR func50 [] [] 999 ?_;have⟨a,e,m⟩:=ep e hm;simp[e];refine Cs (jT e.2) ?_;have⟨b,e,m⟩:=ep e m;simp[e];refine Cs (kS e.2) ?_;have e:=Aj e (show AV.agg [sI a0,sI a.acM,sL Ty.av a.acN,AV.slice .iR [],AV.slice .iR [Fm.av b]]=Fm.av (Fm.mk a0 a [] [b]) by rw[Fm.fL];rfl);cases m;simp[e]
def I6:∀(n:Nat),C2 prog 61 (fR n) sB Ty.av Ty.av:=by
  intro n
  induction n with
  |zero=>
    skip
    all_goals(intro _ _;intros;rename_i hm;cases hm)
  |succ n j=>
 intro T H a0 a1 r hm;rw[fR] at hm;have e:=trivial;refine wi acR func61 [] [] 3 ?_;simp[e];refine wj 999 999 (λf h=>h=H/\f.1 2=AV.eD 2 (f.gen 2) 0/\f.1 3=AV.eD 3 (f.gen 3) 0/\f.1 19=sB (fW (eW a0.acM a1.acM) true (eW (eN a0.acN) (eN a1.acN)))/\f.box 2=some (Ty.av a0).cells/\f.box 3=some (Ty.av a1).cells) (λt a=>?_) ?_
 ·rcases Pb (eW a0.acM a1.acM) e with e|e
  ·simp[e];exact a _ _ (by simp[e])
  simp[e];exact a _ _ (by simp[e])
 rintro k u E;have e:=Aj e E;rcases Io e hm with⟨e,m⟩|⟨e,m⟩
 ·cases m;simp[e]
 simp[e];refine Wr e m 999 (λg i f h=>h=H/\f.1 2=AV.eD 2 (f.gen 2) 0/\f.1 3=AV.eD 3 (f.gen 3) 0/\f.1 22=sI (eN a0.acN)/\f.1 23=sI g/\f.box 2=some (Ty.av a0).cells/\f.box 3=some (Ty.av a1).cells) (by simp[e]) (λi d l o E m=>?_) (λg v i d l o w p E e m b c=>?_)
 ·have e:=Aj e E;dsimp only[en]at m;cases m;simp[e]
 have e:=Aj e E;have⟨q,e,m⟩:=ep e m;have⟨s,e,m⟩:=ep e m;simp[e];refine Cs (j e.2) ?_;rcases Io e m with⟨e,m⟩|⟨e,m⟩;rotate_left
 ·cases m;cases b;simp[e]
 simp[e];cases m;exact c _ _ _ (by simp[e]) b
def iw{n:Nat}:C2 prog 61 (fR n) sB Ty.av Ty.av:=(I6 n)
def I2:∀(n:Nat),C2 prog 168 (ku n) sB Tm.av Tm.av:=by
  intro n
  induction n with
  |zero=>
    skip
    all_goals(intro _ _;intros;rename_i hm;cases hm)
  |succ n l=>
 intro T H a0 a1 r hm;rw[ku] at hm;have e:=trivial;refine wi acR func168 [] [] 3 ?_;simp[e];refine Wj hm 999 999 (λi f h=>∃(v2:Bool),(h=H/\f.1 2=AV.eD 2 (f.gen 2) 0/\f.1 3=AV.eD 3 (f.gen 3) 0/\f.1 34=sB v2/\f.box 2=some (Tm.av a0).cells/\f.box 3=some (Tm.av a1).cells)/\i v2=some r) (λi w a m=>?_) ?_
 ·rcases Io e m with⟨e,m⟩|⟨e,m⟩
  ·simp[e];exact a _ _ ⟨true,by simp[e],m⟩
  rcases Io e m with⟨e,m⟩|⟨e,m⟩
  ·simp[e];exact a _ _ ⟨true,by simp[e],m⟩
  have⟨x,e,m⟩:=ep e m;simp[e];refine Cf (iw e.2) ?_;rcases Io e m with⟨e,m⟩|⟨e,m⟩;rotate_left
  ·simp[e];exact a _ _ ⟨true,by simp[e],m⟩
  simp[e];exact a _ _ ⟨(eW (eN a0.acN) (eN a1.acN)),by simp[e],m⟩
 rintro o y ⟨v2,E,m⟩;have e:=Aj e E;rcases Io e m with⟨e,m⟩|⟨e,m⟩
 ·cases m;simp[e]
 simp[e];refine Wr e m 999 (λj k f h=>h=H/\f.1 2=AV.eD 2 (f.gen 2) 0/\f.1 3=AV.eD 3 (f.gen 3) 0/\f.1 37=sI (eN a0.acN)/\f.1 38=sI j/\f.box 2=some (Tm.av a0).cells/\f.box 3=some (Tm.av a1).cells) (by simp[e]) (λk d p g E m=>?_) (λj q k d p g s t E e m b c=>?_)
 ·have e:=Aj e E;dsimp only[en]at m;cases m;simp[e]
 have e:=Aj e E;have⟨u,e,m⟩:=ep e m;have⟨v,e,m⟩:=ep e m;simp[e];refine Cs (l e.2) ?_;rcases Io e m with⟨e,m⟩|⟨e,m⟩;rotate_left
 ·cases m;cases b;simp[e]
 simp[e];cases m;exact c _ _ _ (by simp[e]) b
def yb{n:Nat}:C2 prog 168 (ku n) sB Tm.av Tm.av:=(I2 n)
def Fu:C2 prog 105 rj sB (sL Tm.av) (sL Tm.av):=by
 intro T H a0 a1 r hm;rw[rj] at hm;have e:=trivial;refine wi acR func105 [] [] 999 ?_;rcases Io e hm with⟨e,m⟩|⟨e,m⟩
 ·cases m;simp[e]
 simp[e];refine Wr e m 999 (λc s2 f h=>h=H/\f.1 0=sL Tm.av a0/\f.1 1=sL Tm.av a1/\f.1 12=sI (eN a0)/\f.1 13=sI c) (by simp[e]) (λs2 a g i E m=>?_) (λc l s2 a g i n6 n E e m d b=>?_)
 ·have e:=Aj e E;dsimp only[en]at m;cases m;simp[e]
 have e:=Aj e E;have⟨j,e,m⟩:=ep e m;have⟨k,e,m⟩:=ep e m;simp[e];refine Cs (yb e.2) ?_;rcases Io e m with⟨e,m⟩|⟨e,m⟩;rotate_left
 ·cases m;cases d;simp[e]
 simp[e];cases m;exact b _ _ _ (by simp[e]) d
def Jb:∀(n:Nat),C2 prog 37 (qh n) sB Fm.av Fm.av:=by
  intro n
  induction n with
  |zero=>
    skip
    all_goals(intro _ _;intros;rename_i hm;cases hm)
  |succ n o=>
 intro T H a0 a1 r hm;rw[qh] at hm;have e:=trivial;refine wi acR func37 [] [] 3 ?_;simp[e];refine Wj hm 999 999 (λj f h=>∃(v2:Bool),(h=H/\f.1 2=AV.eD 2 (f.gen 2) 0/\f.1 3=AV.eD 3 (f.gen 3) 0/\f.1 35=sB v2/\f.box 2=some (Fm.av a0).cells/\f.box 3=some (Fm.av a1).cells)/\j v2=some r) (λj w a m=>?_) ?_
 ·rcases Io e m with⟨e,m⟩|⟨e,m⟩
  ·simp[e];exact a _ _ ⟨true,by simp[e],m⟩
  have⟨x,e,m⟩:=ep e m;simp[e];refine Cf (iw e.2) ?_;rcases Io e m with⟨e,m⟩|⟨e,m⟩;rotate_left
  ·simp[e];exact a _ _ ⟨true,by simp[e],m⟩
  have⟨y,e,m⟩:=ep e m;simp[e];refine Cf (Fu e.2) ?_;rcases Io e m with⟨e,m⟩|⟨e,m⟩;rotate_left
  ·simp[e];exact a _ _ ⟨true,by simp[e],m⟩
  simp[e];exact a _ _ ⟨(eW (eN a0.acN) (eN a1.acN)),by simp[e],m⟩
 rintro p z ⟨v2,E,m⟩;have e:=Aj e E;rcases Io e m with⟨e,m⟩|⟨e,m⟩
 ·cases m;simp[e]
 simp[e];refine Wr e m 999 (λk l f h=>h=H/\f.1 2=AV.eD 2 (f.gen 2) 0/\f.1 3=AV.eD 3 (f.gen 3) 0/\f.1 38=sI (eN a0.acN)/\f.1 39=sI k/\f.box 2=some (Fm.av a0).cells/\f.box 3=some (Fm.av a1).cells) (by simp[e]) (λl b g i E m=>?_) (λk q l b g i s t E e m c d=>?_)
 ·have e:=Aj e E;dsimp only[en]at m;cases m;simp[e]
 have e:=Aj e E;have⟨u,e,m⟩:=ep e m;have⟨v,e,m⟩:=ep e m;simp[e];refine Cs (o e.2) ?_;rcases Io e m with⟨e,m⟩|⟨e,m⟩;rotate_left
 ·cases m;cases c;simp[e]
 simp[e];cases m;exact d _ _ _ (by simp[e]) c
def KZ{n:Nat}:C2 prog 37 (qh n) sB Fm.av Fm.av:=(Jb n)
def J8(T:fh)(g:qv T){H:eB}{b:Bool}(hm:vw=some b):e_ prog T 12 [] H (sB b) H:=by
 rw[vw] at hm;have e:=g;refine wi acR func12 [] [] 6 ?_;have⟨q,e,m⟩:=ep e hm;simp[e];refine Cf (hR e.2) ?_;have⟨r,e,m⟩:=ep e m;simp[e];refine Cs (fI e.2) ?_;have⟨s,e,m⟩:=ep e m;simp[e];refine Cs (kT e.2) ?_;have⟨t,e,m⟩:=ep e m;simp[e];refine Cs (oL e.2) ?_;have⟨u,v,e,m⟩:=gr e m;simp[e];refine Cs (qy T g e.2) ?_;simp[e];refine Wj m 999 999 (λi f h=>∃(c:Bool),(h=H/\f.1 0=sB c)/\i c=some b) (λi w a m=>?_) ?_;rotate_left
 ·rintro j k ⟨c,E,m⟩;have e:=Aj e E;cases m;simp[e]
 rcases Io e m with⟨e,m⟩|⟨e,m⟩;rotate_left
 ·simp[e];exact a _ _ ⟨false,by simp[e],m⟩
 rcases Io e m with⟨e,m⟩|⟨e,m⟩;rotate_left
 ·simp[e];exact a _ _ ⟨false,by simp[e],m⟩
 have⟨l,e,m⟩:=ep e m;simp[e];refine Cs (fI e.2) ?_;have⟨n,e,m⟩:=ep e m;simp[e];refine Cs (fI e.2) ?_;have⟨o,e,m⟩:=ep e m;simp[e];refine Cs (lE e.2) ?_;have⟨p,e,m⟩:=ep e m;simp[e];refine Cs (me e.2) ?_;have⟨d,e,m⟩:=ep e m;simp[e];refine Cs (KZ e.2) ?_;simp[e];exact a _ _ ⟨d,by simp[e],m⟩
def Ta:C1 prog 13 Gx sB (sL sI):=by
 intro T H a0 r hm;rw[Gx] at hm;have e:=trivial;refine wi acR func13 [] [] 999 ?_;cases hm;simp[e]
def Tw:su prog 16=true:=by kernel_rfl
def TW(T:fh){a0:List Int}{b:eG}(hm:N7 a0=some b):e_ prog T 16 [AV.slice .iR (List.map (λn=>AV.sc (Value.int .i64 n)) a0)] [] (AV.fT 0 0) (gC [[]] 0 [AV.slice .iR (List.map (λn=>AV.sc (Value.int .i64 n)) b.l),AV.sc (.int .i64 b.r')]):=by
 obtain rfl:=iD hm;refine fQ.intro (fn:=f16) func16 rfl Tw (Sf rfl) ?_;refine gJ.ux λc a=>?_;refine gJ.region [] (by decide+kernel) ?_;simp;refine a _ _ ?_;refine gJ.ux λc a=>?_;refine gJ.region [5] (by decide+kernel) ?_;simp;refine a _ _ ?_;refine gJ.ret ?_;simp[vR,gC]
def SA:C2 prog 128 HF sI sI sI:=by
 intro T H a0 a1 r hm;rw[HF] at hm;have e:=trivial;refine wi acR func128 [] [] 999 ?_;have⟨e,m⟩:=Ck e hm;have⟨e,m⟩:=Ck e m;cases m;simp[e]
def gv(T:fh){H:eB}{a0:eG}{a1 i:Int}{a:eG}{b:Nat}(c:H[b]?=some [sL sI a0.l,sI a0.r'])(hm:gx a0 a1=some (i,a)):e_ prog T 55 [AV.fT b 0,sI a1] H (sI i) (gC H b [sL sI a.l,sI a.r']):=by
 rw[gx] at hm;have g:=gn c;refine fQ.Nq c ?_;have e:=g;refine wi acR func55 [] [(1,true,[]),(3,true,[])] 3 ?_;simp[e];refine wj 999 999 (λf h=>h=gC H b [sL sI a0.l,sI a0.r']/\f.1 0=AV.fT b 0/\f.1 1=sI a1/\f.1 19=sB (fW (uX a1 1) true (ue a0.r' (eN a0.l)))) (λk d=>?_) ?_
 ·rcases Pb (uX a1 1) e with e|e
  ·simp[e];exact d _ _ (by simp[e])
  simp[e];exact d _ _ (by simp[e])
 rintro j n E;have e:=Aj e E;rcases Io e hm with⟨e,m⟩|⟨e,m⟩
 ·cases m;simp[e]
 have⟨o,e,m⟩:=ep e m;have⟨p,e,m⟩:=ep e m;simp[e];refine Cf (SA e.2) ?_;cases m;simp[e]
def wO:C3 prog 88 ox Fm.av sI Fm.av Fm.av:=by
 intro T H a0 a1 a2 r hm;rw[ox] at hm;have e:=trivial;refine wi acR func88 [] [] 999 ?_;have⟨a,e,m⟩:=ep e hm;simp[e];refine Cs (kS e.2) ?_;have⟨b,e,m⟩:=ep e m;simp[e];refine Cs (kS e.2) ?_;have e:=Aj e (show AV.agg [sI a0,sI 0,AV.slice .iR [],AV.slice .iR [],AV.slice .iR [Fm.av a,Fm.av b]]=Fm.av (Fm.mk a0 (Ty.mk 0 []) [] [a,b]) by rw[Fm.fL];rfl);cases m;simp[e]
def nW:C0 prog 71 m4 Ty.av:=by
 intro T H r hm;rw[m4] at hm;have e:=trivial;refine wi acR func71 [] [] 999 ?_;cases hm;simp[e]
def Dn:C0 prog 96 vH Ty.av:=by
 intro T H r hm;rw[vH] at hm;have e:=trivial;refine wi acR func96 [] [] 999 ?_;cases hm;simp[e]
def ER:C2 prog 97 uY Ty.av Ty.av Ty.av:=by
 intro T H a0 a1 r hm;rw[uY] at hm;have e:=trivial;refine wi acR func97 [] [] 999 ?_;have⟨a,e,m⟩:=ep e hm;simp[e];refine Cs (jT e.2) ?_;have⟨b,e,m⟩:=ep e m;simp[e];refine Cs (jT e.2) ?_;have e:=Aj e (show AV.agg [sI 3,AV.slice .iR [Ty.av a,Ty.av b]]=Ty.av (Ty.mk 3 [a,b]) by rw[Ty.fL];rfl);cases m;simp[e]
def oK:C2 prog 60 lv Ty.av Ty.av Ty.av:=by
 intro T H a0 a1 r hm;rw[lv] at hm;have e:=trivial;refine wi acR func60 [] [] 999 ?_;have⟨a,e,m⟩:=ep e hm;simp[e];refine Cs (jT e.2) ?_;have⟨b,e,m⟩:=ep e m;simp[e];refine Cs (jT e.2) ?_;have e:=Aj e (show AV.agg [sI 4,AV.slice .iR [Ty.av a,Ty.av b]]=Ty.av (Ty.mk 4 [a,b]) by rw[Ty.fL];rfl);cases m;simp[e]
def NP(T:fh):∀(n:Nat),(∀{H:eB} {a0:eG} {a1:Int} {j:Ty} {a:eG} {c:Nat} (d:H[c]?=some [sL sI a0.l,sI a0.r']) (hm:jE n a0 a1=some (j,a)),e_ prog T 33 [AV.fT c 0,sI a1] H (Ty.av j) (gC H c [sL sI a.l,sI a.r'])):=by
  intro n
  induction n with
  |zero=>
    skip
    all_goals(intro _ _;intros;rename_i hm;cases hm)
  |succ n k=>
 intro H a0 a1 j a c d hm;rw[jE] at hm;have o:=gn d;refine fQ.Nq d ?_;have e:=o;refine wi acR func33 [] [] 2 ?_;simp[e];refine Wj hm 3 999 (λp f h=>∃(v2:eG),(h=gC H c [sL sI v2.l,sI v2.r']/\f.1 4=AV.eD 4 (f.gen 4) 0/\f.box 4=some [sI 0,AV.slice .full []])/\p v2=some (j,a)) (λp C g m=>?_) ?_;rotate_left
 ·rintro r D ⟨v2,E,m⟩;have e:=Aj e E;have⟨F,e,m⟩:=ep e m;simp[e];refine Cf (hR e.2) ?_;cases m;simp[e]
 have⟨i,d8,e,m⟩:=gr e m;simp[e];refine Cf (gv T (by simp[e]) e.2) ?_;simp[e];refine wj 999 999 (λf h=>h=gC H c [sL sI d8.l,sI d8.r']/\f.1 0=AV.fT c 0/\f.1 1=sI a1/\f.1 4=AV.eD 4 (f.gen 4) 0/\f.1 6=sI i/\f.1 7=sB (fW (eH i 0) true (fW (eH i 1) true (eH i 2)))/\f.box 4=some [sI 0,AV.slice .full []]) (λG b=>?_) ?_
 ·rcases Pb (eH i 0) e with e|e
  ·simp[e];exact b _ _ (by simp[e])
  rcases Pb (eH i 1) e with e|e
  ·simp[e];exact b _ _ (by simp[e])
  simp[e];exact b _ _ (by simp[e])
 rintro q s E;have e:=Aj e E;rcases Io e m with⟨e,m⟩|⟨e,m⟩
 ·have⟨t,e,m⟩:=ep e m;simp[e];refine Cf (hR e.2) ?_;cases m;simp[e]
 rcases Io e m with⟨e,m⟩|⟨e,m⟩
 ·have⟨u,e,m⟩:=ep e m;simp[e];refine Cf (nW e.2) ?_;cases m;simp[e]
 rcases Io e m with⟨e,m⟩|⟨e,m⟩
 ·have⟨v,e,m⟩:=ep e m;simp[e];refine Cf (Dn e.2) ?_;cases m;simp[e]
 rcases Io e m with⟨e,m⟩|⟨e,m⟩
 ·rcases Io e m with⟨e,m⟩|⟨e,m⟩;rotate_left
  ·simp[e];exact g _ _ ⟨d8,by simp[e],m⟩
  have⟨w,d16,e,m⟩:=gr e m;simp[e];refine Cf (k (by simp[e]) e.2) ?_;have⟨x,d18,e,m⟩:=gr e m;simp[e];refine Cf (k (by simp[e]) e.2) ?_;have⟨y,e,m⟩:=ep e m;simp[e];refine Cf (ER e.2) ?_;cases m;simp[e]
 rcases Io e m with⟨e,m⟩|⟨e,m⟩;rotate_left
 ·simp[e];exact g _ _ ⟨d8,by simp[e],m⟩
 rcases Io e m with⟨e,m⟩|⟨e,m⟩;rotate_left
 ·simp[e];exact g _ _ ⟨d8,by simp[e],m⟩
 have⟨z,d21,e,m⟩:=gr e m;simp[e];refine Cf (k (by simp[e]) e.2) ?_;have⟨A,d23,e,m⟩:=gr e m;simp[e];refine Cf (k (by simp[e]) e.2) ?_;have⟨B,e,m⟩:=ep e m;simp[e];refine Cf (oK e.2) ?_;cases m;simp[e]
def nD(T:fh){H:eB}{a0:eG}{a1:Int}{d:Ty}{a:eG}{b:Nat}(c:H[b]?=some [sL sI a0.l,sI a0.r']){n:Nat}(hm:jE n a0 a1=some (d,a)):e_ prog T 33 [AV.fT b 0,sI a1] H (Ty.av d) (gC H b [sL sI a.l,sI a.r']):=(NP T n) c hm
def oJ:C2 prog 89 mS (sL Ty.av) (sL Ty.av) (sL Ty.av):=by
 intro T H a0 a1 r hm;rw[mS] at hm;have e:=trivial;refine wi acR func89 [] [] 999 ?_;have⟨e,m⟩:=Ck e hm;simp[e];refine Ao (f:=Ty.av) [] a0 (js.full (D:=[])) GM e.2 ?_;have⟨e,m⟩:=Ck e m;simp[e];refine Ao (f:=Ty.av) (gU [] a0) a1 (js.new (D:=[6]) (d:=6) (by decide)) GM e.2 ?_;cases m;simp[e]
def QT:C2 prog 99 CJ (sL sI) (sL Ty.av) Ty.av:=by
 intro T H a0 a1 r hm;rw[CJ] at hm;have e:=trivial;refine wi acR func99 [] [] 999 ?_;simp[e];refine Wr e hm 0 (λi s2 f h=>∃(b:Tag),(h=H/\f.1 0=sL Ty.av a0/\f.1 3=AV.eD 3 (f.gen 3) 0/\f.1 5=sT b sI s2/\f.1 8=sI (eN a0)/\f.1 9=sI i/\f.box 3=some (Ty.av a1).cells)/\Ow f [25] b s2) (by exact⟨.full,by simp[e],js.full⟩) (λs2 j o p E m=>?_) (λi x s2 j o p n6 q E e m s l=>?_)
 ·have⟨b,E,c⟩:=E;have e:=Aj e E;apply wg 999;dsimp only[en]at m;cases m;simp[e]
 have⟨b,E,c⟩:=E;have e:=Aj e E;apply wg 5;simp[e];refine Wj m 999 999 (λk f h=>∃(v11:List Int) (a:Tag),(h=H/\f.1 0=sL Ty.av a0/\f.1 3=AV.eD 3 (f.gen 3) 0/\f.1 5=sT a sI v11/\f.1 8=sI (eN a0)/\f.1 9=sI i/\f.box 3=some (Ty.av a1).cells)/\Ow f [25] a v11/\k v11=some q) (λk t d m=>?_) ?_;rotate_left
 ·rintro n u ⟨v11,a,E,g,m⟩;have e:=Aj e E;simp[e];cases m;exact l _ _ _ ⟨a,by simp[e],g⟩ s
 have⟨v,e,m⟩:=ep e m;have⟨w,e,m⟩:=ep e m;simp[e];refine Cs (iw e.2) ?_;rcases Io e m with⟨e,m⟩|⟨e,m⟩;rotate_left
 ·simp[e];exact d _ _ ⟨s2,b,by simp[e],c,m⟩
 have⟨e,m⟩:=Ck e m;simp[e];refine Ao (f:=sI) s2 [i] c P6 e.2 ?_;simp[e];exact d _ _ ⟨(gU s2 [i]),(.loc 25 (j.fP 25+1)),by simp[e],(On 25),m⟩
def gB:C2 prog 100 gd Tm.av sI (sL Tm.av):=by
 intro T H a0 a1 r hm;rw[gd] at hm;have e:=trivial;refine wi acR func100 [] [] 999 ?_;simp[e];refine Wr e hm 999 (λi s2 f h=>∃(a:Tag),(h=H/\f.1 0=sI a0/\f.1 4=AV.eD 4 (f.gen 4) 0/\f.1 5=sT a Tm.av s2/\f.1 8=sL Tm.av a1/\f.1 9=sI (eN a1)/\f.1 10=sI i/\f.box 4=some [sI 0,sI 0,sI 0,AV.slice .full [],AV.slice .full []])/\Ow f [18] a s2) (by exact⟨.full,by simp[e],js.full⟩) (λs2 c j k E m=>?_) (λi n s2 c j k n6 o E e m l d=>?_)
 ·have⟨a,E,b⟩:=E;have e:=Aj e E;dsimp only[en]at m;cases m;simp[e]
 have⟨a,E,b⟩:=E;have e:=Aj e E;have⟨g,e,m⟩:=ep e m;simp[e];refine Cf (mC e.2) ?_;have⟨e,m⟩:=Ck e m;simp[e];refine Ao (f:=Tm.av) s2 [g] b CX e.2 ?_;simp[e];cases m;exact d _ _ _ ⟨(.loc 18 (c.fP 18+1)),by simp[e],(On 18)⟩ l
def mi:C3 prog 62 mj Tm.av sI Ty.av (sL Tm.av):=by
 intro T H a0 a1 a2 r hm;rw[mj] at hm;have e:=trivial;refine wi acR func62 [] [] 999 ?_;have⟨a,e,m⟩:=ep e hm;simp[e];refine Cf (gB e.2) ?_;have⟨b,e,m⟩:=ep e m;simp[e];refine Cf (jT e.2) ?_;cases m;simp[e]
def E_:C1 prog 178 n_ Tm.av sI:=by
 intro T H a0 r hm;rw[n_] at hm;have e:=trivial;refine wi acR func178 [] [] 999 ?_;have⟨k,e,m⟩:=ep e hm;simp[e];refine Cf (gB e.2) ?_;simp[e];refine Wn m 999 (λs2 f h=>∃(a:Tag) (b:Tag),h=H/\f.1 0=sI s2.1/\f.1 2=AV.eD 2 (f.gen 2) 0/\f.1 3=AV.eD 3 (f.gen 3) 0/\f.box 2=some [sI 0,sI 0,sI 0,AV.slice .full [],AV.slice .full []]/\f.box 3=some [sI s2.2.1,sI s2.2.2.1,sI s2.2.2.2.1,sT a Ty.av s2.2.2.2.2.1,sT b Tm.av s2.2.2.2.2.2]) ⟨.iR,.iR,by simp[e]⟩ (λs2 g l n o p E m d c=>?_);have⟨v9,v10,v11,v12,i,j⟩:=s2;have⟨a,b,E⟩:=E;have e:=Aj e E;dsimp only[wT]at m;rcases Io e m with⟨e,m⟩|⟨e,m⟩;rotate_left
 ·cases m;have m:=Qb d;dsimp only[wT]at m;cases m;simp[e]
 simp[e];cases m;exact c _ _ _ ⟨.full,.full,by simp[e]⟩ d
def Hv:C1 prog 127 sa (t2 Tm.av sI) sI:=by
 intro T H a0 r hm;rw[sa] at hm;have e:=trivial;refine wi acR func127 [] [] 999 ?_;rcases Io e hm with⟨e,m⟩|⟨e,m⟩
 ·cases m;simp[e]
 rcases Io e m with⟨e,m⟩|⟨e,m⟩
 ·cases m;simp[e]
 have⟨a,e,m⟩:=ep e m;simp[e];refine Cf (E_ e.2) ?_;cases m;simp[e]
def xx:C1 prog 54 tg Tm.av sI:=by
 intro T H a0 r hm;rw[tg] at hm;have e:=trivial;refine wi acR func54 [] [] 999 ?_;have⟨a,b,e,m⟩:=gr e hm;simp[e];refine Cf (Hv e.2) ?_;cases m;simp[e]
def lV:C1 prog 165 lF Tm.av Tm.av:=by
 intro T H a0 r hm;rw[lF] at hm;have e:=trivial;refine wi acR func165 [] [] 999 ?_;have⟨a,e,m⟩:=ep e hm;simp[e];refine Cs (hR e.2) ?_;have⟨b,e,m⟩:=ep e m;simp[e];refine Cs (mi e.2) ?_;cases m;simp[e]
end Go.Proofs.YtobcafblgapgfaaGreatDoor
