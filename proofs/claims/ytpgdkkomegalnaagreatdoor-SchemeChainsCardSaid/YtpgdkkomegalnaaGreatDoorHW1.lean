/- Part of the proof of SchemeChains: walks. -/
import Derived.Test.YtpgdkkomegalnaaGreatDoorProg
import Derived.Test.YtpgdkkomegalnaaGreatDoorChecked
import Derived.WalkKit
import Derived.Laws.Bits64b
import Derived.BigCall
import Derived.Test.YtpgdkkomegalnaaGreatDoorHG1
import Derived.Test.YtpgdkkomegalnaaGreatDoorHL18
set_option linter.all false
namespace Go.Proofs.YtpgdkkomegalnaaGreatDoor
open Go Go.lD Go.fP Tryz
def aou:prog.follows .mixedOrders=true:=by kernel_rfl
instance:Nonempty (prog.follows .mixedOrders=true):=⟨aou⟩
end Go.Proofs.YtpgdkkomegalnaaGreatDoor
namespace Go.fP
open Go Go.lD
mutual
def Ty.av:Ty->AV
 |.mk aop aoq=>.agg [sI aop,AV.slice .gK (Ty.DD aoq)]
def Ty.DD:List Ty->List AV
 |[]=>[]|x::l=>x.av::Ty.DD l
end
def Ty.wq(l:List Ty):Ty.DD l=l.map Ty.av:=by
 induction l with
 |nil=>rfl|cons x l ih=>simp[Ty.DD,ih]
def Ty.fi(aop:Int)(aoq:List Ty):(Ty.mk aop aoq).av=.agg [sI aop,sL Ty.av aoq]:=by rw[Ty.av];simp only[Ty.wq]
mutual
@[simp] theorem Ty.uQ(k:Nat):∀x:Ty,x.av.low k=true
 |.mk aop aoq=>by rw[Ty.fi];simp[AV.low,AV.iy,Ty.oR k aoq]
@[simp] theorem Ty.oR(k:Nat):∀l:List Ty,AV.iy k (l.map Ty.av)=true
 |[]=>rfl|x::l=>by simp[AV.iy,Ty.uQ k x,Ty.oR k l]
end
def Ty.fX(x:Ty):x.av=.agg [sI x.aop,sL Ty.av x.aoq]:=by cases x;exact Ty.fi _ _
@[simp] theorem Ty.jR(x:Ty):x.av.cells=[sI x.aop,sL Ty.av x.aoq]:=by rw[Ty.fX];rfl
@[simp] theorem Ty.rq(x:Ty):fG x.av=true:=by rw[Ty.fX];rfl
@[simp] theorem Ty.nN(x:Ty):x.av.norm=x.av:=by rw[Ty.fX];rfl
@[simp] theorem Ty.akB(a:Int)(b:List Ty):AV.agg [sI a,sL Ty.av b]=Ty.av (Ty.mk a b):=by rw[Ty.fi]<;>rfl
@[simp] theorem Ty.amk(a:Int):AV.agg [sI a,AV.slice .gK []]=Ty.av (Ty.mk a []):=by rw[Ty.fi]<;>rfl
mutual
def Tm.av:Tm->AV
 |.mk aop aos dM aoq=>.agg [sI aop,sI aos,sI dM.aop,sL Ty.av dM.aoq,AV.slice .gK (Tm.DD aoq)]
def Tm.DD:List Tm->List AV
 |[]=>[]|x::l=>x.av::Tm.DD l
end
def Tm.wq(l:List Tm):Tm.DD l=l.map Tm.av:=by
 induction l with
 |nil=>rfl|cons x l ih=>simp[Tm.DD,ih]
def Tm.fi(aop aos:Int)(dM:Ty)(aoq:List Tm):(Tm.mk aop aos dM aoq).av=.agg [sI aop,sI aos,sI dM.aop,sL Ty.av dM.aoq,sL Tm.av aoq]:=by rw[Tm.av];simp only[Tm.wq]
mutual
@[simp] theorem Tm.uQ(k:Nat):∀x:Tm,x.av.low k=true
 |.mk aop aos dM aoq=>by rw[Tm.fi];simp[AV.low,AV.iy,Tm.oR k aoq]
@[simp] theorem Tm.oR(k:Nat):∀l:List Tm,AV.iy k (l.map Tm.av)=true
 |[]=>rfl|x::l=>by simp[AV.iy,Tm.uQ k x,Tm.oR k l]
end
def Tm.fX(x:Tm):x.av=.agg [sI x.aop,sI x.aos,sI x.dM.aop,sL Ty.av x.dM.aoq,sL Tm.av x.aoq]:=by cases x;exact Tm.fi _ _ _ _
@[simp] theorem Tm.jR(x:Tm):x.av.cells=[sI x.aop,sI x.aos,sI x.dM.aop,sL Ty.av x.dM.aoq,sL Tm.av x.aoq]:=by rw[Tm.fX];rfl
@[simp] theorem Tm.rq(x:Tm):fG x.av=true:=by rw[Tm.fX];rfl
@[simp] theorem Tm.nN(x:Tm):x.av.norm=x.av:=by rw[Tm.fX];rfl
@[simp] theorem Tm.Vi(a b c:Int)(c3:List Ty)(d:List Tm):AV.agg [sI a,sI b,sI c,sL Ty.av c3,sL Tm.av d]=Tm.av (Tm.mk a b (Ty.mk c c3) d):=by rw[Tm.fi]<;>rfl
@[simp] theorem Tm.ani(a b c:Int)(d:List Tm):AV.agg [sI a,sI b,sI c,AV.slice .gK [],sL Tm.av d]=Tm.av (Tm.mk a b (Ty.mk c []) d):=by rw[Tm.fi]<;>rfl
@[simp] theorem Tm.aeH(a b c:Int):AV.agg [sI a,sI b,sI c,AV.slice .gK [],AV.slice .gK []]=Tm.av (Tm.mk a b (Ty.mk c []) []):=by rw[Tm.fi]<;>rfl
mutual
def Fm.av:Fm->AV
 |.mk aop dM ek aoq=>.agg [sI aop,sI dM.aop,sL Ty.av dM.aoq,sL Tm.av ek,AV.slice .gK (Fm.DD aoq)]
def Fm.DD:List Fm->List AV
 |[]=>[]|x::l=>x.av::Fm.DD l
end
def Fm.wq(l:List Fm):Fm.DD l=l.map Fm.av:=by
 induction l with
 |nil=>rfl|cons x l ih=>simp[Fm.DD,ih]
def Fm.fi(aop:Int)(dM:Ty)(ek:List Tm)(aoq:List Fm):(Fm.mk aop dM ek aoq).av=.agg [sI aop,sI dM.aop,sL Ty.av dM.aoq,sL Tm.av ek,sL Fm.av aoq]:=by rw[Fm.av];simp only[Fm.wq]
mutual
@[simp] theorem Fm.uQ(k:Nat):∀x:Fm,x.av.low k=true
 |.mk aop dM ek aoq=>by rw[Fm.fi];simp[AV.low,AV.iy,Fm.oR k aoq]
@[simp] theorem Fm.oR(k:Nat):∀l:List Fm,AV.iy k (l.map Fm.av)=true
 |[]=>rfl|x::l=>by simp[AV.iy,Fm.uQ k x,Fm.oR k l]
end
def Fm.fX(x:Fm):x.av=.agg [sI x.aop,sI x.dM.aop,sL Ty.av x.dM.aoq,sL Tm.av x.ek,sL Fm.av x.aoq]:=by cases x;exact Fm.fi _ _ _ _
@[simp] theorem Fm.jR(x:Fm):x.av.cells=[sI x.aop,sI x.dM.aop,sL Ty.av x.dM.aoq,sL Tm.av x.ek,sL Fm.av x.aoq]:=by rw[Fm.fX];rfl
@[simp] theorem Fm.rq(x:Fm):fG x.av=true:=by rw[Fm.fX];rfl
@[simp] theorem Fm.nN(x:Fm):x.av.norm=x.av:=by rw[Fm.fX];rfl
@[simp] theorem Fm.So(a b:Int)(c:List Ty)(c3:List Tm)(d:List Fm):AV.agg [sI a,sI b,sL Ty.av c,sL Tm.av c3,sL Fm.av d]=Fm.av (Fm.mk a (Ty.mk b c) c3 d):=by rw[Fm.fi]<;>rfl
@[simp] theorem Fm.aip(a b:Int):AV.agg [sI a,sI b,AV.slice .gK [],AV.slice .gK [],AV.slice .gK []]=Fm.av (Fm.mk a (Ty.mk b []) [] []):=by rw[Fm.fi]<;>rfl
mutual
def Pf.av:Pf->AV
 |.mk aop aos dM ek gh aoq=>.agg [sI aop,sI aos,sI dM.aop,sL Ty.av dM.aoq,sL Tm.av ek,sL Fm.av gh,AV.slice .gK (Pf.DD aoq)]
def Pf.DD:List Pf->List AV
 |[]=>[]|x::l=>x.av::Pf.DD l
end
def Pf.wq(l:List Pf):Pf.DD l=l.map Pf.av:=by
 induction l with
 |nil=>rfl|cons x l ih=>simp[Pf.DD,ih]
def Pf.fi(aop aos:Int)(dM:Ty)(ek:List Tm)(gh:List Fm)(aoq:List Pf):(Pf.mk aop aos dM ek gh aoq).av=.agg [sI aop,sI aos,sI dM.aop,sL Ty.av dM.aoq,sL Tm.av ek,sL Fm.av gh,sL Pf.av aoq]:=by rw[Pf.av];simp only[Pf.wq]
mutual
@[simp] theorem Pf.uQ(k:Nat):∀x:Pf,x.av.low k=true
 |.mk aop aos dM ek gh aoq=>by rw[Pf.fi];simp[AV.low,AV.iy,Pf.oR k aoq]
@[simp] theorem Pf.oR(k:Nat):∀l:List Pf,AV.iy k (l.map Pf.av)=true
 |[]=>rfl|x::l=>by simp[AV.iy,Pf.uQ k x,Pf.oR k l]
end
def Pf.fX(x:Pf):x.av=.agg [sI x.aop,sI x.aos,sI x.dM.aop,sL Ty.av x.dM.aoq,sL Tm.av x.ek,sL Fm.av x.gh,sL Pf.av x.aoq]:=by cases x;exact Pf.fi _ _ _ _ _ _
@[simp] theorem Pf.jR(x:Pf):x.av.cells=[sI x.aop,sI x.aos,sI x.dM.aop,sL Ty.av x.dM.aoq,sL Tm.av x.ek,sL Fm.av x.gh,sL Pf.av x.aoq]:=by rw[Pf.fX];rfl
@[simp] theorem Pf.rq(x:Pf):fG x.av=true:=by rw[Pf.fX];rfl
@[simp] theorem Pf.nN(x:Pf):x.av.norm=x.av:=by rw[Pf.fX];rfl
@[simp] theorem Pf.UH(a b c:Int)(c3:List Ty)(d:List Tm)(c5:List Fm)(f:List Pf):AV.agg [sI a,sI b,sI c,sL Ty.av c3,sL Tm.av d,sL Fm.av c5,sL Pf.av f]=Pf.av (Pf.mk a b (Ty.mk c c3) d c5 f):=by rw[Pf.fi]<;>rfl
@[simp] theorem Pf.alN(a b c:Int)(d:List Pf):AV.agg [sI a,sI b,sI c,AV.slice .gK [],AV.slice .gK [],AV.slice .gK [],sL Pf.av d]=Pf.av (Pf.mk a b (Ty.mk c []) [] [] d):=by rw[Pf.fi]<;>rfl
@[simp] theorem Pf.ac'(a b c:Int):AV.agg [sI a,sI b,sI c,AV.slice .gK [],AV.slice .gK [],AV.slice .gK [],AV.slice .gK []]=Pf.av (Pf.mk a b (Ty.mk c []) [] [] []):=by rw[Pf.fi]<;>rfl
def Sq.av(x:Sq):AV:=.agg [sL Ty.av x.aot,sL Fm.av x.aow]
def Sq.fi(aot:List Ty)(aow:List Fm):(Sq.mk aot aow).av=.agg [sL Ty.av aot,sL Fm.av aow]:=rfl
def Sq.fX(x:Sq):x.av=.agg [sL Ty.av x.aot,sL Fm.av x.aow]:=by cases x;exact Sq.fi _ _
@[simp] theorem Sq.jR(x:Sq):x.av.cells=[sL Ty.av x.aot,sL Fm.av x.aow]:=by rw[Sq.fX];rfl
@[simp] theorem Sq.rq(x:Sq):fG x.av=true:=by rw[Sq.fX];rfl
@[simp] theorem Sq.nN(x:Sq):x.av.norm=x.av:=by rw[Sq.fX];rfl
@[simp] theorem Sq.Vi(a:List Ty)(b:List Fm):AV.agg [sL Ty.av a,sL Fm.av b]=Sq.av (Sq.mk a b):=by rw[Sq.fi]<;>rfl
@[simp] theorem Sq.aeH:AV.agg [AV.slice .gK [],AV.slice .gK []]=Sq.av (Sq.mk [] []):=by rw[Sq.fi]<;>rfl
mutual
def Vl.av:Vl->AV
 |.mk aop num list aoq=>.agg [sI aop,sI num,AV.slice .gK (List.map (λn=>AV.sc (Value.int .i64 n)) list),AV.slice .gK (Vl.DD aoq)]
def Vl.DD:List Vl->List AV
 |[]=>[]|x::l=>x.av::Vl.DD l
end
def Vl.wq(l:List Vl):Vl.DD l=l.map Vl.av:=by
 induction l with
 |nil=>rfl|cons x l ih=>simp[Vl.DD,ih]
def Vl.fi(aop num:Int)(list:List Int)(aoq:List Vl):(Vl.mk aop num list aoq).av=.agg [sI aop,sI num,AV.slice .gK (List.map (λn=>AV.sc (Value.int .i64 n)) list),sL Vl.av aoq]:=by rw[Vl.av];simp only[Vl.wq]
mutual
@[simp] theorem Vl.uQ(k:Nat):∀x:Vl,x.av.low k=true
 |.mk aop num list aoq=>by rw[Vl.fi];simp[AV.low,AV.iy,Vl.oR k aoq]
@[simp] theorem Vl.oR(k:Nat):∀l:List Vl,AV.iy k (l.map Vl.av)=true
 |[]=>rfl|x::l=>by simp[AV.iy,Vl.uQ k x,Vl.oR k l]
end
def Vl.fX(x:Vl):x.av=.agg [sI x.aop,sI x.num,AV.slice .gK (List.map (λn=>AV.sc (Value.int .i64 n)) x.list),sL Vl.av x.aoq]:=by cases x;exact Vl.fi _ _ _ _
@[simp] theorem Vl.jR(x:Vl):x.av.cells=[sI x.aop,sI x.num,AV.slice .gK (List.map (λn=>AV.sc (Value.int .i64 n)) x.list),sL Vl.av x.aoq]:=by rw[Vl.fX];rfl
@[simp] theorem Vl.rq(x:Vl):fG x.av=true:=by rw[Vl.fX];rfl
@[simp] theorem Vl.nN(x:Vl):x.av.norm=x.av:=by rw[Vl.fX];rfl
@[simp] theorem Vl.Vi(a b:Int)(c:List Int)(c3:List Vl):AV.agg [sI a,sI b,AV.slice .gK (List.map (λn=>AV.sc (Value.int .i64 n)) c),sL Vl.av c3]=Vl.av (Vl.mk a b c c3):=by rw[Vl.fi]<;>rfl
@[simp] theorem Vl.anm(a b:Int)(c:List Int):AV.agg [sI a,sI b,AV.slice .gK (List.map (λn=>AV.sc (Value.int .i64 n)) c),AV.slice .gK []]=Vl.av (Vl.mk a b c []):=by rw[Vl.fi]<;>rfl
@[simp] theorem Vl.aeH(a b:Int):AV.agg [sI a,sI b,AV.slice .gK [],AV.slice .gK []]=Vl.av (Vl.mk a b [] []):=by rw[Vl.fi]<;>rfl
def eN.av(x:eN):AV:=.agg [AV.slice .gK (List.map (λn=>AV.sc (Value.int .i64 n)) x.l),sI x.yI]
def eN.fi(l:List Int)(yI:Int):(eN.mk l yI).av=.agg [AV.slice .gK (List.map (λn=>AV.sc (Value.int .i64 n)) l),sI yI]:=rfl
def eN.fX(x:eN):x.av=.agg [AV.slice .gK (List.map (λn=>AV.sc (Value.int .i64 n)) x.l),sI x.yI]:=by cases x;exact eN.fi _ _
@[simp] theorem eN.jR(x:eN):x.av.cells=[AV.slice .gK (List.map (λn=>AV.sc (Value.int .i64 n)) x.l),sI x.yI]:=by rw[eN.fX];rfl
@[simp] theorem eN.rq(x:eN):fG x.av=true:=by rw[eN.fX];rfl
@[simp] theorem eN.akB(a:List Int)(b:Int):AV.agg [AV.slice .gK (List.map (λn=>AV.sc (Value.int .i64 n)) a),sI b]=eN.av (eN.mk a b):=by rw[eN.fi]<;>rfl
def tk.av(x:tk):AV:=.agg [sI x.eh.aop,sI x.eh.dM.aop,sL Ty.av x.eh.dM.aoq,sL Tm.av x.eh.ek,sL Fm.av x.eh.aoq,AV.slice .gK (List.map (λn=>AV.sc (Value.int .i64 n)) x.lx)]
def tk.fi(eh:Fm)(lx:List Int):(tk.mk eh lx).av=.agg [sI eh.aop,sI eh.dM.aop,sL Ty.av eh.dM.aoq,sL Tm.av eh.ek,sL Fm.av eh.aoq,AV.slice .gK (List.map (λn=>AV.sc (Value.int .i64 n)) lx)]:=rfl
@[simp] theorem tk.uQ(k:Nat)(x:tk):x.av.low k=true:=by
 cases x;rw[tk.fi];simp[AV.low,AV.iy]
def tk.fX(x:tk):x.av=.agg [sI x.eh.aop,sI x.eh.dM.aop,sL Ty.av x.eh.dM.aoq,sL Tm.av x.eh.ek,sL Fm.av x.eh.aoq,AV.slice .gK (List.map (λn=>AV.sc (Value.int .i64 n)) x.lx)]:=by cases x;exact tk.fi _ _
@[simp] theorem tk.jR(x:tk):x.av.cells=[sI x.eh.aop,sI x.eh.dM.aop,sL Ty.av x.eh.dM.aoq,sL Tm.av x.eh.ek,sL Fm.av x.eh.aoq,AV.slice .gK (List.map (λn=>AV.sc (Value.int .i64 n)) x.lx)]:=by rw[tk.fX];rfl
@[simp] theorem tk.rq(x:tk):fG x.av=true:=by rw[tk.fX];rfl
@[simp] theorem tk.nN(x:tk):x.av.norm=x.av:=by rw[tk.fX];rfl
@[simp] theorem tk.UH(a b:Int)(c:List Ty)(c3:List Tm)(d:List Fm)(c5:List Int):AV.agg [sI a,sI b,sL Ty.av c,sL Tm.av c3,sL Fm.av d,AV.slice .gK (List.map (λn=>AV.sc (Value.int .i64 n)) c5)]=tk.av (tk.mk (Fm.mk a (Ty.mk b c) c3 d) c5):=by rw[tk.fi]<;>rfl
@[simp] theorem tk.ac'(a b:Int):AV.agg [sI a,sI b,AV.slice .gK [],AV.slice .gK [],AV.slice .gK [],AV.slice .gK []]=tk.av (tk.mk (Fm.mk a (Ty.mk b []) [] []) []):=by rw[tk.fi]<;>rfl
def dS.av(x:dS):AV:=.agg [sL Fm.av x.lemmas,sL Tm.av x.ek,sI x.next]
def dS.fi(lemmas:List Fm)(ek:List Tm)(next:Int):(dS.mk lemmas ek next).av=.agg [sL Fm.av lemmas,sL Tm.av ek,sI next]:=rfl
def dS.fX(x:dS):x.av=.agg [sL Fm.av x.lemmas,sL Tm.av x.ek,sI x.next]:=by cases x;exact dS.fi _ _ _
@[simp] theorem dS.jR(x:dS):x.av.cells=[sL Fm.av x.lemmas,sL Tm.av x.ek,sI x.next]:=by rw[dS.fX];rfl
@[simp] theorem dS.rq(x:dS):fG x.av=true:=by rw[dS.fX];rfl
@[simp] theorem dS.Vi(a:List Fm)(b:List Tm)(c:Int):AV.agg [sL Fm.av a,sL Tm.av b,sI c]=dS.av (dS.mk a b c):=by rw[dS.fi]<;>rfl
def eA.av(x:eA):AV:=.agg [sL Ty.av x.ir.aot,sL Fm.av x.ir.aow,sL Tm.av x.vars,sL Tm.av x.aow]
def eA.fi(ir:Sq)(vars aow:List Tm):(eA.mk ir vars aow).av=.agg [sL Ty.av ir.aot,sL Fm.av ir.aow,sL Tm.av vars,sL Tm.av aow]:=rfl
def eA.fX(x:eA):x.av=.agg [sL Ty.av x.ir.aot,sL Fm.av x.ir.aow,sL Tm.av x.vars,sL Tm.av x.aow]:=by cases x;exact eA.fi _ _ _
@[simp] theorem eA.jR(x:eA):x.av.cells=[sL Ty.av x.ir.aot,sL Fm.av x.ir.aow,sL Tm.av x.vars,sL Tm.av x.aow]:=by rw[eA.fX];rfl
@[simp] theorem eA.rq(x:eA):fG x.av=true:=by rw[eA.fX];rfl
@[simp] theorem eA.nN(x:eA):x.av.norm=x.av:=by rw[eA.fX];rfl
@[simp] theorem eA.UH(a:List Ty)(b:List Fm)(c c3:List Tm):AV.agg [sL Ty.av a,sL Fm.av b,sL Tm.av c,sL Tm.av c3]=eA.av (eA.mk (Sq.mk a b) c c3):=by rw[eA.fi]<;>rfl
def d_.av(x:d_):AV:=.agg [sI x.used,sI x.rE,sB x.out]
def d_.fi(used rE:Int)(out:Bool):(d_.mk used rE out).av=.agg [sI used,sI rE,sB out]:=rfl
def d_.fX(x:d_):x.av=.agg [sI x.used,sI x.rE,sB x.out]:=by cases x;exact d_.fi _ _ _
@[simp] theorem d_.jR(x:d_):x.av.cells=[sI x.used,sI x.rE,sB x.out]:=by rw[d_.fX];rfl
@[simp] theorem d_.rq(x:d_):fG x.av=true:=by rw[d_.fX];rfl
@[simp] theorem d_.agg(a b:Int)(c:Bool):AV.agg [sI a,sI b,sB c]=d_.av (d_.mk a b c):=by rw[d_.fi]<;>rfl
mutual
def dJ.av:dJ->AV
 |.mk num list pair body env=>.agg [sI num,AV.slice .gK (List.map (λn=>AV.sc (Value.int .i64 n)) list),AV.slice .gK (dJ.DD pair),sI body.aop,sI body.aos,sI body.dM.aop,sL Ty.av body.dM.aoq,sL Tm.av body.aoq,AV.slice .gK (dJ.DD env)]
def dJ.DD:List dJ->List AV
 |[]=>[]|x::l=>x.av::dJ.DD l
end
def dJ.wq(l:List dJ):dJ.DD l=l.map dJ.av:=by
 induction l with
 |nil=>rfl|cons x l ih=>simp[dJ.DD,ih]
def dJ.fi(num:Int)(list:List Int)(pair:List dJ)(body:Tm)(env:List dJ):(dJ.mk num list pair body env).av=.agg [sI num,AV.slice .gK (List.map (λn=>AV.sc (Value.int .i64 n)) list),sL dJ.av pair,sI body.aop,sI body.aos,sI body.dM.aop,sL Ty.av body.dM.aoq,sL Tm.av body.aoq,sL dJ.av env]:=by rw[dJ.av];simp only[dJ.wq]
def dJ.fX(x:dJ):x.av=.agg [sI x.num,AV.slice .gK (List.map (λn=>AV.sc (Value.int .i64 n)) x.list),sL dJ.av x.pair,sI x.body.aop,sI x.body.aos,sI x.body.dM.aop,sL Ty.av x.body.dM.aoq,sL Tm.av x.body.aoq,sL dJ.av x.env]:=by cases x;exact dJ.fi _ _ _ _ _
@[simp] theorem dJ.jR(x:dJ):x.av.cells=[sI x.num,AV.slice .gK (List.map (λn=>AV.sc (Value.int .i64 n)) x.list),sL dJ.av x.pair,sI x.body.aop,sI x.body.aos,sI x.body.dM.aop,sL Ty.av x.body.dM.aoq,sL Tm.av x.body.aoq,sL dJ.av x.env]:=by rw[dJ.fX];rfl
@[simp] theorem dJ.rq(x:dJ):fG x.av=true:=by rw[dJ.fX];rfl
@[simp] theorem dJ.nN(x:dJ):x.av.norm=x.av:=by rw[dJ.fX];rfl
@[simp] theorem dJ.YZ(a:Int)(b:List Int)(c:List dJ)(c3 d c5:Int)(f:List Ty)(h:List Tm)(i:List dJ):AV.agg [sI a,AV.slice .gK (List.map (λn=>AV.sc (Value.int .i64 n)) b),sL dJ.av c,sI c3,sI d,sI c5,sL Ty.av f,sL Tm.av h,sL dJ.av i]=dJ.av (dJ.mk a b c (Tm.mk c3 d (Ty.mk c5 f) h) i):=by rw[dJ.fi]<;>rfl
@[simp] theorem dJ.Zl(a:Int)(b:List Int)(c:List dJ)(c3 d c5:Int):AV.agg [sI a,AV.slice .gK (List.map (λn=>AV.sc (Value.int .i64 n)) b),sL dJ.av c,sI c3,sI d,sI c5,AV.slice .gK [],AV.slice .gK [],AV.slice .gK []]=dJ.av (dJ.mk a b c (Tm.mk c3 d (Ty.mk c5 []) []) []):=by rw[dJ.fi]<;>rfl
@[simp] theorem dJ.aaG(a:Int)(b:List Int)(c3 c c5:Int):AV.agg [sI a,AV.slice .gK (List.map (λn=>AV.sc (Value.int .i64 n)) b),AV.slice .gK [],sI c3,sI c,sI c5,AV.slice .gK [],AV.slice .gK [],AV.slice .gK []]=dJ.av (dJ.mk a b [] (Tm.mk c3 c (Ty.mk c5 []) []) []):=by rw[dJ.fi]<;>rfl
@[simp] theorem dJ.aa4(a:Int)(b:List dJ)(c3 c c5:Int):AV.agg [sI a,AV.slice .gK [],sL dJ.av b,sI c3,sI c,sI c5,AV.slice .gK [],AV.slice .gK [],AV.slice .gK []]=dJ.av (dJ.mk a [] b (Tm.mk c3 c (Ty.mk c5 []) []) []):=by rw[dJ.fi]<;>rfl
@[simp] theorem dJ.aaU(a c3 b c5:Int)(c:List Ty)(d:List Tm)(f:List dJ):AV.agg [sI a,AV.slice .gK [],AV.slice .gK [],sI c3,sI b,sI c5,sL Ty.av c,sL Tm.av d,sL dJ.av f]=dJ.av (dJ.mk a [] [] (Tm.mk c3 b (Ty.mk c5 c) d) f):=by rw[dJ.fi]<;>rfl
@[simp] theorem dJ.Zh(a c3 b c5:Int):AV.agg [sI a,AV.slice .gK [],AV.slice .gK [],sI c3,sI b,sI c5,AV.slice .gK [],AV.slice .gK [],AV.slice .gK []]=dJ.av (dJ.mk a [] [] (Tm.mk c3 b (Ty.mk c5 []) []) []):=by rw[dJ.fi]<;>rfl
def dT.av(x:dT):AV:=.agg [sL Fm.av x.lemmas,sL Ty.av x.aot,sL Fm.av x.aow]
def dT.fi(lemmas:List Fm)(aot:List Ty)(aow:List Fm):(dT.mk lemmas aot aow).av=.agg [sL Fm.av lemmas,sL Ty.av aot,sL Fm.av aow]:=rfl
def dT.fX(x:dT):x.av=.agg [sL Fm.av x.lemmas,sL Ty.av x.aot,sL Fm.av x.aow]:=by cases x;exact dT.fi _ _ _
@[simp] theorem dT.jR(x:dT):x.av.cells=[sL Fm.av x.lemmas,sL Ty.av x.aot,sL Fm.av x.aow]:=by rw[dT.fX];rfl
@[simp] theorem dT.rq(x:dT):fG x.av=true:=by rw[dT.fX];rfl
@[simp] theorem dT.nN(x:dT):x.av.norm=x.av:=by rw[dT.fX];rfl
@[simp] theorem dT.So(a:List Fm)(b:List Ty)(c:List Fm):AV.agg [sL Fm.av a,sL Ty.av b,sL Fm.av c]=dT.av (dT.mk a b c):=by rw[dT.fi]<;>rfl
def dN.av(x:dN):AV:=.agg [sI x.dM.aop,sL Ty.av x.dM.aoq,sI x.aor]
def dN.fi(dM:Ty)(aor:Int):(dN.mk dM aor).av=.agg [sI dM.aop,sL Ty.av dM.aoq,sI aor]:=rfl
def dN.fX(x:dN):x.av=.agg [sI x.dM.aop,sL Ty.av x.dM.aoq,sI x.aor]:=by cases x;exact dN.fi _ _
@[simp] theorem dN.jR(x:dN):x.av.cells=[sI x.dM.aop,sL Ty.av x.dM.aoq,sI x.aor]:=by rw[dN.fX];rfl
@[simp] theorem dN.rq(x:dN):fG x.av=true:=by rw[dN.fX];rfl
@[simp] theorem dN.nN(x:dN):x.av.norm=x.av:=by rw[dN.fX];rfl
@[simp] theorem dN.akB(a:Int)(b:List Ty)(c:Int):AV.agg [sI a,sL Ty.av b,sI c]=dN.av (dN.mk (Ty.mk a b) c):=by rw[dN.fi]<;>rfl
@[simp] theorem dN.amk(a b:Int):AV.agg [sI a,AV.slice .gK [],sI b]=dN.av (dN.mk (Ty.mk a []) b):=by rw[dN.fi]<;>rfl
def dQ.av(x:dQ):AV:=.agg [sI x.eh.aop,sI x.eh.dM.aop,sL Ty.av x.eh.dM.aoq,sL Tm.av x.eh.ek,sL Fm.av x.eh.aoq,AV.sc (.int .u32 x.lx)]
def dQ.fi(eh:Fm)(lx:Int):(dQ.mk eh lx).av=.agg [sI eh.aop,sI eh.dM.aop,sL Ty.av eh.dM.aoq,sL Tm.av eh.ek,sL Fm.av eh.aoq,AV.sc (.int .u32 lx)]:=rfl
def dQ.fX(x:dQ):x.av=.agg [sI x.eh.aop,sI x.eh.dM.aop,sL Ty.av x.eh.dM.aoq,sL Tm.av x.eh.ek,sL Fm.av x.eh.aoq,AV.sc (.int .u32 x.lx)]:=by cases x;exact dQ.fi _ _
@[simp] theorem dQ.jR(x:dQ):x.av.cells=[sI x.eh.aop,sI x.eh.dM.aop,sL Ty.av x.eh.dM.aoq,sL Tm.av x.eh.ek,sL Fm.av x.eh.aoq,AV.sc (.int .u32 x.lx)]:=by rw[dQ.fX];rfl
@[simp] theorem dQ.rq(x:dQ):fG x.av=true:=by rw[dQ.fX];rfl
@[simp] theorem dQ.nN(x:dQ):x.av.norm=x.av:=by rw[dQ.fX];rfl
@[simp] theorem dQ.So(a b:Int)(c:List Ty)(c3:List Tm)(d:List Fm)(c5:Int):AV.agg [sI a,sI b,sL Ty.av c,sL Tm.av c3,sL Fm.av d,AV.sc (.int .u32 c5)]=dQ.av (dQ.mk (Fm.mk a (Ty.mk b c) c3 d) c5):=by rw[dQ.fi]<;>rfl
@[simp] theorem dQ.aip(a b c5:Int):AV.agg [sI a,sI b,AV.slice .gK [],AV.slice .gK [],AV.slice .gK [],AV.sc (.int .u32 c5)]=dQ.av (dQ.mk (Fm.mk a (Ty.mk b []) [] []) c5):=by rw[dQ.fi]<;>rfl
def eX.av(x:eX):AV:=.agg [sI x.vars,sI x.aow]
def eX.fi(vars aow:Int):(eX.mk vars aow).av=.agg [sI vars,sI aow]:=rfl
def eX.fX(x:eX):x.av=.agg [sI x.vars,sI x.aow]:=by cases x;exact eX.fi _ _
@[simp] theorem eX.jR(x:eX):x.av.cells=[sI x.vars,sI x.aow]:=by rw[eX.fX];rfl
@[simp] theorem eX.rq(x:eX):fG x.av=true:=by rw[eX.fX];rfl
@[simp] theorem eX.nN(x:eX):x.av.norm=x.av:=by rw[eX.fX];rfl
@[simp] theorem eX.agg(a b:Int):AV.agg [sI a,sI b]=eX.av (eX.mk a b):=by rw[eX.fi]<;>rfl
def et.av(x:et):AV:=.agg [sI x.eh.aop,sI x.eh.dM.aop,sL Ty.av x.eh.dM.aoq,sL Tm.av x.eh.ek,sL Fm.av x.eh.aoq,sI x.vars]
def et.fi(eh:Fm)(vars:Int):(et.mk eh vars).av=.agg [sI eh.aop,sI eh.dM.aop,sL Ty.av eh.dM.aoq,sL Tm.av eh.ek,sL Fm.av eh.aoq,sI vars]:=rfl
def et.fX(x:et):x.av=.agg [sI x.eh.aop,sI x.eh.dM.aop,sL Ty.av x.eh.dM.aoq,sL Tm.av x.eh.ek,sL Fm.av x.eh.aoq,sI x.vars]:=by cases x;exact et.fi _ _
@[simp] theorem et.jR(x:et):x.av.cells=[sI x.eh.aop,sI x.eh.dM.aop,sL Ty.av x.eh.dM.aoq,sL Tm.av x.eh.ek,sL Fm.av x.eh.aoq,sI x.vars]:=by rw[et.fX];rfl
@[simp] theorem et.rq(x:et):fG x.av=true:=by rw[et.fX];rfl
@[simp] theorem et.nN(x:et):x.av.norm=x.av:=by rw[et.fX];rfl
@[simp] theorem et.So(a b:Int)(c:List Ty)(c3:List Tm)(d:List Fm)(c5:Int):AV.agg [sI a,sI b,sL Ty.av c,sL Tm.av c3,sL Fm.av d,sI c5]=et.av (et.mk (Fm.mk a (Ty.mk b c) c3 d) c5):=by rw[et.fi]<;>rfl
def dZ.av(x:dZ):AV:=.agg [sI x.iA.vars,sI x.iA.aow,sL dN.av x.aot,sL et.av x.known]
def dZ.fi(iA:eX)(aot:List dN)(known:List et):(dZ.mk iA aot known).av=.agg [sI iA.vars,sI iA.aow,sL dN.av aot,sL et.av known]:=rfl
def dZ.fX(x:dZ):x.av=.agg [sI x.iA.vars,sI x.iA.aow,sL dN.av x.aot,sL et.av x.known]:=by cases x;exact dZ.fi _ _ _
@[simp] theorem dZ.jR(x:dZ):x.av.cells=[sI x.iA.vars,sI x.iA.aow,sL dN.av x.aot,sL et.av x.known]:=by rw[dZ.fX];rfl
@[simp] theorem dZ.rq(x:dZ):fG x.av=true:=by rw[dZ.fX];rfl
@[simp] theorem dZ.nN(x:dZ):x.av.norm=x.av:=by rw[dZ.fX];rfl
@[simp] theorem dZ.Vi(a b:Int)(c:List dN)(c3:List et):AV.agg [sI a,sI b,sL dN.av c,sL et.av c3]=dZ.av (dZ.mk (eX.mk a b) c c3):=by rw[dZ.fi]<;>rfl
def ec.av(x:ec):AV:=.agg [sI x.aor,sB x.jh]
def ec.fi(aor:Int)(jh:Bool):(ec.mk aor jh).av=.agg [sI aor,sB jh]:=rfl
def ec.fX(x:ec):x.av=.agg [sI x.aor,sB x.jh]:=by cases x;exact ec.fi _ _
@[simp] theorem ec.jR(x:ec):x.av.cells=[sI x.aor,sB x.jh]:=by rw[ec.fX];rfl
@[simp] theorem ec.rq(x:ec):fG x.av=true:=by rw[ec.fX];rfl
@[simp] theorem ec.agg(a:Int)(b:Bool):AV.agg [sI a,sB b]=ec.av (ec.mk a b):=by rw[ec.fi]<;>rfl
def fw.av(x:fw):AV:=.agg [sI x.ek,sI x.gh,sI x.aoq,sB x.aos,sB x.p0]
def fw.fi(ek gh aoq:Int)(aos p0:Bool):(fw.mk ek gh aoq aos p0).av=.agg [sI ek,sI gh,sI aoq,sB aos,sB p0]:=rfl
def fw.fX(x:fw):x.av=.agg [sI x.ek,sI x.gh,sI x.aoq,sB x.aos,sB x.p0]:=by cases x;exact fw.fi _ _ _ _ _
@[simp] theorem fw.jR(x:fw):x.av.cells=[sI x.ek,sI x.gh,sI x.aoq,sB x.aos,sB x.p0]:=by rw[fw.fX];rfl
@[simp] theorem fw.rq(x:fw):fG x.av=true:=by rw[fw.fX];rfl
@[simp] theorem fw.nN(x:fw):x.av.norm=x.av:=by rw[fw.fX];rfl
@[simp] theorem fw.agg(a b c:Int)(c3 d:Bool):AV.agg [sI a,sI b,sI c,sB c3,sB d]=fw.av (fw.mk a b c c3 d):=by rw[fw.fi]<;>rfl
def fL.av(x:fL):AV:=.agg [sB x.aos,sB x.typed,sI x.ek,sI x.gh,sI x.aoq,sI x.uM,sI x.vars,sI x.aow]
def fL.fi(aos typed:Bool)(ek gh aoq uM vars aow:Int):(fL.mk aos typed ek gh aoq uM vars aow).av=.agg [sB aos,sB typed,sI ek,sI gh,sI aoq,sI uM,sI vars,sI aow]:=rfl
def fL.fX(x:fL):x.av=.agg [sB x.aos,sB x.typed,sI x.ek,sI x.gh,sI x.aoq,sI x.uM,sI x.vars,sI x.aow]:=by cases x;exact fL.fi _ _ _ _ _ _ _ _
@[simp] theorem fL.jR(x:fL):x.av.cells=[sB x.aos,sB x.typed,sI x.ek,sI x.gh,sI x.aoq,sI x.uM,sI x.vars,sI x.aow]:=by rw[fL.fX];rfl
@[simp] theorem fL.rq(x:fL):fG x.av=true:=by rw[fL.fX];rfl
@[simp] theorem fL.nN(x:fL):x.av.norm=x.av:=by rw[fL.fX];rfl
@[simp] theorem fL.agg(a b:Bool)(c c3 d c5 f h:Int):AV.agg [sB a,sB b,sI c,sI c3,sI d,sI c5,sI f,sI h]=fL.av (fL.mk a b c c3 d c5 f h):=by rw[fL.fi]<;>rfl
def ej.av(x:ej):AV:=.agg [sI x.aop,sI x.base.aop,sI x.base.aos,sI x.base.dM.aop,sL Ty.av x.base.dM.aoq,sL Tm.av x.base.aoq,sL Ty.av x.vars,sI x.next.aop,sI x.next.aos,sI x.next.dM.aop,sL Ty.av x.next.dM.aoq,sL Tm.av x.next.aoq]
def ej.fi(aop:Int)(base:Tm)(vars:List Ty)(next:Tm):(ej.mk aop base vars next).av=.agg [sI aop,sI base.aop,sI base.aos,sI base.dM.aop,sL Ty.av base.dM.aoq,sL Tm.av base.aoq,sL Ty.av vars,sI next.aop,sI next.aos,sI next.dM.aop,sL Ty.av next.dM.aoq,sL Tm.av next.aoq]:=rfl
@[simp] theorem ej.uQ(k:Nat)(x:ej):x.av.low k=true:=by
 cases x;rw[ej.fi];simp[AV.low,AV.iy]
@[simp] theorem ej.oR(k:Nat)(l:List ej):AV.iy k (l.map ej.av)=true:=by
 rw[AV.wY];intro x a;obtain⟨y,_,rfl⟩:=ql.1 a;exact ej.uQ k y
def ej.fX(x:ej):x.av=.agg [sI x.aop,sI x.base.aop,sI x.base.aos,sI x.base.dM.aop,sL Ty.av x.base.dM.aoq,sL Tm.av x.base.aoq,sL Ty.av x.vars,sI x.next.aop,sI x.next.aos,sI x.next.dM.aop,sL Ty.av x.next.dM.aoq,sL Tm.av x.next.aoq]:=by cases x;exact ej.fi _ _ _ _
@[simp] theorem ej.jR(x:ej):x.av.cells=[sI x.aop,sI x.base.aop,sI x.base.aos,sI x.base.dM.aop,sL Ty.av x.base.dM.aoq,sL Tm.av x.base.aoq,sL Ty.av x.vars,sI x.next.aop,sI x.next.aos,sI x.next.dM.aop,sL Ty.av x.next.dM.aoq,sL Tm.av x.next.aoq]:=by rw[ej.fX];rfl
@[simp] theorem ej.rq(x:ej):fG x.av=true:=by rw[ej.fX];rfl
@[simp] theorem ej.nN(x:ej):x.av.norm=x.av:=by rw[ej.fX];rfl
@[simp] theorem ej.YZ(c d f c3:Int)(h:List Ty)(c5:List Tm)(i:List Ty)(j k l:Int)(a:List Ty)(b:List Tm):AV.agg [sI c,sI d,sI f,sI c3,sL Ty.av h,sL Tm.av c5,sL Ty.av i,sI j,sI k,sI l,sL Ty.av a,sL Tm.av b]=ej.av (ej.mk c (Tm.mk d f (Ty.mk c3 h) c5) i (Tm.mk j k (Ty.mk l a) b)):=by rw[ej.fi]<;>rfl
@[simp] theorem ej.Zl(a b c c3:Int)(d:List Ty)(c5:List Tm)(f h i:Int):AV.agg [sI a,sI b,sI c,sI c3,sL Ty.av d,sL Tm.av c5,AV.slice .gK [],sI f,sI h,sI i,AV.slice .gK [],AV.slice .gK []]=ej.av (ej.mk a (Tm.mk b c (Ty.mk c3 d) c5) [] (Tm.mk f h (Ty.mk i []) [])):=by rw[ej.fi]<;>rfl
@[simp] theorem ej.aaG(a b c c3:Int)(d:List Ty)(f h i:Int):AV.agg [sI a,sI b,sI c,sI c3,sL Ty.av d,AV.slice .gK [],AV.slice .gK [],sI f,sI h,sI i,AV.slice .gK [],AV.slice .gK []]=ej.av (ej.mk a (Tm.mk b c (Ty.mk c3 d) []) [] (Tm.mk f h (Ty.mk i []) [])):=by rw[ej.fi]<;>rfl
@[simp] theorem ej.aa4(a b c c3:Int)(c5:List Tm)(d f h:Int):AV.agg [sI a,sI b,sI c,sI c3,AV.slice .gK [],sL Tm.av c5,AV.slice .gK [],sI d,sI f,sI h,AV.slice .gK [],AV.slice .gK []]=ej.av (ej.mk a (Tm.mk b c (Ty.mk c3 []) c5) [] (Tm.mk d f (Ty.mk h []) [])):=by rw[ej.fi]<;>rfl
@[simp] theorem ej.aaU(c d f c3:Int)(h:List Ty)(i j k:Int)(a:List Ty)(b:List Tm):AV.agg [sI c,sI d,sI f,sI c3,AV.slice .gK [],AV.slice .gK [],sL Ty.av h,sI i,sI j,sI k,sL Ty.av a,sL Tm.av b]=ej.av (ej.mk c (Tm.mk d f (Ty.mk c3 []) []) h (Tm.mk i j (Ty.mk k a) b)):=by rw[ej.fi]<;>rfl
@[simp] theorem ej.Zh(a b c c3 d f h:Int):AV.agg [sI a,sI b,sI c,sI c3,AV.slice .gK [],AV.slice .gK [],AV.slice .gK [],sI d,sI f,sI h,AV.slice .gK [],AV.slice .gK []]=ej.av (ej.mk a (Tm.mk b c (Ty.mk c3 []) []) [] (Tm.mk d f (Ty.mk h []) [])):=by rw[ej.fi]<;>rfl
def HC.cells(k:Nat):HC->List AV
 |.fZ x=>[m8 k x.term,sI x.steps]|.eJ x=>[sI x.aop,sI x.aos,sI x.p0.aop,sL Ty.av x.p0.aoq,AV.slice .gK (List.map (m8 k) x.aoq),sI x.size,sI x.free,sB x.normal]
@[simp] theorem HC.R_(k:Nat)(x:fT):HC.cells k (.fZ x)=[m8 k x.term,sI x.steps]:=rfl
@[simp] theorem HC.U1(k:Nat)(x:eI):HC.cells k (.eJ x)=[sI x.aop,sI x.aos,sI x.p0.aop,sL Ty.av x.p0.aoq,AV.slice .gK (List.map (m8 k) x.aoq),sI x.size,sI x.free,sB x.normal]:=rfl
abbrev iH(k:Nat)(l:List HC):dV:=w9 HC.cells k l
end Go.fP
namespace Go.Proofs.YtpgdkkomegalnaaGreatDoor
open Go Go.lD Go.fP Tryz
@[simp] theorem aaS:f' prog 3=some (false,1):=by kernel_rfl
@[simp] theorem ae':jH prog 3=some [.sc (.int .i64 0)]:=by kernel_rfl
@[simp] theorem vu:prog.underlying 3=some (.int .i64):=by kernel_rfl
@[simp] theorem an5:f' prog 4=some (false,1)/\jH prog 4=some [.sc (.bool false)]/\f' prog 22=some (false,1)/\f' prog 27=some (false,1)/\pB prog 29=some [.sc (.int .i64 0),.slice .full []]/\jH prog 29=some [.sc (.int .i64 0),.slice .full []]/\eY prog 29 0=some (0,3)/\gm prog 29 0=some (0,1)/\eY prog 29 1=some (1,27)/\gm prog 29 1=some (1,1):=by and_intros<;>kernel_rfl
@[simp] theorem E9:oA prog 22=some (3,1):=by kernel_rfl
@[simp] theorem akz:prog.underlying 22=some (.slice 3):=by kernel_rfl
@[simp] theorem Fp:oA prog 27=some (29,2):=by kernel_rfl
@[simp] theorem alp:prog.underlying 27=some (.slice 29):=by kernel_rfl
@[simp] theorem aeG:f' prog 29=some (true,2):=by kernel_rfl
@[simp] theorem Ty.aiE(x:Ty):rn prog 29 x.av=true:=by rw[Ty.fX,sA,aeG];rfl
@[simp] theorem anD:f' prog 30=some (false,1)/\pB prog 32=some [.sc (.int .i64 0),.sc (.int .i64 0),.sc (.int .i64 0),.slice .full [],.slice .full []]/\eY prog 32 0=some (0,3)/\gm prog 32 0=some (0,1)/\eY prog 32 1=some (1,3)/\gm prog 32 1=some (1,1)/\eY prog 32 2=some (2,29)/\gm prog 32 2=some (2,2)/\eY prog 32 3=some (4,30)/\gm prog 32 3=some (4,1):=by and_intros<;>kernel_rfl
@[simp] theorem x':oA prog 30=some (32,5):=by kernel_rfl
@[simp] theorem afO:f' prog 32=some (true,5):=by kernel_rfl
@[simp] theorem agK:jH prog 32=some [.sc (.int .i64 0),.sc (.int .i64 0),.sc (.int .i64 0),.slice .full [],.slice .full []]:=by kernel_rfl
@[simp] theorem Tm.aiA(x:Tm):rn prog 32 x.av=true:=by rw[Tm.fX,sA,afO];rfl
@[simp] theorem anJ:f' prog 34=some (false,1)/\pB prog 36=some [.sc (.int .i64 0),.sc (.int .i64 0),.slice .full [],.slice .full [],.slice .full []]/\jH prog 36=some [.sc (.int .i64 0),.sc (.int .i64 0),.slice .full [],.slice .full [],.slice .full []]/\eY prog 36 0=some (0,3)/\gm prog 36 0=some (0,1)/\eY prog 36 1=some (1,29)/\gm prog 36 1=some (1,2)/\eY prog 36 2=some (3,30)/\gm prog 36 2=some (3,1)/\eY prog 36 3=some (4,34):=by and_intros<;>kernel_rfl
@[simp] theorem La:oA prog 34=some (36,5):=by kernel_rfl
@[simp] theorem akD:prog.underlying 34=some (.slice 36):=by kernel_rfl
@[simp] theorem afn:f' prog 36=some (true,5):=by kernel_rfl
@[simp] theorem aiG:gm prog 36 3=some (4,1)/\f' prog 37=some (false,1)/\oA prog 37=some (39,7)/\pB prog 39=some [.sc (.int .i64 0),.sc (.int .i64 0),.sc (.int .i64 0),.slice .full [],.slice .full [],.slice .full [],.slice .full []]/\jH prog 39=some [.sc (.int .i64 0),.sc (.int .i64 0),.sc (.int .i64 0),.slice .full [],.slice .full [],.slice .full [],.slice .full []]/\eY prog 39 0=some (0,3)/\gm prog 39 0=some (0,1)/\eY prog 39 1=some (1,3)/\gm prog 39 1=some (1,1)/\eY prog 39 2=some (2,29):=by and_intros<;>kernel_rfl
@[simp] theorem Fm.ai1(x:Fm):rn prog 36 x.av=true:=by rw[Fm.fX,sA,afn];rfl
@[simp] theorem ajS:f' prog 39=some (true,7):=by kernel_rfl
@[simp] theorem ai2:gm prog 39 2=some (2,2)/\eY prog 39 3=some (4,30)/\gm prog 39 3=some (4,1)/\eY prog 39 4=some (5,34)/\gm prog 39 4=some (5,1)/\eY prog 39 5=some (6,37)/\gm prog 39 5=some (6,1)/\f' prog 40=some (false,1)/\jH prog 40=some [.sc (.int .i64 0)]/\f' prog 53=some (true,2):=by and_intros<;>kernel_rfl
@[simp] theorem Pf.ajc(x:Pf):rn prog 39 x.av=true:=by rw[Pf.fX,sA,ajS];rfl
@[simp] theorem amR:pB prog 53=some [.slice .full [],.slice .full []]/\eY prog 53 0=some (0,27)/\gm prog 53 0=some (0,1)/\eY prog 53 1=some (1,34)/\gm prog 53 1=some (1,1)/\f' prog 54=some (false,1)/\oA prog 54=some (56,4)/\pB prog 56=some [.sc (.int .i64 0),.sc (.int .i64 0),.slice .full [],.slice .full []]/\jH prog 56=some [.sc (.int .i64 0),.sc (.int .i64 0),.slice .full [],.slice .full []]/\eY prog 56 0=some (0,3):=by and_intros<;>kernel_rfl
@[simp] theorem aj7:f' prog 56=some (true,4):=by kernel_rfl
@[simp] theorem ai_:gm prog 56 0=some (0,1)/\eY prog 56 1=some (1,3)/\gm prog 56 1=some (1,1)/\eY prog 56 2=some (2,22)/\gm prog 56 2=some (2,1)/\eY prog 56 3=some (3,54)/\gm prog 56 3=some (3,1)/\f' prog 61=some (false,1)/\jH prog 61=some [.sc .nilFunc]/\pB prog 66=some [.slice .full [],.sc (.int .i64 0)]:=by and_intros<;>kernel_rfl
@[simp] theorem Vl.aiX(x:Vl):rn prog 56 x.av=true:=by rw[Vl.fX,sA,aj7];rfl
@[simp] theorem aiL:eY prog 66 0=some (0,22)/\gm prog 66 0=some (0,1)/\eY prog 66 1=some (1,3)/\f' prog 85=some (false,1)/\jH prog 85=some [.sc .nilFunc]/\f' prog 91=some (true,6)/\pB prog 91=some [.sc (.int .i64 0),.sc (.int .i64 0),.slice .full [],.slice .full [],.slice .full [],.slice .full []]/\jH prog 91=some [.sc (.int .i64 0),.sc (.int .i64 0),.slice .full [],.slice .full [],.slice .full [],.slice .full []]/\eY prog 91 0=some (0,36)/\gm prog 91 0=some (0,5):=by and_intros<;>kernel_rfl
@[simp] theorem aiT:eY prog 91 1=some (5,22)/\gm prog 91 1=some (5,1)/\pB prog 98=some [.slice .full [],.slice .full [],.sc (.int .i64 0)]/\eY prog 98 0=some (0,34)/\gm prog 98 0=some (0,1)/\eY prog 98 1=some (1,30)/\gm prog 98 1=some (1,1)/\eY prog 98 2=some (2,3)/\f' prog 100=some (true,4)/\pB prog 100=some [.slice .full [],.slice .full [],.slice .full [],.slice .full []]:=by and_intros<;>kernel_rfl
@[simp] theorem alG:jH prog 100=some [.slice .full [],.slice .full [],.slice .full [],.slice .full []]/\eY prog 100 0=some (0,53)/\gm prog 100 0=some (0,2)/\eY prog 100 1=some (2,30)/\gm prog 100 1=some (2,1)/\eY prog 100 2=some (3,30)/\gm prog 100 2=some (3,1)/\pB prog 113=some [.sc (.int .i64 0),.sc (.int .i64 0),.sc (.bool false)]/\eY prog 113 0=some (0,3)/\eY prog 113 1=some (1,3):=by and_intros<;>kernel_rfl
@[simp] theorem age:gm prog 113 1=some (1,1)/\eY prog 113 2=some (2,4)/\f' prog 114=some (false,1)/\pB prog 116=some [.sc (.int .i64 0),.slice .full [],.slice .full [],.sc (.int .i64 0),.sc (.int .i64 0),.sc (.int .i64 0),.slice .full [],.slice .full [],.slice .full []]/\jH prog 116=some [.sc (.int .i64 0),.slice .full [],.slice .full [],.sc (.int .i64 0),.sc (.int .i64 0),.sc (.int .i64 0),.slice .full [],.slice .full [],.slice .full []]/\eY prog 116 0=some (0,3)/\gm prog 116 0=some (0,1)/\eY prog 116 1=some (1,22)/\gm prog 116 1=some (1,1)/\eY prog 116 2=some (2,114):=by and_intros<;>kernel_rfl
@[simp] theorem Y7:oA prog 114=some (116,9):=by kernel_rfl
@[simp] theorem ahO:prog.underlying 114=some (.slice 116):=by kernel_rfl
@[simp] theorem aa2:f' prog 116=some (true,9):=by kernel_rfl
@[simp] theorem agk:gm prog 116 2=some (2,1)/\eY prog 116 3=some (3,32)/\gm prog 116 3=some (3,5)/\eY prog 116 4=some (8,114)/\gm prog 116 4=some (8,1)/\f' prog 132=some (true,3)/\pB prog 132=some [.slice .full [],.slice .full [],.slice .full []]/\jH prog 132=some [.slice .full [],.slice .full [],.slice .full []]/\eY prog 132 0=some (0,34)/\gm prog 132 0=some (0,1):=by and_intros<;>kernel_rfl
@[simp] theorem dJ.ahL(x:dJ):rn prog 116 x.av=true:=by rw[dJ.fX,sA,aa2];rfl
@[simp] theorem ag':eY prog 132 1=some (1,27)/\gm prog 132 1=some (1,1)/\eY prog 132 2=some (2,34)/\gm prog 132 2=some (2,1)/\pB prog 148=some [.sc (.int .i64 0),.slice .full [],.sc (.int .i64 0)]/\jH prog 148=some [.sc (.int .i64 0),.slice .full [],.sc (.int .i64 0)]/\eY prog 148 0=some (0,29)/\gm prog 148 0=some (0,2)/\eY prog 148 1=some (2,3)/\gm prog 148 1=some (2,1):=by and_intros<;>kernel_rfl
@[simp] theorem Am:f' prog 148=some (true,3):=by kernel_rfl
@[simp] theorem dN.ahi(x:dN):rn prog 148 x.av=true:=by rw[dN.fX,sA,Am];rfl
@[simp] theorem am3:f' prog 151=some (false,1)/\f' prog 158=some (false,1)/\pB prog 161=some [.slice .full [],.sc (.map none)]/\gm prog 161 0=some (0,1)/\eY prog 161 1=some (1,158)/\gm prog 161 1=some (1,1)/\f' prog 163=some (false,1)/\jH prog 163=some [.sc (.int .u32 0)]/\f' prog 165=some (true,6)/\pB prog 165=some [.sc (.int .i64 0),.sc (.int .i64 0),.slice .full [],.slice .full [],.slice .full [],.sc (.int .u32 0)]:=by and_intros<;>kernel_rfl
@[simp] theorem Y5:oA prog 151=some (148,3):=by kernel_rfl
@[simp] theorem ahr:prog.underlying 151=some (.slice 148):=by kernel_rfl
@[simp] theorem alQ:jH prog 165=some [.sc (.int .i64 0),.sc (.int .i64 0),.slice .full [],.slice .full [],.slice .full [],.sc (.int .u32 0)]/\eY prog 165 0=some (0,36)/\gm prog 165 0=some (0,5)/\eY prog 165 1=some (5,163)/\gm prog 165 1=some (5,1)/\f' prog 169=some (true,2)/\eY prog 169 0=some (0,3)/\eY prog 169 1=some (1,3)/\f' prog 170=some (false,1)/\f' prog 172=some (true,4):=by and_intros<;>kernel_rfl
@[simp] theorem ajG:oA prog 170=some (257,6):=by kernel_rfl
@[simp] theorem ag2:prog.underlying 170=some (.slice 257):=by kernel_rfl
@[simp] theorem al1:pB prog 172=some [.sc (.int .i64 0),.sc (.int .i64 0),.slice .full [],.slice .full []]/\jH prog 172=some [.sc (.int .i64 0),.sc (.int .i64 0),.slice .full [],.slice .full []]/\eY prog 172 0=some (0,169)/\eY prog 172 1=some (2,151)/\gm prog 172 1=some (2,1)/\eY prog 172 2=some (3,170)/\f' prog 194=some (true,9)/\jH prog 194=some [.sc (.int .i64 0),.slice .full [],.sc (.int .i64 0),.sc (.int .i64 0),.slice .full [],.sc (.int .i64 0),.sc (.int .i64 0),.slice .full [],.sc (.int .i64 0)]/\pB prog 200=some [.sc (.int .i64 0),.sc (.bool false)]/\eY prog 200 0=some (0,3):=by and_intros<;>kernel_rfl
@[simp] theorem Fk:prog.underlying 194=some (.array 3 148):=by kernel_rfl
@[simp] theorem ajF(b g o:Nat):gL prog 194 (.h9 b g o) (.sc (.int .i64 0))=some (.h9 b g (o+0)):=by kernel_rfl
@[simp] theorem aji(b g o:Nat):gL prog 194 (.h9 b g o) (.sc (.int .i64 1))=some (.h9 b g (o+3)):=by kernel_rfl
@[simp] theorem akb(b g o:Nat):gL prog 194 (.h9 b g o) (.sc (.int .i64 2))=some (.h9 b g (o+6)):=by kernel_rfl
@[simp] theorem agJ:eY prog 200 1=some (1,4)/\f' prog 205=some (false,1)/\jH prog 205=some [.sc .nilFunc]/\f' prog 210=some (true,5)/\pB prog 210=some [.sc (.int .i64 0),.sc (.int .i64 0),.sc (.int .i64 0),.sc (.bool false),.sc (.bool false)]/\jH prog 210=some [.sc (.int .i64 0),.sc (.int .i64 0),.sc (.int .i64 0),.sc (.bool false),.sc (.bool false)]/\eY prog 210 0=some (0,3)/\gm prog 210 0=some (0,1)/\eY prog 210 1=some (1,3)/\gm prog 210 1=some (1,1):=by and_intros<;>kernel_rfl
@[simp] theorem ahg:eY prog 210 2=some (2,3)/\gm prog 210 2=some (2,1)/\eY prog 210 3=some (3,4)/\gm prog 210 3=some (3,1)/\eY prog 210 4=some (4,4)/\gm prog 210 4=some (4,1)/\pB prog 235=some [.sc (.bool false),.sc (.bool false),.sc (.int .i64 0),.sc (.int .i64 0),.sc (.int .i64 0),.sc (.int .i64 0),.sc (.int .i64 0),.sc (.int .i64 0)]/\jH prog 235=some [.sc (.bool false),.sc (.bool false),.sc (.int .i64 0),.sc (.int .i64 0),.sc (.int .i64 0),.sc (.int .i64 0),.sc (.int .i64 0),.sc (.int .i64 0)]/\eY prog 235 0=some (0,4)/\eY prog 235 1=some (1,4):=by and_intros<;>kernel_rfl
@[simp] theorem Ze:f' prog 235=some (true,8):=by kernel_rfl
@[simp] theorem agr:eY prog 235 2=some (2,3)/\eY prog 235 3=some (3,3)/\eY prog 235 4=some (4,3)/\pB prog 257=some [.sc (.int .i64 0),.sc (.int .i64 0),.slice .full [],.slice .full [],.slice .full [],.sc (.int .i64 0)]/\jH prog 257=some [.sc (.int .i64 0),.sc (.int .i64 0),.slice .full [],.slice .full [],.slice .full [],.sc (.int .i64 0)]/\eY prog 257 0=some (0,36)/\gm prog 257 0=some (0,5)/\eY prog 257 1=some (5,3)/\gm prog 257 1=some (5,1)/\f' prog 275=some (false,1):=by and_intros<;>kernel_rfl
@[simp] theorem fL.ahy(x:fL):rn prog 235 x.av=true:=by rw[fL.fX,sA,Ze];rfl
@[simp] theorem Za:f' prog 257=some (true,6):=by kernel_rfl
@[simp] theorem et.agj(x:et):rn prog 257 x.av=true:=by rw[et.fX,sA,Za];rfl
@[simp] theorem Ul:prog.underlying 263=some (.map 3 4):=by kernel_rfl
@[simp] theorem ah6:prog.underlying 273=some (.array 21 235):=by kernel_rfl
@[simp] theorem agd:f' prog 280=some (false,1):=by kernel_rfl
@[simp] theorem adW:jH prog 280=some [.sc (.pointer none)]:=by kernel_rfl
@[simp] theorem ZW:prog.underlying 280=some (.pointer 304):=by kernel_rfl
@[simp] theorem al_(k:Nat)(x:Option Nat):oB prog .eql 280 (m8 k x) (.sc (.pointer none))=some (.sc (.bool x.isNone)):=YA ZW
@[simp] theorem amu(k:Nat)(x:Option Nat):oB prog .neq 280 (m8 k x) (.sc (.pointer none))=some (.sc (.bool x.isSome)):=YD ZW
@[simp] theorem alP:pB prog 283=some [.sc (.pointer none),.sc (.int .i64 0)]/\eY prog 283 0=some (0,280)/\gm prog 283 0=some (0,1)/\eY prog 283 1=some (1,3)/\f' prog 291=some (false,1)/\jH prog 291=some [.sc .nilFunc]/\f' prog 299=some (false,1)/\pB prog 304=some [.sc (.int .i64 0),.sc (.int .i64 0),.sc (.int .i64 0),.slice .full [],.slice .full [],.sc (.int .i64 0),.sc (.int .i64 0),.sc (.bool false)]/\eY prog 304 0=some (0,3)/\gm prog 304 0=some (0,1):=by and_intros<;>kernel_rfl
@[simp] theorem agW:prog.underlying 290=some (.array 14 3):=by kernel_rfl
@[simp] theorem Vy:oA prog 299=some (280,1):=by kernel_rfl
@[simp] theorem ag7:eY prog 304 1=some (1,3)/\gm prog 304 1=some (1,1)/\eY prog 304 2=some (2,29)/\gm prog 304 2=some (2,2)/\eY prog 304 3=some (4,299)/\gm prog 304 3=some (4,1)/\eY prog 304 4=some (5,3)/\gm prog 304 4=some (5,1)/\eY prog 304 5=some (6,3)/\eY prog 304 6=some (7,4):=by and_intros<;>kernel_rfl
@[simp] theorem amr:f' prog 307=some (false,1):=by kernel_rfl
@[simp] theorem amo(tag:Tag)(l:List Int)(a:Int):pL prog 22 (.slice tag (List.map sI l)) (some (.sc (.int .i64 a))) none none=(tD l a (eE l)).map λr=>.slice .gK (List.map sI r):=PE _ l akz aaS (λx=>by simp)
@[simp] theorem alS(tag:Tag)(l:List Ty):pL prog 27 (.slice tag (List.map Ty.av l)) none (some (.sc (.int .i64 (eE l)))) (some (.sc (.int .i64 (eE l))))=some (.slice .full (List.map Ty.av l)):=vQ _ l alp aeG (λx=>by simp)
@[simp] theorem al7(tag:Tag)(l:List Fm):pL prog 34 (.slice tag (List.map Fm.av l)) none (some (.sc (.int .i64 (eE l)))) (some (.sc (.int .i64 (eE l))))=some (.slice .full (List.map Fm.av l)):=vQ _ l akD afn (λx=>by simp)
@[simp] theorem aj3(tag:Tag)(l:List dJ):pL prog 114 (.slice tag (List.map dJ.av l)) none (some (.sc (.int .i64 (eE l)))) (some (.sc (.int .i64 (eE l))))=some (.slice .full (List.map dJ.av l)):=vQ _ l ahO aa2 (λx=>by simp)
@[simp] theorem ajz(tag:Tag)(l:List dN):pL prog 151 (.slice tag (List.map dN.av l)) none (some (.sc (.int .i64 (eE l)))) (some (.sc (.int .i64 (eE l))))=some (.slice .full (List.map dN.av l)):=vQ _ l ahr Am (λx=>by simp)
@[simp] theorem akl(tag:Tag)(l:List et):pL prog 170 (.slice tag (List.map et.av l)) none (some (.sc (.int .i64 (eE l)))) (some (.sc (.int .i64 (eE l))))=some (.slice .full (List.map et.av l)):=vQ _ l ag2 Za (λx=>by simp)
def fL.cs(x:fL):List AV:=x.av.cells
@[simp] theorem aoj(a:Int):gL prog 273 (.mQ (.agg (List.flatMap (λx=>fL.cs x) pj))) (.sc (.int .i64 a))=(dW pj a).map λx=>.mQ x.av:=HE ah6 Ze (λx=>rfl) (λx=>⟨_,fL.fX x⟩) (λx=>by simp) rfl
@[simp] theorem anL(a:Int):gL prog 290 (.mQ (.agg (List.map (λn=>AV.sc (Value.int .i64 n)) qF))) (.sc (.int .i64 a))=(dW qF a).map λx=>.mQ (.sc (.int .i64 x)):=Jy agW aaS rfl
@[simp] theorem lC:prog.underlying 158=some (.map 3 202):=by kernel_rfl
def ZB:Q4 prog 202=some (.sc .nilFunc):=by kernel_rfl
def St:List Value:=[.int .i64 1,.int .i64 2,.int .i64 3,.int .i64 4,.int .i64 5,.int .i64 6,.int .i64 7,.int .i64 8,.int .i64 12,.int .i64 9,.int .i64 13,.int .i64 10,.int .i64 14,.int .i64 11,.int .i64 15,.int .i64 16,.int .i64 17,.int .i64 18,.int .i64 19,.int .i64 20]
def TA:List AV:=[.func (.func 174) [] [],.func (.func 175) [] [],.func (.func 176) [] [],.func (.func 177) [] [],.func (.func 177) [] [],.func (.func 178) [] [],.func (.func 179) [] [],.func (.func 180) [] [],.func (.func 180) [] [],.func (.func 181) [] [],.func (.func 181) [] [],.func (.func 182) [] [],.func (.func 182) [] [],.func (.func 183) [] [],.func (.func 183) [] [],.func (.func 184) [] [],.func (.func 184) [] [],.func (.func 185) [] [],.func (.func 186) [] [],.func (.func 187) [] []]
def N2:AV:=.uv St TA
def N0(k:Int):AV:=match mapIdx St (.int .i64 k)with|some j=>TA.getD j .undef|none=>.sc .nilFunc
abbrev KC(H:dV)(o:Nat)(l:List Fm):Prop:=H[o]?=some [sL Fm.av l,AV.n_ (o-1)]/\H[o-1]?=some [N2]
def SN{H:dV}{o:Nat}{k:Int}(h:H[o]?=some [N2]):ve prog H 158 (AV.n_ o) (sI k) false=some (N0 k):=WM lC vu ZB h abx abx
def tE{k key:Int}{x:AV}(h:eo k key=true)(a:N0 key=x):N0 k=x:=by rw[Yj h];exact a
def CD{T:eK}{g:Nat}{xs:List AV}{H H':dV}{r:AV}(h:eG prog T g xs H r H'):nu prog T (.func (.func g) [] []) xs H r H':=by
 unfold nu oa;simp only[n9,yc];exact h
abbrev n8(T:eK):Prop:=T 2=some (AV.agg (List.map (λn=>AV.sc (Value.int .i64 n)) qF))/\T 1=some (AV.agg (List.flatMap (λx=>fL.cs x) pj))/\T 0=some (AV.agg (List.map (λn=>AV.sc (Value.int .u8 n)) lO))
def Eo{S:Type}(T:eK)(g:Nat)(cap:List AV)(st:S->dV)(w:(S->Tm->Int->Option (Tm×S))):Prop:=
 ∀(X:dV) (s:S) (a:Tm) (b:Int) (c:Tm) (d:S),w s a b=some (c,d)->eG prog T g ([Tm.av a,sI b]++cap) (st s++X) (Tm.av c) (st d++X)
def Eo.at0{S:Type}{T:eK}{g:Nat}{cap:List AV}{st:S->dV}{w:(S->Tm->Int->Option (Tm×S))}(h:Eo T g cap st w){s:S}{a:Tm}{b:Int}{c:Tm}{d:S}(hw:w s a b=some (c,d)):eG prog T g ([Tm.av a,sI b]++cap) (st s) (Tm.av c) (st d):=by
 have:=h [] s a b c d hw
 rwa [yc,yc] at this
def uj{S:Type}(T:eK)(g:Nat)(cap:List AV)(st:S->dV)(w:(S->Int->Int->Option (S))):Prop:=
 ∀(X:dV) (s:S) (a:Int) (b:Int) (c:S),w s a b=some c->eG prog T g ([sI a,sI b]++cap) (st s++X) (AV.tuple []) (st c++X)
def uj.ext{S:Type}{T:eK}{g:Nat}{cap:List AV}{st:S->dV}{w:(S->Int->Int->Option (S))}(h:uj T g cap st w){Y:dV}:uj T g cap (λs=>st s++Y) w:=λX s a b c hw=>by
 have:=h (Y++X) s a b c hw
 rwa [<-tv,<-tv] at this
def uj.at0{S:Type}{T:eK}{g:Nat}{cap:List AV}{st:S->dV}{w:(S->Int->Int->Option (S))}(h:uj T g cap st w){s:S}{a b:Int}{c:S}(hw:w s a b=some c):eG prog T g ([sI a,sI b]++cap) (st s) (AV.tuple []) (st c):=by
 have:=h [] s a b c hw
 rwa [yc,yc] at this
def D1{S:Type}(T:eK)(g:Nat)(cap:List AV)(st:S->dV)(w:(S->Tm->Int->Option (S))):Prop:=
 ∀(X:dV) (s:S) (a:Tm) (b:Int) (c:S),w s a b=some c->eG prog T g ([Tm.av a,sI b]++cap) (st s++X) (AV.tuple []) (st c++X)
def D1.at0{S:Type}{T:eK}{g:Nat}{cap:List AV}{st:S->dV}{w:(S->Tm->Int->Option (S))}(h:D1 T g cap st w){s:S}{a:Tm}{b:Int}{c:S}(hw:w s a b=some c):eG prog T g ([Tm.av a,sI b]++cap) (st s) (AV.tuple []) (st c):=by
 have:=h [] s a b c hw
 rwa [yc,yc] at this
def uc{S:Type}(T:eK)(g:Nat)(cap:List AV)(st:S->dV)(w:(S->Int->Int->Option (Tm×S))):Prop:=
 ∀(X:dV) (s:S) (a:Int) (b:Int) (c:Tm) (d:S),w s a b=some (c,d)->eG prog T g ([sI a,sI b]++cap) (st s++X) (Tm.av c) (st d++X)
def uc.ext{S:Type}{T:eK}{g:Nat}{cap:List AV}{st:S->dV}{w:(S->Int->Int->Option (Tm×S))}(h:uc T g cap st w){Y:dV}:uc T g cap (λs=>st s++Y) w:=λX s a b c d hw=>by
 have:=h (Y++X) s a b c d hw
 rwa [<-tv,<-tv] at this
def uc.at0{S:Type}{T:eK}{g:Nat}{cap:List AV}{st:S->dV}{w:(S->Int->Int->Option (Tm×S))}(h:uc T g cap st w){s:S}{a b:Int}{c:Tm}{d:S}(hw:w s a b=some (c,d)):eG prog T g ([sI a,sI b]++cap) (st s) (Tm.av c) (st d):=by
 have:=h [] s a b c d hw
 rwa [yc,yc] at this
theorem gl(g:FuncId){S:Prop}(h:S):Kc prog g S:=⟨h⟩
end Go.Proofs.YtpgdkkomegalnaaGreatDoor
set_option maxRecDepth 20000
set_option maxHeartbeats 4000000
namespace Go.Proofs.YtpgdkkomegalnaaGreatDoor
open Go Go.lD Go.fP Tryz
def Qu:C1 prog 30 fS Tm.av sI:=by
 refine v1 func30 λT H a0 r m e=>?_;rw[fS] at m;exact au
@[reducible,instance] def ae3:=gl 30 @Qu
def Ng:C2 prog 31 g_ Tm.av sI (sL Tm.av):=by
 refine v2 func31 λT H a0 a1 r m e=>?_;rw[g_] at m;exact au
@[reducible,instance] def adh:=gl 31 @Ng
def QY:C2 prog 28 mC Tm.av Ty.av Tm.av:=by
 refine v2 func28 λT H a0 a1 r m e=>?_;rw[mC] at m;have e:=Aj e (show AV.agg [sI 2,sI 0,sI a0.aop,sL Ty.av a0.aoq,AV.slice .gK [Tm.av a1]]=Tm.av (Tm.mk 2 0 a0 [a1]) by rw[Tm.fi];rfl);exact au
@[reducible,instance] def afB:=gl 28 @QY
def N':C0 prog 26 wX Ty.av:=by
 refine v0 func26 λT H r m e=>?_;rw[wX] at m;exact au
@[reducible,instance] def adu:=gl 26 @N'
def RQ:C0 prog 41 gz Ty.av:=by
 refine v0 func41 λT H r m e=>?_;rw[gz] at m;exact au
@[reducible,instance] def afC:=gl 41 @RQ
def OD:C2 prog 53 tW Ty.av Ty.av (sL Ty.av):=by
 refine v2 func53 λT H a0 a1 r m e=>?_;rw[tW] at m;simp[e];refine Wn m 999 (λs1 f h=>∃a,h=H/\f.1 1=sL Ty.av a1/\f.1 5=sI s1.1/\bx f 2 [sI s1.2.1,sT a Ty.av s1.2.2]/\bx f 4 [sI 0,nL]) ⟨.gK,abq⟩ (λs1 _ _ _ _ _ E m z p=>?_);have⟨v9,v10,v11⟩:=s1;have⟨a,E⟩:=E;have e:=Aj e E;dsimp only[A']at m;apply Ir e m<;>intro e m
 .cases m;have m:=Qb z;dsimp only[A']at m;exact au
 refine sw [8,0] ?_;intro b e m;cases m;exact p _ _ _ ⟨.full,abq⟩ z
@[reducible,instance] def acq:=gl 53 @OD
def E7:C0 prog 35 qv Ty.av:=by
 refine v0 func35 λT H r m e=>?_;rw[qv] at m;exact aa
@[reducible,instance] def Wg:=gl 35 @E7
def E8{n:Nat}:C1 prog 285 (mM n) (t2 sI sB) Ty.av:=by
 refine i1 λn ih=>u1 4 func285 λT H a0 r m e=>?_;rw[mM] at m;simp[e];refine C9 m 3 999 (λb f h=>∃v2,(h=H/\f.1 4=sI v2/\bx f 1 (Ty.av a0).cells)/\b v2=some r) ?_ (λb _ g m=>?_)
 .rintro _ _ ⟨v2,E,m⟩;refine sw [10,7,0] ?_;intro e m;refine Wr e m 999 (λc a f h=>h=H/\f.1 5=sI a/\f.1 25=sL Ty.av a0.aoq/\f.1 26=sI (eE a0.aoq)/\f.1 27=sI c) abq (λa _ _ _ E m=>?_) (λc _ a _ _ _ _ _ E e m z p=>?_)
  .exact aa
  exact aa
 simp[e];refine wj 999 0 (λf h=>h=H/\f.1 4=sI 0/\f.1 11=sI a0.aop/\f.1 12=sB (fq (eo a0.aop 1) true (fq (eo a0.aop 2) true (eo a0.aop 5)))/\bx f 1 (Ty.av a0).cells) (λ_ g=>?_) ?_
 .rcases Pb (eo a0.aop 1) e with e|e
  .exact aj
  rcases Pb (eo a0.aop 2) e with e|e
  .exact aj
  exact aj
 rintro _ _ E;have e:=Aj e E;apply Iq e m<;>intro e m
 .apply wg 999;exact iJ
 apply wg 1;simp[e];refine wj 999 999 (λf h=>h=H/\f.1 16=sB (fq (eo a0.aop 3) true (eo a0.aop 4))/\bx f 1 (Ty.av a0).cells) (λ_ g=>?_) ?_
 .rcases Pb (eo a0.aop 3) e with e|e
  .exact aj
  exact aj
 rintro _ _ E;refine sw [10,12] ?_;intro e m;exact iJ
@[reducible,instance] def W3:=gl 285 @E8
def qR:C1 prog 228 jl (t2 sI sI) Ty.av:=by
 refine v1 func228 λT H a0 r m e=>?_;rw[jl] at m;exact aa
@[reducible,instance] def Wx:=gl 228 @qR
def Lv:C1 prog 166 sj sI Ty.av:=by
 refine v1 func166 λT H a0 r m e=>?_;rw[sj] at m;exact aa
@[reducible,instance] def abO:=gl 166 @Lv
def Hh:C1 prog 128 nR sI (sL Ty.av):=by
 refine v1 func128 λT H a0 r m e=>?_;rw[nR] at m;refine sw [7,0] ?_;intro e m;exact Wb e m 999 11 [9,10] [] nI
@[reducible,instance] def XX:=gl 128 @Hh
def Oh(T:eK)(c:n8 T){H:dV}{a0 a:Int}{b:Bool}(hm:wz a0=some (a,b)):eG prog T 286 [sI a0] H (AV.tuple [sI a,sB b]) H:=by
 rw[wz] at hm;have e:=c;refine wi aou func286 [] [] 3 ?_;simp[e];refine wA 999 999 [0] [] (λf=>f.1 9=sB (fq (pH a0 1) true (qz a0 14))) [] (λ_ g=>?_) ?_
 .exact aa
 intro _ e m;have m:=hm;exact aa
@[reducible,instance] def adP:=gl 286 @Oh
def OL:C1 prog 287 wT sB sI:=by
 refine u1 2 func287 λT H a0 r m e=>?_;rw[wT] at m;simp[e];refine wB 999 999 [] [] (λf=>f.1 2=sB (fq (eo a0 2) true (fq (eo a0 6) true (eo a0 9)))) λ_ g=>?_;exact aa
def xK:C1 prog 237 oK sB Ty.av:=by
 refine u1 2 func237 λT H a0 r m e=>?_;rw[oK] at m;simp[e];refine wB 999 999 [] [] (λf=>f.1 2=sB (fq (eo a0.aop 0) (eo (eE a0.aoq) 0) false)) λ_ g=>?_;exact aa
def Er(T:eK)(l:n8 T):∀(n:Nat),(∀{H:dV} {a0:Tm} {c:Int} {d:Bool} (hm:jV n a0=some (c,d)),eG prog T 229 [Tm.av a0] H (AV.tuple [sI c,sB d]) H):=by
  intro n
  induction n with
  |zero=>
    skip
    all_goals(intro _ _;intros;rename_i hm;cases hm)
  |succ n ih=>
 intro H a0 c d hm;rw[jV] at hm;have e:=l;refine wi aou func229 [] [] 5 ?_;have m:=hm;refine sw [0,2,0] ?_;intro i j e m;refine wA 999 0 [] [1] (λf=>f.1 42=sB (fq j (fq (eR (eE a0.aoq) i) true (fq (pH a0.aos 0) true (fq (eR a0.aos 0) (eR a0.aop 1) false))) true)) [13] (λ_ g=>?_) ?_
 .rcases Pb j e with e|e;rotate_left
  .exact aj
  rcases Pb (eR (eE a0.aoq) i) e with e|e
  .exact aj
  rcases Pb (pH a0.aos 0) e with e|e
  .exact aj
  rcases Pb (eR a0.aos 0) e with e|e
  .exact aj
  exact aj
 intro _ e m;apply wg 2;simp[e];refine Wj m 999 999 (λk f h=>(h=H/\f.1 1=AV.h9 1 (f.gen 1) 0/\f.box 1=some (Tm.av a0).cells)/\k=some (c,d)) (λk _ g m=>?_) ?_
 .simp[e];refine pX m OL λ_ m=>?_;apply Iq e m<;>intro e m
  .simp[e];refine Ar m qR λ_ _ m=>?_;refine Il e m λe m=>?_;exact ak0
  simp[e];refine pX m xK λ_ m=>?_;refine Im e m λe m=>?_;exact ak0
 rintro _ _ ⟨E,m⟩;have e:=Aj e E;simp[e];refine Wr e m 999 (λb a f h=>h=H/\f.1 8=sI a/\f.1 59=sL Tm.av a0.aoq/\f.1 60=sI (eE a0.aoq)/\f.1 61=sI b) abq (λa _ _ _ E m=>?_) (λb _ a _ _ _ _ _ E e m z p=>?_)
 .exact aa
 exact aa
def FG(T:eK)(c:n8 T){H:dV}{a0:Tm}{a:Int}{b:Bool}{n:Nat}(hm:jV n a0=some (a,b)):eG prog T 229 [Tm.av a0] H (AV.tuple [sI a,sB b]) H:=(Er T c n) hm
@[reducible,instance] def Wu:=gl 229 @FG
def Gh(T:eK)(c:n8 T){H:dV}{a0:Tm}{a b:Int}(hm:kL a0=some (a,b)):eG prog T 167 [Tm.av a0] H (AV.tuple [sI a,sI b]) H:=by
 rw[kL] at hm;have e:=c;refine wi aou func167 [] [] 999 ?_;have m:=hm;exact aa
@[reducible,instance] def V8:=gl 167 @Gh
def LA(T:eK)(b:n8 T){H:dV}{a0:Tm}{a:Int}(hm:oG a0=some a):eG prog T 129 [Tm.av a0] H (sI a) H:=by
 rw[oG] at hm;have e:=b;refine wi aou func129 [] [] 999 ?_;have m:=hm;exact aa
@[reducible,instance] def ab8:=gl 129 @LA
def Qo:C1 prog 168 m0 dN.av Ty.av:=by
 refine v1 func168 λT H a0 r m e=>?_;rw[m0] at m;exact aa
@[reducible,instance] def afl:=gl 168 @Qo
def KH:C1 prog 130 nj (sL dN.av) (sL Ty.av):=by
 refine v1 func130 λT H a0 r m e=>?_;rw[nj] at m;simp[e];refine Td e m 999 8 [6,7] [] [16] (λs2=>s2) (λs2 a f=>f.1 3=sT a dN.av s2) λh _ s2 c _ _ _ _ E e m z p=>?_;have⟨a,E,b⟩:=E;refine sw [20,0,1,9,0] ?_;intro d e m;refine Ao (f:=dN.av) s2 [d] b Y5 e.2 ?_;simp[e];cases m;exact p _ _ _ ⟨(.loc 16 (c.fy 16+1)),abq,(On 16)⟩ z
@[reducible,instance] def abF:=gl 130 @KH
def Ma:C3 prog 169 si (t2 dN.av sI) sI dN.av dN.av:=by
 refine v3 func169 λT H a0 a1 a2 r m e=>?_;rw[si] at m;refine Il e m λe m=>?_;have e:=Aj e (show AV.agg [sI a0,AV.slice .gK [Ty.av a1.dM,Ty.av a2.dM],sI (eH .i64 (eH .i64 1 a1.aor) a2.aor)]=dN.av (dN.mk (Ty.mk a0 [a1.dM,a2.dM]) (eH .i64 (eH .i64 1 a1.aor) a2.aor)) by rw[dN.fi];rfl);exact au
@[reducible,instance] def abJ:=gl 169 @Ma
def Kb:C1 prog 230 jX (sL sI) sI:=by
 refine v1 func230 λT H a0 r m e=>?_;rw[jX] at m;exact aa
@[reducible,instance] def YB:=gl 230 @Kb
def xa:C2 prog 231 jr sB dN.av sI:=by
 refine v2 func231 λT H a0 a1 r m e=>?_;rw[jr] at m;exact au
@[reducible,instance] def Vx:=gl 231 @xa
def B5:C2 prog 232 jD dN.av dN.av sI:=by
 refine v2 func232 λT H a0 a1 r m e=>?_;rw[jD] at m;exact aa
@[reducible,instance] def Sd:=gl 232 @B5
def pC{n:Nat}:C2 prog 133 (gR n) sB Ty.av Ty.av:=by
 refine i2 λn ih=>u2 3 func133 λT H a0 a1 r m e=>?_;rw[gR] at m;simp[e];refine wA 999 999 [] [2,3] (λf=>f.1 20=sB (fq (eR a0.aop a1.aop) true (eR (eE a0.aoq) (eE a1.aoq)))) [7,0] (λ_ g=>?_) ?_
 .exact aa
 intro _ e m;exact Wb e m 999 24 [22,23] [3] nI
@[reducible,instance] def XL:=gl 133 @pC
def B7:C2 prog 233 kP sB dN.av dN.av:=by
 refine u2 2 func233 λT H a0 a1 r m e=>?_;rw[kP] at m;simp[e];refine WB m 999 999 [] [] (λv2 f=>f.1 4=sB v2) λa _ g m=>?_;apply Ir e m<;>intro e m
 .exact iJ
 simp[e];refine pX m pC λ_ m=>?_;exact iJ
@[reducible,instance] def R9:=gl 233 @B7
def Up:C0 prog 259 ot Ty.av:=by
 refine v0 func259 λT H r m e=>?_;rw[ot] at m;exact au
@[reducible,instance] def aim:=gl 259 @Up
def Q8:C0 prog 288 BH Ty.av:=by
 refine v0 func288 λT H r m e=>?_;rw[BH] at m;exact au
@[reducible,instance] def afh:=gl 288 @Q8
def TE:C2 prog 260 uu Ty.av Ty.av (sL Ty.av):=by
 refine v2 func260 λT H a0 a1 r m e=>?_;rw[uu] at m;simp[e];refine Wn m 999 (λs1 f h=>∃a,h=H/\f.1 1=sL Ty.av a1/\f.1 5=sI s1.1/\bx f 2 [sI s1.2.1,sT a Ty.av s1.2.2]/\bx f 4 [sI 0,nL]) ⟨.gK,abq⟩ (λs1 _ _ _ _ _ E m z p=>?_);have⟨v9,v10,v11⟩:=s1;have⟨a,E⟩:=E;have e:=Aj e E;dsimp only[A']at m;apply Ir e m<;>intro e m
 .cases m;have m:=Qb z;dsimp only[A']at m;exact au
 refine sw [8,0] ?_;intro b e m;cases m;exact p _ _ _ ⟨.full,abq⟩ z
@[reducible,instance] def ahh:=gl 260 @TE
def LW:C1 prog 234 qm Ty.av Tm.av:=by
 refine v1 func234 λT H a0 r m e=>?_;rw[qm] at m;exact aa
@[reducible,instance] def ab5:=gl 234 @LW
def LL:C2 prog 170 gx (t2 dN.av sI) Tm.av (λp=>AV.agg [sI p.1.dM.aop,sL Ty.av p.1.dM.aoq,sI p.1.aor,sI p.2.1.dM.aop,sL Ty.av p.2.1.dM.aoq,sI p.2.1.aor,sI p.2.2.dM.aop,sL Ty.av p.2.2.dM.aoq,sI p.2.2.aor]):=by
 intro T H a0 a1 r hm;rw[gx] at hm;have e:=trivial;refine wi aou func170 [] [] 7 ?_;have m:=hm;refine sw [0,1,0] ?_;intro F e m;apply Iq e m<;>intro e m
 .refine sg 999 [8,0] ?_;intro w e m;refine Wr e m 0 (λo _ f h=>h=H/\f.1 6=sL sI F/\f.1 18=sL sI w/\f.1 19=sI (eE w)/\f.1 20=sI o/\bx f 3 [sI a1.1.dM.aop,sL Ty.av a1.1.dM.aoq,sI a1.1.aor,sI a1.2.1.dM.aop,sL Ty.av a1.2.1.dM.aoq,sI a1.2.1.aor,sI a1.2.2.dM.aop,sL Ty.av a1.2.2.dM.aoq,sI a1.2.2.aor]/\bx f 4 [sI 0,nL,sI 0]) abq (λ_ a _ _ E m=>?_) (λo _ _ a _ _ _ x E e m q s=>?_)
  .have e:=Aj e E;refine sg 999 [11,8,0,1] ?_;intro G _ e m;cases m;simp[e]
  have e:=Aj e E;apply wg 9;simp[e];refine C9 m 999 999 (λt f h=>∃l,(h=H/\f.1 6=sL sI F/\f.1 18=sL sI w/\f.1 19=sI (eE w)/\f.1 20=sI o/\f.1 30=sB l/\bx f 3 [sI a1.1.dM.aop,sL Ty.av a1.1.dM.aoq,sI a1.1.aor,sI a1.2.1.dM.aop,sL Ty.av a1.2.1.dM.aoq,sI a1.2.1.aor,sI a1.2.2.dM.aop,sL Ty.av a1.2.2.dM.aoq,sI a1.2.2.aor]/\bx f 4 [sI 0,nL,sI 0])/\t l=some x) ?_ (λt _ b m=>?_)
  .rintro _ _ ⟨l,E,m⟩;have e:=Aj e E;apply Iq e m<;>intro e m
   .cases m;cases q;simp[e]
   simp[e];cases m;exact s _ _ _ abq q
  apply Iq e m<;>intro e m
  .have e:=Aj e (FI (j:=0) Fk Am abq aal:gL prog 194 (AV.h9 3 (a.gen 3) 0) (sI o)=some (AV.h9 3 (a.gen 3) 0));refine sw [0,1,0] ?_;intro y e m;exact b _ _ ⟨(lF y),abq,m⟩
  apply Iq e m<;>intro e m
  .have e:=Aj e (FI (j:=1) Fk Am abq aal:gL prog 194 (AV.h9 3 (a.gen 3) 0) (sI o)=some (AV.h9 3 (a.gen 3) 3));refine sw [0,1,0] ?_;intro A e m;exact b _ _ ⟨(lF A),abq,m⟩
  have⟨e,m⟩:=Ck e m;have e:=Aj e (FI (j:=2) Fk Am abq aal:gL prog 194 (AV.h9 3 (a.gen 3) 0) (sI o)=some (AV.h9 3 (a.gen 3) 6));refine sw [0,1,0] ?_;intro B e m;exact b _ _ ⟨(lF B),abq,m⟩
 apply wg 8;simp[e];apply Iq e m<;>intro e m
 .apply wg 2;simp[e];refine C9 m 999 999 (λu f h=>∃v24,(h=H/\f.1 54=sB v24/\bx f 3 [sI a1.1.dM.aop,sL Ty.av a1.1.dM.aoq,sI a1.1.aor,sI a1.2.1.dM.aop,sL Ty.av a1.2.1.dM.aoq,sI a1.2.1.aor,sI a1.2.2.dM.aop,sL Ty.av a1.2.2.dM.aoq,sI a1.2.2.aor]/\bx f 4 [sI 0,nL,sI 0])/\u v24=some r) ?_ (λu _ d m=>?_)
  .rintro _ _ ⟨v24,E,m⟩;have e:=Aj e E;apply Iq e m<;>intro e m
   .cases m;simp[e]
   refine sw [0,1] ?_;intro _ e m;cases m;simp[e]
  refine sw [0,4] ?_;intro _ e m;apply Ir e m<;>intro e m
  .simp[e];exact d _ _ ⟨true,abq,m⟩
  refine sw [0,4,0,4,0] ?_;intro _ C e m;exact d _ _ ⟨(lF C),abq,m⟩
 apply wg 1;simp[e];refine wA 999 0 [39] [2,3,4] (λf=>f.1 59=sB (fq (eo a0.aop 6) true (eo a0.aop 9))) [] (λ_ i=>?_) ?_
 .rcases Pb (eo a0.aop 6) e with e|e
  .simp[e];exact i _ _ abq
  simp[e];exact i _ _ abq
 intro _ e m;apply Ir e m<;>intro e m
 .apply wg 999;apply Iq e m<;>intro e m
  .refine sw [0,2] ?_;intro _ _ e m;cases m;simp[e]
  refine sw [0,1] ?_;intro _ e m;apply Ir e m<;>intro e m
  .cases m;simp[e]
  apply Iq e m<;>intro e m
  .refine sw [0,1] ?_;intro _ e m;cases m;simp[e]
  refine sw [0,1] ?_;intro _ e m;cases m;simp[e]
 refine sg 3 [0,1,0] ?_;intro n e m;refine wA 2 1 [] [2,3,4,9] (λf=>f.1 10=sI (fq (eo a0.aop 9) 2 1)) [0] (λ_ k=>?_) ?_
 .simp[e];rcases Pb (eo a0.aop 9) e with e|e
  .apply wg 999;simp[e];exact k _ _ abq
  apply wg 999;simp[e];exact k _ _ abq
 intro _ e m;refine C9 m 999 999 (λv f h=>∃v46,(h=H/\f.1 88=sB v46/\bx f 4 [sI 0,nL,sI 0]/\bx f 9 [sI n.dM.aop,sL Ty.av n.dM.aoq,sI n.aor])/\v v46=some r) ?_ (λv _ c m=>?_)
 .rintro _ _ ⟨v46,E,m⟩;have e:=Aj e E;apply Iq e m<;>intro e m
  .cases m;simp[e]
  cases m;simp[e]
 refine sw [0,4] ?_;intro _ e m;apply Ir e m<;>intro e m
 .simp[e];exact c _ _ ⟨true,abq,m⟩
 refine sw [0,4,0,4] ?_;intro _ _ e m;apply Ir e m<;>intro e m
 .simp[e];exact c _ _ ⟨true,abq,m⟩
 refine sw [0,4,0] ?_;intro D e m;exact c _ _ ⟨(lF D),abq,m⟩
@[reducible,instance] def abH:=gl 170 @LL
def so{n:Nat}:C2 prog 131 (eU n) (t2 dN.av sI) (sL dN.av) Tm.av:=by
 refine i2 λn ih=>v2 func131 λT H a0 a1 r m e=>?_;rw[eU] at m;refine sw [13] ?_;intro e m;apply Iq e m<;>intro e m
 .refine sw [0,1,9,0] ?_;intro K e m;refine Ad (f:=dN.av) a0 [K] (hI.full (D:=[])) Y5 e.2 ?_;exact aa
 simp[e];refine Wr e m 0 (λx o f h=>∃a b c,h=H/\f.1 0=sL dN.av a0/\f.1 65=sL Tm.av a1.aoq/\f.1 66=sI (eE a1.aoq)/\f.1 67=sI x/\bx f 3 (Tm.av a1).cells/\bx f 4 [sI 0,nL,sI 0]/\bx f 9 [sI o.1,sT a Ty.av o.2.1,sI o.2.2.1,sI o.2.2.2.1,sT b Ty.av o.2.2.2.2.1,sI o.2.2.2.2.2.1,sI o.2.2.2.2.2.2.1,sT c Ty.av o.2.2.2.2.2.2.2.1,sI o.2.2.2.2.2.2.2.2]) ⟨.full,.full,.full,abq⟩ (λo d _ _ E m=>?_) (λx _ o d _ _ _ A E e m z p=>?_)
 .have⟨B,C,v20,v21,F,G,v24,I,J⟩:=o;have⟨a,b,c,E⟩:=E;have e:=Aj e E;apply wg 999;dsimp only[ew,Y_]at m;exact aa
 have⟨B,C,v20,v21,F,G,v24,I,J⟩:=o;have⟨a,b,c,E⟩:=E;have e:=Aj e E;dsimp only[Y_]at m;apply wg 5;simp[e];refine C9 m 999 999 (λy f h=>∃v30 v31 q s t u v v37 w i k l,(h=H/\f.1 0=sL dN.av a0/\f.1 65=sL Tm.av a1.aoq/\f.1 66=sI (eE a1.aoq)/\f.1 67=sI x/\bx f 3 (Tm.av a1).cells/\bx f 4 [sI 0,nL,sI 0]/\bx f 9 [sI v30,sT i Ty.av v31,sI q,sI s,sT k Ty.av t,sI u,sI v,sT l Ty.av v37,sI w])/\y v30 v31 q s t u v v37 w=some A) ?_ (λy _ g m=>?_)
 .rintro _ _ ⟨v30,v31,q,s,t,u,v,v37,w,i,k,l,E,m⟩;have e:=Aj e E;simp[e];cases m;exact p _ _ _ ⟨i,k,l,abq⟩ z
 refine sw [0,16,7] ?_;intro _ _ e m;apply Iq e m<;>intro e m
 .have e:=Aj e (FI (j:=0) Fk Am abq aal:gL prog 194 (AV.h9 9 (d.gen 9) 0) (sI x)=some (AV.h9 9 (d.gen 9) 0));simp[e];exact g _ _ ⟨_,_,_,_,_,_,_,_,_,.gK,b,c,abq,m⟩
 apply Iq e m<;>intro e m
 .have e:=Aj e (FI (j:=1) Fk Am abq aal:gL prog 194 (AV.h9 9 (d.gen 9) 0) (sI x)=some (AV.h9 9 (d.gen 9) 3));simp[e];exact g _ _ ⟨_,_,_,_,_,_,_,_,_,a,.gK,c,abq,m⟩
 have⟨e,m⟩:=Ck e m;have e:=Aj e (FI (j:=2) Fk Am abq aal:gL prog 194 (AV.h9 9 (d.gen 9) 0) (sI x)=some (AV.h9 9 (d.gen 9) 6));simp[e];exact g _ _ ⟨_,_,_,_,_,_,_,_,_,a,b,.gK,abq,m⟩
@[reducible,instance] def MS:=gl 131 @so
def IH{n:Nat}:C1 prog 132 (jY n) Ty.av Ty.av:=by
 refine i1 λn ih=>v1 func132 λT H a0 r m e=>?_;rw[jY] at m;simp[e];refine Td e m 999 12 [10,11] [2] [21] (λs2=>s2) (λs2 a f=>bx f 3 [sI a0.aop,sT a Ty.av s2]) λh _ s2 c _ _ _ _ E e m z p=>?_;have⟨a,E,b⟩:=E;refine sw [20,0,18,9,0] ?_;intro d e m;refine Ad (f:=Ty.av) s2 [d] b Fp e.2 ?_;simp[e];cases m;exact p _ _ _ ⟨(.loc 21 (c.fy 21+1)),abq,(On 21)⟩ z
@[reducible,instance] def aad:=gl 132 @IH
def IT(T:eK)(c:n8 T){H:dV}{a0:List Ty}{a1:Tm}{a:Ty}{b:Int}(hm:tg a0 a1=some (a,b)):eG prog T 96 [sL Ty.av a0,Tm.av a1] H (AV.tuple [Ty.av a,sI b]) H:=by
 rw[tg] at hm;have e:=c;refine wi aou func96 [] [] 999 ?_;have m:=hm;exact aa
@[reducible,instance] def Z_:=gl 96 @IT
def Pa:C2 prog 97 zf sB Ty.av Ty.av:=by
 refine v2 func97 λT H a0 a1 r m e=>?_;rw[zf] at m;exact aa
def Hj(T:eK)(b:n8 T){H:dV}{a0:Tm}{a1:Ty}{a:Int}(hm:iW a0 a1=some a):eG prog T 34 [Tm.av a0,Ty.av a1] H (sI a) H:=by
 rw[iW] at hm;have e:=b;refine wi aou func34 [] [] 5 ?_;have m:=hm;refine sw [0,2,0] ?_;intro _ c e m;refine WB m 999 999 [6] [] (λv4 f=>f.1 19=sB v4) λd _ g m=>?_;apply Ir e m<;>intro e m
 .exact iJ
 simp[e];refine pX m Pa λ_ m=>?_;exact iJ
@[reducible,instance] def XV:=gl 34 @Hj
def Hz:C1 prog 36 iR (t3 Fm.av Pf.av sI) sI:=by
 refine v1 func36 λT H a0 r m e=>?_;rw[iR] at m;exact au
@[reducible,instance] def X5:=gl 36 @Hz
def PO:C1 prog 98 FX Tm.av sI:=by
 refine v1 func98 λT H a0 r m e=>?_;rw[FX] at m;exact au
@[reducible,instance] def afx:=gl 98 @PO
def TI:C1 prog 38 fB Tm.av sI:=by
 refine v1 func38 λT H a0 r m e=>?_;rw[fB] at m;exact aa
@[reducible,instance] def ail:=gl 38 @TI
def Tw:C2 prog 55 nA Tm.av sI (sL Tm.av):=by
 refine v2 func55 λT H a0 a1 r m e=>?_;rw[nA] at m;exact au
@[reducible,instance] def agS:=gl 55 @Tw
def LV:C2 prog 37 hY Tm.av Tm.av (sL Tm.av):=by
 refine v2 func37 λT H a0 a1 r m e=>?_;rw[hY] at m;simp[e];refine Wr e m 999 (λd s2 f h=>h=H/\f.1 7=sL Tm.av a1/\f.1 8=sI (eE a1)/\f.1 9=sI d/\bx f 2 [sI s2.1,sI s2.2.1,sI s2.2.2.1,sL Ty.av s2.2.2.2.1,sL Tm.av s2.2.2.2.2]/\bx f 4 [sI 0,sI 0,sI 0,nL,nL]) abq (λs2 _ _ _ E m=>?_) (λd _ s2 _ _ _ _ _ E e m z p=>?_)
 .have⟨v11,v12,a,b,c⟩:=s2;have e:=Aj e E;dsimp only[ew,CH]at m;exact au
 have⟨v11,v12,a,b,c⟩:=s2;have e:=Aj e E;dsimp only[CH]at m;exact aa
@[reducible,instance] def acg:=gl 37 @LV
def NH{n:Nat}:C3 prog 56 (nX n) Tm.av Tm.av sI sI:=by
 refine i3 λn ih=>u3 5 func56 λT H a0 a1 a2 r m e=>?_;rw[nX] at m;refine sw [0,13] ?_;intro e m;apply wg 5;simp[e];apply Iq e m<;>intro e m
 .apply wg 1;simp[e];refine wB 999 999 [] [6] (λf=>bx f 3 [sI a0.aop,sI (fq (qz a0.aos a1) (eH .i64 a0.aos a2) a0.aos),sI a0.dM.aop,sL Ty.av a0.dM.aoq,sL Tm.av a0.aoq]) λ_ g=>?_;rcases Pb (qz a0.aos a1) e with e|e
  .exact aj
  exact aj
 apply wg 2;simp[e];refine wA 999 999 [] [3,6] (λf=>f.1 1=sI (fq (eo a0.aop 2) (eH .i64 a1 1) a1)/\f.1 2=sI a2) [0] (λ_ g=>?_) ?_
 .rcases Pb (eo a0.aop 2) e with e|e
  .exact aj
  exact aj
 intro _ e m;refine Td e m 999 36 [1,2,34,35] [6] [47] (λb=>b) (λb a f=>bx f 7 [sI a0.aop,sI a0.aos,sI a0.dM.aop,sL Ty.av a0.dM.aoq,sT a Tm.av b]) λi _ b d _ _ _ _ E e m z p=>?_;have⟨a,E,c⟩:=E;refine sw [20,0,18,9,0] ?_;intro h e m;refine Ad (f:=Tm.av) b [h] c x' e.2 ?_;simp[e];cases m;exact p _ _ _ ⟨(.loc 47 (d.fy 47+1)),abq,(On 47)⟩ z
@[reducible,instance] def acI:=gl 56 @NH
def P8:C2 prog 48 m6 Fm.av Tm.av Tm.av:=by
 refine v2 func48 λT H a0 a1 r m e=>?_;rw[m6] at m;have e:=Aj e (show AV.agg [sI 1,sI 0,AV.slice .gK [],AV.slice .gK [Tm.av a0,Tm.av a1],AV.slice .gK []]=Fm.av (Fm.mk 1 (Ty.mk 0 []) [a0,a1] []) by rw[Fm.fi];rfl);exact au
@[reducible,instance] def afs:=gl 48 @P8
def Th:C3 prog 40 qq Fm.av sI Ty.av Fm.av:=by
 refine v3 func40 λT H a0 a1 a2 r m e=>?_;rw[qq] at m;have e:=Aj e (show AV.agg [sI a0,sI a1.aop,sL Ty.av a1.aoq,AV.slice .gK [],AV.slice .gK [Fm.av a2]]=Fm.av (Fm.mk a0 a1 [] [a2]) by rw[Fm.fi];rfl);exact au
@[reducible,instance] def ahD:=gl 40 @Th
def HI:C1 prog 42 fY Fm.av Tm.av:=by
 refine v1 func42 λT H a0 r m e=>?_;rw[fY] at m;exact aa
@[reducible,instance] def XE:=gl 42 @HI
def KN:C1 prog 45 k8 Pf.av Tm.av:=by
 refine v1 func45 λT H a0 r m e=>?_;rw[k8] at m;have e:=Aj e (show AV.agg [sI 18,sI 0,sI 0,AV.slice .gK [],AV.slice .gK [Tm.av a0],AV.slice .gK [],AV.slice .gK []]=Pf.av (Pf.mk 18 0 (Ty.mk 0 []) [a0] [] []) by rw[Pf.fi];rfl);exact au
@[reducible,instance] def abR:=gl 45 @KN
def IP:C3 prog 44 j0 Pf.av Fm.av Tm.av Pf.av:=by
 refine v3 func44 λT H a0 a1 a2 r m e=>?_;rw[j0] at m;have e:=Aj e (show AV.agg [sI 10,sI 0,sI 0,AV.slice .gK [],AV.slice .gK [Tm.av a1],AV.slice .gK [Fm.av a0],AV.slice .gK [Pf.av a2]]=Pf.av (Pf.mk 10 0 (Ty.mk 0 []) [a1] [a0] [a2]) by rw[Pf.fi];rfl);exact au
@[reducible,instance] def Yb:=gl 44 @IP
def Ok:C2 prog 43 p6 Pf.av Ty.av Pf.av:=by
 refine v2 func43 λT H a0 a1 r m e=>?_;rw[p6] at m;have e:=Aj e (show AV.agg [sI 8,sI 0,sI a0.aop,sL Ty.av a0.aoq,AV.slice .gK [],AV.slice .gK [],AV.slice .gK [Pf.av a1]]=Pf.av (Pf.mk 8 0 a0 [] [] [a1]) by rw[Pf.fi];rfl);exact au
@[reducible,instance] def adG:=gl 43 @Ok
def L5:C1 prog 235 rY sB Fm.av:=by
 refine u1 4 func235 λT H a0 r m e=>?_;rw[rY] at m;simp[e];refine C9 m 5 0 (λa f h=>∃v2 v3 v4,(h=H/\f.1 3=sI v2/\f.1 4=sI v3/\f.1 5=sB v4/\bx f 1 (Fm.av a0).cells)/\a v2 v3 v4=some r) ?_ (λa _ g m=>?_)
 .rintro _ _ ⟨v2,v3,v4,E,m⟩;have e:=Aj e E;refine Wj m 999 0 (λb f h=>(h=H/\f.1 3=sI v2/\f.1 4=sI v3/\bx f 1 (Fm.av a0).cells)/\b=some r) (λb _ g m=>?_) ?_
  .apply Iq e m<;>intro e m
   .simp[e];refine Ar m qR λ_ _ m=>?_;refine Il e m λe m=>?_;exact ak0
   simp[e];refine pX m xK λ_ m=>?_;refine Im e m λe m=>?_;exact ak0
  rintro _ _ ⟨E,m⟩;have e:=Aj e E;refine wB 999 999 [] [] (λf=>f.1 2=sB (fq (eo (eE a0.ek) v2) (eo (eE a0.aoq) v3) false)) λ_ g=>?_;exact aa
 simp[e];apply Iq e m<;>intro e m
 .apply wg 999;exact ak3
 apply wg 1;simp[e];refine wA 999 0 [3,5,9] [1] (λf=>f.1 12=sB (fq (eo a0.aop 2) true (eo a0.aop 3))) [] (λ_ g=>?_) ?_
 .rcases Pb (eo a0.aop 2) e with e|e
  .exact aj
  exact aj
 intro _ e m;apply Iq e m<;>intro e m
 .apply wg 999;exact ak3
 apply wg 1;simp[e];refine wjs 999 999 (λf h=>h=H/\f.1 3=sI 0/\f.1 15=sB (fq (eo a0.aop 4) true (fq (eo a0.aop 5) true (fq (eo a0.aop 6) true (eo a0.aop 7))))/\bx f 1 (Fm.av a0).cells) ?_ (λ_ g=>?_)
 .rintro _ _ E;refine sw [10,12] ?_;intro e m;exact ak3
 rcases Pb (eo a0.aop 4) e with e|e
 .exact aj
 rcases Pb (eo a0.aop 5) e with e|e
 .exact aj
 rcases Pb (eo a0.aop 6) e with e|e
 .exact aj
 exact aj
@[reducible,instance] def acb:=gl 235 @L5
def Ak(T:eK)(h:n8 T):∀(n:Nat),(∀{H:dV} {a0:Fm} {a:Int} {b:Bool} (hm:jG n a0=some (a,b)),eG prog T 171 [Fm.av a0] H (AV.tuple [sI a,sB b]) H):=by
  intro n
  induction n with
  |zero=>
   skip
   all_goals(intro _ _;intros;rename_i hm;cases hm)
  |succ n ih=>
 intro H a0 a b hm;rw[jG] at hm;have e:=h;refine wi aou func171 [] [] 999 ?_;have m:=hm;refine sw [0,1,12,0] ?_;intro _ e m;refine Wa e m 999 19 [17,18] [1] (λd f=>f.1 4=sI d) [11,0] ?_;intro _ d e m;exact Wb e m 999 37 [35,36] [] (λc f=>f.1 4=sI c)
def Ca(T:eK)(c:n8 T){H:dV}{a0:Fm}{a:Int}{b:Bool}{n:Nat}(hm:jG n a0=some (a,b)):eG prog T 171 [Fm.av a0] H (AV.tuple [sI a,sB b]) H:=(Ak T c n) hm
@[reducible,instance] def Sa:=gl 171 @Ca
def BU(T:eK)(c:n8 T){H:dV}{a0:Fm}{a b:Int}(hm:jd a0=some (a,b)):eG prog T 134 [Fm.av a0] H (AV.tuple [sI a,sI b]) H:=by
 rw[jd] at hm;have e:=c;refine wi aou func134 [] [] 999 ?_;have m:=hm;exact aa
@[reducible,instance] def Sg:=gl 134 @BU
def Hc(T:eK)(b:n8 T){H:dV}{a0:Fm}{a:Int}(hm:kF a0=some a):eG prog T 99 [Fm.av a0] H (sI a) H:=by
 rw[kF] at hm;have e:=b;refine wi aou func99 [] [] 999 ?_;have m:=hm;exact aa
@[reducible,instance] def XF:=gl 99 @Hc
def Ky(T:eK)(c:n8 T){H:dV}{a0:Int}{a:fL}{b:Bool}(hm:p5 a0=some (a,b)):eG prog T 236 [sI a0] H (AV.tuple [fL.av a,sB b]) H:=by
 rw[p5] at hm;have e:=c;refine wi aou func236 [] [] 3 ?_;simp[e];refine wA 999 999 [] [2] (λf=>f.1 0=sI a0/\f.1 9=sB (fq (pH a0 1) true (qz a0 21))) [] (λ_ g=>?_) ?_
 .exact aa
 intro _ e m;have m:=hm;exact aa
@[reducible,instance] def abz:=gl 236 @Ky
def CN(T:eK){H:dV}{a0:ec}{a1 a2:Int}{i:Bool}{a:ec}{c:Nat}(b:H[c]?=some [sI a0.aor,sB a0.jh])(hm:hX a0 a1 a2=some (i,a)):eG prog T 238 [AV.fg c 0,sI a1,sI a2] H (sB i) (gk H c [sI a.aor,sB a.jh]):=by
 rw[hX] at hm;have d:=eZ b;refine fv.Kw b ?_;have e:=d;refine wi aou func238 [] [] 4 ?_;simp[e];refine wjs 999 999 (λf h=>h=gk H c [sI (fq a0.jh (ec.mk (eH .i64 a0.aor a1) true) (ec.mk (eH .i64 a0.aor a1) (eo a2 4))).aor,sB (fq a0.jh (ec.mk (eH .i64 a0.aor a1) true) (ec.mk (eH .i64 a0.aor a1) (eo a2 4))).jh]/\f.1 2=sI a2) ?_ (λ_ g=>?_)
 .rintro _ _ E;have e:=Aj e E;cases hm;simp[e]
 exact aa
@[reducible,instance] def Ub:=gl 238 @CN
def Cc(T:eK)(w:n8 T):∀(n:Nat),(∀{H:dV} {a0:ec} {a1:Pf} {r:Bool} {c:ec} {a:Nat} (k:H[a]?=some [sI a0.aor,sB a0.jh]) (hm:iS n a0 a1=some (r,c)),eG prog T 172 [AV.fg a 0,Pf.av a1] H (sB r) (gk H a [sI c.aor,sB c.jh])):=by
  intro n
  induction n with
  |zero=>
    skip
    all_goals(intro _ _;intros;rename_i hm;cases hm)
  |succ n ih=>
 intro H a0 a1 r c a k hm;rw[iS] at hm;have t:=eZ k;refine fv.Kw k ?_;have e:=Aj w t;refine wi aou func172 [] [] 5 ?_;have m:=hm;refine sw [0,2,0] ?_;intro b u e m;refine wA 999 0 [] [3,5] (λf=>f.1 0=AV.fg a 0/\f.1 61=sB (fq u (fq (pH a1.aos 0) true (fq (eR a1.aos 0) (fq b.aos (fq (eR (eE a1.ek) b.ek) true (fq (eR (eE a1.gh) b.gh) true (eR (eE a1.aoq) b.aoq))) true) (fq (eR (eE a1.ek) b.ek) true (fq (eR (eE a1.gh) b.gh) true (eR (eE a1.aoq) b.aoq))))) true)) [13] (λ_ g=>?_) ?_
 .rcases Pb u e with e|e;rotate_left
  .exact aj
  rcases Pb (pH a1.aos 0) e with e|e
  .exact aj
  rcases Pb (eR a1.aos 0) e with e|e;rotate_left
  .rcases Pb (eR (eE a1.ek) b.ek) e with e|e
   .exact aj
   rcases Pb (eR (eE a1.gh) b.gh) e with e|e
   .exact aj
   exact aj
  rcases Pb b.aos e with e|e;rotate_left
  .exact aj
  rcases Pb (eR (eE a1.ek) b.ek) e with e|e
  .exact aj
  rcases Pb (eR (eE a1.gh) b.gh) e with e|e
  .exact aj
  exact aj
 intro _ e m;apply wg 4;simp[e];refine Wj m 999 999 (λv f h=>∃s,(h=gk H a [sI s.aor,sB s.jh]/\f.1 0=AV.fg a 0/\f.1 3=AV.h9 3 (f.gen 3) 0/\f.box 3=some (Pf.av a1).cells)/\v s=some (r,c)) (λv _ g m=>?_) ?_
 .apply Iq e m<;>intro e m
  .simp[e];refine Ar m qR λ_ _ m=>?_;refine Il e m λe m=>?_;exact iJ
  simp[e];refine pX m xK λ_ m=>?_;refine Im e m λe m=>?_;exact iJ
 rintro _ _ ⟨s,E,m⟩;have e:=Aj e E;simp[e];refine XZ e m 999 (λl d f h=>h=gk H a [sI d.aor,sB d.jh]/\f.1 0=AV.fg a 0/\f.1 84=sL Tm.av a1.ek/\f.1 85=sI (eE a1.ek)/\f.1 86=sI l/\bx f 3 (Pf.av a1).cells) abq (λl _ d _ _ _ _ _ E e m z p=>?_) (λd _ _ _ E m=>?_)
 .refine sw [10,0,2,0,2] ?_;intro _ _ _ d27 e m;exact aa
 refine sw [10,11,0] ?_;intro e m;refine XZ e m 999 (λo i f h=>h=gk H a [sI i.aor,sB i.jh]/\f.1 0=AV.fg a 0/\f.1 99=sL Fm.av a1.gh/\f.1 100=sI (eE a1.gh)/\f.1 101=sI o/\bx f 3 (Pf.av a1).cells) abq (λo _ i _ _ _ _ _ E e m z p=>?_) (λi _ _ _ E m=>?_)
 .refine sw [10,0,2,0,2] ?_;intro _ _ _ d40 e m;exact aa
 refine sw [10,11,0] ?_;intro e m;refine Wr e m 999 (λq j f h=>h=gk H a [sI j.aor,sB j.jh]/\f.1 0=AV.fg a 0/\f.1 114=sL Pf.av a1.aoq/\f.1 115=sI (eE a1.aoq)/\f.1 116=sI q) abq (λj _ _ _ E m=>?_) (λq _ j _ _ _ _ _ E e m z p=>?_)
 .exact aa
 have e:=Aj e E;simp[e];refine Ar m (ih abq) λ_ d51 m=>?_;exact aa
def Dh(T:eK)(f:n8 T){H:dV}{a0:ec}{a1:Pf}{d:Bool}{a:ec}{b:Nat}(c:H[b]?=some [sI a0.aor,sB a0.jh]){n:Nat}(hm:iS n a0 a1=some (d,a)):eG prog T 172 [AV.fg b 0,Pf.av a1] H (sB d) (gk H b [sI a.aor,sB a.jh]):=(Cc T f n) c hm
@[reducible,instance] def Tf:=gl 172 @Dh
def EI(T:eK)(c:n8 T){H:dV}{a0:Pf}{a b:Int}(hm:rM a0=some (a,b)):eG prog T 135 [Pf.av a0] H (AV.tuple [sI a,sI b]) H:=by
 rw[rM] at hm;refine fv.rB (Post:=λx K=>x=AV.tuple [sI a,sI b]/\∃X,K=H++X) ?_ (λ_ _ h=>⟨_,h.2.choose_spec,by rw[h.1];simp[AV.low,AV.iy],h.1,rfl⟩);have e:=c;refine wi aou func135 [6] [] 8 ?_;have m:=hm;refine sw [0,2,0,14] ?_;intro _ d2 e m;apply wg 1;simp[e];refine wB 999 999 [4] [] (λf=>f.1 12=sB (fq d2.jh true (pw d2.aor 16384))) λ_ g=>?_;exact aa
@[reducible,instance] def UB:=gl 135 @EI
def Cy(T:eK)(b:n8 T){H:dV}{a0:Pf}{a:Int}(hm:sl a0=some a):eG prog T 100 [Pf.av a0] H (sI a) H:=by
 rw[sl] at hm;have e:=b;refine wi aou func100 [] [] 999 ?_;have m:=hm;exact aa
def Lm(T:eK)(a:n8 T){H:dV}{a0:Fm}{a1:Pf}{b:Fm}{c:Pf}{d:Int}(hm:jO a0 a1=some (b,c,d)):eG prog T 39 [Fm.av a0,Pf.av a1] H (AV.tuple [Fm.av b,Pf.av c,sI d]) H:=by
 rw[jO] at hm;have e:=a;refine wi aou func39 [] [] 4 ?_;have m:=hm;refine sw [0,1,0] ?_;intro _ e m;refine WB m 999 999 [] [2,3,4,5] (λv3 f=>f.1 7=sI v3) λh _ g m=>?_;apply Ir e m<;>intro e m
 .exact iJ
 simp[e];refine pX m (Cy T a) λ_ m=>?_;exact iJ
@[reducible,instance] def ack:=gl 39 @Lm
def DZ(T:eK)(d:n8 T){H:dV}{a0:Tm}{a:Fm}{b:Pf}{c:Int}(hm:k7 a0=some (a,b,c)):eG prog T 11 [Tm.av a0] H (AV.tuple [Fm.av a,Pf.av b,sI c]) H:=by
 rw[k7] at hm;have e:=d;refine wi aou func11 [] [] 999 ?_;have m:=hm;exact aa
@[reducible,instance] def VM:=gl 11 @DZ
def zY:C2 prog 254 jB (sL dN.av) (sL dN.av) (sL Ty.av):=by
 refine v2 func254 λT H a0 a1 r m e=>?_;rw[jB] at m;refine sw [0,4,9,0] ?_;intro a e m;refine Ad (f:=dN.av) a0 a (hI.full (D:=[])) Y5 e.2 ?_;exact au
@[reducible,instance] def Pq:=gl 254 @zY
def Af:C3 prog 255 mJ sI (sL dN.av) Tm.av sI:=by
 refine u3 5 func255 λT H a0 a1 a2 r m e=>?_;rw[mJ] at m;refine sw [0,2,0] ?_;intro _ a e m;refine WB m 999 999 [8] [] (λv4 f=>f.1 22=sB v4) λb _ g m=>?_;apply Ir e m<;>intro e m
 .exact iJ
 simp[e];refine pX m xa λ_ m=>?_;exact iJ
@[reducible,instance] def Qp:=gl 255 @Af
def yA:C2 prog 257 ja sI (sL dN.av) Tm.av:=by
 refine v2 func257 λT H a0 a1 r m e=>?_;rw[ja] at m;exact aa
@[reducible,instance] def Mx:=gl 257 @yA
def rD{n:Nat}:C2 prog 239 (fK n) sI (sL dN.av) Fm.av:=by
 refine i2 λn ih=>u2 6 func239 λT H a0 a1 r m e=>?_;rw[fK] at m;simp[e];refine C9 m 1 999 (λi f h=>∃v2,(h=H/\f.1 0=sL dN.av v2/\f.1 3=AV.h9 3 (f.gen 3) 0/\f.box 3=some (Fm.av a1).cells)/\i v2=some r) ?_ (λi _ a m=>?_)
 .rintro _ _ ⟨v2,E,m⟩;have e:=Aj e E;simp[e];refine Wr e m 999 (λj _ f h=>h=H/\f.1 0=sL dN.av v2/\f.1 28=sL Fm.av a1.aoq/\f.1 29=sI (eE a1.aoq)/\f.1 30=sI j) abq (λ_ _ _ _ E m=>?_) (λj _ _ _ _ _ _ _ E e m z p=>?_)
  .refine sw [10,11] ?_;intro e m;exact au
  have e:=Aj e E;refine sw [0,15,7] ?_;intro _ e m;exact al
 simp[e];refine C9 m 4 999 (λb f h=>(h=H/\f.1 0=sL dN.av a0/\f.1 3=AV.h9 3 (f.gen 3) 0/\f.box 3=some (Fm.av a1).cells)/\b=some r) ?_ (λb _ g m=>?_)
 .rintro _ _ ⟨E,m⟩;have e:=Aj e E;refine sw [0,1,0] ?_;intro d e m;exact a _ _ ⟨d,abq,m⟩
 simp[e];refine wj 999 0 (λf h=>h=H/\f.1 0=sL dN.av a0/\f.1 12=sI a1.aop/\f.1 13=sB (fq (eo a1.aop 4) true (eo a1.aop 5))/\bx f 3 (Fm.av a1).cells) (λ_ g=>?_) ?_
 .rcases Pb (eo a1.aop 4) e with e|e
  .exact aj
  exact aj
 rintro _ _ E;have e:=Aj e E;apply Iq e m<;>intro e m
 .apply wg 999;exact ak0
 apply wg 3;simp[e];refine wj 999 0 (λf h=>h=H/\f.1 0=sL dN.av a0/\f.1 12=sI a1.aop/\f.1 16=sB (fq (eo a1.aop 6) true (eo a1.aop 7))/\bx f 3 (Fm.av a1).cells) (λ_ g=>?_) ?_
 .rcases Pb (eo a1.aop 6) e with e|e
  .exact aj
  exact aj
 rintro _ _ E;have e:=Aj e E;apply Iq e m<;>intro e m
 .apply wg 999;exact ak0
 apply wg 2;simp[e];refine wj 999 999 (λf h=>h=H/\f.1 0=sL dN.av a0/\f.1 19=sB (fq (eo a1.aop 2) true (eo a1.aop 3))/\bx f 3 (Fm.av a1).cells) (λ_ g=>?_) ?_
 .rcases Pb (eo a1.aop 2) e with e|e
  .exact aj
  exact aj
 rintro _ _ E;have e:=Aj e E;apply Iq e m<;>intro e m
 .simp[e];exact a _ _ ⟨a0,abq,m⟩
 simp[e];refine Wr e m 999 (λc _ f h=>h=H/\f.1 0=sL dN.av a0/\f.1 42=sL Tm.av a1.ek/\f.1 43=sI (eE a1.ek)/\f.1 44=sI c) abq (λ_ _ _ _ E m=>?_) (λc _ _ _ _ _ _ _ E e m z p=>?_)
 .exact aa
 exact aa
@[reducible,instance] def LU:=gl 239 @rD
def Hw(T:eK)(b:n8 T){H:dV}{a0:List Ty}{a1:Fm}{a:Int}(hm:ua a0 a1=some a):eG prog T 173 [sL Ty.av a0,Fm.av a1] H (sI a) H:=by
 rw[ua] at hm;have e:=b;refine wi aou func173 [] [] 999 ?_;have m:=hm;exact aa
@[reducible,instance] def XK:=gl 173 @Hw
def Gc(T:eK)(b:n8 T){H:dV}{a0:List Fm}{a1:Sq}{a:Int}(hm:ta a0 a1=some a):eG prog T 136 [sL Fm.av a0,Sq.av a1] H (sI a) H:=by
 rw[ta] at hm;have e:=b;refine wi aou func136 [] [] 999 ?_;refine Il e hm λe m=>?_;simp[e];refine Wa e m 999 17 [15,16] [3] nI [11,0,1,7,7,0] ?_;intro _ _ _ e m;exact Wb e m 999 40 [38,39] [3] nI
def IE(T:eK){H:dV}{u:Unit}(hm:zp=some u):eG prog T 137 [] H (AV.n_ (List.length H)) (H++[[N2]]):=by
 refine wi aou func137 [] [] 999 ?_;simp;refine uO.xZ lC vu abx abx ?_;simp;refine uO.xZ lC vu abx abx ?_;simp;refine uO.xZ lC vu abx abx ?_;simp;refine uO.xZ lC vu abx abx ?_;simp;refine uO.xZ lC vu abx abx ?_;simp;refine uO.xZ lC vu abx abx ?_;simp;refine uO.xZ lC vu abx abx ?_;simp;refine uO.xZ lC vu abx abx ?_;simp;refine uO.xZ lC vu abx abx ?_;simp;refine uO.xZ lC vu abx abx ?_;simp;refine uO.xZ lC vu abx abx ?_;simp;refine uO.xZ lC vu abx abx ?_;simp;refine uO.xZ lC vu abx abx ?_;simp;refine uO.xZ lC vu abx abx ?_;simp;refine uO.xZ lC vu abx abx ?_;simp;refine uO.xZ lC vu abx abx ?_;simp;refine uO.xZ lC vu abx abx ?_;simp;refine uO.xZ lC vu abx abx ?_;simp;refine uO.xZ lC vu abx abx ?_;simp;refine uO.xZ lC vu abx abx ?_;simp;simp[N2,St,TA]
def B6:C2 prog 189 lR dZ.av dZ.av Fm.av:=by
 refine v2 func189 λT H a0 a1 r m e=>?_;rw[lR] at m;refine sw [9,0] ?_;intro e m;refine Ad (f:=et.av) a0.known [(et.mk a1 a0.iA.vars)] (hI.full (D:=[])) ajG e.2 ?_;exact au
@[reducible,instance] def Sb:=gl 189 @B6
def Km:C1 prog 139 u9 dZ.av Sq.av:=by
 refine v1 func139 λT H a0 r m e=>?_;rw[u9] at m;refine sw [0,1,0] ?_;intro _ e m;refine Wr e m 999 (λj b f h=>∃a,h=H/\f.1 16=sL Fm.av a0.aow/\f.1 17=sI (eE a0.aow)/\f.1 18=sI j/\bx f 2 [sI 0,sI 0,nL,nL]/\bx f 3 [sI b.1,sI b.2.1,sL dN.av b.2.2.1,sT a et.av b.2.2.2]) ⟨.full,abq⟩ (λb _ _ _ E m=>?_) (λj _ b _ _ _ _ _ E e m z p=>?_)
 .have⟨v12,c,d,i⟩:=b;have⟨a,E⟩:=E;have e:=Aj e E;dsimp only[ew,zc]at m;exact au
 have⟨v12,c,d,i⟩:=b;have⟨a,E⟩:=E;have e:=Aj e E;dsimp only[zc]at m;refine sw [0,1,0] ?_;intro _ e m;cases m;exact p _ _ _ ⟨.gK,abq⟩ z
def Jq:C1 prog 262 l_ Tm.av sI:=by
 refine v1 func262 λT H a0 r m e=>?_;rw[l_] at m;exact au
@[reducible,instance] def ahG:=gl 262 @Jq
def L8(T:eK){H:dV}{a0 a1 a b:Int}{k:Tm}{q0 q1:Nat}(c:H[q0]?=some [sI a])(d:H[q1]?=some [sI b])(hm:uG a0 a1 a b=some k):eG prog T 318 [sI a0,sI a1,AV.fg q0 0,AV.fg q1 0] H (Tm.av k) H:=by
 rw[uG] at hm;have i:=eZ c;have j:=eZ d;have e:=Aj (Aj (Aj i c) j) d;refine wi aou func318 [] [] 2 ?_;simp[e];refine wjs 999 999 (λf h=>h=H/\f.1 0=sI (fq (qz (fD .i64 a0 a1) a) (eH .i64 a0 b) a0)/\f.1 6=AV.h9 6 (f.gen 6) 0/\f.box 6=some [sI 0,sI 0,sI 0,nL,nL]) ?_ (λ_ g=>?_)
 .rintro _ _ E;have m:=hm;exact aa
 rcases Pb (qz (fD .i64 a0 a1) a) e with e|e
 .exact aj
 exact aj
def DG(T:eK):∀(n:Nat),(∀{S:Type} {st:S->dV} {k:Nat} {a0:Tm} {a1:Int} {l:(S->Int->Int->Option (Tm×S))} {vh:S} {u:Tm} {zX:S} {q0:Nat} {q1:Nat} {o:Nat} {q:List AV} (hF:DC st k) (d:∀s,(st s)[q0]?=some [AV.func (.func o) [] q]) (b:uc T o q st l) (i:∀s,(st s)[q1]?=some [AV.func (.func 334) [] [AV.fg q0 0,AV.fg q1 0]]) (hm:hD n a0 a1 l vh=some (u,zX)),eG prog T 334 [Tm.av a0,sI a1,AV.fg q0 0,AV.fg q1 0] (st vh) (Tm.av u) (st zX)):=by
  intro n
  induction n with
  |zero=>
    skip
    all_goals(intro _ _;intros;rename_i hm;cases hm)
  |succ n ih=>
 intro S st k a0 a1 l vh u zX q0 q1 o q hF d b i hm;rw[hD] at hm;have v:=λs=>eZ (d s);have w:=λs=>eZ (i s);have e:=Aj (Aj (Aj (Aj hF.len v) d) w) i;refine wi aou func334 [] [(9,false,[true,true,false,true,true,true,true,true,true,true])] 5 ?_;simp[e];apply Iq e hm<;>intro e m
 .apply wg 999;have⟨D,F,e,m⟩:=Bo2 e m;simp[e];refine kN.GP abE (uc.at0 b e.2) ?_;exact au
 refine sg 4 [0,4,0] ?_;intro A e m;refine wA 999 999 [] [4,6,7] (λf=>f.1 1=sI (fq (eo a0.aop 2) (eH .i64 a1 1) a1)/\f.1 3=AV.fg q1 0) [0] (λ_ g=>?_) ?_
 .rcases Pb (eo a0.aop 2) e with e|e
  .exact aj
  exact aj
 intro _ e m;refine Wr e m 999 (λB r f h=>∃a,(h=st r.2/\f.1 1=sI (fq (eo a0.aop 2) (eH .i64 a1 1) a1)/\f.1 3=AV.fg q1 0/\f.1 32=sL Tm.av a0.aoq/\f.1 33=sI (eE a0.aoq)/\f.1 34=sI B/\bx f 6 [sI 0,sI 0,sI 0,nL,nL]/\bx f 7 [sI a0.aop,sI a0.aos,sI A.aop,sL Ty.av A.aoq,sT a Tm.av r.1])/\Ow f [45] a r.1) (by exact⟨.full,abq,hI.full⟩) (λr j _ _ E m=>?_) (λB _ r j _ _ _ _ E e m z p=>?_)
 .have⟨t,x⟩:=r;have⟨a,E,c⟩:=E;have e:=Aj e E;dsimp only[ew,iB]at m;exact au
 have⟨t,x⟩:=r;have⟨a,E,c⟩:=E;have e:=Aj e E;dsimp only[iB]at m;have⟨y,C,e,m⟩:=Bo2 e m;simp[e];refine gU.GP abE (ih hF d b i e.2) abm ?_;refine sw [9,0] ?_;intro e m;refine Ad (f:=Tm.av) t [y] c x' e.2 ?_;simp[e];cases m;exact p _ _ _ ⟨(.loc 45 (j.fy 45+1)),abq,(On 45)⟩ z
def FN(T:eK){S:Type}{st:S->dV}{k:Nat}{a0:Tm}{a1:Int}{a:(S->Int->Int->Option (Tm×S))}{vh:S}{i:Tm}{zX:S}{q0 q1 b:Nat}{c:List AV}(hF:DC st k)(f:∀s,(st s)[q0]?=some [AV.func (.func b) [] c])(d:uc T b c st a)(h:∀s,(st s)[q1]?=some [AV.func (.func 334) [] [AV.fg q0 0,AV.fg q1 0]]){n:Nat}(hm:hD n a0 a1 a vh=some (i,zX)):eG prog T 334 [Tm.av a0,sI a1,AV.fg q0 0,AV.fg q1 0] (st vh) (Tm.av i) (st zX):=(DG T n) hF f d h hm
def AO(T:eK){S:Type}{st:S->dV}{k:Nat}{a0:Tm}{a1:(S->Int->Int->Option (Tm×S))}{vh:S}{b:Tm}{zX:S}{g1:Nat}{a:List AV}(hF:DC st k)(c:uc T g1 a st a1)(hm:oZ a0 a1 vh=some (b,zX)):eG prog T 317 [Tm.av a0,AV.func (.func g1) [] a] (st vh) (Tm.av b) (st zX):=by
 rw[oZ] at hm;refine fv.afH hF (Post:=λx K=>x=Tm.av b/\∃X,K=(st zX)++X) ?_ (λ_ _ h=>⟨_,h.2.choose,h.2.choose_spec,by rw[h.1];simp[AV.low,AV.iy],h.1,rfl⟩);have e:=hF.len;refine wi aou func317 [3,5] [] 999 ?_;have⟨d,s2,e,m⟩:=Bo2 e hm;simp[e];refine kN.GP abE (FN T (st:=λs=>st s++[[AV.func (.func g1) [] a],[AV.func (.func 334) [] [AV.fg k 0,AV.fg (k+1) 0]]]) (DC.ext hF _ (n:=k+2) abm) (λ_=>abq) (uc.ext c) (λ_=>abq) e.2) ?_;exact au
def P'(T:eK){H:dV}{a0:Tm}{a1 a2:Int}{a:Tm}(hm:r8 a0 a1 a2=some a):eG prog T 296 [Tm.av a0,sI a1,sI a2] H (Tm.av a) H:=by
 rw[r8] at hm;refine fv.rB (Post:=λx K=>x=Tm.av a/\∃X,K=H++X) ?_ (λ_ _ h=>⟨_,h.2.choose_spec,by rw[h.1];simp[AV.low,AV.iy],h.1,rfl⟩);have e:=trivial;refine wi aou func296 [4,5] [] 999 ?_;simp[e];refine Ar hm (AO T (st:=λ_:Unit=>H++[[sI a1],[sI a2]]) (DC.const _) (λX _ _ _ _ _ h=>by obtain⟨b,rfl⟩:=vH h;exact L8 T (q0:=(List.length H)) (q1:=(List.length H+1)) abq abq b)) λ_ _ m=>?_;exact au
@[reducible,instance] def ae4:=gl 296 @P'
def AH(T:eK){H:dV}{a0:Tm}{a1 a b:Int}{i:Tm}{q0 q1:Nat}(c:H[q0]?=some [sI a])(d:H[q1]?=some [sI b])(hm:mH a0 a1 a b=some i):eG prog T 295 [Tm.av a0,sI a1,AV.fg q0 0,AV.fg q1 0] H (Tm.av i) H:=by
 rw[mH] at hm;have f:=eZ c;have h:=eZ d;have e:=Aj (Aj (Aj f c) h) d;refine wi aou func295 [] [] 999 ?_;have m:=hm;exact aa
def xp:C1 prog 264 m7 sB sI:=by
 refine u1 2 func264 λT H a0 r m e=>?_;rw[m7] at m;simp[e];refine wB 999 999 [] [] (λf=>f.1 2=sB (fq (qz a0 4) (Tq a0 7) false)) λ_ g=>?_;exact aa
@[reducible,instance] def Vt:=gl 264 @xp
def y7(T:eK):∀(n:Nat),(∀{S:Type} {st:S->dV} {k:Nat} {a0:Fm} {a1:Int} {a2:(S->Tm->Int->Option (Tm×S))} {vh:S} {D:Fm} {zX:S} {g2:Nat} {i:List AV} (hF:DC st k) (t:Eo T g2 i st a2) (hm:fH n a0 a1 a2 vh=some (D,zX)),eG prog T 190 [Fm.av a0,sI a1,AV.func (.func g2) [] i] (st vh) (Fm.av D) (st zX)):=by
  intro n
  induction n with
  |zero=>
    skip
    all_goals(intro _ _;intros;rename_i hm;cases hm)
  |succ n ih=>
 intro S st k a0 a1 a2 vh D zX g2 i hF t hm;rw[fH] at hm;have e:=hF.len;refine wi aou func190 [] [] 999 ?_;have m:=hm;refine sw [0,4,0] ?_;intro w e m;refine XZ e m 0 (λI u f h=>∃b,(h=st u.2/\f.1 1=sI a1/\f.1 2=AV.func (.func g2) [] i/\f.1 19=sL Tm.av a0.ek/\f.1 20=sI (eE a0.ek)/\f.1 21=sI I/\bx f 3 (Fm.av a0).cells/\bx f 6 [sI 0,sI 0,nL,nL,nL]/\bx f 7 [sI a0.aop,sI w.aop,sL Ty.av w.aoq,sT b Tm.av u.1,nL])/\Ow f [32] b u.1) (by exact⟨.full,abq,hI.full⟩) (λI _ u x _ _ _ _ E e m z p=>?_) (λu x _ _ E m=>?_)
 .have⟨v12,y⟩:=u;have⟨b,E,o⟩:=E;have e:=Aj e E;dsimp only[iB]at m;apply wg 999;have⟨F,J,e,m⟩:=Bo2 e m;simp[e];refine gU.GP abE (Eo.at0 t e.2) abm ?_;refine sw [9,0] ?_;intro e m;refine Ad (f:=Tm.av) v12 [F] o x' e.2 ?_;simp[e];cases m;exact p _ _ _ ⟨(.loc 32 (x.fy 32+1)),abq,(On 32)⟩ z
 have⟨v12,y⟩:=u;have⟨b,E,o⟩:=E;have e:=Aj e E;apply wg 5;dsimp only[ew,iB]at m;simp[e];refine Wj m 999 999 (λA f h=>∃r c,(h=st y/\f.1 1=sI r/\f.1 2=AV.func (.func g2) [] i/\bx f 3 (Fm.av a0).cells/\bx f 6 [sI 0,sI 0,nL,nL,nL]/\bx f 7 [sI a0.aop,sI w.aop,sL Ty.av w.aoq,sT c Tm.av v12,nL])/\Ow f [32] c v12/\A r=some (D,zX)) (λA _ g m=>?_) ?_
 .refine sw [0,1] ?_;intro _ e m;apply Ir e m<;>intro e m
  .simp[e];exact g _ _ ⟨a1,b,abq,o,m⟩
  simp[e];exact g _ _ ⟨(eH .i64 a1 1),b,abq,o,m⟩
 rintro _ _ ⟨r,c,E,v,m⟩;have e:=Aj e E;simp[e];refine Wr e m 999 (λB j f h=>∃a d,(h=st j.2/\f.1 1=sI r/\f.1 2=AV.func (.func g2) [] i/\f.1 41=sL Fm.av a0.aoq/\f.1 42=sI (eE a0.aoq)/\f.1 43=sI B/\bx f 6 [sI 0,sI 0,nL,nL,nL]/\bx f 7 [sI a0.aop,sI w.aop,sL Ty.av w.aoq,sT a Tm.av v12,sT d Fm.av j.1])/\Ow f [32] a v12/\Ow f [54] d j.1) (by exact⟨c,.full,abq,v,hI.full⟩) (λj s _ _ E m=>?_) (λB _ j s _ _ _ _ E e m z p=>?_)
 .have⟨C,G⟩:=j;have⟨a,d,E,q,l⟩:=E;have e:=Aj e E;dsimp only[ew,iB]at m;exact au
 have⟨C,G⟩:=j;have⟨a,d,E,q,l⟩:=E;have e:=Aj e E;dsimp only[iB]at m;simp[e];refine sh m (ih hF t) λH _ m=>?_;refine sw [9,0] ?_;intro e m;refine Ad (f:=Fm.av) C [H] l La e.2 ?_;simp[e];cases m;exact p _ _ _ ⟨a,(.loc 54 (s.fy 54+1)),abq,(hI.other q l aal aal),(On 54)⟩ z
def mT(T:eK){S:Type}{st:S->dV}{k:Nat}{a0:Fm}{a1:Int}{a2:(S->Tm->Int->Option (Tm×S))}{vh:S}{c:Fm}{zX:S}{g2:Nat}{a:List AV}(hF:DC st k)(b:Eo T g2 a st a2){n:Nat}(hm:fH n a0 a1 a2 vh=some (c,zX)):eG prog T 190 [Fm.av a0,sI a1,AV.func (.func g2) [] a] (st vh) (Fm.av c) (st zX):=(y7 T n) hF b hm
def C6(T:eK){H:dV}{a0:Fm}{a1 a2:Int}{a:Fm}(hm:lk a0 a1 a2=some a):eG prog T 256 [Fm.av a0,sI a1,sI a2] H (Fm.av a) H:=by
 rw[lk] at hm;refine fv.rB (Post:=λx K=>x=Fm.av a/\∃X,K=H++X) ?_ (λ_ _ h=>⟨_,h.2.choose_spec,by rw[h.1];simp[AV.low,AV.iy],h.1,rfl⟩);have e:=trivial;refine wi aou func256 [4,5] [] 999 ?_;simp[e];refine Ar hm (mT T (st:=λ_:Unit=>H++[[sI a1],[sI a2]]) (DC.const _) (λX _ _ _ _ _ h=>by obtain⟨b,rfl⟩:=vH h;exact AH T (q0:=(List.length H)) (q1:=(List.length H+1)) abq abq b)) λ_ _ m=>?_;exact au
@[reducible,instance] def T9:=gl 256 @C6
def CT:C2 prog 240 ow (t2 Fm.av sB) dZ.av sI:=by
 refine v2 func240 λT H a0 a1 r m e=>?_;rw[ow] at m;exact aa
@[reducible,instance] def T':=gl 240 @CT
def AI(T:eK){H:dV}{a0:List Fm}{a1:Pf}{a2:dZ}{b:dQ}{c:Int}{d:Nat}(a:KC H d a0)(hm:jn a0 a1 a2=some (b,c)):eG prog T 174 [AV.fg d 0,Pf.av a1,dZ.av a2] H (AV.tuple [dQ.av b,sI c]) H:=by
 rw[jn] at hm;have e:=a;refine wi aou func174 [] [] 999 ?_;have m:=hm;exact aa
def Ay:C3 prog 243 kg sI eX.av sI sI:=by
 refine u3 3 func243 λT H a0 a1 a2 r m e=>?_;rw[kg] at m;simp[e];refine wB 999 999 [] [] (λf=>f.1 18=sB (fq (pw (eH .i64 a0.vars a1) 16) true (pw (eH .i64 a0.aow a2) 16))) λ_ g=>?_;exact aa
@[reducible,instance] def QL:=gl 243 @Ay
def AW:C2 prog 244 ke dZ.av dZ.av (sL Ty.av):=by
 refine v2 func244 λT H a0 a1 r m e=>?_;rw[ke] at m;exact aa
@[reducible,instance] def RJ:=gl 244 @AW
def EY:C3 prog 245 pF Fm.av sI Ty.av Fm.av:=by
 refine v3 func245 λT H a0 a1 a2 r m e=>?_;rw[pF] at m;have e:=Aj e (show AV.agg [sI a0,sI a1.aop,sL Ty.av a1.aoq,AV.slice .gK [],AV.slice .gK [Fm.av a2]]=Fm.av (Fm.mk a0 a1 [] [a2]) by rw[Fm.fi];rfl);exact au
@[reducible,instance] def UQ:=gl 245 @EY
def zg:C2 prog 246 iC (λn=>AV.sc (Value.int .u32 n)) (λn=>AV.sc (Value.int .u32 n)) sI:=by
 intro T H a0 a1 r hm;rw[iC] at hm;have e:=trivial;refine wi aou func246 [] [] 999 ?_;have⟨e,m⟩:=Ck e hm;exact au
@[reducible,instance] def Oz:=gl 246 @zg
def Hx(T:eK){H:dV}{a0 a1 a b:Int}{q0:Nat}(c:H[q0]?=some [AV.sc (.int .u32 a)])(hm:n5 a0 a1 a=some b):eG prog T 290 [sI a0,sI a1,AV.fg q0 0] H (AV.tuple []) (gk H q0 [AV.sc (.int .u32 b)]):=by
 rw[n5] at hm;have d:=eZ c;refine fv.Kw c ?_;have e:=d;refine wi aou func290 [] [(1,false,[false,true,true,true,true,true,false])] 999 ?_;have m:=hm;refine sw [12,9] ?_;intro e m;exact au
def Jn(T:eK):∀(n:Nat),(∀{S:Type} {st:S->dV} {k:Nat} {a0:Tm} {a1:Int} {d:(S->Int->Int->Option (S))} {vh:S} {zX:S} {q0:Nat} {q1:Nat} {i:Nat} {j:List AV} (hF:DC st k) (b:∀s,(st s)[q0]?=some [AV.func (.func i) [] j]) (a:uj T i j st d) (c:∀s,(st s)[q1]?=some [AV.func (.func 311) [] [AV.fg q0 0,AV.fg q1 0]]) (hm:jN n a0 a1 d vh=some zX),eG prog T 311 [Tm.av a0,sI a1,AV.fg q0 0,AV.fg q1 0] (st vh) (AV.tuple []) (st zX)):=by
  intro n
  induction n with
  |zero=>
    skip
    all_goals(intro _ _;intros;rename_i hm;cases hm)
  |succ n ih=>
 intro S st k a0 a1 d vh zX q0 q1 i j hF b a c hm;rw[jN] at hm;have q:=λs=>eZ (b s);have r:=λs=>eZ (c s);have e:=Aj (Aj (Aj (Aj hF.len q) b) r) c;refine wi aou func311 [] [] 2 ?_;simp[e];refine Wj hm 999 0 (λt f h=>∃v2,(h=st v2/\f.1 1=sI a1/\f.1 3=AV.fg q1 0/\f.1 4=AV.h9 4 (f.gen 4) 0/\f.box 4=some (Tm.av a0).cells)/\t v2=some zX) (λt v g m=>?_) ?_
 .apply Ir e m<;>intro e m
  .exact iJ
  refine sw [8,0] ?_;intro w e m;refine kN.GP abE (uj.at0 a e.2) ?_;exact iJ
 rintro _ _ ⟨v2,E,m⟩;have e:=Aj e E;refine wj 999 999 (λf h=>h=st v2/\f.1 1=sI (fq (eo a0.aop 2) (eH .i64 a1 1) a1)/\f.1 3=AV.fg q1 0/\f.1 4=AV.h9 4 (f.gen 4) 0/\f.box 4=some (Tm.av a0).cells) (λ_ g=>?_) ?_
 .rcases Pb (eo a0.aop 2) e with e|e
  .exact aj
  exact aj
 rintro _ _ E;have e:=Aj e E;simp[e];refine Wr e m 999 (λo l f h=>h=st l/\f.1 1=sI (fq (eo a0.aop 2) (eH .i64 a1 1) a1)/\f.1 3=AV.fg q1 0/\f.1 22=sL Tm.av a0.aoq/\f.1 23=sI (eE a0.aoq)/\f.1 24=sI o) abq (λl _ _ _ E m=>?_) (λo _ l _ _ _ _ _ E e m z p=>?_)
 .exact aa
 refine sw [10,8,0] ?_;intro u e m;refine kN.GP abE (ih hF b a c e.2) ?_;exact al
def KU(T:eK){S:Type}{st:S->dV}{k:Nat}{a0:Tm}{a1:Int}{a:(S->Int->Int->Option (S))}{vh zX:S}{q0 q1 b:Nat}{c:List AV}(hF:DC st k)(f:∀s,(st s)[q0]?=some [AV.func (.func b) [] c])(d:uj T b c st a)(h:∀s,(st s)[q1]?=some [AV.func (.func 311) [] [AV.fg q0 0,AV.fg q1 0]]){n:Nat}(hm:jN n a0 a1 a vh=some zX):eG prog T 311 [Tm.av a0,sI a1,AV.fg q0 0,AV.fg q1 0] (st vh) (AV.tuple []) (st zX):=(Jn T n) hF f d h hm
def A0(T:eK){S:Type}{st:S->dV}{k:Nat}{a0:Tm}{a1:(S->Int->Int->Option (S))}{vh zX:S}{g1:Nat}{a:List AV}(hF:DC st k)(b:uj T g1 a st a1)(hm:sq a0 a1 vh=some zX):eG prog T 289 [Tm.av a0,AV.func (.func g1) [] a] (st vh) (AV.tuple []) (st zX):=by
 rw[sq] at hm;refine fv.afH hF (Post:=λx K=>x=AV.tuple []/\∃X,K=(st zX)++X) ?_ (λ_ _ h=>⟨_,h.2.choose,h.2.choose_spec,by rw[h.1];simp[AV.low,AV.iy],h.1,rfl⟩);have e:=hF.len;refine wi aou func289 [3,4] [] 999 ?_;have⟨s1,e,m⟩:=Kv e hm;simp[e];refine kN.GP abE (KU T (st:=λs=>st s++[[AV.func (.func g1) [] a],[AV.func (.func 311) [] [AV.fg k 0,AV.fg (k+1) 0]]]) (DC.ext hF _ (n:=k+2) abm) (λ_=>abq) (uj.ext b) (λ_=>abq) e.2) ?_;exact au
def Cq(T:eK){H:dV}{a0:Tm}{a:Int}(hm:oF a0=some a):eG prog T 247 [Tm.av a0] H (AV.sc (.int .u32 a)) H:=by
 rw[oF] at hm;refine fv.rB (Post:=λx K=>x=AV.sc (.int .u32 a)/\∃X,K=H++X) ?_ (λ_ _ h=>⟨_,h.2.choose_spec,by rw[h.1];simp[AV.low,AV.iy],h.1,rfl⟩);have e:=trivial;refine wi aou func247 [3] [] 999 ?_;simp[e];refine pX hm (A0 T (st:=λs:Int=>H++[[AV.sc (.int .u32 s)]]) (DC.Ym H (λs:Int=>[[AV.sc (.int .u32 s)]]) 1 (λ_=>rfl) (by simp[AV.low,AV.iy])) (λX s _ _ b h=>by have:=Hx T (H:=H++[[AV.sc (.int .u32 s)]]++X) (q0:=(List.length H)) abq h;simpa using this)) λ_ m=>?_;exact au
@[reducible,instance] def abV:=gl 247 @Cq
def ra:C2 prog 248 jF sB dN.av Ty.av:=by
 refine v2 func248 λT H a0 a1 r m e=>?_;rw[jF] at m;exact aa
@[reducible,instance] def Sc:=gl 248 @ra
def JE(T:eK){H:dV}{a0 a1 a b c:Int}{q0 q1:Nat}(d:H[q0]?=some [sI a])(f:H[q1]?=some [sI b])(h:q0≠q1)(hm:oQ a0 a1 a b=some c):eG prog T 332 [sI a0,sI a1,AV.fg q0 0,AV.fg q1 0] H (AV.tuple []) (gk H q1 [sI c]):=by
 rw[oQ] at hm;have i:=eZ d;have j:=eZ f;refine fv.Kw f ?_;have e:=Aj (Aj (Aj (Aj i d) j) h) h.symm;refine wi aou func332 [] [] 999 ?_;have m:=hm;exact aa
def ER(T:eK){H:dV}{a0:Tm}{a1 a:Int}(hm:tT a0 a1=some a):eG prog T 314 [Tm.av a0,sI a1] H (sI a) H:=by
 rw[tT] at hm;refine fv.rB (Post:=λx K=>x=sI a/\∃X,K=H++X) ?_ (λ_ _ h=>⟨_,h.2.choose_spec,by rw[h.1];simp[AV.low,AV.iy],h.1,rfl⟩);have e:=trivial;refine wi aou func314 [3,5] [] 999 ?_;simp[e];refine pX hm (A0 T (st:=λs:Int=>H++[[sI a1],[sI s]]) (DC.Ym H (λs:Int=>[[sI a1],[sI s]]) 2 (λ_=>rfl) (by simp[AV.low,AV.iy])) (λX s _ _ b h=>by have:=JE T (H:=H++[[sI a1],[sI s]]++X) (q0:=(List.length H)) (q1:=(List.length H+1)) abq abq abq h;simpa using this)) λ_ m=>?_;exact au
@[reducible,instance] def acw:=gl 314 @ER
def zS(T:eK){H:dV}{a0:Tm}{a1 a b c:Int}{q0 q1:Nat}(d:H[q0]?=some [sI a])(f:H[q1]?=some [sI b])(h:q0≠q1)(hm:jC a0 a1 a b=some c):eG prog T 313 [Tm.av a0,sI a1,AV.fg q0 0,AV.fg q1 0] H (AV.tuple []) (gk H q0 [sI c]):=by
 rw[jC] at hm;have i:=eZ d;have j:=eZ f;refine fv.Kw d ?_;have e:=Aj (Aj (Aj (Aj i j) f) h) h.symm;refine wi aou func313 [] [(1,true,[true,true,true,true,true,true,true,false])] 999 ?_;have m:=hm;exact aa
def FK(T:eK):∀(n:Nat),(∀{S:Type} {st:S->dV} {k:Nat} {a0:Fm} {a1:Int} {a2:(S->Tm->Int->Option (S))} {vh:S} {zX:S} {g2:Nat} {a:List AV} (hF:DC st k) (b:D1 T g2 a st a2) (hm:mw n a0 a1 a2 vh=some zX),eG prog T 312 [Fm.av a0,sI a1,AV.func (.func g2) [] a] (st vh) (AV.tuple []) (st zX)):=by
  intro n
  induction n with
  |zero=>
    skip
    all_goals(intro _ _;intros;rename_i hm;cases hm)
  |succ n ih=>
 intro S st k a0 a1 a2 vh zX g2 a hF b hm;rw[mw] at hm;have e:=hF.len;refine wi aou func312 [] [] 999 ?_;simp[e];refine XZ e hm 0 (λj s2 f h=>h=st s2/\f.1 1=sI a1/\f.1 2=AV.func (.func g2) [] a/\f.1 11=sL Tm.av a0.ek/\f.1 12=sI (eE a0.ek)/\f.1 13=sI j/\bx f 3 (Fm.av a0).cells) abq (λj _ s2 _ _ _ _ _ E e m z p=>?_) (λs2 _ _ _ E m=>?_)
 .have e:=Aj e E;refine sg 999 [8,0] ?_;intro l e m;refine kN.GP abE (D1.at0 b e.2) ?_;exact al
 have e:=Aj e E;refine sg 5 [11,0] ?_;intro e m;refine WA m 999 999 [] [] (λc f=>f.1 1=sI c/\f.1 2=AV.func (.func g2) [] a/\f.1 3=AV.h9 3 (f.gen 3) 0/\f.box 3=some (Fm.av a0).cells) [0] (λo _ g m=>?_) ?_
 .simp[e];refine pX m xp λ_ m=>?_;apply Ir e m<;>intro e m
  .exact iJ
  exact iJ
 intro _ c e m;refine Wr e m 999 (λi d f h=>h=st d/\f.1 1=sI c/\f.1 2=AV.func (.func g2) [] a/\f.1 28=sL Fm.av a0.aoq/\f.1 29=sI (eE a0.aoq)/\f.1 30=sI i) abq (λd _ _ _ E m=>?_) (λi _ d _ _ _ _ _ E e m z p=>?_)
 .exact aa
 have e:=Aj e E;simp[e];refine pX m (ih hF b) λ_ m=>?_;exact al
def Hk(T:eK){S:Type}{st:S->dV}{k:Nat}{a0:Fm}{a1:Int}{a2:(S->Tm->Int->Option (S))}{vh zX:S}{g2:Nat}{a:List AV}(hF:DC st k)(b:D1 T g2 a st a2){n:Nat}(hm:mw n a0 a1 a2 vh=some zX):eG prog T 312 [Fm.av a0,sI a1,AV.func (.func g2) [] a] (st vh) (AV.tuple []) (st zX):=(FK T n) hF b hm
def rb(T:eK){H:dV}{a0:Fm}{a1 a:Int}(hm:kR a0 a1=some a):eG prog T 291 [Fm.av a0,sI a1] H (sI a) H:=by
 rw[kR] at hm;refine fv.rB (Post:=λx K=>x=sI a/\∃X,K=H++X) ?_ (λ_ _ h=>⟨_,h.2.choose_spec,by rw[h.1];simp[AV.low,AV.iy],h.1,rfl⟩);have e:=trivial;refine wi aou func291 [3,5] [] 999 ?_;simp[e];refine pX hm (Hk T (st:=λs:Int=>H++[[sI a1],[sI s]]) (DC.Ym H (λs:Int=>[[sI a1],[sI s]]) 2 (λ_=>rfl) (by simp[AV.low,AV.iy])) (λX s _ _ b h=>by have:=zS T (H:=H++[[sI a1],[sI s]]++X) (q0:=(List.length H+1)) (q1:=(List.length H)) abq abq abq h;simpa using this)) λ_ m=>?_;exact au
@[reducible,instance] def Sh:=gl 291 @rb
def OC(T:eK){H:dV}{a0 a1 b:Int}{a i:Tm}{q0 q1:Nat}(c:H[q0]?=some [sI b])(d:H[q1]?=some [sI a.aop,sI a.aos,sI a.dM.aop,sL Ty.av a.dM.aoq,sL Tm.av a.aoq])(hm:o7 a0 a1 b a=some i):eG prog T 333 [sI a0,sI a1,AV.fg q0 0,AV.fg q1 0] H (Tm.av i) H:=by
 rw[o7] at hm;have f:=eZ c;have h:=eZ d;have e:=Aj (Aj (Aj f c) h) d;refine wi aou func333 [] [] 999 ?_;have m:=hm;exact aa
def SD(T:eK){H:dV}{a0:Tm}{a1:Int}{a2 a:Tm}(hm:Ap a0 a1 a2=some a):eG prog T 316 [Tm.av a0,sI a1,Tm.av a2] H (Tm.av a) H:=by
 rw[Ap] at hm;refine fv.rB (Post:=λx K=>x=Tm.av a/\∃X,K=H++X) ?_ (λ_ _ h=>⟨_,h.2.choose_spec,by rw[h.1];simp[AV.low,AV.iy],h.1,rfl⟩);have e:=trivial;refine wi aou func316 [4,5] [] 999 ?_;simp[e];refine Ar hm (AO T (st:=λ_:Unit=>H++[[sI a1],[sI a2.aop,sI a2.aos,sI a2.dM.aop,sL Ty.av a2.dM.aoq,sL Tm.av a2.aoq]]) (DC.const _) (λX _ _ _ _ _ h=>by obtain⟨b,rfl⟩:=vH h;exact OC T (q0:=(List.length H)) (q1:=(List.length H+1)) abq abq b)) λ_ _ m=>?_;exact au
@[reducible,instance] def ahR:=gl 316 @SD
def B_(T:eK){H:dV}{a0:Tm}{a1 b:Int}{a i:Tm}{q0 q1:Nat}(c:H[q0]?=some [sI b])(d:H[q1]?=some [sI a.aop,sI a.aos,sI a.dM.aop,sL Ty.av a.dM.aoq,sL Tm.av a.aoq])(hm:jg a0 a1 b a=some i):eG prog T 315 [Tm.av a0,sI a1,AV.fg q0 0,AV.fg q1 0] H (Tm.av i) H:=by
 rw[jg] at hm;have f:=eZ c;have h:=eZ d;have e:=Aj (Aj (Aj f c) h) d;refine wi aou func315 [] [] 999 ?_;have m:=hm;exact aa
def sN(T:eK){H:dV}{a0:Fm}{a1:Int}{a2:Tm}{a:Fm}(hm:k0 a0 a1 a2=some a):eG prog T 292 [Fm.av a0,sI a1,Tm.av a2] H (Fm.av a) H:=by
 rw[k0] at hm;refine fv.rB (Post:=λx K=>x=Fm.av a/\∃X,K=H++X) ?_ (λ_ _ h=>⟨_,h.2.choose_spec,by rw[h.1];simp[AV.low,AV.iy],h.1,rfl⟩);have e:=trivial;refine wi aou func292 [4,5] [] 999 ?_;simp[e];refine Ar hm (mT T (st:=λ_:Unit=>H++[[sI a1],[sI a2.aop,sI a2.aos,sI a2.dM.aop,sL Ty.av a2.dM.aoq,sL Tm.av a2.aoq]]) (DC.const _) (λX _ _ _ _ _ h=>by obtain⟨b,rfl⟩:=vH h;exact B_ T (q0:=(List.length H)) (q1:=(List.length H+1)) abq abq b)) λ_ _ m=>?_;exact au
@[reducible,instance] def U2:=gl 292 @sN
end Go.Proofs.YtpgdkkomegalnaaGreatDoor
