/- Part of the proof of SchemeComputes: walks. -/
import Derived.Test.YtpgdkkomegalnaaGreatDoorProg
import Derived.Test.YtpgdkkomegalnaaGreatDoorChecked
import Derived.WalkKit
import Derived.Laws.Bits64b
import Derived.BigCall
import Derived.Test.YtpgdkkomegalnaaGreatDoorCM1
set_option linter.all false
namespace Go.Proofs.YtpgdkkomegalnaaGreatDoor
open Go Go.ld Go.fF Tryz
def al2:prog.follows .mixedOrders=true:=by kernel_rfl
instance:Nonempty (prog.follows .mixedOrders=true):=⟨al2⟩
end Go.Proofs.YtpgdkkomegalnaaGreatDoor
namespace Go.fF
open Go Go.ld
mutual
def Ty.av:Ty->AV
 |.mk alX alY=>.agg [sI alX,AV.slice .gK (Ty.D2 alY)]
def Ty.D2:List Ty->List AV
 |[]=>[]|x::l=>x.av::Ty.D2 l
end
def Ty.wq(l:List Ty):Ty.D2 l=l.map Ty.av:=by
 induction l with
 |nil=>rfl|cons x l ih=>simp[Ty.D2,ih]
def Ty.eU(alX:Int)(alY:List Ty):(Ty.mk alX alY).av=.agg [sI alX,sL Ty.av alY]:=by rw[Ty.av];simp only[Ty.wq]
mutual
@[simp] theorem Ty.vr(k:Nat):∀x:Ty,x.av.low k=true
 |.mk alX alY=>by rw[Ty.eU];simp[AV.low,AV.iL,Ty.ow k alY]
@[simp] theorem Ty.ow(k:Nat):∀l:List Ty,AV.iL k (l.map Ty.av)=true
 |[]=>rfl|x::l=>by simp[AV.iL,Ty.vr k x,Ty.ow k l]
end
def Ty.fP(x:Ty):x.av=.agg [sI x.alX,sL Ty.av x.alY]:=by cases x;exact Ty.eU _ _
@[simp] theorem Ty.jQ(x:Ty):x.av.cells=[sI x.alX,sL Ty.av x.alY]:=by rw[Ty.fP];rfl
@[simp] theorem Ty.qZ(x:Ty):fC x.av=true:=by rw[Ty.fP];rfl
@[simp] theorem Ty.m0(x:Ty):x.av.norm=x.av:=by rw[Ty.fP];rfl
@[simp] theorem Ty.aii(a:Int)(b:List Ty):AV.agg [sI a,sL Ty.av b]=Ty.av (Ty.mk a b):=by rw[Ty.eU]<;>rfl
@[simp] theorem Ty.ajM(a:Int):AV.agg [sI a,AV.slice .gK []]=Ty.av (Ty.mk a []):=by rw[Ty.eU]<;>rfl
mutual
def Tm.av:Tm->AV
 |.mk alX al0 dN alY=>.agg [sI alX,sI al0,sI dN.alX,sL Ty.av dN.alY,AV.slice .gK (Tm.D2 alY)]
def Tm.D2:List Tm->List AV
 |[]=>[]|x::l=>x.av::Tm.D2 l
end
def Tm.wq(l:List Tm):Tm.D2 l=l.map Tm.av:=by
 induction l with
 |nil=>rfl|cons x l ih=>simp[Tm.D2,ih]
def Tm.eU(alX al0:Int)(dN:Ty)(alY:List Tm):(Tm.mk alX al0 dN alY).av=.agg [sI alX,sI al0,sI dN.alX,sL Ty.av dN.alY,sL Tm.av alY]:=by rw[Tm.av];simp only[Tm.wq]
mutual
@[simp] theorem Tm.vr(k:Nat):∀x:Tm,x.av.low k=true
 |.mk alX al0 dN alY=>by rw[Tm.eU];simp[AV.low,AV.iL,Tm.ow k alY]
@[simp] theorem Tm.ow(k:Nat):∀l:List Tm,AV.iL k (l.map Tm.av)=true
 |[]=>rfl|x::l=>by simp[AV.iL,Tm.vr k x,Tm.ow k l]
end
def Tm.fP(x:Tm):x.av=.agg [sI x.alX,sI x.al0,sI x.dN.alX,sL Ty.av x.dN.alY,sL Tm.av x.alY]:=by cases x;exact Tm.eU _ _ _ _
@[simp] theorem Tm.jQ(x:Tm):x.av.cells=[sI x.alX,sI x.al0,sI x.dN.alX,sL Ty.av x.dN.alY,sL Tm.av x.alY]:=by rw[Tm.fP];rfl
@[simp] theorem Tm.qZ(x:Tm):fC x.av=true:=by rw[Tm.fP];rfl
@[simp] theorem Tm.m0(x:Tm):x.av.norm=x.av:=by rw[Tm.fP];rfl
@[simp] theorem Tm.Sx(a b c:Int)(c3:List Ty)(d:List Tm):AV.agg [sI a,sI b,sI c,sL Ty.av c3,sL Tm.av d]=Tm.av (Tm.mk a b (Ty.mk c c3) d):=by rw[Tm.eU]<;>rfl
@[simp] theorem Tm.ak7(a b c:Int)(d:List Tm):AV.agg [sI a,sI b,sI c,AV.slice .gK [],sL Tm.av d]=Tm.av (Tm.mk a b (Ty.mk c []) d):=by rw[Tm.eU]<;>rfl
@[simp] theorem Tm.acX(a b c:Int):AV.agg [sI a,sI b,sI c,AV.slice .gK [],AV.slice .gK []]=Tm.av (Tm.mk a b (Ty.mk c []) []):=by rw[Tm.eU]<;>rfl
mutual
def Fm.av:Fm->AV
 |.mk alX dN ei alY=>.agg [sI alX,sI dN.alX,sL Ty.av dN.alY,sL Tm.av ei,AV.slice .gK (Fm.D2 alY)]
def Fm.D2:List Fm->List AV
 |[]=>[]|x::l=>x.av::Fm.D2 l
end
def Fm.wq(l:List Fm):Fm.D2 l=l.map Fm.av:=by
 induction l with
 |nil=>rfl|cons x l ih=>simp[Fm.D2,ih]
def Fm.eU(alX:Int)(dN:Ty)(ei:List Tm)(alY:List Fm):(Fm.mk alX dN ei alY).av=.agg [sI alX,sI dN.alX,sL Ty.av dN.alY,sL Tm.av ei,sL Fm.av alY]:=by rw[Fm.av];simp only[Fm.wq]
mutual
@[simp] theorem Fm.vr(k:Nat):∀x:Fm,x.av.low k=true
 |.mk alX dN ei alY=>by rw[Fm.eU];simp[AV.low,AV.iL,Fm.ow k alY]
@[simp] theorem Fm.ow(k:Nat):∀l:List Fm,AV.iL k (l.map Fm.av)=true
 |[]=>rfl|x::l=>by simp[AV.iL,Fm.vr k x,Fm.ow k l]
end
def Fm.fP(x:Fm):x.av=.agg [sI x.alX,sI x.dN.alX,sL Ty.av x.dN.alY,sL Tm.av x.ei,sL Fm.av x.alY]:=by cases x;exact Fm.eU _ _ _ _
@[simp] theorem Fm.jQ(x:Fm):x.av.cells=[sI x.alX,sI x.dN.alX,sL Ty.av x.dN.alY,sL Tm.av x.ei,sL Fm.av x.alY]:=by rw[Fm.fP];rfl
@[simp] theorem Fm.qZ(x:Fm):fC x.av=true:=by rw[Fm.fP];rfl
@[simp] theorem Fm.m0(x:Fm):x.av.norm=x.av:=by rw[Fm.fP];rfl
@[simp] theorem Fm.R5(a b:Int)(c:List Ty)(c3:List Tm)(d:List Fm):AV.agg [sI a,sI b,sL Ty.av c,sL Tm.av c3,sL Fm.av d]=Fm.av (Fm.mk a (Ty.mk b c) c3 d):=by rw[Fm.eU]<;>rfl
@[simp] theorem Fm.aez(a b:Int):AV.agg [sI a,sI b,AV.slice .gK [],AV.slice .gK [],AV.slice .gK []]=Fm.av (Fm.mk a (Ty.mk b []) [] []):=by rw[Fm.eU]<;>rfl
mutual
def Pf.av:Pf->AV
 |.mk alX al0 dN ei fZ alY=>.agg [sI alX,sI al0,sI dN.alX,sL Ty.av dN.alY,sL Tm.av ei,sL Fm.av fZ,AV.slice .gK (Pf.D2 alY)]
def Pf.D2:List Pf->List AV
 |[]=>[]|x::l=>x.av::Pf.D2 l
end
def Pf.wq(l:List Pf):Pf.D2 l=l.map Pf.av:=by
 induction l with
 |nil=>rfl|cons x l ih=>simp[Pf.D2,ih]
def Pf.eU(alX al0:Int)(dN:Ty)(ei:List Tm)(fZ:List Fm)(alY:List Pf):(Pf.mk alX al0 dN ei fZ alY).av=.agg [sI alX,sI al0,sI dN.alX,sL Ty.av dN.alY,sL Tm.av ei,sL Fm.av fZ,sL Pf.av alY]:=by rw[Pf.av];simp only[Pf.wq]
mutual
@[simp] theorem Pf.vr(k:Nat):∀x:Pf,x.av.low k=true
 |.mk alX al0 dN ei fZ alY=>by rw[Pf.eU];simp[AV.low,AV.iL,Pf.ow k alY]
@[simp] theorem Pf.ow(k:Nat):∀l:List Pf,AV.iL k (l.map Pf.av)=true
 |[]=>rfl|x::l=>by simp[AV.iL,Pf.vr k x,Pf.ow k l]
end
def Pf.fP(x:Pf):x.av=.agg [sI x.alX,sI x.al0,sI x.dN.alX,sL Ty.av x.dN.alY,sL Tm.av x.ei,sL Fm.av x.fZ,sL Pf.av x.alY]:=by cases x;exact Pf.eU _ _ _ _ _ _
@[simp] theorem Pf.jQ(x:Pf):x.av.cells=[sI x.alX,sI x.al0,sI x.dN.alX,sL Ty.av x.dN.alY,sL Tm.av x.ei,sL Fm.av x.fZ,sL Pf.av x.alY]:=by rw[Pf.fP];rfl
@[simp] theorem Pf.qZ(x:Pf):fC x.av=true:=by rw[Pf.fP];rfl
@[simp] theorem Pf.m0(x:Pf):x.av.norm=x.av:=by rw[Pf.fP];rfl
@[simp] theorem Pf.Sr(a b c:Int)(c3:List Ty)(d:List Tm)(c5:List Fm)(f:List Pf):AV.agg [sI a,sI b,sI c,sL Ty.av c3,sL Tm.av d,sL Fm.av c5,sL Pf.av f]=Pf.av (Pf.mk a b (Ty.mk c c3) d c5 f):=by rw[Pf.eU]<;>rfl
@[simp] theorem Pf.ajn(a b c:Int)(d:List Pf):AV.agg [sI a,sI b,sI c,AV.slice .gK [],AV.slice .gK [],AV.slice .gK [],sL Pf.av d]=Pf.av (Pf.mk a b (Ty.mk c []) [] [] d):=by rw[Pf.eU]<;>rfl
@[simp] theorem Pf.ab5(a b c:Int):AV.agg [sI a,sI b,sI c,AV.slice .gK [],AV.slice .gK [],AV.slice .gK [],AV.slice .gK []]=Pf.av (Pf.mk a b (Ty.mk c []) [] [] []):=by rw[Pf.eU]<;>rfl
def Sq.av(x:Sq):AV:=.agg [sL Ty.av x.al1,sL Fm.av x.al4]
def Sq.eU(al1:List Ty)(al4:List Fm):(Sq.mk al1 al4).av=.agg [sL Ty.av al1,sL Fm.av al4]:=rfl
def Sq.fP(x:Sq):x.av=.agg [sL Ty.av x.al1,sL Fm.av x.al4]:=by cases x;exact Sq.eU _ _
@[simp] theorem Sq.jQ(x:Sq):x.av.cells=[sL Ty.av x.al1,sL Fm.av x.al4]:=by rw[Sq.fP];rfl
@[simp] theorem Sq.qZ(x:Sq):fC x.av=true:=by rw[Sq.fP];rfl
@[simp] theorem Sq.m0(x:Sq):x.av.norm=x.av:=by rw[Sq.fP];rfl
@[simp] theorem Sq.Sx(a:List Ty)(b:List Fm):AV.agg [sL Ty.av a,sL Fm.av b]=Sq.av (Sq.mk a b):=by rw[Sq.eU]<;>rfl
@[simp] theorem Sq.acX:AV.agg [AV.slice .gK [],AV.slice .gK []]=Sq.av (Sq.mk [] []):=by rw[Sq.eU]<;>rfl
mutual
def Vl.av:Vl->AV
 |.mk alX num list alY=>.agg [sI alX,sI num,AV.slice .gK (List.map (λn=>AV.sc (Value.int .i64 n)) list),AV.slice .gK (Vl.D2 alY)]
def Vl.D2:List Vl->List AV
 |[]=>[]|x::l=>x.av::Vl.D2 l
end
def Vl.wq(l:List Vl):Vl.D2 l=l.map Vl.av:=by
 induction l with
 |nil=>rfl|cons x l ih=>simp[Vl.D2,ih]
def Vl.eU(alX num:Int)(list:List Int)(alY:List Vl):(Vl.mk alX num list alY).av=.agg [sI alX,sI num,AV.slice .gK (List.map (λn=>AV.sc (Value.int .i64 n)) list),sL Vl.av alY]:=by rw[Vl.av];simp only[Vl.wq]
mutual
@[simp] theorem Vl.vr(k:Nat):∀x:Vl,x.av.low k=true
 |.mk alX num list alY=>by rw[Vl.eU];simp[AV.low,AV.iL,Vl.ow k alY]
@[simp] theorem Vl.ow(k:Nat):∀l:List Vl,AV.iL k (l.map Vl.av)=true
 |[]=>rfl|x::l=>by simp[AV.iL,Vl.vr k x,Vl.ow k l]
end
def Vl.fP(x:Vl):x.av=.agg [sI x.alX,sI x.num,AV.slice .gK (List.map (λn=>AV.sc (Value.int .i64 n)) x.list),sL Vl.av x.alY]:=by cases x;exact Vl.eU _ _ _ _
@[simp] theorem Vl.jQ(x:Vl):x.av.cells=[sI x.alX,sI x.num,AV.slice .gK (List.map (λn=>AV.sc (Value.int .i64 n)) x.list),sL Vl.av x.alY]:=by rw[Vl.fP];rfl
@[simp] theorem Vl.qZ(x:Vl):fC x.av=true:=by rw[Vl.fP];rfl
@[simp] theorem Vl.m0(x:Vl):x.av.norm=x.av:=by rw[Vl.fP];rfl
@[simp] theorem Vl.Sx(a b:Int)(c:List Int)(c3:List Vl):AV.agg [sI a,sI b,AV.slice .gK (List.map (λn=>AV.sc (Value.int .i64 n)) c),sL Vl.av c3]=Vl.av (Vl.mk a b c c3):=by rw[Vl.eU]<;>rfl
@[simp] theorem Vl.akZ(a b:Int)(c:List Int):AV.agg [sI a,sI b,AV.slice .gK (List.map (λn=>AV.sc (Value.int .i64 n)) c),AV.slice .gK []]=Vl.av (Vl.mk a b c []):=by rw[Vl.eU]<;>rfl
@[simp] theorem Vl.acX(a b:Int):AV.agg [sI a,sI b,AV.slice .gK [],AV.slice .gK []]=Vl.av (Vl.mk a b [] []):=by rw[Vl.eU]<;>rfl
def eR.av(x:eR):AV:=.agg [AV.slice .gK (List.map (λn=>AV.sc (Value.int .i64 n)) x.l),sI x.AM]
def eR.eU(l:List Int)(AM:Int):(eR.mk l AM).av=.agg [AV.slice .gK (List.map (λn=>AV.sc (Value.int .i64 n)) l),sI AM]:=rfl
def eR.fP(x:eR):x.av=.agg [AV.slice .gK (List.map (λn=>AV.sc (Value.int .i64 n)) x.l),sI x.AM]:=by cases x;exact eR.eU _ _
@[simp] theorem eR.jQ(x:eR):x.av.cells=[AV.slice .gK (List.map (λn=>AV.sc (Value.int .i64 n)) x.l),sI x.AM]:=by rw[eR.fP];rfl
@[simp] theorem eR.qZ(x:eR):fC x.av=true:=by rw[eR.fP];rfl
@[simp] theorem eR.aii(a:List Int)(b:Int):AV.agg [AV.slice .gK (List.map (λn=>AV.sc (Value.int .i64 n)) a),sI b]=eR.av (eR.mk a b):=by rw[eR.eU]<;>rfl
def ta.av(x:ta):AV:=.agg [sI x.d_.alX,sI x.d_.dN.alX,sL Ty.av x.d_.dN.alY,sL Tm.av x.d_.ei,sL Fm.av x.d_.alY,AV.slice .gK (List.map (λn=>AV.sc (Value.int .i64 n)) x.jX)]
def ta.eU(d_:Fm)(jX:List Int):(ta.mk d_ jX).av=.agg [sI d_.alX,sI d_.dN.alX,sL Ty.av d_.dN.alY,sL Tm.av d_.ei,sL Fm.av d_.alY,AV.slice .gK (List.map (λn=>AV.sc (Value.int .i64 n)) jX)]:=rfl
@[simp] theorem ta.vr(k:Nat)(x:ta):x.av.low k=true:=by
 cases x;rw[ta.eU];simp[AV.low,AV.iL]
def ta.fP(x:ta):x.av=.agg [sI x.d_.alX,sI x.d_.dN.alX,sL Ty.av x.d_.dN.alY,sL Tm.av x.d_.ei,sL Fm.av x.d_.alY,AV.slice .gK (List.map (λn=>AV.sc (Value.int .i64 n)) x.jX)]:=by cases x;exact ta.eU _ _
@[simp] theorem ta.jQ(x:ta):x.av.cells=[sI x.d_.alX,sI x.d_.dN.alX,sL Ty.av x.d_.dN.alY,sL Tm.av x.d_.ei,sL Fm.av x.d_.alY,AV.slice .gK (List.map (λn=>AV.sc (Value.int .i64 n)) x.jX)]:=by rw[ta.fP];rfl
@[simp] theorem ta.qZ(x:ta):fC x.av=true:=by rw[ta.fP];rfl
@[simp] theorem ta.m0(x:ta):x.av.norm=x.av:=by rw[ta.fP];rfl
@[simp] theorem ta.Sr(a b:Int)(c:List Ty)(c3:List Tm)(d:List Fm)(c5:List Int):AV.agg [sI a,sI b,sL Ty.av c,sL Tm.av c3,sL Fm.av d,AV.slice .gK (List.map (λn=>AV.sc (Value.int .i64 n)) c5)]=ta.av (ta.mk (Fm.mk a (Ty.mk b c) c3 d) c5):=by rw[ta.eU]<;>rfl
@[simp] theorem ta.ab5(a b:Int):AV.agg [sI a,sI b,AV.slice .gK [],AV.slice .gK [],AV.slice .gK [],AV.slice .gK []]=ta.av (ta.mk (Fm.mk a (Ty.mk b []) [] []) []):=by rw[ta.eU]<;>rfl
def dT.av(x:dT):AV:=.agg [sL Fm.av x.lemmas,sL Tm.av x.ei,sI x.next]
def dT.eU(lemmas:List Fm)(ei:List Tm)(next:Int):(dT.mk lemmas ei next).av=.agg [sL Fm.av lemmas,sL Tm.av ei,sI next]:=rfl
def dT.fP(x:dT):x.av=.agg [sL Fm.av x.lemmas,sL Tm.av x.ei,sI x.next]:=by cases x;exact dT.eU _ _ _
@[simp] theorem dT.jQ(x:dT):x.av.cells=[sL Fm.av x.lemmas,sL Tm.av x.ei,sI x.next]:=by rw[dT.fP];rfl
@[simp] theorem dT.qZ(x:dT):fC x.av=true:=by rw[dT.fP];rfl
@[simp] theorem dT.Sx(a:List Fm)(b:List Tm)(c:Int):AV.agg [sL Fm.av a,sL Tm.av b,sI c]=dT.av (dT.mk a b c):=by rw[dT.eU]<;>rfl
def er.av(x:er):AV:=.agg [sL Ty.av x.iz.al1,sL Fm.av x.iz.al4,sL Tm.av x.vars,sL Tm.av x.al4]
def er.eU(iz:Sq)(vars al4:List Tm):(er.mk iz vars al4).av=.agg [sL Ty.av iz.al1,sL Fm.av iz.al4,sL Tm.av vars,sL Tm.av al4]:=rfl
def er.fP(x:er):x.av=.agg [sL Ty.av x.iz.al1,sL Fm.av x.iz.al4,sL Tm.av x.vars,sL Tm.av x.al4]:=by cases x;exact er.eU _ _ _
@[simp] theorem er.jQ(x:er):x.av.cells=[sL Ty.av x.iz.al1,sL Fm.av x.iz.al4,sL Tm.av x.vars,sL Tm.av x.al4]:=by rw[er.fP];rfl
@[simp] theorem er.qZ(x:er):fC x.av=true:=by rw[er.fP];rfl
@[simp] theorem er.m0(x:er):x.av.norm=x.av:=by rw[er.fP];rfl
@[simp] theorem er.Sr(a:List Ty)(b:List Fm)(c c3:List Tm):AV.agg [sL Ty.av a,sL Fm.av b,sL Tm.av c,sL Tm.av c3]=er.av (er.mk (Sq.mk a b) c c3):=by rw[er.eU]<;>rfl
def dW.av(x:dW):AV:=.agg [sI x.used,sI x.qN,sB x.out]
def dW.eU(used qN:Int)(out:Bool):(dW.mk used qN out).av=.agg [sI used,sI qN,sB out]:=rfl
def dW.fP(x:dW):x.av=.agg [sI x.used,sI x.qN,sB x.out]:=by cases x;exact dW.eU _ _ _
@[simp] theorem dW.jQ(x:dW):x.av.cells=[sI x.used,sI x.qN,sB x.out]:=by rw[dW.fP];rfl
@[simp] theorem dW.qZ(x:dW):fC x.av=true:=by rw[dW.fP];rfl
@[simp] theorem dW.agg(a b:Int)(c:Bool):AV.agg [sI a,sI b,sB c]=dW.av (dW.mk a b c):=by rw[dW.eU]<;>rfl
mutual
def dJ.av:dJ->AV
 |.mk num list pair body env=>.agg [sI num,AV.slice .gK (List.map (λn=>AV.sc (Value.int .i64 n)) list),AV.slice .gK (dJ.D2 pair),sI body.alX,sI body.al0,sI body.dN.alX,sL Ty.av body.dN.alY,sL Tm.av body.alY,AV.slice .gK (dJ.D2 env)]
def dJ.D2:List dJ->List AV
 |[]=>[]|x::l=>x.av::dJ.D2 l
end
def dJ.wq(l:List dJ):dJ.D2 l=l.map dJ.av:=by
 induction l with
 |nil=>rfl|cons x l ih=>simp[dJ.D2,ih]
def dJ.eU(num:Int)(list:List Int)(pair:List dJ)(body:Tm)(env:List dJ):(dJ.mk num list pair body env).av=.agg [sI num,AV.slice .gK (List.map (λn=>AV.sc (Value.int .i64 n)) list),sL dJ.av pair,sI body.alX,sI body.al0,sI body.dN.alX,sL Ty.av body.dN.alY,sL Tm.av body.alY,sL dJ.av env]:=by rw[dJ.av];simp only[dJ.wq]
def dJ.fP(x:dJ):x.av=.agg [sI x.num,AV.slice .gK (List.map (λn=>AV.sc (Value.int .i64 n)) x.list),sL dJ.av x.pair,sI x.body.alX,sI x.body.al0,sI x.body.dN.alX,sL Ty.av x.body.dN.alY,sL Tm.av x.body.alY,sL dJ.av x.env]:=by cases x;exact dJ.eU _ _ _ _ _
@[simp] theorem dJ.jQ(x:dJ):x.av.cells=[sI x.num,AV.slice .gK (List.map (λn=>AV.sc (Value.int .i64 n)) x.list),sL dJ.av x.pair,sI x.body.alX,sI x.body.al0,sI x.body.dN.alX,sL Ty.av x.body.dN.alY,sL Tm.av x.body.alY,sL dJ.av x.env]:=by rw[dJ.fP];rfl
@[simp] theorem dJ.qZ(x:dJ):fC x.av=true:=by rw[dJ.fP];rfl
@[simp] theorem dJ.m0(x:dJ):x.av.norm=x.av:=by rw[dJ.fP];rfl
@[simp] theorem dJ.Wz(a:Int)(b:List Int)(c:List dJ)(c3 d c5:Int)(f:List Ty)(h:List Tm)(i:List dJ):AV.agg [sI a,AV.slice .gK (List.map (λn=>AV.sc (Value.int .i64 n)) b),sL dJ.av c,sI c3,sI d,sI c5,sL Ty.av f,sL Tm.av h,sL dJ.av i]=dJ.av (dJ.mk a b c (Tm.mk c3 d (Ty.mk c5 f) h) i):=by rw[dJ.eU]<;>rfl
@[simp] theorem dJ.YS(a:Int)(b:List Int)(c:List dJ)(c3 d c5:Int):AV.agg [sI a,AV.slice .gK (List.map (λn=>AV.sc (Value.int .i64 n)) b),sL dJ.av c,sI c3,sI d,sI c5,AV.slice .gK [],AV.slice .gK [],AV.slice .gK []]=dJ.av (dJ.mk a b c (Tm.mk c3 d (Ty.mk c5 []) []) []):=by rw[dJ.eU]<;>rfl
@[simp] theorem dJ.Xx(a:Int)(b:List Int)(c3 c c5:Int):AV.agg [sI a,AV.slice .gK (List.map (λn=>AV.sc (Value.int .i64 n)) b),AV.slice .gK [],sI c3,sI c,sI c5,AV.slice .gK [],AV.slice .gK [],AV.slice .gK []]=dJ.av (dJ.mk a b [] (Tm.mk c3 c (Ty.mk c5 []) []) []):=by rw[dJ.eU]<;>rfl
@[simp] theorem dJ.Wk(a:Int)(b:List dJ)(c3 c c5:Int):AV.agg [sI a,AV.slice .gK [],sL dJ.av b,sI c3,sI c,sI c5,AV.slice .gK [],AV.slice .gK [],AV.slice .gK []]=dJ.av (dJ.mk a [] b (Tm.mk c3 c (Ty.mk c5 []) []) []):=by rw[dJ.eU]<;>rfl
@[simp] theorem dJ.V7(a c3 b c5:Int)(c:List Ty)(d:List Tm)(f:List dJ):AV.agg [sI a,AV.slice .gK [],AV.slice .gK [],sI c3,sI b,sI c5,sL Ty.av c,sL Tm.av d,sL dJ.av f]=dJ.av (dJ.mk a [] [] (Tm.mk c3 b (Ty.mk c5 c) d) f):=by rw[dJ.eU]<;>rfl
@[simp] theorem dJ.XE(a c3 b c5:Int):AV.agg [sI a,AV.slice .gK [],AV.slice .gK [],sI c3,sI b,sI c5,AV.slice .gK [],AV.slice .gK [],AV.slice .gK []]=dJ.av (dJ.mk a [] [] (Tm.mk c3 b (Ty.mk c5 []) []) []):=by rw[dJ.eU]<;>rfl
def dS.av(x:dS):AV:=.agg [sL Fm.av x.lemmas,sL Ty.av x.al1,sL Fm.av x.al4]
def dS.eU(lemmas:List Fm)(al1:List Ty)(al4:List Fm):(dS.mk lemmas al1 al4).av=.agg [sL Fm.av lemmas,sL Ty.av al1,sL Fm.av al4]:=rfl
def dS.fP(x:dS):x.av=.agg [sL Fm.av x.lemmas,sL Ty.av x.al1,sL Fm.av x.al4]:=by cases x;exact dS.eU _ _ _
@[simp] theorem dS.jQ(x:dS):x.av.cells=[sL Fm.av x.lemmas,sL Ty.av x.al1,sL Fm.av x.al4]:=by rw[dS.fP];rfl
@[simp] theorem dS.qZ(x:dS):fC x.av=true:=by rw[dS.fP];rfl
@[simp] theorem dS.m0(x:dS):x.av.norm=x.av:=by rw[dS.fP];rfl
@[simp] theorem dS.R5(a:List Fm)(b:List Ty)(c:List Fm):AV.agg [sL Fm.av a,sL Ty.av b,sL Fm.av c]=dS.av (dS.mk a b c):=by rw[dS.eU]<;>rfl
def dO.av(x:dO):AV:=.agg [sI x.dN.alX,sL Ty.av x.dN.alY,sI x.alZ]
def dO.eU(dN:Ty)(alZ:Int):(dO.mk dN alZ).av=.agg [sI dN.alX,sL Ty.av dN.alY,sI alZ]:=rfl
def dO.fP(x:dO):x.av=.agg [sI x.dN.alX,sL Ty.av x.dN.alY,sI x.alZ]:=by cases x;exact dO.eU _ _
@[simp] theorem dO.jQ(x:dO):x.av.cells=[sI x.dN.alX,sL Ty.av x.dN.alY,sI x.alZ]:=by rw[dO.fP];rfl
@[simp] theorem dO.qZ(x:dO):fC x.av=true:=by rw[dO.fP];rfl
@[simp] theorem dO.m0(x:dO):x.av.norm=x.av:=by rw[dO.fP];rfl
@[simp] theorem dO.aii(a:Int)(b:List Ty)(c:Int):AV.agg [sI a,sL Ty.av b,sI c]=dO.av (dO.mk (Ty.mk a b) c):=by rw[dO.eU]<;>rfl
@[simp] theorem dO.ajM(a b:Int):AV.agg [sI a,AV.slice .gK [],sI b]=dO.av (dO.mk (Ty.mk a []) b):=by rw[dO.eU]<;>rfl
def ec.av(x:ec):AV:=.agg [sI x.d_.alX,sI x.d_.dN.alX,sL Ty.av x.d_.dN.alY,sL Tm.av x.d_.ei,sL Fm.av x.d_.alY,AV.sc (.int .u32 x.jX)]
def ec.eU(d_:Fm)(jX:Int):(ec.mk d_ jX).av=.agg [sI d_.alX,sI d_.dN.alX,sL Ty.av d_.dN.alY,sL Tm.av d_.ei,sL Fm.av d_.alY,AV.sc (.int .u32 jX)]:=rfl
def ec.fP(x:ec):x.av=.agg [sI x.d_.alX,sI x.d_.dN.alX,sL Ty.av x.d_.dN.alY,sL Tm.av x.d_.ei,sL Fm.av x.d_.alY,AV.sc (.int .u32 x.jX)]:=by cases x;exact ec.eU _ _
@[simp] theorem ec.jQ(x:ec):x.av.cells=[sI x.d_.alX,sI x.d_.dN.alX,sL Ty.av x.d_.dN.alY,sL Tm.av x.d_.ei,sL Fm.av x.d_.alY,AV.sc (.int .u32 x.jX)]:=by rw[ec.fP];rfl
@[simp] theorem ec.qZ(x:ec):fC x.av=true:=by rw[ec.fP];rfl
@[simp] theorem ec.m0(x:ec):x.av.norm=x.av:=by rw[ec.fP];rfl
@[simp] theorem ec.R5(a b:Int)(c:List Ty)(c3:List Tm)(d:List Fm)(c5:Int):AV.agg [sI a,sI b,sL Ty.av c,sL Tm.av c3,sL Fm.av d,AV.sc (.int .u32 c5)]=ec.av (ec.mk (Fm.mk a (Ty.mk b c) c3 d) c5):=by rw[ec.eU]<;>rfl
@[simp] theorem ec.aez(a b c5:Int):AV.agg [sI a,sI b,AV.slice .gK [],AV.slice .gK [],AV.slice .gK [],AV.sc (.int .u32 c5)]=ec.av (ec.mk (Fm.mk a (Ty.mk b []) [] []) c5):=by rw[ec.eU]<;>rfl
def eQ.av(x:eQ):AV:=.agg [sI x.vars,sI x.al4]
def eQ.eU(vars al4:Int):(eQ.mk vars al4).av=.agg [sI vars,sI al4]:=rfl
def eQ.fP(x:eQ):x.av=.agg [sI x.vars,sI x.al4]:=by cases x;exact eQ.eU _ _
@[simp] theorem eQ.jQ(x:eQ):x.av.cells=[sI x.vars,sI x.al4]:=by rw[eQ.fP];rfl
@[simp] theorem eQ.qZ(x:eQ):fC x.av=true:=by rw[eQ.fP];rfl
@[simp] theorem eQ.m0(x:eQ):x.av.norm=x.av:=by rw[eQ.fP];rfl
@[simp] theorem eQ.agg(a b:Int):AV.agg [sI a,sI b]=eQ.av (eQ.mk a b):=by rw[eQ.eU]<;>rfl
def ek.av(x:ek):AV:=.agg [sI x.d_.alX,sI x.d_.dN.alX,sL Ty.av x.d_.dN.alY,sL Tm.av x.d_.ei,sL Fm.av x.d_.alY,sI x.vars]
def ek.eU(d_:Fm)(vars:Int):(ek.mk d_ vars).av=.agg [sI d_.alX,sI d_.dN.alX,sL Ty.av d_.dN.alY,sL Tm.av d_.ei,sL Fm.av d_.alY,sI vars]:=rfl
def ek.fP(x:ek):x.av=.agg [sI x.d_.alX,sI x.d_.dN.alX,sL Ty.av x.d_.dN.alY,sL Tm.av x.d_.ei,sL Fm.av x.d_.alY,sI x.vars]:=by cases x;exact ek.eU _ _
@[simp] theorem ek.jQ(x:ek):x.av.cells=[sI x.d_.alX,sI x.d_.dN.alX,sL Ty.av x.d_.dN.alY,sL Tm.av x.d_.ei,sL Fm.av x.d_.alY,sI x.vars]:=by rw[ek.fP];rfl
@[simp] theorem ek.qZ(x:ek):fC x.av=true:=by rw[ek.fP];rfl
@[simp] theorem ek.m0(x:ek):x.av.norm=x.av:=by rw[ek.fP];rfl
@[simp] theorem ek.R5(a b:Int)(c:List Ty)(c3:List Tm)(d:List Fm)(c5:Int):AV.agg [sI a,sI b,sL Ty.av c,sL Tm.av c3,sL Fm.av d,sI c5]=ek.av (ek.mk (Fm.mk a (Ty.mk b c) c3 d) c5):=by rw[ek.eU]<;>rfl
def ew.av(x:ew):AV:=.agg [sI x.nC.vars,sI x.nC.al4,sL dO.av x.al1,sL ek.av x.known]
def ew.eU(nC:eQ)(al1:List dO)(known:List ek):(ew.mk nC al1 known).av=.agg [sI nC.vars,sI nC.al4,sL dO.av al1,sL ek.av known]:=rfl
def ew.fP(x:ew):x.av=.agg [sI x.nC.vars,sI x.nC.al4,sL dO.av x.al1,sL ek.av x.known]:=by cases x;exact ew.eU _ _ _
@[simp] theorem ew.jQ(x:ew):x.av.cells=[sI x.nC.vars,sI x.nC.al4,sL dO.av x.al1,sL ek.av x.known]:=by rw[ew.fP];rfl
@[simp] theorem ew.qZ(x:ew):fC x.av=true:=by rw[ew.fP];rfl
@[simp] theorem ew.m0(x:ew):x.av.norm=x.av:=by rw[ew.fP];rfl
@[simp] theorem ew.Sx(a b:Int)(c:List dO)(c3:List ek):AV.agg [sI a,sI b,sL dO.av c,sL ek.av c3]=ew.av (ew.mk (eQ.mk a b) c c3):=by rw[ew.eU]<;>rfl
def dY.av(x:dY):AV:=.agg [sI x.alZ,sB x.ja]
def dY.eU(alZ:Int)(ja:Bool):(dY.mk alZ ja).av=.agg [sI alZ,sB ja]:=rfl
def dY.fP(x:dY):x.av=.agg [sI x.alZ,sB x.ja]:=by cases x;exact dY.eU _ _
@[simp] theorem dY.jQ(x:dY):x.av.cells=[sI x.alZ,sB x.ja]:=by rw[dY.fP];rfl
@[simp] theorem dY.qZ(x:dY):fC x.av=true:=by rw[dY.fP];rfl
@[simp] theorem dY.agg(a:Int)(b:Bool):AV.agg [sI a,sB b]=dY.av (dY.mk a b):=by rw[dY.eU]<;>rfl
def fa.av(x:fa):AV:=.agg [sI x.ei,sI x.fZ,sI x.alY,sB x.al0,sB x.NQ]
def fa.eU(ei fZ alY:Int)(al0 NQ:Bool):(fa.mk ei fZ alY al0 NQ).av=.agg [sI ei,sI fZ,sI alY,sB al0,sB NQ]:=rfl
def fa.fP(x:fa):x.av=.agg [sI x.ei,sI x.fZ,sI x.alY,sB x.al0,sB x.NQ]:=by cases x;exact fa.eU _ _ _ _ _
@[simp] theorem fa.jQ(x:fa):x.av.cells=[sI x.ei,sI x.fZ,sI x.alY,sB x.al0,sB x.NQ]:=by rw[fa.fP];rfl
@[simp] theorem fa.qZ(x:fa):fC x.av=true:=by rw[fa.fP];rfl
@[simp] theorem fa.m0(x:fa):x.av.norm=x.av:=by rw[fa.fP];rfl
@[simp] theorem fa.agg(a b c:Int)(c3 d:Bool):AV.agg [sI a,sI b,sI c,sB c3,sB d]=fa.av (fa.mk a b c c3 d):=by rw[fa.eU]<;>rfl
def fA.av(x:fA):AV:=.agg [sB x.al0,sB x.typed,sI x.ei,sI x.fZ,sI x.alY,sI x.u7,sI x.vars,sI x.al4]
def fA.eU(al0 typed:Bool)(ei fZ alY u7 vars al4:Int):(fA.mk al0 typed ei fZ alY u7 vars al4).av=.agg [sB al0,sB typed,sI ei,sI fZ,sI alY,sI u7,sI vars,sI al4]:=rfl
def fA.fP(x:fA):x.av=.agg [sB x.al0,sB x.typed,sI x.ei,sI x.fZ,sI x.alY,sI x.u7,sI x.vars,sI x.al4]:=by cases x;exact fA.eU _ _ _ _ _ _ _ _
@[simp] theorem fA.jQ(x:fA):x.av.cells=[sB x.al0,sB x.typed,sI x.ei,sI x.fZ,sI x.alY,sI x.u7,sI x.vars,sI x.al4]:=by rw[fA.fP];rfl
@[simp] theorem fA.qZ(x:fA):fC x.av=true:=by rw[fA.fP];rfl
@[simp] theorem fA.m0(x:fA):x.av.norm=x.av:=by rw[fA.fP];rfl
@[simp] theorem fA.agg(a b:Bool)(c c3 d c5 f h:Int):AV.agg [sB a,sB b,sI c,sI c3,sI d,sI c5,sI f,sI h]=fA.av (fA.mk a b c c3 d c5 f h):=by rw[fA.eU]<;>rfl
def eh.av(x:eh):AV:=.agg [sI x.alX,sI x.base.alX,sI x.base.al0,sI x.base.dN.alX,sL Ty.av x.base.dN.alY,sL Tm.av x.base.alY,sL Ty.av x.vars,sI x.next.alX,sI x.next.al0,sI x.next.dN.alX,sL Ty.av x.next.dN.alY,sL Tm.av x.next.alY]
def eh.eU(alX:Int)(base:Tm)(vars:List Ty)(next:Tm):(eh.mk alX base vars next).av=.agg [sI alX,sI base.alX,sI base.al0,sI base.dN.alX,sL Ty.av base.dN.alY,sL Tm.av base.alY,sL Ty.av vars,sI next.alX,sI next.al0,sI next.dN.alX,sL Ty.av next.dN.alY,sL Tm.av next.alY]:=rfl
@[simp] theorem eh.vr(k:Nat)(x:eh):x.av.low k=true:=by
 cases x;rw[eh.eU];simp[AV.low,AV.iL]
@[simp] theorem eh.ow(k:Nat)(l:List eh):AV.iL k (l.map eh.av)=true:=by
 rw[AV.wU];intro x a;obtain⟨y,_,rfl⟩:=qz.1 a;exact eh.vr k y
def eh.fP(x:eh):x.av=.agg [sI x.alX,sI x.base.alX,sI x.base.al0,sI x.base.dN.alX,sL Ty.av x.base.dN.alY,sL Tm.av x.base.alY,sL Ty.av x.vars,sI x.next.alX,sI x.next.al0,sI x.next.dN.alX,sL Ty.av x.next.dN.alY,sL Tm.av x.next.alY]:=by cases x;exact eh.eU _ _ _ _
@[simp] theorem eh.jQ(x:eh):x.av.cells=[sI x.alX,sI x.base.alX,sI x.base.al0,sI x.base.dN.alX,sL Ty.av x.base.dN.alY,sL Tm.av x.base.alY,sL Ty.av x.vars,sI x.next.alX,sI x.next.al0,sI x.next.dN.alX,sL Ty.av x.next.dN.alY,sL Tm.av x.next.alY]:=by rw[eh.fP];rfl
@[simp] theorem eh.qZ(x:eh):fC x.av=true:=by rw[eh.fP];rfl
@[simp] theorem eh.m0(x:eh):x.av.norm=x.av:=by rw[eh.fP];rfl
@[simp] theorem eh.Wz(c d f c3:Int)(h:List Ty)(c5:List Tm)(i:List Ty)(j k l:Int)(a:List Ty)(b:List Tm):AV.agg [sI c,sI d,sI f,sI c3,sL Ty.av h,sL Tm.av c5,sL Ty.av i,sI j,sI k,sI l,sL Ty.av a,sL Tm.av b]=eh.av (eh.mk c (Tm.mk d f (Ty.mk c3 h) c5) i (Tm.mk j k (Ty.mk l a) b)):=by rw[eh.eU]<;>rfl
@[simp] theorem eh.YS(a b c c3:Int)(d:List Ty)(c5:List Tm)(f h i:Int):AV.agg [sI a,sI b,sI c,sI c3,sL Ty.av d,sL Tm.av c5,AV.slice .gK [],sI f,sI h,sI i,AV.slice .gK [],AV.slice .gK []]=eh.av (eh.mk a (Tm.mk b c (Ty.mk c3 d) c5) [] (Tm.mk f h (Ty.mk i []) [])):=by rw[eh.eU]<;>rfl
@[simp] theorem eh.Xx(a b c c3:Int)(d:List Ty)(f h i:Int):AV.agg [sI a,sI b,sI c,sI c3,sL Ty.av d,AV.slice .gK [],AV.slice .gK [],sI f,sI h,sI i,AV.slice .gK [],AV.slice .gK []]=eh.av (eh.mk a (Tm.mk b c (Ty.mk c3 d) []) [] (Tm.mk f h (Ty.mk i []) [])):=by rw[eh.eU]<;>rfl
@[simp] theorem eh.Wk(a b c c3:Int)(c5:List Tm)(d f h:Int):AV.agg [sI a,sI b,sI c,sI c3,AV.slice .gK [],sL Tm.av c5,AV.slice .gK [],sI d,sI f,sI h,AV.slice .gK [],AV.slice .gK []]=eh.av (eh.mk a (Tm.mk b c (Ty.mk c3 []) c5) [] (Tm.mk d f (Ty.mk h []) [])):=by rw[eh.eU]<;>rfl
@[simp] theorem eh.V7(c d f c3:Int)(h:List Ty)(i j k:Int)(a:List Ty)(b:List Tm):AV.agg [sI c,sI d,sI f,sI c3,AV.slice .gK [],AV.slice .gK [],sL Ty.av h,sI i,sI j,sI k,sL Ty.av a,sL Tm.av b]=eh.av (eh.mk c (Tm.mk d f (Ty.mk c3 []) []) h (Tm.mk i j (Ty.mk k a) b)):=by rw[eh.eU]<;>rfl
@[simp] theorem eh.XE(a b c c3 d f h:Int):AV.agg [sI a,sI b,sI c,sI c3,AV.slice .gK [],AV.slice .gK [],AV.slice .gK [],sI d,sI f,sI h,AV.slice .gK [],AV.slice .gK []]=eh.av (eh.mk a (Tm.mk b c (Ty.mk c3 []) []) [] (Tm.mk d f (Ty.mk h []) [])):=by rw[eh.eU]<;>rfl
def HC.cells(k:Nat):HC->List AV
 |.K0 x=>[pav k x.term,sI x.steps]|.HG x=>[sI x.alX,sI x.al0,sI x.NQ.alX,sL Ty.av x.NQ.alY,AV.slice .gK (List.map (pav k) x.alY),sI x.size,sI x.free,sB x.normal]
end Go.fF
namespace Go.Proofs.YtpgdkkomegalnaaGreatDoor
open Go Go.ld Go.fF Tryz
@[simp] theorem XT:gb prog 3=some (false,1):=by kernel_rfl
@[simp] theorem adj:kj prog 3=some [.sc (.int .i64 0)]:=by kernel_rfl
@[simp] theorem vN:prog.underlying 3=some (.int .i64):=by kernel_rfl
@[simp] theorem alW:gb prog 4=some (false,1)/\gb prog 22=some (false,1)/\gb prog 27=some (false,1)/\pV prog 29=some [.sc (.int .i64 0),.slice .full []]/\kj prog 29=some [.sc (.int .i64 0),.slice .full []]/\fb prog 29 0=some (0,3)/\gw prog 29 0=some (0,1)/\fb prog 29 1=some (1,27)/\gw prog 29 1=some (1,1)/\gb prog 30=some (false,1):=by and_intros<;>kernel_rfl
@[simp] theorem H4:oM prog 22=some (3,1):=by kernel_rfl
@[simp] theorem aid:prog.underlying 22=some (.slice 3):=by kernel_rfl
@[simp] theorem FZ:oM prog 27=some (29,2):=by kernel_rfl
@[simp] theorem aie:prog.underlying 27=some (.slice 29):=by kernel_rfl
@[simp] theorem adl:gb prog 29=some (true,2):=by kernel_rfl
@[simp] theorem Ty.agM(x:Ty):uL prog 29 x.av=true:=by rw[Ty.fP,uY,adl];rfl
@[simp] theorem zY:oM prog 30=some (32,5):=by kernel_rfl
@[simp] theorem adI:gb prog 32=some (true,5):=by kernel_rfl
@[simp] theorem aj3:pV prog 32=some [.sc (.int .i64 0),.sc (.int .i64 0),.sc (.int .i64 0),.slice .full [],.slice .full []]/\fb prog 32 0=some (0,3)/\gw prog 32 0=some (0,1)/\fb prog 32 1=some (1,3)/\gw prog 32 1=some (1,1)/\fb prog 32 2=some (2,29)/\gw prog 32 2=some (2,2)/\fb prog 32 3=some (4,30)/\gw prog 32 3=some (4,1)/\gb prog 34=some (false,1):=by and_intros<;>kernel_rfl
@[simp] theorem afF:kj prog 32=some [.sc (.int .i64 0),.sc (.int .i64 0),.sc (.int .i64 0),.slice .full [],.slice .full []]:=by kernel_rfl
@[simp] theorem Tm.agQ(x:Tm):uL prog 32 x.av=true:=by rw[Tm.fP,uY,adI];rfl
@[simp] theorem KI:oM prog 34=some (36,5):=by kernel_rfl
@[simp] theorem ah2:prog.underlying 34=some (.slice 36):=by kernel_rfl
@[simp] theorem adh:gb prog 36=some (true,5):=by kernel_rfl
@[simp] theorem akb:pV prog 36=some [.sc (.int .i64 0),.sc (.int .i64 0),.slice .full [],.slice .full [],.slice .full []]/\kj prog 36=some [.sc (.int .i64 0),.sc (.int .i64 0),.slice .full [],.slice .full [],.slice .full []]/\fb prog 36 0=some (0,3)/\gw prog 36 0=some (0,1)/\fb prog 36 1=some (1,29)/\gw prog 36 1=some (1,2)/\fb prog 36 2=some (3,30)/\gw prog 36 2=some (3,1)/\fb prog 36 3=some (4,34)/\gw prog 36 3=some (4,1):=by and_intros<;>kernel_rfl
@[simp] theorem Fm.agx(x:Fm):uL prog 36 x.av=true:=by rw[Fm.fP,uY,adh];rfl
@[simp] theorem ak_:gb prog 37=some (false,1)/\oM prog 37=some (39,7)/\pV prog 39=some [.sc (.int .i64 0),.sc (.int .i64 0),.sc (.int .i64 0),.slice .full [],.slice .full [],.slice .full [],.slice .full []]/\kj prog 39=some [.sc (.int .i64 0),.sc (.int .i64 0),.sc (.int .i64 0),.slice .full [],.slice .full [],.slice .full [],.slice .full []]/\fb prog 39 0=some (0,3)/\gw prog 39 0=some (0,1)/\fb prog 39 1=some (1,3)/\gw prog 39 1=some (1,1)/\fb prog 39 2=some (2,29)/\gw prog 39 2=some (2,2):=by and_intros<;>kernel_rfl
@[simp] theorem aiF:gb prog 39=some (true,7):=by kernel_rfl
@[simp] theorem agB:fb prog 39 3=some (4,30)/\gw prog 39 3=some (4,1)/\fb prog 39 4=some (5,34)/\gw prog 39 4=some (5,1)/\fb prog 39 5=some (6,37)/\gw prog 39 5=some (6,1)/\gb prog 53=some (true,2)/\pV prog 53=some [.slice .full [],.slice .full []]/\fb prog 53 0=some (0,27)/\gw prog 53 0=some (0,1):=by and_intros<;>kernel_rfl
@[simp] theorem Pf.agN(x:Pf):uL prog 39 x.av=true:=by rw[Pf.fP,uY,aiF];rfl
@[simp] theorem agR:fb prog 53 1=some (1,34)/\gw prog 53 1=some (1,1)/\gb prog 54=some (false,1)/\oM prog 54=some (56,4)/\pV prog 56=some [.sc (.int .i64 0),.sc (.int .i64 0),.slice .full [],.slice .full []]/\kj prog 56=some [.sc (.int .i64 0),.sc (.int .i64 0),.slice .full [],.slice .full []]/\fb prog 56 0=some (0,3)/\gw prog 56 0=some (0,1)/\fb prog 56 1=some (1,3)/\gw prog 56 1=some (1,1):=by and_intros<;>kernel_rfl
@[simp] theorem aiD:gb prog 56=some (true,4):=by kernel_rfl
@[simp] theorem agz:fb prog 56 2=some (2,22)/\gw prog 56 2=some (2,1)/\fb prog 56 3=some (3,54)/\gw prog 56 3=some (3,1)/\gb prog 61=some (false,1)/\kj prog 61=some [.sc .nilFunc]/\pV prog 66=some [.slice .full [],.sc (.int .i64 0)]/\fb prog 66 0=some (0,22)/\gw prog 66 0=some (0,1)/\fb prog 66 1=some (1,3):=by and_intros<;>kernel_rfl
@[simp] theorem Vl.ag0(x:Vl):uL prog 56 x.av=true:=by rw[Vl.fP,uY,aiD];rfl
@[simp] theorem alf:gb prog 85=some (false,1)/\kj prog 85=some [.sc .nilFunc]/\gb prog 91=some (true,6)/\pV prog 91=some [.sc (.int .i64 0),.sc (.int .i64 0),.slice .full [],.slice .full [],.slice .full [],.slice .full []]/\kj prog 91=some [.sc (.int .i64 0),.sc (.int .i64 0),.slice .full [],.slice .full [],.slice .full [],.slice .full []]/\fb prog 91 0=some (0,36)/\gw prog 91 0=some (0,5)/\fb prog 91 1=some (5,22)/\gw prog 91 1=some (5,1)/\pV prog 98=some [.slice .full [],.slice .full [],.sc (.int .i64 0)]:=by and_intros<;>kernel_rfl
@[simp] theorem agr:fb prog 98 0=some (0,34)/\gw prog 98 0=some (0,1)/\fb prog 98 1=some (1,30)/\gw prog 98 1=some (1,1)/\fb prog 98 2=some (2,3)/\gb prog 100=some (true,4)/\pV prog 100=some [.slice .full [],.slice .full [],.slice .full [],.slice .full []]/\kj prog 100=some [.slice .full [],.slice .full [],.slice .full [],.slice .full []]/\fb prog 100 0=some (0,53)/\gw prog 100 0=some (0,2):=by and_intros<;>kernel_rfl
@[simp] theorem adJ:fb prog 100 1=some (2,30)/\gw prog 100 1=some (2,1)/\fb prog 100 2=some (3,30)/\gw prog 100 2=some (3,1)/\pV prog 113=some [.sc (.int .i64 0),.sc (.int .i64 0),.sc (.bool false)]/\fb prog 113 0=some (0,3)/\fb prog 113 1=some (1,3)/\gw prog 113 1=some (1,1)/\fb prog 113 2=some (2,4)/\gb prog 114=some (false,1):=by and_intros<;>kernel_rfl
@[simp] theorem Wl:oM prog 114=some (116,9):=by kernel_rfl
@[simp] theorem aff:prog.underlying 114=some (.slice 116):=by kernel_rfl
@[simp] theorem V4:gb prog 116=some (true,9):=by kernel_rfl
@[simp] theorem ajf:pV prog 116=some [.sc (.int .i64 0),.slice .full [],.slice .full [],.sc (.int .i64 0),.sc (.int .i64 0),.sc (.int .i64 0),.slice .full [],.slice .full [],.slice .full []]/\kj prog 116=some [.sc (.int .i64 0),.slice .full [],.slice .full [],.sc (.int .i64 0),.sc (.int .i64 0),.sc (.int .i64 0),.slice .full [],.slice .full [],.slice .full []]/\fb prog 116 0=some (0,3)/\gw prog 116 0=some (0,1)/\fb prog 116 1=some (1,22)/\gw prog 116 1=some (1,1)/\fb prog 116 2=some (2,114)/\gw prog 116 2=some (2,1)/\fb prog 116 3=some (3,32)/\gw prog 116 3=some (3,5):=by and_intros<;>kernel_rfl
@[simp] theorem afc:fb prog 116 4=some (8,114)/\gw prog 116 4=some (8,1)/\gb prog 132=some (true,3)/\pV prog 132=some [.slice .full [],.slice .full [],.slice .full []]/\kj prog 132=some [.slice .full [],.slice .full [],.slice .full []]/\fb prog 132 0=some (0,34)/\gw prog 132 0=some (0,1)/\fb prog 132 1=some (1,27)/\gw prog 132 1=some (1,1)/\fb prog 132 2=some (2,34):=by and_intros<;>kernel_rfl
@[simp] theorem dJ.afe(x:dJ):uL prog 116 x.av=true:=by rw[dJ.fP,uY,V4];rfl
@[simp] theorem ae':gw prog 132 2=some (2,1)/\pV prog 148=some [.sc (.int .i64 0),.slice .full [],.sc (.int .i64 0)]/\kj prog 148=some [.sc (.int .i64 0),.slice .full [],.sc (.int .i64 0)]/\fb prog 148 0=some (0,29)/\gw prog 148 0=some (0,2)/\fb prog 148 1=some (2,3)/\gw prog 148 1=some (2,1)/\gb prog 151=some (false,1)/\gb prog 158=some (false,1)/\pV prog 161=some [.slice .full [],.sc (.map none)]:=by and_intros<;>kernel_rfl
@[simp] theorem Br:gb prog 148=some (true,3):=by kernel_rfl
@[simp] theorem dO.afR(x:dO):uL prog 148 x.av=true:=by rw[dO.fP,uY,Br];rfl
@[simp] theorem Y0:oM prog 151=some (148,3):=by kernel_rfl
@[simp] theorem ad7:prog.underlying 151=some (.slice 148):=by kernel_rfl
@[simp] theorem aem:gw prog 161 0=some (0,1)/\fb prog 161 1=some (1,158)/\gw prog 161 1=some (1,1)/\gb prog 163=some (false,1)/\kj prog 163=some [.sc (.int .u32 0)]/\gb prog 165=some (true,6)/\pV prog 165=some [.sc (.int .i64 0),.sc (.int .i64 0),.slice .full [],.slice .full [],.slice .full [],.sc (.int .u32 0)]/\kj prog 165=some [.sc (.int .i64 0),.sc (.int .i64 0),.slice .full [],.slice .full [],.slice .full [],.sc (.int .u32 0)]/\fb prog 165 0=some (0,36)/\gw prog 165 0=some (0,5):=by and_intros<;>kernel_rfl
@[simp] theorem aey:fb prog 165 1=some (5,163)/\gw prog 165 1=some (5,1)/\gb prog 169=some (true,2)/\fb prog 169 0=some (0,3)/\fb prog 169 1=some (1,3)/\gb prog 170=some (false,1)/\gb prog 172=some (true,4)/\pV prog 172=some [.sc (.int .i64 0),.sc (.int .i64 0),.slice .full [],.slice .full []]/\kj prog 172=some [.sc (.int .i64 0),.sc (.int .i64 0),.slice .full [],.slice .full []]/\fb prog 172 0=some (0,169):=by and_intros<;>kernel_rfl
@[simp] theorem ag':oM prog 170=some (257,6):=by kernel_rfl
@[simp] theorem ae1:prog.underlying 170=some (.slice 257):=by kernel_rfl
@[simp] theorem aeM:fb prog 172 1=some (2,151)/\gw prog 172 1=some (2,1)/\fb prog 172 2=some (3,170)/\gb prog 194=some (true,9)/\kj prog 194=some [.sc (.int .i64 0),.slice .full [],.sc (.int .i64 0),.sc (.int .i64 0),.slice .full [],.sc (.int .i64 0),.sc (.int .i64 0),.slice .full [],.sc (.int .i64 0)]/\pV prog 200=some [.sc (.int .i64 0),.sc (.bool false)]/\fb prog 200 0=some (0,3)/\fb prog 200 1=some (1,4)/\gb prog 205=some (false,1)/\kj prog 205=some [.sc .nilFunc]:=by and_intros<;>kernel_rfl
@[simp] theorem Gu:prog.underlying 194=some (.array 3 148):=by kernel_rfl
@[simp] theorem ai1(b g o:Nat):gJ prog 194 (.ie b g o) (.sc (.int .i64 0))=some (.ie b g (o+0)):=by kernel_rfl
@[simp] theorem aiS(b g o:Nat):gJ prog 194 (.ie b g o) (.sc (.int .i64 1))=some (.ie b g (o+3)):=by kernel_rfl
@[simp] theorem ahv(b g o:Nat):gJ prog 194 (.ie b g o) (.sc (.int .i64 2))=some (.ie b g (o+6)):=by kernel_rfl
@[simp] theorem akf:gb prog 210=some (true,5)/\pV prog 210=some [.sc (.int .i64 0),.sc (.int .i64 0),.sc (.int .i64 0),.sc (.bool false),.sc (.bool false)]/\kj prog 210=some [.sc (.int .i64 0),.sc (.int .i64 0),.sc (.int .i64 0),.sc (.bool false),.sc (.bool false)]/\fb prog 210 0=some (0,3)/\gw prog 210 0=some (0,1)/\fb prog 210 1=some (1,3)/\gw prog 210 1=some (1,1)/\fb prog 210 2=some (2,3)/\gw prog 210 2=some (2,1)/\fb prog 210 3=some (3,4):=by and_intros<;>kernel_rfl
@[simp] theorem af3:gw prog 210 3=some (3,1)/\fb prog 210 4=some (4,4)/\gw prog 210 4=some (4,1)/\pV prog 235=some [.sc (.bool false),.sc (.bool false),.sc (.int .i64 0),.sc (.int .i64 0),.sc (.int .i64 0),.sc (.int .i64 0),.sc (.int .i64 0),.sc (.int .i64 0)]/\kj prog 235=some [.sc (.bool false),.sc (.bool false),.sc (.int .i64 0),.sc (.int .i64 0),.sc (.int .i64 0),.sc (.int .i64 0),.sc (.int .i64 0),.sc (.int .i64 0)]/\fb prog 235 0=some (0,4)/\fb prog 235 1=some (1,4)/\fb prog 235 2=some (2,3)/\fb prog 235 3=some (3,3)/\fb prog 235 4=some (4,3):=by and_intros<;>kernel_rfl
@[simp] theorem YZ:gb prog 235=some (true,8):=by kernel_rfl
@[simp] theorem fA.aes(x:fA):uL prog 235 x.av=true:=by rw[fA.fP,uY,YZ];rfl
@[simp] theorem afy:gb prog 257=some (true,6):=by kernel_rfl
@[simp] theorem ajC:pV prog 257=some [.sc (.int .i64 0),.sc (.int .i64 0),.slice .full [],.slice .full [],.slice .full [],.sc (.int .i64 0)]/\gw prog 257 0=some (0,5)/\gw prog 257 1=some (5,1)/\gb prog 275=some (false,1)/\gb prog 291=some (false,1)/\kj prog 291=some [.sc .nilFunc]/\gb prog 307=some (false,1):=by and_intros<;>kernel_rfl
@[simp] theorem RY:prog.underlying 263=some (.map 3 4):=by kernel_rfl
@[simp] theorem af7:prog.underlying 273=some (.array 21 235):=by kernel_rfl
@[simp] theorem afK:prog.underlying 290=some (.array 14 3):=by kernel_rfl
@[simp] theorem aj4(tag:Tag)(l:List Int)(a:Int):o3 prog 22 (.slice tag (List.map sI l)) (some (.sc (.int .i64 a))) none none=(tv l a (eA l)).map λr=>.slice .gK (List.map sI r):=N8 _ l aid XT (λx=>by simp)
@[simp] theorem ajt(tag:Tag)(l:List Ty):o3 prog 27 (.slice tag (List.map Ty.av l)) none (some (.sc (.int .i64 (eA l)))) (some (.sc (.int .i64 (eA l))))=some (.slice .full (List.map Ty.av l)):=wG _ l aie adl (λx=>by simp)
@[simp] theorem ajj(tag:Tag)(l:List Fm):o3 prog 34 (.slice tag (List.map Fm.av l)) none (some (.sc (.int .i64 (eA l)))) (some (.sc (.int .i64 (eA l))))=some (.slice .full (List.map Fm.av l)):=wG _ l ah2 adh (λx=>by simp)
@[simp] theorem ahM(tag:Tag)(l:List dJ):o3 prog 114 (.slice tag (List.map dJ.av l)) none (some (.sc (.int .i64 (eA l)))) (some (.sc (.int .i64 (eA l))))=some (.slice .full (List.map dJ.av l)):=wG _ l aff V4 (λx=>by simp)
@[simp] theorem ah4(tag:Tag)(l:List dO):o3 prog 151 (.slice tag (List.map dO.av l)) none (some (.sc (.int .i64 (eA l)))) (some (.sc (.int .i64 (eA l))))=some (.slice .full (List.map dO.av l)):=wG _ l ad7 Br (λx=>by simp)
@[simp] theorem aib(tag:Tag)(l:List ek):o3 prog 170 (.slice tag (List.map ek.av l)) none (some (.sc (.int .i64 (eA l)))) (some (.sc (.int .i64 (eA l))))=some (.slice .full (List.map ek.av l)):=wG _ l ae1 afy (λx=>by simp)
def fA.cs(x:fA):List AV:=x.av.cells
@[simp] theorem alo(a:Int):gJ prog 273 (.mA (.agg (List.flatMap (λx=>fA.cs x) oH))) (.sc (.int .i64 a))=(dX oH a).map λx=>.mA x.av:=HQ af7 YZ (λx=>rfl) (λx=>⟨_,fA.fP x⟩) (λx=>by simp) rfl
@[simp] theorem alk(a:Int):gJ prog 290 (.mA (.agg (List.map (λn=>AV.sc (Value.int .i64 n)) ql))) (.sc (.int .i64 a))=(dX ql a).map λx=>.mA (.sc (.int .i64 x)):=Jr afK XT rfl
@[simp] theorem lj:prog.underlying 158=some (.map 3 202):=by kernel_rfl
def XU:OI prog 202=some (.sc .nilFunc):=by kernel_rfl
def Qs:List Value:=[.int .i64 1,.int .i64 2,.int .i64 3,.int .i64 4,.int .i64 5,.int .i64 6,.int .i64 7,.int .i64 8,.int .i64 12,.int .i64 9,.int .i64 13,.int .i64 10,.int .i64 14,.int .i64 11,.int .i64 15,.int .i64 16,.int .i64 17,.int .i64 18,.int .i64 19,.int .i64 20]
def RO:List AV:=[.func (.func 174) [] [],.func (.func 175) [] [],.func (.func 176) [] [],.func (.func 177) [] [],.func (.func 177) [] [],.func (.func 178) [] [],.func (.func 179) [] [],.func (.func 180) [] [],.func (.func 180) [] [],.func (.func 181) [] [],.func (.func 181) [] [],.func (.func 182) [] [],.func (.func 182) [] [],.func (.func 183) [] [],.func (.func 183) [] [],.func (.func 184) [] [],.func (.func 184) [] [],.func (.func 185) [] [],.func (.func 186) [] [],.func (.func 187) [] []]
def Nj:AV:=.uS Qs RO
def Mu(k:Int):AV:=match mapIdx Qs (.int .i64 k)with|some j=>RO.getD j .undef|none=>.sc .nilFunc
abbrev KC(H:dZ)(o:Nat)(l:List Fm):Prop:=H[o]?=some [sL Fm.av l,AV.nJ (o-1)]/\H[o-1]?=some [Nj]
def Ro{H:dZ}{o:Nat}{k:Int}(h:H[o]?=some [Nj]):vM prog H 158 (AV.nJ o) (sI k) false=some (Mu k):=Um lj vN XU h aby aby
def FL{k key:Int}{x:AV}(h:eo k key=true)(a:Mu key=x):Mu k=x:=by rw[Xr h];exact a
def QR{T:eO}{g:Nat}{xs:List AV}{H H':dZ}{r:AV}(h:eP prog T g xs H r H'):uV prog T (.func (.func g) [] []) xs H r H':=by
 unfold uV o7;simp only[oa,AE];exact h
abbrev oc(T:eO):Prop:=T 2=some (AV.agg (List.map (λn=>AV.sc (Value.int .i64 n)) ql))/\T 1=some (AV.agg (List.flatMap (λx=>fA.cs x) oH))/\T 0=some (AV.agg (List.map (λn=>AV.sc (Value.int .u8 n)) lH))
def FC{S:Type}(T:eO)(g:Nat)(cap:List AV)(st:S->dZ)(w:(S->Tm->Int->Option (Tm×S))):Prop:=
 ∀(X:dZ) (s:S) (a:Tm) (b:Int) (c:Tm) (d:S),w s a b=some (c,d)->eP prog T g ([Tm.av a,sI b]++cap) (st s++X) (Tm.av c) (st d++X)
def FC.at0{S:Type}{T:eO}{g:Nat}{cap:List AV}{st:S->dZ}{w:(S->Tm->Int->Option (Tm×S))}(h:FC T g cap st w){s:S}{a:Tm}{b:Int}{c:Tm}{d:S}(hw:w s a b=some (c,d)):eP prog T g ([Tm.av a,sI b]++cap) (st s) (Tm.av c) (st d):=by
 have:=h [] s a b c d hw
 rwa [AE,AE] at this
def uv{S:Type}(T:eO)(g:Nat)(cap:List AV)(st:S->dZ)(w:(S->Int->Int->Option (S))):Prop:=
 ∀(X:dZ) (s:S) (a:Int) (b:Int) (c:S),w s a b=some c->eP prog T g ([sI a,sI b]++cap) (st s++X) (AV.tuple []) (st c++X)
def uv.ext{S:Type}{T:eO}{g:Nat}{cap:List AV}{st:S->dZ}{w:(S->Int->Int->Option (S))}(h:uv T g cap st w){Y:dZ}:uv T g cap (λs=>st s++Y) w:=λX s a b c hw=>by
 have:=h (Y++X) s a b c hw
 rwa [<-tM,<-tM] at this
def uv.at0{S:Type}{T:eO}{g:Nat}{cap:List AV}{st:S->dZ}{w:(S->Int->Int->Option (S))}(h:uv T g cap st w){s:S}{a b:Int}{c:S}(hw:w s a b=some c):eP prog T g ([sI a,sI b]++cap) (st s) (AV.tuple []) (st c):=by
 have:=h [] s a b c hw
 rwa [AE,AE] at this
def ED{S:Type}(T:eO)(g:Nat)(cap:List AV)(st:S->dZ)(w:(S->Tm->Int->Option (S))):Prop:=
 ∀(X:dZ) (s:S) (a:Tm) (b:Int) (c:S),w s a b=some c->eP prog T g ([Tm.av a,sI b]++cap) (st s++X) (AV.tuple []) (st c++X)
def ED.at0{S:Type}{T:eO}{g:Nat}{cap:List AV}{st:S->dZ}{w:(S->Tm->Int->Option (S))}(h:ED T g cap st w){s:S}{a:Tm}{b:Int}{c:S}(hw:w s a b=some c):eP prog T g ([Tm.av a,sI b]++cap) (st s) (AV.tuple []) (st c):=by
 have:=h [] s a b c hw
 rwa [AE,AE] at this
def ub{S:Type}(T:eO)(g:Nat)(cap:List AV)(st:S->dZ)(w:(S->Int->Int->Option (Tm×S))):Prop:=
 ∀(X:dZ) (s:S) (a:Int) (b:Int) (c:Tm) (d:S),w s a b=some (c,d)->eP prog T g ([sI a,sI b]++cap) (st s++X) (Tm.av c) (st d++X)
def ub.ext{S:Type}{T:eO}{g:Nat}{cap:List AV}{st:S->dZ}{w:(S->Int->Int->Option (Tm×S))}(h:ub T g cap st w){Y:dZ}:ub T g cap (λs=>st s++Y) w:=λX s a b c d hw=>by
 have:=h (Y++X) s a b c d hw
 rwa [<-tM,<-tM] at this
def ub.at0{S:Type}{T:eO}{g:Nat}{cap:List AV}{st:S->dZ}{w:(S->Int->Int->Option (Tm×S))}(h:ub T g cap st w){s:S}{a b:Int}{c:Tm}{d:S}(hw:w s a b=some (c,d)):eP prog T g ([sI a,sI b]++cap) (st s) (Tm.av c) (st d):=by
 have:=h [] s a b c d hw
 rwa [AE,AE] at this
end Go.Proofs.YtpgdkkomegalnaaGreatDoor
set_option maxRecDepth 20000
set_option maxHeartbeats 4000000
namespace Go.Proofs.YtpgdkkomegalnaaGreatDoor
open Go Go.ld Go.fF Tryz
def N9:C1 prog 30 fc Tm.av sI:=by
 refine v1 func30 λT H a0 r m e=>?_;rw[fc] at m;exact au
@[reducible,instance] def ac7:=@Kc.mk prog 30 _ @N9
def M7:C2 prog 31 gY Tm.av sI (sL Tm.av):=by
 refine v2 func31 λT H a0 a1 r m e=>?_;rw[gY] at m;exact au
@[reducible,instance] def aaO:=@Kc.mk prog 31 _ @M7
def OL:C2 prog 28 iN Tm.av Ty.av Tm.av:=by
 refine v2 func28 λT H a0 a1 r m e=>?_;rw[iN] at m;have e:=Aj e (show AV.agg [sI 2,sI 0,sI a0.alX,sL Ty.av a0.alY,AV.slice .gK [Tm.av a1]]=Tm.av (Tm.mk 2 0 a0 [a1]) by rw[Tm.eU];rfl);exact au
@[reducible,instance] def adH:=@Kc.mk prog 28 _ @OL
def M5:C0 prog 26 pN Ty.av:=by
 refine v0 func26 λT H r m e=>?_;rw[pN] at m;exact au
@[reducible,instance] def aaw:=@Kc.mk prog 26 _ @M5
def OT:C0 prog 41 gA Ty.av:=by
 refine v0 func41 λT H r m e=>?_;rw[gA] at m;exact au
@[reducible,instance] def aco:=@Kc.mk prog 41 _ @OT
def E_:C2 prog 53 rH Ty.av Ty.av (sL Ty.av):=by
 refine v2 func53 λT H a0 a1 r m e=>?_;rw[rH] at m;simp[e];refine Wn m 999 (λs1 f h=>∃a,h=H/\f.1 1=sL Ty.av a1/\f.1 5=sI s1.1/\bx f 2 [sI s1.2.1,sT a Ty.av s1.2.2]/\bx f 4 [sI 0,nL]) ⟨.gK,aaD⟩ (λs1 _ _ _ _ _ E m z p=>?_);have⟨v9,v10,v11⟩:=s1;have⟨a,E⟩:=E;have e:=Aj e E;dsimp only[GN]at m;apply Ir e m<;>intro e m
 ·cases m;have m:=Qb z;dsimp only[GN]at m;exact au
 refine sw [8,0] ?_;intro b e m;cases m;exact p _ _ _ ⟨.full,aaD⟩ z
@[reducible,instance] def abX:=@Kc.mk prog 53 _ @E_
def yy:C0 prog 35 sA Ty.av:=by
 refine v0 func35 λT H r m e=>?_;rw[sA] at m;exact aa
@[reducible,instance] def UX:=@Kc.mk prog 35 _ @yy
def nT{n:Nat}:C1 prog 285 (mz n) (t2 sI sB) Ty.av:=by
 refine i1 λn ih=>u1 4 func285 λT H a0 r m e=>?_;rw[mz] at m;simp[e];refine D3 m 3 999 (λb f h=>∃v2,(h=H/\f.1 4=sI v2/\bx f 1 (Ty.av a0).cells)/\b v2=some r) ?_ (λb _ g m=>?_)
 ·rintro _ _ ⟨v2,E,m⟩;refine sw [10,7,0] ?_;intro e m;refine Wr e m 999 (λc a f h=>h=H/\f.1 5=sI a/\f.1 25=sL Ty.av a0.alY/\f.1 26=sI (eA a0.alY)/\f.1 27=sI c) aaD (λa _ _ _ E m=>?_) (λc _ a _ _ _ _ _ E e m z p=>?_)
  ·exact aa
  exact aa
 simp[e];refine wj 999 0 (λf h=>h=H/\f.1 4=sI 0/\f.1 11=sI a0.alX/\f.1 12=sB (fp (eo a0.alX 1) true (fp (eo a0.alX 2) true (eo a0.alX 5)))/\bx f 1 (Ty.av a0).cells) (λ_ g=>?_) ?_
 ·rcases Pb (eo a0.alX 1) e with e|e
  ·exact aj
  rcases Pb (eo a0.alX 2) e with e|e
  ·exact aj
  exact aj
 rintro _ _ E;have e:=Aj e E;apply Iq e m<;>intro e m
 ·apply wg 999;exact jo
 apply wg 1;simp[e];refine wj 999 999 (λf h=>h=H/\f.1 16=sB (fp (eo a0.alX 3) true (eo a0.alX 4))/\bx f 1 (Ty.av a0).cells) (λ_ g=>?_) ?_
 ·rcases Pb (eo a0.alX 3) e with e|e
  ·exact aj
  exact aj
 rintro _ _ E;refine sw [10,12] ?_;intro e m;exact jo
@[reducible,instance] def Ut:=@Kc.mk prog 285 _ @nT
def n7:C1 prog 228 je (t2 sI sI) Ty.av:=by
 refine v1 func228 λT H a0 r m e=>?_;rw[je] at m;exact aa
@[reducible,instance] def Uy:=@Kc.mk prog 228 _ @n7
def CK:C1 prog 166 rZ sI Ty.av:=by
 refine v1 func166 λT H a0 r m e=>?_;rw[rZ] at m;exact aa
@[reducible,instance] def ZC:=@Kc.mk prog 166 _ @CK
def vn:C1 prog 128 nu sI (sL Ty.av):=by
 refine v1 func128 λT H a0 r m e=>?_;rw[nu] at m;refine sw [7,0] ?_;intro e m;exact Wb e m 999 11 [9,10] [] nI
@[reducible,instance] def Vz:=@Kc.mk prog 128 _ @vn
def vR(T:eO)(c:oc T){H:dZ}{a0 a:Int}{b:Bool}(hm:wP a0=some (a,b)):eP prog T 286 [sI a0] H (AV.tuple [sI a,sB b]) H:=by
 rw[wP] at hm;have e:=c;refine wi al2 func286 [] [] 3 ?_;simp[e];refine wA 999 999 [0] [] (λf=>f.1 9=sB (fp (pg a0 1) true (qa a0 14))) [] (λ_ g=>?_) ?_
 ·exact aa
 intro _ e m;have m:=hm;exact aa
@[reducible,instance] def aaE:=@Kc.mk prog 286 _ @vR
def zT:C1 prog 287 wC sB sI:=by
 refine u1 2 func287 λT H a0 r m e=>?_;rw[wC] at m;simp[e];refine wB 999 999 [] [] (λf=>f.1 2=sB (fp (eo a0 2) true (fp (eo a0 6) true (eo a0 9)))) λ_ g=>?_;exact aa
def qY:C1 prog 237 ov sB Ty.av:=by
 refine u1 2 func237 λT H a0 r m e=>?_;rw[ov] at m;simp[e];refine wB 999 999 [] [] (λf=>f.1 2=sB (fp (eo a0.alX 0) (eo (eA a0.alY) 0) false)) λ_ g=>?_;exact aa
def np(T:eO)(l:oc T):∀(n:Nat),(∀{H:dZ} {a0:Tm} {c:Int} {d:Bool} (hm:jH n a0=some (c,d)),eP prog T 229 [Tm.av a0] H (AV.tuple [sI c,sB d]) H):=by
  intro n
  induction n with
  |zero=>
    skip
    all_goals(intro _ _;intros;rename_i hm;cases hm)
  |succ n ih=>
 intro H a0 c d hm;rw[jH] at hm;have e:=l;refine wi al2 func229 [] [] 5 ?_;have m:=hm;refine sw [0,2,0] ?_;intro i j e m;refine wA 999 0 [] [1] (λf=>f.1 42=sB (fp j (fp (eL (eA a0.alY) i) true (fp (pg a0.al0 0) true (fp (eL a0.al0 0) (eL a0.alX 1) false))) true)) [13] (λ_ g=>?_) ?_
 ·rcases Pb j e with e|e;rotate_left
  ·exact aj
  rcases Pb (eL (eA a0.alY) i) e with e|e
  ·exact aj
  rcases Pb (pg a0.al0 0) e with e|e
  ·exact aj
  rcases Pb (eL a0.al0 0) e with e|e
  ·exact aj
  exact aj
 intro _ e m;apply wg 2;simp[e];refine Wj m 999 999 (λk f h=>(h=H/\f.1 1=AV.ie 1 (f.gen 1) 0/\f.box 1=some (Tm.av a0).cells)/\k=some (c,d)) (λk _ g m=>?_) ?_
 ·simp[e];refine qK m zT λ_ m=>?_;apply Iq e m<;>intro e m
  ·simp[e];refine EJ m n7 λ_ _ m=>?_;refine Il e m λe m=>?_;exact ak0
  simp[e];refine qK m qY λ_ m=>?_;refine Im e m λe m=>?_;exact ak0
 rintro _ _ ⟨E,m⟩;have e:=Aj e E;simp[e];refine Wr e m 999 (λb a f h=>h=H/\f.1 8=sI a/\f.1 59=sL Tm.av a0.alY/\f.1 60=sI (eA a0.alY)/\f.1 61=sI b) aaD (λa _ _ _ E m=>?_) (λb _ a _ _ _ _ _ E e m z p=>?_)
 ·exact aa
 exact aa
def GU(T:eO)(c:oc T){H:dZ}{a0:Tm}{a:Int}{b:Bool}{n:Nat}(hm:jH n a0=some (a,b)):eP prog T 229 [Tm.av a0] H (AV.tuple [sI a,sB b]) H:=(np T c n) hm
@[reducible,instance] def U2:=@Kc.mk prog 229 _ @GU
def yD(T:eO)(c:oc T){H:dZ}{a0:Tm}{a b:Int}(hm:kC a0=some (a,b)):eP prog T 167 [Tm.av a0] H (AV.tuple [sI a,sI b]) H:=by
 rw[kC] at hm;have e:=c;refine wi al2 func167 [] [] 999 ?_;have m:=hm;exact aa
@[reducible,instance] def UK:=@Kc.mk prog 167 _ @yD
def CQ(T:eO)(b:oc T){H:dZ}{a0:Tm}{a:Int}(hm:pU a0=some a):eP prog T 129 [Tm.av a0] H (sI a) H:=by
 rw[pU] at hm;have e:=b;refine wi al2 func129 [] [] 999 ?_;have m:=hm;exact aa
@[reducible,instance] def Y5:=@Kc.mk prog 129 _ @CQ
def Hr:C1 prog 168 mP dO.av Ty.av:=by
 refine v1 func168 λT H a0 r m e=>?_;rw[mP] at m;exact aa
@[reducible,instance] def acp:=@Kc.mk prog 168 _ @Hr
def xR:C1 prog 130 oi (sL dO.av) (sL Ty.av):=by
 refine v1 func130 λT H a0 r m e=>?_;rw[oi] at m;simp[e];refine Td e m 999 8 [6,7] [] [16] (λs2=>s2) (λs2 a f=>f.1 3=sT a dO.av s2) λh _ s2 c _ _ _ _ E e m z p=>?_;have⟨a,E,b⟩:=E;refine sw [20,0,1,9,0] ?_;intro d e m;refine Ao (f:=dO.av) s2 [d] b Y0 e.2 ?_;simp[e];cases m;exact p _ _ _ ⟨(.loc 16 (c.fo 16+1)),aaD,(On 16)⟩ z
@[reducible,instance] def ZE:=@Kc.mk prog 130 _ @xR
def Lc:C3 prog 169 rS (t2 dO.av sI) sI dO.av dO.av:=by
 refine v3 func169 λT H a0 a1 a2 r m e=>?_;rw[rS] at m;refine Il e m λe m=>?_;have e:=Aj e (show AV.agg [sI a0,AV.slice .gK [Ty.av a1.dN,Ty.av a2.dN],sI (eW .i64 (eW .i64 1 a1.alZ) a2.alZ)]=dO.av (dO.mk (Ty.mk a0 [a1.dN,a2.dN]) (eW .i64 (eW .i64 1 a1.alZ) a2.alZ)) by rw[dO.eU];rfl);exact au
@[reducible,instance] def Y_:=@Kc.mk prog 169 _ @Lc
def Bp:C1 prog 230 jY (sL sI) sI:=by
 refine v1 func230 λT H a0 r m e=>?_;rw[jY] at m;exact aa
@[reducible,instance] def X6:=@Kc.mk prog 230 _ @Bp
def xn:C2 prog 231 jk sB dO.av sI:=by
 refine v2 func231 λT H a0 a1 r m e=>?_;rw[jk] at m;exact au
@[reducible,instance] def SU:=@Kc.mk prog 231 _ @xn
def vH:C2 prog 232 jx dO.av dO.av sI:=by
 refine v2 func232 λT H a0 a1 r m e=>?_;rw[jx] at m;exact aa
@[reducible,instance] def Qn:=@Kc.mk prog 232 _ @vH
def kQ{n:Nat}:C2 prog 133 (gP n) sB Ty.av Ty.av:=by
 refine i2 λn ih=>u2 3 func133 λT H a0 a1 r m e=>?_;rw[gP] at m;simp[e];refine wA 999 999 [] [2,3] (λf=>f.1 20=sB (fp (eL a0.alX a1.alX) true (eL (eA a0.alY) (eA a1.alY)))) [7,0] (λ_ g=>?_) ?_
 ·exact aa
 intro _ e m;exact Wb e m 999 24 [22,23] [3] nI
@[reducible,instance] def VB:=@Kc.mk prog 133 _ @kQ
def vB:C2 prog 233 kD sB dO.av dO.av:=by
 refine u2 2 func233 λT H a0 a1 r m e=>?_;rw[kD] at m;simp[e];refine WB m 999 999 [] [] (λv2 f=>f.1 4=sB v2) λa _ g m=>?_;apply Ir e m<;>intro e m
 ·exact jo
 simp[e];refine qK m kQ λ_ m=>?_;exact jo
@[reducible,instance] def Qm:=@Kc.mk prog 233 _ @vB
def Qz:C0 prog 259 p5 Ty.av:=by
 refine v0 func259 λT H r m e=>?_;rw[p5] at m;exact au
@[reducible,instance] def afN:=@Kc.mk prog 259 _ @Qz
def Qj:C0 prog 288 Ct Ty.av:=by
 refine v0 func288 λT H r m e=>?_;rw[Ct] at m;exact au
@[reducible,instance] def acC:=@Kc.mk prog 288 _ @Qj
def J7:C2 prog 260 uK Ty.av Ty.av (sL Ty.av):=by
 refine v2 func260 λT H a0 a1 r m e=>?_;rw[uK] at m;simp[e];refine Wn m 999 (λs1 f h=>∃a,h=H/\f.1 1=sL Ty.av a1/\f.1 5=sI s1.1/\bx f 2 [sI s1.2.1,sT a Ty.av s1.2.2]/\bx f 4 [sI 0,nL]) ⟨.gK,aaD⟩ (λs1 _ _ _ _ _ E m z p=>?_);have⟨v9,v10,v11⟩:=s1;have⟨a,E⟩:=E;have e:=Aj e E;dsimp only[GN]at m;apply Ir e m<;>intro e m
 ·cases m;have m:=Qb z;dsimp only[GN]at m;exact au
 refine sw [8,0] ?_;intro b e m;cases m;exact p _ _ _ ⟨.full,aaD⟩ z
@[reducible,instance] def afJ:=@Kc.mk prog 260 _ @J7
def C6:C1 prog 234 p3 Ty.av Tm.av:=by
 refine v1 func234 λT H a0 r m e=>?_;rw[p3] at m;exact aa
@[reducible,instance] def Y7:=@Kc.mk prog 234 _ @C6
def gB:C2 prog 170 gr (t2 dO.av sI) Tm.av (λp=>AV.agg [sI p.1.dN.alX,sL Ty.av p.1.dN.alY,sI p.1.alZ,sI p.2.1.dN.alX,sL Ty.av p.2.1.dN.alY,sI p.2.1.alZ,sI p.2.2.dN.alX,sL Ty.av p.2.2.dN.alY,sI p.2.2.alZ]):=by
 intro T H a0 a1 r hm;rw[gr] at hm;have e:=trivial;refine wi al2 func170 [] [] 7 ?_;have m:=hm;refine sw [0,1,0] ?_;intro F e m;apply Iq e m<;>intro e m
 ·refine sg 999 [8,0] ?_;intro w e m;refine Wr e m 0 (λo _ f h=>h=H/\f.1 6=sL sI F/\f.1 18=sL sI w/\f.1 19=sI (eA w)/\f.1 20=sI o/\bx f 3 [sI a1.1.dN.alX,sL Ty.av a1.1.dN.alY,sI a1.1.alZ,sI a1.2.1.dN.alX,sL Ty.av a1.2.1.dN.alY,sI a1.2.1.alZ,sI a1.2.2.dN.alX,sL Ty.av a1.2.2.dN.alY,sI a1.2.2.alZ]/\bx f 4 [sI 0,nL,sI 0]) aaD (λ_ a _ _ E m=>?_) (λo _ _ a _ _ _ x E e m q s=>?_)
  ·have e:=Aj e E;refine sg 999 [11,8,0,1] ?_;intro G _ e m;cases m;simp[e]
  have e:=Aj e E;apply wg 9;simp[e];refine D3 m 999 999 (λt f h=>∃l,(h=H/\f.1 6=sL sI F/\f.1 18=sL sI w/\f.1 19=sI (eA w)/\f.1 20=sI o/\f.1 30=sB l/\bx f 3 [sI a1.1.dN.alX,sL Ty.av a1.1.dN.alY,sI a1.1.alZ,sI a1.2.1.dN.alX,sL Ty.av a1.2.1.dN.alY,sI a1.2.1.alZ,sI a1.2.2.dN.alX,sL Ty.av a1.2.2.dN.alY,sI a1.2.2.alZ]/\bx f 4 [sI 0,nL,sI 0])/\t l=some x) ?_ (λt _ b m=>?_)
  ·rintro _ _ ⟨l,E,m⟩;have e:=Aj e E;apply Iq e m<;>intro e m
   ·cases m;cases q;simp[e]
   simp[e];cases m;exact s _ _ _ aaD q
  apply Iq e m<;>intro e m
  ·have e:=Aj e (GB (j:=0) Gu Br aaD aar:gJ prog 194 (AV.ie 3 (a.gen 3) 0) (sI o)=some (AV.ie 3 (a.gen 3) 0));refine sw [0,1,0] ?_;intro y e m;exact b _ _ ⟨(lV y),aaD,m⟩
  apply Iq e m<;>intro e m
  ·have e:=Aj e (GB (j:=1) Gu Br aaD aar:gJ prog 194 (AV.ie 3 (a.gen 3) 0) (sI o)=some (AV.ie 3 (a.gen 3) 3));refine sw [0,1,0] ?_;intro A e m;exact b _ _ ⟨(lV A),aaD,m⟩
  have⟨e,m⟩:=Ck e m;have e:=Aj e (GB (j:=2) Gu Br aaD aar:gJ prog 194 (AV.ie 3 (a.gen 3) 0) (sI o)=some (AV.ie 3 (a.gen 3) 6));refine sw [0,1,0] ?_;intro B e m;exact b _ _ ⟨(lV B),aaD,m⟩
 apply wg 8;simp[e];apply Iq e m<;>intro e m
 ·apply wg 2;simp[e];refine D3 m 999 999 (λu f h=>∃v24,(h=H/\f.1 54=sB v24/\bx f 3 [sI a1.1.dN.alX,sL Ty.av a1.1.dN.alY,sI a1.1.alZ,sI a1.2.1.dN.alX,sL Ty.av a1.2.1.dN.alY,sI a1.2.1.alZ,sI a1.2.2.dN.alX,sL Ty.av a1.2.2.dN.alY,sI a1.2.2.alZ]/\bx f 4 [sI 0,nL,sI 0])/\u v24=some r) ?_ (λu _ d m=>?_)
  ·rintro _ _ ⟨v24,E,m⟩;have e:=Aj e E;apply Iq e m<;>intro e m
   ·cases m;simp[e]
   refine sw [0,1] ?_;intro _ e m;cases m;simp[e]
  refine sw [0,4] ?_;intro _ e m;apply Ir e m<;>intro e m
  ·simp[e];exact d _ _ ⟨true,aaD,m⟩
  refine sw [0,4,0,4,0] ?_;intro _ C e m;exact d _ _ ⟨(lV C),aaD,m⟩
 apply wg 1;simp[e];refine wA 999 0 [39] [2,3,4] (λf=>f.1 59=sB (fp (eo a0.alX 6) true (eo a0.alX 9))) [] (λ_ i=>?_) ?_
 ·rcases Pb (eo a0.alX 6) e with e|e
  ·simp[e];exact i _ _ aaD
  simp[e];exact i _ _ aaD
 intro _ e m;apply Ir e m<;>intro e m
 ·apply wg 999;apply Iq e m<;>intro e m
  ·refine sw [0,2] ?_;intro _ _ e m;cases m;simp[e]
  refine sw [0,1] ?_;intro _ e m;apply Ir e m<;>intro e m
  ·cases m;simp[e]
  apply Iq e m<;>intro e m
  ·refine sw [0,1] ?_;intro _ e m;cases m;simp[e]
  refine sw [0,1] ?_;intro _ e m;cases m;simp[e]
 refine sg 3 [0,1,0] ?_;intro n e m;refine wA 2 1 [] [2,3,4,9] (λf=>f.1 10=sI (fp (eo a0.alX 9) 2 1)) [0] (λ_ k=>?_) ?_
 ·simp[e];rcases Pb (eo a0.alX 9) e with e|e
  ·apply wg 999;simp[e];exact k _ _ aaD
  apply wg 999;simp[e];exact k _ _ aaD
 intro _ e m;refine D3 m 999 999 (λv f h=>∃v46,(h=H/\f.1 88=sB v46/\bx f 4 [sI 0,nL,sI 0]/\bx f 9 [sI n.dN.alX,sL Ty.av n.dN.alY,sI n.alZ])/\v v46=some r) ?_ (λv _ c m=>?_)
 ·rintro _ _ ⟨v46,E,m⟩;have e:=Aj e E;apply Iq e m<;>intro e m
  ·cases m;simp[e]
  cases m;simp[e]
 refine sw [0,4] ?_;intro _ e m;apply Ir e m<;>intro e m
 ·simp[e];exact c _ _ ⟨true,aaD,m⟩
 refine sw [0,4,0,4] ?_;intro _ _ e m;apply Ir e m<;>intro e m
 ·simp[e];exact c _ _ ⟨true,aaD,m⟩
 refine sw [0,4,0] ?_;intro D e m;exact c _ _ ⟨(lV D),aaD,m⟩
@[reducible,instance] def ZB:=@Kc.mk prog 170 _ @gB
def gN{n:Nat}:C2 prog 131 (eZ n) (t2 dO.av sI) (sL dO.av) Tm.av:=by
 refine i2 λn ih=>v2 func131 λT H a0 a1 r m e=>?_;rw[eZ] at m;refine sw [13] ?_;intro e m;apply Iq e m<;>intro e m
 ·refine sw [0,1,9,0] ?_;intro K e m;refine Ad (f:=dO.av) a0 [K] (hX.full (D:=[])) Y0 e.2 ?_;exact aa
 simp[e];refine Wr e m 0 (λx o f h=>∃a b c,h=H/\f.1 0=sL dO.av a0/\f.1 65=sL Tm.av a1.alY/\f.1 66=sI (eA a1.alY)/\f.1 67=sI x/\bx f 3 (Tm.av a1).cells/\bx f 4 [sI 0,nL,sI 0]/\bx f 9 [sI o.1,sT a Ty.av o.2.1,sI o.2.2.1,sI o.2.2.2.1,sT b Ty.av o.2.2.2.2.1,sI o.2.2.2.2.2.1,sI o.2.2.2.2.2.2.1,sT c Ty.av o.2.2.2.2.2.2.2.1,sI o.2.2.2.2.2.2.2.2]) ⟨.full,.full,.full,aaD⟩ (λo d _ _ E m=>?_) (λx _ o d _ _ _ A E e m z p=>?_)
 ·have⟨B,C,v20,v21,F,G,v24,I,J⟩:=o;have⟨a,b,c,E⟩:=E;have e:=Aj e E;apply wg 999;dsimp only[eC,XC]at m;exact aa
 have⟨B,C,v20,v21,F,G,v24,I,J⟩:=o;have⟨a,b,c,E⟩:=E;have e:=Aj e E;dsimp only[XC]at m;apply wg 5;simp[e];refine D3 m 999 999 (λy f h=>∃v30 v31 q s t u v v37 w i k l,(h=H/\f.1 0=sL dO.av a0/\f.1 65=sL Tm.av a1.alY/\f.1 66=sI (eA a1.alY)/\f.1 67=sI x/\bx f 3 (Tm.av a1).cells/\bx f 4 [sI 0,nL,sI 0]/\bx f 9 [sI v30,sT i Ty.av v31,sI q,sI s,sT k Ty.av t,sI u,sI v,sT l Ty.av v37,sI w])/\y v30 v31 q s t u v v37 w=some A) ?_ (λy _ g m=>?_)
 ·rintro _ _ ⟨v30,v31,q,s,t,u,v,v37,w,i,k,l,E,m⟩;have e:=Aj e E;simp[e];cases m;exact p _ _ _ ⟨i,k,l,aaD⟩ z
 refine sw [0,16,7] ?_;intro _ _ e m;apply Iq e m<;>intro e m
 ·have e:=Aj e (GB (j:=0) Gu Br aaD aar:gJ prog 194 (AV.ie 9 (d.gen 9) 0) (sI x)=some (AV.ie 9 (d.gen 9) 0));simp[e];exact g _ _ ⟨_,_,_,_,_,_,_,_,_,.gK,b,c,aaD,m⟩
 apply Iq e m<;>intro e m
 ·have e:=Aj e (GB (j:=1) Gu Br aaD aar:gJ prog 194 (AV.ie 9 (d.gen 9) 0) (sI x)=some (AV.ie 9 (d.gen 9) 3));simp[e];exact g _ _ ⟨_,_,_,_,_,_,_,_,_,a,.gK,c,aaD,m⟩
 have⟨e,m⟩:=Ck e m;have e:=Aj e (GB (j:=2) Gu Br aaD aar:gJ prog 194 (AV.ie 9 (d.gen 9) 0) (sI x)=some (AV.ie 9 (d.gen 9) 6));simp[e];exact g _ _ ⟨_,_,_,_,_,_,_,_,_,a,b,.gK,aaD,m⟩
@[reducible,instance] def Mo:=@Kc.mk prog 131 _ @gN
def xg{n:Nat}:C1 prog 132 (kF n) Ty.av Ty.av:=by
 refine i1 λn ih=>v1 func132 λT H a0 r m e=>?_;rw[kF] at m;simp[e];refine Td e m 999 12 [10,11] [2] [21] (λs2=>s2) (λs2 a f=>bx f 3 [sI a0.alX,sT a Ty.av s2]) λh _ s2 c _ _ _ _ E e m z p=>?_;have⟨a,E,b⟩:=E;refine sw [20,0,18,9,0] ?_;intro d e m;refine Ad (f:=Ty.av) s2 [d] b FZ e.2 ?_;simp[e];cases m;exact p _ _ _ ⟨(.loc 21 (c.fo 21+1)),aaD,(On 21)⟩ z
@[reducible,instance] def Yo:=@Kc.mk prog 132 _ @xg
def AY(T:eO)(c:oc T){H:dZ}{a0:List Ty}{a1:Tm}{a:Ty}{b:Int}(hm:sn a0 a1=some (a,b)):eP prog T 96 [sL Ty.av a0,Tm.av a1] H (AV.tuple [Ty.av a,sI b]) H:=by
 rw[sn] at hm;have e:=c;refine wi al2 func96 [] [] 999 ?_;have m:=hm;exact aa
@[reducible,instance] def YU:=@Kc.mk prog 96 _ @AY
def D7:C2 prog 97 zE sB Ty.av Ty.av:=by
 refine v2 func97 λT H a0 a1 r m e=>?_;rw[zE] at m;exact aa
def vj(T:eO)(b:oc T){H:dZ}{a0:Tm}{a1:Ty}{a:Int}(hm:iR a0 a1=some a):eP prog T 34 [Tm.av a0,Ty.av a1] H (sI a) H:=by
 rw[iR] at hm;have e:=b;refine wi al2 func34 [] [] 5 ?_;have m:=hm;refine sw [0,2,0] ?_;intro _ c e m;refine WB m 999 999 [6] [] (λv4 f=>f.1 19=sB v4) λd _ g m=>?_;apply Ir e m<;>intro e m
 ·exact jo
 simp[e];refine qK m D7 λ_ m=>?_;exact jo
@[reducible,instance] def VV:=@Kc.mk prog 34 _ @vj
def H8:C1 prog 36 iP (t3 Fm.av Pf.av sI) sI:=by
 refine v1 func36 λT H a0 r m e=>?_;rw[iP] at m;exact au
@[reducible,instance] def VO:=@Kc.mk prog 36 _ @H8
def P':C1 prog 98 Gn Tm.av sI:=by
 refine v1 func98 λT H a0 r m e=>?_;rw[Gn] at m;exact au
@[reducible,instance] def acz:=@Kc.mk prog 98 _ @P'
def Ku:C1 prog 38 fj Tm.av sI:=by
 refine v1 func38 λT H a0 r m e=>?_;rw[fj] at m;exact aa
@[reducible,instance] def aec:=@Kc.mk prog 38 _ @Ku
def RP:C2 prog 55 lk Tm.av sI (sL Tm.av):=by
 refine v2 func55 λT H a0 a1 r m e=>?_;rw[lk] at m;exact au
@[reducible,instance] def ael:=@Kc.mk prog 55 _ @RP
def CJ:C2 prog 37 h7 Tm.av Tm.av (sL Tm.av):=by
 refine v2 func37 λT H a0 a1 r m e=>?_;rw[h7] at m;simp[e];refine Wr e m 999 (λd s2 f h=>h=H/\f.1 7=sL Tm.av a1/\f.1 8=sI (eA a1)/\f.1 9=sI d/\bx f 2 [sI s2.1,sI s2.2.1,sI s2.2.2.1,sL Ty.av s2.2.2.2.1,sL Tm.av s2.2.2.2.2]/\bx f 4 [sI 0,sI 0,sI 0,nL,nL]) aaD (λs2 _ _ _ E m=>?_) (λd _ s2 _ _ _ _ _ E e m z p=>?_)
 ·have⟨v11,v12,a,b,c⟩:=s2;have e:=Aj e E;dsimp only[eC,Dn]at m;exact au
 have⟨v11,v12,a,b,c⟩:=s2;have e:=Aj e E;dsimp only[Dn]at m;exact aa
@[reducible,instance] def Zz:=@Kc.mk prog 37 _ @CJ
def oB{n:Nat}:C3 prog 56 (lJ n) Tm.av Tm.av sI sI:=by
 refine i3 λn ih=>u3 5 func56 λT H a0 a1 a2 r m e=>?_;rw[lJ] at m;refine sw [0,13] ?_;intro e m;apply wg 5;simp[e];apply Iq e m<;>intro e m
 ·apply wg 1;simp[e];refine wB 999 999 [] [6] (λf=>bx f 3 [sI a0.alX,sI (fp (qa a0.al0 a1) (eW .i64 a0.al0 a2) a0.al0),sI a0.dN.alX,sL Ty.av a0.dN.alY,sL Tm.av a0.alY]) λ_ g=>?_;rcases Pb (qa a0.al0 a1) e with e|e
  ·exact aj
  exact aj
 apply wg 2;simp[e];refine wA 999 999 [] [3,6] (λf=>f.1 1=sI (fp (eo a0.alX 2) (eW .i64 a1 1) a1)/\f.1 2=sI a2) [0] (λ_ g=>?_) ?_
 ·rcases Pb (eo a0.alX 2) e with e|e
  ·exact aj
  exact aj
 intro _ e m;refine Td e m 999 36 [1,2,34,35] [6] [47] (λb=>b) (λb a f=>bx f 7 [sI a0.alX,sI a0.al0,sI a0.dN.alX,sL Ty.av a0.dN.alY,sT a Tm.av b]) λi _ b d _ _ _ _ E e m z p=>?_;have⟨a,E,c⟩:=E;refine sw [20,0,18,9,0] ?_;intro h e m;refine Ad (f:=Tm.av) b [h] c zY e.2 ?_;simp[e];cases m;exact p _ _ _ ⟨(.loc 47 (d.fo 47+1)),aaD,(On 47)⟩ z
@[reducible,instance] def acg:=@Kc.mk prog 56 _ @oB
def PN:C2 prog 48 mR Fm.av Tm.av Tm.av:=by
 refine v2 func48 λT H a0 a1 r m e=>?_;rw[mR] at m;have e:=Aj e (show AV.agg [sI 1,sI 0,AV.slice .gK [],AV.slice .gK [Tm.av a0,Tm.av a1],AV.slice .gK []]=Fm.av (Fm.mk 1 (Ty.mk 0 []) [a0,a1] []) by rw[Fm.eU];rfl);exact au
@[reducible,instance] def acN:=@Kc.mk prog 48 _ @PN
def Rr:C3 prog 40 pz Fm.av sI Ty.av Fm.av:=by
 refine v3 func40 λT H a0 a1 a2 r m e=>?_;rw[pz] at m;have e:=Aj e (show AV.agg [sI a0,sI a1.alX,sL Ty.av a1.alY,AV.slice .gK [],AV.slice .gK [Fm.av a2]]=Fm.av (Fm.mk a0 a1 [] [a2]) by rw[Fm.eU];rfl);exact au
@[reducible,instance] def aej:=@Kc.mk prog 40 _ @Rr
def Ag:C1 prog 42 fR Fm.av Tm.av:=by
 refine v1 func42 λT H a0 r m e=>?_;rw[fR] at m;exact aa
@[reducible,instance] def VT:=@Kc.mk prog 42 _ @Ag
def Lr:C1 prog 45 kS Pf.av Tm.av:=by
 refine v1 func45 λT H a0 r m e=>?_;rw[kS] at m;have e:=Aj e (show AV.agg [sI 18,sI 0,sI 0,AV.slice .gK [],AV.slice .gK [Tm.av a0],AV.slice .gK [],AV.slice .gK []]=Pf.av (Pf.mk 18 0 (Ty.mk 0 []) [a0] [] []) by rw[Pf.eU];rfl);exact au
@[reducible,instance] def ZX:=@Kc.mk prog 45 _ @Lr
def Jy:C3 prog 44 jT Pf.av Fm.av Tm.av Pf.av:=by
 refine v3 func44 λT H a0 a1 a2 r m e=>?_;rw[jT] at m;have e:=Aj e (show AV.agg [sI 10,sI 0,sI 0,AV.slice .gK [],AV.slice .gK [Tm.av a1],AV.slice .gK [Fm.av a0],AV.slice .gK [Pf.av a2]]=Pf.av (Pf.mk 10 0 (Ty.mk 0 []) [a1] [a0] [a2]) by rw[Pf.eU];rfl);exact au
@[reducible,instance] def WI:=@Kc.mk prog 44 _ @Jy
def MW:C2 prog 43 p1 Pf.av Ty.av Pf.av:=by
 refine v2 func43 λT H a0 a1 r m e=>?_;rw[p1] at m;have e:=Aj e (show AV.agg [sI 8,sI 0,sI a0.alX,sL Ty.av a0.alY,AV.slice .gK [],AV.slice .gK [],AV.slice .gK [Pf.av a1]]=Pf.av (Pf.mk 8 0 a0 [] [] [a1]) by rw[Pf.eU];rfl);exact au
@[reducible,instance] def ab4:=@Kc.mk prog 43 _ @MW
def qS:C1 prog 235 rM sB Fm.av:=by
 refine u1 4 func235 λT H a0 r m e=>?_;rw[rM] at m;simp[e];refine D3 m 5 0 (λa f h=>∃v2 v3 v4,(h=H/\f.1 3=sI v2/\f.1 4=sI v3/\f.1 5=sB v4/\bx f 1 (Fm.av a0).cells)/\a v2 v3 v4=some r) ?_ (λa _ g m=>?_)
 ·rintro _ _ ⟨v2,v3,v4,E,m⟩;have e:=Aj e E;refine Wj m 999 0 (λb f h=>(h=H/\f.1 3=sI v2/\f.1 4=sI v3/\bx f 1 (Fm.av a0).cells)/\b=some r) (λb _ g m=>?_) ?_
  ·apply Iq e m<;>intro e m
   ·simp[e];refine EJ m n7 λ_ _ m=>?_;refine Il e m λe m=>?_;exact ak0
   simp[e];refine qK m qY λ_ m=>?_;refine Im e m λe m=>?_;exact ak0
  rintro _ _ ⟨E,m⟩;have e:=Aj e E;refine wB 999 999 [] [] (λf=>f.1 2=sB (fp (eo (eA a0.ei) v2) (eo (eA a0.alY) v3) false)) λ_ g=>?_;exact aa
 simp[e];apply Iq e m<;>intro e m
 ·apply wg 999;exact ak3
 apply wg 1;simp[e];refine wA 999 0 [3,5,9] [1] (λf=>f.1 12=sB (fp (eo a0.alX 2) true (eo a0.alX 3))) [] (λ_ g=>?_) ?_
 ·rcases Pb (eo a0.alX 2) e with e|e
  ·exact aj
  exact aj
 intro _ e m;apply Iq e m<;>intro e m
 ·apply wg 999;exact ak3
 apply wg 1;simp[e];refine wjs 999 999 (λf h=>h=H/\f.1 3=sI 0/\f.1 15=sB (fp (eo a0.alX 4) true (fp (eo a0.alX 5) true (fp (eo a0.alX 6) true (eo a0.alX 7))))/\bx f 1 (Fm.av a0).cells) ?_ (λ_ g=>?_)
 ·rintro _ _ E;refine sw [10,12] ?_;intro e m;exact ak3
 rcases Pb (eo a0.alX 4) e with e|e
 ·exact aj
 rcases Pb (eo a0.alX 5) e with e|e
 ·exact aj
 rcases Pb (eo a0.alX 6) e with e|e
 ·exact aj
 exact aj
@[reducible,instance] def ZK:=@Kc.mk prog 235 _ @qS
def m5(T:eO)(h:oc T):∀(n:Nat),(∀{H:dZ} {a0:Fm} {a:Int} {b:Bool} (hm:jy n a0=some (a,b)),eP prog T 171 [Fm.av a0] H (AV.tuple [sI a,sB b]) H):=by
  intro n
  induction n with
  |zero=>
   skip
   all_goals(intro _ _;intros;rename_i hm;cases hm)
  |succ n ih=>
 intro H a0 a b hm;rw[jy] at hm;have e:=h;refine wi al2 func171 [] [] 999 ?_;have m:=hm;refine sw [0,1,12,0] ?_;intro _ e m;refine Wa e m 999 19 [17,18] [1] (λd f=>f.1 4=sI d) [11,0] ?_;intro _ d e m;exact Wb e m 999 37 [35,36] [] (λc f=>f.1 4=sI c)
def CE(T:eO)(c:oc T){H:dZ}{a0:Fm}{a:Int}{b:Bool}{n:Nat}(hm:jy n a0=some (a,b)):eP prog T 171 [Fm.av a0] H (AV.tuple [sI a,sB b]) H:=(m5 T c n) hm
@[reducible,instance] def Ql:=@Kc.mk prog 171 _ @CE
def vw(T:eO)(c:oc T){H:dZ}{a0:Fm}{a b:Int}(hm:iX a0=some (a,b)):eP prog T 134 [Fm.av a0] H (AV.tuple [sI a,sI b]) H:=by
 rw[iX] at hm;have e:=c;refine wi al2 func134 [] [] 999 ?_;have m:=hm;exact aa
@[reducible,instance] def Qr:=@Kc.mk prog 134 _ @vw
def z_(T:eO)(b:oc T){H:dZ}{a0:Fm}{a:Int}(hm:km a0=some a):eP prog T 99 [Fm.av a0] H (sI a) H:=by
 rw[km] at hm;have e:=b;refine wi al2 func99 [] [] 999 ?_;have m:=hm;exact aa
@[reducible,instance] def VK:=@Kc.mk prog 99 _ @z_
def uw(T:eO)(c:oc T){H:dZ}{a0:Int}{a:fA}{b:Bool}(hm:pA a0=some (a,b)):eP prog T 236 [sI a0] H (AV.tuple [fA.av a,sB b]) H:=by
 rw[pA] at hm;have e:=c;refine wi al2 func236 [] [] 3 ?_;simp[e];refine wA 999 999 [] [2] (λf=>f.1 0=sI a0/\f.1 9=sB (fp (pg a0 1) true (qa a0 21))) [] (λ_ g=>?_) ?_
 ·exact aa
 intro _ e m;have m:=hm;exact aa
@[reducible,instance] def Zh:=@Kc.mk prog 236 _ @uw
def wI(T:eO){H:dZ}{a0:dY}{a1 a2:Int}{i:Bool}{a:dY}{c:Nat}(b:H[c]?=some [sI a0.alZ,sB a0.ja])(hm:hW a0 a1 a2=some (i,a)):eP prog T 238 [AV.fh c 0,sI a1,sI a2] H (sB i) (gx H c [sI a.alZ,sB a.ja]):=by
 rw[hW] at hm;have d:=e9 b;refine fH.Ng b ?_;have e:=d;refine wi al2 func238 [] [] 4 ?_;simp[e];refine wjs 999 999 (λf h=>h=gx H c [sI (fp a0.ja (dY.mk (eW .i64 a0.alZ a1) true) (dY.mk (eW .i64 a0.alZ a1) (eo a2 4))).alZ,sB (fp a0.ja (dY.mk (eW .i64 a0.alZ a1) true) (dY.mk (eW .i64 a0.alZ a1) (eo a2 4))).ja]/\f.1 2=sI a2) ?_ (λ_ g=>?_)
 ·rintro _ _ E;have e:=Aj e E;cases hm;simp[e]
 exact aa
@[reducible,instance] def QC:=@Kc.mk prog 238 _ @wI
def gT(T:eO)(w:oc T):∀(n:Nat),(∀{H:dZ} {a0:dY} {a1:Pf} {r:Bool} {c:dY} {a:Nat} (k:H[a]?=some [sI a0.alZ,sB a0.ja]) (hm:iO n a0 a1=some (r,c)),eP prog T 172 [AV.fh a 0,Pf.av a1] H (sB r) (gx H a [sI c.alZ,sB c.ja])):=by
  intro n
  induction n with
  |zero=>
    skip
    all_goals(intro _ _;intros;rename_i hm;cases hm)
  |succ n ih=>
 intro H a0 a1 r c a k hm;rw[iO] at hm;have t:=e9 k;refine fH.Ng k ?_;have e:=Aj w t;refine wi al2 func172 [] [] 5 ?_;have m:=hm;refine sw [0,2,0] ?_;intro b u e m;refine wA 999 0 [] [3,5] (λf=>f.1 0=AV.fh a 0/\f.1 61=sB (fp u (fp (pg a1.al0 0) true (fp (eL a1.al0 0) (fp b.al0 (fp (eL (eA a1.ei) b.ei) true (fp (eL (eA a1.fZ) b.fZ) true (eL (eA a1.alY) b.alY))) true) (fp (eL (eA a1.ei) b.ei) true (fp (eL (eA a1.fZ) b.fZ) true (eL (eA a1.alY) b.alY))))) true)) [13] (λ_ g=>?_) ?_
 ·rcases Pb u e with e|e;rotate_left
  ·exact aj
  rcases Pb (pg a1.al0 0) e with e|e
  ·exact aj
  rcases Pb (eL a1.al0 0) e with e|e;rotate_left
  ·rcases Pb (eL (eA a1.ei) b.ei) e with e|e
   ·exact aj
   rcases Pb (eL (eA a1.fZ) b.fZ) e with e|e
   ·exact aj
   exact aj
  rcases Pb b.al0 e with e|e;rotate_left
  ·exact aj
  rcases Pb (eL (eA a1.ei) b.ei) e with e|e
  ·exact aj
  rcases Pb (eL (eA a1.fZ) b.fZ) e with e|e
  ·exact aj
  exact aj
 intro _ e m;apply wg 4;simp[e];refine Wj m 999 999 (λv f h=>∃s,(h=gx H a [sI s.alZ,sB s.ja]/\f.1 0=AV.fh a 0/\f.1 3=AV.ie 3 (f.gen 3) 0/\f.box 3=some (Pf.av a1).cells)/\v s=some (r,c)) (λv _ g m=>?_) ?_
 ·apply Iq e m<;>intro e m
  ·simp[e];refine EJ m n7 λ_ _ m=>?_;refine Il e m λe m=>?_;exact jo
  simp[e];refine qK m qY λ_ m=>?_;refine Im e m λe m=>?_;exact jo
 rintro _ _ ⟨s,E,m⟩;have e:=Aj e E;simp[e];refine Zy e m 999 (λl d f h=>h=gx H a [sI d.alZ,sB d.ja]/\f.1 0=AV.fh a 0/\f.1 84=sL Tm.av a1.ei/\f.1 85=sI (eA a1.ei)/\f.1 86=sI l/\bx f 3 (Pf.av a1).cells) aaD (λl _ d _ _ _ _ _ E e m z p=>?_) (λd _ _ _ E m=>?_)
 ·refine sw [10,0,2,0,2] ?_;intro _ _ _ d27 e m;exact aa
 refine sw [10,11,0] ?_;intro e m;refine Zy e m 999 (λo i f h=>h=gx H a [sI i.alZ,sB i.ja]/\f.1 0=AV.fh a 0/\f.1 99=sL Fm.av a1.fZ/\f.1 100=sI (eA a1.fZ)/\f.1 101=sI o/\bx f 3 (Pf.av a1).cells) aaD (λo _ i _ _ _ _ _ E e m z p=>?_) (λi _ _ _ E m=>?_)
 ·refine sw [10,0,2,0,2] ?_;intro _ _ _ d40 e m;exact aa
 refine sw [10,11,0] ?_;intro e m;refine Wr e m 999 (λq j f h=>h=gx H a [sI j.alZ,sB j.ja]/\f.1 0=AV.fh a 0/\f.1 114=sL Pf.av a1.alY/\f.1 115=sI (eA a1.alY)/\f.1 116=sI q) aaD (λj _ _ _ E m=>?_) (λq _ j _ _ _ _ _ E e m z p=>?_)
 ·exact aa
 have e:=Aj e E;simp[e];refine EJ m (ih aaD) λ_ d51 m=>?_;exact aa
def D1(T:eO)(f:oc T){H:dZ}{a0:dY}{a1:Pf}{d:Bool}{a:dY}{b:Nat}(c:H[b]?=some [sI a0.alZ,sB a0.ja]){n:Nat}(hm:iO n a0 a1=some (d,a)):eP prog T 172 [AV.fh b 0,Pf.av a1] H (sB d) (gx H b [sI a.alZ,sB a.ja]):=(gT T f n) c hm
@[reducible,instance] def QL:=@Kc.mk prog 172 _ @D1
def m9(T:eO)(c:oc T){H:dZ}{a0:Pf}{a b:Int}(hm:re a0=some (a,b)):eP prog T 135 [Pf.av a0] H (AV.tuple [sI a,sI b]) H:=by
 rw[re] at hm;refine fH.vG (Post:=λx K=>x=AV.tuple [sI a,sI b]/\∃X,K=H++X) ?_ (λ_ _ h=>⟨_,h.2.choose_spec,by rw[h.1];simp[AV.low,AV.iL],h.1,rfl⟩);have e:=c;refine wi al2 func135 [6] [] 8 ?_;have m:=hm;refine sw [0,2,0,14] ?_;intro _ d2 e m;apply wg 1;simp[e];refine wB 999 999 [4] [] (λf=>f.1 12=sB (fp d2.ja true (pj d2.alZ 16384))) λ_ g=>?_;exact aa
@[reducible,instance] def Ti:=@Kc.mk prog 135 _ @m9
def yh(T:eO)(b:oc T){H:dZ}{a0:Pf}{a:Int}(hm:rJ a0=some a):eP prog T 100 [Pf.av a0] H (sI a) H:=by
 rw[rJ] at hm;have e:=b;refine wi al2 func100 [] [] 999 ?_;have m:=hm;exact aa
def xM(T:eO)(a:oc T){H:dZ}{a0:Fm}{a1:Pf}{b:Fm}{c:Pf}{d:Int}(hm:jA a0 a1=some (b,c,d)):eP prog T 39 [Fm.av a0,Pf.av a1] H (AV.tuple [Fm.av b,Pf.av c,sI d]) H:=by
 rw[jA] at hm;have e:=a;refine wi al2 func39 [] [] 4 ?_;have m:=hm;refine sw [0,1,0] ?_;intro _ e m;refine WB m 999 999 [] [2,3,4,5] (λv3 f=>f.1 7=sI v3) λh _ g m=>?_;apply Ir e m<;>intro e m
 ·exact jo
 simp[e];refine qK m (yh T a) λ_ m=>?_;exact jo
@[reducible,instance] def ZJ:=@Kc.mk prog 39 _ @xM
def xw(T:eO)(d:oc T){H:dZ}{a0:Tm}{a:Fm}{b:Pf}{c:Int}(hm:vh a0=some (a,b,c)):eP prog T 11 [Tm.av a0] H (AV.tuple [Fm.av a,Pf.av b,sI c]) H:=by
 rw[vh] at hm;have e:=d;refine wi al2 func11 [] [] 999 ?_;have m:=hm;exact aa
@[reducible,instance] def TE:=@Kc.mk prog 11 _ @xw
def tj:C2 prog 254 nK (sL dO.av) (sL dO.av) (sL Ty.av):=by
 refine v2 func254 λT H a0 a1 r m e=>?_;rw[nK] at m;refine sw [0,4,9,0] ?_;intro a e m;refine Ad (f:=dO.av) a0 a (hX.full (D:=[])) Y0 e.2 ?_;exact au
@[reducible,instance] def NP:=@Kc.mk prog 254 _ @tj
def pM:C3 prog 255 ry sI (sL dO.av) Tm.av sI:=by
 refine u3 5 func255 λT H a0 a1 a2 r m e=>?_;rw[ry] at m;refine sw [0,2,0] ?_;intro _ a e m;refine WB m 999 999 [8] [] (λv4 f=>f.1 22=sB v4) λb _ g m=>?_;apply Ir e m<;>intro e m
 ·exact jo
 simp[e];refine qK m xn λ_ m=>?_;exact jo
@[reducible,instance] def PW:=@Kc.mk prog 255 _ @pM
def rY:C2 prog 257 mI sI (sL dO.av) Tm.av:=by
 refine v2 func257 λT H a0 a1 r m e=>?_;rw[mI] at m;exact aa
@[reducible,instance] def Mg:=@Kc.mk prog 257 _ @rY
def gZ{n:Nat}:C2 prog 239 (jm n) sI (sL dO.av) Fm.av:=by
 refine i2 λn ih=>u2 6 func239 λT H a0 a1 r m e=>?_;rw[jm] at m;simp[e];refine D3 m 1 999 (λi f h=>∃v2,(h=H/\f.1 0=sL dO.av v2/\f.1 3=AV.ie 3 (f.gen 3) 0/\f.box 3=some (Fm.av a1).cells)/\i v2=some r) ?_ (λi _ a m=>?_)
 ·rintro _ _ ⟨v2,E,m⟩;have e:=Aj e E;simp[e];refine Wr e m 999 (λj _ f h=>h=H/\f.1 0=sL dO.av v2/\f.1 28=sL Fm.av a1.alY/\f.1 29=sI (eA a1.alY)/\f.1 30=sI j) aaD (λ_ _ _ _ E m=>?_) (λj _ _ _ _ _ _ _ E e m z p=>?_)
  ·refine sw [10,11] ?_;intro e m;exact au
  have e:=Aj e E;refine sw [0,15,7] ?_;intro _ e m;exact al
 simp[e];refine D3 m 4 999 (λb f h=>(h=H/\f.1 0=sL dO.av a0/\f.1 3=AV.ie 3 (f.gen 3) 0/\f.box 3=some (Fm.av a1).cells)/\b=some r) ?_ (λb _ g m=>?_)
 ·rintro _ _ ⟨E,m⟩;have e:=Aj e E;refine sw [0,1,0] ?_;intro d e m;exact a _ _ ⟨d,aaD,m⟩
 simp[e];refine wj 999 0 (λf h=>h=H/\f.1 0=sL dO.av a0/\f.1 12=sI a1.alX/\f.1 13=sB (fp (eo a1.alX 4) true (eo a1.alX 5))/\bx f 3 (Fm.av a1).cells) (λ_ g=>?_) ?_
 ·rcases Pb (eo a1.alX 4) e with e|e
  ·exact aj
  exact aj
 rintro _ _ E;have e:=Aj e E;apply Iq e m<;>intro e m
 ·apply wg 999;exact ak0
 apply wg 3;simp[e];refine wj 999 0 (λf h=>h=H/\f.1 0=sL dO.av a0/\f.1 12=sI a1.alX/\f.1 16=sB (fp (eo a1.alX 6) true (eo a1.alX 7))/\bx f 3 (Fm.av a1).cells) (λ_ g=>?_) ?_
 ·rcases Pb (eo a1.alX 6) e with e|e
  ·exact aj
  exact aj
 rintro _ _ E;have e:=Aj e E;apply Iq e m<;>intro e m
 ·apply wg 999;exact ak0
 apply wg 2;simp[e];refine wj 999 999 (λf h=>h=H/\f.1 0=sL dO.av a0/\f.1 19=sB (fp (eo a1.alX 2) true (eo a1.alX 3))/\bx f 3 (Fm.av a1).cells) (λ_ g=>?_) ?_
 ·rcases Pb (eo a1.alX 2) e with e|e
  ·exact aj
  exact aj
 rintro _ _ E;have e:=Aj e E;apply Iq e m<;>intro e m
 ·simp[e];exact a _ _ ⟨a0,aaD,m⟩
 simp[e];refine Wr e m 999 (λc _ f h=>h=H/\f.1 0=sL dO.av a0/\f.1 42=sL Tm.av a1.ei/\f.1 43=sI (eA a1.ei)/\f.1 44=sI c) aaD (λ_ _ _ _ E m=>?_) (λc _ _ _ _ _ _ _ E e m z p=>?_)
 ·exact aa
 exact aa
@[reducible,instance] def Lb:=@Kc.mk prog 239 _ @gZ
def An(T:eO)(b:oc T){H:dZ}{a0:List Ty}{a1:Fm}{a:Int}(hm:uz a0 a1=some a):eP prog T 173 [sL Ty.av a0,Fm.av a1] H (sI a) H:=by
 rw[uz] at hm;have e:=b;refine wi al2 func173 [] [] 999 ?_;have m:=hm;exact aa
@[reducible,instance] def VH:=@Kc.mk prog 173 _ @An
def tZ(T:eO)(b:oc T){H:dZ}{a0:List Fm}{a1:Sq}{a:Int}(hm:wO a0 a1=some a):eP prog T 136 [sL Fm.av a0,Sq.av a1] H (sI a) H:=by
 rw[wO] at hm;have e:=b;refine wi al2 func136 [] [] 999 ?_;refine Il e hm λe m=>?_;simp[e];refine Wa e m 999 17 [15,16] [3] nI [11,0,1,7,7,0] ?_;intro _ _ _ e m;exact Wb e m 999 40 [38,39] [3] nI
def Kb(T:eO){H:dZ}{u:Unit}(hm:Ej=some u):eP prog T 137 [] H (AV.nJ (List.length H)) (H++[[Nj]]):=by
 refine wi al2 func137 [] [] 999 ?_;simp;refine uG.yj lj vN aby aby ?_;simp;refine uG.yj lj vN aby aby ?_;simp;refine uG.yj lj vN aby aby ?_;simp;refine uG.yj lj vN aby aby ?_;simp;refine uG.yj lj vN aby aby ?_;simp;refine uG.yj lj vN aby aby ?_;simp;refine uG.yj lj vN aby aby ?_;simp;refine uG.yj lj vN aby aby ?_;simp;refine uG.yj lj vN aby aby ?_;simp;refine uG.yj lj vN aby aby ?_;simp;refine uG.yj lj vN aby aby ?_;simp;refine uG.yj lj vN aby aby ?_;simp;refine uG.yj lj vN aby aby ?_;simp;refine uG.yj lj vN aby aby ?_;simp;refine uG.yj lj vN aby aby ?_;simp;refine uG.yj lj vN aby aby ?_;simp;refine uG.yj lj vN aby aby ?_;simp;refine uG.yj lj vN aby aby ?_;simp;refine uG.yj lj vN aby aby ?_;simp;refine uG.yj lj vN aby aby ?_;simp;simp[Nj,Qs,RO]
def vE:C2 prog 189 sK ew.av ew.av Fm.av:=by
 refine v2 func189 λT H a0 a1 r m e=>?_;rw[sK] at m;refine sw [9,0] ?_;intro e m;refine Ad (f:=ek.av) a0.known [(ek.mk a1 a0.nC.vars)] (hX.full (D:=[])) ag' e.2 ?_;exact au
@[reducible,instance] def Qo:=@Kc.mk prog 189 _ @vE
def wN:C1 prog 139 zO ew.av Sq.av:=by
 refine v1 func139 λT H a0 r m e=>?_;rw[zO] at m;refine sw [0,1,0] ?_;intro _ e m;refine Wr e m 999 (λj b f h=>∃a,h=H/\f.1 16=sL Fm.av a0.al4/\f.1 17=sI (eA a0.al4)/\f.1 18=sI j/\bx f 2 [sI 0,sI 0,nL,nL]/\bx f 3 [sI b.1,sI b.2.1,sL dO.av b.2.2.1,sT a ek.av b.2.2.2]) ⟨.full,aaD⟩ (λb _ _ _ E m=>?_) (λj _ b _ _ _ _ _ E e m z p=>?_)
 ·have⟨v12,c,d,i⟩:=b;have⟨a,E⟩:=E;have e:=Aj e E;dsimp only[eC,vq]at m;exact au
 have⟨v12,c,d,i⟩:=b;have⟨a,E⟩:=E;have e:=Aj e E;dsimp only[vq]at m;refine sw [0,1,0] ?_;intro _ e m;cases m;exact p _ _ _ ⟨.gK,aaD⟩ z
def px:C3 prog 243 rA sI eQ.av sI sI:=by
 refine u3 3 func243 λT H a0 a1 a2 r m e=>?_;rw[rA] at m;simp[e];refine wB 999 999 [] [] (λf=>f.1 18=sB (fp (pj (eW .i64 a0.vars a1) 16) true (pj (eW .i64 a0.al4 a2) 16))) λ_ g=>?_;exact aa
@[reducible,instance] def Ou:=@Kc.mk prog 243 _ @px
def uH:C2 prog 244 rp ew.av ew.av (sL Ty.av):=by
 refine v2 func244 λT H a0 a1 r m e=>?_;rw[rp] at m;exact aa
@[reducible,instance] def N4:=@Kc.mk prog 244 _ @uH
def EV:C3 prog 245 va Fm.av sI Ty.av Fm.av:=by
 refine v3 func245 λT H a0 a1 a2 r m e=>?_;rw[va] at m;have e:=Aj e (show AV.agg [sI a0,sI a1.alX,sL Ty.av a1.alY,AV.slice .gK [],AV.slice .gK [Fm.av a2]]=Fm.av (Fm.mk a0 a1 [] [a2]) by rw[Fm.eU];rfl);exact au
@[reducible,instance] def SY:=@Kc.mk prog 245 _ @EV
def zC:C2 prog 246 p0 (λn=>AV.sc (Value.int .u32 n)) (λn=>AV.sc (Value.int .u32 n)) sI:=by
 intro T H a0 a1 r hm;rw[p0] at hm;have e:=trivial;refine wi al2 func246 [] [] 999 ?_;have⟨e,m⟩:=Ck e hm;exact au
@[reducible,instance] def Nl:=@Kc.mk prog 246 _ @zC
def Aa(T:eO){H:dZ}{a0 a1 a b:Int}{q0:Nat}(c:H[q0]?=some [AV.sc (.int .u32 a)])(hm:yb a0 a1 a=some b):eP prog T 290 [sI a0,sI a1,AV.fh q0 0] H (AV.tuple []) (gx H q0 [AV.sc (.int .u32 b)]):=by
 rw[yb] at hm;have d:=e9 c;refine fH.Ng c ?_;have e:=d;refine wi al2 func290 [] [(1,false,[false,true,true,true,true,true,false])] 999 ?_;have m:=hm;refine sw [12,9] ?_;intro e m;exact au
def sW(T:eO):∀(n:Nat),(∀{S:Type} {st:S->dZ} {k:Nat} {a0:Tm} {a1:Int} {d:(S->Int->Int->Option (S))} {uJ:S} {zf:S} {q0:Nat} {q1:Nat} {i:Nat} {j:List AV} (hF:Gv st k) (b:∀s,(st s)[q0]?=some [AV.func (.func i) [] j]) (a:uv T i j st d) (c:∀s,(st s)[q1]?=some [AV.func (.func 311) [] [AV.fh q0 0,AV.fh q1 0]]) (hm:uO n a0 a1 d uJ=some zf),eP prog T 311 [Tm.av a0,sI a1,AV.fh q0 0,AV.fh q1 0] (st uJ) (AV.tuple []) (st zf)):=by
  intro n
  induction n with
  |zero=>
    skip
    all_goals(intro _ _;intros;rename_i hm;cases hm)
  |succ n ih=>
 intro S st k a0 a1 d uJ zf q0 q1 i j hF b a c hm;rw[uO] at hm;have q:=λs=>e9 (b s);have r:=λs=>e9 (c s);have e:=Aj (Aj (Aj (Aj hF.len q) b) r) c;refine wi al2 func311 [] [] 2 ?_;simp[e];refine Wj hm 999 0 (λt f h=>∃v2,(h=st v2/\f.1 1=sI a1/\f.1 3=AV.fh q1 0/\f.1 4=AV.ie 4 (f.gen 4) 0/\f.box 4=some (Tm.av a0).cells)/\t v2=some zf) (λt v g m=>?_) ?_
 ·apply Ir e m<;>intro e m
  ·exact jo
  refine sw [8,0] ?_;intro w e m;refine lP.Hc abD (uv.at0 a e.2) ?_;exact jo
 rintro _ _ ⟨v2,E,m⟩;have e:=Aj e E;refine wj 999 999 (λf h=>h=st v2/\f.1 1=sI (fp (eo a0.alX 2) (eW .i64 a1 1) a1)/\f.1 3=AV.fh q1 0/\f.1 4=AV.ie 4 (f.gen 4) 0/\f.box 4=some (Tm.av a0).cells) (λ_ g=>?_) ?_
 ·rcases Pb (eo a0.alX 2) e with e|e
  ·exact aj
  exact aj
 rintro _ _ E;have e:=Aj e E;simp[e];refine Wr e m 999 (λo l f h=>h=st l/\f.1 1=sI (fp (eo a0.alX 2) (eW .i64 a1 1) a1)/\f.1 3=AV.fh q1 0/\f.1 22=sL Tm.av a0.alY/\f.1 23=sI (eA a0.alY)/\f.1 24=sI o) aaD (λl _ _ _ E m=>?_) (λo _ l _ _ _ _ _ E e m z p=>?_)
 ·exact aa
 refine sw [10,8,0] ?_;intro u e m;refine lP.Hc abD (ih hF b a c e.2) ?_;exact al
def Lj(T:eO){S:Type}{st:S->dZ}{k:Nat}{a0:Tm}{a1:Int}{a:(S->Int->Int->Option (S))}{uJ zf:S}{q0 q1 b:Nat}{c:List AV}(hF:Gv st k)(f:∀s,(st s)[q0]?=some [AV.func (.func b) [] c])(d:uv T b c st a)(h:∀s,(st s)[q1]?=some [AV.func (.func 311) [] [AV.fh q0 0,AV.fh q1 0]]){n:Nat}(hm:uO n a0 a1 a uJ=some zf):eP prog T 311 [Tm.av a0,sI a1,AV.fh q0 0,AV.fh q1 0] (st uJ) (AV.tuple []) (st zf):=(sW T n) hF f d h hm
def HB(T:eO){S:Type}{st:S->dZ}{k:Nat}{a0:Tm}{a1:(S->Int->Int->Option (S))}{uJ zf:S}{g1:Nat}{a:List AV}(hF:Gv st k)(b:uv T g1 a st a1)(hm:B8 a0 a1 uJ=some zf):eP prog T 289 [Tm.av a0,AV.func (.func g1) [] a] (st uJ) (AV.tuple []) (st zf):=by
 rw[B8] at hm;refine fH.acR hF (Post:=λx K=>x=AV.tuple []/\∃X,K=(st zf)++X) ?_ (λ_ _ h=>⟨_,h.2.choose,h.2.choose_spec,by rw[h.1];simp[AV.low,AV.iL],h.1,rfl⟩);have e:=hF.len;refine wi al2 func289 [3,4] [] 999 ?_;have⟨s1,e,m⟩:=OQ e hm;simp[e];refine lP.Hc abD (Lj T (st:=λs=>st s++[[AV.func (.func g1) [] a],[AV.func (.func 311) [] [AV.fh k 0,AV.fh (k+1) 0]]]) (Gv.ext hF _ (n:=k+2) aaA) (λ_=>aaD) (uv.ext b) (λ_=>aaD) e.2) ?_;exact au
def Ls(T:eO){H:dZ}{a0:Tm}{a:Int}(hm:A2 a0=some a):eP prog T 247 [Tm.av a0] H (AV.sc (.int .u32 a)) H:=by
 rw[A2] at hm;refine fH.vG (Post:=λx K=>x=AV.sc (.int .u32 a)/\∃X,K=H++X) ?_ (λ_ _ h=>⟨_,h.2.choose_spec,by rw[h.1];simp[AV.low,AV.iL],h.1,rfl⟩);have e:=trivial;refine wi al2 func247 [3] [] 999 ?_;simp[e];refine qK hm (HB T (st:=λs:Int=>H++[[AV.sc (.int .u32 s)]]) (Gv.aeG H (λs:Int=>[[AV.sc (.int .u32 s)]]) 1 (λ_=>rfl) (by simp[AV.low,AV.iL])) (λX s _ _ b h=>by have:=Aa T (H:=H++[[AV.sc (.int .u32 s)]]++X) (q0:=(List.length H)) aaD h;simpa using this)) λ_ m=>?_;exact au
def ze:C1 prog 250 pW (λn=>AV.sc (Value.int .u32 n)) Tm.av:=by
 intro T H a0 r hm;rw[pW] at hm;have e:=trivial;refine wi al2 func250 [] [] 999 ?_;cases hm;simp[e]
def qA:C2 prog 248 o9 sB dO.av Ty.av:=by
 refine v2 func248 λT H a0 a1 r m e=>?_;rw[o9] at m;exact aa
def BN(T:eO){H:dZ}{a0 a1 a b c:Int}{q0 q1:Nat}(d:H[q0]?=some [sI a])(f:H[q1]?=some [sI b])(h:q0≠q1)(hm:y0 a0 a1 a b=some c):eP prog T 332 [sI a0,sI a1,AV.fh q0 0,AV.fh q1 0] H (AV.tuple []) (gx H q1 [sI c]):=by
 rw[y0] at hm;have i:=e9 d;have j:=e9 f;refine fH.Ng f ?_;have e:=Aj (Aj (Aj (Aj i d) j) h) h.symm;refine wi al2 func332 [] [] 999 ?_;have m:=hm;exact aa
def Fi(T:eO){H:dZ}{a0:Tm}{a1 a:Int}(hm:zX a0 a1=some a):eP prog T 314 [Tm.av a0,sI a1] H (sI a) H:=by
 rw[zX] at hm;refine fH.vG (Post:=λx K=>x=sI a/\∃X,K=H++X) ?_ (λ_ _ h=>⟨_,h.2.choose_spec,by rw[h.1];simp[AV.low,AV.iL],h.1,rfl⟩);have e:=trivial;refine wi al2 func314 [3,5] [] 999 ?_;simp[e];refine qK hm (HB T (st:=λs:Int=>H++[[sI a1],[sI s]]) (Gv.aeG H (λs:Int=>[[sI a1],[sI s]]) 2 (λ_=>rfl) (by simp[AV.low,AV.iL])) (λX s _ _ b h=>by have:=BN T (H:=H++[[sI a1],[sI s]]++X) (q0:=(List.length H)) (q1:=(List.length H+1)) aaD aaD aaD h;simpa using this)) λ_ m=>?_;exact au
@[reducible,instance] def Z7:=@Kc.mk prog 314 _ @Fi
def th(T:eO){H:dZ}{a0:Tm}{a1 a b c:Int}{q0 q1:Nat}(d:H[q0]?=some [sI a])(f:H[q1]?=some [sI b])(h:q0≠q1)(hm:qy a0 a1 a b=some c):eP prog T 313 [Tm.av a0,sI a1,AV.fh q0 0,AV.fh q1 0] H (AV.tuple []) (gx H q0 [sI c]):=by
 rw[qy] at hm;have i:=e9 d;have j:=e9 f;refine fH.Ng d ?_;have e:=Aj (Aj (Aj (Aj i j) f) h) h.symm;refine wi al2 func313 [] [(1,true,[true,true,true,true,true,true,true,false])] 999 ?_;have m:=hm;exact aa
def o8:C1 prog 264 mS sB sI:=by
 refine u1 2 func264 λT H a0 r m e=>?_;rw[mS] at m;simp[e];refine wB 999 999 [] [] (λf=>f.1 2=sB (fp (qa a0 4) (Zv a0 7) false)) λ_ g=>?_;exact aa
@[reducible,instance] def Sp:=@Kc.mk prog 264 _ @o8
def nU(T:eO):∀(n:Nat),(∀{S:Type} {st:S->dZ} {k:Nat} {a0:Fm} {a1:Int} {a2:(S->Tm->Int->Option (S))} {uJ:S} {zf:S} {g2:Nat} {a:List AV} (hF:Gv st k) (b:ED T g2 a st a2) (hm:qO n a0 a1 a2 uJ=some zf),eP prog T 312 [Fm.av a0,sI a1,AV.func (.func g2) [] a] (st uJ) (AV.tuple []) (st zf)):=by
  intro n
  induction n with
  |zero=>
    skip
    all_goals(intro _ _;intros;rename_i hm;cases hm)
  |succ n ih=>
 intro S st k a0 a1 a2 uJ zf g2 a hF b hm;rw[qO] at hm;have e:=hF.len;refine wi al2 func312 [] [] 999 ?_;simp[e];refine Zy e hm 0 (λj s2 f h=>h=st s2/\f.1 1=sI a1/\f.1 2=AV.func (.func g2) [] a/\f.1 11=sL Tm.av a0.ei/\f.1 12=sI (eA a0.ei)/\f.1 13=sI j/\bx f 3 (Fm.av a0).cells) aaD (λj _ s2 _ _ _ _ _ E e m z p=>?_) (λs2 _ _ _ E m=>?_)
 ·have e:=Aj e E;refine sg 999 [8,0] ?_;intro l e m;refine lP.Hc abD (ED.at0 b e.2) ?_;exact al
 have e:=Aj e E;refine sg 5 [11,0] ?_;intro e m;refine WA m 999 999 [] [] (λc f=>f.1 1=sI c/\f.1 2=AV.func (.func g2) [] a/\f.1 3=AV.ie 3 (f.gen 3) 0/\f.box 3=some (Fm.av a0).cells) [0] (λo _ g m=>?_) ?_
 ·simp[e];refine qK m o8 λ_ m=>?_;apply Ir e m<;>intro e m
  ·exact jo
  exact jo
 intro _ c e m;refine Wr e m 999 (λi d f h=>h=st d/\f.1 1=sI c/\f.1 2=AV.func (.func g2) [] a/\f.1 28=sL Fm.av a0.alY/\f.1 29=sI (eA a0.alY)/\f.1 30=sI i) aaD (λd _ _ _ E m=>?_) (λi _ d _ _ _ _ _ E e m z p=>?_)
 ·exact aa
 have e:=Aj e E;simp[e];refine qK m (ih hF b) λ_ m=>?_;exact al
def H7(T:eO){S:Type}{st:S->dZ}{k:Nat}{a0:Fm}{a1:Int}{a2:(S->Tm->Int->Option (S))}{uJ zf:S}{g2:Nat}{a:List AV}(hF:Gv st k)(b:ED T g2 a st a2){n:Nat}(hm:qO n a0 a1 a2 uJ=some zf):eP prog T 312 [Fm.av a0,sI a1,AV.func (.func g2) [] a] (st uJ) (AV.tuple []) (st zf):=(nU T n) hF b hm
def Cy(T:eO){H:dZ}{a0:Fm}{a1 a:Int}(hm:sk a0 a1=some a):eP prog T 291 [Fm.av a0,sI a1] H (sI a) H:=by
 rw[sk] at hm;refine fH.vG (Post:=λx K=>x=sI a/\∃X,K=H++X) ?_ (λ_ _ h=>⟨_,h.2.choose_spec,by rw[h.1];simp[AV.low,AV.iL],h.1,rfl⟩);have e:=trivial;refine wi al2 func291 [3,5] [] 999 ?_;simp[e];refine qK hm (H7 T (st:=λs:Int=>H++[[sI a1],[sI s]]) (Gv.aeG H (λs:Int=>[[sI a1],[sI s]]) 2 (λ_=>rfl) (by simp[AV.low,AV.iL])) (λX s _ _ b h=>by have:=th T (H:=H++[[sI a1],[sI s]]++X) (q0:=(List.length H+1)) (q1:=(List.length H)) aaD aaD aaD h;simpa using this)) λ_ m=>?_;exact au
@[reducible,instance] def Qq:=@Kc.mk prog 291 _ @Cy
def J':C1 prog 262 oP Tm.av sI:=by
 refine v1 func262 λT H a0 r m e=>?_;rw[oP] at m;exact au
@[reducible,instance] def afZ:=@Kc.mk prog 262 _ @J'
def CV(T:eO){H:dZ}{a0 a1 a b:Int}{k:Tm}{q0 q1:Nat}(c:H[q0]?=some [sI a])(d:H[q1]?=some [sI b])(hm:u6 a0 a1 a b=some k):eP prog T 318 [sI a0,sI a1,AV.fh q0 0,AV.fh q1 0] H (Tm.av k) H:=by
 rw[u6] at hm;have i:=e9 c;have j:=e9 d;have e:=Aj (Aj (Aj i c) j) d;refine wi al2 func318 [] [] 2 ?_;simp[e];refine wjs 999 999 (λf h=>h=H/\f.1 0=sI (fp (qa (fL .i64 a0 a1) a) (eW .i64 a0 b) a0)/\f.1 6=AV.ie 6 (f.gen 6) 0/\f.box 6=some [sI 0,sI 0,sI 0,nL,nL]) ?_ (λ_ g=>?_)
 ·rintro _ _ E;have m:=hm;exact aa
 rcases Pb (qa (fL .i64 a0 a1) a) e with e|e
 ·exact aj
 exact aj
def pf(T:eO):∀(n:Nat),(∀{S:Type} {st:S->dZ} {k:Nat} {a0:Tm} {a1:Int} {l:(S->Int->Int->Option (Tm×S))} {uJ:S} {u:Tm} {zf:S} {q0:Nat} {q1:Nat} {o:Nat} {q:List AV} (hF:Gv st k) (d:∀s,(st s)[q0]?=some [AV.func (.func o) [] q]) (b:ub T o q st l) (i:∀s,(st s)[q1]?=some [AV.func (.func 334) [] [AV.fh q0 0,AV.fh q1 0]]) (hm:lr n a0 a1 l uJ=some (u,zf)),eP prog T 334 [Tm.av a0,sI a1,AV.fh q0 0,AV.fh q1 0] (st uJ) (Tm.av u) (st zf)):=by
  intro n
  induction n with
  |zero=>
    skip
    all_goals(intro _ _;intros;rename_i hm;cases hm)
  |succ n ih=>
 intro S st k a0 a1 l uJ u zf q0 q1 o q hF d b i hm;rw[lr] at hm;have v:=λs=>e9 (d s);have w:=λs=>e9 (i s);have e:=Aj (Aj (Aj (Aj hF.len v) d) w) i;refine wi al2 func334 [] [(9,false,[true,true,false,true,true,true,true,true,true,true])] 5 ?_;simp[e];apply Iq e hm<;>intro e m
 ·apply wg 999;have⟨D,F,e,m⟩:=Bo2 e m;simp[e];refine lP.Hc abD (ub.at0 b e.2) ?_;exact au
 refine sg 4 [0,4,0] ?_;intro A e m;refine wA 999 999 [] [4,6,7] (λf=>f.1 1=sI (fp (eo a0.alX 2) (eW .i64 a1 1) a1)/\f.1 3=AV.fh q1 0) [0] (λ_ g=>?_) ?_
 ·rcases Pb (eo a0.alX 2) e with e|e
  ·exact aj
  exact aj
 intro _ e m;refine Wr e m 999 (λB r f h=>∃a,(h=st r.2/\f.1 1=sI (fp (eo a0.alX 2) (eW .i64 a1 1) a1)/\f.1 3=AV.fh q1 0/\f.1 32=sL Tm.av a0.alY/\f.1 33=sI (eA a0.alY)/\f.1 34=sI B/\bx f 6 [sI 0,sI 0,sI 0,nL,nL]/\bx f 7 [sI a0.alX,sI a0.al0,sI A.alX,sL Ty.av A.alY,sT a Tm.av r.1])/\Ow f [45] a r.1) (by exact⟨.full,aaD,hX.full⟩) (λr j _ _ E m=>?_) (λB _ r j _ _ _ _ E e m z p=>?_)
 ·have⟨t,x⟩:=r;have⟨a,E,c⟩:=E;have e:=Aj e E;dsimp only[eC,lS]at m;exact au
 have⟨t,x⟩:=r;have⟨a,E,c⟩:=E;have e:=Aj e E;dsimp only[lS]at m;have⟨y,C,e,m⟩:=Bo2 e m;simp[e];refine gS.Hc abD (ih hF d b i e.2) aaA ?_;refine sw [9,0] ?_;intro e m;refine Ad (f:=Tm.av) t [y] c zY e.2 ?_;simp[e];cases m;exact p _ _ _ ⟨(.loc 45 (j.fo 45+1)),aaD,(On 45)⟩ z
def Gs(T:eO){S:Type}{st:S->dZ}{k:Nat}{a0:Tm}{a1:Int}{a:(S->Int->Int->Option (Tm×S))}{uJ:S}{i:Tm}{zf:S}{q0 q1 b:Nat}{c:List AV}(hF:Gv st k)(f:∀s,(st s)[q0]?=some [AV.func (.func b) [] c])(d:ub T b c st a)(h:∀s,(st s)[q1]?=some [AV.func (.func 334) [] [AV.fh q0 0,AV.fh q1 0]]){n:Nat}(hm:lr n a0 a1 a uJ=some (i,zf)):eP prog T 334 [Tm.av a0,sI a1,AV.fh q0 0,AV.fh q1 0] (st uJ) (Tm.av i) (st zf):=(pf T n) hF f d h hm
def BR(T:eO){S:Type}{st:S->dZ}{k:Nat}{a0:Tm}{a1:(S->Int->Int->Option (Tm×S))}{uJ:S}{b:Tm}{zf:S}{g1:Nat}{a:List AV}(hF:Gv st k)(c:ub T g1 a st a1)(hm:sJ a0 a1 uJ=some (b,zf)):eP prog T 317 [Tm.av a0,AV.func (.func g1) [] a] (st uJ) (Tm.av b) (st zf):=by
 rw[sJ] at hm;refine fH.acR hF (Post:=λx K=>x=Tm.av b/\∃X,K=(st zf)++X) ?_ (λ_ _ h=>⟨_,h.2.choose,h.2.choose_spec,by rw[h.1];simp[AV.low,AV.iL],h.1,rfl⟩);have e:=hF.len;refine wi al2 func317 [3,5] [] 999 ?_;have⟨d,s2,e,m⟩:=Bo2 e hm;simp[e];refine lP.Hc abD (Gs T (st:=λs=>st s++[[AV.func (.func g1) [] a],[AV.func (.func 334) [] [AV.fh k 0,AV.fh (k+1) 0]]]) (Gv.ext hF _ (n:=k+2) aaA) (λ_=>aaD) (ub.ext c) (λ_=>aaD) e.2) ?_;exact au
def N5(T:eO){H:dZ}{a0:Tm}{a1 a2:Int}{a:Tm}(hm:v_ a0 a1 a2=some a):eP prog T 296 [Tm.av a0,sI a1,sI a2] H (Tm.av a) H:=by
 rw[v_] at hm;refine fH.vG (Post:=λx K=>x=Tm.av a/\∃X,K=H++X) ?_ (λ_ _ h=>⟨_,h.2.choose_spec,by rw[h.1];simp[AV.low,AV.iL],h.1,rfl⟩);have e:=trivial;refine wi al2 func296 [4,5] [] 999 ?_;simp[e];refine EJ hm (BR T (st:=λ_:Unit=>H++[[sI a1],[sI a2]]) (Gv.const _) (λX _ _ _ _ _ h=>by obtain⟨b,rfl⟩:=zR h;exact CV T (q0:=(List.length H)) (q1:=(List.length H+1)) aaD aaD b)) λ_ _ m=>?_;exact au
@[reducible,instance] def acT:=@Kc.mk prog 296 _ @N5
def EM(T:eO){H:dZ}{a0 a1 b:Int}{a i:Tm}{q0 q1:Nat}(c:H[q0]?=some [sI b])(d:H[q1]?=some [sI a.alX,sI a.al0,sI a.dN.alX,sL Ty.av a.dN.alY,sL Tm.av a.alY])(hm:Dp a0 a1 b a=some i):eP prog T 333 [sI a0,sI a1,AV.fh q0 0,AV.fh q1 0] H (Tm.av i) H:=by
 rw[Dp] at hm;have f:=e9 c;have h:=e9 d;have e:=Aj (Aj (Aj f c) h) d;refine wi al2 func333 [] [] 999 ?_;have m:=hm;exact aa
def RI(T:eO){H:dZ}{a0:Tm}{a1:Int}{a2 a:Tm}(hm:Kd a0 a1 a2=some a):eP prog T 316 [Tm.av a0,sI a1,Tm.av a2] H (Tm.av a) H:=by
 rw[Kd] at hm;refine fH.vG (Post:=λx K=>x=Tm.av a/\∃X,K=H++X) ?_ (λ_ _ h=>⟨_,h.2.choose_spec,by rw[h.1];simp[AV.low,AV.iL],h.1,rfl⟩);have e:=trivial;refine wi al2 func316 [4,5] [] 999 ?_;simp[e];refine EJ hm (BR T (st:=λ_:Unit=>H++[[sI a1],[sI a2.alX,sI a2.al0,sI a2.dN.alX,sL Ty.av a2.dN.alY,sL Tm.av a2.alY]]) (Gv.const _) (λX _ _ _ _ _ h=>by obtain⟨b,rfl⟩:=zR h;exact EM T (q0:=(List.length H)) (q1:=(List.length H+1)) aaD aaD b)) λ_ _ m=>?_;exact au
@[reducible,instance] def afl:=@Kc.mk prog 316 _ @RI
def vA(T:eO){H:dZ}{a0:Tm}{a1 b:Int}{a i:Tm}{q0 q1:Nat}(c:H[q0]?=some [sI b])(d:H[q1]?=some [sI a.alX,sI a.al0,sI a.dN.alX,sL Ty.av a.dN.alY,sL Tm.av a.alY])(hm:s0 a0 a1 b a=some i):eP prog T 315 [Tm.av a0,sI a1,AV.fh q0 0,AV.fh q1 0] H (Tm.av i) H:=by
 rw[s0] at hm;have f:=e9 c;have h:=e9 d;have e:=Aj (Aj (Aj f c) h) d;refine wi al2 func315 [] [] 999 ?_;have m:=hm;exact aa
def kE(T:eO):∀(n:Nat),(∀{S:Type} {st:S->dZ} {k:Nat} {a0:Fm} {a1:Int} {a2:(S->Tm->Int->Option (Tm×S))} {uJ:S} {D:Fm} {zf:S} {g2:Nat} {i:List AV} (hF:Gv st k) (t:FC T g2 i st a2) (hm:gW n a0 a1 a2 uJ=some (D,zf)),eP prog T 190 [Fm.av a0,sI a1,AV.func (.func g2) [] i] (st uJ) (Fm.av D) (st zf)):=by
  intro n
  induction n with
  |zero=>
    skip
    all_goals(intro _ _;intros;rename_i hm;cases hm)
  |succ n ih=>
 intro S st k a0 a1 a2 uJ D zf g2 i hF t hm;rw[gW] at hm;have e:=hF.len;refine wi al2 func190 [] [] 999 ?_;have m:=hm;refine sw [0,4,0] ?_;intro w e m;refine Zy e m 0 (λI u f h=>∃b,(h=st u.2/\f.1 1=sI a1/\f.1 2=AV.func (.func g2) [] i/\f.1 19=sL Tm.av a0.ei/\f.1 20=sI (eA a0.ei)/\f.1 21=sI I/\bx f 3 (Fm.av a0).cells/\bx f 6 [sI 0,sI 0,nL,nL,nL]/\bx f 7 [sI a0.alX,sI w.alX,sL Ty.av w.alY,sT b Tm.av u.1,nL])/\Ow f [32] b u.1) (by exact⟨.full,aaD,hX.full⟩) (λI _ u x _ _ _ _ E e m z p=>?_) (λu x _ _ E m=>?_)
 ·have⟨v12,y⟩:=u;have⟨b,E,o⟩:=E;have e:=Aj e E;dsimp only[lS]at m;apply wg 999;have⟨F,J,e,m⟩:=Bo2 e m;simp[e];refine gS.Hc abD (FC.at0 t e.2) aaA ?_;refine sw [9,0] ?_;intro e m;refine Ad (f:=Tm.av) v12 [F] o zY e.2 ?_;simp[e];cases m;exact p _ _ _ ⟨(.loc 32 (x.fo 32+1)),aaD,(On 32)⟩ z
 have⟨v12,y⟩:=u;have⟨b,E,o⟩:=E;have e:=Aj e E;apply wg 5;dsimp only[eC,lS]at m;simp[e];refine Wj m 999 999 (λA f h=>∃r c,(h=st y/\f.1 1=sI r/\f.1 2=AV.func (.func g2) [] i/\bx f 3 (Fm.av a0).cells/\bx f 6 [sI 0,sI 0,nL,nL,nL]/\bx f 7 [sI a0.alX,sI w.alX,sL Ty.av w.alY,sT c Tm.av v12,nL])/\Ow f [32] c v12/\A r=some (D,zf)) (λA _ g m=>?_) ?_
 ·refine sw [0,1] ?_;intro _ e m;apply Ir e m<;>intro e m
  ·simp[e];exact g _ _ ⟨a1,b,aaD,o,m⟩
  simp[e];exact g _ _ ⟨(eW .i64 a1 1),b,aaD,o,m⟩
 rintro _ _ ⟨r,c,E,v,m⟩;have e:=Aj e E;simp[e];refine Wr e m 999 (λB j f h=>∃a d,(h=st j.2/\f.1 1=sI r/\f.1 2=AV.func (.func g2) [] i/\f.1 41=sL Fm.av a0.alY/\f.1 42=sI (eA a0.alY)/\f.1 43=sI B/\bx f 6 [sI 0,sI 0,nL,nL,nL]/\bx f 7 [sI a0.alX,sI w.alX,sL Ty.av w.alY,sT a Tm.av v12,sT d Fm.av j.1])/\Ow f [32] a v12/\Ow f [54] d j.1) (by exact⟨c,.full,aaD,v,hX.full⟩) (λj s _ _ E m=>?_) (λB _ j s _ _ _ _ E e m z p=>?_)
 ·have⟨C,G⟩:=j;have⟨a,d,E,q,l⟩:=E;have e:=Aj e E;dsimp only[eC,lS]at m;exact au
 have⟨C,G⟩:=j;have⟨a,d,E,q,l⟩:=E;have e:=Aj e E;dsimp only[lS]at m;simp[e];refine uq m (ih hF t) λH _ m=>?_;refine sw [9,0] ?_;intro e m;refine Ad (f:=Fm.av) C [H] l KI e.2 ?_;simp[e];cases m;exact p _ _ _ ⟨a,(.loc 54 (s.fo 54+1)),aaD,(hX.other q l aar aar),(On 54)⟩ z
def tk(T:eO){S:Type}{st:S->dZ}{k:Nat}{a0:Fm}{a1:Int}{a2:(S->Tm->Int->Option (Tm×S))}{uJ:S}{c:Fm}{zf:S}{g2:Nat}{a:List AV}(hF:Gv st k)(b:FC T g2 a st a2){n:Nat}(hm:gW n a0 a1 a2 uJ=some (c,zf)):eP prog T 190 [Fm.av a0,sI a1,AV.func (.func g2) [] a] (st uJ) (Fm.av c) (st zf):=(kE T n) hF b hm
def E2(T:eO){H:dZ}{a0:Fm}{a1:Int}{a2:Tm}{a:Fm}(hm:vk a0 a1 a2=some a):eP prog T 292 [Fm.av a0,sI a1,Tm.av a2] H (Fm.av a) H:=by
 rw[vk] at hm;refine fH.vG (Post:=λx K=>x=Fm.av a/\∃X,K=H++X) ?_ (λ_ _ h=>⟨_,h.2.choose_spec,by rw[h.1];simp[AV.low,AV.iL],h.1,rfl⟩);have e:=trivial;refine wi al2 func292 [4,5] [] 999 ?_;simp[e];refine EJ hm (tk T (st:=λ_:Unit=>H++[[sI a1],[sI a2.alX,sI a2.al0,sI a2.dN.alX,sL Ty.av a2.dN.alY,sL Tm.av a2.alY]]) (Gv.const _) (λX _ _ _ _ _ h=>by obtain⟨b,rfl⟩:=zR h;exact vA T (q0:=(List.length H)) (q1:=(List.length H+1)) aaD aaD b)) λ_ _ m=>?_;exact au
@[reducible,instance] def SB:=@Kc.mk prog 292 _ @E2
def Ez(T:eO)(c:oc T){H:dZ}{a0:Fm}{a1:Tm}{a:Fm}{b:Int}(hm:Di a0 a1=some (a,b)):eP prog T 249 [Fm.av a0,Tm.av a1] H (AV.tuple [Fm.av a,sI b]) H:=by
 rw[Di] at hm;have e:=c;refine wi al2 func249 [] [] 999 ?_;have m:=hm;exact aa
@[reducible,instance] def aao:=@Kc.mk prog 249 _ @Ez
def u_{n:Nat}:C2 prog 298 (jM n) sB Tm.av Tm.av:=by
 refine i2 λn ih=>u2 3 func298 λT H a0 a1 r m e=>?_;rw[jM] at m;simp[e];refine WA m 999 999 [] [2,3] (λv2 f=>f.1 35=sB v2) [7,0] (λa _ g m=>?_) ?_
 ·apply Iq e m<;>intro e m
  ·exact jo
  apply Iq e m<;>intro e m
  ·exact jo
  simp[e];refine qK m kQ λ_ m=>?_;apply Ir e m<;>intro e m
  ·exact jo
  exact jo
 intro _ v2 e m;exact Wb e m 999 39 [37,38] [3] nI
@[reducible,instance] def VD:=@Kc.mk prog 298 _ @u_
def Fk:C2 prog 265 rv sB Tm.av Tm.av:=by
 refine v2 func265 λT H a0 a1 r m e=>?_;rw[rv] at m;exact aa
@[reducible,instance] def aaT:=@Kc.mk prog 265 _ @Fk
def BQ(T:eO)(b:oc T){H:dZ}{a0 a1:Tm}{a2 a:Int}(hm:y_ a0 a1 a2=some a):eP prog T 194 [Tm.av a0,Tm.av a1,sI a2] H (sI a) H:=by
 rw[y_] at hm;have e:=b;refine wi al2 func194 [] [] 999 ?_;have m:=hm;exact aa
@[reducible,instance] def XN:=@Kc.mk prog 194 _ @BQ
def qd(T:eO)(b:oc T):∀(n:Nat),(∀{H:dZ} {a0:Fm} {a1:Fm} {a:Int} (hm:qT n a0 a1=some a),eP prog T 142 [Fm.av a0,Fm.av a1] H (sI a) H):=by
  intro n
  induction n with
  |zero=>
    skip
    all_goals(intro _ _;intros;rename_i hm;cases hm)
  |succ n ih=>
 intro H a0 a1 a hm;rw[qT] at hm;have e:=b;refine wi al2 func142 [] [] 3 ?_;simp[e];refine WA hm 999 999 [] [2,3] (λv2 f=>f.1 23=sB v2) [7,0] (λc _ g m=>?_) ?_
 ·apply Iq e m<;>intro e m
  ·exact jo
  simp[e];refine qK m kQ λ_ m=>?_;exact jo
 intro _ v2 e m;refine Wa e m 999 27 [25,26] [2,3] nI [11,0] ?_;intro _ _ e m;exact Wb e m 999 46 [44,45] [3] nI
def HL(T:eO)(b:oc T){H:dZ}{a0 a1:Fm}{a:Int}{n:Nat}(hm:qT n a0 a1=some a):eP prog T 142 [Fm.av a0,Fm.av a1] H (sI a) H:=(qd T b n) hm
@[reducible,instance] def VN:=@Kc.mk prog 142 _ @HL
def Aq(T:eO)(b:oc T){H:dZ}{a0 a1:Fm}{a:Int}(hm:ud a0 a1=some a):eP prog T 102 [Fm.av a0,Fm.av a1] H (sI a) H:=by
 rw[ud] at hm;have e:=b;refine wi al2 func102 [] [] 999 ?_;have m:=hm;exact aa
@[reducible,instance] def VU:=@Kc.mk prog 102 _ @Aq
def H3:C2 prog 258 um Fm.av Tm.av Tm.av:=by
 refine v2 func258 λT H a0 a1 r m e=>?_;rw[um] at m;have e:=Aj e (show AV.agg [sI 1,sI 0,AV.slice .gK [],AV.slice .gK [Tm.av a0,Tm.av a1],AV.slice .gK []]=Fm.av (Fm.mk 1 (Ty.mk 0 []) [a0,a1] []) by rw[Fm.eU];rfl);exact au
@[reducible,instance] def VM:=@Kc.mk prog 258 _ @H3
def tf(T:eO){H:dZ}{a0:List Fm}{a1:Pf}{a2:ew}{b:ec}{c:Int}{d:Nat}(a:KC H d a0)(hm:qD a0 a1 a2=some (b,c)):eP prog T 185 [AV.fh d 0,Pf.av a1,ew.av a2] H (AV.tuple [ec.av b,sI c]) H:=by
 rw[qD] at hm;have e:=a;refine wi al2 func185 [] [] 999 ?_;have m:=hm;exact aa
def CR:C1 prog 335 Bh (t2 sI sI) sB:=by
 refine v1 func335 λT H a0 r m e=>?_;rw[Bh] at m;exact aa
@[reducible,instance] def ZA:=@Kc.mk prog 335 _ @CR
def Ux:C2 prog 294 BY Tm.av sI (sL Tm.av):=by
 refine v2 func294 λT H a0 a1 r m e=>?_;rw[BY] at m;exact au
@[reducible,instance] def agS:=@Kc.mk prog 294 _ @Ux
def JY:C2 prog 352 A4 Tm.av Tm.av (sL Ty.av):=by
 refine v2 func352 λT H a0 a1 r m e=>?_;rw[A4] at m;simp[e];refine Wn m 999 (λs1 f h=>∃a,h=H/\f.1 1=sL Ty.av a1/\f.1 5=sI s1.1/\bx f 2 [sI s1.2.1,sI s1.2.2.1,sI s1.2.2.2.1,sL Ty.av s1.2.2.2.2.1,sT a Tm.av s1.2.2.2.2.2]/\bx f 4 [sI 0,sI 0,sI 0,nL,nL]) ⟨.gK,aaD⟩ (λs1 _ _ _ _ _ E m z p=>?_);have⟨v9,v10,v11,v12,b,c⟩:=s1;have⟨a,E⟩:=E;have e:=Aj e E;dsimp only[Bv]at m;apply Ir e m<;>intro e m
 ·cases m;have m:=Qb z;dsimp only[Bv]at m;exact au
 refine sw [8,0] ?_;intro d e m;cases m;exact p _ _ _ ⟨.full,aaD⟩ z
@[reducible,instance] def aft:=@Kc.mk prog 352 _ @JY
def Ra:C5 prog 353 Jz Tm.av sI Ty.av Tm.av Tm.av Tm.av:=by
 refine v5 func353 λT H a0 a1 a2 a3 a4 r m e=>?_;rw[Jz] at m;have e:=Aj e (show AV.agg [sI a0,sI 0,sI a1.alX,sL Ty.av a1.alY,AV.slice .gK [Tm.av a2,Tm.av a3,Tm.av a4]]=Tm.av (Tm.mk a0 0 a1 [a2,a3,a4]) by rw[Tm.eU];rfl);exact au
@[reducible,instance] def adW:=@Kc.mk prog 353 _ @Ra
def xz:C3 prog 348 rk Tm.av Tm.av Tm.av Tm.av:=by
 refine v3 func348 λT H a0 a1 a2 r m e=>?_;rw[rk] at m;exact aa
@[reducible,instance] def Sj:=@Kc.mk prog 348 _ @xz
def E7:C0 prog 349 DB Tm.av:=by
 refine v0 func349 λT H r m e=>?_;rw[DB] at m;exact aa
@[reducible,instance] def abh:=@Kc.mk prog 349 _ @E7
end Go.Proofs.YtpgdkkomegalnaaGreatDoor
