/- Part of the proof of TheoryNeeds: walks. -/
import Derived.Test.YtjgjcpnoaeljkaaGreatDoorProg
import Derived.Test.YtjgjcpnoaeljkaaGreatDoorChecked
import Derived.WalkKit
import Derived.Laws.Bits64b
import Derived.BigCall
import Derived.Test.YtjgjcpnoaeljkaaGreatDoorNG1
import Derived.Test.YtjgjcpnoaeljkaaGreatDoorNL20
set_option linter.all false
namespace Go.Proofs.YtjgjcpnoaeljkaaGreatDoor
open Go Go.kC Go.eU Tryz
def aiq:prog.follows .mixedOrders=true:=by kernel_rfl
instance:Nonempty (prog.follows .mixedOrders=true):=⟨aiq⟩
end Go.Proofs.YtjgjcpnoaeljkaaGreatDoor
namespace Go.eU
open Go Go.kC
mutual
def Ty.av:Ty->AV
 |.mk ail aim=>.agg [sI ail,AV.slice .iw (Ty.Ky aim)]
def Ty.Ky:List Ty->List AV
 |[]=>[]|x::l=>x.av::Ty.Ky l
end
def Ty.AU(l:List Ty):Ty.Ky l=l.map Ty.av:=by
 induction l with
 |nil=>rfl|cons x l ih=>simp[Ty.Ky,ih]
def Ty.eG(ail:Int)(aim:List Ty):(Ty.mk ail aim).av=.agg [sI ail,sL Ty.av aim]:=by rw[Ty.av];simp only[Ty.AU]
mutual
@[simp] theorem Ty.yT(k:Nat):∀x:Ty,x.av.low k=true
 |.mk ail aim=>by rw[Ty.eG];simp[AV.low,AV.gE,Ty.qZ k aim]
@[simp] theorem Ty.qZ(k:Nat):∀l:List Ty,AV.gE k (l.map Ty.av)=true
 |[]=>rfl|x::l=>by simp[AV.gE,Ty.yT k x,Ty.qZ k l]
end
def Ty.eS(x:Ty):x.av=.agg [sI x.ail,sL Ty.av x.aim]:=by cases x;exact Ty.eG _ _
@[simp] theorem Ty.jz(x:Ty):x.av.cells=[sI x.ail,sL Ty.av x.aim]:=by rw[Ty.eS];rfl
@[simp] theorem Ty.rf(x:Ty):eo x.av=true:=by rw[Ty.eS];rfl
@[simp] theorem Ty.nF(x:Ty):x.av.norm=x.av:=by rw[Ty.eS];rfl
@[simp] theorem Ty.acC(a:Int)(b:List Ty):AV.agg [sI a,sL Ty.av b]=Ty.av (Ty.mk a b):=by rw[Ty.eG]<;>rfl
@[simp] theorem Ty.ag3(a:Int):AV.agg [sI a,AV.slice .iw []]=Ty.av (Ty.mk a []):=by rw[Ty.eG]<;>rfl
mutual
def Tm.av:Tm->AV
 |.mk ail aio cT aim=>.agg [sI ail,sI aio,sI cT.ail,sL Ty.av cT.aim,AV.slice .iw (Tm.Ky aim)]
def Tm.Ky:List Tm->List AV
 |[]=>[]|x::l=>x.av::Tm.Ky l
end
def Tm.AU(l:List Tm):Tm.Ky l=l.map Tm.av:=by
 induction l with
 |nil=>rfl|cons x l ih=>simp[Tm.Ky,ih]
def Tm.eG(ail aio:Int)(cT:Ty)(aim:List Tm):(Tm.mk ail aio cT aim).av=.agg [sI ail,sI aio,sI cT.ail,sL Ty.av cT.aim,sL Tm.av aim]:=by rw[Tm.av];simp only[Tm.AU]
mutual
@[simp] theorem Tm.yT(k:Nat):∀x:Tm,x.av.low k=true
 |.mk ail aio cT aim=>by rw[Tm.eG];simp[AV.low,AV.gE,Tm.qZ k aim]
@[simp] theorem Tm.qZ(k:Nat):∀l:List Tm,AV.gE k (l.map Tm.av)=true
 |[]=>rfl|x::l=>by simp[AV.gE,Tm.yT k x,Tm.qZ k l]
end
def Tm.eS(x:Tm):x.av=.agg [sI x.ail,sI x.aio,sI x.cT.ail,sL Ty.av x.cT.aim,sL Tm.av x.aim]:=by cases x;exact Tm.eG _ _ _ _
@[simp] theorem Tm.jz(x:Tm):x.av.cells=[sI x.ail,sI x.aio,sI x.cT.ail,sL Ty.av x.cT.aim,sL Tm.av x.aim]:=by rw[Tm.eS];rfl
@[simp] theorem Tm.rf(x:Tm):eo x.av=true:=by rw[Tm.eS];rfl
@[simp] theorem Tm.nF(x:Tm):x.av.norm=x.av:=by rw[Tm.eS];rfl
@[simp] theorem Tm.aaj(a b c:Int)(c3:List Ty)(d:List Tm):AV.agg [sI a,sI b,sI c,sL Ty.av c3,sL Tm.av d]=Tm.av (Tm.mk a b (Ty.mk c c3) d):=by rw[Tm.eG]<;>rfl
@[simp] theorem Tm.ahI(a b c:Int)(d:List Tm):AV.agg [sI a,sI b,sI c,AV.slice .iw [],sL Tm.av d]=Tm.av (Tm.mk a b (Ty.mk c []) d):=by rw[Tm.eG]<;>rfl
@[simp] theorem Tm.afi(a b c:Int):AV.agg [sI a,sI b,sI c,AV.slice .iw [],AV.slice .iw []]=Tm.av (Tm.mk a b (Ty.mk c []) []):=by rw[Tm.eG]<;>rfl
mutual
def Fm.av:Fm->AV
 |.mk ail cT dc aim=>.agg [sI ail,sI cT.ail,sL Ty.av cT.aim,sL Tm.av dc,AV.slice .iw (Fm.Ky aim)]
def Fm.Ky:List Fm->List AV
 |[]=>[]|x::l=>x.av::Fm.Ky l
end
def Fm.AU(l:List Fm):Fm.Ky l=l.map Fm.av:=by
 induction l with
 |nil=>rfl|cons x l ih=>simp[Fm.Ky,ih]
def Fm.eG(ail:Int)(cT:Ty)(dc:List Tm)(aim:List Fm):(Fm.mk ail cT dc aim).av=.agg [sI ail,sI cT.ail,sL Ty.av cT.aim,sL Tm.av dc,sL Fm.av aim]:=by rw[Fm.av];simp only[Fm.AU]
mutual
@[simp] theorem Fm.yT(k:Nat):∀x:Fm,x.av.low k=true
 |.mk ail cT dc aim=>by rw[Fm.eG];simp[AV.low,AV.gE,Fm.qZ k aim]
@[simp] theorem Fm.qZ(k:Nat):∀l:List Fm,AV.gE k (l.map Fm.av)=true
 |[]=>rfl|x::l=>by simp[AV.gE,Fm.yT k x,Fm.qZ k l]
end
def Fm.eS(x:Fm):x.av=.agg [sI x.ail,sI x.cT.ail,sL Ty.av x.cT.aim,sL Tm.av x.dc,sL Fm.av x.aim]:=by cases x;exact Fm.eG _ _ _ _
@[simp] theorem Fm.jz(x:Fm):x.av.cells=[sI x.ail,sI x.cT.ail,sL Ty.av x.cT.aim,sL Tm.av x.dc,sL Fm.av x.aim]:=by rw[Fm.eS];rfl
@[simp] theorem Fm.rf(x:Fm):eo x.av=true:=by rw[Fm.eS];rfl
@[simp] theorem Fm.nF(x:Fm):x.av.norm=x.av:=by rw[Fm.eS];rfl
@[simp] theorem Fm.P9(a b:Int)(c:List Ty)(c3:List Tm)(d:List Fm):AV.agg [sI a,sI b,sL Ty.av c,sL Tm.av c3,sL Fm.av d]=Fm.av (Fm.mk a (Ty.mk b c) c3 d):=by rw[Fm.eG]<;>rfl
@[simp] theorem Fm.ahn(a b:Int)(c:List Fm):AV.agg [sI a,sI b,AV.slice .iw [],AV.slice .iw [],sL Fm.av c]=Fm.av (Fm.mk a (Ty.mk b []) [] c):=by rw[Fm.eG]<;>rfl
@[simp] theorem Fm.abk(a b:Int):AV.agg [sI a,sI b,AV.slice .iw [],AV.slice .iw [],AV.slice .iw []]=Fm.av (Fm.mk a (Ty.mk b []) [] []):=by rw[Fm.eG]<;>rfl
mutual
def Pf.av:Pf->AV
 |.mk ail aio cT dc eh aim=>.agg [sI ail,sI aio,sI cT.ail,sL Ty.av cT.aim,sL Tm.av dc,sL Fm.av eh,AV.slice .iw (Pf.Ky aim)]
def Pf.Ky:List Pf->List AV
 |[]=>[]|x::l=>x.av::Pf.Ky l
end
def Pf.AU(l:List Pf):Pf.Ky l=l.map Pf.av:=by
 induction l with
 |nil=>rfl|cons x l ih=>simp[Pf.Ky,ih]
def Pf.eG(ail aio:Int)(cT:Ty)(dc:List Tm)(eh:List Fm)(aim:List Pf):(Pf.mk ail aio cT dc eh aim).av=.agg [sI ail,sI aio,sI cT.ail,sL Ty.av cT.aim,sL Tm.av dc,sL Fm.av eh,sL Pf.av aim]:=by rw[Pf.av];simp only[Pf.AU]
mutual
@[simp] theorem Pf.yT(k:Nat):∀x:Pf,x.av.low k=true
 |.mk ail aio cT dc eh aim=>by rw[Pf.eG];simp[AV.low,AV.gE,Pf.qZ k aim]
@[simp] theorem Pf.qZ(k:Nat):∀l:List Pf,AV.gE k (l.map Pf.av)=true
 |[]=>rfl|x::l=>by simp[AV.gE,Pf.yT k x,Pf.qZ k l]
end
def Pf.eS(x:Pf):x.av=.agg [sI x.ail,sI x.aio,sI x.cT.ail,sL Ty.av x.cT.aim,sL Tm.av x.dc,sL Fm.av x.eh,sL Pf.av x.aim]:=by cases x;exact Pf.eG _ _ _ _ _ _
@[simp] theorem Pf.jz(x:Pf):x.av.cells=[sI x.ail,sI x.aio,sI x.cT.ail,sL Ty.av x.cT.aim,sL Tm.av x.dc,sL Fm.av x.eh,sL Pf.av x.aim]:=by rw[Pf.eS];rfl
@[simp] theorem Pf.rf(x:Pf):eo x.av=true:=by rw[Pf.eS];rfl
@[simp] theorem Pf.nF(x:Pf):x.av.norm=x.av:=by rw[Pf.eS];rfl
@[simp] theorem Pf.XI(a b c:Int)(c3:List Ty)(d:List Tm)(c5:List Fm)(f:List Pf):AV.agg [sI a,sI b,sI c,sL Ty.av c3,sL Tm.av d,sL Fm.av c5,sL Pf.av f]=Pf.av (Pf.mk a b (Ty.mk c c3) d c5 f):=by rw[Pf.eG]<;>rfl
@[simp] theorem Pf.agk(a b c:Int)(d:List Pf):AV.agg [sI a,sI b,sI c,AV.slice .iw [],AV.slice .iw [],AV.slice .iw [],sL Pf.av d]=Pf.av (Pf.mk a b (Ty.mk c []) [] [] d):=by rw[Pf.eG]<;>rfl
@[simp] theorem Pf.XY(a b c:Int):AV.agg [sI a,sI b,sI c,AV.slice .iw [],AV.slice .iw [],AV.slice .iw [],AV.slice .iw []]=Pf.av (Pf.mk a b (Ty.mk c []) [] [] []):=by rw[Pf.eG]<;>rfl
def iz.av(x:iz):AV:=.agg [AV.sc (.string x.name),sI x.cU.ail,sI x.cU.cT.ail,sL Ty.av x.cU.cT.aim,sL Tm.av x.cU.dc,sL Fm.av x.cU.aim,sI x.proof.ail,sI x.proof.aio,sI x.proof.cT.ail,sL Ty.av x.proof.cT.aim,sL Tm.av x.proof.dc,sL Fm.av x.proof.eh,sL Pf.av x.proof.aim]
def iz.eG(name:ByteArray)(cU:Fm)(proof:Pf):(iz.mk name cU proof).av=.agg [AV.sc (.string name),sI cU.ail,sI cU.cT.ail,sL Ty.av cU.cT.aim,sL Tm.av cU.dc,sL Fm.av cU.aim,sI proof.ail,sI proof.aio,sI proof.cT.ail,sL Ty.av proof.cT.aim,sL Tm.av proof.dc,sL Fm.av proof.eh,sL Pf.av proof.aim]:=rfl
def iz.eS(x:iz):x.av=.agg [AV.sc (.string x.name),sI x.cU.ail,sI x.cU.cT.ail,sL Ty.av x.cU.cT.aim,sL Tm.av x.cU.dc,sL Fm.av x.cU.aim,sI x.proof.ail,sI x.proof.aio,sI x.proof.cT.ail,sL Ty.av x.proof.cT.aim,sL Tm.av x.proof.dc,sL Fm.av x.proof.eh,sL Pf.av x.proof.aim]:=by cases x;exact iz.eG _ _ _
@[simp] theorem iz.jz(x:iz):x.av.cells=[AV.sc (.string x.name),sI x.cU.ail,sI x.cU.cT.ail,sL Ty.av x.cU.cT.aim,sL Tm.av x.cU.dc,sL Fm.av x.cU.aim,sI x.proof.ail,sI x.proof.aio,sI x.proof.cT.ail,sL Ty.av x.proof.cT.aim,sL Tm.av x.proof.dc,sL Fm.av x.proof.eh,sL Pf.av x.proof.aim]:=by rw[iz.eS];rfl
@[simp] theorem iz.rf(x:iz):eo x.av=true:=by rw[iz.eS];rfl
@[simp] theorem iz.nF(x:iz):x.av.norm=x.av:=by rw[iz.eS];rfl
@[simp] theorem iz.aci(d:ByteArray)(f h:Int)(c3:List Ty)(i:List Tm)(c5:List Fm)(j k l:Int)(n:List Ty)(a:List Tm)(b:List Fm)(c:List Pf):AV.agg [AV.sc (.string d),sI f,sI h,sL Ty.av c3,sL Tm.av i,sL Fm.av c5,sI j,sI k,sI l,sL Ty.av n,sL Tm.av a,sL Fm.av b,sL Pf.av c]=iz.av (iz.mk d (Fm.mk f (Ty.mk h c3) i c5) (Pf.mk j k (Ty.mk l n) a b c)):=by rw[iz.eG]<;>rfl
@[simp] theorem iz.acH(a:ByteArray)(b c:Int)(c3:List Ty)(d:List Tm)(c5:List Fm)(f h i:Int):AV.agg [AV.sc (.string a),sI b,sI c,sL Ty.av c3,sL Tm.av d,sL Fm.av c5,sI f,sI h,sI i,AV.slice .iw [],AV.slice .iw [],AV.slice .iw [],AV.slice .iw []]=iz.av (iz.mk a (Fm.mk b (Ty.mk c c3) d c5) (Pf.mk f h (Ty.mk i []) [] [] [])):=by rw[iz.eG]<;>rfl
def sJ.av(x:sJ):AV:=.agg [sL iz.av x.dO]
def sJ.eG(dO:List iz):(sJ.mk dO).av=.agg [sL iz.av dO]:=rfl
def sJ.eS(x:sJ):x.av=.agg [sL iz.av x.dO]:=by cases x;exact sJ.eG _
@[simp] theorem sJ.jz(x:sJ):x.av.cells=[sL iz.av x.dO]:=by rw[sJ.eS];rfl
@[simp] theorem sJ.rf(x:sJ):eo x.av=true:=by rw[sJ.eS];rfl
@[simp] theorem sJ.nF(x:sJ):x.av.norm=x.av:=by rw[sJ.eS];rfl
@[simp] theorem sJ.acC(a:List iz):AV.agg [sL iz.av a]=sJ.av (sJ.mk a):=by rw[sJ.eG]<;>rfl
def qV.av(x:qV):AV:=.agg [sI x.cU.ail,sI x.cU.cT.ail,sL Ty.av x.cU.cT.aim,sL Tm.av x.cU.dc,sL Fm.av x.cU.aim,AV.slice .iw (List.map (λn=>AV.sc (Value.int .i64 n)) x.uses)]
def qV.eG(cU:Fm)(uses:List Int):(qV.mk cU uses).av=.agg [sI cU.ail,sI cU.cT.ail,sL Ty.av cU.cT.aim,sL Tm.av cU.dc,sL Fm.av cU.aim,AV.slice .iw (List.map (λn=>AV.sc (Value.int .i64 n)) uses)]:=rfl
@[simp] theorem qV.yT(k:Nat)(x:qV):x.av.low k=true:=by
 cases x;rw[qV.eG];simp[AV.low,AV.gE]
def qV.eS(x:qV):x.av=.agg [sI x.cU.ail,sI x.cU.cT.ail,sL Ty.av x.cU.cT.aim,sL Tm.av x.cU.dc,sL Fm.av x.cU.aim,AV.slice .iw (List.map (λn=>AV.sc (Value.int .i64 n)) x.uses)]:=by cases x;exact qV.eG _ _
@[simp] theorem qV.jz(x:qV):x.av.cells=[sI x.cU.ail,sI x.cU.cT.ail,sL Ty.av x.cU.cT.aim,sL Tm.av x.cU.dc,sL Fm.av x.cU.aim,AV.slice .iw (List.map (λn=>AV.sc (Value.int .i64 n)) x.uses)]:=by rw[qV.eS];rfl
@[simp] theorem qV.rf(x:qV):eo x.av=true:=by rw[qV.eS];rfl
@[simp] theorem qV.nF(x:qV):x.av.norm=x.av:=by rw[qV.eS];rfl
@[simp] theorem qV.XI(a b:Int)(c:List Ty)(c3:List Tm)(d:List Fm)(c5:List Int):AV.agg [sI a,sI b,sL Ty.av c,sL Tm.av c3,sL Fm.av d,AV.slice .iw (List.map (λn=>AV.sc (Value.int .i64 n)) c5)]=qV.av (qV.mk (Fm.mk a (Ty.mk b c) c3 d) c5):=by rw[qV.eG]<;>rfl
@[simp] theorem qV.XY(a b:Int):AV.agg [sI a,sI b,AV.slice .iw [],AV.slice .iw [],AV.slice .iw [],AV.slice .iw []]=qV.av (qV.mk (Fm.mk a (Ty.mk b []) [] []) []):=by rw[qV.eG]<;>rfl
def Sq.av(x:Sq):AV:=.agg [sL Ty.av x.aip,sL Fm.av x.ais]
def Sq.eG(aip:List Ty)(ais:List Fm):(Sq.mk aip ais).av=.agg [sL Ty.av aip,sL Fm.av ais]:=rfl
def Sq.eS(x:Sq):x.av=.agg [sL Ty.av x.aip,sL Fm.av x.ais]:=by cases x;exact Sq.eG _ _
@[simp] theorem Sq.jz(x:Sq):x.av.cells=[sL Ty.av x.aip,sL Fm.av x.ais]:=by rw[Sq.eS];rfl
@[simp] theorem Sq.rf(x:Sq):eo x.av=true:=by rw[Sq.eS];rfl
@[simp] theorem Sq.nF(x:Sq):x.av.norm=x.av:=by rw[Sq.eS];rfl
@[simp] theorem Sq.aaj(a:List Ty)(b:List Fm):AV.agg [sL Ty.av a,sL Fm.av b]=Sq.av (Sq.mk a b):=by rw[Sq.eG]<;>rfl
@[simp] theorem Sq.afi:AV.agg [AV.slice .iw [],AV.slice .iw []]=Sq.av (Sq.mk [] []):=by rw[Sq.eG]<;>rfl
def dd.av(x:dd):AV:=.agg [AV.slice .iw (List.map (λn=>AV.sc (Value.int .i64 n)) x.l),sI x.qS]
def dd.eG(l:List Int)(qS:Int):(dd.mk l qS).av=.agg [AV.slice .iw (List.map (λn=>AV.sc (Value.int .i64 n)) l),sI qS]:=rfl
def dd.eS(x:dd):x.av=.agg [AV.slice .iw (List.map (λn=>AV.sc (Value.int .i64 n)) x.l),sI x.qS]:=by cases x;exact dd.eG _ _
@[simp] theorem dd.jz(x:dd):x.av.cells=[AV.slice .iw (List.map (λn=>AV.sc (Value.int .i64 n)) x.l),sI x.qS]:=by rw[dd.eS];rfl
@[simp] theorem dd.rf(x:dd):eo x.av=true:=by rw[dd.eS];rfl
@[simp] theorem dd.acC(a:List Int)(b:Int):AV.agg [AV.slice .iw (List.map (λn=>AV.sc (Value.int .i64 n)) a),sI b]=dd.av (dd.mk a b):=by rw[dd.eG]<;>rfl
def dI.av(x:dI):AV:=.agg [sI x.vars,sI x.ais]
def dI.eG(vars ais:Int):(dI.mk vars ais).av=.agg [sI vars,sI ais]:=rfl
def dI.eS(x:dI):x.av=.agg [sI x.vars,sI x.ais]:=by cases x;exact dI.eG _ _
@[simp] theorem dI.jz(x:dI):x.av.cells=[sI x.vars,sI x.ais]:=by rw[dI.eS];rfl
@[simp] theorem dI.rf(x:dI):eo x.av=true:=by rw[dI.eS];rfl
@[simp] theorem dI.nF(x:dI):x.av.norm=x.av:=by rw[dI.eS];rfl
@[simp] theorem dI.agg(a b:Int):AV.agg [sI a,sI b]=dI.av (dI.mk a b):=by rw[dI.eG]<;>rfl
def cX.av(x:cX):AV:=.agg [sL Fm.av x.lemmas,sL Ty.av x.aip,sL Fm.av x.ais]
def cX.eG(lemmas:List Fm)(aip:List Ty)(ais:List Fm):(cX.mk lemmas aip ais).av=.agg [sL Fm.av lemmas,sL Ty.av aip,sL Fm.av ais]:=rfl
def cX.eS(x:cX):x.av=.agg [sL Fm.av x.lemmas,sL Ty.av x.aip,sL Fm.av x.ais]:=by cases x;exact cX.eG _ _ _
@[simp] theorem cX.jz(x:cX):x.av.cells=[sL Fm.av x.lemmas,sL Ty.av x.aip,sL Fm.av x.ais]:=by rw[cX.eS];rfl
@[simp] theorem cX.rf(x:cX):eo x.av=true:=by rw[cX.eS];rfl
@[simp] theorem cX.nF(x:cX):x.av.norm=x.av:=by rw[cX.eS];rfl
@[simp] theorem cX.P9(a:List Fm)(b:List Ty)(c:List Fm):AV.agg [sL Fm.av a,sL Ty.av b,sL Fm.av c]=cX.av (cX.mk a b c):=by rw[cX.eG]<;>rfl
def dZ.av(x:dZ):AV:=.agg [sI x.dc,sI x.eh,sI x.aim,sB x.aio,sB x.oB]
def dZ.eG(dc eh aim:Int)(aio oB:Bool):(dZ.mk dc eh aim aio oB).av=.agg [sI dc,sI eh,sI aim,sB aio,sB oB]:=rfl
def dZ.eS(x:dZ):x.av=.agg [sI x.dc,sI x.eh,sI x.aim,sB x.aio,sB x.oB]:=by cases x;exact dZ.eG _ _ _ _ _
@[simp] theorem dZ.jz(x:dZ):x.av.cells=[sI x.dc,sI x.eh,sI x.aim,sB x.aio,sB x.oB]:=by rw[dZ.eS];rfl
@[simp] theorem dZ.rf(x:dZ):eo x.av=true:=by rw[dZ.eS];rfl
@[simp] theorem dZ.nF(x:dZ):x.av.norm=x.av:=by rw[dZ.eS];rfl
@[simp] theorem dZ.agg(a b c:Int)(c3 d:Bool):AV.agg [sI a,sI b,sI c,sB c3,sB d]=dZ.av (dZ.mk a b c c3 d):=by rw[dZ.eG]<;>rfl
def cP.av(x:cP):AV:=.agg [sI x.cU.ail,sI x.cU.cT.ail,sL Ty.av x.cU.cT.aim,sL Tm.av x.cU.dc,sL Fm.av x.cU.aim,AV.sc (.int .u32 x.uses)]
def cP.eG(cU:Fm)(uses:Int):(cP.mk cU uses).av=.agg [sI cU.ail,sI cU.cT.ail,sL Ty.av cU.cT.aim,sL Tm.av cU.dc,sL Fm.av cU.aim,AV.sc (.int .u32 uses)]:=rfl
def cP.eS(x:cP):x.av=.agg [sI x.cU.ail,sI x.cU.cT.ail,sL Ty.av x.cU.cT.aim,sL Tm.av x.cU.dc,sL Fm.av x.cU.aim,AV.sc (.int .u32 x.uses)]:=by cases x;exact cP.eG _ _
@[simp] theorem cP.jz(x:cP):x.av.cells=[sI x.cU.ail,sI x.cU.cT.ail,sL Ty.av x.cU.cT.aim,sL Tm.av x.cU.dc,sL Fm.av x.cU.aim,AV.sc (.int .u32 x.uses)]:=by rw[cP.eS];rfl
@[simp] theorem cP.rf(x:cP):eo x.av=true:=by rw[cP.eS];rfl
@[simp] theorem cP.nF(x:cP):x.av.norm=x.av:=by rw[cP.eS];rfl
@[simp] theorem cP.P9(a b:Int)(c:List Ty)(c3:List Tm)(d:List Fm)(c5:Int):AV.agg [sI a,sI b,sL Ty.av c,sL Tm.av c3,sL Fm.av d,AV.sc (.int .u32 c5)]=cP.av (cP.mk (Fm.mk a (Ty.mk b c) c3 d) c5):=by rw[cP.eG]<;>rfl
@[simp] theorem cP.abk(a b c5:Int):AV.agg [sI a,sI b,AV.slice .iw [],AV.slice .iw [],AV.slice .iw [],AV.sc (.int .u32 c5)]=cP.av (cP.mk (Fm.mk a (Ty.mk b []) [] []) c5):=by rw[cP.eG]<;>rfl
def dU.av(x:dU):AV:=.agg [sI x.vars,sI x.ais]
def dU.eG(vars ais:Int):(dU.mk vars ais).av=.agg [sI vars,sI ais]:=rfl
def dU.eS(x:dU):x.av=.agg [sI x.vars,sI x.ais]:=by cases x;exact dU.eG _ _
@[simp] theorem dU.jz(x:dU):x.av.cells=[sI x.vars,sI x.ais]:=by rw[dU.eS];rfl
@[simp] theorem dU.rf(x:dU):eo x.av=true:=by rw[dU.eS];rfl
def cR.av(x:cR):AV:=.agg [sI x.cT.ail,sL Ty.av x.cT.aim,sI x.ain]
def cR.eG(cT:Ty)(ain:Int):(cR.mk cT ain).av=.agg [sI cT.ail,sL Ty.av cT.aim,sI ain]:=rfl
def cR.eS(x:cR):x.av=.agg [sI x.cT.ail,sL Ty.av x.cT.aim,sI x.ain]:=by cases x;exact cR.eG _ _
@[simp] theorem cR.jz(x:cR):x.av.cells=[sI x.cT.ail,sL Ty.av x.cT.aim,sI x.ain]:=by rw[cR.eS];rfl
@[simp] theorem cR.rf(x:cR):eo x.av=true:=by rw[cR.eS];rfl
@[simp] theorem cR.nF(x:cR):x.av.norm=x.av:=by rw[cR.eS];rfl
@[simp] theorem cR.acC(a:Int)(b:List Ty)(c:Int):AV.agg [sI a,sL Ty.av b,sI c]=cR.av (cR.mk (Ty.mk a b) c):=by rw[cR.eG]<;>rfl
@[simp] theorem cR.ag3(a b:Int):AV.agg [sI a,AV.slice .iw [],sI b]=cR.av (cR.mk (Ty.mk a []) b):=by rw[cR.eG]<;>rfl
def c7.av(x:c7):AV:=.agg [sI x.cU.ail,sI x.cU.cT.ail,sL Ty.av x.cU.cT.aim,sL Tm.av x.cU.dc,sL Fm.av x.cU.aim,sI x.vars]
def c7.eG(cU:Fm)(vars:Int):(c7.mk cU vars).av=.agg [sI cU.ail,sI cU.cT.ail,sL Ty.av cU.cT.aim,sL Tm.av cU.dc,sL Fm.av cU.aim,sI vars]:=rfl
def c7.eS(x:c7):x.av=.agg [sI x.cU.ail,sI x.cU.cT.ail,sL Ty.av x.cU.cT.aim,sL Tm.av x.cU.dc,sL Fm.av x.cU.aim,sI x.vars]:=by cases x;exact c7.eG _ _
@[simp] theorem c7.jz(x:c7):x.av.cells=[sI x.cU.ail,sI x.cU.cT.ail,sL Ty.av x.cU.cT.aim,sL Tm.av x.cU.dc,sL Fm.av x.cU.aim,sI x.vars]:=by rw[c7.eS];rfl
@[simp] theorem c7.rf(x:c7):eo x.av=true:=by rw[c7.eS];rfl
@[simp] theorem c7.nF(x:c7):x.av.norm=x.av:=by rw[c7.eS];rfl
@[simp] theorem c7.P9(a b:Int)(c:List Ty)(c3:List Tm)(d:List Fm)(c5:Int):AV.agg [sI a,sI b,sL Ty.av c,sL Tm.av c3,sL Fm.av d,sI c5]=c7.av (c7.mk (Fm.mk a (Ty.mk b c) c3 d) c5):=by rw[c7.eG]<;>rfl
def cV.av(x:cV):AV:=.agg [sI x.eX.vars,sI x.eX.ais,sL cR.av x.aip,sL c7.av x.known]
def cV.eG(eX:dU)(aip:List cR)(known:List c7):(cV.mk eX aip known).av=.agg [sI eX.vars,sI eX.ais,sL cR.av aip,sL c7.av known]:=rfl
def cV.eS(x:cV):x.av=.agg [sI x.eX.vars,sI x.eX.ais,sL cR.av x.aip,sL c7.av x.known]:=by cases x;exact cV.eG _ _ _
@[simp] theorem cV.jz(x:cV):x.av.cells=[sI x.eX.vars,sI x.eX.ais,sL cR.av x.aip,sL c7.av x.known]:=by rw[cV.eS];rfl
@[simp] theorem cV.rf(x:cV):eo x.av=true:=by rw[cV.eS];rfl
@[simp] theorem cV.nF(x:cV):x.av.norm=x.av:=by rw[cV.eS];rfl
@[simp] theorem cV.aaj(a b:Int)(c:List cR)(c3:List c7):AV.agg [sI a,sI b,sL cR.av c,sL c7.av c3]=cV.av (cV.mk (dU.mk a b) c c3):=by rw[cV.eG]<;>rfl
def dS.av(x:dS):AV:=.agg [sB x.aio,sB x.typed,sI x.dc,sI x.eh,sI x.aim,sI x.sM,sI x.vars,sI x.ais]
def dS.eG(aio typed:Bool)(dc eh aim sM vars ais:Int):(dS.mk aio typed dc eh aim sM vars ais).av=.agg [sB aio,sB typed,sI dc,sI eh,sI aim,sI sM,sI vars,sI ais]:=rfl
def dS.eS(x:dS):x.av=.agg [sB x.aio,sB x.typed,sI x.dc,sI x.eh,sI x.aim,sI x.sM,sI x.vars,sI x.ais]:=by cases x;exact dS.eG _ _ _ _ _ _ _ _
@[simp] theorem dS.jz(x:dS):x.av.cells=[sB x.aio,sB x.typed,sI x.dc,sI x.eh,sI x.aim,sI x.sM,sI x.vars,sI x.ais]:=by rw[dS.eS];rfl
@[simp] theorem dS.rf(x:dS):eo x.av=true:=by rw[dS.eS];rfl
@[simp] theorem dS.nF(x:dS):x.av.norm=x.av:=by rw[dS.eS];rfl
@[simp] theorem dS.agg(a b:Bool)(c c3 d c5 f h:Int):AV.agg [sB a,sB b,sI c,sI c3,sI d,sI c5,sI f,sI h]=dS.av (dS.mk a b c c3 d c5 f h):=by rw[dS.eG]<;>rfl
def da.av(x:da):AV:=.agg [sI x.ain,sB x.ik]
def da.eG(ain:Int)(ik:Bool):(da.mk ain ik).av=.agg [sI ain,sB ik]:=rfl
def da.eS(x:da):x.av=.agg [sI x.ain,sB x.ik]:=by cases x;exact da.eG _ _
@[simp] theorem da.jz(x:da):x.av.cells=[sI x.ain,sB x.ik]:=by rw[da.eS];rfl
@[simp] theorem da.rf(x:da):eo x.av=true:=by rw[da.eS];rfl
@[simp] theorem da.agg(a:Int)(b:Bool):AV.agg [sI a,sB b]=da.av (da.mk a b):=by rw[da.eG]<;>rfl
def dK.av(x:dK):AV:=.agg [sI x.ail,sI x.base.ail,sI x.base.aio,sI x.base.cT.ail,sL Ty.av x.base.cT.aim,sL Tm.av x.base.aim,sL Ty.av x.vars,sI x.next.ail,sI x.next.aio,sI x.next.cT.ail,sL Ty.av x.next.cT.aim,sL Tm.av x.next.aim]
def dK.eG(ail:Int)(base:Tm)(vars:List Ty)(next:Tm):(dK.mk ail base vars next).av=.agg [sI ail,sI base.ail,sI base.aio,sI base.cT.ail,sL Ty.av base.cT.aim,sL Tm.av base.aim,sL Ty.av vars,sI next.ail,sI next.aio,sI next.cT.ail,sL Ty.av next.cT.aim,sL Tm.av next.aim]:=rfl
def dK.eS(x:dK):x.av=.agg [sI x.ail,sI x.base.ail,sI x.base.aio,sI x.base.cT.ail,sL Ty.av x.base.cT.aim,sL Tm.av x.base.aim,sL Ty.av x.vars,sI x.next.ail,sI x.next.aio,sI x.next.cT.ail,sL Ty.av x.next.cT.aim,sL Tm.av x.next.aim]:=by cases x;exact dK.eG _ _ _ _
@[simp] theorem dK.jz(x:dK):x.av.cells=[sI x.ail,sI x.base.ail,sI x.base.aio,sI x.base.cT.ail,sL Ty.av x.base.cT.aim,sL Tm.av x.base.aim,sL Ty.av x.vars,sI x.next.ail,sI x.next.aio,sI x.next.cT.ail,sL Ty.av x.next.cT.aim,sL Tm.av x.next.aim]:=by rw[dK.eS];rfl
@[simp] theorem dK.rf(x:dK):eo x.av=true:=by rw[dK.eS];rfl
def HC.cells(k:Nat):HC->List AV
 |.eJ x=>[nu k x.term,sI x.steps]|.dz x=>[sI x.ail,sI x.aio,sI x.oB.ail,sL Ty.av x.oB.aim,AV.slice .iw (List.map (nu k) x.aim),sI x.size,sI x.free,sB x.normal]
@[simp] theorem HC.Od(k:Nat)(x:eA):HC.cells k (.eJ x)=[nu k x.term,sI x.steps]:=rfl
@[simp] theorem HC.Rh(k:Nat)(x:dw):HC.cells k (.dz x)=[sI x.ail,sI x.aio,sI x.oB.ail,sL Ty.av x.oB.aim,AV.slice .iw (List.map (nu k) x.aim),sI x.size,sI x.free,sB x.normal]:=rfl
abbrev iW(k:Nat)(l:List HC):cZ:=vp HC.cells k l
end Go.eU
namespace Go.Proofs.YtjgjcpnoaeljkaaGreatDoor
open Go Go.kC Go.eU Tryz
@[simp] theorem Ux:ew prog 3=some (false,1):=by kernel_rfl
@[simp] theorem Z':hO prog 3=some [.sc (.int .i64 0)]:=by kernel_rfl
@[simp] theorem rE:prog.underlying 3=some (.int .i64):=by kernel_rfl
@[simp] theorem ah4:ew prog 4=some (false,1)/\hO prog 4=some [.sc (.bool false)]/\ew prog 9=some (false,1)/\ew prog 22=some (false,1)/\ew prog 25=some (false,1)/\ew prog 27=some (true,1)/\nR prog 27=some [.slice .full []]/\hO prog 27=some [.slice .full []]/\dN prog 27 0=some (0,25)/\fy prog 27 0=some (0,1):=by and_intros<;>kernel_rfl
def aes:GD prog 4=some (sB false):=by kernel_rfl
@[simp] theorem OB:mK prog 22=some (3,1):=by kernel_rfl
@[simp] theorem afJ:prog.underlying 22=some (.slice 3):=by kernel_rfl
@[simp] theorem agV:mK prog 25=some (54,13):=by kernel_rfl
@[simp] theorem aeZ:prog.underlying 25=some (.slice 54):=by kernel_rfl
@[simp] theorem ahN:ew prog 31=some (false,1)/\hO prog 31=some [.slice .full []]/\ew prog 32=some (false,1)/\hO prog 32=some [.sc (.int .i64 0)]/\ew prog 41=some (false,1)/\ew prog 44=some (false,1)/\nR prog 46=some [.sc (.int .i64 0),.slice .full []]/\hO prog 46=some [.sc (.int .i64 0),.slice .full []]/\dN prog 46 0=some (0,3)/\fy prog 46 0=some (0,1):=by and_intros<;>kernel_rfl
@[simp] theorem ag_:mK prog 31=some (22,1):=by kernel_rfl
@[simp] theorem I4:prog.underlying 37=some (.map 3 4):=by kernel_rfl
@[simp] theorem ES:mK prog 41=some (49,5):=by kernel_rfl
@[simp] theorem aeS:prog.underlying 41=some (.slice 49):=by kernel_rfl
@[simp] theorem F9:mK prog 44=some (46,2):=by kernel_rfl
@[simp] theorem aeT:prog.underlying 44=some (.slice 46):=by kernel_rfl
@[simp] theorem ZT:ew prog 46=some (true,2):=by kernel_rfl
@[simp] theorem adV:dN prog 46 1=some (1,44)/\fy prog 46 1=some (1,1)/\ew prog 47=some (false,1)/\nR prog 49=some [.sc (.int .i64 0),.sc (.int .i64 0),.slice .full [],.slice .full [],.slice .full []]/\hO prog 49=some [.sc (.int .i64 0),.sc (.int .i64 0),.slice .full [],.slice .full [],.slice .full []]/\dN prog 49 0=some (0,3)/\fy prog 49 0=some (0,1)/\dN prog 49 1=some (1,46)/\fy prog 49 1=some (1,2)/\dN prog 49 2=some (3,47):=by and_intros<;>kernel_rfl
@[simp] theorem Ty.adT(x:Ty):qG prog 46 x.av=true:=by rw[Ty.eS,sA,ZT];rfl
@[simp] theorem BV:mK prog 47=some (60,5):=by kernel_rfl
@[simp] theorem aan:ew prog 49=some (true,5):=by kernel_rfl
@[simp] theorem adW:fy prog 49 2=some (3,1)/\dN prog 49 3=some (4,41)/\fy prog 49 3=some (4,1)/\ew prog 50=some (false,1)/\nR prog 52=some [.sc (.int .i64 0),.sc (.int .i64 0),.sc (.int .i64 0),.slice .full [],.slice .full [],.slice .full [],.slice .full []]/\hO prog 52=some [.sc (.int .i64 0),.sc (.int .i64 0),.sc (.int .i64 0),.slice .full [],.slice .full [],.slice .full [],.slice .full []]/\dN prog 52 0=some (0,3)/\fy prog 52 0=some (0,1)/\dN prog 52 1=some (1,3)/\fy prog 52 1=some (1,1):=by and_intros<;>kernel_rfl
@[simp] theorem Fm.adh(x:Fm):qG prog 49 x.av=true:=by rw[Fm.eS,sA,aan];rfl
@[simp] theorem afx:mK prog 50=some (52,7):=by kernel_rfl
@[simp] theorem afU:ew prog 52=some (true,7):=by kernel_rfl
@[simp] theorem ad4:dN prog 52 2=some (2,46)/\fy prog 52 2=some (2,2)/\dN prog 52 3=some (4,47)/\fy prog 52 3=some (4,1)/\dN prog 52 4=some (5,41)/\dN prog 52 5=some (6,50)/\nR prog 54=some [.sc (.string ByteArray.empty),.sc (.int .i64 0),.sc (.int .i64 0),.slice .full [],.slice .full [],.slice .full [],.sc (.int .i64 0),.sc (.int .i64 0),.sc (.int .i64 0),.slice .full [],.slice .full [],.slice .full [],.slice .full []]/\hO prog 54=some [.sc (.string ByteArray.empty),.sc (.int .i64 0),.sc (.int .i64 0),.slice .full [],.slice .full [],.slice .full [],.sc (.int .i64 0),.sc (.int .i64 0),.sc (.int .i64 0),.slice .full [],.slice .full [],.slice .full [],.slice .full []]/\dN prog 54 0=some (0,9)/\fy prog 54 0=some (0,1):=by and_intros<;>kernel_rfl
@[simp] theorem Pf.ad3(x:Pf):qG prog 52 x.av=true:=by rw[Pf.eS,sA,afU];rfl
@[simp] theorem Z8:ew prog 54=some (true,13):=by kernel_rfl
@[simp] theorem adg:dN prog 54 1=some (1,49)/\fy prog 54 1=some (1,5)/\dN prog 54 2=some (6,52)/\fy prog 54 2=some (6,7)/\nR prog 60=some [.sc (.int .i64 0),.sc (.int .i64 0),.sc (.int .i64 0),.slice .full [],.slice .full []]/\dN prog 60 0=some (0,3)/\fy prog 60 0=some (0,1)/\dN prog 60 1=some (1,3)/\fy prog 60 1=some (1,1)/\dN prog 60 2=some (2,46):=by and_intros<;>kernel_rfl
@[simp] theorem iz.adR(x:iz):qG prog 54 x.av=true:=by rw[iz.eS,sA,Z8];rfl
@[simp] theorem aai:ew prog 60=some (true,5):=by kernel_rfl
@[simp] theorem acq:hO prog 60=some [.sc (.int .i64 0),.sc (.int .i64 0),.sc (.int .i64 0),.slice .full [],.slice .full []]:=by kernel_rfl
@[simp] theorem adA:fy prog 60 2=some (2,2)/\dN prog 60 3=some (4,47)/\fy prog 60 3=some (4,1)/\mK prog 64=some (5,1)/\ew prog 66=some (true,6)/\nR prog 66=some [.sc (.int .i64 0),.sc (.int .i64 0),.slice .full [],.slice .full [],.slice .full [],.slice .full []]/\hO prog 66=some [.sc (.int .i64 0),.sc (.int .i64 0),.slice .full [],.slice .full [],.slice .full [],.slice .full []]/\dN prog 66 0=some (0,49)/\fy prog 66 0=some (0,5)/\dN prog 66 1=some (5,22):=by and_intros<;>kernel_rfl
@[simp] theorem Tm.adG(x:Tm):qG prog 60 x.av=true:=by rw[Tm.eS,sA,aai];rfl
@[simp] theorem adw:fy prog 66 1=some (5,1)/\ew prog 70=some (true,2)/\nR prog 70=some [.slice .full [],.slice .full []]/\hO prog 70=some [.slice .full [],.slice .full []]/\dN prog 70 0=some (0,44)/\fy prog 70 0=some (0,1)/\dN prog 70 1=some (1,41)/\fy prog 70 1=some (1,1)/\nR prog 76=some [.slice .full [],.sc (.int .i64 0)]/\dN prog 76 0=some (0,22):=by and_intros<;>kernel_rfl
@[simp] theorem adk:fy prog 76 0=some (0,1)/\dN prog 76 1=some (1,3)/\ew prog 79=some (false,1)/\hO prog 79=some [.slice .full []]/\ew prog 80=some (false,1)/\hO prog 80=some [.sc .nilFunc]/\ew prog 101=some (false,1)/\ew prog 102=some (false,1)/\hO prog 102=some [.sc .nilFunc]/\ew prog 104=some (false,1):=by and_intros<;>kernel_rfl
@[simp] theorem abE:prog.underlying 101=some (.map 3 4):=by kernel_rfl
@[simp] theorem ag8:ew prog 108=some (true,2)/\nR prog 108=some [.sc (.int .i64 0),.sc (.int .i64 0)]/\hO prog 108=some [.sc (.int .i64 0),.sc (.int .i64 0)]/\dN prog 108 0=some (0,3)/\dN prog 108 1=some (1,3)/\ew prog 117=some (false,1)/\hO prog 117=some [.sc .nilFunc]/\ew prog 138=some (true,3)/\nR prog 138=some [.slice .full [],.slice .full [],.slice .full []]/\hO prog 138=some [.slice .full [],.slice .full [],.slice .full []]:=by and_intros<;>kernel_rfl
@[simp] theorem abp:dN prog 138 0=some (0,41)/\fy prog 138 0=some (0,1)/\dN prog 138 1=some (1,44)/\fy prog 138 1=some (1,1)/\dN prog 138 2=some (2,41)/\fy prog 138 2=some (2,1)/\ew prog 145=some (true,5)/\nR prog 145=some [.sc (.int .i64 0),.sc (.int .i64 0),.sc (.int .i64 0),.sc (.bool false),.sc (.bool false)]/\hO prog 145=some [.sc (.int .i64 0),.sc (.int .i64 0),.sc (.int .i64 0),.sc (.bool false),.sc (.bool false)]/\dN prog 145 0=some (0,3):=by and_intros<;>kernel_rfl
@[simp] theorem abm:fy prog 145 0=some (0,1)/\dN prog 145 1=some (1,3)/\fy prog 145 1=some (1,1)/\dN prog 145 2=some (2,3)/\fy prog 145 2=some (2,1)/\dN prog 145 3=some (3,4)/\fy prog 145 3=some (3,1)/\dN prog 145 4=some (4,4)/\fy prog 145 4=some (4,1)/\ew prog 155=some (false,1):=by and_intros<;>kernel_rfl
@[simp] theorem TP:mK prog 155=some (202,3):=by kernel_rfl
@[simp] theorem abu:prog.underlying 155=some (.slice 202):=by kernel_rfl
@[simp] theorem agT:ew prog 159=some (false,1)/\nR prog 162=some [.slice .full [],.sc (.map none)]/\dN prog 162 0=some (0,41)/\fy prog 162 0=some (0,1)/\dN prog 162 1=some (1,159)/\fy prog 162 1=some (1,1)/\ew prog 164=some (false,1)/\hO prog 164=some [.sc (.int .u32 0)]/\ew prog 166=some (true,6)/\nR prog 166=some [.sc (.int .i64 0),.sc (.int .i64 0),.slice .full [],.slice .full [],.slice .full [],.sc (.int .u32 0)]:=by and_intros<;>kernel_rfl
@[simp] theorem agA:hO prog 166=some [.sc (.int .i64 0),.sc (.int .i64 0),.slice .full [],.slice .full [],.slice .full [],.sc (.int .u32 0)]/\dN prog 166 0=some (0,49)/\fy prog 166 0=some (0,5)/\dN prog 166 1=some (5,164)/\fy prog 166 1=some (5,1)/\ew prog 170=some (true,2)/\dN prog 170 0=some (0,3)/\dN prog 170 1=some (1,3)/\ew prog 171=some (false,1)/\ew prog 173=some (true,4):=by and_intros<;>kernel_rfl
@[simp] theorem aew:mK prog 171=some (249,6):=by kernel_rfl
@[simp] theorem aaR:prog.underlying 171=some (.slice 249):=by kernel_rfl
@[simp] theorem agN:nR prog 173=some [.sc (.int .i64 0),.sc (.int .i64 0),.slice .full [],.slice .full []]/\hO prog 173=some [.sc (.int .i64 0),.sc (.int .i64 0),.slice .full [],.slice .full []]/\dN prog 173 0=some (0,170)/\dN prog 173 1=some (2,155)/\fy prog 173 1=some (2,1)/\dN prog 173 2=some (3,171)/\nR prog 192=some [.sc (.bool false),.sc (.bool false),.sc (.int .i64 0),.sc (.int .i64 0),.sc (.int .i64 0),.sc (.int .i64 0),.sc (.int .i64 0),.sc (.int .i64 0)]/\hO prog 192=some [.sc (.bool false),.sc (.bool false),.sc (.int .i64 0),.sc (.int .i64 0),.sc (.int .i64 0),.sc (.int .i64 0),.sc (.int .i64 0),.sc (.int .i64 0)]/\dN prog 192 0=some (0,4)/\dN prog 192 1=some (1,4):=by and_intros<;>kernel_rfl
@[simp] theorem Uu:ew prog 192=some (true,8):=by kernel_rfl
@[simp] theorem ac4:dN prog 192 2=some (2,3)/\dN prog 192 3=some (3,3)/\dN prog 192 4=some (4,3)/\dN prog 192 6=some (6,3)/\dN prog 192 7=some (7,3)/\nR prog 202=some [.sc (.int .i64 0),.slice .full [],.sc (.int .i64 0)]/\hO prog 202=some [.sc (.int .i64 0),.slice .full [],.sc (.int .i64 0)]/\dN prog 202 0=some (0,46)/\fy prog 202 0=some (0,2)/\dN prog 202 1=some (2,3):=by and_intros<;>kernel_rfl
@[simp] theorem dS.acX(x:dS):qG prog 192 x.av=true:=by rw[dS.eS,sA,Uu];rfl
@[simp] theorem yD:ew prog 202=some (true,3):=by kernel_rfl
@[simp] theorem acN:fy prog 202 1=some (2,1)/\nR prog 221=some [.sc (.int .i64 0),.sc (.bool false)]/\dN prog 221 0=some (0,3)/\dN prog 221 1=some (1,4)/\ew prog 243=some (true,12)/\nR prog 243=some [.sc (.int .i64 0),.sc (.int .i64 0),.sc (.int .i64 0),.sc (.int .i64 0),.slice .full [],.slice .full [],.slice .full [],.sc (.int .i64 0),.sc (.int .i64 0),.sc (.int .i64 0),.slice .full [],.slice .full []]/\hO prog 243=some [.sc (.int .i64 0),.sc (.int .i64 0),.sc (.int .i64 0),.sc (.int .i64 0),.slice .full [],.slice .full [],.slice .full [],.sc (.int .i64 0),.sc (.int .i64 0),.sc (.int .i64 0),.slice .full [],.slice .full []]/\dN prog 243 0=some (0,3)/\fy prog 243 0=some (0,1)/\dN prog 243 1=some (1,60):=by and_intros<;>kernel_rfl
@[simp] theorem cR.abW(x:cR):qG prog 202 x.av=true:=by rw[cR.eS,sA,yD];rfl
@[simp] theorem acj:prog.underlying 222=some (.array 21 192):=by kernel_rfl
@[simp] theorem ac5:fy prog 243 1=some (1,5)/\dN prog 243 2=some (6,44)/\fy prog 243 2=some (6,1)/\dN prog 243 3=some (7,60)/\fy prog 243 3=some (7,5)/\nR prog 249=some [.sc (.int .i64 0),.sc (.int .i64 0),.slice .full [],.slice .full [],.slice .full [],.sc (.int .i64 0)]/\hO prog 249=some [.sc (.int .i64 0),.sc (.int .i64 0),.slice .full [],.slice .full [],.slice .full [],.sc (.int .i64 0)]/\dN prog 249 0=some (0,49)/\fy prog 249 0=some (0,5)/\dN prog 249 1=some (5,3):=by and_intros<;>kernel_rfl
@[simp] theorem UC:ew prog 249=some (true,6):=by kernel_rfl
@[simp] theorem aa0:fy prog 249 1=some (5,1)/\ew prog 270=some (true,9)/\hO prog 270=some [.sc (.int .i64 0),.slice .full [],.sc (.int .i64 0),.sc (.int .i64 0),.slice .full [],.sc (.int .i64 0),.sc (.int .i64 0),.slice .full [],.sc (.int .i64 0)]/\ew prog 273=some (false,1)/\nR prog 282=some [.sc (.pointer none),.sc (.int .i64 0)]/\dN prog 282 0=some (0,279)/\fy prog 282 0=some (0,1)/\dN prog 282 1=some (1,3)/\ew prog 313=some (false,1)/\nR prog 319=some [.sc (.int .i64 0),.sc (.int .i64 0),.sc (.int .i64 0),.slice .full [],.slice .full [],.sc (.int .i64 0),.sc (.int .i64 0),.sc (.bool false)]:=by and_intros<;>kernel_rfl
@[simp] theorem c7.abK(x:c7):qG prog 249 x.av=true:=by rw[c7.eS,sA,UC];rfl
@[simp] theorem Dz:prog.underlying 270=some (.array 3 202):=by kernel_rfl
@[simp] theorem ae5(b g o:Nat):fp prog 270 (.gx b g o) (.sc (.int .i64 0))=some (.gx b g (o+0)):=by kernel_rfl
@[simp] theorem ae1(b g o:Nat):fp prog 270 (.gx b g o) (.sc (.int .i64 1))=some (.gx b g (o+3)):=by kernel_rfl
@[simp] theorem aeF(b g o:Nat):fp prog 270 (.gx b g o) (.sc (.int .i64 2))=some (.gx b g (o+6)):=by kernel_rfl
@[simp] theorem abF:ew prog 279=some (false,1):=by kernel_rfl
@[simp] theorem YQ:hO prog 279=some [.sc (.pointer none)]:=by kernel_rfl
@[simp] theorem V7:prog.underlying 279=some (.pointer 319):=by kernel_rfl
@[simp] theorem ahu(k:Nat)(x:Option Nat):kX prog .eql 279 (nu k x) (.sc (.pointer none))=some (.sc (.bool x.isNone)):=VI V7
@[simp] theorem ahl(k:Nat)(x:Option Nat):kX prog .neq 279 (nu k x) (.sc (.pointer none))=some (.sc (.bool x.isSome)):=V3 V7
@[simp] theorem QY:mK prog 313=some (279,1):=by kernel_rfl
@[simp] theorem ab3:dN prog 319 0=some (0,3)/\fy prog 319 0=some (0,1)/\dN prog 319 1=some (1,3)/\fy prog 319 1=some (1,1)/\dN prog 319 2=some (2,46)/\fy prog 319 2=some (2,2)/\dN prog 319 3=some (4,313)/\fy prog 319 3=some (4,1)/\dN prog 319 4=some (5,3)/\fy prog 319 4=some (5,1):=by and_intros<;>kernel_rfl
@[simp] theorem ac9:dN prog 319 5=some (6,3)/\dN prog 319 6=some (7,4)/\ew prog 331=some (false,1):=by and_intros<;>kernel_rfl
@[simp] theorem aaM:prog.underlying 330=some (.array 14 3):=by kernel_rfl
@[simp] theorem ag7(tag:Tag)(l:List Int)(a:Int):k0 prog 22 (.slice tag (List.map sI l)) (some (.sc (.int .i64 a))) none none=(ru l a (dp l)).map λr=>.slice .iw (List.map sI r):=N3 _ l afJ Ux (λx=>by simp)
@[simp] theorem ag0(tag:Tag)(l:List iz)(b:Int):k0 prog 25 (.slice tag (List.map iz.av l)) none (some (.sc (.int .i64 b))) none=(ru l 0 b).map λr=>.slice .iw (List.map iz.av r):=LN _ l aeZ Z8 (λx=>by simp)
@[simp] theorem agm(tag:Tag)(l:List Fm):k0 prog 41 (.slice tag (List.map Fm.av l)) none (some (.sc (.int .i64 (dp l)))) (some (.sc (.int .i64 (dp l))))=some (.slice .full (List.map Fm.av l)):=wX _ l aeS aan (λx=>by simp)
@[simp] theorem agr(tag:Tag)(l:List Ty):k0 prog 44 (.slice tag (List.map Ty.av l)) none (some (.sc (.int .i64 (dp l)))) (some (.sc (.int .i64 (dp l))))=some (.slice .full (List.map Ty.av l)):=wX _ l aeT ZT (λx=>by simp)
@[simp] theorem aeP(tag:Tag)(l:List cR):k0 prog 155 (.slice tag (List.map cR.av l)) none (some (.sc (.int .i64 (dp l)))) (some (.sc (.int .i64 (dp l))))=some (.slice .full (List.map cR.av l)):=wX _ l abu yD (λx=>by simp)
@[simp] theorem af0(tag:Tag)(l:List c7):k0 prog 171 (.slice tag (List.map c7.av l)) none (some (.sc (.int .i64 (dp l)))) (some (.sc (.int .i64 (dp l))))=some (.slice .full (List.map c7.av l)):=wX _ l aaR UC (λx=>by simp)
def dS.cs(x:dS):List AV:=x.av.cells
@[simp] theorem ah_(a:Int):fp prog 222 (.lx (.agg (List.flatMap (λx=>dS.cs x) nH))) (.sc (.int .i64 a))=(dg nH a).map λx=>.lx x.av:=EA acj Uu (λx=>rfl) (λx=>⟨_,dS.eS x⟩) (λx=>by simp) rfl
@[simp] theorem ah0(a:Int):fp prog 330 (.lx (.agg (List.map (λn=>AV.sc (Value.int .i64 n)) px))) (.sc (.int .i64 a))=(dg px a).map λx=>.lx (.sc (.int .i64 x)):=GF aaM Ux rfl
@[simp] theorem kl:prog.underlying 159=some (.map 3 207):=by kernel_rfl
def TI:GD prog 207=some (.sc .nilFunc):=by kernel_rfl
def P6:List Value:=[.int .i64 1,.int .i64 2,.int .i64 3,.int .i64 4,.int .i64 5,.int .i64 6,.int .i64 7,.int .i64 8,.int .i64 12,.int .i64 9,.int .i64 13,.int .i64 10,.int .i64 14,.int .i64 11,.int .i64 15,.int .i64 16,.int .i64 17,.int .i64 18,.int .i64 19,.int .i64 20]
def OV:List AV:=[.func (.func 145) [] [],.func (.func 146) [] [],.func (.func 147) [] [],.func (.func 148) [] [],.func (.func 148) [] [],.func (.func 149) [] [],.func (.func 150) [] [],.func (.func 151) [] [],.func (.func 151) [] [],.func (.func 152) [] [],.func (.func 152) [] [],.func (.func 153) [] [],.func (.func 153) [] [],.func (.func 154) [] [],.func (.func 154) [] [],.func (.func 155) [] [],.func (.func 155) [] [],.func (.func 156) [] [],.func (.func 157) [] [],.func (.func 158) [] []]
def Lh:AV:=.rG P6 OV
def JZ(k:Int):AV:=match mapIdx P6 (.int .i64 k)with|some j=>OV.getD j .undef|none=>.sc .nilFunc
abbrev KC(H:cZ)(o:Nat)(l:List Fm):Prop:=H[o]?=some [sL Fm.av l,AV.iR (o-1)]/\H[o-1]?=some [Lh]
def Pq{H:cZ}{o:Nat}{k:Int}(h:H[o]?=some [Lh]):p6 prog H 159 (AV.iR o) (sI k) false=some (JZ k):=R5 kl rE TI h adm adm
def hJ{k key:Int}{x:AV}(h:dj k key=true)(a:JZ key=x):JZ k=x:=by rw[Ug h];exact a
def mV{T:dt}{g:Nat}{xs:List AV}{H H':cZ}{r:AV}(h:ds prog T g xs H r H'):lX prog T (.func (.func g) [] []) xs H r H':=by
 unfold lX mM;simp only[od,uF];exact h
abbrev lK(T:dt):Prop:=T 4=some (AV.agg (List.map (λn=>AV.sc (Value.int .i64 n)) px))/\T 0=some (AV.agg (List.flatMap (λx=>dS.cs x) nH))/\T 1=some (AV.agg (List.map (λn=>AV.sc (Value.int .u8 n)) kK))
def FY{S:Type}(T:dt)(g:Nat)(cap:List AV)(st:S->cZ)(w:(S->iz->Option (Bool×S))):Prop:=
 ∀(X:cZ) (s:S) (a:iz) (b:Bool) (c:S),w s a=some (b,c)->ds prog T g ([iz.av a]++cap) (st s++X) (sB b) (st c++X)
def FY.Rw{S:Type}{T:dt}{g:Nat}{cap:List AV}{st:S->cZ}{w:(S->iz->Option (Bool×S))}(h:FY T g cap st w){s:S}{a:iz}{b:Bool}{c:S}(hw:w s a=some (b,c)):ds prog T g ([iz.av a]++cap) (st s) (sB b) (st c):=by
 have:=h [] s a b c hw
 rwa [uF,uF] at this
def EX{S:Type}(T:dt)(g:Nat)(cap:List AV)(st:S->cZ)(w:(S->Tm->Int->Option (S))):Prop:=
 ∀(X:cZ) (s:S) (a:Tm) (b:Int) (c:S),w s a b=some c->ds prog T g ([Tm.av a,sI b]++cap) (st s++X) (AV.tuple []) (st c++X)
def EX.Rw{S:Type}{T:dt}{g:Nat}{cap:List AV}{st:S->cZ}{w:(S->Tm->Int->Option (S))}(h:EX T g cap st w){s:S}{a:Tm}{b:Int}{c:S}(hw:w s a b=some c):ds prog T g ([Tm.av a,sI b]++cap) (st s) (AV.tuple []) (st c):=by
 have:=h [] s a b c hw
 rwa [uF,uF] at this
def E1{S:Type}(T:dt)(g:Nat)(cap:List AV)(st:S->cZ)(w:(S->Pf->dI->Option (S))):Prop:=
 ∀(X:cZ) (s:S) (a:Pf) (b:dI) (c:S),w s a b=some c->ds prog T g ([Pf.av a,dI.av b]++cap) (st s++X) (AV.tuple []) (st c++X)
def E1.Rw{S:Type}{T:dt}{g:Nat}{cap:List AV}{st:S->cZ}{w:(S->Pf->dI->Option (S))}(h:E1 T g cap st w){s:S}{a:Pf}{b:dI}{c:S}(hw:w s a b=some c):ds prog T g ([Pf.av a,dI.av b]++cap) (st s) (AV.tuple []) (st c):=by
 have:=h [] s a b c hw
 rwa [uF,uF] at this
def Br{S:Type}(T:dt)(g:Nat)(cap:List AV)(st:S->cZ)(w:(S->Int->Option (Bool×S))):Prop:=
 ∀(X:cZ) (s:S) (a:Int) (b:Bool) (c:S),w s a=some (b,c)->ds prog T g ([sI a]++cap) (st s++X) (sB b) (st c++X)
def Br.Rw{S:Type}{T:dt}{g:Nat}{cap:List AV}{st:S->cZ}{w:(S->Int->Option (Bool×S))}(h:Br T g cap st w){s:S}{a:Int}{b:Bool}{c:S}(hw:w s a=some (b,c)):ds prog T g ([sI a]++cap) (st s) (sB b) (st c):=by
 have:=h [] s a b c hw
 rwa [uF,uF] at this
def Ff{S:Type}(T:dt)(g:Nat)(cap:List AV)(st:S->cZ)(w:(S->Tm->Int->Option (Tm×S))):Prop:=
 ∀(X:cZ) (s:S) (a:Tm) (b:Int) (c:Tm) (d:S),w s a b=some (c,d)->ds prog T g ([Tm.av a,sI b]++cap) (st s++X) (Tm.av c) (st d++X)
def Ff.Rw{S:Type}{T:dt}{g:Nat}{cap:List AV}{st:S->cZ}{w:(S->Tm->Int->Option (Tm×S))}(h:Ff T g cap st w){s:S}{a:Tm}{b:Int}{c:Tm}{d:S}(hw:w s a b=some (c,d)):ds prog T g ([Tm.av a,sI b]++cap) (st s) (Tm.av c) (st d):=by
 have:=h [] s a b c d hw
 rwa [uF,uF] at this
def tG{S:Type}(T:dt)(g:Nat)(cap:List AV)(st:S->cZ)(w:(S->Int->Int->Option (S))):Prop:=
 ∀(X:cZ) (s:S) (a:Int) (b:Int) (c:S),w s a b=some c->ds prog T g ([sI a,sI b]++cap) (st s++X) (AV.tuple []) (st c++X)
def tG.ext{S:Type}{T:dt}{g:Nat}{cap:List AV}{st:S->cZ}{w:(S->Int->Int->Option (S))}(h:tG T g cap st w){Y:cZ}:tG T g cap (λs=>st s++Y) w:=λX s a b c hw=>by
 have:=h (Y++X) s a b c hw
 rwa [<-s6,<-s6] at this
def tG.Rw{S:Type}{T:dt}{g:Nat}{cap:List AV}{st:S->cZ}{w:(S->Int->Int->Option (S))}(h:tG T g cap st w){s:S}{a b:Int}{c:S}(hw:w s a b=some c):ds prog T g ([sI a,sI b]++cap) (st s) (AV.tuple []) (st c):=by
 have:=h [] s a b c hw
 rwa [uF,uF] at this
def tx{S:Type}(T:dt)(g:Nat)(cap:List AV)(st:S->cZ)(w:(S->Int->Int->Option (Tm×S))):Prop:=
 ∀(X:cZ) (s:S) (a:Int) (b:Int) (c:Tm) (d:S),w s a b=some (c,d)->ds prog T g ([sI a,sI b]++cap) (st s++X) (Tm.av c) (st d++X)
def tx.ext{S:Type}{T:dt}{g:Nat}{cap:List AV}{st:S->cZ}{w:(S->Int->Int->Option (Tm×S))}(h:tx T g cap st w){Y:cZ}:tx T g cap (λs=>st s++Y) w:=λX s a b c d hw=>by
 have:=h (Y++X) s a b c d hw
 rwa [<-s6,<-s6] at this
def tx.Rw{S:Type}{T:dt}{g:Nat}{cap:List AV}{st:S->cZ}{w:(S->Int->Int->Option (Tm×S))}(h:tx T g cap st w){s:S}{a b:Int}{c:Tm}{d:S}(hw:w s a b=some (c,d)):ds prog T g ([sI a,sI b]++cap) (st s) (Tm.av c) (st d):=by
 have:=h [] s a b c d hw
 rwa [uF,uF] at this
theorem fK(g:FuncId){S:Prop}(h:S):Kc prog g S:=⟨h⟩
@[simp] theorem agU:ew prog 106=some (true,3):=by kernel_rfl
@[simp] theorem agi:nR prog 106=some [.sc .nilFunc,.sc .nilFunc,.sc .nilFunc]:=by kernel_rfl
@[simp] theorem agK:hO prog 106=some [.sc .nilFunc,.sc .nilFunc,.sc .nilFunc]:=by kernel_rfl
@[simp] theorem abG:dN prog 106 0=some (0,102):=by kernel_rfl
@[simp] theorem abz:dN prog 106 1=some (1,103):=by kernel_rfl
@[simp] theorem aa2:dN prog 106 2=some (2,104):=by kernel_rfl
@[simp] theorem abY:fy prog 106 2=some (2,1):=by kernel_rfl
@[simp] theorem ahE:ew prog 103=some (false,1):=by kernel_rfl
@[simp] theorem agv:kX prog .neq 102 (.sc .nilFunc) (.sc .nilFunc)=some (.sc (.bool false)):=by
 simp[kX,oD,underlying102]
@[simp] theorem ags:kX prog .neq 103 (.sc .nilFunc) (.sc .nilFunc)=some (.sc (.bool false)):=by
 simp[kX,oD,underlying103]
@[simp] theorem ago{f:Fn}{a c:List AV}:kX prog .neq 104 (.func f a c) (.sc .nilFunc)=some (.sc (.bool true)):=by
 simp[kX,oD,underlying104]
end Go.Proofs.YtjgjcpnoaeljkaaGreatDoor
set_option maxRecDepth 20000
set_option maxHeartbeats 4000000
namespace Go.Proofs.YtjgjcpnoaeljkaaGreatDoor
open Go Go.kC Go.eU Tryz
def KZ{n:Nat}:C1 prog 62 (gJ n) Ty.av Ty.av:=by
 refine i1 λn ih=>v1 func62 λT H a0 r m e=>?_;rw[gJ] at m;simp[e];refine Td e m 999 9 [7,8] [1,2] [17] (λs2=>s2) (λs2 a f=>f.1 3=sT a Ty.av s2) λh _ s2 c _ _ _ _ E e m z p=>?_;have⟨a,E,b⟩:=E;refine sw [20,0,15,9,0] ?_;intro d e m;refine Ao (f:=Ty.av) s2 [d] b F9 e.2 ?_;simp[e];cases m;exact p _ _ _ ⟨(.loc 17 (c.eg 17+1)),aaQ,(On 17)⟩ z
@[reducible,instance] def YP:=fK 62 @KZ
def KM{n:Nat}:C1 prog 35 (iA n) Tm.av Tm.av:=by
 refine i1 λn ih=>v1 func35 λT H a0 r m e=>?_;rw[iA] at m;simp[e];refine Td e m 999 9 [7,8] [1,2] [17] (λs2=>s2) (λs2 a f=>f.1 3=sT a Tm.av s2) λh _ s2 c _ _ _ _ E e m z p=>?_;have⟨a,E,b⟩:=E;refine sw [20,0,15,9,0] ?_;intro d e m;refine Ao (f:=Tm.av) s2 [d] b BV e.2 ?_;simp[e];cases m;exact p _ _ _ ⟨(.loc 17 (c.eg 17+1)),aaQ,(On 17)⟩ z
@[reducible,instance] def Zc:=fK 35 @KM
def DC:C2 prog 113 eP Tm.av sI (sL Tm.av):=by
 refine v2 func113 λT H a0 a1 r m e=>?_;rw[eP] at m;simp[e];refine Td e m 999 10 [0,8,9] [4] [18] (λs2=>s2) (λs2 a f=>f.1 5=sT a Tm.av s2) λh _ s2 c _ _ _ _ E e m z p=>?_;have⟨a,E,b⟩:=E;refine sw [20,0,1,9,0] ?_;intro d e m;refine Ao (f:=Tm.av) s2 [d] b BV e.2 ?_;simp[e];cases m;exact p _ _ _ ⟨(.loc 18 (c.eg 18+1)),aaQ,(On 18)⟩ z
@[reducible,instance] def adu:=fK 113 @DC
def Ex:C1 prog 63 pU Tm.av sI:=by
 refine v1 func63 λT H a0 r m e=>?_;rw[pU] at m;refine sw [0,1,0] ?_;intro _ e m;refine Wn m 999 (λs2 f h=>∃a b,h=H/\f.1 0=sI s2.1/\bx f 2 [sI 0,sI 0,sI 0,nL,nL]/\bx f 3 [sI s2.2.1,sI s2.2.2.1,sI s2.2.2.2.1,sT a Ty.av s2.2.2.2.2.1,sT b Tm.av s2.2.2.2.2.2]) ⟨.iw,.iw,aaQ⟩ (λs2 _ _ _ _ _ E m z p=>?_);have⟨v10,v11,v12,c,d,i⟩:=s2;have⟨a,b,E⟩:=E;have e:=Aj e E;dsimp only[yN]at m;apply Ir e m<;>intro e m
 .cases m;have m:=Qb z;dsimp only[yN]at m;exact au
 simp[e];cases m;exact p _ _ _ ⟨.full,.full,aaQ⟩ z
@[reducible,instance] def Tt:=fK 63 @Ex
def FG:C1 prog 36 tI (t2 Tm.av sI) sI:=by
 refine v1 func36 λT H a0 r m e=>?_;rw[tI] at m;exact aa
@[reducible,instance] def VN:=fK 36 @FG
def Vt:C1 prog 16 tf Tm.av sI:=by
 refine v1 func16 λT H a0 r m e=>?_;rw[tf] at m;exact aa
@[reducible,instance] def af_:=fK 16 @Vt
def AA:C2 prog 15 kV Fm.av Tm.av Tm.av:=by
 refine v2 func15 λT H a0 a1 r m e=>?_;rw[kV] at m;refine sw [0,4,0,4] ?_;intro a b e m;have e:=Aj e (show AV.agg [sI 1,sI 0,AV.slice .iw [],AV.slice .iw [Tm.av a,Tm.av b],AV.slice .iw []]=Fm.av (Fm.mk 1 (Ty.mk 0 []) [a,b] []) by rw[Fm.eG];rfl);exact au
@[reducible,instance] def aa5:=fK 15 @AA
def xw:C1 prog 17 jx Pf.av Tm.av:=by
 refine v1 func17 λT H a0 r m e=>?_;rw[jx] at m;refine sw [0,1] ?_;intro a e m;have e:=Aj e (show AV.agg [sI 18,sI 0,sI 0,AV.slice .iw [],AV.slice .iw [Tm.av a],AV.slice .iw [],AV.slice .iw []]=Pf.av (Pf.mk 18 0 (Ty.mk 0 []) [a] [] []) by rw[Pf.eG];rfl);exact au
@[reducible,instance] def Yc:=fK 17 @xw
section
open Go.RowKit Go.Maps Go.Sort Go.Shelf
def RU:iS prog 139=true:=by kernel_rfl
def YD:∀n<26,Lib.trimLeftF (λx=>decide (97<=x/\x<=122)) ⟨#[UInt8.ofNat (97+n)]⟩=⟨#[]⟩:=by decide+kernel
def FZ{a0:ByteArray}{a:Bool}(hm:tS a0=some a):a=true/\aaE a0=1/\Lib.trimLeftF (λx=>decide (97<=x/\x<=122)) a0=⟨#[]⟩:=by
 unfold tS at hm
 split at hm
 .rename_i x b
  split at hm
  .rename_i h;obtain⟨⟨l⟩⟩:=a0;obtain rfl:l=[x]:=b;refine⟨(fQ hm).symm,rfl,?_⟩;have:=YD (x.toNat-97) VW
   rwa [show 97+(x.toNat-97)=x.toNat by omega,UInt8.ofNat_toNat] at this
  .cases hm
 .cases hm
def UQ{T:dt}{H:cZ}{a0:Int}:ds prog T 99 [AV.sc (.int .i32 a0)] H (sB (en (og a0 97) (Hl a0 122) false)) H:=by
 have e:=trivial;refine wi aiq func99 [] [] 2 ?_;simp[e];refine wjs 999 999 (λf h=>h=H/\f.1 2=sB (en (og a0 97) (Hl a0 122) false)) ?_ (λ_ g=>?_)
 .rintro _ _ E;exact aa
 exact aa
def Kt(w:World):PredGrows prog 99 #[] (λx=>decide (97<=x/\x<=122)) w:=by
 intro W x _ _
 have a:en (og (x:Int) 97) (Hl (x:Int) 122) false=decide (97<=x/\x<=122):=by
  have b:og (x:Int) 97=decide (97<=x):=by simp only[og];congr 1;simp only[eq_iff_iff];omega
  have c:Hl (x:Int) 122=decide (x<=122):=by simp only[Hl];congr 1;simp only[eq_iff_iff];omega
  rw[b,c]
  by_cases d:97<=x<;>by_cases f:x<=122<;>simp[en,d,f]
 have h:=(UQ (T:=λ_=>none) (H:=[]) (a0:=x)).calls (v:=.bool (decide (97<=x/\x<=122))) (λF G y h=>by rw[a] at h;cases h;rfl) (UE W) (vs:=[.int .i32 x]) (.cons (.sc rfl) .nil);simpa[encR] using h
def Iw:∀(aim:Array Value) (w:World),(callFunc 99 aim).run prog w=.ok (.enter 99 aim) w:=enters_of func99 (by kernel_rfl) rfl
def OZ(T:dt){H:cZ}{a0:ByteArray}(h:Lib.trimLeftF (λx=>decide (97<=x/\x<=122)) a0=⟨#[]⟩):ds prog T 139 [AV.sc (.string a0),AV.func (.func 99) [] []] H (AV.sc (.string ⟨#[]⟩)) H:=by
 refine ds.Ra RU λG F w vs hg a=>?_;obtain⟨v1,v2,rfl,b,c⟩:=aaO a;cases b;cases c with
 |func d f=>
  cases d;cases f;refine⟨_,.sc rfl,?_⟩;have:=strings_TrimLeftFunc_grows 99 #[] Iw _ a0 w (Kt w)
  rwa [h] at this
def Na(T:dt){H:cZ}{f:Nat}:ds prog T 190 [AV.sc (.string ⟨#[]⟩),AV.func (.func f) [] [],sB false] H (sI (-1)) H:=by
 refine wi aiq func190 [] [] 999 ?_;simp;refine wl 999 (λ_ f h=>h=H/\f.1 7=sI 0) 0 (by simp;rfl) (λm fr H' E K a=>?_);simp[E,show ly (0:Int) 0=false from rfl]
def Nv(T:dt){H:cZ}{f:Nat}:ds prog T 138 [AV.sc (.string ⟨#[]⟩),AV.func (.func f) [] []] H (AV.sc (.string ⟨#[]⟩)) H:=by
 refine wi aiq func138 [] [] 999 ?_;simp;refine Cf (Na T) ?_;simp[show og (-1:Int) 0=false from rfl,show dJ .i64 (-1) 1=0 from rfl,show P7 ⟨#[]⟩ 0 0=some ⟨#[]⟩ by decide+kernel]
def aaK(T:dt){H:cZ}{a0:ByteArray}(h:Lib.trimLeftF (λx=>decide (97<=x/\x<=122)) a0=⟨#[]⟩):ds prog T 98 [AV.sc (.string a0),AV.func (.func 99) [] []] H (AV.sc (.string ⟨#[]⟩)) H:=by
 refine wi aiq func98 [] [] 999 ?_;simp;refine Cf (OZ T h) ?_;simp;refine Cf (Nv T) ?_;simp
def KI(T:dt)(b:lK T){H:cZ}{a0:ByteArray}{a:Bool}(hm:tS a0=some a):ds prog T 50 [AV.sc (.string a0)] H (sB a) H:=by
 obtain⟨rfl,e,h⟩:=FZ hm;refine wi aiq func50 [] [] 999 ?_;have e:=Aj (Aj (Aj e (show og (1:Int) 1=true from rfl)) (show Hl (1:Int) 16=true from rfl)) (show seq ⟨#[]⟩ ⟨#[]⟩=true by decide+kernel);simp[e];refine Cf (aaK T h) ?_;simp[e]
end
def Eo(T:dt){H:cZ}{a0 a:iz}{d:Bool}{q0:Nat}(b:H[q0]?=some [sS a.name,sI a.cU.ail,sI a.cU.cT.ail,sL Ty.av a.cU.cT.aim,sL Tm.av a.cU.dc,sL Fm.av a.cU.aim,sI a.proof.ail,sI a.proof.aio,sI a.proof.cT.ail,sL Ty.av a.proof.cT.aim,sL Tm.av a.proof.dc,sL Fm.av a.proof.eh,sL Pf.av a.proof.aim])(hm:sk a0 a=some d):ds prog T 52 [iz.av a0,AV.eb q0 0] H (sB d) H:=by
 rw[sk] at hm;have c:=er b;have e:=Aj c b;refine wi aiq func52 [] [] 999 ?_;cases hm;simp[e]
def lF(T:dt){S:Type}{st:S->cZ}{k:Nat}{a0:List iz}{a1:(S->iz->Option (Bool×S))}{b:S}{i:Int}{c:S}{g1:Nat}{a:List AV}(hF:zz st k)(d:FY T g1 a st a1)(hm:ft a0 a1 b=some (i,c)):ds prog T 31 [sL iz.av a0,AV.func (.func g1) [] a] (st b) (sI i) (st c):=by
 rw[ft] at hm;have e:=hF.len;refine wi aiq func31 [] [] 999 ?_;simp[e];refine Wr e hm 999 (λj s2 f h=>h=st s2/\f.1 0=sL iz.av a0/\f.1 1=AV.func (.func g1) [] a/\f.1 7=sI (dp a0)/\f.1 8=sI j) aaQ (λs2 _ _ _ E m=>?_) (λj _ s2 _ _ _ _ _ E e m z p=>?_)
 .exact aa
 have e:=Aj e E;have⟨l,n,e,m⟩:=Bo2 e m;simp[e];refine il.Q7 adr (FY.Rw d e.2) ?_;exact aa
def kU(T:dt){S:Type}{st:S->cZ}{k:Nat}{a0:List iz}{a1:(S->iz->Option (Bool×S))}{b:S}{f:Bool}{c:S}{g1:Nat}{a:List AV}(hF:zz st k)(d:FY T g1 a st a1)(hm:eD a0 a1 b=some (f,c)):ds prog T 51 [sL iz.av a0,AV.func (.func g1) [] a] (st b) (sB f) (st c):=by
 rw[eD] at hm;have e:=hF.len;refine wi aiq func51 [] [] 999 ?_;simp[e];refine s8 hm (lF T hF d) λ_ _ m=>?_;exact au
def CZ{n:Nat}:C1 prog 243 (lH n) (t2 sI sB) Ty.av:=by
 refine i1 λn ih=>u1 4 func243 λT H a0 r m e=>?_;rw[lH] at m;simp[e];refine D5 m 3 999 (λb f h=>∃v2,(h=H/\f.1 4=sI v2/\bx f 1 (Ty.av a0).cells)/\b v2=some r) ?_ (λb _ g m=>?_)
 .rintro _ _ ⟨v2,E,m⟩;refine sw [10,7,0] ?_;intro e m;refine Wr e m 999 (λc a f h=>h=H/\f.1 5=sI a/\f.1 25=sL Ty.av a0.aim/\f.1 26=sI (dp a0.aim)/\f.1 27=sI c) aaQ (λa _ _ _ E m=>?_) (λc _ a _ _ _ _ _ E e m z p=>?_)
  .exact aa
  exact aa
 simp[e];refine wj 999 0 (λf h=>h=H/\f.1 4=sI 0/\f.1 11=sI a0.ail/\f.1 12=sB (en (dj a0.ail 1) true (en (dj a0.ail 2) true (dj a0.ail 5)))/\bx f 1 (Ty.av a0).cells) (λ_ g=>?_) ?_
 .rcases Pb (dj a0.ail 1) e with e|e
  .exact aj
  rcases Pb (dj a0.ail 2) e with e|e
  .exact aj
  exact aj
 rintro _ _ E;have e:=Aj e E;apply Iq e m<;>intro e m
 .apply wg 999;exact ij
 apply wg 1;simp[e];refine wj 999 999 (λf h=>h=H/\f.1 16=sB (en (dj a0.ail 3) true (dj a0.ail 4))/\bx f 1 (Ty.av a0).cells) (λ_ g=>?_) ?_
 .rcases Pb (dj a0.ail 3) e with e|e
  .exact aj
  exact aj
 rintro _ _ E;refine sw [10,12] ?_;intro e m;exact ij
@[reducible,instance] def R6:=fK 243 @CZ
def pH:C1 prog 193 hY (t2 sI sI) Ty.av:=by
 refine v1 func193 λT H a0 r m e=>?_;rw[hY] at m;exact aa
@[reducible,instance] def R1:=fK 193 @pH
def Aq:C1 prog 140 k5 sI Ty.av:=by
 refine v1 func140 λT H a0 r m e=>?_;rw[k5] at m;exact aa
@[reducible,instance] def W2:=fK 140 @Aq
def Er:C1 prog 100 my sI (sL Ty.av):=by
 refine v1 func100 λT H a0 r m e=>?_;rw[my] at m;refine sw [7,0] ?_;intro e m;exact Wb e m 999 11 [9,10] [] nI
@[reducible,instance] def Tl:=fK 100 @Er
def vC:C1 prog 235 nq sB Ty.av:=by
 refine u1 2 func235 λT H a0 r m e=>?_;rw[nq] at m;simp[e];refine wB 999 999 [] [] (λf=>f.1 2=sB (en (dj a0.ail 0) (dj (dp a0.aim) 0) false)) λ_ g=>?_;exact aa
def Hx:C1 prog 244 qQ sB Fm.av:=by
 refine u1 4 func244 λT H a0 r m e=>?_;rw[qQ] at m;simp[e];refine D5 m 5 0 (λa f h=>∃v2 v3 v4,(h=H/\f.1 3=sI v2/\f.1 4=sI v3/\f.1 5=sB v4/\bx f 1 (Fm.av a0).cells)/\a v2 v3 v4=some r) ?_ (λa _ g m=>?_)
 .rintro _ _ ⟨v2,v3,v4,E,m⟩;have e:=Aj e E;refine Wj m 999 0 (λb f h=>(h=H/\f.1 3=sI v2/\f.1 4=sI v3/\bx f 1 (Fm.av a0).cells)/\b=some r) (λb _ g m=>?_) ?_
  .apply Iq e m<;>intro e m
   .simp[e];refine s8 m pH λ_ _ m=>?_;refine Il e m λe m=>?_;exact XN
   simp[e];refine qc m vC λ_ m=>?_;refine Im e m λe m=>?_;exact XN
  rintro _ _ ⟨E,m⟩;have e:=Aj e E;refine wB 999 999 [] [] (λf=>f.1 2=sB (en (dj (dp a0.dc) v2) (dj (dp a0.aim) v3) false)) λ_ g=>?_;exact aa
 simp[e];apply Iq e m<;>intro e m
 .apply wg 999;exact ak3
 apply wg 1;simp[e];refine wA 999 0 [3,5,9] [1] (λf=>f.1 12=sB (en (dj a0.ail 2) true (dj a0.ail 3))) [] (λ_ g=>?_) ?_
 .rcases Pb (dj a0.ail 2) e with e|e
  .exact aj
  exact aj
 intro _ e m;apply Iq e m<;>intro e m
 .apply wg 999;exact ak3
 apply wg 1;simp[e];refine wjs 999 999 (λf h=>h=H/\f.1 3=sI 0/\f.1 15=sB (en (dj a0.ail 4) true (en (dj a0.ail 5) true (en (dj a0.ail 6) true (dj a0.ail 7))))/\bx f 1 (Fm.av a0).cells) ?_ (λ_ g=>?_)
 .rintro _ _ E;refine sw [10,12] ?_;intro e m;exact ak3
 rcases Pb (dj a0.ail 4) e with e|e
 .exact aj
 rcases Pb (dj a0.ail 5) e with e|e
 .exact aj
 rcases Pb (dj a0.ail 6) e with e|e
 .exact aj
 exact aj
@[reducible,instance] def WW:=fK 244 @Hx
def J9(T:dt)(c:lK T){H:cZ}{a0 a:Int}{b:Bool}(hm:uq a0=some (a,b)):ds prog T 284 [sI a0] H (AV.tuple [sI a,sB b]) H:=by
 rw[uq] at hm;have e:=c;refine wi aiq func284 [] [] 3 ?_;simp[e];refine wA 999 999 [0] [] (λf=>f.1 9=sB (en (qT a0 1) true (og a0 14))) [] (λ_ g=>?_) ?_
 .exact aa
 intro _ e m;have m:=hm;exact aa
@[reducible,instance] def Yj:=fK 284 @J9
def Lg:C1 prog 285 uM sB sI:=by
 refine u1 2 func285 λT H a0 r m e=>?_;rw[uM] at m;simp[e];refine wB 999 999 [] [] (λf=>f.1 2=sB (en (dj a0 2) true (en (dj a0 6) true (dj a0 9)))) λ_ g=>?_;exact aa
def BD(T:dt)(l:lK T):∀(n:Nat),(∀{H:cZ} {a0:Tm} {c:Int} {d:Bool} (hm:jE n a0=some (c,d)),ds prog T 245 [Tm.av a0] H (AV.tuple [sI c,sB d]) H):=by
  intro n
  induction n with
  |zero=>
    skip
    all_goals(intro _ _;intros;rename_i hm;cases hm)
  |succ n ih=>
 intro H a0 c d hm;rw[jE] at hm;have e:=l;refine wi aiq func245 [] [] 5 ?_;have m:=hm;refine sw [0,2,0] ?_;intro i j e m;refine wA 999 0 [] [1] (λf=>f.1 42=sB (en j (en (dx (dp a0.aim) i) true (en (qT a0.aio 0) true (en (dx a0.aio 0) (dx a0.ail 1) false))) true)) [13] (λ_ g=>?_) ?_
 .rcases Pb j e with e|e;rotate_left
  .exact aj
  rcases Pb (dx (dp a0.aim) i) e with e|e
  .exact aj
  rcases Pb (qT a0.aio 0) e with e|e
  .exact aj
  rcases Pb (dx a0.aio 0) e with e|e
  .exact aj
  exact aj
 intro _ e m;apply wg 2;simp[e];refine Wj m 999 999 (λk f h=>(h=H/\f.1 1=AV.gx 1 (f.gen 1) 0/\f.box 1=some (Tm.av a0).cells)/\k=some (c,d)) (λk _ g m=>?_) ?_
 .simp[e];refine qc m Lg λ_ m=>?_;apply Iq e m<;>intro e m
  .simp[e];refine s8 m pH λ_ _ m=>?_;refine Il e m λe m=>?_;exact XN
  simp[e];refine qc m vC λ_ m=>?_;refine Im e m λe m=>?_;exact XN
 rintro _ _ ⟨E,m⟩;have e:=Aj e E;simp[e];refine Wr e m 999 (λb a f h=>h=H/\f.1 8=sI a/\f.1 59=sL Tm.av a0.aim/\f.1 60=sI (dp a0.aim)/\f.1 61=sI b) aaQ (λa _ _ _ E m=>?_) (λb _ a _ _ _ _ _ E e m z p=>?_)
 .exact aa
 exact aa
def Dn(T:dt)(a:lK T){n:Nat}:=@BD T a n
@[reducible,instance] def SN:=fK 245 @Dn
def yR(T:dt)(h:lK T):∀(n:Nat),(∀{H:cZ} {a0:Fm} {a:Int} {b:Bool} (hm:jv n a0=some (a,b)),ds prog T 194 [Fm.av a0] H (AV.tuple [sI a,sB b]) H):=by
  intro n
  induction n with
  |zero=>
   skip
   all_goals(intro _ _;intros;rename_i hm;cases hm)
  |succ n ih=>
 intro H a0 a b hm;rw[jv] at hm;have e:=h;refine wi aiq func194 [] [] 999 ?_;have m:=hm;refine sw [0,1,12,0] ?_;intro _ e m;refine Wa e m 999 19 [17,18] [1] (λd f=>f.1 4=sI d) [11,0] ?_;intro _ d e m;exact Wb e m 999 37 [35,36] [] (λc f=>f.1 4=sI c)
def zZ(T:dt)(a:lK T){n:Nat}:=@yR T a n
@[reducible,instance] def Oe:=fK 194 @zZ
def zQ(T:dt)(c:lK T){H:cZ}{a0:Fm}{a b:Int}(hm:hD a0=some (a,b)):ds prog T 141 [Fm.av a0] H (AV.tuple [sI a,sI b]) H:=by
 rw[hD] at hm;have e:=c;refine wi aiq func141 [] [] 999 ?_;have m:=hm;exact aa
@[reducible,instance] def Oc:=fK 141 @zQ
def Eu(T:dt)(b:lK T){H:cZ}{a0:Fm}{a:Int}(hm:jt a0=some a):ds prog T 101 [Fm.av a0] H (sI a) H:=by
 rw[jt] at hm;have e:=b;refine wi aiq func101 [] [] 999 ?_;have m:=hm;exact aa
@[reducible,instance] def To:=fK 101 @Eu
def M0:C1 prog 142 lR cR.av Ty.av:=by
 refine v1 func142 λT H a0 r m e=>?_;rw[lR] at m;exact aa
@[reducible,instance] def ZY:=fK 142 @M0
def H3:C1 prog 102 nj (sL cR.av) (sL Ty.av):=by
 refine v1 func102 λT H a0 r m e=>?_;rw[nj] at m;simp[e];refine Td e m 999 8 [6,7] [] [16] (λs2=>s2) (λs2 a f=>f.1 3=sT a cR.av s2) λh _ s2 c _ _ _ _ E e m z p=>?_;have⟨a,E,b⟩:=E;refine sw [20,0,1,9,0] ?_;intro d e m;refine Ao (f:=cR.av) s2 [d] b TP e.2 ?_;simp[e];cases m;exact p _ _ _ ⟨(.loc 16 (c.eg 16+1)),aaQ,(On 16)⟩ z
@[reducible,instance] def W3:=fK 102 @H3
def rJ:C2 prog 143 fi (sL cR.av) (sL cR.av) (sL Ty.av):=by
 refine v2 func143 λT H a0 a1 r m e=>?_;rw[fi] at m;refine sw [0,4,9,0] ?_;intro a e m;refine Ad (f:=cR.av) a0 a (ig.full (D:=[])) TP e.2 ?_;exact au
@[reducible,instance] def Lx:=fK 143 @rJ
def Ig:C3 prog 247 qP (t2 cR.av sI) sI cR.av cR.av:=by
 refine v3 func247 λT H a0 a1 a2 r m e=>?_;rw[qP] at m;refine Il e m λe m=>?_;have e:=Aj e (show AV.agg [sI a0,AV.slice .iw [Ty.av a1.cT,Ty.av a2.cT],sI (dJ .i64 (dJ .i64 1 a1.ain) a2.ain)]=cR.av (cR.mk (Ty.mk a0 [a1.cT,a2.cT]) (dJ .i64 (dJ .i64 1 a1.ain) a2.ain)) by rw[cR.eG];rfl);exact au
@[reducible,instance] def WI:=fK 247 @Ig
def GI:C1 prog 286 iX (sL sI) sI:=by
 refine v1 func286 λT H a0 r m e=>?_;rw[iX] at m;exact aa
@[reducible,instance] def Vj:=fK 286 @GI
def vn:C2 prog 246 ib sB cR.av sI:=by
 refine v2 func246 λT H a0 a1 r m e=>?_;rw[ib] at m;exact au
@[reducible,instance] def Qq:=fK 246 @vn
def zX:C2 prog 287 iG cR.av cR.av sI:=by
 refine v2 func287 λT H a0 a1 r m e=>?_;rw[iG] at m;exact aa
@[reducible,instance] def N7:=fK 287 @zX
def nS{n:Nat}:C2 prog 162 (fN n) sB Ty.av Ty.av:=by
 refine i2 λn ih=>u2 3 func162 λT H a0 a1 r m e=>?_;rw[fN] at m;simp[e];refine wA 999 999 [] [2,3] (λf=>f.1 20=sB (en (dx a0.ail a1.ail) true (dx (dp a0.aim) (dp a1.aim)))) [7,0] (λ_ g=>?_) ?_
 .exact aa
 intro _ e m;exact Wb e m 999 24 [22,23] [3] nI
@[reducible,instance] def Tv:=fK 162 @nS
def z6:C2 prog 251 jG sB cR.av cR.av:=by
 refine u2 2 func251 λT H a0 a1 r m e=>?_;rw[jG] at m;simp[e];refine WB m 999 999 [] [] (λv2 f=>f.1 4=sB v2) λa _ g m=>?_;apply Ir e m<;>intro e m
 .exact ij
 simp[e];refine qc m nS λ_ m=>?_;exact ij
@[reducible,instance] def Og:=fK 251 @z6
def O8:C0 prog 213 mr Ty.av:=by
 refine v0 func213 λT H r m e=>?_;rw[mr] at m;exact au
@[reducible,instance] def acx:=fK 213 @O8
def LB:C0 prog 256 v8 Ty.av:=by
 refine v0 func256 λT H r m e=>?_;rw[v8] at m;exact au
@[reducible,instance] def Z2:=fK 256 @LB
def Qj:C2 prog 214 nQ Ty.av Ty.av (sL Ty.av):=by
 refine v2 func214 λT H a0 a1 r m e=>?_;rw[nQ] at m;simp[e];refine Wn m 999 (λs1 f h=>∃a,h=H/\f.1 1=sL Ty.av a1/\f.1 5=sI s1.1/\bx f 2 [sI s1.2.1,sT a Ty.av s1.2.2]/\bx f 4 [sI 0,nL]) ⟨.iw,aaQ⟩ (λs1 _ _ _ _ _ E m z p=>?_);have⟨v9,v10,v11⟩:=s1;have⟨a,E⟩:=E;have e:=Aj e E;dsimp only[Hi]at m;apply Ir e m<;>intro e m
 .cases m;have m:=Qb z;dsimp only[Hi]at m;exact au
 refine sw [8,0] ?_;intro b e m;cases m;exact p _ _ _ ⟨.full,aaQ⟩ z
@[reducible,instance] def aca:=fK 214 @Qj
def Hv:C1 prog 288 oH Ty.av Tm.av:=by
 refine v1 func288 λT H a0 r m e=>?_;rw[oH] at m;exact aa
@[reducible,instance] def Xr:=fK 288 @Hv
def HH:C2 prog 248 fl (t2 cR.av sI) Tm.av (λp=>AV.agg [sI p.1.cT.ail,sL Ty.av p.1.cT.aim,sI p.1.ain,sI p.2.1.cT.ail,sL Ty.av p.2.1.cT.aim,sI p.2.1.ain,sI p.2.2.cT.ail,sL Ty.av p.2.2.cT.aim,sI p.2.2.ain]):=by
 intro T H a0 a1 r hm;rw[fl] at hm;have e:=trivial;refine wi aiq func248 [] [] 7 ?_;have m:=hm;refine sw [0,1,0] ?_;intro F e m;apply Iq e m<;>intro e m
 .refine sg 999 [8,0] ?_;intro w e m;refine Wr e m 0 (λo _ f h=>h=H/\f.1 6=sL sI F/\f.1 18=sL sI w/\f.1 19=sI (dp w)/\f.1 20=sI o/\bx f 3 [sI a1.1.cT.ail,sL Ty.av a1.1.cT.aim,sI a1.1.ain,sI a1.2.1.cT.ail,sL Ty.av a1.2.1.cT.aim,sI a1.2.1.ain,sI a1.2.2.cT.ail,sL Ty.av a1.2.2.cT.aim,sI a1.2.2.ain]/\bx f 4 [sI 0,nL,sI 0]) aaQ (λ_ a _ _ E m=>?_) (λo _ _ a _ _ _ x E e m q s=>?_)
  .have e:=Aj e E;refine sg 999 [11,8,0,1] ?_;intro G _ e m;cases m;simp[e]
  have e:=Aj e E;apply wg 9;simp[e];refine D5 m 999 999 (λt f h=>∃l,(h=H/\f.1 6=sL sI F/\f.1 18=sL sI w/\f.1 19=sI (dp w)/\f.1 20=sI o/\f.1 30=sB l/\bx f 3 [sI a1.1.cT.ail,sL Ty.av a1.1.cT.aim,sI a1.1.ain,sI a1.2.1.cT.ail,sL Ty.av a1.2.1.cT.aim,sI a1.2.1.ain,sI a1.2.2.cT.ail,sL Ty.av a1.2.2.cT.aim,sI a1.2.2.ain]/\bx f 4 [sI 0,nL,sI 0])/\t l=some x) ?_ (λt _ b m=>?_)
  .rintro _ _ ⟨l,E,m⟩;have e:=Aj e E;apply Iq e m<;>intro e m
   .cases m;cases q;simp[e]
   simp[e];cases m;exact s _ _ _ aaQ q
  apply Iq e m<;>intro e m
  .have e:=Aj e (Dq (j:=0) Dz yD aaQ aaB:fp prog 270 (AV.gx 3 (a.gen 3) 0) (sI o)=some (AV.gx 3 (a.gen 3) 0));refine sw [0,1,0] ?_;intro y e m;exact b _ _ ⟨(pL y),aaQ,m⟩
  apply Iq e m<;>intro e m
  .have e:=Aj e (Dq (j:=1) Dz yD aaQ aaB:fp prog 270 (AV.gx 3 (a.gen 3) 0) (sI o)=some (AV.gx 3 (a.gen 3) 3));refine sw [0,1,0] ?_;intro A e m;exact b _ _ ⟨(pL A),aaQ,m⟩
  have⟨e,m⟩:=Ck e m;have e:=Aj e (Dq (j:=2) Dz yD aaQ aaB:fp prog 270 (AV.gx 3 (a.gen 3) 0) (sI o)=some (AV.gx 3 (a.gen 3) 6));refine sw [0,1,0] ?_;intro B e m;exact b _ _ ⟨(pL B),aaQ,m⟩
 apply wg 8;simp[e];apply Iq e m<;>intro e m
 .apply wg 2;simp[e];refine D5 m 999 999 (λu f h=>∃v24,(h=H/\f.1 54=sB v24/\bx f 3 [sI a1.1.cT.ail,sL Ty.av a1.1.cT.aim,sI a1.1.ain,sI a1.2.1.cT.ail,sL Ty.av a1.2.1.cT.aim,sI a1.2.1.ain,sI a1.2.2.cT.ail,sL Ty.av a1.2.2.cT.aim,sI a1.2.2.ain]/\bx f 4 [sI 0,nL,sI 0])/\u v24=some r) ?_ (λu _ d m=>?_)
  .rintro _ _ ⟨v24,E,m⟩;have e:=Aj e E;apply Iq e m<;>intro e m
   .cases m;simp[e]
   refine sw [0,1] ?_;intro _ e m;cases m;simp[e]
  refine sw [0,4] ?_;intro _ e m;apply Ir e m<;>intro e m
  .simp[e];exact d _ _ ⟨true,aaQ,m⟩
  refine sw [0,4,0,4,0] ?_;intro _ C e m;exact d _ _ ⟨(pL C),aaQ,m⟩
 apply wg 1;simp[e];refine wA 999 0 [39] [2,3,4] (λf=>f.1 59=sB (en (dj a0.ail 6) true (dj a0.ail 9))) [] (λ_ i=>?_) ?_
 .rcases Pb (dj a0.ail 6) e with e|e
  .simp[e];exact i _ _ aaQ
  simp[e];exact i _ _ aaQ
 intro _ e m;apply Ir e m<;>intro e m
 .apply wg 999;apply Iq e m<;>intro e m
  .refine sw [0,2] ?_;intro _ _ e m;cases m;simp[e]
  refine sw [0,1] ?_;intro _ e m;apply Ir e m<;>intro e m
  .cases m;simp[e]
  apply Iq e m<;>intro e m
  .refine sw [0,1] ?_;intro _ e m;cases m;simp[e]
  refine sw [0,1] ?_;intro _ e m;cases m;simp[e]
 refine sg 3 [0,1,0] ?_;intro n e m;refine wA 2 1 [] [2,3,4,9] (λf=>f.1 10=sI (en (dj a0.ail 9) 2 1)) [0] (λ_ k=>?_) ?_
 .simp[e];rcases Pb (dj a0.ail 9) e with e|e
  .apply wg 999;simp[e];exact k _ _ aaQ
  apply wg 999;simp[e];exact k _ _ aaQ
 intro _ e m;refine D5 m 999 999 (λv f h=>∃v46,(h=H/\f.1 88=sB v46/\bx f 4 [sI 0,nL,sI 0]/\bx f 9 [sI n.cT.ail,sL Ty.av n.cT.aim,sI n.ain])/\v v46=some r) ?_ (λv _ c m=>?_)
 .rintro _ _ ⟨v46,E,m⟩;have e:=Aj e E;apply Iq e m<;>intro e m
  .cases m;simp[e]
  cases m;simp[e]
 refine sw [0,4] ?_;intro _ e m;apply Ir e m<;>intro e m
 .simp[e];exact c _ _ ⟨true,aaQ,m⟩
 refine sw [0,4,0,4] ?_;intro _ _ e m;apply Ir e m<;>intro e m
 .simp[e];exact c _ _ ⟨true,aaQ,m⟩
 refine sw [0,4,0] ?_;intro D e m;exact c _ _ ⟨(pL D),aaQ,m⟩
@[reducible,instance] def WY:=fK 248 @HH
def qD{n:Nat}:C2 prog 203 (dD n) (t2 cR.av sI) (sL cR.av) Tm.av:=by
 refine i2 λn ih=>v2 func203 λT H a0 a1 r m e=>?_;rw[dD] at m;refine sw [13] ?_;intro e m;apply Iq e m<;>intro e m
 .refine sw [0,1,9,0] ?_;intro y e m;refine Ad (f:=cR.av) a0 [y] (ig.full (D:=[])) TP e.2 ?_;exact aa
 simp[e];refine Wr e m 0 (λt o f h=>∃a b c,h=H/\f.1 0=sL cR.av a0/\f.1 65=sL Tm.av a1.aim/\f.1 66=sI (dp a1.aim)/\f.1 67=sI t/\bx f 3 (Tm.av a1).cells/\bx f 4 [sI 0,nL,sI 0]/\bx f 9 [sI o.1,sT a Ty.av o.2.1,sI o.2.2.1,sI o.2.2.2.1,sT b Ty.av o.2.2.2.2.1,sI o.2.2.2.2.2.1,sI o.2.2.2.2.2.2.1,sT c Ty.av o.2.2.2.2.2.2.2.1,sI o.2.2.2.2.2.2.2.2]) ⟨.full,.full,.full,aaQ⟩ (λo d _ _ E m=>?_) (λt _ o d _ _ _ v E e m z p=>?_)
 .have⟨w,x,v20,v21,v22,v23,v24,v25,v26⟩:=o;have⟨a,b,c,E⟩:=E;have e:=Aj e E;apply wg 999;dsimp only[dh,Vm]at m;exact aa
 have⟨w,x,v20,v21,v22,v23,v24,v25,v26⟩:=o;have⟨a,b,c,E⟩:=E;have e:=Aj e E;dsimp only[Vm]at m;apply wg 5;simp[e];refine D5 m 999 999 (λu f h=>∃v30 v31 v32 v33 q v35 v36 v37 s i k l,(h=H/\f.1 0=sL cR.av a0/\f.1 65=sL Tm.av a1.aim/\f.1 66=sI (dp a1.aim)/\f.1 67=sI t/\bx f 3 (Tm.av a1).cells/\bx f 4 [sI 0,nL,sI 0]/\bx f 9 [sI v30,sT i Ty.av v31,sI v32,sI v33,sT k Ty.av q,sI v35,sI v36,sT l Ty.av v37,sI s])/\u v30 v31 v32 v33 q v35 v36 v37 s=some v) ?_ (λu _ g m=>?_)
 .rintro _ _ ⟨v30,v31,v32,v33,q,v35,v36,v37,s,i,k,l,E,m⟩;have e:=Aj e E;simp[e];cases m;exact p _ _ _ ⟨i,k,l,aaQ⟩ z
 refine sw [0,16,7] ?_;intro _ _ e m;apply Iq e m<;>intro e m
 .have e:=Aj e (Dq (j:=0) Dz yD aaQ aaB:fp prog 270 (AV.gx 9 (d.gen 9) 0) (sI t)=some (AV.gx 9 (d.gen 9) 0));simp[e];exact g _ _ ⟨_,_,_,_,_,_,_,_,_,.iw,b,c,aaQ,m⟩
 apply Iq e m<;>intro e m
 .have e:=Aj e (Dq (j:=1) Dz yD aaQ aaB:fp prog 270 (AV.gx 9 (d.gen 9) 0) (sI t)=some (AV.gx 9 (d.gen 9) 3));simp[e];exact g _ _ ⟨_,_,_,_,_,_,_,_,_,a,.iw,c,aaQ,m⟩
 have⟨e,m⟩:=Ck e m;have e:=Aj e (Dq (j:=2) Dz yD aaQ aaB:fp prog 270 (AV.gx 9 (d.gen 9) 0) (sI t)=some (AV.gx 9 (d.gen 9) 6));simp[e];exact g _ _ ⟨_,_,_,_,_,_,_,_,_,a,b,.iw,aaQ,m⟩
@[reducible,instance] def JJ:=fK 203 @qD
def sD:C3 prog 195 gL sI (sL cR.av) Tm.av sI:=by
 refine u3 5 func195 λT H a0 a1 a2 r m e=>?_;rw[gL] at m;refine sw [0,2,0] ?_;intro _ a e m;refine WB m 999 999 [8] [] (λv4 f=>f.1 22=sB v4) λb _ g m=>?_;apply Ir e m<;>intro e m
 .exact ij
 simp[e];refine qc m vn λ_ m=>?_;exact ij
@[reducible,instance] def NK:=fK 195 @sD
def wD:C2 prog 144 gz sI (sL cR.av) Tm.av:=by
 refine v2 func144 λT H a0 a1 r m e=>?_;rw[gz] at m;exact aa
@[reducible,instance] def JW:=fK 144 @wD
def mB{n:Nat}:C2 prog 103 (dC n) sI (sL cR.av) Fm.av:=by
 refine i2 λn ih=>u2 6 func103 λT H a0 a1 r m e=>?_;rw[dC] at m;simp[e];refine D5 m 1 999 (λi f h=>∃v2,(h=H/\f.1 0=sL cR.av v2/\f.1 3=AV.gx 3 (f.gen 3) 0/\f.box 3=some (Fm.av a1).cells)/\i v2=some r) ?_ (λi _ a m=>?_)
 .rintro _ _ ⟨v2,E,m⟩;have e:=Aj e E;simp[e];refine Wr e m 999 (λj _ f h=>h=H/\f.1 0=sL cR.av v2/\f.1 28=sL Fm.av a1.aim/\f.1 29=sI (dp a1.aim)/\f.1 30=sI j) aaQ (λ_ _ _ _ E m=>?_) (λj _ _ _ _ _ _ _ E e m z p=>?_)
  .refine sw [10,11] ?_;intro e m;exact au
  have e:=Aj e E;refine sw [0,15,7] ?_;intro _ e m;exact al
 simp[e];refine D5 m 4 999 (λb f h=>(h=H/\f.1 0=sL cR.av a0/\f.1 3=AV.gx 3 (f.gen 3) 0/\f.box 3=some (Fm.av a1).cells)/\b=some r) ?_ (λb _ g m=>?_)
 .rintro _ _ ⟨E,m⟩;have e:=Aj e E;refine sw [0,1,0] ?_;intro d e m;exact a _ _ ⟨d,aaQ,m⟩
 simp[e];refine wj 999 0 (λf h=>h=H/\f.1 0=sL cR.av a0/\f.1 12=sI a1.ail/\f.1 13=sB (en (dj a1.ail 4) true (dj a1.ail 5))/\bx f 3 (Fm.av a1).cells) (λ_ g=>?_) ?_
 .rcases Pb (dj a1.ail 4) e with e|e
  .exact aj
  exact aj
 rintro _ _ E;have e:=Aj e E;apply Iq e m<;>intro e m
 .apply wg 999;exact XN
 apply wg 3;simp[e];refine wj 999 0 (λf h=>h=H/\f.1 0=sL cR.av a0/\f.1 12=sI a1.ail/\f.1 16=sB (en (dj a1.ail 6) true (dj a1.ail 7))/\bx f 3 (Fm.av a1).cells) (λ_ g=>?_) ?_
 .rcases Pb (dj a1.ail 6) e with e|e
  .exact aj
  exact aj
 rintro _ _ E;have e:=Aj e E;apply Iq e m<;>intro e m
 .apply wg 999;exact XN
 apply wg 2;simp[e];refine wj 999 999 (λf h=>h=H/\f.1 0=sL cR.av a0/\f.1 19=sB (en (dj a1.ail 2) true (dj a1.ail 3))/\bx f 3 (Fm.av a1).cells) (λ_ g=>?_) ?_
 .rcases Pb (dj a1.ail 2) e with e|e
  .exact aj
  exact aj
 rintro _ _ E;have e:=Aj e E;apply Iq e m<;>intro e m
 .simp[e];exact a _ _ ⟨a0,aaQ,m⟩
 simp[e];refine Wr e m 999 (λc _ f h=>h=H/\f.1 0=sL cR.av a0/\f.1 42=sL Tm.av a1.dc/\f.1 43=sI (dp a1.dc)/\f.1 44=sI c) aaQ (λ_ _ _ _ E m=>?_) (λc _ _ _ _ _ _ _ E e m z p=>?_)
 .exact aa
 exact aa
@[reducible,instance] def IU:=fK 103 @mB
def xO(T:dt)(b:lK T){H:cZ}{a0:List Ty}{a1:Fm}{a:Int}(hm:kr a0 a1=some a):ds prog T 53 [sL Ty.av a0,Fm.av a1] H (sI a) H:=by
 rw[kr] at hm;have e:=b;refine wi aiq func53 [] [] 999 ?_;have m:=hm;exact aa
@[reducible,instance] def Tk:=fK 53 @xO
def H4(T:dt)(c:lK T){H:cZ}{a0:Int}{a:dS}{b:Bool}(hm:lb a0=some (a,b)):ds prog T 134 [sI a0] H (AV.tuple [dS.av a,sB b]) H:=by
 rw[lb] at hm;have e:=c;refine wi aiq func134 [] [] 3 ?_;simp[e];refine wA 999 999 [] [2] (λf=>f.1 0=sI a0/\f.1 9=sB (en (qT a0 1) true (og a0 21))) [] (λ_ g=>?_) ?_
 .exact aa
 intro _ e m;have m:=hm;exact aa
@[reducible,instance] def WO:=fK 134 @H4
def Dg(T:dt)(c:lK T){H:cZ}{a0:Tm}{a b:Int}(hm:jH a0=some (a,b)):ds prog T 237 [Tm.av a0] H (AV.tuple [sI a,sI b]) H:=by
 rw[jH] at hm;have e:=c;refine wi aiq func237 [] [] 999 ?_;have m:=hm;exact aa
@[reducible,instance] def Sy:=fK 237 @Dg
def AP(T:dt){H:cZ}{a0:da}{a1 a2:Int}{i:Bool}{a:da}{c:Nat}(b:H[c]?=some [sI a0.ain,sB a0.ik])(hm:gi a0 a1 a2=some (i,a)):ds prog T 236 [AV.eb c 0,sI a1,sI a2] H (sB i) (eO H c [sI a.ain,sB a.ik]):=by
 rw[gi] at hm;have d:=er b;refine ec.HQ b ?_;have e:=d;refine wi aiq func236 [] [] 4 ?_;simp[e];refine wjs 999 999 (λf h=>h=eO H c [sI (en a0.ik (da.mk (dJ .i64 a0.ain a1) true) (da.mk (dJ .i64 a0.ain a1) (dj a2 4))).ain,sB (en a0.ik (da.mk (dJ .i64 a0.ain a1) true) (da.mk (dJ .i64 a0.ain a1) (dj a2 4))).ik]/\f.1 2=sI a2) ?_ (λ_ g=>?_)
 .rintro _ _ E;have e:=Aj e E;cases hm;simp[e]
 exact aa
@[reducible,instance] def Qf:=fK 236 @AP
def zW(T:dt)(w:lK T):∀(n:Nat),(∀{H:cZ} {a0:da} {a1:Pf} {r:Bool} {c:da} {a:Nat} (k:H[a]?=some [sI a0.ain,sB a0.ik]) (hm:ir n a0 a1=some (r,c)),ds prog T 186 [AV.eb a 0,Pf.av a1] H (sB r) (eO H a [sI c.ain,sB c.ik])):=by
  intro n
  induction n with
  |zero=>
    skip
    all_goals(intro _ _;intros;rename_i hm;cases hm)
  |succ n ih=>
 intro H a0 a1 r c a k hm;rw[ir] at hm;have t:=er k;refine ec.HQ k ?_;have e:=Aj w t;refine wi aiq func186 [] [] 5 ?_;have m:=hm;refine sw [0,2,0] ?_;intro b u e m;refine wA 999 0 [] [3,5] (λf=>f.1 0=AV.eb a 0/\f.1 61=sB (en u (en (qT a1.aio 0) true (en (dx a1.aio 0) (en b.aio (en (dx (dp a1.dc) b.dc) true (en (dx (dp a1.eh) b.eh) true (dx (dp a1.aim) b.aim))) true) (en (dx (dp a1.dc) b.dc) true (en (dx (dp a1.eh) b.eh) true (dx (dp a1.aim) b.aim))))) true)) [13] (λ_ g=>?_) ?_
 .rcases Pb u e with e|e;rotate_left
  .exact aj
  rcases Pb (qT a1.aio 0) e with e|e
  .exact aj
  rcases Pb (dx a1.aio 0) e with e|e;rotate_left
  .rcases Pb (dx (dp a1.dc) b.dc) e with e|e
   .exact aj
   rcases Pb (dx (dp a1.eh) b.eh) e with e|e
   .exact aj
   exact aj
  rcases Pb b.aio e with e|e;rotate_left
  .exact aj
  rcases Pb (dx (dp a1.dc) b.dc) e with e|e
  .exact aj
  rcases Pb (dx (dp a1.eh) b.eh) e with e|e
  .exact aj
  exact aj
 intro _ e m;apply wg 4;simp[e];refine Wj m 999 999 (λv f h=>∃s,(h=eO H a [sI s.ain,sB s.ik]/\f.1 0=AV.eb a 0/\f.1 3=AV.gx 3 (f.gen 3) 0/\f.box 3=some (Pf.av a1).cells)/\v s=some (r,c)) (λv _ g m=>?_) ?_
 .apply Iq e m<;>intro e m
  .simp[e];refine s8 m pH λ_ _ m=>?_;refine Il e m λe m=>?_;exact ij
  simp[e];refine qc m vC λ_ m=>?_;refine Im e m λe m=>?_;exact ij
 rintro _ _ ⟨s,E,m⟩;have e:=Aj e E;simp[e];refine Xn e m 999 (λl d f h=>h=eO H a [sI d.ain,sB d.ik]/\f.1 0=AV.eb a 0/\f.1 84=sL Tm.av a1.dc/\f.1 85=sI (dp a1.dc)/\f.1 86=sI l/\bx f 3 (Pf.av a1).cells) aaQ (λl _ d _ _ _ _ _ E e m z p=>?_) (λd _ _ _ E m=>?_)
 .refine sw [10,0,2,0,2] ?_;intro _ _ _ d27 e m;exact aa
 refine sw [10,11,0] ?_;intro e m;refine Xn e m 999 (λo i f h=>h=eO H a [sI i.ain,sB i.ik]/\f.1 0=AV.eb a 0/\f.1 99=sL Fm.av a1.eh/\f.1 100=sI (dp a1.eh)/\f.1 101=sI o/\bx f 3 (Pf.av a1).cells) aaQ (λo _ i _ _ _ _ _ E e m z p=>?_) (λi _ _ _ E m=>?_)
 .refine sw [10,0,2,0,2] ?_;intro _ _ _ d40 e m;exact aa
 refine sw [10,11,0] ?_;intro e m;refine Wr e m 999 (λq j f h=>h=eO H a [sI j.ain,sB j.ik]/\f.1 0=AV.eb a 0/\f.1 114=sL Pf.av a1.aim/\f.1 115=sI (dp a1.aim)/\f.1 116=sI q) aaQ (λj _ _ _ E m=>?_) (λq _ j _ _ _ _ _ E e m z p=>?_)
 .exact aa
 have e:=Aj e E;simp[e];refine s8 m (ih aaQ) λ_ d51 m=>?_;exact aa
def AJ(T:dt)(a:lK T){n:Nat}:=@zW T a n
@[reducible,instance] def Ph:=fK 186 @AJ
def Cc(T:dt)(c:lK T){H:cZ}{a0:Pf}{a b:Int}(hm:p9 a0=some (a,b)):ds prog T 133 [Pf.av a0] H (AV.tuple [sI a,sI b]) H:=by
 rw[p9] at hm;refine ec.ra (Post:=λx K=>x=AV.tuple [sI a,sI b]/\∃X,K=H++X) ?_ (λ_ _ h=>⟨_,h.2.choose_spec,by rw[h.1];simp[AV.low,AV.gE],h.1,rfl⟩);have e:=c;refine wi aiq func133 [6] [] 8 ?_;have m:=hm;refine sw [0,2,0,14] ?_;intro _ d2 e m;apply wg 1;simp[e];refine wB 999 999 [4] [] (λf=>f.1 12=sB (en d2.ik true (ly d2.ain 16384))) λ_ g=>?_;exact aa
@[reducible,instance] def QF:=fK 133 @Cc
def Au(T:dt)(b:lK T){H:cZ}{a0:Pf}{a:Int}(hm:qv a0=some a):ds prog T 95 [Pf.av a0] H (sI a) H:=by
 rw[qv] at hm;have e:=b;refine wi aiq func95 [] [] 999 ?_;have m:=hm;exact aa
@[reducible,instance] def W_:=fK 95 @Au
def AS:C3 prog 135 ld dI.av dI.av dS.av sI:=by
 refine u3 2 func135 λT H a0 a1 a2 r m e=>?_;rw[ld] at m;simp[e];refine wB 999 999 [] [6] (λf=>bx f 3 [sI (en (dj a2 (ea .i64 a1.aim 1)) (dJ .i64 a0.vars a1.vars) a0.vars),sI (en (dj a2 (ea .i64 a1.aim 1)) (dJ .i64 a0.ais a1.ais) a0.ais)]) λ_ g=>?_;rcases Pb (dj a2 (ea .i64 a1.aim 1)) e with e|e
 .exact aj
 exact aj
def BS(T:dt)(q:lK T):∀(n:Nat),(∀{S:Type} {st:S->cZ} {k:Nat} {a0:Pf} {a1:dI} {a2:(S->Pf->dI->Option (S))} {c:S} {b:S} {g2:Nat} {a:List AV} (hF:zz st k) (d:E1 T g2 a st a2) (hm:kz n a0 a1 a2 c=some b),ds prog T 96 [Pf.av a0,dI.av a1,AV.agg [AV.sc .nilFunc,AV.sc .nilFunc,AV.func (.func g2) [] a]] (st c) (AV.tuple []) (st b)):=by
  intro n
  induction n with
  |zero=>
    skip
    all_goals(intro _ _;intros;rename_i hm;cases hm)
  |succ n ih=>
 intro S st k a0 a1 a2 c b g2 a hF d hm;rw[kz] at hm;have e:=Aj q hF.len;refine wi aiq func96 [] [] 4 ?_;have m:=hm;refine sw [0,2,0] ?_;intro l _ e m;refine Wj m 999 999 (λo f h=>∃v4,(h=st v4/\bx f 3 (Pf.av a0).cells/\bx f 4 (dI.av a1).cells/\bx f 5 [AV.sc .nilFunc,AV.sc .nilFunc,AV.func (.func g2) [] a]/\bx f 6 (dS.av l).cells)/\o v4=some b) (λo _ g m=>?_) ?_
 .apply Ir e m<;>intro e m
  .exact ij
  refine sw [8,0] ?_;intro r e m;refine il.Q7 adr (E1.Rw d e.2) ?_;exact ij
 rintro _ _ ⟨v4,E,m⟩;have e:=Aj e E;simp[e];refine Wa e m 999 35 [33,34] [3,4,5,6] nI [11,0] ?_;intro _ _ e m;refine Wa e m 999 52 [50,51] [3,4,5,6] nI [11,0] ?_;intro _ _ e m;refine Wr e m 999 (λj i f h=>h=st i/\f.1 70=sL Pf.av a0.aim/\f.1 71=sI (dp a0.aim)/\f.1 72=sI j/\bx f 4 (dI.av a1).cells/\bx f 5 [AV.sc .nilFunc,AV.sc .nilFunc,AV.func (.func g2) [] a]/\bx f 6 (dS.av l).cells) aaQ (λi _ _ _ E m=>?_) (λj _ i _ _ _ _ _ E e m z p=>?_)
 .exact aa
 have e:=Aj e E;simp[e];refine lI m AS λ_ m=>?_;simp[e];refine lI m (ih hF d) λ_ m=>?_;exact al
def DA(T:dt)(a:lK T){n:Nat}:=@BS T a n
def El(T:dt){H:cZ}{a0:(List (Int×Bool))}{a1:Int}{a:(List (Int×Bool))}{c:Nat}(b:H[c]?=some [lP sB a0])(hm:sn a0 a1=some a):ds prog T 49 [AV.iR c,sI a1] H (AV.tuple []) (eO H c [lP sB a]):=by
 rw[sn] at hm;have d:=er b;refine ec.HQ b ?_;have e:=d;refine wi aiq func49 [] [] 999 ?_;refine Im e hm λe m=>?_;simp[e];refine ry.i64 (f:=sB) a0 true abE rE aaQ aaQ ?_;exact au
section
open Go.RowKit Go.Maps Go.Sort Go.Shelf
def DE(x:Int):∀l:List Int,(EP x l).Perm (x::l)
 |[]=>.refl _|y::l=>by
  rw[EP]
  split
  .exact .refl _
  .exact((DE x l).cons y).trans (.swap x y l)
def AR:∀l:List Int,(sy l).Perm l
 |[]=>.refl _|x::l=>(DE x _).trans ((AR l).cons x)
def Ec(x:Int):∀l:List Int,l.Pairwise (· <= ·)->(EP x l).Pairwise (· <= ·)
 |[],_=>List.pairwise_singleton _ _|y::l,h=>by
  rw[EP];have a:=Yx.1 h
  split
  .rename_i b;refine Yx.2 ⟨λz hz=>?_,h⟩;rcases jr.1 hz with hz|hz
   .rw[hz];exact b
   .exact Int.le_trans b (a.1 z hz)
  .rename_i b;refine Yx.2 ⟨λz hz=>?_,Ec x l a.2⟩;rcases jr.1 ((DE x l).mem_iff.1 hz)with hz|hz
   .rw[hz];omega
   .exact a.1 z hz
def Bq:∀l:List Int,(sy l).Pairwise (· <= ·)
 |[]=>.nil|x::l=>Ec x _ (Bq l)
def Yv{s l:List Int}(h:s.Perm l):s.mergeSort (λx y=>decide (x<=y))=sy l:=by
 refine List.Perm.eq_of_pairwise (le:=λa b=>a<=b) (λa b _ _ d f=>Int.le_antisymm d f) ?_ (Bq l) (((List.mergeSort_perm s _).trans h).trans (AR l).symm);exact(List.pairwise_mergeSort (le:=λx y=>decide (x<=y)) (λa b c d f=>by simp at*;omega) (λa b=>by simp;omega) s).imp λh=>OE h
def Uc:iS prog 97=true:=by kernel_rfl
def aej(m:Nat):AnyZI.SortsIn prog DM Fence.wide m:=
 ⟨λb off cap d W f a c=>callsIn_wide.2 (AnyM.slices_Sort_int Zt b off cap d W f a c),λp cap W=>callsIn_wide.2 (AnyM.slices_Sort_int_none Zt p cap W)⟩
set_option maxHeartbeats 1000000 in
def YW{H:Type}(b q:Nat)(f:DataW H)(R:Value->Option (DataW H×List MemPlace))(w:World)(c:w.ownsMap prog 3 R b q f)(xI:Maps.size f<=maxLen)(a:Maps.size f*8<=140737488355328):Calls prog 97 #[.map (some b)] w λe w'=>∃(v:Value) (d:List Int),e=.returned v/\d.Perm (intKeys f)/\w'.ownsRow w.heap.size 3 1 v d.length ((d.mergeSort (λx y=>decide (x<=y))).map encZ)/\(v=.slice none 0 0↔d=[])/\Below w.heap.size w w':=by
 refine(callsIn_wide (n:=6)).1 ?_;have l:=c.lt
 have h:SeqGives Fence.wide 2 prog 189 #[.pointer (some ⟨w.heap.size,0,none⟩)] encZ (λd=>d.Perm (intKeys f)) (Maps.size f) (w.alloc (.cells #[.map (some b)] 101)):=
  AnyZI.keys_gives (ρ:=Jb) {gG with} Fence.wide _ trivial rfl VW w.heap.size b q f _ aaL aaL (by
   have⟨es,clock,o,s,hs,t⟩:=c
   exact⟨es,clock,(Below.heap_alloc _ _ b l).trans o,s,hs,t⟩)
 have u:∀k W,CallsIn Fence.wide 5 prog 137 #[.map k] W λe w'=>e=.returned (.func (.func 189) #[] #[.pointer (some ⟨W.heap.size,0,none⟩)])/\w'=W.alloc (.cells #[.map k] 101):=λk W=>AnyZI.keys_in gG Fence.wide 5 trivial rfl k W;have r:=AnyZI.sorted_in XB Fence.wide 5 trivial trivial trivial trivial rfl VW (aej _) (enters_of func188 (by kernel_rfl) rfl) 189 #[.pointer (some ⟨w.heap.size,0,none⟩)] trivial (enters_of func189 (by kernel_rfl) rfl) _ _ xI a _ h;change CallsIn _ _ prog 136 _ _ _ at r;have A:Fence.wide.fn 137:=trivial;have B:Fence.wide.fn 136:=trivial;refine callsIn_of_wp func97 rfl trivial ?_ rfl;simp only[ntmps97,YX,kY,wC,Nat.reduceAdd,Nat.reduceSub,Array.replicate_succ,Array.replicate_zero,List.push_toArray,List.append_toArray,od,Y9]
 gi_wp2_with (first
  |(gi_at_call 137;refine(u _ _).mono ?_;rintro e w' ⟨rfl,rfl⟩)
  |(gi_at_call 136;refine r.mono ?_;rintro e w' ⟨v,d,rfl,C,i,j,o⟩))
 go_ret
 exact⟨v,d,rfl,C,ownsRow_base_a i aaL,j,((Below.refl _ w).alloc (gO _) _).trans (o.mono aaL)⟩
def P8{F:jo}{G:Nat->Nat}{n b:Nat}{ob:Obj}{w:World}{l:List (Int×Bool)}(q:w.heap[b]?=some ob)(d:kB F G n [lP sB l] ob)(r:∀p∈l,0<=p.1/\p.1<1000000)(C:l.length<=549755813888):∃j:DataW Nat,w.ownsMap prog 3 (λ_=>some (.lit (.bool true),[])) b l.length j/\Maps.size j=l.length/\(intKeys j).Perm (l.map Prod.fst):=by
 obtain⟨es,clock,rfl,i,D,o,s,t⟩:=d.xk
 have hlen:es.size=l.length:=by have:=congrArg List.length i;simpa using this
 have hu:prog.underlying 3=some (.int .i64):=underlying3
 have u:∀x∈es.toList,∃p∈l,x.key=.int .i64 p.1:=λx c=>by
  have:x.key∈es.toList.map (·.key):=nw.2 ⟨x,c,rfl⟩
  rw[i] at this;have⟨p,k,h⟩:=nw.1 this;exact⟨p,k,h.symm⟩
 have f:∀x∈es.toList,∃a,x.key=.int .i64 a/\WideElems.rd (H:=Nat) prog 3 (λ_=>some (.lit (.bool true),[])) x=some (.int .i64 a,.lit (.bool true)):=λx c=>by
  have⟨p,k,h⟩:=u x c;have:=r p k;refine⟨p.1,h,?_⟩
  have hw:(Lit.int .i64 p.1).wf=true:=by
   show(decide ((-9223372036854775808:Int)<=p.1)&&decide (p.1<=9223372036854775807))=true;simp;omega
  simp[WideElems.rd,h,keyOf,hu,mapKey,hw]
 refine⟨_,⟨es,clock,q,⟨by rw[hlen];simp only[maxLen];omega,⟨?_,?_,?_⟩,λx c=>?_⟩,VW,rfl⟩,?_,?_⟩
 .intro x c
  have:x.born∈es.toList.map (·.born):=nw.2 ⟨x,c,rfl⟩
  rw[o] at this;rw[s];exact List.mem_range.1 this
 .rw[o];exact List.nodup_range
 .rw[i];exact t
 .have⟨a,_,h⟩:=f x c;exact⟨_,h⟩
 .show((es.toList.map _).foldr DataW.insert []).length=_;rw[length_sorted,yA,V6,hlen]
 .show((((es.toList.map _).foldr DataW.insert []).map λ(p:Lit×DataW Nat)=>Go.intOf p.1)).Perm _;refine((WideShapes.sorted_perm _).map _).trans (.of_eq ?_)
  have y:(es.toList.map (·.key)).map (λv=>match v with|.int _ a=>a|_=>0)=l.map Prod.fst:=by rw[i];simp
  rw[<-y,PX,PX];refine uy λx c=>?_;have⟨a,A,B⟩:=f x c
  show Go.intOf (WideElems.rg _ _ _ x).1=match x.key with|.int _ a=>a|_=>0
  rw[WideElems.rg_of B,A];rfl
def U8{T:dt}{G:Nat->Nat}{F:jo}{H:cZ}{w w':World}(l:¬∀g,T g=none)(hg:GW T G F H w)(t:Below w.heap.size w w'){g:Nat}{e:TypeId}{cur:Array Value}{us:List Value}(i:w.heap.size<=g)(u:w'.heap[g]?=some (.cells cur e (0,0)))(hu:∀(j:Nat) (v:Value),us[j]?=some v->cur[j]?=some v):GW T G (im F g us.length us) H w'/\Ext w.heap.size G F H.length w G (im F g us.length us) H.length w':=by
 have f:=hg.below t
 have hold:∀b j v,F b j=some v->im F g us.length us b j=some v:=λb j v h=>by
  by_cases a:b=g
  .subst a;rw[hg.fresh _ _ i] at h;cases h
  .rw[la a];exact h
 have y:Grow F (im F g us.length us) G G H.length H.length:=⟨hold,gO _,λ_ _=>rfl⟩;have A:g<w'.heap.size:=(Mt.1 u).1;have c:=Ext.Oq (G:=G) (F:=F) (n:=H.length) t;refine⟨⟨λb j v d=>?_,λo cs k=>?_,f.inj,λo j k q=>?_,λb j r=>?_,λg x c=>(f.xX g x c).grow y,λh=>absurd h l⟩,⟨c.os,c.tape,c.output,c.size,c.len,c.hG,c.HV,λb j B _=>la VW,λb j v _ h=>hold b j v h,c.heap⟩⟩
 .by_cases a:b=g
  .subst a;unfold im at d
   split at d
   .rw[cell_of_row w' b j cur e (0,0) u];exact hu j v d
   .rw[hg.fresh _ _ i] at d;cases d
  .rw[la a] at d;exact f.Cp b j v d
 .have⟨ob,s,C⟩:=f.jU o cs k;exact⟨ob,s,C.grow y⟩
 .rw[la]
  .exact f.gF o j k q
  .rintro rfl;have⟨ob,s,_⟩:=hg.jU o _ (l5 k);have:=(Mt.1 s).1;omega
 .rw[la VW];exact f.fresh b j r
def Jd{F:jo}{G:Nat->Nat}{n:Nat}:∀l:List Int,fG F G n ((l.map λn=>AV.sc (.int .i64 n)).flatMap AV.cells) (l.map encZ)
 |[]=>.nil|x::l=>.cons (.sc rfl) (Jd l)
def AQ(T:dt)(K:lK T){H:cZ}{o:Nat}{l:List (Int×Bool)}(L:H[o]?=some [lP sB l])(t:LH l=true):ds prog T 97 [AV.iR o] H (sL sI (sy (l.map Prod.fst))) H:=by
 have A:¬∀g,T g=none:=λh=>by have:=K.1;rw[h] at this;cases this
 unfold LH at t;rw[fI,jY] at t;have M:l.length<=549755813888:=OE t.1;refine⟨Uc,λG F w vs hg N=>?_⟩;obtain⟨v1,rfl,O⟩:=TK N;cases O with
 |iR P=>
 have⟨ob,Q,k⟩:=hg.jU o _ L;have⟨R,q,r,c⟩:=P8 Q k (λp u=>OE (t.2 p u)) M;refine(YW (G o) l.length R _ w q (by rw[r];simp only[maxLen];omega) (by rw[r];omega)).mono ?_;rintro e w' ⟨v,I,rfl,S,a,J,d⟩;have s:=(S.trans c);rw[Yv s] at a;have hlen:(sy (l.map Prod.fst)).length=I.length:=((AR _).trans s.symm).length_eq;rcases a.2 with⟨rfl,Y⟩|⟨B,cap,cur,rfl,f,C,Z,U,r3,V⟩
 .obtain W:sy (l.map Prod.fst)=[]:=z8 VW;rw[W];exact⟨_,H,_,G,F,⟨rfl,rfl⟩,rfl,hg.below d,.slice (l:=[]) (b:=0) (o:=0) (sz:=1) .nil (λi v h=>by simp at h) (λh=>absurd rfl h) aaL aaL (gO _) (YZ _) (.inl rfl),Ext.Oq d⟩
 .have⟨X,ex⟩:=U8 A hg d (us:=(sy (l.map Prod.fst)).map encZ) f C (λj v h=>by
   rw[<-V,acf,Nu] at h
   split at h
   .simpa using h
   .cases h)
  have u:=fE.slice (F:=im F B ((sy (l.map Prod.fst)).map encZ).length ((sy (l.map Prod.fst)).map encZ)) (G:=G) (n:=H.length) (tag:=.iw) (l:=(sy (l.map Prod.fst)).map λn=>AV.sc (.int .i64 n)) (b:=B) (o:=0) (base:=some ⟨B,0,none⟩) (cap:=cap) (sz:=1)
   (Jd _) (u9 _ _ _) (λ_=>rfl) (λx D=>by obtain⟨y,_,rfl⟩:=nw.1 D;rfl) (λx D=>by
    have⟨y,hy,h⟩:=Wk.1 D;obtain⟨z,_,rfl⟩:=nw.1 hy
    rw[xV.1 h];rfl) (by rw[yA];omega) U (.inl rfl)
  rw[show((sy (l.map Prod.fst)).map λn=>AV.sc (.int .i64 n)).length=I.length by rw[yA,hlen]] at u;exact⟨_,H,_,G,_,⟨rfl,rfl⟩,rfl,X,u,ex⟩
def R4(T:dt){H:cZ}{a0:Pf}{a1:dI}{l d:List (Int×Bool)}{q0 o:Nat}(a:H[q0]?=some [AV.iR o])(b:H[o]?=some [lP sB l])(hm:u7 l a0 a1=some d):ds prog T 48 [Pf.av a0,dI.av a1,AV.eb q0 0] H (AV.tuple []) (eO H o [lP sB d]):=by
 rw[u7] at hm
 have hn:o≠q0:=by rintro rfl;rw[a] at b;cases b
 refine ec.HQ b ?_;have a:=(sU (c:=[lP sB l]) hn).trans a;have b:=GO (c:=[lP sB l]) (er b);have e:=Aj (Aj trivial a) b;refine wi aiq func48 [] [] 999 ?_;refine Im e hm λe m=>?_;simp[e];refine Cf (El T b m) ?_;simp[e]
def RY(T:dt){H:cZ}{o:Nat}:ds prog T 47 [AV.iR o] H (AV.agg [AV.sc .nilFunc,AV.sc .nilFunc,AV.func (.func 48) [] [AV.eb H.length 0]]) (H++[[AV.iR o]]):=by
 refine wi aiq func47 [1] [] 999 ?_;simp
def I'{k:Nat}:∀l:List (Int×Bool),AV.gE k (l.map λp=>sB p.2)=true
 |[]=>rfl|x::l=>by simp[AV.gE,AV.low,I' l]
def Yl(H:cZ):zz (λl:List (Int×Bool)=>H++[[lP sB l],[AV.iR H.length]]) (H.length+2):=⟨λs=>by simp,λs a cs hc=>by
 rcases rA.1 hc with hc|hc
 .exact .inl (acV _ hc)
 .rcases jr.1 hc with hc|hc
  .right;rw[hc];simp[lP,AV.gE,AV.low,I']
  .left;simp at hc;simp[hc]⟩
def HB(T:dt)(a:lK T){H:cZ}{a0:Pf}{b:List Int}{c:Int}(hm:mm a0=some (b,c)):ds prog T 46 [Pf.av a0,AV.func (.func 47) [] []] H (AV.tuple [sL sI b,sI c]) H:=by
 rw[mm] at hm;refine ec.ra (Post:=λx K=>x=AV.tuple [sL sI b,sI c]/\∃X,K=H++X) ?_ (λ_ _ h=>⟨_,h.2.choose_spec,by rw[h.1];simp[AV.low,AV.gE],h.1,rfl⟩);have e:=a;refine wi aiq func46 [] [(5,false,[])] 999 ?_;have m:=hm;refine sw [0,1,7,8,9,0] ?_;intro d l e m;refine Cs (RY T) ?_;simp[e]
 refine Cs (DA T a (st:=λl=>H++[[lP sB l],[AV.iR H.length]]) (k:=H.length+2) (Yl H) (λX s f d i h=>by
  have:=R4 T (H:=H++[[lP sB s],[AV.iR H.length]]++X) (q0:=H.length+1) (o:=H.length) aaL aaL h
  simpa[eO] using this) e.1.2) ?_
 simp[e];refine Cf (AQ T a (o:=H.length) (l:=l) aaL e.2) ?_;exact au
def yI(T:dt)(c:lK T){H:cZ}{a0:Pf}{a:List Int}{b:Int}(hm:mm a0=some (a,b)):ds prog T 25 [Pf.av a0] H (AV.tuple [sL sI a,sI b]) H:=by
 refine wi aiq func25 [] [] 999 ?_;simp;refine Cf (HB T c hm) ?_;simp
@[reducible,instance] def UF:=fK 25 @yI
end
def Ej(T:dt){H:cZ}{a0 a:Int}{d:Bool}{q0:Nat}(b:H[q0]?=some [sI a])(hm:sm a0 a=some d):ds prog T 55 [sI a0,AV.eb q0 0] H (sB d) H:=by
 rw[sm] at hm;have c:=er b;have e:=Aj c b;refine wi aiq func55 [] [] 999 ?_;cases hm;simp[e]
def ue(T:dt){S:Type}{st:S->cZ}{k:Nat}{a0:List Int}{a1:(S->Int->Option (Bool×S))}{b:S}{i:Int}{c:S}{g1:Nat}{a:List AV}(hF:zz st k)(d:Br T g1 a st a1)(hm:kf a0 a1 b=some (i,c)):ds prog T 104 [sL sI a0,AV.func (.func g1) [] a] (st b) (sI i) (st c):=by
 rw[kf] at hm;have e:=hF.len;refine wi aiq func104 [] [] 999 ?_;simp[e];refine Wr e hm 999 (λj s2 f h=>h=st s2/\f.1 0=sL sI a0/\f.1 1=AV.func (.func g1) [] a/\f.1 7=sI (dp a0)/\f.1 8=sI j) aaQ (λs2 _ _ _ E m=>?_) (λj _ s2 _ _ _ _ _ E e m z p=>?_)
 .exact aa
 have e:=Aj e E;have⟨l,n,e,m⟩:=Bo2 e m;simp[e];refine il.Q7 adr (Br.Rw d e.2) ?_;exact aa
def s5(T:dt){S:Type}{st:S->cZ}{k:Nat}{a0:List Int}{a1:(S->Int->Option (Bool×S))}{b:S}{f:Bool}{c:S}{g1:Nat}{a:List AV}(hF:zz st k)(d:Br T g1 a st a1)(hm:g_ a0 a1 b=some (f,c)):ds prog T 54 [sL sI a0,AV.func (.func g1) [] a] (st b) (sB f) (st c):=by
 rw[g_] at hm;have e:=hF.len;refine wi aiq func54 [] [] 999 ?_;simp[e];refine s8 hm (ue T hF d) λ_ _ m=>?_;exact au
def HS(T:dt)(c:lK T){H:cZ}{a0:List iz}{a1 d:Int}(hm:oR a0 a1=some d):ds prog T 27 [sL iz.av a0,sI a1] H (sI d) H:=by
 rw[oR] at hm;refine ec.ra (Post:=λx K=>x=sI d/\∃X,K=H++X) ?_ (λ_ _ h=>⟨_,h.2.choose_spec,by rw[h.1];simp[AV.low,AV.gE],h.1,rfl⟩);have e:=c;refine wi aiq func27 [3,5] [] 5 ?_;have⟨a,e,m⟩:=Ac e hm;simp[e];refine WA m 999 999 [5] [] (λv3 f=>f.1 3=AV.eb (List.length H) 0/\f.1 23=sB v3) [7,0] (λi _ g m=>?_) ?_
 .simp[e];refine qc m (KI T c) λ_ m=>?_;apply Ir e m<;>intro e m
  .exact ij
  refine sw [8,0] ?_;intro j e m;refine s8 m (kU T (st:=λ_:Unit=>H++[[sI a1],[sS a.name,sI a.cU.ail,sI a.cU.cT.ail,sL Ty.av a.cU.cT.aim,sL Tm.av a.cU.dc,sL Fm.av a.cU.aim,sI a.proof.ail,sI a.proof.aio,sI a.proof.cT.ail,sL Ty.av a.proof.cT.aim,sL Tm.av a.proof.dc,sL Fm.av a.proof.eh,sL Pf.av a.proof.aim]]) (zz.const _) (λX _ _ _ _ h=>by obtain⟨b,rfl⟩:=qp h;exact Eo T (q0:=(List.length H+1)) aaQ b)) λ_ _ m=>?_;exact ij
 intro _ v3 e m;refine qc m (xO T c) λ_ m=>?_;refine sw [7,0] ?_;intro e m;refine s8 m (yI T c) λ_ _ m=>?_;refine sw [7,0] ?_;intro e m;refine s8 m (s5 T (st:=λ_:Unit=>H++[[sI a1],[sS a.name,sI a.cU.ail,sI a.cU.cT.ail,sL Ty.av a.cU.cT.aim,sL Tm.av a.cU.dc,sL Fm.av a.cU.aim,sI a.proof.ail,sI a.proof.aio,sI a.proof.cT.ail,sL Ty.av a.proof.cT.aim,sL Tm.av a.proof.dc,sL Fm.av a.proof.eh,sL Pf.av a.proof.aim]]) (zz.const _) (λX _ _ _ _ h=>by obtain⟨b,rfl⟩:=qp h;exact Ej T (q0:=(List.length H)) aaQ b)) λ_ _ m=>?_;refine Il e m λe m=>?_;exact au
@[reducible,instance] def Xh:=fK 27 @HS
def BB:C1 prog 29 td (sL Fm.av) (sL iz.av):=by
 refine v1 func29 λT H a0 r m e=>?_;rw[td] at m;simp[e];refine Td e m 999 8 [6,7] [] [16] (λs2=>s2) (λs2 a f=>f.1 3=sT a Fm.av s2) λh d s2 c _ _ _ _ E e m z p=>?_;have⟨a,E,b⟩:=E;refine sw [20,9,0] ?_;intro e m;refine Ao (f:=Fm.av) s2 [d.cU] b ES e.2 ?_;simp[e];cases m;exact p _ _ _ ⟨(.loc 16 (c.eg 16+1)),aaQ,(On 16)⟩ z
@[reducible,instance] def Qu:=fK 29 @BB
def Dm(T:dt)(b:lK T){H:cZ}{a0:List Fm}{a1:Sq}{a:Int}(hm:rC a0 a1=some a):ds prog T 105 [sL Fm.av a0,Sq.av a1] H (sI a) H:=by
 rw[rC] at hm;have e:=b;refine wi aiq func105 [] [] 999 ?_;refine Il e hm λe m=>?_;simp[e];refine Wa e m 999 17 [15,16] [3] nI [11,0,1,7,7,0] ?_;intro _ _ _ e m;exact Wb e m 999 40 [38,39] [3] nI
def GP(T:dt){H:cZ}{u:Unit}(hm:xo=some u):ds prog T 106 [] H (AV.iR (List.length H)) (H++[[Lh]]):=by
 refine wi aiq func106 [] [] 999 ?_;simp;refine ry.vP kl rE adm adm ?_;simp;refine ry.vP kl rE adm adm ?_;simp;refine ry.vP kl rE adm adm ?_;simp;refine ry.vP kl rE adm adm ?_;simp;refine ry.vP kl rE adm adm ?_;simp;refine ry.vP kl rE adm adm ?_;simp;refine ry.vP kl rE adm adm ?_;simp;refine ry.vP kl rE adm adm ?_;simp;refine ry.vP kl rE adm adm ?_;simp;refine ry.vP kl rE adm adm ?_;simp;refine ry.vP kl rE adm adm ?_;simp;refine ry.vP kl rE adm adm ?_;simp;refine ry.vP kl rE adm adm ?_;simp;refine ry.vP kl rE adm adm ?_;simp;refine ry.vP kl rE adm adm ?_;simp;refine ry.vP kl rE adm adm ?_;simp;refine ry.vP kl rE adm adm ?_;simp;refine ry.vP kl rE adm adm ?_;simp;refine ry.vP kl rE adm adm ?_;simp;refine ry.vP kl rE adm adm ?_;simp;simp[Lh,P6,OV]
def pQ:C2 prog 160 eM cV.av cV.av Fm.av:=by
 refine v2 func160 λT H a0 a1 r m e=>?_;rw[eM] at m;refine sw [9,0] ?_;intro e m;refine Ad (f:=c7.av) a0.known [(c7.mk a1 a0.eX.vars)] (ig.full (D:=[])) aew e.2 ?_;exact au
@[reducible,instance] def Of:=fK 160 @pQ
def Gh:C1 prog 108 qX cV.av Sq.av:=by
 refine v1 func108 λT H a0 r m e=>?_;rw[qX] at m;refine sw [0,1,0] ?_;intro _ e m;refine Wr e m 999 (λj b f h=>∃a,h=H/\f.1 16=sL Fm.av a0.ais/\f.1 17=sI (dp a0.ais)/\f.1 18=sI j/\bx f 2 [sI 0,sI 0,nL,nL]/\bx f 3 [sI b.1,sI b.2.1,sL cR.av b.2.2.1,sT a c7.av b.2.2.2]) ⟨.full,aaQ⟩ (λb _ _ _ E m=>?_) (λj _ b _ _ _ _ _ E e m z p=>?_)
 .have⟨v12,c,d,i⟩:=b;have⟨a,E⟩:=E;have e:=Aj e E;dsimp only[dh,UD]at m;exact au
 have⟨v12,c,d,i⟩:=b;have⟨a,E⟩:=E;have e:=Aj e E;dsimp only[UD]at m;refine sw [0,1,0] ?_;intro _ e m;cases m;exact p _ _ _ ⟨.iw,aaQ⟩ z
def Gm:C1 prog 216 gC Tm.av sI:=by
 refine v1 func216 λT H a0 r m e=>?_;rw[gC] at m;exact au
@[reducible,instance] def abd:=fK 216 @Gm
def Ij(T:dt){H:cZ}{a0 a1 a b:Int}{k:Tm}{q0 q1:Nat}(c:H[q0]?=some [sI a])(d:H[q1]?=some [sI b])(hm:sR a0 a1 a b=some k):ds prog T 296 [sI a0,sI a1,AV.eb q0 0,AV.eb q1 0] H (Tm.av k) H:=by
 rw[sR] at hm;have i:=er c;have j:=er d;have e:=Aj (Aj (Aj i c) j) d;refine wi aiq func296 [] [] 2 ?_;simp[e];refine wjs 999 999 (λf h=>h=H/\f.1 0=sI (en (og (ea .i64 a0 a1) a) (dJ .i64 a0 b) a0)/\f.1 6=AV.gx 6 (f.gen 6) 0/\f.box 6=some [sI 0,sI 0,sI 0,nL,nL]) ?_ (λ_ g=>?_)
 .rintro _ _ E;have m:=hm;exact aa
 rcases Pb (og (ea .i64 a0 a1) a) e with e|e
 .exact aj
 exact aj
def G7{n:Nat}:C1 prog 111 (kj n) Ty.av Ty.av:=by
 refine i1 λn ih=>v1 func111 λT H a0 r m e=>?_;rw[kj] at m;simp[e];refine Td e m 999 12 [10,11] [2] [21] (λs2=>s2) (λs2 a f=>bx f 3 [sI a0.ail,sT a Ty.av s2]) λh _ s2 c _ _ _ _ E e m z p=>?_;have⟨a,E,b⟩:=E;refine sw [20,0,18,9,0] ?_;intro d e m;refine Ad (f:=Ty.av) s2 [d] b F9 e.2 ?_;simp[e];cases m;exact p _ _ _ ⟨(.loc 21 (c.eg 21+1)),aaQ,(On 21)⟩ z
@[reducible,instance] def T4:=fK 111 @G7
def Cl(T:dt):∀(n:Nat),(∀{S:Type} {st:S->cZ} {k:Nat} {a0:Tm} {a1:Int} {l:(S->Int->Int->Option (Tm×S))} {o:S} {w:Tm} {q:S} {q0:Nat} {q1:Nat} {r:Nat} {t:List AV} (hF:zz st k) (d:∀s,(st s)[q0]?=some [AV.func (.func r) [] t]) (b:tx T r t st l) (i:∀s,(st s)[q1]?=some [AV.func (.func 318) [] [AV.eb q0 0,AV.eb q1 0]]) (hm:gm n a0 a1 l o=some (w,q)),ds prog T 318 [Tm.av a0,sI a1,AV.eb q0 0,AV.eb q1 0] (st o) (Tm.av w) (st q)):=by
  intro n
  induction n with
  |zero=>
    skip
    all_goals(intro _ _;intros;rename_i hm;cases hm)
  |succ n ih=>
 intro S st k a0 a1 l o w q q0 q1 r t hF d b i hm;rw[gm] at hm;have x:=λs=>er (d s);have y:=λs=>er (i s);have e:=Aj (Aj (Aj (Aj hF.len x) d) y) i;refine wi aiq func318 [] [(9,false,[true,true,false,true,true,true,true,true,true,true])] 5 ?_;simp[e];apply Iq e hm<;>intro e m
 .apply wg 999;have⟨G,H,e,m⟩:=Bo2 e m;simp[e];refine il.Q7 adr (tx.Rw b e.2) ?_;exact au
 refine sg 4 [0,4,0] ?_;intro C e m;refine wA 999 999 [] [4,6,7] (λf=>f.1 1=sI (en (dj a0.ail 2) (dJ .i64 a1 1) a1)/\f.1 3=AV.eb q1 0) [0] (λ_ g=>?_) ?_
 .rcases Pb (dj a0.ail 2) e with e|e
  .exact aj
  exact aj
 intro _ e m;refine Wr e m 999 (λD u f h=>∃a,(h=st u.2/\f.1 1=sI (en (dj a0.ail 2) (dJ .i64 a1 1) a1)/\f.1 3=AV.eb q1 0/\f.1 32=sL Tm.av a0.aim/\f.1 33=sI (dp a0.aim)/\f.1 34=sI D/\bx f 6 [sI 0,sI 0,sI 0,nL,nL]/\bx f 7 [sI a0.ail,sI a0.aio,sI C.ail,sL Ty.av C.aim,sT a Tm.av u.1])/\Ow f [45] a u.1) (by exact⟨.full,aaQ,ig.full⟩) (λu j _ _ E m=>?_) (λD _ u j _ _ _ _ E e m z p=>?_)
 .have⟨v,A⟩:=u;have⟨a,E,c⟩:=E;have e:=Aj e E;dsimp only[dh,kO]at m;exact au
 have⟨v,A⟩:=u;have⟨a,E,c⟩:=E;have e:=Aj e E;dsimp only[kO]at m;have⟨B,F,e,m⟩:=Bo2 e m;simp[e];refine jw.Q7 adr (ih hF d b i e.2) aaL ?_;refine sw [9,0] ?_;intro e m;refine Ad (f:=Tm.av) v [B] c BV e.2 ?_;simp[e];cases m;exact p _ _ _ ⟨(.loc 45 (j.eg 45+1)),aaQ,(On 45)⟩ z
def CD(T:dt){n:Nat}:=@Cl T n
def yM(T:dt){S:Type}{st:S->cZ}{k:Nat}{a0:Tm}{a1:(S->Int->Int->Option (Tm×S))}{c:S}{d:Tm}{b:S}{g1:Nat}{a:List AV}(hF:zz st k)(f:tx T g1 a st a1)(hm:nB a0 a1 c=some (d,b)):ds prog T 295 [Tm.av a0,AV.func (.func g1) [] a] (st c) (Tm.av d) (st b):=by
 rw[nB] at hm;refine ec.aat hF (Post:=λx K=>x=Tm.av d/\∃X,K=(st b)++X) ?_ (λ_ _ h=>⟨_,h.2.choose,h.2.choose_spec,by rw[h.1];simp[AV.low,AV.gE],h.1,rfl⟩);have e:=hF.len;refine wi aiq func295 [3,5] [] 999 ?_;have⟨i,s2,e,m⟩:=Bo2 e hm;simp[e];refine il.Q7 adr (CD T (st:=λs=>st s++[[AV.func (.func g1) [] a],[AV.func (.func 318) [] [AV.eb k 0,AV.eb (k+1) 0]]]) (zz.ext hF _ (n:=k+2) aaL) (λ_=>aaQ) (tx.ext f) (λ_=>aaQ) e.2) ?_;exact au
def Nl(T:dt){H:cZ}{a0:Tm}{a1 a2:Int}{a:Tm}(hm:qy a0 a1 a2=some a):ds prog T 258 [Tm.av a0,sI a1,sI a2] H (Tm.av a) H:=by
 rw[qy] at hm;refine ec.ra (Post:=λx K=>x=Tm.av a/\∃X,K=H++X) ?_ (λ_ _ h=>⟨_,h.2.choose_spec,by rw[h.1];simp[AV.low,AV.gE],h.1,rfl⟩);have e:=trivial;refine wi aiq func258 [4,5] [] 999 ?_;simp[e];refine s8 hm (yM T (st:=λ_:Unit=>H++[[sI a1],[sI a2]]) (zz.const _) (λX _ _ _ _ _ h=>by obtain⟨b,rfl⟩:=qp h;exact Ij T (q0:=(List.length H)) (q1:=(List.length H+1)) aaQ aaQ b)) λ_ _ m=>?_;exact au
@[reducible,instance] def Zx:=fK 258 @Nl
def yH(T:dt){H:cZ}{a0:Tm}{a1 a b:Int}{i:Tm}{q0 q1:Nat}(c:H[q0]?=some [sI a])(d:H[q1]?=some [sI b])(hm:lD a0 a1 a b=some i):ds prog T 257 [Tm.av a0,sI a1,AV.eb q0 0,AV.eb q1 0] H (Tm.av i) H:=by
 rw[lD] at hm;have f:=er c;have h:=er d;have e:=Aj (Aj (Aj f c) h) d;refine wi aiq func257 [] [] 999 ?_;have m:=hm;exact aa
def u_:C1 prog 112 lW sB sI:=by
 refine u1 2 func112 λT H a0 r m e=>?_;rw[lW] at m;simp[e];refine wB 999 999 [] [] (λf=>f.1 2=sB (en (og a0 4) (Hl a0 7) false)) λ_ g=>?_;exact aa
@[reducible,instance] def Qz:=fK 112 @u_
def xF(T:dt):∀(n:Nat),(∀{S:Type} {st:S->cZ} {k:Nat} {a0:Fm} {a1:Int} {a2:(S->Tm->Int->Option (Tm×S))} {t:S} {D:Fm} {r:S} {g2:Nat} {i:List AV} (hF:zz st k) (u:Ff T g2 i st a2) (hm:dX n a0 a1 a2 t=some (D,r)),ds prog T 58 [Fm.av a0,sI a1,AV.func (.func g2) [] i] (st t) (Fm.av D) (st r)):=by
  intro n
  induction n with
  |zero=>
    skip
    all_goals(intro _ _;intros;rename_i hm;cases hm)
  |succ n ih=>
 intro S st k a0 a1 a2 t D r g2 i hF u hm;rw[dX] at hm;have e:=hF.len;refine wi aiq func58 [] [] 999 ?_;have m:=hm;refine sw [0,4,0] ?_;intro x e m;refine Xn e m 0 (λH v f h=>∃b,(h=st v.2/\f.1 1=sI a1/\f.1 2=AV.func (.func g2) [] i/\f.1 19=sL Tm.av a0.dc/\f.1 20=sI (dp a0.dc)/\f.1 21=sI H/\bx f 3 (Fm.av a0).cells/\bx f 6 [sI 0,sI 0,nL,nL,nL]/\bx f 7 [sI a0.ail,sI x.ail,sL Ty.av x.aim,sT b Tm.av v.1,nL])/\Ow f [32] b v.1) (by exact⟨.full,aaQ,ig.full⟩) (λH _ v y _ _ _ _ E e m z p=>?_) (λv y _ _ E m=>?_)
 .have⟨v12,A⟩:=v;have⟨b,E,o⟩:=E;have e:=Aj e E;dsimp only[kO]at m;apply wg 999;have⟨F,I,e,m⟩:=Bo2 e m;simp[e];refine jw.Q7 adr (Ff.Rw u e.2) aaL ?_;refine sw [9,0] ?_;intro e m;refine Ad (f:=Tm.av) v12 [F] o BV e.2 ?_;simp[e];cases m;exact p _ _ _ ⟨(.loc 32 (y.eg 32+1)),aaQ,(On 32)⟩ z
 have⟨v12,A⟩:=v;have⟨b,E,o⟩:=E;have e:=Aj e E;apply wg 5;dsimp only[dh,kO]at m;simp[e];refine Wj m 999 999 (λB f h=>∃v17 c,(h=st A/\f.1 1=sI v17/\f.1 2=AV.func (.func g2) [] i/\bx f 3 (Fm.av a0).cells/\bx f 6 [sI 0,sI 0,nL,nL,nL]/\bx f 7 [sI a0.ail,sI x.ail,sL Ty.av x.aim,sT c Tm.av v12,nL])/\Ow f [32] c v12/\B v17=some (D,r)) (λB _ g m=>?_) ?_
 .refine sw [0,1] ?_;intro _ e m;apply Ir e m<;>intro e m
  .simp[e];exact g _ _ ⟨a1,b,aaQ,o,m⟩
  simp[e];exact g _ _ ⟨(dJ .i64 a1 1),b,aaQ,o,m⟩
 rintro _ _ ⟨v17,c,E,w,m⟩;have e:=Aj e E;simp[e];refine Wr e m 999 (λC j f h=>∃a d,(h=st j.2/\f.1 1=sI v17/\f.1 2=AV.func (.func g2) [] i/\f.1 41=sL Fm.av a0.aim/\f.1 42=sI (dp a0.aim)/\f.1 43=sI C/\bx f 6 [sI 0,sI 0,nL,nL,nL]/\bx f 7 [sI a0.ail,sI x.ail,sL Ty.av x.aim,sT a Tm.av v12,sT d Fm.av j.1])/\Ow f [32] a v12/\Ow f [54] d j.1) (by exact⟨c,.full,aaQ,w,ig.full⟩) (λj s _ _ E m=>?_) (λC _ j s _ _ _ _ E e m z p=>?_)
 .have⟨v32,v33⟩:=j;have⟨a,d,E,q,l⟩:=E;have e:=Aj e E;dsimp only[dh,kO]at m;exact au
 have⟨v32,v33⟩:=j;have⟨a,d,E,q,l⟩:=E;have e:=Aj e E;dsimp only[kO]at m;simp[e];refine nW m (ih hF u) λG _ m=>?_;refine sw [9,0] ?_;intro e m;refine Ad (f:=Fm.av) v32 [G] l ES e.2 ?_;simp[e];cases m;exact p _ _ _ ⟨a,(.loc 54 (s.eg 54+1)),aaQ,(ig.other q l aaB aaB),(On 54)⟩ z
def lJ(T:dt){n:Nat}:=@xF T n
def qk(T:dt){H:cZ}{a0:Fm}{a1 a2:Int}{a:Fm}(hm:eu a0 a1 a2=some a):ds prog T 211 [Fm.av a0,sI a1,sI a2] H (Fm.av a) H:=by
 rw[eu] at hm;refine ec.ra (Post:=λx K=>x=Fm.av a/\∃X,K=H++X) ?_ (λ_ _ h=>⟨_,h.2.choose_spec,by rw[h.1];simp[AV.low,AV.gE],h.1,rfl⟩);have e:=trivial;refine wi aiq func211 [4,5] [] 999 ?_;simp[e];refine s8 hm (lJ T (st:=λ_:Unit=>H++[[sI a1],[sI a2]]) (zz.const _) (λX _ _ _ _ _ h=>by obtain⟨b,rfl⟩:=qp h;exact yH T (q0:=(List.length H)) (q1:=(List.length H+1)) aaQ aaQ b)) λ_ _ m=>?_;exact au
@[reducible,instance] def OR:=fK 211 @qk
def AE:C2 prog 196 j8 (t2 Fm.av sB) cV.av sI:=by
 refine v2 func196 λT H a0 a1 r m e=>?_;rw[j8] at m;exact aa
@[reducible,instance] def Pv:=fK 196 @AE
def yO(T:dt){H:cZ}{a0:List Fm}{a1:Pf}{a2:cV}{b:cP}{c:Int}{d:Nat}(a:KC H d a0)(hm:nG a0 a1 a2=some (b,c)):ds prog T 145 [AV.eb d 0,Pf.av a1,cV.av a2] H (AV.tuple [cP.av b,sI c]) H:=by
 rw[nG] at hm;have e:=a;refine wi aiq func145 [] [] 999 ?_;have m:=hm;exact aa
def xE(T:dt){H:cZ}{a0:List Fm}{a1:Pf}{a2:cV}{b:cP}{c:Int}{d:Nat}(a:KC H d a0)(hm:mg a0 a1 a2=some (b,c)):ds prog T 146 [AV.eb d 0,Pf.av a1,cV.av a2] H (AV.tuple [cP.av b,sI c]) H:=by
 rw[mg] at hm;have e:=a;refine wi aiq func146 [] [(1,true,[]),(3,true,[])] 999 ?_;have m:=hm;exact aa
def D6:C2 prog 197 zA Fm.av sI (sL Fm.av):=by
 refine v2 func197 λT H a0 a1 r m e=>?_;rw[zA] at m;exact au
def sF:C3 prog 199 dy sI dU.av sI sI:=by
 refine u3 3 func199 λT H a0 a1 a2 r m e=>?_;rw[dy] at m;simp[e];refine wB 999 999 [] [] (λf=>f.1 18=sB (en (ly (dJ .i64 a0.vars a1) 16) true (ly (dJ .i64 a0.ais a2) 16))) λ_ g=>?_;exact aa
@[reducible,instance] def Mv:=fK 199 @sF
def HF(T:dt)(b:lK T){H:cZ}{a0:Tm}{a:Int}(hm:oX a0=some a):ds prog T 218 [Tm.av a0] H (sI a) H:=by
 rw[oX] at hm;have e:=b;refine wi aiq func218 [] [] 999 ?_;have m:=hm;exact aa
@[reducible,instance] def Xl:=fK 218 @HF
def Ek{n:Nat}:C2 prog 260 (ic n) sB Tm.av Tm.av:=by
 refine i2 λn ih=>u2 3 func260 λT H a0 a1 r m e=>?_;rw[ic] at m;simp[e];refine WA m 999 999 [] [2,3] (λv2 f=>f.1 35=sB v2) [7,0] (λa _ g m=>?_) ?_
 .apply Iq e m<;>intro e m
  .exact ij
  apply Iq e m<;>intro e m
  .exact ij
  simp[e];refine qc m nS λ_ m=>?_;apply Ir e m<;>intro e m
  .exact ij
  exact ij
 intro _ v2 e m;exact Wb e m 999 39 [37,38] [3] nI
@[reducible,instance] def Ti:=fK 260 @Ek
def Le:C2 prog 219 qg sB Tm.av Tm.av:=by
 refine v2 func219 λT H a0 a1 r m e=>?_;rw[qg] at m;exact aa
@[reducible,instance] def Zb:=fK 219 @Le
def IA(T:dt){H:cZ}{a0 a1:Int}{a b:Bool}{q0:Nat}(c:H[q0]?=some [sB a])(hm:qO a0 a1 a=some b):ds prog T 298 [sI a0,sI a1,AV.eb q0 0] H (AV.tuple []) (eO H q0 [sB b]):=by
 rw[qO] at hm;have d:=er c;refine ec.HQ c ?_;have e:=d;refine wi aiq func298 [] [] 999 ?_;have m:=hm;exact aa
def G6(T:dt):∀(n:Nat),(∀{S:Type} {st:S->cZ} {k:Nat} {a0:Tm} {a1:Int} {i:(S->Int->Int->Option (S))} {j:S} {b:S} {q0:Nat} {q1:Nat} {l:Nat} {o:List AV} (hF:zz st k) (c:∀s,(st s)[q0]?=some [AV.func (.func l) [] o]) (a:tG T l o st i) (d:∀s,(st s)[q1]?=some [AV.func (.func 289) [] [AV.eb q0 0,AV.eb q1 0]]) (hm:jh n a0 a1 i j=some b),ds prog T 289 [Tm.av a0,sI a1,AV.eb q0 0,AV.eb q1 0] (st j) (AV.tuple []) (st b)):=by
  intro n
  induction n with
  |zero=>
    skip
    all_goals(intro _ _;intros;rename_i hm;cases hm)
  |succ n ih=>
 intro S st k a0 a1 i j b q0 q1 l o hF c a d hm;rw[jh] at hm;have t:=λs=>er (c s);have u:=λs=>er (d s);have e:=Aj (Aj (Aj (Aj hF.len t) c) u) d;refine wi aiq func289 [] [] 2 ?_;simp[e];refine Wj hm 999 0 (λv f h=>∃v2,(h=st v2/\f.1 1=sI a1/\f.1 3=AV.eb q1 0/\f.1 4=AV.gx 4 (f.gen 4) 0/\f.box 4=some (Tm.av a0).cells)/\v v2=some b) (λv x g m=>?_) ?_
 .apply Ir e m<;>intro e m
  .exact ij
  refine sw [8,0] ?_;intro y e m;refine il.Q7 adr (tG.Rw a e.2) ?_;exact ij
 rintro _ _ ⟨v2,E,m⟩;have e:=Aj e E;refine wj 999 999 (λf h=>h=st v2/\f.1 1=sI (en (dj a0.ail 2) (dJ .i64 a1 1) a1)/\f.1 3=AV.eb q1 0/\f.1 4=AV.gx 4 (f.gen 4) 0/\f.box 4=some (Tm.av a0).cells) (λ_ g=>?_) ?_
 .rcases Pb (dj a0.ail 2) e with e|e
  .exact aj
  exact aj
 rintro _ _ E;have e:=Aj e E;simp[e];refine Wr e m 999 (λr q f h=>h=st q/\f.1 1=sI (en (dj a0.ail 2) (dJ .i64 a1 1) a1)/\f.1 3=AV.eb q1 0/\f.1 22=sL Tm.av a0.aim/\f.1 23=sI (dp a0.aim)/\f.1 24=sI r) aaQ (λq _ _ _ E m=>?_) (λr _ q _ _ _ _ _ E e m z p=>?_)
 .exact aa
 refine sw [10,8,0] ?_;intro w e m;refine il.Q7 adr (ih hF c a d e.2) ?_;exact al
def IC(T:dt){n:Nat}:=@G6 T n
def yu(T:dt){S:Type}{st:S->cZ}{k:Nat}{a0:Tm}{a1:(S->Int->Int->Option (S))}{c b:S}{g1:Nat}{a:List AV}(hF:zz st k)(d:tG T g1 a st a1)(hm:qz a0 a1 c=some b):ds prog T 249 [Tm.av a0,AV.func (.func g1) [] a] (st c) (AV.tuple []) (st b):=by
 rw[qz] at hm;refine ec.aat hF (Post:=λx K=>x=AV.tuple []/\∃X,K=(st b)++X) ?_ (λ_ _ h=>⟨_,h.2.choose,h.2.choose_spec,by rw[h.1];simp[AV.low,AV.gE],h.1,rfl⟩);have e:=hF.len;refine wi aiq func249 [3,4] [] 999 ?_;have⟨s1,e,m⟩:=Ac e hm;simp[e];refine il.Q7 adr (IC T (st:=λs=>st s++[[AV.func (.func g1) [] a],[AV.func (.func 289) [] [AV.eb k 0,AV.eb (k+1) 0]]]) (zz.ext hF _ (n:=k+2) aaL) (λ_=>aaQ) (tG.ext d) (λ_=>aaQ) e.2) ?_;exact au
end Go.Proofs.YtjgjcpnoaeljkaaGreatDoor
