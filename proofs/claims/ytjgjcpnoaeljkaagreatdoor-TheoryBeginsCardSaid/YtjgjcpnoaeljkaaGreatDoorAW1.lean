/- Part of the proof of TheoryBegins: walks. -/
import Derived.Test.YtjgjcpnoaeljkaaGreatDoorProg
import Derived.Test.YtjgjcpnoaeljkaaGreatDoorChecked
import Derived.WalkKit
import Derived.Laws.Bits64b
import Derived.BigCall
import Derived.Test.YtjgjcpnoaeljkaaGreatDoorAG1
import Derived.Test.YtjgjcpnoaeljkaaGreatDoorAL20
set_option linter.all false
namespace Go.Proofs.YtjgjcpnoaeljkaaGreatDoor
open Go Go.kQ Go.eZ Tryz
def aiz:prog.follows .mixedOrders=true:=by kernel_rfl
instance:Nonempty (prog.follows .mixedOrders=true):=⟨aiz⟩
end Go.Proofs.YtjgjcpnoaeljkaaGreatDoor
namespace Go.eZ
open Go Go.kQ
mutual
def Ty.av:Ty->AV
 |.mk aiu aiv=>.agg [sI aiu,AV.slice .iB (Ty.KQ aiv)]
def Ty.KQ:List Ty->List AV
 |[]=>[]|x::l=>x.av::Ty.KQ l
end
def Ty.A3(l:List Ty):Ty.KQ l=l.map Ty.av:=by
 induction l with
 |nil=>rfl|cons x l ih=>simp[Ty.KQ,ih]
def Ty.eJ(aiu:Int)(aiv:List Ty):(Ty.mk aiu aiv).av=.agg [sI aiu,sL Ty.av aiv]:=by rw[Ty.av];simp only[Ty.A3]
mutual
@[simp] theorem Ty.yU(k:Nat):∀x:Ty,x.av.low k=true
 |.mk aiu aiv=>by rw[Ty.eJ];simp[AV.low,AV.gH,Ty.ri k aiv]
@[simp] theorem Ty.ri(k:Nat):∀l:List Ty,AV.gH k (l.map Ty.av)=true
 |[]=>rfl|x::l=>by simp[AV.gH,Ty.yU k x,Ty.ri k l]
end
def Ty.eS(x:Ty):x.av=.agg [sI x.aiu,sL Ty.av x.aiv]:=by cases x;exact Ty.eJ _ _
@[simp] theorem Ty.jI(x:Ty):x.av.cells=[sI x.aiu,sL Ty.av x.aiv]:=by rw[Ty.eS];rfl
@[simp] theorem Ty.rF(x:Ty):er x.av=true:=by rw[Ty.eS];rfl
@[simp] theorem Ty.nR(x:Ty):x.av.norm=x.av:=by rw[Ty.eS];rfl
@[simp] theorem Ty.ac7(a:Int)(b:List Ty):AV.agg [sI a,sL Ty.av b]=Ty.av (Ty.mk a b):=by rw[Ty.eJ]<;>rfl
@[simp] theorem Ty.ahg(a:Int):AV.agg [sI a,AV.slice .iB []]=Ty.av (Ty.mk a []):=by rw[Ty.eJ]<;>rfl
mutual
def Tm.av:Tm->AV
 |.mk aiu aix cT aiv=>.agg [sI aiu,sI aix,sI cT.aiu,sL Ty.av cT.aiv,AV.slice .iB (Tm.KQ aiv)]
def Tm.KQ:List Tm->List AV
 |[]=>[]|x::l=>x.av::Tm.KQ l
end
def Tm.A3(l:List Tm):Tm.KQ l=l.map Tm.av:=by
 induction l with
 |nil=>rfl|cons x l ih=>simp[Tm.KQ,ih]
def Tm.eJ(aiu aix:Int)(cT:Ty)(aiv:List Tm):(Tm.mk aiu aix cT aiv).av=.agg [sI aiu,sI aix,sI cT.aiu,sL Ty.av cT.aiv,sL Tm.av aiv]:=by rw[Tm.av];simp only[Tm.A3]
mutual
@[simp] theorem Tm.yU(k:Nat):∀x:Tm,x.av.low k=true
 |.mk aiu aix cT aiv=>by rw[Tm.eJ];simp[AV.low,AV.gH,Tm.ri k aiv]
@[simp] theorem Tm.ri(k:Nat):∀l:List Tm,AV.gH k (l.map Tm.av)=true
 |[]=>rfl|x::l=>by simp[AV.gH,Tm.yU k x,Tm.ri k l]
end
def Tm.eS(x:Tm):x.av=.agg [sI x.aiu,sI x.aix,sI x.cT.aiu,sL Ty.av x.cT.aiv,sL Tm.av x.aiv]:=by cases x;exact Tm.eJ _ _ _ _
@[simp] theorem Tm.jI(x:Tm):x.av.cells=[sI x.aiu,sI x.aix,sI x.cT.aiu,sL Ty.av x.cT.aiv,sL Tm.av x.aiv]:=by rw[Tm.eS];rfl
@[simp] theorem Tm.rF(x:Tm):er x.av=true:=by rw[Tm.eS];rfl
@[simp] theorem Tm.nR(x:Tm):x.av.norm=x.av:=by rw[Tm.eS];rfl
@[simp] theorem Tm.aaw(a b c:Int)(c3:List Ty)(d:List Tm):AV.agg [sI a,sI b,sI c,sL Ty.av c3,sL Tm.av d]=Tm.av (Tm.mk a b (Ty.mk c c3) d):=by rw[Tm.eJ]<;>rfl
@[simp] theorem Tm.ah0(a b c:Int)(d:List Tm):AV.agg [sI a,sI b,sI c,AV.slice .iB [],sL Tm.av d]=Tm.av (Tm.mk a b (Ty.mk c []) d):=by rw[Tm.eJ]<;>rfl
@[simp] theorem Tm.aeX(a b c:Int):AV.agg [sI a,sI b,sI c,AV.slice .iB [],AV.slice .iB []]=Tm.av (Tm.mk a b (Ty.mk c []) []):=by rw[Tm.eJ]<;>rfl
mutual
def Fm.av:Fm->AV
 |.mk aiu cT dc aiv=>.agg [sI aiu,sI cT.aiu,sL Ty.av cT.aiv,sL Tm.av dc,AV.slice .iB (Fm.KQ aiv)]
def Fm.KQ:List Fm->List AV
 |[]=>[]|x::l=>x.av::Fm.KQ l
end
def Fm.A3(l:List Fm):Fm.KQ l=l.map Fm.av:=by
 induction l with
 |nil=>rfl|cons x l ih=>simp[Fm.KQ,ih]
def Fm.eJ(aiu:Int)(cT:Ty)(dc:List Tm)(aiv:List Fm):(Fm.mk aiu cT dc aiv).av=.agg [sI aiu,sI cT.aiu,sL Ty.av cT.aiv,sL Tm.av dc,sL Fm.av aiv]:=by rw[Fm.av];simp only[Fm.A3]
mutual
@[simp] theorem Fm.yU(k:Nat):∀x:Fm,x.av.low k=true
 |.mk aiu cT dc aiv=>by rw[Fm.eJ];simp[AV.low,AV.gH,Fm.ri k aiv]
@[simp] theorem Fm.ri(k:Nat):∀l:List Fm,AV.gH k (l.map Fm.av)=true
 |[]=>rfl|x::l=>by simp[AV.gH,Fm.yU k x,Fm.ri k l]
end
def Fm.eS(x:Fm):x.av=.agg [sI x.aiu,sI x.cT.aiu,sL Ty.av x.cT.aiv,sL Tm.av x.dc,sL Fm.av x.aiv]:=by cases x;exact Fm.eJ _ _ _ _
@[simp] theorem Fm.jI(x:Fm):x.av.cells=[sI x.aiu,sI x.cT.aiu,sL Ty.av x.cT.aiv,sL Tm.av x.dc,sL Fm.av x.aiv]:=by rw[Fm.eS];rfl
@[simp] theorem Fm.rF(x:Fm):er x.av=true:=by rw[Fm.eS];rfl
@[simp] theorem Fm.nR(x:Fm):x.av.norm=x.av:=by rw[Fm.eS];rfl
@[simp] theorem Fm.Py(a b:Int)(c:List Ty)(c3:List Tm)(d:List Fm):AV.agg [sI a,sI b,sL Ty.av c,sL Tm.av c3,sL Fm.av d]=Fm.av (Fm.mk a (Ty.mk b c) c3 d):=by rw[Fm.eJ]<;>rfl
@[simp] theorem Fm.ag8(a b:Int)(c:List Fm):AV.agg [sI a,sI b,AV.slice .iB [],AV.slice .iB [],sL Fm.av c]=Fm.av (Fm.mk a (Ty.mk b []) [] c):=by rw[Fm.eJ]<;>rfl
@[simp] theorem Fm.abW(a b:Int):AV.agg [sI a,sI b,AV.slice .iB [],AV.slice .iB [],AV.slice .iB []]=Fm.av (Fm.mk a (Ty.mk b []) [] []):=by rw[Fm.eJ]<;>rfl
mutual
def Pf.av:Pf->AV
 |.mk aiu aix cT dc eg aiv=>.agg [sI aiu,sI aix,sI cT.aiu,sL Ty.av cT.aiv,sL Tm.av dc,sL Fm.av eg,AV.slice .iB (Pf.KQ aiv)]
def Pf.KQ:List Pf->List AV
 |[]=>[]|x::l=>x.av::Pf.KQ l
end
def Pf.A3(l:List Pf):Pf.KQ l=l.map Pf.av:=by
 induction l with
 |nil=>rfl|cons x l ih=>simp[Pf.KQ,ih]
def Pf.eJ(aiu aix:Int)(cT:Ty)(dc:List Tm)(eg:List Fm)(aiv:List Pf):(Pf.mk aiu aix cT dc eg aiv).av=.agg [sI aiu,sI aix,sI cT.aiu,sL Ty.av cT.aiv,sL Tm.av dc,sL Fm.av eg,sL Pf.av aiv]:=by rw[Pf.av];simp only[Pf.A3]
mutual
@[simp] theorem Pf.yU(k:Nat):∀x:Pf,x.av.low k=true
 |.mk aiu aix cT dc eg aiv=>by rw[Pf.eJ];simp[AV.low,AV.gH,Pf.ri k aiv]
@[simp] theorem Pf.ri(k:Nat):∀l:List Pf,AV.gH k (l.map Pf.av)=true
 |[]=>rfl|x::l=>by simp[AV.gH,Pf.yU k x,Pf.ri k l]
end
def Pf.eS(x:Pf):x.av=.agg [sI x.aiu,sI x.aix,sI x.cT.aiu,sL Ty.av x.cT.aiv,sL Tm.av x.dc,sL Fm.av x.eg,sL Pf.av x.aiv]:=by cases x;exact Pf.eJ _ _ _ _ _ _
@[simp] theorem Pf.jI(x:Pf):x.av.cells=[sI x.aiu,sI x.aix,sI x.cT.aiu,sL Ty.av x.cT.aiv,sL Tm.av x.dc,sL Fm.av x.eg,sL Pf.av x.aiv]:=by rw[Pf.eS];rfl
@[simp] theorem Pf.rF(x:Pf):er x.av=true:=by rw[Pf.eS];rfl
@[simp] theorem Pf.nR(x:Pf):x.av.norm=x.av:=by rw[Pf.eS];rfl
@[simp] theorem Pf.YX(a b c:Int)(c3:List Ty)(d:List Tm)(c5:List Fm)(f:List Pf):AV.agg [sI a,sI b,sI c,sL Ty.av c3,sL Tm.av d,sL Fm.av c5,sL Pf.av f]=Pf.av (Pf.mk a b (Ty.mk c c3) d c5 f):=by rw[Pf.eJ]<;>rfl
@[simp] theorem Pf.agU(a b c:Int)(d:List Pf):AV.agg [sI a,sI b,sI c,AV.slice .iB [],AV.slice .iB [],AV.slice .iB [],sL Pf.av d]=Pf.av (Pf.mk a b (Ty.mk c []) [] [] d):=by rw[Pf.eJ]<;>rfl
@[simp] theorem Pf.Zq(a b c:Int):AV.agg [sI a,sI b,sI c,AV.slice .iB [],AV.slice .iB [],AV.slice .iB [],AV.slice .iB []]=Pf.av (Pf.mk a b (Ty.mk c []) [] [] []):=by rw[Pf.eJ]<;>rfl
def gK.av(x:gK):AV:=.agg [AV.sc (.string x.name),sI x.cU.aiu,sI x.cU.cT.aiu,sL Ty.av x.cU.cT.aiv,sL Tm.av x.cU.dc,sL Fm.av x.cU.aiv,sI x.proof.aiu,sI x.proof.aix,sI x.proof.cT.aiu,sL Ty.av x.proof.cT.aiv,sL Tm.av x.proof.dc,sL Fm.av x.proof.eg,sL Pf.av x.proof.aiv]
def gK.eJ(name:ByteArray)(cU:Fm)(proof:Pf):(gK.mk name cU proof).av=.agg [AV.sc (.string name),sI cU.aiu,sI cU.cT.aiu,sL Ty.av cU.cT.aiv,sL Tm.av cU.dc,sL Fm.av cU.aiv,sI proof.aiu,sI proof.aix,sI proof.cT.aiu,sL Ty.av proof.cT.aiv,sL Tm.av proof.dc,sL Fm.av proof.eg,sL Pf.av proof.aiv]:=rfl
def gK.eS(x:gK):x.av=.agg [AV.sc (.string x.name),sI x.cU.aiu,sI x.cU.cT.aiu,sL Ty.av x.cU.cT.aiv,sL Tm.av x.cU.dc,sL Fm.av x.cU.aiv,sI x.proof.aiu,sI x.proof.aix,sI x.proof.cT.aiu,sL Ty.av x.proof.cT.aiv,sL Tm.av x.proof.dc,sL Fm.av x.proof.eg,sL Pf.av x.proof.aiv]:=by cases x;exact gK.eJ _ _ _
@[simp] theorem gK.jI(x:gK):x.av.cells=[AV.sc (.string x.name),sI x.cU.aiu,sI x.cU.cT.aiu,sL Ty.av x.cU.cT.aiv,sL Tm.av x.cU.dc,sL Fm.av x.cU.aiv,sI x.proof.aiu,sI x.proof.aix,sI x.proof.cT.aiu,sL Ty.av x.proof.cT.aiv,sL Tm.av x.proof.dc,sL Fm.av x.proof.eg,sL Pf.av x.proof.aiv]:=by rw[gK.eS];rfl
@[simp] theorem gK.rF(x:gK):er x.av=true:=by rw[gK.eS];rfl
@[simp] theorem gK.nR(x:gK):x.av.norm=x.av:=by rw[gK.eS];rfl
@[simp] theorem gK.acT(d:ByteArray)(f h:Int)(c3:List Ty)(i:List Tm)(c5:List Fm)(j k l:Int)(n:List Ty)(a:List Tm)(b:List Fm)(c:List Pf):AV.agg [AV.sc (.string d),sI f,sI h,sL Ty.av c3,sL Tm.av i,sL Fm.av c5,sI j,sI k,sI l,sL Ty.av n,sL Tm.av a,sL Fm.av b,sL Pf.av c]=gK.av (gK.mk d (Fm.mk f (Ty.mk h c3) i c5) (Pf.mk j k (Ty.mk l n) a b c)):=by rw[gK.eJ]<;>rfl
@[simp] theorem gK.abn(a:ByteArray)(b c:Int)(c3:List Ty)(d:List Tm)(c5:List Fm)(f h i:Int):AV.agg [AV.sc (.string a),sI b,sI c,sL Ty.av c3,sL Tm.av d,sL Fm.av c5,sI f,sI h,sI i,AV.slice .iB [],AV.slice .iB [],AV.slice .iB [],AV.slice .iB []]=gK.av (gK.mk a (Fm.mk b (Ty.mk c c3) d c5) (Pf.mk f h (Ty.mk i []) [] [] [])):=by rw[gK.eJ]<;>rfl
def ry.av(x:ry):AV:=.agg [sL gK.av x.dB]
def ry.eJ(dB:List gK):(ry.mk dB).av=.agg [sL gK.av dB]:=rfl
def ry.eS(x:ry):x.av=.agg [sL gK.av x.dB]:=by cases x;exact ry.eJ _
@[simp] theorem ry.jI(x:ry):x.av.cells=[sL gK.av x.dB]:=by rw[ry.eS];rfl
@[simp] theorem ry.rF(x:ry):er x.av=true:=by rw[ry.eS];rfl
@[simp] theorem ry.nR(x:ry):x.av.norm=x.av:=by rw[ry.eS];rfl
@[simp] theorem ry.ac7(a:List gK):AV.agg [sL gK.av a]=ry.av (ry.mk a):=by rw[ry.eJ]<;>rfl
def qZ.av(x:qZ):AV:=.agg [sI x.cU.aiu,sI x.cU.cT.aiu,sL Ty.av x.cU.cT.aiv,sL Tm.av x.cU.dc,sL Fm.av x.cU.aiv,AV.slice .iB (List.map (λn=>AV.sc (Value.int .i64 n)) x.uses)]
def qZ.eJ(cU:Fm)(uses:List Int):(qZ.mk cU uses).av=.agg [sI cU.aiu,sI cU.cT.aiu,sL Ty.av cU.cT.aiv,sL Tm.av cU.dc,sL Fm.av cU.aiv,AV.slice .iB (List.map (λn=>AV.sc (Value.int .i64 n)) uses)]:=rfl
@[simp] theorem qZ.yU(k:Nat)(x:qZ):x.av.low k=true:=by
 cases x;rw[qZ.eJ];simp[AV.low,AV.gH]
def qZ.eS(x:qZ):x.av=.agg [sI x.cU.aiu,sI x.cU.cT.aiu,sL Ty.av x.cU.cT.aiv,sL Tm.av x.cU.dc,sL Fm.av x.cU.aiv,AV.slice .iB (List.map (λn=>AV.sc (Value.int .i64 n)) x.uses)]:=by cases x;exact qZ.eJ _ _
@[simp] theorem qZ.jI(x:qZ):x.av.cells=[sI x.cU.aiu,sI x.cU.cT.aiu,sL Ty.av x.cU.cT.aiv,sL Tm.av x.cU.dc,sL Fm.av x.cU.aiv,AV.slice .iB (List.map (λn=>AV.sc (Value.int .i64 n)) x.uses)]:=by rw[qZ.eS];rfl
@[simp] theorem qZ.rF(x:qZ):er x.av=true:=by rw[qZ.eS];rfl
@[simp] theorem qZ.nR(x:qZ):x.av.norm=x.av:=by rw[qZ.eS];rfl
@[simp] theorem qZ.YX(a b:Int)(c:List Ty)(c3:List Tm)(d:List Fm)(c5:List Int):AV.agg [sI a,sI b,sL Ty.av c,sL Tm.av c3,sL Fm.av d,AV.slice .iB (List.map (λn=>AV.sc (Value.int .i64 n)) c5)]=qZ.av (qZ.mk (Fm.mk a (Ty.mk b c) c3 d) c5):=by rw[qZ.eJ]<;>rfl
@[simp] theorem qZ.Zq(a b:Int):AV.agg [sI a,sI b,AV.slice .iB [],AV.slice .iB [],AV.slice .iB [],AV.slice .iB []]=qZ.av (qZ.mk (Fm.mk a (Ty.mk b []) [] []) []):=by rw[qZ.eJ]<;>rfl
def Sq.av(x:Sq):AV:=.agg [sL Ty.av x.aiy,sL Fm.av x.aiB]
def Sq.eJ(aiy:List Ty)(aiB:List Fm):(Sq.mk aiy aiB).av=.agg [sL Ty.av aiy,sL Fm.av aiB]:=rfl
def Sq.eS(x:Sq):x.av=.agg [sL Ty.av x.aiy,sL Fm.av x.aiB]:=by cases x;exact Sq.eJ _ _
@[simp] theorem Sq.jI(x:Sq):x.av.cells=[sL Ty.av x.aiy,sL Fm.av x.aiB]:=by rw[Sq.eS];rfl
@[simp] theorem Sq.rF(x:Sq):er x.av=true:=by rw[Sq.eS];rfl
@[simp] theorem Sq.nR(x:Sq):x.av.norm=x.av:=by rw[Sq.eS];rfl
@[simp] theorem Sq.aaw(a:List Ty)(b:List Fm):AV.agg [sL Ty.av a,sL Fm.av b]=Sq.av (Sq.mk a b):=by rw[Sq.eJ]<;>rfl
@[simp] theorem Sq.aeX:AV.agg [AV.slice .iB [],AV.slice .iB []]=Sq.av (Sq.mk [] []):=by rw[Sq.eJ]<;>rfl
def dd.av(x:dd):AV:=.agg [AV.slice .iB (List.map (λn=>AV.sc (Value.int .i64 n)) x.l),sI x.rG]
def dd.eJ(l:List Int)(rG:Int):(dd.mk l rG).av=.agg [AV.slice .iB (List.map (λn=>AV.sc (Value.int .i64 n)) l),sI rG]:=rfl
def dd.eS(x:dd):x.av=.agg [AV.slice .iB (List.map (λn=>AV.sc (Value.int .i64 n)) x.l),sI x.rG]:=by cases x;exact dd.eJ _ _
@[simp] theorem dd.jI(x:dd):x.av.cells=[AV.slice .iB (List.map (λn=>AV.sc (Value.int .i64 n)) x.l),sI x.rG]:=by rw[dd.eS];rfl
@[simp] theorem dd.rF(x:dd):er x.av=true:=by rw[dd.eS];rfl
@[simp] theorem dd.ac7(a:List Int)(b:Int):AV.agg [AV.slice .iB (List.map (λn=>AV.sc (Value.int .i64 n)) a),sI b]=dd.av (dd.mk a b):=by rw[dd.eJ]<;>rfl
def dK.av(x:dK):AV:=.agg [sI x.vars,sI x.aiB]
def dK.eJ(vars aiB:Int):(dK.mk vars aiB).av=.agg [sI vars,sI aiB]:=rfl
def dK.eS(x:dK):x.av=.agg [sI x.vars,sI x.aiB]:=by cases x;exact dK.eJ _ _
@[simp] theorem dK.jI(x:dK):x.av.cells=[sI x.vars,sI x.aiB]:=by rw[dK.eS];rfl
@[simp] theorem dK.rF(x:dK):er x.av=true:=by rw[dK.eS];rfl
@[simp] theorem dK.nR(x:dK):x.av.norm=x.av:=by rw[dK.eS];rfl
@[simp] theorem dK.agg(a b:Int):AV.agg [sI a,sI b]=dK.av (dK.mk a b):=by rw[dK.eJ]<;>rfl
def cX.av(x:cX):AV:=.agg [sL Fm.av x.lemmas,sL Ty.av x.aiy,sL Fm.av x.aiB]
def cX.eJ(lemmas:List Fm)(aiy:List Ty)(aiB:List Fm):(cX.mk lemmas aiy aiB).av=.agg [sL Fm.av lemmas,sL Ty.av aiy,sL Fm.av aiB]:=rfl
def cX.eS(x:cX):x.av=.agg [sL Fm.av x.lemmas,sL Ty.av x.aiy,sL Fm.av x.aiB]:=by cases x;exact cX.eJ _ _ _
@[simp] theorem cX.jI(x:cX):x.av.cells=[sL Fm.av x.lemmas,sL Ty.av x.aiy,sL Fm.av x.aiB]:=by rw[cX.eS];rfl
@[simp] theorem cX.rF(x:cX):er x.av=true:=by rw[cX.eS];rfl
@[simp] theorem cX.nR(x:cX):x.av.norm=x.av:=by rw[cX.eS];rfl
@[simp] theorem cX.Py(a:List Fm)(b:List Ty)(c:List Fm):AV.agg [sL Fm.av a,sL Ty.av b,sL Fm.av c]=cX.av (cX.mk a b c):=by rw[cX.eJ]<;>rfl
def d_.av(x:d_):AV:=.agg [sI x.dc,sI x.eg,sI x.aiv,sB x.aix,sB x.oG]
def d_.eJ(dc eg aiv:Int)(aix oG:Bool):(d_.mk dc eg aiv aix oG).av=.agg [sI dc,sI eg,sI aiv,sB aix,sB oG]:=rfl
def d_.eS(x:d_):x.av=.agg [sI x.dc,sI x.eg,sI x.aiv,sB x.aix,sB x.oG]:=by cases x;exact d_.eJ _ _ _ _ _
@[simp] theorem d_.jI(x:d_):x.av.cells=[sI x.dc,sI x.eg,sI x.aiv,sB x.aix,sB x.oG]:=by rw[d_.eS];rfl
@[simp] theorem d_.rF(x:d_):er x.av=true:=by rw[d_.eS];rfl
@[simp] theorem d_.nR(x:d_):x.av.norm=x.av:=by rw[d_.eS];rfl
@[simp] theorem d_.agg(a b c:Int)(c3 d:Bool):AV.agg [sI a,sI b,sI c,sB c3,sB d]=d_.av (d_.mk a b c c3 d):=by rw[d_.eJ]<;>rfl
def cP.av(x:cP):AV:=.agg [sI x.cU.aiu,sI x.cU.cT.aiu,sL Ty.av x.cU.cT.aiv,sL Tm.av x.cU.dc,sL Fm.av x.cU.aiv,AV.sc (.int .u32 x.uses)]
def cP.eJ(cU:Fm)(uses:Int):(cP.mk cU uses).av=.agg [sI cU.aiu,sI cU.cT.aiu,sL Ty.av cU.cT.aiv,sL Tm.av cU.dc,sL Fm.av cU.aiv,AV.sc (.int .u32 uses)]:=rfl
def cP.eS(x:cP):x.av=.agg [sI x.cU.aiu,sI x.cU.cT.aiu,sL Ty.av x.cU.cT.aiv,sL Tm.av x.cU.dc,sL Fm.av x.cU.aiv,AV.sc (.int .u32 x.uses)]:=by cases x;exact cP.eJ _ _
@[simp] theorem cP.jI(x:cP):x.av.cells=[sI x.cU.aiu,sI x.cU.cT.aiu,sL Ty.av x.cU.cT.aiv,sL Tm.av x.cU.dc,sL Fm.av x.cU.aiv,AV.sc (.int .u32 x.uses)]:=by rw[cP.eS];rfl
@[simp] theorem cP.rF(x:cP):er x.av=true:=by rw[cP.eS];rfl
@[simp] theorem cP.nR(x:cP):x.av.norm=x.av:=by rw[cP.eS];rfl
@[simp] theorem cP.Py(a b:Int)(c:List Ty)(c3:List Tm)(d:List Fm)(c5:Int):AV.agg [sI a,sI b,sL Ty.av c,sL Tm.av c3,sL Fm.av d,AV.sc (.int .u32 c5)]=cP.av (cP.mk (Fm.mk a (Ty.mk b c) c3 d) c5):=by rw[cP.eJ]<;>rfl
@[simp] theorem cP.abW(a b c5:Int):AV.agg [sI a,sI b,AV.slice .iB [],AV.slice .iB [],AV.slice .iB [],AV.sc (.int .u32 c5)]=cP.av (cP.mk (Fm.mk a (Ty.mk b []) [] []) c5):=by rw[cP.eJ]<;>rfl
def dW.av(x:dW):AV:=.agg [sI x.vars,sI x.aiB]
def dW.eJ(vars aiB:Int):(dW.mk vars aiB).av=.agg [sI vars,sI aiB]:=rfl
def dW.eS(x:dW):x.av=.agg [sI x.vars,sI x.aiB]:=by cases x;exact dW.eJ _ _
@[simp] theorem dW.jI(x:dW):x.av.cells=[sI x.vars,sI x.aiB]:=by rw[dW.eS];rfl
@[simp] theorem dW.rF(x:dW):er x.av=true:=by rw[dW.eS];rfl
def cR.av(x:cR):AV:=.agg [sI x.cT.aiu,sL Ty.av x.cT.aiv,sI x.aiw]
def cR.eJ(cT:Ty)(aiw:Int):(cR.mk cT aiw).av=.agg [sI cT.aiu,sL Ty.av cT.aiv,sI aiw]:=rfl
def cR.eS(x:cR):x.av=.agg [sI x.cT.aiu,sL Ty.av x.cT.aiv,sI x.aiw]:=by cases x;exact cR.eJ _ _
@[simp] theorem cR.jI(x:cR):x.av.cells=[sI x.cT.aiu,sL Ty.av x.cT.aiv,sI x.aiw]:=by rw[cR.eS];rfl
@[simp] theorem cR.rF(x:cR):er x.av=true:=by rw[cR.eS];rfl
@[simp] theorem cR.nR(x:cR):x.av.norm=x.av:=by rw[cR.eS];rfl
@[simp] theorem cR.ac7(a:Int)(b:List Ty)(c:Int):AV.agg [sI a,sL Ty.av b,sI c]=cR.av (cR.mk (Ty.mk a b) c):=by rw[cR.eJ]<;>rfl
@[simp] theorem cR.ahg(a b:Int):AV.agg [sI a,AV.slice .iB [],sI b]=cR.av (cR.mk (Ty.mk a []) b):=by rw[cR.eJ]<;>rfl
def c7.av(x:c7):AV:=.agg [sI x.cU.aiu,sI x.cU.cT.aiu,sL Ty.av x.cU.cT.aiv,sL Tm.av x.cU.dc,sL Fm.av x.cU.aiv,sI x.vars]
def c7.eJ(cU:Fm)(vars:Int):(c7.mk cU vars).av=.agg [sI cU.aiu,sI cU.cT.aiu,sL Ty.av cU.cT.aiv,sL Tm.av cU.dc,sL Fm.av cU.aiv,sI vars]:=rfl
def c7.eS(x:c7):x.av=.agg [sI x.cU.aiu,sI x.cU.cT.aiu,sL Ty.av x.cU.cT.aiv,sL Tm.av x.cU.dc,sL Fm.av x.cU.aiv,sI x.vars]:=by cases x;exact c7.eJ _ _
@[simp] theorem c7.jI(x:c7):x.av.cells=[sI x.cU.aiu,sI x.cU.cT.aiu,sL Ty.av x.cU.cT.aiv,sL Tm.av x.cU.dc,sL Fm.av x.cU.aiv,sI x.vars]:=by rw[c7.eS];rfl
@[simp] theorem c7.rF(x:c7):er x.av=true:=by rw[c7.eS];rfl
@[simp] theorem c7.nR(x:c7):x.av.norm=x.av:=by rw[c7.eS];rfl
@[simp] theorem c7.Py(a b:Int)(c:List Ty)(c3:List Tm)(d:List Fm)(c5:Int):AV.agg [sI a,sI b,sL Ty.av c,sL Tm.av c3,sL Fm.av d,sI c5]=c7.av (c7.mk (Fm.mk a (Ty.mk b c) c3 d) c5):=by rw[c7.eJ]<;>rfl
def cV.av(x:cV):AV:=.agg [sI x.eV.vars,sI x.eV.aiB,sL cR.av x.aiy,sL c7.av x.known]
def cV.eJ(eV:dW)(aiy:List cR)(known:List c7):(cV.mk eV aiy known).av=.agg [sI eV.vars,sI eV.aiB,sL cR.av aiy,sL c7.av known]:=rfl
def cV.eS(x:cV):x.av=.agg [sI x.eV.vars,sI x.eV.aiB,sL cR.av x.aiy,sL c7.av x.known]:=by cases x;exact cV.eJ _ _ _
@[simp] theorem cV.jI(x:cV):x.av.cells=[sI x.eV.vars,sI x.eV.aiB,sL cR.av x.aiy,sL c7.av x.known]:=by rw[cV.eS];rfl
@[simp] theorem cV.rF(x:cV):er x.av=true:=by rw[cV.eS];rfl
@[simp] theorem cV.nR(x:cV):x.av.norm=x.av:=by rw[cV.eS];rfl
@[simp] theorem cV.aaw(a b:Int)(c:List cR)(c3:List c7):AV.agg [sI a,sI b,sL cR.av c,sL c7.av c3]=cV.av (cV.mk (dW.mk a b) c c3):=by rw[cV.eJ]<;>rfl
def dT.av(x:dT):AV:=.agg [sB x.aix,sB x.typed,sI x.dc,sI x.eg,sI x.aiv,sI x.sM,sI x.vars,sI x.aiB]
def dT.eJ(aix typed:Bool)(dc eg aiv sM vars aiB:Int):(dT.mk aix typed dc eg aiv sM vars aiB).av=.agg [sB aix,sB typed,sI dc,sI eg,sI aiv,sI sM,sI vars,sI aiB]:=rfl
def dT.eS(x:dT):x.av=.agg [sB x.aix,sB x.typed,sI x.dc,sI x.eg,sI x.aiv,sI x.sM,sI x.vars,sI x.aiB]:=by cases x;exact dT.eJ _ _ _ _ _ _ _ _
@[simp] theorem dT.jI(x:dT):x.av.cells=[sB x.aix,sB x.typed,sI x.dc,sI x.eg,sI x.aiv,sI x.sM,sI x.vars,sI x.aiB]:=by rw[dT.eS];rfl
@[simp] theorem dT.rF(x:dT):er x.av=true:=by rw[dT.eS];rfl
@[simp] theorem dT.nR(x:dT):x.av.norm=x.av:=by rw[dT.eS];rfl
@[simp] theorem dT.agg(a b:Bool)(c c3 d c5 f h:Int):AV.agg [sB a,sB b,sI c,sI c3,sI d,sI c5,sI f,sI h]=dT.av (dT.mk a b c c3 d c5 f h):=by rw[dT.eJ]<;>rfl
def da.av(x:da):AV:=.agg [sI x.aiw,sB x.il]
def da.eJ(aiw:Int)(il:Bool):(da.mk aiw il).av=.agg [sI aiw,sB il]:=rfl
def da.eS(x:da):x.av=.agg [sI x.aiw,sB x.il]:=by cases x;exact da.eJ _ _
@[simp] theorem da.jI(x:da):x.av.cells=[sI x.aiw,sB x.il]:=by rw[da.eS];rfl
@[simp] theorem da.rF(x:da):er x.av=true:=by rw[da.eS];rfl
@[simp] theorem da.agg(a:Int)(b:Bool):AV.agg [sI a,sB b]=da.av (da.mk a b):=by rw[da.eJ]<;>rfl
def dL.av(x:dL):AV:=.agg [sI x.aiu,sI x.base.aiu,sI x.base.aix,sI x.base.cT.aiu,sL Ty.av x.base.cT.aiv,sL Tm.av x.base.aiv,sL Ty.av x.vars,sI x.next.aiu,sI x.next.aix,sI x.next.cT.aiu,sL Ty.av x.next.cT.aiv,sL Tm.av x.next.aiv]
def dL.eJ(aiu:Int)(base:Tm)(vars:List Ty)(next:Tm):(dL.mk aiu base vars next).av=.agg [sI aiu,sI base.aiu,sI base.aix,sI base.cT.aiu,sL Ty.av base.cT.aiv,sL Tm.av base.aiv,sL Ty.av vars,sI next.aiu,sI next.aix,sI next.cT.aiu,sL Ty.av next.cT.aiv,sL Tm.av next.aiv]:=rfl
def dL.eS(x:dL):x.av=.agg [sI x.aiu,sI x.base.aiu,sI x.base.aix,sI x.base.cT.aiu,sL Ty.av x.base.cT.aiv,sL Tm.av x.base.aiv,sL Ty.av x.vars,sI x.next.aiu,sI x.next.aix,sI x.next.cT.aiu,sL Ty.av x.next.cT.aiv,sL Tm.av x.next.aiv]:=by cases x;exact dL.eJ _ _ _ _
@[simp] theorem dL.jI(x:dL):x.av.cells=[sI x.aiu,sI x.base.aiu,sI x.base.aix,sI x.base.cT.aiu,sL Ty.av x.base.cT.aiv,sL Tm.av x.base.aiv,sL Ty.av x.vars,sI x.next.aiu,sI x.next.aix,sI x.next.cT.aiu,sL Ty.av x.next.cT.aiv,sL Tm.av x.next.aiv]:=by rw[dL.eS];rfl
@[simp] theorem dL.rF(x:dL):er x.av=true:=by rw[dL.eS];rfl
def HC.cells(k:Nat):HC->List AV
 |.eK x=>[nC k x.term,sI x.steps]|.dz x=>[sI x.aiu,sI x.aix,sI x.oG.aiu,sL Ty.av x.oG.aiv,AV.slice .iB (List.map (nC k) x.aiv),sI x.size,sI x.free,sB x.normal]
@[simp] theorem HC.Ol(k:Nat)(x:eB):HC.cells k (.eK x)=[nC k x.term,sI x.steps]:=rfl
@[simp] theorem HC.Rz(k:Nat)(x:dx):HC.cells k (.dz x)=[sI x.aiu,sI x.aix,sI x.oG.aiu,sL Ty.av x.oG.aiv,AV.slice .iB (List.map (nC k) x.aiv),sI x.size,sI x.free,sB x.normal]:=rfl
abbrev iU(k:Nat)(l:List HC):cZ:=vn HC.cells k l
end Go.eZ
namespace Go.Proofs.YtjgjcpnoaeljkaaGreatDoor
open Go Go.kQ Go.eZ Tryz
@[simp] theorem T2:eA prog 3=some (false,1):=by kernel_rfl
@[simp] theorem ZN:hS prog 3=some [.sc (.int .i64 0)]:=by kernel_rfl
@[simp] theorem tm:prog.underlying 3=some (.int .i64):=by kernel_rfl
@[simp] theorem aid:eA prog 4=some (false,1)/\hS prog 4=some [.sc (.bool false)]/\eA prog 9=some (false,1)/\eA prog 22=some (false,1)/\eA prog 25=some (false,1)/\eA prog 27=some (true,1)/\n_ prog 27=some [.slice .full []]/\hS prog 27=some [.slice .full []]/\dO prog 27 0=some (0,25)/\fA prog 27 0=some (0,1):=by and_intros<;>kernel_rfl
@[simp] theorem Qa:mO prog 22=some (3,1):=by kernel_rfl
@[simp] theorem afq:prog.underlying 22=some (.slice 3):=by kernel_rfl
@[simp] theorem ag4:mO prog 25=some (54,13):=by kernel_rfl
@[simp] theorem afy:prog.underlying 25=some (.slice 54):=by kernel_rfl
@[simp] theorem ahU:eA prog 31=some (false,1)/\hS prog 31=some [.slice .full []]/\eA prog 32=some (false,1)/\hS prog 32=some [.sc (.int .i64 0)]/\eA prog 41=some (false,1)/\eA prog 44=some (false,1)/\n_ prog 46=some [.sc (.int .i64 0),.slice .full []]/\hS prog 46=some [.sc (.int .i64 0),.slice .full []]/\dO prog 46 0=some (0,3)/\fA prog 46 0=some (0,1):=by and_intros<;>kernel_rfl
@[simp] theorem ag0:mO prog 31=some (22,1):=by kernel_rfl
@[simp] theorem T5:prog.underlying 37=some (.map 3 4):=by kernel_rfl
@[simp] theorem C6:mO prog 41=some (49,5):=by kernel_rfl
@[simp] theorem agm:prog.underlying 41=some (.slice 49):=by kernel_rfl
@[simp] theorem Hi:mO prog 44=some (46,2):=by kernel_rfl
@[simp] theorem afx:prog.underlying 44=some (.slice 46):=by kernel_rfl
@[simp] theorem aac:eA prog 46=some (true,2):=by kernel_rfl
@[simp] theorem adw:dO prog 46 1=some (1,44)/\fA prog 46 1=some (1,1)/\eA prog 47=some (false,1)/\n_ prog 49=some [.sc (.int .i64 0),.sc (.int .i64 0),.slice .full [],.slice .full [],.slice .full []]/\hS prog 49=some [.sc (.int .i64 0),.sc (.int .i64 0),.slice .full [],.slice .full [],.slice .full []]/\dO prog 49 0=some (0,3)/\fA prog 49 0=some (0,1)/\dO prog 49 1=some (1,46)/\fA prog 49 1=some (1,2)/\dO prog 49 2=some (3,47):=by and_intros<;>kernel_rfl
@[simp] theorem Ty.adM(x:Ty):qH prog 46 x.av=true:=by rw[Ty.eS,s5,aac];rfl
@[simp] theorem BC:mO prog 47=some (60,5):=by kernel_rfl
@[simp] theorem aat:eA prog 49=some (true,5):=by kernel_rfl
@[simp] theorem ads:fA prog 49 2=some (3,1)/\dO prog 49 3=some (4,41)/\fA prog 49 3=some (4,1)/\eA prog 50=some (false,1)/\n_ prog 52=some [.sc (.int .i64 0),.sc (.int .i64 0),.sc (.int .i64 0),.slice .full [],.slice .full [],.slice .full [],.slice .full []]/\hS prog 52=some [.sc (.int .i64 0),.sc (.int .i64 0),.sc (.int .i64 0),.slice .full [],.slice .full [],.slice .full [],.slice .full []]/\dO prog 52 0=some (0,3)/\fA prog 52 0=some (0,1)/\dO prog 52 1=some (1,3)/\fA prog 52 1=some (1,1):=by and_intros<;>kernel_rfl
@[simp] theorem Fm.adH(x:Fm):qH prog 49 x.av=true:=by rw[Fm.eS,s5,aat];rfl
@[simp] theorem aeh:mO prog 50=some (52,7):=by kernel_rfl
@[simp] theorem ae0:eA prog 52=some (true,7):=by kernel_rfl
@[simp] theorem adr:dO prog 52 2=some (2,46)/\fA prog 52 2=some (2,2)/\dO prog 52 3=some (4,47)/\fA prog 52 3=some (4,1)/\dO prog 52 4=some (5,41)/\dO prog 52 5=some (6,50)/\n_ prog 54=some [.sc (.string ByteArray.empty),.sc (.int .i64 0),.sc (.int .i64 0),.slice .full [],.slice .full [],.slice .full [],.sc (.int .i64 0),.sc (.int .i64 0),.sc (.int .i64 0),.slice .full [],.slice .full [],.slice .full [],.slice .full []]/\hS prog 54=some [.sc (.string ByteArray.empty),.sc (.int .i64 0),.sc (.int .i64 0),.slice .full [],.slice .full [],.slice .full [],.sc (.int .i64 0),.sc (.int .i64 0),.sc (.int .i64 0),.slice .full [],.slice .full [],.slice .full [],.slice .full []]/\dO prog 54 0=some (0,9)/\fA prog 54 0=some (0,1):=by and_intros<;>kernel_rfl
@[simp] theorem Pf.adn(x:Pf):qH prog 52 x.av=true:=by rw[Pf.eS,s5,ae0];rfl
@[simp] theorem aad:eA prog 54=some (true,13):=by kernel_rfl
@[simp] theorem adE:dO prog 54 1=some (1,49)/\fA prog 54 1=some (1,5)/\dO prog 54 2=some (6,52)/\fA prog 54 2=some (6,7)/\n_ prog 60=some [.sc (.int .i64 0),.sc (.int .i64 0),.sc (.int .i64 0),.slice .full [],.slice .full []]/\dO prog 60 0=some (0,3)/\fA prog 60 0=some (0,1)/\dO prog 60 1=some (1,3)/\fA prog 60 1=some (1,1)/\dO prog 60 2=some (2,46):=by and_intros<;>kernel_rfl
@[simp] theorem gK.adC(x:gK):qH prog 54 x.av=true:=by rw[gK.eS,s5,aad];rfl
@[simp] theorem ZP:eA prog 60=some (true,5):=by kernel_rfl
@[simp] theorem ab':hS prog 60=some [.sc (.int .i64 0),.sc (.int .i64 0),.sc (.int .i64 0),.slice .full [],.slice .full []]:=by kernel_rfl
@[simp] theorem aec:fA prog 60 2=some (2,2)/\dO prog 60 3=some (4,47)/\fA prog 60 3=some (4,1)/\mO prog 64=some (5,1)/\eA prog 66=some (true,6)/\n_ prog 66=some [.sc (.int .i64 0),.sc (.int .i64 0),.slice .full [],.slice .full [],.slice .full [],.slice .full []]/\hS prog 66=some [.sc (.int .i64 0),.sc (.int .i64 0),.slice .full [],.slice .full [],.slice .full [],.slice .full []]/\dO prog 66 0=some (0,49)/\fA prog 66 0=some (0,5)/\dO prog 66 1=some (5,22):=by and_intros<;>kernel_rfl
@[simp] theorem Tm.adp(x:Tm):qH prog 60 x.av=true:=by rw[Tm.eS,s5,ZP];rfl
@[simp] theorem adt:fA prog 66 1=some (5,1)/\eA prog 70=some (true,2)/\n_ prog 70=some [.slice .full [],.slice .full []]/\hS prog 70=some [.slice .full [],.slice .full []]/\dO prog 70 0=some (0,44)/\fA prog 70 0=some (0,1)/\dO prog 70 1=some (1,41)/\fA prog 70 1=some (1,1)/\n_ prog 76=some [.slice .full [],.sc (.int .i64 0)]/\dO prog 76 0=some (0,22):=by and_intros<;>kernel_rfl
@[simp] theorem adN:fA prog 76 0=some (0,1)/\dO prog 76 1=some (1,3)/\eA prog 79=some (false,1)/\hS prog 79=some [.slice .full []]/\eA prog 80=some (false,1)/\hS prog 80=some [.sc .nilFunc]/\eA prog 101=some (false,1)/\eA prog 102=some (false,1)/\hS prog 102=some [.sc .nilFunc]/\eA prog 104=some (false,1):=by and_intros<;>kernel_rfl
@[simp] theorem ada:prog.underlying 101=some (.map 3 4):=by kernel_rfl
@[simp] theorem ahj:eA prog 108=some (true,2)/\n_ prog 108=some [.sc (.int .i64 0),.sc (.int .i64 0)]/\hS prog 108=some [.sc (.int .i64 0),.sc (.int .i64 0)]/\dO prog 108 0=some (0,3)/\dO prog 108 1=some (1,3)/\eA prog 117=some (false,1)/\hS prog 117=some [.sc .nilFunc]/\eA prog 138=some (true,3)/\n_ prog 138=some [.slice .full [],.slice .full [],.slice .full []]/\hS prog 138=some [.slice .full [],.slice .full [],.slice .full []]:=by and_intros<;>kernel_rfl
@[simp] theorem abj:dO prog 138 0=some (0,41)/\fA prog 138 0=some (0,1)/\dO prog 138 1=some (1,44)/\fA prog 138 1=some (1,1)/\dO prog 138 2=some (2,41)/\fA prog 138 2=some (2,1)/\eA prog 145=some (true,5)/\n_ prog 145=some [.sc (.int .i64 0),.sc (.int .i64 0),.sc (.int .i64 0),.sc (.bool false),.sc (.bool false)]/\hS prog 145=some [.sc (.int .i64 0),.sc (.int .i64 0),.sc (.int .i64 0),.sc (.bool false),.sc (.bool false)]/\dO prog 145 0=some (0,3):=by and_intros<;>kernel_rfl
@[simp] theorem abN:fA prog 145 0=some (0,1)/\dO prog 145 1=some (1,3)/\fA prog 145 1=some (1,1)/\dO prog 145 2=some (2,3)/\fA prog 145 2=some (2,1)/\dO prog 145 3=some (3,4)/\fA prog 145 3=some (3,1)/\dO prog 145 4=some (4,4)/\fA prog 145 4=some (4,1)/\eA prog 155=some (false,1):=by and_intros<;>kernel_rfl
@[simp] theorem V8:mO prog 155=some (202,3):=by kernel_rfl
@[simp] theorem abI:prog.underlying 155=some (.slice 202):=by kernel_rfl
@[simp] theorem ahL:eA prog 159=some (false,1)/\n_ prog 162=some [.slice .full [],.sc (.map none)]/\dO prog 162 0=some (0,41)/\fA prog 162 0=some (0,1)/\dO prog 162 1=some (1,159)/\fA prog 162 1=some (1,1)/\eA prog 164=some (false,1)/\hS prog 164=some [.sc (.int .u32 0)]/\eA prog 166=some (true,6)/\n_ prog 166=some [.sc (.int .i64 0),.sc (.int .i64 0),.slice .full [],.slice .full [],.slice .full [],.sc (.int .u32 0)]:=by and_intros<;>kernel_rfl
@[simp] theorem agV:hS prog 166=some [.sc (.int .i64 0),.sc (.int .i64 0),.slice .full [],.slice .full [],.slice .full [],.sc (.int .u32 0)]/\dO prog 166 0=some (0,49)/\fA prog 166 0=some (0,5)/\dO prog 166 1=some (5,164)/\fA prog 166 1=some (5,1)/\eA prog 170=some (true,2)/\dO prog 170 0=some (0,3)/\dO prog 170 1=some (1,3)/\eA prog 171=some (false,1)/\eA prog 173=some (true,4):=by and_intros<;>kernel_rfl
@[simp] theorem ago:mO prog 171=some (249,6):=by kernel_rfl
@[simp] theorem aa2:prog.underlying 171=some (.slice 249):=by kernel_rfl
@[simp] theorem agz:n_ prog 173=some [.sc (.int .i64 0),.sc (.int .i64 0),.slice .full [],.slice .full []]/\hS prog 173=some [.sc (.int .i64 0),.sc (.int .i64 0),.slice .full [],.slice .full []]/\dO prog 173 0=some (0,170)/\dO prog 173 1=some (2,155)/\fA prog 173 1=some (2,1)/\dO prog 173 2=some (3,171)/\n_ prog 192=some [.sc (.bool false),.sc (.bool false),.sc (.int .i64 0),.sc (.int .i64 0),.sc (.int .i64 0),.sc (.int .i64 0),.sc (.int .i64 0),.sc (.int .i64 0)]/\hS prog 192=some [.sc (.bool false),.sc (.bool false),.sc (.int .i64 0),.sc (.int .i64 0),.sc (.int .i64 0),.sc (.int .i64 0),.sc (.int .i64 0),.sc (.int .i64 0)]/\dO prog 192 0=some (0,4)/\dO prog 192 1=some (1,4):=by and_intros<;>kernel_rfl
@[simp] theorem U6:eA prog 192=some (true,8):=by kernel_rfl
@[simp] theorem aaP:dO prog 192 2=some (2,3)/\dO prog 192 3=some (3,3)/\dO prog 192 4=some (4,3)/\dO prog 192 6=some (6,3)/\dO prog 192 7=some (7,3)/\n_ prog 202=some [.sc (.int .i64 0),.slice .full [],.sc (.int .i64 0)]/\hS prog 202=some [.sc (.int .i64 0),.slice .full [],.sc (.int .i64 0)]/\dO prog 202 0=some (0,46)/\fA prog 202 0=some (0,2)/\dO prog 202 1=some (2,3):=by and_intros<;>kernel_rfl
@[simp] theorem dT.abt(x:dT):qH prog 192 x.av=true:=by rw[dT.eS,s5,U6];rfl
@[simp] theorem yD:eA prog 202=some (true,3):=by kernel_rfl
@[simp] theorem abM:fA prog 202 1=some (2,1)/\n_ prog 221=some [.sc (.int .i64 0),.sc (.bool false)]/\dO prog 221 0=some (0,3)/\dO prog 221 1=some (1,4)/\eA prog 243=some (true,12)/\n_ prog 243=some [.sc (.int .i64 0),.sc (.int .i64 0),.sc (.int .i64 0),.sc (.int .i64 0),.slice .full [],.slice .full [],.slice .full [],.sc (.int .i64 0),.sc (.int .i64 0),.sc (.int .i64 0),.slice .full [],.slice .full []]/\hS prog 243=some [.sc (.int .i64 0),.sc (.int .i64 0),.sc (.int .i64 0),.sc (.int .i64 0),.slice .full [],.slice .full [],.slice .full [],.sc (.int .i64 0),.sc (.int .i64 0),.sc (.int .i64 0),.slice .full [],.slice .full []]/\dO prog 243 0=some (0,3)/\fA prog 243 0=some (0,1)/\dO prog 243 1=some (1,60):=by and_intros<;>kernel_rfl
@[simp] theorem cR.abK(x:cR):qH prog 202 x.av=true:=by rw[cR.eS,s5,yD];rfl
@[simp] theorem aa9:prog.underlying 222=some (.array 21 192):=by kernel_rfl
@[simp] theorem acy:fA prog 243 1=some (1,5)/\dO prog 243 2=some (6,44)/\fA prog 243 2=some (6,1)/\dO prog 243 3=some (7,60)/\fA prog 243 3=some (7,5)/\n_ prog 249=some [.sc (.int .i64 0),.sc (.int .i64 0),.slice .full [],.slice .full [],.slice .full [],.sc (.int .i64 0)]/\hS prog 249=some [.sc (.int .i64 0),.sc (.int .i64 0),.slice .full [],.slice .full [],.slice .full [],.sc (.int .i64 0)]/\dO prog 249 0=some (0,49)/\fA prog 249 0=some (0,5)/\dO prog 249 1=some (5,3):=by and_intros<;>kernel_rfl
@[simp] theorem UQ:eA prog 249=some (true,6):=by kernel_rfl
@[simp] theorem acg:fA prog 249 1=some (5,1)/\eA prog 270=some (true,9)/\hS prog 270=some [.sc (.int .i64 0),.slice .full [],.sc (.int .i64 0),.sc (.int .i64 0),.slice .full [],.sc (.int .i64 0),.sc (.int .i64 0),.slice .full [],.sc (.int .i64 0)]/\eA prog 273=some (false,1)/\n_ prog 282=some [.sc (.pointer none),.sc (.int .i64 0)]/\dO prog 282 0=some (0,279)/\fA prog 282 0=some (0,1)/\dO prog 282 1=some (1,3)/\eA prog 313=some (false,1)/\n_ prog 319=some [.sc (.int .i64 0),.sc (.int .i64 0),.sc (.int .i64 0),.slice .full [],.slice .full [],.sc (.int .i64 0),.sc (.int .i64 0),.sc (.bool false)]:=by and_intros<;>kernel_rfl
@[simp] theorem c7.aa3(x:c7):qH prog 249 x.av=true:=by rw[c7.eS,s5,UQ];rfl
@[simp] theorem Dz:prog.underlying 270=some (.array 3 202):=by kernel_rfl
@[simp] theorem afz(b g o:Nat):ft prog 270 (.gv b g o) (.sc (.int .i64 0))=some (.gv b g (o+0)):=by kernel_rfl
@[simp] theorem aez(b g o:Nat):ft prog 270 (.gv b g o) (.sc (.int .i64 1))=some (.gv b g (o+3)):=by kernel_rfl
@[simp] theorem agj(b g o:Nat):ft prog 270 (.gv b g o) (.sc (.int .i64 2))=some (.gv b g (o+6)):=by kernel_rfl
@[simp] theorem ab1:eA prog 279=some (false,1):=by kernel_rfl
@[simp] theorem XM:hS prog 279=some [.sc (.pointer none)]:=by kernel_rfl
@[simp] theorem T3:prog.underlying 279=some (.pointer 319):=by kernel_rfl
@[simp] theorem ahb(k:Nat)(x:Option Nat):kK prog .eql 279 (nC k x) (.sc (.pointer none))=some (.sc (.bool x.isNone)):=Vz T3
@[simp] theorem ahp(k:Nat)(x:Option Nat):kK prog .neq 279 (nC k x) (.sc (.pointer none))=some (.sc (.bool x.isSome)):=Wm T3
@[simp] theorem Q5:mO prog 313=some (279,1):=by kernel_rfl
@[simp] theorem abX:dO prog 319 0=some (0,3)/\fA prog 319 0=some (0,1)/\dO prog 319 1=some (1,3)/\fA prog 319 1=some (1,1)/\dO prog 319 2=some (2,46)/\fA prog 319 2=some (2,2)/\dO prog 319 3=some (4,313)/\fA prog 319 3=some (4,1)/\dO prog 319 4=some (5,3)/\fA prog 319 4=some (5,1):=by and_intros<;>kernel_rfl
@[simp] theorem acY:dO prog 319 5=some (6,3)/\dO prog 319 6=some (7,4)/\eA prog 331=some (false,1):=by and_intros<;>kernel_rfl
@[simp] theorem aaT:prog.underlying 330=some (.array 14 3):=by kernel_rfl
@[simp] theorem ahw(tag:Tag)(l:List Int)(a:Int):la prog 22 (.slice tag (List.map sI l)) (some (.sc (.int .i64 a))) none none=(k_ l a (dq l)).map λr=>.slice .iB (List.map sI r):=NS _ l afq T2 (λx=>by simp)
@[simp] theorem ahe(tag:Tag)(l:List gK)(b:Int):la prog 25 (.slice tag (List.map gK.av l)) none (some (.sc (.int .i64 b))) none=(k_ l 0 b).map λr=>.slice .iB (List.map gK.av r):=Nk _ l afy aad (λx=>by simp)
@[simp] theorem agu(tag:Tag)(l:List Fm):la prog 41 (.slice tag (List.map Fm.av l)) none (some (.sc (.int .i64 (dq l)))) (some (.sc (.int .i64 (dq l))))=some (.slice .full (List.map Fm.av l)):=w8 _ l agm aat (λx=>by simp)
@[simp] theorem agF(tag:Tag)(l:List Ty):la prog 44 (.slice tag (List.map Ty.av l)) none (some (.sc (.int .i64 (dq l)))) (some (.sc (.int .i64 (dq l))))=some (.slice .full (List.map Ty.av l)):=w8 _ l afx aac (λx=>by simp)
@[simp] theorem af2(tag:Tag)(l:List cR):la prog 155 (.slice tag (List.map cR.av l)) none (some (.sc (.int .i64 (dq l)))) (some (.sc (.int .i64 (dq l))))=some (.slice .full (List.map cR.av l)):=w8 _ l abI yD (λx=>by simp)
@[simp] theorem aeL(tag:Tag)(l:List c7):la prog 171 (.slice tag (List.map c7.av l)) none (some (.sc (.int .i64 (dq l)))) (some (.sc (.int .i64 (dq l))))=some (.slice .full (List.map c7.av l)):=w8 _ l aa2 UQ (λx=>by simp)
def dT.cs(x:dT):List AV:=x.av.cells
@[simp] theorem aip(a:Int):ft prog 222 (.lD (.agg (List.flatMap (λx=>dT.cs x) nB))) (.sc (.int .i64 a))=(dg nB a).map λx=>.lD x.av:=EL aa9 U6 (λx=>rfl) (λx=>⟨_,dT.eS x⟩) (λx=>by simp) rfl
@[simp] theorem aim(a:Int):ft prog 330 (.lD (.agg (List.map (λn=>AV.sc (Value.int .i64 n)) pO))) (.sc (.int .i64 a))=(dg pO a).map λx=>.lD (.sc (.int .i64 x)):=F8 aaT T2 rfl
@[simp] theorem kn:prog.underlying 159=some (.map 3 207):=by kernel_rfl
def Vh:M1 prog 207=some (.sc .nilFunc):=by kernel_rfl
def PI:List Value:=[.int .i64 1,.int .i64 2,.int .i64 3,.int .i64 4,.int .i64 5,.int .i64 6,.int .i64 7,.int .i64 8,.int .i64 12,.int .i64 9,.int .i64 13,.int .i64 10,.int .i64 14,.int .i64 11,.int .i64 15,.int .i64 16,.int .i64 17,.int .i64 18,.int .i64 19,.int .i64 20]
def PX:List AV:=[.func (.func 145) [] [],.func (.func 146) [] [],.func (.func 147) [] [],.func (.func 148) [] [],.func (.func 148) [] [],.func (.func 149) [] [],.func (.func 150) [] [],.func (.func 151) [] [],.func (.func 151) [] [],.func (.func 152) [] [],.func (.func 152) [] [],.func (.func 153) [] [],.func (.func 153) [] [],.func (.func 154) [] [],.func (.func 154) [] [],.func (.func 155) [] [],.func (.func 155) [] [],.func (.func 156) [] [],.func (.func 157) [] [],.func (.func 158) [] []]
def Kt:AV:=.sW PI PX
def Kf(k:Int):AV:=match mapIdx PI (.int .i64 k)with|some j=>PX.getD j .undef|none=>.sc .nilFunc
abbrev KC(H:cZ)(o:Nat)(l:List Fm):Prop:=H[o]?=some [sL Fm.av l,AV.kT (o-1)]/\H[o-1]?=some [Kt]
def OS{H:cZ}{o:Nat}{k:Int}(h:H[o]?=some [Kt]):tv prog H 159 (AV.kT o) (sI k) false=some (Kf k):=SE kn tm Vh h adD adD
def hR{k key:Int}{x:AV}(h:dj k key=true)(a:Kf key=x):Kf k=x:=by rw[VQ h];exact a
def ng{T:dt}{g:Nat}{xs:List AV}{H H':cZ}{r:AV}(h:ds prog T g xs H r H'):mi prog T (.func (.func g) [] []) xs H r H':=by
 unfold mi mS;simp only[oE,u7];exact h
abbrev lT(T:dt):Prop:=T 4=some (AV.agg (List.map (λn=>AV.sc (Value.int .i64 n)) pO))/\T 0=some (AV.agg (List.flatMap (λx=>dT.cs x) nB))/\T 1=some (AV.agg (List.map (λn=>AV.sc (Value.int .u8 n)) kP))
def GO{S:Type}(T:dt)(g:Nat)(cap:List AV)(st:S->cZ)(w:(S->gK->Option (Bool×S))):Prop:=
 ∀(X:cZ) (s:S) (a:gK) (b:Bool) (c:S),w s a=some (b,c)->ds prog T g ([gK.av a]++cap) (st s++X) (sB b) (st c++X)
def GO.SO{S:Type}{T:dt}{g:Nat}{cap:List AV}{st:S->cZ}{w:(S->gK->Option (Bool×S))}(h:GO T g cap st w){s:S}{a:gK}{b:Bool}{c:S}(hw:w s a=some (b,c)):ds prog T g ([gK.av a]++cap) (st s) (sB b) (st c):=by
 have:=h [] s a b c hw
 rwa [u7,u7] at this
def FF{S:Type}(T:dt)(g:Nat)(cap:List AV)(st:S->cZ)(w:(S->Tm->Int->Option (S))):Prop:=
 ∀(X:cZ) (s:S) (a:Tm) (b:Int) (c:S),w s a b=some c->ds prog T g ([Tm.av a,sI b]++cap) (st s++X) (AV.tuple []) (st c++X)
def FF.SO{S:Type}{T:dt}{g:Nat}{cap:List AV}{st:S->cZ}{w:(S->Tm->Int->Option (S))}(h:FF T g cap st w){s:S}{a:Tm}{b:Int}{c:S}(hw:w s a b=some c):ds prog T g ([Tm.av a,sI b]++cap) (st s) (AV.tuple []) (st c):=by
 have:=h [] s a b c hw
 rwa [u7,u7] at this
def Fg{S:Type}(T:dt)(g:Nat)(cap:List AV)(st:S->cZ)(w:(S->Pf->dK->Option (S))):Prop:=
 ∀(X:cZ) (s:S) (a:Pf) (b:dK) (c:S),w s a b=some c->ds prog T g ([Pf.av a,dK.av b]++cap) (st s++X) (AV.tuple []) (st c++X)
def Fg.SO{S:Type}{T:dt}{g:Nat}{cap:List AV}{st:S->cZ}{w:(S->Pf->dK->Option (S))}(h:Fg T g cap st w){s:S}{a:Pf}{b:dK}{c:S}(hw:w s a b=some c):ds prog T g ([Pf.av a,dK.av b]++cap) (st s) (AV.tuple []) (st c):=by
 have:=h [] s a b c hw
 rwa [u7,u7] at this
def Cm{S:Type}(T:dt)(g:Nat)(cap:List AV)(st:S->cZ)(w:(S->Int->Option (Bool×S))):Prop:=
 ∀(X:cZ) (s:S) (a:Int) (b:Bool) (c:S),w s a=some (b,c)->ds prog T g ([sI a]++cap) (st s++X) (sB b) (st c++X)
def Cm.SO{S:Type}{T:dt}{g:Nat}{cap:List AV}{st:S->cZ}{w:(S->Int->Option (Bool×S))}(h:Cm T g cap st w){s:S}{a:Int}{b:Bool}{c:S}(hw:w s a=some (b,c)):ds prog T g ([sI a]++cap) (st s) (sB b) (st c):=by
 have:=h [] s a b c hw
 rwa [u7,u7] at this
def Fp{S:Type}(T:dt)(g:Nat)(cap:List AV)(st:S->cZ)(w:(S->Tm->Int->Option (Tm×S))):Prop:=
 ∀(X:cZ) (s:S) (a:Tm) (b:Int) (c:Tm) (d:S),w s a b=some (c,d)->ds prog T g ([Tm.av a,sI b]++cap) (st s++X) (Tm.av c) (st d++X)
def Fp.SO{S:Type}{T:dt}{g:Nat}{cap:List AV}{st:S->cZ}{w:(S->Tm->Int->Option (Tm×S))}(h:Fp T g cap st w){s:S}{a:Tm}{b:Int}{c:Tm}{d:S}(hw:w s a b=some (c,d)):ds prog T g ([Tm.av a,sI b]++cap) (st s) (Tm.av c) (st d):=by
 have:=h [] s a b c d hw
 rwa [u7,u7] at this
def tF{S:Type}(T:dt)(g:Nat)(cap:List AV)(st:S->cZ)(w:(S->Int->Int->Option (S))):Prop:=
 ∀(X:cZ) (s:S) (a:Int) (b:Int) (c:S),w s a b=some c->ds prog T g ([sI a,sI b]++cap) (st s++X) (AV.tuple []) (st c++X)
def tF.ext{S:Type}{T:dt}{g:Nat}{cap:List AV}{st:S->cZ}{w:(S->Int->Int->Option (S))}(h:tF T g cap st w){Y:cZ}:tF T g cap (λs=>st s++Y) w:=λX s a b c hw=>by
 have:=h (Y++X) s a b c hw
 rwa [<-tD,<-tD] at this
def tF.SO{S:Type}{T:dt}{g:Nat}{cap:List AV}{st:S->cZ}{w:(S->Int->Int->Option (S))}(h:tF T g cap st w){s:S}{a b:Int}{c:S}(hw:w s a b=some c):ds prog T g ([sI a,sI b]++cap) (st s) (AV.tuple []) (st c):=by
 have:=h [] s a b c hw
 rwa [u7,u7] at this
def tL{S:Type}(T:dt)(g:Nat)(cap:List AV)(st:S->cZ)(w:(S->Int->Int->Option (Tm×S))):Prop:=
 ∀(X:cZ) (s:S) (a:Int) (b:Int) (c:Tm) (d:S),w s a b=some (c,d)->ds prog T g ([sI a,sI b]++cap) (st s++X) (Tm.av c) (st d++X)
def tL.ext{S:Type}{T:dt}{g:Nat}{cap:List AV}{st:S->cZ}{w:(S->Int->Int->Option (Tm×S))}(h:tL T g cap st w){Y:cZ}:tL T g cap (λs=>st s++Y) w:=λX s a b c d hw=>by
 have:=h (Y++X) s a b c d hw
 rwa [<-tD,<-tD] at this
def tL.SO{S:Type}{T:dt}{g:Nat}{cap:List AV}{st:S->cZ}{w:(S->Int->Int->Option (Tm×S))}(h:tL T g cap st w){s:S}{a b:Int}{c:Tm}{d:S}(hw:w s a b=some (c,d)):ds prog T g ([sI a,sI b]++cap) (st s) (Tm.av c) (st d):=by
 have:=h [] s a b c d hw
 rwa [u7,u7] at this
theorem fM(g:FuncId){S:Prop}(h:S):Kc prog g S:=⟨h⟩
@[simp] theorem ahO:eA prog 106=some (true,3):=by kernel_rfl
@[simp] theorem agT:n_ prog 106=some [.sc .nilFunc,.sc .nilFunc,.sc .nilFunc]:=by kernel_rfl
@[simp] theorem agO:hS prog 106=some [.sc .nilFunc,.sc .nilFunc,.sc .nilFunc]:=by kernel_rfl
@[simp] theorem abT:dO prog 106 0=some (0,102):=by kernel_rfl
@[simp] theorem acG:dO prog 106 1=some (1,103):=by kernel_rfl
@[simp] theorem acD:dO prog 106 2=some (2,104):=by kernel_rfl
@[simp] theorem abe:fA prog 106 2=some (2,1):=by kernel_rfl
@[simp] theorem ag1:eA prog 103=some (false,1):=by kernel_rfl
@[simp] theorem agN:kK prog .neq 102 (.sc .nilFunc) (.sc .nilFunc)=some (.sc (.bool false)):=by
 simp[kK,ot,underlying102]
@[simp] theorem agM:kK prog .neq 103 (.sc .nilFunc) (.sc .nilFunc)=some (.sc (.bool false)):=by
 simp[kK,ot,underlying103]
@[simp] theorem agK{f:Fn}{a c:List AV}:kK prog .neq 104 (.func f a c) (.sc .nilFunc)=some (.sc (.bool true)):=by
 simp[kK,ot,underlying104]
end Go.Proofs.YtjgjcpnoaeljkaaGreatDoor
set_option maxRecDepth 20000
set_option maxHeartbeats 4000000
namespace Go.Proofs.YtjgjcpnoaeljkaaGreatDoor
open Go Go.kQ Go.eZ Tryz
def LJ{n:Nat}:C1 prog 62 (gQ n) Ty.av Ty.av:=by
 refine i1 λn ih=>v1 func62 λT H a0 r m e=>?_;rw[gQ] at m;simp[e];refine Td e m 999 9 [7,8] [1,2] [17] (λs2=>s2) (λs2 a f=>f.1 3=sT a Ty.av s2) λh _ s2 c _ _ _ _ E e m z p=>?_;have⟨a,E,b⟩:=E;refine sw [20,0,15,9,0] ?_;intro d e m;refine Ao (f:=Ty.av) s2 [d] b Hi e.2 ?_;simp[e];cases m;exact p _ _ _ ⟨(.loc 17 (c.ef 17+1)),adg,(On 17)⟩ z
@[reducible,instance] def XK:=fM 62 @LJ
def Kj{n:Nat}:C1 prog 35 (iC n) Tm.av Tm.av:=by
 refine i1 λn ih=>v1 func35 λT H a0 r m e=>?_;rw[iC] at m;simp[e];refine Td e m 999 9 [7,8] [1,2] [17] (λs2=>s2) (λs2 a f=>f.1 3=sT a Tm.av s2) λh _ s2 c _ _ _ _ E e m z p=>?_;have⟨a,E,b⟩:=E;refine sw [20,0,15,9,0] ?_;intro d e m;refine Ao (f:=Tm.av) s2 [d] b BC e.2 ?_;simp[e];cases m;exact p _ _ _ ⟨(.loc 17 (c.ef 17+1)),adg,(On 17)⟩ z
@[reducible,instance] def Yq:=fM 35 @Kj
def CU:C2 prog 113 eN Tm.av sI (sL Tm.av):=by
 refine v2 func113 λT H a0 a1 r m e=>?_;rw[eN] at m;simp[e];refine Td e m 999 10 [0,8,9] [4] [18] (λs2=>s2) (λs2 a f=>f.1 5=sT a Tm.av s2) λh _ s2 c _ _ _ _ E e m z p=>?_;have⟨a,E,b⟩:=E;refine sw [20,0,1,9,0] ?_;intro d e m;refine Ao (f:=Tm.av) s2 [d] b BC e.2 ?_;simp[e];cases m;exact p _ _ _ ⟨(.loc 18 (c.ef 18+1)),adg,(On 18)⟩ z
@[reducible,instance] def adu:=fM 113 @CU
def E9:C1 prog 63 pZ Tm.av sI:=by
 refine v1 func63 λT H a0 r m e=>?_;rw[pZ] at m;refine sw [0,1,0] ?_;intro _ e m;refine Wn m 999 (λs2 f h=>∃a b,h=H/\f.1 0=sI s2.1/\bx f 2 [sI 0,sI 0,sI 0,nL,nL]/\bx f 3 [sI s2.2.1,sI s2.2.2.1,sI s2.2.2.2.1,sT a Ty.av s2.2.2.2.2.1,sT b Tm.av s2.2.2.2.2.2]) ⟨.iB,.iB,adg⟩ (λs2 _ _ _ _ _ E m z p=>?_);have⟨v10,v11,v12,c,d,i⟩:=s2;have⟨a,b,E⟩:=E;have e:=Aj e E;dsimp only[yu]at m;apply Ir e m<;>intro e m
 .cases m;have m:=Qb z;dsimp only[yu]at m;exact au
 simp[e];cases m;exact p _ _ _ ⟨.full,.full,adg⟩ z
@[reducible,instance] def Tt:=fM 63 @E9
def Gm:C1 prog 36 tM (t2 Tm.av sI) sI:=by
 refine v1 func36 λT H a0 r m e=>?_;rw[tM] at m;exact aa
@[reducible,instance] def WI:=fM 36 @Gm
def Wp:C1 prog 16 ta Tm.av sI:=by
 refine v1 func16 λT H a0 r m e=>?_;rw[ta] at m;exact aa
@[reducible,instance] def aft:=fM 16 @Wp
def A9:C2 prog 15 k1 Fm.av Tm.av Tm.av:=by
 refine v2 func15 λT H a0 a1 r m e=>?_;rw[k1] at m;refine sw [0,4,0,4] ?_;intro a b e m;have e:=Aj e (show AV.agg [sI 1,sI 0,AV.slice .iB [],AV.slice .iB [Tm.av a,Tm.av b],AV.slice .iB []]=Fm.av (Fm.mk 1 (Ty.mk 0 []) [a,b] []) by rw[Fm.eJ];rfl);exact au
@[reducible,instance] def acB:=fM 15 @A9
def xl:C1 prog 17 jF Pf.av Tm.av:=by
 refine v1 func17 λT H a0 r m e=>?_;rw[jF] at m;refine sw [0,1] ?_;intro a e m;have e:=Aj e (show AV.agg [sI 18,sI 0,sI 0,AV.slice .iB [],AV.slice .iB [Tm.av a],AV.slice .iB [],AV.slice .iB []]=Pf.av (Pf.mk 18 0 (Ty.mk 0 []) [a] [] []) by rw[Pf.eJ];rfl);exact au
@[reducible,instance] def Zs:=fM 17 @xl
section
open Go.RowKit Go.Maps Go.Sort Go.Shelf
def SL:iX prog 139=true:=by kernel_rfl
def XO:∀n<26,Lib.trimLeftF (λx=>decide (97<=x/\x<=122)) ⟨#[UInt8.ofNat (97+n)]⟩=⟨#[]⟩:=by decide+kernel
def GY{a0:ByteArray}{a:Bool}(hm:uC a0=some a):a=true/\abO a0=1/\Lib.trimLeftF (λx=>decide (97<=x/\x<=122)) a0=⟨#[]⟩:=by
 unfold uC at hm
 split at hm
 .rename_i x b
  split at hm
  .rename_i h;obtain⟨⟨l⟩⟩:=a0;obtain rfl:l=[x]:=b;refine⟨(fU hm).symm,rfl,?_⟩;have:=XO (x.toNat-97) VW
   rwa [show 97+(x.toNat-97)=x.toNat by omega,UInt8.ofNat_toNat] at this
  .cases hm
 .cases hm
def T9{T:dt}{H:cZ}{a0:Int}:ds prog T 99 [AV.sc (.int .i32 a0)] H (sB (ep (pH a0 97) (HB a0 122) false)) H:=by
 have e:=trivial;refine wi aiz func99 [] [] 2 ?_;simp[e];refine wjs 999 999 (λf h=>h=H/\f.1 2=sB (ep (pH a0 97) (HB a0 122) false)) ?_ (λ_ g=>?_)
 .rintro _ _ E;exact aa
 exact aa
def Lf(w:World):PredGrows prog 99 #[] (λx=>decide (97<=x/\x<=122)) w:=by
 intro W x _ _
 have a:ep (pH (x:Int) 97) (HB (x:Int) 122) false=decide (97<=x/\x<=122):=by
  have b:pH (x:Int) 97=decide (97<=x):=by simp only[pH];congr 1;simp only[eq_iff_iff];omega
  have c:HB (x:Int) 122=decide (x<=122):=by simp only[HB];congr 1;simp only[eq_iff_iff];omega
  rw[b,c]
  by_cases d:97<=x<;>by_cases f:x<=122<;>simp[ep,d,f]
 have h:=(T9 (T:=λ_=>none) (H:=[]) (a0:=x)).calls (v:=.bool (decide (97<=x/\x<=122))) (λF G y h=>by rw[a] at h;cases h;rfl) (UE W) (vs:=[.int .i32 x]) (.cons (.sc rfl) .nil);simpa[encR] using h
def Is:∀(aiv:Array Value) (w:World),(callFunc 99 aiv).run prog w=.ok (.enter 99 aiv) w:=enters_of func99 (by kernel_rfl) rfl
def PO(T:dt){H:cZ}{a0:ByteArray}(h:Lib.trimLeftF (λx=>decide (97<=x/\x<=122)) a0=⟨#[]⟩):ds prog T 139 [AV.sc (.string a0),AV.func (.func 99) [] []] H (AV.sc (.string ⟨#[]⟩)) H:=by
 refine ds.QT SL λG F w vs hg a=>?_;obtain⟨v1,v2,rfl,b,c⟩:=acr a;cases b;cases c with
 |func d f=>
  cases d;cases f;refine⟨_,.sc rfl,?_⟩;have:=strings_TrimLeftFunc_grows 99 #[] Is _ a0 w (Lf w)
  rwa [h] at this
def L'(T:dt){H:cZ}{f:Nat}:ds prog T 190 [AV.sc (.string ⟨#[]⟩),AV.func (.func f) [] [],sB false] H (sI (-1)) H:=by
 refine wi aiz func190 [] [] 999 ?_;simp;refine wl 999 (λ_ f h=>h=H/\f.1 7=sI 0) 0 (by simp;rfl) (λm fr H' E K a=>?_);simp[E,show lQ (0:Int) 0=false from rfl]
def NH(T:dt){H:cZ}{f:Nat}:ds prog T 138 [AV.sc (.string ⟨#[]⟩),AV.func (.func f) [] []] H (AV.sc (.string ⟨#[]⟩)) H:=by
 refine wi aiz func138 [] [] 999 ?_;simp;refine Cf (L' T) ?_;simp[show pH (-1:Int) 0=false from rfl,show dF .i64 (-1) 1=0 from rfl,show Qs ⟨#[]⟩ 0 0=some ⟨#[]⟩ by decide+kernel]
def acJ(T:dt){H:cZ}{a0:ByteArray}(h:Lib.trimLeftF (λx=>decide (97<=x/\x<=122)) a0=⟨#[]⟩):ds prog T 98 [AV.sc (.string a0),AV.func (.func 99) [] []] H (AV.sc (.string ⟨#[]⟩)) H:=by
 refine wi aiz func98 [] [] 999 ?_;simp;refine Cf (PO T h) ?_;simp;refine Cf (NH T) ?_;simp
def Kq(T:dt)(b:lT T){H:cZ}{a0:ByteArray}{a:Bool}(hm:uC a0=some a):ds prog T 50 [AV.sc (.string a0)] H (sB a) H:=by
 obtain⟨rfl,e,h⟩:=GY hm;refine wi aiz func50 [] [] 999 ?_;have e:=Aj (Aj (Aj e (show pH (1:Int) 1=true from rfl)) (show HB (1:Int) 16=true from rfl)) (show seq ⟨#[]⟩ ⟨#[]⟩=true by decide+kernel);simp[e];refine Cf (acJ T h) ?_;simp[e]
end
def Ez(T:dt){H:cZ}{a0 a:gK}{d:Bool}{q0:Nat}(b:H[q0]?=some [sS a.name,sI a.cU.aiu,sI a.cU.cT.aiu,sL Ty.av a.cU.cT.aiv,sL Tm.av a.cU.dc,sL Fm.av a.cU.aiv,sI a.proof.aiu,sI a.proof.aix,sI a.proof.cT.aiu,sL Ty.av a.proof.cT.aiv,sL Tm.av a.proof.dc,sL Fm.av a.proof.eg,sL Pf.av a.proof.aiv])(hm:sm a0 a=some d):ds prog T 52 [gK.av a0,AV.eb q0 0] H (sB d) H:=by
 rw[sm] at hm;have c:=en b;have e:=Aj c b;refine wi aiz func52 [] [] 999 ?_;cases hm;simp[e]
def hX(T:dt){S:Type}{st:S->cZ}{k:Nat}{a0:List gK}{a1:(S->gK->Option (Bool×S))}{b:S}{i:Int}{c:S}{g1:Nat}{a:List AV}(hF:y7 st k)(d:GO T g1 a st a1)(hm:ej a0 a1 b=some (i,c)):ds prog T 31 [sL gK.av a0,AV.func (.func g1) [] a] (st b) (sI i) (st c):=by
 rw[ej] at hm;have e:=hF.len;refine wi aiz func31 [] [] 999 ?_;simp[e];refine Wr e hm 999 (λj s2 f h=>h=st s2/\f.1 0=sL gK.av a0/\f.1 1=AV.func (.func g1) [] a/\f.1 7=sI (dq a0)/\f.1 8=sI j) adg (λs2 _ _ _ E m=>?_) (λj _ s2 _ _ _ _ _ E e m z p=>?_)
 .exact aa
 have e:=Aj e E;have⟨l,n,e,m⟩:=Bo2 e m;simp[e];refine iq.Rb adL (GO.SO d e.2) ?_;exact aa
def k5(T:dt){S:Type}{st:S->cZ}{k:Nat}{a0:List gK}{a1:(S->gK->Option (Bool×S))}{b:S}{f:Bool}{c:S}{g1:Nat}{a:List AV}(hF:y7 st k)(d:GO T g1 a st a1)(hm:eF a0 a1 b=some (f,c)):ds prog T 51 [sL gK.av a0,AV.func (.func g1) [] a] (st b) (sB f) (st c):=by
 rw[eF] at hm;have e:=hF.len;refine wi aiz func51 [] [] 999 ?_;simp[e];refine sy hm (hX T hF d) λ_ _ m=>?_;exact au
def C'{n:Nat}:C1 prog 243 (lL n) (t2 sI sB) Ty.av:=by
 refine i1 λn ih=>u1 4 func243 λT H a0 r m e=>?_;rw[lL] at m;simp[e];refine Ep m 3 999 (λb f h=>∃v2,(h=H/\f.1 4=sI v2/\bx f 1 (Ty.av a0).cells)/\b v2=some r) ?_ (λb _ g m=>?_)
 .rintro _ _ ⟨v2,E,m⟩;refine sw [10,7,0] ?_;intro e m;refine Wr e m 999 (λc a f h=>h=H/\f.1 5=sI a/\f.1 25=sL Ty.av a0.aiv/\f.1 26=sI (dq a0.aiv)/\f.1 27=sI c) adg (λa _ _ _ E m=>?_) (λc _ a _ _ _ _ _ E e m z p=>?_)
  .exact aa
  exact aa
 simp[e];refine wj 999 0 (λf h=>h=H/\f.1 4=sI 0/\f.1 11=sI a0.aiu/\f.1 12=sB (ep (dj a0.aiu 1) true (ep (dj a0.aiu 2) true (dj a0.aiu 5)))/\bx f 1 (Ty.av a0).cells) (λ_ g=>?_) ?_
 .rcases Pb (dj a0.aiu 1) e with e|e
  .exact aj
  rcases Pb (dj a0.aiu 2) e with e|e
  .exact aj
  exact aj
 rintro _ _ E;have e:=Aj e E;apply Iq e m<;>intro e m
 .apply wg 999;exact hU
 apply wg 1;simp[e];refine wj 999 999 (λf h=>h=H/\f.1 16=sB (ep (dj a0.aiu 3) true (dj a0.aiu 4))/\bx f 1 (Ty.av a0).cells) (λ_ g=>?_) ?_
 .rcases Pb (dj a0.aiu 3) e with e|e
  .exact aj
  exact aj
 rintro _ _ E;refine sw [10,12] ?_;intro e m;exact hU
@[reducible,instance] def S7:=fM 243 @C'
def pI:C1 prog 193 ia (t2 sI sI) Ty.av:=by
 refine v1 func193 λT H a0 r m e=>?_;rw[ia] at m;exact aa
@[reducible,instance] def Sc:=fM 193 @pI
def AH:C1 prog 140 lp sI Ty.av:=by
 refine v1 func140 λT H a0 r m e=>?_;rw[lp] at m;exact aa
@[reducible,instance] def XD:=fM 140 @AH
def E3:C1 prog 100 mK sI (sL Ty.av):=by
 refine v1 func100 λT H a0 r m e=>?_;rw[mK] at m;refine sw [7,0] ?_;intro e m;exact Wb e m 999 11 [9,10] [] nI
@[reducible,instance] def TX:=fM 100 @E3
def vR:C1 prog 235 nq sB Ty.av:=by
 refine u1 2 func235 λT H a0 r m e=>?_;rw[nq] at m;simp[e];refine wB 999 999 [] [] (λf=>f.1 2=sB (ep (dj a0.aiu 0) (dj (dq a0.aiv) 0) false)) λ_ g=>?_;exact aa
def I8:C1 prog 244 qD sB Fm.av:=by
 refine u1 4 func244 λT H a0 r m e=>?_;rw[qD] at m;simp[e];refine Ep m 5 0 (λa f h=>∃v2 v3 v4,(h=H/\f.1 3=sI v2/\f.1 4=sI v3/\f.1 5=sB v4/\bx f 1 (Fm.av a0).cells)/\a v2 v3 v4=some r) ?_ (λa _ g m=>?_)
 .rintro _ _ ⟨v2,v3,v4,E,m⟩;have e:=Aj e E;refine Wj m 999 0 (λb f h=>(h=H/\f.1 3=sI v2/\f.1 4=sI v3/\bx f 1 (Fm.av a0).cells)/\b=some r) (λb _ g m=>?_) ?_
  .apply Iq e m<;>intro e m
   .simp[e];refine sy m pI λ_ _ m=>?_;refine Il e m λe m=>?_;exact YE
   simp[e];refine p_ m vR λ_ m=>?_;refine Im e m λe m=>?_;exact YE
  rintro _ _ ⟨E,m⟩;have e:=Aj e E;refine wB 999 999 [] [] (λf=>f.1 2=sB (ep (dj (dq a0.dc) v2) (dj (dq a0.aiv) v3) false)) λ_ g=>?_;exact aa
 simp[e];apply Iq e m<;>intro e m
 .apply wg 999;exact ak3
 apply wg 1;simp[e];refine wA 999 0 [3,5,9] [1] (λf=>f.1 12=sB (ep (dj a0.aiu 2) true (dj a0.aiu 3))) [] (λ_ g=>?_) ?_
 .rcases Pb (dj a0.aiu 2) e with e|e
  .exact aj
  exact aj
 intro _ e m;apply Iq e m<;>intro e m
 .apply wg 999;exact ak3
 apply wg 1;simp[e];refine wjs 999 999 (λf h=>h=H/\f.1 3=sI 0/\f.1 15=sB (ep (dj a0.aiu 4) true (ep (dj a0.aiu 5) true (ep (dj a0.aiu 6) true (dj a0.aiu 7))))/\bx f 1 (Fm.av a0).cells) ?_ (λ_ g=>?_)
 .rintro _ _ E;refine sw [10,12] ?_;intro e m;exact ak3
 rcases Pb (dj a0.aiu 4) e with e|e
 .exact aj
 rcases Pb (dj a0.aiu 5) e with e|e
 .exact aj
 rcases Pb (dj a0.aiu 6) e with e|e
 .exact aj
 exact aj
@[reducible,instance] def Xk:=fM 244 @I8
def Lu(T:dt)(c:lT T){H:cZ}{a0 a:Int}{b:Bool}(hm:ua a0=some (a,b)):ds prog T 284 [sI a0] H (AV.tuple [sI a,sB b]) H:=by
 rw[ua] at hm;have e:=c;refine wi aiz func284 [] [] 3 ?_;simp[e];refine wA 999 999 [0] [] (λf=>f.1 9=sB (ep (pR a0 1) true (pH a0 14))) [] (λ_ g=>?_) ?_
 .exact aa
 intro _ e m;have m:=hm;exact aa
@[reducible,instance] def X6:=fM 284 @Lu
def KV:C1 prog 285 uo sB sI:=by
 refine u1 2 func285 λT H a0 r m e=>?_;rw[uo] at m;simp[e];refine wB 999 999 [] [] (λf=>f.1 2=sB (ep (dj a0 2) true (ep (dj a0 6) true (dj a0 9)))) λ_ g=>?_;exact aa
def Bu(T:dt)(l:lT T):∀(n:Nat),(∀{H:cZ} {a0:Tm} {c:Int} {d:Bool} (hm:jv n a0=some (c,d)),ds prog T 245 [Tm.av a0] H (AV.tuple [sI c,sB d]) H):=by
  intro n
  induction n with
  |zero=>
    skip
    all_goals(intro _ _;intros;rename_i hm;cases hm)
  |succ n ih=>
 intro H a0 c d hm;rw[jv] at hm;have e:=l;refine wi aiz func245 [] [] 5 ?_;have m:=hm;refine sw [0,2,0] ?_;intro i j e m;refine wA 999 0 [] [1] (λf=>f.1 42=sB (ep j (ep (dw (dq a0.aiv) i) true (ep (pR a0.aix 0) true (ep (dw a0.aix 0) (dw a0.aiu 1) false))) true)) [13] (λ_ g=>?_) ?_
 .rcases Pb j e with e|e;rotate_left
  .exact aj
  rcases Pb (dw (dq a0.aiv) i) e with e|e
  .exact aj
  rcases Pb (pR a0.aix 0) e with e|e
  .exact aj
  rcases Pb (dw a0.aix 0) e with e|e
  .exact aj
  exact aj
 intro _ e m;apply wg 2;simp[e];refine Wj m 999 999 (λk f h=>(h=H/\f.1 1=AV.gv 1 (f.gen 1) 0/\f.box 1=some (Tm.av a0).cells)/\k=some (c,d)) (λk _ g m=>?_) ?_
 .simp[e];refine p_ m KV λ_ m=>?_;apply Iq e m<;>intro e m
  .simp[e];refine sy m pI λ_ _ m=>?_;refine Il e m λe m=>?_;exact YE
  simp[e];refine p_ m vR λ_ m=>?_;refine Im e m λe m=>?_;exact YE
 rintro _ _ ⟨E,m⟩;have e:=Aj e E;simp[e];refine Wr e m 999 (λb a f h=>h=H/\f.1 8=sI a/\f.1 59=sL Tm.av a0.aiv/\f.1 60=sI (dq a0.aiv)/\f.1 61=sI b) adg (λa _ _ _ E m=>?_) (λb _ a _ _ _ _ _ E e m z p=>?_)
 .exact aa
 exact aa
def DE(T:dt)(a:lT T){n:Nat}:=@Bu T a n
@[reducible,instance] def SD:=fM 245 @DE
def y9(T:dt)(h:lT T):∀(n:Nat),(∀{H:cZ} {a0:Fm} {a:Int} {b:Bool} (hm:jH n a0=some (a,b)),ds prog T 194 [Fm.av a0] H (AV.tuple [sI a,sB b]) H):=by
  intro n
  induction n with
  |zero=>
   skip
   all_goals(intro _ _;intros;rename_i hm;cases hm)
  |succ n ih=>
 intro H a0 a b hm;rw[jH] at hm;have e:=h;refine wi aiz func194 [] [] 999 ?_;have m:=hm;refine sw [0,1,12,0] ?_;intro _ e m;refine Wa e m 999 19 [17,18] [1] (λd f=>f.1 4=sI d) [11,0] ?_;intro _ d e m;exact Wb e m 999 37 [35,36] [] (λc f=>f.1 4=sI c)
def Ak(T:dt)(a:lT T){n:Nat}:=@y9 T a n
@[reducible,instance] def Ou:=fM 194 @Ak
def An(T:dt)(c:lT T){H:cZ}{a0:Fm}{a b:Int}(hm:hJ a0=some (a,b)):ds prog T 141 [Fm.av a0] H (AV.tuple [sI a,sI b]) H:=by
 rw[hJ] at hm;have e:=c;refine wi aiz func141 [] [] 999 ?_;have m:=hm;exact aa
@[reducible,instance] def Oz:=fM 141 @An
def EU(T:dt)(b:lT T){H:cZ}{a0:Fm}{a:Int}(hm:ju a0=some a):ds prog T 101 [Fm.av a0] H (sI a) H:=by
 rw[ju] at hm;have e:=b;refine wi aiz func101 [] [] 999 ?_;have m:=hm;exact aa
@[reducible,instance] def TD:=fM 101 @EU
def Nl:C1 prog 142 l6 cR.av Ty.av:=by
 refine v1 func142 λT H a0 r m e=>?_;rw[l6] at m;exact aa
@[reducible,instance] def ZY:=fM 142 @Nl
def HX:C1 prog 102 nr (sL cR.av) (sL Ty.av):=by
 refine v1 func102 λT H a0 r m e=>?_;rw[nr] at m;simp[e];refine Td e m 999 8 [6,7] [] [16] (λs2=>s2) (λs2 a f=>f.1 3=sT a cR.av s2) λh _ s2 c _ _ _ _ E e m z p=>?_;have⟨a,E,b⟩:=E;refine sw [20,0,1,9,0] ?_;intro d e m;refine Ao (f:=cR.av) s2 [d] b V8 e.2 ?_;simp[e];cases m;exact p _ _ _ ⟨(.loc 16 (c.ef 16+1)),adg,(On 16)⟩ z
@[reducible,instance] def Xn:=fM 102 @HX
def rO:C2 prog 143 fk (sL cR.av) (sL cR.av) (sL Ty.av):=by
 refine v2 func143 λT H a0 a1 r m e=>?_;rw[fk] at m;refine sw [0,4,9,0] ?_;intro a e m;refine Ad (f:=cR.av) a0 a (ik.full (D:=[])) V8 e.2 ?_;exact au
@[reducible,instance] def LR:=fM 143 @rO
def I4:C3 prog 247 qA (t2 cR.av sI) sI cR.av cR.av:=by
 refine v3 func247 λT H a0 a1 a2 r m e=>?_;rw[qA] at m;refine Il e m λe m=>?_;have e:=Aj e (show AV.agg [sI a0,AV.slice .iB [Ty.av a1.cT,Ty.av a2.cT],sI (dF .i64 (dF .i64 1 a1.aiw) a2.aiw)]=cR.av (cR.mk (Ty.mk a0 [a1.cT,a2.cT]) (dF .i64 (dF .i64 1 a1.aiw) a2.aiw)) by rw[cR.eJ];rfl);exact au
@[reducible,instance] def WO:=fM 247 @I4
def Hr:C1 prog 286 iW (sL sI) sI:=by
 refine v1 func286 λT H a0 r m e=>?_;rw[iW] at m;exact aa
@[reducible,instance] def U0:=fM 286 @Hr
def vh:C2 prog 246 ig sB cR.av sI:=by
 refine v2 func246 λT H a0 a1 r m e=>?_;rw[ig] at m;exact au
@[reducible,instance] def RE:=fM 246 @vh
def Ae:C2 prog 287 iK cR.av cR.av sI:=by
 refine v2 func287 λT H a0 a1 r m e=>?_;rw[iK] at m;exact aa
@[reducible,instance] def Ov:=fM 287 @Ae
def nV{n:Nat}:C2 prog 162 (fO n) sB Ty.av Ty.av:=by
 refine i2 λn ih=>u2 3 func162 λT H a0 a1 r m e=>?_;rw[fO] at m;simp[e];refine wA 999 999 [] [2,3] (λf=>f.1 20=sB (ep (dw a0.aiu a1.aiu) true (dw (dq a0.aiv) (dq a1.aiv)))) [7,0] (λ_ g=>?_) ?_
 .exact aa
 intro _ e m;exact Wb e m 999 24 [22,23] [3] nI
@[reducible,instance] def TV:=fM 162 @nV
def zY:C2 prog 251 jG sB cR.av cR.av:=by
 refine u2 2 func251 λT H a0 a1 r m e=>?_;rw[jG] at m;simp[e];refine WB m 999 999 [] [] (λv2 f=>f.1 4=sB v2) λa _ g m=>?_;apply Ir e m<;>intro e m
 .exact hU
 simp[e];refine p_ m nV λ_ m=>?_;exact hU
@[reducible,instance] def Oo:=fM 251 @zY
def Qk:C0 prog 213 mv Ty.av:=by
 refine v0 func213 λT H r m e=>?_;rw[mv] at m;exact au
@[reducible,instance] def acd:=fM 213 @Qk
def Mp:C0 prog 256 v7 Ty.av:=by
 refine v0 func256 λT H r m e=>?_;rw[v7] at m;exact au
@[reducible,instance] def aas:=fM 256 @Mp
def PQ:C2 prog 214 nU Ty.av Ty.av (sL Ty.av):=by
 refine v2 func214 λT H a0 a1 r m e=>?_;rw[nU] at m;simp[e];refine Wn m 999 (λs1 f h=>∃a,h=H/\f.1 1=sL Ty.av a1/\f.1 5=sI s1.1/\bx f 2 [sI s1.2.1,sT a Ty.av s1.2.2]/\bx f 4 [sI 0,nL]) ⟨.iB,adg⟩ (λs1 _ _ _ _ _ E m z p=>?_);have⟨v9,v10,v11⟩:=s1;have⟨a,E⟩:=E;have e:=Aj e E;dsimp only[Hm]at m;apply Ir e m<;>intro e m
 .cases m;have m:=Qb z;dsimp only[Hm]at m;exact au
 refine sw [8,0] ?_;intro b e m;cases m;exact p _ _ _ ⟨.full,adg⟩ z
@[reducible,instance] def acV:=fM 214 @PQ
def H_:C1 prog 288 oO Ty.av Tm.av:=by
 refine v1 func288 λT H a0 r m e=>?_;rw[oO] at m;exact aa
@[reducible,instance] def Xr:=fM 288 @H_
def Ij:C2 prog 248 fp (t2 cR.av sI) Tm.av (λp=>AV.agg [sI p.1.cT.aiu,sL Ty.av p.1.cT.aiv,sI p.1.aiw,sI p.2.1.cT.aiu,sL Ty.av p.2.1.cT.aiv,sI p.2.1.aiw,sI p.2.2.cT.aiu,sL Ty.av p.2.2.cT.aiv,sI p.2.2.aiw]):=by
 intro T H a0 a1 r hm;rw[fp] at hm;have e:=trivial;refine wi aiz func248 [] [] 7 ?_;have m:=hm;refine sw [0,1,0] ?_;intro F e m;apply Iq e m<;>intro e m
 .refine sg 999 [8,0] ?_;intro w e m;refine Wr e m 0 (λo _ f h=>h=H/\f.1 6=sL sI F/\f.1 18=sL sI w/\f.1 19=sI (dq w)/\f.1 20=sI o/\bx f 3 [sI a1.1.cT.aiu,sL Ty.av a1.1.cT.aiv,sI a1.1.aiw,sI a1.2.1.cT.aiu,sL Ty.av a1.2.1.cT.aiv,sI a1.2.1.aiw,sI a1.2.2.cT.aiu,sL Ty.av a1.2.2.cT.aiv,sI a1.2.2.aiw]/\bx f 4 [sI 0,nL,sI 0]) adg (λ_ a _ _ E m=>?_) (λo _ _ a _ _ _ x E e m q s=>?_)
  .have e:=Aj e E;refine sg 999 [11,8,0,1] ?_;intro G _ e m;cases m;simp[e]
  have e:=Aj e E;apply wg 9;simp[e];refine Ep m 999 999 (λt f h=>∃l,(h=H/\f.1 6=sL sI F/\f.1 18=sL sI w/\f.1 19=sI (dq w)/\f.1 20=sI o/\f.1 30=sB l/\bx f 3 [sI a1.1.cT.aiu,sL Ty.av a1.1.cT.aiv,sI a1.1.aiw,sI a1.2.1.cT.aiu,sL Ty.av a1.2.1.cT.aiv,sI a1.2.1.aiw,sI a1.2.2.cT.aiu,sL Ty.av a1.2.2.cT.aiv,sI a1.2.2.aiw]/\bx f 4 [sI 0,nL,sI 0])/\t l=some x) ?_ (λt _ b m=>?_)
  .rintro _ _ ⟨l,E,m⟩;have e:=Aj e E;apply Iq e m<;>intro e m
   .cases m;cases q;simp[e]
   simp[e];cases m;exact s _ _ _ adg q
  apply Iq e m<;>intro e m
  .have e:=Aj e (Dn (j:=0) Dz yD adg ab9:ft prog 270 (AV.gv 3 (a.gen 3) 0) (sI o)=some (AV.gv 3 (a.gen 3) 0));refine sw [0,1,0] ?_;intro y e m;exact b _ _ ⟨(oF y),adg,m⟩
  apply Iq e m<;>intro e m
  .have e:=Aj e (Dn (j:=1) Dz yD adg ab9:ft prog 270 (AV.gv 3 (a.gen 3) 0) (sI o)=some (AV.gv 3 (a.gen 3) 3));refine sw [0,1,0] ?_;intro A e m;exact b _ _ ⟨(oF A),adg,m⟩
  have⟨e,m⟩:=Ck e m;have e:=Aj e (Dn (j:=2) Dz yD adg ab9:ft prog 270 (AV.gv 3 (a.gen 3) 0) (sI o)=some (AV.gv 3 (a.gen 3) 6));refine sw [0,1,0] ?_;intro B e m;exact b _ _ ⟨(oF B),adg,m⟩
 apply wg 8;simp[e];apply Iq e m<;>intro e m
 .apply wg 2;simp[e];refine Ep m 999 999 (λu f h=>∃v24,(h=H/\f.1 54=sB v24/\bx f 3 [sI a1.1.cT.aiu,sL Ty.av a1.1.cT.aiv,sI a1.1.aiw,sI a1.2.1.cT.aiu,sL Ty.av a1.2.1.cT.aiv,sI a1.2.1.aiw,sI a1.2.2.cT.aiu,sL Ty.av a1.2.2.cT.aiv,sI a1.2.2.aiw]/\bx f 4 [sI 0,nL,sI 0])/\u v24=some r) ?_ (λu _ d m=>?_)
  .rintro _ _ ⟨v24,E,m⟩;have e:=Aj e E;apply Iq e m<;>intro e m
   .cases m;simp[e]
   refine sw [0,1] ?_;intro _ e m;cases m;simp[e]
  refine sw [0,4] ?_;intro _ e m;apply Ir e m<;>intro e m
  .simp[e];exact d _ _ ⟨true,adg,m⟩
  refine sw [0,4,0,4,0] ?_;intro _ C e m;exact d _ _ ⟨(oF C),adg,m⟩
 apply wg 1;simp[e];refine wA 999 0 [39] [2,3,4] (λf=>f.1 59=sB (ep (dj a0.aiu 6) true (dj a0.aiu 9))) [] (λ_ i=>?_) ?_
 .rcases Pb (dj a0.aiu 6) e with e|e
  .simp[e];exact i _ _ adg
  simp[e];exact i _ _ adg
 intro _ e m;apply Ir e m<;>intro e m
 .apply wg 999;apply Iq e m<;>intro e m
  .refine sw [0,2] ?_;intro _ _ e m;cases m;simp[e]
  refine sw [0,1] ?_;intro _ e m;apply Ir e m<;>intro e m
  .cases m;simp[e]
  apply Iq e m<;>intro e m
  .refine sw [0,1] ?_;intro _ e m;cases m;simp[e]
  refine sw [0,1] ?_;intro _ e m;cases m;simp[e]
 refine sg 3 [0,1,0] ?_;intro n e m;refine wA 2 1 [] [2,3,4,9] (λf=>f.1 10=sI (ep (dj a0.aiu 9) 2 1)) [0] (λ_ k=>?_) ?_
 .simp[e];rcases Pb (dj a0.aiu 9) e with e|e
  .apply wg 999;simp[e];exact k _ _ adg
  apply wg 999;simp[e];exact k _ _ adg
 intro _ e m;refine Ep m 999 999 (λv f h=>∃v46,(h=H/\f.1 88=sB v46/\bx f 4 [sI 0,nL,sI 0]/\bx f 9 [sI n.cT.aiu,sL Ty.av n.cT.aiv,sI n.aiw])/\v v46=some r) ?_ (λv _ c m=>?_)
 .rintro _ _ ⟨v46,E,m⟩;have e:=Aj e E;apply Iq e m<;>intro e m
  .cases m;simp[e]
  cases m;simp[e]
 refine sw [0,4] ?_;intro _ e m;apply Ir e m<;>intro e m
 .simp[e];exact c _ _ ⟨true,adg,m⟩
 refine sw [0,4,0,4] ?_;intro _ _ e m;apply Ir e m<;>intro e m
 .simp[e];exact c _ _ ⟨true,adg,m⟩
 refine sw [0,4,0] ?_;intro D e m;exact c _ _ ⟨(oF D),adg,m⟩
@[reducible,instance] def W5:=fM 248 @Ij
def qO{n:Nat}:C2 prog 203 (dD n) (t2 cR.av sI) (sL cR.av) Tm.av:=by
 refine i2 λn ih=>v2 func203 λT H a0 a1 r m e=>?_;rw[dD] at m;refine sw [13] ?_;intro e m;apply Iq e m<;>intro e m
 .refine sw [0,1,9,0] ?_;intro y e m;refine Ad (f:=cR.av) a0 [y] (ik.full (D:=[])) V8 e.2 ?_;exact aa
 simp[e];refine Wr e m 0 (λt o f h=>∃a b c,h=H/\f.1 0=sL cR.av a0/\f.1 65=sL Tm.av a1.aiv/\f.1 66=sI (dq a1.aiv)/\f.1 67=sI t/\bx f 3 (Tm.av a1).cells/\bx f 4 [sI 0,nL,sI 0]/\bx f 9 [sI o.1,sT a Ty.av o.2.1,sI o.2.2.1,sI o.2.2.2.1,sT b Ty.av o.2.2.2.2.1,sI o.2.2.2.2.2.1,sI o.2.2.2.2.2.2.1,sT c Ty.av o.2.2.2.2.2.2.2.1,sI o.2.2.2.2.2.2.2.2]) ⟨.full,.full,.full,adg⟩ (λo d _ _ E m=>?_) (λt _ o d _ _ _ v E e m z p=>?_)
 .have⟨w,x,v20,v21,v22,v23,v24,v25,v26⟩:=o;have⟨a,b,c,E⟩:=E;have e:=Aj e E;apply wg 999;dsimp only[dk,Wy]at m;exact aa
 have⟨w,x,v20,v21,v22,v23,v24,v25,v26⟩:=o;have⟨a,b,c,E⟩:=E;have e:=Aj e E;dsimp only[Wy]at m;apply wg 5;simp[e];refine Ep m 999 999 (λu f h=>∃v30 v31 v32 v33 q v35 v36 v37 s i k l,(h=H/\f.1 0=sL cR.av a0/\f.1 65=sL Tm.av a1.aiv/\f.1 66=sI (dq a1.aiv)/\f.1 67=sI t/\bx f 3 (Tm.av a1).cells/\bx f 4 [sI 0,nL,sI 0]/\bx f 9 [sI v30,sT i Ty.av v31,sI v32,sI v33,sT k Ty.av q,sI v35,sI v36,sT l Ty.av v37,sI s])/\u v30 v31 v32 v33 q v35 v36 v37 s=some v) ?_ (λu _ g m=>?_)
 .rintro _ _ ⟨v30,v31,v32,v33,q,v35,v36,v37,s,i,k,l,E,m⟩;have e:=Aj e E;simp[e];cases m;exact p _ _ _ ⟨i,k,l,adg⟩ z
 refine sw [0,16,7] ?_;intro _ _ e m;apply Iq e m<;>intro e m
 .have e:=Aj e (Dn (j:=0) Dz yD adg ab9:ft prog 270 (AV.gv 9 (d.gen 9) 0) (sI t)=some (AV.gv 9 (d.gen 9) 0));simp[e];exact g _ _ ⟨_,_,_,_,_,_,_,_,_,.iB,b,c,adg,m⟩
 apply Iq e m<;>intro e m
 .have e:=Aj e (Dn (j:=1) Dz yD adg ab9:ft prog 270 (AV.gv 9 (d.gen 9) 0) (sI t)=some (AV.gv 9 (d.gen 9) 3));simp[e];exact g _ _ ⟨_,_,_,_,_,_,_,_,_,a,.iB,c,adg,m⟩
 have⟨e,m⟩:=Ck e m;have e:=Aj e (Dn (j:=2) Dz yD adg ab9:ft prog 270 (AV.gv 9 (d.gen 9) 0) (sI t)=some (AV.gv 9 (d.gen 9) 6));simp[e];exact g _ _ ⟨_,_,_,_,_,_,_,_,_,a,b,.iB,adg,m⟩
@[reducible,instance] def Jt:=fM 203 @qO
def sQ:C3 prog 195 gO sI (sL cR.av) Tm.av sI:=by
 refine u3 5 func195 λT H a0 a1 a2 r m e=>?_;rw[gO] at m;refine sw [0,2,0] ?_;intro _ a e m;refine WB m 999 999 [8] [] (λv4 f=>f.1 22=sB v4) λb _ g m=>?_;apply Ir e m<;>intro e m
 .exact hU
 simp[e];refine p_ m vh λ_ m=>?_;exact hU
@[reducible,instance] def Mx:=fM 195 @sQ
def vW:C2 prog 144 gw sI (sL cR.av) Tm.av:=by
 refine v2 func144 λT H a0 a1 r m e=>?_;rw[gw] at m;exact aa
@[reducible,instance] def JM:=fM 144 @vW
def mN{n:Nat}:C2 prog 103 (dC n) sI (sL cR.av) Fm.av:=by
 refine i2 λn ih=>u2 6 func103 λT H a0 a1 r m e=>?_;rw[dC] at m;simp[e];refine Ep m 1 999 (λi f h=>∃v2,(h=H/\f.1 0=sL cR.av v2/\f.1 3=AV.gv 3 (f.gen 3) 0/\f.box 3=some (Fm.av a1).cells)/\i v2=some r) ?_ (λi _ a m=>?_)
 .rintro _ _ ⟨v2,E,m⟩;have e:=Aj e E;simp[e];refine Wr e m 999 (λj _ f h=>h=H/\f.1 0=sL cR.av v2/\f.1 28=sL Fm.av a1.aiv/\f.1 29=sI (dq a1.aiv)/\f.1 30=sI j) adg (λ_ _ _ _ E m=>?_) (λj _ _ _ _ _ _ _ E e m z p=>?_)
  .refine sw [10,11] ?_;intro e m;exact au
  have e:=Aj e E;refine sw [0,15,7] ?_;intro _ e m;exact al
 simp[e];refine Ep m 4 999 (λb f h=>(h=H/\f.1 0=sL cR.av a0/\f.1 3=AV.gv 3 (f.gen 3) 0/\f.box 3=some (Fm.av a1).cells)/\b=some r) ?_ (λb _ g m=>?_)
 .rintro _ _ ⟨E,m⟩;have e:=Aj e E;refine sw [0,1,0] ?_;intro d e m;exact a _ _ ⟨d,adg,m⟩
 simp[e];refine wj 999 0 (λf h=>h=H/\f.1 0=sL cR.av a0/\f.1 12=sI a1.aiu/\f.1 13=sB (ep (dj a1.aiu 4) true (dj a1.aiu 5))/\bx f 3 (Fm.av a1).cells) (λ_ g=>?_) ?_
 .rcases Pb (dj a1.aiu 4) e with e|e
  .exact aj
  exact aj
 rintro _ _ E;have e:=Aj e E;apply Iq e m<;>intro e m
 .apply wg 999;exact YE
 apply wg 3;simp[e];refine wj 999 0 (λf h=>h=H/\f.1 0=sL cR.av a0/\f.1 12=sI a1.aiu/\f.1 16=sB (ep (dj a1.aiu 6) true (dj a1.aiu 7))/\bx f 3 (Fm.av a1).cells) (λ_ g=>?_) ?_
 .rcases Pb (dj a1.aiu 6) e with e|e
  .exact aj
  exact aj
 rintro _ _ E;have e:=Aj e E;apply Iq e m<;>intro e m
 .apply wg 999;exact YE
 apply wg 2;simp[e];refine wj 999 999 (λf h=>h=H/\f.1 0=sL cR.av a0/\f.1 19=sB (ep (dj a1.aiu 2) true (dj a1.aiu 3))/\bx f 3 (Fm.av a1).cells) (λ_ g=>?_) ?_
 .rcases Pb (dj a1.aiu 2) e with e|e
  .exact aj
  exact aj
 rintro _ _ E;have e:=Aj e E;apply Iq e m<;>intro e m
 .simp[e];exact a _ _ ⟨a0,adg,m⟩
 simp[e];refine Wr e m 999 (λc _ f h=>h=H/\f.1 0=sL cR.av a0/\f.1 42=sL Tm.av a1.dc/\f.1 43=sI (dq a1.dc)/\f.1 44=sI c) adg (λ_ _ _ _ E m=>?_) (λc _ _ _ _ _ _ _ E e m z p=>?_)
 .exact aa
 exact aa
@[reducible,instance] def I9:=fM 103 @mN
def xX(T:dt)(b:lT T){H:cZ}{a0:List Ty}{a1:Fm}{a:Int}(hm:kx a0 a1=some a):ds prog T 53 [sL Ty.av a0,Fm.av a1] H (sI a) H:=by
 rw[kx] at hm;have e:=b;refine wi aiz func53 [] [] 999 ?_;have m:=hm;exact aa
@[reducible,instance] def TS:=fM 53 @xX
def HS(T:dt)(c:lT T){H:cZ}{a0:Int}{a:dT}{b:Bool}(hm:lb a0=some (a,b)):ds prog T 134 [sI a0] H (AV.tuple [dT.av a,sB b]) H:=by
 rw[lb] at hm;have e:=c;refine wi aiz func134 [] [] 3 ?_;simp[e];refine wA 999 999 [] [2] (λf=>f.1 0=sI a0/\f.1 9=sB (ep (pR a0 1) true (pH a0 21))) [] (λ_ g=>?_) ?_
 .exact aa
 intro _ e m;have m:=hm;exact aa
@[reducible,instance] def Xp:=fM 134 @HS
def Dh(T:dt)(c:lT T){H:cZ}{a0:Tm}{a b:Int}(hm:jC a0=some (a,b)):ds prog T 237 [Tm.av a0] H (AV.tuple [sI a,sI b]) H:=by
 rw[jC] at hm;have e:=c;refine wi aiz func237 [] [] 999 ?_;have m:=hm;exact aa
@[reducible,instance] def S6:=fM 237 @Dh
def Bp(T:dt){H:cZ}{a0:da}{a1 a2:Int}{i:Bool}{a:da}{c:Nat}(b:H[c]?=some [sI a0.aiw,sB a0.il])(hm:gh a0 a1 a2=some (i,a)):ds prog T 236 [AV.eb c 0,sI a1,sI a2] H (sB i) (eR H c [sI a.aiw,sB a.il]):=by
 rw[gh] at hm;have d:=en b;refine ea.IC b ?_;have e:=d;refine wi aiz func236 [] [] 4 ?_;simp[e];refine wjs 999 999 (λf h=>h=eR H c [sI (ep a0.il (da.mk (dF .i64 a0.aiw a1) true) (da.mk (dF .i64 a0.aiw a1) (dj a2 4))).aiw,sB (ep a0.il (da.mk (dF .i64 a0.aiw a1) true) (da.mk (dF .i64 a0.aiw a1) (dj a2 4))).il]/\f.1 2=sI a2) ?_ (λ_ g=>?_)
 .rintro _ _ E;have e:=Aj e E;cases hm;simp[e]
 exact aa
@[reducible,instance] def O_:=fM 236 @Bp
def Ap(T:dt)(w:lT T):∀(n:Nat),(∀{H:cZ} {a0:da} {a1:Pf} {r:Bool} {c:da} {a:Nat} (k:H[a]?=some [sI a0.aiw,sB a0.il]) (hm:iv n a0 a1=some (r,c)),ds prog T 186 [AV.eb a 0,Pf.av a1] H (sB r) (eR H a [sI c.aiw,sB c.il])):=by
  intro n
  induction n with
  |zero=>
    skip
    all_goals(intro _ _;intros;rename_i hm;cases hm)
  |succ n ih=>
 intro H a0 a1 r c a k hm;rw[iv] at hm;have t:=en k;refine ea.IC k ?_;have e:=Aj w t;refine wi aiz func186 [] [] 5 ?_;have m:=hm;refine sw [0,2,0] ?_;intro b u e m;refine wA 999 0 [] [3,5] (λf=>f.1 0=AV.eb a 0/\f.1 61=sB (ep u (ep (pR a1.aix 0) true (ep (dw a1.aix 0) (ep b.aix (ep (dw (dq a1.dc) b.dc) true (ep (dw (dq a1.eg) b.eg) true (dw (dq a1.aiv) b.aiv))) true) (ep (dw (dq a1.dc) b.dc) true (ep (dw (dq a1.eg) b.eg) true (dw (dq a1.aiv) b.aiv))))) true)) [13] (λ_ g=>?_) ?_
 .rcases Pb u e with e|e;rotate_left
  .exact aj
  rcases Pb (pR a1.aix 0) e with e|e
  .exact aj
  rcases Pb (dw a1.aix 0) e with e|e;rotate_left
  .rcases Pb (dw (dq a1.dc) b.dc) e with e|e
   .exact aj
   rcases Pb (dw (dq a1.eg) b.eg) e with e|e
   .exact aj
   exact aj
  rcases Pb b.aix e with e|e;rotate_left
  .exact aj
  rcases Pb (dw (dq a1.dc) b.dc) e with e|e
  .exact aj
  rcases Pb (dw (dq a1.eg) b.eg) e with e|e
  .exact aj
  exact aj
 intro _ e m;apply wg 4;simp[e];refine Wj m 999 999 (λv f h=>∃s,(h=eR H a [sI s.aiw,sB s.il]/\f.1 0=AV.eb a 0/\f.1 3=AV.gv 3 (f.gen 3) 0/\f.box 3=some (Pf.av a1).cells)/\v s=some (r,c)) (λv _ g m=>?_) ?_
 .apply Iq e m<;>intro e m
  .simp[e];refine sy m pI λ_ _ m=>?_;refine Il e m λe m=>?_;exact hU
  simp[e];refine p_ m vR λ_ m=>?_;refine Im e m λe m=>?_;exact hU
 rintro _ _ ⟨s,E,m⟩;have e:=Aj e E;simp[e];refine XC e m 999 (λl d f h=>h=eR H a [sI d.aiw,sB d.il]/\f.1 0=AV.eb a 0/\f.1 84=sL Tm.av a1.dc/\f.1 85=sI (dq a1.dc)/\f.1 86=sI l/\bx f 3 (Pf.av a1).cells) adg (λl _ d _ _ _ _ _ E e m z p=>?_) (λd _ _ _ E m=>?_)
 .refine sw [10,0,2,0,2] ?_;intro _ _ _ d27 e m;exact aa
 refine sw [10,11,0] ?_;intro e m;refine XC e m 999 (λo i f h=>h=eR H a [sI i.aiw,sB i.il]/\f.1 0=AV.eb a 0/\f.1 99=sL Fm.av a1.eg/\f.1 100=sI (dq a1.eg)/\f.1 101=sI o/\bx f 3 (Pf.av a1).cells) adg (λo _ i _ _ _ _ _ E e m z p=>?_) (λi _ _ _ E m=>?_)
 .refine sw [10,0,2,0,2] ?_;intro _ _ _ d40 e m;exact aa
 refine sw [10,11,0] ?_;intro e m;refine Wr e m 999 (λq j f h=>h=eR H a [sI j.aiw,sB j.il]/\f.1 0=AV.eb a 0/\f.1 114=sL Pf.av a1.aiv/\f.1 115=sI (dq a1.aiv)/\f.1 116=sI q) adg (λj _ _ _ E m=>?_) (λq _ j _ _ _ _ _ E e m z p=>?_)
 .exact aa
 have e:=Aj e E;simp[e];refine sy m (ih adg) λ_ d51 m=>?_;exact aa
def A5(T:dt)(a:lT T){n:Nat}:=@Ap T a n
@[reducible,instance] def PN:=fM 186 @A5
def Cb(T:dt)(c:lT T){H:cZ}{a0:Pf}{a b:Int}(hm:qa a0=some (a,b)):ds prog T 133 [Pf.av a0] H (AV.tuple [sI a,sI b]) H:=by
 rw[qa] at hm;refine ea.qT (Post:=λx K=>x=AV.tuple [sI a,sI b]/\∃X,K=H++X) ?_ (λ_ _ h=>⟨_,h.2.choose_spec,by rw[h.1];simp[AV.low,AV.gH],h.1,rfl⟩);have e:=c;refine wi aiz func133 [6] [] 8 ?_;have m:=hm;refine sw [0,2,0,14] ?_;intro _ d2 e m;apply wg 1;simp[e];refine wB 999 999 [4] [] (λf=>f.1 12=sB (ep d2.il true (lQ d2.aiw 16384))) λ_ g=>?_;exact aa
@[reducible,instance] def Ro:=fM 133 @Cb
def Au(T:dt)(b:lT T){H:cZ}{a0:Pf}{a:Int}(hm:qU a0=some a):ds prog T 95 [Pf.av a0] H (sI a) H:=by
 rw[qU] at hm;have e:=b;refine wi aiz func95 [] [] 999 ?_;have m:=hm;exact aa
@[reducible,instance] def W2:=fM 95 @Au
def A4:C3 prog 135 ly dK.av dK.av dT.av sI:=by
 refine u3 2 func135 λT H a0 a1 a2 r m e=>?_;rw[ly] at m;simp[e];refine wB 999 999 [] [6] (λf=>bx f 3 [sI (ep (dj a2 (ed .i64 a1.aiv 1)) (dF .i64 a0.vars a1.vars) a0.vars),sI (ep (dj a2 (ed .i64 a1.aiv 1)) (dF .i64 a0.aiB a1.aiB) a0.aiB)]) λ_ g=>?_;rcases Pb (dj a2 (ed .i64 a1.aiv 1)) e with e|e
 .exact aj
 exact aj
def Cy(T:dt)(q:lT T):∀(n:Nat),(∀{S:Type} {st:S->cZ} {k:Nat} {a0:Pf} {a1:dK} {a2:(S->Pf->dK->Option (S))} {c:S} {b:S} {g2:Nat} {a:List AV} (hF:y7 st k) (d:Fg T g2 a st a2) (hm:kE n a0 a1 a2 c=some b),ds prog T 96 [Pf.av a0,dK.av a1,AV.agg [AV.sc .nilFunc,AV.sc .nilFunc,AV.func (.func g2) [] a]] (st c) (AV.tuple []) (st b)):=by
  intro n
  induction n with
  |zero=>
    skip
    all_goals(intro _ _;intros;rename_i hm;cases hm)
  |succ n ih=>
 intro S st k a0 a1 a2 c b g2 a hF d hm;rw[kE] at hm;have e:=Aj q hF.len;refine wi aiz func96 [] [] 4 ?_;have m:=hm;refine sw [0,2,0] ?_;intro l _ e m;refine Wj m 999 999 (λo f h=>∃v4,(h=st v4/\bx f 3 (Pf.av a0).cells/\bx f 4 (dK.av a1).cells/\bx f 5 [AV.sc .nilFunc,AV.sc .nilFunc,AV.func (.func g2) [] a]/\bx f 6 (dT.av l).cells)/\o v4=some b) (λo _ g m=>?_) ?_
 .apply Ir e m<;>intro e m
  .exact hU
  refine sw [8,0] ?_;intro r e m;refine iq.Rb adL (Fg.SO d e.2) ?_;exact hU
 rintro _ _ ⟨v4,E,m⟩;have e:=Aj e E;simp[e];refine Wa e m 999 35 [33,34] [3,4,5,6] nI [11,0] ?_;intro _ _ e m;refine Wa e m 999 52 [50,51] [3,4,5,6] nI [11,0] ?_;intro _ _ e m;refine Wr e m 999 (λj i f h=>h=st i/\f.1 70=sL Pf.av a0.aiv/\f.1 71=sI (dq a0.aiv)/\f.1 72=sI j/\bx f 4 (dK.av a1).cells/\bx f 5 [AV.sc .nilFunc,AV.sc .nilFunc,AV.func (.func g2) [] a]/\bx f 6 (dT.av l).cells) adg (λi _ _ _ E m=>?_) (λj _ i _ _ _ _ _ E e m z p=>?_)
 .exact aa
 have e:=Aj e E;simp[e];refine lI m A4 λ_ m=>?_;simp[e];refine lI m (ih hF d) λ_ m=>?_;exact al
def Du(T:dt)(a:lT T){n:Nat}:=@Cy T a n
def EJ(T:dt){H:cZ}{a0:(List (Int×Bool))}{a1:Int}{a:(List (Int×Bool))}{c:Nat}(b:H[c]?=some [om sB a0])(hm:su a0 a1=some a):ds prog T 49 [AV.kT c,sI a1] H (AV.tuple []) (eR H c [om sB a]):=by
 rw[su] at hm;have d:=en b;refine ea.IC b ?_;have e:=d;refine wi aiz func49 [] [] 999 ?_;refine Im e hm λe m=>?_;simp[e];refine se.i64 (f:=sB) a0 true ada tm adg adg ?_;exact au
section
open Go.RowKit Go.Maps Go.Sort Go.Shelf
def C_(x:Int):∀l:List Int,(EG x l).Perm (x::l)
 |[]=>.refl _|y::l=>by
  rw[EG]
  split
  .exact .refl _
  .exact((C_ x l).cons y).trans (.swap x y l)
def Bq:∀l:List Int,(sP l).Perm l
 |[]=>.refl _|x::l=>(C_ x _).trans ((Bq l).cons x)
def Em(x:Int):∀l:List Int,l.Pairwise (· <= ·)->(EG x l).Pairwise (· <= ·)
 |[],_=>List.pairwise_singleton _ _|y::l,h=>by
  rw[EG];have a:=abU.1 h
  split
  .rename_i b;refine abU.2 ⟨λz hz=>?_,h⟩;rcases j8.1 hz with hz|hz
   .rw[hz];exact b
   .exact Int.le_trans b (a.1 z hz)
  .rename_i b;refine abU.2 ⟨λz hz=>?_,Em x l a.2⟩;rcases j8.1 ((C_ x l).mem_iff.1 hz)with hz|hz
   .rw[hz];omega
   .exact a.1 z hz
def Ca:∀l:List Int,(sP l).Pairwise (· <= ·)
 |[]=>.nil|x::l=>Em x _ (Ca l)
def Zm{s l:List Int}(h:s.Perm l):s.mergeSort (λx y=>decide (x<=y))=sP l:=by
 refine List.Perm.eq_of_pairwise (le:=λa b=>a<=b) (λa b _ _ d f=>Int.le_antisymm d f) ?_ (Ca l) (((List.mergeSort_perm s _).trans h).trans (Bq l).symm);exact(List.pairwise_mergeSort (le:=λx y=>decide (x<=y)) (λa b c d f=>by simp at*;omega) (λa b=>by simp;omega) s).imp λh=>P_ h
def Wo:iX prog 97=true:=by kernel_rfl
def af3(m:Nat):AnyZI.SortsIn prog Ew Fence.wide m:=
 ⟨λb off cap d W f a c=>callsIn_wide.2 (AnyM.slices_Sort_int aaA b off cap d W f a c),λp cap W=>callsIn_wide.2 (AnyM.slices_Sort_int_none aaA p cap W)⟩
set_option maxHeartbeats 1000000 in
def X0{H:Type}(b q:Nat)(f:DataW H)(R:Value->Option (DataW H×List MemPlace))(w:World)(c:w.ownsMap prog 3 R b q f)(w6:Maps.size f<=maxLen)(a:Maps.size f*8<=140737488355328):Calls prog 97 #[.map (some b)] w λe w'=>∃(v:Value) (d:List Int),e=.returned v/\d.Perm (intKeys f)/\w'.ownsRow w.heap.size 3 1 v d.length ((d.mergeSort (λx y=>decide (x<=y))).map encZ)/\(v=.slice none 0 0↔d=[])/\Below w.heap.size w w':=by
 refine(callsIn_wide (n:=6)).1 ?_;have l:=c.lt
 have h:SeqGives Fence.wide 2 prog 189 #[.pointer (some ⟨w.heap.size,0,none⟩)] encZ (λd=>d.Perm (intKeys f)) (Maps.size f) (w.alloc (.cells #[.map (some b)] 101)):=
  AnyZI.keys_gives (ρ:=JF) {iA with} Fence.wide _ trivial rfl VW w.heap.size b q f _ acZ acZ (by
   have⟨es,clock,o,s,hs,t⟩:=c
   exact⟨es,clock,(Below.heap_alloc _ _ b l).trans o,s,hs,t⟩)
 have u:∀k W,CallsIn Fence.wide 5 prog 137 #[.map k] W λe w'=>e=.returned (.func (.func 189) #[] #[.pointer (some ⟨W.heap.size,0,none⟩)])/\w'=W.alloc (.cells #[.map k] 101):=λk W=>AnyZI.keys_in iA Fence.wide 5 trivial rfl k W;have r:=AnyZI.sorted_in Zj Fence.wide 5 trivial trivial trivial trivial rfl VW (af3 _) (enters_of func188 (by kernel_rfl) rfl) 189 #[.pointer (some ⟨w.heap.size,0,none⟩)] trivial (enters_of func189 (by kernel_rfl) rfl) _ _ w6 a _ h;change CallsIn _ _ prog 136 _ _ _ at r;have A:Fence.wide.fn 137:=trivial;have B:Fence.wide.fn 136:=trivial;refine callsIn_of_wp func97 rfl trivial ?_ rfl;simp only[ntmps97,YC,kL,uz,Nat.reduceAdd,Nat.reduceSub,Array.replicate_succ,Array.replicate_zero,List.push_toArray,List.append_toArray,oE,YF]
 gi_wp2_with (first
  |(gi_at_call 137;refine(u _ _).mono ?_;rintro e w' ⟨rfl,rfl⟩)
  |(gi_at_call 136;refine r.mono ?_;rintro e w' ⟨v,d,rfl,C,i,j,o⟩))
 go_ret
 exact⟨v,d,rfl,C,ownsRow_base_a i acZ,j,((Below.refl _ w).alloc (gV _) _).trans (o.mono acZ)⟩
def Qi{F:jo}{G:Nat->Nat}{n b:Nat}{ob:Obj}{w:World}{l:List (Int×Bool)}(q:w.heap[b]?=some ob)(d:kD F G n [om sB l] ob)(r:∀p∈l,0<=p.1/\p.1<1000000)(C:l.length<=549755813888):∃j:DataW Nat,w.ownsMap prog 3 (λ_=>some (.lit (.bool true),[])) b l.length j/\Maps.size j=l.length/\(intKeys j).Perm (l.map Prod.fst):=by
 obtain⟨es,clock,rfl,i,D,o,s,t⟩:=d.zX
 have hlen:es.size=l.length:=by have:=congrArg List.length i;simpa using this
 have hu:prog.underlying 3=some (.int .i64):=underlying3
 have u:∀x∈es.toList,∃p∈l,x.key=.int .i64 p.1:=λx c=>by
  have:x.key∈es.toList.map (·.key):=nj.2 ⟨x,c,rfl⟩
  rw[i] at this;have⟨p,k,h⟩:=nj.1 this;exact⟨p,k,h.symm⟩
 have f:∀x∈es.toList,∃a,x.key=.int .i64 a/\WideElems.rd (H:=Nat) prog 3 (λ_=>some (.lit (.bool true),[])) x=some (.int .i64 a,.lit (.bool true)):=λx c=>by
  have⟨p,k,h⟩:=u x c;have:=r p k;refine⟨p.1,h,?_⟩
  have hw:(Lit.int .i64 p.1).wf=true:=by
   show(decide ((-9223372036854775808:Int)<=p.1)&&decide (p.1<=9223372036854775807))=true;simp;omega
  simp[WideElems.rd,h,keyOf,hu,mapKey,hw]
 refine⟨_,⟨es,clock,q,⟨by rw[hlen];simp only[maxLen];omega,⟨?_,?_,?_⟩,λx c=>?_⟩,VW,rfl⟩,?_,?_⟩
 .intro x c
  have:x.born∈es.toList.map (·.born):=nj.2 ⟨x,c,rfl⟩
  rw[o] at this;rw[s];exact List.mem_range.1 this
 .rw[o];exact List.nodup_range
 .rw[i];exact t
 .have⟨a,_,h⟩:=f x c;exact⟨_,h⟩
 .show((es.toList.map _).foldr DataW.insert []).length=_;rw[length_sorted,A1,XH,hlen]
 .show((((es.toList.map _).foldr DataW.insert []).map λ(p:Lit×DataW Nat)=>Go.intOf p.1)).Perm _;refine((WideShapes.sorted_perm _).map _).trans (.of_eq ?_)
  have y:(es.toList.map (·.key)).map (λv=>match v with|.int _ a=>a|_=>0)=l.map Prod.fst:=by rw[i];simp
  rw[<-y,Qy,Qy];refine ui λx c=>?_;have⟨a,A,B⟩:=f x c
  show Go.intOf (WideElems.rg _ _ _ x).1=match x.key with|.int _ a=>a|_=>0
  rw[WideElems.rg_of B,A];rfl
def U2{T:dt}{G:Nat->Nat}{F:jo}{H:cZ}{w w':World}(l:¬∀g,T g=none)(hg:GW T G F H w)(t:Below w.heap.size w w'){g:Nat}{e:TypeId}{cur:Array Value}{us:List Value}(i:w.heap.size<=g)(u:w'.heap[g]?=some (.cells cur e (0,0)))(hu:∀(j:Nat) (v:Value),us[j]?=some v->cur[j]?=some v):GW T G (iw F g us.length us) H w'/\Ext w.heap.size G F H.length w G (iw F g us.length us) H.length w':=by
 have f:=hg.below t
 have hold:∀b j v,F b j=some v->iw F g us.length us b j=some v:=λb j v h=>by
  by_cases a:b=g
  .subst a;rw[hg.fresh _ _ i] at h;cases h
  .rw[ll a];exact h
 have y:Grow F (iw F g us.length us) G G H.length H.length:=⟨hold,gV _,λ_ _=>rfl⟩;have A:g<w'.heap.size:=(MT.1 u).1;have c:=Ext.Pn (G:=G) (F:=F) (n:=H.length) t;refine⟨⟨λb j v d=>?_,λo cs k=>?_,f.inj,λo j k q=>?_,λb j r=>?_,λg x c=>(f.x' g x c).grow y,λh=>absurd h l⟩,⟨c.os,c.tape,c.output,c.size,c.len,c.hG,c.Ih,λb j B _=>ll VW,λb j v _ h=>hold b j v h,c.heap⟩⟩
 .by_cases a:b=g
  .subst a;unfold iw at d
   split at d
   .rw[cell_of_row w' b j cur e (0,0) u];exact hu j v d
   .rw[hg.fresh _ _ i] at d;cases d
  .rw[ll a] at d;exact f.BQ b j v d
 .have⟨ob,s,C⟩:=f.j2 o cs k;exact⟨ob,s,C.grow y⟩
 .rw[ll]
  .exact f.gF o j k q
  .rintro rfl;have⟨ob,s,_⟩:=hg.j2 o _ (l9 k);have:=(MT.1 s).1;omega
 .rw[ll VW];exact f.fresh b j r
def JG{F:jo}{G:Nat->Nat}{n:Nat}:∀l:List Int,fI F G n ((l.map λn=>AV.sc (.int .i64 n)).flatMap AV.cells) (l.map encZ)
 |[]=>.nil|x::l=>.cons (.sc rfl) (JG l)
def AW(T:dt)(K:lT T){H:cZ}{o:Nat}{l:List (Int×Bool)}(L:H[o]?=some [om sB l])(t:Nz l=true):ds prog T 97 [AV.kT o] H (sL sI (sP (l.map Prod.fst))) H:=by
 have A:¬∀g,T g=none:=λh=>by have:=K.1;rw[h] at this;cases this
 unfold Nz at t;rw[fK,j3] at t;have M:l.length<=549755813888:=P_ t.1;refine⟨Wo,λG F w vs hg N=>?_⟩;obtain⟨v1,rfl,O⟩:=Ut N;cases O with
 |kT P=>
 have⟨ob,Q,k⟩:=hg.j2 o _ L;have⟨R,q,r,c⟩:=Qi Q k (λp u=>P_ (t.2 p u)) M;refine(X0 (G o) l.length R _ w q (by rw[r];simp only[maxLen];omega) (by rw[r];omega)).mono ?_;rintro e w' ⟨v,I,rfl,S,a,J,d⟩;have s:=(S.trans c);rw[Zm s] at a;have hlen:(sP (l.map Prod.fst)).length=I.length:=((Bq _).trans s.symm).length_eq;rcases a.2 with⟨rfl,Y⟩|⟨B,cap,cur,rfl,f,C,Z,U,r3,V⟩
 .obtain W:sP (l.map Prod.fst)=[]:=Ar VW;rw[W];exact⟨_,H,_,G,F,⟨rfl,rfl⟩,rfl,hg.below d,.slice (l:=[]) (b:=0) (o:=0) (sz:=1) .nil (λi v h=>by simp at h) (λh=>absurd rfl h) acZ acZ (gV _) (Yt _) (.inl rfl),Ext.Pn d⟩
 .have⟨X,ex⟩:=U2 A hg d (us:=(sP (l.map Prod.fst)).map encZ) f C (λj v h=>by
   rw[<-V,abi,NB] at h
   split at h
   .simpa using h
   .cases h)
  have u:=fD.slice (F:=iw F B ((sP (l.map Prod.fst)).map encZ).length ((sP (l.map Prod.fst)).map encZ)) (G:=G) (n:=H.length) (tag:=.iB) (l:=(sP (l.map Prod.fst)).map λn=>AV.sc (.int .i64 n)) (b:=B) (o:=0) (base:=some ⟨B,0,none⟩) (cap:=cap) (sz:=1)
   (JG _) (ve _ _ _) (λ_=>rfl) (λx D=>by obtain⟨y,_,rfl⟩:=nj.1 D;rfl) (λx D=>by
    have⟨y,hy,h⟩:=UK.1 D;obtain⟨z,_,rfl⟩:=nj.1 hy
    rw[yy.1 h];rfl) (by rw[A1];omega) U (.inl rfl)
  rw[show((sP (l.map Prod.fst)).map λn=>AV.sc (.int .i64 n)).length=I.length by rw[A1,hlen]] at u;exact⟨_,H,_,G,_,⟨rfl,rfl⟩,rfl,X,u,ex⟩
def Sy(T:dt){H:cZ}{a0:Pf}{a1:dK}{l d:List (Int×Bool)}{q0 o:Nat}(a:H[q0]?=some [AV.kT o])(b:H[o]?=some [om sB l])(hm:vr l a0 a1=some d):ds prog T 48 [Pf.av a0,dK.av a1,AV.eb q0 0] H (AV.tuple []) (eR H o [om sB d]):=by
 rw[vr] at hm
 have hn:o≠q0:=by rintro rfl;rw[a] at b;cases b
 refine ea.IC b ?_;have a:=(sF (c:=[om sB l]) hn).trans a;have b:=G4 (c:=[om sB l]) (en b);have e:=Aj (Aj trivial a) b;refine wi aiz func48 [] [] 999 ?_;refine Im e hm λe m=>?_;simp[e];refine Cf (EJ T b m) ?_;simp[e]
def Tn(T:dt){H:cZ}{o:Nat}:ds prog T 47 [AV.kT o] H (AV.agg [AV.sc .nilFunc,AV.sc .nilFunc,AV.func (.func 48) [] [AV.eb H.length 0]]) (H++[[AV.kT o]]):=by
 refine wi aiz func47 [1] [] 999 ?_;simp
def J5{k:Nat}:∀l:List (Int×Bool),AV.gH k (l.map λp=>sB p.2)=true
 |[]=>rfl|x::l=>by simp[AV.gH,AV.low,J5 l]
def YY(H:cZ):y7 (λl:List (Int×Bool)=>H++[[om sB l],[AV.kT H.length]]) (H.length+2):=⟨λs=>by simp,λs a cs hc=>by
 rcases rl.1 hc with hc|hc
 .exact .inl (adb _ hc)
 .rcases j8.1 hc with hc|hc
  .right;rw[hc];simp[om,AV.gH,AV.low,J5]
  .left;simp at hc;simp[hc]⟩
def I7(T:dt)(a:lT T){H:cZ}{a0:Pf}{b:List Int}{c:Int}(hm:nF a0=some (b,c)):ds prog T 46 [Pf.av a0,AV.func (.func 47) [] []] H (AV.tuple [sL sI b,sI c]) H:=by
 rw[nF] at hm;refine ea.qT (Post:=λx K=>x=AV.tuple [sL sI b,sI c]/\∃X,K=H++X) ?_ (λ_ _ h=>⟨_,h.2.choose_spec,by rw[h.1];simp[AV.low,AV.gH],h.1,rfl⟩);have e:=a;refine wi aiz func46 [] [(5,false,[])] 999 ?_;have m:=hm;refine sw [0,1,7,8,9,0] ?_;intro d l e m;refine Cs (Tn T) ?_;simp[e]
 refine Cs (Du T a (st:=λl=>H++[[om sB l],[AV.kT H.length]]) (k:=H.length+2) (YY H) (λX s f d i h=>by
  have:=Sy T (H:=H++[[om sB s],[AV.kT H.length]]++X) (q0:=H.length+1) (o:=H.length) acZ acZ h
  simpa[eR] using this) e.1.2) ?_
 simp[e];refine Cf (AW T a (o:=H.length) (l:=l) acZ e.2) ?_;exact au
def yF(T:dt)(c:lT T){H:cZ}{a0:Pf}{a:List Int}{b:Int}(hm:nF a0=some (a,b)):ds prog T 25 [Pf.av a0] H (AV.tuple [sL sI a,sI b]) H:=by
 refine wi aiz func25 [] [] 999 ?_;simp;refine Cf (I7 T c hm) ?_;simp
@[reducible,instance] def WK:=fM 25 @yF
end
def EM(T:dt){H:cZ}{a0 a:Int}{d:Bool}{q0:Nat}(b:H[q0]?=some [sI a])(hm:ss a0 a=some d):ds prog T 55 [sI a0,AV.eb q0 0] H (sB d) H:=by
 rw[ss] at hm;have c:=en b;have e:=Aj c b;refine wi aiz func55 [] [] 999 ?_;cases hm;simp[e]
def ug(T:dt){S:Type}{st:S->cZ}{k:Nat}{a0:List Int}{a1:(S->Int->Option (Bool×S))}{b:S}{i:Int}{c:S}{g1:Nat}{a:List AV}(hF:y7 st k)(d:Cm T g1 a st a1)(hm:ku a0 a1 b=some (i,c)):ds prog T 104 [sL sI a0,AV.func (.func g1) [] a] (st b) (sI i) (st c):=by
 rw[ku] at hm;have e:=hF.len;refine wi aiz func104 [] [] 999 ?_;simp[e];refine Wr e hm 999 (λj s2 f h=>h=st s2/\f.1 0=sL sI a0/\f.1 1=AV.func (.func g1) [] a/\f.1 7=sI (dq a0)/\f.1 8=sI j) adg (λs2 _ _ _ E m=>?_) (λj _ s2 _ _ _ _ _ E e m z p=>?_)
 .exact aa
 have e:=Aj e E;have⟨l,n,e,m⟩:=Bo2 e m;simp[e];refine iq.Rb adL (Cm.SO d e.2) ?_;exact aa
def sC(T:dt){S:Type}{st:S->cZ}{k:Nat}{a0:List Int}{a1:(S->Int->Option (Bool×S))}{b:S}{f:Bool}{c:S}{g1:Nat}{a:List AV}(hF:y7 st k)(d:Cm T g1 a st a1)(hm:hO a0 a1 b=some (f,c)):ds prog T 54 [sL sI a0,AV.func (.func g1) [] a] (st b) (sB f) (st c):=by
 rw[hO] at hm;have e:=hF.len;refine wi aiz func54 [] [] 999 ?_;simp[e];refine sy hm (ug T hF d) λ_ _ m=>?_;exact au
def HG(T:dt)(c:lT T){H:cZ}{a0:List gK}{a1 d:Int}(hm:oR a0 a1=some d):ds prog T 27 [sL gK.av a0,sI a1] H (sI d) H:=by
 rw[oR] at hm;refine ea.qT (Post:=λx K=>x=sI d/\∃X,K=H++X) ?_ (λ_ _ h=>⟨_,h.2.choose_spec,by rw[h.1];simp[AV.low,AV.gH],h.1,rfl⟩);have e:=c;refine wi aiz func27 [3,5] [] 5 ?_;have⟨a,e,m⟩:=Ah e hm;simp[e];refine WA m 999 999 [5] [] (λv3 f=>f.1 3=AV.eb (List.length H) 0/\f.1 23=sB v3) [7,0] (λi _ g m=>?_) ?_
 .simp[e];refine p_ m (Kq T c) λ_ m=>?_;apply Ir e m<;>intro e m
  .exact hU
  refine sw [8,0] ?_;intro j e m;refine sy m (k5 T (st:=λ_:Unit=>H++[[sI a1],[sS a.name,sI a.cU.aiu,sI a.cU.cT.aiu,sL Ty.av a.cU.cT.aiv,sL Tm.av a.cU.dc,sL Fm.av a.cU.aiv,sI a.proof.aiu,sI a.proof.aix,sI a.proof.cT.aiu,sL Ty.av a.proof.cT.aiv,sL Tm.av a.proof.dc,sL Fm.av a.proof.eg,sL Pf.av a.proof.aiv]]) (y7.const _) (λX _ _ _ _ h=>by obtain⟨b,rfl⟩:=oZ h;exact Ez T (q0:=(List.length H+1)) adg b)) λ_ _ m=>?_;exact hU
 intro _ v3 e m;refine p_ m (xX T c) λ_ m=>?_;refine sw [7,0] ?_;intro e m;refine sy m (yF T c) λ_ _ m=>?_;refine sw [7,0] ?_;intro e m;refine sy m (sC T (st:=λ_:Unit=>H++[[sI a1],[sS a.name,sI a.cU.aiu,sI a.cU.cT.aiu,sL Ty.av a.cU.cT.aiv,sL Tm.av a.cU.dc,sL Fm.av a.cU.aiv,sI a.proof.aiu,sI a.proof.aix,sI a.proof.cT.aiu,sL Ty.av a.proof.cT.aiv,sL Tm.av a.proof.dc,sL Fm.av a.proof.eg,sL Pf.av a.proof.aiv]]) (y7.const _) (λX _ _ _ _ h=>by obtain⟨b,rfl⟩:=oZ h;exact EM T (q0:=(List.length H)) adg b)) λ_ _ m=>?_;refine Il e m λe m=>?_;exact au
@[reducible,instance] def WZ:=fM 27 @HG
def Cj:C1 prog 29 kY (sL Fm.av) (sL gK.av):=by
 refine v1 func29 λT H a0 r m e=>?_;rw[kY] at m;simp[e];refine Td e m 999 8 [6,7] [] [16] (λs2=>s2) (λs2 a f=>f.1 3=sT a Fm.av s2) λh d s2 c _ _ _ _ E e m z p=>?_;have⟨a,E,b⟩:=E;refine sw [20,9,0] ?_;intro e m;refine Ao (f:=Fm.av) s2 [d.cU] b C6 e.2 ?_;simp[e];cases m;exact p _ _ _ ⟨(.loc 16 (c.ef 16+1)),adg,(On 16)⟩ z
@[reducible,instance] def Rq:=fM 29 @Cj
def Dq(T:dt)(b:lT T){H:cZ}{a0:List Fm}{a1:Sq}{a:Int}(hm:rB a0 a1=some a):ds prog T 105 [sL Fm.av a0,Sq.av a1] H (sI a) H:=by
 rw[rB] at hm;have e:=b;refine wi aiz func105 [] [] 999 ?_;refine Il e hm λe m=>?_;simp[e];refine Wa e m 999 17 [15,16] [3] nI [11,0,1,7,7,0] ?_;intro _ _ _ e m;exact Wb e m 999 40 [38,39] [3] nI
def FV(T:dt){H:cZ}{u:Unit}(hm:xg=some u):ds prog T 106 [] H (AV.kT (List.length H)) (H++[[Kt]]):=by
 refine wi aiz func106 [] [] 999 ?_;simp;refine se.wa kn tm adD adD ?_;simp;refine se.wa kn tm adD adD ?_;simp;refine se.wa kn tm adD adD ?_;simp;refine se.wa kn tm adD adD ?_;simp;refine se.wa kn tm adD adD ?_;simp;refine se.wa kn tm adD adD ?_;simp;refine se.wa kn tm adD adD ?_;simp;refine se.wa kn tm adD adD ?_;simp;refine se.wa kn tm adD adD ?_;simp;refine se.wa kn tm adD adD ?_;simp;refine se.wa kn tm adD adD ?_;simp;refine se.wa kn tm adD adD ?_;simp;refine se.wa kn tm adD adD ?_;simp;refine se.wa kn tm adD adD ?_;simp;refine se.wa kn tm adD adD ?_;simp;refine se.wa kn tm adD adD ?_;simp;refine se.wa kn tm adD adD ?_;simp;refine se.wa kn tm adD adD ?_;simp;refine se.wa kn tm adD adD ?_;simp;refine se.wa kn tm adD adD ?_;simp;simp[Kt,PI,PX]
def pT:C2 prog 160 eM cV.av cV.av Fm.av:=by
 refine v2 func160 λT H a0 a1 r m e=>?_;rw[eM] at m;refine sw [9,0] ?_;intro e m;refine Ad (f:=c7.av) a0.known [(c7.mk a1 a0.eV.vars)] (ik.full (D:=[])) ago e.2 ?_;exact au
@[reducible,instance] def Ot:=fM 160 @pT
def Hh:C1 prog 108 rA cV.av Sq.av:=by
 refine v1 func108 λT H a0 r m e=>?_;rw[rA] at m;refine sw [0,1,0] ?_;intro _ e m;refine Wr e m 999 (λj b f h=>∃a,h=H/\f.1 16=sL Fm.av a0.aiB/\f.1 17=sI (dq a0.aiB)/\f.1 18=sI j/\bx f 2 [sI 0,sI 0,nL,nL]/\bx f 3 [sI b.1,sI b.2.1,sL cR.av b.2.2.1,sT a c7.av b.2.2.2]) ⟨.full,adg⟩ (λb _ _ _ E m=>?_) (λj _ b _ _ _ _ _ E e m z p=>?_)
 .have⟨v12,c,d,i⟩:=b;have⟨a,E⟩:=E;have e:=Aj e E;dsimp only[dk,Va]at m;exact au
 have⟨v12,c,d,i⟩:=b;have⟨a,E⟩:=E;have e:=Aj e E;dsimp only[Va]at m;refine sw [0,1,0] ?_;intro _ e m;cases m;exact p _ _ _ ⟨.iB,adg⟩ z
def Hq:C1 prog 216 gz Tm.av sI:=by
 refine v1 func216 λT H a0 r m e=>?_;rw[gz] at m;exact au
@[reducible,instance] def abk:=fM 216 @Hq
def Ig(T:dt){H:cZ}{a0 a1 a b:Int}{k:Tm}{q0 q1:Nat}(c:H[q0]?=some [sI a])(d:H[q1]?=some [sI b])(hm:sN a0 a1 a b=some k):ds prog T 296 [sI a0,sI a1,AV.eb q0 0,AV.eb q1 0] H (Tm.av k) H:=by
 rw[sN] at hm;have i:=en c;have j:=en d;have e:=Aj (Aj (Aj i c) j) d;refine wi aiz func296 [] [] 2 ?_;simp[e];refine wjs 999 999 (λf h=>h=H/\f.1 0=sI (ep (pH (ed .i64 a0 a1) a) (dF .i64 a0 b) a0)/\f.1 6=AV.gv 6 (f.gen 6) 0/\f.box 6=some [sI 0,sI 0,sI 0,nL,nL]) ?_ (λ_ g=>?_)
 .rintro _ _ E;have m:=hm;exact aa
 rcases Pb (pH (ed .i64 a0 a1) a) e with e|e
 .exact aj
 exact aj
def G2{n:Nat}:C1 prog 111 (kz n) Ty.av Ty.av:=by
 refine i1 λn ih=>v1 func111 λT H a0 r m e=>?_;rw[kz] at m;simp[e];refine Td e m 999 12 [10,11] [2] [21] (λs2=>s2) (λs2 a f=>bx f 3 [sI a0.aiu,sT a Ty.av s2]) λh _ s2 c _ _ _ _ E e m z p=>?_;have⟨a,E,b⟩:=E;refine sw [20,0,18,9,0] ?_;intro d e m;refine Ad (f:=Ty.av) s2 [d] b Hi e.2 ?_;simp[e];cases m;exact p _ _ _ ⟨(.loc 21 (c.ef 21+1)),adg,(On 21)⟩ z
@[reducible,instance] def Vn:=fM 111 @G2
def CH(T:dt):∀(n:Nat),(∀{S:Type} {st:S->cZ} {k:Nat} {a0:Tm} {a1:Int} {l:(S->Int->Int->Option (Tm×S))} {o:S} {w:Tm} {q:S} {q0:Nat} {q1:Nat} {r:Nat} {t:List AV} (hF:y7 st k) (d:∀s,(st s)[q0]?=some [AV.func (.func r) [] t]) (b:tL T r t st l) (i:∀s,(st s)[q1]?=some [AV.func (.func 318) [] [AV.eb q0 0,AV.eb q1 0]]) (hm:gj n a0 a1 l o=some (w,q)),ds prog T 318 [Tm.av a0,sI a1,AV.eb q0 0,AV.eb q1 0] (st o) (Tm.av w) (st q)):=by
  intro n
  induction n with
  |zero=>
    skip
    all_goals(intro _ _;intros;rename_i hm;cases hm)
  |succ n ih=>
 intro S st k a0 a1 l o w q q0 q1 r t hF d b i hm;rw[gj] at hm;have x:=λs=>en (d s);have y:=λs=>en (i s);have e:=Aj (Aj (Aj (Aj hF.len x) d) y) i;refine wi aiz func318 [] [(9,false,[true,true,false,true,true,true,true,true,true,true])] 5 ?_;simp[e];apply Iq e hm<;>intro e m
 .apply wg 999;have⟨G,H,e,m⟩:=Bo2 e m;simp[e];refine iq.Rb adL (tL.SO b e.2) ?_;exact au
 refine sg 4 [0,4,0] ?_;intro C e m;refine wA 999 999 [] [4,6,7] (λf=>f.1 1=sI (ep (dj a0.aiu 2) (dF .i64 a1 1) a1)/\f.1 3=AV.eb q1 0) [0] (λ_ g=>?_) ?_
 .rcases Pb (dj a0.aiu 2) e with e|e
  .exact aj
  exact aj
 intro _ e m;refine Wr e m 999 (λD u f h=>∃a,(h=st u.2/\f.1 1=sI (ep (dj a0.aiu 2) (dF .i64 a1 1) a1)/\f.1 3=AV.eb q1 0/\f.1 32=sL Tm.av a0.aiv/\f.1 33=sI (dq a0.aiv)/\f.1 34=sI D/\bx f 6 [sI 0,sI 0,sI 0,nL,nL]/\bx f 7 [sI a0.aiu,sI a0.aix,sI C.aiu,sL Ty.av C.aiv,sT a Tm.av u.1])/\Ow f [45] a u.1) (by exact⟨.full,adg,ik.full⟩) (λu j _ _ E m=>?_) (λD _ u j _ _ _ _ E e m z p=>?_)
 .have⟨v,A⟩:=u;have⟨a,E,c⟩:=E;have e:=Aj e E;dsimp only[dk,kX]at m;exact au
 have⟨v,A⟩:=u;have⟨a,E,c⟩:=E;have e:=Aj e E;dsimp only[kX]at m;have⟨B,F,e,m⟩:=Bo2 e m;simp[e];refine jA.Rb adL (ih hF d b i e.2) acZ ?_;refine sw [9,0] ?_;intro e m;refine Ad (f:=Tm.av) v [B] c BC e.2 ?_;simp[e];cases m;exact p _ _ _ ⟨(.loc 45 (j.ef 45+1)),adg,(On 45)⟩ z
def C7(T:dt){n:Nat}:=@CH T n
def y0(T:dt){S:Type}{st:S->cZ}{k:Nat}{a0:Tm}{a1:(S->Int->Int->Option (Tm×S))}{c:S}{d:Tm}{b:S}{g1:Nat}{a:List AV}(hF:y7 st k)(f:tL T g1 a st a1)(hm:nP a0 a1 c=some (d,b)):ds prog T 295 [Tm.av a0,AV.func (.func g1) [] a] (st c) (Tm.av d) (st b):=by
 rw[nP] at hm;refine ea.ZG hF (Post:=λx K=>x=Tm.av d/\∃X,K=(st b)++X) ?_ (λ_ _ h=>⟨_,h.2.choose,h.2.choose_spec,by rw[h.1];simp[AV.low,AV.gH],h.1,rfl⟩);have e:=hF.len;refine wi aiz func295 [3,5] [] 999 ?_;have⟨i,s2,e,m⟩:=Bo2 e hm;simp[e];refine iq.Rb adL (C7 T (st:=λs=>st s++[[AV.func (.func g1) [] a],[AV.func (.func 318) [] [AV.eb k 0,AV.eb (k+1) 0]]]) (y7.ext hF _ (n:=k+2) acZ) (λ_=>adg) (tL.ext f) (λ_=>adg) e.2) ?_;exact au
def MB(T:dt){H:cZ}{a0:Tm}{a1 a2:Int}{a:Tm}(hm:qX a0 a1 a2=some a):ds prog T 258 [Tm.av a0,sI a1,sI a2] H (Tm.av a) H:=by
 rw[qX] at hm;refine ea.qT (Post:=λx K=>x=Tm.av a/\∃X,K=H++X) ?_ (λ_ _ h=>⟨_,h.2.choose_spec,by rw[h.1];simp[AV.low,AV.gH],h.1,rfl⟩);have e:=trivial;refine wi aiz func258 [4,5] [] 999 ?_;simp[e];refine sy hm (y0 T (st:=λ_:Unit=>H++[[sI a1],[sI a2]]) (y7.const _) (λX _ _ _ _ _ h=>by obtain⟨b,rfl⟩:=oZ h;exact Ig T (q0:=(List.length H)) (q1:=(List.length H+1)) adg adg b)) λ_ _ m=>?_;exact au
@[reducible,instance] def aai:=fM 258 @MB
def yz(T:dt){H:cZ}{a0:Tm}{a1 a b:Int}{i:Tm}{q0 q1:Nat}(c:H[q0]?=some [sI a])(d:H[q1]?=some [sI b])(hm:lO a0 a1 a b=some i):ds prog T 257 [Tm.av a0,sI a1,AV.eb q0 0,AV.eb q1 0] H (Tm.av i) H:=by
 rw[lO] at hm;have f:=en c;have h:=en d;have e:=Aj (Aj (Aj f c) h) d;refine wi aiz func257 [] [] 999 ?_;have m:=hm;exact aa
def vg:C1 prog 112 l0 sB sI:=by
 refine u1 2 func112 λT H a0 r m e=>?_;rw[l0] at m;simp[e];refine wB 999 999 [] [] (λf=>f.1 2=sB (ep (pH a0 4) (HB a0 7) false)) λ_ g=>?_;exact aa
@[reducible,instance] def Q6:=fM 112 @vg
def w9(T:dt):∀(n:Nat),(∀{S:Type} {st:S->cZ} {k:Nat} {a0:Fm} {a1:Int} {a2:(S->Tm->Int->Option (Tm×S))} {t:S} {D:Fm} {r:S} {g2:Nat} {i:List AV} (hF:y7 st k) (u:Fp T g2 i st a2) (hm:dX n a0 a1 a2 t=some (D,r)),ds prog T 58 [Fm.av a0,sI a1,AV.func (.func g2) [] i] (st t) (Fm.av D) (st r)):=by
  intro n
  induction n with
  |zero=>
    skip
    all_goals(intro _ _;intros;rename_i hm;cases hm)
  |succ n ih=>
 intro S st k a0 a1 a2 t D r g2 i hF u hm;rw[dX] at hm;have e:=hF.len;refine wi aiz func58 [] [] 999 ?_;have m:=hm;refine sw [0,4,0] ?_;intro x e m;refine XC e m 0 (λH v f h=>∃b,(h=st v.2/\f.1 1=sI a1/\f.1 2=AV.func (.func g2) [] i/\f.1 19=sL Tm.av a0.dc/\f.1 20=sI (dq a0.dc)/\f.1 21=sI H/\bx f 3 (Fm.av a0).cells/\bx f 6 [sI 0,sI 0,nL,nL,nL]/\bx f 7 [sI a0.aiu,sI x.aiu,sL Ty.av x.aiv,sT b Tm.av v.1,nL])/\Ow f [32] b v.1) (by exact⟨.full,adg,ik.full⟩) (λH _ v y _ _ _ _ E e m z p=>?_) (λv y _ _ E m=>?_)
 .have⟨v12,A⟩:=v;have⟨b,E,o⟩:=E;have e:=Aj e E;dsimp only[kX]at m;apply wg 999;have⟨F,I,e,m⟩:=Bo2 e m;simp[e];refine jA.Rb adL (Fp.SO u e.2) acZ ?_;refine sw [9,0] ?_;intro e m;refine Ad (f:=Tm.av) v12 [F] o BC e.2 ?_;simp[e];cases m;exact p _ _ _ ⟨(.loc 32 (y.ef 32+1)),adg,(On 32)⟩ z
 have⟨v12,A⟩:=v;have⟨b,E,o⟩:=E;have e:=Aj e E;apply wg 5;dsimp only[dk,kX]at m;simp[e];refine Wj m 999 999 (λB f h=>∃v17 c,(h=st A/\f.1 1=sI v17/\f.1 2=AV.func (.func g2) [] i/\bx f 3 (Fm.av a0).cells/\bx f 6 [sI 0,sI 0,nL,nL,nL]/\bx f 7 [sI a0.aiu,sI x.aiu,sL Ty.av x.aiv,sT c Tm.av v12,nL])/\Ow f [32] c v12/\B v17=some (D,r)) (λB _ g m=>?_) ?_
 .refine sw [0,1] ?_;intro _ e m;apply Ir e m<;>intro e m
  .simp[e];exact g _ _ ⟨a1,b,adg,o,m⟩
  simp[e];exact g _ _ ⟨(dF .i64 a1 1),b,adg,o,m⟩
 rintro _ _ ⟨v17,c,E,w,m⟩;have e:=Aj e E;simp[e];refine Wr e m 999 (λC j f h=>∃a d,(h=st j.2/\f.1 1=sI v17/\f.1 2=AV.func (.func g2) [] i/\f.1 41=sL Fm.av a0.aiv/\f.1 42=sI (dq a0.aiv)/\f.1 43=sI C/\bx f 6 [sI 0,sI 0,nL,nL,nL]/\bx f 7 [sI a0.aiu,sI x.aiu,sL Ty.av x.aiv,sT a Tm.av v12,sT d Fm.av j.1])/\Ow f [32] a v12/\Ow f [54] d j.1) (by exact⟨c,.full,adg,w,ik.full⟩) (λj s _ _ E m=>?_) (λC _ j s _ _ _ _ E e m z p=>?_)
 .have⟨v32,v33⟩:=j;have⟨a,d,E,q,l⟩:=E;have e:=Aj e E;dsimp only[dk,kX]at m;exact au
 have⟨v32,v33⟩:=j;have⟨a,d,E,q,l⟩:=E;have e:=Aj e E;dsimp only[kX]at m;simp[e];refine oa m (ih hF u) λG _ m=>?_;refine sw [9,0] ?_;intro e m;refine Ad (f:=Fm.av) v32 [G] l C6 e.2 ?_;simp[e];cases m;exact p _ _ _ ⟨a,(.loc 54 (s.ef 54+1)),adg,(ik.other q l ab9 ab9),(On 54)⟩ z
def lR(T:dt){n:Nat}:=@w9 T n
def qy(T:dt){H:cZ}{a0:Fm}{a1 a2:Int}{a:Fm}(hm:ew a0 a1 a2=some a):ds prog T 211 [Fm.av a0,sI a1,sI a2] H (Fm.av a) H:=by
 rw[ew] at hm;refine ea.qT (Post:=λx K=>x=Fm.av a/\∃X,K=H++X) ?_ (λ_ _ h=>⟨_,h.2.choose_spec,by rw[h.1];simp[AV.low,AV.gH],h.1,rfl⟩);have e:=trivial;refine wi aiz func211 [4,5] [] 999 ?_;simp[e];refine sy hm (lR T (st:=λ_:Unit=>H++[[sI a1],[sI a2]]) (y7.const _) (λX _ _ _ _ _ h=>by obtain⟨b,rfl⟩:=oZ h;exact yz T (q0:=(List.length H)) (q1:=(List.length H+1)) adg adg b)) λ_ _ m=>?_;exact au
@[reducible,instance] def OM:=fM 211 @qy
def Br:C2 prog 196 kc (t2 Fm.av sB) cV.av sI:=by
 refine v2 func196 λT H a0 a1 r m e=>?_;rw[kc] at m;exact aa
@[reducible,instance] def O0:=fM 196 @Br
def zf(T:dt){H:cZ}{a0:List Fm}{a1:Pf}{a2:cV}{b:cP}{c:Int}{d:Nat}(a:KC H d a0)(hm:nS a0 a1 a2=some (b,c)):ds prog T 145 [AV.eb d 0,Pf.av a1,cV.av a2] H (AV.tuple [cP.av b,sI c]) H:=by
 rw[nS] at hm;have e:=a;refine wi aiz func145 [] [] 999 ?_;have m:=hm;exact aa
def xG(T:dt){H:cZ}{a0:List Fm}{a1:Pf}{a2:cV}{b:cP}{c:Int}{d:Nat}(a:KC H d a0)(hm:mr a0 a1 a2=some (b,c)):ds prog T 146 [AV.eb d 0,Pf.av a1,cV.av a2] H (AV.tuple [cP.av b,sI c]) H:=by
 rw[mr] at hm;have e:=a;refine wi aiz func146 [] [(1,true,[]),(3,true,[])] 999 ?_;have m:=hm;exact aa
def DV:C2 prog 197 zV Fm.av sI (sL Fm.av):=by
 refine v2 func197 λT H a0 a1 r m e=>?_;rw[zV] at m;exact au
def sU:C3 prog 199 dy sI dW.av sI sI:=by
 refine u3 3 func199 λT H a0 a1 a2 r m e=>?_;rw[dy] at m;simp[e];refine wB 999 999 [] [] (λf=>f.1 18=sB (ep (lQ (dF .i64 a0.vars a1) 16) true (lQ (dF .i64 a0.aiB a2) 16))) λ_ g=>?_;exact aa
@[reducible,instance] def NX:=fM 199 @sU
def IY(T:dt)(b:lT T){H:cZ}{a0:Tm}{a:Int}(hm:oN a0=some a):ds prog T 218 [Tm.av a0] H (sI a) H:=by
 rw[oN] at hm;have e:=b;refine wi aiz func218 [] [] 999 ?_;have m:=hm;exact aa
@[reducible,instance] def Xm:=fM 218 @IY
def EC{n:Nat}:C2 prog 260 (ie n) sB Tm.av Tm.av:=by
 refine i2 λn ih=>u2 3 func260 λT H a0 a1 r m e=>?_;rw[ie] at m;simp[e];refine WA m 999 999 [] [2,3] (λv2 f=>f.1 35=sB v2) [7,0] (λa _ g m=>?_) ?_
 .apply Iq e m<;>intro e m
  .exact hU
  apply Iq e m<;>intro e m
  .exact hU
  simp[e];refine p_ m nV λ_ m=>?_;apply Ir e m<;>intro e m
  .exact hU
  exact hU
 intro _ v2 e m;exact Wb e m 999 39 [37,38] [3] nI
@[reducible,instance] def TW:=fM 260 @EC
def KG:C2 prog 219 qw sB Tm.av Tm.av:=by
 refine v2 func219 λT H a0 a1 r m e=>?_;rw[qw] at m;exact aa
@[reducible,instance] def Y3:=fM 219 @KG
def Iy(T:dt){H:cZ}{a0 a1:Int}{a b:Bool}{q0:Nat}(c:H[q0]?=some [sB a])(hm:qL a0 a1 a=some b):ds prog T 298 [sI a0,sI a1,AV.eb q0 0] H (AV.tuple []) (eR H q0 [sB b]):=by
 rw[qL] at hm;have d:=en c;refine ea.IC c ?_;have e:=d;refine wi aiz func298 [] [] 999 ?_;have m:=hm;exact aa
def Hx(T:dt):∀(n:Nat),(∀{S:Type} {st:S->cZ} {k:Nat} {a0:Tm} {a1:Int} {i:(S->Int->Int->Option (S))} {j:S} {b:S} {q0:Nat} {q1:Nat} {l:Nat} {o:List AV} (hF:y7 st k) (c:∀s,(st s)[q0]?=some [AV.func (.func l) [] o]) (a:tF T l o st i) (d:∀s,(st s)[q1]?=some [AV.func (.func 289) [] [AV.eb q0 0,AV.eb q1 0]]) (hm:ja n a0 a1 i j=some b),ds prog T 289 [Tm.av a0,sI a1,AV.eb q0 0,AV.eb q1 0] (st j) (AV.tuple []) (st b)):=by
  intro n
  induction n with
  |zero=>
    skip
    all_goals(intro _ _;intros;rename_i hm;cases hm)
  |succ n ih=>
 intro S st k a0 a1 i j b q0 q1 l o hF c a d hm;rw[ja] at hm;have t:=λs=>en (c s);have u:=λs=>en (d s);have e:=Aj (Aj (Aj (Aj hF.len t) c) u) d;refine wi aiz func289 [] [] 2 ?_;simp[e];refine Wj hm 999 0 (λv f h=>∃v2,(h=st v2/\f.1 1=sI a1/\f.1 3=AV.eb q1 0/\f.1 4=AV.gv 4 (f.gen 4) 0/\f.box 4=some (Tm.av a0).cells)/\v v2=some b) (λv x g m=>?_) ?_
 .apply Ir e m<;>intro e m
  .exact hU
  refine sw [8,0] ?_;intro y e m;refine iq.Rb adL (tF.SO a e.2) ?_;exact hU
 rintro _ _ ⟨v2,E,m⟩;have e:=Aj e E;refine wj 999 999 (λf h=>h=st v2/\f.1 1=sI (ep (dj a0.aiu 2) (dF .i64 a1 1) a1)/\f.1 3=AV.eb q1 0/\f.1 4=AV.gv 4 (f.gen 4) 0/\f.box 4=some (Tm.av a0).cells) (λ_ g=>?_) ?_
 .rcases Pb (dj a0.aiu 2) e with e|e
  .exact aj
  exact aj
 rintro _ _ E;have e:=Aj e E;simp[e];refine Wr e m 999 (λr q f h=>h=st q/\f.1 1=sI (ep (dj a0.aiu 2) (dF .i64 a1 1) a1)/\f.1 3=AV.eb q1 0/\f.1 22=sL Tm.av a0.aiv/\f.1 23=sI (dq a0.aiv)/\f.1 24=sI r) adg (λq _ _ _ E m=>?_) (λr _ q _ _ _ _ _ E e m z p=>?_)
 .exact aa
 refine sw [10,8,0] ?_;intro w e m;refine iq.Rb adL (ih hF c a d e.2) ?_;exact al
def Ic(T:dt){n:Nat}:=@Hx T n
def y_(T:dt){S:Type}{st:S->cZ}{k:Nat}{a0:Tm}{a1:(S->Int->Int->Option (S))}{c b:S}{g1:Nat}{a:List AV}(hF:y7 st k)(d:tF T g1 a st a1)(hm:qJ a0 a1 c=some b):ds prog T 249 [Tm.av a0,AV.func (.func g1) [] a] (st c) (AV.tuple []) (st b):=by
 rw[qJ] at hm;refine ea.ZG hF (Post:=λx K=>x=AV.tuple []/\∃X,K=(st b)++X) ?_ (λ_ _ h=>⟨_,h.2.choose,h.2.choose_spec,by rw[h.1];simp[AV.low,AV.gH],h.1,rfl⟩);have e:=hF.len;refine wi aiz func249 [3,4] [] 999 ?_;have⟨s1,e,m⟩:=Ah e hm;simp[e];refine iq.Rb adL (Ic T (st:=λs=>st s++[[AV.func (.func g1) [] a],[AV.func (.func 289) [] [AV.eb k 0,AV.eb (k+1) 0]]]) (y7.ext hF _ (n:=k+2) acZ) (λ_=>adg) (tF.ext d) (λ_=>adg) e.2) ?_;exact au
end Go.Proofs.YtjgjcpnoaeljkaaGreatDoor
