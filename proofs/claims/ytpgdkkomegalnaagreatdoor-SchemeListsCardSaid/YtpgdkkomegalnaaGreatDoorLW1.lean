/- Part of the proof of SchemeLists: walks. -/
import Derived.Test.YtpgdkkomegalnaaGreatDoorProg
import Derived.Test.YtpgdkkomegalnaaGreatDoorChecked
import Derived.WalkKit
import Derived.Laws.Bits64b
import Derived.BigCall
import Derived.Test.YtpgdkkomegalnaaGreatDoorLM1
set_option linter.all false
namespace Go.Proofs.YtpgdkkomegalnaaGreatDoor
open Go Go.kY Go.fD Tryz
def ak_:prog.follows .mixedOrders=true:=by kernel_rfl
instance:Nonempty (prog.follows .mixedOrders=true):=⟨ak_⟩
end Go.Proofs.YtpgdkkomegalnaaGreatDoor
namespace Go.fD
open Go Go.kY
mutual
def Ty.av:Ty->AV
 |.mk ak5 ak6=>.agg [sI ak5,AV.slice .gI (Ty.DH ak6)]
def Ty.DH:List Ty->List AV
 |[]=>[]|x::l=>x.av::Ty.DH l
end
def Ty.wU(l:List Ty):Ty.DH l=l.map Ty.av:=by
 induction l with
 |nil=>rfl|cons x l ih=>simp[Ty.DH,ih]
def Ty.eR(ak5:Int)(ak6:List Ty):(Ty.mk ak5 ak6).av=.agg [sI ak5,sL Ty.av ak6]:=by rw[Ty.av];simp only[Ty.wU]
mutual
@[simp] theorem Ty.uV(k:Nat):∀x:Ty,x.av.low k=true
 |.mk ak5 ak6=>by rw[Ty.eR];simp[AV.low,AV.iE,Ty.oq k ak6]
@[simp] theorem Ty.oq(k:Nat):∀l:List Ty,AV.iE k (l.map Ty.av)=true
 |[]=>rfl|x::l=>by simp[AV.iE,Ty.uV k x,Ty.oq k l]
end
def Ty.fN(x:Ty):x.av=.agg [sI x.ak5,sL Ty.av x.ak6]:=by cases x;exact Ty.eR _ _
@[simp] theorem Ty.jG(x:Ty):x.av.cells=[sI x.ak5,sL Ty.av x.ak6]:=by rw[Ty.fN];rfl
@[simp] theorem Ty.qG(x:Ty):fw x.av=true:=by rw[Ty.fN];rfl
@[simp] theorem Ty.m7(x:Ty):x.av.norm=x.av:=by rw[Ty.fN];rfl
@[simp] theorem Ty.ahJ(a:Int)(b:List Ty):AV.agg [sI a,sL Ty.av b]=Ty.av (Ty.mk a b):=by rw[Ty.eR]<;>rfl
@[simp] theorem Ty.ai2(a:Int):AV.agg [sI a,AV.slice .gI []]=Ty.av (Ty.mk a []):=by rw[Ty.eR]<;>rfl
mutual
def Tm.av:Tm->AV
 |.mk ak5 ak8 dM ak6=>.agg [sI ak5,sI ak8,sI dM.ak5,sL Ty.av dM.ak6,AV.slice .gI (Tm.DH ak6)]
def Tm.DH:List Tm->List AV
 |[]=>[]|x::l=>x.av::Tm.DH l
end
def Tm.wU(l:List Tm):Tm.DH l=l.map Tm.av:=by
 induction l with
 |nil=>rfl|cons x l ih=>simp[Tm.DH,ih]
def Tm.eR(ak5 ak8:Int)(dM:Ty)(ak6:List Tm):(Tm.mk ak5 ak8 dM ak6).av=.agg [sI ak5,sI ak8,sI dM.ak5,sL Ty.av dM.ak6,sL Tm.av ak6]:=by rw[Tm.av];simp only[Tm.wU]
mutual
@[simp] theorem Tm.uV(k:Nat):∀x:Tm,x.av.low k=true
 |.mk ak5 ak8 dM ak6=>by rw[Tm.eR];simp[AV.low,AV.iE,Tm.oq k ak6]
@[simp] theorem Tm.oq(k:Nat):∀l:List Tm,AV.iE k (l.map Tm.av)=true
 |[]=>rfl|x::l=>by simp[AV.iE,Tm.uV k x,Tm.oq k l]
end
def Tm.fN(x:Tm):x.av=.agg [sI x.ak5,sI x.ak8,sI x.dM.ak5,sL Ty.av x.dM.ak6,sL Tm.av x.ak6]:=by cases x;exact Tm.eR _ _ _ _
@[simp] theorem Tm.jG(x:Tm):x.av.cells=[sI x.ak5,sI x.ak8,sI x.dM.ak5,sL Ty.av x.dM.ak6,sL Tm.av x.ak6]:=by rw[Tm.fN];rfl
@[simp] theorem Tm.qG(x:Tm):fw x.av=true:=by rw[Tm.fN];rfl
@[simp] theorem Tm.m7(x:Tm):x.av.norm=x.av:=by rw[Tm.fN];rfl
@[simp] theorem Tm.R8(a b c:Int)(c3:List Ty)(d:List Tm):AV.agg [sI a,sI b,sI c,sL Ty.av c3,sL Tm.av d]=Tm.av (Tm.mk a b (Ty.mk c c3) d):=by rw[Tm.eR]<;>rfl
@[simp] theorem Tm.akh(a b c:Int)(d:List Tm):AV.agg [sI a,sI b,sI c,AV.slice .gI [],sL Tm.av d]=Tm.av (Tm.mk a b (Ty.mk c []) d):=by rw[Tm.eR]<;>rfl
@[simp] theorem Tm.abH(a b c:Int):AV.agg [sI a,sI b,sI c,AV.slice .gI [],AV.slice .gI []]=Tm.av (Tm.mk a b (Ty.mk c []) []):=by rw[Tm.eR]<;>rfl
mutual
def Fm.av:Fm->AV
 |.mk ak5 dM eh ak6=>.agg [sI ak5,sI dM.ak5,sL Ty.av dM.ak6,sL Tm.av eh,AV.slice .gI (Fm.DH ak6)]
def Fm.DH:List Fm->List AV
 |[]=>[]|x::l=>x.av::Fm.DH l
end
def Fm.wU(l:List Fm):Fm.DH l=l.map Fm.av:=by
 induction l with
 |nil=>rfl|cons x l ih=>simp[Fm.DH,ih]
def Fm.eR(ak5:Int)(dM:Ty)(eh:List Tm)(ak6:List Fm):(Fm.mk ak5 dM eh ak6).av=.agg [sI ak5,sI dM.ak5,sL Ty.av dM.ak6,sL Tm.av eh,sL Fm.av ak6]:=by rw[Fm.av];simp only[Fm.wU]
mutual
@[simp] theorem Fm.uV(k:Nat):∀x:Fm,x.av.low k=true
 |.mk ak5 dM eh ak6=>by rw[Fm.eR];simp[AV.low,AV.iE,Fm.oq k ak6]
@[simp] theorem Fm.oq(k:Nat):∀l:List Fm,AV.iE k (l.map Fm.av)=true
 |[]=>rfl|x::l=>by simp[AV.iE,Fm.uV k x,Fm.oq k l]
end
def Fm.fN(x:Fm):x.av=.agg [sI x.ak5,sI x.dM.ak5,sL Ty.av x.dM.ak6,sL Tm.av x.eh,sL Fm.av x.ak6]:=by cases x;exact Fm.eR _ _ _ _
@[simp] theorem Fm.jG(x:Fm):x.av.cells=[sI x.ak5,sI x.dM.ak5,sL Ty.av x.dM.ak6,sL Tm.av x.eh,sL Fm.av x.ak6]:=by rw[Fm.fN];rfl
@[simp] theorem Fm.qG(x:Fm):fw x.av=true:=by rw[Fm.fN];rfl
@[simp] theorem Fm.m7(x:Fm):x.av.norm=x.av:=by rw[Fm.fN];rfl
@[simp] theorem Fm.Qk(a b:Int)(c:List Ty)(c3:List Tm)(d:List Fm):AV.agg [sI a,sI b,sL Ty.av c,sL Tm.av c3,sL Fm.av d]=Fm.av (Fm.mk a (Ty.mk b c) c3 d):=by rw[Fm.eR]<;>rfl
@[simp] theorem Fm.adH(a b:Int):AV.agg [sI a,sI b,AV.slice .gI [],AV.slice .gI [],AV.slice .gI []]=Fm.av (Fm.mk a (Ty.mk b []) [] []):=by rw[Fm.eR]<;>rfl
mutual
def Pf.av:Pf->AV
 |.mk ak5 ak8 dM eh fW ak6=>.agg [sI ak5,sI ak8,sI dM.ak5,sL Ty.av dM.ak6,sL Tm.av eh,sL Fm.av fW,AV.slice .gI (Pf.DH ak6)]
def Pf.DH:List Pf->List AV
 |[]=>[]|x::l=>x.av::Pf.DH l
end
def Pf.wU(l:List Pf):Pf.DH l=l.map Pf.av:=by
 induction l with
 |nil=>rfl|cons x l ih=>simp[Pf.DH,ih]
def Pf.eR(ak5 ak8:Int)(dM:Ty)(eh:List Tm)(fW:List Fm)(ak6:List Pf):(Pf.mk ak5 ak8 dM eh fW ak6).av=.agg [sI ak5,sI ak8,sI dM.ak5,sL Ty.av dM.ak6,sL Tm.av eh,sL Fm.av fW,sL Pf.av ak6]:=by rw[Pf.av];simp only[Pf.wU]
mutual
@[simp] theorem Pf.uV(k:Nat):∀x:Pf,x.av.low k=true
 |.mk ak5 ak8 dM eh fW ak6=>by rw[Pf.eR];simp[AV.low,AV.iE,Pf.oq k ak6]
@[simp] theorem Pf.oq(k:Nat):∀l:List Pf,AV.iE k (l.map Pf.av)=true
 |[]=>rfl|x::l=>by simp[AV.iE,Pf.uV k x,Pf.oq k l]
end
def Pf.fN(x:Pf):x.av=.agg [sI x.ak5,sI x.ak8,sI x.dM.ak5,sL Ty.av x.dM.ak6,sL Tm.av x.eh,sL Fm.av x.fW,sL Pf.av x.ak6]:=by cases x;exact Pf.eR _ _ _ _ _ _
@[simp] theorem Pf.jG(x:Pf):x.av.cells=[sI x.ak5,sI x.ak8,sI x.dM.ak5,sL Ty.av x.dM.ak6,sL Tm.av x.eh,sL Fm.av x.fW,sL Pf.av x.ak6]:=by rw[Pf.fN];rfl
@[simp] theorem Pf.qG(x:Pf):fw x.av=true:=by rw[Pf.fN];rfl
@[simp] theorem Pf.m7(x:Pf):x.av.norm=x.av:=by rw[Pf.fN];rfl
@[simp] theorem Pf.Sb(a b c:Int)(c3:List Ty)(d:List Tm)(c5:List Fm)(f:List Pf):AV.agg [sI a,sI b,sI c,sL Ty.av c3,sL Tm.av d,sL Fm.av c5,sL Pf.av f]=Pf.av (Pf.mk a b (Ty.mk c c3) d c5 f):=by rw[Pf.eR]<;>rfl
@[simp] theorem Pf.aiM(a b c:Int)(d:List Pf):AV.agg [sI a,sI b,sI c,AV.slice .gI [],AV.slice .gI [],AV.slice .gI [],sL Pf.av d]=Pf.av (Pf.mk a b (Ty.mk c []) [] [] d):=by rw[Pf.eR]<;>rfl
@[simp] theorem Pf.aam(a b c:Int):AV.agg [sI a,sI b,sI c,AV.slice .gI [],AV.slice .gI [],AV.slice .gI [],AV.slice .gI []]=Pf.av (Pf.mk a b (Ty.mk c []) [] [] []):=by rw[Pf.eR]<;>rfl
def Sq.av(x:Sq):AV:=.agg [sL Ty.av x.ak9,sL Fm.av x.ala]
def Sq.eR(ak9:List Ty)(ala:List Fm):(Sq.mk ak9 ala).av=.agg [sL Ty.av ak9,sL Fm.av ala]:=rfl
def Sq.fN(x:Sq):x.av=.agg [sL Ty.av x.ak9,sL Fm.av x.ala]:=by cases x;exact Sq.eR _ _
@[simp] theorem Sq.jG(x:Sq):x.av.cells=[sL Ty.av x.ak9,sL Fm.av x.ala]:=by rw[Sq.fN];rfl
@[simp] theorem Sq.qG(x:Sq):fw x.av=true:=by rw[Sq.fN];rfl
@[simp] theorem Sq.m7(x:Sq):x.av.norm=x.av:=by rw[Sq.fN];rfl
@[simp] theorem Sq.R8(a:List Ty)(b:List Fm):AV.agg [sL Ty.av a,sL Fm.av b]=Sq.av (Sq.mk a b):=by rw[Sq.eR]<;>rfl
@[simp] theorem Sq.abH:AV.agg [AV.slice .gI [],AV.slice .gI []]=Sq.av (Sq.mk [] []):=by rw[Sq.eR]<;>rfl
mutual
def Vl.av:Vl->AV
 |.mk ak5 num list ak6=>.agg [sI ak5,sI num,AV.slice .gI (List.map (λn=>AV.sc (Value.int .i64 n)) list),AV.slice .gI (Vl.DH ak6)]
def Vl.DH:List Vl->List AV
 |[]=>[]|x::l=>x.av::Vl.DH l
end
def Vl.wU(l:List Vl):Vl.DH l=l.map Vl.av:=by
 induction l with
 |nil=>rfl|cons x l ih=>simp[Vl.DH,ih]
def Vl.eR(ak5 num:Int)(list:List Int)(ak6:List Vl):(Vl.mk ak5 num list ak6).av=.agg [sI ak5,sI num,AV.slice .gI (List.map (λn=>AV.sc (Value.int .i64 n)) list),sL Vl.av ak6]:=by rw[Vl.av];simp only[Vl.wU]
mutual
@[simp] theorem Vl.uV(k:Nat):∀x:Vl,x.av.low k=true
 |.mk ak5 num list ak6=>by rw[Vl.eR];simp[AV.low,AV.iE,Vl.oq k ak6]
@[simp] theorem Vl.oq(k:Nat):∀l:List Vl,AV.iE k (l.map Vl.av)=true
 |[]=>rfl|x::l=>by simp[AV.iE,Vl.uV k x,Vl.oq k l]
end
def Vl.fN(x:Vl):x.av=.agg [sI x.ak5,sI x.num,AV.slice .gI (List.map (λn=>AV.sc (Value.int .i64 n)) x.list),sL Vl.av x.ak6]:=by cases x;exact Vl.eR _ _ _ _
@[simp] theorem Vl.jG(x:Vl):x.av.cells=[sI x.ak5,sI x.num,AV.slice .gI (List.map (λn=>AV.sc (Value.int .i64 n)) x.list),sL Vl.av x.ak6]:=by rw[Vl.fN];rfl
@[simp] theorem Vl.qG(x:Vl):fw x.av=true:=by rw[Vl.fN];rfl
@[simp] theorem Vl.m7(x:Vl):x.av.norm=x.av:=by rw[Vl.fN];rfl
@[simp] theorem Vl.R8(a b:Int)(c:List Int)(c3:List Vl):AV.agg [sI a,sI b,AV.slice .gI (List.map (λn=>AV.sc (Value.int .i64 n)) c),sL Vl.av c3]=Vl.av (Vl.mk a b c c3):=by rw[Vl.eR]<;>rfl
@[simp] theorem Vl.aj_(a b:Int)(c:List Int):AV.agg [sI a,sI b,AV.slice .gI (List.map (λn=>AV.sc (Value.int .i64 n)) c),AV.slice .gI []]=Vl.av (Vl.mk a b c []):=by rw[Vl.eR]<;>rfl
@[simp] theorem Vl.abH(a b:Int):AV.agg [sI a,sI b,AV.slice .gI [],AV.slice .gI []]=Vl.av (Vl.mk a b [] []):=by rw[Vl.eR]<;>rfl
def eF.av(x:eF):AV:=.agg [AV.slice .gI (List.map (λn=>AV.sc (Value.int .i64 n)) x.l),sI x.xX]
def eF.eR(l:List Int)(xX:Int):(eF.mk l xX).av=.agg [AV.slice .gI (List.map (λn=>AV.sc (Value.int .i64 n)) l),sI xX]:=rfl
def eF.fN(x:eF):x.av=.agg [AV.slice .gI (List.map (λn=>AV.sc (Value.int .i64 n)) x.l),sI x.xX]:=by cases x;exact eF.eR _ _
@[simp] theorem eF.jG(x:eF):x.av.cells=[AV.slice .gI (List.map (λn=>AV.sc (Value.int .i64 n)) x.l),sI x.xX]:=by rw[eF.fN];rfl
@[simp] theorem eF.qG(x:eF):fw x.av=true:=by rw[eF.fN];rfl
@[simp] theorem eF.ahJ(a:List Int)(b:Int):AV.agg [AV.slice .gI (List.map (λn=>AV.sc (Value.int .i64 n)) a),sI b]=eF.av (eF.mk a b):=by rw[eF.eR]<;>rfl
def sW.av(x:sW):AV:=.agg [sI x.dZ.ak5,sI x.dZ.dM.ak5,sL Ty.av x.dZ.dM.ak6,sL Tm.av x.dZ.eh,sL Fm.av x.dZ.ak6,AV.slice .gI (List.map (λn=>AV.sc (Value.int .i64 n)) x.jL)]
def sW.eR(dZ:Fm)(jL:List Int):(sW.mk dZ jL).av=.agg [sI dZ.ak5,sI dZ.dM.ak5,sL Ty.av dZ.dM.ak6,sL Tm.av dZ.eh,sL Fm.av dZ.ak6,AV.slice .gI (List.map (λn=>AV.sc (Value.int .i64 n)) jL)]:=rfl
@[simp] theorem sW.uV(k:Nat)(x:sW):x.av.low k=true:=by
 cases x;rw[sW.eR];simp[AV.low,AV.iE]
def sW.fN(x:sW):x.av=.agg [sI x.dZ.ak5,sI x.dZ.dM.ak5,sL Ty.av x.dZ.dM.ak6,sL Tm.av x.dZ.eh,sL Fm.av x.dZ.ak6,AV.slice .gI (List.map (λn=>AV.sc (Value.int .i64 n)) x.jL)]:=by cases x;exact sW.eR _ _
@[simp] theorem sW.jG(x:sW):x.av.cells=[sI x.dZ.ak5,sI x.dZ.dM.ak5,sL Ty.av x.dZ.dM.ak6,sL Tm.av x.dZ.eh,sL Fm.av x.dZ.ak6,AV.slice .gI (List.map (λn=>AV.sc (Value.int .i64 n)) x.jL)]:=by rw[sW.fN];rfl
@[simp] theorem sW.qG(x:sW):fw x.av=true:=by rw[sW.fN];rfl
@[simp] theorem sW.m7(x:sW):x.av.norm=x.av:=by rw[sW.fN];rfl
@[simp] theorem sW.Sb(a b:Int)(c:List Ty)(c3:List Tm)(d:List Fm)(c5:List Int):AV.agg [sI a,sI b,sL Ty.av c,sL Tm.av c3,sL Fm.av d,AV.slice .gI (List.map (λn=>AV.sc (Value.int .i64 n)) c5)]=sW.av (sW.mk (Fm.mk a (Ty.mk b c) c3 d) c5):=by rw[sW.eR]<;>rfl
@[simp] theorem sW.aam(a b:Int):AV.agg [sI a,sI b,AV.slice .gI [],AV.slice .gI [],AV.slice .gI [],AV.slice .gI []]=sW.av (sW.mk (Fm.mk a (Ty.mk b []) [] []) []):=by rw[sW.eR]<;>rfl
def dT.av(x:dT):AV:=.agg [sL Fm.av x.lemmas,sL Tm.av x.eh,sI x.next]
def dT.eR(lemmas:List Fm)(eh:List Tm)(next:Int):(dT.mk lemmas eh next).av=.agg [sL Fm.av lemmas,sL Tm.av eh,sI next]:=rfl
def dT.fN(x:dT):x.av=.agg [sL Fm.av x.lemmas,sL Tm.av x.eh,sI x.next]:=by cases x;exact dT.eR _ _ _
@[simp] theorem dT.jG(x:dT):x.av.cells=[sL Fm.av x.lemmas,sL Tm.av x.eh,sI x.next]:=by rw[dT.fN];rfl
@[simp] theorem dT.qG(x:dT):fw x.av=true:=by rw[dT.fN];rfl
@[simp] theorem dT.R8(a:List Fm)(b:List Tm)(c:Int):AV.agg [sL Fm.av a,sL Tm.av b,sI c]=dT.av (dT.mk a b c):=by rw[dT.eR]<;>rfl
def er.av(x:er):AV:=.agg [sL Ty.av x.ir.ak9,sL Fm.av x.ir.ala,sL Tm.av x.vars,sL Tm.av x.ala]
def er.eR(ir:Sq)(vars ala:List Tm):(er.mk ir vars ala).av=.agg [sL Ty.av ir.ak9,sL Fm.av ir.ala,sL Tm.av vars,sL Tm.av ala]:=rfl
def er.fN(x:er):x.av=.agg [sL Ty.av x.ir.ak9,sL Fm.av x.ir.ala,sL Tm.av x.vars,sL Tm.av x.ala]:=by cases x;exact er.eR _ _ _
@[simp] theorem er.jG(x:er):x.av.cells=[sL Ty.av x.ir.ak9,sL Fm.av x.ir.ala,sL Tm.av x.vars,sL Tm.av x.ala]:=by rw[er.fN];rfl
@[simp] theorem er.qG(x:er):fw x.av=true:=by rw[er.fN];rfl
@[simp] theorem er.m7(x:er):x.av.norm=x.av:=by rw[er.fN];rfl
@[simp] theorem er.Sb(a:List Ty)(b:List Fm)(c c3:List Tm):AV.agg [sL Ty.av a,sL Fm.av b,sL Tm.av c,sL Tm.av c3]=er.av (er.mk (Sq.mk a b) c c3):=by rw[er.eR]<;>rfl
def dV.av(x:dV):AV:=.agg [sI x.used,sI x.qQ,sB x.out]
def dV.eR(used qQ:Int)(out:Bool):(dV.mk used qQ out).av=.agg [sI used,sI qQ,sB out]:=rfl
def dV.fN(x:dV):x.av=.agg [sI x.used,sI x.qQ,sB x.out]:=by cases x;exact dV.eR _ _ _
@[simp] theorem dV.jG(x:dV):x.av.cells=[sI x.used,sI x.qQ,sB x.out]:=by rw[dV.fN];rfl
@[simp] theorem dV.qG(x:dV):fw x.av=true:=by rw[dV.fN];rfl
@[simp] theorem dV.agg(a b:Int)(c:Bool):AV.agg [sI a,sI b,sB c]=dV.av (dV.mk a b c):=by rw[dV.eR]<;>rfl
mutual
def dJ.av:dJ->AV
 |.mk num list pair body env=>.agg [sI num,AV.slice .gI (List.map (λn=>AV.sc (Value.int .i64 n)) list),AV.slice .gI (dJ.DH pair),sI body.ak5,sI body.ak8,sI body.dM.ak5,sL Ty.av body.dM.ak6,sL Tm.av body.ak6,AV.slice .gI (dJ.DH env)]
def dJ.DH:List dJ->List AV
 |[]=>[]|x::l=>x.av::dJ.DH l
end
def dJ.wU(l:List dJ):dJ.DH l=l.map dJ.av:=by
 induction l with
 |nil=>rfl|cons x l ih=>simp[dJ.DH,ih]
def dJ.eR(num:Int)(list:List Int)(pair:List dJ)(body:Tm)(env:List dJ):(dJ.mk num list pair body env).av=.agg [sI num,AV.slice .gI (List.map (λn=>AV.sc (Value.int .i64 n)) list),sL dJ.av pair,sI body.ak5,sI body.ak8,sI body.dM.ak5,sL Ty.av body.dM.ak6,sL Tm.av body.ak6,sL dJ.av env]:=by rw[dJ.av];simp only[dJ.wU]
def dJ.fN(x:dJ):x.av=.agg [sI x.num,AV.slice .gI (List.map (λn=>AV.sc (Value.int .i64 n)) x.list),sL dJ.av x.pair,sI x.body.ak5,sI x.body.ak8,sI x.body.dM.ak5,sL Ty.av x.body.dM.ak6,sL Tm.av x.body.ak6,sL dJ.av x.env]:=by cases x;exact dJ.eR _ _ _ _ _
@[simp] theorem dJ.jG(x:dJ):x.av.cells=[sI x.num,AV.slice .gI (List.map (λn=>AV.sc (Value.int .i64 n)) x.list),sL dJ.av x.pair,sI x.body.ak5,sI x.body.ak8,sI x.body.dM.ak5,sL Ty.av x.body.dM.ak6,sL Tm.av x.body.ak6,sL dJ.av x.env]:=by rw[dJ.fN];rfl
@[simp] theorem dJ.qG(x:dJ):fw x.av=true:=by rw[dJ.fN];rfl
@[simp] theorem dJ.m7(x:dJ):x.av.norm=x.av:=by rw[dJ.fN];rfl
@[simp] theorem dJ.Xd(a:Int)(b:List Int)(c:List dJ)(c3 d c5:Int)(f:List Ty)(h:List Tm)(i:List dJ):AV.agg [sI a,AV.slice .gI (List.map (λn=>AV.sc (Value.int .i64 n)) b),sL dJ.av c,sI c3,sI d,sI c5,sL Ty.av f,sL Tm.av h,sL dJ.av i]=dJ.av (dJ.mk a b c (Tm.mk c3 d (Ty.mk c5 f) h) i):=by rw[dJ.eR]<;>rfl
@[simp] theorem dJ.Vo(a:Int)(b:List Int)(c:List dJ)(c3 d c5:Int):AV.agg [sI a,AV.slice .gI (List.map (λn=>AV.sc (Value.int .i64 n)) b),sL dJ.av c,sI c3,sI d,sI c5,AV.slice .gI [],AV.slice .gI [],AV.slice .gI []]=dJ.av (dJ.mk a b c (Tm.mk c3 d (Ty.mk c5 []) []) []):=by rw[dJ.eR]<;>rfl
@[simp] theorem dJ.Vm(a:Int)(b:List Int)(c3 c c5:Int):AV.agg [sI a,AV.slice .gI (List.map (λn=>AV.sc (Value.int .i64 n)) b),AV.slice .gI [],sI c3,sI c,sI c5,AV.slice .gI [],AV.slice .gI [],AV.slice .gI []]=dJ.av (dJ.mk a b [] (Tm.mk c3 c (Ty.mk c5 []) []) []):=by rw[dJ.eR]<;>rfl
@[simp] theorem dJ.WK(a:Int)(b:List dJ)(c3 c c5:Int):AV.agg [sI a,AV.slice .gI [],sL dJ.av b,sI c3,sI c,sI c5,AV.slice .gI [],AV.slice .gI [],AV.slice .gI []]=dJ.av (dJ.mk a [] b (Tm.mk c3 c (Ty.mk c5 []) []) []):=by rw[dJ.eR]<;>rfl
@[simp] theorem dJ.Vt(a c3 b c5:Int)(c:List Ty)(d:List Tm)(f:List dJ):AV.agg [sI a,AV.slice .gI [],AV.slice .gI [],sI c3,sI b,sI c5,sL Ty.av c,sL Tm.av d,sL dJ.av f]=dJ.av (dJ.mk a [] [] (Tm.mk c3 b (Ty.mk c5 c) d) f):=by rw[dJ.eR]<;>rfl
@[simp] theorem dJ.V'(a c3 b c5:Int):AV.agg [sI a,AV.slice .gI [],AV.slice .gI [],sI c3,sI b,sI c5,AV.slice .gI [],AV.slice .gI [],AV.slice .gI []]=dJ.av (dJ.mk a [] [] (Tm.mk c3 b (Ty.mk c5 []) []) []):=by rw[dJ.eR]<;>rfl
def dS.av(x:dS):AV:=.agg [sL Fm.av x.lemmas,sL Ty.av x.ak9,sL Fm.av x.ala]
def dS.eR(lemmas:List Fm)(ak9:List Ty)(ala:List Fm):(dS.mk lemmas ak9 ala).av=.agg [sL Fm.av lemmas,sL Ty.av ak9,sL Fm.av ala]:=rfl
def dS.fN(x:dS):x.av=.agg [sL Fm.av x.lemmas,sL Ty.av x.ak9,sL Fm.av x.ala]:=by cases x;exact dS.eR _ _ _
@[simp] theorem dS.jG(x:dS):x.av.cells=[sL Fm.av x.lemmas,sL Ty.av x.ak9,sL Fm.av x.ala]:=by rw[dS.fN];rfl
@[simp] theorem dS.qG(x:dS):fw x.av=true:=by rw[dS.fN];rfl
@[simp] theorem dS.m7(x:dS):x.av.norm=x.av:=by rw[dS.fN];rfl
@[simp] theorem dS.Qk(a:List Fm)(b:List Ty)(c:List Fm):AV.agg [sL Fm.av a,sL Ty.av b,sL Fm.av c]=dS.av (dS.mk a b c):=by rw[dS.eR]<;>rfl
def dN.av(x:dN):AV:=.agg [sI x.dM.ak5,sL Ty.av x.dM.ak6,sI x.ak7]
def dN.eR(dM:Ty)(ak7:Int):(dN.mk dM ak7).av=.agg [sI dM.ak5,sL Ty.av dM.ak6,sI ak7]:=rfl
def dN.fN(x:dN):x.av=.agg [sI x.dM.ak5,sL Ty.av x.dM.ak6,sI x.ak7]:=by cases x;exact dN.eR _ _
@[simp] theorem dN.jG(x:dN):x.av.cells=[sI x.dM.ak5,sL Ty.av x.dM.ak6,sI x.ak7]:=by rw[dN.fN];rfl
@[simp] theorem dN.qG(x:dN):fw x.av=true:=by rw[dN.fN];rfl
@[simp] theorem dN.m7(x:dN):x.av.norm=x.av:=by rw[dN.fN];rfl
@[simp] theorem dN.ahJ(a:Int)(b:List Ty)(c:Int):AV.agg [sI a,sL Ty.av b,sI c]=dN.av (dN.mk (Ty.mk a b) c):=by rw[dN.eR]<;>rfl
@[simp] theorem dN.ai2(a b:Int):AV.agg [sI a,AV.slice .gI [],sI b]=dN.av (dN.mk (Ty.mk a []) b):=by rw[dN.eR]<;>rfl
def d_.av(x:d_):AV:=.agg [sI x.dZ.ak5,sI x.dZ.dM.ak5,sL Ty.av x.dZ.dM.ak6,sL Tm.av x.dZ.eh,sL Fm.av x.dZ.ak6,AV.sc (.int .u32 x.jL)]
def d_.eR(dZ:Fm)(jL:Int):(d_.mk dZ jL).av=.agg [sI dZ.ak5,sI dZ.dM.ak5,sL Ty.av dZ.dM.ak6,sL Tm.av dZ.eh,sL Fm.av dZ.ak6,AV.sc (.int .u32 jL)]:=rfl
def d_.fN(x:d_):x.av=.agg [sI x.dZ.ak5,sI x.dZ.dM.ak5,sL Ty.av x.dZ.dM.ak6,sL Tm.av x.dZ.eh,sL Fm.av x.dZ.ak6,AV.sc (.int .u32 x.jL)]:=by cases x;exact d_.eR _ _
@[simp] theorem d_.jG(x:d_):x.av.cells=[sI x.dZ.ak5,sI x.dZ.dM.ak5,sL Ty.av x.dZ.dM.ak6,sL Tm.av x.dZ.eh,sL Fm.av x.dZ.ak6,AV.sc (.int .u32 x.jL)]:=by rw[d_.fN];rfl
@[simp] theorem d_.qG(x:d_):fw x.av=true:=by rw[d_.fN];rfl
@[simp] theorem d_.m7(x:d_):x.av.norm=x.av:=by rw[d_.fN];rfl
@[simp] theorem d_.Qk(a b:Int)(c:List Ty)(c3:List Tm)(d:List Fm)(c5:Int):AV.agg [sI a,sI b,sL Ty.av c,sL Tm.av c3,sL Fm.av d,AV.sc (.int .u32 c5)]=d_.av (d_.mk (Fm.mk a (Ty.mk b c) c3 d) c5):=by rw[d_.eR]<;>rfl
@[simp] theorem d_.adH(a b c5:Int):AV.agg [sI a,sI b,AV.slice .gI [],AV.slice .gI [],AV.slice .gI [],AV.sc (.int .u32 c5)]=d_.av (d_.mk (Fm.mk a (Ty.mk b []) [] []) c5):=by rw[d_.eR]<;>rfl
def eQ.av(x:eQ):AV:=.agg [sI x.vars,sI x.ala]
def eQ.eR(vars ala:Int):(eQ.mk vars ala).av=.agg [sI vars,sI ala]:=rfl
def eQ.fN(x:eQ):x.av=.agg [sI x.vars,sI x.ala]:=by cases x;exact eQ.eR _ _
@[simp] theorem eQ.jG(x:eQ):x.av.cells=[sI x.vars,sI x.ala]:=by rw[eQ.fN];rfl
@[simp] theorem eQ.qG(x:eQ):fw x.av=true:=by rw[eQ.fN];rfl
@[simp] theorem eQ.m7(x:eQ):x.av.norm=x.av:=by rw[eQ.fN];rfl
@[simp] theorem eQ.agg(a b:Int):AV.agg [sI a,sI b]=eQ.av (eQ.mk a b):=by rw[eQ.eR]<;>rfl
def en.av(x:en):AV:=.agg [sI x.dZ.ak5,sI x.dZ.dM.ak5,sL Ty.av x.dZ.dM.ak6,sL Tm.av x.dZ.eh,sL Fm.av x.dZ.ak6,sI x.vars]
def en.eR(dZ:Fm)(vars:Int):(en.mk dZ vars).av=.agg [sI dZ.ak5,sI dZ.dM.ak5,sL Ty.av dZ.dM.ak6,sL Tm.av dZ.eh,sL Fm.av dZ.ak6,sI vars]:=rfl
def en.fN(x:en):x.av=.agg [sI x.dZ.ak5,sI x.dZ.dM.ak5,sL Ty.av x.dZ.dM.ak6,sL Tm.av x.dZ.eh,sL Fm.av x.dZ.ak6,sI x.vars]:=by cases x;exact en.eR _ _
@[simp] theorem en.jG(x:en):x.av.cells=[sI x.dZ.ak5,sI x.dZ.dM.ak5,sL Ty.av x.dZ.dM.ak6,sL Tm.av x.dZ.eh,sL Fm.av x.dZ.ak6,sI x.vars]:=by rw[en.fN];rfl
@[simp] theorem en.qG(x:en):fw x.av=true:=by rw[en.fN];rfl
@[simp] theorem en.m7(x:en):x.av.norm=x.av:=by rw[en.fN];rfl
@[simp] theorem en.Qk(a b:Int)(c:List Ty)(c3:List Tm)(d:List Fm)(c5:Int):AV.agg [sI a,sI b,sL Ty.av c,sL Tm.av c3,sL Fm.av d,sI c5]=en.av (en.mk (Fm.mk a (Ty.mk b c) c3 d) c5):=by rw[en.eR]<;>rfl
def ew.av(x:ew):AV:=.agg [sI x.nu.vars,sI x.nu.ala,sL dN.av x.ak9,sL en.av x.known]
def ew.eR(nu:eQ)(ak9:List dN)(known:List en):(ew.mk nu ak9 known).av=.agg [sI nu.vars,sI nu.ala,sL dN.av ak9,sL en.av known]:=rfl
def ew.fN(x:ew):x.av=.agg [sI x.nu.vars,sI x.nu.ala,sL dN.av x.ak9,sL en.av x.known]:=by cases x;exact ew.eR _ _ _
@[simp] theorem ew.jG(x:ew):x.av.cells=[sI x.nu.vars,sI x.nu.ala,sL dN.av x.ak9,sL en.av x.known]:=by rw[ew.fN];rfl
@[simp] theorem ew.qG(x:ew):fw x.av=true:=by rw[ew.fN];rfl
@[simp] theorem ew.m7(x:ew):x.av.norm=x.av:=by rw[ew.fN];rfl
@[simp] theorem ew.R8(a b:Int)(c:List dN)(c3:List en):AV.agg [sI a,sI b,sL dN.av c,sL en.av c3]=ew.av (ew.mk (eQ.mk a b) c c3):=by rw[ew.eR]<;>rfl
def dX.av(x:dX):AV:=.agg [sI x.ak7,sB x.iS]
def dX.eR(ak7:Int)(iS:Bool):(dX.mk ak7 iS).av=.agg [sI ak7,sB iS]:=rfl
def dX.fN(x:dX):x.av=.agg [sI x.ak7,sB x.iS]:=by cases x;exact dX.eR _ _
@[simp] theorem dX.jG(x:dX):x.av.cells=[sI x.ak7,sB x.iS]:=by rw[dX.fN];rfl
@[simp] theorem dX.qG(x:dX):fw x.av=true:=by rw[dX.fN];rfl
@[simp] theorem dX.agg(a:Int)(b:Bool):AV.agg [sI a,sB b]=dX.av (dX.mk a b):=by rw[dX.eR]<;>rfl
def e9.av(x:e9):AV:=.agg [sI x.eh,sI x.fW,sI x.ak6,sB x.ak8,sB x.M']
def e9.eR(eh fW ak6:Int)(ak8 M':Bool):(e9.mk eh fW ak6 ak8 M').av=.agg [sI eh,sI fW,sI ak6,sB ak8,sB M']:=rfl
def e9.fN(x:e9):x.av=.agg [sI x.eh,sI x.fW,sI x.ak6,sB x.ak8,sB x.M']:=by cases x;exact e9.eR _ _ _ _ _
@[simp] theorem e9.jG(x:e9):x.av.cells=[sI x.eh,sI x.fW,sI x.ak6,sB x.ak8,sB x.M']:=by rw[e9.fN];rfl
@[simp] theorem e9.qG(x:e9):fw x.av=true:=by rw[e9.fN];rfl
@[simp] theorem e9.m7(x:e9):x.av.norm=x.av:=by rw[e9.fN];rfl
@[simp] theorem e9.agg(a b c:Int)(c3 d:Bool):AV.agg [sI a,sI b,sI c,sB c3,sB d]=e9.av (e9.mk a b c c3 d):=by rw[e9.eR]<;>rfl
def ft.av(x:ft):AV:=.agg [sB x.ak8,sB x.typed,sI x.eh,sI x.fW,sI x.ak6,sI x.uG,sI x.vars,sI x.ala]
def ft.eR(ak8 typed:Bool)(eh fW ak6 uG vars ala:Int):(ft.mk ak8 typed eh fW ak6 uG vars ala).av=.agg [sB ak8,sB typed,sI eh,sI fW,sI ak6,sI uG,sI vars,sI ala]:=rfl
def ft.fN(x:ft):x.av=.agg [sB x.ak8,sB x.typed,sI x.eh,sI x.fW,sI x.ak6,sI x.uG,sI x.vars,sI x.ala]:=by cases x;exact ft.eR _ _ _ _ _ _ _ _
@[simp] theorem ft.jG(x:ft):x.av.cells=[sB x.ak8,sB x.typed,sI x.eh,sI x.fW,sI x.ak6,sI x.uG,sI x.vars,sI x.ala]:=by rw[ft.fN];rfl
@[simp] theorem ft.qG(x:ft):fw x.av=true:=by rw[ft.fN];rfl
@[simp] theorem ft.m7(x:ft):x.av.norm=x.av:=by rw[ft.fN];rfl
@[simp] theorem ft.agg(a b:Bool)(c c3 d c5 f h:Int):AV.agg [sB a,sB b,sI c,sI c3,sI d,sI c5,sI f,sI h]=ft.av (ft.mk a b c c3 d c5 f h):=by rw[ft.eR]<;>rfl
def ee.av(x:ee):AV:=.agg [sI x.ak5,sI x.base.ak5,sI x.base.ak8,sI x.base.dM.ak5,sL Ty.av x.base.dM.ak6,sL Tm.av x.base.ak6,sL Ty.av x.vars,sI x.next.ak5,sI x.next.ak8,sI x.next.dM.ak5,sL Ty.av x.next.dM.ak6,sL Tm.av x.next.ak6]
def ee.eR(ak5:Int)(base:Tm)(vars:List Ty)(next:Tm):(ee.mk ak5 base vars next).av=.agg [sI ak5,sI base.ak5,sI base.ak8,sI base.dM.ak5,sL Ty.av base.dM.ak6,sL Tm.av base.ak6,sL Ty.av vars,sI next.ak5,sI next.ak8,sI next.dM.ak5,sL Ty.av next.dM.ak6,sL Tm.av next.ak6]:=rfl
@[simp] theorem ee.uV(k:Nat)(x:ee):x.av.low k=true:=by
 cases x;rw[ee.eR];simp[AV.low,AV.iE]
@[simp] theorem ee.oq(k:Nat)(l:List ee):AV.iE k (l.map ee.av)=true:=by
 rw[AV.wm];intro x a;obtain⟨y,_,rfl⟩:=qp.1 a;exact ee.uV k y
def ee.fN(x:ee):x.av=.agg [sI x.ak5,sI x.base.ak5,sI x.base.ak8,sI x.base.dM.ak5,sL Ty.av x.base.dM.ak6,sL Tm.av x.base.ak6,sL Ty.av x.vars,sI x.next.ak5,sI x.next.ak8,sI x.next.dM.ak5,sL Ty.av x.next.dM.ak6,sL Tm.av x.next.ak6]:=by cases x;exact ee.eR _ _ _ _
@[simp] theorem ee.jG(x:ee):x.av.cells=[sI x.ak5,sI x.base.ak5,sI x.base.ak8,sI x.base.dM.ak5,sL Ty.av x.base.dM.ak6,sL Tm.av x.base.ak6,sL Ty.av x.vars,sI x.next.ak5,sI x.next.ak8,sI x.next.dM.ak5,sL Ty.av x.next.dM.ak6,sL Tm.av x.next.ak6]:=by rw[ee.fN];rfl
@[simp] theorem ee.qG(x:ee):fw x.av=true:=by rw[ee.fN];rfl
@[simp] theorem ee.m7(x:ee):x.av.norm=x.av:=by rw[ee.fN];rfl
@[simp] theorem ee.Xd(c d f c3:Int)(h:List Ty)(c5:List Tm)(i:List Ty)(j k l:Int)(a:List Ty)(b:List Tm):AV.agg [sI c,sI d,sI f,sI c3,sL Ty.av h,sL Tm.av c5,sL Ty.av i,sI j,sI k,sI l,sL Ty.av a,sL Tm.av b]=ee.av (ee.mk c (Tm.mk d f (Ty.mk c3 h) c5) i (Tm.mk j k (Ty.mk l a) b)):=by rw[ee.eR]<;>rfl
@[simp] theorem ee.Vo(a b c c3:Int)(d:List Ty)(c5:List Tm)(f h i:Int):AV.agg [sI a,sI b,sI c,sI c3,sL Ty.av d,sL Tm.av c5,AV.slice .gI [],sI f,sI h,sI i,AV.slice .gI [],AV.slice .gI []]=ee.av (ee.mk a (Tm.mk b c (Ty.mk c3 d) c5) [] (Tm.mk f h (Ty.mk i []) [])):=by rw[ee.eR]<;>rfl
@[simp] theorem ee.Vm(a b c c3:Int)(d:List Ty)(f h i:Int):AV.agg [sI a,sI b,sI c,sI c3,sL Ty.av d,AV.slice .gI [],AV.slice .gI [],sI f,sI h,sI i,AV.slice .gI [],AV.slice .gI []]=ee.av (ee.mk a (Tm.mk b c (Ty.mk c3 d) []) [] (Tm.mk f h (Ty.mk i []) [])):=by rw[ee.eR]<;>rfl
@[simp] theorem ee.WK(a b c c3:Int)(c5:List Tm)(d f h:Int):AV.agg [sI a,sI b,sI c,sI c3,AV.slice .gI [],sL Tm.av c5,AV.slice .gI [],sI d,sI f,sI h,AV.slice .gI [],AV.slice .gI []]=ee.av (ee.mk a (Tm.mk b c (Ty.mk c3 []) c5) [] (Tm.mk d f (Ty.mk h []) [])):=by rw[ee.eR]<;>rfl
@[simp] theorem ee.Vt(c d f c3:Int)(h:List Ty)(i j k:Int)(a:List Ty)(b:List Tm):AV.agg [sI c,sI d,sI f,sI c3,AV.slice .gI [],AV.slice .gI [],sL Ty.av h,sI i,sI j,sI k,sL Ty.av a,sL Tm.av b]=ee.av (ee.mk c (Tm.mk d f (Ty.mk c3 []) []) h (Tm.mk i j (Ty.mk k a) b)):=by rw[ee.eR]<;>rfl
@[simp] theorem ee.V'(a b c c3 d f h:Int):AV.agg [sI a,sI b,sI c,sI c3,AV.slice .gI [],AV.slice .gI [],AV.slice .gI [],sI d,sI f,sI h,AV.slice .gI [],AV.slice .gI []]=ee.av (ee.mk a (Tm.mk b c (Ty.mk c3 []) []) [] (Tm.mk d f (Ty.mk h []) [])):=by rw[ee.eR]<;>rfl
def HC.cells(k:Nat):HC->List AV
 |.Kk x=>[pav k x.term,sI x.steps]|.GD x=>[sI x.ak5,sI x.ak8,sI x.M'.ak5,sL Ty.av x.M'.ak6,AV.slice .gI (List.map (pav k) x.ak6),sI x.size,sI x.free,sB x.normal]
end Go.fD
namespace Go.Proofs.YtpgdkkomegalnaaGreatDoor
open Go Go.kY Go.fD Tryz
@[simp] theorem VB:fY prog 3=some (false,1):=by kernel_rfl
@[simp] theorem acz:j6 prog 3=some [.sc (.int .i64 0)]:=by kernel_rfl
@[simp] theorem vI:prog.underlying 3=some (.int .i64):=by kernel_rfl
@[simp] theorem akK:fY prog 4=some (false,1)/\fY prog 22=some (false,1)/\fY prog 27=some (false,1)/\ph prog 29=some [.sc (.int .i64 0),.slice .full []]/\j6 prog 29=some [.sc (.int .i64 0),.slice .full []]/\e_ prog 29 0=some (0,3)/\gr prog 29 0=some (0,1)/\e_ prog 29 1=some (1,27)/\gr prog 29 1=some (1,1)/\fY prog 30=some (false,1):=by and_intros<;>kernel_rfl
@[simp] theorem Fb:oi prog 22=some (3,1):=by kernel_rfl
@[simp] theorem ah0:prog.underlying 22=some (.slice 3):=by kernel_rfl
@[simp] theorem FV:oi prog 27=some (29,2):=by kernel_rfl
@[simp] theorem ah3:prog.underlying 27=some (.slice 29):=by kernel_rfl
@[simp] theorem abZ:fY prog 29=some (true,2):=by kernel_rfl
@[simp] theorem Ty.af6(x:Ty):ux prog 29 x.av=true:=by rw[Ty.fN,uD,abZ];rfl
@[simp] theorem zl:oi prog 30=some (32,5):=by kernel_rfl
@[simp] theorem aby:fY prog 32=some (true,5):=by kernel_rfl
@[simp] theorem ajT:ph prog 32=some [.sc (.int .i64 0),.sc (.int .i64 0),.sc (.int .i64 0),.slice .full [],.slice .full []]/\e_ prog 32 0=some (0,3)/\gr prog 32 0=some (0,1)/\e_ prog 32 1=some (1,3)/\gr prog 32 1=some (1,1)/\e_ prog 32 2=some (2,29)/\gr prog 32 2=some (2,2)/\e_ prog 32 3=some (4,30)/\gr prog 32 3=some (4,1)/\fY prog 34=some (false,1):=by and_intros<;>kernel_rfl
@[simp] theorem afp:j6 prog 32=some [.sc (.int .i64 0),.sc (.int .i64 0),.sc (.int .i64 0),.slice .full [],.slice .full []]:=by kernel_rfl
@[simp] theorem Tm.afE(x:Tm):ux prog 32 x.av=true:=by rw[Tm.fN,uD,aby];rfl
@[simp] theorem Kz:oi prog 34=some (36,5):=by kernel_rfl
@[simp] theorem ahR:prog.underlying 34=some (.slice 36):=by kernel_rfl
@[simp] theorem acg:fY prog 36=some (true,5):=by kernel_rfl
@[simp] theorem ajF:ph prog 36=some [.sc (.int .i64 0),.sc (.int .i64 0),.slice .full [],.slice .full [],.slice .full []]/\j6 prog 36=some [.sc (.int .i64 0),.sc (.int .i64 0),.slice .full [],.slice .full [],.slice .full []]/\e_ prog 36 0=some (0,3)/\gr prog 36 0=some (0,1)/\e_ prog 36 1=some (1,29)/\gr prog 36 1=some (1,2)/\e_ prog 36 2=some (3,30)/\gr prog 36 2=some (3,1)/\e_ prog 36 3=some (4,34)/\gr prog 36 3=some (4,1):=by and_intros<;>kernel_rfl
@[simp] theorem Fm.afK(x:Fm):ux prog 36 x.av=true:=by rw[Fm.fN,uD,acg];rfl
@[simp] theorem akj:fY prog 37=some (false,1)/\oi prog 37=some (39,7)/\ph prog 39=some [.sc (.int .i64 0),.sc (.int .i64 0),.sc (.int .i64 0),.slice .full [],.slice .full [],.slice .full [],.slice .full []]/\j6 prog 39=some [.sc (.int .i64 0),.sc (.int .i64 0),.sc (.int .i64 0),.slice .full [],.slice .full [],.slice .full [],.slice .full []]/\e_ prog 39 0=some (0,3)/\gr prog 39 0=some (0,1)/\e_ prog 39 1=some (1,3)/\gr prog 39 1=some (1,1)/\e_ prog 39 2=some (2,29)/\gr prog 39 2=some (2,2):=by and_intros<;>kernel_rfl
@[simp] theorem ahg:fY prog 39=some (true,7):=by kernel_rfl
@[simp] theorem afO:e_ prog 39 3=some (4,30)/\gr prog 39 3=some (4,1)/\e_ prog 39 4=some (5,34)/\gr prog 39 4=some (5,1)/\e_ prog 39 5=some (6,37)/\gr prog 39 5=some (6,1)/\fY prog 53=some (true,2)/\ph prog 53=some [.slice .full [],.slice .full []]/\e_ prog 53 0=some (0,27)/\gr prog 53 0=some (0,1):=by and_intros<;>kernel_rfl
@[simp] theorem Pf.afM(x:Pf):ux prog 39 x.av=true:=by rw[Pf.fN,uD,ahg];rfl
@[simp] theorem af7:e_ prog 53 1=some (1,34)/\gr prog 53 1=some (1,1)/\fY prog 54=some (false,1)/\oi prog 54=some (56,4)/\ph prog 56=some [.sc (.int .i64 0),.sc (.int .i64 0),.slice .full [],.slice .full []]/\j6 prog 56=some [.sc (.int .i64 0),.sc (.int .i64 0),.slice .full [],.slice .full []]/\e_ prog 56 0=some (0,3)/\gr prog 56 0=some (0,1)/\e_ prog 56 1=some (1,3)/\gr prog 56 1=some (1,1):=by and_intros<;>kernel_rfl
@[simp] theorem ah7:fY prog 56=some (true,4):=by kernel_rfl
@[simp] theorem af1:e_ prog 56 2=some (2,22)/\gr prog 56 2=some (2,1)/\e_ prog 56 3=some (3,54)/\gr prog 56 3=some (3,1)/\fY prog 61=some (false,1)/\j6 prog 61=some [.sc .nilFunc]/\ph prog 66=some [.slice .full [],.sc (.int .i64 0)]/\e_ prog 66 0=some (0,22)/\gr prog 66 0=some (0,1)/\e_ prog 66 1=some (1,3):=by and_intros<;>kernel_rfl
@[simp] theorem Vl.afZ(x:Vl):ux prog 56 x.av=true:=by rw[Vl.fN,uD,ah7];rfl
@[simp] theorem akf:fY prog 85=some (false,1)/\j6 prog 85=some [.sc .nilFunc]/\fY prog 91=some (true,6)/\ph prog 91=some [.sc (.int .i64 0),.sc (.int .i64 0),.slice .full [],.slice .full [],.slice .full [],.slice .full []]/\j6 prog 91=some [.sc (.int .i64 0),.sc (.int .i64 0),.slice .full [],.slice .full [],.slice .full [],.slice .full []]/\e_ prog 91 0=some (0,36)/\gr prog 91 0=some (0,5)/\e_ prog 91 1=some (5,22)/\gr prog 91 1=some (5,1)/\ph prog 98=some [.slice .full [],.slice .full [],.sc (.int .i64 0)]:=by and_intros<;>kernel_rfl
@[simp] theorem agc:e_ prog 98 0=some (0,34)/\gr prog 98 0=some (0,1)/\e_ prog 98 1=some (1,30)/\gr prog 98 1=some (1,1)/\e_ prog 98 2=some (2,3)/\fY prog 100=some (true,4)/\ph prog 100=some [.slice .full [],.slice .full [],.slice .full [],.slice .full []]/\j6 prog 100=some [.slice .full [],.slice .full [],.slice .full [],.slice .full []]/\e_ prog 100 0=some (0,53)/\gr prog 100 0=some (0,2):=by and_intros<;>kernel_rfl
@[simp] theorem adl:e_ prog 100 1=some (2,30)/\gr prog 100 1=some (2,1)/\e_ prog 100 2=some (3,30)/\gr prog 100 2=some (3,1)/\ph prog 113=some [.sc (.int .i64 0),.sc (.int .i64 0),.sc (.bool false)]/\e_ prog 113 0=some (0,3)/\e_ prog 113 1=some (1,3)/\gr prog 113 1=some (1,1)/\e_ prog 113 2=some (2,4)/\fY prog 114=some (false,1):=by and_intros<;>kernel_rfl
@[simp] theorem V6:oi prog 114=some (116,9):=by kernel_rfl
@[simp] theorem afj:prog.underlying 114=some (.slice 116):=by kernel_rfl
@[simp] theorem V_:fY prog 116=some (true,9):=by kernel_rfl
@[simp] theorem air:ph prog 116=some [.sc (.int .i64 0),.slice .full [],.slice .full [],.sc (.int .i64 0),.sc (.int .i64 0),.sc (.int .i64 0),.slice .full [],.slice .full [],.slice .full []]/\j6 prog 116=some [.sc (.int .i64 0),.slice .full [],.slice .full [],.sc (.int .i64 0),.sc (.int .i64 0),.sc (.int .i64 0),.slice .full [],.slice .full [],.slice .full []]/\e_ prog 116 0=some (0,3)/\gr prog 116 0=some (0,1)/\e_ prog 116 1=some (1,22)/\gr prog 116 1=some (1,1)/\e_ prog 116 2=some (2,114)/\gr prog 116 2=some (2,1)/\e_ prog 116 3=some (3,32)/\gr prog 116 3=some (3,5):=by and_intros<;>kernel_rfl
@[simp] theorem aet:e_ prog 116 4=some (8,114)/\gr prog 116 4=some (8,1)/\fY prog 132=some (true,3)/\ph prog 132=some [.slice .full [],.slice .full [],.slice .full []]/\j6 prog 132=some [.slice .full [],.slice .full [],.slice .full []]/\e_ prog 132 0=some (0,34)/\gr prog 132 0=some (0,1)/\e_ prog 132 1=some (1,27)/\gr prog 132 1=some (1,1)/\e_ prog 132 2=some (2,34):=by and_intros<;>kernel_rfl
@[simp] theorem dJ.ad5(x:dJ):ux prog 116 x.av=true:=by rw[dJ.fN,uD,V_];rfl
@[simp] theorem afm:gr prog 132 2=some (2,1)/\ph prog 148=some [.sc (.int .i64 0),.slice .full [],.sc (.int .i64 0)]/\j6 prog 148=some [.sc (.int .i64 0),.slice .full [],.sc (.int .i64 0)]/\e_ prog 148 0=some (0,29)/\gr prog 148 0=some (0,2)/\e_ prog 148 1=some (2,3)/\gr prog 148 1=some (2,1)/\fY prog 151=some (false,1)/\fY prog 158=some (false,1)/\ph prog 161=some [.slice .full [],.sc (.map none)]:=by and_intros<;>kernel_rfl
@[simp] theorem AT:fY prog 148=some (true,3):=by kernel_rfl
@[simp] theorem dN.adz(x:dN):ux prog 148 x.av=true:=by rw[dN.fN,uD,AT];rfl
@[simp] theorem Xn:oi prog 151=some (148,3):=by kernel_rfl
@[simp] theorem aeo:prog.underlying 151=some (.slice 148):=by kernel_rfl
@[simp] theorem acN:gr prog 161 0=some (0,1)/\e_ prog 161 1=some (1,158)/\gr prog 161 1=some (1,1)/\fY prog 163=some (false,1)/\j6 prog 163=some [.sc (.int .u32 0)]/\fY prog 165=some (true,6)/\ph prog 165=some [.sc (.int .i64 0),.sc (.int .i64 0),.slice .full [],.slice .full [],.slice .full [],.sc (.int .u32 0)]/\j6 prog 165=some [.sc (.int .i64 0),.sc (.int .i64 0),.slice .full [],.slice .full [],.slice .full [],.sc (.int .u32 0)]/\e_ prog 165 0=some (0,36)/\gr prog 165 0=some (0,5):=by and_intros<;>kernel_rfl
@[simp] theorem acX:e_ prog 165 1=some (5,163)/\gr prog 165 1=some (5,1)/\fY prog 169=some (true,2)/\e_ prog 169 0=some (0,3)/\e_ prog 169 1=some (1,3)/\fY prog 170=some (false,1)/\fY prog 172=some (true,4)/\ph prog 172=some [.sc (.int .i64 0),.sc (.int .i64 0),.slice .full [],.slice .full []]/\j6 prog 172=some [.sc (.int .i64 0),.sc (.int .i64 0),.slice .full [],.slice .full []]/\e_ prog 172 0=some (0,169):=by and_intros<;>kernel_rfl
@[simp] theorem agS:oi prog 170=some (257,6):=by kernel_rfl
@[simp] theorem adi:prog.underlying 170=some (.slice 257):=by kernel_rfl
@[simp] theorem aeL:e_ prog 172 1=some (2,151)/\gr prog 172 1=some (2,1)/\e_ prog 172 2=some (3,170)/\fY prog 194=some (true,9)/\j6 prog 194=some [.sc (.int .i64 0),.slice .full [],.sc (.int .i64 0),.sc (.int .i64 0),.slice .full [],.sc (.int .i64 0),.sc (.int .i64 0),.slice .full [],.sc (.int .i64 0)]/\ph prog 200=some [.sc (.int .i64 0),.sc (.bool false)]/\e_ prog 200 0=some (0,3)/\e_ prog 200 1=some (1,4)/\fY prog 205=some (false,1)/\j6 prog 205=some [.sc .nilFunc]:=by and_intros<;>kernel_rfl
@[simp] theorem Gm:prog.underlying 194=some (.array 3 148):=by kernel_rfl
@[simp] theorem agO(b g o:Nat):gH prog 194 (.h9 b g o) (.sc (.int .i64 0))=some (.h9 b g (o+0)):=by kernel_rfl
@[simp] theorem ah5(b g o:Nat):gH prog 194 (.h9 b g o) (.sc (.int .i64 1))=some (.h9 b g (o+3)):=by kernel_rfl
@[simp] theorem ahf(b g o:Nat):gH prog 194 (.h9 b g o) (.sc (.int .i64 2))=some (.h9 b g (o+6)):=by kernel_rfl
@[simp] theorem ajO:fY prog 210=some (true,5)/\ph prog 210=some [.sc (.int .i64 0),.sc (.int .i64 0),.sc (.int .i64 0),.sc (.bool false),.sc (.bool false)]/\j6 prog 210=some [.sc (.int .i64 0),.sc (.int .i64 0),.sc (.int .i64 0),.sc (.bool false),.sc (.bool false)]/\e_ prog 210 0=some (0,3)/\gr prog 210 0=some (0,1)/\e_ prog 210 1=some (1,3)/\gr prog 210 1=some (1,1)/\e_ prog 210 2=some (2,3)/\gr prog 210 2=some (2,1)/\e_ prog 210 3=some (3,4):=by and_intros<;>kernel_rfl
@[simp] theorem acK:gr prog 210 3=some (3,1)/\e_ prog 210 4=some (4,4)/\gr prog 210 4=some (4,1)/\ph prog 235=some [.sc (.bool false),.sc (.bool false),.sc (.int .i64 0),.sc (.int .i64 0),.sc (.int .i64 0),.sc (.int .i64 0),.sc (.int .i64 0),.sc (.int .i64 0)]/\j6 prog 235=some [.sc (.bool false),.sc (.bool false),.sc (.int .i64 0),.sc (.int .i64 0),.sc (.int .i64 0),.sc (.int .i64 0),.sc (.int .i64 0),.sc (.int .i64 0)]/\e_ prog 235 0=some (0,4)/\e_ prog 235 1=some (1,4)/\e_ prog 235 2=some (2,3)/\e_ prog 235 3=some (3,3)/\e_ prog 235 4=some (4,3):=by and_intros<;>kernel_rfl
@[simp] theorem XL:fY prog 235=some (true,8):=by kernel_rfl
@[simp] theorem ft.adK(x:ft):ux prog 235 x.av=true:=by rw[ft.fN,uD,XL];rfl
@[simp] theorem ads:fY prog 257=some (true,6):=by kernel_rfl
@[simp] theorem aii:ph prog 257=some [.sc (.int .i64 0),.sc (.int .i64 0),.slice .full [],.slice .full [],.slice .full [],.sc (.int .i64 0)]/\gr prog 257 0=some (0,5)/\gr prog 257 1=some (5,1)/\fY prog 275=some (false,1)/\fY prog 291=some (false,1)/\j6 prog 291=some [.sc .nilFunc]/\fY prog 307=some (false,1):=by and_intros<;>kernel_rfl
@[simp] theorem QJ:prog.underlying 263=some (.map 3 4):=by kernel_rfl
@[simp] theorem ade:prog.underlying 273=some (.array 21 235):=by kernel_rfl
@[simp] theorem acY:prog.underlying 290=some (.array 14 3):=by kernel_rfl
@[simp] theorem aiW(tag:Tag)(l:List Int)(a:Int):oS prog 22 (.slice tag (List.map sI l)) (some (.sc (.int .i64 a))) none none=(pF l a (eA l)).map λr=>.slice .gI (List.map sI r):=PB _ l ah0 VB (λx=>by simp)
@[simp] theorem aie(tag:Tag)(l:List Ty):oS prog 27 (.slice tag (List.map Ty.av l)) none (some (.sc (.int .i64 (eA l)))) (some (.sc (.int .i64 (eA l))))=some (.slice .full (List.map Ty.av l)):=wQ _ l ah3 abZ (λx=>by simp)
@[simp] theorem aiI(tag:Tag)(l:List Fm):oS prog 34 (.slice tag (List.map Fm.av l)) none (some (.sc (.int .i64 (eA l)))) (some (.sc (.int .i64 (eA l))))=some (.slice .full (List.map Fm.av l)):=wQ _ l ahR acg (λx=>by simp)
@[simp] theorem ahl(tag:Tag)(l:List dJ):oS prog 114 (.slice tag (List.map dJ.av l)) none (some (.sc (.int .i64 (eA l)))) (some (.sc (.int .i64 (eA l))))=some (.slice .full (List.map dJ.av l)):=wQ _ l afj V_ (λx=>by simp)
@[simp] theorem agu(tag:Tag)(l:List dN):oS prog 151 (.slice tag (List.map dN.av l)) none (some (.sc (.int .i64 (eA l)))) (some (.sc (.int .i64 (eA l))))=some (.slice .full (List.map dN.av l)):=wQ _ l aeo AT (λx=>by simp)
@[simp] theorem ahu(tag:Tag)(l:List en):oS prog 170 (.slice tag (List.map en.av l)) none (some (.sc (.int .i64 (eA l)))) (some (.sc (.int .i64 (eA l))))=some (.slice .full (List.map en.av l)):=wQ _ l adi ads (λx=>by simp)
def ft.cs(x:ft):List AV:=x.av.cells
@[simp] theorem akT(a:Int):gH prog 273 (.mj (.agg (List.flatMap (λx=>ft.cs x) od))) (.sc (.int .i64 a))=(dW od a).map λx=>.mj x.av:=Hz ade XL (λx=>rfl) (λx=>⟨_,ft.fN x⟩) (λx=>by simp) rfl
@[simp] theorem akQ(a:Int):gH prog 290 (.mj (.agg (List.map (λn=>AV.sc (Value.int .i64 n)) qe))) (.sc (.int .i64 a))=(dW qe a).map λx=>.mj (.sc (.int .i64 x)):=Ij acY VB rfl
@[simp] theorem kX:prog.underlying 158=some (.map 3 202):=by kernel_rfl
def VU:OZ prog 202=some (.sc .nilFunc):=by kernel_rfl
def Q4:List Value:=[.int .i64 1,.int .i64 2,.int .i64 3,.int .i64 4,.int .i64 5,.int .i64 6,.int .i64 7,.int .i64 8,.int .i64 12,.int .i64 9,.int .i64 13,.int .i64 10,.int .i64 14,.int .i64 11,.int .i64 15,.int .i64 16,.int .i64 17,.int .i64 18,.int .i64 19,.int .i64 20]
def Qz:List AV:=[.func (.func 174) [] [],.func (.func 175) [] [],.func (.func 176) [] [],.func (.func 177) [] [],.func (.func 177) [] [],.func (.func 178) [] [],.func (.func 179) [] [],.func (.func 180) [] [],.func (.func 180) [] [],.func (.func 181) [] [],.func (.func 181) [] [],.func (.func 182) [] [],.func (.func 182) [] [],.func (.func 183) [] [],.func (.func 183) [] [],.func (.func 184) [] [],.func (.func 184) [] [],.func (.func 185) [] [],.func (.func 186) [] [],.func (.func 187) [] []]
def Mt:AV:=.uH Q4 Qz
def Mu(k:Int):AV:=match mapIdx Q4 (.int .i64 k)with|some j=>Qz.getD j .undef|none=>.sc .nilFunc
abbrev KC(H:dY)(o:Nat)(l:List Fm):Prop:=H[o]?=some [sL Fm.av l,AV.nx (o-1)]/\H[o-1]?=some [Mt]
def Rx{H:dY}{o:Nat}{k:Int}(h:H[o]?=some [Mt]):vD prog H 158 (AV.nx o) (sI k) false=some (Mu k):=SY kX vI VU h acS acS
def FG{k key:Int}{x:AV}(h:eo k key=true)(a:Mu key=x):Mu k=x:=by rw[W4 h];exact a
def Ra{T:eN}{g:Nat}{xs:List AV}{H H':dY}{r:AV}(h:eO prog T g xs H r H'):uE prog T (.func (.func g) [] []) xs H r H':=by
 unfold uE oZ;simp only[nT,Ac];exact h
abbrev nX(T:eN):Prop:=T 2=some (AV.agg (List.map (λn=>AV.sc (Value.int .i64 n)) qe))/\T 1=some (AV.agg (List.flatMap (λx=>ft.cs x) od))/\T 0=some (AV.agg (List.map (λn=>AV.sc (Value.int .u8 n)) lx))
def DV{S:Type}(T:eN)(g:Nat)(cap:List AV)(st:S->dY)(w:(S->Tm->Int->Option (Tm×S))):Prop:=
 ∀(X:dY) (s:S) (a:Tm) (b:Int) (c:Tm) (d:S),w s a b=some (c,d)->eO prog T g ([Tm.av a,sI b]++cap) (st s++X) (Tm.av c) (st d++X)
def DV.at0{S:Type}{T:eN}{g:Nat}{cap:List AV}{st:S->dY}{w:(S->Tm->Int->Option (Tm×S))}(h:DV T g cap st w){s:S}{a:Tm}{b:Int}{c:Tm}{d:S}(hw:w s a b=some (c,d)):eO prog T g ([Tm.av a,sI b]++cap) (st s) (Tm.av c) (st d):=by
 have:=h [] s a b c d hw
 rwa [Ac,Ac] at this
def ua{S:Type}(T:eN)(g:Nat)(cap:List AV)(st:S->dY)(w:(S->Int->Int->Option (S))):Prop:=
 ∀(X:dY) (s:S) (a:Int) (b:Int) (c:S),w s a b=some c->eO prog T g ([sI a,sI b]++cap) (st s++X) (AV.tuple []) (st c++X)
def ua.ext{S:Type}{T:eN}{g:Nat}{cap:List AV}{st:S->dY}{w:(S->Int->Int->Option (S))}(h:ua T g cap st w){Y:dY}:ua T g cap (λs=>st s++Y) w:=λX s a b c hw=>by
 have:=h (Y++X) s a b c hw
 rwa [<-th,<-th] at this
def ua.at0{S:Type}{T:eN}{g:Nat}{cap:List AV}{st:S->dY}{w:(S->Int->Int->Option (S))}(h:ua T g cap st w){s:S}{a b:Int}{c:S}(hw:w s a b=some c):eO prog T g ([sI a,sI b]++cap) (st s) (AV.tuple []) (st c):=by
 have:=h [] s a b c hw
 rwa [Ac,Ac] at this
def Ep{S:Type}(T:eN)(g:Nat)(cap:List AV)(st:S->dY)(w:(S->Tm->Int->Option (S))):Prop:=
 ∀(X:dY) (s:S) (a:Tm) (b:Int) (c:S),w s a b=some c->eO prog T g ([Tm.av a,sI b]++cap) (st s++X) (AV.tuple []) (st c++X)
def Ep.at0{S:Type}{T:eN}{g:Nat}{cap:List AV}{st:S->dY}{w:(S->Tm->Int->Option (S))}(h:Ep T g cap st w){s:S}{a:Tm}{b:Int}{c:S}(hw:w s a b=some c):eO prog T g ([Tm.av a,sI b]++cap) (st s) (AV.tuple []) (st c):=by
 have:=h [] s a b c hw
 rwa [Ac,Ac] at this
def tZ{S:Type}(T:eN)(g:Nat)(cap:List AV)(st:S->dY)(w:(S->Int->Int->Option (Tm×S))):Prop:=
 ∀(X:dY) (s:S) (a:Int) (b:Int) (c:Tm) (d:S),w s a b=some (c,d)->eO prog T g ([sI a,sI b]++cap) (st s++X) (Tm.av c) (st d++X)
def tZ.ext{S:Type}{T:eN}{g:Nat}{cap:List AV}{st:S->dY}{w:(S->Int->Int->Option (Tm×S))}(h:tZ T g cap st w){Y:dY}:tZ T g cap (λs=>st s++Y) w:=λX s a b c d hw=>by
 have:=h (Y++X) s a b c d hw
 rwa [<-th,<-th] at this
def tZ.at0{S:Type}{T:eN}{g:Nat}{cap:List AV}{st:S->dY}{w:(S->Int->Int->Option (Tm×S))}(h:tZ T g cap st w){s:S}{a b:Int}{c:Tm}{d:S}(hw:w s a b=some (c,d)):eO prog T g ([sI a,sI b]++cap) (st s) (Tm.av c) (st d):=by
 have:=h [] s a b c d hw
 rwa [Ac,Ac] at this
end Go.Proofs.YtpgdkkomegalnaaGreatDoor
set_option maxRecDepth 20000
set_option maxHeartbeats 4000000
namespace Go.Proofs.YtpgdkkomegalnaaGreatDoor
open Go Go.kY Go.fD Tryz
def OV:C1 prog 30 fl Tm.av sI:=by
 refine v1 func30 λT H a0 r m e=>?_;rw[fl] at m;exact au
@[reducible,instance] def abJ:=@Kc.mk prog 30 _ @OV
def MQ:C2 prog 31 gP Tm.av sI (sL Tm.av):=by
 refine v2 func31 λT H a0 a1 r m e=>?_;rw[gP] at m;exact au
@[reducible,instance] def aaX:=@Kc.mk prog 31 _ @MQ
def Nv:C2 prog 28 mD Tm.av Ty.av Tm.av:=by
 refine v2 func28 λT H a0 a1 r m e=>?_;rw[mD] at m;have e:=Aj e (show AV.agg [sI 2,sI 0,sI a0.ak5,sL Ty.av a0.ak6,AV.slice .gI [Tm.av a1]]=Tm.av (Tm.mk 2 0 a0 [a1]) by rw[Tm.eR];rfl);exact au
@[reducible,instance] def ab0:=@Kc.mk prog 28 _ @Nv
def MS:C0 prog 26 kU Ty.av:=by
 refine v0 func26 λT H r m e=>?_;rw[kU] at m;exact au
@[reducible,instance] def aau:=@Kc.mk prog 26 _ @MS
def PA:C0 prog 41 gw Ty.av:=by
 refine v0 func41 λT H r m e=>?_;rw[gw] at m;exact au
@[reducible,instance] def acb:=@Kc.mk prog 41 _ @PA
def Ei:C2 prog 53 rb Ty.av Ty.av (sL Ty.av):=by
 refine v2 func53 λT H a0 a1 r m e=>?_;rw[rb] at m;simp[e];refine Wn m 999 (λs1 f h=>∃a,h=H/\f.1 1=sL Ty.av a1/\f.1 5=sI s1.1/\bx f 2 [sI s1.2.1,sT a Ty.av s1.2.2]/\bx f 4 [sI 0,nL]) ⟨.gI,abE⟩ (λs1 _ _ _ _ _ E m z p=>?_);have⟨v9,v10,v11⟩:=s1;have⟨a,E⟩:=E;have e:=Aj e E;dsimp only[xP]at m;apply Ir e m<;>intro e m
 ·cases m;have m:=Qb z;dsimp only[xP]at m;exact au
 refine sw [8,0] ?_;intro b e m;cases m;exact p _ _ _ ⟨.full,abE⟩ z
@[reducible,instance] def ZL:=@Kc.mk prog 53 _ @Ei
def yb:C0 prog 35 sR Ty.av:=by
 refine v0 func35 λT H r m e=>?_;rw[sR] at m;exact aa
@[reducible,instance] def Uu:=@Kc.mk prog 35 _ @yb
def nO{n:Nat}:C1 prog 285 (me n) (t2 sI sB) Ty.av:=by
 refine i1 λn ih=>u1 4 func285 λT H a0 r m e=>?_;rw[me] at m;simp[e];refine Dt m 3 999 (λb f h=>∃v2,(h=H/\f.1 4=sI v2/\bx f 1 (Ty.av a0).cells)/\b v2=some r) ?_ (λb _ g m=>?_)
 ·rintro _ _ ⟨v2,E,m⟩;refine sw [10,7,0] ?_;intro e m;refine Wr e m 999 (λc a f h=>h=H/\f.1 5=sI a/\f.1 25=sL Ty.av a0.ak6/\f.1 26=sI (eA a0.ak6)/\f.1 27=sI c) abE (λa _ _ _ E m=>?_) (λc _ a _ _ _ _ _ E e m z p=>?_)
  ·exact aa
  exact aa
 simp[e];refine wj 999 0 (λf h=>h=H/\f.1 4=sI 0/\f.1 11=sI a0.ak5/\f.1 12=sB (fv (eo a0.ak5 1) true (fv (eo a0.ak5 2) true (eo a0.ak5 5)))/\bx f 1 (Ty.av a0).cells) (λ_ g=>?_) ?_
 ·rcases Pb (eo a0.ak5 1) e with e|e
  ·exact aj
  rcases Pb (eo a0.ak5 2) e with e|e
  ·exact aj
  exact aj
 rintro _ _ E;have e:=Aj e E;apply Iq e m<;>intro e m
 ·apply wg 999;exact jj
 apply wg 1;simp[e];refine wj 999 999 (λf h=>h=H/\f.1 16=sB (fv (eo a0.ak5 3) true (eo a0.ak5 4))/\bx f 1 (Ty.av a0).cells) (λ_ g=>?_) ?_
 ·rcases Pb (eo a0.ak5 3) e with e|e
  ·exact aj
  exact aj
 rintro _ _ E;refine sw [10,12] ?_;intro e m;exact jj
@[reducible,instance] def TO:=@Kc.mk prog 285 _ @nO
def nE:C1 prog 228 iW (t2 sI sI) Ty.av:=by
 refine v1 func228 λT H a0 r m e=>?_;rw[iW] at m;exact aa
@[reducible,instance] def Ue:=@Kc.mk prog 228 _ @nE
def Cr:C1 prog 166 rF sI Ty.av:=by
 refine v1 func166 λT H a0 r m e=>?_;rw[rF] at m;exact aa
@[reducible,instance] def YC:=@Kc.mk prog 166 _ @Cr
def vb:C1 prog 128 ng sI (sL Ty.av):=by
 refine v1 func128 λT H a0 r m e=>?_;rw[ng] at m;refine sw [7,0] ?_;intro e m;exact Wb e m 999 11 [9,10] [] nI
@[reducible,instance] def UK:=@Kc.mk prog 128 _ @vb
def vA(T:eN)(c:nX T){H:dY}{a0 a:Int}{b:Bool}(hm:wD a0=some (a,b)):eO prog T 286 [sI a0] H (AV.tuple [sI a,sB b]) H:=by
 rw[wD] at hm;have e:=c;refine wi ak_ func286 [] [] 3 ?_;simp[e];refine wA 999 999 [0] [] (λf=>f.1 9=sB (fv (o7 a0 1) true (pd a0 14))) [] (λ_ g=>?_) ?_
 ·exact aa
 intro _ e m;have m:=hm;exact aa
@[reducible,instance] def aad:=@Kc.mk prog 286 _ @vA
def yG:C1 prog 287 wK sB sI:=by
 refine u1 2 func287 λT H a0 r m e=>?_;rw[wK] at m;simp[e];refine wB 999 999 [] [] (λf=>f.1 2=sB (fv (eo a0 2) true (fv (eo a0 6) true (eo a0 9)))) λ_ g=>?_;exact aa
def qA:C1 prog 237 nZ sB Ty.av:=by
 refine u1 2 func237 λT H a0 r m e=>?_;rw[nZ] at m;simp[e];refine wB 999 999 [] [] (λf=>f.1 2=sB (fv (eo a0.ak5 0) (eo (eA a0.ak6) 0) false)) λ_ g=>?_;exact aa
def mV(T:eN)(l:nX T):∀(n:Nat),(∀{H:dY} {a0:Tm} {c:Int} {d:Bool} (hm:jF n a0=some (c,d)),eO prog T 229 [Tm.av a0] H (AV.tuple [sI c,sB d]) H):=by
  intro n
  induction n with
  |zero=>
    skip
    all_goals(intro _ _;intros;rename_i hm;cases hm)
  |succ n ih=>
 intro H a0 c d hm;rw[jF] at hm;have e:=l;refine wi ak_ func229 [] [] 5 ?_;have m:=hm;refine sw [0,2,0] ?_;intro i j e m;refine wA 999 0 [] [1] (λf=>f.1 42=sB (fv j (fv (eP (eA a0.ak6) i) true (fv (o7 a0.ak8 0) true (fv (eP a0.ak8 0) (eP a0.ak5 1) false))) true)) [13] (λ_ g=>?_) ?_
 ·rcases Pb j e with e|e;rotate_left
  ·exact aj
  rcases Pb (eP (eA a0.ak6) i) e with e|e
  ·exact aj
  rcases Pb (o7 a0.ak8 0) e with e|e
  ·exact aj
  rcases Pb (eP a0.ak8 0) e with e|e
  ·exact aj
  exact aj
 intro _ e m;apply wg 2;simp[e];refine Wj m 999 999 (λk f h=>(h=H/\f.1 1=AV.h9 1 (f.gen 1) 0/\f.box 1=some (Tm.av a0).cells)/\k=some (c,d)) (λk _ g m=>?_) ?_
 ·simp[e];refine sS m yG λ_ m=>?_;apply Iq e m<;>intro e m
  ·simp[e];refine E9 m nE λ_ _ m=>?_;refine Il e m λe m=>?_;exact ak0
  simp[e];refine sS m qA λ_ m=>?_;refine Im e m λe m=>?_;exact ak0
 rintro _ _ ⟨E,m⟩;have e:=Aj e E;simp[e];refine Wr e m 999 (λb a f h=>h=H/\f.1 8=sI a/\f.1 59=sL Tm.av a0.ak6/\f.1 60=sI (eA a0.ak6)/\f.1 61=sI b) abE (λa _ _ _ E m=>?_) (λb _ a _ _ _ _ _ E e m z p=>?_)
 ·exact aa
 exact aa
def Fi(T:eN)(c:nX T){H:dY}{a0:Tm}{a:Int}{b:Bool}{n:Nat}(hm:jF n a0=some (a,b)):eO prog T 229 [Tm.av a0] H (AV.tuple [sI a,sB b]) H:=(mV T c n) hm
@[reducible,instance] def S_:=@Kc.mk prog 229 _ @Fi
def x'(T:eN)(c:nX T){H:dY}{a0:Tm}{a b:Int}(hm:ke a0=some (a,b)):eO prog T 167 [Tm.av a0] H (AV.tuple [sI a,sI b]) H:=by
 rw[ke] at hm;have e:=c;refine wi ak_ func167 [] [] 999 ?_;have m:=hm;exact aa
@[reducible,instance] def Uo:=@Kc.mk prog 167 _ @x'
def CP(T:eN)(b:nX T){H:dY}{a0:Tm}{a:Int}(hm:pq a0=some a):eO prog T 129 [Tm.av a0] H (sI a) H:=by
 rw[pq] at hm;have e:=b;refine wi ak_ func129 [] [] 999 ?_;have m:=hm;exact aa
@[reducible,instance] def Yj:=@Kc.mk prog 129 _ @CP
def GG:C1 prog 168 mC dN.av Ty.av:=by
 refine v1 func168 λT H a0 r m e=>?_;rw[mC] at m;exact aa
@[reducible,instance] def acj:=@Kc.mk prog 168 _ @GG
def xU:C1 prog 130 n9 (sL dN.av) (sL Ty.av):=by
 refine v1 func130 λT H a0 r m e=>?_;rw[n9] at m;simp[e];refine Td e m 999 8 [6,7] [] [16] (λs2=>s2) (λs2 a f=>f.1 3=sT a dN.av s2) λh _ s2 c _ _ _ _ E e m z p=>?_;have⟨a,E,b⟩:=E;refine sw [20,0,1,9,0] ?_;intro d e m;refine Ao (f:=dN.av) s2 [d] b Xn e.2 ?_;simp[e];cases m;exact p _ _ _ ⟨(.loc 16 (c.fi 16+1)),abE,(On 16)⟩ z
@[reducible,instance] def Yg:=@Kc.mk prog 130 _ @xU
def Kq:C3 prog 169 rW (t2 dN.av sI) sI dN.av dN.av:=by
 refine v3 func169 λT H a0 a1 a2 r m e=>?_;rw[rW] at m;refine Il e m λe m=>?_;have e:=Aj e (show AV.agg [sI a0,AV.slice .gI [Ty.av a1.dM,Ty.av a2.dM],sI (eS .i64 (eS .i64 1 a1.ak7) a2.ak7)]=dN.av (dN.mk (Ty.mk a0 [a1.dM,a2.dM]) (eS .i64 (eS .i64 1 a1.ak7) a2.ak7)) by rw[dN.eR];rfl);exact au
@[reducible,instance] def Yq:=@Kc.mk prog 169 _ @Kq
def Bb:C1 prog 230 jI (sL sI) sI:=by
 refine v1 func230 λT H a0 r m e=>?_;rw[jI] at m;exact aa
@[reducible,instance] def Vz:=@Kc.mk prog 230 _ @Bb
def xd:C2 prog 231 iZ sB dN.av sI:=by
 refine v2 func231 λT H a0 a1 r m e=>?_;rw[iZ] at m;exact au
@[reducible,instance] def So:=@Kc.mk prog 231 _ @xd
def vu:C2 prog 232 jn dN.av dN.av sI:=by
 refine v2 func232 λT H a0 a1 r m e=>?_;rw[jn] at m;exact aa
@[reducible,instance] def PI:=@Kc.mk prog 232 _ @vu
def kK{n:Nat}:C2 prog 133 (gN n) sB Ty.av Ty.av:=by
 refine i2 λn ih=>u2 3 func133 λT H a0 a1 r m e=>?_;rw[gN] at m;simp[e];refine wA 999 999 [] [2,3] (λf=>f.1 20=sB (fv (eP a0.ak5 a1.ak5) true (eP (eA a0.ak6) (eA a1.ak6)))) [7,0] (λ_ g=>?_) ?_
 ·exact aa
 intro _ e m;exact Wb e m 999 24 [22,23] [3] nI
@[reducible,instance] def UJ:=@Kc.mk prog 133 _ @kK
def vm:C2 prog 233 kj sB dN.av dN.av:=by
 refine u2 2 func233 λT H a0 a1 r m e=>?_;rw[kj] at m;simp[e];refine WB m 999 999 [] [] (λv2 f=>f.1 4=sB v2) λa _ g m=>?_;apply Ir e m<;>intro e m
 ·exact jj
 simp[e];refine sS m kK λ_ m=>?_;exact jj
@[reducible,instance] def PH:=@Kc.mk prog 233 _ @vm
def PQ:C0 prog 259 pG Ty.av:=by
 refine v0 func259 λT H r m e=>?_;rw[pG] at m;exact au
@[reducible,instance] def adq:=@Kc.mk prog 259 _ @PQ
def NL:C0 prog 288 BB Ty.av:=by
 refine v0 func288 λT H r m e=>?_;rw[BB] at m;exact au
@[reducible,instance] def acA:=@Kc.mk prog 288 _ @NL
def H6:C2 prog 260 uO Ty.av Ty.av (sL Ty.av):=by
 refine v2 func260 λT H a0 a1 r m e=>?_;rw[uO] at m;simp[e];refine Wn m 999 (λs1 f h=>∃a,h=H/\f.1 1=sL Ty.av a1/\f.1 5=sI s1.1/\bx f 2 [sI s1.2.1,sT a Ty.av s1.2.2]/\bx f 4 [sI 0,nL]) ⟨.gI,abE⟩ (λs1 _ _ _ _ _ E m z p=>?_);have⟨v9,v10,v11⟩:=s1;have⟨a,E⟩:=E;have e:=Aj e E;dsimp only[xP]at m;apply Ir e m<;>intro e m
 ·cases m;have m:=Qb z;dsimp only[xP]at m;exact au
 refine sw [8,0] ?_;intro b e m;cases m;exact p _ _ _ ⟨.full,abE⟩ z
@[reducible,instance] def aeO:=@Kc.mk prog 260 _ @H6
def CJ:C1 prog 234 pR Ty.av Tm.av:=by
 refine v1 func234 λT H a0 r m e=>?_;rw[pR] at m;exact aa
@[reducible,instance] def YV:=@Kc.mk prog 234 _ @CJ
def gv:C2 prog 170 gn (t2 dN.av sI) Tm.av (λp=>AV.agg [sI p.1.dM.ak5,sL Ty.av p.1.dM.ak6,sI p.1.ak7,sI p.2.1.dM.ak5,sL Ty.av p.2.1.dM.ak6,sI p.2.1.ak7,sI p.2.2.dM.ak5,sL Ty.av p.2.2.dM.ak6,sI p.2.2.ak7]):=by
 intro T H a0 a1 r hm;rw[gn] at hm;have e:=trivial;refine wi ak_ func170 [] [] 7 ?_;have m:=hm;refine sw [0,1,0] ?_;intro F e m;apply Iq e m<;>intro e m
 ·refine sg 999 [8,0] ?_;intro w e m;refine Wr e m 0 (λo _ f h=>h=H/\f.1 6=sL sI F/\f.1 18=sL sI w/\f.1 19=sI (eA w)/\f.1 20=sI o/\bx f 3 [sI a1.1.dM.ak5,sL Ty.av a1.1.dM.ak6,sI a1.1.ak7,sI a1.2.1.dM.ak5,sL Ty.av a1.2.1.dM.ak6,sI a1.2.1.ak7,sI a1.2.2.dM.ak5,sL Ty.av a1.2.2.dM.ak6,sI a1.2.2.ak7]/\bx f 4 [sI 0,nL,sI 0]) abE (λ_ a _ _ E m=>?_) (λo _ _ a _ _ _ x E e m q s=>?_)
  ·have e:=Aj e E;refine sg 999 [11,8,0,1] ?_;intro G _ e m;cases m;simp[e]
  have e:=Aj e E;apply wg 9;simp[e];refine Dt m 999 999 (λt f h=>∃l,(h=H/\f.1 6=sL sI F/\f.1 18=sL sI w/\f.1 19=sI (eA w)/\f.1 20=sI o/\f.1 30=sB l/\bx f 3 [sI a1.1.dM.ak5,sL Ty.av a1.1.dM.ak6,sI a1.1.ak7,sI a1.2.1.dM.ak5,sL Ty.av a1.2.1.dM.ak6,sI a1.2.1.ak7,sI a1.2.2.dM.ak5,sL Ty.av a1.2.2.dM.ak6,sI a1.2.2.ak7]/\bx f 4 [sI 0,nL,sI 0])/\t l=some x) ?_ (λt _ b m=>?_)
  ·rintro _ _ ⟨l,E,m⟩;have e:=Aj e E;apply Iq e m<;>intro e m
   ·cases m;cases q;simp[e]
   simp[e];cases m;exact s _ _ _ abE q
  apply Iq e m<;>intro e m
  ·have e:=Aj e (F9 (j:=0) Gm AT abE aak:gH prog 194 (AV.h9 3 (a.gen 3) 0) (sI o)=some (AV.h9 3 (a.gen 3) 0));refine sw [0,1,0] ?_;intro y e m;exact b _ _ ⟨(lJ y),abE,m⟩
  apply Iq e m<;>intro e m
  ·have e:=Aj e (F9 (j:=1) Gm AT abE aak:gH prog 194 (AV.h9 3 (a.gen 3) 0) (sI o)=some (AV.h9 3 (a.gen 3) 3));refine sw [0,1,0] ?_;intro A e m;exact b _ _ ⟨(lJ A),abE,m⟩
  have⟨e,m⟩:=Ck e m;have e:=Aj e (F9 (j:=2) Gm AT abE aak:gH prog 194 (AV.h9 3 (a.gen 3) 0) (sI o)=some (AV.h9 3 (a.gen 3) 6));refine sw [0,1,0] ?_;intro B e m;exact b _ _ ⟨(lJ B),abE,m⟩
 apply wg 8;simp[e];apply Iq e m<;>intro e m
 ·apply wg 2;simp[e];refine Dt m 999 999 (λu f h=>∃v24,(h=H/\f.1 54=sB v24/\bx f 3 [sI a1.1.dM.ak5,sL Ty.av a1.1.dM.ak6,sI a1.1.ak7,sI a1.2.1.dM.ak5,sL Ty.av a1.2.1.dM.ak6,sI a1.2.1.ak7,sI a1.2.2.dM.ak5,sL Ty.av a1.2.2.dM.ak6,sI a1.2.2.ak7]/\bx f 4 [sI 0,nL,sI 0])/\u v24=some r) ?_ (λu _ d m=>?_)
  ·rintro _ _ ⟨v24,E,m⟩;have e:=Aj e E;apply Iq e m<;>intro e m
   ·cases m;simp[e]
   refine sw [0,1] ?_;intro _ e m;cases m;simp[e]
  refine sw [0,4] ?_;intro _ e m;apply Ir e m<;>intro e m
  ·simp[e];exact d _ _ ⟨true,abE,m⟩
  refine sw [0,4,0,4,0] ?_;intro _ C e m;exact d _ _ ⟨(lJ C),abE,m⟩
 apply wg 1;simp[e];refine wA 999 0 [39] [2,3,4] (λf=>f.1 59=sB (fv (eo a0.ak5 6) true (eo a0.ak5 9))) [] (λ_ i=>?_) ?_
 ·rcases Pb (eo a0.ak5 6) e with e|e
  ·simp[e];exact i _ _ abE
  simp[e];exact i _ _ abE
 intro _ e m;apply Ir e m<;>intro e m
 ·apply wg 999;apply Iq e m<;>intro e m
  ·refine sw [0,2] ?_;intro _ _ e m;cases m;simp[e]
  refine sw [0,1] ?_;intro _ e m;apply Ir e m<;>intro e m
  ·cases m;simp[e]
  apply Iq e m<;>intro e m
  ·refine sw [0,1] ?_;intro _ e m;cases m;simp[e]
  refine sw [0,1] ?_;intro _ e m;cases m;simp[e]
 refine sg 3 [0,1,0] ?_;intro n e m;refine wA 2 1 [] [2,3,4,9] (λf=>f.1 10=sI (fv (eo a0.ak5 9) 2 1)) [0] (λ_ k=>?_) ?_
 ·simp[e];rcases Pb (eo a0.ak5 9) e with e|e
  ·apply wg 999;simp[e];exact k _ _ abE
  apply wg 999;simp[e];exact k _ _ abE
 intro _ e m;refine Dt m 999 999 (λv f h=>∃v46,(h=H/\f.1 88=sB v46/\bx f 4 [sI 0,nL,sI 0]/\bx f 9 [sI n.dM.ak5,sL Ty.av n.dM.ak6,sI n.ak7])/\v v46=some r) ?_ (λv _ c m=>?_)
 ·rintro _ _ ⟨v46,E,m⟩;have e:=Aj e E;apply Iq e m<;>intro e m
  ·cases m;simp[e]
  cases m;simp[e]
 refine sw [0,4] ?_;intro _ e m;apply Ir e m<;>intro e m
 ·simp[e];exact c _ _ ⟨true,abE,m⟩
 refine sw [0,4,0,4] ?_;intro _ _ e m;apply Ir e m<;>intro e m
 ·simp[e];exact c _ _ ⟨true,abE,m⟩
 refine sw [0,4,0] ?_;intro D e m;exact c _ _ ⟨(lJ D),abE,m⟩
@[reducible,instance] def YL:=@Kc.mk prog 170 _ @gv
def gM{n:Nat}:C2 prog 131 (eX n) (t2 dN.av sI) (sL dN.av) Tm.av:=by
 refine i2 λn ih=>v2 func131 λT H a0 a1 r m e=>?_;rw[eX] at m;refine sw [13] ?_;intro e m;apply Iq e m<;>intro e m
 ·refine sw [0,1,9,0] ?_;intro K e m;refine Ad (f:=dN.av) a0 [K] (hS.full (D:=[])) Xn e.2 ?_;exact aa
 simp[e];refine Wr e m 0 (λx o f h=>∃a b c,h=H/\f.1 0=sL dN.av a0/\f.1 65=sL Tm.av a1.ak6/\f.1 66=sI (eA a1.ak6)/\f.1 67=sI x/\bx f 3 (Tm.av a1).cells/\bx f 4 [sI 0,nL,sI 0]/\bx f 9 [sI o.1,sT a Ty.av o.2.1,sI o.2.2.1,sI o.2.2.2.1,sT b Ty.av o.2.2.2.2.1,sI o.2.2.2.2.2.1,sI o.2.2.2.2.2.2.1,sT c Ty.av o.2.2.2.2.2.2.2.1,sI o.2.2.2.2.2.2.2.2]) ⟨.full,.full,.full,abE⟩ (λo d _ _ E m=>?_) (λx _ o d _ _ _ A E e m z p=>?_)
 ·have⟨B,C,v20,v21,F,G,v24,I,J⟩:=o;have⟨a,b,c,E⟩:=E;have e:=Aj e E;apply wg 999;dsimp only[eB,VE]at m;exact aa
 have⟨B,C,v20,v21,F,G,v24,I,J⟩:=o;have⟨a,b,c,E⟩:=E;have e:=Aj e E;dsimp only[VE]at m;apply wg 5;simp[e];refine Dt m 999 999 (λy f h=>∃v30 v31 q s t u v v37 w i k l,(h=H/\f.1 0=sL dN.av a0/\f.1 65=sL Tm.av a1.ak6/\f.1 66=sI (eA a1.ak6)/\f.1 67=sI x/\bx f 3 (Tm.av a1).cells/\bx f 4 [sI 0,nL,sI 0]/\bx f 9 [sI v30,sT i Ty.av v31,sI q,sI s,sT k Ty.av t,sI u,sI v,sT l Ty.av v37,sI w])/\y v30 v31 q s t u v v37 w=some A) ?_ (λy _ g m=>?_)
 ·rintro _ _ ⟨v30,v31,q,s,t,u,v,v37,w,i,k,l,E,m⟩;have e:=Aj e E;simp[e];cases m;exact p _ _ _ ⟨i,k,l,abE⟩ z
 refine sw [0,16,7] ?_;intro _ _ e m;apply Iq e m<;>intro e m
 ·have e:=Aj e (F9 (j:=0) Gm AT abE aak:gH prog 194 (AV.h9 9 (d.gen 9) 0) (sI x)=some (AV.h9 9 (d.gen 9) 0));simp[e];exact g _ _ ⟨_,_,_,_,_,_,_,_,_,.gI,b,c,abE,m⟩
 apply Iq e m<;>intro e m
 ·have e:=Aj e (F9 (j:=1) Gm AT abE aak:gH prog 194 (AV.h9 9 (d.gen 9) 0) (sI x)=some (AV.h9 9 (d.gen 9) 3));simp[e];exact g _ _ ⟨_,_,_,_,_,_,_,_,_,a,.gI,c,abE,m⟩
 have⟨e,m⟩:=Ck e m;have e:=Aj e (F9 (j:=2) Gm AT abE aak:gH prog 194 (AV.h9 9 (d.gen 9) 0) (sI x)=some (AV.h9 9 (d.gen 9) 6));simp[e];exact g _ _ ⟨_,_,_,_,_,_,_,_,_,a,b,.gI,abE,m⟩
@[reducible,instance] def LD:=@Kc.mk prog 131 _ @gM
def vU{n:Nat}:C1 prog 132 (ki n) Ty.av Ty.av:=by
 refine i1 λn ih=>v1 func132 λT H a0 r m e=>?_;rw[ki] at m;simp[e];refine Td e m 999 12 [10,11] [2] [21] (λs2=>s2) (λs2 a f=>bx f 3 [sI a0.ak5,sT a Ty.av s2]) λh _ s2 c _ _ _ _ E e m z p=>?_;have⟨a,E,b⟩:=E;refine sw [20,0,18,9,0] ?_;intro d e m;refine Ad (f:=Ty.av) s2 [d] b FV e.2 ?_;simp[e];cases m;exact p _ _ _ ⟨(.loc 21 (c.fi 21+1)),abE,(On 21)⟩ z
@[reducible,instance] def WN:=@Kc.mk prog 132 _ @vU
def A1(T:eN)(c:nX T){H:dY}{a0:List Ty}{a1:Tm}{a:Ty}{b:Int}(hm:r7 a0 a1=some (a,b)):eO prog T 96 [sL Ty.av a0,Tm.av a1] H (AV.tuple [Ty.av a,sI b]) H:=by
 rw[r7] at hm;have e:=c;refine wi ak_ func96 [] [] 999 ?_;have m:=hm;exact aa
@[reducible,instance] def Vg:=@Kc.mk prog 96 _ @A1
def DL:C2 prog 97 zm sB Ty.av Ty.av:=by
 refine v2 func97 λT H a0 a1 r m e=>?_;rw[zm] at m;exact aa
def uZ(T:eN)(b:nX T){H:dY}{a0:Tm}{a1:Ty}{a:Int}(hm:jc a0 a1=some a):eO prog T 34 [Tm.av a0,Ty.av a1] H (sI a) H:=by
 rw[jc] at hm;have e:=b;refine wi ak_ func34 [] [] 5 ?_;have m:=hm;refine sw [0,2,0] ?_;intro _ c e m;refine WB m 999 999 [6] [] (λv4 f=>f.1 19=sB v4) λd _ g m=>?_;apply Ir e m<;>intro e m
 ·exact jj
 simp[e];refine sS m DL λ_ m=>?_;exact jj
@[reducible,instance] def UM:=@Kc.mk prog 34 _ @uZ
def Hm:C1 prog 36 i_ (t3 Fm.av Pf.av sI) sI:=by
 refine v1 func36 λT H a0 r m e=>?_;rw[i_] at m;exact au
@[reducible,instance] def UL:=@Kc.mk prog 36 _ @Hm
def N5:C1 prog 98 F_ Tm.av sI:=by
 refine v1 func98 λT H a0 r m e=>?_;rw[F_] at m;exact au
@[reducible,instance] def abB:=@Kc.mk prog 98 _ @N5
def Jf:C1 prog 38 fa Tm.av sI:=by
 refine v1 func38 λT H a0 r m e=>?_;rw[fa] at m;exact aa
@[reducible,instance] def aeW:=@Kc.mk prog 38 _ @Jf
def QS:C2 prog 55 lO Tm.av sI (sL Tm.av):=by
 refine v2 func55 λT H a0 a1 r m e=>?_;rw[lO] at m;exact au
@[reducible,instance] def aer:=@Kc.mk prog 55 _ @QS
def Cv:C2 prog 37 hX Tm.av Tm.av (sL Tm.av):=by
 refine v2 func37 λT H a0 a1 r m e=>?_;rw[hX] at m;simp[e];refine Wr e m 999 (λd s2 f h=>h=H/\f.1 7=sL Tm.av a1/\f.1 8=sI (eA a1)/\f.1 9=sI d/\bx f 2 [sI s2.1,sI s2.2.1,sI s2.2.2.1,sL Ty.av s2.2.2.2.1,sL Tm.av s2.2.2.2.2]/\bx f 4 [sI 0,sI 0,sI 0,nL,nL]) abE (λs2 _ _ _ E m=>?_) (λd _ s2 _ _ _ _ _ E e m z p=>?_)
 ·have⟨v11,v12,a,b,c⟩:=s2;have e:=Aj e E;dsimp only[eB,C6]at m;exact au
 have⟨v11,v12,a,b,c⟩:=s2;have e:=Aj e E;dsimp only[C6]at m;exact aa
@[reducible,instance] def YT:=@Kc.mk prog 37 _ @Cv
def oC{n:Nat}:C3 prog 56 (lA n) Tm.av Tm.av sI sI:=by
 refine i3 λn ih=>u3 5 func56 λT H a0 a1 a2 r m e=>?_;rw[lA] at m;refine sw [0,13] ?_;intro e m;apply wg 5;simp[e];apply Iq e m<;>intro e m
 ·apply wg 1;simp[e];refine wB 999 999 [] [6] (λf=>bx f 3 [sI a0.ak5,sI (fv (pd a0.ak8 a1) (eS .i64 a0.ak8 a2) a0.ak8),sI a0.dM.ak5,sL Ty.av a0.dM.ak6,sL Tm.av a0.ak6]) λ_ g=>?_;rcases Pb (pd a0.ak8 a1) e with e|e
  ·exact aj
  exact aj
 apply wg 2;simp[e];refine wA 999 999 [] [3,6] (λf=>f.1 1=sI (fv (eo a0.ak5 2) (eS .i64 a1 1) a1)/\f.1 2=sI a2) [0] (λ_ g=>?_) ?_
 ·rcases Pb (eo a0.ak5 2) e with e|e
  ·exact aj
  exact aj
 intro _ e m;refine Td e m 999 36 [1,2,34,35] [6] [47] (λb=>b) (λb a f=>bx f 7 [sI a0.ak5,sI a0.ak8,sI a0.dM.ak5,sL Ty.av a0.dM.ak6,sT a Tm.av b]) λi _ b d _ _ _ _ E e m z p=>?_;have⟨a,E,c⟩:=E;refine sw [20,0,18,9,0] ?_;intro h e m;refine Ad (f:=Tm.av) b [h] c zl e.2 ?_;simp[e];cases m;exact p _ _ _ ⟨(.loc 47 (d.fi 47+1)),abE,(On 47)⟩ z
@[reducible,instance] def Y8:=@Kc.mk prog 56 _ @oC
def N4:C2 prog 48 mJ Fm.av Tm.av Tm.av:=by
 refine v2 func48 λT H a0 a1 r m e=>?_;rw[mJ] at m;have e:=Aj e (show AV.agg [sI 1,sI 0,AV.slice .gI [],AV.slice .gI [Tm.av a0,Tm.av a1],AV.slice .gI []]=Fm.av (Fm.mk 1 (Ty.mk 0 []) [a0,a1] []) by rw[Fm.eR];rfl);exact au
@[reducible,instance] def ab':=@Kc.mk prog 48 _ @N4
def QE:C3 prog 40 px Fm.av sI Ty.av Fm.av:=by
 refine v3 func40 λT H a0 a1 a2 r m e=>?_;rw[px] at m;have e:=Aj e (show AV.agg [sI a0,sI a1.ak5,sL Ty.av a1.ak6,AV.slice .gI [],AV.slice .gI [Fm.av a2]]=Fm.av (Fm.mk a0 a1 [] [a2]) by rw[Fm.eR];rfl);exact au
@[reducible,instance] def ac9:=@Kc.mk prog 40 _ @QE
def zM:C1 prog 42 gb Fm.av Tm.av:=by
 refine v1 func42 λT H a0 r m e=>?_;rw[gb] at m;exact aa
@[reducible,instance] def UQ:=@Kc.mk prog 42 _ @zM
def Ks:C1 prog 45 kC Pf.av Tm.av:=by
 refine v1 func45 λT H a0 r m e=>?_;rw[kC] at m;have e:=Aj e (show AV.agg [sI 18,sI 0,sI 0,AV.slice .gI [],AV.slice .gI [Tm.av a0],AV.slice .gI [],AV.slice .gI []]=Pf.av (Pf.mk 18 0 (Ty.mk 0 []) [a0] [] []) by rw[Pf.eR];rfl);exact au
@[reducible,instance] def Yw:=@Kc.mk prog 45 _ @Ks
def IE:C3 prog 44 jJ Pf.av Fm.av Tm.av Pf.av:=by
 refine v3 func44 λT H a0 a1 a2 r m e=>?_;rw[jJ] at m;have e:=Aj e (show AV.agg [sI 10,sI 0,sI 0,AV.slice .gI [],AV.slice .gI [Tm.av a1],AV.slice .gI [Fm.av a0],AV.slice .gI [Pf.av a2]]=Pf.av (Pf.mk 10 0 (Ty.mk 0 []) [a1] [a0] [a2]) by rw[Pf.eR];rfl);exact au
@[reducible,instance] def XV:=@Kc.mk prog 44 _ @IE
def L_:C2 prog 43 py Pf.av Ty.av Pf.av:=by
 refine v2 func43 λT H a0 a1 r m e=>?_;rw[py] at m;have e:=Aj e (show AV.agg [sI 8,sI 0,sI a0.ak5,sL Ty.av a0.ak6,AV.slice .gI [],AV.slice .gI [],AV.slice .gI [Pf.av a1]]=Pf.av (Pf.mk 8 0 a0 [] [] [a1]) by rw[Pf.eR];rfl);exact au
@[reducible,instance] def ZN:=@Kc.mk prog 43 _ @L_
def qH:C1 prog 235 rX sB Fm.av:=by
 refine u1 4 func235 λT H a0 r m e=>?_;rw[rX] at m;simp[e];refine Dt m 5 0 (λa f h=>∃v2 v3 v4,(h=H/\f.1 3=sI v2/\f.1 4=sI v3/\f.1 5=sB v4/\bx f 1 (Fm.av a0).cells)/\a v2 v3 v4=some r) ?_ (λa _ g m=>?_)
 ·rintro _ _ ⟨v2,v3,v4,E,m⟩;have e:=Aj e E;refine Wj m 999 0 (λb f h=>(h=H/\f.1 3=sI v2/\f.1 4=sI v3/\bx f 1 (Fm.av a0).cells)/\b=some r) (λb _ g m=>?_) ?_
  ·apply Iq e m<;>intro e m
   ·simp[e];refine E9 m nE λ_ _ m=>?_;refine Il e m λe m=>?_;exact ak0
   simp[e];refine sS m qA λ_ m=>?_;refine Im e m λe m=>?_;exact ak0
  rintro _ _ ⟨E,m⟩;have e:=Aj e E;refine wB 999 999 [] [] (λf=>f.1 2=sB (fv (eo (eA a0.eh) v2) (eo (eA a0.ak6) v3) false)) λ_ g=>?_;exact aa
 simp[e];apply Iq e m<;>intro e m
 ·apply wg 999;exact ak3
 apply wg 1;simp[e];refine wA 999 0 [3,5,9] [1] (λf=>f.1 12=sB (fv (eo a0.ak5 2) true (eo a0.ak5 3))) [] (λ_ g=>?_) ?_
 ·rcases Pb (eo a0.ak5 2) e with e|e
  ·exact aj
  exact aj
 intro _ e m;apply Iq e m<;>intro e m
 ·apply wg 999;exact ak3
 apply wg 1;simp[e];refine wjs 999 999 (λf h=>h=H/\f.1 3=sI 0/\f.1 15=sB (fv (eo a0.ak5 4) true (fv (eo a0.ak5 5) true (fv (eo a0.ak5 6) true (eo a0.ak5 7))))/\bx f 1 (Fm.av a0).cells) ?_ (λ_ g=>?_)
 ·rintro _ _ E;refine sw [10,12] ?_;intro e m;exact ak3
 rcases Pb (eo a0.ak5 4) e with e|e
 ·exact aj
 rcases Pb (eo a0.ak5 5) e with e|e
 ·exact aj
 rcases Pb (eo a0.ak5 6) e with e|e
 ·exact aj
 exact aj
@[reducible,instance] def Yk:=@Kc.mk prog 235 _ @qH
def mZ(T:eN)(h:nX T):∀(n:Nat),(∀{H:dY} {a0:Fm} {a:Int} {b:Bool} (hm:jo n a0=some (a,b)),eO prog T 171 [Fm.av a0] H (AV.tuple [sI a,sB b]) H):=by
  intro n
  induction n with
  |zero=>
   skip
   all_goals(intro _ _;intros;rename_i hm;cases hm)
  |succ n ih=>
 intro H a0 a b hm;rw[jo] at hm;have e:=h;refine wi ak_ func171 [] [] 999 ?_;have m:=hm;refine sw [0,1,12,0] ?_;intro _ e m;refine Wa e m 999 19 [17,18] [1] (λd f=>f.1 4=sI d) [11,0] ?_;intro _ d e m;exact Wb e m 999 37 [35,36] [] (λc f=>f.1 4=sI c)
def B6(T:eN)(c:nX T){H:dY}{a0:Fm}{a:Int}{b:Bool}{n:Nat}(hm:jo n a0=some (a,b)):eO prog T 171 [Fm.av a0] H (AV.tuple [sI a,sB b]) H:=(mZ T c n) hm
@[reducible,instance] def PK:=@Kc.mk prog 171 _ @B6
def vp(T:eN)(c:nX T){H:dY}{a0:Fm}{a b:Int}(hm:iN a0=some (a,b)):eO prog T 134 [Fm.av a0] H (AV.tuple [sI a,sI b]) H:=by
 rw[iN] at hm;have e:=c;refine wi ak_ func134 [] [] 999 ?_;have m:=hm;exact aa
@[reducible,instance] def PM:=@Kc.mk prog 134 _ @vp
def zQ(T:eN)(b:nX T){H:dY}{a0:Fm}{a:Int}(hm:j9 a0=some a):eO prog T 99 [Fm.av a0] H (sI a) H:=by
 rw[j9] at hm;have e:=b;refine wi ak_ func99 [] [] 999 ?_;have m:=hm;exact aa
@[reducible,instance] def UR:=@Kc.mk prog 99 _ @zQ
def ub(T:eN)(c:nX T){H:dY}{a0:Int}{a:ft}{b:Bool}(hm:pK a0=some (a,b)):eO prog T 236 [sI a0] H (AV.tuple [ft.av a,sB b]) H:=by
 rw[pK] at hm;have e:=c;refine wi ak_ func236 [] [] 3 ?_;simp[e];refine wA 999 999 [] [2] (λf=>f.1 0=sI a0/\f.1 9=sB (fv (o7 a0 1) true (pd a0 21))) [] (λ_ g=>?_) ?_
 ·exact aa
 intro _ e m;have m:=hm;exact aa
@[reducible,instance] def Yo:=@Kc.mk prog 236 _ @ub
def wI(T:eN){H:dY}{a0:dX}{a1 a2:Int}{i:Bool}{a:dX}{c:Nat}(b:H[c]?=some [sI a0.ak7,sB a0.iS])(hm:hV a0 a1 a2=some (i,a)):eO prog T 238 [AV.fb c 0,sI a1,sI a2] H (sB i) (gk H c [sI a.ak7,sB a.iS]):=by
 rw[hV] at hm;have d:=eU b;refine fC.Lo b ?_;have e:=d;refine wi ak_ func238 [] [] 4 ?_;simp[e];refine wjs 999 999 (λf h=>h=gk H c [sI (fv a0.iS (dX.mk (eS .i64 a0.ak7 a1) true) (dX.mk (eS .i64 a0.ak7 a1) (eo a2 4))).ak7,sB (fv a0.iS (dX.mk (eS .i64 a0.ak7 a1) true) (dX.mk (eS .i64 a0.ak7 a1) (eo a2 4))).iS]/\f.1 2=sI a2) ?_ (λ_ g=>?_)
 ·rintro _ _ E;have e:=Aj e E;cases hm;simp[e]
 exact aa
@[reducible,instance] def Ri:=@Kc.mk prog 238 _ @wI
def gV(T:eN)(w:nX T):∀(n:Nat),(∀{H:dY} {a0:dX} {a1:Pf} {r:Bool} {c:dX} {a:Nat} (k:H[a]?=some [sI a0.ak7,sB a0.iS]) (hm:iL n a0 a1=some (r,c)),eO prog T 172 [AV.fb a 0,Pf.av a1] H (sB r) (gk H a [sI c.ak7,sB c.iS])):=by
  intro n
  induction n with
  |zero=>
    skip
    all_goals(intro _ _;intros;rename_i hm;cases hm)
  |succ n ih=>
 intro H a0 a1 r c a k hm;rw[iL] at hm;have t:=eU k;refine fC.Lo k ?_;have e:=Aj w t;refine wi ak_ func172 [] [] 5 ?_;have m:=hm;refine sw [0,2,0] ?_;intro b u e m;refine wA 999 0 [] [3,5] (λf=>f.1 0=AV.fb a 0/\f.1 61=sB (fv u (fv (o7 a1.ak8 0) true (fv (eP a1.ak8 0) (fv b.ak8 (fv (eP (eA a1.eh) b.eh) true (fv (eP (eA a1.fW) b.fW) true (eP (eA a1.ak6) b.ak6))) true) (fv (eP (eA a1.eh) b.eh) true (fv (eP (eA a1.fW) b.fW) true (eP (eA a1.ak6) b.ak6))))) true)) [13] (λ_ g=>?_) ?_
 ·rcases Pb u e with e|e;rotate_left
  ·exact aj
  rcases Pb (o7 a1.ak8 0) e with e|e
  ·exact aj
  rcases Pb (eP a1.ak8 0) e with e|e;rotate_left
  ·rcases Pb (eP (eA a1.eh) b.eh) e with e|e
   ·exact aj
   rcases Pb (eP (eA a1.fW) b.fW) e with e|e
   ·exact aj
   exact aj
  rcases Pb b.ak8 e with e|e;rotate_left
  ·exact aj
  rcases Pb (eP (eA a1.eh) b.eh) e with e|e
  ·exact aj
  rcases Pb (eP (eA a1.fW) b.fW) e with e|e
  ·exact aj
  exact aj
 intro _ e m;apply wg 4;simp[e];refine Wj m 999 999 (λv f h=>∃s,(h=gk H a [sI s.ak7,sB s.iS]/\f.1 0=AV.fb a 0/\f.1 3=AV.h9 3 (f.gen 3) 0/\f.box 3=some (Pf.av a1).cells)/\v s=some (r,c)) (λv _ g m=>?_) ?_
 ·apply Iq e m<;>intro e m
  ·simp[e];refine E9 m nE λ_ _ m=>?_;refine Il e m λe m=>?_;exact jj
  simp[e];refine sS m qA λ_ m=>?_;refine Im e m λe m=>?_;exact jj
 rintro _ _ ⟨s,E,m⟩;have e:=Aj e E;simp[e];refine YI e m 999 (λl d f h=>h=gk H a [sI d.ak7,sB d.iS]/\f.1 0=AV.fb a 0/\f.1 84=sL Tm.av a1.eh/\f.1 85=sI (eA a1.eh)/\f.1 86=sI l/\bx f 3 (Pf.av a1).cells) abE (λl _ d _ _ _ _ _ E e m z p=>?_) (λd _ _ _ E m=>?_)
 ·refine sw [10,0,2,0,2] ?_;intro _ _ _ d27 e m;exact aa
 refine sw [10,11,0] ?_;intro e m;refine YI e m 999 (λo i f h=>h=gk H a [sI i.ak7,sB i.iS]/\f.1 0=AV.fb a 0/\f.1 99=sL Fm.av a1.fW/\f.1 100=sI (eA a1.fW)/\f.1 101=sI o/\bx f 3 (Pf.av a1).cells) abE (λo _ i _ _ _ _ _ E e m z p=>?_) (λi _ _ _ E m=>?_)
 ·refine sw [10,0,2,0,2] ?_;intro _ _ _ d40 e m;exact aa
 refine sw [10,11,0] ?_;intro e m;refine Wr e m 999 (λq j f h=>h=gk H a [sI j.ak7,sB j.iS]/\f.1 0=AV.fb a 0/\f.1 114=sL Pf.av a1.ak6/\f.1 115=sI (eA a1.ak6)/\f.1 116=sI q) abE (λj _ _ _ E m=>?_) (λq _ j _ _ _ _ _ E e m z p=>?_)
 ·exact aa
 have e:=Aj e E;simp[e];refine E9 m (ih abE) λ_ d51 m=>?_;exact aa
def Dl(T:eN)(f:nX T){H:dY}{a0:dX}{a1:Pf}{d:Bool}{a:dX}{b:Nat}(c:H[b]?=some [sI a0.ak7,sB a0.iS]){n:Nat}(hm:iL n a0 a1=some (d,a)):eO prog T 172 [AV.fb b 0,Pf.av a1] H (sB d) (gk H b [sI a.ak7,sB a.iS]):=(gV T f n) c hm
@[reducible,instance] def PV:=@Kc.mk prog 172 _ @Dl
def m9(T:eN)(c:nX T){H:dY}{a0:Pf}{a b:Int}(hm:q9 a0=some (a,b)):eO prog T 135 [Pf.av a0] H (AV.tuple [sI a,sI b]) H:=by
 rw[q9] at hm;refine fC.vt (Post:=λx K=>x=AV.tuple [sI a,sI b]/\∃X,K=H++X) ?_ (λ_ _ h=>⟨_,h.2.choose_spec,by rw[h.1];simp[AV.low,AV.iE],h.1,rfl⟩);have e:=c;refine wi ak_ func135 [6] [] 8 ?_;have m:=hm;refine sw [0,2,0,14] ?_;intro _ d2 e m;apply wg 1;simp[e];refine wB 999 999 [4] [] (λf=>f.1 12=sB (fv d2.iS true (oQ d2.ak7 16384))) λ_ g=>?_;exact aa
@[reducible,instance] def RN:=@Kc.mk prog 135 _ @m9
def xL(T:eN)(b:nX T){H:dY}{a0:Pf}{a:Int}(hm:rY a0=some a):eO prog T 100 [Pf.av a0] H (sI a) H:=by
 rw[rY] at hm;have e:=b;refine wi ak_ func100 [] [] 999 ?_;have m:=hm;exact aa
def xV(T:eN)(a:nX T){H:dY}{a0:Fm}{a1:Pf}{b:Fm}{c:Pf}{d:Int}(hm:kD a0 a1=some (b,c,d)):eO prog T 39 [Fm.av a0,Pf.av a1] H (AV.tuple [Fm.av b,Pf.av c,sI d]) H:=by
 rw[kD] at hm;have e:=a;refine wi ak_ func39 [] [] 4 ?_;have m:=hm;refine sw [0,1,0] ?_;intro _ e m;refine WB m 999 999 [] [2,3,4,5] (λv3 f=>f.1 7=sI v3) λh _ g m=>?_;apply Ir e m<;>intro e m
 ·exact jj
 simp[e];refine sS m (xL T a) λ_ m=>?_;exact jj
@[reducible,instance] def YK:=@Kc.mk prog 39 _ @xV
def xn(T:eN)(d:nX T){H:dY}{a0:Tm}{a:Fm}{b:Pf}{c:Int}(hm:uT a0=some (a,b,c)):eO prog T 11 [Tm.av a0] H (AV.tuple [Fm.av a,Pf.av b,sI c]) H:=by
 rw[uT] at hm;have e:=d;refine wi ak_ func11 [] [] 999 ?_;have m:=hm;exact aa
@[reducible,instance] def SI:=@Kc.mk prog 11 _ @xn
def tc:C2 prog 254 ny (sL dN.av) (sL dN.av) (sL Ty.av):=by
 refine v2 func254 λT H a0 a1 r m e=>?_;rw[ny] at m;refine sw [0,4,9,0] ?_;intro a e m;refine Ad (f:=dN.av) a0 a (hS.full (D:=[])) Xn e.2 ?_;exact au
@[reducible,instance] def M8:=@Kc.mk prog 254 _ @tc
def pc:C3 prog 255 rp sI (sL dN.av) Tm.av sI:=by
 refine u3 5 func255 λT H a0 a1 a2 r m e=>?_;rw[rp] at m;refine sw [0,2,0] ?_;intro _ a e m;refine WB m 999 999 [8] [] (λv4 f=>f.1 22=sB v4) λb _ g m=>?_;apply Ir e m<;>intro e m
 ·exact jj
 simp[e];refine sS m xd λ_ m=>?_;exact jj
@[reducible,instance] def NI:=@Kc.mk prog 255 _ @pc
def rE:C2 prog 257 mu sI (sL dN.av) Tm.av:=by
 refine v2 func257 λT H a0 a1 r m e=>?_;rw[mu] at m;exact aa
@[reducible,instance] def KN:=@Kc.mk prog 257 _ @rE
def gZ{n:Nat}:C2 prog 239 (je n) sI (sL dN.av) Fm.av:=by
 refine i2 λn ih=>u2 6 func239 λT H a0 a1 r m e=>?_;rw[je] at m;simp[e];refine Dt m 1 999 (λi f h=>∃v2,(h=H/\f.1 0=sL dN.av v2/\f.1 3=AV.h9 3 (f.gen 3) 0/\f.box 3=some (Fm.av a1).cells)/\i v2=some r) ?_ (λi _ a m=>?_)
 ·rintro _ _ ⟨v2,E,m⟩;have e:=Aj e E;simp[e];refine Wr e m 999 (λj _ f h=>h=H/\f.1 0=sL dN.av v2/\f.1 28=sL Fm.av a1.ak6/\f.1 29=sI (eA a1.ak6)/\f.1 30=sI j) abE (λ_ _ _ _ E m=>?_) (λj _ _ _ _ _ _ _ E e m z p=>?_)
  ·refine sw [10,11] ?_;intro e m;exact au
  have e:=Aj e E;refine sw [0,15,7] ?_;intro _ e m;exact al
 simp[e];refine Dt m 4 999 (λb f h=>(h=H/\f.1 0=sL dN.av a0/\f.1 3=AV.h9 3 (f.gen 3) 0/\f.box 3=some (Fm.av a1).cells)/\b=some r) ?_ (λb _ g m=>?_)
 ·rintro _ _ ⟨E,m⟩;have e:=Aj e E;refine sw [0,1,0] ?_;intro d e m;exact a _ _ ⟨d,abE,m⟩
 simp[e];refine wj 999 0 (λf h=>h=H/\f.1 0=sL dN.av a0/\f.1 12=sI a1.ak5/\f.1 13=sB (fv (eo a1.ak5 4) true (eo a1.ak5 5))/\bx f 3 (Fm.av a1).cells) (λ_ g=>?_) ?_
 ·rcases Pb (eo a1.ak5 4) e with e|e
  ·exact aj
  exact aj
 rintro _ _ E;have e:=Aj e E;apply Iq e m<;>intro e m
 ·apply wg 999;exact ak0
 apply wg 3;simp[e];refine wj 999 0 (λf h=>h=H/\f.1 0=sL dN.av a0/\f.1 12=sI a1.ak5/\f.1 16=sB (fv (eo a1.ak5 6) true (eo a1.ak5 7))/\bx f 3 (Fm.av a1).cells) (λ_ g=>?_) ?_
 ·rcases Pb (eo a1.ak5 6) e with e|e
  ·exact aj
  exact aj
 rintro _ _ E;have e:=Aj e E;apply Iq e m<;>intro e m
 ·apply wg 999;exact ak0
 apply wg 2;simp[e];refine wj 999 999 (λf h=>h=H/\f.1 0=sL dN.av a0/\f.1 19=sB (fv (eo a1.ak5 2) true (eo a1.ak5 3))/\bx f 3 (Fm.av a1).cells) (λ_ g=>?_) ?_
 ·rcases Pb (eo a1.ak5 2) e with e|e
  ·exact aj
  exact aj
 rintro _ _ E;have e:=Aj e E;apply Iq e m<;>intro e m
 ·simp[e];exact a _ _ ⟨a0,abE,m⟩
 simp[e];refine Wr e m 999 (λc _ f h=>h=H/\f.1 0=sL dN.av a0/\f.1 42=sL Tm.av a1.eh/\f.1 43=sI (eA a1.eh)/\f.1 44=sI c) abE (λ_ _ _ _ E m=>?_) (λc _ _ _ _ _ _ _ E e m z p=>?_)
 ·exact aa
 exact aa
@[reducible,instance] def KD:=@Kc.mk prog 239 _ @gZ
def zO(T:eN)(b:nX T){H:dY}{a0:List Ty}{a1:Fm}{a:Int}(hm:uk a0 a1=some a):eO prog T 173 [sL Ty.av a0,Fm.av a1] H (sI a) H:=by
 rw[uk] at hm;have e:=b;refine wi ak_ func173 [] [] 999 ?_;have m:=hm;exact aa
@[reducible,instance] def Ux:=@Kc.mk prog 173 _ @zO
def tf(T:eN)(b:nX T){H:dY}{a0:List Fm}{a1:Sq}{a:Int}(hm:wV a0 a1=some a):eO prog T 136 [sL Fm.av a0,Sq.av a1] H (sI a) H:=by
 rw[wV] at hm;have e:=b;refine wi ak_ func136 [] [] 999 ?_;refine Il e hm λe m=>?_;simp[e];refine Wa e m 999 17 [15,16] [3] nI [11,0,1,7,7,0] ?_;intro _ _ _ e m;exact Wb e m 999 40 [38,39] [3] nI
def IV(T:eN){H:dY}{u:Unit}(hm:DU=some u):eO prog T 137 [] H (AV.nx (List.length H)) (H++[[Mt]]):=by
 refine wi ak_ func137 [] [] 999 ?_;simp;refine uN.ya kX vI acS acS ?_;simp;refine uN.ya kX vI acS acS ?_;simp;refine uN.ya kX vI acS acS ?_;simp;refine uN.ya kX vI acS acS ?_;simp;refine uN.ya kX vI acS acS ?_;simp;refine uN.ya kX vI acS acS ?_;simp;refine uN.ya kX vI acS acS ?_;simp;refine uN.ya kX vI acS acS ?_;simp;refine uN.ya kX vI acS acS ?_;simp;refine uN.ya kX vI acS acS ?_;simp;refine uN.ya kX vI acS acS ?_;simp;refine uN.ya kX vI acS acS ?_;simp;refine uN.ya kX vI acS acS ?_;simp;refine uN.ya kX vI acS acS ?_;simp;refine uN.ya kX vI acS acS ?_;simp;refine uN.ya kX vI acS acS ?_;simp;refine uN.ya kX vI acS acS ?_;simp;refine uN.ya kX vI acS acS ?_;simp;refine uN.ya kX vI acS acS ?_;simp;refine uN.ya kX vI acS acS ?_;simp;simp[Mt,Q4,Qz]
def vr:C2 prog 189 sm ew.av ew.av Fm.av:=by
 refine v2 func189 λT H a0 a1 r m e=>?_;rw[sm] at m;refine sw [9,0] ?_;intro e m;refine Ad (f:=en.av) a0.known [(en.mk a1 a0.nu.vars)] (hS.full (D:=[])) agS e.2 ?_;exact au
@[reducible,instance] def PF:=@Kc.mk prog 189 _ @vr
def wE:C1 prog 139 zb ew.av Sq.av:=by
 refine v1 func139 λT H a0 r m e=>?_;rw[zb] at m;refine sw [0,1,0] ?_;intro _ e m;refine Wr e m 999 (λj b f h=>∃a,h=H/\f.1 16=sL Fm.av a0.ala/\f.1 17=sI (eA a0.ala)/\f.1 18=sI j/\bx f 2 [sI 0,sI 0,nL,nL]/\bx f 3 [sI b.1,sI b.2.1,sL dN.av b.2.2.1,sT a en.av b.2.2.2]) ⟨.full,abE⟩ (λb _ _ _ E m=>?_) (λj _ b _ _ _ _ _ E e m z p=>?_)
 ·have⟨v12,c,d,i⟩:=b;have⟨a,E⟩:=E;have e:=Aj e E;dsimp only[eB,zk]at m;exact au
 have⟨v12,c,d,i⟩:=b;have⟨a,E⟩:=E;have e:=Aj e E;dsimp only[zk]at m;refine sw [0,1,0] ?_;intro _ e m;cases m;exact p _ _ _ ⟨.gI,abE⟩ z
def pA:C3 prog 243 rv sI eQ.av sI sI:=by
 refine u3 3 func243 λT H a0 a1 a2 r m e=>?_;rw[rv] at m;simp[e];refine wB 999 999 [] [] (λf=>f.1 18=sB (fv (oQ (eS .i64 a0.vars a1) 16) true (oQ (eS .i64 a0.ala a2) 16))) λ_ g=>?_;exact aa
@[reducible,instance] def Ol:=@Kc.mk prog 243 _ @pA
def uu:C2 prog 244 rk ew.av ew.av (sL Ty.av):=by
 refine v2 func244 λT H a0 a1 r m e=>?_;rw[rk] at m;exact aa
@[reducible,instance] def Ns:=@Kc.mk prog 244 _ @uu
def E2:C3 prog 245 va Fm.av sI Ty.av Fm.av:=by
 refine v3 func245 λT H a0 a1 a2 r m e=>?_;rw[va] at m;have e:=Aj e (show AV.agg [sI a0,sI a1.ak5,sL Ty.av a1.ak6,AV.slice .gI [],AV.slice .gI [Fm.av a2]]=Fm.av (Fm.mk a0 a1 [] [a2]) by rw[Fm.eR];rfl);exact au
@[reducible,instance] def RR:=@Kc.mk prog 245 _ @E2
def yP:C2 prog 246 pf (λn=>AV.sc (Value.int .u32 n)) (λn=>AV.sc (Value.int .u32 n)) sI:=by
 intro T H a0 a1 r hm;rw[pf] at hm;have e:=trivial;refine wi ak_ func246 [] [] 999 ?_;have⟨e,m⟩:=Ck e hm;exact au
@[reducible,instance] def L9:=@Kc.mk prog 246 _ @yP
def zU(T:eN){H:dY}{a0 a1 a b:Int}{q0:Nat}(c:H[q0]?=some [AV.sc (.int .u32 a)])(hm:xB a0 a1 a=some b):eO prog T 290 [sI a0,sI a1,AV.fb q0 0] H (AV.tuple []) (gk H q0 [AV.sc (.int .u32 b)]):=by
 rw[xB] at hm;have d:=eU c;refine fC.Lo c ?_;have e:=d;refine wi ak_ func290 [] [(1,false,[false,true,true,true,true,true,false])] 999 ?_;have m:=hm;refine sw [12,9] ?_;intro e m;exact au
def sJ(T:eN):∀(n:Nat),(∀{S:Type} {st:S->dY} {k:Nat} {a0:Tm} {a1:Int} {d:(S->Int->Int->Option (S))} {vn:S} {zE:S} {q0:Nat} {q1:Nat} {i:Nat} {j:List AV} (hF:Fz st k) (b:∀s,(st s)[q0]?=some [AV.func (.func i) [] j]) (a:ua T i j st d) (c:∀s,(st s)[q1]?=some [AV.func (.func 311) [] [AV.fb q0 0,AV.fb q1 0]]) (hm:uz n a0 a1 d vn=some zE),eO prog T 311 [Tm.av a0,sI a1,AV.fb q0 0,AV.fb q1 0] (st vn) (AV.tuple []) (st zE)):=by
  intro n
  induction n with
  |zero=>
    skip
    all_goals(intro _ _;intros;rename_i hm;cases hm)
  |succ n ih=>
 intro S st k a0 a1 d vn zE q0 q1 i j hF b a c hm;rw[uz] at hm;have q:=λs=>eU (b s);have r:=λs=>eU (c s);have e:=Aj (Aj (Aj (Aj hF.len q) b) r) c;refine wi ak_ func311 [] [] 2 ?_;simp[e];refine Wj hm 999 0 (λt f h=>∃v2,(h=st v2/\f.1 1=sI a1/\f.1 3=AV.fb q1 0/\f.1 4=AV.h9 4 (f.gen 4) 0/\f.box 4=some (Tm.av a0).cells)/\t v2=some zE) (λt v g m=>?_) ?_
 ·apply Ir e m<;>intro e m
  ·exact jj
  refine sw [8,0] ?_;intro w e m;refine lC.G3 ac8 (ua.at0 a e.2) ?_;exact jj
 rintro _ _ ⟨v2,E,m⟩;have e:=Aj e E;refine wj 999 999 (λf h=>h=st v2/\f.1 1=sI (fv (eo a0.ak5 2) (eS .i64 a1 1) a1)/\f.1 3=AV.fb q1 0/\f.1 4=AV.h9 4 (f.gen 4) 0/\f.box 4=some (Tm.av a0).cells) (λ_ g=>?_) ?_
 ·rcases Pb (eo a0.ak5 2) e with e|e
  ·exact aj
  exact aj
 rintro _ _ E;have e:=Aj e E;simp[e];refine Wr e m 999 (λo l f h=>h=st l/\f.1 1=sI (fv (eo a0.ak5 2) (eS .i64 a1 1) a1)/\f.1 3=AV.fb q1 0/\f.1 22=sL Tm.av a0.ak6/\f.1 23=sI (eA a0.ak6)/\f.1 24=sI o) abE (λl _ _ _ E m=>?_) (λo _ l _ _ _ _ _ E e m z p=>?_)
 ·exact aa
 refine sw [10,8,0] ?_;intro u e m;refine lC.G3 ac8 (ih hF b a c e.2) ?_;exact al
def Kt(T:eN){S:Type}{st:S->dY}{k:Nat}{a0:Tm}{a1:Int}{a:(S->Int->Int->Option (S))}{vn zE:S}{q0 q1 b:Nat}{c:List AV}(hF:Fz st k)(f:∀s,(st s)[q0]?=some [AV.func (.func b) [] c])(d:ua T b c st a)(h:∀s,(st s)[q1]?=some [AV.func (.func 311) [] [AV.fb q0 0,AV.fb q1 0]]){n:Nat}(hm:uz n a0 a1 a vn=some zE):eO prog T 311 [Tm.av a0,sI a1,AV.fb q0 0,AV.fb q1 0] (st vn) (AV.tuple []) (st zE):=(sJ T n) hF f d h hm
def G4(T:eN){S:Type}{st:S->dY}{k:Nat}{a0:Tm}{a1:(S->Int->Int->Option (S))}{vn zE:S}{g1:Nat}{a:List AV}(hF:Fz st k)(b:ua T g1 a st a1)(hm:BD a0 a1 vn=some zE):eO prog T 289 [Tm.av a0,AV.func (.func g1) [] a] (st vn) (AV.tuple []) (st zE):=by
 rw[BD] at hm;refine fC.aci hF (Post:=λx K=>x=AV.tuple []/\∃X,K=(st zE)++X) ?_ (λ_ _ h=>⟨_,h.2.choose,h.2.choose_spec,by rw[h.1];simp[AV.low,AV.iE],h.1,rfl⟩);have e:=hF.len;refine wi ak_ func289 [3,4] [] 999 ?_;have⟨s1,e,m⟩:=Ou e hm;simp[e];refine lC.G3 ac8 (Kt T (st:=λs=>st s++[[AV.func (.func g1) [] a],[AV.func (.func 311) [] [AV.fb k 0,AV.fb (k+1) 0]]]) (Fz.ext hF _ (n:=k+2) aa2) (λ_=>abE) (ua.ext b) (λ_=>abE) e.2) ?_;exact au
def KJ(T:eN){H:dY}{a0:Tm}{a:Int}(hm:A' a0=some a):eO prog T 247 [Tm.av a0] H (AV.sc (.int .u32 a)) H:=by
 rw[A'] at hm;refine fC.vt (Post:=λx K=>x=AV.sc (.int .u32 a)/\∃X,K=H++X) ?_ (λ_ _ h=>⟨_,h.2.choose_spec,by rw[h.1];simp[AV.low,AV.iE],h.1,rfl⟩);have e:=trivial;refine wi ak_ func247 [3] [] 999 ?_;simp[e];refine sS hm (G4 T (st:=λs:Int=>H++[[AV.sc (.int .u32 s)]]) (Fz.adD H (λs:Int=>[[AV.sc (.int .u32 s)]]) 1 (λ_=>rfl) (by simp[AV.low,AV.iE])) (λX s _ _ b h=>by have:=zU T (H:=H++[[AV.sc (.int .u32 s)]]++X) (q0:=(List.length H)) abE h;simpa using this)) λ_ m=>?_;exact au
def za:C1 prog 250 pn (λn=>AV.sc (Value.int .u32 n)) Tm.av:=by
 intro T H a0 r hm;rw[pn] at hm;have e:=trivial;refine wi ak_ func250 [] [] 999 ?_;cases hm;simp[e]
def qk:C2 prog 248 oV sB dN.av Ty.av:=by
 refine v2 func248 λT H a0 a1 r m e=>?_;rw[oV] at m;exact aa
def A7(T:eN){H:dY}{a0 a1 a b c:Int}{q0 q1:Nat}(d:H[q0]?=some [sI a])(f:H[q1]?=some [sI b])(h:q0≠q1)(hm:zv a0 a1 a b=some c):eO prog T 332 [sI a0,sI a1,AV.fb q0 0,AV.fb q1 0] H (AV.tuple []) (gk H q1 [sI c]):=by
 rw[zv] at hm;have i:=eU d;have j:=eU f;refine fC.Lo f ?_;have e:=Aj (Aj (Aj (Aj i d) j) h) h.symm;refine wi ak_ func332 [] [] 999 ?_;have m:=hm;exact aa
def Ew(T:eN){H:dY}{a0:Tm}{a1 a:Int}(hm:zy a0 a1=some a):eO prog T 314 [Tm.av a0,sI a1] H (sI a) H:=by
 rw[zy] at hm;refine fC.vt (Post:=λx K=>x=sI a/\∃X,K=H++X) ?_ (λ_ _ h=>⟨_,h.2.choose_spec,by rw[h.1];simp[AV.low,AV.iE],h.1,rfl⟩);have e:=trivial;refine wi ak_ func314 [3,5] [] 999 ?_;simp[e];refine sS hm (G4 T (st:=λs:Int=>H++[[sI a1],[sI s]]) (Fz.adD H (λs:Int=>[[sI a1],[sI s]]) 2 (λ_=>rfl) (by simp[AV.low,AV.iE])) (λX s _ _ b h=>by have:=A7 T (H:=H++[[sI a1],[sI s]]++X) (q0:=(List.length H)) (q1:=(List.length H+1)) abE abE abE h;simpa using this)) λ_ m=>?_;exact au
@[reducible,instance] def ZE:=@Kc.mk prog 314 _ @Ew
def s9(T:eN){H:dY}{a0:Tm}{a1 a b c:Int}{q0 q1:Nat}(d:H[q0]?=some [sI a])(f:H[q1]?=some [sI b])(h:q0≠q1)(hm:qo a0 a1 a b=some c):eO prog T 313 [Tm.av a0,sI a1,AV.fb q0 0,AV.fb q1 0] H (AV.tuple []) (gk H q0 [sI c]):=by
 rw[qo] at hm;have i:=eU d;have j:=eU f;refine fC.Lo d ?_;have e:=Aj (Aj (Aj (Aj i j) f) h) h.symm;refine wi ak_ func313 [] [(1,true,[true,true,true,true,true,true,true,false])] 999 ?_;have m:=hm;exact aa
def o6:C1 prog 264 mE sB sI:=by
 refine u1 2 func264 λT H a0 r m e=>?_;rw[mE] at m;simp[e];refine wB 999 999 [] [] (λf=>f.1 2=sB (fv (pd a0 4) (Yr a0 7) false)) λ_ g=>?_;exact aa
@[reducible,instance] def Sx:=@Kc.mk prog 264 _ @o6
def nU(T:eN):∀(n:Nat),(∀{S:Type} {st:S->dY} {k:Nat} {a0:Fm} {a1:Int} {a2:(S->Tm->Int->Option (S))} {vn:S} {zE:S} {g2:Nat} {a:List AV} (hF:Fz st k) (b:Ep T g2 a st a2) (hm:qI n a0 a1 a2 vn=some zE),eO prog T 312 [Fm.av a0,sI a1,AV.func (.func g2) [] a] (st vn) (AV.tuple []) (st zE)):=by
  intro n
  induction n with
  |zero=>
    skip
    all_goals(intro _ _;intros;rename_i hm;cases hm)
  |succ n ih=>
 intro S st k a0 a1 a2 vn zE g2 a hF b hm;rw[qI] at hm;have e:=hF.len;refine wi ak_ func312 [] [] 999 ?_;simp[e];refine YI e hm 0 (λj s2 f h=>h=st s2/\f.1 1=sI a1/\f.1 2=AV.func (.func g2) [] a/\f.1 11=sL Tm.av a0.eh/\f.1 12=sI (eA a0.eh)/\f.1 13=sI j/\bx f 3 (Fm.av a0).cells) abE (λj _ s2 _ _ _ _ _ E e m z p=>?_) (λs2 _ _ _ E m=>?_)
 ·have e:=Aj e E;refine sg 999 [8,0] ?_;intro l e m;refine lC.G3 ac8 (Ep.at0 b e.2) ?_;exact al
 have e:=Aj e E;refine sg 5 [11,0] ?_;intro e m;refine WA m 999 999 [] [] (λc f=>f.1 1=sI c/\f.1 2=AV.func (.func g2) [] a/\f.1 3=AV.h9 3 (f.gen 3) 0/\f.box 3=some (Fm.av a0).cells) [0] (λo _ g m=>?_) ?_
 ·simp[e];refine sS m o6 λ_ m=>?_;apply Ir e m<;>intro e m
  ·exact jj
  exact jj
 intro _ c e m;refine Wr e m 999 (λi d f h=>h=st d/\f.1 1=sI c/\f.1 2=AV.func (.func g2) [] a/\f.1 28=sL Fm.av a0.ak6/\f.1 29=sI (eA a0.ak6)/\f.1 30=sI i) abE (λd _ _ _ E m=>?_) (λi _ d _ _ _ _ _ E e m z p=>?_)
 ·exact aa
 have e:=Aj e E;simp[e];refine sS m (ih hF b) λ_ m=>?_;exact al
def Hq(T:eN){S:Type}{st:S->dY}{k:Nat}{a0:Fm}{a1:Int}{a2:(S->Tm->Int->Option (S))}{vn zE:S}{g2:Nat}{a:List AV}(hF:Fz st k)(b:Ep T g2 a st a2){n:Nat}(hm:qI n a0 a1 a2 vn=some zE):eO prog T 312 [Fm.av a0,sI a1,AV.func (.func g2) [] a] (st vn) (AV.tuple []) (st zE):=(nU T n) hF b hm
def B5(T:eN){H:dY}{a0:Fm}{a1 a:Int}(hm:r' a0 a1=some a):eO prog T 291 [Fm.av a0,sI a1] H (sI a) H:=by
 rw[r'] at hm;refine fC.vt (Post:=λx K=>x=sI a/\∃X,K=H++X) ?_ (λ_ _ h=>⟨_,h.2.choose_spec,by rw[h.1];simp[AV.low,AV.iE],h.1,rfl⟩);have e:=trivial;refine wi ak_ func291 [3,5] [] 999 ?_;simp[e];refine sS hm (Hq T (st:=λs:Int=>H++[[sI a1],[sI s]]) (Fz.adD H (λs:Int=>[[sI a1],[sI s]]) 2 (λ_=>rfl) (by simp[AV.low,AV.iE])) (λX s _ _ b h=>by have:=s9 T (H:=H++[[sI a1],[sI s]]++X) (q0:=(List.length H+1)) (q1:=(List.length H)) abE abE abE h;simpa using this)) λ_ m=>?_;exact au
@[reducible,instance] def PL:=@Kc.mk prog 291 _ @B5
def Jt:C1 prog 262 oI Tm.av sI:=by
 refine v1 func262 λT H a0 r m e=>?_;rw[oI] at m;exact au
@[reducible,instance] def aeP:=@Kc.mk prog 262 _ @Jt
def CM(T:eN){H:dY}{a0 a1 a b:Int}{k:Tm}{q0 q1:Nat}(c:H[q0]?=some [sI a])(d:H[q1]?=some [sI b])(hm:uq a0 a1 a b=some k):eO prog T 318 [sI a0,sI a1,AV.fb q0 0,AV.fb q1 0] H (Tm.av k) H:=by
 rw[uq] at hm;have i:=eU c;have j:=eU d;have e:=Aj (Aj (Aj i c) j) d;refine wi ak_ func318 [] [] 2 ?_;simp[e];refine wjs 999 999 (λf h=>h=H/\f.1 0=sI (fv (pd (fA .i64 a0 a1) a) (eS .i64 a0 b) a0)/\f.1 6=AV.h9 6 (f.gen 6) 0/\f.box 6=some [sI 0,sI 0,sI 0,nL,nL]) ?_ (λ_ g=>?_)
 ·rintro _ _ E;have m:=hm;exact aa
 rcases Pb (pd (fA .i64 a0 a1) a) e with e|e
 ·exact aj
 exact aj
def o3(T:eN):∀(n:Nat),(∀{S:Type} {st:S->dY} {k:Nat} {a0:Tm} {a1:Int} {l:(S->Int->Int->Option (Tm×S))} {vn:S} {u:Tm} {zE:S} {q0:Nat} {q1:Nat} {o:Nat} {q:List AV} (hF:Fz st k) (d:∀s,(st s)[q0]?=some [AV.func (.func o) [] q]) (b:tZ T o q st l) (i:∀s,(st s)[q1]?=some [AV.func (.func 334) [] [AV.fb q0 0,AV.fb q1 0]]) (hm:ll n a0 a1 l vn=some (u,zE)),eO prog T 334 [Tm.av a0,sI a1,AV.fb q0 0,AV.fb q1 0] (st vn) (Tm.av u) (st zE)):=by
  intro n
  induction n with
  |zero=>
    skip
    all_goals(intro _ _;intros;rename_i hm;cases hm)
  |succ n ih=>
 intro S st k a0 a1 l vn u zE q0 q1 o q hF d b i hm;rw[ll] at hm;have v:=λs=>eU (d s);have w:=λs=>eU (i s);have e:=Aj (Aj (Aj (Aj hF.len v) d) w) i;refine wi ak_ func334 [] [(9,false,[true,true,false,true,true,true,true,true,true,true])] 5 ?_;simp[e];apply Iq e hm<;>intro e m
 ·apply wg 999;have⟨D,F,e,m⟩:=Bo2 e m;simp[e];refine lC.G3 ac8 (tZ.at0 b e.2) ?_;exact au
 refine sg 4 [0,4,0] ?_;intro A e m;refine wA 999 999 [] [4,6,7] (λf=>f.1 1=sI (fv (eo a0.ak5 2) (eS .i64 a1 1) a1)/\f.1 3=AV.fb q1 0) [0] (λ_ g=>?_) ?_
 ·rcases Pb (eo a0.ak5 2) e with e|e
  ·exact aj
  exact aj
 intro _ e m;refine Wr e m 999 (λB r f h=>∃a,(h=st r.2/\f.1 1=sI (fv (eo a0.ak5 2) (eS .i64 a1 1) a1)/\f.1 3=AV.fb q1 0/\f.1 32=sL Tm.av a0.ak6/\f.1 33=sI (eA a0.ak6)/\f.1 34=sI B/\bx f 6 [sI 0,sI 0,sI 0,nL,nL]/\bx f 7 [sI a0.ak5,sI a0.ak8,sI A.ak5,sL Ty.av A.ak6,sT a Tm.av r.1])/\Ow f [45] a r.1) (by exact⟨.full,abE,hS.full⟩) (λr j _ _ E m=>?_) (λB _ r j _ _ _ _ E e m z p=>?_)
 ·have⟨t,x⟩:=r;have⟨a,E,c⟩:=E;have e:=Aj e E;dsimp only[eB,kp]at m;exact au
 have⟨t,x⟩:=r;have⟨a,E,c⟩:=E;have e:=Aj e E;dsimp only[kp]at m;have⟨y,C,e,m⟩:=Bo2 e m;simp[e];refine gS.G3 ac8 (ih hF d b i e.2) aa2 ?_;refine sw [9,0] ?_;intro e m;refine Ad (f:=Tm.av) t [y] c zl e.2 ?_;simp[e];cases m;exact p _ _ _ ⟨(.loc 45 (j.fi 45+1)),abE,(On 45)⟩ z
def Fc(T:eN){S:Type}{st:S->dY}{k:Nat}{a0:Tm}{a1:Int}{a:(S->Int->Int->Option (Tm×S))}{vn:S}{i:Tm}{zE:S}{q0 q1 b:Nat}{c:List AV}(hF:Fz st k)(f:∀s,(st s)[q0]?=some [AV.func (.func b) [] c])(d:tZ T b c st a)(h:∀s,(st s)[q1]?=some [AV.func (.func 334) [] [AV.fb q0 0,AV.fb q1 0]]){n:Nat}(hm:ll n a0 a1 a vn=some (i,zE)):eO prog T 334 [Tm.av a0,sI a1,AV.fb q0 0,AV.fb q1 0] (st vn) (Tm.av i) (st zE):=(o3 T n) hF f d h hm
def A3(T:eN){S:Type}{st:S->dY}{k:Nat}{a0:Tm}{a1:(S->Int->Int->Option (Tm×S))}{vn:S}{b:Tm}{zE:S}{g1:Nat}{a:List AV}(hF:Fz st k)(c:tZ T g1 a st a1)(hm:sn a0 a1 vn=some (b,zE)):eO prog T 317 [Tm.av a0,AV.func (.func g1) [] a] (st vn) (Tm.av b) (st zE):=by
 rw[sn] at hm;refine fC.aci hF (Post:=λx K=>x=Tm.av b/\∃X,K=(st zE)++X) ?_ (λ_ _ h=>⟨_,h.2.choose,h.2.choose_spec,by rw[h.1];simp[AV.low,AV.iE],h.1,rfl⟩);have e:=hF.len;refine wi ak_ func317 [3,5] [] 999 ?_;have⟨d,s2,e,m⟩:=Bo2 e hm;simp[e];refine lC.G3 ac8 (Fc T (st:=λs=>st s++[[AV.func (.func g1) [] a],[AV.func (.func 334) [] [AV.fb k 0,AV.fb (k+1) 0]]]) (Fz.ext hF _ (n:=k+2) aa2) (λ_=>abE) (tZ.ext c) (λ_=>abE) e.2) ?_;exact au
def O5(T:eN){H:dY}{a0:Tm}{a1 a2:Int}{a:Tm}(hm:vT a0 a1 a2=some a):eO prog T 296 [Tm.av a0,sI a1,sI a2] H (Tm.av a) H:=by
 rw[vT] at hm;refine fC.vt (Post:=λx K=>x=Tm.av a/\∃X,K=H++X) ?_ (λ_ _ h=>⟨_,h.2.choose_spec,by rw[h.1];simp[AV.low,AV.iE],h.1,rfl⟩);have e:=trivial;refine wi ak_ func296 [4,5] [] 999 ?_;simp[e];refine E9 hm (A3 T (st:=λ_:Unit=>H++[[sI a1],[sI a2]]) (Fz.const _) (λX _ _ _ _ _ h=>by obtain⟨b,rfl⟩:=yT h;exact CM T (q0:=(List.length H)) (q1:=(List.length H+1)) abE abE b)) λ_ _ m=>?_;exact au
@[reducible,instance] def abV:=@Kc.mk prog 296 _ @O5
def EO(T:eN){H:dY}{a0 a1 b:Int}{a i:Tm}{q0 q1:Nat}(c:H[q0]?=some [sI b])(d:H[q1]?=some [sI a.ak5,sI a.ak8,sI a.dM.ak5,sL Ty.av a.dM.ak6,sL Tm.av a.ak6])(hm:CT a0 a1 b a=some i):eO prog T 333 [sI a0,sI a1,AV.fb q0 0,AV.fb q1 0] H (Tm.av i) H:=by
 rw[CT] at hm;have f:=eU c;have h:=eU d;have e:=Aj (Aj (Aj f c) h) d;refine wi ak_ func333 [] [] 999 ?_;have m:=hm;exact aa
def Qe(T:eN){H:dY}{a0:Tm}{a1:Int}{a2 a:Tm}(hm:Jj a0 a1 a2=some a):eO prog T 316 [Tm.av a0,sI a1,Tm.av a2] H (Tm.av a) H:=by
 rw[Jj] at hm;refine fC.vt (Post:=λx K=>x=Tm.av a/\∃X,K=H++X) ?_ (λ_ _ h=>⟨_,h.2.choose_spec,by rw[h.1];simp[AV.low,AV.iE],h.1,rfl⟩);have e:=trivial;refine wi ak_ func316 [4,5] [] 999 ?_;simp[e];refine E9 hm (A3 T (st:=λ_:Unit=>H++[[sI a1],[sI a2.ak5,sI a2.ak8,sI a2.dM.ak5,sL Ty.av a2.dM.ak6,sL Tm.av a2.ak6]]) (Fz.const _) (λX _ _ _ _ _ h=>by obtain⟨b,rfl⟩:=yT h;exact EO T (q0:=(List.length H)) (q1:=(List.length H+1)) abE abE b)) λ_ _ m=>?_;exact au
@[reducible,instance] def afc:=@Kc.mk prog 316 _ @Qe
def vl(T:eN){H:dY}{a0:Tm}{a1 b:Int}{a i:Tm}{q0 q1:Nat}(c:H[q0]?=some [sI b])(d:H[q1]?=some [sI a.ak5,sI a.ak8,sI a.dM.ak5,sL Ty.av a.dM.ak6,sL Tm.av a.ak6])(hm:sE a0 a1 b a=some i):eO prog T 315 [Tm.av a0,sI a1,AV.fb q0 0,AV.fb q1 0] H (Tm.av i) H:=by
 rw[sE] at hm;have f:=eU c;have h:=eU d;have e:=Aj (Aj (Aj f c) h) d;refine wi ak_ func315 [] [] 999 ?_;have m:=hm;exact aa
def ka(T:eN):∀(n:Nat),(∀{S:Type} {st:S->dY} {k:Nat} {a0:Fm} {a1:Int} {a2:(S->Tm->Int->Option (Tm×S))} {vn:S} {D:Fm} {zE:S} {g2:Nat} {i:List AV} (hF:Fz st k) (t:DV T g2 i st a2) (hm:gW n a0 a1 a2 vn=some (D,zE)),eO prog T 190 [Fm.av a0,sI a1,AV.func (.func g2) [] i] (st vn) (Fm.av D) (st zE)):=by
  intro n
  induction n with
  |zero=>
    skip
    all_goals(intro _ _;intros;rename_i hm;cases hm)
  |succ n ih=>
 intro S st k a0 a1 a2 vn D zE g2 i hF t hm;rw[gW] at hm;have e:=hF.len;refine wi ak_ func190 [] [] 999 ?_;have m:=hm;refine sw [0,4,0] ?_;intro w e m;refine YI e m 0 (λI u f h=>∃b,(h=st u.2/\f.1 1=sI a1/\f.1 2=AV.func (.func g2) [] i/\f.1 19=sL Tm.av a0.eh/\f.1 20=sI (eA a0.eh)/\f.1 21=sI I/\bx f 3 (Fm.av a0).cells/\bx f 6 [sI 0,sI 0,nL,nL,nL]/\bx f 7 [sI a0.ak5,sI w.ak5,sL Ty.av w.ak6,sT b Tm.av u.1,nL])/\Ow f [32] b u.1) (by exact⟨.full,abE,hS.full⟩) (λI _ u x _ _ _ _ E e m z p=>?_) (λu x _ _ E m=>?_)
 ·have⟨v12,y⟩:=u;have⟨b,E,o⟩:=E;have e:=Aj e E;dsimp only[kp]at m;apply wg 999;have⟨F,J,e,m⟩:=Bo2 e m;simp[e];refine gS.G3 ac8 (DV.at0 t e.2) aa2 ?_;refine sw [9,0] ?_;intro e m;refine Ad (f:=Tm.av) v12 [F] o zl e.2 ?_;simp[e];cases m;exact p _ _ _ ⟨(.loc 32 (x.fi 32+1)),abE,(On 32)⟩ z
 have⟨v12,y⟩:=u;have⟨b,E,o⟩:=E;have e:=Aj e E;apply wg 5;dsimp only[eB,kp]at m;simp[e];refine Wj m 999 999 (λA f h=>∃r c,(h=st y/\f.1 1=sI r/\f.1 2=AV.func (.func g2) [] i/\bx f 3 (Fm.av a0).cells/\bx f 6 [sI 0,sI 0,nL,nL,nL]/\bx f 7 [sI a0.ak5,sI w.ak5,sL Ty.av w.ak6,sT c Tm.av v12,nL])/\Ow f [32] c v12/\A r=some (D,zE)) (λA _ g m=>?_) ?_
 ·refine sw [0,1] ?_;intro _ e m;apply Ir e m<;>intro e m
  ·simp[e];exact g _ _ ⟨a1,b,abE,o,m⟩
  simp[e];exact g _ _ ⟨(eS .i64 a1 1),b,abE,o,m⟩
 rintro _ _ ⟨r,c,E,v,m⟩;have e:=Aj e E;simp[e];refine Wr e m 999 (λB j f h=>∃a d,(h=st j.2/\f.1 1=sI r/\f.1 2=AV.func (.func g2) [] i/\f.1 41=sL Fm.av a0.ak6/\f.1 42=sI (eA a0.ak6)/\f.1 43=sI B/\bx f 6 [sI 0,sI 0,nL,nL,nL]/\bx f 7 [sI a0.ak5,sI w.ak5,sL Ty.av w.ak6,sT a Tm.av v12,sT d Fm.av j.1])/\Ow f [32] a v12/\Ow f [54] d j.1) (by exact⟨c,.full,abE,v,hS.full⟩) (λj s _ _ E m=>?_) (λB _ j s _ _ _ _ E e m z p=>?_)
 ·have⟨C,G⟩:=j;have⟨a,d,E,q,l⟩:=E;have e:=Aj e E;dsimp only[eB,kp]at m;exact au
 have⟨C,G⟩:=j;have⟨a,d,E,q,l⟩:=E;have e:=Aj e E;dsimp only[kp]at m;simp[e];refine sZ m (ih hF t) λH _ m=>?_;refine sw [9,0] ?_;intro e m;refine Ad (f:=Fm.av) C [H] l Kz e.2 ?_;simp[e];cases m;exact p _ _ _ ⟨a,(.loc 54 (s.fi 54+1)),abE,(hS.other q l aak aak),(On 54)⟩ z
def ta(T:eN){S:Type}{st:S->dY}{k:Nat}{a0:Fm}{a1:Int}{a2:(S->Tm->Int->Option (Tm×S))}{vn:S}{c:Fm}{zE:S}{g2:Nat}{a:List AV}(hF:Fz st k)(b:DV T g2 a st a2){n:Nat}(hm:gW n a0 a1 a2 vn=some (c,zE)):eO prog T 190 [Fm.av a0,sI a1,AV.func (.func g2) [] a] (st vn) (Fm.av c) (st zE):=(ka T n) hF b hm
def Ez(T:eN){H:dY}{a0:Fm}{a1:Int}{a2:Tm}{a:Fm}(hm:uW a0 a1 a2=some a):eO prog T 292 [Fm.av a0,sI a1,Tm.av a2] H (Fm.av a) H:=by
 rw[uW] at hm;refine fC.vt (Post:=λx K=>x=Fm.av a/\∃X,K=H++X) ?_ (λ_ _ h=>⟨_,h.2.choose_spec,by rw[h.1];simp[AV.low,AV.iE],h.1,rfl⟩);have e:=trivial;refine wi ak_ func292 [4,5] [] 999 ?_;simp[e];refine E9 hm (ta T (st:=λ_:Unit=>H++[[sI a1],[sI a2.ak5,sI a2.ak8,sI a2.dM.ak5,sL Ty.av a2.dM.ak6,sL Tm.av a2.ak6]]) (Fz.const _) (λX _ _ _ _ _ h=>by obtain⟨b,rfl⟩:=yT h;exact vl T (q0:=(List.length H)) (q1:=(List.length H+1)) abE abE b)) λ_ _ m=>?_;exact au
@[reducible,instance] def RL:=@Kc.mk prog 292 _ @Ez
def El(T:eN)(c:nX T){H:dY}{a0:Fm}{a1:Tm}{a:Fm}{b:Int}(hm:Dx a0 a1=some (a,b)):eO prog T 249 [Fm.av a0,Tm.av a1] H (AV.tuple [Fm.av a,sI b]) H:=by
 rw[Dx] at hm;have e:=c;refine wi ak_ func249 [] [] 999 ?_;have m:=hm;exact aa
@[reducible,instance] def Zf:=@Kc.mk prog 249 _ @El
def ve{n:Nat}:C2 prog 298 (jz n) sB Tm.av Tm.av:=by
 refine i2 λn ih=>u2 3 func298 λT H a0 a1 r m e=>?_;rw[jz] at m;simp[e];refine WA m 999 999 [] [2,3] (λv2 f=>f.1 35=sB v2) [7,0] (λa _ g m=>?_) ?_
 ·apply Iq e m<;>intro e m
  ·exact jj
  apply Iq e m<;>intro e m
  ·exact jj
  simp[e];refine sS m kK λ_ m=>?_;apply Ir e m<;>intro e m
  ·exact jj
  exact jj
 intro _ v2 e m;exact Wb e m 999 39 [37,38] [3] nI
@[reducible,instance] def UG:=@Kc.mk prog 298 _ @ve
def EL:C2 prog 265 rh sB Tm.av Tm.av:=by
 refine v2 func265 λT H a0 a1 r m e=>?_;rw[rh] at m;exact aa
@[reducible,instance] def abi:=@Kc.mk prog 265 _ @EL
def Au(T:eN)(b:nX T){H:dY}{a0 a1:Tm}{a2 a:Int}(hm:yJ a0 a1 a2=some a):eO prog T 194 [Tm.av a0,Tm.av a1,sI a2] H (sI a) H:=by
 rw[yJ] at hm;have e:=b;refine wi ak_ func194 [] [] 999 ?_;have m:=hm;exact aa
@[reducible,instance] def ale:=@Kc.mk prog 194 _ @Au
def p_(T:eN)(b:nX T):∀(n:Nat),(∀{H:dY} {a0:Fm} {a1:Fm} {a:Int} (hm:qD n a0 a1=some a),eO prog T 142 [Fm.av a0,Fm.av a1] H (sI a) H):=by
  intro n
  induction n with
  |zero=>
    skip
    all_goals(intro _ _;intros;rename_i hm;cases hm)
  |succ n ih=>
 intro H a0 a1 a hm;rw[qD] at hm;have e:=b;refine wi ak_ func142 [] [] 3 ?_;simp[e];refine WA hm 999 999 [] [2,3] (λv2 f=>f.1 23=sB v2) [7,0] (λc _ g m=>?_) ?_
 ·apply Iq e m<;>intro e m
  ·exact jj
  simp[e];refine sS m kK λ_ m=>?_;exact jj
 intro _ v2 e m;refine Wa e m 999 27 [25,26] [2,3] nI [11,0] ?_;intro _ _ e m;exact Wb e m 999 46 [44,45] [3] nI
def G_(T:eN)(b:nX T){H:dY}{a0 a1:Fm}{a:Int}{n:Nat}(hm:qD n a0 a1=some a):eO prog T 142 [Fm.av a0,Fm.av a1] H (sI a) H:=(p_ T b n) hm
@[reducible,instance] def UU:=@Kc.mk prog 142 _ @G_
def zH(T:eN)(b:nX T){H:dY}{a0 a1:Fm}{a:Int}(hm:uf a0 a1=some a):eO prog T 102 [Fm.av a0,Fm.av a1] H (sI a) H:=by
 rw[uf] at hm;have e:=b;refine wi ak_ func102 [] [] 999 ?_;have m:=hm;exact aa
@[reducible,instance] def UF:=@Kc.mk prog 102 _ @zH
def Hw:C2 prog 258 uh Fm.av Tm.av Tm.av:=by
 refine v2 func258 λT H a0 a1 r m e=>?_;rw[uh] at m;have e:=Aj e (show AV.agg [sI 1,sI 0,AV.slice .gI [],AV.slice .gI [Tm.av a0,Tm.av a1],AV.slice .gI []]=Fm.av (Fm.mk 1 (Ty.mk 0 []) [a0,a1] []) by rw[Fm.eR];rfl);exact au
@[reducible,instance] def UA:=@Kc.mk prog 258 _ @Hw
def s7(T:eN){H:dY}{a0:List Fm}{a1:Pf}{a2:ew}{b:d_}{c:Int}{d:Nat}(a:KC H d a0)(hm:qu a0 a1 a2=some (b,c)):eO prog T 185 [AV.fb d 0,Pf.av a1,ew.av a2] H (AV.tuple [d_.av b,sI c]) H:=by
 rw[qu] at hm;have e:=a;refine wi ak_ func185 [] [] 999 ?_;have m:=hm;exact aa
def Cg:C1 prog 335 AA (t2 sI sI) sB:=by
 refine v1 func335 λT H a0 r m e=>?_;rw[AA] at m;exact aa
@[reducible,instance] def YH:=@Kc.mk prog 335 _ @Cg
def ald:C2 prog 294 BY Tm.av sI (sL Tm.av):=by
 refine v2 func294 λT H a0 a1 r m e=>?_;rw[BY] at m;exact au
@[reducible,instance] def afF:=@Kc.mk prog 294 _ @ald
def IK:C2 prog 352 Bi Tm.av Tm.av (sL Ty.av):=by
 refine v2 func352 λT H a0 a1 r m e=>?_;rw[Bi] at m;simp[e];refine Wn m 999 (λs1 f h=>∃a,h=H/\f.1 1=sL Ty.av a1/\f.1 5=sI s1.1/\bx f 2 [sI s1.2.1,sI s1.2.2.1,sI s1.2.2.2.1,sL Ty.av s1.2.2.2.2.1,sT a Tm.av s1.2.2.2.2.2]/\bx f 4 [sI 0,sI 0,sI 0,nL,nL]) ⟨.gI,abE⟩ (λs1 _ _ _ _ _ E m z p=>?_);have⟨v9,v10,v11,v12,b,c⟩:=s1;have⟨a,E⟩:=E;have e:=Aj e E;dsimp only[AR]at m;apply Ir e m<;>intro e m
 ·cases m;have m:=Qb z;dsimp only[AR]at m;exact au
 refine sw [8,0] ?_;intro d e m;cases m;exact p _ _ _ ⟨.full,abE⟩ z
@[reducible,instance] def acJ:=@Kc.mk prog 352 _ @IK
def QW:C5 prog 353 Ia Tm.av sI Ty.av Tm.av Tm.av Tm.av:=by
 refine v5 func353 λT H a0 a1 a2 a3 a4 r m e=>?_;rw[Ia] at m;have e:=Aj e (show AV.agg [sI a0,sI 0,sI a1.ak5,sL Ty.av a1.ak6,AV.slice .gI [Tm.av a2,Tm.av a3,Tm.av a4]]=Tm.av (Tm.mk a0 0 a1 [a2,a3,a4]) by rw[Tm.eR];rfl);exact au
@[reducible,instance] def ad7:=@Kc.mk prog 353 _ @QW
def xq:C3 prog 348 qZ Tm.av Tm.av Tm.av Tm.av:=by
 refine v3 func348 λT H a0 a1 a2 r m e=>?_;rw[qZ] at m;exact aa
@[reducible,instance] def Sz:=@Kc.mk prog 348 _ @xq
def D0:C0 prog 349 CW Tm.av:=by
 refine v0 func349 λT H r m e=>?_;rw[CW] at m;exact aa
@[reducible,instance] def aaY:=@Kc.mk prog 349 _ @D0
end Go.Proofs.YtpgdkkomegalnaaGreatDoor
