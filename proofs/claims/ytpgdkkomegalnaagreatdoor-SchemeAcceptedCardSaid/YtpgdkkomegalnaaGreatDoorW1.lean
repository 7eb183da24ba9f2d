/- Part of the proof of SchemeAccepted: walks. -/
import Derived.Test.YtpgdkkomegalnaaGreatDoorProg
import Derived.Test.YtpgdkkomegalnaaGreatDoorChecked
import Derived.WalkKit
import Derived.Laws.Bits64b
import Derived.BigCall
import Derived.Test.YtpgdkkomegalnaaGreatDoorM1
import Derived.Test.YtpgdkkomegalnaaGreatDoorL20
set_option linter.all false
namespace Go.Proofs.YtpgdkkomegalnaaGreatDoor
open Go Go.kY Go.fN Tryz
def an':prog.follows .mixedOrders=true:=by kernel_rfl
instance:Nonempty (prog.follows .mixedOrders=true):=⟨an'⟩
end Go.Proofs.YtpgdkkomegalnaaGreatDoor
namespace Go.fN
open Go Go.kY
mutual
def Ty.av:Ty->AV
 |.mk an6 an7=>.agg [sI an6,AV.slice .gx (Ty.Da an7)]
def Ty.Da:List Ty->List AV
 |[]=>[]|x::l=>x.av::Ty.Da l
end
def Ty.vF(l:List Ty):Ty.Da l=l.map Ty.av:=by
 induction l with
 |nil=>rfl|cons x l ih=>simp[Ty.Da,ih]
def Ty.eQ(an6:Int)(an7:List Ty):(Ty.mk an6 an7).av=.agg [sI an6,sL Ty.av an7]:=by rw[Ty.av];simp only[Ty.vF]
mutual
@[simp] theorem Ty.tY(k:Nat):∀x:Ty,x.av.low k=true
 |.mk an6 an7=>by rw[Ty.eQ];simp[AV.low,AV.ir,Ty.ot k an7]
@[simp] theorem Ty.ot(k:Nat):∀l:List Ty,AV.ir k (l.map Ty.av)=true
 |[]=>rfl|x::l=>by simp[AV.ir,Ty.tY k x,Ty.ot k l]
end
def Ty.fC(x:Ty):x.av=.agg [sI x.an6,sL Ty.av x.an7]:=by cases x;exact Ty.eQ _ _
@[simp] theorem Ty.jA(x:Ty):x.av.cells=[sI x.an6,sL Ty.av x.an7]:=by rw[Ty.fC];rfl
@[simp] theorem Ty.qE(x:Ty):eU x.av=true:=by rw[Ty.fC];rfl
@[simp] theorem Ty.m5(x:Ty):x.av.norm=x.av:=by rw[Ty.fC];rfl
@[simp] theorem Ty.aks(a:Int)(b:List Ty):AV.agg [sI a,sL Ty.av b]=Ty.av (Ty.mk a b):=by rw[Ty.eQ]<;>rfl
@[simp] theorem Ty.amg(a:Int):AV.agg [sI a,AV.slice .gx []]=Ty.av (Ty.mk a []):=by rw[Ty.eQ]<;>rfl
mutual
def Tm.av:Tm->AV
 |.mk an6 an9 dL an7=>.agg [sI an6,sI an9,sI dL.an6,sL Ty.av dL.an7,AV.slice .gx (Tm.Da an7)]
def Tm.Da:List Tm->List AV
 |[]=>[]|x::l=>x.av::Tm.Da l
end
def Tm.vF(l:List Tm):Tm.Da l=l.map Tm.av:=by
 induction l with
 |nil=>rfl|cons x l ih=>simp[Tm.Da,ih]
def Tm.eQ(an6 an9:Int)(dL:Ty)(an7:List Tm):(Tm.mk an6 an9 dL an7).av=.agg [sI an6,sI an9,sI dL.an6,sL Ty.av dL.an7,sL Tm.av an7]:=by rw[Tm.av];simp only[Tm.vF]
mutual
@[simp] theorem Tm.tY(k:Nat):∀x:Tm,x.av.low k=true
 |.mk an6 an9 dL an7=>by rw[Tm.eQ];simp[AV.low,AV.ir,Tm.ot k an7]
@[simp] theorem Tm.ot(k:Nat):∀l:List Tm,AV.ir k (l.map Tm.av)=true
 |[]=>rfl|x::l=>by simp[AV.ir,Tm.tY k x,Tm.ot k l]
end
def Tm.fC(x:Tm):x.av=.agg [sI x.an6,sI x.an9,sI x.dL.an6,sL Ty.av x.dL.an7,sL Tm.av x.an7]:=by cases x;exact Tm.eQ _ _ _ _
@[simp] theorem Tm.jA(x:Tm):x.av.cells=[sI x.an6,sI x.an9,sI x.dL.an6,sL Ty.av x.dL.an7,sL Tm.av x.an7]:=by rw[Tm.fC];rfl
@[simp] theorem Tm.qE(x:Tm):eU x.av=true:=by rw[Tm.fC];rfl
@[simp] theorem Tm.m5(x:Tm):x.av.norm=x.av:=by rw[Tm.fC];rfl
@[simp] theorem Tm.UK(a b c:Int)(c3:List Ty)(d:List Tm):AV.agg [sI a,sI b,sI c,sL Ty.av c3,sL Tm.av d]=Tm.av (Tm.mk a b (Ty.mk c c3) d):=by rw[Tm.eQ]<;>rfl
@[simp] theorem Tm.am7(a b c:Int)(d:List Tm):AV.agg [sI a,sI b,sI c,AV.slice .gx [],sL Tm.av d]=Tm.av (Tm.mk a b (Ty.mk c []) d):=by rw[Tm.eQ]<;>rfl
@[simp] theorem Tm.adC(a b c:Int):AV.agg [sI a,sI b,sI c,AV.slice .gx [],AV.slice .gx []]=Tm.av (Tm.mk a b (Ty.mk c []) []):=by rw[Tm.eQ]<;>rfl
mutual
def Fm.av:Fm->AV
 |.mk an6 dL ea an7=>.agg [sI an6,sI dL.an6,sL Ty.av dL.an7,sL Tm.av ea,AV.slice .gx (Fm.Da an7)]
def Fm.Da:List Fm->List AV
 |[]=>[]|x::l=>x.av::Fm.Da l
end
def Fm.vF(l:List Fm):Fm.Da l=l.map Fm.av:=by
 induction l with
 |nil=>rfl|cons x l ih=>simp[Fm.Da,ih]
def Fm.eQ(an6:Int)(dL:Ty)(ea:List Tm)(an7:List Fm):(Fm.mk an6 dL ea an7).av=.agg [sI an6,sI dL.an6,sL Ty.av dL.an7,sL Tm.av ea,sL Fm.av an7]:=by rw[Fm.av];simp only[Fm.vF]
mutual
@[simp] theorem Fm.tY(k:Nat):∀x:Fm,x.av.low k=true
 |.mk an6 dL ea an7=>by rw[Fm.eQ];simp[AV.low,AV.ir,Fm.ot k an7]
@[simp] theorem Fm.ot(k:Nat):∀l:List Fm,AV.ir k (l.map Fm.av)=true
 |[]=>rfl|x::l=>by simp[AV.ir,Fm.tY k x,Fm.ot k l]
end
def Fm.fC(x:Fm):x.av=.agg [sI x.an6,sI x.dL.an6,sL Ty.av x.dL.an7,sL Tm.av x.ea,sL Fm.av x.an7]:=by cases x;exact Fm.eQ _ _ _ _
@[simp] theorem Fm.jA(x:Fm):x.av.cells=[sI x.an6,sI x.dL.an6,sL Ty.av x.dL.an7,sL Tm.av x.ea,sL Fm.av x.an7]:=by rw[Fm.fC];rfl
@[simp] theorem Fm.qE(x:Fm):eU x.av=true:=by rw[Fm.fC];rfl
@[simp] theorem Fm.m5(x:Fm):x.av.norm=x.av:=by rw[Fm.fC];rfl
@[simp] theorem Fm.RO(a b:Int)(c:List Ty)(c3:List Tm)(d:List Fm):AV.agg [sI a,sI b,sL Ty.av c,sL Tm.av c3,sL Fm.av d]=Fm.av (Fm.mk a (Ty.mk b c) c3 d):=by rw[Fm.eQ]<;>rfl
@[simp] theorem Fm.afI(a b:Int):AV.agg [sI a,sI b,AV.slice .gx [],AV.slice .gx [],AV.slice .gx []]=Fm.av (Fm.mk a (Ty.mk b []) [] []):=by rw[Fm.eQ]<;>rfl
mutual
def Pf.av:Pf->AV
 |.mk an6 an9 dL ea fM an7=>.agg [sI an6,sI an9,sI dL.an6,sL Ty.av dL.an7,sL Tm.av ea,sL Fm.av fM,AV.slice .gx (Pf.Da an7)]
def Pf.Da:List Pf->List AV
 |[]=>[]|x::l=>x.av::Pf.Da l
end
def Pf.vF(l:List Pf):Pf.Da l=l.map Pf.av:=by
 induction l with
 |nil=>rfl|cons x l ih=>simp[Pf.Da,ih]
def Pf.eQ(an6 an9:Int)(dL:Ty)(ea:List Tm)(fM:List Fm)(an7:List Pf):(Pf.mk an6 an9 dL ea fM an7).av=.agg [sI an6,sI an9,sI dL.an6,sL Ty.av dL.an7,sL Tm.av ea,sL Fm.av fM,sL Pf.av an7]:=by rw[Pf.av];simp only[Pf.vF]
mutual
@[simp] theorem Pf.tY(k:Nat):∀x:Pf,x.av.low k=true
 |.mk an6 an9 dL ea fM an7=>by rw[Pf.eQ];simp[AV.low,AV.ir,Pf.ot k an7]
@[simp] theorem Pf.ot(k:Nat):∀l:List Pf,AV.ir k (l.map Pf.av)=true
 |[]=>rfl|x::l=>by simp[AV.ir,Pf.tY k x,Pf.ot k l]
end
def Pf.fC(x:Pf):x.av=.agg [sI x.an6,sI x.an9,sI x.dL.an6,sL Ty.av x.dL.an7,sL Tm.av x.ea,sL Fm.av x.fM,sL Pf.av x.an7]:=by cases x;exact Pf.eQ _ _ _ _ _ _
@[simp] theorem Pf.jA(x:Pf):x.av.cells=[sI x.an6,sI x.an9,sI x.dL.an6,sL Ty.av x.dL.an7,sL Tm.av x.ea,sL Fm.av x.fM,sL Pf.av x.an7]:=by rw[Pf.fC];rfl
@[simp] theorem Pf.qE(x:Pf):eU x.av=true:=by rw[Pf.fC];rfl
@[simp] theorem Pf.m5(x:Pf):x.av.norm=x.av:=by rw[Pf.fC];rfl
@[simp] theorem Pf.US(a b c:Int)(c3:List Ty)(d:List Tm)(c5:List Fm)(f:List Pf):AV.agg [sI a,sI b,sI c,sL Ty.av c3,sL Tm.av d,sL Fm.av c5,sL Pf.av f]=Pf.av (Pf.mk a b (Ty.mk c c3) d c5 f):=by rw[Pf.eQ]<;>rfl
@[simp] theorem Pf.alA(a b c:Int)(d:List Pf):AV.agg [sI a,sI b,sI c,AV.slice .gx [],AV.slice .gx [],AV.slice .gx [],sL Pf.av d]=Pf.av (Pf.mk a b (Ty.mk c []) [] [] d):=by rw[Pf.eQ]<;>rfl
@[simp] theorem Pf.abr(a b c:Int):AV.agg [sI a,sI b,sI c,AV.slice .gx [],AV.slice .gx [],AV.slice .gx [],AV.slice .gx []]=Pf.av (Pf.mk a b (Ty.mk c []) [] [] []):=by rw[Pf.eQ]<;>rfl
def Sq.av(x:Sq):AV:=.agg [sL Ty.av x.an_,sL Fm.av x.aob]
def Sq.eQ(an_:List Ty)(aob:List Fm):(Sq.mk an_ aob).av=.agg [sL Ty.av an_,sL Fm.av aob]:=rfl
def Sq.fC(x:Sq):x.av=.agg [sL Ty.av x.an_,sL Fm.av x.aob]:=by cases x;exact Sq.eQ _ _
@[simp] theorem Sq.jA(x:Sq):x.av.cells=[sL Ty.av x.an_,sL Fm.av x.aob]:=by rw[Sq.fC];rfl
@[simp] theorem Sq.qE(x:Sq):eU x.av=true:=by rw[Sq.fC];rfl
@[simp] theorem Sq.m5(x:Sq):x.av.norm=x.av:=by rw[Sq.fC];rfl
@[simp] theorem Sq.UK(a:List Ty)(b:List Fm):AV.agg [sL Ty.av a,sL Fm.av b]=Sq.av (Sq.mk a b):=by rw[Sq.eQ]<;>rfl
@[simp] theorem Sq.adC:AV.agg [AV.slice .gx [],AV.slice .gx []]=Sq.av (Sq.mk [] []):=by rw[Sq.eQ]<;>rfl
mutual
def Vl.av:Vl->AV
 |.mk an6 num list an7=>.agg [sI an6,sI num,AV.slice .gx (List.map (λn=>AV.sc (Value.int .i64 n)) list),AV.slice .gx (Vl.Da an7)]
def Vl.Da:List Vl->List AV
 |[]=>[]|x::l=>x.av::Vl.Da l
end
def Vl.vF(l:List Vl):Vl.Da l=l.map Vl.av:=by
 induction l with
 |nil=>rfl|cons x l ih=>simp[Vl.Da,ih]
def Vl.eQ(an6 num:Int)(list:List Int)(an7:List Vl):(Vl.mk an6 num list an7).av=.agg [sI an6,sI num,AV.slice .gx (List.map (λn=>AV.sc (Value.int .i64 n)) list),sL Vl.av an7]:=by rw[Vl.av];simp only[Vl.vF]
mutual
@[simp] theorem Vl.tY(k:Nat):∀x:Vl,x.av.low k=true
 |.mk an6 num list an7=>by rw[Vl.eQ];simp[AV.low,AV.ir,Vl.ot k an7]
@[simp] theorem Vl.ot(k:Nat):∀l:List Vl,AV.ir k (l.map Vl.av)=true
 |[]=>rfl|x::l=>by simp[AV.ir,Vl.tY k x,Vl.ot k l]
end
def Vl.fC(x:Vl):x.av=.agg [sI x.an6,sI x.num,AV.slice .gx (List.map (λn=>AV.sc (Value.int .i64 n)) x.list),sL Vl.av x.an7]:=by cases x;exact Vl.eQ _ _ _ _
@[simp] theorem Vl.jA(x:Vl):x.av.cells=[sI x.an6,sI x.num,AV.slice .gx (List.map (λn=>AV.sc (Value.int .i64 n)) x.list),sL Vl.av x.an7]:=by rw[Vl.fC];rfl
@[simp] theorem Vl.qE(x:Vl):eU x.av=true:=by rw[Vl.fC];rfl
@[simp] theorem Vl.m5(x:Vl):x.av.norm=x.av:=by rw[Vl.fC];rfl
@[simp] theorem Vl.UK(a b:Int)(c:List Int)(c3:List Vl):AV.agg [sI a,sI b,AV.slice .gx (List.map (λn=>AV.sc (Value.int .i64 n)) c),sL Vl.av c3]=Vl.av (Vl.mk a b c c3):=by rw[Vl.eQ]<;>rfl
@[simp] theorem Vl.ane(a b:Int)(c:List Int):AV.agg [sI a,sI b,AV.slice .gx (List.map (λn=>AV.sc (Value.int .i64 n)) c),AV.slice .gx []]=Vl.av (Vl.mk a b c []):=by rw[Vl.eQ]<;>rfl
@[simp] theorem Vl.adC(a b:Int):AV.agg [sI a,sI b,AV.slice .gx [],AV.slice .gx []]=Vl.av (Vl.mk a b [] []):=by rw[Vl.eQ]<;>rfl
def eu.av(x:eu):AV:=.agg [AV.slice .gx (List.map (λn=>AV.sc (Value.int .i64 n)) x.l),sI x.se]
def eu.eQ(l:List Int)(se:Int):(eu.mk l se).av=.agg [AV.slice .gx (List.map (λn=>AV.sc (Value.int .i64 n)) l),sI se]:=rfl
def eu.fC(x:eu):x.av=.agg [AV.slice .gx (List.map (λn=>AV.sc (Value.int .i64 n)) x.l),sI x.se]:=by cases x;exact eu.eQ _ _
@[simp] theorem eu.jA(x:eu):x.av.cells=[AV.slice .gx (List.map (λn=>AV.sc (Value.int .i64 n)) x.l),sI x.se]:=by rw[eu.fC];rfl
@[simp] theorem eu.qE(x:eu):eU x.av=true:=by rw[eu.fC];rfl
@[simp] theorem eu.aks(a:List Int)(b:Int):AV.agg [AV.slice .gx (List.map (λn=>AV.sc (Value.int .i64 n)) a),sI b]=eu.av (eu.mk a b):=by rw[eu.eQ]<;>rfl
def r_.av(x:r_):AV:=.agg [sI x.dT.an6,sI x.dT.dL.an6,sL Ty.av x.dT.dL.an7,sL Tm.av x.dT.ea,sL Fm.av x.dT.an7,AV.slice .gx (List.map (λn=>AV.sc (Value.int .i64 n)) x.iu)]
def r_.eQ(dT:Fm)(iu:List Int):(r_.mk dT iu).av=.agg [sI dT.an6,sI dT.dL.an6,sL Ty.av dT.dL.an7,sL Tm.av dT.ea,sL Fm.av dT.an7,AV.slice .gx (List.map (λn=>AV.sc (Value.int .i64 n)) iu)]:=rfl
@[simp] theorem r_.tY(k:Nat)(x:r_):x.av.low k=true:=by
 cases x;rw[r_.eQ];simp[AV.low,AV.ir]
def r_.fC(x:r_):x.av=.agg [sI x.dT.an6,sI x.dT.dL.an6,sL Ty.av x.dT.dL.an7,sL Tm.av x.dT.ea,sL Fm.av x.dT.an7,AV.slice .gx (List.map (λn=>AV.sc (Value.int .i64 n)) x.iu)]:=by cases x;exact r_.eQ _ _
@[simp] theorem r_.jA(x:r_):x.av.cells=[sI x.dT.an6,sI x.dT.dL.an6,sL Ty.av x.dT.dL.an7,sL Tm.av x.dT.ea,sL Fm.av x.dT.an7,AV.slice .gx (List.map (λn=>AV.sc (Value.int .i64 n)) x.iu)]:=by rw[r_.fC];rfl
@[simp] theorem r_.qE(x:r_):eU x.av=true:=by rw[r_.fC];rfl
@[simp] theorem r_.m5(x:r_):x.av.norm=x.av:=by rw[r_.fC];rfl
@[simp] theorem r_.US(a b:Int)(c:List Ty)(c3:List Tm)(d:List Fm)(c5:List Int):AV.agg [sI a,sI b,sL Ty.av c,sL Tm.av c3,sL Fm.av d,AV.slice .gx (List.map (λn=>AV.sc (Value.int .i64 n)) c5)]=r_.av (r_.mk (Fm.mk a (Ty.mk b c) c3 d) c5):=by rw[r_.eQ]<;>rfl
@[simp] theorem r_.abr(a b:Int):AV.agg [sI a,sI b,AV.slice .gx [],AV.slice .gx [],AV.slice .gx [],AV.slice .gx []]=r_.av (r_.mk (Fm.mk a (Ty.mk b []) [] []) []):=by rw[r_.eQ]<;>rfl
def dW.av(x:dW):AV:=.agg [sL Fm.av x.lemmas,sL Tm.av x.ea,sI x.next]
def dW.eQ(lemmas:List Fm)(ea:List Tm)(next:Int):(dW.mk lemmas ea next).av=.agg [sL Fm.av lemmas,sL Tm.av ea,sI next]:=rfl
def dW.fC(x:dW):x.av=.agg [sL Fm.av x.lemmas,sL Tm.av x.ea,sI x.next]:=by cases x;exact dW.eQ _ _ _
@[simp] theorem dW.jA(x:dW):x.av.cells=[sL Fm.av x.lemmas,sL Tm.av x.ea,sI x.next]:=by rw[dW.fC];rfl
@[simp] theorem dW.qE(x:dW):eU x.av=true:=by rw[dW.fC];rfl
@[simp] theorem dW.UK(a:List Fm)(b:List Tm)(c:Int):AV.agg [sL Fm.av a,sL Tm.av b,sI c]=dW.av (dW.mk a b c):=by rw[dW.eQ]<;>rfl
def ej.av(x:ej):AV:=.agg [sL Ty.av x.gK.an_,sL Fm.av x.gK.aob,sL Tm.av x.vars,sL Tm.av x.aob]
def ej.eQ(gK:Sq)(vars aob:List Tm):(ej.mk gK vars aob).av=.agg [sL Ty.av gK.an_,sL Fm.av gK.aob,sL Tm.av vars,sL Tm.av aob]:=rfl
def ej.fC(x:ej):x.av=.agg [sL Ty.av x.gK.an_,sL Fm.av x.gK.aob,sL Tm.av x.vars,sL Tm.av x.aob]:=by cases x;exact ej.eQ _ _ _
@[simp] theorem ej.jA(x:ej):x.av.cells=[sL Ty.av x.gK.an_,sL Fm.av x.gK.aob,sL Tm.av x.vars,sL Tm.av x.aob]:=by rw[ej.fC];rfl
@[simp] theorem ej.qE(x:ej):eU x.av=true:=by rw[ej.fC];rfl
@[simp] theorem ej.m5(x:ej):x.av.norm=x.av:=by rw[ej.fC];rfl
@[simp] theorem ej.US(a:List Ty)(b:List Fm)(c c3:List Tm):AV.agg [sL Ty.av a,sL Fm.av b,sL Tm.av c,sL Tm.av c3]=ej.av (ej.mk (Sq.mk a b) c c3):=by rw[ej.eQ]<;>rfl
def eh.av(x:eh):AV:=.agg [sI x.used,sI x.qD,sB x.out]
def eh.eQ(used qD:Int)(out:Bool):(eh.mk used qD out).av=.agg [sI used,sI qD,sB out]:=rfl
def eh.fC(x:eh):x.av=.agg [sI x.used,sI x.qD,sB x.out]:=by cases x;exact eh.eQ _ _ _
@[simp] theorem eh.jA(x:eh):x.av.cells=[sI x.used,sI x.qD,sB x.out]:=by rw[eh.fC];rfl
@[simp] theorem eh.qE(x:eh):eU x.av=true:=by rw[eh.fC];rfl
@[simp] theorem eh.agg(a b:Int)(c:Bool):AV.agg [sI a,sI b,sB c]=eh.av (eh.mk a b c):=by rw[eh.eQ]<;>rfl
mutual
def dG.av:dG->AV
 |.mk num list pair body env=>.agg [sI num,AV.slice .gx (List.map (λn=>AV.sc (Value.int .i64 n)) list),AV.slice .gx (dG.Da pair),sI body.an6,sI body.an9,sI body.dL.an6,sL Ty.av body.dL.an7,sL Tm.av body.an7,AV.slice .gx (dG.Da env)]
def dG.Da:List dG->List AV
 |[]=>[]|x::l=>x.av::dG.Da l
end
def dG.vF(l:List dG):dG.Da l=l.map dG.av:=by
 induction l with
 |nil=>rfl|cons x l ih=>simp[dG.Da,ih]
def dG.eQ(num:Int)(list:List Int)(pair:List dG)(body:Tm)(env:List dG):(dG.mk num list pair body env).av=.agg [sI num,AV.slice .gx (List.map (λn=>AV.sc (Value.int .i64 n)) list),sL dG.av pair,sI body.an6,sI body.an9,sI body.dL.an6,sL Ty.av body.dL.an7,sL Tm.av body.an7,sL dG.av env]:=by rw[dG.av];simp only[dG.vF]
def dG.fC(x:dG):x.av=.agg [sI x.num,AV.slice .gx (List.map (λn=>AV.sc (Value.int .i64 n)) x.list),sL dG.av x.pair,sI x.body.an6,sI x.body.an9,sI x.body.dL.an6,sL Ty.av x.body.dL.an7,sL Tm.av x.body.an7,sL dG.av x.env]:=by cases x;exact dG.eQ _ _ _ _ _
@[simp] theorem dG.jA(x:dG):x.av.cells=[sI x.num,AV.slice .gx (List.map (λn=>AV.sc (Value.int .i64 n)) x.list),sL dG.av x.pair,sI x.body.an6,sI x.body.an9,sI x.body.dL.an6,sL Ty.av x.body.dL.an7,sL Tm.av x.body.an7,sL dG.av x.env]:=by rw[dG.fC];rfl
@[simp] theorem dG.qE(x:dG):eU x.av=true:=by rw[dG.fC];rfl
@[simp] theorem dG.m5(x:dG):x.av.norm=x.av:=by rw[dG.fC];rfl
@[simp] theorem dG.Yb(a:Int)(b:List Int)(c:List dG)(c3 d c5:Int)(f:List Ty)(h:List Tm)(i:List dG):AV.agg [sI a,AV.slice .gx (List.map (λn=>AV.sc (Value.int .i64 n)) b),sL dG.av c,sI c3,sI d,sI c5,sL Ty.av f,sL Tm.av h,sL dG.av i]=dG.av (dG.mk a b c (Tm.mk c3 d (Ty.mk c5 f) h) i):=by rw[dG.eQ]<;>rfl
@[simp] theorem dG.Yp(a:Int)(b:List Int)(c:List dG)(c3 d c5:Int):AV.agg [sI a,AV.slice .gx (List.map (λn=>AV.sc (Value.int .i64 n)) b),sL dG.av c,sI c3,sI d,sI c5,AV.slice .gx [],AV.slice .gx [],AV.slice .gx []]=dG.av (dG.mk a b c (Tm.mk c3 d (Ty.mk c5 []) []) []):=by rw[dG.eQ]<;>rfl
@[simp] theorem dG.XN(a:Int)(b:List Int)(c3 c c5:Int):AV.agg [sI a,AV.slice .gx (List.map (λn=>AV.sc (Value.int .i64 n)) b),AV.slice .gx [],sI c3,sI c,sI c5,AV.slice .gx [],AV.slice .gx [],AV.slice .gx []]=dG.av (dG.mk a b [] (Tm.mk c3 c (Ty.mk c5 []) []) []):=by rw[dG.eQ]<;>rfl
@[simp] theorem dG.XT(a:Int)(b:List dG)(c3 c c5:Int):AV.agg [sI a,AV.slice .gx [],sL dG.av b,sI c3,sI c,sI c5,AV.slice .gx [],AV.slice .gx [],AV.slice .gx []]=dG.av (dG.mk a [] b (Tm.mk c3 c (Ty.mk c5 []) []) []):=by rw[dG.eQ]<;>rfl
@[simp] theorem dG.YE(a c3 b c5:Int)(c:List Ty)(d:List Tm)(f:List dG):AV.agg [sI a,AV.slice .gx [],AV.slice .gx [],sI c3,sI b,sI c5,sL Ty.av c,sL Tm.av d,sL dG.av f]=dG.av (dG.mk a [] [] (Tm.mk c3 b (Ty.mk c5 c) d) f):=by rw[dG.eQ]<;>rfl
@[simp] theorem dG.Zw(a c3 b c5:Int):AV.agg [sI a,AV.slice .gx [],AV.slice .gx [],sI c3,sI b,sI c5,AV.slice .gx [],AV.slice .gx [],AV.slice .gx []]=dG.av (dG.mk a [] [] (Tm.mk c3 b (Ty.mk c5 []) []) []):=by rw[dG.eQ]<;>rfl
def dM.av(x:dM):AV:=.agg [sL Fm.av x.lemmas,sL Ty.av x.an_,sL Fm.av x.aob]
def dM.eQ(lemmas:List Fm)(an_:List Ty)(aob:List Fm):(dM.mk lemmas an_ aob).av=.agg [sL Fm.av lemmas,sL Ty.av an_,sL Fm.av aob]:=rfl
def dM.fC(x:dM):x.av=.agg [sL Fm.av x.lemmas,sL Ty.av x.an_,sL Fm.av x.aob]:=by cases x;exact dM.eQ _ _ _
@[simp] theorem dM.jA(x:dM):x.av.cells=[sL Fm.av x.lemmas,sL Ty.av x.an_,sL Fm.av x.aob]:=by rw[dM.fC];rfl
@[simp] theorem dM.qE(x:dM):eU x.av=true:=by rw[dM.fC];rfl
@[simp] theorem dM.m5(x:dM):x.av.norm=x.av:=by rw[dM.fC];rfl
@[simp] theorem dM.RO(a:List Fm)(b:List Ty)(c:List Fm):AV.agg [sL Fm.av a,sL Ty.av b,sL Fm.av c]=dM.av (dM.mk a b c):=by rw[dM.eQ]<;>rfl
def dK.av(x:dK):AV:=.agg [sI x.dL.an6,sL Ty.av x.dL.an7,sI x.an8]
def dK.eQ(dL:Ty)(an8:Int):(dK.mk dL an8).av=.agg [sI dL.an6,sL Ty.av dL.an7,sI an8]:=rfl
def dK.fC(x:dK):x.av=.agg [sI x.dL.an6,sL Ty.av x.dL.an7,sI x.an8]:=by cases x;exact dK.eQ _ _
@[simp] theorem dK.jA(x:dK):x.av.cells=[sI x.dL.an6,sL Ty.av x.dL.an7,sI x.an8]:=by rw[dK.fC];rfl
@[simp] theorem dK.qE(x:dK):eU x.av=true:=by rw[dK.fC];rfl
@[simp] theorem dK.m5(x:dK):x.av.norm=x.av:=by rw[dK.fC];rfl
@[simp] theorem dK.aks(a:Int)(b:List Ty)(c:Int):AV.agg [sI a,sL Ty.av b,sI c]=dK.av (dK.mk (Ty.mk a b) c):=by rw[dK.eQ]<;>rfl
@[simp] theorem dK.amg(a b:Int):AV.agg [sI a,AV.slice .gx [],sI b]=dK.av (dK.mk (Ty.mk a []) b):=by rw[dK.eQ]<;>rfl
def dH.av(x:dH):AV:=.agg [sI x.dT.an6,sI x.dT.dL.an6,sL Ty.av x.dT.dL.an7,sL Tm.av x.dT.ea,sL Fm.av x.dT.an7,AV.sc (.int .u32 x.iu)]
def dH.eQ(dT:Fm)(iu:Int):(dH.mk dT iu).av=.agg [sI dT.an6,sI dT.dL.an6,sL Ty.av dT.dL.an7,sL Tm.av dT.ea,sL Fm.av dT.an7,AV.sc (.int .u32 iu)]:=rfl
def dH.fC(x:dH):x.av=.agg [sI x.dT.an6,sI x.dT.dL.an6,sL Ty.av x.dT.dL.an7,sL Tm.av x.dT.ea,sL Fm.av x.dT.an7,AV.sc (.int .u32 x.iu)]:=by cases x;exact dH.eQ _ _
@[simp] theorem dH.jA(x:dH):x.av.cells=[sI x.dT.an6,sI x.dT.dL.an6,sL Ty.av x.dT.dL.an7,sL Tm.av x.dT.ea,sL Fm.av x.dT.an7,AV.sc (.int .u32 x.iu)]:=by rw[dH.fC];rfl
@[simp] theorem dH.qE(x:dH):eU x.av=true:=by rw[dH.fC];rfl
@[simp] theorem dH.m5(x:dH):x.av.norm=x.av:=by rw[dH.fC];rfl
@[simp] theorem dH.RO(a b:Int)(c:List Ty)(c3:List Tm)(d:List Fm)(c5:Int):AV.agg [sI a,sI b,sL Ty.av c,sL Tm.av c3,sL Fm.av d,AV.sc (.int .u32 c5)]=dH.av (dH.mk (Fm.mk a (Ty.mk b c) c3 d) c5):=by rw[dH.eQ]<;>rfl
@[simp] theorem dH.afI(a b c5:Int):AV.agg [sI a,sI b,AV.slice .gx [],AV.slice .gx [],AV.slice .gx [],AV.sc (.int .u32 c5)]=dH.av (dH.mk (Fm.mk a (Ty.mk b []) [] []) c5):=by rw[dH.eQ]<;>rfl
def eC.av(x:eC):AV:=.agg [sI x.vars,sI x.aob]
def eC.eQ(vars aob:Int):(eC.mk vars aob).av=.agg [sI vars,sI aob]:=rfl
def eC.fC(x:eC):x.av=.agg [sI x.vars,sI x.aob]:=by cases x;exact eC.eQ _ _
@[simp] theorem eC.jA(x:eC):x.av.cells=[sI x.vars,sI x.aob]:=by rw[eC.fC];rfl
@[simp] theorem eC.qE(x:eC):eU x.av=true:=by rw[eC.fC];rfl
@[simp] theorem eC.m5(x:eC):x.av.norm=x.av:=by rw[eC.fC];rfl
@[simp] theorem eC.agg(a b:Int):AV.agg [sI a,sI b]=eC.av (eC.mk a b):=by rw[eC.eQ]<;>rfl
def eg.av(x:eg):AV:=.agg [sI x.dT.an6,sI x.dT.dL.an6,sL Ty.av x.dT.dL.an7,sL Tm.av x.dT.ea,sL Fm.av x.dT.an7,sI x.vars]
def eg.eQ(dT:Fm)(vars:Int):(eg.mk dT vars).av=.agg [sI dT.an6,sI dT.dL.an6,sL Ty.av dT.dL.an7,sL Tm.av dT.ea,sL Fm.av dT.an7,sI vars]:=rfl
def eg.fC(x:eg):x.av=.agg [sI x.dT.an6,sI x.dT.dL.an6,sL Ty.av x.dT.dL.an7,sL Tm.av x.dT.ea,sL Fm.av x.dT.an7,sI x.vars]:=by cases x;exact eg.eQ _ _
@[simp] theorem eg.jA(x:eg):x.av.cells=[sI x.dT.an6,sI x.dT.dL.an6,sL Ty.av x.dT.dL.an7,sL Tm.av x.dT.ea,sL Fm.av x.dT.an7,sI x.vars]:=by rw[eg.fC];rfl
@[simp] theorem eg.qE(x:eg):eU x.av=true:=by rw[eg.fC];rfl
@[simp] theorem eg.m5(x:eg):x.av.norm=x.av:=by rw[eg.fC];rfl
@[simp] theorem eg.RO(a b:Int)(c:List Ty)(c3:List Tm)(d:List Fm)(c5:Int):AV.agg [sI a,sI b,sL Ty.av c,sL Tm.av c3,sL Fm.av d,sI c5]=eg.av (eg.mk (Fm.mk a (Ty.mk b c) c3 d) c5):=by rw[eg.eQ]<;>rfl
def dP.av(x:dP):AV:=.agg [sI x.k_.vars,sI x.k_.aob,sL dK.av x.an_,sL eg.av x.known]
def dP.eQ(k_:eC)(an_:List dK)(known:List eg):(dP.mk k_ an_ known).av=.agg [sI k_.vars,sI k_.aob,sL dK.av an_,sL eg.av known]:=rfl
def dP.fC(x:dP):x.av=.agg [sI x.k_.vars,sI x.k_.aob,sL dK.av x.an_,sL eg.av x.known]:=by cases x;exact dP.eQ _ _ _
@[simp] theorem dP.jA(x:dP):x.av.cells=[sI x.k_.vars,sI x.k_.aob,sL dK.av x.an_,sL eg.av x.known]:=by rw[dP.fC];rfl
@[simp] theorem dP.qE(x:dP):eU x.av=true:=by rw[dP.fC];rfl
@[simp] theorem dP.m5(x:dP):x.av.norm=x.av:=by rw[dP.fC];rfl
@[simp] theorem dP.UK(a b:Int)(c:List dK)(c3:List eg):AV.agg [sI a,sI b,sL dK.av c,sL eg.av c3]=dP.av (dP.mk (eC.mk a b) c c3):=by rw[dP.eQ]<;>rfl
def dU.av(x:dU):AV:=.agg [sI x.an8,sB x.iL]
def dU.eQ(an8:Int)(iL:Bool):(dU.mk an8 iL).av=.agg [sI an8,sB iL]:=rfl
def dU.fC(x:dU):x.av=.agg [sI x.an8,sB x.iL]:=by cases x;exact dU.eQ _ _
@[simp] theorem dU.jA(x:dU):x.av.cells=[sI x.an8,sB x.iL]:=by rw[dU.fC];rfl
@[simp] theorem dU.qE(x:dU):eU x.av=true:=by rw[dU.fC];rfl
@[simp] theorem dU.agg(a:Int)(b:Bool):AV.agg [sI a,sB b]=dU.av (dU.mk a b):=by rw[dU.eQ]<;>rfl
def eY.av(x:eY):AV:=.agg [sI x.ea,sI x.fM,sI x.an7,sB x.an9,sB x.rf]
def eY.eQ(ea fM an7:Int)(an9 rf:Bool):(eY.mk ea fM an7 an9 rf).av=.agg [sI ea,sI fM,sI an7,sB an9,sB rf]:=rfl
def eY.fC(x:eY):x.av=.agg [sI x.ea,sI x.fM,sI x.an7,sB x.an9,sB x.rf]:=by cases x;exact eY.eQ _ _ _ _ _
@[simp] theorem eY.jA(x:eY):x.av.cells=[sI x.ea,sI x.fM,sI x.an7,sB x.an9,sB x.rf]:=by rw[eY.fC];rfl
@[simp] theorem eY.qE(x:eY):eU x.av=true:=by rw[eY.fC];rfl
@[simp] theorem eY.m5(x:eY):x.av.norm=x.av:=by rw[eY.fC];rfl
@[simp] theorem eY.agg(a b c:Int)(c3 d:Bool):AV.agg [sI a,sI b,sI c,sB c3,sB d]=eY.av (eY.mk a b c c3 d):=by rw[eY.eQ]<;>rfl
def fp.av(x:fp):AV:=.agg [sB x.an9,sB x.typed,sI x.ea,sI x.fM,sI x.an7,sI x.tC,sI x.vars,sI x.aob]
def fp.eQ(an9 typed:Bool)(ea fM an7 tC vars aob:Int):(fp.mk an9 typed ea fM an7 tC vars aob).av=.agg [sB an9,sB typed,sI ea,sI fM,sI an7,sI tC,sI vars,sI aob]:=rfl
def fp.fC(x:fp):x.av=.agg [sB x.an9,sB x.typed,sI x.ea,sI x.fM,sI x.an7,sI x.tC,sI x.vars,sI x.aob]:=by cases x;exact fp.eQ _ _ _ _ _ _ _ _
@[simp] theorem fp.jA(x:fp):x.av.cells=[sB x.an9,sB x.typed,sI x.ea,sI x.fM,sI x.an7,sI x.tC,sI x.vars,sI x.aob]:=by rw[fp.fC];rfl
@[simp] theorem fp.qE(x:fp):eU x.av=true:=by rw[fp.fC];rfl
@[simp] theorem fp.m5(x:fp):x.av.norm=x.av:=by rw[fp.fC];rfl
@[simp] theorem fp.agg(a b:Bool)(c c3 d c5 f h:Int):AV.agg [sB a,sB b,sI c,sI c3,sI d,sI c5,sI f,sI h]=fp.av (fp.mk a b c c3 d c5 f h):=by rw[fp.eQ]<;>rfl
def dV.av(x:dV):AV:=.agg [sI x.an6,sI x.base.an6,sI x.base.an9,sI x.base.dL.an6,sL Ty.av x.base.dL.an7,sL Tm.av x.base.an7,sL Ty.av x.vars,sI x.next.an6,sI x.next.an9,sI x.next.dL.an6,sL Ty.av x.next.dL.an7,sL Tm.av x.next.an7]
def dV.eQ(an6:Int)(base:Tm)(vars:List Ty)(next:Tm):(dV.mk an6 base vars next).av=.agg [sI an6,sI base.an6,sI base.an9,sI base.dL.an6,sL Ty.av base.dL.an7,sL Tm.av base.an7,sL Ty.av vars,sI next.an6,sI next.an9,sI next.dL.an6,sL Ty.av next.dL.an7,sL Tm.av next.an7]:=rfl
@[simp] theorem dV.tY(k:Nat)(x:dV):x.av.low k=true:=by
 cases x;rw[dV.eQ];simp[AV.low,AV.ir]
@[simp] theorem dV.ot(k:Nat)(l:List dV):AV.ir k (l.map dV.av)=true:=by
 rw[AV.vz];intro x a;obtain⟨y,_,rfl⟩:=qq.1 a;exact dV.tY k y
def dV.fC(x:dV):x.av=.agg [sI x.an6,sI x.base.an6,sI x.base.an9,sI x.base.dL.an6,sL Ty.av x.base.dL.an7,sL Tm.av x.base.an7,sL Ty.av x.vars,sI x.next.an6,sI x.next.an9,sI x.next.dL.an6,sL Ty.av x.next.dL.an7,sL Tm.av x.next.an7]:=by cases x;exact dV.eQ _ _ _ _
@[simp] theorem dV.jA(x:dV):x.av.cells=[sI x.an6,sI x.base.an6,sI x.base.an9,sI x.base.dL.an6,sL Ty.av x.base.dL.an7,sL Tm.av x.base.an7,sL Ty.av x.vars,sI x.next.an6,sI x.next.an9,sI x.next.dL.an6,sL Ty.av x.next.dL.an7,sL Tm.av x.next.an7]:=by rw[dV.fC];rfl
@[simp] theorem dV.qE(x:dV):eU x.av=true:=by rw[dV.fC];rfl
@[simp] theorem dV.m5(x:dV):x.av.norm=x.av:=by rw[dV.fC];rfl
@[simp] theorem dV.Yb(c d f c3:Int)(h:List Ty)(c5:List Tm)(i:List Ty)(j k l:Int)(a:List Ty)(b:List Tm):AV.agg [sI c,sI d,sI f,sI c3,sL Ty.av h,sL Tm.av c5,sL Ty.av i,sI j,sI k,sI l,sL Ty.av a,sL Tm.av b]=dV.av (dV.mk c (Tm.mk d f (Ty.mk c3 h) c5) i (Tm.mk j k (Ty.mk l a) b)):=by rw[dV.eQ]<;>rfl
@[simp] theorem dV.Yp(a b c c3:Int)(d:List Ty)(c5:List Tm)(f h i:Int):AV.agg [sI a,sI b,sI c,sI c3,sL Ty.av d,sL Tm.av c5,AV.slice .gx [],sI f,sI h,sI i,AV.slice .gx [],AV.slice .gx []]=dV.av (dV.mk a (Tm.mk b c (Ty.mk c3 d) c5) [] (Tm.mk f h (Ty.mk i []) [])):=by rw[dV.eQ]<;>rfl
@[simp] theorem dV.XN(a b c c3:Int)(d:List Ty)(f h i:Int):AV.agg [sI a,sI b,sI c,sI c3,sL Ty.av d,AV.slice .gx [],AV.slice .gx [],sI f,sI h,sI i,AV.slice .gx [],AV.slice .gx []]=dV.av (dV.mk a (Tm.mk b c (Ty.mk c3 d) []) [] (Tm.mk f h (Ty.mk i []) [])):=by rw[dV.eQ]<;>rfl
@[simp] theorem dV.XT(a b c c3:Int)(c5:List Tm)(d f h:Int):AV.agg [sI a,sI b,sI c,sI c3,AV.slice .gx [],sL Tm.av c5,AV.slice .gx [],sI d,sI f,sI h,AV.slice .gx [],AV.slice .gx []]=dV.av (dV.mk a (Tm.mk b c (Ty.mk c3 []) c5) [] (Tm.mk d f (Ty.mk h []) [])):=by rw[dV.eQ]<;>rfl
@[simp] theorem dV.YE(c d f c3:Int)(h:List Ty)(i j k:Int)(a:List Ty)(b:List Tm):AV.agg [sI c,sI d,sI f,sI c3,AV.slice .gx [],AV.slice .gx [],sL Ty.av h,sI i,sI j,sI k,sL Ty.av a,sL Tm.av b]=dV.av (dV.mk c (Tm.mk d f (Ty.mk c3 []) []) h (Tm.mk i j (Ty.mk k a) b)):=by rw[dV.eQ]<;>rfl
@[simp] theorem dV.Zw(a b c c3 d f h:Int):AV.agg [sI a,sI b,sI c,sI c3,AV.slice .gx [],AV.slice .gx [],AV.slice .gx [],sI d,sI f,sI h,AV.slice .gx [],AV.slice .gx []]=dV.av (dV.mk a (Tm.mk b c (Ty.mk c3 []) []) [] (Tm.mk d f (Ty.mk h []) [])):=by rw[dV.eQ]<;>rfl
def HC.cells(k:Nat):HC->List AV
 |.iv x=>[o3 k x.term,sI x.steps]|.eZ x=>[sI x.an6,sI x.an9,sI x.rf.an6,sL Ty.av x.rf.an7,AV.slice .gx (List.map (o3 k) x.an7),sI x.size,sI x.free,sB x.normal]
abbrev iN(k:Nat)(l:List HC):dS:=FN HC.cells k l
end Go.fN
namespace Go.Proofs.YtpgdkkomegalnaaGreatDoor
open Go Go.kY Go.fN Tryz
@[simp] theorem YG:fu prog 3=some (false,1):=by kernel_rfl
@[simp] theorem ad1:gl prog 3=some [.sc (.int .i64 0)]:=by kernel_rfl
@[simp] theorem uA:prog.underlying 3=some (.int .i64):=by kernel_rfl
@[simp] theorem anM:fu prog 4=some (false,1)/\gl prog 4=some [.sc (.bool false)]/\prog.underlying 4=some .bool/\fu prog 5=some (false,1)/\gl prog 5=some [.sc (.int .u8 0)]/\prog.underlying 5=some (.int .u8)/\fu prog 22=some (false,1)/\gl prog 22=some [.slice .full []]/\fu prog 27=some (false,1)/\gl prog 27=some [.slice .full []]:=by and_intros<;>kernel_rfl
@[simp] theorem EB:n7 prog 22=some (3,1):=by kernel_rfl
@[simp] theorem aja:prog.underlying 22=some (.slice 3):=by kernel_rfl
@[simp] theorem Fw:n7 prog 27=some (29,2):=by kernel_rfl
@[simp] theorem akV:prog.underlying 27=some (.slice 29):=by kernel_rfl
@[simp] theorem aen:fu prog 29=some (true,2):=by kernel_rfl
@[simp] theorem amN:mA prog 29=some [.sc (.int .i64 0),.slice .full []]/\gl prog 29=some [.sc (.int .i64 0),.slice .full []]/\eG prog 29 0=some (0,3)/\eW prog 29 0=some (0,1)/\eG prog 29 1=some (1,27)/\eW prog 29 1=some (1,1)/\fu prog 30=some (false,1)/\gl prog 30=some [.slice .full []]/\prog.underlying 30=some (.slice 32)/\mA prog 32=some [.sc (.int .i64 0),.sc (.int .i64 0),.sc (.int .i64 0),.slice .full [],.slice .full []]:=by and_intros<;>kernel_rfl
@[simp] theorem Ty.aid(x:Ty):tx prog 29 x.av=true:=by rw[Ty.fC,tM,aen];rfl
@[simp] theorem xS:n7 prog 30=some (32,5):=by kernel_rfl
@[simp] theorem ad4:fu prog 32=some (true,5):=by kernel_rfl
@[simp] theorem ahp:gl prog 32=some [.sc (.int .i64 0),.sc (.int .i64 0),.sc (.int .i64 0),.slice .full [],.slice .full []]:=by kernel_rfl
@[simp] theorem ah7:eG prog 32 0=some (0,3)/\eW prog 32 0=some (0,1)/\eG prog 32 1=some (1,3)/\eW prog 32 1=some (1,1)/\eG prog 32 2=some (2,29)/\eW prog 32 2=some (2,2)/\eG prog 32 3=some (4,30)/\eW prog 32 3=some (4,1)/\fu prog 34=some (false,1)/\gl prog 34=some [.slice .full []]:=by and_intros<;>kernel_rfl
@[simp] theorem Tm.aiY(x:Tm):tx prog 32 x.av=true:=by rw[Tm.fC,tM,ad4];rfl
@[simp] theorem KT:n7 prog 34=some (36,5):=by kernel_rfl
@[simp] theorem ai4:prog.underlying 34=some (.slice 36):=by kernel_rfl
@[simp] theorem aep:fu prog 36=some (true,5):=by kernel_rfl
@[simp] theorem amC:mA prog 36=some [.sc (.int .i64 0),.sc (.int .i64 0),.slice .full [],.slice .full [],.slice .full []]/\gl prog 36=some [.sc (.int .i64 0),.sc (.int .i64 0),.slice .full [],.slice .full [],.slice .full []]/\eG prog 36 0=some (0,3)/\eW prog 36 0=some (0,1)/\eG prog 36 1=some (1,29)/\eW prog 36 1=some (1,2)/\eG prog 36 2=some (3,30)/\eW prog 36 2=some (3,1)/\eG prog 36 3=some (4,34)/\eW prog 36 3=some (4,1):=by and_intros<;>kernel_rfl
@[simp] theorem Fm.ah'(x:Fm):tx prog 36 x.av=true:=by rw[Fm.fC,tM,aep];rfl
@[simp] theorem anp:fu prog 37=some (false,1)/\gl prog 37=some [.slice .full []]/\n7 prog 37=some (39,7)/\prog.underlying 37=some (.slice 39)/\mA prog 39=some [.sc (.int .i64 0),.sc (.int .i64 0),.sc (.int .i64 0),.slice .full [],.slice .full [],.slice .full [],.slice .full []]/\gl prog 39=some [.sc (.int .i64 0),.sc (.int .i64 0),.sc (.int .i64 0),.slice .full [],.slice .full [],.slice .full [],.slice .full []]/\eG prog 39 0=some (0,3)/\eW prog 39 0=some (0,1)/\eG prog 39 1=some (1,3)/\eW prog 39 1=some (1,1):=by and_intros<;>kernel_rfl
@[simp] theorem akD:fu prog 39=some (true,7):=by kernel_rfl
@[simp] theorem aix:eG prog 39 2=some (2,29)/\eW prog 39 2=some (2,2)/\eG prog 39 3=some (4,30)/\eW prog 39 3=some (4,1)/\eG prog 39 4=some (5,34)/\eW prog 39 4=some (5,1)/\eG prog 39 5=some (6,37)/\eW prog 39 5=some (6,1)/\fu prog 40=some (false,1)/\gl prog 40=some [.sc (.int .i64 0)]:=by and_intros<;>kernel_rfl
@[simp] theorem Pf.aiJ(x:Pf):tx prog 39 x.av=true:=by rw[Pf.fC,tM,akD];rfl
@[simp] theorem anf:prog.underlying 40=some (.int .i64)/\fu prog 53=some (true,2)/\mA prog 53=some [.slice .full [],.slice .full []]/\gl prog 53=some [.slice .full [],.slice .full []]/\eG prog 53 0=some (0,27)/\eW prog 53 0=some (0,1)/\eG prog 53 1=some (1,34)/\eW prog 53 1=some (1,1)/\fu prog 54=some (false,1)/\gl prog 54=some [.slice .full []]:=by and_intros<;>kernel_rfl
@[simp] theorem anJ:n7 prog 54=some (56,4)/\prog.underlying 54=some (.slice 56)/\mA prog 56=some [.sc (.int .i64 0),.sc (.int .i64 0),.slice .full [],.slice .full []]/\gl prog 56=some [.sc (.int .i64 0),.sc (.int .i64 0),.slice .full [],.slice .full []]/\eG prog 56 0=some (0,3)/\eW prog 56 0=some (0,1)/\eG prog 56 1=some (1,3)/\eW prog 56 1=some (1,1)/\eG prog 56 2=some (2,22)/\eW prog 56 2=some (2,1):=by and_intros<;>kernel_rfl
@[simp] theorem ajA:fu prog 56=some (true,4):=by kernel_rfl
@[simp] theorem aiS:eG prog 56 3=some (3,54)/\eW prog 56 3=some (3,1)/\fu prog 61=some (false,1)/\gl prog 61=some [.sc .nilFunc]/\fu prog 66=some (true,2)/\mA prog 66=some [.slice .full [],.sc (.int .i64 0)]/\gl prog 66=some [.slice .full [],.sc (.int .i64 0)]/\eG prog 66 0=some (0,22)/\eW prog 66 0=some (0,1)/\eG prog 66 1=some (1,3):=by and_intros<;>kernel_rfl
@[simp] theorem Vl.aiW(x:Vl):tx prog 56 x.av=true:=by rw[Vl.fC,tM,ajA];rfl
@[simp] theorem ais:eW prog 66 1=some (1,1)/\fu prog 85=some (false,1)/\gl prog 85=some [.sc .nilFunc]/\fu prog 91=some (true,6)/\mA prog 91=some [.sc (.int .i64 0),.sc (.int .i64 0),.slice .full [],.slice .full [],.slice .full [],.slice .full []]/\gl prog 91=some [.sc (.int .i64 0),.sc (.int .i64 0),.slice .full [],.slice .full [],.slice .full [],.slice .full []]/\eG prog 91 0=some (0,36)/\eW prog 91 0=some (0,5)/\eG prog 91 1=some (5,22)/\eW prog 91 1=some (5,1):=by and_intros<;>kernel_rfl
@[simp] theorem anj:fu prog 98=some (true,3)/\mA prog 98=some [.slice .full [],.slice .full [],.sc (.int .i64 0)]/\gl prog 98=some [.slice .full [],.slice .full [],.sc (.int .i64 0)]/\eG prog 98 0=some (0,34)/\eW prog 98 0=some (0,1)/\eG prog 98 1=some (1,30)/\eW prog 98 1=some (1,1)/\eG prog 98 2=some (2,3)/\eW prog 98 2=some (2,1)/\fu prog 100=some (true,4):=by and_intros<;>kernel_rfl
@[simp] theorem al4:mA prog 100=some [.slice .full [],.slice .full [],.slice .full [],.slice .full []]/\gl prog 100=some [.slice .full [],.slice .full [],.slice .full [],.slice .full []]/\eG prog 100 0=some (0,53)/\eW prog 100 0=some (0,2)/\eG prog 100 1=some (2,30)/\eW prog 100 1=some (2,1)/\eG prog 100 2=some (3,30)/\eW prog 100 2=some (3,1)/\fu prog 113=some (true,3)/\mA prog 113=some [.sc (.int .i64 0),.sc (.int .i64 0),.sc (.bool false)]:=by and_intros<;>kernel_rfl
@[simp] theorem alu:gl prog 113=some [.sc (.int .i64 0),.sc (.int .i64 0),.sc (.bool false)]/\eG prog 113 0=some (0,3)/\eW prog 113 0=some (0,1)/\eG prog 113 1=some (1,3)/\eW prog 113 1=some (1,1)/\eG prog 113 2=some (2,4)/\eW prog 113 2=some (2,1)/\fu prog 114=some (false,1)/\gl prog 114=some [.slice .full []]/\mA prog 116=some [.sc (.int .i64 0),.slice .full [],.slice .full [],.sc (.int .i64 0),.sc (.int .i64 0),.sc (.int .i64 0),.slice .full [],.slice .full [],.slice .full []]:=by and_intros<;>kernel_rfl
@[simp] theorem Zm:n7 prog 114=some (116,9):=by kernel_rfl
@[simp] theorem ahl:prog.underlying 114=some (.slice 116):=by kernel_rfl
@[simp] theorem Yy:fu prog 116=some (true,9):=by kernel_rfl
@[simp] theorem alJ:gl prog 116=some [.sc (.int .i64 0),.slice .full [],.slice .full [],.sc (.int .i64 0),.sc (.int .i64 0),.sc (.int .i64 0),.slice .full [],.slice .full [],.slice .full []]/\eG prog 116 0=some (0,3)/\eW prog 116 0=some (0,1)/\eG prog 116 1=some (1,22)/\eW prog 116 1=some (1,1)/\eG prog 116 2=some (2,114)/\eW prog 116 2=some (2,1)/\eG prog 116 3=some (3,32)/\eW prog 116 3=some (3,5)/\eG prog 116 4=some (8,114):=by and_intros<;>kernel_rfl
@[simp] theorem afD:eW prog 116 4=some (8,1)/\fu prog 132=some (true,3)/\mA prog 132=some [.slice .full [],.slice .full [],.slice .full []]/\gl prog 132=some [.slice .full [],.slice .full [],.slice .full []]/\eG prog 132 0=some (0,34)/\eW prog 132 0=some (0,1)/\eG prog 132 1=some (1,27)/\eW prog 132 1=some (1,1)/\eG prog 132 2=some (2,34)/\eW prog 132 2=some (2,1):=by and_intros<;>kernel_rfl
@[simp] theorem dG.ahR(x:dG):tx prog 116 x.av=true:=by rw[dG.fC,tM,Yy];rfl
@[simp] theorem An:fu prog 148=some (true,3):=by kernel_rfl
@[simp] theorem alw:mA prog 148=some [.sc (.int .i64 0),.slice .full [],.sc (.int .i64 0)]/\gl prog 148=some [.sc (.int .i64 0),.slice .full [],.sc (.int .i64 0)]/\eG prog 148 0=some (0,29)/\eW prog 148 0=some (0,2)/\eG prog 148 1=some (2,3)/\eW prog 148 1=some (2,1)/\fu prog 151=some (false,1)/\gl prog 151=some [.slice .full []]/\fu prog 158=some (false,1)/\gl prog 158=some [.sc (.map none)]:=by and_intros<;>kernel_rfl
@[simp] theorem dK.ag8(x:dK):tx prog 148 x.av=true:=by rw[dK.fC,tM,An];rfl
@[simp] theorem Xz:n7 prog 151=some (148,3):=by kernel_rfl
@[simp] theorem agI:prog.underlying 151=some (.slice 148):=by kernel_rfl
@[simp] theorem amI:prog.underlying 158=some (.map 3 202)/\fu prog 161=some (true,2)/\mA prog 161=some [.slice .full [],.sc (.map none)]/\gl prog 161=some [.slice .full [],.sc (.map none)]/\eG prog 161 0=some (0,34)/\eW prog 161 0=some (0,1)/\eG prog 161 1=some (1,158)/\eW prog 161 1=some (1,1)/\fu prog 162=some (false,1)/\gl prog 162=some [.sc (.int .u32 0)]:=by and_intros<;>kernel_rfl
@[simp] theorem al9:prog.underlying 162=some (.int .u32)/\fu prog 163=some (false,1)/\gl prog 163=some [.sc (.int .u32 0)]/\prog.underlying 163=some (.int .u32)/\fu prog 165=some (true,6)/\mA prog 165=some [.sc (.int .i64 0),.sc (.int .i64 0),.slice .full [],.slice .full [],.slice .full [],.sc (.int .u32 0)]/\gl prog 165=some [.sc (.int .i64 0),.sc (.int .i64 0),.slice .full [],.slice .full [],.slice .full [],.sc (.int .u32 0)]/\eG prog 165 0=some (0,36)/\eW prog 165 0=some (0,5)/\eG prog 165 1=some (5,163):=by and_intros<;>kernel_rfl
@[simp] theorem agA:eW prog 165 1=some (5,1)/\fu prog 169=some (true,2)/\mA prog 169=some [.sc (.int .i64 0),.sc (.int .i64 0)]/\gl prog 169=some [.sc (.int .i64 0),.sc (.int .i64 0)]/\eG prog 169 0=some (0,3)/\eW prog 169 0=some (0,1)/\eG prog 169 1=some (1,3)/\eW prog 169 1=some (1,1)/\fu prog 170=some (false,1)/\gl prog 170=some [.slice .full []]:=by and_intros<;>kernel_rfl
@[simp] theorem ajg:n7 prog 170=some (257,6):=by kernel_rfl
@[simp] theorem ahO:prog.underlying 170=some (.slice 257):=by kernel_rfl
@[simp] theorem ami:fu prog 172=some (true,4)/\mA prog 172=some [.sc (.int .i64 0),.sc (.int .i64 0),.slice .full [],.slice .full []]/\gl prog 172=some [.sc (.int .i64 0),.sc (.int .i64 0),.slice .full [],.slice .full []]/\eG prog 172 0=some (0,169)/\eW prog 172 0=some (0,2)/\eG prog 172 1=some (2,151)/\eW prog 172 1=some (2,1)/\eG prog 172 2=some (3,170)/\eW prog 172 2=some (3,1)/\fu prog 194=some (true,9):=by and_intros<;>kernel_rfl
@[simp] theorem al1:mA prog 194=some [.sc (.int .i64 0),.slice .full [],.sc (.int .i64 0),.sc (.int .i64 0),.slice .full [],.sc (.int .i64 0),.sc (.int .i64 0),.slice .full [],.sc (.int .i64 0)]/\gl prog 194=some [.sc (.int .i64 0),.slice .full [],.sc (.int .i64 0),.sc (.int .i64 0),.slice .full [],.sc (.int .i64 0),.sc (.int .i64 0),.slice .full [],.sc (.int .i64 0)]/\fu prog 200=some (true,2)/\mA prog 200=some [.sc (.int .i64 0),.sc (.bool false)]/\gl prog 200=some [.sc (.int .i64 0),.sc (.bool false)]/\eG prog 200 0=some (0,3)/\eW prog 200 0=some (0,1)/\eG prog 200 1=some (1,4)/\eW prog 200 1=some (1,1)/\fu prog 202=some (false,1):=by and_intros<;>kernel_rfl
@[simp] theorem EG:prog.underlying 194=some (.array 3 148):=by kernel_rfl
@[simp] theorem ajD(b g o:Nat):gy prog 194 (.gX b g o) (.sc (.int .i64 0))=some (.gX b g (o+0)):=by kernel_rfl
@[simp] theorem akj(b g o:Nat):gy prog 194 (.gX b g o) (.sc (.int .i64 1))=some (.gX b g (o+3)):=by kernel_rfl
@[simp] theorem ajH(b g o:Nat):gy prog 194 (.gX b g o) (.sc (.int .i64 2))=some (.gX b g (o+6)):=by kernel_rfl
@[simp] theorem alU:gl prog 202=some [.sc .nilFunc]/\fu prog 205=some (false,1)/\gl prog 205=some [.sc .nilFunc]/\fu prog 210=some (true,5)/\mA prog 210=some [.sc (.int .i64 0),.sc (.int .i64 0),.sc (.int .i64 0),.sc (.bool false),.sc (.bool false)]/\gl prog 210=some [.sc (.int .i64 0),.sc (.int .i64 0),.sc (.int .i64 0),.sc (.bool false),.sc (.bool false)]/\eG prog 210 0=some (0,3)/\eW prog 210 0=some (0,1)/\eG prog 210 1=some (1,3)/\eW prog 210 1=some (1,1):=by and_intros<;>kernel_rfl
@[simp] theorem afx:eG prog 210 2=some (2,3)/\eW prog 210 2=some (2,1)/\eG prog 210 3=some (3,4)/\eW prog 210 3=some (3,1)/\eG prog 210 4=some (4,4)/\eW prog 210 4=some (4,1)/\mA prog 235=some [.sc (.bool false),.sc (.bool false),.sc (.int .i64 0),.sc (.int .i64 0),.sc (.int .i64 0),.sc (.int .i64 0),.sc (.int .i64 0),.sc (.int .i64 0)]/\gl prog 235=some [.sc (.bool false),.sc (.bool false),.sc (.int .i64 0),.sc (.int .i64 0),.sc (.int .i64 0),.sc (.int .i64 0),.sc (.int .i64 0),.sc (.int .i64 0)]/\eG prog 235 0=some (0,4)/\eW prog 235 0=some (0,1):=by and_intros<;>kernel_rfl
@[simp] theorem XE:fu prog 235=some (true,8):=by kernel_rfl
@[simp] theorem afo:eG prog 235 1=some (1,4)/\eW prog 235 1=some (1,1)/\eG prog 235 2=some (2,3)/\eW prog 235 2=some (2,1)/\eG prog 235 3=some (3,3)/\eW prog 235 3=some (3,1)/\eG prog 235 4=some (4,3)/\eW prog 235 4=some (4,1)/\eG prog 235 5=some (5,3)/\eW prog 235 5=some (5,1):=by and_intros<;>kernel_rfl
@[simp] theorem afZ:eG prog 235 6=some (6,3)/\eW prog 235 6=some (6,1)/\eG prog 235 7=some (7,3)/\eW prog 235 7=some (7,1)/\fu prog 250=some (true,12)/\mA prog 250=some [.sc (.int .i64 0),.sc (.int .i64 0),.sc (.int .i64 0),.sc (.int .i64 0),.slice .full [],.slice .full [],.slice .full [],.sc (.int .i64 0),.sc (.int .i64 0),.sc (.int .i64 0),.slice .full [],.slice .full []]/\gl prog 250=some [.sc (.int .i64 0),.sc (.int .i64 0),.sc (.int .i64 0),.sc (.int .i64 0),.slice .full [],.slice .full [],.slice .full [],.sc (.int .i64 0),.sc (.int .i64 0),.sc (.int .i64 0),.slice .full [],.slice .full []]/\eG prog 250 0=some (0,3)/\eW prog 250 0=some (0,1)/\eG prog 250 1=some (1,32):=by and_intros<;>kernel_rfl
@[simp] theorem fp.agB(x:fp):tx prog 235 x.av=true:=by rw[fp.fC,tM,XE];rfl
@[simp] theorem agM:eW prog 250 1=some (1,5)/\eG prog 250 2=some (6,27)/\eW prog 250 2=some (6,1)/\eG prog 250 3=some (7,32)/\eW prog 250 3=some (7,5)/\fu prog 255=some (false,1)/\gl prog 255=some [.sc (.int .u8 0)]/\prog.underlying 255=some (.int .u8)/\mA prog 257=some [.sc (.int .i64 0),.sc (.int .i64 0),.slice .full [],.slice .full [],.slice .full [],.sc (.int .i64 0)]/\gl prog 257=some [.sc (.int .i64 0),.sc (.int .i64 0),.slice .full [],.slice .full [],.slice .full [],.sc (.int .i64 0)]:=by and_intros<;>kernel_rfl
@[simp] theorem agj:fu prog 257=some (true,6):=by kernel_rfl
@[simp] theorem ag5:eG prog 257 0=some (0,36)/\eW prog 257 0=some (0,5)/\eG prog 257 1=some (5,3)/\eW prog 257 1=some (5,1)/\fu prog 258=some (true,32)/\mA prog 258=some [.sc (.int .u8 0),.sc (.int .u8 0),.sc (.int .u8 0),.sc (.int .u8 0),.sc (.int .u8 0),.sc (.int .u8 0),.sc (.int .u8 0),.sc (.int .u8 0),.sc (.int .u8 0),.sc (.int .u8 0),.sc (.int .u8 0),.sc (.int .u8 0),.sc (.int .u8 0),.sc (.int .u8 0),.sc (.int .u8 0),.sc (.int .u8 0),.sc (.int .u8 0),.sc (.int .u8 0),.sc (.int .u8 0),.sc (.int .u8 0),.sc (.int .u8 0),.sc (.int .u8 0),.sc (.int .u8 0),.sc (.int .u8 0),.sc (.int .u8 0),.sc (.int .u8 0),.sc (.int .u8 0),.sc (.int .u8 0),.sc (.int .u8 0),.sc (.int .u8 0),.sc (.int .u8 0),.sc (.int .u8 0)]/\gl prog 258=some [.sc (.int .u8 0),.sc (.int .u8 0),.sc (.int .u8 0),.sc (.int .u8 0),.sc (.int .u8 0),.sc (.int .u8 0),.sc (.int .u8 0),.sc (.int .u8 0),.sc (.int .u8 0),.sc (.int .u8 0),.sc (.int .u8 0),.sc (.int .u8 0),.sc (.int .u8 0),.sc (.int .u8 0),.sc (.int .u8 0),.sc (.int .u8 0),.sc (.int .u8 0),.sc (.int .u8 0),.sc (.int .u8 0),.sc (.int .u8 0),.sc (.int .u8 0),.sc (.int .u8 0),.sc (.int .u8 0),.sc (.int .u8 0),.sc (.int .u8 0),.sc (.int .u8 0),.sc (.int .u8 0),.sc (.int .u8 0),.sc (.int .u8 0),.sc (.int .u8 0),.sc (.int .u8 0),.sc (.int .u8 0)]/\prog.underlying 258=some (.array 32 5)/\fu prog 259=some (false,1)/\gl prog 259=some [.sc (.int .u64 0)]:=by and_intros<;>kernel_rfl
@[simp] theorem amd:prog.underlying 259=some (.int .u64)/\fu prog 263=some (false,1)/\gl prog 263=some [.sc (.map none)]/\fu prog 273=some (true,168)/\mA prog 273=some [.sc (.bool false),.sc (.bool false),.sc (.int .i64 0),.sc (.int .i64 0),.sc (.int .i64 0),.sc (.int .i64 0),.sc (.int .i64 0),.sc (.int .i64 0),.sc (.bool false),.sc (.bool false),.sc (.int .i64 0),.sc (.int .i64 0),.sc (.int .i64 0),.sc (.int .i64 0),.sc (.int .i64 0),.sc (.int .i64 0),.sc (.bool false),.sc (.bool false),.sc (.int .i64 0),.sc (.int .i64 0),.sc (.int .i64 0),.sc (.int .i64 0),.sc (.int .i64 0),.sc (.int .i64 0),.sc (.bool false),.sc (.bool false),.sc (.int .i64 0),.sc (.int .i64 0),.sc (.int .i64 0),.sc (.int .i64 0),.sc (.int .i64 0),.sc (.int .i64 0),.sc (.bool false),.sc (.bool false),.sc (.int .i64 0),.sc (.int .i64 0),.sc (.int .i64 0),.sc (.int .i64 0),.sc (.int .i64 0),.sc (.int .i64 0),.sc (.bool false),.sc (.bool false),.sc (.int .i64 0),.sc (.int .i64 0),.sc (.int .i64 0),.sc (.int .i64 0),.sc (.int .i64 0),.sc (.int .i64 0),.sc (.bool false),.sc (.bool false),.sc (.int .i64 0),.sc (.int .i64 0),.sc (.int .i64 0),.sc (.int .i64 0),.sc (.int .i64 0),.sc (.int .i64 0),.sc (.bool false),.sc (.bool false),.sc (.int .i64 0),.sc (.int .i64 0),.sc (.int .i64 0),.sc (.int .i64 0),.sc (.int .i64 0),.sc (.int .i64 0),.sc (.bool false),.sc (.bool false),.sc (.int .i64 0),.sc (.int .i64 0),.sc (.int .i64 0),.sc (.int .i64 0),.sc (.int .i64 0),.sc (.int .i64 0),.sc (.bool false),.sc (.bool false),.sc (.int .i64 0),.sc (.int .i64 0),.sc (.int .i64 0),.sc (.int .i64 0),.sc (.int .i64 0),.sc (.int .i64 0),.sc (.bool false),.sc (.bool false),.sc (.int .i64 0),.sc (.int .i64 0),.sc (.int .i64 0),.sc (.int .i64 0),.sc (.int .i64 0),.sc (.int .i64 0),.sc (.bool false),.sc (.bool false),.sc (.int .i64 0),.sc (.int .i64 0),.sc (.int .i64 0),.sc (.int .i64 0),.sc (.int .i64 0),.sc (.int .i64 0),.sc (.bool false),.sc (.bool false),.sc (.int .i64 0),.sc (.int .i64 0),.sc (.int .i64 0),.sc (.int .i64 0),.sc (.int .i64 0),.sc (.int .i64 0),.sc (.bool false),.sc (.bool false),.sc (.int .i64 0),.sc (.int .i64 0),.sc (.int .i64 0),.sc (.int .i64 0),.sc (.int .i64 0),.sc (.int .i64 0),.sc (.bool false),.sc (.bool false),.sc (.int .i64 0),.sc (.int .i64 0),.sc (.int .i64 0),.sc (.int .i64 0),.sc (.int .i64 0),.sc (.int .i64 0),.sc (.bool false),.sc (.bool false),.sc (.int .i64 0),.sc (.int .i64 0),.sc (.int .i64 0),.sc (.int .i64 0),.sc (.int .i64 0),.sc (.int .i64 0),.sc (.bool false),.sc (.bool false),.sc (.int .i64 0),.sc (.int .i64 0),.sc (.int .i64 0),.sc (.int .i64 0),.sc (.int .i64 0),.sc (.int .i64 0),.sc (.bool false),.sc (.bool false),.sc (.int .i64 0),.sc (.int .i64 0),.sc (.int .i64 0),.sc (.int .i64 0),.sc (.int .i64 0),.sc (.int .i64 0),.sc (.bool false),.sc (.bool false),.sc (.int .i64 0),.sc (.int .i64 0),.sc (.int .i64 0),.sc (.int .i64 0),.sc (.int .i64 0),.sc (.int .i64 0),.sc (.bool false),.sc (.bool false),.sc (.int .i64 0),.sc (.int .i64 0),.sc (.int .i64 0),.sc (.int .i64 0),.sc (.int .i64 0),.sc (.int .i64 0),.sc (.bool false),.sc (.bool false),.sc (.int .i64 0),.sc (.int .i64 0),.sc (.int .i64 0),.sc (.int .i64 0),.sc (.int .i64 0),.sc (.int .i64 0)]/\gl prog 273=some [.sc (.bool false),.sc (.bool false),.sc (.int .i64 0),.sc (.int .i64 0),.sc (.int .i64 0),.sc (.int .i64 0),.sc (.int .i64 0),.sc (.int .i64 0),.sc (.bool false),.sc (.bool false),.sc (.int .i64 0),.sc (.int .i64 0),.sc (.int .i64 0),.sc (.int .i64 0),.sc (.int .i64 0),.sc (.int .i64 0),.sc (.bool false),.sc (.bool false),.sc (.int .i64 0),.sc (.int .i64 0),.sc (.int .i64 0),.sc (.int .i64 0),.sc (.int .i64 0),.sc (.int .i64 0),.sc (.bool false),.sc (.bool false),.sc (.int .i64 0),.sc (.int .i64 0),.sc (.int .i64 0),.sc (.int .i64 0),.sc (.int .i64 0),.sc (.int .i64 0),.sc (.bool false),.sc (.bool false),.sc (.int .i64 0),.sc (.int .i64 0),.sc (.int .i64 0),.sc (.int .i64 0),.sc (.int .i64 0),.sc (.int .i64 0),.sc (.bool false),.sc (.bool false),.sc (.int .i64 0),.sc (.int .i64 0),.sc (.int .i64 0),.sc (.int .i64 0),.sc (.int .i64 0),.sc (.int .i64 0),.sc (.bool false),.sc (.bool false),.sc (.int .i64 0),.sc (.int .i64 0),.sc (.int .i64 0),.sc (.int .i64 0),.sc (.int .i64 0),.sc (.int .i64 0),.sc (.bool false),.sc (.bool false),.sc (.int .i64 0),.sc (.int .i64 0),.sc (.int .i64 0),.sc (.int .i64 0),.sc (.int .i64 0),.sc (.int .i64 0),.sc (.bool false),.sc (.bool false),.sc (.int .i64 0),.sc (.int .i64 0),.sc (.int .i64 0),.sc (.int .i64 0),.sc (.int .i64 0),.sc (.int .i64 0),.sc (.bool false),.sc (.bool false),.sc (.int .i64 0),.sc (.int .i64 0),.sc (.int .i64 0),.sc (.int .i64 0),.sc (.int .i64 0),.sc (.int .i64 0),.sc (.bool false),.sc (.bool false),.sc (.int .i64 0),.sc (.int .i64 0),.sc (.int .i64 0),.sc (.int .i64 0),.sc (.int .i64 0),.sc (.int .i64 0),.sc (.bool false),.sc (.bool false),.sc (.int .i64 0),.sc (.int .i64 0),.sc (.int .i64 0),.sc (.int .i64 0),.sc (.int .i64 0),.sc (.int .i64 0),.sc (.bool false),.sc (.bool false),.sc (.int .i64 0),.sc (.int .i64 0),.sc (.int .i64 0),.sc (.int .i64 0),.sc (.int .i64 0),.sc (.int .i64 0),.sc (.bool false),.sc (.bool false),.sc (.int .i64 0),.sc (.int .i64 0),.sc (.int .i64 0),.sc (.int .i64 0),.sc (.int .i64 0),.sc (.int .i64 0),.sc (.bool false),.sc (.bool false),.sc (.int .i64 0),.sc (.int .i64 0),.sc (.int .i64 0),.sc (.int .i64 0),.sc (.int .i64 0),.sc (.int .i64 0),.sc (.bool false),.sc (.bool false),.sc (.int .i64 0),.sc (.int .i64 0),.sc (.int .i64 0),.sc (.int .i64 0),.sc (.int .i64 0),.sc (.int .i64 0),.sc (.bool false),.sc (.bool false),.sc (.int .i64 0),.sc (.int .i64 0),.sc (.int .i64 0),.sc (.int .i64 0),.sc (.int .i64 0),.sc (.int .i64 0),.sc (.bool false),.sc (.bool false),.sc (.int .i64 0),.sc (.int .i64 0),.sc (.int .i64 0),.sc (.int .i64 0),.sc (.int .i64 0),.sc (.int .i64 0),.sc (.bool false),.sc (.bool false),.sc (.int .i64 0),.sc (.int .i64 0),.sc (.int .i64 0),.sc (.int .i64 0),.sc (.int .i64 0),.sc (.int .i64 0),.sc (.bool false),.sc (.bool false),.sc (.int .i64 0),.sc (.int .i64 0),.sc (.int .i64 0),.sc (.int .i64 0),.sc (.int .i64 0),.sc (.int .i64 0),.sc (.bool false),.sc (.bool false),.sc (.int .i64 0),.sc (.int .i64 0),.sc (.int .i64 0),.sc (.int .i64 0),.sc (.int .i64 0),.sc (.int .i64 0)]/\fu prog 275=some (false,1)/\gl prog 275=some [.sc .nilFunc]/\prog.underlying 280=some (.pointer 304)/\fu prog 283=some (true,2):=by and_intros<;>kernel_rfl
@[simp] theorem SB:prog.underlying 263=some (.map 3 4):=by kernel_rfl
@[simp] theorem ahM:prog.underlying 273=some (.array 21 235):=by kernel_rfl
@[simp] theorem ahi:fu prog 280=some (false,1):=by kernel_rfl
@[simp] theorem acu:gl prog 280=some [.sc (.pointer none)]:=by kernel_rfl
@[simp] theorem alX:mA prog 283=some [.sc (.pointer none),.sc (.int .i64 0)]/\gl prog 283=some [.sc (.pointer none),.sc (.int .i64 0)]/\eG prog 283 0=some (0,280)/\eW prog 283 0=some (0,1)/\eG prog 283 1=some (1,3)/\eW prog 283 1=some (1,1)/\fu prog 290=some (true,14)/\mA prog 290=some [.sc (.int .i64 0),.sc (.int .i64 0),.sc (.int .i64 0),.sc (.int .i64 0),.sc (.int .i64 0),.sc (.int .i64 0),.sc (.int .i64 0),.sc (.int .i64 0),.sc (.int .i64 0),.sc (.int .i64 0),.sc (.int .i64 0),.sc (.int .i64 0),.sc (.int .i64 0),.sc (.int .i64 0)]/\gl prog 290=some [.sc (.int .i64 0),.sc (.int .i64 0),.sc (.int .i64 0),.sc (.int .i64 0),.sc (.int .i64 0),.sc (.int .i64 0),.sc (.int .i64 0),.sc (.int .i64 0),.sc (.int .i64 0),.sc (.int .i64 0),.sc (.int .i64 0),.sc (.int .i64 0),.sc (.int .i64 0),.sc (.int .i64 0)]/\fu prog 291=some (false,1):=by and_intros<;>kernel_rfl
@[simp] theorem afn:prog.underlying 290=some (.array 14 3):=by kernel_rfl
@[simp] theorem alD:gl prog 291=some [.sc .nilFunc]/\fu prog 299=some (false,1)/\gl prog 299=some [.slice .full []]/\prog.underlying 299=some (.slice 280)/\fu prog 304=some (true,8)/\mA prog 304=some [.sc (.int .i64 0),.sc (.int .i64 0),.sc (.int .i64 0),.slice .full [],.slice .full [],.sc (.int .i64 0),.sc (.int .i64 0),.sc (.bool false)]/\gl prog 304=some [.sc (.int .i64 0),.sc (.int .i64 0),.sc (.int .i64 0),.slice .full [],.slice .full [],.sc (.int .i64 0),.sc (.int .i64 0),.sc (.bool false)]/\eG prog 304 0=some (0,3)/\eW prog 304 0=some (0,1)/\eG prog 304 1=some (1,3):=by and_intros<;>kernel_rfl
@[simp] theorem Uj:n7 prog 299=some (280,1):=by kernel_rfl
@[simp] theorem aga:eW prog 304 1=some (1,1)/\eG prog 304 2=some (2,29)/\eW prog 304 2=some (2,2)/\eG prog 304 3=some (4,299)/\eW prog 304 3=some (4,1)/\eG prog 304 4=some (5,3)/\eW prog 304 4=some (5,1)/\eG prog 304 5=some (6,3)/\eW prog 304 5=some (6,1)/\eG prog 304 6=some (7,4):=by and_intros<;>kernel_rfl
@[simp] theorem af7:eW prog 304 6=some (7,1)/\fu prog 307=some (false,1)/\gl prog 307=some [.sc .nilFunc]:=by and_intros<;>kernel_rfl
@[simp] theorem amU(tag:Tag)(l:List Int)(a:Int):oN prog 22 (.slice tag (List.map sI l)) (some (.sc (.int .i64 a))) none none=(Ag l a (ey l)).map λr=>.slice .gx (List.map sI r):=O6 _ l aja YG (λx=>by simp)
@[simp] theorem alV(tag:Tag)(l:List Ty):oN prog 27 (.slice tag (List.map Ty.av l)) none (some (.sc (.int .i64 (ey l)))) (some (.sc (.int .i64 (ey l))))=some (.slice .full (List.map Ty.av l)):=vb _ l akV aen (λx=>by simp)
@[simp] theorem alx(tag:Tag)(l:List Fm):oN prog 34 (.slice tag (List.map Fm.av l)) none (some (.sc (.int .i64 (ey l)))) (some (.sc (.int .i64 (ey l))))=some (.slice .full (List.map Fm.av l)):=vb _ l ai4 aep (λx=>by simp)
@[simp] theorem alg(tag:Tag)(l:List dG):oN prog 114 (.slice tag (List.map dG.av l)) none (some (.sc (.int .i64 (ey l)))) (some (.sc (.int .i64 (ey l))))=some (.slice .full (List.map dG.av l)):=vb _ l ahl Yy (λx=>by simp)
@[simp] theorem ajz(tag:Tag)(l:List dK):oN prog 151 (.slice tag (List.map dK.av l)) none (some (.sc (.int .i64 (ey l)))) (some (.sc (.int .i64 (ey l))))=some (.slice .full (List.map dK.av l)):=vb _ l agI An (λx=>by simp)
@[simp] theorem ajW(tag:Tag)(l:List eg):oN prog 170 (.slice tag (List.map eg.av l)) none (some (.sc (.int .i64 (ey l)))) (some (.sc (.int .i64 (ey l))))=some (.slice .full (List.map eg.av l)):=vb _ l ahO agj (λx=>by simp)
def fp.cs(x:fp):List AV:=x.av.cells
@[simp] theorem anw(a:Int):gy prog 273 (.kU (.agg (List.flatMap (λx=>fp.cs x) og))) (.sc (.int .i64 a))=(dX og a).map λx=>.kU x.av:=GI ahM XE (λx=>rfl) (λx=>⟨_,fp.fC x⟩) (λx=>by simp) rfl
@[simp] theorem an2(a:Int):gy prog 290 (.kU (.agg (List.map (λn=>AV.sc (Value.int .i64 n)) pV))) (.sc (.int .i64 a))=(dX pV a).map λx=>.kU (.sc (.int .i64 x)):=HO afn YG rfl
@[simp] theorem k0:prog.underlying 158=some (.map 3 202):=by kernel_rfl
def YU:PQ prog 202=some (.sc .nilFunc):=by kernel_rfl
def R1:List Value:=[.int .i64 1,.int .i64 2,.int .i64 3,.int .i64 4,.int .i64 5,.int .i64 6,.int .i64 7,.int .i64 8,.int .i64 12,.int .i64 9,.int .i64 13,.int .i64 10,.int .i64 14,.int .i64 11,.int .i64 15,.int .i64 16,.int .i64 17,.int .i64 18,.int .i64 19,.int .i64 20]
def S':List AV:=[.func (.func 174) [] [],.func (.func 175) [] [],.func (.func 176) [] [],.func (.func 177) [] [],.func (.func 177) [] [],.func (.func 178) [] [],.func (.func 179) [] [],.func (.func 180) [] [],.func (.func 180) [] [],.func (.func 181) [] [],.func (.func 181) [] [],.func (.func 182) [] [],.func (.func 182) [] [],.func (.func 183) [] [],.func (.func 183) [] [],.func (.func 184) [] [],.func (.func 184) [] [],.func (.func 185) [] [],.func (.func 186) [] [],.func (.func 187) [] []]
def Mn:AV:=.tO R1 S'
def Mc(k:Int):AV:=match mapIdx R1 (.int .i64 k)with|some j=>S'.getD j .undef|none=>.sc .nilFunc
abbrev KC(H:dS)(o:Nat)(l:List Fm):Prop:=H[o]?=some [sL Fm.av l,AV.nH (o-1)]/\H[o-1]?=some [Mn]
def R3{H:dS}{o:Nat}{k:Int}(h:H[o]?=some [Mn]):uC prog H 158 (AV.nH o) (sI k) false=some (Mc k):=Wv k0 uA YU h Yx Yx
def E2{k key:Int}{x:AV}(h:ee k key=true)(a:Mc key=x):Mc k=x:=by rw[Yr h];exact a
def SD{T:eA}{g:Nat}{xs:List AV}{H H':dS}{r:AV}(h:et prog T g xs H r H'):nu prog T (.func (.func g) [] []) xs H r H':=by
 unfold nu nK;simp only[p5,Bq];exact h
abbrev k5(T:eA):Prop:=T 2=some (AV.agg (List.map (λn=>AV.sc (Value.int .i64 n)) pV))/\T 1=some (AV.agg (List.flatMap (λx=>fp.cs x) og))/\T 0=some (AV.agg (List.map (λn=>AV.sc (Value.int .u8 n)) lz))
def Ej{S:Type}(T:eA)(g:Nat)(cap:List AV)(st:S->dS)(w:(S->Tm->Int->Option (Tm×S))):Prop:=
 ∀(X:dS) (s:S) (a:Tm) (b:Int) (c:Tm) (d:S),w s a b=some (c,d)->et prog T g ([Tm.av a,sI b]++cap) (st s++X) (Tm.av c) (st d++X)
def Ej.at0{S:Type}{T:eA}{g:Nat}{cap:List AV}{st:S->dS}{w:(S->Tm->Int->Option (Tm×S))}(h:Ej T g cap st w){s:S}{a:Tm}{b:Int}{c:Tm}{d:S}(hw:w s a b=some (c,d)):et prog T g ([Tm.av a,sI b]++cap) (st s) (Tm.av c) (st d):=by
 have:=h [] s a b c d hw
 rwa [Bq,Bq] at this
def s6{S:Type}(T:eA)(g:Nat)(cap:List AV)(st:S->dS)(w:(S->Int->Int->Option (S))):Prop:=
 ∀(X:dS) (s:S) (a:Int) (b:Int) (c:S),w s a b=some c->et prog T g ([sI a,sI b]++cap) (st s++X) (AV.tuple []) (st c++X)
def s6.ext{S:Type}{T:eA}{g:Nat}{cap:List AV}{st:S->dS}{w:(S->Int->Int->Option (S))}(h:s6 T g cap st w){Y:dS}:s6 T g cap (λs=>st s++Y) w:=λX s a b c hw=>by
 have:=h (Y++X) s a b c hw
 rwa [<-vY,<-vY] at this
def s6.at0{S:Type}{T:eA}{g:Nat}{cap:List AV}{st:S->dS}{w:(S->Int->Int->Option (S))}(h:s6 T g cap st w){s:S}{a b:Int}{c:S}(hw:w s a b=some c):et prog T g ([sI a,sI b]++cap) (st s) (AV.tuple []) (st c):=by
 have:=h [] s a b c hw
 rwa [Bq,Bq] at this
def DW{S:Type}(T:eA)(g:Nat)(cap:List AV)(st:S->dS)(w:(S->Tm->Int->Option (S))):Prop:=
 ∀(X:dS) (s:S) (a:Tm) (b:Int) (c:S),w s a b=some c->et prog T g ([Tm.av a,sI b]++cap) (st s++X) (AV.tuple []) (st c++X)
def DW.at0{S:Type}{T:eA}{g:Nat}{cap:List AV}{st:S->dS}{w:(S->Tm->Int->Option (S))}(h:DW T g cap st w){s:S}{a:Tm}{b:Int}{c:S}(hw:w s a b=some c):et prog T g ([Tm.av a,sI b]++cap) (st s) (AV.tuple []) (st c):=by
 have:=h [] s a b c hw
 rwa [Bq,Bq] at this
def s8{S:Type}(T:eA)(g:Nat)(cap:List AV)(st:S->dS)(w:(S->Int->Int->Option (Tm×S))):Prop:=
 ∀(X:dS) (s:S) (a:Int) (b:Int) (c:Tm) (d:S),w s a b=some (c,d)->et prog T g ([sI a,sI b]++cap) (st s++X) (Tm.av c) (st d++X)
def s8.ext{S:Type}{T:eA}{g:Nat}{cap:List AV}{st:S->dS}{w:(S->Int->Int->Option (Tm×S))}(h:s8 T g cap st w){Y:dS}:s8 T g cap (λs=>st s++Y) w:=λX s a b c d hw=>by
 have:=h (Y++X) s a b c d hw
 rwa [<-vY,<-vY] at this
def s8.at0{S:Type}{T:eA}{g:Nat}{cap:List AV}{st:S->dS}{w:(S->Int->Int->Option (Tm×S))}(h:s8 T g cap st w){s:S}{a b:Int}{c:Tm}{d:S}(hw:w s a b=some (c,d)):et prog T g ([sI a,sI b]++cap) (st s) (Tm.av c) (st d):=by
 have:=h [] s a b c d hw
 rwa [Bq,Bq] at this
end Go.Proofs.YtpgdkkomegalnaaGreatDoor
set_option maxRecDepth 20000
set_option maxHeartbeats 4000000
namespace Go.Proofs.YtpgdkkomegalnaaGreatDoor
open Go Go.kY Go.fN Tryz
def PK:C1 prog 30 fE Tm.av sI:=by
 refine v1 func30 λT H a0 r m e=>?_;rw[fE] at m;exact au
@[instance] def ae_:=@Kc.mk prog 30 _ @PK
def MD:C2 prog 31 jb Tm.av sI (sL Tm.av):=by
 refine v2 func31 λT H a0 a r m e=>?_;rw[jb] at m;exact au
@[instance] def abK:=@Kc.mk prog 31 _ @MD
def Pk:C2 prog 28 gU Tm.av Ty.av Tm.av:=by
 refine v2 func28 λT H a0 a r m e=>?_;rw[gU] at m;have e:=Aj e (show AV.agg [sI 2,sI 0,sI a0.an6,sL Ty.av a0.an7,AV.slice .gx [Tm.av a]]=Tm.av (Tm.mk 2 0 a0 [a]) by rw[Tm.eQ];rfl);exact au
@[instance] def aeT:=@Kc.mk prog 28 _ @Pk
def ME:C0 prog 26 pA Ty.av:=by
 refine v0 func26 λT H r m e=>?_;rw[pA] at m;exact au
@[instance] def ack:=@Kc.mk prog 26 _ @ME
def OK:C0 prog 41 gm Ty.av:=by
 refine v0 func41 λT H r m e=>?_;rw[gm] at m;exact au
@[instance] def aex:=@Kc.mk prog 41 _ @OK
def Nb:C2 prog 53 pb Ty.av Ty.av (sL Ty.av):=by
 refine v2 func53 λT H a0 b r m e=>?_;rw[pb] at m;simp[e];refine Wn m 999 (λs1 f h=>∃a,h=H/\f.1 1=sL Ty.av b/\f.1 5=sI s1.1/\bx f 2 [sI s1.2.1,sT a Ty.av s1.2.2]/\bx f 4 [sI 0,nL]) ⟨.gx,VW⟩ (λs1 _ _ _ _ _ E m z p=>?_);have⟨v9,v10,v11⟩:=s1;have⟨a,E⟩:=E;have e:=Aj e E;dsimp only[Af]at m;apply Ir e m<;>intro e m
 ·cases m;have m:=Qb z;dsimp only[Af]at m;exact au
 refine sw [8,0] ?_;intro c e m;cases m;exact p _ _ _ ⟨.full,VW⟩ z
@[instance] def ach:=@Kc.mk prog 53 _ @Nb
def EJ:C0 prog 35 pJ Ty.av:=by
 refine v0 func35 λT H r m e=>?_;rw[pJ] at m;exact aa
@[instance] def U':=@Kc.mk prog 35 _ @EJ
def Fz{n:Nat}:C1 prog 285 (mB n) (t2 sI sB) Ty.av:=by
 refine i1 λn ih=>u1 4 func285 λT H a0 r m e=>?_;rw[mB] at m;simp[e];refine yC m 3 999 (λb f h=>∃v2,(h=H/\f.1 4=sI v2/\bx f 1 (Ty.av a0).cells)/\b v2=some r) ?_ (λb _ g m=>?_)
 ·rintro _ _ ⟨v2,E,m⟩;refine sw [10,7,0] ?_;intro e m;refine Wr e m 999 (λc a f h=>h=H/\f.1 5=sI a/\f.1 25=sL Ty.av a0.an7/\f.1 26=sI (ey a0.an7)/\f.1 27=sI c) VW (λa _ _ _ E m=>?_) (λc _ a _ _ _ _ _ E e m z p=>?_)
  ·exact aa
  exact aa
 simp[e];refine wA 999 0 [4,11] [1] (λf=>f.1 12=sB (e_ (ee a0.an6 1) true (e_ (ee a0.an6 2) true (ee a0.an6 5)))) [] (λ_ g=>?_) ?_
 ·rcases Pb (ee a0.an6 1) e with e|e
  ·exact aj
  rcases Pb (ee a0.an6 2) e with e|e
  ·exact aj
  exact aj
 intro _ e m;apply Iq e m<;>intro e m
 ·apply wg 999;exact iC
 apply wg 1;simp[e];refine wA 999 999 [] [1] (λf=>f.1 16=sB (e_ (ee a0.an6 3) true (ee a0.an6 4))) [12] (λ_ g=>?_) ?_
 ·rcases Pb (ee a0.an6 3) e with e|e
  ·exact aj
  exact aj
 intro _ e m;exact iC
@[instance] def Vn:=@Kc.mk prog 285 _ @Fz
def sD:C1 prog 228 ja (t2 sI sI) Ty.av:=by
 refine v1 func228 λT H a0 r m e=>?_;rw[ja] at m;exact aa
@[instance] def Ve:=@Kc.mk prog 228 _ @sD
def JN:C1 prog 166 pC sI Ty.av:=by
 refine v1 func166 λT H a0 r m e=>?_;rw[pC] at m;exact aa
@[instance] def aa9:=@Kc.mk prog 166 _ @JN
def G4:C1 prog 128 nB sI (sL Ty.av):=by
 refine v1 func128 λT H a0 r m e=>?_;rw[nB] at m;refine sw [7,0] ?_;intro e m;exact Wb e m 999 11 [9,10] [] nI
@[instance] def WM:=@Kc.mk prog 128 _ @G4
def Mr(T:eA)(c:k5 T){H:dS}{a0 a:Int}{b:Bool}(hm:vy a0=some (a,b)):et prog T 286 [sI a0] H (AV.tuple [sI a,sB b]) H:=by
 rw[vy] at hm;have e:=c;refine wi an' func286 [] [] 3 ?_;simp[e];refine wA 999 999 [0] [] (λf=>f.1 9=sB (e_ (rA a0 1) true (qn a0 14))) [] (λ_ g=>?_) ?_
 ·rcases Pb (rA a0 1) e with e|e
  ·exact aj
  exact aj
 intro _ e m;have m:=hm;exact aa
@[instance] def acA:=@Kc.mk prog 286 _ @Mr
def DN:C1 prog 287 vq sB sI:=by
 refine u1 2 func287 λT H a0 r m e=>?_;rw[vq] at m;simp[e];refine wB 999 999 [] [] (λf=>f.1 2=sB (e_ (ee a0 2) true (e_ (ee a0 6) true (ee a0 9)))) λ_ g=>?_;rcases Pb (ee a0 2) e with e|e
 ·exact aj
 rcases Pb (ee a0 6) e with e|e
 ·exact aj
 exact aj
@[instance] def abw:=@Kc.mk prog 287 _ @DN
def wX:C1 prog 237 od sB Ty.av:=by
 refine u1 2 func237 λT H a0 r m e=>?_;rw[od] at m;simp[e];refine wB 999 999 [] [] (λf=>f.1 2=sB (e_ (ee a0.an6 0) (ee (ey a0.an7) 0) false)) λ_ g=>?_;rcases Pb (ee a0.an6 0) e with e|e
 ·exact aj
 exact aj
@[instance] def aay:=@Kc.mk prog 237 _ @wX
def DY(T:eA)(l:k5 T):∀(n:Nat),(∀{H:dS} {a0:Tm} {c:Int} {d:Bool} (hm:jC n a0=some (c,d)),et prog T 229 [Tm.av a0] H (AV.tuple [sI c,sB d]) H):=by
  intro n
  induction n with
  |zero=>
    skip
    all_goals(intro _ _;intros;rename_i hm;cases hm)
  |succ n ih=>
 intro H a0 c d hm;rw[jC] at hm;have e:=l;refine wi an' func229 [] [] 5 ?_;have m:=hm;refine sw [0,2,0] ?_;intro i j e m;refine wA 999 0 [] [1] (λf=>f.1 42=sB (e_ j (e_ (eD (ey a0.an7) i) true (e_ (rA a0.an9 0) true (e_ (eD a0.an9 0) (eD a0.an6 1) false))) true)) [13] (λ_ g=>?_) ?_
 ·rcases Pb j e with e|e;rotate_left
  ·exact aj
  rcases Pb (eD (ey a0.an7) i) e with e|e
  ·exact aj
  rcases Pb (rA a0.an9 0) e with e|e
  ·exact aj
  rcases Pb (eD a0.an9 0) e with e|e
  ·exact aj
  exact aj
 intro _ e m;apply wg 2;simp[e];refine Wj m 999 999 (λk f h=>(h=H/\f.1 1=AV.gX 1 (f.gen 1) 0/\f.box 1=some (Tm.av a0).cells)/\k=some (c,d)) (λk _ g m=>?_) ?_
 ·simp[e];refine zq m DN λ_ m=>?_;apply Iq e m<;>intro e m
  ·simp[e];refine zp m sD λ_ _ m=>?_;refine Il e m λe m=>?_;exact ak0
  simp[e];refine zq m wX λ_ m=>?_;refine Im e m λe m=>?_;exact ak0
 rintro _ _ ⟨E,m⟩;have e:=Aj e E;simp[e];refine Wr e m 999 (λb a f h=>h=H/\f.1 8=sI a/\f.1 59=sL Tm.av a0.an7/\f.1 60=sI (ey a0.an7)/\f.1 61=sI b) VW (λa _ _ _ E m=>?_) (λb _ a _ _ _ _ _ E e m z p=>?_)
 ·exact aa
 exact aa
def EP(T:eA)(c:k5 T){H:dS}{a0:Tm}{a:Int}{b:Bool}{n:Nat}(hm:jC n a0=some (a,b)):et prog T 229 [Tm.av a0] H (AV.tuple [sI a,sB b]) H:=(DY T c n) hm
@[instance] def U2:=@Kc.mk prog 229 _ @EP
def Fj(T:eA)(c:k5 T){H:dS}{a0:Tm}{a b:Int}(hm:kg a0=some (a,b)):et prog T 167 [Tm.av a0] H (AV.tuple [sI a,sI b]) H:=by
 rw[kg] at hm;have e:=c;refine wi an' func167 [] [] 999 ?_;have m:=hm;exact aa
@[instance] def VX:=@Kc.mk prog 167 _ @Fj
def Kg(T:eA)(b:k5 T){H:dS}{a0:Tm}{a:Int}(hm:o6 a0=some a):et prog T 129 [Tm.av a0] H (sI a) H:=by
 rw[o6] at hm;have e:=b;refine wi an' func129 [] [] 999 ?_;have m:=hm;exact aa
@[instance] def aaR:=@Kc.mk prog 129 _ @Kg
def QB:C1 prog 168 mP dK.av Ty.av:=by
 refine v1 func168 λT H a0 r m e=>?_;rw[mP] at m;exact aa
@[instance] def adJ:=@Kc.mk prog 168 _ @QB
def J2:C1 prog 130 mZ (sL dK.av) (sL Ty.av):=by
 refine v1 func130 λT H a0 r m e=>?_;rw[mZ] at m;simp[e];refine Td e m 999 8 [6,7] [] [16] (λs2=>s2) (λs2 a f=>f.1 3=sT a dK.av s2) λh _ s2 c _ _ _ _ E e m z p=>?_;have⟨a,E,b⟩:=E;refine sw [20,0,1,9,0] ?_;intro d e m;refine Ao (f:=dK.av) s2 [d] b Xz e.2 ?_;simp[e];cases m;exact p _ _ _ ⟨(.loc 16 (c.fa 16+1)),VW,(On 16)⟩ z
@[instance] def aaw:=@Kc.mk prog 130 _ @J2
def KP:C3 prog 169 ra (t2 dK.av sI) sI dK.av dK.av:=by
 refine v3 func169 λT H a0 a a2 r m e=>?_;rw[ra] at m;refine Il e m λe m=>?_;have e:=Aj e (show AV.agg [sI a0,AV.slice .gx [Ty.av a.dL,Ty.av a2.dL],sI (eL .i64 (eL .i64 1 a.an8) a2.an8)]=dK.av (dK.mk (Ty.mk a0 [a.dL,a2.dL]) (eL .i64 (eL .i64 1 a.an8) a2.an8)) by rw[dK.eQ];rfl);exact au
@[instance] def aab:=@Kc.mk prog 169 _ @KP
def HN:C1 prog 230 jG (sL sI) sI:=by
 refine v1 func230 λT H a0 r m e=>?_;rw[jG] at m;exact aa
@[instance] def Y':=@Kc.mk prog 230 _ @HN
def Et:C2 prog 231 jd sB dK.av sI:=by
 refine v2 func231 λT H a0 a r m e=>?_;rw[jd] at m;exact au
@[instance] def TI:=@Kc.mk prog 231 _ @Et
def Bv:C2 prog 232 jm dK.av dK.av sI:=by
 refine v2 func232 λT H a0 a r m e=>?_;rw[jm] at m;exact aa
@[instance] def Rg:=@Kc.mk prog 232 _ @Bv
def GK{n:Nat}:C2 prog 133 (gC n) sB Ty.av Ty.av:=by
 refine i2 λn ih=>u2 3 func133 λT H a0 a r m e=>?_;rw[gC] at m;simp[e];refine wA 999 999 [] [2,3] (λf=>f.1 20=sB (e_ (eD a0.an6 a.an6) true (eD (ey a0.an7) (ey a.an7)))) [7,0] (λ_ g=>?_) ?_
 ·rcases Pb (eD a0.an6 a.an6) e with e|e
  ·exact aj
  exact aj
 intro _ e m;exact Wb e m 999 24 [22,23] [3] nI
@[instance] def WX:=@Kc.mk prog 133 _ @GK
def BD:C2 prog 233 j8 sB dK.av dK.av:=by
 refine u2 2 func233 λT H a0 a r m e=>?_;rw[j8] at m;simp[e];refine WB m 999 999 [] [] (λv2 f=>f.1 4=sB v2) λb _ g m=>?_;apply Ir e m<;>intro e m
 ·exact iC
 refine sw [0,1] ?_;intro _ e m;exact iC
@[instance] def Rh:=@Kc.mk prog 233 _ @BD
def HR:C0 prog 259 m_ Ty.av:=by
 refine v0 func259 λT H r m e=>?_;rw[m_] at m;exact au
@[instance] def agt:=@Kc.mk prog 259 _ @HR
def P4:C0 prog 288 xp Ty.av:=by
 refine v0 func288 λT H r m e=>?_;rw[xp] at m;exact au
@[instance] def ad8:=@Kc.mk prog 288 _ @P4
def Sn:C2 prog 260 rV Ty.av Ty.av (sL Ty.av):=by
 refine v2 func260 λT H a0 b r m e=>?_;rw[rV] at m;simp[e];refine Wn m 999 (λs1 f h=>∃a,h=H/\f.1 1=sL Ty.av b/\f.1 5=sI s1.1/\bx f 2 [sI s1.2.1,sT a Ty.av s1.2.2]/\bx f 4 [sI 0,nL]) ⟨.gx,VW⟩ (λs1 _ _ _ _ _ E m z p=>?_);have⟨v9,v10,v11⟩:=s1;have⟨a,E⟩:=E;have e:=Aj e E;dsimp only[Af]at m;apply Ir e m<;>intro e m
 ·cases m;have m:=Qb z;dsimp only[Af]at m;exact au
 refine sw [8,0] ?_;intro c e m;cases m;exact p _ _ _ ⟨.full,VW⟩ z
@[instance] def agb:=@Kc.mk prog 260 _ @Sn
def J0:C1 prog 234 o8 Ty.av Tm.av:=by
 refine v1 func234 λT H a0 r m e=>?_;rw[o8] at m;exact aa
@[instance] def aaH:=@Kc.mk prog 234 _ @J0
def JO:C2 prog 170 gk (t2 dK.av sI) Tm.av (λp=>AV.agg [sI p.1.dL.an6,sL Ty.av p.1.dL.an7,sI p.1.an8,sI p.2.1.dL.an6,sL Ty.av p.2.1.dL.an7,sI p.2.1.an8,sI p.2.2.dL.an6,sL Ty.av p.2.2.dL.an7,sI p.2.2.an8]):=by
 intro T H a0 a r hm;rw[gk] at hm;have e:=trivial;refine wi an' func170 [] [] 7 ?_;have m:=hm;refine sw [0,1,0] ?_;intro G e m;apply Iq e m<;>intro e m
 ·refine sg 999 [8,0] ?_;intro x e m;refine Wr e m 0 (λq _ f h=>h=H/\f.1 6=sL sI G/\f.1 18=sL sI x/\f.1 19=sI (ey x)/\f.1 20=sI q/\bx f 3 [sI a.1.dL.an6,sL Ty.av a.1.dL.an7,sI a.1.an8,sI a.2.1.dL.an6,sL Ty.av a.2.1.dL.an7,sI a.2.1.an8,sI a.2.2.dL.an6,sL Ty.av a.2.2.dL.an7,sI a.2.2.an8]/\bx f 4 [sI 0,nL,sI 0]) VW (λ_ b _ _ E m=>?_) (λq _ _ b _ _ _ y E e m s t=>?_)
  ·have e:=Aj e E;refine sg 999 [11,8,0,1] ?_;intro I _ e m;cases m;simp[e]
  have e:=Aj e E;apply wg 9;simp[e];refine yC m 999 999 (λu f h=>∃n,(h=H/\f.1 6=sL sI G/\f.1 18=sL sI x/\f.1 19=sI (ey x)/\f.1 20=sI q/\f.1 30=sB n/\bx f 3 [sI a.1.dL.an6,sL Ty.av a.1.dL.an7,sI a.1.an8,sI a.2.1.dL.an6,sL Ty.av a.2.1.dL.an7,sI a.2.1.an8,sI a.2.2.dL.an6,sL Ty.av a.2.2.dL.an7,sI a.2.2.an8]/\bx f 4 [sI 0,nL,sI 0])/\u n=some y) ?_ (λu _ c m=>?_)
  ·rintro _ _ ⟨n,E,m⟩;have e:=Aj e E;apply Iq e m<;>intro e m
   ·cases m;cases s;simp[e]
   simp[e];cases m;exact t _ _ _ VW s
  apply Iq e m<;>intro e m
  ·have e:=Aj e (ER (j:=0) EG An VW Df:gy prog 194 (AV.gX 3 (b.gen 3) 0) (sI q)=some (AV.gX 3 (b.gen 3) 0));refine sw [0,1,0] ?_;intro A e m;exact c _ _ ⟨(m6 A),VW,m⟩
  apply Iq e m<;>intro e m
  ·have e:=Aj e (ER (j:=1) EG An VW Df:gy prog 194 (AV.gX 3 (b.gen 3) 0) (sI q)=some (AV.gX 3 (b.gen 3) 3));refine sw [0,1,0] ?_;intro B e m;exact c _ _ ⟨(m6 B),VW,m⟩
  have⟨e,m⟩:=Ck e m;have e:=Aj e (ER (j:=2) EG An VW Df:gy prog 194 (AV.gX 3 (b.gen 3) 0) (sI q)=some (AV.gX 3 (b.gen 3) 6));refine sw [0,1,0] ?_;intro C e m;exact c _ _ ⟨(m6 C),VW,m⟩
 apply wg 8;simp[e];apply Iq e m<;>intro e m
 ·apply wg 2;simp[e];refine yC m 999 999 (λv f h=>∃v24,(h=H/\f.1 54=sB v24/\bx f 3 [sI a.1.dL.an6,sL Ty.av a.1.dL.an7,sI a.1.an8,sI a.2.1.dL.an6,sL Ty.av a.2.1.dL.an7,sI a.2.1.an8,sI a.2.2.dL.an6,sL Ty.av a.2.2.dL.an7,sI a.2.2.an8]/\bx f 4 [sI 0,nL,sI 0])/\v v24=some r) ?_ (λv _ i m=>?_)
  ·rintro _ _ ⟨v24,E,m⟩;have e:=Aj e E;apply Iq e m<;>intro e m
   ·cases m;simp[e]
   refine sw [0,1] ?_;intro _ e m;cases m;simp[e]
  refine sw [0,4] ?_;intro _ e m;apply Ir e m<;>intro e m
  ·simp[e];exact i _ _ ⟨true,VW,m⟩
  refine sw [0,4,0,4,0] ?_;intro _ D e m;exact i _ _ ⟨(m6 D),VW,m⟩
 apply wg 1;simp[e];refine wA 999 0 [39] [2,3,4] (λf=>f.1 59=sB (e_ (ee a0.an6 6) true (ee a0.an6 9))) [] (λ_ k=>?_) ?_
 ·rcases Pb (ee a0.an6 6) e with e|e
  ·simp[e];exact k _ _ VW
  simp[e];exact k _ _ VW
 intro _ e m;apply Ir e m<;>intro e m
 ·apply wg 999;apply Iq e m<;>intro e m
  ·refine sw [0,2] ?_;intro _ _ e m;cases m;simp[e]
  refine sw [0,1] ?_;intro _ e m;apply Ir e m<;>intro e m
  ·cases m;simp[e]
  apply Iq e m<;>intro e m
  ·refine sw [0,1] ?_;intro _ e m;cases m;simp[e]
  refine sw [0,1] ?_;intro _ e m;cases m;simp[e]
 refine sg 3 [0,1,0] ?_;intro o e m;refine wA 2 1 [] [2,3,4,9] (λf=>f.1 10=sI (e_ (ee a0.an6 9) 2 1)) [0] (λ_ l=>?_) ?_
 ·simp[e];rcases Pb (ee a0.an6 9) e with e|e
  ·apply wg 999;simp[e];exact l _ _ VW
  apply wg 999;simp[e];exact l _ _ VW
 intro _ e m;refine yC m 999 999 (λw f h=>∃v46,(h=H/\f.1 88=sB v46/\bx f 4 [sI 0,nL,sI 0]/\bx f 9 [sI o.dL.an6,sL Ty.av o.dL.an7,sI o.an8])/\w v46=some r) ?_ (λw _ d m=>?_)
 ·rintro _ _ ⟨v46,E,m⟩;have e:=Aj e E;apply Iq e m<;>intro e m
  ·cases m;simp[e]
  cases m;simp[e]
 refine sw [0,4] ?_;intro _ e m;apply Ir e m<;>intro e m
 ·simp[e];exact d _ _ ⟨true,VW,m⟩
 refine sw [0,4,0,4] ?_;intro _ _ e m;apply Ir e m<;>intro e m
 ·simp[e];exact d _ _ ⟨true,VW,m⟩
 refine sw [0,4,0] ?_;intro F e m;exact d _ _ ⟨(m6 F),VW,m⟩
@[instance] def aau:=@Kc.mk prog 170 _ @JO
def nS{n:Nat}:C2 prog 131 (eN n) (t2 dK.av sI) (sL dK.av) Tm.av:=by
 refine i2 λn ih=>v2 func131 λT H a0 x r m e=>?_;rw[eN] at m;refine sw [13] ?_;intro e m;apply Iq e m<;>intro e m
 ·refine sw [0,1,9,0] ?_;intro L e m;refine Ad (f:=dK.av) a0 [L] (gL.full (D:=[])) Xz e.2 ?_;exact aa
 simp[e];refine Wr e m 0 (λy o f h=>∃a b c,h=H/\f.1 0=sL dK.av a0/\f.1 65=sL Tm.av x.an7/\f.1 66=sI (ey x.an7)/\f.1 67=sI y/\bx f 3 (Tm.av x).cells/\bx f 4 [sI 0,nL,sI 0]/\bx f 9 [sI o.1,sT a Ty.av o.2.1,sI o.2.2.1,sI o.2.2.2.1,sT b Ty.av o.2.2.2.2.1,sI o.2.2.2.2.2.1,sI o.2.2.2.2.2.2.1,sT c Ty.av o.2.2.2.2.2.2.2.1,sI o.2.2.2.2.2.2.2.2]) ⟨.full,.full,.full,VW⟩ (λo d _ _ E m=>?_) (λy _ o d _ _ _ B E e m z p=>?_)
 ·have⟨C,F,v20,v21,G,I,v24,J,K⟩:=o;have⟨a,b,c,E⟩:=E;have e:=Aj e E;apply wg 999;dsimp only[eo,Z7]at m;exact aa
 have⟨C,F,v20,v21,G,I,v24,J,K⟩:=o;have⟨a,b,c,E⟩:=E;have e:=Aj e E;dsimp only[Z7]at m;apply wg 5;simp[e];refine yC m 999 999 (λA f h=>∃v30 v31 q s t u v v37 w i k l,(h=H/\f.1 0=sL dK.av a0/\f.1 65=sL Tm.av x.an7/\f.1 66=sI (ey x.an7)/\f.1 67=sI y/\bx f 3 (Tm.av x).cells/\bx f 4 [sI 0,nL,sI 0]/\bx f 9 [sI v30,sT i Ty.av v31,sI q,sI s,sT k Ty.av t,sI u,sI v,sT l Ty.av v37,sI w])/\A v30 v31 q s t u v v37 w=some B) ?_ (λA _ g m=>?_)
 ·rintro _ _ ⟨v30,v31,q,s,t,u,v,v37,w,i,k,l,E,m⟩;have e:=Aj e E;simp[e];cases m;exact p _ _ _ ⟨i,k,l,VW⟩ z
 refine sw [0,16,7] ?_;intro _ _ e m;apply Iq e m<;>intro e m
 ·have e:=Aj e (ER (j:=0) EG An VW Df:gy prog 194 (AV.gX 9 (d.gen 9) 0) (sI y)=some (AV.gX 9 (d.gen 9) 0));simp[e];exact g _ _ ⟨_,_,_,_,_,_,_,_,_,.gx,b,c,VW,m⟩
 apply Iq e m<;>intro e m
 ·have e:=Aj e (ER (j:=1) EG An VW Df:gy prog 194 (AV.gX 9 (d.gen 9) 0) (sI y)=some (AV.gX 9 (d.gen 9) 3));simp[e];exact g _ _ ⟨_,_,_,_,_,_,_,_,_,a,.gx,c,VW,m⟩
 have⟨e,m⟩:=Ck e m;have e:=Aj e (ER (j:=2) EG An VW Df:gy prog 194 (AV.gX 9 (d.gen 9) 0) (sI y)=some (AV.gX 9 (d.gen 9) 6));simp[e];exact g _ _ ⟨_,_,_,_,_,_,_,_,_,a,b,.gx,VW,m⟩
@[instance] def L3:=@Kc.mk prog 131 _ @nS
def IS{n:Nat}:C1 prog 132 (jJ n) Ty.av Ty.av:=by
 refine i1 λn ih=>v1 func132 λT H a0 r m e=>?_;rw[jJ] at m;simp[e];refine Td e m 999 12 [10,11] [2] [21] (λs2=>s2) (λs2 a f=>bx f 3 [sI a0.an6,sT a Ty.av s2]) λh _ s2 c _ _ _ _ E e m z p=>?_;have⟨a,E,b⟩:=E;refine sw [20,0,18,9,0] ?_;intro d e m;refine Ad (f:=Ty.av) s2 [d] b Fw e.2 ?_;simp[e];cases m;exact p _ _ _ ⟨(.loc 21 (c.fa 21+1)),VW,(On 21)⟩ z
@[instance] def Ym:=@Kc.mk prog 132 _ @IS
def Iw(T:eA)(d:k5 T){H:dS}{a0:List Ty}{a:Tm}{b:Ty}{c:Int}(hm:rS a0 a=some (b,c)):et prog T 96 [sL Ty.av a0,Tm.av a] H (AV.tuple [Ty.av b,sI c]) H:=by
 rw[rS] at hm;have e:=d;refine wi an' func96 [] [] 999 ?_;have m:=hm;exact aa
@[instance] def XF:=@Kc.mk prog 96 _ @Iw
def NC:C2 prog 97 yi sB Ty.av Ty.av:=by
 refine v2 func97 λT H a0 a r m e=>?_;rw[yi] at m;exact aa
@[instance] def acB:=@Kc.mk prog 97 _ @NC
def Gq(T:eA)(c:k5 T){H:dS}{a0:Tm}{a:Ty}{b:Int}(hm:iG a0 a=some b):et prog T 34 [Tm.av a0,Ty.av a] H (sI b) H:=by
 rw[iG] at hm;have e:=c;refine wi an' func34 [] [] 5 ?_;have m:=hm;refine sw [0,2,0] ?_;intro _ d e m;refine WB m 999 999 [6] [] (λv4 f=>f.1 19=sB v4) λh _ g m=>?_;apply Ir e m<;>intro e m
 ·exact iC
 refine sw [0,1] ?_;intro _ e m;exact iC
@[instance] def W4:=@Kc.mk prog 34 _ @Gq
def GM:C1 prog 36 iE (t3 Fm.av Pf.av sI) sI:=by
 refine v1 func36 λT H a0 r m e=>?_;rw[iE] at m;exact au
@[instance] def W5:=@Kc.mk prog 36 _ @GM
def Pe:C1 prog 98 EX Tm.av sI:=by
 refine v1 func98 λT H a0 r m e=>?_;rw[EX] at m;exact au
@[instance] def adN:=@Kc.mk prog 98 _ @Pe
def R6:C1 prog 38 e9 Tm.av sI:=by
 refine v1 func38 λT H a0 r m e=>?_;rw[e9] at m;exact aa
@[instance] def agZ:=@Kc.mk prog 38 _ @R6
def SC:C2 prog 55 j9 Tm.av sI (sL Tm.av):=by
 refine v2 func55 λT H a0 a r m e=>?_;rw[j9] at m;exact au
@[instance] def agU:=@Kc.mk prog 55 _ @SC
def KL:C2 prog 37 gO Tm.av Tm.av (sL Tm.av):=by
 refine v2 func37 λT H a0 d r m e=>?_;rw[gO] at m;simp[e];refine Wr e m 999 (λi s2 f h=>h=H/\f.1 7=sL Tm.av d/\f.1 8=sI (ey d)/\f.1 9=sI i/\bx f 2 [sI s2.1,sI s2.2.1,sI s2.2.2.1,sL Ty.av s2.2.2.2.1,sL Tm.av s2.2.2.2.2]/\bx f 4 [sI 0,sI 0,sI 0,nL,nL]) VW (λs2 _ _ _ E m=>?_) (λi _ s2 _ _ _ _ _ E e m z p=>?_)
 ·have⟨v11,v12,a,b,c⟩:=s2;have e:=Aj e E;dsimp only[eo,Cg]at m;exact au
 have⟨v11,v12,a,b,c⟩:=s2;have e:=Aj e E;dsimp only[Cg]at m;exact aa
@[instance] def aba:=@Kc.mk prog 37 _ @KL
def M1{n:Nat}:C3 prog 56 (kO n) Tm.av Tm.av sI sI:=by
 refine i3 λn ih=>u3 5 func56 λT H a0 h a2 r m e=>?_;rw[kO] at m;refine sw [0,13] ?_;intro e m;apply wg 5;simp[e];apply Iq e m<;>intro e m
 ·apply wg 1;simp[e];refine wB 999 999 [] [6] (λf=>bx f 3 [sI a0.an6,sI (e_ (qn a0.an9 h) (eL .i64 a0.an9 a2) a0.an9),sI a0.dL.an6,sL Ty.av a0.dL.an7,sL Tm.av a0.an7]) λ_ g=>?_;rcases Pb (qn a0.an9 h) e with e|e
  ·exact aj
  exact aj
 apply wg 2;simp[e];refine wA 999 999 [] [3,6] (λf=>f.1 1=sI (e_ (ee a0.an6 2) (eL .i64 h 1) h)/\f.1 2=sI a2) [0] (λ_ g=>?_) ?_
 ·rcases Pb (ee a0.an6 2) e with e|e
  ·exact aj
  exact aj
 intro _ e m;refine Td e m 999 36 [1,2,34,35] [6] [47] (λb=>b) (λb a f=>bx f 7 [sI a0.an6,sI a0.an9,sI a0.dL.an6,sL Ty.av a0.dL.an7,sT a Tm.av b]) λj _ b d _ _ _ _ E e m z p=>?_;have⟨a,E,c⟩:=E;refine sw [20,0,18,9,0] ?_;intro i e m;refine Ad (f:=Tm.av) b [i] c xS e.2 ?_;simp[e];cases m;exact p _ _ _ ⟨(.loc 47 (d.fa 47+1)),VW,(On 47)⟩ z
@[instance] def ac8:=@Kc.mk prog 56 _ @M1
def P':C2 prog 48 mS Fm.av Tm.av Tm.av:=by
 refine v2 func48 λT H a0 a r m e=>?_;rw[mS] at m;have e:=Aj e (show AV.agg [sI 1,sI 0,AV.slice .gx [],AV.slice .gx [Tm.av a0,Tm.av a],AV.slice .gx []]=Fm.av (Fm.mk 1 (Ty.mk 0 []) [a0,a] []) by rw[Fm.eQ];rfl);exact au
@[instance] def ae1:=@Kc.mk prog 48 _ @P'
def Rz:C3 prog 40 pj Fm.av sI Ty.av Fm.av:=by
 refine v3 func40 λT H a0 a a2 r m e=>?_;rw[pj] at m;have e:=Aj e (show AV.agg [sI a0,sI a.an6,sL Ty.av a.an7,AV.slice .gx [],AV.slice .gx [Fm.av a2]]=Fm.av (Fm.mk a0 a [] [a2]) by rw[Fm.eQ];rfl);exact au
@[instance] def agE:=@Kc.mk prog 40 _ @Rz
def G5:C1 prog 42 eX Fm.av Tm.av:=by
 refine v1 func42 λT H a0 r m e=>?_;rw[eX] at m;exact aa
@[instance] def WI:=@Kc.mk prog 42 _ @G5
def JG:C1 prog 45 kA Pf.av Tm.av:=by
 refine v1 func45 λT H a0 r m e=>?_;rw[kA] at m;have e:=Aj e (show AV.agg [sI 18,sI 0,sI 0,AV.slice .gx [],AV.slice .gx [Tm.av a0],AV.slice .gx [],AV.slice .gx []]=Pf.av (Pf.mk 18 0 (Ty.mk 0 []) [a0] [] []) by rw[Pf.eQ];rfl);exact au
@[instance] def aal:=@Kc.mk prog 45 _ @JG
def I2:C3 prog 44 jH Pf.av Fm.av Tm.av Pf.av:=by
 refine v3 func44 λT H a0 a a2 r m e=>?_;rw[jH] at m;have e:=Aj e (show AV.agg [sI 10,sI 0,sI 0,AV.slice .gx [],AV.slice .gx [Tm.av a],AV.slice .gx [Fm.av a0],AV.slice .gx [Pf.av a2]]=Pf.av (Pf.mk 10 0 (Ty.mk 0 []) [a] [a0] [a2]) by rw[Pf.eQ];rfl);exact au
@[instance] def Zr:=@Kc.mk prog 44 _ @I2
def Np:C2 prog 43 pL Pf.av Ty.av Pf.av:=by
 refine v2 func43 λT H a0 a r m e=>?_;rw[pL] at m;have e:=Aj e (show AV.agg [sI 8,sI 0,sI a0.an6,sL Ty.av a0.an7,AV.slice .gx [],AV.slice .gx [],AV.slice .gx [Pf.av a]]=Pf.av (Pf.mk 8 0 a0 [] [] [a]) by rw[Pf.eQ];rfl);exact au
@[instance] def acY:=@Kc.mk prog 43 _ @Np
def Ky:C1 prog 235 ri sB Fm.av:=by
 refine u1 4 func235 λT H a0 r m e=>?_;rw[ri] at m;simp[e];refine yC m 5 0 (λa f h=>∃v2 v3 v4,(h=H/\f.1 3=sI v2/\f.1 4=sI v3/\f.1 5=sB v4/\bx f 1 (Fm.av a0).cells)/\a v2 v3 v4=some r) ?_ (λa _ g m=>?_)
 ·rintro _ _ ⟨v2,v3,v4,E,m⟩;have e:=Aj e E;refine Wj m 999 0 (λb f h=>(h=H/\f.1 3=sI v2/\f.1 4=sI v3/\bx f 1 (Fm.av a0).cells)/\b=some r) (λb _ g m=>?_) ?_
  ·apply Iq e m<;>intro e m
   ·simp[e];refine zp m sD λ_ _ m=>?_;refine Il e m λe m=>?_;exact ak0
   simp[e];refine zq m wX λ_ m=>?_;refine Im e m λe m=>?_;exact ak0
  rintro _ _ ⟨E,m⟩;have e:=Aj e E;refine wB 999 999 [] [] (λf=>f.1 2=sB (e_ (ee (ey a0.ea) v2) (ee (ey a0.an7) v3) false)) λ_ g=>?_;rcases Pb (ee (ey a0.ea) v2) e with e|e
  ·exact aj
  exact aj
 simp[e];apply Iq e m<;>intro e m
 ·apply wg 999;exact ak3
 apply wg 1;simp[e];refine wA 999 0 [3,5,9] [1] (λf=>f.1 12=sB (e_ (ee a0.an6 2) true (ee a0.an6 3))) [] (λ_ g=>?_) ?_
 ·rcases Pb (ee a0.an6 2) e with e|e
  ·exact aj
  exact aj
 intro _ e m;apply Iq e m<;>intro e m
 ·apply wg 999;exact ak3
 apply wg 1;simp[e];refine wjs 999 999 (λf h=>h=H/\f.1 3=sI 0/\f.1 15=sB (e_ (ee a0.an6 4) true (e_ (ee a0.an6 5) true (e_ (ee a0.an6 6) true (ee a0.an6 7))))/\bx f 1 (Fm.av a0).cells) ?_ (λ_ g=>?_)
 ·rintro _ _ E;refine sw [10,12] ?_;intro e m;exact ak3
 rcases Pb (ee a0.an6 4) e with e|e
 ·exact aj
 rcases Pb (ee a0.an6 5) e with e|e
 ·exact aj
 rcases Pb (ee a0.an6 6) e with e|e
 ·exact aj
 exact aj
@[instance] def aam:=@Kc.mk prog 235 _ @Ky
def AR(T:eA)(h:k5 T):∀(n:Nat),(∀{H:dS} {a0:Fm} {a:Int} {b:Bool} (hm:js n a0=some (a,b)),et prog T 171 [Fm.av a0] H (AV.tuple [sI a,sB b]) H):=by
  intro n
  induction n with
  |zero=>
   skip
   all_goals(intro _ _;intros;rename_i hm;cases hm)
  |succ n ih=>
 intro H a0 a b hm;rw[js] at hm;have e:=h;refine wi an' func171 [] [] 999 ?_;have m:=hm;refine sw [0,1,12,0] ?_;intro _ e m;refine Wa e m 999 19 [17,18] [1] (λd f=>f.1 4=sI d) [11,0] ?_;intro _ d e m;exact Wb e m 999 37 [35,36] [] (λc f=>f.1 4=sI c)
def Bt(T:eA)(c:k5 T){H:dS}{a0:Fm}{a:Int}{b:Bool}{n:Nat}(hm:js n a0=some (a,b)):et prog T 171 [Fm.av a0] H (AV.tuple [sI a,sB b]) H:=(AR T c n) hm
@[instance] def Rs:=@Kc.mk prog 171 _ @Bt
def BA(T:eA)(c:k5 T){H:dS}{a0:Fm}{a b:Int}(hm:iU a0=some (a,b)):et prog T 134 [Fm.av a0] H (AV.tuple [sI a,sI b]) H:=by
 rw[iU] at hm;have e:=c;refine wi an' func134 [] [] 999 ?_;have m:=hm;exact aa
@[instance] def Rp:=@Kc.mk prog 134 _ @BA
def GY(T:eA)(b:k5 T){H:dS}{a0:Fm}{a:Int}(hm:j5 a0=some a):et prog T 99 [Fm.av a0] H (sI a) H:=by
 rw[j5] at hm;have e:=b;refine wi an' func99 [] [] 999 ?_;have m:=hm;exact aa
@[instance] def Xb:=@Kc.mk prog 99 _ @GY
def Ki(T:eA)(c:k5 T){H:dS}{a0:Int}{a:fp}{b:Bool}(hm:pg a0=some (a,b)):et prog T 236 [sI a0] H (AV.tuple [fp.av a,sB b]) H:=by
 rw[pg] at hm;have e:=c;refine wi an' func236 [] [] 3 ?_;simp[e];refine wA 999 999 [] [2] (λf=>f.1 0=sI a0/\f.1 9=sB (e_ (rA a0 1) true (qn a0 21))) [] (λ_ g=>?_) ?_
 ·rcases Pb (rA a0 1) e with e|e
  ·exact aj
  exact aj
 intro _ e m;have m:=hm;exact aa
@[instance] def aaT:=@Kc.mk prog 236 _ @Ki
def CJ(T:eA){H:dS}{a0:dU}{b a2:Int}{j:Bool}{a:dU}{d:Nat}(c:H[d]?=some [sI a0.an8,sB a0.iL])(hm:hI a0 b a2=some (j,a)):et prog T 238 [AV.eK d 0,sI b,sI a2] H (sB j) (fo H d [sI a.an8,sB a.iL]):=by
 rw[hI] at hm;have i:=eJ c;refine fb.Gl c ?_;have e:=i;refine wi an' func238 [] [] 4 ?_;simp[e];refine wjs 999 999 (λf h=>h=fo H d [sI (e_ a0.iL (dU.mk (eL .i64 a0.an8 b) true) (dU.mk (eL .i64 a0.an8 b) (ee a2 4))).an8,sB (e_ a0.iL (dU.mk (eL .i64 a0.an8 b) true) (dU.mk (eL .i64 a0.an8 b) (ee a2 4))).iL]/\f.1 2=sI a2) ?_ (λ_ g=>?_)
 ·rintro _ _ E;have e:=Aj e E;cases hm;simp[e]
 rcases Pb a0.iL e with e|e
 ·exact aj
 exact aj
@[instance] def Sa:=@Kc.mk prog 238 _ @CJ
def BH(T:eA)(x:k5 T):∀(n:Nat),(∀{H:dS} {a0:dU} {a:Pf} {s:Bool} {d:dU} {b:Nat} (l:H[b]?=some [sI a0.an8,sB a0.iL]) (hm:iJ n a0 a=some (s,d)),et prog T 172 [AV.eK b 0,Pf.av a] H (sB s) (fo H b [sI d.an8,sB d.iL])):=by
  intro n
  induction n with
  |zero=>
    skip
    all_goals(intro _ _;intros;rename_i hm;cases hm)
  |succ n ih=>
 intro H a0 a s d b l hm;rw[iJ] at hm;have u:=eJ l;refine fb.Gl l ?_;have e:=Aj x u;refine wi an' func172 [] [] 5 ?_;have m:=hm;refine sw [0,2,0] ?_;intro c v e m;refine wA 999 0 [] [3,5] (λf=>f.1 0=AV.eK b 0/\f.1 61=sB (e_ v (e_ (rA a.an9 0) true (e_ (eD a.an9 0) (e_ c.an9 (e_ (eD (ey a.ea) c.ea) true (e_ (eD (ey a.fM) c.fM) true (eD (ey a.an7) c.an7))) true) (e_ (eD (ey a.ea) c.ea) true (e_ (eD (ey a.fM) c.fM) true (eD (ey a.an7) c.an7))))) true)) [13] (λ_ g=>?_) ?_
 ·rcases Pb v e with e|e;rotate_left
  ·exact aj
  rcases Pb (rA a.an9 0) e with e|e
  ·exact aj
  rcases Pb (eD a.an9 0) e with e|e;rotate_left
  ·rcases Pb (eD (ey a.ea) c.ea) e with e|e
   ·exact aj
   rcases Pb (eD (ey a.fM) c.fM) e with e|e
   ·exact aj
   exact aj
  rcases Pb c.an9 e with e|e;rotate_left
  ·exact aj
  rcases Pb (eD (ey a.ea) c.ea) e with e|e
  ·exact aj
  rcases Pb (eD (ey a.fM) c.fM) e with e|e
  ·exact aj
  exact aj
 intro _ e m;apply wg 4;simp[e];refine Wj m 999 999 (λw f h=>∃t,(h=fo H b [sI t.an8,sB t.iL]/\f.1 0=AV.eK b 0/\f.1 3=AV.gX 3 (f.gen 3) 0/\f.box 3=some (Pf.av a).cells)/\w t=some (s,d)) (λw _ g m=>?_) ?_
 ·apply Iq e m<;>intro e m
  ·refine sw [0,2,7] ?_;intro _ _ e m;exact iC
  refine sw [0,1,12] ?_;intro _ e m;exact iC
 rintro _ _ ⟨t,E,m⟩;have e:=Aj e E;simp[e];refine Re e m 999 (λo i f h=>h=fo H b [sI i.an8,sB i.iL]/\f.1 0=AV.eK b 0/\f.1 84=sL Tm.av a.ea/\f.1 85=sI (ey a.ea)/\f.1 86=sI o/\bx f 3 (Pf.av a).cells) VW (λo _ i _ _ _ _ _ E e m z p=>?_) (λi _ _ _ E m=>?_)
 ·refine sw [10,0,2,0,2] ?_;intro _ _ _ d27 e m;exact aa
 refine sw [10,11,0] ?_;intro e m;refine Re e m 999 (λq j f h=>h=fo H b [sI j.an8,sB j.iL]/\f.1 0=AV.eK b 0/\f.1 99=sL Fm.av a.fM/\f.1 100=sI (ey a.fM)/\f.1 101=sI q/\bx f 3 (Pf.av a).cells) VW (λq _ j _ _ _ _ _ E e m z p=>?_) (λj _ _ _ E m=>?_)
 ·refine sw [10,0,2,0,2] ?_;intro _ _ _ d40 e m;exact aa
 refine sw [10,11,0] ?_;intro e m;refine Wr e m 999 (λr k f h=>h=fo H b [sI k.an8,sB k.iL]/\f.1 0=AV.eK b 0/\f.1 114=sL Pf.av a.an7/\f.1 115=sI (ey a.an7)/\f.1 116=sI r) VW (λk _ _ _ E m=>?_) (λr _ k _ _ _ _ _ E e m z p=>?_)
 ·exact aa
 have e:=Aj e E;simp[e];refine zp m (ih VW) λ_ d51 m=>?_;exact aa
def CG(T:eA)(h:k5 T){H:dS}{a0:dU}{d:Pf}{f:Bool}{a:dU}{b:Nat}(c:H[b]?=some [sI a0.an8,sB a0.iL]){n:Nat}(hm:iJ n a0 d=some (f,a)):et prog T 172 [AV.eK b 0,Pf.av d] H (sB f) (fo H b [sI a.an8,sB a.iL]):=(BH T h n) c hm
@[instance] def Tg:=@Kc.mk prog 172 _ @CG
def Ef(T:eA)(c:k5 T){H:dS}{a0:Pf}{a b:Int}(hm:qG a0=some (a,b)):et prog T 135 [Pf.av a0] H (AV.tuple [sI a,sI b]) H:=by
 rw[qG] at hm;refine fb.rm (Post:=λx K=>x=AV.tuple [sI a,sI b]/\∃X,K=H++X) ?_ (λ_ _ h=>⟨_,h.2.choose_spec,by rw[h.1];simp[AV.low,AV.ir],h.1,rfl⟩);have e:=c;refine wi an' func135 [6] [] 8 ?_;have m:=hm;refine sw [0,2,0,14] ?_;intro _ d2 e m;apply wg 1;simp[e];refine wB 999 999 [4] [] (λf=>f.1 12=sB (e_ d2.iL true (oC d2.an8 16384))) λ_ g=>?_;rcases Pb d2.iL e with e|e
 ·exact aj
 exact aj
@[instance] def Uw:=@Kc.mk prog 135 _ @Ef
def BX(T:eA)(b:k5 T){H:dS}{a0:Pf}{a:Int}(hm:qY a0=some a):et prog T 100 [Pf.av a0] H (sI a) H:=by
 rw[qY] at hm;have e:=b;refine wi an' func100 [] [] 999 ?_;have m:=hm;exact aa
@[instance] def aaV:=@Kc.mk prog 100 _ @BX
def JP(T:eA)(h:k5 T){H:dS}{a0:Fm}{a:Pf}{b:Fm}{c:Pf}{d:Int}(hm:gW a0 a=some (b,c,d)):et prog T 39 [Fm.av a0,Pf.av a] H (AV.tuple [Fm.av b,Pf.av c,sI d]) H:=by
 rw[gW] at hm;have e:=h;refine wi an' func39 [] [] 4 ?_;have m:=hm;refine sw [0,1,0] ?_;intro _ e m;refine WB m 999 999 [] [2,3,4,5] (λv3 f=>f.1 7=sI v3) λi _ g m=>?_;apply Ir e m<;>intro e m
 ·exact iC
 refine sw [0,1] ?_;intro _ e m;exact iC
@[instance] def aa3:=@Kc.mk prog 39 _ @JP
def Dz(T:eA)(d:k5 T){H:dS}{a0:Tm}{a:Fm}{b:Pf}{c:Int}(hm:lH a0=some (a,b,c)):et prog T 11 [Tm.av a0] H (AV.tuple [Fm.av a,Pf.av b,sI c]) H:=by
 rw[lH] at hm;have e:=d;refine wi an' func11 [] [] 999 ?_;have m:=hm;exact aa
@[instance] def TX:=@Kc.mk prog 11 _ @Dz
def oP:C2 prog 254 iM (sL dK.av) (sL dK.av) (sL Ty.av):=by
 refine v2 func254 λT H a0 b r m e=>?_;rw[iM] at m;refine sw [0,4,9,0] ?_;intro a e m;refine Ad (f:=dK.av) a0 a (gL.full (D:=[])) Xz e.2 ?_;exact au
@[instance] def Oe:=@Kc.mk prog 254 _ @oP
def tE:C3 prog 255 kP sI (sL dK.av) Tm.av sI:=by
 refine u3 5 func255 λT H a0 a a2 r m e=>?_;rw[kP] at m;refine sw [0,2,0] ?_;intro _ b e m;refine WB m 999 999 [8] [] (λv4 f=>f.1 22=sB v4) λc _ g m=>?_;apply Ir e m<;>intro e m
 ·exact iC
 refine sw [0,1] ?_;intro _ e m;exact iC
@[instance] def O2:=@Kc.mk prog 255 _ @tE
def xC:C2 prog 257 iP sI (sL dK.av) Tm.av:=by
 refine v2 func257 λT H a0 a r m e=>?_;rw[iP] at m;exact aa
@[instance] def LN:=@Kc.mk prog 257 _ @xC
def iH{n:Nat}:C2 prog 239 (fc n) sI (sL dK.av) Fm.av:=by
 refine i2 λn ih=>u2 6 func239 λT H a0 a r m e=>?_;rw[fc] at m;simp[e];refine yC m 1 999 (λi f h=>∃v2,(h=H/\f.1 0=sL dK.av v2/\f.1 3=AV.gX 3 (f.gen 3) 0/\f.box 3=some (Fm.av a).cells)/\i v2=some r) ?_ (λi _ b m=>?_)
 ·rintro _ _ ⟨v2,E,m⟩;have e:=Aj e E;simp[e];refine Wr e m 999 (λj _ f h=>h=H/\f.1 0=sL dK.av v2/\f.1 28=sL Fm.av a.an7/\f.1 29=sI (ey a.an7)/\f.1 30=sI j) VW (λ_ _ _ _ E m=>?_) (λj _ _ _ _ _ _ _ E e m z p=>?_)
  ·exact aa
  exact aa
 simp[e];refine yC m 4 999 (λc f h=>(h=H/\f.1 0=sL dK.av a0/\f.1 3=AV.gX 3 (f.gen 3) 0/\f.box 3=some (Fm.av a).cells)/\c=some r) ?_ (λc _ g m=>?_)
 ·rintro _ _ ⟨E,m⟩;refine sw [10,0,1,0] ?_;intro d e m;exact b _ _ ⟨d,VW,m⟩
 simp[e];refine wA 999 0 [12] [3] (λf=>f.1 0=sL dK.av a0/\f.1 13=sB (e_ (ee a.an6 4) true (ee a.an6 5))) [] (λ_ g=>?_) ?_
 ·rcases Pb (ee a.an6 4) e with e|e
  ·exact aj
  exact aj
 intro _ e m;apply Iq e m<;>intro e m
 ·apply wg 999;exact ak0
 apply wg 3;simp[e];refine wA 999 0 [12] [3] (λf=>f.1 0=sL dK.av a0/\f.1 16=sB (e_ (ee a.an6 6) true (ee a.an6 7))) [] (λ_ g=>?_) ?_
 ·rcases Pb (ee a.an6 6) e with e|e
  ·exact aj
  exact aj
 intro _ e m;apply Iq e m<;>intro e m
 ·apply wg 999;exact ak0
 apply wg 2;simp[e];refine wA 999 999 [] [3] (λf=>f.1 0=sL dK.av a0/\f.1 19=sB (e_ (ee a.an6 2) true (ee a.an6 3))) [] (λ_ g=>?_) ?_
 ·rcases Pb (ee a.an6 2) e with e|e
  ·exact aj
  exact aj
 intro _ e m;apply Iq e m<;>intro e m
 ·simp[e];exact b _ _ ⟨a0,VW,m⟩
 simp[e];exact Wb e m 999 44 [0,42,43] [] nI
@[instance] def J1:=@Kc.mk prog 239 _ @iH
def GX(T:eA)(c:k5 T){H:dS}{a0:List Ty}{a:Fm}{b:Int}(hm:s5 a0 a=some b):et prog T 173 [sL Ty.av a0,Fm.av a] H (sI b) H:=by
 rw[s5] at hm;have e:=c;refine wi an' func173 [] [] 999 ?_;have m:=hm;exact aa
@[instance] def W_:=@Kc.mk prog 173 _ @GX
def xy(T:eA)(c:k5 T){H:dS}{a0:List Fm}{a:Sq}{b:Int}(hm:rP a0 a=some b):et prog T 136 [sL Fm.av a0,Sq.av a] H (sI b) H:=by
 rw[rP] at hm;have e:=c;refine wi an' func136 [] [] 999 ?_;refine Il e hm λe m=>?_;simp[e];refine Wa e m 999 17 [15,16] [3] nI [11,0,1,7,7,0] ?_;intro _ _ _ e m;exact Wb e m 999 40 [38,39] [3] nI
@[instance] def Wi:=@Kc.mk prog 136 _ @xy
def AS(T:eA){H:dS}{u:Unit}(hm:yd=some u):et prog T 137 [] H (AV.nH (List.length H)) (H++[[Mn]]):=by
 refine wi an' func137 [] [] 999 ?_;simp;refine tq.xI k0 uA Yx Yx ?_;simp;refine tq.xI k0 uA Yx Yx ?_;simp;refine tq.xI k0 uA Yx Yx ?_;simp;refine tq.xI k0 uA Yx Yx ?_;simp;refine tq.xI k0 uA Yx Yx ?_;simp;refine tq.xI k0 uA Yx Yx ?_;simp;refine tq.xI k0 uA Yx Yx ?_;simp;refine tq.xI k0 uA Yx Yx ?_;simp;refine tq.xI k0 uA Yx Yx ?_;simp;refine tq.xI k0 uA Yx Yx ?_;simp;refine tq.xI k0 uA Yx Yx ?_;simp;refine tq.xI k0 uA Yx Yx ?_;simp;refine tq.xI k0 uA Yx Yx ?_;simp;refine tq.xI k0 uA Yx Yx ?_;simp;refine tq.xI k0 uA Yx Yx ?_;simp;refine tq.xI k0 uA Yx Yx ?_;simp;refine tq.xI k0 uA Yx Yx ?_;simp;refine tq.xI k0 uA Yx Yx ?_;simp;refine tq.xI k0 uA Yx Yx ?_;simp;refine tq.xI k0 uA Yx Yx ?_;simp;simp[Mn,R1,S']
@[instance] def Yd:=@Kc.mk prog 137 _ @AS
def qi:C2 prog 189 lr dP.av dP.av Fm.av:=by
 refine v2 func189 λT H a0 a r m e=>?_;rw[lr] at m;refine sw [9,0] ?_;intro e m;refine Ad (f:=eg.av) a0.known [(eg.mk a a0.k_.vars)] (gL.full (D:=[])) ajg e.2 ?_;exact au
@[instance] def Rl:=@Kc.mk prog 189 _ @qi
def z8:C1 prog 139 ur dP.av Sq.av:=by
 refine v1 func139 λT H a0 r m e=>?_;rw[ur] at m;refine sw [0,1,0] ?_;intro _ e m;refine Wr e m 999 (λj b f h=>∃a,h=H/\f.1 16=sL Fm.av a0.aob/\f.1 17=sI (ey a0.aob)/\f.1 18=sI j/\bx f 2 [sI 0,sI 0,nL,nL]/\bx f 3 [sI b.1,sI b.2.1,sL dK.av b.2.2.1,sT a eg.av b.2.2.2]) ⟨.full,VW⟩ (λb _ _ _ E m=>?_) (λj _ b _ _ _ _ _ E e m z p=>?_)
 ·have⟨v12,c,d,i⟩:=b;have⟨a,E⟩:=E;have e:=Aj e E;dsimp only[eo,Fy]at m;exact au
 have⟨v12,c,d,i⟩:=b;have⟨a,E⟩:=E;have e:=Aj e E;dsimp only[Fy]at m;refine sw [0,1,0] ?_;intro _ e m;cases m;exact p _ _ _ ⟨.gx,VW⟩ z
@[instance] def ZM:=@Kc.mk prog 139 _ @z8
def pM:C3 prog 243 jT sI eC.av sI sI:=by
 refine u3 3 func243 λT H a0 a a2 r m e=>?_;rw[jT] at m;simp[e];refine wB 999 999 [] [] (λf=>f.1 18=sB (e_ (oC (eL .i64 a0.vars a) 16) true (oC (eL .i64 a0.aob a2) 16))) λ_ g=>?_;rcases Pb (oC (eL .i64 a0.vars a) 16) e with e|e
 ·exact aj
 exact aj
@[instance] def Qp:=@Kc.mk prog 243 _ @pM
def tk:C2 prog 244 jP dP.av dP.av (sL Ty.av):=by
 refine v2 func244 λT H a0 a r m e=>?_;rw[jP] at m;exact aa
@[instance] def OQ:=@Kc.mk prog 244 _ @tk
def Ee:C3 prog 245 lE Fm.av sI Ty.av Fm.av:=by
 refine v3 func245 λT H a0 a a2 r m e=>?_;rw[lE] at m;have e:=Aj e (show AV.agg [sI a0,sI a.an6,sL Ty.av a.an7,AV.slice .gx [],AV.slice .gx [Fm.av a2]]=Fm.av (Fm.mk a0 a [] [a2]) by rw[Fm.eQ];rfl);exact au
@[instance] def UN:=@Kc.mk prog 245 _ @Ee
def rH:C2 prog 246 iy (λn=>AV.sc (Value.int .u32 n)) (λn=>AV.sc (Value.int .u32 n)) sI:=by
 intro T H a0 a r hm;rw[iy] at hm;have e:=trivial;refine wi an' func246 [] [] 999 ?_;have⟨e,m⟩:=Ck e hm;exact au
@[instance] def NL:=@Kc.mk prog 246 _ @rH
def y0(T:eA){H:dS}{a0 f a b:Int}{q0:Nat}(c:H[q0]?=some [AV.sc (.int .u32 a)])(hm:nD a0 f a=some b):et prog T 290 [sI a0,sI f,AV.eK q0 0] H (AV.tuple []) (fo H q0 [AV.sc (.int .u32 b)]):=by
 rw[nD] at hm;have d:=eJ c;refine fb.Gl c ?_;have e:=d;refine wi an' func290 [] [(1,false,[false,true,true,true,true,true,false])] 999 ?_;have m:=hm;refine sw [12,9] ?_;intro e m;exact au
@[instance] def W9:=@Kc.mk prog 290 _ @y0
def IU(T:eA):∀(n:Nat),(∀{S:Type} {st:S->dS} {k:Nat} {a0:Tm} {d:Int} {i:(S->Int->Int->Option (S))} {vR:S} {zl:S} {q0:Nat} {q1:Nat} {j:Nat} {l:List AV} (hF:Db st k) (b:∀s,(st s)[q0]?=some [AV.func (.func j) [] l]) (a:s6 T j l st i) (c:∀s,(st s)[q1]?=some [AV.func (.func 311) [] [AV.eK q0 0,AV.eK q1 0]]) (hm:k7 n a0 d i vR=some zl),et prog T 311 [Tm.av a0,sI d,AV.eK q0 0,AV.eK q1 0] (st vR) (AV.tuple []) (st zl)):=by
  intro n
  induction n with
  |zero=>
    skip
    all_goals(intro _ _;intros;rename_i hm;cases hm)
  |succ n ih=>
 intro S st k a0 d i vR zl q0 q1 j l hF b a c hm;rw[k7] at hm;have r:=λs=>eJ (b s);have t:=λs=>eJ (c s);have e:=Aj (Aj (Aj (Aj hF.len r) b) t) c;refine wi an' func311 [] [] 2 ?_;simp[e];refine Wj hm 999 0 (λu f h=>∃v2,(h=st v2/\f.1 1=sI d/\f.1 3=AV.eK q1 0/\f.1 4=AV.gX 4 (f.gen 4) 0/\f.box 4=some (Tm.av a0).cells)/\u v2=some zl) (λu w g m=>?_) ?_
 ·apply Ir e m<;>intro e m
  ·exact iC
  refine sw [8,0] ?_;intro x e m;refine kB.FL YQ (s6.at0 a e.2) ?_;exact iC
 rintro _ _ ⟨v2,E,m⟩;have e:=Aj e E;refine wj 999 999 (λf h=>h=st v2/\f.1 1=sI (e_ (ee a0.an6 2) (eL .i64 d 1) d)/\f.1 3=AV.eK q1 0/\f.1 4=AV.gX 4 (f.gen 4) 0/\f.box 4=some (Tm.av a0).cells) (λ_ g=>?_) ?_
 ·rcases Pb (ee a0.an6 2) e with e|e
  ·exact aj
  exact aj
 rintro _ _ E;have e:=Aj e E;simp[e];refine Wr e m 999 (λq o f h=>h=st o/\f.1 1=sI (e_ (ee a0.an6 2) (eL .i64 d 1) d)/\f.1 3=AV.eK q1 0/\f.1 22=sL Tm.av a0.an7/\f.1 23=sI (ey a0.an7)/\f.1 24=sI q) VW (λo _ _ _ E m=>?_) (λq _ o _ _ _ _ _ E e m z p=>?_)
 ·exact aa
 refine sw [10,8,0] ?_;intro v e m;refine kB.FL YQ (ih hF b a c e.2) ?_;exact al
def BQ(T:eA){S:Type}{st:S->dS}{k:Nat}{a0:Tm}{i:Int}{a:(S->Int->Int->Option (S))}{vR zl:S}{q0 q1 b:Nat}{c:List AV}(hF:Db st k)(f:∀s,(st s)[q0]?=some [AV.func (.func b) [] c])(d:s6 T b c st a)(h:∀s,(st s)[q1]?=some [AV.func (.func 311) [] [AV.eK q0 0,AV.eK q1 0]]){n:Nat}(hm:k7 n a0 i a vR=some zl):et prog T 311 [Tm.av a0,sI i,AV.eK q0 0,AV.eK q1 0] (st vR) (AV.tuple []) (st zl):=(IU T n) hF f d h hm
@[instance] def aaD:=@Kc.mk prog 311 _ @BQ
def wH(T:eA){S:Type}{st:S->dS}{k:Nat}{a0:Tm}{c:(S->Int->Int->Option (S))}{vR zl:S}{g1:Nat}{a:List AV}(hF:Db st k)(b:s6 T g1 a st c)(hm:sU a0 c vR=some zl):et prog T 289 [Tm.av a0,AV.func (.func g1) [] a] (st vR) (AV.tuple []) (st zl):=by
 rw[sU] at hm;refine fb.aeH hF (Post:=λx K=>x=AV.tuple []/\∃X,K=(st zl)++X) ?_ (λ_ _ h=>⟨_,h.2.choose,h.2.choose_spec,by rw[h.1];simp[AV.low,AV.ir],h.1,rfl⟩);have e:=hF.len;refine wi an' func289 [3,4] [] 999 ?_;have⟨s1,e,m⟩:=iR e hm;simp[e];refine kB.FL YQ (BQ T (st:=λs=>st s++[[AV.func (.func g1) [] a],[AV.func (.func 311) [] [AV.eK k 0,AV.eK (k+1) 0]]]) (Db.ext hF _ (n:=k+2) LA) (λ_=>VW) (s6.ext b) (λ_=>VW) e.2) ?_;exact au
@[instance] def aeb:=@Kc.mk prog 289 _ @wH
def w6(T:eA){H:dS}{a0:Tm}{a:Int}(hm:pt a0=some a):et prog T 247 [Tm.av a0] H (AV.sc (.int .u32 a)) H:=by
 rw[pt] at hm;refine fb.rm (Post:=λx K=>x=AV.sc (.int .u32 a)/\∃X,K=H++X) ?_ (λ_ _ h=>⟨_,h.2.choose_spec,by rw[h.1];simp[AV.low,AV.ir],h.1,rfl⟩);have e:=trivial;refine wi an' func247 [3] [] 999 ?_;simp[e];refine zq hm (wH T (st:=λs:Int=>H++[[AV.sc (.int .u32 s)]]) (Db.Xt H (λs:Int=>[[AV.sc (.int .u32 s)]]) 1 (λ_=>rfl) (by simp[AV.low,AV.ir])) (λX s _ _ b h=>by have:=y0 T (H:=H++[[AV.sc (.int .u32 s)]]++X) (q0:=(List.length H)) VW h;simpa using this)) λ_ m=>?_;exact au
@[instance] def aah:=@Kc.mk prog 247 _ @w6
def rG:C1 prog 250 px (λn=>AV.sc (Value.int .u32 n)) Tm.av:=by
 intro T H a0 r hm;rw[px] at hm;have e:=trivial;refine wi an' func250 [] [] 999 ?_;cases hm;simp[e]
@[instance] def Ng:=@Kc.mk prog 250 _ @rG
def nJ:C2 prog 248 lx sB dK.av Ty.av:=by
 refine v2 func248 λT H a0 a r m e=>?_;rw[lx] at m;exact aa
@[instance] def Rr:=@Kc.mk prog 248 _ @nJ
def AF(T:eA){H:dS}{a0 k a b c:Int}{q0 q1:Nat}(d:H[q0]?=some [sI a])(f:H[q1]?=some [sI b])(h:q0≠q1)(hm:oA a0 k a b=some c):et prog T 332 [sI a0,sI k,AV.eK q0 0,AV.eK q1 0] H (AV.tuple []) (fo H q1 [sI c]):=by
 rw[oA] at hm;have i:=eJ d;have j:=eJ f;refine fb.Gl f ?_;have e:=Aj (Aj (Aj (Aj i d) j) h) h.symm;refine wi an' func332 [] [] 999 ?_;have m:=hm;exact aa
@[instance] def XY:=@Kc.mk prog 332 _ @AF
def NJ(T:eA){H:dS}{a0:Tm}{a b:Int}(hm:su a0 a=some b):et prog T 314 [Tm.av a0,sI a] H (sI b) H:=by
 rw[su] at hm;refine fb.rm (Post:=λx K=>x=sI b/\∃X,K=H++X) ?_ (λ_ _ h=>⟨_,h.2.choose_spec,by rw[h.1];simp[AV.low,AV.ir],h.1,rfl⟩);have e:=trivial;refine wi an' func314 [3,5] [] 999 ?_;simp[e];refine zq hm (wH T (st:=λs:Int=>H++[[sI a],[sI s]]) (Db.Xt H (λs:Int=>[[sI a],[sI s]]) 2 (λ_=>rfl) (by simp[AV.low,AV.ir])) (λX s _ _ c h=>by have:=AF T (H:=H++[[sI a],[sI s]]++X) (q0:=(List.length H)) (q1:=(List.length H+1)) VW VW VW h;simpa using this)) λ_ m=>?_;exact au
@[instance] def abZ:=@Kc.mk prog 314 _ @NJ
def si(T:eA){H:dS}{a0:Tm}{k a b c:Int}{q0 q1:Nat}(d:H[q0]?=some [sI a])(f:H[q1]?=some [sI b])(h:q0≠q1)(hm:jl a0 k a b=some c):et prog T 313 [Tm.av a0,sI k,AV.eK q0 0,AV.eK q1 0] H (AV.tuple []) (fo H q0 [sI c]):=by
 rw[jl] at hm;have i:=eJ d;have j:=eJ f;refine fb.Gl d ?_;have e:=Aj (Aj (Aj (Aj i j) f) h) h.symm;refine wi an' func313 [] [(1,true,[true,true,true,true,true,true,true,false])] 999 ?_;have m:=hm;exact aa
@[instance] def Od:=@Kc.mk prog 313 _ @si
def Ek:C1 prog 264 mQ sB sI:=by
 refine u1 2 func264 λT H a0 r m e=>?_;rw[mQ] at m;simp[e];refine wB 999 999 [] [] (λf=>f.1 2=sB (e_ (qn a0 4) (UD a0 7) false)) λ_ g=>?_;rcases Pb (qn a0 4) e with e|e
 ·exact aj
 exact aj
@[instance] def Uh:=@Kc.mk prog 264 _ @Ek
def EL(T:eA):∀(n:Nat),(∀{S:Type} {st:S->dS} {k:Nat} {a0:Fm} {j:Int} {a2:(S->Tm->Int->Option (S))} {vR:S} {zl:S} {g2:Nat} {a:List AV} (hF:Db st k) (b:DW T g2 a st a2) (hm:l7 n a0 j a2 vR=some zl),et prog T 312 [Fm.av a0,sI j,AV.func (.func g2) [] a] (st vR) (AV.tuple []) (st zl)):=by
  intro n
  induction n with
  |zero=>
    skip
    all_goals(intro _ _;intros;rename_i hm;cases hm)
  |succ n ih=>
 intro S st k a0 j a2 vR zl g2 a hF b hm;rw[l7] at hm;have e:=hF.len;refine wi an' func312 [] [] 999 ?_;simp[e];refine Re e hm 0 (λl s2 f h=>h=st s2/\f.1 1=sI j/\f.1 2=AV.func (.func g2) [] a/\f.1 11=sL Tm.av a0.ea/\f.1 12=sI (ey a0.ea)/\f.1 13=sI l/\bx f 3 (Fm.av a0).cells) VW (λl _ s2 _ _ _ _ _ E e m z p=>?_) (λs2 _ _ _ E m=>?_)
 ·have e:=Aj e E;refine sg 999 [8,0] ?_;intro o e m;refine kB.FL YQ (DW.at0 b e.2) ?_;exact al
 have e:=Aj e E;refine sg 5 [11,0] ?_;intro e m;refine WA m 999 999 [] [] (λc f=>f.1 1=sI c/\f.1 2=AV.func (.func g2) [] a/\f.1 3=AV.gX 3 (f.gen 3) 0/\f.box 3=some (Fm.av a0).cells) [0] (λq _ g m=>?_) ?_
 ·refine sw [0,1] ?_;intro _ e m;apply Ir e m<;>intro e m
  ·exact iC
  exact iC
 intro _ c e m;refine Wr e m 999 (λi d f h=>h=st d/\f.1 1=sI c/\f.1 2=AV.func (.func g2) [] a/\f.1 28=sL Fm.av a0.an7/\f.1 29=sI (ey a0.an7)/\f.1 30=sI i) VW (λd _ _ _ E m=>?_) (λi _ d _ _ _ _ _ E e m z p=>?_)
 ·exact aa
 have e:=Aj e E;simp[e];refine zq m (ih hF b) λ_ m=>?_;exact al
def y9(T:eA){S:Type}{st:S->dS}{k:Nat}{a0:Fm}{c:Int}{a2:(S->Tm->Int->Option (S))}{vR zl:S}{g2:Nat}{a:List AV}(hF:Db st k)(b:DW T g2 a st a2){n:Nat}(hm:l7 n a0 c a2 vR=some zl):et prog T 312 [Fm.av a0,sI c,AV.func (.func g2) [] a] (st vR) (AV.tuple []) (st zl):=(EL T n) hF b hm
@[instance] def Xa:=@Kc.mk prog 312 _ @y9
def qh(T:eA){H:dS}{a0:Fm}{a b:Int}(hm:ka a0 a=some b):et prog T 291 [Fm.av a0,sI a] H (sI b) H:=by
 rw[ka] at hm;refine fb.rm (Post:=λx K=>x=sI b/\∃X,K=H++X) ?_ (λ_ _ h=>⟨_,h.2.choose_spec,by rw[h.1];simp[AV.low,AV.ir],h.1,rfl⟩);have e:=trivial;refine wi an' func291 [3,5] [] 999 ?_;simp[e];refine zq hm (y9 T (st:=λs:Int=>H++[[sI a],[sI s]]) (Db.Xt H (λs:Int=>[[sI a],[sI s]]) 2 (λ_=>rfl) (by simp[AV.low,AV.ir])) (λX s _ _ c h=>by have:=si T (H:=H++[[sI a],[sI s]]++X) (q0:=(List.length H+1)) (q1:=(List.length H)) VW VW VW h;simpa using this)) λ_ m=>?_;exact au
@[instance] def Rn:=@Kc.mk prog 291 _ @qh
def Tt:C1 prog 262 jx Tm.av sI:=by
 refine v1 func262 λT H a0 r m e=>?_;rw[jx] at m;exact au
@[instance] def afi:=@Kc.mk prog 262 _ @Tt
def B3(T:eA){H:dS}{a0 i a b:Int}{l:Tm}{q0 q1:Nat}(c:H[q0]?=some [sI a])(d:H[q1]?=some [sI b])(hm:tn a0 i a b=some l):et prog T 318 [sI a0,sI i,AV.eK q0 0,AV.eK q1 0] H (Tm.av l) H:=by
 rw[tn] at hm;have j:=eJ c;have k:=eJ d;have e:=Aj (Aj (Aj j c) k) d;refine wi an' func318 [] [] 2 ?_;simp[e];refine wjs 999 999 (λf h=>h=H/\f.1 0=sI (e_ (qn (fH .i64 a0 i) a) (eL .i64 a0 b) a0)/\f.1 6=AV.gX 6 (f.gen 6) 0/\f.box 6=some [sI 0,sI 0,sI 0,nL,nL]) ?_ (λ_ g=>?_)
 ·rintro _ _ E;have m:=hm;exact aa
 rcases Pb (qn (fH .i64 a0 i) a) e with e|e
 ·exact aj
 exact aj
@[instance] def abc:=@Kc.mk prog 318 _ @B3
def D2(T:eA):∀(n:Nat),(∀{S:Type} {st:S->dS} {k:Nat} {a0:Tm} {l:Int} {o:(S->Int->Int->Option (Tm×S))} {vR:S} {v:Tm} {zl:S} {q0:Nat} {q1:Nat} {q:Nat} {r:List AV} (hF:Db st k) (d:∀s,(st s)[q0]?=some [AV.func (.func q) [] r]) (b:s8 T q r st o) (i:∀s,(st s)[q1]?=some [AV.func (.func 334) [] [AV.eK q0 0,AV.eK q1 0]]) (hm:hQ n a0 l o vR=some (v,zl)),et prog T 334 [Tm.av a0,sI l,AV.eK q0 0,AV.eK q1 0] (st vR) (Tm.av v) (st zl)):=by
  intro n
  induction n with
  |zero=>
    skip
    all_goals(intro _ _;intros;rename_i hm;cases hm)
  |succ n ih=>
 intro S st k a0 l o vR v zl q0 q1 q r hF d b i hm;rw[hQ] at hm;have w:=λs=>eJ (d s);have x:=λs=>eJ (i s);have e:=Aj (Aj (Aj (Aj hF.len w) d) x) i;refine wi an' func334 [] [(9,false,[true,true,false,true,true,true,true,true,true,true])] 5 ?_;simp[e];apply Iq e hm<;>intro e m
 ·apply wg 999;have⟨F,G,e,m⟩:=Bo2 e m;simp[e];refine kB.FL YQ (s8.at0 b e.2) ?_;exact au
 refine sg 4 [0,4,0] ?_;intro B e m;refine wA 999 999 [] [4,6,7] (λf=>f.1 1=sI (e_ (ee a0.an6 2) (eL .i64 l 1) l)/\f.1 3=AV.eK q1 0) [0] (λ_ g=>?_) ?_
 ·rcases Pb (ee a0.an6 2) e with e|e
  ·exact aj
  exact aj
 intro _ e m;refine Wr e m 999 (λC t f h=>∃a,(h=st t.2/\f.1 1=sI (e_ (ee a0.an6 2) (eL .i64 l 1) l)/\f.1 3=AV.eK q1 0/\f.1 32=sL Tm.av a0.an7/\f.1 33=sI (ey a0.an7)/\f.1 34=sI C/\bx f 6 [sI 0,sI 0,sI 0,nL,nL]/\bx f 7 [sI a0.an6,sI a0.an9,sI B.an6,sL Ty.av B.an7,sT a Tm.av t.1])/\Ow f [45] a t.1) (by exact⟨.full,VW,gL.full⟩) (λt j _ _ E m=>?_) (λC _ t j _ _ _ _ E e m z p=>?_)
 ·have⟨u,y⟩:=t;have⟨a,E,c⟩:=E;have e:=Aj e E;dsimp only[eo,lk]at m;exact au
 have⟨u,y⟩:=t;have⟨a,E,c⟩:=E;have e:=Aj e E;dsimp only[lk]at m;have⟨A,D,e,m⟩:=Bo2 e m;simp[e];refine gM.FL YQ (ih hF d b i e.2) LA ?_;refine sw [9,0] ?_;intro e m;refine Ad (f:=Tm.av) u [A] c xS e.2 ?_;simp[e];cases m;exact p _ _ _ ⟨(.loc 45 (j.fa 45+1)),VW,(On 45)⟩ z
def xn(T:eA){S:Type}{st:S->dS}{k:Nat}{a0:Tm}{i:Int}{a:(S->Int->Int->Option (Tm×S))}{vR:S}{j:Tm}{zl:S}{q0 q1 b:Nat}{c:List AV}(hF:Db st k)(f:∀s,(st s)[q0]?=some [AV.func (.func b) [] c])(d:s8 T b c st a)(h:∀s,(st s)[q1]?=some [AV.func (.func 334) [] [AV.eK q0 0,AV.eK q1 0]]){n:Nat}(hm:hQ n a0 i a vR=some (j,zl)):et prog T 334 [Tm.av a0,sI i,AV.eK q0 0,AV.eK q1 0] (st vR) (Tm.av j) (st zl):=(D2 T n) hF f d h hm
@[instance] def VE:=@Kc.mk prog 334 _ @xn
def uW(T:eA){S:Type}{st:S->dS}{k:Nat}{a0:Tm}{d:(S->Int->Int->Option (Tm×S))}{vR:S}{b:Tm}{zl:S}{g1:Nat}{a:List AV}(hF:Db st k)(c:s8 T g1 a st d)(hm:p0 a0 d vR=some (b,zl)):et prog T 317 [Tm.av a0,AV.func (.func g1) [] a] (st vR) (Tm.av b) (st zl):=by
 rw[p0] at hm;refine fb.aeH hF (Post:=λx K=>x=Tm.av b/\∃X,K=(st zl)++X) ?_ (λ_ _ h=>⟨_,h.2.choose,h.2.choose_spec,by rw[h.1];simp[AV.low,AV.ir],h.1,rfl⟩);have e:=hF.len;refine wi an' func317 [3,5] [] 999 ?_;have⟨f,s2,e,m⟩:=Bo2 e hm;simp[e];refine kB.FL YQ (xn T (st:=λs=>st s++[[AV.func (.func g1) [] a],[AV.func (.func 334) [] [AV.eK k 0,AV.eK (k+1) 0]]]) (Db.ext hF _ (n:=k+2) LA) (λ_=>VW) (s8.ext c) (λ_=>VW) e.2) ?_;exact au
@[instance] def Xj:=@Kc.mk prog 317 _ @uW
def QI(T:eA){H:dS}{a0:Tm}{a a2:Int}{b:Tm}(hm:sR a0 a a2=some b):et prog T 296 [Tm.av a0,sI a,sI a2] H (Tm.av b) H:=by
 rw[sR] at hm;refine fb.rm (Post:=λx K=>x=Tm.av b/\∃X,K=H++X) ?_ (λ_ _ h=>⟨_,h.2.choose_spec,by rw[h.1];simp[AV.low,AV.ir],h.1,rfl⟩);have e:=trivial;refine wi an' func296 [4,5] [] 999 ?_;simp[e];refine zp hm (uW T (st:=λ_:Unit=>H++[[sI a],[sI a2]]) (Db.const _) (λX _ _ _ _ _ h=>by obtain⟨c,rfl⟩:=uZ h;exact B3 T (q0:=(List.length H)) (q1:=(List.length H+1)) VW VW c)) λ_ _ m=>?_;exact au
@[instance] def ae5:=@Kc.mk prog 296 _ @QI
def D3(T:eA){H:dS}{a0 i b:Int}{a j:Tm}{q0 q1:Nat}(c:H[q0]?=some [sI b])(d:H[q1]?=some [sI a.an6,sI a.an9,sI a.dL.an6,sL Ty.av a.dL.an7,sL Tm.av a.an7])(hm:oh a0 i b a=some j):et prog T 333 [sI a0,sI i,AV.eK q0 0,AV.eK q1 0] H (Tm.av j) H:=by
 rw[oh] at hm;have f:=eJ c;have h:=eJ d;have e:=Aj (Aj (Aj f c) h) d;refine wi an' func333 [] [] 999 ?_;have m:=hm;exact aa
@[instance] def ab_:=@Kc.mk prog 333 _ @D3
def SU(T:eA){H:dS}{a0:Tm}{a:Int}{a2 b:Tm}(hm:Ab a0 a a2=some b):et prog T 316 [Tm.av a0,sI a,Tm.av a2] H (Tm.av b) H:=by
 rw[Ab] at hm;refine fb.rm (Post:=λx K=>x=Tm.av b/\∃X,K=H++X) ?_ (λ_ _ h=>⟨_,h.2.choose_spec,by rw[h.1];simp[AV.low,AV.ir],h.1,rfl⟩);have e:=trivial;refine wi an' func316 [4,5] [] 999 ?_;simp[e];refine zp hm (uW T (st:=λ_:Unit=>H++[[sI a],[sI a2.an6,sI a2.an9,sI a2.dL.an6,sL Ty.av a2.dL.an7,sL Tm.av a2.an7]]) (Db.const _) (λX _ _ _ _ _ h=>by obtain⟨c,rfl⟩:=uZ h;exact D3 T (q0:=(List.length H)) (q1:=(List.length H+1)) VW VW c)) λ_ _ m=>?_;exact au
@[instance] def agV:=@Kc.mk prog 316 _ @SU
def uj(T:eA){H:dS}{a0:Tm}{i b:Int}{a j:Tm}{q0 q1:Nat}(c:H[q0]?=some [sI b])(d:H[q1]?=some [sI a.an6,sI a.an9,sI a.dL.an6,sL Ty.av a.dL.an7,sL Tm.av a.an7])(hm:iW a0 i b a=some j):et prog T 315 [Tm.av a0,sI i,AV.eK q0 0,AV.eK q1 0] H (Tm.av j) H:=by
 rw[iW] at hm;have f:=eJ c;have h:=eJ d;have e:=Aj (Aj (Aj f c) h) d;refine wi an' func315 [] [] 999 ?_;have m:=hm;exact aa
@[instance] def Rk:=@Kc.mk prog 315 _ @uj
def yM(T:eA):∀(n:Nat),(∀{S:Type} {st:S->dS} {k:Nat} {a0:Fm} {w:Int} {a2:(S->Tm->Int->Option (Tm×S))} {vR:S} {F:Fm} {zl:S} {g2:Nat} {i:List AV} (hF:Db st k) (t:Ej T g2 i st a2) (hm:fk n a0 w a2 vR=some (F,zl)),et prog T 190 [Fm.av a0,sI w,AV.func (.func g2) [] i] (st vR) (Fm.av F) (st zl)):=by
  intro n
  induction n with
  |zero=>
    skip
    all_goals(intro _ _;intros;rename_i hm;cases hm)
  |succ n ih=>
 intro S st k a0 w a2 vR F zl g2 i hF t hm;rw[fk] at hm;have e:=hF.len;refine wi an' func190 [] [] 999 ?_;have m:=hm;refine sw [0,4,0] ?_;intro x e m;refine Re e m 0 (λJ u f h=>∃b,(h=st u.2/\f.1 1=sI w/\f.1 2=AV.func (.func g2) [] i/\f.1 19=sL Tm.av a0.ea/\f.1 20=sI (ey a0.ea)/\f.1 21=sI J/\bx f 3 (Fm.av a0).cells/\bx f 6 [sI 0,sI 0,nL,nL,nL]/\bx f 7 [sI a0.an6,sI x.an6,sL Ty.av x.an7,sT b Tm.av u.1,nL])/\Ow f [32] b u.1) (by exact⟨.full,VW,gL.full⟩) (λJ _ u y _ _ _ _ E e m z p=>?_) (λu y _ _ E m=>?_)
 ·have⟨v12,A⟩:=u;have⟨b,E,o⟩:=E;have e:=Aj e E;dsimp only[lk]at m;apply wg 999;have⟨G,K,e,m⟩:=Bo2 e m;simp[e];refine gM.FL YQ (Ej.at0 t e.2) LA ?_;refine sw [9,0] ?_;intro e m;refine Ad (f:=Tm.av) v12 [G] o xS e.2 ?_;simp[e];cases m;exact p _ _ _ ⟨(.loc 32 (y.fa 32+1)),VW,(On 32)⟩ z
 have⟨v12,A⟩:=u;have⟨b,E,o⟩:=E;have e:=Aj e E;apply wg 5;dsimp only[eo,lk]at m;simp[e];refine Wj m 999 999 (λB f h=>∃r c,(h=st A/\f.1 1=sI r/\f.1 2=AV.func (.func g2) [] i/\bx f 3 (Fm.av a0).cells/\bx f 6 [sI 0,sI 0,nL,nL,nL]/\bx f 7 [sI a0.an6,sI x.an6,sL Ty.av x.an7,sT c Tm.av v12,nL])/\Ow f [32] c v12/\B r=some (F,zl)) (λB _ g m=>?_) ?_
 ·refine sw [0,1] ?_;intro _ e m;apply Ir e m<;>intro e m
  ·simp[e];exact g _ _ ⟨w,b,VW,o,m⟩
  simp[e];exact g _ _ ⟨(eL .i64 w 1),b,VW,o,m⟩
 rintro _ _ ⟨r,c,E,v,m⟩;have e:=Aj e E;simp[e];refine Wr e m 999 (λC j f h=>∃a d,(h=st j.2/\f.1 1=sI r/\f.1 2=AV.func (.func g2) [] i/\f.1 41=sL Fm.av a0.an7/\f.1 42=sI (ey a0.an7)/\f.1 43=sI C/\bx f 6 [sI 0,sI 0,nL,nL,nL]/\bx f 7 [sI a0.an6,sI x.an6,sL Ty.av x.an7,sT a Tm.av v12,sT d Fm.av j.1])/\Ow f [32] a v12/\Ow f [54] d j.1) (by exact⟨c,.full,VW,v,gL.full⟩) (λj s _ _ E m=>?_) (λC _ j s _ _ _ _ E e m z p=>?_)
 ·have⟨D,H⟩:=j;have⟨a,d,E,q,l⟩:=E;have e:=Aj e E;dsimp only[eo,lk]at m;exact au
 have⟨D,H⟩:=j;have⟨a,d,E,q,l⟩:=E;have e:=Aj e E;dsimp only[lk]at m;simp[e];refine o4 m (ih hF t) λI _ m=>?_;refine sw [9,0] ?_;intro e m;refine Ad (f:=Fm.av) D [I] l KT e.2 ?_;simp[e];cases m;exact p _ _ _ ⟨a,(.loc 54 (s.fa 54+1)),VW,(gL.other q l Df Df),(On 54)⟩ z
def kI(T:eA){S:Type}{st:S->dS}{k:Nat}{a0:Fm}{c:Int}{a2:(S->Tm->Int->Option (Tm×S))}{vR:S}{d:Fm}{zl:S}{g2:Nat}{a:List AV}(hF:Db st k)(b:Ej T g2 a st a2){n:Nat}(hm:fk n a0 c a2 vR=some (d,zl)):et prog T 190 [Fm.av a0,sI c,AV.func (.func g2) [] a] (st vR) (Fm.av d) (st zl):=(yM T n) hF b hm
@[instance] def Ol:=@Kc.mk prog 190 _ @kI
def r7(T:eA){H:dS}{a0:Fm}{a:Int}{a2:Tm}{b:Fm}(hm:lC a0 a a2=some b):et prog T 292 [Fm.av a0,sI a,Tm.av a2] H (Fm.av b) H:=by
 rw[lC] at hm;refine fb.rm (Post:=λx K=>x=Fm.av b/\∃X,K=H++X) ?_ (λ_ _ h=>⟨_,h.2.choose_spec,by rw[h.1];simp[AV.low,AV.ir],h.1,rfl⟩);have e:=trivial;refine wi an' func292 [4,5] [] 999 ?_;simp[e];refine zp hm (kI T (st:=λ_:Unit=>H++[[sI a],[sI a2.an6,sI a2.an9,sI a2.dL.an6,sL Ty.av a2.dL.an7,sL Tm.av a2.an7]]) (Db.const _) (λX _ _ _ _ _ h=>by obtain⟨c,rfl⟩:=uZ h;exact uj T (q0:=(List.length H)) (q1:=(List.length H+1)) VW VW c)) λ_ _ m=>?_;exact au
@[instance] def UU:=@Kc.mk prog 292 _ @r7
def uw(T:eA)(d:k5 T){H:dS}{a0:Fm}{a:Tm}{b:Fm}{c:Int}(hm:oi a0 a=some (b,c)):et prog T 249 [Fm.av a0,Tm.av a] H (AV.tuple [Fm.av b,sI c]) H:=by
 rw[oi] at hm;have e:=d;refine wi an' func249 [] [] 999 ?_;have m:=hm;exact aa
@[instance] def abv:=@Kc.mk prog 249 _ @uw
def GJ{n:Nat}:C2 prog 298 (jc n) sB Tm.av Tm.av:=by
 refine i2 λn ih=>u2 3 func298 λT H a0 a r m e=>?_;rw[jc] at m;simp[e];refine WA m 999 999 [] [2,3] (λv2 f=>f.1 35=sB v2) [7,0] (λb _ g m=>?_) ?_
 ·apply Iq e m<;>intro e m
  ·exact iC
  apply Iq e m<;>intro e m
  ·exact iC
  refine sw [0,1] ?_;intro _ e m;apply Ir e m<;>intro e m
  ·exact iC
  exact iC
 intro _ v2 e m;exact Wb e m 999 39 [37,38] [3] nI
@[instance] def Xg:=@Kc.mk prog 298 _ @GJ
def Nx:C2 prog 265 qQ sB Tm.av Tm.av:=by
 refine v2 func265 λT H a0 a r m e=>?_;rw[qQ] at m;exact aa
@[instance] def acO:=@Kc.mk prog 265 _ @Nx
def G8(T:eA){H:dS}{a0:Tm}{a:Int}{b:Tm}{c d:Int}(hm:td a0 a=some (b,c,d)):et prog T 266 [Tm.av a0,sI a] H (AV.tuple [Tm.av b,sI c,sI d]) H:=by cases hm
@[instance] def WT:=@Kc.mk prog 266 _ @G8
def HJ(T:eA)(c:k5 T){H:dS}{a0 a:Tm}{a2 b:Int}(hm:pY a0 a a2=some b):et prog T 194 [Tm.av a0,Tm.av a,sI a2] H (sI b) H:=by
 rw[pY] at hm;have e:=c;refine wi an' func194 [] [] 999 ?_;have m:=hm;exact aa
@[instance] def Yq:=@Kc.mk prog 194 _ @HJ
def E0(T:eA)(c:k5 T):∀(n:Nat),(∀{H:dS} {a0:Fm} {a:Fm} {b:Int} (hm:l' n a0 a=some b),et prog T 142 [Fm.av a0,Fm.av a] H (sI b) H):=by
  intro n
  induction n with
  |zero=>
    skip
    all_goals(intro _ _;intros;rename_i hm;cases hm)
  |succ n ih=>
 intro H a0 a b hm;rw[l'] at hm;have e:=c;refine wi an' func142 [] [] 3 ?_;simp[e];refine WA hm 999 999 [] [2,3] (λv2 f=>f.1 23=sB v2) [7,0] (λd _ g m=>?_) ?_
 ·apply Iq e m<;>intro e m
  ·exact iC
  refine sw [0,1] ?_;intro _ e m;exact iC
 intro _ v2 e m;refine Wa e m 999 27 [25,26] [2,3] nI [11,0] ?_;intro _ _ e m;exact Wb e m 999 46 [44,45] [3] nI
def GH(T:eA)(c:k5 T){H:dS}{a0 a:Fm}{b:Int}{n:Nat}(hm:l' n a0 a=some b):et prog T 142 [Fm.av a0,Fm.av a] H (sI b) H:=(E0 T c n) hm
@[instance] def Xf:=@Kc.mk prog 142 _ @GH
def yZ(T:eA)(c:k5 T){H:dS}{a0 a:Fm}{b:Int}(hm:l9 a0 a=some b):et prog T 102 [Fm.av a0,Fm.av a] H (sI b) H:=by
 rw[l9] at hm;have e:=c;refine wi an' func102 [] [] 999 ?_;have m:=hm;exact aa
@[instance] def Xc:=@Kc.mk prog 102 _ @yZ
def G1:C2 prog 258 qz Fm.av Tm.av Tm.av:=by
 refine v2 func258 λT H a0 a r m e=>?_;rw[qz] at m;have e:=Aj e (show AV.agg [sI 1,sI 0,AV.slice .gx [],AV.slice .gx [Tm.av a0,Tm.av a],AV.slice .gx []]=Fm.av (Fm.mk 1 (Ty.mk 0 []) [a0,a] []) by rw[Fm.eQ];rfl);exact au
@[instance] def WQ:=@Kc.mk prog 258 _ @G1
def sh(T:eA){H:dS}{a0:List Fm}{b:Pf}{a2:dP}{c:dH}{d:Int}{f:Nat}(a:KC H f a0)(hm:kn a0 b a2=some (c,d)):et prog T 185 [AV.eK f 0,Pf.av b,dP.av a2] H (AV.tuple [dH.av c,sI d]) H:=by
 rw[kn] at hm;have e:=a;refine wi an' func185 [] [] 999 ?_;have m:=hm;exact aa
@[instance] def N_:=@Kc.mk prog 185 _ @sh
def JY:C1 prog 335 tP (t2 sI sI) sB:=by
 refine v1 func335 λT H a0 r m e=>?_;rw[tP] at m;exact aa
@[instance] def aa_:=@Kc.mk prog 335 _ @JY
def Vj:C2 prog 294 qL Tm.av sI (sL Tm.av):=by
 refine v2 func294 λT H a0 a r m e=>?_;rw[qL] at m;exact au
@[instance] def aiv:=@Kc.mk prog 294 _ @Vj
def RE:C2 prog 352 vV Tm.av Tm.av (sL Ty.av):=by
 refine v2 func352 λT H a0 b r m e=>?_;rw[vV] at m;simp[e];refine Wn m 999 (λs1 f h=>∃a,h=H/\f.1 1=sL Ty.av b/\f.1 5=sI s1.1/\bx f 2 [sI s1.2.1,sI s1.2.2.1,sI s1.2.2.2.1,sL Ty.av s1.2.2.2.2.1,sT a Tm.av s1.2.2.2.2.2]/\bx f 4 [sI 0,sI 0,sI 0,nL,nL]) ⟨.gx,VW⟩ (λs1 _ _ _ _ _ E m z p=>?_);have⟨v9,v10,v11,v12,c,d⟩:=s1;have⟨a,E⟩:=E;have e:=Aj e E;dsimp only[Au]at m;apply Ir e m<;>intro e m
 ·cases m;have m:=Qb z;dsimp only[Au]at m;exact au
 refine sw [8,0] ?_;intro i e m;cases m;exact p _ _ _ ⟨.full,VW⟩ z
@[instance] def ahL:=@Kc.mk prog 352 _ @RE
def S8:C5 prog 353 Av Tm.av sI Ty.av Tm.av Tm.av Tm.av:=by
 refine v5 func353 λT H a0 a a2 a3 a4 r m e=>?_;rw[Av] at m;have e:=Aj e (show AV.agg [sI a0,sI 0,sI a.an6,sL Ty.av a.an7,AV.slice .gx [Tm.av a2,Tm.av a3,Tm.av a4]]=Tm.av (Tm.mk a0 0 a [a2,a3,a4]) by rw[Tm.eQ];rfl);exact au
@[instance] def af2:=@Kc.mk prog 353 _ @S8
def D_:C3 prog 348 mN Tm.av Tm.av Tm.av Tm.av:=by
 refine v3 func348 λT H a0 a a2 r m e=>?_;rw[mN] at m;exact aa
@[instance] def Uu:=@Kc.mk prog 348 _ @D_
def MT:C0 prog 349 vZ Tm.av:=by
 refine v0 func349 λT H r m e=>?_;rw[vZ] at m;exact aa
@[instance] def acL:=@Kc.mk prog 349 _ @MT
def RS:C2 prog 261 vh Tm.av Tm.av (sL Tm.av):=by
 refine v2 func261 λT H a0 d r m e=>?_;rw[vh] at m;simp[e];refine Wr e m 999 (λi s2 f h=>h=H/\f.1 7=sL Tm.av d/\f.1 8=sI (ey d)/\f.1 9=sI i/\bx f 2 [sI s2.1,sI s2.2.1,sI s2.2.2.1,sL Ty.av s2.2.2.2.1,sL Tm.av s2.2.2.2.2]/\bx f 4 [sI 0,sI 0,sI 0,nL,nL]) VW (λs2 _ _ _ E m=>?_) (λi _ s2 _ _ _ _ _ E e m z p=>?_)
 ·have⟨v11,v12,a,b,c⟩:=s2;have e:=Aj e E;dsimp only[eo,Cg]at m;exact au
 have⟨v11,v12,a,b,c⟩:=s2;have e:=Aj e E;dsimp only[Cg]at m;exact aa
@[instance] def afu:=@Kc.mk prog 261 _ @RS
def P_:C1 prog 347 A9 Tm.av Tm.av:=by
 refine v1 func347 λT H a0 r m e=>?_;rw[A9] at m;exact aa
@[instance] def aeI:=@Kc.mk prog 347 _ @P_
def QZ:C0 prog 343 xl Tm.av:=by
 refine v0 func343 λT H r m e=>?_;rw[xl] at m;exact aa
@[instance] def aeo:=@Kc.mk prog 343 _ @QZ
def MN:C2 prog 337 vM Fm.av Tm.av Tm.av:=by
 refine v2 func337 λT H a0 a r m e=>?_;rw[vM] at m;exact aa
@[instance] def adx:=@Kc.mk prog 337 _ @MN
def Cr{n:Nat}:C2 prog 336 (kN n) sB Fm.av Fm.av:=by
 refine i2 λn ih=>u2 3 func336 λT H a0 a r m e=>?_;rw[kN] at m;simp[e];refine WA m 999 999 [] [2,3] (λv2 f=>f.1 39=sB v2) [7,0] (λb _ g m=>?_) ?_
 ·apply Iq e m<;>intro e m
  ·exact iC
  refine sw [0,1] ?_;intro _ e m;apply Ir e m<;>intro e m
  ·exact iC
  apply Iq e m<;>intro e m
  ·exact iC
  exact iC
 intro _ v2 e m;refine Wa e m 999 43 [41,42] [2,3] nI [11,0] ?_;intro _ _ e m;exact Wb e m 999 60 [58,59] [3] nI
@[instance] def SN:=@Kc.mk prog 336 _ @Cr
def BU(T:eA){H:dS}{a0:Fm}{b:Bool}{c:Tm}{d:Fm}{h:Bool}(hm:tH a0=some (b,c,d,h)):et prog T 319 [Fm.av a0] H (AV.tuple [sB b,Tm.av c,Fm.av d,sB h]) H:=by
 rw[tH] at hm;have e:=trivial;refine wi an' func319 [] [] 7 ?_;have m:=hm;refine sw [0,2,0] ?_;intro _ _ e m;refine WA m 999 0 [6] [1,3,4] (λv4 f=>f.1 48=sB v4) [13] (λo _ g m=>?_) ?_
 ·apply Iq e m<;>intro e m
  ·exact iC
  apply Iq e m<;>intro e m
  ·exact iC
  have⟨q,e,m⟩:=iR e m;apply Iq e m<;>intro e m
  ·exact iC
  have⟨r,e,m⟩:=iR e m;exact iC
 intro _ v4 e m;refine sg 7 [8,8,8,0] ?_;intro i j k e m;refine WB m 999 999 [6] [1,3,4,10] (λa f=>f.1 83=sB a) λl _ g m=>?_;apply Iq e m<;>intro e m
 ·exact iC
 refine sw [8,0,4] ?_;intro n _ e m;apply Iq e m<;>intro e m
 ·exact iC
 refine sw [0,4,0,4,0,4] ?_;intro _ _ _ e m;exact iC
@[instance] def aan:=@Kc.mk prog 319 _ @BU
def OW:∀(n:Nat),C1 prog 297 (nk n) (λn=>AV.sc (Value.int .u8 n)) Fm.av:=by
  intro n
  induction n with
  |zero=>
    skip
    all_goals(intro _ _;intros;rename_i hm;cases hm)
  |succ n ih=>
 intro T H a0 r hm;rw[nk] at hm;have e:=trivial;refine wi an' func297 [] [] 5 ?_;have m:=hm;refine sw [0,13] ?_;intro e m;refine sg 4 [8,0,15,0] ?_;intro o b e m;refine yC m 3 2 (λc f h=>∃v4,(h=H/\f.1 3=AV.sc (.int .u8 v4)/\bx f 1 (Fm.av a0).cells)/\c v4=some r) ?_ (λc _ g m=>?_)
 ·rintro _ _ ⟨v4,E,m⟩;have e:=Aj e E;simp[e];refine WB m 999 999 [] [] (λv9 f=>f.1 6=AV.sc (.int .u8 v9)) λq _ g m=>?_;have⟨d,i,j,k,e,m⟩:=Bo4 e m;simp[e];refine Cf (BU T e.2) ?_;apply Ir e m<;>intro e m
  ·exact iC
  refine sw [0,15] ?_;intro _ e m;exact iC
 simp[e];refine wA 999 0 [3,24] [1] (λf=>f.1 25=sB (e_ (ee a0.an6 2) true (ee a0.an6 3))) [] (λ_ g=>?_) ?_
 ·rcases Pb (ee a0.an6 2) e with e|e
  ·exact aj
  exact aj
 intro _ e m;apply Ir e m<;>intro e m
 ·apply wg 999;apply Ir e m<;>intro e m
  ·exact iC
  exact iC
 refine sg 5 [8,0,15,0] ?_;intro l a e m;refine wB 2 999 [5] [] (λf=>f.1 3=AV.sc (.int .u8 (e_ (ee a0.an6 2) (Fl .u8 b a) b))) λ_ g=>?_;simp[e];rcases Pb (ee a0.an6 2) e with e|e
 ·exact aa
 exact aa
def Ry{n:Nat}:C1 prog 297 (nk n) (λn=>AV.sc (Value.int .u8 n)) Fm.av:=(OW n)
@[instance] def ahs:=@Kc.mk prog 297 _ @Ry
def OA(T:eA)(d:k5 T){H:dS}{a0:Fm}{a:Int}{b:Bool}{c:Int}(hm:A0 a0 a=some (b,c)):et prog T 263 [Fm.av a0,AV.sc (.int .u8 a)] H (AV.tuple [sB b,sI c]) H:=by
 rw[A0] at hm;have e:=d;refine wi an' func263 [] [] 999 ?_;have m:=hm;exact aa
@[instance] def aeK:=@Kc.mk prog 263 _ @OA
def GN(T:eA)(c:k5 T){H:dS}{a0:Fm}{a:Bool}{b:Int}(hm:qo a0=some (a,b)):et prog T 188 [Fm.av a0] H (AV.tuple [sB a,sI b]) H:=by
 rw[qo] at hm;have e:=c;refine wi an' func188 [] [] 999 ?_;have m:=hm;exact aa
@[instance] def Xh:=@Kc.mk prog 188 _ @GN
def ly(T:eA)(l:k5 T):∀(n:Nat),(∀{H:dS} {a0:List Fm} {b:Pf} {a2:dP} {d:dH} {h:Int} {c:Nat} (a:KC H c a0) (hm:fj n a0 b a2=some (d,h)),et prog T 138 [AV.eK c 0,Pf.av b,dP.av a2] H (AV.tuple [dH.av d,sI h]) H)/\(∀{H:dS} {a0:List Fm} {b:Pf} {a2:dP} {d:dH} {h:Int} {c:Nat} (a:KC H c a0) (hm:kp n a0 b a2=some (d,h)),et prog T 180 [AV.eK c 0,Pf.av b,dP.av a2] H (AV.tuple [dH.av d,sI h]) H)/\(∀{H:dS} {a0:List Fm} {b:Pf} {a2:dP} {d:dH} {h:Int} {c:Nat} (a:KC H c a0) (hm:jO n a0 b a2=some (d,h)),et prog T 182 [AV.eK c 0,Pf.av b,dP.av a2] H (AV.tuple [dH.av d,sI h]) H)/\(∀{H:dS} {a0:List Fm} {b:Pf} {a2:dP} {a3:Fm} {a4:Tm} {d:dH} {h:Int} {c:Nat} (a:KC H c a0) (hm:gv n a0 b a2 a3 a4=some (d,h)),et prog T 251 [AV.eK c 0,Pf.av b,dP.av a2,Fm.av a3,Tm.av a4] H (AV.tuple [dH.av d,sI h]) H):=by
  intro n
  induction n with
  |zero=>
    refine⟨?_,?_,?_,?_⟩
    all_goals(intro _ _;intros;rename_i hm;cases hm)
  |succ n ih=>
 refine⟨?_,?_,?_,?_⟩
 ·intro H a0 b a2 d h c a hm;rw[fj] at hm;have e:=Aj l a;refine wi an' func138 [] [(1,true,[])] 7 ?_;have o:uC prog H 158 (AV.nH (c-1)) (sI b.an6) false=some (Mc b.an6):=R3 a.2;have e:=Aj e o;have⟨j,q,e,m⟩:=Bo2 e hm;simp[e];refine gM.val (r:=AV.tuple [dH.av j,sI q]) (H':=H) ?_ LA ?_
  ·have i:=e.2;rcases ahF (ee b.an6 8=true)with hk|hk
   ·rw[dO hk] at i;rw[E2 hk YQ];exact SD (ih.2.1 a i)
   rw[dI hk] at i;rcases ahF (ee b.an6 10=true)with hk|hk
   ·rw[dO hk] at i;rw[E2 hk YQ];exact SD (ih.2.2.1 a i)
   rw[dI hk] at i;rcases ahF (ee b.an6 18=true)with hk|hk
   ·rw[dO hk] at i;rw[E2 hk YQ];exact SD (sh T a i)
   rw[dI hk] at i;cases i
  refine sw [0,13] ?_;intro e m;refine sg 5 [0,1,0,13] ?_;intro _ e m;apply wg 2;simp[e];refine WB m 999 999 [] [6] (λs f=>bx f 8 [sI j.dT.an6,sI j.dT.dL.an6,sL Ty.av j.dT.dL.an7,sL Tm.av j.dT.ea,sL Fm.av j.dT.an7,AV.sc (.int .u32 s)]) λC _ g m=>?_;refine sw [0,2] ?_;intro _ _ e m;apply Ir e m<;>intro e m
  ·exact iC
  exact iC
 ·intro H a0 b a2 d h c a hm;rw[kp] at hm;have e:=Aj l a;refine wi an' func180 [] [] 7 ?_;have m:=hm;refine sw [0,1,0,13] ?_;intro _ e m;refine sg 7 [8,0,4,0] ?_;intro D _ e m;refine o4 m (ih.1 a) λt _ m=>?_;refine sw [0,13] ?_;intro e m;apply wg 4;simp[e];refine WA m 999 999 [] [4,6,9] (λk f=>f.1 11=sI k) [] (λu _ g m=>?_) ?_
  ·apply Ir e m<;>intro e m
   ·exact iC
   refine Il e m λe m=>?_;exact iC
  intro _ k e m;exact aa
 ·intro H a0 b a2 d h c a hm;rw[jO] at hm;have e:=Aj l a;refine wi an' func182 [] [] 999 ?_;have m:=hm;refine sw [8,8] ?_;intro v w e m;apply Ir e m<;>intro e m
  ·simp[e];refine zq m iH λ_ m=>?_;refine sw [7,7,0] ?_;intro e m;refine zp m nS λ_ _ m=>?_;refine sw [7,0] ?_;intro e m;refine zq m nJ λ_ m=>?_;refine sw [12,8,8,0] ?_;intro x y e m;refine o4 m (ih.2.2.2 a) λ_ _ m=>?_;refine sw [7,0] ?_;intro e m;refine qP m (w6 T) λ_ m=>?_;exact au
  simp[e];refine zq m iH λ_ m=>?_;refine sw [7,7,0] ?_;intro e m;refine zp m nS λ_ _ m=>?_;refine sw [7,0] ?_;intro e m;refine zq m nJ λ_ m=>?_;refine sw [12,8,8,0] ?_;intro A B e m;refine o4 m (ih.2.2.2 a) λ_ _ m=>?_;refine sw [7,0] ?_;intro e m;refine qP m rG λ_ m=>?_;exact au
 ·intro H a0 b a2 a3 a4 d h c a hm;rw[gv] at hm;have e:=Aj l a;refine wi an' func251 [] [] 999 ?_;simp[e];refine zp hm (ih.1 a) λ_ _ m=>?_;refine sw [7,0,2] ?_;intro _ j e m;exact aa
def hS(T:eA)(h:k5 T){H:dS}{a0:List Fm}{b:Pf}{a2:dP}{c:dH}{d:Int}{f:Nat}(a:KC H f a0){n:Nat}(hm:fj n a0 b a2=some (c,d)):et prog T 138 [AV.eK f 0,Pf.av b,dP.av a2] H (AV.tuple [dH.av c,sI d]) H:=(ly T h n).1 a hm
@[instance] def Nf:=@Kc.mk prog 138 _ @hS
def zb(T:eA)(h:k5 T){H:dS}{a0:List Fm}{b:Pf}{a2:dP}{c:dH}{d:Int}{f:Nat}(a:KC H f a0){n:Nat}(hm:kp n a0 b a2=some (c,d)):et prog T 180 [AV.eK f 0,Pf.av b,dP.av a2] H (AV.tuple [dH.av c,sI d]) H:=(ly T h n).2.1 a hm
@[instance] def Oo:=@Kc.mk prog 180 _ @zb
def zO(T:eA)(h:k5 T){H:dS}{a0:List Fm}{b:Pf}{a2:dP}{c:dH}{d:Int}{f:Nat}(a:KC H f a0){n:Nat}(hm:jO n a0 b a2=some (c,d)):et prog T 182 [AV.eK f 0,Pf.av b,dP.av a2] H (AV.tuple [dH.av c,sI d]) H:=(ly T h n).2.2.1 a hm
@[instance] def Ot:=@Kc.mk prog 182 _ @zO
def k1(T:eA)(h:k5 T){H:dS}{a0:List Fm}{b:Pf}{a2:dP}{a3:Fm}{a4:Tm}{c:dH}{d:Int}{f:Nat}(a:KC H f a0){n:Nat}(hm:gv n a0 b a2 a3 a4=some (c,d)):et prog T 251 [AV.eK f 0,Pf.av b,dP.av a2,Fm.av a3,Tm.av a4] H (AV.tuple [dH.av c,sI d]) H:=(ly T h n).2.2.2 a hm
@[instance] def Kt:=@Kc.mk prog 251 _ @k1
def SE{n:Nat}:C1 prog 192 (xJ n) Tm.av Tm.av:=by
 refine i1 λn ih=>v1 func192 λT H a0 r m e=>?_;rw[xJ] at m;refine sw [0,4,0] ?_;intro i e m;refine Td e m 999 17 [15,16] [2] [26] (λb=>b) (λb a f=>bx f 3 [sI a0.an6,sI a0.an9,sI i.an6,sL Ty.av i.an7,sT a Tm.av b]) λj _ b d _ _ _ _ E e m z p=>?_;have⟨a,E,c⟩:=E;refine sw [20,0,18,9,0] ?_;intro h e m;refine Ad (f:=Tm.av) b [h] c xS e.2 ?_;simp[e];cases m;exact p _ _ _ ⟨(.loc 26 (d.fa 26+1)),VW,(On 26)⟩ z
@[instance] def agT:=@Kc.mk prog 192 _ @SE
def ug:C2 prog 191 mV Tm.av Tm.av sI:=by
 refine v2 func191 λT H a0 a r m e=>?_;rw[mV] at m;exact aa
@[instance] def Rf:=@Kc.mk prog 191 _ @ug
def wz:C1 prog 140 oI Fm.av Fm.av:=by
 refine v1 func140 λT H a0 r m e=>?_;rw[oI] at m;simp[e];refine zp m (kI T (st:=λ_:Unit=>H) (Db.const _) (λX _ _ _ _ _ h=>by obtain⟨a,rfl⟩:=uZ h;exact ug a)) λ_ _ m=>?_;exact au
@[instance] def TK:=@Kc.mk prog 140 _ @wz
def VN:kj prog 193=true:=by kernel_rfl
set_option maxHeartbeats 4000000 in
def acF(x k idx:Nat)(w:World)(b:((x:Int)==0)=false)
  (key:bits BinOp.and IntKind.u32 (x:Int) (-(x:Int)%4294967296)*125613361%4294967296/134217728=(idx:Int))
  (hi:idx<32) (c:k<32) (a:w.cell? ⟨0,idx,none⟩=some (.int .u8 k)):Calls prog 193 #[.int .u32 x] w λe w'=>e=.returned (.int .i64 k)/\w'=w:=by
 go_enter func193,ntmps193
 go_wp2_with (simp only[key])
 go_ret
 exact⟨rfl,rfl⟩
set_option maxHeartbeats 4000000 in
def acW(w:World):Calls prog 193 #[.int .u32 0] w λe w'=>e=.returned (.int .i64 32)/\w'=w:=by
 go_enter func193,ntmps193
 go_wp2
 go_ret
 exact⟨rfl,rfl⟩
def ac_(n:Int):IntKind.u32.wrap n=n%4294967296:=by simp[IntKind.wrap,IntKind.signed,IntKind.bits]
def afU(a b:Nat)(f:a<4294967296)(h:b<4294967296):bits .and .u32 (a:Int) (b:Int)=((a&&&b:Nat):Int):=by
 have i:a&&&b<2^32:=ajw _ xL
 have c:(BitVec.ofInt 32 (a:Int)).toNat=a:=by
  rw[alf];omega
 have d:(BitVec.ofInt 32 (b:Int)).toNat=b:=by
  rw[alf];omega
 show IntKind.u32.wrap ((BitVec.ofInt 32 (a:Int)&&&BitVec.ofInt 32 (b:Int)).toNat:Int)=_;rw[BitVec.toNat_and,c,d,ac_];omega
def ahK(x a:Nat)(c:x<4294967296)(d:x≠0)(b:x&&&(4294967296-x)=a):bits BinOp.and IntKind.u32 (x:Int) (-(x:Int)%4294967296)*125613361%4294967296/134217728=((a*125613361%4294967296/134217728:Nat):Int):=by
 have f:-(x:Int)%4294967296=((4294967296-x:Nat):Int):=xL
 rw[f,afU x _ c xL,b];omega
def ahD:∀j,j<32->lz[j]?=some ((Lib.deBruijn32tab.getD j 0:Nat):Int):=by decide+kernel
def uD(T:eA)(q:k5 T){H:dS}{a0 h:Int}(hm:mM a0=some h):et prog T 193 [AV.sc (.int .u32 a0)] H (sI h) H:=by
 unfold mM at hm
 split at hm
 case isFalse=>cases hm
 rename_i j;obtain⟨x,rfl⟩:∃x:Nat,a0=(x:Int):=⟨a0.toNat,xL⟩;obtain rfl:=iq hm
 have k:x<2^32:=xL
 rw[Cm];refine et.abO VN λG F w vs hg r=>?_
 obtain⟨v1,rfl,a⟩:∃v,vs=[v]/\gG F G H.length (AV.sc (.int .u32 (x:Int))) v:=by
  cases r with
  |cons a b=>cases b;exact⟨_,rfl,a⟩
 cases a;refine⟨_,.sc rfl,?_⟩
 by_cases c:x=0
 ·subst c;exact(acW w).mono λe w' ⟨a,b⟩=>⟨a,by rw[b];exact ajP _ _⟩
 ·have⟨d,l⟩:=Lib.lowest_bit 32 x c k;have⟨hi,f⟩:=Lib.deBruijn32_at _ l;have s:=hg.Ct 0 _ q.2.2;cases s with
  |kU a b u=>
   have n:=ahD _ hi;rw[f] at n;have⟨v,t,j⟩:=a.get (i:=2^Lib.ctz 32 x*125613361%4294967296/134217728) (x:=.sc (.int .u8 (Lib.ctz 32 x:Int))) (by simp[AV.cells,n]);cases j;have o:=hg.FO _ _ _ (b _ _ t);rw[xR] at o;exact(acF x (Lib.ctz 32 x) _ w Xw (ahK x _ k c d) hi l o).mono λe w' ⟨a,b⟩=>⟨a,by rw[b];exact ajP _ _⟩
@[instance] def Hp:=@Kc.mk prog 193 _ @uD
def p_(T:eA)(i:k5 T){H:dS}{a0:Int}{d:List Int}(hm:lu a0=some d):et prog T 141 [AV.sc (.int .u32 a0)] H (sL sI d) H:=by
 rw[lu] at hm;have e:=i;refine wi an' func141 [] [] 999 ?_;simp[e];refine Wn hm 999 (λs1 f h=>∃a,(h=H/\f.1 0=AV.sc (.int .u32 s1.1)/\f.1 3=sT a sI s1.2)/\Ow f [14] a s1.2) (by exact⟨.full,VW,gL.full⟩) (λs1 fr2 _ _ _ _ E m z p=>?_);have⟨j,v9⟩:=s1;have⟨a,E,b⟩:=E;have e:=Aj e E;dsimp only[lk]at m;apply Ir e m<;>intro e m
 ·cases m;have m:=Qb z;dsimp only[lk]at m;exact au
 refine sw [0,1,9,0] ?_;intro c e m;refine Ao (f:=sI) v9 [c] b EB e.2 ?_;simp[e];cases m;exact p _ _ _ ⟨(.loc 14 (fr2.fa 14+1)),VW,(On 14)⟩ z
@[instance] def JE:=@Kc.mk prog 141 _ @p_
def Jf(T:eA)(a:k5 T){H:dS}{a0:List Fm}{d:Sq}{a2:Pf}{b:r_}{c:Int}(hm:rL a0 d a2=some (b,c)):et prog T 101 [sL Fm.av a0,Sq.av d,Pf.av a2] H (AV.tuple [r_.av b,sI c]) H:=by
 rw[rL] at hm;refine fb.rm (Post:=λx K=>x=AV.tuple [r_.av b,sI c]/\∃X,K=H++X) ?_ (λ_ _ h=>⟨_,h.2.choose_spec,by rw[h.1];simp[AV.low,AV.ir],h.1,rfl⟩);have e:=a;refine wi an' func101 [29] [] 999 ?_;simp[e];refine zq hm (xy T a) λ_ m=>?_;refine sw [7,0] ?_;intro e m;refine zq m (BX T a) λ_ m=>?_;refine sw [7,0] ?_;intro e m;refine zq m (AS T) λ_ m=>?_;simp[e];refine qP m z8 λ_ m=>?_;simp[e];refine o4 m (hS T a ⟨VW,VW⟩) λ_ _ m=>?_;refine sw [7,0] ?_;intro e m;refine qP m wz λ_ m=>?_;simp[e];refine qP m (p_ T a) λ_ m=>?_;exact au
@[instance] def Y7:=@Kc.mk prog 101 _ @Jf
def G9(T:eA)(c:k5 T){H:dS}{a0:Tm}{a:Pf}{b:Int}(hm:j7 a0 a=some b):et prog T 46 [Tm.av a0,Pf.av a] H (sI b) H:=by
 rw[j7] at hm;have e:=c;refine wi an' func46 [] [] 999 ?_;have m:=hm;exact aa
@[instance] def WS:=@Kc.mk prog 46 _ @G9
def Nu:C1 prog 49 j_ Pf.av sI:=by
 refine v1 func49 λT H a0 r m e=>?_;rw[j_] at m;exact au
@[instance] def acR:=@Kc.mk prog 49 _ @Nu
def Dt:C3 prog 47 jI Pf.av Fm.av Pf.av Pf.av:=by
 refine v3 func47 λT H a0 a a2 r m e=>?_;rw[jI] at m;have e:=Aj e (show AV.agg [sI 19,sI 0,sI 0,AV.slice .gx [],AV.slice .gx [],AV.slice .gx [Fm.av a0],AV.slice .gx [Pf.av a,Pf.av a2]]=Pf.av (Pf.mk 19 0 (Ty.mk 0 []) [] [a0] [a,a2]) by rw[Pf.eQ];rfl);exact au
@[instance] def T2:=@Kc.mk prog 47 _ @Dt
def MP:C2 prog 51 u_ Pf.av Tm.av Pf.av:=by
 refine v2 func51 λT H a0 a r m e=>?_;rw[u_] at m;have e:=Aj e (show AV.agg [sI 9,sI 0,sI 0,AV.slice .gx [],AV.slice .gx [Tm.av a0],AV.slice .gx [],AV.slice .gx [Pf.av a]]=Pf.av (Pf.mk 9 0 (Ty.mk 0 []) [a0] [] [a]) by rw[Pf.eQ];rfl);exact au
@[instance] def ab1:=@Kc.mk prog 51 _ @MP
def Tv:C2 prog 50 mo Pf.av sI (sL Pf.av):=by
 refine v2 func50 λT H a0 a r m e=>?_;rw[mo] at m;exact au
@[instance] def af_:=@Kc.mk prog 50 _ @Tv
def IK(T:eA)(l:k5 T){H:dS}{a0:Tm}{b:Pf}{a2:Tm}{a3:Pf}{c:Fm}{d:Pf}{i:Int}(hm:pS a0 b a2 a3=some (c,d,i)):et prog T 12 [Tm.av a0,Pf.av b,Tm.av a2,Pf.av a3] H (AV.tuple [Fm.av c,Pf.av d,sI i]) H:=by
 rw[pS] at hm;have e:=l;refine wi an' func12 [] [] 999 ?_;simp[e];have⟨j,a,m⟩:=nC hm;refine Wr e m 999 (λk _ f h=>h=H/\f.1 20=sT .full Tm.av j/\f.1 21=sI (ey j)/\f.1 22=sI k/\bx f 4 (Tm.av a0).cells/\bx f 5 (Pf.av b).cells/\bx f 6 (Tm.av a2).cells/\bx f 7 (Pf.av a3).cells/\bx f 8 [sI 0,sI 0,nL,nL,nL]/\bx f 9 [sI 0,sI 0,sI 0,nL,nL,nL,nL]) (by(repeat' apply And.intro)<;>first|rfl|(rw[a];rfl)|simp[e,a,ey]) (λ_ _ _ _ E m=>?_) (λk _ _ _ _ _ _ _ E e m z p=>?_);rotate_left
 ·exact aa
 exact aa
@[instance] def Xx:=@Kc.mk prog 12 _ @IK
def NQ{n:Nat}:C1 prog 127 (i_ n) Ty.av Ty.av:=by
 refine i1 λn ih=>v1 func127 λT H a0 r m e=>?_;rw[i_] at m;simp[e];refine Td e m 999 9 [7,8] [1,2] [17] (λs2=>s2) (λs2 a f=>f.1 3=sT a Ty.av s2) λh _ s2 c _ _ _ _ E e m z p=>?_;have⟨a,E,b⟩:=E;refine sw [20,0,15,9,0] ?_;intro d e m;refine Ao (f:=Ty.av) s2 [d] b Fw e.2 ?_;simp[e];cases m;exact p _ _ _ ⟨(.loc 17 (c.fa 17+1)),VW,(On 17)⟩ z
@[instance] def acH:=@Kc.mk prog 127 _ @NQ
def Ni{n:Nat}:C1 prog 123 (lI n) Tm.av Tm.av:=by
 refine i1 λn ih=>v1 func123 λT H a0 r m e=>?_;rw[lI] at m;simp[e];refine Td e m 999 9 [7,8] [1,2] [17] (λs2=>s2) (λs2 a f=>f.1 3=sT a Tm.av s2) λh _ s2 c _ _ _ _ E e m z p=>?_;have⟨a,E,b⟩:=E;refine sw [20,0,15,9,0] ?_;intro d e m;refine Ao (f:=Tm.av) s2 [d] b xS e.2 ?_;simp[e];cases m;exact p _ _ _ ⟨(.loc 17 (c.fa 17+1)),VW,(On 17)⟩ z
@[instance] def abx:=@Kc.mk prog 123 _ @Ni
def Ew:C2 prog 89 fJ Tm.av sI (sL Tm.av):=by
 refine v2 func89 λT H a0 i r m e=>?_;rw[fJ] at m;simp[e];refine Wr e m 999 (λj s2 f h=>∃a,(h=H/\f.1 0=sI a0/\f.1 5=sT a Tm.av s2/\f.1 8=sL Tm.av i/\f.1 9=sI (ey i)/\f.1 10=sI j/\bx f 4 [sI 0,sI 0,sI 0,nL,nL])/\Ow f [18] a s2) (by exact⟨.full,VW,gL.full⟩) (λs2 c _ _ E m=>?_) (λj _ s2 c _ _ _ _ E e m z p=>?_)
 ·have⟨a,E,b⟩:=E;exact aa
 have⟨a,E,b⟩:=E;have e:=Aj e E;simp[e];refine oo m λd m=>?_;have⟨e,m⟩:=Ck e m;simp[e];refine Ao (f:=Tm.av) s2 [d] b xS e.2 ?_;simp[e];cases m;exact p _ _ _ ⟨(.loc 18 (c.fa 18+1)),VW,(On 18)⟩ z
@[instance] def ait:=@Kc.mk prog 89 _ @Ew
def G6:C1 prog 107 qu Tm.av sI:=by
 refine v1 func107 λT H a0 r m e=>?_;rw[qu] at m;simp[e];refine oo m λ_ m=>?_;simp[e];refine Wn m 999 (λs2 f h=>∃a b,h=H/\f.1 0=sI s2.1/\bx f 2 [sI 0,sI 0,sI 0,nL,nL]/\bx f 3 [sI s2.2.1,sI s2.2.2.1,sI s2.2.2.2.1,sT a Ty.av s2.2.2.2.2.1,sT b Tm.av s2.2.2.2.2.2]) ⟨.gx,.gx,VW⟩ (λs2 _ _ _ _ _ E m z p=>?_);have⟨v10,v11,v12,c,d,i⟩:=s2;have⟨a,b,E⟩:=E;have e:=Aj e E;dsimp only[Au]at m;apply Ir e m<;>intro e m
 ·cases m;have m:=Qb z;dsimp only[Au]at m;exact au
 simp[e];cases m;exact p _ _ _ ⟨.full,.full,VW⟩ z
@[instance] def WW:=@Kc.mk prog 107 _ @G6
def Je:C1 prog 69 uz (t2 Tm.av sI) sI:=by
 refine v1 func69 λT H a0 r m e=>?_;rw[uz] at m;exact aa
@[instance] def Zo:=@Kc.mk prog 69 _ @Je
def Xq:C1 prog 21 tS Tm.av sI:=by
 refine v1 func21 λT H a0 r m e=>?_;rw[tS] at m;exact aa
@[instance] def ajU:=@Kc.mk prog 21 _ @Xq
def nQ(T:eA){H:dS}{a0 a b j:Tm}{q0 q1:Nat}(c:H[q0]?=some [sI a.an6,sI a.an9,sI a.dL.an6,sL Ty.av a.dL.an7,sL Tm.av a.an7])(d:H[q1]?=some [sI b.an6,sI b.an9,sI b.dL.an6,sL Ty.av b.dL.an7,sL Tm.av b.an7])(hm:mz a0 a b=some j):et prog T 54 [Tm.av a0,AV.eK q0 0,AV.eK q1 0] H (Tm.av j) H:=by
 rw[mz] at hm;have f:=eJ c;have h:=eJ d;have e:=Aj (Aj (Aj f c) h) d;refine wi an' func54 [] [(1,true,[])] 999 ?_;simp[e];refine fO hm λi m=>?_;have e:=Aj e (show AV.agg [sI 6,sI 0,sI i.an6,sL Ty.av i.an7,AV.slice .gx [Tm.av a,Tm.av b,Tm.av a0]]=Tm.av (Tm.mk 6 0 i [a,b,a0]) by rw[Tm.eQ];rfl);exact au
@[instance] def V1:=@Kc.mk prog 54 _ @nQ
def CV:C5 prog 57 mi Pf.av sI Fm.av Tm.av Pf.av Pf.av:=by
 refine v5 func57 λT H a0 a a2 a3 a4 r m e=>?_;rw[mi] at m;have e:=Aj e (show AV.agg [sI a0,sI 0,sI 0,AV.slice .gx [],AV.slice .gx [Tm.av a2],AV.slice .gx [Fm.av a],AV.slice .gx [Pf.av a3,Pf.av a4]]=Pf.av (Pf.mk a0 0 (Ty.mk 0 []) [a2] [a] [a3,a4]) by rw[Pf.eQ];rfl);exact au
@[instance] def S5:=@Kc.mk prog 57 _ @CV
def Iu(T:eA)(f:k5 T){H:dS}{a0 d:Tm}{a:Fm}{b:Pf}{c:Int}(hm:pO a0 d=some (a,b,c)):et prog T 15 [Tm.av a0,Tm.av d] H (AV.tuple [Fm.av a,Pf.av b,sI c]) H:=by
 rw[pO] at hm;refine fb.rm (Post:=λx K=>x=AV.tuple [Fm.av a,Pf.av b,sI c]/\∃X,K=H++X) ?_ (λ_ _ h=>⟨_,h.2.choose_spec,by rw[h.1];simp[AV.low,AV.ir],h.1,rfl⟩);have e:=f;refine wi an' func15 [2,3] [(1,true,[]),(4,true,[]),(8,true,[]),(9,true,[]),(10,true,[])] 999 ?_;simp[e];refine fO hm λ_ m=>?_;simp[e];refine fO m λ_ m=>?_;apply Iq e m<;>intro e m
 ·exact aa
 simp[e];refine fO m λ_ m=>?_;simp[e];refine fO m λ_ m=>?_;simp[e];refine fO m λ_ m=>?_;simp[e];refine fO m λ_ m=>?_;simp[e];refine fO m λ_ m=>?_;apply Iq e m<;>intro e m
 ·exact aa
 simp[e];refine fO m λ_ m=>?_;simp[e];refine fO m λ_ m=>?_;simp[e];refine fO m λ_ m=>?_;simp[e];refine fO m λ_ m=>?_;simp[e];refine fO m λ_ m=>?_;have⟨i,e,m⟩:=iR e m;simp[e];refine gM.FL YQ (nQ T VW VW e.2) LA ?_;simp[e];refine fO m λ_ m=>?_;simp[e];refine fO m λ_ m=>?_;simp[e];refine fO m λ_ m=>?_;simp[e];refine fO m λ_ m=>?_;simp[e];refine fO m λ_ m=>?_;simp[e];refine fO m λ_ m=>?_;simp[e];refine fO m λ_ m=>?_;simp[e];refine fO m λ_ m=>?_;simp[e];refine fO m λ_ m=>?_;simp[e];refine fO m λ_ m=>?_;simp[e];refine fO m λ_ m=>?_;have⟨j,e,m⟩:=iR e m;simp[e];refine gM.FL YQ (nQ T VW VW e.2) LA ?_;simp[e];refine fO m λ_ m=>?_;simp[e];refine fO m λ_ m=>?_;simp[e];refine fO m λ_ m=>?_;simp[e];refine fO m λ_ m=>?_;have⟨k,e,m⟩:=iR e m;simp[e];refine gM.FL YQ (nQ T VW VW e.2) LA ?_;simp[e];refine fO m λ_ m=>?_;simp[e];refine fO m λ_ m=>?_;simp[e];refine fO m λ_ m=>?_;simp[e];refine fO m λ_ m=>?_;simp[e];refine fO m λ_ m=>?_;simp[e];refine fO m λ_ m=>?_;simp[e];refine fO m λ_ m=>?_;have⟨l,e,m⟩:=iR e m;simp[e];refine gM.FL YQ (nQ T VW VW e.2) LA ?_;exact aa
@[instance] def Xk:=@Kc.mk prog 15 _ @Iu
def MX:C0 prog 62 sQ Ty.av:=by
 refine v0 func62 λT H r m e=>?_;rw[sQ] at m;exact au
@[instance] def acQ:=@Kc.mk prog 62 _ @MX
def k6(T:eA){H:dS}{a0 a b j:Tm}{q0 q1:Nat}(c:H[q0]?=some [sI a.an6,sI a.an9,sI a.dL.an6,sL Ty.av a.dL.an7,sL Tm.av a.an7])(d:H[q1]?=some [sI b.an6,sI b.an9,sI b.dL.an6,sL Ty.av b.dL.an7,sL Tm.av b.an7])(hm:jN a0 a b=some j):et prog T 63 [Tm.av a0,AV.eK q0 0,AV.eK q1 0] H (Tm.av j) H:=by
 rw[jN] at hm;have f:=eJ c;have h:=eJ d;have e:=Aj (Aj (Aj f c) h) d;refine wi an' func63 [] [(1,true,[])] 999 ?_;simp[e];refine fO hm λi m=>?_;have e:=Aj e (show AV.agg [sI 9,sI 0,sI i.an6,sL Ty.av i.an7,AV.slice .gx [Tm.av a,Tm.av b,Tm.av a0]]=Tm.av (Tm.mk 9 0 i [a,b,a0]) by rw[Tm.eQ];rfl);exact au
@[instance] def Pp:=@Kc.mk prog 63 _ @k6
def CS(T:eA)(f:k5 T){H:dS}{a0 d:Tm}{a:Fm}{b:Pf}{c:Int}(hm:mg a0 d=some (a,b,c)):et prog T 18 [Tm.av a0,Tm.av d] H (AV.tuple [Fm.av a,Pf.av b,sI c]) H:=by
 rw[mg] at hm;refine fb.rm (Post:=λx K=>x=AV.tuple [Fm.av a,Pf.av b,sI c]/\∃X,K=H++X) ?_ (λ_ _ h=>⟨_,h.2.choose_spec,by rw[h.1];simp[AV.low,AV.ir],h.1,rfl⟩);have e:=f;refine wi an' func18 [2,3] [(1,true,[]),(4,true,[]),(8,true,[]),(9,true,[]),(10,true,[])] 999 ?_;simp[e];refine fO hm λ_ m=>?_;simp[e];refine fO m λ_ m=>?_;apply Iq e m<;>intro e m
 ·exact aa
 simp[e];refine fO m λ_ m=>?_;simp[e];refine fO m λ_ m=>?_;simp[e];refine fO m λ_ m=>?_;simp[e];refine fO m λ_ m=>?_;simp[e];refine fO m λ_ m=>?_;simp[e];refine fO m λ_ m=>?_;apply Iq e m<;>intro e m
 ·exact aa
 simp[e];refine fO m λ_ m=>?_;simp[e];refine fO m λ_ m=>?_;simp[e];refine fO m λ_ m=>?_;simp[e];refine fO m λ_ m=>?_;simp[e];refine fO m λ_ m=>?_;simp[e];refine fO m λ_ m=>?_;simp[e];refine fO m λ_ m=>?_;have⟨i,e,m⟩:=iR e m;simp[e];refine gM.FL YQ (k6 T VW VW e.2) LA ?_;simp[e];refine fO m λ_ m=>?_;simp[e];refine fO m λ_ m=>?_;simp[e];refine fO m λ_ m=>?_;simp[e];refine fO m λ_ m=>?_;simp[e];refine fO m λ_ m=>?_;simp[e];refine fO m λ_ m=>?_;simp[e];refine fO m λ_ m=>?_;simp[e];refine fO m λ_ m=>?_;simp[e];refine fO m λ_ m=>?_;simp[e];refine fO m λ_ m=>?_;simp[e];refine fO m λ_ m=>?_;simp[e];refine fO m λ_ m=>?_;have⟨j,e,m⟩:=iR e m;simp[e];refine gM.FL YQ (k6 T VW VW e.2) LA ?_;simp[e];refine fO m λ_ m=>?_;simp[e];refine fO m λ_ m=>?_;simp[e];refine fO m λ_ m=>?_;simp[e];refine fO m λ_ m=>?_;have⟨k,e,m⟩:=iR e m;simp[e];refine gM.FL YQ (k6 T VW VW e.2) LA ?_;simp[e];refine fO m λ_ m=>?_;simp[e];refine fO m λ_ m=>?_;simp[e];refine fO m λ_ m=>?_;simp[e];refine fO m λ_ m=>?_;simp[e];refine fO m λ_ m=>?_;simp[e];refine fO m λ_ m=>?_;simp[e];refine fO m λ_ m=>?_;have⟨l,e,m⟩:=iR e m;simp[e];refine gM.FL YQ (k6 T VW VW e.2) LA ?_;exact aa
@[instance] def Tj:=@Kc.mk prog 18 _ @CS
def wG:C1 prog 88 gq Tm.av sI:=by
 refine v1 func88 λT H a0 r m e=>?_;rw[gq] at m;exact au
@[instance] def aee:=@Kc.mk prog 88 _ @wG
def zV:C0 prog 94 jt Ty.av:=by
 refine v0 func94 λT H r m e=>?_;rw[jt] at m;exact au
@[instance] def adI:=@Kc.mk prog 94 _ @zV
def V7:C3 prog 92 lq Tm.av sI Ty.av (sL Tm.av):=by
 refine v3 func92 λT H a0 a a2 r m e=>?_;rw[lq] at m;exact aa
@[instance] def aif:=@Kc.mk prog 92 _ @V7
def O5:C1 prog 86 jY Tm.av Tm.av:=by
 refine v1 func86 λT H a0 r m e=>?_;rw[jY] at m;exact aa
@[instance] def ae3:=@Kc.mk prog 86 _ @O5
def Qo:C3 prog 87 sM Tm.av Tm.av Tm.av Tm.av:=by
 refine v3 func87 λT H a0 a a2 r m e=>?_;rw[sM] at m;exact aa
@[instance] def adX:=@Kc.mk prog 87 _ @Qo
def ML:C0 prog 32 oB Tm.av:=by
 refine v0 func32 λT H r m e=>?_;rw[oB] at m;exact aa
@[instance] def abT:=@Kc.mk prog 32 _ @ML
def DM:C2 prog 66 qJ Tm.av Ty.av Tm.av:=by
 refine v2 func66 λT H a0 a r m e=>?_;rw[qJ] at m;have e:=Aj e (show AV.agg [sI 2,sI 0,sI a0.an6,sL Ty.av a0.an7,AV.slice .gx [Tm.av a]]=Tm.av (Tm.mk 2 0 a0 [a]) by rw[Tm.eQ];rfl);exact au
@[instance] def UJ:=@Kc.mk prog 66 _ @DM
def ke(T:eA){H:dS}{a0:Tm}{a:Ty}{b c d s:Tm}{q0 q1 t u v:Nat}(f:H[q0]?=some [sI a.an6,sL Ty.av a.an7])(h:H[q1]?=some [sI b.an6,sI b.an9,sI b.dL.an6,sL Ty.av b.dL.an7,sL Tm.av b.an7])(i:H[t]?=some [sI c.an6,sI c.an9,sI c.dL.an6,sL Ty.av c.dL.an7,sL Tm.av c.an7])(j:H[u]?=some [AV.func (.func 66) [] []])(k:H[v]?=some [sI d.an6,sI d.an9,sI d.dL.an6,sL Ty.av d.dL.an7,sL Tm.av d.an7])(hm:jK a0 a b c d=some s):et prog T 67 [Tm.av a0,AV.eK q0 0,AV.eK q1 0,AV.eK t 0,AV.eK u 0,AV.eK v 0] H (Tm.av s) H:=by
 rw[jK] at hm;have l:=eJ f;have n:=eJ h;have o:=eJ i;have q:=eJ j;have r:=eJ k;have e:=Aj (Aj (Aj (Aj (Aj (Aj (Aj (Aj (Aj l f) n) h) o) i) q) j) r) k;refine wi an' func67 [] [(1,true,[])] 999 ?_;simp[e];refine fO hm λw m=>?_;simp[e];refine fO m λ_ m=>?_;simp[e];refine fO m λ_ m=>?_;simp[e];refine fO m λx m=>?_;have e:=Aj e (show AV.agg [sI 6,sI 0,sI a.an6,sL Ty.av a.an7,AV.slice .gx [Tm.av w,Tm.av x,Tm.av a0]]=Tm.av (Tm.mk 6 0 a [w,x,a0]) by rw[Tm.eQ];rfl);exact au
@[instance] def TF:=@Kc.mk prog 67 _ @ke
def En:C1 prog 64 ij Tm.av Tm.av:=by
 refine v1 func64 λT H a0 r m e=>?_;rw[ij] at m;exact aa
@[instance] def UO:=@Kc.mk prog 64 _ @En
def Dl:C1 prog 65 ig Tm.av Tm.av:=by
 refine v1 func65 λT H a0 r m e=>?_;rw[ig] at m;exact aa
@[instance] def Ua:=@Kc.mk prog 65 _ @Dl
def oS(T:eA){H:dS}{a0:Tm}{a:Ty}{j:Fm}{q0 q1 k:Nat}(b:H[q0]?=some [AV.func (.func 64) [] []])(c:H[q1]?=some [AV.func (.func 65) [] []])(d:H[k]?=some [sI a.an6,sL Ty.av a.an7])(hm:je a0 a=some j):et prog T 68 [Tm.av a0,AV.eK q0 0,AV.eK q1 0,AV.eK k 0] H (Fm.av j) H:=by
 rw[je] at hm;have f:=eJ b;have h:=eJ c;have i:=eJ d;have e:=Aj (Aj (Aj (Aj (Aj f b) h) c) i) d;refine wi an' func68 [] [(2,true,[])] 999 ?_;simp[e];refine oo hm λ_ m=>?_;simp[e];refine fO m λ_ m=>?_;simp[e];refine fO m λ_ m=>?_;simp[e];refine fO m λ_ m=>?_;simp[e];refine fO m λl m=>?_;simp[e];refine fO m λ_ m=>?_;simp[e];refine fO m λ_ m=>?_;simp[e];refine fO m λ_ m=>?_;simp[e];refine fO m λn m=>?_;have e:=Aj e (show AV.agg [sI 2,sI 0,AV.slice .gx [],AV.slice .gx [],AV.slice .gx [Fm.av l,Fm.av n]]=Fm.av (Fm.mk 2 (Ty.mk 0 []) [] [l,n]) by rw[Fm.eQ];rfl);exact aa
@[instance] def Ud:=@Kc.mk prog 68 _ @oS
def GZ(T:eA)(u:k5 T){H:dS}{a0 b a2:Tm}{i:Fm}{j:Pf}{k:Int}(hm:oK a0 b a2=some (i,j,k)):et prog T 20 [Tm.av a0,Tm.av b,Tm.av a2] H (AV.tuple [Fm.av i,Pf.av j,sI k]) H:=by
 rw[oK] at hm;refine fb.rm (Post:=λx K=>x=AV.tuple [Fm.av i,Pf.av j,sI k]/\∃X,K=H++X) ?_ (λ_ _ h=>⟨_,h.2.choose_spec,by rw[h.1];simp[AV.low,AV.ir],h.1,rfl⟩);have e:=u;refine wi an' func20 [] [(18,true,[]),(19,true,[]),(20,true,[]),(21,true,[]),(22,true,[]),(23,true,[]),(24,true,[]),(26,true,[])] 999 ?_;simp[e];have⟨o,c,m⟩:=nC hm;refine Wr e m 0 (λq _ f h=>h=H/\f.1 30=sT .full Tm.av o/\f.1 31=sI (ey o)/\f.1 32=sI q/\bx f 3 (Tm.av a0).cells/\bx f 4 (Tm.av b).cells/\bx f 5 (Tm.av a2).cells/\bx f 6 [sI 0,sI 0,nL,nL,nL]/\bx f 7 [sI 0,sI 0,sI 0,nL,nL,nL,nL]) (by(repeat' apply And.intro)<;>first|rfl|(rw[c];rfl)|simp[e,c,ey]) (λ_ _ _ _ E m=>?_) (λq _ _ _ _ _ _ _ E e m z p=>?_);rotate_left
 ·exact aa
 have e:=Aj e E;apply wg 10;dsimp only[eo]at m;simp[e];refine fO m λ_ m=>?_;simp[e];refine fO m λ_ m=>?_;simp[e];refine fO m λ_ m=>?_;simp[e];refine fO m λ_ m=>?_;simp[e];refine fO m λ_ m=>?_;simp[e];apply Iq e m<;>intro e m
 ·exact aa
 apply wg 13;simp[e];refine oo m λl m=>?_;simp[e];refine oo m λn m=>?_;simp[e];refine fO m λ_ m=>?_;simp[e];refine fO m λ_ m=>?_;simp[e];refine fO m λ_ m=>?_;simp[e];refine fO m λ_ m=>?_;simp[e];refine fO m λ_ m=>?_;simp[e];refine fO m λ_ m=>?_;simp[e];refine fO m λ_ m=>?_;simp[e];refine fO m λa m=>?_;simp[e];refine CX 0 (d:=15) (cs:=[sI 3,AV.slice .full [Ty.av l,Ty.av n]]) VW VW ?_;refine CX 0 (d:=3) (cs:=[sI a0.an6,sI a0.an9,sI a0.dL.an6,sL Ty.av a0.dL.an7,sL Tm.av a0.an7]) VW VW ?_;refine CX 0 (d:=4) (cs:=[sI b.an6,sI b.an9,sI b.dL.an6,sL Ty.av b.dL.an7,sL Tm.av b.an7]) VW VW ?_;refine CX 0 (d:=16) (cs:=[AV.func (.func 66) [] []]) VW VW ?_;refine CX 2 (d:=17) (cs:=[sI a.an6,sI a.an9,sI a.dL.an6,sL Ty.av a.dL.an7,sL Tm.av a.an7]) VW VW ?_;simp[e];refine CX 0 (d:=13) (cs:=[AV.func (.func 64) [] []]) VW VW ?_;refine CX 999 (d:=14) (cs:=[AV.func (.func 65) [] []]) VW VW ?_;simp[e];refine fO m λ_ m=>?_;have⟨v,e,m⟩:=iR e m;simp[e];refine gM.FL YQ (ke T VW VW VW VW VW e.2) LA ?_;have⟨w,e,m⟩:=iR e m;simp[e];refine gM.FL YQ (oS T VW VW VW e.2) LA ?_;simp[e];refine fO m λ_ m=>?_;simp[e];refine fO m λ_ m=>?_;simp[e];refine fO m λ_ m=>?_;simp[e];refine fO m λ_ m=>?_;simp[e];refine fO m λ_ m=>?_;simp[e];refine fO m λ_ m=>?_;simp[e];refine fO m λ_ m=>?_;simp[e];refine fO m λ_ m=>?_;simp[e];refine fO m λ_ m=>?_;simp[e];refine fO m λ_ m=>?_;simp[e];refine fO m λ_ m=>?_;simp[e];refine fO m λ_ m=>?_;simp[e];refine fO m λ_ m=>?_;simp[e];refine fO m λ_ m=>?_;simp[e];refine fO m λ_ m=>?_;simp[e];refine fO m λ_ m=>?_;simp[e];refine fO m λ_ m=>?_;simp[e];refine fO m λ_ m=>?_;simp[e];refine fO m λ_ m=>?_;simp[e];refine fO m λ_ m=>?_;simp[e];refine fO m λ_ m=>?_;simp[e];refine fO m λ_ m=>?_;simp[e];refine fO m λ_ m=>?_;simp[e];refine fO m λ_ m=>?_;simp[e];refine fO m λ_ m=>?_;simp[e];refine fO m λ_ m=>?_;simp[e];refine fO m λ_ m=>?_;simp[e];refine fO m λ_ m=>?_;simp[e];refine fO m λ_ m=>?_;simp[e];refine fO m λ_ m=>?_;simp[e];refine fO m λ_ m=>?_;simp[e];refine fO m λ_ m=>?_;simp[e];refine fO m λ_ m=>?_;simp[e];refine fO m λ_ m=>?_;simp[e];refine fO m λ_ m=>?_;have⟨y,e,m⟩:=iR e m;simp[e];refine gM.FL YQ (ke T VW VW VW VW VW e.2) LA ?_;simp[e];refine fO m λ_ m=>?_;simp[e];refine fO m λ_ m=>?_;simp[e];refine fO m λ_ m=>?_;simp[e];refine fO m λ_ m=>?_;simp[e];refine fO m λ_ m=>?_;simp[e];refine fO m λ_ m=>?_;simp[e];refine fO m λ_ m=>?_;simp[e];refine fO m λ_ m=>?_;simp[e];refine fO m λ_ m=>?_;simp[e];refine fO m λ_ m=>?_;have⟨A,e,m⟩:=iR e m;simp[e];refine gM.FL YQ (ke T VW VW VW VW VW e.2) LA ?_;have⟨B,e,m⟩:=iR e m;simp[e];refine gM.FL YQ (oS T VW VW VW e.2) LA ?_;simp[e];refine fO m λ_ m=>?_;simp[e];refine fO m λ_ m=>?_;simp[e];refine fO m λ_ m=>?_;simp[e];refine fO m λ_ m=>?_;have⟨C,e,m⟩:=iR e m;simp[e];refine gM.FL YQ (ke T VW VW VW VW VW e.2) LA ?_;simp[e];refine fO m λ_ m=>?_;simp[e];refine fO m λ_ m=>?_;simp[e];refine fO m λ_ m=>?_;simp[e];refine fO m λ_ m=>?_;simp[e];refine fO m λ_ m=>?_;simp[e];refine fO m λ_ m=>?_;simp[e];refine fO m λ_ m=>?_;simp[e];refine fO m λ_ m=>?_;simp[e];refine fO m λ_ m=>?_;have⟨r,e,m⟩:=iR e m;simp[e];refine gM.FL YQ (ke T VW VW VW VW VW e.2) LA ?_;have⟨s,e,m⟩:=iR e m;simp[e];refine gM.FL YQ (oS T VW VW VW e.2) LA ?_;simp[e];refine fO m λ_ m=>?_;simp[e];refine fO m λ_ m=>?_;simp[e];refine fO m λ_ m=>?_;simp[e];refine fO m λ_ m=>?_;simp[e];refine fO m λ_ m=>?_;simp[e];refine fO m λ_ m=>?_;have⟨t,e,m⟩:=iR e m;simp[e];refine gM.FL YQ (ke T VW VW VW VW VW e.2) LA ?_;exact aa
@[instance] def W':=@Kc.mk prog 20 _ @GZ
def JU{n:Nat}:C1 prog 164 (pB n) sB Ty.av:=by
 refine i1 λn ih=>u1 4 func164 λT H a0 r m e=>?_;rw[pB] at m;simp[e];refine yC m 3 999 (λa f h=>∃v2,(h=H/\f.1 3=sI v2/\bx f 1 (Ty.av a0).cells)/\a v2=some r) ?_ (λa _ g m=>?_)
 ·rintro _ _ ⟨v2,E,m⟩;have e:=Aj e E;refine Il e m λe m=>?_;simp[e];refine Wr e m 999 (λb _ f h=>h=H/\f.1 21=sL Ty.av a0.an7/\f.1 22=sI (ey a0.an7)/\f.1 23=sI b) VW (λ_ _ _ _ E m=>?_) (λb _ _ _ _ _ _ _ E e m z p=>?_)
  ·exact aa
  exact aa
 simp[e];refine wj 999 0 (λf h=>h=H/\f.1 3=sI 0/\f.1 7=sI a0.an6/\f.1 8=sB (e_ (ee a0.an6 1) true (e_ (ee a0.an6 2) true (ee a0.an6 5)))/\bx f 1 (Ty.av a0).cells) (λ_ g=>?_) ?_
 ·rcases Pb (ee a0.an6 1) e with e|e
  ·exact aj
  rcases Pb (ee a0.an6 2) e with e|e
  ·exact aj
  exact aj
 rintro _ _ E;have e:=Aj e E;apply Iq e m<;>intro e m
 ·apply wg 999;exact iC
 apply wg 1;simp[e];refine wj 999 999 (λf h=>h=H/\f.1 12=sB (e_ (ee a0.an6 3) true (ee a0.an6 4))/\bx f 1 (Ty.av a0).cells) (λ_ g=>?_) ?_
 ·rcases Pb (ee a0.an6 3) e with e|e
  ·exact aj
  exact aj
 rintro _ _ E;have e:=Aj e E;refine Im e m λe m=>?_;exact iC
@[instance] def abe:=@Kc.mk prog 164 _ @JU
def Mw{n:Nat}:C1 prog 165 (pd n) sI Ty.av:=by
 refine i1 λn ih=>v1 func165 λT H a0 r m e=>?_;rw[pd] at m;simp[e];refine Wr e m 999 (λa s2 f h=>h=H/\f.1 3=sI s2/\f.1 7=sL Ty.av a0.an7/\f.1 8=sI (ey a0.an7)/\f.1 9=sI a) VW (λs2 _ _ _ E m=>?_) (λa _ s2 _ _ _ _ _ E e m z p=>?_)
 ·exact aa
 exact aa
@[instance] def abm:=@Kc.mk prog 165 _ @Mw
def BP:C1 prog 121 ib sI Ty.av:=by
 refine v1 func121 λT H a0 r m e=>?_;rw[ib] at m;exact aa
@[instance] def aaG:=@Kc.mk prog 121 _ @BP
def Gn:C1 prog 117 l6 sI (sL Ty.av):=by
 refine v1 func117 λT H a0 r m e=>?_;rw[l6] at m;refine sw [7,0] ?_;intro e m;exact Wb e m 999 11 [9,10] [] nI
@[instance] def WL:=@Kc.mk prog 117 _ @Gn
def DO:C1 prog 200 pc sB Ty.av:=by
 refine u1 2 func200 λT H a0 r m e=>?_;rw[pc] at m;simp[e];refine wB 999 999 [] [] (λf=>f.1 2=sB (e_ (ee a0.an6 0) (ee (ey a0.an7) 0) false)) λ_ g=>?_;rcases Pb (ee a0.an6 0) e with e|e
 ·exact aj
 exact aj
@[instance] def ab8:=@Kc.mk prog 200 _ @DO
def N4:C1 prog 270 vw sI sI:=by
 refine u1 6 func270 λT H a0 r m e=>?_;rw[vw] at m;simp[e];refine wA 999 0 [3] [] (λf=>f.1 4=sB (e_ (ee a0 1) true (e_ (ee a0 4) true (e_ (ee a0 7) true (ee a0 13))))) [13] (λ_ g=>?_) ?_
 ·rcases Pb (ee a0 1) e with e|e
  ·exact aj
  rcases Pb (ee a0 4) e with e|e
  ·exact aj
  rcases Pb (ee a0 7) e with e|e
  ·exact aj
  exact aj
 intro _ e m;apply wg 1;simp[e];refine wA 999 0 [3] [] (λf=>f.1 9=sB (e_ (ee a0 2) true (e_ (ee a0 5) true (e_ (ee a0 11) true (ee a0 12))))) [13] (λ_ g=>?_) ?_
 ·rcases Pb (ee a0 2) e with e|e
  ·exact aj
  rcases Pb (ee a0 5) e with e|e
  ·exact aj
  rcases Pb (ee a0 11) e with e|e
  ·exact aj
  exact aj
 intro _ e m;apply wg 1;simp[e];refine wA 999 0 [3] [] (λf=>f.1 14=sB (e_ (ee a0 3) true (e_ (ee a0 8) true (ee a0 10)))) [13] (λ_ g=>?_) ?_
 ·rcases Pb (ee a0 3) e with e|e
  ·exact aj
  rcases Pb (ee a0 8) e with e|e
  ·exact aj
  exact aj
 intro _ e m;apply wg 1;simp[e];refine wB 999 999 [] [] (λf=>f.1 18=sB (e_ (ee a0 6) true (ee a0 9))) λ_ g=>?_;rcases Pb (ee a0 6) e with e|e
 ·exact aj
 exact aj
@[instance] def adf:=@Kc.mk prog 270 _ @N4
def JR{n:Nat}:C1 prog 201 (kx n) sB Tm.av:=by
 refine i1 λn ih=>u1 3 func201 λT H a0 r m e=>?_;rw[kx] at m;simp[e];refine WA m 999 0 [] [1] (λv2 f=>f.1 26=sB v2) [13] (λd _ g m=>?_) ?_
 ·refine sw [0,4] ?_;intro _ e m;apply Iq e m<;>intro e m
  ·exact iC
  apply Iq e m<;>intro e m
  ·exact iC
  apply Ir e m<;>intro e m
  ·exact iC
  exact iC
 intro _ v2 e m;apply wg 2;simp[e];refine yC m 3 999 (λb f h=>(h=H/\f.1 1=AV.gX 1 (f.gen 1) 0/\f.box 1=some (Tm.av a0).cells)/\b=some r) ?_ (λb _ g m=>?_)
 ·rintro _ _ ⟨E,m⟩;have e:=Aj e E;simp[e];refine Wr e m 999 (λa _ f h=>h=H/\f.1 42=sL Tm.av a0.an7/\f.1 43=sI (ey a0.an7)/\f.1 44=sI a) VW (λ_ _ _ _ E m=>?_) (λa _ _ _ _ _ _ _ E e m z p=>?_)
  ·exact aa
  exact aa
 simp[e];refine wj 999 999 (λf h=>h=H/\f.1 33=sB (e_ (ee a0.an6 2) true (e_ (ee a0.an6 6) true (ee a0.an6 9)))/\bx f 1 (Tm.av a0).cells) (λc g=>?_) ?_
 ·rcases Pb (ee a0.an6 2) e with e|e
  ·exact aj
  rcases Pb (ee a0.an6 6) e with e|e
  ·exact aj
  exact aj
 rintro _ _ E;have e:=Aj e E;apply Iq e m<;>intro e m
 ·simp[e];refine zq m BP λ_ m=>?_;refine Il e m λe m=>?_;exact ak0
 simp[e];refine zq m DO λ_ m=>?_;refine Im e m λe m=>?_;exact ak0
@[instance] def aaX:=@Kc.mk prog 201 _ @JR
def u7:C1 prog 267 kT sB sI:=by
 refine u1 2 func267 λT H a0 r m e=>?_;rw[kT] at m;simp[e];refine wB 999 999 [] [] (λf=>f.1 2=sB (e_ (ee a0 4) true (e_ (ee a0 5) true (e_ (ee a0 6) true (ee a0 7))))) λ_ g=>?_;rcases Pb (ee a0 4) e with e|e
 ·exact aj
 rcases Pb (ee a0 5) e with e|e
 ·exact aj
 rcases Pb (ee a0 6) e with e|e
 ·exact aj
 exact aj
@[instance] def S3:=@Kc.mk prog 267 _ @u7
def J'{n:Nat}:C1 prog 196 (mf n) sB Fm.av:=by
 refine i1 λn ih=>u1 7 func196 λT H a0 r m e=>?_;rw[mf] at m;apply Iq e m<;>intro e m
 ·simp[e];refine WB m 999 999 [] [] (λv2 f=>f.1 2=sB v2) λj _ g m=>?_;apply Ir e m<;>intro e m
  ·exact iC
  refine sw [0,1] ?_;intro _ e m;apply Ir e m<;>intro e m
  ·exact iC
  apply Ir e m<;>intro e m
  ·exact iC
  refine sw [8,0,1] ?_;intro k _ e m;apply Ir e m<;>intro e m
  ·exact iC
  refine sw [8,0,1] ?_;intro l _ e m;exact iC
 simp[e];refine wA 999 0 [] [1] (λf=>f.1 36=sB (e_ (ee a0.an6 2) true (ee a0.an6 3))) [] (λ_ g=>?_) ?_
 ·rcases Pb (ee a0.an6 2) e with e|e
  ·exact aj
  exact aj
 intro _ e m;apply Ir e m<;>intro e m
 ·refine sg 3 [0,1,0,14] ?_;intro _ e m;apply wg 1;simp[e];refine WB m 999 999 [] [] (λa f=>f.1 2=sB a) λb _ g m=>?_;apply Ir e m<;>intro e m
  ·exact iC
  refine sw [0,1] ?_;intro _ e m;apply Ir e m<;>intro e m
  ·exact iC
  apply Ir e m<;>intro e m
  ·exact iC
  refine sw [8,0,15] ?_;intro c _ e m;exact iC
 apply wg 1;simp[e];refine WB m 999 999 [] [] (λv24 f=>f.1 2=sB v24) λd _ g m=>?_;apply Ir e m<;>intro e m
 ·exact iC
 refine sw [0,1] ?_;intro _ e m;apply Ir e m<;>intro e m
 ·exact iC
 apply Ir e m<;>intro e m
 ·exact iC
 refine sw [8,0,15] ?_;intro h _ e m;apply Ir e m<;>intro e m
 ·exact iC
 refine sw [8,0,15] ?_;intro i _ e m;exact iC
@[instance] def aao:=@Kc.mk prog 196 _ @J'
def Kx{n:Nat}:C1 prog 226 (fP n) sI Tm.av:=by
 refine i1 λn ih=>v1 func226 λT H a0 r m e=>?_;rw[fP] at m;simp[e];exact Wb e m 999 9 [7,8] [] (λs2 f=>f.1 3=sI s2)
@[instance] def aa8:=@Kc.mk prog 226 _ @Kx
def KA{n:Nat}:C1 prog 197 (ma n) sI Fm.av:=by
 refine i1 λn ih=>v1 func197 λT H a0 r m e=>?_;rw[ma] at m;simp[e];refine Wa e m 999 11 [9,10] [1] (λs2 f=>f.1 3=sI s2) [11,0] ?_;intro _ s2 e m;exact Wb e m 999 23 [21,22] [] (λa f=>f.1 3=sI a)
@[instance] def aai:=@Kc.mk prog 197 _ @KA
def J5:C1 prog 144 jV sI Fm.av:=by
 refine v1 func144 λT H a0 r m e=>?_;rw[jV] at m;exact aa
@[instance] def aaJ:=@Kc.mk prog 144 _ @J5
def Ld:C1 prog 160 l8 sI Tm.av:=by
 refine v1 func160 λT H a0 r m e=>?_;rw[l8] at m;exact aa
@[instance] def aaW:=@Kc.mk prog 160 _ @Ld
def QV:C2 prog 126 kK Ty.av Ty.av Ty.av:=by
 refine v2 func126 λT H a0 c r m e=>?_;rw[kK] at m;refine sw [0,4,0,4] ?_;intro a b e m;have e:=Aj e (show AV.agg [sI 4,AV.slice .gx [Ty.av a,Ty.av b]]=Ty.av (Ty.mk 4 [a,b]) by rw[Ty.eQ];rfl);exact au
@[instance] def adY:=@Kc.mk prog 126 _ @QV
def So:C1 prog 227 tN (t2 Ty.av sI) Ty.av:=by
 refine v1 func227 λT H a0 r m e=>?_;rw[tN] at m;exact aa
@[instance] def agf:=@Kc.mk prog 227 _ @So
def Ed:C0 prog 95 mw Ty.av:=by
 refine v0 func95 λT H r m e=>?_;rw[mw] at m;exact au
@[instance] def ado:=@Kc.mk prog 95 _ @Ed
def NO{n:Nat}:C2 prog 79 (fq n) sB Ty.av Ty.av:=by
 refine i2 λn ih=>u2 3 func79 λT H a0 a r m e=>?_;rw[fq] at m;simp[e];refine wA 999 999 [] [2,3] (λf=>f.1 19=sB (e_ (eD a0.an6 a.an6) true (eD (ey a0.an7) (ey a.an7)))) [7,0] (λ_ g=>?_) ?_
 ·rcases Pb (eD a0.an6 a.an6) e with e|e
  ·exact aj
  exact aj
 intro _ e m;exact Wb e m 999 23 [22] [2,3] nI
@[instance] def abF:=@Kc.mk prog 79 _ @NO
def P2:C2 prog 125 sJ Ty.av Ty.av Ty.av:=by
 refine v2 func125 λT H a0 c r m e=>?_;rw[sJ] at m;refine sw [0,4,0,4] ?_;intro a b e m;have e:=Aj e (show AV.agg [sI 3,AV.slice .gx [Ty.av a,Ty.av b]]=Ty.av (Ty.mk 3 [a,b]) by rw[Ty.eQ];rfl);exact au
@[instance] def adT:=@Kc.mk prog 125 _ @P2
def Nj:C0 prog 124 sA Ty.av:=by
 refine v0 func124 λT H r m e=>?_;rw[sA] at m;exact au
@[instance] def ab4:=@Kc.mk prog 124 _ @Nj
def J7{n:Nat}:C2 prog 161 (fx n) (t2 Ty.av sI) (sL Ty.av) Tm.av:=by
 refine i2 λn ih=>v2 func161 λT H a0 j r m e=>?_;rw[fx] at m;apply Iq e m<;>intro e m
 ·exact aa
 apply Iq e m<;>intro e m
 ·have⟨e,m⟩:=Ck e m;simp[e];refine Ad (f:=Ty.av) a0 [j.dL] (gL.full (D:=[])) Fw e.2 ?_;exact aa
 simp[e];refine Re e m 0 (λB c f h=>∃a,(h=H/\f.1 0=sL Ty.av a0/\f.1 8=sT a Ty.av c/\f.1 67=sL Tm.av j.an7/\f.1 68=sI (ey j.an7)/\f.1 69=sI B/\bx f 3 (Tm.av j).cells/\bx f 4 [sI 0,nL])/\Ow f [86] a c) (by exact⟨.full,VW,gL.full⟩) (λB _ c k _ _ _ _ E e m z p=>?_) (λc k _ _ E m=>?_)
 ·have⟨a,E,b⟩:=E;have e:=Aj e E;apply wg 999;simp[e];refine zp m ih λv _ m=>?_;refine Il e m λe m=>?_;have⟨e,m⟩:=Ck e m;simp[e];refine Ao (f:=Ty.av) c [v] b Fw e.2 ?_;simp[e];cases m;exact p _ _ _ ⟨(.loc 86 (k.fa 86+1)),VW,(On 86)⟩ z
 have⟨a,E,b⟩:=E;have e:=Aj e E;apply wg 13;dsimp only[eo]at m;simp[e];refine oo m λ_ m=>?_;simp[e];refine oo m λw m=>?_;simp[e];apply Iq e m<;>intro e m
 ·apply wg 2;simp[e];refine yC m 999 999 (λq f h=>∃v24 d,(h=H/\f.1 8=sT d Ty.av c/\f.1 111=sB v24/\bx f 4 [sI 0,nL])/\Ow f [86] d c/\q v24=some r) ?_ (λq _ g m=>?_)
  ·rintro _ _ ⟨v24,d,E,x,m⟩;exact aa
  have⟨C,e,m⟩:=iR e m;apply Iq e m<;>intro e m
  ·simp[e];exact g _ _ ⟨true,a,VW,b,m⟩
  have⟨F,e,m⟩:=iR e m;have⟨G,e,m⟩:=iR e m;simp[e];refine fO m λy m=>?_;simp[e];exact g _ _ ⟨(m6 y),a,VW,b,m⟩
 apply wg 3;simp[e];apply Iq e m<;>intro e m
 ·exact aa
 apply wg 3;simp[e];apply Iq e m<;>intro e m
 ·exact aa
 apply wg 3;simp[e];apply Iq e m<;>intro e m
 ·apply wg 2;simp[e];refine yC m 999 999 (λs f h=>∃v37,(h=H/\f.1 162=sB v37/\bx f 3 (Tm.av j).cells/\bx f 4 [sI 0,nL])/\s v37=some r) ?_ (λs _ g m=>?_)
  ·rintro _ _ ⟨v37,E,m⟩;exact aa
  have⟨I,e,m⟩:=iR e m;simp[e];refine fO m λ_ m=>?_;apply Ir e m<;>intro e m
  ·exact iC
  have⟨J,e,m⟩:=iR e m;simp[e];refine fO m λ_ m=>?_;simp[e];refine fO m λ_ m=>?_;simp[e];refine fO m λ_ m=>?_;apply Ir e m<;>intro e m
  ·exact iC
  have⟨K,e,m⟩:=iR e m;simp[e];refine fO m λ_ m=>?_;exact iC
 apply wg 3;simp[e];apply Iq e m<;>intro e m
 ·exact aa
 apply wg 3;simp[e];apply Iq e m<;>intro e m
 ·apply wg 2;simp[e];refine yC m 999 999 (λt f h=>∃l,(h=H/\f.1 185=sB l/\bx f 4 [sI 0,nL]/\bx f 14 (Ty.av w).cells)/\t l=some r) ?_ (λt _ g m=>?_)
  ·rintro _ _ ⟨l,E,m⟩;exact aa
  have⟨L,e,m⟩:=iR e m;simp[e];refine fO m λ_ m=>?_;apply Ir e m<;>intro e m
  ·exact iC
  have⟨M,e,m⟩:=iR e m;simp[e];refine fO m λ_ m=>?_;exact iC
 apply wg 3;simp[e];apply Iq e m<;>intro e m
 ·apply wg 2;simp[e];refine yC m 999 999 (λu f h=>∃o,(h=H/\f.1 220=sB o/\bx f 3 (Tm.av j).cells/\bx f 4 [sI 0,nL])/\u o=some r) ?_ (λu _ g m=>?_)
  ·rintro _ _ ⟨o,E,m⟩;exact aa
  have⟨N,e,m⟩:=iR e m;simp[e];refine fO m λ_ m=>?_;apply Ir e m<;>intro e m
  ·exact iC
  have⟨O,e,m⟩:=iR e m;simp[e];refine fO m λ_ m=>?_;simp[e];refine fO m λ_ m=>?_;simp[e];refine fO m λ_ m=>?_;simp[e];refine fO m λ_ m=>?_;apply Ir e m<;>intro e m
  ·exact iC
  have⟨P,e,m⟩:=iR e m;simp[e];refine fO m λ_ m=>?_;exact iC
 apply wg 3;simp[e];apply Iq e m<;>intro e m
 ·exact aa
 apply wg 1;simp[e];refine wj 999 0 (λf h=>∃i,(h=H/\f.1 8=sT i Ty.av c/\f.1 237=sB (e_ (ee j.an6 11) true (ee j.an6 12))/\bx f 3 (Tm.av j).cells/\bx f 4 [sI 0,nL])/\Ow f [86] i c) (λ_ g=>?_) ?_
 ·rcases Pb (ee j.an6 11) e with e|e
  ·simp[e];exact g _ _ ⟨a,VW,b⟩
  simp[e];exact g _ _ ⟨a,VW,b⟩
 rintro _ _ ⟨i,E,A⟩;exact aa
@[instance] def aas:=@Kc.mk prog 161 _ @J7
def JW:C2 prog 118 pK (t2 Ty.av sI) (sL Ty.av) Tm.av:=by
 refine v2 func118 λT H a0 a r m e=>?_;rw[pK] at m;exact aa
@[instance] def aaS:=@Kc.mk prog 118 _ @JW
def Kd{n:Nat}:C2 prog 195 (mT n) sI (sL Ty.av) Fm.av:=by
 refine i2 λn ih=>v2 func195 λT H a0 d r m e=>?_;rw[mT] at m;simp[e];refine Re e m 0 (λl _ f h=>h=H/\f.1 0=sL Ty.av a0/\f.1 13=sL Tm.av d.ea/\f.1 14=sI (ey d.ea)/\f.1 15=sI l/\bx f 3 (Fm.av d).cells) VW (λl _ _ i _ _ _ _ E e m z p=>?_) (λ_ i _ _ E m=>?_)
 ·exact aa
 have e:=Aj e E;refine sg 5 [11,0] ?_;intro e m;refine Wj m 999 999 (λj f h=>∃c b,(h=H/\f.1 0=sT b Ty.av c/\f.1 3=AV.gX 3 (f.gen 3) 0/\f.box 3=some (Fm.av d).cells)/\j c=some r) (λj _ g m=>?_) ?_
 ·refine sw [0,1] ?_;intro _ e m;apply Ir e m<;>intro e m
  ·simp[e];exact g _ _ ⟨_,.gx,VW,m⟩
  refine sw [9,0] ?_;intro e m;refine Ad (f:=Ty.av) a0 [d.dL] (gL.full (D:=[])) Fw e.2 ?_;simp[e];exact g _ _ ⟨_,(.loc 44 (i.fa 44+1)),VW,m⟩
 rintro _ _ ⟨c,b,E,m⟩;have e:=Aj e E;simp[e];refine Wr e m 999 (λk _ f h=>∃a,h=H/\f.1 0=sT a Ty.av c/\f.1 46=sL Fm.av d.an7/\f.1 47=sI (ey d.an7)/\f.1 48=sI k) ⟨b,VW⟩ (λ_ _ _ _ E m=>?_) (λk _ _ _ _ _ _ _ E e m z p=>?_)
 ·have⟨a,E⟩:=E;exact aa
 have⟨a,E⟩:=E;refine sw [10,0,15,7,0] ?_;intro _ e m;cases m;exact p _ _ _ ⟨a,VW⟩ z
@[instance] def aa2:=@Kc.mk prog 195 _ @Kd
def JK:C2 prog 143 kz sI (sL Ty.av) Fm.av:=by
 refine v2 func143 λT H a0 a r m e=>?_;rw[kz] at m;exact aa
@[instance] def aaQ:=@Kc.mk prog 143 _ @JK
def B1:C2 prog 103 jq sI (sL Ty.av) Fm.av:=by
 refine v2 func103 λT H a0 a r m e=>?_;rw[jq] at m;exact aa
@[instance] def aa4:=@Kc.mk prog 103 _ @B1
def GV:C2 prog 108 sY sI (sL Fm.av) Sq.av:=by
 refine v2 func108 λT H a0 a r m e=>?_;rw[sY] at m;refine sw [7,0] ?_;intro e m;refine Wa e m 999 17 [15,16] [3] nI [11,0,1,7,7,0] ?_;intro _ _ _ e m;exact Wb e m 999 40 [38,39] [3] nI
@[instance] def WJ:=@Kc.mk prog 108 _ @GV
def JL:C1 prog 199 pF (t2 eY.av sB) sI:=by
 refine u1 6 func199 λT H a0 r m e=>?_;rw[pF] at m;simp[e];refine wA 999 0 [4] [2] (λf=>f.1 5=sB (e_ (ee a0 1) true (ee a0 2))) [13] (λ_ g=>?_) ?_
 ·rcases Pb (ee a0 1) e with e|e
  ·exact aj
  exact aj
 intro _ e m;apply wg 1;simp[e];refine wA 999 0 [4] [2] (λf=>f.1 9=sB (e_ (ee a0 3) true (ee a0 7))) [13] (λ_ g=>?_) ?_
 ·rcases Pb (ee a0 3) e with e|e
  ·exact aj
  exact aj
 intro _ e m;apply wg 1;simp[e];refine wA 999 0 [4] [2] (λf=>f.1 13=sB (e_ (ee a0 4) true (e_ (ee a0 5) true (ee a0 20)))) [13] (λ_ g=>?_) ?_
 ·rcases Pb (ee a0 4) e with e|e
  ·exact aj
  rcases Pb (ee a0 5) e with e|e
  ·exact aj
  exact aj
 intro _ e m;refine sg 3 [0,13] ?_;intro e m;apply wg 1;simp[e];refine wA 999 0 [4] [2] (λf=>f.1 21=sB (e_ (ee a0 8) true (ee a0 12))) [13] (λ_ g=>?_) ?_
 ·rcases Pb (ee a0 8) e with e|e
  ·exact aj
  exact aj
 intro _ e m;apply wg 1;simp[e];refine wA 999 0 [4] [2] (λf=>f.1 25=sB (e_ (ee a0 9) true (ee a0 13))) [13] (λ_ g=>?_) ?_
 ·rcases Pb (ee a0 9) e with e|e
  ·exact aj
  exact aj
 intro _ e m;apply wg 1;simp[e];refine wA 999 0 [4] [2] (λf=>f.1 29=sB (e_ (ee a0 10) true (ee a0 14))) [13] (λ_ g=>?_) ?_
 ·rcases Pb (ee a0 10) e with e|e
  ·exact aj
  exact aj
 intro _ e m;apply wg 1;simp[e];refine wA 999 0 [4] [2] (λf=>f.1 33=sB (e_ (ee a0 11) true (ee a0 15))) [13] (λ_ g=>?_) ?_
 ·rcases Pb (ee a0 11) e with e|e
  ·exact aj
  exact aj
 intro _ e m;apply wg 1;simp[e];refine wA 999 999 [4] [2] (λf=>f.1 37=sB (e_ (ee a0 16) true (ee a0 17))) [] (λ_ g=>?_) ?_
 ·rcases Pb (ee a0 16) e with e|e
  ·exact aj
  exact aj
 intro _ e m;exact aa
@[instance] def aa5:=@Kc.mk prog 199 _ @JL
def J6{n:Nat}:C1 prog 146 (n_ n) sB Pf.av:=by
 refine i1 λn ih=>u1 5 func146 λT H a0 r m e=>?_;rw[n_] at m;refine sw [0,2,0] ?_;intro a b e m;refine wA 999 0 [] [1,3] (λf=>f.1 57=sB (e_ b (e_ (eD (ey a0.ea) a.ea) true (e_ (eD (ey a0.fM) a.fM) true (e_ (eD (ey a0.an7) a.an7) true (e_ (rA a0.an9 0) true (e_ a.an9 false (eD a0.an9 0)))))) true)) [13] (λ_ g=>?_) ?_
 ·rcases Pb b e with e|e;rotate_left
  ·exact aj
  rcases Pb (eD (ey a0.ea) a.ea) e with e|e
  ·exact aj
  rcases Pb (eD (ey a0.fM) a.fM) e with e|e
  ·exact aj
  rcases Pb (eD (ey a0.an7) a.an7) e with e|e
  ·exact aj
  rcases Pb (rA a0.an9 0) e with e|e
  ·exact aj
  rcases Pb a.an9 e with e|e
  ·exact aj
  exact aj
 intro _ e m;apply wg 3;simp[e];refine WA m 999 999 [] [1] (λc f=>f.1 76=sB c) [7,0] (λd _ g m=>?_) ?_
 ·apply Ir e m<;>intro e m
  ·refine sw [0,1] ?_;intro _ e m;exact iC
  refine sw [0,1] ?_;intro _ e m;apply Iq e m<;>intro e m
  ·exact iC
  exact iC
 intro _ c e m;refine Wa e m 999 80 [78,79] [1] nI [11,0] ?_;intro _ _ e m;refine Wa e m 999 91 [89,90] [1] nI [11,0] ?_;intro _ _ e m;exact Wb e m 999 102 [100,101] [] nI
@[instance] def aa':=@Kc.mk prog 146 _ @J6
def JZ{n:Nat}:C1 prog 202 (rv n) sB Pf.av:=by
 refine i1 λn ih=>v1 func202 λT H a0 r m e=>?_;rw[rv] at m;simp[e];refine Wa e m 999 12 [10,11] [1] nI [11,0] ?_;intro _ _ e m;refine Wa e m 999 23 [21,22] [1] nI [11,0] ?_;intro _ _ e m;exact Wb e m 999 34 [32,33] [] nI
@[instance] def aaz:=@Kc.mk prog 202 _ @JZ
def JJ{n:Nat}:C1 prog 203 (qZ n) sI Pf.av:=by
 refine i1 λn ih=>v1 func203 λT H a0 r m e=>?_;rw[qZ] at m;simp[e];refine Wa e m 999 13 [11,12] [1] (λs2 f=>f.1 3=sI s2) [11,0] ?_;intro _ s2 e m;refine Wa e m 999 25 [23,24] [1] (λa f=>f.1 3=sI a) [11,0] ?_;intro _ a e m;exact Wb e m 999 37 [35,36] [] (λb f=>f.1 3=sI b)
@[instance] def aaU:=@Kc.mk prog 203 _ @JJ
def MJ:C1 prog 147 yI sB Pf.av:=by
 refine u1 2 func147 λT H a0 r m e=>?_;rw[yI] at m;simp[e];refine WB m 999 999 [] [] (λv2 f=>f.1 2=sB v2) λa _ g m=>?_;refine sw [0,1] ?_;intro _ e m;apply Ir e m<;>intro e m
 ·exact iC
 refine sw [0,1] ?_;intro _ e m;exact iC
@[instance] def abM:=@Kc.mk prog 147 _ @MJ
def KN:C1 prog 109 tg sI Pf.av:=by
 refine v1 func109 λT H a0 r m e=>?_;rw[tg] at m;exact aa
@[instance] def aaf:=@Kc.mk prog 109 _ @KN
def MZ{n:Nat}:C1 prog 111 (lF n) Fm.av Fm.av:=by
 refine i1 λn ih=>v1 func111 λT H a0 r m e=>?_;rw[lF] at m;refine sw [0,4,0] ?_;intro t e m;refine Tc e m 999 17 [15,16] [1,2] [26] (λl=>l) (λl c f=>bx f 3 [sI a0.an6,sI t.an6,sL Ty.av t.an7,sT c Tm.av l,nL]) [11,0] (λw _ l q _ _ _ _ E e m z p=>?_) ?_
 ·have⟨c,E,i⟩:=E;refine sw [20,0,4,9,0] ?_;intro u e m;refine Ad (f:=Tm.av) l [u] i xS e.2 ?_;simp[e];cases m;exact p _ _ _ ⟨(.loc 26 (q.fa 26+1)),VW,(On 26)⟩ z
 intro q l c i e m;refine Wr e m 999 (λs j f h=>∃a b,(h=H/\f.1 30=sL Fm.av a0.an7/\f.1 31=sI (ey a0.an7)/\f.1 32=sI s/\bx f 2 [sI 0,sI 0,nL,nL,nL]/\bx f 3 [sI a0.an6,sI t.an6,sL Ty.av t.an7,sT a Tm.av l,sT b Fm.av j])/\Ow f [26] a l/\Ow f [41] b j) (by exact⟨c,.full,VW,i,gL.full⟩) (λj o _ _ E m=>?_) (λs _ j o _ _ _ _ E e m z p=>?_)
 ·have⟨a,b,E,k,d⟩:=E;exact aa
 have⟨a,b,E,k,d⟩:=E;refine sw [10,0,18,9,0] ?_;intro v e m;refine Ad (f:=Fm.av) j [v] d KT e.2 ?_;simp[e];cases m;exact p _ _ _ ⟨a,(.loc 41 (o.fa 41+1)),VW,(gL.other k d Df Df),(On 41)⟩ z
@[instance] def abP:=@Kc.mk prog 111 _ @MZ
def zx:C3 prog 204 q9 Fm.av sI Fm.av Fm.av:=by
 refine v3 func204 λT H a0 c a2 r m e=>?_;rw[q9] at m;refine sw [0,4,0,4] ?_;intro a b e m;have e:=Aj e (show AV.agg [sI a0,sI 0,AV.slice .gx [],AV.slice .gx [],AV.slice .gx [Fm.av a,Fm.av b]]=Fm.av (Fm.mk a0 (Ty.mk 0 []) [] [a,b]) by rw[Fm.eQ];rfl);exact au
@[instance] def aea:=@Kc.mk prog 204 _ @zx
def U9:kj prog 271=true:=by kernel_rfl
def amc(fr:Fr)(L:List Int):Prop:=
 (L=[]/\fr.env 3=.slice .full [])\/∃cap,fr.env 3=.v' 17 (fr.gen 17) L.length cap/\fr.box 17=some (ux (λn=>AV.sc (Value.int .i64 n)) L ((cap-L.length)*1))/\L.length<=cap
def Ak(T:eA){H:dS}{a0:List (Int×Bool)}{r0:List Int}{ak:List (Int×Bool)}{u:Nat}(G:H[u]?=some [tJ (λb=>AV.sc (Value.bool b)) a0])(hm:p9 a0=some (r0,ak)):et prog T 271 [AV.nH u] H (AV.slice .gx (List.map (λn=>AV.sc (Value.int .i64 n)) r0)) (fo H u [tJ (λb=>AV.sc (Value.bool b)) ak]):=by
 unfold p9 at hm;have⟨aF,hm⟩:=lh hm;have⟨V,hm⟩:=lh hm;have an:=eJ G;simp only[wc,G7] at hm;have⟨e1,e2⟩:=hm;subst e2;rw[L2 G]
 have V:(a0.map (·.1)).Nodup:=by simpa[xh] using V
 refine fb.rm (Post:=λx K=>x=AV.slice .gx (List.map (λn=>AV.sc (Value.int .i64 n)) r0)/\∃X,K=H++X) ?_ (λ_ _ h=>⟨_,h.2.choose_spec,by rw[h.1];simp[AV.low,AV.ir],h.1,rfl⟩);refine fb.intro (fn:=f271) func271 rfl U9 (B5 rfl) ?_;refine gd.sr [] λK1 I=>?_;simp;apply I;refine gd.sr [] λK1 I=>?_;simp;apply I;refine gd.tR λK1 I=>?_;refine gd.sr [] λK2 aG=>?_;simp[Jv,G,tJ];apply aG;refine gd.AL λQ nn ex x r=>?_
 refine gd.Pl (λm fr h=>∃(seen:List Nat) (L:List Int),m=IB a0.length seen/\L.length+m<=a0.length/\GP L/\(∀x,x∈L↔∃j∈seen,∃p,a0[j]?=some p/\p.1=x)/\H++[[.mH u a0.length seen]]=h/\fr.env 7=.eK H.length 0/\amc fr L) a0.length ?_ ?_
 ·exact⟨[],[],(S4 _).symm,LA,.nil,LA,LA,rfl,.inl ⟨rfl,rfl⟩⟩
 rintro m fr h ⟨seen,L,aH,aV,hA,hL,rfl,J,hs⟩ K3 aI
 have hi:(H++[[AV.mH u a0.length seen]])[H.length]?=some [AV.mH u a0.length seen]:=LA
 have ho:(H++[[AV.mH u a0.length seen]])[u]?=some [tJ (λb=>AV.sc (Value.bool b)) a0]:=by simp[an,G]
 refine gd.sr [] λK4 ao=>?_;simp only[VJ,ev,J];refine RZ a0 hi ho (λaq=>?_) (λj p W hj=>?_)
 ·--aW end
  simp;apply ao;refine gd.tR λK5 ar=>?_;refine gd.tA λA B ga Y=>?_;simp;apply Y;refine gd.exit ?_;apply ex;apply I
  have hr:y8 [] (a0.map (·.1))=L:=by
   refine GP.eq (AZ _ [] .nil V LA) hA λx=>?_;rw[Be,hL];simp only[ve,false_or,qq];constructor
   ·rintro⟨p,W,rfl⟩;have⟨j,hj⟩:=abA.1 W;exact⟨j,aq j (sX.1 hj).1,p,hj,rfl⟩
   ·rintro⟨j,_,p,W,rfl⟩;exact⟨p,H9 W,rfl⟩
  rw[hr] at e1;subst e1;rcases hs with⟨rfl,o⟩|⟨cap,o,l,hle⟩
  ·refine gd.sr [] λK6 s=>?_;simp[o];apply s;refine gd.ret ?_;simp[vB,o]
  ·refine gd.ajM 3 (f:=λn=>AV.sc (Value.int .i64 n)) (L:=L) (k:=(cap-L.length)*1) (sz:=1) (d:=17) (g:=fr.gen 17) (cap:=cap) (by intro x;simp) (by intro x;simp) (by simp[o]) LA (by simp[l]) ?_;refine gd.sr [] λK6 s=>?_;simp;apply s;refine gd.ret ?_;simp[vB]
 have aw:j<a0.length:=(sX.1 W).1;have aJ:=Vd aw hj
 have aK:(H++[[AV.mH u a0.length (seen++[j])]])[H.length]?=some [AV.mH u a0.length (seen++[j])]:=LA
 have aL:(H++[[AV.mH u a0.length (seen++[j])]])[u]?=some [tJ (λb=>AV.sc (Value.bool b)) a0]:=by simp[an,G]
 have fo:fo (H++[[AV.mH u a0.length seen]]) H.length [AV.mH u a0.length (seen++[j])]=H++[[AV.mH u a0.length (seen++[j])]]:=LA
 rw[fo];have ax:=Ox (f:=λb=>AV.sc (Value.bool b)) a0 aK aL W
 have af:p.1∉L:=by
  rw[hL];rintro⟨j',aM,p',aN,he⟩
  have h1:(a0.map (·.1))[j]?=some p.1:=by rw[Co,W];rfl
  have h2:(a0.map (·.1))[j']?=some p.1:=by rw[Co,aN];simp[he]
  have:j=j':=by
   have aO:j<(a0.map (·.1)).length:=by simpa using aw
   exact(List.getElem?_inj aO V).1 (h1.trans h2.symm)
  subst this;exact hj aM
 have aU:a0.length<=uO:=Qe aF;simp;apply ao;refine gd.tR λK5 ar=>?_;refine gd.tA λA B ga Y=>?_;simp;apply ga;refine gd.skip ?_;apply ar;refine gd.AL λQ1 aP aX x1 r1=>?_;refine gd.sr [] λK6 s=>?_;simp[J,ax];apply s;refine gd.sr [] λK6 s=>?_
 have hlen:∃y,fr.env 3=y/\Gz prog 22 y=some (.sc (.int .i64 L.length)):=by
  rcases hs with⟨rfl,o⟩|⟨cap,o,l,hle⟩
  ·exact⟨_,o,LA⟩
  ·exact⟨_,o,LA⟩
 have⟨y,hy,ay⟩:=hlen;simp[hy,ay];apply s
 refine gd.akf (λfr h=>H++[[.mH u a0.length (seen++[j])]]=h/\fr.env 7=.eK H.length 0/\fr.env 4=.sc (.int .i64 p.1)/\fr.env 5=.sc (.int .i64 (L.length:Int))/\∃cap,fr.env 3=.v' 17 (fr.gen 17) (L.length+1) cap/\fr.box 17=some (ux (λn=>AV.sc (Value.int .i64 n)) (L.take L.length++p.1::L.drop L.length) ((cap-(L.length+1))*1))/\L.length+1<=cap) (λK6 s=>?_) ?_
 ·refine gd.region [] Yx ?_
  have az:fT L [p.1]=L.take L.length++p.1::L.drop L.length:=by simp[fT]
  have aY:(fT L [p.1]).length=L.length+1:=by simp[fT]
  rcases hs with⟨rfl,o⟩|⟨cap,o,l,hle⟩
  ·simp[o];refine rC.afw (f:=λn=>AV.sc (Value.int .i64 n)) [p.1] EB ⟨_,ad1⟩ (by intro x;simp) (by simp[FK,uO]) rfl (by first|rfl|simp) λcap Bp=>?_;simp;apply s;refine⟨rfl,?_,?_,?_,cap,?_,?_,by simpa using Bp⟩<;>simp[J]
  ·simp[o];refine rC.o0 (f:=λn=>AV.sc (Value.int .i64 n)) L [p.1] (cap:=cap) EB ⟨_,ad1⟩ (by intro x;simp) (by simp[fK];omega) LA rfl (by first|rfl|simp) (by simp[l]) hle λg' aA Bp=>?_;rw[az] at Bp;simp only[az];simp;apply s;refine⟨rfl,?_,?_,?_,aA,?_,?_,by simpa using Bp⟩<;>simp[J]
 rintro aZ h6 ⟨rfl,f7,f4,f5,cap,f3,f17,aB⟩
 refine gd.akf (λfr h=>H++[[.mH u a0.length (seen++[j])]]=h/\fr.env 7=.eK H.length 0/\fr.env 4=.sc (.int .i64 p.1)/\∃(i:Nat) (z:Int),fr.env 5=.sc (.int .i64 (i:Int))/\i<=L.length/\(∀a∈L.drop i,a>p.1)/\(i=0\/∃a,L[i-1]?=some a/\¬a>p.1)/\∃cap,fr.env 3=.v' 17 (fr.gen 17) (L.length+1) cap/\fr.box 17=some (ux (λn=>AV.sc (Value.int .i64 n)) (L.take i++z::L.drop i) ((cap-(L.length+1))*1))/\L.length+1<=cap) (λK7 aQ=>?_) ?_
 ·refine gd.AL λQ2 a1 aC x2 r2=>?_
  refine gd.Pl (λi fr h=>H++[[.mH u a0.length (seen++[j])]]=h/\fr.env 7=.eK H.length 0/\fr.env 4=.sc (.int .i64 p.1)/\∃(z:Int),fr.env 5=.sc (.int .i64 (i:Int))/\i<=L.length/\(∀a∈L.drop i,a>p.1)/\∃cap,fr.env 3=.v' 17 (fr.gen 17) (L.length+1) cap/\fr.box 17=some (ux (λn=>AV.sc (Value.int .i64 n)) (L.take i++z::L.drop i) ((cap-(L.length+1))*1))/\L.length+1<=cap) L.length ?_ ?_
  ·exact⟨rfl,f7,f4,p.1,f5,jy _,LA,cap,f3,f17,aB⟩
  clear f7 f4 f5 f3 f17 aB hy ay J hs;rintro i fr h ⟨rfl,J,e4,z,U,C,O,cap,o,l,hle⟩ K8 aR
  have stop:∀fr':Fr,fr'.env 7=.eK H.length 0->fr'.env 4=.sc (.int .i64 p.1)->fr'.env 5=.sc (.int .i64 (i:Int))->fr'.env 3=fr.env 3->fr'.gen=fr.gen->fr'.box=fr.box->(i=0\/∃a,L[i-1]?=some a/\¬a>p.1)->K7 fr' (H++[[.mH u a0.length (seen++[j])]]):=by
   intro fr' g7 g4 g5 g3 gg Y Z;exact aQ _ _ ⟨rfl,g7,g4,i,z,g5,C,O,Z,cap,by rw[g3,o,gg],by rw[Y,l],hle⟩
  refine gd.tR λK9 aS=>?_;refine gd.sr [] λa6 ad=>?_;obtain⟨c,F⟩:∃c:Int,c=(i:Int):=⟨_,rfl⟩;rw[<-F] at U;cases i with
  |zero=>
   have Z:oC c 0=false:=by rw[F];decide
   simp[U,Z];apply ad;refine gd.tA λA B ga Y=>?_;simp;apply Y;refine gd.exit ?_;apply aC;refine stop _ ?_ ?_ ?_ ?_ ?_ ?_ (.inl rfl)<;>simp[J,e4,U,F]
  |succ i=>
   have Z:oC c 0=true:=by rw[F];simp[oC]
   obtain⟨c',ah⟩:∃c':Int,c'=(i:Int):=⟨_,rfl⟩
   have R:fH .i64 c 1=c':=by rw[F,ah];exact Yw xL
   obtain⟨x,hx⟩:∃x,L[i]?=some x:=⟨_,qp xL⟩
   have D:(L.take (i+1)++z::L.drop (i+1)).length=L.length+1:=Xw
   have ae:dX (L.take (i+1)++z::L.drop (i+1)) c'=some x:=by
    unfold dX;rw[dO xL,ah,Cm,zk (by rw[Cy];omega),RQ,dO xL,hx]
   have S:0<=c'/\c'<((L.length+1:Nat):Int):=xL
   have q:0<=c/\c<((L.length+1:Nat):Int):=xL
   have ai:=QS (P:=prog) (t:=3) (f:=λn=>AV.sc (Value.int .i64 n)) (k:=(cap-(L.length+1))*1) YG (by intro x;simp) ae;generalize hM:L.take (i+1)++z::L.drop (i+1)=M at l D ae ai;generalize hN:L.length+1=N at o l hle D S q ai
   have aD:∀fr':Fr,fr'.gen 17=fr.gen 17->fr'.box 17=fr.box 17->ud prog fr' (H++[[AV.mH u a0.length (seen++[j])]]) 3 (.gX 17 (fr.gen 17) (Pu c'.toNat 1))=some (.sc (.int .i64 x)):=by
    intro fr' g1 g2;show(if fr.gen 17=fr'.gen 17 then(match fr'.box 17 with|some cs=>mr prog 3 cs (Pu c'.toNat 1)|none=>none)else none)=_;rw[dO g1.symm,g2,l];exact ai
   simp[U,o,Z,R,S,aD,e4,-ud];apply ad;have a7:M.length=N:=D
   have v:dX M c=some z:=by
    unfold dX;rw[dO xL,F,Cm,<-hM,CD Xw];simp[Cy,show min (i+1) L.length=i+1 from by omega]
   have w:CN M c x=L.take i++x::L.drop i:=by
    have hd:L.drop i=x::L.drop (i+1):=by
     rw[M5 (by omega:i<L.length)]
     congr 1
     exact(sX.1 hx).2
    have ht:L.take (i+1)=L.take i++[x]:=by rw[ahx,hx];rfl
    unfold CN;rw[F,Cm,<-hM,hd,akY _ _ Xw];rw[Cy,show min (i+1) L.length=i+1 from by omega,Nat.sub_self,akE,ht,vY];rfl
   refine gd.tA λA B ga Y=>?_;rcases Bool.eq_false_or_eq_true (oC x p.1)with hgx|hgx
   ·simp[hgx];apply ga;refine gd.skip ?_;apply aS;refine gd.AL λQ3 aT a8 x3 r3=>?_;refine gd.sr [] λa_ aE=>?_;simp[U,o,R,S,q,aD,e4,-ud];refine AE.arr (f:=λn=>AV.sc (Value.int .i64 n)) (L:=M) (k:=(cap-N)*1) x YG (by intro x;simp) LA (x:=z) v LA (by simp[l]) LA ?_;simp;apply aE;refine gd.region [] Yx ?_;simp[U,R];apply aT;rw[w];refine aR _ _ i (X7 _) ⟨rfl,?_,?_,x,?_,xL,?_,cap,?_,?_,by rw[hN];exact hle⟩
    ·simp[J]
    ·simp[e4]
    ·simp[ah]
    ·intro a ha
     have hd:L.drop i=x::L.drop (i+1):=by
      rw[M5 (by omega:i<L.length)]
      congr 1
      exact(sX.1 hx).2
     rw[hd] at ha;rcases lX.1 ha with rfl|ha
     ·simpa[oC] using hgx
     ·exact O a ha
    ·simp[o,hN]
    ·simp[hN]
   ·simp[hgx];apply Y;refine gd.exit ?_;apply aC;refine stop _ ?_ ?_ ?_ ?_ ?_ ?_ (.inr ⟨x,by simpa using hx,by simpa[oC] using hgx⟩)<;>simp[J,e4,U,o,F]
 rintro fr h ⟨rfl,J,e4,i,z,U,C,O,Z,cap,o,l,hle⟩;refine gd.region [] Yx ?_;obtain⟨c,F⟩:∃c:Int,c=(i:Int):=⟨_,rfl⟩;rw[<-F] at U
 have D:(L.take i++z::L.drop i).length=L.length+1:=Xw
 have v:dX (L.take i++z::L.drop i) c=some z:=by
  unfold dX;rw[dO xL,F,Cm,CD Xw];simp[Cy,Xr C]
 have w:CN (L.take i++z::L.drop i) c p.1=Ci p.1 L:=by
  rw[R0 L i hA af C O Z];unfold CN;rw[F,Cm,akY _ _ Xw,Cy,Xr C,Nat.sub_self,akE]
 have q:0<=c/\c<((L.length+1:Nat):Int):=xL
 have hlen:(Ci p.1 L).length=L.length+1:=by rw[R0 L i hA af C O Z];simp;omega
 generalize hM:L.take i++z::L.drop i=M at l D v w;generalize hN:L.length+1=N at o l hle D q hlen;simp[U,o,e4,q];refine AE.arr (f:=λn=>AV.sc (Value.int .i64 n)) (L:=M) (k:=(cap-N)*1) p.1 YG (by intro x;simp) LA (x:=z) v LA (by simp[l]) LA ?_;simp;apply aP;rw[w];refine aI _ _ _ (by rw[aH];exact aJ) ⟨seen++[j],Ci p.1 L,rfl,xL,HF p.1 L af hA,?_,rfl,?_,.inr ⟨cap,?_,?_,by rw[hlen];exact hle⟩⟩
 ·intro x;rw[zR,hL];constructor
  ·rintro(rfl|⟨j',h1,p',h2,h3⟩)
   ·exact⟨j,LA,p,W,rfl⟩
   ·exact⟨j',by simp[h1],p',h2,h3⟩
  ·rintro⟨j',h1,p',h2,h3⟩;rcases tp.1 h1 with h1|h1
   ·exact .inr ⟨j',h1,p',h2,h3⟩
   ·simp only[EU] at h1;subst h1;rw[W] at h2;obtain rfl:=iq h2;exact .inl h3.symm
 ·simp[J]
 ·simp[o,hlen]
 ·simp[hlen]
def nx(T:eA){H:dS}{a0 b d:List Int}(hm:gi a0 b=some d):et prog T 205 [sL sI a0,sL sI b] H (sL sI d) H:=by
 rw[gi] at hm;refine fb.rm (Post:=λx K=>x=sL sI d/\∃X,K=H++X) ?_ (λ_ _ h=>⟨_,h.2.choose_spec,by rw[h.1];simp[AV.low,AV.ir],h.1,rfl⟩);have e:=trivial;refine wi an' func205 [] [] 999 ?_;simp[e];refine Re e hm 999 (λi s2 f h=>h=H++[[tJ sB s2]]/\f.1 1=sL sI b/\f.1 5=AV.nH (List.length H)/\f.1 11=sL sI a0/\f.1 12=sI (ey a0)/\f.1 13=sI i) VW (λi _ s2 _ _ _ _ _ E e m z p=>?_) (λs2 _ _ _ E m=>?_)
 ·have e:=Aj e E;simp[e];refine tq.i64 (f:=sB) s2 true SB uA VW VW ?_;exact al
 refine sw [10,11,0] ?_;intro e m;refine Wr e m 999 (λc a f h=>h=H++[[tJ sB a]]/\f.1 5=AV.nH (List.length H)/\f.1 20=sL sI b/\f.1 21=sI (ey b)/\f.1 22=sI c) VW (λa _ _ _ E m=>?_) (λc _ a _ _ _ _ _ E e m z p=>?_)
 ·refine sw [10,11,0] ?_;intro e m;refine zp m (Ak T VW) λ_ d22 m=>?_;exact au
 have e:=Aj e E;simp[e];refine tq.i64 (f:=sB) a true SB uA VW VW ?_;exact al
@[instance] def aaN:=@Kc.mk prog 205 _ @nx
def m0:C3 prog 206 eB sI dM.av sI sI:=by
 refine u3 3 func206 λT H a0 a a2 r m e=>?_;rw[eB] at m;simp[e];refine wB 999 999 [] [] (λf=>f.1 20=sB (e_ (oC (eL .i64 (ey a0.an_) a) 16) true (oC (eL .i64 (ey a0.aob) a2) 16))) λ_ g=>?_;rcases Pb (oC (eL .i64 (ey a0.an_) a) 16) e with e|e
 ·exact aj
 exact aj
@[instance] def PU:=@Kc.mk prog 206 _ @m0
def np:C2 prog 207 fY dM.av dM.av Fm.av:=by
 refine v2 func207 λT H a0 a r m e=>?_;rw[fY] at m;refine sw [9,0] ?_;intro e m;refine Ad (f:=Fm.av) a0.aob [a] (gL.full (D:=[])) KT e.2 ?_;exact au
@[instance] def QC:=@Kc.mk prog 207 _ @np
def M0{n:Nat}:C2 prog 268 (lB n) sB Tm.av Tm.av:=by
 refine i2 λn ih=>u2 3 func268 λT H a0 a r m e=>?_;rw[lB] at m;simp[e];refine WA m 999 999 [] [2,3] (λv2 f=>f.1 34=sB v2) [7,0] (λb _ g m=>?_) ?_
 ·apply Iq e m<;>intro e m
  ·exact iC
  apply Iq e m<;>intro e m
  ·exact iC
  refine sw [0,1] ?_;intro _ e m;apply Ir e m<;>intro e m
  ·exact iC
  exact iC
 intro _ v2 e m;exact Wb e m 999 38 [37] [2,3] nI
@[instance] def ac3:=@Kc.mk prog 268 _ @M0
def KZ{n:Nat}:C2 prog 304 (k8 n) sB Tm.av sI:=by
 refine i2 λn ih=>v2 func304 λT H a0 a r m e=>?_;rw[k8] at m;refine sw [7,0] ?_;intro e m;exact Wb e m 999 14 [1,12,13] [] nI
@[instance] def aaI:=@Kc.mk prog 304 _ @KZ
def DG:C1 prog 325 vo sB Tm.av:=by
 refine u1 8 func325 λT H a0 r m e=>?_;rw[vo] at m;refine sw [0,13] ?_;intro e m;apply wg 3;simp[e];apply Iq e m<;>intro e m
 ·apply wg 1;simp[e];refine WB m 999 999 [] [] (λv3 f=>f.1 2=sB v3) λb _ g m=>?_;have⟨c,e,m⟩:=iR e m;apply Iq e m<;>intro e m
  ·exact iC
  exact iC
 apply wg 4;apply Iq e m<;>intro e m
 ·simp[e];refine WB m 999 999 [] [] (λv9 f=>f.1 2=sB v9) λd _ g m=>?_;have⟨a,e,m⟩:=iR e m;apply Iq e m<;>intro e m
  ·exact iC
  exact iC
 simp[e];refine wA 999 999 [] [1] (λf=>f.1 45=sB (e_ (ee a0.an6 11) true (ee a0.an6 12))) [] (λ_ g=>?_) ?_
 ·rcases Pb (ee a0.an6 11) e with e|e
  ·exact aj
  exact aj
 intro _ e m;exact aa
@[instance] def abC:=@Kc.mk prog 325 _ @DG
def KO:C1 prog 331 ld sI Tm.av:=by
 refine v1 func331 λT H a0 r m e=>?_;rw[ld] at m;exact aa
@[instance] def aa0:=@Kc.mk prog 331 _ @KO
def Lf{n:Nat}:C2 prog 341 (mU n) sI Tm.av sI:=by
 refine i2 λn ih=>u2 4 func341 λT H a0 a r m e=>?_;rw[mU] at m;simp[e];refine wA 0 999 [1] [2] (λf=>f.1 5=sI (e_ (e_ (ee a0.an6 1) (ee a0.an9 a) false) (eL .i64 0 1) 0)) [0] (λ_ g=>?_) ?_
 ·refine wA 999 999 [1,5] [2] (λf=>f.1 16=sB (e_ (ee a0.an6 1) (ee a0.an9 a) false)) [] (λ_ g=>?_) ?_
  ·rcases Pb (ee a0.an6 1) e with e|e
   ·exact aj
   exact aj
  intro _ e m;rcases Pb (e_ (ee a0.an6 1) (ee a0.an9 a) false) e with e|e
  ·exact aj
  exact aj
 intro _ e m;exact Wb e m 999 22 [1,20,21] [2] (λb f=>f.1 5=sI b)
@[instance] def aaC:=@Kc.mk prog 341 _ @Lf
def z7:C1 prog 326 rE sI Tm.av:=by
 refine v1 func326 λT H a0 r m e=>?_;rw[rE] at m;exact aa
@[instance] def YI:=@Kc.mk prog 326 _ @z7
def RF{n:Nat}:C3 prog 310 (rX n) Tm.av Tm.av sI sI:=by
 refine i3 λn ih=>u3 4 func310 λT H a0 h a2 r m e=>?_;rw[rX] at m;simp[e];refine wA 0 999 [1,2] [3,6] (λf=>bx f 7 [sI a0.an6,sI (e_ (e_ (ee a0.an6 1) (qn a0.an9 h) false) (eL .i64 a0.an9 a2) a0.an9),sI a0.dL.an6,sL Ty.av a0.dL.an7,nL]) [0] (λ_ g=>?_) ?_
 ·refine wA 999 999 [1,2] [3,6,7] (λf=>f.1 25=sB (e_ (ee a0.an6 1) (qn a0.an9 h) false)) [] (λ_ g=>?_) ?_
  ·rcases Pb (ee a0.an6 1) e with e|e
   ·exact aj
   exact aj
  intro _ e m;rcases Pb (e_ (ee a0.an6 1) (qn a0.an9 h) false) e with e|e
  ·exact aj
  exact aj
 intro _ e m;refine Td e m 999 34 [1,2,32,33] [3,6] [48] (λc=>c) (λc a f=>bx f 7 [sI a0.an6,sI (e_ (e_ (ee a0.an6 1) (qn a0.an9 h) false) (eL .i64 a0.an9 a2) a0.an9),sI a0.dL.an6,sL Ty.av a0.dL.an7,sT a Tm.av c]) λj _ c d _ _ _ _ E e m z p=>?_;have⟨a,E,b⟩:=E;refine sw [20,0,4,0,18,9,0] ?_;intro _ i e m;refine Ad (f:=Tm.av) c [i] b xS e.2 ?_;simp[e];cases m;exact p _ _ _ ⟨(.loc 48 (d.fa 48+1)),VW,(On 48)⟩ z
@[instance] def afy:=@Kc.mk prog 310 _ @RF
def Rv{n:Nat}:C4 prog 342 (vX n) Tm.av Tm.av sI sI Tm.av:=by
 refine i4 λn ih=>v4 func342 λT H a0 i a2 a3 r m e=>?_;rw[vX] at m;refine sw [13,0] ?_;intro e m;refine Td e m 999 47 [1,2,45,46] [4,7,8] [62] (λb=>b) (λb a f=>bx f 9 [sI a0.an6,sI a0.an9,sI a0.dL.an6,sL Ty.av a0.dL.an7,sT a Tm.av b]) λj _ b d _ _ _ _ E e m z p=>?_;have⟨a,E,c⟩:=E;refine sw [20,0,4,0,18,9,0] ?_;intro _ h e m;refine Ad (f:=Tm.av) b [h] c xS e.2 ?_;simp[e];cases m;exact p _ _ _ ⟨(.loc 62 (d.fa 62+1)),VW,(On 62)⟩ z
@[instance] def ahy:=@Kc.mk prog 342 _ @Rv
def y5:C1 prog 327 qA Tm.av Tm.av:=by
 refine v1 func327 λT H a0 r m e=>?_;rw[qA] at m;exact aa
@[instance] def W7:=@Kc.mk prog 327 _ @y5
def Vf:kj prog 305=true:=by kernel_rfl
def JT:∀(n:Nat),C2 prog 305 (ox n) (t3 Tm.av sB sB) Tm.av sI:=by
  intro n
  induction n with
  |zero=>
    skip
    all_goals(intro _ _;intros;rename_i hm;cases hm)
  |succ n ih=>
 rintro T H a0 a1 ⟨r0,r1,r2⟩ hm;rw[ox] at hm;refine fb.intro (fn:=f305) func305 rfl Vf (B5 rfl) ?_;refine gd.sr [] λK1 aZ=>?_;simp;apply aZ;refine gd.tR λK3 a6=>?_;refine gd.sr [] λK5 a7=>?_;have⟨x7,a8,N⟩:=ep hm;clear hm
 try dsimp only at N
 simp;refine kB.fn (DG a8) ?_;simp;apply a7;refine gd.tA λbs bt aw ax=>?_;rcases iS N with⟨a,O⟩|⟨a,P⟩
 ·clear N;simp[a];apply aw;refine gd.tR λbu ay=>?_;refine gd.sr [] λbw az=>?_;have⟨bz,aA,B⟩:=ep O;clear O
  try dsimp only at B
  simp[a];refine kB.fn (z7 aA) ?_;simp[a];apply az;refine gd.tA λbA bB aB aC=>?_;rcases iS B with⟨s,Q⟩|⟨s,R⟩
  ·clear B;simp[a,s];apply aB;refine gd.sr [] λbC aD=>?_;simp[a,s];apply aD;refine gd.ret ?_;simp only[wc,G7] at Q;obtain⟨rfl,rfl,rfl⟩:=Q;simp[vB,a,s]
  clear B;simp[a,s];apply aC;refine gd.skip ?_;apply ay;refine gd.sr [] λbD aE=>?_;have⟨bE,aF,G⟩:=ep R;clear R
  try dsimp only at G
  simp[a,s];refine kB.fn (y5 aF) ?_;simp[a,s];apply aE;refine gd.ret ?_;simp only[wc,G7] at G;obtain⟨rfl,rfl,rfl⟩:=G;simp[vB,a,s]
 clear N;simp[a];apply ax;refine gd.skip ?_;apply a6;refine gd.tR λbF aG=>?_;refine gd.sr [] λbG aH=>?_;simp[a];apply aH;have⟨V,S⟩:=lh P;clear P;have⟨a_,aI,I⟩:=nC S;clear S
 try dsimp only at I
 have⟨W,t,r⟩:=ep I;clear I;refine gd.AL λbH a' aJ ba aK=>?_;refine gd.Pl (λn55 fr h=>∃(i56:Nat) (F:Int) (u:Nat) (v:Nat),H=h/\(fr.env 1=sI a1/\fr.env 2=AV.gX 2 u 0/\fr.env 4=AV.gX 4 v 0/\fr.env 23=sL Tm.av a0.an7/\fr.env 24=sI (ey a0.an7)/\fr.env 25=sI F/\fr.gen 2=u/\fr.box 2=some [sI a0.an6,sI a0.an9,sI a0.dL.an6,sL Ty.av a0.dL.an7,sL Tm.av a0.an7]/\fr.gen 4=v/\fr.box 4=some [sI 0,sI 0,sI 0,nL,nL])/\F=(i56:Int)/\i56+n55=List.length a0.an7/\eV a_ (List.drop i56 a0.an7) i56 ()=some W) (List.length a0.an7) ?_ ?_
 ·refine⟨0,0,1,1,?_,⟨?_,?_,?_,?_,?_,?_,?_,?_,?_,?_⟩,rfl,LA,t⟩<;>first|rfl|simp[a]
 rintro n55 U bI ⟨i56,F,u,v,rfl,j,A,bb,t⟩ bJ aL;rcases n55 with _|n55
 ·have b:=Pd (l:=a0.an7) A xL;refine gd.sr [] λbK aM=>?_;simp[j,b,a];apply aM;refine gd.tR λbL bc=>?_;refine gd.tA λbM bN bd aN=>?_;simp[j,b,a];apply aN;refine gd.exit ?_;apply aJ;rw[Ku xL,oH] at t;obtain rfl:=iq t;rw[eo] at r
  try dsimp only at r
  apply aG;refine gd.sr [] λbO aO=>?_;simp[j,b,a];apply aO;refine gd.ret ?_;simp only[wc,G7] at r;obtain⟨rfl,rfl,rfl⟩:=r;simp[vB,j,b,a]
 have b:=TD (l:=a0.an7) A xL;have⟨bP,X,i⟩:=Q7 (l:=a0.an7) A xL;rw[X,fm] at t;have⟨bQ,C,D⟩:=ep t;clear t;rw[aI,<-A] at C
 try dsimp only at C
 refine gd.sr [] λbR aP=>?_;simp[j,b,i,a];apply aP;refine gd.tR λbS aQ=>?_;refine gd.tA λbT bU aR bf=>?_;simp[j,b,i,a];apply aR;refine gd.skip ?_;apply aQ;refine gd.tR λbV aS=>?_;refine gd.AL λbW bg aT bh aU=>?_;refine gd.sr [] λbX aV=>?_;simp[j,b,i,a];apply aV;refine gd.sr [] λbY aW=>?_;have⟨Y,bZ,bj,Z,w⟩:=vQ C;clear C
 try dsimp only at w
 simp[j,b,i,a];refine kB.fn (ih Z) ?_;simp[j,b,i,a];apply aW;refine gd.tR λbk ad=>?_;refine gd.sr [] λbl ae=>?_;simp[j,b,i,a];apply ae;refine gd.tA λbm bn af ah=>?_;rcases iS w with⟨c,J⟩|⟨c,ai⟩;rotate_left
 ·clear w;simp[j,b,i,a,c];apply af;refine gd.exit ?_;apply aT;apply aS;refine gd.region [] Yx ?_;simp[j,b,i,a,c];obtain rfl:=iq ai;rw[fy] at D
  refine aL _ _ n55 (X7 _) ⟨(i56+1),(eL .i64 F 1),u,v,?_,⟨?_,?_,?_,?_,?_,?_,?_,?_,?_,?_⟩,(L9 A xL V),xL,D⟩<;>first|rfl|simp[j,b,i,a,c]
 clear w;simp[j,b,i,a,c];apply ah;refine gd.skip ?_;apply ad;refine gd.sr [] λbo ak=>?_;simp[j,b,i,a,c];apply ak;refine gd.sr [] λbp an=>?_;have⟨ao,K⟩:=lh J;clear J;simp[j,b,i,a,c];refine rC.afw (f:=Tm.av) a0.an7 xS ⟨_,ahp⟩ (by intro x;simp) ao (by first|rfl|simp) (by first|rfl|simp) λy aX=>?_;simp[j,b,i,a,c];apply an;refine gd.sr [] λbq aq=>?_;have⟨aY,o,M⟩:=ep K;clear K
 try dsimp only at M
 have q:=HG o;simp[j,b,i,o,q,a,c];refine AE.arr (f:=Tm.av) (L:=a0.an7) (k:=((y-List.length a0.an7)*5)) Y ad4 (by intro x;simp) (by simp[j,b,i,o,q,a,c]) (x:=aY) (by assumption) (by simp[j,b,i,o,q,a,c]) (by simp[j,b,i,o,q,a,c]) (by simp[j,b,i,o,q,a,c]) ?_;simp[j,b,i,o,q,a,c];apply aq;refine gd.tR λbr ar=>?_;refine gd.ama 12 4 (cs2:=[sI a0.an6,sI a0.an9,sI a0.dL.an6,sL Ty.av a0.dL.an7,AV.v' 42 (U.gen 42+1) (List.length (CN a0.an7 F Y)) y]) (f:=Tm.av) (L:=(CN a0.an7 F Y)) (k:=((y-List.length a0.an7)*5)) (sz:=5) (d:=42) (g:=(U.gen 42+1)) (cap:=y) (by intro x;simp) (by intro x;simp) Df (by simp[j,b,i,o,q,a,c]) (by simp[j,b,i,o,q,a,c]) (by simp[j,b,i,o,q,a,c]) (by simp[j,b,i,o,q,a,c]) ?_;refine gd.region [] Yx ?_;simp[j,b,i,o,q,a,c];apply ar;refine gd.ret ?_;apply aU;apply aK;obtain rfl:=iq M;rw[Dq] at D;obtain rfl:=iq D;rw[pn] at r
 try dsimp only at r
 simp only[wc,G7] at r;obtain⟨rfl,rfl,rfl⟩:=r;simp[vB,j,b,i,o,q,a,c]
def MB{n:Nat}:C2 prog 305 (ox n) (t3 Tm.av sB sB) Tm.av sI:=(JT n)
@[instance] def adq:=@Kc.mk prog 305 _ @MB
def IG:C2 prog 269 kZ (t3 Tm.av sI sI) Tm.av sI:=by
 refine u2 7 func269 λT H a0 b r m e=>?_;rw[kZ] at m;refine sw [0,1,0,13] ?_;intro _ e m;apply wg 3;simp[e];refine WA m 999 999 [] [2,4] (λv3 f=>f.1 1=sI b/\f.1 28=sB v3) [7,0] (λk _ g m=>?_) ?_
 ·apply Iq e m<;>intro e m
  ·exact iC
  apply Iq e m<;>intro e m
  ·exact iC
  refine sw [0,1] ?_;intro _ e m;exact iC
 intro _ v3 e m;refine Wn m 999 (λa f h=>h=H/\f.1 1=sI b/\f.1 8=sI a.1/\bx f 2 [sI a.2.1,sI a.2.2.1,sI a.2.2.2.1,sL Ty.av a.2.2.2.2.1,sL Tm.av a.2.2.2.2.2]/\bx f 4 [sI 0,sI 0,sI 0,nL,nL]) VW (λa _ _ _ _ _ E m z p=>?_);have⟨c,d,i,j,v20,v21⟩:=a;have e:=Aj e E;dsimp only[Au]at m;exact aa
@[instance] def ZY:=@Kc.mk prog 269 _ @IG
def Kk:C3 prog 198 mb sI Tm.av Tm.av sI:=by
 refine v3 func198 λT H a0 a a2 r m e=>?_;rw[mb] at m;exact aa
@[instance] def aa1:=@Kc.mk prog 198 _ @Kk
def KF{n:Nat}:C2 prog 145 (k9 n) sI Fm.av Fm.av:=by
 refine i2 λn ih=>u2 3 func145 λT H a0 a r m e=>?_;rw[k9] at m;simp[e];refine WA m 999 999 [] [2,3] (λv2 f=>f.1 21=sB v2) [7,0] (λb _ g m=>?_) ?_
 ·apply Iq e m<;>intro e m
  ·exact iC
  refine sw [0,1] ?_;intro _ e m;exact iC
 intro _ v2 e m;refine Wa e m 999 25 [24] [2,3] nI [11,0] ?_;intro _ _ e m;exact Wb e m 999 46 [45] [2,3] nI
@[instance] def aad:=@Kc.mk prog 145 _ @KF
def BM:C2 prog 104 jW sI Fm.av Fm.av:=by
 refine v2 func104 λT H a0 a r m e=>?_;rw[jW] at m;exact aa
@[instance] def aaA:=@Kc.mk prog 104 _ @BM
def KW:C1 prog 309 mW sI Fm.av:=by
 refine v1 func309 λT H a0 r m e=>?_;rw[mW] at m;simp[e];refine zq m u7 λ_ m=>?_;refine Il e m λe m=>?_;exact au
@[instance] def aat:=@Kc.mk prog 309 _ @KW
def yz{n:Nat}:C3 prog 281 (im n) Fm.av Fm.av sI sI:=by
 refine i3 λn ih=>v3 func281 λT H a0 u a2 r m e=>?_;rw[im] at m;simp[e];refine Tc e m 999 20 [1,2,18,19] [3,6] [31] (λs2=>s2) (λs2 c f=>bx f 7 [sI a0.an6,sI a0.dL.an6,sL Ty.av a0.dL.an7,sT c Tm.av s2,nL]) [11,0] (λv _ s2 o _ _ _ _ E e m z p=>?_) ?_
 ·have⟨c,E,i⟩:=E;refine sw [20,0,4,9,0] ?_;intro s e m;refine Ad (f:=Tm.av) s2 [s] i xS e.2 ?_;simp[e];cases m;exact p _ _ _ ⟨(.loc 31 (o.fa 31+1)),VW,(On 31)⟩ z
 intro o s2 c i e m;refine Wr e m 999 (λq j f h=>∃a b,(h=H/\f.1 1=sI u/\f.1 2=sI a2/\f.1 35=sL Fm.av a0.an7/\f.1 36=sI (ey a0.an7)/\f.1 37=sI q/\bx f 3 (Fm.av a0).cells/\bx f 6 [sI 0,sI 0,nL,nL,nL]/\bx f 7 [sI a0.an6,sI a0.dL.an6,sL Ty.av a0.dL.an7,sT a Tm.av s2,sT b Fm.av j])/\Ow f [31] a s2/\Ow f [51] b j) (by exact⟨c,.full,VW,i,gL.full⟩) (λj l _ _ E m=>?_) (λq _ j l _ _ _ _ E e m z p=>?_)
 ·have⟨a,b,E,k,d⟩:=E;exact aa
 have⟨a,b,E,k,d⟩:=E;refine sw [10,0,4,0,18,9,0] ?_;intro _ t e m;refine Ad (f:=Fm.av) j [t] d KT e.2 ?_;simp[e];cases m;exact p _ _ _ ⟨a,(.loc 51 (l.fa 51+1)),VW,(gL.other k d Df Df),(On 51)⟩ z
@[instance] def afE:=@Kc.mk prog 281 _ @yz
def oO:C2 prog 272 fl dM.av dM.av (sL Ty.av):=by
 refine v2 func272 λT H a0 j r m e=>?_;rw[fl] at m;refine sw [9,0] ?_;intro e m;refine Ad (f:=Ty.av) a0.an_ j (gL.full (D:=[])) Fw e.2 ?_;simp[e];refine Wr e m 999 (λl s2 f h=>∃a b,(h=H/\f.1 1=sL Ty.av j/\f.1 23=sL Fm.av a0.aob/\f.1 24=sI (ey a0.aob)/\f.1 25=sI l/\bx f 4 [nL,nL,nL]/\bx f 5 [sL Fm.av a0.lemmas,sT a Ty.av (fT a0.an_ j),sT b Fm.av s2])/\Ow f [20] a (fT a0.an_ j)/\Ow f [36] b s2) (by exact⟨(.loc 20 1),.full,VW,(On 20),gL.full⟩) (λs2 i _ _ E m=>?_) (λl _ s2 i _ _ _ _ E e m z p=>?_)
 ·have⟨a,b,E,d,c⟩:=E;exact aa
 have⟨a,b,E,d,c⟩:=E;refine sw [10,0,4,9,0] ?_;intro k e m;refine Ad (f:=Fm.av) s2 [k] c KT e.2 ?_;simp[e];cases m;exact p _ _ _ ⟨a,(.loc 36 (i.fa 36+1)),VW,(gL.other d c Df Df),(On 36)⟩ z
@[instance] def Oc:=@Kc.mk prog 272 _ @oO
def Vg:C3 prog 273 nN Fm.av sI Ty.av Fm.av:=by
 refine v3 func273 λT H a0 c a2 r m e=>?_;rw[nN] at m;refine sw [0,4,0,4] ?_;intro a b e m;have e:=Aj e (show AV.agg [sI a0,sI a.an6,sL Ty.av a.an7,AV.slice .gx [],AV.slice .gx [Fm.av b]]=Fm.av (Fm.mk a0 a [] [b]) by rw[Fm.eQ];rfl);exact au
@[instance] def ah5:=@Kc.mk prog 273 _ @Vg
def tT:C2 prog 274 gn (sL sI) (sL sI) sI:=by
 refine v2 func274 λT H a0 j r m e=>?_;rw[gn] at m;simp[e];refine Td e m 0 10 [1,8,9] [] [22] (λs2=>s2) (λs2 b f=>f.1 5=sT b sI s2) λn l s2 k _ _ _ o E e m z p=>?_;have⟨b,E,c⟩:=E;simp[e]at E;have e:=Aj e E;apply wg 5;simp[e];refine yC m 999 999 (λi f h=>∃v12 a,(h=H/\f.1 1=sI j/\f.1 5=sT a sI v12/\f.1 8=sL sI a0/\f.1 9=sI (ey a0)/\f.1 10=sI n)/\Ow f [22] a v12/\i v12=some o) ?_ (λi _ g m=>?_)
 ·rintro _ _ ⟨v12,a,E,d,m⟩;have e:=Aj e E;simp[e];cases m;exact p _ _ _ ⟨a,VW,d⟩ z
 apply Ir e m<;>intro e m
 ·simp[e];exact g _ _ ⟨s2,b,VW,c,m⟩
 refine sw [9,0] ?_;intro e m;refine Ao (f:=sI) s2 [(fH .i64 l j)] c EB e.2 ?_;simp[e];exact g _ _ ⟨(fT s2 [(fH .i64 l j)]),(.loc 22 (k.fa 22+1)),VW,(On 22),m⟩
@[instance] def W1:=@Kc.mk prog 274 _ @tT
def Q0:C1 prog 275 rk sB (sL sI):=by
 refine u1 2 func275 λT H a0 r m e=>?_;rw[rk] at m;simp[e];refine WB m 999 999 [] [] (λv2 f=>f.1 2=sB v2) λa _ g m=>?_;apply Ir e m<;>intro e m
 ·exact iC
 have⟨b,e,m⟩:=iR e m;exact iC
@[instance] def aeR:=@Kc.mk prog 275 _ @Q0
def I5:C2 prog 77 ji (t2 Ty.av sI) (sL Ty.av) Tm.av:=by
 refine v2 func77 λT H a0 a r m e=>?_;rw[ji] at m;exact aa
@[instance] def X6:=@Kc.mk prog 77 _ @I5
def JF(T:eA):∀(n:Nat),(∀{H:dS} {a0:Tm} {b:Int} {a2:(List (Int×Bool))} {a:(List (Int×Bool))} {o2:Nat} (c:H[o2]?=some [tJ sB a2]) (hm:pE n a0 b a2=some a),et prog T 328 [Tm.av a0,sI b,AV.nH o2] H (AV.tuple []) (fo H o2 [tJ sB a])):=by
  intro n
  induction n with
  |zero=>
    skip
    all_goals(intro _ _;intros;rename_i hm;cases hm)
  |succ n ih=>
 intro H a0 b a2 a o2 c hm;rw[pE] at hm;have j:=eJ c;refine fb.Gl c ?_;have e:=j;refine wi an' func328 [] [] 2 ?_;simp[e];refine Wj hm 0 999 (λk f h=>∃(v2:(List (Int×Bool))),(h=fo H o2 [tJ sB v2]/\f.1 1=sI b/\f.1 2=AV.nH o2/\f.1 3=AV.gX 3 (f.gen 3) 0/\f.box 3=some (Tm.av a0).cells)/\k v2=some a) (λk _ g m=>?_) ?_
 ·refine wA 999 999 [2] [3] (λf=>f.1 1=sI b/\f.1 16=sB (e_ (ee a0.an6 1) (qn a0.an9 b) false)) [] (λ_ g=>?_) ?_
  ·rcases Pb (ee a0.an6 1) e with e|e
   ·exact aj
   exact aj
  intro _ e m;apply Ir e m<;>intro e m
  ·exact iC
  simp[e];refine tq.i64 (f:=sB) a2 true SB uA VW VW ?_;exact iC
 rintro _ _ ⟨v2,E,m⟩;have e:=Aj e E;simp[e];refine Wr e m 999 (λi d f h=>h=fo H o2 [tJ sB d]/\f.1 1=sI b/\f.1 2=AV.nH o2/\f.1 23=sL Tm.av a0.an7/\f.1 24=sI (ey a0.an7)/\f.1 25=sI i/\bx f 3 (Tm.av a0).cells) VW (λd _ _ _ E m=>?_) (λi _ d _ _ _ _ _ E e m z p=>?_)
 ·exact aa
 refine sw [10,0,4,0] ?_;intro _ e m;refine qP m (ih VW) λd20 m=>?_;exact al
def NG(T:eA){H:dS}{a0:Tm}{c:Int}{a2:(List (Int×Bool))}{a:(List (Int×Bool))}{o2:Nat}(b:H[o2]?=some [tJ sB a2]){n:Nat}(hm:pE n a0 c a2=some a):et prog T 328 [Tm.av a0,sI c,AV.nH o2] H (AV.tuple []) (fo H o2 [tJ sB a]):=(JF T n) b hm
@[instance] def abW:=@Kc.mk prog 328 _ @NG
def Nl(T:eA){H:dS}{a0:Tm}{a:List Int}{b:Int}(hm:vT a0=some (a,b)):et prog T 306 [Tm.av a0] H (AV.tuple [sL sI a,sI b]) H:=by
 rw[vT] at hm;refine fb.rm (Post:=λx K=>x=AV.tuple [sL sI a,sI b]/\∃X,K=H++X) ?_ (λ_ _ h=>⟨_,h.2.choose_spec,by rw[h.1];simp[AV.low,AV.ir],h.1,rfl⟩);have e:=trivial;refine wi an' func306 [] [] 999 ?_;have m:=hm;refine sw [0,1,7,0,1,0] ?_;intro _ d2 e m;refine zp m (Ak T VW) λ_ d4 m=>?_;exact au
@[instance] def adh:=@Kc.mk prog 306 _ @Nl
def ya:C1 prog 276 kf (sL sI) Tm.av:=by
 refine v1 func276 λT H a0 r m e=>?_;rw[kf] at m;exact aa
@[instance] def acV:=@Kc.mk prog 276 _ @ya
def KY{n:Nat}:C2 prog 283 (oe n) sB Fm.av sI:=by
 refine i2 λn ih=>v2 func283 λT H a0 a r m e=>?_;rw[oe] at m;simp[e];refine Wa e m 999 12 [1,10,11] [2] nI [11,0] ?_;intro _ _ e m;exact Wb e m 999 24 [1,22,23] [] nI
@[instance] def aa7:=@Kc.mk prog 283 _ @KY
def Lc{n:Nat}:C2 prog 329 (pH n) sI Fm.av sI:=by
 refine i2 λn ih=>v2 func329 λT H a0 c r m e=>?_;rw[pH] at m;simp[e];refine Re e m 999 (λd s2 f h=>h=H/\f.1 1=sI c/\f.1 5=sI s2/\f.1 11=sL Tm.av a0.ea/\f.1 12=sI (ey a0.ea)/\f.1 13=sI d/\bx f 2 (Fm.av a0).cells) VW (λd _ s2 _ _ _ _ _ E e m z p=>?_) (λs2 _ _ _ E m=>?_)
 ·exact aa
 have e:=Aj e E;dsimp only[eo]at m;simp[e];refine Wr e m 999 (λb a f h=>h=H/\f.1 1=sI c/\f.1 5=sI a/\f.1 24=sL Fm.av a0.an7/\f.1 25=sI (ey a0.an7)/\f.1 26=sI b/\bx f 2 (Fm.av a0).cells) VW (λa _ _ _ E m=>?_) (λb _ a _ _ _ _ _ E e m z p=>?_)
 ·exact aa
 exact aa
@[instance] def aaE:=@Kc.mk prog 329 _ @Lc
def RN{n:Nat}:C4 prog 330 (xd n) Fm.av Fm.av sI sI Tm.av:=by
 refine i4 λn ih=>v4 func330 λT H a0 u a2 a3 r m e=>?_;rw[xd] at m;simp[e];refine Re e m 999 (λv s2 f h=>∃c,(h=H/\f.1 1=sI u/\f.1 2=sI a2/\f.1 20=sL Tm.av a0.ea/\f.1 21=sI (ey a0.ea)/\f.1 22=sI v/\bx f 4 (Fm.av a0).cells/\bx f 7 (Tm.av a3).cells/\bx f 8 [sI 0,sI 0,nL,nL,nL]/\bx f 9 [sI a0.an6,sI a0.dL.an6,sL Ty.av a0.dL.an7,sT c Tm.av s2,nL])/\Ow f [34] c s2) (by exact⟨.full,VW,gL.full⟩) (λv _ s2 o _ _ _ _ E e m z p=>?_) (λs2 o _ _ E m=>?_)
 ·have⟨c,E,i⟩:=E;have e:=Aj e E;simp[e];refine fO m λs m=>?_;have⟨e,m⟩:=Ck e m;simp[e];refine Ad (f:=Tm.av) s2 [s] i xS e.2 ?_;simp[e];cases m;exact p _ _ _ ⟨(.loc 34 (o.fa 34+1)),VW,(On 34)⟩ z
 have⟨c,E,i⟩:=E;have e:=Aj e E;dsimp only[eo]at m;simp[e];refine Wr e m 999 (λq j f h=>∃a b,(h=H/\f.1 1=sI u/\f.1 2=sI a2/\f.1 38=sL Fm.av a0.an7/\f.1 39=sI (ey a0.an7)/\f.1 40=sI q/\bx f 4 (Fm.av a0).cells/\bx f 7 (Tm.av a3).cells/\bx f 8 [sI 0,sI 0,nL,nL,nL]/\bx f 9 [sI a0.an6,sI a0.dL.an6,sL Ty.av a0.dL.an7,sT a Tm.av s2,sT b Fm.av j])/\Ow f [34] a s2/\Ow f [55] b j) (by exact⟨c,.full,VW,i,gL.full⟩) (λj l _ _ E m=>?_) (λq _ j l _ _ _ _ E e m z p=>?_)
 ·have⟨a,b,E,k,d⟩:=E;exact aa
 have⟨a,b,E,k,d⟩:=E;have e:=Aj e E;simp[e];refine fO m λ_ m=>?_;simp[e];refine qP m ih λt m=>?_;have⟨e,m⟩:=Ck e m;simp[e];refine Ad (f:=Fm.av) j [t] d KT e.2 ?_;simp[e];cases m;exact p _ _ _ ⟨a,(.loc 55 (l.fa 55+1)),VW,(gL.other k d Df Df),(On 55)⟩ z
@[instance] def ahf:=@Kc.mk prog 330 _ @RN
def Qh:C3 prog 307 xu (t2 Fm.av sI) Fm.av sI Tm.av:=by
 refine u3 7 func307 λT H a0 a a2 r m e=>?_;rw[xu] at m;simp[e];refine oo m λ_ m=>?_;simp[e];apply Iq e m<;>intro e m
 ·exact aa
 apply wg 3;simp[e];refine wj 999 0 (λf h=>h=H/\f.1 1=sI a/\f.1 21=sB (e_ (rA a 0) true (oC a 4096))/\bx f 3 (Fm.av a0).cells/\bx f 5 (Tm.av a2).cells/\bx f 6 [sI 0,sI 0,nL,nL,nL]) (λ_ g=>?_) ?_
 ·rcases Pb (rA a 0) e with e|e
  ·exact aj
  exact aj
 rintro _ _ E;have e:=Aj e E;apply Iq e m<;>intro e m
 ·exact aa
 apply wg 7;simp[e];refine oo m λ_ m=>?_;simp[e];apply Iq e m<;>intro e m
 ·exact aa
 apply wg 3;simp[e];refine Wj m 999 999 (λc f h=>∃b,(h=H/\f.1 1=sI a/\f.1 36=sB b/\bx f 3 (Fm.av a0).cells/\bx f 5 (Tm.av a2).cells/\bx f 6 [sI 0,sI 0,nL,nL,nL])/\c b=some r) (λc _ g m=>?_) ?_
 ·simp[e];refine oo m λ_ m=>?_;apply Ir e m<;>intro e m
  ·exact iC
  simp[e];refine oo m λ_ m=>?_;exact iC
 rintro _ _ ⟨b,E,m⟩;exact aa
@[instance] def ae9:=@Kc.mk prog 307 _ @Qh
def wS:C2 prog 277 ju (t2 Fm.av sI) Fm.av Tm.av:=by
 refine v2 func277 λT H a0 a r m e=>?_;rw[ju] at m;exact aa
@[instance] def adO:=@Kc.mk prog 277 _ @wS
def QE{n:Nat}:C2 prog 308 (uN n) sB Tm.av sI:=by
 refine i2 λn ih=>u2 3 func308 λT H a0 a r m e=>?_;rw[uN] at m;simp[e];refine wj 999 999 (λf h=>h=H/\f.1 1=sI a/\f.1 15=sB (e_ (ee a0.an6 1) (ee a0.an9 a) false)/\bx f 2 (Tm.av a0).cells) (λ_ g=>?_) ?_
 ·rcases Pb (ee a0.an6 1) e with e|e
  ·exact aj
  exact aj
 rintro _ _ E;have e:=Aj e E;refine Il e m λe m=>?_;simp[e];refine Wr e m 999 (λb _ f h=>h=H/\f.1 1=sI a/\f.1 17=sL Tm.av a0.an7/\f.1 18=sI (ey a0.an7)/\f.1 19=sI b/\bx f 2 (Tm.av a0).cells) VW (λ_ _ _ _ E m=>?_) (λb _ _ _ _ _ _ _ E e m z p=>?_)
 ·exact aa
 exact aa
@[instance] def aeg:=@Kc.mk prog 308 _ @QE
def Q5{n:Nat}:C2 prog 279 (pQ n) sB Fm.av sI:=by
 refine i2 λn ih=>v2 func279 λT H a0 b r m e=>?_;rw[pQ] at m;simp[e];refine Re e m 999 (λc _ f h=>h=H/\f.1 1=sI b/\f.1 10=sL Tm.av a0.ea/\f.1 11=sI (ey a0.ea)/\f.1 12=sI c/\bx f 2 (Fm.av a0).cells) VW (λc _ _ _ _ _ _ _ E e m z p=>?_) (λ_ _ _ _ E m=>?_)
 ·exact aa
 have e:=Aj e E;dsimp only[eo]at m;simp[e];refine Wr e m 999 (λa _ f h=>h=H/\f.1 1=sI b/\f.1 21=sL Fm.av a0.an7/\f.1 22=sI (ey a0.an7)/\f.1 23=sI a/\bx f 2 (Fm.av a0).cells) VW (λ_ _ _ _ E m=>?_) (λa _ _ _ _ _ _ _ E e m z p=>?_)
 ·exact aa
 exact aa
@[instance] def aej:=@Kc.mk prog 279 _ @Q5
def Iy{n:Nat}:C1 prog 280 (nb n) (t2 Fm.av sI) Fm.av:=by
 refine i1 λn ih=>v1 func280 λT H a0 r m e=>?_;rw[nb] at m;simp[e];refine Re e m 999 (λu s2 f h=>∃c,(h=H/\f.1 20=sL Tm.av a0.ea/\f.1 21=sI (ey a0.ea)/\f.1 22=sI u/\bx f 1 (Fm.av a0).cells/\bx f 2 [sI 0,sI 0,nL,nL,nL]/\bx f 4 [sI a0.an6,sI a0.dL.an6,sL Ty.av a0.dL.an7,sT c Tm.av s2,nL])/\Ow f [40] c s2) (by exact⟨.full,VW,gL.full⟩) (λu _ s2 o _ _ _ _ E e m z p=>?_) (λs2 o _ _ E m=>?_)
 ·have⟨c,E,i⟩:=E;have e:=Aj e E;simp[e];refine RC m λs _ _ m=>?_;refine Il e m λe m=>?_;have⟨e,m⟩:=Ck e m;simp[e];refine Ao (f:=Tm.av) s2 [s] i xS e.2 ?_;simp[e];cases m;exact p _ _ _ ⟨(.loc 40 (o.fa 40+1)),VW,(On 40)⟩ z
 have⟨c,E,i⟩:=E;have e:=Aj e E;dsimp only[eo]at m;simp[e];refine Wr e m 999 (λq j f h=>∃a b,(h=H/\f.1 44=sL Fm.av a0.an7/\f.1 45=sI (ey a0.an7)/\f.1 46=sI q/\bx f 2 [sI 0,sI 0,nL,nL,nL]/\bx f 4 [sI a0.an6,sI a0.dL.an6,sL Ty.av a0.dL.an7,sT a Tm.av s2,sT b Fm.av j])/\Ow f [40] a s2/\Ow f [63] b j) (by exact⟨c,.full,VW,i,gL.full⟩) (λj l _ _ E m=>?_) (λq _ j l _ _ _ _ E e m z p=>?_)
 ·have⟨a,b,E,k,d⟩:=E;exact aa
 have⟨a,b,E,k,d⟩:=E;have e:=Aj e E;simp[e];refine zp m ih λt _ m=>?_;refine Il e m λe m=>?_;have⟨e,m⟩:=Ck e m;simp[e];refine Ao (f:=Fm.av) j [t] d KT e.2 ?_;simp[e];cases m;exact p _ _ _ ⟨a,(.loc 63 (l.fa 63+1)),VW,(gL.other k d Df Df),(On 63)⟩ z
@[instance] def Za:=@Kc.mk prog 280 _ @Iy
def sa:C3 prog 215 gZ sI dM.av Tm.av sI:=by
 refine v3 func215 λT H a0 a a2 r m e=>?_;rw[gZ] at m;exact aa
@[instance] def Oi:=@Kc.mk prog 215 _ @sa
def H_:C2 prog 214 xQ Fm.av Tm.av Tm.av:=by
 refine v2 func214 λT H a0 c r m e=>?_;rw[xQ] at m;simp[e];refine fO m λa m=>?_;simp[e];refine fO m λb m=>?_;have e:=Aj e (show AV.agg [sI 1,sI 0,AV.slice .gx [],AV.slice .gx [Tm.av a,Tm.av b],AV.slice .gx []]=Fm.av (Fm.mk 1 (Ty.mk 0 []) [a,b] []) by rw[Fm.eQ];rfl);exact au
@[instance] def ahU:=@Kc.mk prog 214 _ @H_
def Gx{n:Nat}:C1 prog 150 (jD n) sB Fm.av:=by
 refine i1 λn ih=>u1 8 func150 λT H a0 r m e=>?_;rw[jD] at m;simp[e];apply Iq e m<;>intro e m
 ·exact aa
 apply wg 3;simp[e];apply Ir e m<;>intro e m
 ·exact aa
 apply wg 1;simp[e];refine yC m 999 999 (λa f h=>∃v4,(h=H/\f.1 2=sB v4)/\a v4=some r) ?_ (λa _ g m=>?_)
 ·rintro _ _ ⟨v4,E,m⟩;exact aa
 have⟨c,e,m⟩:=iR e m;simp[e];refine zq m ih λ_ m=>?_;apply Iq e m<;>intro e m
 ·exact iC
 have⟨b,e,m⟩:=iR e m;simp[e];refine zq m ih λ_ m=>?_;exact iC
@[instance] def W8:=@Kc.mk prog 150 _ @Gx
def GG:C1 prog 113 nF (t2 sB sI) Fm.av:=by
 refine v1 func113 λT H a0 r m e=>?_;rw[nF] at m;exact aa
@[instance] def WZ:=@Kc.mk prog 113 _ @GG
def gb:∀(n:Nat),C2 prog 110 (ek n) (t2 r_.av sI) dM.av Pf.av/\C2 prog 148 (ed n) (t3 Fm.av (sL sI) sI) dM.av Pf.av/\C2 prog 208 (lv n) (t3 Fm.av (sL sI) sI) dM.av Pf.av/\C2 prog 209 (ml n) (t3 Fm.av (sL sI) sI) dM.av Pf.av/\C2 prog 210 (mh n) (t3 Fm.av (sL sI) sI) dM.av Pf.av/\C2 prog 211 (kL n) (t3 Fm.av (sL sI) sI) dM.av Pf.av/\C2 prog 212 (m8 n) (t3 Fm.av (sL sI) sI) dM.av Pf.av/\C2 prog 213 (lT n) (t3 Fm.av (sL sI) sI) dM.av Pf.av/\C2 prog 216 (lP n) (t3 Fm.av (sL sI) sI) dM.av Pf.av/\C2 prog 217 (lj n) (t3 Fm.av (sL sI) sI) dM.av Pf.av/\C4 prog 278 (eT n) (t2 (sL sI) sI) dM.av Pf.av Fm.av Tm.av:=by
  intro n
  induction n with
  |zero=>
    refine⟨?_,?_,?_,?_,?_,?_,?_,?_,?_,?_,?_⟩
    all_goals(intro _ _;intros;rename_i hm;cases hm)
  |succ n ih=>
 refine⟨?_,?_,?_,?_,?_,?_,?_,?_,?_,?_,?_⟩
 ·intro T H a0 b r hm;rw[ek] at hm;have e:=trivial;refine wi an' func110 [] [] 7 ?_;simp[e];refine VR hm ih.2.1 λQ _ _ m=>?_;simp[e];apply Iq e m<;>intro e m
  ·exact aa
  apply wg 5;simp[e];refine oo m λO m=>?_;simp[e];apply Iq e m<;>intro e m
  ·exact aa
  apply wg 2;simp[e];refine yC m 999 999 (λR f h=>∃v6 o,(h=H/\f.1 7=sT o sI v6/\bx f 4 [sI 0,sI 0,nL,nL,nL,nL]/\bx f 6 (Fm.av Q).cells)/\R v6=some r) ?_ (λR _ g m=>?_)
  ·rintro _ _ ⟨v6,o,E,m⟩;exact aa
  simp[e];refine tw m λ_ G m=>?_;apply Iq e m<;>intro e m
  ·simp[e];exact g _ _ ⟨_,.gx,VW,m⟩
  simp[e];exact g _ _ ⟨_,.full,VW,m⟩
 ·intro T H a0 b r hm;rw[ed] at hm;have e:=trivial;refine wi an' func148 [] [] 10 ?_;simp[e];apply Iq e hm<;>intro e m
  ·exact aa
  apply wg 3;simp[e];apply Iq e m<;>intro e m
  ·exact aa
  apply wg 3;simp[e];apply Iq e m<;>intro e m
  ·apply wg 999;have⟨Z,e,m⟩:=iR e m;simp[e];refine o4 m ih.1 λ_ _ m=>?_;refine Il e m λe m=>?_;have⟨ad,e,m⟩:=iR e m;simp[e];refine o4 m ih.1 λ_ _ m=>?_;simp[e];refine qP m zx λ_ m=>?_;simp[e];refine qP m (nx T) λ_ m=>?_;exact au
  apply wg 1;simp[e];refine wj 999 0 (λf h=>h=H/\f.1 22=sI b.an6/\f.1 93=sB (e_ (ee b.an6 4) true (ee b.an6 5))/\bx f 2 (dM.av a0).cells/\bx f 3 (Pf.av b).cells/\bx f 4 [sI 0,sI 0,nL,nL,nL]/\bx f 7 [sI 0,sI 0,nL,nL,nL]) (λ_ g=>?_) ?_
  ·rcases Pb (ee b.an6 4) e with e|e
   ·exact aj
   exact aj
  rintro _ _ E;have e:=Aj e E;apply Iq e m<;>intro e m
  ·apply wg 999;have⟨ae,e,m⟩:=iR e m;simp[e];refine o4 m ih.1 λ_ _ m=>?_;refine Il e m λe m=>?_;refine Il e m λe m=>?_;have⟨af,e,m⟩:=iR e m;exact au
  apply wg 3;simp[e];apply Iq e m<;>intro e m
  ·apply wg 999;have⟨ah,e,m⟩:=iR e m;simp[e];refine qP m B1 λ_ m=>?_;refine Il e m λe m=>?_;simp[e];refine zq m m0 λ_ m=>?_;refine Il e m λe m=>?_;simp[e];refine qP m np λ_ m=>?_;have⟨ai,e,m⟩:=iR e m;simp[e];refine o4 m ih.1 λ_ _ m=>?_;simp[e];refine qP m zx λ_ m=>?_;exact au
  apply wg 3;simp[e];apply Iq e m<;>intro e m
  ·apply wg 999;have⟨ak,e,m⟩:=iR e m;simp[e];refine o4 m ih.1 λ_ _ m=>?_;refine Il e m λe m=>?_;refine Il e m λe m=>?_;have⟨an,e,m⟩:=iR e m;simp[e];refine o4 m ih.1 λ_ _ m=>?_;refine Il e m λe m=>?_;have⟨ao,e,m⟩:=iR e m;simp[e];refine qP m (nx T) λ_ m=>?_;have⟨aq,e,m⟩:=iR e m;simp[e];refine qP m BM λ_ m=>?_;exact au
  apply wg 1;simp[e];refine wj 999 0 (λf h=>h=H/\f.1 22=sI b.an6/\f.1 218=sB (e_ (ee b.an6 8) true (ee b.an6 12))/\bx f 2 (dM.av a0).cells/\bx f 3 (Pf.av b).cells/\bx f 4 [sI 0,sI 0,nL,nL,nL]) (λ_ g=>?_) ?_
  ·rcases Pb (ee b.an6 8) e with e|e
   ·exact aj
   exact aj
  rintro _ _ E;have e:=Aj e E;apply Iq e m<;>intro e m
  ·apply wg 999;simp[e];refine VR m ih.2.2.1 λ_ _ _ m=>?_;exact au
  apply wg 1;simp[e];refine wj 999 0 (λf h=>h=H/\f.1 22=sI b.an6/\f.1 227=sB (e_ (ee b.an6 9) true (ee b.an6 13))/\bx f 2 (dM.av a0).cells/\bx f 3 (Pf.av b).cells/\bx f 4 [sI 0,sI 0,nL,nL,nL]) (λ_ g=>?_) ?_
  ·rcases Pb (ee b.an6 9) e with e|e
   ·exact aj
   exact aj
  rintro _ _ E;have e:=Aj e E;apply Iq e m<;>intro e m
  ·apply wg 999;simp[e];refine VR m ih.2.2.2.1 λ_ _ _ m=>?_;exact au
  apply wg 1;simp[e];refine wj 999 0 (λf h=>h=H/\f.1 22=sI b.an6/\f.1 236=sB (e_ (ee b.an6 10) true (ee b.an6 14))/\bx f 2 (dM.av a0).cells/\bx f 3 (Pf.av b).cells/\bx f 4 [sI 0,sI 0,nL,nL,nL]) (λ_ g=>?_) ?_
  ·rcases Pb (ee b.an6 10) e with e|e
   ·exact aj
   exact aj
  rintro _ _ E;have e:=Aj e E;apply Iq e m<;>intro e m
  ·apply wg 999;simp[e];refine VR m ih.2.2.2.2.1 λ_ _ _ m=>?_;exact au
  apply wg 1;simp[e];refine wj 999 999 (λf h=>h=H/\f.1 22=sI b.an6/\f.1 245=sB (e_ (ee b.an6 11) true (ee b.an6 15))/\bx f 2 (dM.av a0).cells/\bx f 3 (Pf.av b).cells/\bx f 4 [sI 0,sI 0,nL,nL,nL]) (λ_ g=>?_) ?_
  ·rcases Pb (ee b.an6 11) e with e|e
   ·exact aj
   exact aj
  rintro _ _ E;have e:=Aj e E;apply Iq e m<;>intro e m
  ·simp[e];refine VR m ih.2.2.2.2.2.1 λ_ _ _ m=>?_;exact au
  apply Iq e m<;>intro e m
  ·simp[e];refine VR m ih.2.2.2.2.2.2.1 λ_ _ _ m=>?_;exact au
  apply Iq e m<;>intro e m
  ·simp[e];refine VR m ih.2.2.2.2.2.2.2.1 λ_ _ _ m=>?_;exact au
  apply Iq e m<;>intro e m
  ·have⟨ar,e,m⟩:=iR e m;simp[e];refine qP m H_ λ_ m=>?_;simp[e];refine qP m sa λ_ m=>?_;exact au
  apply Iq e m<;>intro e m
  ·simp[e];refine VR m ih.2.2.2.2.2.2.2.2.1 λ_ _ _ m=>?_;exact au
  simp[e];refine VR m ih.2.2.2.2.2.2.2.2.2.1 λ_ _ _ m=>?_;exact au
 ·intro T H a0 b r hm;rw[lv] at hm;have e:=trivial;refine wi an' func208 [] [] 999 ?_;simp[e];refine oo hm λ_ m=>?_;refine Il e m λe m=>?_;simp[e];refine fO m λ_ m=>?_;have⟨G,e,m⟩:=iR e m;simp[e];refine o4 m ih.1 λ_ _ m=>?_;refine Il e m λe m=>?_;apply Iq e m<;>intro e m
  ·simp[e];refine fO m λI m=>?_;simp[e];refine fO m λJ m=>?_;exact au
  exact aa
 ·intro T H a0 b r hm;rw[ml] at hm;have e:=trivial;refine wi an' func209 [] [] 9 ?_;have⟨K,e,m⟩:=iR e hm;simp[e];refine tw m λP _ m=>?_;simp[e];apply Iq e m<;>intro e m
  ·exact aa
  apply wg 7;have⟨x6,e,m⟩:=iR e m;simp[e];refine o4 m ih.1 λd _ m=>?_;simp[e];apply Iq e m<;>intro e m
  ·exact aa
  apply wg 4;simp[e];refine fO m λ_ m=>?_;simp[e];refine fO m λL m=>?_;simp[e];refine wj 999 999 (λf h=>h=H/\f.1 11=sI (e_ (ee b.an6 13) 6 4)/\f.1 12=sL sI (e_ (ee b.an6 13) d.iu L)/\bx f 4 [sI 0,sI 0,nL,nL,nL]/\bx f 7 (Tm.av K).cells/\bx f 8 (Ty.av P).cells/\bx f 10 [sI d.dT.an6,sI d.dT.dL.an6,sL Ty.av d.dT.dL.an7,sL Tm.av d.dT.ea,sL Fm.av d.dT.an7,sL sI d.iu]) (λ_ g=>?_) ?_
  ·rcases Pb (ee b.an6 13) e with e|e
   ·exact aj
   exact aj
  rintro _ _ E;exact aa
 ·intro T H a0 b r hm;rw[mh] at hm;have e:=trivial;refine wi an' func210 [] [] 9 ?_;have⟨i,e,m⟩:=iR e hm;have⟨O,e,m⟩:=iR e m;simp[e];refine oo m λ_ m=>?_;simp[e];apply Iq e m<;>intro e m
  ·exact aa
  apply wg 4;simp[e];refine wj 999 3 (λf h=>h=H/\f.1 10=sI (e_ (ee b.an6 14) 7 5)/\bx f 2 (dM.av a0).cells/\bx f 3 (Pf.av b).cells/\bx f 4 [sI 0,sI 0,nL,nL,nL]/\bx f 7 (Fm.av i).cells/\bx f 8 (Tm.av O).cells) (λ_ g=>?_) ?_
  ·rcases Pb (ee b.an6 14) e with e|e
   ·exact aj
   exact aj
  rintro _ _ E;have e:=Aj e E;simp[e];apply Iq e m<;>intro e m
  ·exact aa
  apply wg 7;simp[e];refine tw m λ_ G m=>?_;simp[e];apply Iq e m<;>intro e m
  ·exact aa
  apply wg 5;simp[e];refine oo m λv m=>?_;simp[e];apply Ir e m<;>intro e m
  ·exact aa
  apply wg 4;have⟨q,e,m⟩:=iR e m;have⟨I,e,m⟩:=iR e m;simp[e];refine o4 m ih.2.2.2.2.2.2.2.2.2.2 λJ M m=>?_;simp[e];refine yC m 999 999 (λw f h=>∃s,(h=H/\f.1 12=sI M/\f.1 13=sL sI s/\bx f 4 [sI 0,sI 0,nL,nL,nL]/\bx f 7 (Fm.av i).cells)/\w s=some r) ?_ (λw _ g m=>?_)
  ·rintro _ _ ⟨s,E,m⟩;exact aa
  apply Ir e m<;>intro e m
  ·exact iC
  simp[e];refine oo m λ_ m=>?_;simp[e];refine oo m λ_ m=>?_;exact iC
 ·intro T H a0 b r hm;rw[kL] at hm;have e:=trivial;refine wi an' func211 [] [] 7 ?_;have⟨N,e,m⟩:=iR e hm;simp[e];refine o4 m ih.1 λa _ m=>?_;simp[e];apply Iq e m<;>intro e m
  ·exact aa
  apply wg 4;simp[e];refine wj 999 3 (λf h=>h=H/\f.1 9=sI (e_ (ee b.an6 15) 7 5)/\bx f 2 (dM.av a0).cells/\bx f 3 (Pf.av b).cells/\bx f 4 [sI 0,sI 0,nL,nL,nL]/\bx f 7 [sI a.dT.an6,sI a.dT.dL.an6,sL Ty.av a.dT.dL.an7,sL Tm.av a.dT.ea,sL Fm.av a.dT.an7,sL sI a.iu]) (λ_ g=>?_) ?_
  ·rcases Pb (ee b.an6 15) e with e|e
   ·exact aj
   exact aj
  rintro _ _ E;have e:=Aj e E;simp[e];apply Iq e m<;>intro e m
  ·exact aa
  apply wg 7;simp[e];refine oo m λ_ m=>?_;simp[e];apply Iq e m<;>intro e m
  ·exact aa
  apply wg 7;simp[e];refine fO m λI m=>?_;have⟨J,e,m⟩:=iR e m;simp[e];refine fO m λ_ m=>?_;have⟨S,e,m⟩:=iR e m;simp[e];refine o4 m ih.1 λc _ m=>?_;simp[e];apply Iq e m<;>intro e m
  ·exact aa
  apply wg 4;simp[e];refine Wj m 999 1 (λx f h=>∃v124 j k v127 l,(h=H/\f.1 9=sI (e_ (ee b.an6 15) 7 5)/\bx f 4 [sI 0,sI 0,nL,nL,nL]/\bx f 7 [sI a.dT.an6,sI a.dT.dL.an6,sL Ty.av a.dT.dL.an7,sL Tm.av a.dT.ea,sL Fm.av a.dT.an7,sL sI a.iu]/\bx f 11 [sI c.dT.an6,sI c.dT.dL.an6,sL Ty.av c.dT.dL.an7,sL Tm.av c.dT.ea,sL Fm.av c.dT.an7,sL sI c.iu]/\bx f 12 [sI v124,sI j,sL Ty.av k,sL Tm.av v127,sL Fm.av l])/\x v124 j k v127 l=some r) (λx _ g m=>?_) ?_
  ·simp[e];refine oo m λ_ m=>?_;apply Ir e m<;>intro e m
   ·simp[e];exact g _ _ ⟨_,_,_,_,_,VW,m⟩
   simp[e];refine tw m λ_ _ m=>?_;refine Il e m λe m=>?_;simp[e];refine oo m λ_ m=>?_;refine Il e m λe m=>?_;simp[e];exact g _ _ ⟨_,_,_,_,_,VW,m⟩
  rintro _ _ ⟨v124,j,k,v127,l,E,m⟩;have e:=Aj e E;simp[e];refine Wj m 999 999 (λy f h=>∃t,(h=H/\f.1 87=sB t/\bx f 4 [sI 0,sI 0,nL,nL,nL]/\bx f 7 [sI a.dT.an6,sI a.dT.dL.an6,sL Ty.av a.dT.dL.an7,sL Tm.av a.dT.ea,sL Fm.av a.dT.an7,sL sI a.iu]/\bx f 11 [sI c.dT.an6,sI c.dT.dL.an6,sL Ty.av c.dT.dL.an7,sL Tm.av c.dT.ea,sL Fm.av c.dT.an7,sL sI c.iu]/\bx f 12 [sI v124,sI j,sL Ty.av k,sL Tm.av v127,sL Fm.av l])/\y t=some r) (λy _ g m=>?_) ?_
  ·apply Ir e m<;>intro e m
   ·exact iC
   simp[e];refine oo m λ_ m=>?_;exact iC
  rintro _ _ ⟨t,E,m⟩;exact aa
 ·intro T H a0 b r hm;rw[m8] at hm;have e:=trivial;refine wi an' func212 [] [] 999 ?_;have⟨i,e,m⟩:=iR e hm;have⟨O,e,m⟩:=iR e m;simp[e];refine fO m λu m=>?_;have⟨e,m⟩:=Ck e m;simp[e];refine Ad (f:=Ty.av) a0.an_ [u] (gL.full (D:=[])) Fw e.2 ?_;simp[e];refine fO m λ_ m=>?_;refine Il e m λe m=>?_;simp[e];refine oo m λq m=>?_;refine Il e m λe m=>?_;have⟨A,e,m⟩:=iR e m;simp[e];refine fO m λB m=>?_;simp[e];refine o4 m ih.2.2.2.2.2.2.2.2.2.2 λ_ _ m=>?_;refine Il e m λe m=>?_;simp[e];refine zq m m0 λ_ m=>?_;refine Il e m λe m=>?_;simp[e];refine qP m zV λ_ m=>?_;simp[e];refine qP m oO λ_ m=>?_;simp[e];refine qP m np λ_ m=>?_;have⟨U,e,m⟩:=iR e m;simp[e];refine qP m yz λ_ m=>?_;simp[e];refine qP m wG λ_ m=>?_;simp[e];refine qP m Ew λ_ m=>?_;simp[e];refine o4 m ih.2.2.2.2.2.2.2.2.2.2 λ_ _ m=>?_;refine Il e m λe m=>?_;simp[e];refine zp m wS λ_ _ m=>?_;simp[e];refine qP m ya λ_ m=>?_;simp[e];refine qP m (nx T) λ_ m=>?_;simp[e];refine qP m tT λ_ m=>?_;simp[e];refine qP m (nx T) λ_ m=>?_;exact au
 ·intro T H a0 b r hm;rw[lT] at hm;have e:=trivial;refine wi an' func213 [] [] 999 ?_;have⟨i,e,m⟩:=iR e hm;have⟨O,e,m⟩:=iR e m;simp[e];refine fO m λu m=>?_;have⟨e,m⟩:=Ck e m;simp[e];refine Ad (f:=Ty.av) a0.an_ [u] (gL.full (D:=[])) Fw e.2 ?_;simp[e];refine fO m λ_ m=>?_;refine Il e m λe m=>?_;simp[e];refine oo m λq m=>?_;refine Il e m λe m=>?_;have⟨A,e,m⟩:=iR e m;simp[e];refine fO m λB m=>?_;simp[e];refine o4 m ih.2.2.2.2.2.2.2.2.2.2 λ_ _ m=>?_;refine Il e m λe m=>?_;simp[e];refine zq m m0 λ_ m=>?_;refine Il e m λe m=>?_;simp[e];refine qP m zV λ_ m=>?_;simp[e];refine qP m Ed λ_ m=>?_;simp[e];refine qP m oO λ_ m=>?_;simp[e];refine qP m yz λ_ m=>?_;simp[e];refine qP m np λ_ m=>?_;have⟨V,e,m⟩:=iR e m;simp[e];refine qP m yz λ_ m=>?_;simp[e];refine qP m wG λ_ m=>?_;simp[e];refine qP m wG λ_ m=>?_;simp[e];refine qP m Ew λ_ m=>?_;simp[e];refine o4 m ih.2.2.2.2.2.2.2.2.2.2 λ_ _ m=>?_;refine Il e m λe m=>?_;simp[e];refine zp m wS λ_ _ m=>?_;simp[e];refine qP m ya λ_ m=>?_;simp[e];refine qP m (nx T) λ_ m=>?_;simp[e];refine qP m tT λ_ m=>?_;simp[e];refine qP m (nx T) λ_ m=>?_;exact au
 ·intro T H a0 b r hm;rw[lP] at hm;have e:=trivial;refine wi an' func216 [] [] 999 ?_;have⟨K,e,m⟩:=iR e hm;simp[e];refine fO m λv m=>?_;have⟨e,m⟩:=Ck e m;simp[e];refine Ad (f:=Ty.av) a0.an_ [v] (gL.full (D:=[])) Fw e.2 ?_;simp[e];refine fO m λ_ m=>?_;refine Il e m λe m=>?_;have⟨W,e,m⟩:=iR e m;simp[e];refine o4 m ih.1 λ_ q m=>?_;refine Il e m λe m=>?_;refine Il e m λe m=>?_;have⟨A,e,m⟩:=iR e m;have⟨B,e,m⟩:=iR e m;simp[e];refine o4 m ih.2.2.2.2.2.2.2.2.2.2 λ_ _ m=>?_;refine Il e m λe m=>?_;have⟨X,e,m⟩:=iR e m;simp[e];refine o4 m wS λ_ _ m=>?_;exact au
 ·intro T H a0 b r hm;rw[lj] at hm;have e:=trivial;refine wi an' func217 [] [] 7 ?_;have⟨N,e,m⟩:=iR e hm;simp[e];refine o4 m ih.1 λa _ m=>?_;simp[e];apply Iq e m<;>intro e m
  ·exact aa
  apply wg 3;simp[e];refine Wj m 999 999 (λC f h=>∃F,(h=H/\f.1 38=sB F/\bx f 4 [sI 0,sI 0,nL,nL,nL]/\bx f 7 [sI a.dT.an6,sI a.dT.dL.an6,sL Ty.av a.dT.dL.an7,sL Tm.av a.dT.ea,sL Fm.av a.dT.an7,sL sI a.iu])/\C F=some r) (λC _ g m=>?_) ?_
  ·apply Iq e m<;>intro e m
   ·exact iC
   have⟨Y,e,m⟩:=iR e m;exact iC
  rintro _ _ ⟨F,E,m⟩;exact aa
 ·intro T H a0 b a2 a3 r hm;rw[eT] at hm;have e:=trivial;refine wi an' func278 [] [] 999 ?_;simp[e];refine zp hm ih.1 λ_ Q m=>?_;exact aa
def zr{n:Nat}:C2 prog 110 (ek n) (t2 r_.av sI) dM.av Pf.av:=(gb n).1
@[instance] def Oh:=@Kc.mk prog 110 _ @zr
def zH{n:Nat}:C2 prog 148 (ed n) (t3 Fm.av (sL sI) sI) dM.av Pf.av:=(gb n).2.1
@[instance] def P1:=@Kc.mk prog 148 _ @zH
def BC{n:Nat}:C2 prog 208 (lv n) (t3 Fm.av (sL sI) sI) dM.av Pf.av:=(gb n).2.2.1
@[instance] def Rj:=@Kc.mk prog 208 _ @BC
def CY{n:Nat}:C2 prog 209 (ml n) (t3 Fm.av (sL sI) sI) dM.av Pf.av:=(gb n).2.2.2.1
@[instance] def Ts:=@Kc.mk prog 209 _ @CY
def CF{n:Nat}:C2 prog 210 (mh n) (t3 Fm.av (sL sI) sI) dM.av Pf.av:=(gb n).2.2.2.2.1
@[instance] def SP:=@Kc.mk prog 210 _ @CF
def zB{n:Nat}:C2 prog 211 (kL n) (t3 Fm.av (sL sI) sI) dM.av Pf.av:=(gb n).2.2.2.2.2.1
@[instance] def Ps:=@Kc.mk prog 211 _ @zB
def Bw{n:Nat}:C2 prog 212 (m8 n) (t3 Fm.av (sL sI) sI) dM.av Pf.av:=(gb n).2.2.2.2.2.2.1
@[instance] def Rm:=@Kc.mk prog 212 _ @Bw
def zf{n:Nat}:C2 prog 213 (lT n) (t3 Fm.av (sL sI) sI) dM.av Pf.av:=(gb n).2.2.2.2.2.2.2.1
@[instance] def N':=@Kc.mk prog 213 _ @zf
def zj{n:Nat}:C2 prog 216 (lP n) (t3 Fm.av (sL sI) sI) dM.av Pf.av:=(gb n).2.2.2.2.2.2.2.2.1
@[instance] def Oq:=@Kc.mk prog 216 _ @zj
def yH{n:Nat}:C2 prog 217 (lj n) (t3 Fm.av (sL sI) sI) dM.av Pf.av:=(gb n).2.2.2.2.2.2.2.2.2.1
@[instance] def Mq:=@Kc.mk prog 217 _ @yH
def Ax{n:Nat}:C4 prog 278 (eT n) (t2 (sL sI) sI) dM.av Pf.av Fm.av Tm.av:=(gb n).2.2.2.2.2.2.2.2.2.2
@[instance] def Q_:=@Kc.mk prog 278 _ @Ax
def JH:C3 prog 71 kr (t2 r_.av sI) (sL Fm.av) Sq.av Pf.av:=by
 refine v3 func71 λT H a0 b a2 r m e=>?_;rw[kr] at m;refine sw [0,1,7,0,1,7,0,2,7,0,4,9,0] ?_;intro _ _ a _ _ e m;refine Ad (f:=sI) [] a.iu (gL.full (D:=[])) EB e.2 ?_;exact au
@[instance] def aaM:=@Kc.mk prog 71 _ @JH
def QO:C1 prog 73 jh sB Fm.av:=by
 refine v1 func73 λT H a0 r m e=>?_;rw[jh] at m;exact aa
@[instance] def adE:=@Kc.mk prog 73 _ @QO
def Nh:C0 prog 218 CA Ty.av:=by
 refine v0 func218 λT H r m e=>?_;rw[CA] at m;exact au
@[instance] def abS:=@Kc.mk prog 218 _ @Nh
def N0:C2 prog 220 yL Ty.av Ty.av Ty.av:=by
 refine v2 func220 λT H a0 a r m e=>?_;rw[yL] at m;have e:=Aj e (show AV.agg [sI 3,AV.slice .gx [Ty.av a0,Ty.av a]]=Ty.av (Ty.mk 3 [a0,a]) by rw[Ty.eQ];rfl);exact au
@[instance] def aby:=@Kc.mk prog 220 _ @N0
def Nr:C1 prog 282 Ch (t2 sI sI) Ty.av:=by
 refine v1 func282 λT H a0 r m e=>?_;rw[Ch] at m;exact aa
@[instance] def ac5:=@Kc.mk prog 282 _ @Nr
def Mz:C2 prog 219 sy (t2 Ty.av sI) Ty.av sI:=by
 refine v2 func219 λT H a0 a r m e=>?_;rw[sy] at m;exact aa
@[instance] def ada:=@Kc.mk prog 219 _ @Mz
def Qy:C2 prog 221 A' Ty.av Ty.av Ty.av:=by
 refine v2 func221 λT H a0 a r m e=>?_;rw[A'] at m;have e:=Aj e (show AV.agg [sI 4,AV.slice .gx [Ty.av a0,Ty.av a]]=Ty.av (Ty.mk 4 [a0,a]) by rw[Ty.eQ];rfl);exact au
@[instance] def aeQ:=@Kc.mk prog 221 _ @Qy
def R4{n:Nat}:C1 prog 149 (nW n) (t2 Ty.av sI) Fm.av:=by
 refine i1 λn ih=>v1 func149 λT H a0 r m e=>?_;rw[nW] at m;exact aa
@[instance] def agK:=@Kc.mk prog 149 _ @R4
def NF:C1 prog 112 pw (t2 Ty.av sI) Fm.av:=by
 refine v1 func112 λT H a0 r m e=>?_;rw[pw] at m;exact aa
@[instance] def ac4:=@Kc.mk prog 112 _ @NF
def HH:C2 prog 72 yQ sI (sL Fm.av) (sL Tm.av):=by
 refine v2 func72 λT H a0 a r m e=>?_;rw[yQ] at m;refine sw [7,0] ?_;intro e m;refine Wn m 999 (λs1 f h=>h=H/\f.1 0=sL Fm.av a0/\f.1 1=sL Tm.av a/\f.1 5=sI s1) VW (λs1 _ _ _ _ _ E m z p=>?_);have e:=Aj e E;apply Ir e m<;>intro e m
 ·cases m;have m:=Qb z
  try dsimp only at m
  exact au
 exact aa
@[instance] def Zj:=@Kc.mk prog 72 _ @HH
def y'(T:eA){H:dS}{a0:dW}{f:Int}{a:dW}{c:Nat}(b:H[c]?=some [sL Fm.av a0.lemmas,sL Tm.av a0.ea,sI a0.next])(hm:fL a0=some (f,a)):et prog T 114 [AV.eK c 0] H (sI f) (fo H c [sL Fm.av a.lemmas,sL Tm.av a.ea,sI a.next]):=by
 rw[fL] at hm;have d:=eJ b;refine fb.Gl b ?_;have e:=d;refine wi an' func114 [] [] 999 ?_;cases hm;simp[e]
@[instance] def Of:=@Kc.mk prog 114 _ @y'
def zd(T:eA){H:dS}{a0:dW}{w:Sq}{r0:ej}{r1:List Int}{C:dW}{F:Nat}(O:H[F]?=some [sL Fm.av a0.lemmas,sL Tm.av a0.ea,sI a0.next])(hm:qj a0 w=some (r0,r1,C)):et prog T 74 [AV.eK F 0,Sq.av w] H (AV.tuple [ej.av r0,sL sI r1]) (fo H F [sL Fm.av C.lemmas,sL Tm.av C.ea,sI C.next]):=by
 rw[qj] at hm;have U:=eJ O;refine fb.Gl O ?_;have e:=U;refine wi an' func74 [] [] 999 ?_;simp[e];refine Wn hm 999 (λs1 f h=>∃l n,(h=fo H F [sL Fm.av s1.2.2.2.lemmas,sL Tm.av s1.2.2.2.ea,sI s1.2.2.2.next]/\f.1 0=AV.eK F 0/\f.1 7=sT l sI s1.1/\f.1 8=sI s1.2.1/\bx f 3 (Sq.av w).cells/\bx f 4 [nL,nL,nL,nL]/\bx f 6 [sL Ty.av w.an_,sL Fm.av w.aob,sT n Tm.av s1.2.2.1,nL])/\Ow f [24] l s1.1/\Ow f [33] n s1.2.2.1) (by exact⟨.full,.full,VW,gL.full,gL.full⟩) (λs1 P _ _ _ _ E m z p=>?_);have⟨v9,v10,v11,v12⟩:=s1;have⟨l,n,E,t,x⟩:=E;have e:=Aj e E;dsimp only[Fy]at m;apply Iq e m<;>intro e m
 ·refine sw [0,2,9,0] ?_;intro V d14 e m;refine Ao (f:=sI) v9 [V] t EB e.2 ?_;refine sw [8,0,4,9,0] ?_;intro ad W e m;refine Ad (f:=Tm.av) v11 [W] (gL.other x t Df Df) xS e.2 ?_;simp[e];cases m;exact p _ _ _ ⟨(.loc 24 (P.fa 24+1)),(.loc 33 (P.fa 33+1)),VW,(gL.other (gL.new (D:=[24]) (d:=24) Df) (gL.other x t Df Df) Df Df),(On 33)⟩ z
 cases m;have m:=Qb z;dsimp only[Fy]at m;simp[e];refine Wn m 3 (λk f h=>∃c a b,(h=fo H F [sL Fm.av k.2.2.2.lemmas,sL Tm.av k.2.2.2.ea,sI k.2.2.2.next]/\f.1 0=AV.eK F 0/\f.1 7=sT c sI k.1/\f.1 9=sI k.2.1/\bx f 3 (Sq.av w).cells/\bx f 4 [nL,nL,nL,nL]/\bx f 6 [sL Ty.av w.an_,sL Fm.av w.aob,sT a Tm.av v11,sT b Tm.av k.2.2.1])/\Ow f [24,56] c k.1/\Ow f [33] a v11/\Ow f [61] b k.2.2.1) (by exact⟨l,n,.full,VW,(Om t),x,gL.full⟩) (λk Q _ _ _ X E m z p=>?_);have⟨v24,Y,L,Z⟩:=k;have⟨c,a,b,E,o,y,A⟩:=E;have e:=Aj e E;dsimp only[Fy]at m;simp[e];apply Ir e m<;>intro e m
 ·apply wg 999;cases m;have m:=Qb z;dsimp only[Fy]at m;exact au
 apply wg 6;simp[e];refine yC m 999 999 (λR f h=>∃G v30 v31 I J K B i j q u v,(h=fo H F [sL Fm.av B.lemmas,sL Tm.av B.ea,sI B.next]/\f.1 0=AV.eK F 0/\f.1 7=sT i sI G/\f.1 9=sI Y/\bx f 3 (Sq.av w).cells/\bx f 4 [nL,nL,nL,nL]/\bx f 6 [sL Ty.av w.an_,sL Fm.av w.aob,sT j Tm.av v11,sT q Tm.av L]/\bx f 10 [sI v30,sI v31,sI I,sT u Ty.av J,sT v Tm.av K])/\Ow f [24,56] i G/\Ow f [33] j v11/\Ow f [61] q L/\R G v30 v31 I J K B=some X) ?_ (λR _ g m=>?_)
 ·rintro S _ ⟨G,v30,v31,I,J,K,B,i,j,q,u,v,E,M,N,r,m⟩;refine sw [10,9,0] ?_;intro e m;refine Ao (f:=Tm.av) L [(Tm.mk v30 v31 (Ty.mk I J) K)] r xS e.2 ?_;simp[e];cases m;exact p _ _ _ ⟨i,j,(.loc 61 (S.fa 61+1)),VW,(gL.other M r Df Df),(gL.other N r Df Df),(On 61)⟩ z
 refine sw [8,0,1] ?_;intro ae _ e m;apply Ir e m<;>intro e m
 ·simp[e];exact g _ _ ⟨v24,0,0,0,[],[],Z,c,a,b,.full,.full,VW,o,y,A,m⟩
 refine sw [0,2,0,1,9,0] ?_;intro _ d42 s e m;refine Ao (f:=sI) v24 [s.an9] o EB e.2 ?_;simp[e];exact g _ _ ⟨(fT v24 [s.an9]),s.an6,s.an9,s.dL.an6,s.dL.an7,s.an7,d42,(.loc 56 (Q.fa 56+1)),a,b,.gx,.gx,VW,(On 56),(gL.other y o Df Df),(gL.other A o Df Df),m⟩
@[instance] def Oj:=@Kc.mk prog 74 _ @zd
end Go.Proofs.YtpgdkkomegalnaaGreatDoor
