/- Part of the proof of SchemeAccepted: walks. -/
import Derived.Test.YtpgdkkomegalnaaGreatDoorProg
import Derived.Test.YtpgdkkomegalnaaGreatDoorChecked
import Derived.WalkKit
import Derived.Laws.Bits64b
import Derived.BigCall
import Derived.Test.YtpgdkkomegalnaaGreatDoorAM1
set_option linter.all false
namespace Go.Proofs.YtpgdkkomegalnaaGreatDoor
open Go Go.kY Go.fH Tryz
def aiN:prog.follows .mixedOrders=true:=by kernel_rfl
instance:Nonempty (prog.follows .mixedOrders=true):=⟨aiN⟩
end Go.Proofs.YtpgdkkomegalnaaGreatDoor
namespace Go.fH
open Go Go.kY
mutual
def Ty.av:Ty->AV
 |.mk aiI aiJ=>.agg [sI aiI,AV.slice .gx (Ty.Dn aiJ)]
def Ty.Dn:List Ty->List AV
 |[]=>[]|x::l=>x.av::Ty.Dn l
end
def Ty.wk(l:List Ty):Ty.Dn l=l.map Ty.av:=by
 induction l with
 |nil=>rfl|cons x l ih=>simp[Ty.Dn,ih]
def Ty.eO(aiI:Int)(aiJ:List Ty):(Ty.mk aiI aiJ).av=.agg [sI aiI,sL Ty.av aiJ]:=by rw[Ty.av];simp only[Ty.wk]
mutual
@[simp] theorem Ty.uy(k:Nat):∀x:Ty,x.av.low k=true
 |.mk aiI aiJ=>by rw[Ty.eO];simp[AV.low,AV.iu,Ty.oe k aiJ]
@[simp] theorem Ty.oe(k:Nat):∀l:List Ty,AV.iu k (l.map Ty.av)=true
 |[]=>rfl|x::l=>by simp[AV.iu,Ty.uy k x,Ty.oe k l]
end
def Ty.fy(x:Ty):x.av=.agg [sI x.aiI,sL Ty.av x.aiJ]:=by cases x;exact Ty.eO _ _
@[simp] theorem Ty.jx(x:Ty):x.av.cells=[sI x.aiI,sL Ty.av x.aiJ]:=by rw[Ty.fy];rfl
@[simp] theorem Ty.qP(x:Ty):fj x.av=true:=by rw[Ty.fy];rfl
@[simp] theorem Ty.mZ(x:Ty):x.av.norm=x.av:=by rw[Ty.fy];rfl
@[simp] theorem Ty.afL(a:Int)(b:List Ty):AV.agg [sI a,sL Ty.av b]=Ty.av (Ty.mk a b):=by rw[Ty.eO]<;>rfl
@[simp] theorem Ty.agX(a:Int):AV.agg [sI a,AV.slice .gx []]=Ty.av (Ty.mk a []):=by rw[Ty.eO]<;>rfl
mutual
def Tm.av:Tm->AV
 |.mk aiI aiL dM aiJ=>.agg [sI aiI,sI aiL,sI dM.aiI,sL Ty.av dM.aiJ,AV.slice .gx (Tm.Dn aiJ)]
def Tm.Dn:List Tm->List AV
 |[]=>[]|x::l=>x.av::Tm.Dn l
end
def Tm.wk(l:List Tm):Tm.Dn l=l.map Tm.av:=by
 induction l with
 |nil=>rfl|cons x l ih=>simp[Tm.Dn,ih]
def Tm.eO(aiI aiL:Int)(dM:Ty)(aiJ:List Tm):(Tm.mk aiI aiL dM aiJ).av=.agg [sI aiI,sI aiL,sI dM.aiI,sL Ty.av dM.aiJ,sL Tm.av aiJ]:=by rw[Tm.av];simp only[Tm.wk]
mutual
@[simp] theorem Tm.uy(k:Nat):∀x:Tm,x.av.low k=true
 |.mk aiI aiL dM aiJ=>by rw[Tm.eO];simp[AV.low,AV.iu,Tm.oe k aiJ]
@[simp] theorem Tm.oe(k:Nat):∀l:List Tm,AV.iu k (l.map Tm.av)=true
 |[]=>rfl|x::l=>by simp[AV.iu,Tm.uy k x,Tm.oe k l]
end
def Tm.fy(x:Tm):x.av=.agg [sI x.aiI,sI x.aiL,sI x.dM.aiI,sL Ty.av x.dM.aiJ,sL Tm.av x.aiJ]:=by cases x;exact Tm.eO _ _ _ _
@[simp] theorem Tm.jx(x:Tm):x.av.cells=[sI x.aiI,sI x.aiL,sI x.dM.aiI,sL Ty.av x.dM.aiJ,sL Tm.av x.aiJ]:=by rw[Tm.fy];rfl
@[simp] theorem Tm.qP(x:Tm):fj x.av=true:=by rw[Tm.fy];rfl
@[simp] theorem Tm.mZ(x:Tm):x.av.norm=x.av:=by rw[Tm.fy];rfl
@[simp] theorem Tm.Q5(a b c:Int)(c3:List Ty)(d:List Tm):AV.agg [sI a,sI b,sI c,sL Ty.av c3,sL Tm.av d]=Tm.av (Tm.mk a b (Ty.mk c c3) d):=by rw[Tm.eO]<;>rfl
@[simp] theorem Tm.ahL(a b c:Int)(d:List Tm):AV.agg [sI a,sI b,sI c,AV.slice .gx [],sL Tm.av d]=Tm.av (Tm.mk a b (Ty.mk c []) d):=by rw[Tm.eO]<;>rfl
@[simp] theorem Tm.aaH(a b c:Int):AV.agg [sI a,sI b,sI c,AV.slice .gx [],AV.slice .gx []]=Tm.av (Tm.mk a b (Ty.mk c []) []):=by rw[Tm.eO]<;>rfl
mutual
def Fm.av:Fm->AV
 |.mk aiI dM ef aiJ=>.agg [sI aiI,sI dM.aiI,sL Ty.av dM.aiJ,sL Tm.av ef,AV.slice .gx (Fm.Dn aiJ)]
def Fm.Dn:List Fm->List AV
 |[]=>[]|x::l=>x.av::Fm.Dn l
end
def Fm.wk(l:List Fm):Fm.Dn l=l.map Fm.av:=by
 induction l with
 |nil=>rfl|cons x l ih=>simp[Fm.Dn,ih]
def Fm.eO(aiI:Int)(dM:Ty)(ef:List Tm)(aiJ:List Fm):(Fm.mk aiI dM ef aiJ).av=.agg [sI aiI,sI dM.aiI,sL Ty.av dM.aiJ,sL Tm.av ef,sL Fm.av aiJ]:=by rw[Fm.av];simp only[Fm.wk]
mutual
@[simp] theorem Fm.uy(k:Nat):∀x:Fm,x.av.low k=true
 |.mk aiI dM ef aiJ=>by rw[Fm.eO];simp[AV.low,AV.iu,Fm.oe k aiJ]
@[simp] theorem Fm.oe(k:Nat):∀l:List Fm,AV.iu k (l.map Fm.av)=true
 |[]=>rfl|x::l=>by simp[AV.iu,Fm.uy k x,Fm.oe k l]
end
def Fm.fy(x:Fm):x.av=.agg [sI x.aiI,sI x.dM.aiI,sL Ty.av x.dM.aiJ,sL Tm.av x.ef,sL Fm.av x.aiJ]:=by cases x;exact Fm.eO _ _ _ _
@[simp] theorem Fm.jx(x:Fm):x.av.cells=[sI x.aiI,sI x.dM.aiI,sL Ty.av x.dM.aiJ,sL Tm.av x.ef,sL Fm.av x.aiJ]:=by rw[Fm.fy];rfl
@[simp] theorem Fm.qP(x:Fm):fj x.av=true:=by rw[Fm.fy];rfl
@[simp] theorem Fm.mZ(x:Fm):x.av.norm=x.av:=by rw[Fm.fy];rfl
@[simp] theorem Fm.PJ(a b:Int)(c:List Ty)(c3:List Tm)(d:List Fm):AV.agg [sI a,sI b,sL Ty.av c,sL Tm.av c3,sL Fm.av d]=Fm.av (Fm.mk a (Ty.mk b c) c3 d):=by rw[Fm.eO]<;>rfl
@[simp] theorem Fm.adk(a b:Int):AV.agg [sI a,sI b,AV.slice .gx [],AV.slice .gx [],AV.slice .gx []]=Fm.av (Fm.mk a (Ty.mk b []) [] []):=by rw[Fm.eO]<;>rfl
mutual
def Pf.av:Pf->AV
 |.mk aiI aiL dM ef fI aiJ=>.agg [sI aiI,sI aiL,sI dM.aiI,sL Ty.av dM.aiJ,sL Tm.av ef,sL Fm.av fI,AV.slice .gx (Pf.Dn aiJ)]
def Pf.Dn:List Pf->List AV
 |[]=>[]|x::l=>x.av::Pf.Dn l
end
def Pf.wk(l:List Pf):Pf.Dn l=l.map Pf.av:=by
 induction l with
 |nil=>rfl|cons x l ih=>simp[Pf.Dn,ih]
def Pf.eO(aiI aiL:Int)(dM:Ty)(ef:List Tm)(fI:List Fm)(aiJ:List Pf):(Pf.mk aiI aiL dM ef fI aiJ).av=.agg [sI aiI,sI aiL,sI dM.aiI,sL Ty.av dM.aiJ,sL Tm.av ef,sL Fm.av fI,sL Pf.av aiJ]:=by rw[Pf.av];simp only[Pf.wk]
mutual
@[simp] theorem Pf.uy(k:Nat):∀x:Pf,x.av.low k=true
 |.mk aiI aiL dM ef fI aiJ=>by rw[Pf.eO];simp[AV.low,AV.iu,Pf.oe k aiJ]
@[simp] theorem Pf.oe(k:Nat):∀l:List Pf,AV.iu k (l.map Pf.av)=true
 |[]=>rfl|x::l=>by simp[AV.iu,Pf.uy k x,Pf.oe k l]
end
def Pf.fy(x:Pf):x.av=.agg [sI x.aiI,sI x.aiL,sI x.dM.aiI,sL Ty.av x.dM.aiJ,sL Tm.av x.ef,sL Fm.av x.fI,sL Pf.av x.aiJ]:=by cases x;exact Pf.eO _ _ _ _ _ _
@[simp] theorem Pf.jx(x:Pf):x.av.cells=[sI x.aiI,sI x.aiL,sI x.dM.aiI,sL Ty.av x.dM.aiJ,sL Tm.av x.ef,sL Fm.av x.fI,sL Pf.av x.aiJ]:=by rw[Pf.fy];rfl
@[simp] theorem Pf.qP(x:Pf):fj x.av=true:=by rw[Pf.fy];rfl
@[simp] theorem Pf.mZ(x:Pf):x.av.norm=x.av:=by rw[Pf.fy];rfl
@[simp] theorem Pf.Rf(a b c:Int)(c3:List Ty)(d:List Tm)(c5:List Fm)(f:List Pf):AV.agg [sI a,sI b,sI c,sL Ty.av c3,sL Tm.av d,sL Fm.av c5,sL Pf.av f]=Pf.av (Pf.mk a b (Ty.mk c c3) d c5 f):=by rw[Pf.eO]<;>rfl
@[simp] theorem Pf.agH(a b c:Int)(d:List Pf):AV.agg [sI a,sI b,sI c,AV.slice .gx [],AV.slice .gx [],AV.slice .gx [],sL Pf.av d]=Pf.av (Pf.mk a b (Ty.mk c []) [] [] d):=by rw[Pf.eO]<;>rfl
@[simp] theorem Pf.Zd(a b c:Int):AV.agg [sI a,sI b,sI c,AV.slice .gx [],AV.slice .gx [],AV.slice .gx [],AV.slice .gx []]=Pf.av (Pf.mk a b (Ty.mk c []) [] [] []):=by rw[Pf.eO]<;>rfl
def Sq.av(x:Sq):AV:=.agg [sL Ty.av x.aiM,sL Fm.av x.aiP]
def Sq.eO(aiM:List Ty)(aiP:List Fm):(Sq.mk aiM aiP).av=.agg [sL Ty.av aiM,sL Fm.av aiP]:=rfl
def Sq.fy(x:Sq):x.av=.agg [sL Ty.av x.aiM,sL Fm.av x.aiP]:=by cases x;exact Sq.eO _ _
@[simp] theorem Sq.jx(x:Sq):x.av.cells=[sL Ty.av x.aiM,sL Fm.av x.aiP]:=by rw[Sq.fy];rfl
@[simp] theorem Sq.qP(x:Sq):fj x.av=true:=by rw[Sq.fy];rfl
@[simp] theorem Sq.mZ(x:Sq):x.av.norm=x.av:=by rw[Sq.fy];rfl
@[simp] theorem Sq.Q5(a:List Ty)(b:List Fm):AV.agg [sL Ty.av a,sL Fm.av b]=Sq.av (Sq.mk a b):=by rw[Sq.eO]<;>rfl
@[simp] theorem Sq.aaH:AV.agg [AV.slice .gx [],AV.slice .gx []]=Sq.av (Sq.mk [] []):=by rw[Sq.eO]<;>rfl
mutual
def Vl.av:Vl->AV
 |.mk aiI num list aiJ=>.agg [sI aiI,sI num,AV.slice .gx (List.map (λn=>AV.sc (Value.int .i64 n)) list),AV.slice .gx (Vl.Dn aiJ)]
def Vl.Dn:List Vl->List AV
 |[]=>[]|x::l=>x.av::Vl.Dn l
end
def Vl.wk(l:List Vl):Vl.Dn l=l.map Vl.av:=by
 induction l with
 |nil=>rfl|cons x l ih=>simp[Vl.Dn,ih]
def Vl.eO(aiI num:Int)(list:List Int)(aiJ:List Vl):(Vl.mk aiI num list aiJ).av=.agg [sI aiI,sI num,AV.slice .gx (List.map (λn=>AV.sc (Value.int .i64 n)) list),sL Vl.av aiJ]:=by rw[Vl.av];simp only[Vl.wk]
mutual
@[simp] theorem Vl.uy(k:Nat):∀x:Vl,x.av.low k=true
 |.mk aiI num list aiJ=>by rw[Vl.eO];simp[AV.low,AV.iu,Vl.oe k aiJ]
@[simp] theorem Vl.oe(k:Nat):∀l:List Vl,AV.iu k (l.map Vl.av)=true
 |[]=>rfl|x::l=>by simp[AV.iu,Vl.uy k x,Vl.oe k l]
end
def Vl.fy(x:Vl):x.av=.agg [sI x.aiI,sI x.num,AV.slice .gx (List.map (λn=>AV.sc (Value.int .i64 n)) x.list),sL Vl.av x.aiJ]:=by cases x;exact Vl.eO _ _ _ _
@[simp] theorem Vl.jx(x:Vl):x.av.cells=[sI x.aiI,sI x.num,AV.slice .gx (List.map (λn=>AV.sc (Value.int .i64 n)) x.list),sL Vl.av x.aiJ]:=by rw[Vl.fy];rfl
@[simp] theorem Vl.qP(x:Vl):fj x.av=true:=by rw[Vl.fy];rfl
@[simp] theorem Vl.mZ(x:Vl):x.av.norm=x.av:=by rw[Vl.fy];rfl
@[simp] theorem Vl.Q5(a b:Int)(c:List Int)(c3:List Vl):AV.agg [sI a,sI b,AV.slice .gx (List.map (λn=>AV.sc (Value.int .i64 n)) c),sL Vl.av c3]=Vl.av (Vl.mk a b c c3):=by rw[Vl.eO]<;>rfl
@[simp] theorem Vl.ah4(a b:Int)(c:List Int):AV.agg [sI a,sI b,AV.slice .gx (List.map (λn=>AV.sc (Value.int .i64 n)) c),AV.slice .gx []]=Vl.av (Vl.mk a b c []):=by rw[Vl.eO]<;>rfl
@[simp] theorem Vl.aaH(a b:Int):AV.agg [sI a,sI b,AV.slice .gx [],AV.slice .gx []]=Vl.av (Vl.mk a b [] []):=by rw[Vl.eO]<;>rfl
def ey.av(x:ey):AV:=.agg [AV.slice .gx (List.map (λn=>AV.sc (Value.int .i64 n)) x.l),sI x.xy]
def ey.eO(l:List Int)(xy:Int):(ey.mk l xy).av=.agg [AV.slice .gx (List.map (λn=>AV.sc (Value.int .i64 n)) l),sI xy]:=rfl
def ey.fy(x:ey):x.av=.agg [AV.slice .gx (List.map (λn=>AV.sc (Value.int .i64 n)) x.l),sI x.xy]:=by cases x;exact ey.eO _ _
@[simp] theorem ey.jx(x:ey):x.av.cells=[AV.slice .gx (List.map (λn=>AV.sc (Value.int .i64 n)) x.l),sI x.xy]:=by rw[ey.fy];rfl
@[simp] theorem ey.qP(x:ey):fj x.av=true:=by rw[ey.fy];rfl
@[simp] theorem ey.afL(a:List Int)(b:Int):AV.agg [AV.slice .gx (List.map (λn=>AV.sc (Value.int .i64 n)) a),sI b]=ey.av (ey.mk a b):=by rw[ey.eO]<;>rfl
def su.av(x:su):AV:=.agg [sI x.dW.aiI,sI x.dW.dM.aiI,sL Ty.av x.dW.dM.aiJ,sL Tm.av x.dW.ef,sL Fm.av x.dW.aiJ,AV.slice .gx (List.map (λn=>AV.sc (Value.int .i64 n)) x.jG)]
def su.eO(dW:Fm)(jG:List Int):(su.mk dW jG).av=.agg [sI dW.aiI,sI dW.dM.aiI,sL Ty.av dW.dM.aiJ,sL Tm.av dW.ef,sL Fm.av dW.aiJ,AV.slice .gx (List.map (λn=>AV.sc (Value.int .i64 n)) jG)]:=rfl
@[simp] theorem su.uy(k:Nat)(x:su):x.av.low k=true:=by
 cases x;rw[su.eO];simp[AV.low,AV.iu]
def su.fy(x:su):x.av=.agg [sI x.dW.aiI,sI x.dW.dM.aiI,sL Ty.av x.dW.dM.aiJ,sL Tm.av x.dW.ef,sL Fm.av x.dW.aiJ,AV.slice .gx (List.map (λn=>AV.sc (Value.int .i64 n)) x.jG)]:=by cases x;exact su.eO _ _
@[simp] theorem su.jx(x:su):x.av.cells=[sI x.dW.aiI,sI x.dW.dM.aiI,sL Ty.av x.dW.dM.aiJ,sL Tm.av x.dW.ef,sL Fm.av x.dW.aiJ,AV.slice .gx (List.map (λn=>AV.sc (Value.int .i64 n)) x.jG)]:=by rw[su.fy];rfl
@[simp] theorem su.qP(x:su):fj x.av=true:=by rw[su.fy];rfl
@[simp] theorem su.mZ(x:su):x.av.norm=x.av:=by rw[su.fy];rfl
@[simp] theorem su.Rf(a b:Int)(c:List Ty)(c3:List Tm)(d:List Fm)(c5:List Int):AV.agg [sI a,sI b,sL Ty.av c,sL Tm.av c3,sL Fm.av d,AV.slice .gx (List.map (λn=>AV.sc (Value.int .i64 n)) c5)]=su.av (su.mk (Fm.mk a (Ty.mk b c) c3 d) c5):=by rw[su.eO]<;>rfl
@[simp] theorem su.Zd(a b:Int):AV.agg [sI a,sI b,AV.slice .gx [],AV.slice .gx [],AV.slice .gx [],AV.slice .gx []]=su.av (su.mk (Fm.mk a (Ty.mk b []) [] []) []):=by rw[su.eO]<;>rfl
def dU.av(x:dU):AV:=.agg [sL Fm.av x.lemmas,sL Tm.av x.ef,sI x.next]
def dU.eO(lemmas:List Fm)(ef:List Tm)(next:Int):(dU.mk lemmas ef next).av=.agg [sL Fm.av lemmas,sL Tm.av ef,sI next]:=rfl
def dU.fy(x:dU):x.av=.agg [sL Fm.av x.lemmas,sL Tm.av x.ef,sI x.next]:=by cases x;exact dU.eO _ _ _
@[simp] theorem dU.jx(x:dU):x.av.cells=[sL Fm.av x.lemmas,sL Tm.av x.ef,sI x.next]:=by rw[dU.fy];rfl
@[simp] theorem dU.qP(x:dU):fj x.av=true:=by rw[dU.fy];rfl
@[simp] theorem dU.Q5(a:List Fm)(b:List Tm)(c:Int):AV.agg [sL Fm.av a,sL Tm.av b,sI c]=dU.av (dU.mk a b c):=by rw[dU.eO]<;>rfl
def en.av(x:en):AV:=.agg [sL Ty.av x.ie.aiM,sL Fm.av x.ie.aiP,sL Tm.av x.vars,sL Tm.av x.aiP]
def en.eO(ie:Sq)(vars aiP:List Tm):(en.mk ie vars aiP).av=.agg [sL Ty.av ie.aiM,sL Fm.av ie.aiP,sL Tm.av vars,sL Tm.av aiP]:=rfl
def en.fy(x:en):x.av=.agg [sL Ty.av x.ie.aiM,sL Fm.av x.ie.aiP,sL Tm.av x.vars,sL Tm.av x.aiP]:=by cases x;exact en.eO _ _ _
@[simp] theorem en.jx(x:en):x.av.cells=[sL Ty.av x.ie.aiM,sL Fm.av x.ie.aiP,sL Tm.av x.vars,sL Tm.av x.aiP]:=by rw[en.fy];rfl
@[simp] theorem en.qP(x:en):fj x.av=true:=by rw[en.fy];rfl
@[simp] theorem en.mZ(x:en):x.av.norm=x.av:=by rw[en.fy];rfl
@[simp] theorem en.Rf(a:List Ty)(b:List Fm)(c c3:List Tm):AV.agg [sL Ty.av a,sL Fm.av b,sL Tm.av c,sL Tm.av c3]=en.av (en.mk (Sq.mk a b) c c3):=by rw[en.eO]<;>rfl
def eg.av(x:eg):AV:=.agg [sI x.used,sI x.ra,sB x.out]
def eg.eO(used ra:Int)(out:Bool):(eg.mk used ra out).av=.agg [sI used,sI ra,sB out]:=rfl
def eg.fy(x:eg):x.av=.agg [sI x.used,sI x.ra,sB x.out]:=by cases x;exact eg.eO _ _ _
@[simp] theorem eg.jx(x:eg):x.av.cells=[sI x.used,sI x.ra,sB x.out]:=by rw[eg.fy];rfl
@[simp] theorem eg.qP(x:eg):fj x.av=true:=by rw[eg.fy];rfl
@[simp] theorem eg.agg(a b:Int)(c:Bool):AV.agg [sI a,sI b,sB c]=eg.av (eg.mk a b c):=by rw[eg.eO]<;>rfl
mutual
def dG.av:dG->AV
 |.mk num list pair body env=>.agg [sI num,AV.slice .gx (List.map (λn=>AV.sc (Value.int .i64 n)) list),AV.slice .gx (dG.Dn pair),sI body.aiI,sI body.aiL,sI body.dM.aiI,sL Ty.av body.dM.aiJ,sL Tm.av body.aiJ,AV.slice .gx (dG.Dn env)]
def dG.Dn:List dG->List AV
 |[]=>[]|x::l=>x.av::dG.Dn l
end
def dG.wk(l:List dG):dG.Dn l=l.map dG.av:=by
 induction l with
 |nil=>rfl|cons x l ih=>simp[dG.Dn,ih]
def dG.eO(num:Int)(list:List Int)(pair:List dG)(body:Tm)(env:List dG):(dG.mk num list pair body env).av=.agg [sI num,AV.slice .gx (List.map (λn=>AV.sc (Value.int .i64 n)) list),sL dG.av pair,sI body.aiI,sI body.aiL,sI body.dM.aiI,sL Ty.av body.dM.aiJ,sL Tm.av body.aiJ,sL dG.av env]:=by rw[dG.av];simp only[dG.wk]
def dG.fy(x:dG):x.av=.agg [sI x.num,AV.slice .gx (List.map (λn=>AV.sc (Value.int .i64 n)) x.list),sL dG.av x.pair,sI x.body.aiI,sI x.body.aiL,sI x.body.dM.aiI,sL Ty.av x.body.dM.aiJ,sL Tm.av x.body.aiJ,sL dG.av x.env]:=by cases x;exact dG.eO _ _ _ _ _
@[simp] theorem dG.jx(x:dG):x.av.cells=[sI x.num,AV.slice .gx (List.map (λn=>AV.sc (Value.int .i64 n)) x.list),sL dG.av x.pair,sI x.body.aiI,sI x.body.aiL,sI x.body.dM.aiI,sL Ty.av x.body.dM.aiJ,sL Tm.av x.body.aiJ,sL dG.av x.env]:=by rw[dG.fy];rfl
@[simp] theorem dG.qP(x:dG):fj x.av=true:=by rw[dG.fy];rfl
@[simp] theorem dG.mZ(x:dG):x.av.norm=x.av:=by rw[dG.fy];rfl
@[simp] theorem dG.TT(a:Int)(b:List Int)(c:List dG)(c3 d c5:Int)(f:List Ty)(h:List Tm)(i:List dG):AV.agg [sI a,AV.slice .gx (List.map (λn=>AV.sc (Value.int .i64 n)) b),sL dG.av c,sI c3,sI d,sI c5,sL Ty.av f,sL Tm.av h,sL dG.av i]=dG.av (dG.mk a b c (Tm.mk c3 d (Ty.mk c5 f) h) i):=by rw[dG.eO]<;>rfl
@[simp] theorem dG.Wk(a:Int)(b:List Int)(c:List dG)(c3 d c5:Int):AV.agg [sI a,AV.slice .gx (List.map (λn=>AV.sc (Value.int .i64 n)) b),sL dG.av c,sI c3,sI d,sI c5,AV.slice .gx [],AV.slice .gx [],AV.slice .gx []]=dG.av (dG.mk a b c (Tm.mk c3 d (Ty.mk c5 []) []) []):=by rw[dG.eO]<;>rfl
@[simp] theorem dG.U7(a:Int)(b:List Int)(c3 c c5:Int):AV.agg [sI a,AV.slice .gx (List.map (λn=>AV.sc (Value.int .i64 n)) b),AV.slice .gx [],sI c3,sI c,sI c5,AV.slice .gx [],AV.slice .gx [],AV.slice .gx []]=dG.av (dG.mk a b [] (Tm.mk c3 c (Ty.mk c5 []) []) []):=by rw[dG.eO]<;>rfl
@[simp] theorem dG.VJ(a:Int)(b:List dG)(c3 c c5:Int):AV.agg [sI a,AV.slice .gx [],sL dG.av b,sI c3,sI c,sI c5,AV.slice .gx [],AV.slice .gx [],AV.slice .gx []]=dG.av (dG.mk a [] b (Tm.mk c3 c (Ty.mk c5 []) []) []):=by rw[dG.eO]<;>rfl
@[simp] theorem dG.V7(a c3 b c5:Int)(c:List Ty)(d:List Tm)(f:List dG):AV.agg [sI a,AV.slice .gx [],AV.slice .gx [],sI c3,sI b,sI c5,sL Ty.av c,sL Tm.av d,sL dG.av f]=dG.av (dG.mk a [] [] (Tm.mk c3 b (Ty.mk c5 c) d) f):=by rw[dG.eO]<;>rfl
@[simp] theorem dG.VE(a c3 b c5:Int):AV.agg [sI a,AV.slice .gx [],AV.slice .gx [],sI c3,sI b,sI c5,AV.slice .gx [],AV.slice .gx [],AV.slice .gx []]=dG.av (dG.mk a [] [] (Tm.mk c3 b (Ty.mk c5 []) []) []):=by rw[dG.eO]<;>rfl
def dP.av(x:dP):AV:=.agg [sL Fm.av x.lemmas,sL Ty.av x.aiM,sL Fm.av x.aiP]
def dP.eO(lemmas:List Fm)(aiM:List Ty)(aiP:List Fm):(dP.mk lemmas aiM aiP).av=.agg [sL Fm.av lemmas,sL Ty.av aiM,sL Fm.av aiP]:=rfl
def dP.fy(x:dP):x.av=.agg [sL Fm.av x.lemmas,sL Ty.av x.aiM,sL Fm.av x.aiP]:=by cases x;exact dP.eO _ _ _
@[simp] theorem dP.jx(x:dP):x.av.cells=[sL Fm.av x.lemmas,sL Ty.av x.aiM,sL Fm.av x.aiP]:=by rw[dP.fy];rfl
@[simp] theorem dP.qP(x:dP):fj x.av=true:=by rw[dP.fy];rfl
@[simp] theorem dP.mZ(x:dP):x.av.norm=x.av:=by rw[dP.fy];rfl
@[simp] theorem dP.PJ(a:List Fm)(b:List Ty)(c:List Fm):AV.agg [sL Fm.av a,sL Ty.av b,sL Fm.av c]=dP.av (dP.mk a b c):=by rw[dP.eO]<;>rfl
def dK.av(x:dK):AV:=.agg [sI x.dM.aiI,sL Ty.av x.dM.aiJ,sI x.aiK]
def dK.eO(dM:Ty)(aiK:Int):(dK.mk dM aiK).av=.agg [sI dM.aiI,sL Ty.av dM.aiJ,sI aiK]:=rfl
def dK.fy(x:dK):x.av=.agg [sI x.dM.aiI,sL Ty.av x.dM.aiJ,sI x.aiK]:=by cases x;exact dK.eO _ _
@[simp] theorem dK.jx(x:dK):x.av.cells=[sI x.dM.aiI,sL Ty.av x.dM.aiJ,sI x.aiK]:=by rw[dK.fy];rfl
@[simp] theorem dK.qP(x:dK):fj x.av=true:=by rw[dK.fy];rfl
@[simp] theorem dK.mZ(x:dK):x.av.norm=x.av:=by rw[dK.fy];rfl
@[simp] theorem dK.afL(a:Int)(b:List Ty)(c:Int):AV.agg [sI a,sL Ty.av b,sI c]=dK.av (dK.mk (Ty.mk a b) c):=by rw[dK.eO]<;>rfl
@[simp] theorem dK.agX(a b:Int):AV.agg [sI a,AV.slice .gx [],sI b]=dK.av (dK.mk (Ty.mk a []) b):=by rw[dK.eO]<;>rfl
def dV.av(x:dV):AV:=.agg [sI x.dW.aiI,sI x.dW.dM.aiI,sL Ty.av x.dW.dM.aiJ,sL Tm.av x.dW.ef,sL Fm.av x.dW.aiJ,AV.sc (.int .u32 x.jG)]
def dV.eO(dW:Fm)(jG:Int):(dV.mk dW jG).av=.agg [sI dW.aiI,sI dW.dM.aiI,sL Ty.av dW.dM.aiJ,sL Tm.av dW.ef,sL Fm.av dW.aiJ,AV.sc (.int .u32 jG)]:=rfl
def dV.fy(x:dV):x.av=.agg [sI x.dW.aiI,sI x.dW.dM.aiI,sL Ty.av x.dW.dM.aiJ,sL Tm.av x.dW.ef,sL Fm.av x.dW.aiJ,AV.sc (.int .u32 x.jG)]:=by cases x;exact dV.eO _ _
@[simp] theorem dV.jx(x:dV):x.av.cells=[sI x.dW.aiI,sI x.dW.dM.aiI,sL Ty.av x.dW.dM.aiJ,sL Tm.av x.dW.ef,sL Fm.av x.dW.aiJ,AV.sc (.int .u32 x.jG)]:=by rw[dV.fy];rfl
@[simp] theorem dV.qP(x:dV):fj x.av=true:=by rw[dV.fy];rfl
@[simp] theorem dV.mZ(x:dV):x.av.norm=x.av:=by rw[dV.fy];rfl
@[simp] theorem dV.PJ(a b:Int)(c:List Ty)(c3:List Tm)(d:List Fm)(c5:Int):AV.agg [sI a,sI b,sL Ty.av c,sL Tm.av c3,sL Fm.av d,AV.sc (.int .u32 c5)]=dV.av (dV.mk (Fm.mk a (Ty.mk b c) c3 d) c5):=by rw[dV.eO]<;>rfl
@[simp] theorem dV.adk(a b c5:Int):AV.agg [sI a,sI b,AV.slice .gx [],AV.slice .gx [],AV.slice .gx [],AV.sc (.int .u32 c5)]=dV.av (dV.mk (Fm.mk a (Ty.mk b []) [] []) c5):=by rw[dV.eO]<;>rfl
def eA.av(x:eA):AV:=.agg [sI x.vars,sI x.aiP]
def eA.eO(vars aiP:Int):(eA.mk vars aiP).av=.agg [sI vars,sI aiP]:=rfl
def eA.fy(x:eA):x.av=.agg [sI x.vars,sI x.aiP]:=by cases x;exact eA.eO _ _
@[simp] theorem eA.jx(x:eA):x.av.cells=[sI x.vars,sI x.aiP]:=by rw[eA.fy];rfl
@[simp] theorem eA.qP(x:eA):fj x.av=true:=by rw[eA.fy];rfl
@[simp] theorem eA.mZ(x:eA):x.av.norm=x.av:=by rw[eA.fy];rfl
@[simp] theorem eA.agg(a b:Int):AV.agg [sI a,sI b]=eA.av (eA.mk a b):=by rw[eA.eO]<;>rfl
def ec.av(x:ec):AV:=.agg [sI x.dW.aiI,sI x.dW.dM.aiI,sL Ty.av x.dW.dM.aiJ,sL Tm.av x.dW.ef,sL Fm.av x.dW.aiJ,sI x.vars]
def ec.eO(dW:Fm)(vars:Int):(ec.mk dW vars).av=.agg [sI dW.aiI,sI dW.dM.aiI,sL Ty.av dW.dM.aiJ,sL Tm.av dW.ef,sL Fm.av dW.aiJ,sI vars]:=rfl
def ec.fy(x:ec):x.av=.agg [sI x.dW.aiI,sI x.dW.dM.aiI,sL Ty.av x.dW.dM.aiJ,sL Tm.av x.dW.ef,sL Fm.av x.dW.aiJ,sI x.vars]:=by cases x;exact ec.eO _ _
@[simp] theorem ec.jx(x:ec):x.av.cells=[sI x.dW.aiI,sI x.dW.dM.aiI,sL Ty.av x.dW.dM.aiJ,sL Tm.av x.dW.ef,sL Fm.av x.dW.aiJ,sI x.vars]:=by rw[ec.fy];rfl
@[simp] theorem ec.qP(x:ec):fj x.av=true:=by rw[ec.fy];rfl
@[simp] theorem ec.mZ(x:ec):x.av.norm=x.av:=by rw[ec.fy];rfl
@[simp] theorem ec.PJ(a b:Int)(c:List Ty)(c3:List Tm)(d:List Fm)(c5:Int):AV.agg [sI a,sI b,sL Ty.av c,sL Tm.av c3,sL Fm.av d,sI c5]=ec.av (ec.mk (Fm.mk a (Ty.mk b c) c3 d) c5):=by rw[ec.eO]<;>rfl
def d_.av(x:d_):AV:=.agg [sI x.my.vars,sI x.my.aiP,sL dK.av x.aiM,sL ec.av x.known]
def d_.eO(my:eA)(aiM:List dK)(known:List ec):(d_.mk my aiM known).av=.agg [sI my.vars,sI my.aiP,sL dK.av aiM,sL ec.av known]:=rfl
def d_.fy(x:d_):x.av=.agg [sI x.my.vars,sI x.my.aiP,sL dK.av x.aiM,sL ec.av x.known]:=by cases x;exact d_.eO _ _ _
@[simp] theorem d_.jx(x:d_):x.av.cells=[sI x.my.vars,sI x.my.aiP,sL dK.av x.aiM,sL ec.av x.known]:=by rw[d_.fy];rfl
@[simp] theorem d_.qP(x:d_):fj x.av=true:=by rw[d_.fy];rfl
@[simp] theorem d_.mZ(x:d_):x.av.norm=x.av:=by rw[d_.fy];rfl
@[simp] theorem d_.Q5(a b:Int)(c:List dK)(c3:List ec):AV.agg [sI a,sI b,sL dK.av c,sL ec.av c3]=d_.av (d_.mk (eA.mk a b) c c3):=by rw[d_.eO]<;>rfl
def dR.av(x:dR):AV:=.agg [sI x.aiK,sB x.iN]
def dR.eO(aiK:Int)(iN:Bool):(dR.mk aiK iN).av=.agg [sI aiK,sB iN]:=rfl
def dR.fy(x:dR):x.av=.agg [sI x.aiK,sB x.iN]:=by cases x;exact dR.eO _ _
@[simp] theorem dR.jx(x:dR):x.av.cells=[sI x.aiK,sB x.iN]:=by rw[dR.fy];rfl
@[simp] theorem dR.qP(x:dR):fj x.av=true:=by rw[dR.fy];rfl
@[simp] theorem dR.agg(a:Int)(b:Bool):AV.agg [sI a,sB b]=dR.av (dR.mk a b):=by rw[dR.eO]<;>rfl
def eU.av(x:eU):AV:=.agg [sI x.ef,sI x.fI,sI x.aiJ,sB x.aiL,sB x.Mt]
def eU.eO(ef fI aiJ:Int)(aiL Mt:Bool):(eU.mk ef fI aiJ aiL Mt).av=.agg [sI ef,sI fI,sI aiJ,sB aiL,sB Mt]:=rfl
def eU.fy(x:eU):x.av=.agg [sI x.ef,sI x.fI,sI x.aiJ,sB x.aiL,sB x.Mt]:=by cases x;exact eU.eO _ _ _ _ _
@[simp] theorem eU.jx(x:eU):x.av.cells=[sI x.ef,sI x.fI,sI x.aiJ,sB x.aiL,sB x.Mt]:=by rw[eU.fy];rfl
@[simp] theorem eU.qP(x:eU):fj x.av=true:=by rw[eU.fy];rfl
@[simp] theorem eU.mZ(x:eU):x.av.norm=x.av:=by rw[eU.fy];rfl
@[simp] theorem eU.agg(a b c:Int)(c3 d:Bool):AV.agg [sI a,sI b,sI c,sB c3,sB d]=eU.av (eU.mk a b c c3 d):=by rw[eU.eO]<;>rfl
def fi.av(x:fi):AV:=.agg [sB x.aiL,sB x.typed,sI x.ef,sI x.fI,sI x.aiJ,sI x.tR,sI x.vars,sI x.aiP]
def fi.eO(aiL typed:Bool)(ef fI aiJ tR vars aiP:Int):(fi.mk aiL typed ef fI aiJ tR vars aiP).av=.agg [sB aiL,sB typed,sI ef,sI fI,sI aiJ,sI tR,sI vars,sI aiP]:=rfl
def fi.fy(x:fi):x.av=.agg [sB x.aiL,sB x.typed,sI x.ef,sI x.fI,sI x.aiJ,sI x.tR,sI x.vars,sI x.aiP]:=by cases x;exact fi.eO _ _ _ _ _ _ _ _
@[simp] theorem fi.jx(x:fi):x.av.cells=[sB x.aiL,sB x.typed,sI x.ef,sI x.fI,sI x.aiJ,sI x.tR,sI x.vars,sI x.aiP]:=by rw[fi.fy];rfl
@[simp] theorem fi.qP(x:fi):fj x.av=true:=by rw[fi.fy];rfl
@[simp] theorem fi.mZ(x:fi):x.av.norm=x.av:=by rw[fi.fy];rfl
@[simp] theorem fi.agg(a b:Bool)(c c3 d c5 f h:Int):AV.agg [sB a,sB b,sI c,sI c3,sI d,sI c5,sI f,sI h]=fi.av (fi.mk a b c c3 d c5 f h):=by rw[fi.eO]<;>rfl
def dY.av(x:dY):AV:=.agg [sI x.aiI,sI x.base.aiI,sI x.base.aiL,sI x.base.dM.aiI,sL Ty.av x.base.dM.aiJ,sL Tm.av x.base.aiJ,sL Ty.av x.vars,sI x.next.aiI,sI x.next.aiL,sI x.next.dM.aiI,sL Ty.av x.next.dM.aiJ,sL Tm.av x.next.aiJ]
def dY.eO(aiI:Int)(base:Tm)(vars:List Ty)(next:Tm):(dY.mk aiI base vars next).av=.agg [sI aiI,sI base.aiI,sI base.aiL,sI base.dM.aiI,sL Ty.av base.dM.aiJ,sL Tm.av base.aiJ,sL Ty.av vars,sI next.aiI,sI next.aiL,sI next.dM.aiI,sL Ty.av next.dM.aiJ,sL Tm.av next.aiJ]:=rfl
@[simp] theorem dY.uy(k:Nat)(x:dY):x.av.low k=true:=by
 cases x;rw[dY.eO];simp[AV.low,AV.iu]
@[simp] theorem dY.oe(k:Nat)(l:List dY):AV.iu k (l.map dY.av)=true:=by
 rw[AV.vO];intro x a;obtain⟨y,_,rfl⟩:=qv.1 a;exact dY.uy k y
def dY.fy(x:dY):x.av=.agg [sI x.aiI,sI x.base.aiI,sI x.base.aiL,sI x.base.dM.aiI,sL Ty.av x.base.dM.aiJ,sL Tm.av x.base.aiJ,sL Ty.av x.vars,sI x.next.aiI,sI x.next.aiL,sI x.next.dM.aiI,sL Ty.av x.next.dM.aiJ,sL Tm.av x.next.aiJ]:=by cases x;exact dY.eO _ _ _ _
@[simp] theorem dY.jx(x:dY):x.av.cells=[sI x.aiI,sI x.base.aiI,sI x.base.aiL,sI x.base.dM.aiI,sL Ty.av x.base.dM.aiJ,sL Tm.av x.base.aiJ,sL Ty.av x.vars,sI x.next.aiI,sI x.next.aiL,sI x.next.dM.aiI,sL Ty.av x.next.dM.aiJ,sL Tm.av x.next.aiJ]:=by rw[dY.fy];rfl
@[simp] theorem dY.qP(x:dY):fj x.av=true:=by rw[dY.fy];rfl
@[simp] theorem dY.mZ(x:dY):x.av.norm=x.av:=by rw[dY.fy];rfl
@[simp] theorem dY.TT(c d f c3:Int)(h:List Ty)(c5:List Tm)(i:List Ty)(j k l:Int)(a:List Ty)(b:List Tm):AV.agg [sI c,sI d,sI f,sI c3,sL Ty.av h,sL Tm.av c5,sL Ty.av i,sI j,sI k,sI l,sL Ty.av a,sL Tm.av b]=dY.av (dY.mk c (Tm.mk d f (Ty.mk c3 h) c5) i (Tm.mk j k (Ty.mk l a) b)):=by rw[dY.eO]<;>rfl
@[simp] theorem dY.Wk(a b c c3:Int)(d:List Ty)(c5:List Tm)(f h i:Int):AV.agg [sI a,sI b,sI c,sI c3,sL Ty.av d,sL Tm.av c5,AV.slice .gx [],sI f,sI h,sI i,AV.slice .gx [],AV.slice .gx []]=dY.av (dY.mk a (Tm.mk b c (Ty.mk c3 d) c5) [] (Tm.mk f h (Ty.mk i []) [])):=by rw[dY.eO]<;>rfl
@[simp] theorem dY.U7(a b c c3:Int)(d:List Ty)(f h i:Int):AV.agg [sI a,sI b,sI c,sI c3,sL Ty.av d,AV.slice .gx [],AV.slice .gx [],sI f,sI h,sI i,AV.slice .gx [],AV.slice .gx []]=dY.av (dY.mk a (Tm.mk b c (Ty.mk c3 d) []) [] (Tm.mk f h (Ty.mk i []) [])):=by rw[dY.eO]<;>rfl
@[simp] theorem dY.VJ(a b c c3:Int)(c5:List Tm)(d f h:Int):AV.agg [sI a,sI b,sI c,sI c3,AV.slice .gx [],sL Tm.av c5,AV.slice .gx [],sI d,sI f,sI h,AV.slice .gx [],AV.slice .gx []]=dY.av (dY.mk a (Tm.mk b c (Ty.mk c3 []) c5) [] (Tm.mk d f (Ty.mk h []) [])):=by rw[dY.eO]<;>rfl
@[simp] theorem dY.V7(c d f c3:Int)(h:List Ty)(i j k:Int)(a:List Ty)(b:List Tm):AV.agg [sI c,sI d,sI f,sI c3,AV.slice .gx [],AV.slice .gx [],sL Ty.av h,sI i,sI j,sI k,sL Ty.av a,sL Tm.av b]=dY.av (dY.mk c (Tm.mk d f (Ty.mk c3 []) []) h (Tm.mk i j (Ty.mk k a) b)):=by rw[dY.eO]<;>rfl
@[simp] theorem dY.VE(a b c c3 d f h:Int):AV.agg [sI a,sI b,sI c,sI c3,AV.slice .gx [],AV.slice .gx [],AV.slice .gx [],sI d,sI f,sI h,AV.slice .gx [],AV.slice .gx []]=dY.av (dY.mk a (Tm.mk b c (Ty.mk c3 []) []) [] (Tm.mk d f (Ty.mk h []) [])):=by rw[dY.eO]<;>rfl
def HC.cells(k:Nat):HC->List AV
 |.JV x=>[pav k x.term,sI x.steps]|.FT x=>[sI x.aiI,sI x.aiL,sI x.Mt.aiI,sL Ty.av x.Mt.aiJ,AV.slice .gx (List.map (pav k) x.aiJ),sI x.size,sI x.free,sB x.normal]
end Go.fH
namespace Go.Proofs.YtpgdkkomegalnaaGreatDoor
open Go Go.kY Go.fH Tryz
@[simp] theorem U2:fP prog 3=some (false,1):=by kernel_rfl
@[simp] theorem aaq:j0 prog 3=some [.sc (.int .i64 0)]:=by kernel_rfl
@[simp] theorem uM:prog.underlying 3=some (.int .i64):=by kernel_rfl
@[simp] theorem aiE:fP prog 4=some (false,1)/\fP prog 22=some (false,1)/\fP prog 27=some (false,1)/\o6 prog 29=some [.sc (.int .i64 0),.slice .full []]/\j0 prog 29=some [.sc (.int .i64 0),.slice .full []]/\eW prog 29 0=some (0,3)/\gi prog 29 0=some (0,1)/\eW prog 29 1=some (1,27)/\gi prog 29 1=some (1,1)/\fP prog 30=some (false,1):=by and_intros<;>kernel_rfl
@[simp] theorem GX:od prog 22=some (3,1):=by kernel_rfl
@[simp] theorem af6:prog.underlying 22=some (.slice 3):=by kernel_rfl
@[simp] theorem FG:od prog 27=some (29,2):=by kernel_rfl
@[simp] theorem agd:prog.underlying 27=some (.slice 29):=by kernel_rfl
@[simp] theorem Z8:fP prog 29=some (true,2):=by kernel_rfl
@[simp] theorem Ty.adX(x:Ty):uk prog 29 x.av=true:=by rw[Ty.fy,tK,Z8];rfl
@[simp] theorem y5:od prog 30=some (32,5):=by kernel_rfl
@[simp] theorem aaP:fP prog 32=some (true,5):=by kernel_rfl
@[simp] theorem ahl:o6 prog 32=some [.sc (.int .i64 0),.sc (.int .i64 0),.sc (.int .i64 0),.slice .full [],.slice .full []]/\eW prog 32 0=some (0,3)/\gi prog 32 0=some (0,1)/\eW prog 32 1=some (1,3)/\gi prog 32 1=some (1,1)/\eW prog 32 2=some (2,29)/\gi prog 32 2=some (2,2)/\eW prog 32 3=some (4,30)/\gi prog 32 3=some (4,1)/\fP prog 34=some (false,1):=by and_intros<;>kernel_rfl
@[simp] theorem acZ:j0 prog 32=some [.sc (.int .i64 0),.sc (.int .i64 0),.sc (.int .i64 0),.slice .full [],.slice .full []]:=by kernel_rfl
@[simp] theorem Tm.adx(x:Tm):uk prog 32 x.av=true:=by rw[Tm.fy,tK,aaP];rfl
@[simp] theorem JC:od prog 34=some (36,5):=by kernel_rfl
@[simp] theorem aew:prog.underlying 34=some (.slice 36):=by kernel_rfl
@[simp] theorem aau:fP prog 36=some (true,5):=by kernel_rfl
@[simp] theorem ahI:o6 prog 36=some [.sc (.int .i64 0),.sc (.int .i64 0),.slice .full [],.slice .full [],.slice .full []]/\j0 prog 36=some [.sc (.int .i64 0),.sc (.int .i64 0),.slice .full [],.slice .full [],.slice .full []]/\eW prog 36 0=some (0,3)/\gi prog 36 0=some (0,1)/\eW prog 36 1=some (1,29)/\gi prog 36 1=some (1,2)/\eW prog 36 2=some (3,30)/\gi prog 36 2=some (3,1)/\eW prog 36 3=some (4,34)/\gi prog 36 3=some (4,1):=by and_intros<;>kernel_rfl
@[simp] theorem Fm.adW(x:Fm):uk prog 36 x.av=true:=by rw[Fm.fy,tK,aau];rfl
@[simp] theorem ahR:fP prog 37=some (false,1)/\od prog 37=some (39,7)/\o6 prog 39=some [.sc (.int .i64 0),.sc (.int .i64 0),.sc (.int .i64 0),.slice .full [],.slice .full [],.slice .full [],.slice .full []]/\j0 prog 39=some [.sc (.int .i64 0),.sc (.int .i64 0),.sc (.int .i64 0),.slice .full [],.slice .full [],.slice .full [],.slice .full []]/\eW prog 39 0=some (0,3)/\gi prog 39 0=some (0,1)/\eW prog 39 1=some (1,3)/\gi prog 39 1=some (1,1)/\eW prog 39 2=some (2,29)/\gi prog 39 2=some (2,2):=by and_intros<;>kernel_rfl
@[simp] theorem aeB:fP prog 39=some (true,7):=by kernel_rfl
@[simp] theorem ad':eW prog 39 3=some (4,30)/\gi prog 39 3=some (4,1)/\eW prog 39 4=some (5,34)/\gi prog 39 4=some (5,1)/\eW prog 39 5=some (6,37)/\gi prog 39 5=some (6,1)/\fP prog 53=some (true,2)/\o6 prog 53=some [.slice .full [],.slice .full []]/\eW prog 53 0=some (0,27)/\gi prog 53 0=some (0,1):=by and_intros<;>kernel_rfl
@[simp] theorem Pf.ad5(x:Pf):uk prog 39 x.av=true:=by rw[Pf.fy,tK,aeB];rfl
@[simp] theorem ad1:eW prog 53 1=some (1,34)/\gi prog 53 1=some (1,1)/\fP prog 54=some (false,1)/\od prog 54=some (56,4)/\o6 prog 56=some [.sc (.int .i64 0),.sc (.int .i64 0),.slice .full [],.slice .full []]/\j0 prog 56=some [.sc (.int .i64 0),.sc (.int .i64 0),.slice .full [],.slice .full []]/\eW prog 56 0=some (0,3)/\gi prog 56 0=some (0,1)/\eW prog 56 1=some (1,3)/\gi prog 56 1=some (1,1):=by and_intros<;>kernel_rfl
@[simp] theorem aen:fP prog 56=some (true,4):=by kernel_rfl
@[simp] theorem adC:eW prog 56 2=some (2,22)/\gi prog 56 2=some (2,1)/\eW prog 56 3=some (3,54)/\gi prog 56 3=some (3,1)/\fP prog 61=some (false,1)/\j0 prog 61=some [.sc .nilFunc]/\o6 prog 66=some [.slice .full [],.sc (.int .i64 0)]/\eW prog 66 0=some (0,22)/\gi prog 66 0=some (0,1)/\eW prog 66 1=some (1,3):=by and_intros<;>kernel_rfl
@[simp] theorem Vl.adZ(x:Vl):uk prog 56 x.av=true:=by rw[Vl.fy,tK,aen];rfl
@[simp] theorem ahV:fP prog 85=some (false,1)/\j0 prog 85=some [.sc .nilFunc]/\fP prog 91=some (true,6)/\o6 prog 91=some [.sc (.int .i64 0),.sc (.int .i64 0),.slice .full [],.slice .full [],.slice .full [],.slice .full []]/\j0 prog 91=some [.sc (.int .i64 0),.sc (.int .i64 0),.slice .full [],.slice .full [],.slice .full [],.slice .full []]/\eW prog 91 0=some (0,36)/\gi prog 91 0=some (0,5)/\eW prog 91 1=some (5,22)/\gi prog 91 1=some (5,1)/\o6 prog 98=some [.slice .full [],.slice .full [],.sc (.int .i64 0)]:=by and_intros<;>kernel_rfl
@[simp] theorem ad2:eW prog 98 0=some (0,34)/\gi prog 98 0=some (0,1)/\eW prog 98 1=some (1,30)/\gi prog 98 1=some (1,1)/\eW prog 98 2=some (2,3)/\fP prog 100=some (true,4)/\o6 prog 100=some [.slice .full [],.slice .full [],.slice .full [],.slice .full []]/\j0 prog 100=some [.slice .full [],.slice .full [],.slice .full [],.slice .full []]/\eW prog 100 0=some (0,53)/\gi prog 100 0=some (0,2):=by and_intros<;>kernel_rfl
@[simp] theorem acK:eW prog 100 1=some (2,30)/\gi prog 100 1=some (2,1)/\eW prog 100 2=some (3,30)/\gi prog 100 2=some (3,1)/\o6 prog 113=some [.sc (.int .i64 0),.sc (.int .i64 0),.sc (.bool false)]/\eW prog 113 0=some (0,3)/\eW prog 113 1=some (1,3)/\gi prog 113 1=some (1,1)/\eW prog 113 2=some (2,4)/\fP prog 114=some (false,1):=by and_intros<;>kernel_rfl
@[simp] theorem Ww:od prog 114=some (116,9):=by kernel_rfl
@[simp] theorem abw:prog.underlying 114=some (.slice 116):=by kernel_rfl
@[simp] theorem UD:fP prog 116=some (true,9):=by kernel_rfl
@[simp] theorem agG:o6 prog 116=some [.sc (.int .i64 0),.slice .full [],.slice .full [],.sc (.int .i64 0),.sc (.int .i64 0),.sc (.int .i64 0),.slice .full [],.slice .full [],.slice .full []]/\j0 prog 116=some [.sc (.int .i64 0),.slice .full [],.slice .full [],.sc (.int .i64 0),.sc (.int .i64 0),.sc (.int .i64 0),.slice .full [],.slice .full [],.slice .full []]/\eW prog 116 0=some (0,3)/\gi prog 116 0=some (0,1)/\eW prog 116 1=some (1,22)/\gi prog 116 1=some (1,1)/\eW prog 116 2=some (2,114)/\gi prog 116 2=some (2,1)/\eW prog 116 3=some (3,32)/\gi prog 116 3=some (3,5):=by and_intros<;>kernel_rfl
@[simp] theorem abt:eW prog 116 4=some (8,114)/\gi prog 116 4=some (8,1)/\fP prog 132=some (true,3)/\o6 prog 132=some [.slice .full [],.slice .full [],.slice .full []]/\j0 prog 132=some [.slice .full [],.slice .full [],.slice .full []]/\eW prog 132 0=some (0,34)/\gi prog 132 0=some (0,1)/\eW prog 132 1=some (1,27)/\gi prog 132 1=some (1,1)/\eW prog 132 2=some (2,34):=by and_intros<;>kernel_rfl
@[simp] theorem dG.abD(x:dG):uk prog 116 x.av=true:=by rw[dG.fy,tK,UD];rfl
@[simp] theorem aa5:gi prog 132 2=some (2,1)/\o6 prog 148=some [.sc (.int .i64 0),.slice .full [],.sc (.int .i64 0)]/\j0 prog 148=some [.sc (.int .i64 0),.slice .full [],.sc (.int .i64 0)]/\eW prog 148 0=some (0,29)/\gi prog 148 0=some (0,2)/\eW prog 148 1=some (2,3)/\gi prog 148 1=some (2,1)/\fP prog 151=some (false,1)/\fP prog 158=some (false,1)/\o6 prog 161=some [.slice .full [],.sc (.map none)]:=by and_intros<;>kernel_rfl
@[simp] theorem zO:fP prog 148=some (true,3):=by kernel_rfl
@[simp] theorem dK.adj(x:dK):uk prog 148 x.av=true:=by rw[dK.fy,tK,zO];rfl
@[simp] theorem T_:od prog 151=some (148,3):=by kernel_rfl
@[simp] theorem acR:prog.underlying 151=some (.slice 148):=by kernel_rfl
@[simp] theorem acP:gi prog 161 0=some (0,1)/\eW prog 161 1=some (1,158)/\gi prog 161 1=some (1,1)/\fP prog 163=some (false,1)/\j0 prog 163=some [.sc (.int .u32 0)]/\fP prog 165=some (true,6)/\o6 prog 165=some [.sc (.int .i64 0),.sc (.int .i64 0),.slice .full [],.slice .full [],.slice .full [],.sc (.int .u32 0)]/\j0 prog 165=some [.sc (.int .i64 0),.sc (.int .i64 0),.slice .full [],.slice .full [],.slice .full [],.sc (.int .u32 0)]/\eW prog 165 0=some (0,36)/\gi prog 165 0=some (0,5):=by and_intros<;>kernel_rfl
@[simp] theorem acL:eW prog 165 1=some (5,163)/\gi prog 165 1=some (5,1)/\fP prog 169=some (true,2)/\eW prog 169 0=some (0,3)/\eW prog 169 1=some (1,3)/\fP prog 170=some (false,1)/\fP prog 172=some (true,4)/\o6 prog 172=some [.sc (.int .i64 0),.sc (.int .i64 0),.slice .full [],.slice .full []]/\j0 prog 172=some [.sc (.int .i64 0),.sc (.int .i64 0),.slice .full [],.slice .full []]/\eW prog 172 0=some (0,169):=by and_intros<;>kernel_rfl
@[simp] theorem aep:od prog 170=some (257,6):=by kernel_rfl
@[simp] theorem ac':prog.underlying 170=some (.slice 257):=by kernel_rfl
@[simp] theorem aa3:eW prog 172 1=some (2,151)/\gi prog 172 1=some (2,1)/\eW prog 172 2=some (3,170)/\fP prog 194=some (true,9)/\j0 prog 194=some [.sc (.int .i64 0),.slice .full [],.sc (.int .i64 0),.sc (.int .i64 0),.slice .full [],.sc (.int .i64 0),.sc (.int .i64 0),.slice .full [],.sc (.int .i64 0)]/\o6 prog 200=some [.sc (.int .i64 0),.sc (.bool false)]/\eW prog 200 0=some (0,3)/\eW prog 200 1=some (1,4)/\fP prog 205=some (false,1)/\j0 prog 205=some [.sc .nilFunc]:=by and_intros<;>kernel_rfl
@[simp] theorem EX:prog.underlying 194=some (.array 3 148):=by kernel_rfl
@[simp] theorem aft(b g o:Nat):gw prog 194 (.hU b g o) (.sc (.int .i64 0))=some (.hU b g (o+0)):=by kernel_rfl
@[simp] theorem af0(b g o:Nat):gw prog 194 (.hU b g o) (.sc (.int .i64 1))=some (.hU b g (o+3)):=by kernel_rfl
@[simp] theorem afM(b g o:Nat):gw prog 194 (.hU b g o) (.sc (.int .i64 2))=some (.hU b g (o+6)):=by kernel_rfl
@[simp] theorem ahH:fP prog 210=some (true,5)/\o6 prog 210=some [.sc (.int .i64 0),.sc (.int .i64 0),.sc (.int .i64 0),.sc (.bool false),.sc (.bool false)]/\j0 prog 210=some [.sc (.int .i64 0),.sc (.int .i64 0),.sc (.int .i64 0),.sc (.bool false),.sc (.bool false)]/\eW prog 210 0=some (0,3)/\gi prog 210 0=some (0,1)/\eW prog 210 1=some (1,3)/\gi prog 210 1=some (1,1)/\eW prog 210 2=some (2,3)/\gi prog 210 2=some (2,1)/\eW prog 210 3=some (3,4):=by and_intros<;>kernel_rfl
@[simp] theorem aa9:gi prog 210 3=some (3,1)/\eW prog 210 4=some (4,4)/\gi prog 210 4=some (4,1)/\o6 prog 235=some [.sc (.bool false),.sc (.bool false),.sc (.int .i64 0),.sc (.int .i64 0),.sc (.int .i64 0),.sc (.int .i64 0),.sc (.int .i64 0),.sc (.int .i64 0)]/\j0 prog 235=some [.sc (.bool false),.sc (.bool false),.sc (.int .i64 0),.sc (.int .i64 0),.sc (.int .i64 0),.sc (.int .i64 0),.sc (.int .i64 0),.sc (.int .i64 0)]/\eW prog 235 0=some (0,4)/\eW prog 235 1=some (1,4)/\eW prog 235 2=some (2,3)/\eW prog 235 3=some (3,3)/\eW prog 235 4=some (4,3):=by and_intros<;>kernel_rfl
@[simp] theorem Uq:fP prog 235=some (true,8):=by kernel_rfl
@[simp] theorem fi.ac3(x:fi):uk prog 235 x.av=true:=by rw[fi.fy,tK,Uq];rfl
@[simp] theorem ab2:fP prog 257=some (true,6):=by kernel_rfl
@[simp] theorem agu:o6 prog 257=some [.sc (.int .i64 0),.sc (.int .i64 0),.slice .full [],.slice .full [],.slice .full [],.sc (.int .i64 0)]/\gi prog 257 0=some (0,5)/\gi prog 257 1=some (5,1)/\fP prog 275=some (false,1)/\fP prog 291=some (false,1)/\j0 prog 291=some [.sc .nilFunc]/\fP prog 307=some (false,1):=by and_intros<;>kernel_rfl
@[simp] theorem Pg:prog.underlying 263=some (.map 3 4):=by kernel_rfl
@[simp] theorem abM:prog.underlying 273=some (.array 21 235):=by kernel_rfl
@[simp] theorem acW:prog.underlying 290=some (.array 14 3):=by kernel_rfl
@[simp] theorem agV(tag:Tag)(l:List Int)(a:Int):oP prog 22 (.slice tag (List.map sI l)) (some (.sc (.int .i64 a))) none none=(Ag l a (ez l)).map λr=>.slice .gx (List.map sI r):=Ni _ l af6 U2 (λx=>by simp)
@[simp] theorem agt(tag:Tag)(l:List Ty):oP prog 27 (.slice tag (List.map Ty.av l)) none (some (.sc (.int .i64 (ez l)))) (some (.sc (.int .i64 (ez l))))=some (.slice .full (List.map Ty.av l)):=wq _ l agd Z8 (λx=>by simp)
@[simp] theorem agx(tag:Tag)(l:List Fm):oP prog 34 (.slice tag (List.map Fm.av l)) none (some (.sc (.int .i64 (ez l)))) (some (.sc (.int .i64 (ez l))))=some (.slice .full (List.map Fm.av l)):=wq _ l aew aau (λx=>by simp)
@[simp] theorem aea(tag:Tag)(l:List dG):oP prog 114 (.slice tag (List.map dG.av l)) none (some (.sc (.int .i64 (ez l)))) (some (.sc (.int .i64 (ez l))))=some (.slice .full (List.map dG.av l)):=wq _ l abw UD (λx=>by simp)
@[simp] theorem aeu(tag:Tag)(l:List dK):oP prog 151 (.slice tag (List.map dK.av l)) none (some (.sc (.int .i64 (ez l)))) (some (.sc (.int .i64 (ez l))))=some (.slice .full (List.map dK.av l)):=wq _ l acR zO (λx=>by simp)
@[simp] theorem aev(tag:Tag)(l:List ec):oP prog 170 (.slice tag (List.map ec.av l)) none (some (.sc (.int .i64 (ez l)))) (some (.sc (.int .i64 (ez l))))=some (.slice .full (List.map ec.av l)):=wq _ l ac' ab2 (λx=>by simp)
def fi.cs(x:fi):List AV:=x.av.cells
@[simp] theorem aiq(a:Int):gw prog 273 (.mh (.agg (List.flatMap (λx=>fi.cs x) oa))) (.sc (.int .i64 a))=(eb oa a).map λx=>.mh x.av:=G1 abM Uq (λx=>rfl) (λx=>⟨_,fi.fy x⟩) (λx=>by simp) rfl
@[simp] theorem aiv(a:Int):gw prog 290 (.mh (.agg (List.map (λn=>AV.sc (Value.int .i64 n)) p_))) (.sc (.int .i64 a))=(eb p_ a).map λx=>.mh (.sc (.int .i64 x)):=IX acW U2 rfl
@[simp] theorem kZ:prog.underlying 158=some (.map 3 202):=by kernel_rfl
def Vz:N7 prog 202=some (.sc .nilFunc):=by kernel_rfl
def OM:List Value:=[.int .i64 1,.int .i64 2,.int .i64 3,.int .i64 4,.int .i64 5,.int .i64 6,.int .i64 7,.int .i64 8,.int .i64 12,.int .i64 9,.int .i64 13,.int .i64 10,.int .i64 14,.int .i64 11,.int .i64 15,.int .i64 16,.int .i64 17,.int .i64 18,.int .i64 19,.int .i64 20]
def PW:List AV:=[.func (.func 174) [] [],.func (.func 175) [] [],.func (.func 176) [] [],.func (.func 177) [] [],.func (.func 177) [] [],.func (.func 178) [] [],.func (.func 179) [] [],.func (.func 180) [] [],.func (.func 180) [] [],.func (.func 181) [] [],.func (.func 181) [] [],.func (.func 182) [] [],.func (.func 182) [] [],.func (.func 183) [] [],.func (.func 183) [] [],.func (.func 184) [] [],.func (.func 184) [] [],.func (.func 185) [] [],.func (.func 186) [] [],.func (.func 187) [] []]
def Mi:AV:=.tU OM PW
def L0(k:Int):AV:=match mapIdx OM (.int .i64 k)with|some j=>PW.getD j .undef|none=>.sc .nilFunc
abbrev KC(H:dT)(o:Nat)(l:List Fm):Prop:=H[o]?=some [sL Fm.av l,AV.nB (o-1)]/\H[o-1]?=some [Mi]
def Pc{H:dT}{o:Nat}{k:Int}(h:H[o]?=some [Mi]):u6 prog H 158 (AV.nB o) (sI k) false=some (L0 k):=R7 kZ uM Vz h abB abB
def Fg{k key:Int}{x:AV}(h:ei k key=true)(a:L0 key=x):L0 k=x:=by rw[Ui h];exact a
def Qj{T:eH}{g:Nat}{xs:List AV}{H H':dT}{r:AV}(h:eI prog T g xs H r H'):tX prog T (.func (.func g) [] []) xs H r H':=by
 unfold tX oY;simp only[qc,DR];exact h
abbrev nV(T:eH):Prop:=T 2=some (AV.agg (List.map (λn=>AV.sc (Value.int .i64 n)) p_))/\T 1=some (AV.agg (List.flatMap (λx=>fi.cs x) oa))/\T 0=some (AV.agg (List.map (λn=>AV.sc (Value.int .u8 n)) lj))
def DU{S:Type}(T:eH)(g:Nat)(cap:List AV)(st:S->dT)(w:(S->Tm->Int->Option (Tm×S))):Prop:=
 ∀(X:dT) (s:S) (a:Tm) (b:Int) (c:Tm) (d:S),w s a b=some (c,d)->eI prog T g ([Tm.av a,sI b]++cap) (st s++X) (Tm.av c) (st d++X)
def DU.at0{S:Type}{T:eH}{g:Nat}{cap:List AV}{st:S->dT}{w:(S->Tm->Int->Option (Tm×S))}(h:DU T g cap st w){s:S}{a:Tm}{b:Int}{c:Tm}{d:S}(hw:w s a b=some (c,d)):eI prog T g ([Tm.av a,sI b]++cap) (st s) (Tm.av c) (st d):=by
 have:=h [] s a b c d hw
 rwa [DR,DR] at this
def tB{S:Type}(T:eH)(g:Nat)(cap:List AV)(st:S->dT)(w:(S->Int->Int->Option (S))):Prop:=
 ∀(X:dT) (s:S) (a:Int) (b:Int) (c:S),w s a b=some c->eI prog T g ([sI a,sI b]++cap) (st s++X) (AV.tuple []) (st c++X)
def tB.ext{S:Type}{T:eH}{g:Nat}{cap:List AV}{st:S->dT}{w:(S->Int->Int->Option (S))}(h:tB T g cap st w){Y:dT}:tB T g cap (λs=>st s++Y) w:=λX s a b c hw=>by
 have:=h (Y++X) s a b c hw
 rwa [<-vn,<-vn] at this
def tB.at0{S:Type}{T:eH}{g:Nat}{cap:List AV}{st:S->dT}{w:(S->Int->Int->Option (S))}(h:tB T g cap st w){s:S}{a b:Int}{c:S}(hw:w s a b=some c):eI prog T g ([sI a,sI b]++cap) (st s) (AV.tuple []) (st c):=by
 have:=h [] s a b c hw
 rwa [DR,DR] at this
def ED{S:Type}(T:eH)(g:Nat)(cap:List AV)(st:S->dT)(w:(S->Tm->Int->Option (S))):Prop:=
 ∀(X:dT) (s:S) (a:Tm) (b:Int) (c:S),w s a b=some c->eI prog T g ([Tm.av a,sI b]++cap) (st s++X) (AV.tuple []) (st c++X)
def ED.at0{S:Type}{T:eH}{g:Nat}{cap:List AV}{st:S->dT}{w:(S->Tm->Int->Option (S))}(h:ED T g cap st w){s:S}{a:Tm}{b:Int}{c:S}(hw:w s a b=some c):eI prog T g ([Tm.av a,sI b]++cap) (st s) (AV.tuple []) (st c):=by
 have:=h [] s a b c hw
 rwa [DR,DR] at this
def tC{S:Type}(T:eH)(g:Nat)(cap:List AV)(st:S->dT)(w:(S->Int->Int->Option (Tm×S))):Prop:=
 ∀(X:dT) (s:S) (a:Int) (b:Int) (c:Tm) (d:S),w s a b=some (c,d)->eI prog T g ([sI a,sI b]++cap) (st s++X) (Tm.av c) (st d++X)
def tC.ext{S:Type}{T:eH}{g:Nat}{cap:List AV}{st:S->dT}{w:(S->Int->Int->Option (Tm×S))}(h:tC T g cap st w){Y:dT}:tC T g cap (λs=>st s++Y) w:=λX s a b c d hw=>by
 have:=h (Y++X) s a b c d hw
 rwa [<-vn,<-vn] at this
def tC.at0{S:Type}{T:eH}{g:Nat}{cap:List AV}{st:S->dT}{w:(S->Int->Int->Option (Tm×S))}(h:tC T g cap st w){s:S}{a b:Int}{c:Tm}{d:S}(hw:w s a b=some (c,d)):eI prog T g ([sI a,sI b]++cap) (st s) (Tm.av c) (st d):=by
 have:=h [] s a b c d hw
 rwa [DR,DR] at this
end Go.Proofs.YtpgdkkomegalnaaGreatDoor
set_option maxRecDepth 20000
set_option maxHeartbeats 4000000
namespace Go.Proofs.YtpgdkkomegalnaaGreatDoor
open Go Go.kY Go.fH Tryz
def M8:C1 prog 30 fA Tm.av sI:=by
 refine v1 func30 λT H a0 r m e=>?_;rw[fA] at m;exact au
@[reducible,instance] def aaN:=@Kc.mk prog 30 _ @M8
def Lv:C2 prog 31 iS Tm.av sI (sL Tm.av):=by
 refine v2 func31 λT H a0 a r m e=>?_;rw[iS] at m;exact au
@[reducible,instance] def XM:=@Kc.mk prog 31 _ @Lv
def Ob:C2 prog 28 gU Tm.av Ty.av Tm.av:=by
 refine v2 func28 λT H a0 a r m e=>?_;rw[gU] at m;have e:=Aj e (show AV.agg [sI 2,sI 0,sI a0.aiI,sL Ty.av a0.aiJ,AV.slice .gx [Tm.av a]]=Tm.av (Tm.mk 2 0 a0 [a]) by rw[Tm.eO];rfl);exact au
@[reducible,instance] def ZU:=@Kc.mk prog 28 _ @Ob
def Mj:C0 prog 26 pE Ty.av:=by
 refine v0 func26 λT H r m e=>?_;rw[pE] at m;exact au
@[reducible,instance] def YW:=@Kc.mk prog 26 _ @Mj
def N':C0 prog 41 gj Ty.av:=by
 refine v0 func41 λT H r m e=>?_;rw[gj] at m;exact au
@[reducible,instance] def ZX:=@Kc.mk prog 41 _ @N'
def D8:C2 prog 53 pA Ty.av Ty.av (sL Ty.av):=by
 refine v2 func53 λT H a0 b r m e=>?_;rw[pA] at m;simp[e];refine Wn m 999 (λs1 f h=>∃a,h=H/\f.1 1=sL Ty.av b/\f.1 5=sI s1.1/\bx f 2 [sI s1.2.1,sT a Ty.av s1.2.2]/\bx f 4 [sI 0,nL]) ⟨.gx,abx⟩ (λs1 _ _ _ _ _ E m z p=>?_);have⟨v9,v10,v11⟩:=s1;have⟨a,E⟩:=E;have e:=Aj e E;dsimp only[FJ]at m;apply Ir e m<;>intro e m
 ·cases m;have m:=Qb z;dsimp only[FJ]at m;exact au
 refine sw [8,0] ?_;intro c e m;cases m;exact p _ _ _ ⟨.full,abx⟩ z
@[reducible,instance] def Zi:=@Kc.mk prog 53 _ @D8
def x':C0 prog 35 px Ty.av:=by
 refine v0 func35 λT H r m e=>?_;rw[px] at m;exact aa
@[reducible,instance] def SP:=@Kc.mk prog 35 _ @x'
def nR{n:Nat}:C1 prog 285 (me n) (t2 sI sB) Ty.av:=by
 refine i1 λn ih=>u1 4 func285 λT H a0 r m e=>?_;rw[me] at m;simp[e];refine CP m 3 999 (λb f h=>∃v2,(h=H/\f.1 4=sI v2/\bx f 1 (Ty.av a0).cells)/\b v2=some r) ?_ (λb _ g m=>?_)
 ·rintro _ _ ⟨v2,E,m⟩;refine sw [10,7,0] ?_;intro e m;refine Wr e m 999 (λc a f h=>h=H/\f.1 5=sI a/\f.1 25=sL Ty.av a0.aiJ/\f.1 26=sI (ez a0.aiJ)/\f.1 27=sI c) abx (λa _ _ _ E m=>?_) (λc _ a _ _ _ _ _ E e m z p=>?_)
  ·exact aa
  exact aa
 simp[e];refine wj 999 0 (λf h=>h=H/\f.1 4=sI 0/\f.1 11=sI a0.aiI/\f.1 12=sB (e_ (ei a0.aiI 1) true (e_ (ei a0.aiI 2) true (ei a0.aiI 5)))/\bx f 1 (Ty.av a0).cells) (λ_ g=>?_) ?_
 ·rcases Pb (ei a0.aiI 1) e with e|e
  ·exact aj
  rcases Pb (ei a0.aiI 2) e with e|e
  ·exact aj
  exact aj
 rintro _ _ E;have e:=Aj e E;apply Iq e m<;>intro e m
 ·apply wg 999;exact iO
 apply wg 1;simp[e];refine wj 999 999 (λf h=>h=H/\f.1 16=sB (e_ (ei a0.aiI 3) true (ei a0.aiI 4))/\bx f 1 (Ty.av a0).cells) (λ_ g=>?_) ?_
 ·rcases Pb (ei a0.aiI 3) e with e|e
  ·exact aj
  exact aj
 rintro _ _ E;refine sw [10,12] ?_;intro e m;exact iO
@[reducible,instance] def RP:=@Kc.mk prog 285 _ @nR
def nQ:C1 prog 228 iT (t2 sI sI) Ty.av:=by
 refine v1 func228 λT H a0 r m e=>?_;rw[iT] at m;exact aa
@[reducible,instance] def Sg:=@Kc.mk prog 228 _ @nQ
def Cb:C1 prog 166 rN sI Ty.av:=by
 refine v1 func166 λT H a0 r m e=>?_;rw[rN] at m;exact aa
@[reducible,instance] def W7:=@Kc.mk prog 166 _ @Cb
def ux:C1 prog 128 nq sI (sL Ty.av):=by
 refine v1 func128 λT H a0 r m e=>?_;rw[nq] at m;refine sw [7,0] ?_;intro e m;exact Wb e m 999 11 [9,10] [] nI
@[reducible,instance] def TF:=@Kc.mk prog 128 _ @ux
def uN(T:eH)(c:nV T){H:dT}{a0 a:Int}{b:Bool}(hm:vD a0=some (a,b)):eI prog T 286 [sI a0] H (AV.tuple [sI a,sB b]) H:=by
 rw[vD] at hm;have e:=c;refine wi aiN func286 [] [] 3 ?_;simp[e];refine wA 999 999 [0] [] (λf=>f.1 9=sB (e_ (sx a0 1) true (rb a0 14))) [] (λ_ g=>?_) ?_
 ·exact aa
 intro _ e m;have m:=hm;exact aa
@[reducible,instance] def Y6:=@Kc.mk prog 286 _ @uN
def ym:C1 prog 287 vT sB sI:=by
 refine u1 2 func287 λT H a0 r m e=>?_;rw[vT] at m;simp[e];refine wB 999 999 [] [] (λf=>f.1 2=sB (e_ (ei a0 2) true (e_ (ei a0 6) true (ei a0 9)))) λ_ g=>?_;exact aa
def qD:C1 prog 237 n7 sB Ty.av:=by
 refine u1 2 func237 λT H a0 r m e=>?_;rw[n7] at m;simp[e];refine wB 999 999 [] [] (λf=>f.1 2=sB (e_ (ei a0.aiI 0) (ei (ez a0.aiJ) 0) false)) λ_ g=>?_;exact aa
def mT(T:eH)(l:nV T):∀(n:Nat),(∀{H:dT} {a0:Tm} {c:Int} {d:Bool} (hm:jA n a0=some (c,d)),eI prog T 229 [Tm.av a0] H (AV.tuple [sI c,sB d]) H):=by
  intro n
  induction n with
  |zero=>
    skip
    all_goals(intro _ _;intros;rename_i hm;cases hm)
  |succ n ih=>
 intro H a0 c d hm;rw[jA] at hm;have e:=l;refine wi aiN func229 [] [] 5 ?_;have m:=hm;refine sw [0,2,0] ?_;intro i j e m;refine wA 999 0 [] [1] (λf=>f.1 42=sB (e_ j (e_ (eE (ez a0.aiJ) i) true (e_ (sx a0.aiL 0) true (e_ (eE a0.aiL 0) (eE a0.aiI 1) false))) true)) [13] (λ_ g=>?_) ?_
 ·rcases Pb j e with e|e;rotate_left
  ·exact aj
  rcases Pb (eE (ez a0.aiJ) i) e with e|e
  ·exact aj
  rcases Pb (sx a0.aiL 0) e with e|e
  ·exact aj
  rcases Pb (eE a0.aiL 0) e with e|e
  ·exact aj
  exact aj
 intro _ e m;apply wg 2;simp[e];refine Wj m 999 999 (λk f h=>(h=H/\f.1 1=AV.hU 1 (f.gen 1) 0/\f.box 1=some (Tm.av a0).cells)/\k=some (c,d)) (λk _ g m=>?_) ?_
 ·simp[e];refine pS m ym λ_ m=>?_;apply Iq e m<;>intro e m
  ·simp[e];refine Ds m nQ λ_ _ m=>?_;refine Il e m λe m=>?_;exact Ze
  simp[e];refine pS m qD λ_ m=>?_;refine Im e m λe m=>?_;exact Ze
 rintro _ _ ⟨E,m⟩;have e:=Aj e E;simp[e];refine Wr e m 999 (λb a f h=>h=H/\f.1 8=sI a/\f.1 59=sL Tm.av a0.aiJ/\f.1 60=sI (ez a0.aiJ)/\f.1 61=sI b) abx (λa _ _ _ E m=>?_) (λb _ a _ _ _ _ _ E e m z p=>?_)
 ·exact aa
 exact aa
def FE(T:eH)(c:nV T){H:dT}{a0:Tm}{a:Int}{b:Bool}{n:Nat}(hm:jA n a0=some (a,b)):eI prog T 229 [Tm.av a0] H (AV.tuple [sI a,sB b]) H:=(mT T c n) hm
@[reducible,instance] def S6:=@Kc.mk prog 229 _ @FE
def xD(T:eH)(c:nV T){H:dT}{a0:Tm}{a b:Int}(hm:ki a0=some (a,b)):eI prog T 167 [Tm.av a0] H (AV.tuple [sI a,sI b]) H:=by
 rw[ki] at hm;have e:=c;refine wi aiN func167 [] [] 999 ?_;have m:=hm;exact aa
@[reducible,instance] def SS:=@Kc.mk prog 167 _ @xD
def BY(T:eH)(b:nV T){H:dT}{a0:Tm}{a:Int}(hm:o8 a0=some a):eI prog T 129 [Tm.av a0] H (sI a) H:=by
 rw[o8] at hm;have e:=b;refine wi aiN func129 [] [] 999 ?_;have m:=hm;exact aa
@[reducible,instance] def W2:=@Kc.mk prog 129 _ @BY
def F9:C1 prog 168 mC dK.av Ty.av:=by
 refine v1 func168 λT H a0 r m e=>?_;rw[mC] at m;exact aa
@[reducible,instance] def ZR:=@Kc.mk prog 168 _ @F9
def w_:C1 prog 130 mV (sL dK.av) (sL Ty.av):=by
 refine v1 func130 λT H a0 r m e=>?_;rw[mV] at m;simp[e];refine Td e m 999 8 [6,7] [] [16] (λs2=>s2) (λs2 a f=>f.1 3=sT a dK.av s2) λh _ s2 c _ _ _ _ E e m z p=>?_;have⟨a,E,b⟩:=E;refine sw [20,0,1,9,0] ?_;intro d e m;refine Ao (f:=dK.av) s2 [d] b T_ e.2 ?_;simp[e];cases m;exact p _ _ _ ⟨(.loc 16 (c.e8 16+1)),abx,(On 16)⟩ z
@[reducible,instance] def WT:=@Kc.mk prog 130 _ @w_
def JB:C3 prog 169 rM (t2 dK.av sI) sI dK.av dK.av:=by
 refine v3 func169 λT H a0 a a2 r m e=>?_;rw[rM] at m;refine Il e m λe m=>?_;have e:=Aj e (show AV.agg [sI a0,AV.slice .gx [Ty.av a.dM,Ty.av a2.dM],sI (fl .i64 (fl .i64 1 a.aiK) a2.aiK)]=dK.av (dK.mk (Ty.mk a0 [a.dM,a2.dM]) (fl .i64 (fl .i64 1 a.aiK) a2.aiK)) by rw[dK.eO];rfl);exact au
@[reducible,instance] def Xn:=@Kc.mk prog 169 _ @JB
def AQ:C1 prog 230 jF (sL sI) sI:=by
 refine v1 func230 λT H a0 r m e=>?_;rw[jF] at m;exact aa
@[reducible,instance] def UP:=@Kc.mk prog 230 _ @AQ
def wG:C2 prog 231 iV sB dK.av sI:=by
 refine v2 func231 λT H a0 a r m e=>?_;rw[iV] at m;exact au
@[reducible,instance] def Qy:=@Kc.mk prog 231 _ @wG
def uF:C2 prog 232 ji dK.av dK.av sI:=by
 refine v2 func232 λT H a0 a r m e=>?_;rw[ji] at m;exact aa
@[reducible,instance] def OK:=@Kc.mk prog 232 _ @uF
def kA{n:Nat}:C2 prog 133 (gD n) sB Ty.av Ty.av:=by
 refine i2 λn ih=>u2 3 func133 λT H a0 a r m e=>?_;rw[gD] at m;simp[e];refine wA 999 999 [] [2,3] (λf=>f.1 20=sB (e_ (eE a0.aiI a.aiI) true (eE (ez a0.aiJ) (ez a.aiJ)))) [7,0] (λ_ g=>?_) ?_
 ·exact aa
 intro _ e m;exact Wb e m 999 24 [22,23] [3] nI
@[reducible,instance] def TB:=@Kc.mk prog 133 _ @kA
def uD:C2 prog 233 ka sB dK.av dK.av:=by
 refine u2 2 func233 λT H a0 a r m e=>?_;rw[ka] at m;simp[e];refine WB m 999 999 [] [] (λv2 f=>f.1 4=sB v2) λb _ g m=>?_;apply Ir e m<;>intro e m
 ·exact iO
 simp[e];refine pS m kA λ_ m=>?_;exact iO
@[reducible,instance] def OG:=@Kc.mk prog 233 _ @uD
def Px:C0 prog 259 ph Ty.av:=by
 refine v0 func259 λT H r m e=>?_;rw[ph] at m;exact au
@[reducible,instance] def aaW:=@Kc.mk prog 259 _ @Px
def Oa:C0 prog 288 A_ Ty.av:=by
 refine v0 func288 λT H r m e=>?_;rw[A_] at m;exact au
@[reducible,instance] def aah:=@Kc.mk prog 288 _ @Oa
def Jb:C2 prog 260 tN Ty.av Ty.av (sL Ty.av):=by
 refine v2 func260 λT H a0 b r m e=>?_;rw[tN] at m;simp[e];refine Wn m 999 (λs1 f h=>∃a,h=H/\f.1 1=sL Ty.av b/\f.1 5=sI s1.1/\bx f 2 [sI s1.2.1,sT a Ty.av s1.2.2]/\bx f 4 [sI 0,nL]) ⟨.gx,abx⟩ (λs1 _ _ _ _ _ E m z p=>?_);have⟨v9,v10,v11⟩:=s1;have⟨a,E⟩:=E;have e:=Aj e E;dsimp only[FJ]at m;apply Ir e m<;>intro e m
 ·cases m;have m:=Qb z;dsimp only[FJ]at m;exact au
 refine sw [8,0] ?_;intro c e m;cases m;exact p _ _ _ ⟨.full,abx⟩ z
@[reducible,instance] def aa2:=@Kc.mk prog 260 _ @Jb
def BR:C1 prog 234 pw Ty.av Tm.av:=by
 refine v1 func234 λT H a0 r m e=>?_;rw[pw] at m;exact aa
@[reducible,instance] def Xm:=@Kc.mk prog 234 _ @BR
def gl:C2 prog 170 gf (t2 dK.av sI) Tm.av (λp=>AV.agg [sI p.1.dM.aiI,sL Ty.av p.1.dM.aiJ,sI p.1.aiK,sI p.2.1.dM.aiI,sL Ty.av p.2.1.dM.aiJ,sI p.2.1.aiK,sI p.2.2.dM.aiI,sL Ty.av p.2.2.dM.aiJ,sI p.2.2.aiK]):=by
 intro T H a0 a r hm;rw[gf] at hm;have e:=trivial;refine wi aiN func170 [] [] 7 ?_;have m:=hm;refine sw [0,1,0] ?_;intro G e m;apply Iq e m<;>intro e m
 ·refine sg 999 [8,0] ?_;intro x e m;refine Wr e m 0 (λq _ f h=>h=H/\f.1 6=sL sI G/\f.1 18=sL sI x/\f.1 19=sI (ez x)/\f.1 20=sI q/\bx f 3 [sI a.1.dM.aiI,sL Ty.av a.1.dM.aiJ,sI a.1.aiK,sI a.2.1.dM.aiI,sL Ty.av a.2.1.dM.aiJ,sI a.2.1.aiK,sI a.2.2.dM.aiI,sL Ty.av a.2.2.dM.aiJ,sI a.2.2.aiK]/\bx f 4 [sI 0,nL,sI 0]) abx (λ_ b _ _ E m=>?_) (λq _ _ b _ _ _ y E e m s t=>?_)
  ·have e:=Aj e E;refine sg 999 [11,8,0,1] ?_;intro I _ e m;cases m;simp[e]
  have e:=Aj e E;apply wg 9;simp[e];refine CP m 999 999 (λu f h=>∃n,(h=H/\f.1 6=sL sI G/\f.1 18=sL sI x/\f.1 19=sI (ez x)/\f.1 20=sI q/\f.1 30=sB n/\bx f 3 [sI a.1.dM.aiI,sL Ty.av a.1.dM.aiJ,sI a.1.aiK,sI a.2.1.dM.aiI,sL Ty.av a.2.1.dM.aiJ,sI a.2.1.aiK,sI a.2.2.dM.aiI,sL Ty.av a.2.2.dM.aiJ,sI a.2.2.aiK]/\bx f 4 [sI 0,nL,sI 0])/\u n=some y) ?_ (λu _ c m=>?_)
  ·rintro _ _ ⟨n,E,m⟩;have e:=Aj e E;apply Iq e m<;>intro e m
   ·cases m;cases s;simp[e]
   simp[e];cases m;exact t _ _ _ abx s
  apply Iq e m<;>intro e m
  ·have e:=Aj e (Fo (j:=0) EX zO abx aak:gw prog 194 (AV.hU 3 (b.gen 3) 0) (sI q)=some (AV.hU 3 (b.gen 3) 0));refine sw [0,1,0] ?_;intro A e m;exact c _ _ ⟨(mS A),abx,m⟩
  apply Iq e m<;>intro e m
  ·have e:=Aj e (Fo (j:=1) EX zO abx aak:gw prog 194 (AV.hU 3 (b.gen 3) 0) (sI q)=some (AV.hU 3 (b.gen 3) 3));refine sw [0,1,0] ?_;intro B e m;exact c _ _ ⟨(mS B),abx,m⟩
  have⟨e,m⟩:=Ck e m;have e:=Aj e (Fo (j:=2) EX zO abx aak:gw prog 194 (AV.hU 3 (b.gen 3) 0) (sI q)=some (AV.hU 3 (b.gen 3) 6));refine sw [0,1,0] ?_;intro C e m;exact c _ _ ⟨(mS C),abx,m⟩
 apply wg 8;simp[e];apply Iq e m<;>intro e m
 ·apply wg 2;simp[e];refine CP m 999 999 (λv f h=>∃v24,(h=H/\f.1 54=sB v24/\bx f 3 [sI a.1.dM.aiI,sL Ty.av a.1.dM.aiJ,sI a.1.aiK,sI a.2.1.dM.aiI,sL Ty.av a.2.1.dM.aiJ,sI a.2.1.aiK,sI a.2.2.dM.aiI,sL Ty.av a.2.2.dM.aiJ,sI a.2.2.aiK]/\bx f 4 [sI 0,nL,sI 0])/\v v24=some r) ?_ (λv _ i m=>?_)
  ·rintro _ _ ⟨v24,E,m⟩;have e:=Aj e E;apply Iq e m<;>intro e m
   ·cases m;simp[e]
   refine sw [0,1] ?_;intro _ e m;cases m;simp[e]
  refine sw [0,4] ?_;intro _ e m;apply Ir e m<;>intro e m
  ·simp[e];exact i _ _ ⟨true,abx,m⟩
  refine sw [0,4,0,4,0] ?_;intro _ D e m;exact i _ _ ⟨(mS D),abx,m⟩
 apply wg 1;simp[e];refine wA 999 0 [39] [2,3,4] (λf=>f.1 59=sB (e_ (ei a0.aiI 6) true (ei a0.aiI 9))) [] (λ_ k=>?_) ?_
 ·rcases Pb (ei a0.aiI 6) e with e|e
  ·simp[e];exact k _ _ abx
  simp[e];exact k _ _ abx
 intro _ e m;apply Ir e m<;>intro e m
 ·apply wg 999;apply Iq e m<;>intro e m
  ·refine sw [0,2] ?_;intro _ _ e m;cases m;simp[e]
  refine sw [0,1] ?_;intro _ e m;apply Ir e m<;>intro e m
  ·cases m;simp[e]
  apply Iq e m<;>intro e m
  ·refine sw [0,1] ?_;intro _ e m;cases m;simp[e]
  refine sw [0,1] ?_;intro _ e m;cases m;simp[e]
 refine sg 3 [0,1,0] ?_;intro o e m;refine wA 2 1 [] [2,3,4,9] (λf=>f.1 10=sI (e_ (ei a0.aiI 9) 2 1)) [0] (λ_ l=>?_) ?_
 ·simp[e];rcases Pb (ei a0.aiI 9) e with e|e
  ·apply wg 999;simp[e];exact l _ _ abx
  apply wg 999;simp[e];exact l _ _ abx
 intro _ e m;refine CP m 999 999 (λw f h=>∃v46,(h=H/\f.1 88=sB v46/\bx f 4 [sI 0,nL,sI 0]/\bx f 9 [sI o.dM.aiI,sL Ty.av o.dM.aiJ,sI o.aiK])/\w v46=some r) ?_ (λw _ d m=>?_)
 ·rintro _ _ ⟨v46,E,m⟩;have e:=Aj e E;apply Iq e m<;>intro e m
  ·cases m;simp[e]
  cases m;simp[e]
 refine sw [0,4] ?_;intro _ e m;apply Ir e m<;>intro e m
 ·simp[e];exact d _ _ ⟨true,abx,m⟩
 refine sw [0,4,0,4] ?_;intro _ _ e m;apply Ir e m<;>intro e m
 ·simp[e];exact d _ _ ⟨true,abx,m⟩
 refine sw [0,4,0] ?_;intro F e m;exact d _ _ ⟨(mS F),abx,m⟩
@[reducible,instance] def WI:=@Kc.mk prog 170 _ @gl
def gB{n:Nat}:C2 prog 131 (eM n) (t2 dK.av sI) (sL dK.av) Tm.av:=by
 refine i2 λn ih=>v2 func131 λT H a0 x r m e=>?_;rw[eM] at m;refine sw [13] ?_;intro e m;apply Iq e m<;>intro e m
 ·refine sw [0,1,9,0] ?_;intro L e m;refine Ad (f:=dK.av) a0 [L] (hD.full (D:=[])) T_ e.2 ?_;exact aa
 simp[e];refine Wr e m 0 (λy o f h=>∃a b c,h=H/\f.1 0=sL dK.av a0/\f.1 65=sL Tm.av x.aiJ/\f.1 66=sI (ez x.aiJ)/\f.1 67=sI y/\bx f 3 (Tm.av x).cells/\bx f 4 [sI 0,nL,sI 0]/\bx f 9 [sI o.1,sT a Ty.av o.2.1,sI o.2.2.1,sI o.2.2.2.1,sT b Ty.av o.2.2.2.2.1,sI o.2.2.2.2.2.1,sI o.2.2.2.2.2.2.1,sT c Ty.av o.2.2.2.2.2.2.2.1,sI o.2.2.2.2.2.2.2.2]) ⟨.full,.full,.full,abx⟩ (λo d _ _ E m=>?_) (λy _ o d _ _ _ B E e m z p=>?_)
 ·have⟨C,F,v20,v21,G,I,v24,J,K⟩:=o;have⟨a,b,c,E⟩:=E;have e:=Aj e E;apply wg 999;dsimp only[ew,WC]at m;exact aa
 have⟨C,F,v20,v21,G,I,v24,J,K⟩:=o;have⟨a,b,c,E⟩:=E;have e:=Aj e E;dsimp only[WC]at m;apply wg 5;simp[e];refine CP m 999 999 (λA f h=>∃v30 v31 q s t u v v37 w i k l,(h=H/\f.1 0=sL dK.av a0/\f.1 65=sL Tm.av x.aiJ/\f.1 66=sI (ez x.aiJ)/\f.1 67=sI y/\bx f 3 (Tm.av x).cells/\bx f 4 [sI 0,nL,sI 0]/\bx f 9 [sI v30,sT i Ty.av v31,sI q,sI s,sT k Ty.av t,sI u,sI v,sT l Ty.av v37,sI w])/\A v30 v31 q s t u v v37 w=some B) ?_ (λA _ g m=>?_)
 ·rintro _ _ ⟨v30,v31,q,s,t,u,v,v37,w,i,k,l,E,m⟩;have e:=Aj e E;simp[e];cases m;exact p _ _ _ ⟨i,k,l,abx⟩ z
 refine sw [0,16,7] ?_;intro _ _ e m;apply Iq e m<;>intro e m
 ·have e:=Aj e (Fo (j:=0) EX zO abx aak:gw prog 194 (AV.hU 9 (d.gen 9) 0) (sI y)=some (AV.hU 9 (d.gen 9) 0));simp[e];exact g _ _ ⟨_,_,_,_,_,_,_,_,_,.gx,b,c,abx,m⟩
 apply Iq e m<;>intro e m
 ·have e:=Aj e (Fo (j:=1) EX zO abx aak:gw prog 194 (AV.hU 9 (d.gen 9) 0) (sI y)=some (AV.hU 9 (d.gen 9) 3));simp[e];exact g _ _ ⟨_,_,_,_,_,_,_,_,_,a,.gx,c,abx,m⟩
 have⟨e,m⟩:=Ck e m;have e:=Aj e (Fo (j:=2) EX zO abx aak:gw prog 194 (AV.hU 9 (d.gen 9) 0) (sI y)=some (AV.hU 9 (d.gen 9) 6));simp[e];exact g _ _ ⟨_,_,_,_,_,_,_,_,_,a,b,.gx,abx,m⟩
@[reducible,instance] def KH:=@Kc.mk prog 131 _ @gB
def vN{n:Nat}:C1 prog 132 (j8 n) Ty.av Ty.av:=by
 refine i1 λn ih=>v1 func132 λT H a0 r m e=>?_;rw[j8] at m;simp[e];refine Td e m 999 12 [10,11] [2] [21] (λs2=>s2) (λs2 a f=>bx f 3 [sI a0.aiI,sT a Ty.av s2]) λh _ s2 c _ _ _ _ E e m z p=>?_;have⟨a,E,b⟩:=E;refine sw [20,0,18,9,0] ?_;intro d e m;refine Ad (f:=Ty.av) s2 [d] b FG e.2 ?_;simp[e];cases m;exact p _ _ _ ⟨(.loc 21 (c.e8 21+1)),abx,(On 21)⟩ z
@[reducible,instance] def TY:=@Kc.mk prog 132 _ @vN
def Ar(T:eH)(d:nV T){H:dT}{a0:List Ty}{a:Tm}{b:Ty}{c:Int}(hm:sm a0 a=some (b,c)):eI prog T 96 [sL Ty.av a0,Tm.av a] H (AV.tuple [Ty.av b,sI c]) H:=by
 rw[sm] at hm;have e:=d;refine wi aiN func96 [] [] 999 ?_;have m:=hm;exact aa
@[reducible,instance] def Ug:=@Kc.mk prog 96 _ @Ar
def D7:C2 prog 97 yB sB Ty.av Ty.av:=by
 refine v2 func97 λT H a0 a r m e=>?_;rw[yB] at m;exact aa
def um(T:eH)(c:nV T){H:dT}{a0:Tm}{a:Ty}{b:Int}(hm:iB a0 a=some b):eI prog T 34 [Tm.av a0,Ty.av a] H (sI b) H:=by
 rw[iB] at hm;have e:=c;refine wi aiN func34 [] [] 5 ?_;have m:=hm;refine sw [0,2,0] ?_;intro _ d e m;refine WB m 999 999 [6] [] (λv4 f=>f.1 19=sB v4) λh _ g m=>?_;apply Ir e m<;>intro e m
 ·exact iO
 simp[e];refine pS m D7 λ_ m=>?_;exact iO
@[reducible,instance] def TC:=@Kc.mk prog 34 _ @um
def GY:C1 prog 36 iy (t3 Fm.av Pf.av sI) sI:=by
 refine v1 func36 λT H a0 r m e=>?_;rw[iy] at m;exact au
@[reducible,instance] def Tz:=@Kc.mk prog 36 _ @GY
def Oe:C1 prog 98 E1 Tm.av sI:=by
 refine v1 func98 λT H a0 r m e=>?_;rw[E1] at m;exact au
@[reducible,instance] def Z_:=@Kc.mk prog 98 _ @Oe
def HM:C1 prog 38 eX Tm.av sI:=by
 refine v1 func38 λT H a0 r m e=>?_;rw[eX] at m;exact aa
@[reducible,instance] def abE:=@Kc.mk prog 38 _ @HM
def P3:C2 prog 55 kl Tm.av sI (sL Tm.av):=by
 refine v2 func55 λT H a0 a r m e=>?_;rw[kl] at m;exact au
@[reducible,instance] def ab0:=@Kc.mk prog 55 _ @P3
def B9:C2 prog 37 gN Tm.av Tm.av (sL Tm.av):=by
 refine v2 func37 λT H a0 d r m e=>?_;rw[gN] at m;simp[e];refine Wr e m 999 (λi s2 f h=>h=H/\f.1 7=sL Tm.av d/\f.1 8=sI (ez d)/\f.1 9=sI i/\bx f 2 [sI s2.1,sI s2.2.1,sI s2.2.2.1,sL Ty.av s2.2.2.2.1,sL Tm.av s2.2.2.2.2]/\bx f 4 [sI 0,sI 0,sI 0,nL,nL]) abx (λs2 _ _ _ E m=>?_) (λi _ s2 _ _ _ _ _ E e m z p=>?_)
 ·have⟨v11,v12,a,b,c⟩:=s2;have e:=Aj e E;dsimp only[ew,CJ]at m;exact au
 have⟨v11,v12,a,b,c⟩:=s2;have e:=Aj e E;dsimp only[CJ]at m;exact aa
@[reducible,instance] def W9:=@Kc.mk prog 37 _ @B9
def oo{n:Nat}:C3 prog 56 (kS n) Tm.av Tm.av sI sI:=by
 refine i3 λn ih=>u3 5 func56 λT H a0 h a2 r m e=>?_;rw[kS] at m;refine sw [0,13] ?_;intro e m;apply wg 5;simp[e];apply Iq e m<;>intro e m
 ·apply wg 1;simp[e];refine wB 999 999 [] [6] (λf=>bx f 3 [sI a0.aiI,sI (e_ (rb a0.aiL h) (fl .i64 a0.aiL a2) a0.aiL),sI a0.dM.aiI,sL Ty.av a0.dM.aiJ,sL Tm.av a0.aiJ]) λ_ g=>?_;rcases Pb (rb a0.aiL h) e with e|e
  ·exact aj
  exact aj
 apply wg 2;simp[e];refine wA 999 999 [] [3,6] (λf=>f.1 1=sI (e_ (ei a0.aiI 2) (fl .i64 h 1) h)/\f.1 2=sI a2) [0] (λ_ g=>?_) ?_
 ·rcases Pb (ei a0.aiI 2) e with e|e
  ·exact aj
  exact aj
 intro _ e m;refine Td e m 999 36 [1,2,34,35] [6] [47] (λb=>b) (λb a f=>bx f 7 [sI a0.aiI,sI a0.aiL,sI a0.dM.aiI,sL Ty.av a0.dM.aiJ,sT a Tm.av b]) λj _ b d _ _ _ _ E e m z p=>?_;have⟨a,E,c⟩:=E;refine sw [20,0,18,9,0] ?_;intro i e m;refine Ad (f:=Tm.av) b [i] c y5 e.2 ?_;simp[e];cases m;exact p _ _ _ ⟨(.loc 47 (d.e8 47+1)),abx,(On 47)⟩ z
@[reducible,instance] def Ym:=@Kc.mk prog 56 _ @oo
def Nt:C2 prog 48 mD Fm.av Tm.av Tm.av:=by
 refine v2 func48 λT H a0 a r m e=>?_;rw[mD] at m;have e:=Aj e (show AV.agg [sI 1,sI 0,AV.slice .gx [],AV.slice .gx [Tm.av a0,Tm.av a],AV.slice .gx []]=Fm.av (Fm.mk 1 (Ty.mk 0 []) [a0,a] []) by rw[Fm.eO];rfl);exact au
@[reducible,instance] def Z9:=@Kc.mk prog 48 _ @Nt
def OX:C3 prog 40 pG Fm.av sI Ty.av Fm.av:=by
 refine v3 func40 λT H a0 a a2 r m e=>?_;rw[pG] at m;have e:=Aj e (show AV.agg [sI a0,sI a.aiI,sL Ty.av a.aiJ,AV.slice .gx [],AV.slice .gx [Fm.av a2]]=Fm.av (Fm.mk a0 a [] [a2]) by rw[Fm.eO];rfl);exact au
@[reducible,instance] def acD:=@Kc.mk prog 40 _ @OX
def zu:C1 prog 42 eR Fm.av Tm.av:=by
 refine v1 func42 λT H a0 r m e=>?_;rw[eR] at m;exact aa
@[reducible,instance] def TJ:=@Kc.mk prog 42 _ @zu
def JQ:C1 prog 45 kv Pf.av Tm.av:=by
 refine v1 func45 λT H a0 r m e=>?_;rw[kv] at m;have e:=Aj e (show AV.agg [sI 18,sI 0,sI 0,AV.slice .gx [],AV.slice .gx [Tm.av a0],AV.slice .gx [],AV.slice .gx []]=Pf.av (Pf.mk 18 0 (Ty.mk 0 []) [a0] [] []) by rw[Pf.eO];rfl);exact au
@[reducible,instance] def Xs:=@Kc.mk prog 45 _ @JQ
def I9:C3 prog 44 jH Pf.av Fm.av Tm.av Pf.av:=by
 refine v3 func44 λT H a0 a a2 r m e=>?_;rw[jH] at m;have e:=Aj e (show AV.agg [sI 10,sI 0,sI 0,AV.slice .gx [],AV.slice .gx [Tm.av a],AV.slice .gx [Fm.av a0],AV.slice .gx [Pf.av a2]]=Pf.av (Pf.mk 10 0 (Ty.mk 0 []) [a] [a0] [a2]) by rw[Pf.eO];rfl);exact au
@[reducible,instance] def UN:=@Kc.mk prog 44 _ @I9
def K0:C2 prog 43 o5 Pf.av Ty.av Pf.av:=by
 refine v2 func43 λT H a0 a r m e=>?_;rw[o5] at m;have e:=Aj e (show AV.agg [sI 8,sI 0,sI a0.aiI,sL Ty.av a0.aiJ,AV.slice .gx [],AV.slice .gx [],AV.slice .gx [Pf.av a]]=Pf.av (Pf.mk 8 0 a0 [] [] [a]) by rw[Pf.eO];rfl);exact au
@[reducible,instance] def YQ:=@Kc.mk prog 43 _ @K0
def qA:C1 prog 235 rv sB Fm.av:=by
 refine u1 4 func235 λT H a0 r m e=>?_;rw[rv] at m;simp[e];refine CP m 5 0 (λa f h=>∃v2 v3 v4,(h=H/\f.1 3=sI v2/\f.1 4=sI v3/\f.1 5=sB v4/\bx f 1 (Fm.av a0).cells)/\a v2 v3 v4=some r) ?_ (λa _ g m=>?_)
 ·rintro _ _ ⟨v2,v3,v4,E,m⟩;have e:=Aj e E;refine Wj m 999 0 (λb f h=>(h=H/\f.1 3=sI v2/\f.1 4=sI v3/\bx f 1 (Fm.av a0).cells)/\b=some r) (λb _ g m=>?_) ?_
  ·apply Iq e m<;>intro e m
   ·simp[e];refine Ds m nQ λ_ _ m=>?_;refine Il e m λe m=>?_;exact Ze
   simp[e];refine pS m qD λ_ m=>?_;refine Im e m λe m=>?_;exact Ze
  rintro _ _ ⟨E,m⟩;have e:=Aj e E;refine wB 999 999 [] [] (λf=>f.1 2=sB (e_ (ei (ez a0.ef) v2) (ei (ez a0.aiJ) v3) false)) λ_ g=>?_;exact aa
 simp[e];apply Iq e m<;>intro e m
 ·apply wg 999;exact ak3
 apply wg 1;simp[e];refine wA 999 0 [3,5,9] [1] (λf=>f.1 12=sB (e_ (ei a0.aiI 2) true (ei a0.aiI 3))) [] (λ_ g=>?_) ?_
 ·rcases Pb (ei a0.aiI 2) e with e|e
  ·exact aj
  exact aj
 intro _ e m;apply Iq e m<;>intro e m
 ·apply wg 999;exact ak3
 apply wg 1;simp[e];refine wjs 999 999 (λf h=>h=H/\f.1 3=sI 0/\f.1 15=sB (e_ (ei a0.aiI 4) true (e_ (ei a0.aiI 5) true (e_ (ei a0.aiI 6) true (ei a0.aiI 7))))/\bx f 1 (Fm.av a0).cells) ?_ (λ_ g=>?_)
 ·rintro _ _ E;refine sw [10,12] ?_;intro e m;exact ak3
 rcases Pb (ei a0.aiI 4) e with e|e
 ·exact aj
 rcases Pb (ei a0.aiI 5) e with e|e
 ·exact aj
 rcases Pb (ei a0.aiI 6) e with e|e
 ·exact aj
 exact aj
@[reducible,instance] def WY:=@Kc.mk prog 235 _ @qA
def mM(T:eH)(h:nV T):∀(n:Nat),(∀{H:dT} {a0:Fm} {a:Int} {b:Bool} (hm:jg n a0=some (a,b)),eI prog T 171 [Fm.av a0] H (AV.tuple [sI a,sB b]) H):=by
  intro n
  induction n with
  |zero=>
   skip
   all_goals(intro _ _;intros;rename_i hm;cases hm)
  |succ n ih=>
 intro H a0 a b hm;rw[jg] at hm;have e:=h;refine wi aiN func171 [] [] 999 ?_;have m:=hm;refine sw [0,1,12,0] ?_;intro _ e m;refine Wa e m 999 19 [17,18] [1] (λd f=>f.1 4=sI d) [11,0] ?_;intro _ d e m;exact Wb e m 999 37 [35,36] [] (λc f=>f.1 4=sI c)
def BE(T:eH)(c:nV T){H:dT}{a0:Fm}{a:Int}{b:Bool}{n:Nat}(hm:jg n a0=some (a,b)):eI prog T 171 [Fm.av a0] H (AV.tuple [sI a,sB b]) H:=(mM T c n) hm
@[reducible,instance] def OI:=@Kc.mk prog 171 _ @BE
def uC(T:eH)(c:nV T){H:dT}{a0:Fm}{a b:Int}(hm:iK a0=some (a,b)):eI prog T 134 [Fm.av a0] H (AV.tuple [sI a,sI b]) H:=by
 rw[iK] at hm;have e:=c;refine wi aiN func134 [] [] 999 ?_;have m:=hm;exact aa
@[reducible,instance] def OH:=@Kc.mk prog 134 _ @uC
def zv(T:eH)(b:nV T){H:dT}{a0:Fm}{a:Int}(hm:j2 a0=some a):eI prog T 99 [Fm.av a0] H (sI a) H:=by
 rw[j2] at hm;have e:=b;refine wi aiN func99 [] [] 999 ?_;have m:=hm;exact aa
@[reducible,instance] def Tf:=@Kc.mk prog 99 _ @zv
def tD(T:eH)(c:nV T){H:dT}{a0:Int}{a:fi}{b:Bool}(hm:pF a0=some (a,b)):eI prog T 236 [sI a0] H (AV.tuple [fi.av a,sB b]) H:=by
 rw[pF] at hm;have e:=c;refine wi aiN func236 [] [] 3 ?_;simp[e];refine wA 999 999 [] [2] (λf=>f.1 0=sI a0/\f.1 9=sB (e_ (sx a0 1) true (rb a0 21))) [] (λ_ g=>?_) ?_
 ·exact aa
 intro _ e m;have m:=hm;exact aa
@[reducible,instance] def Xk:=@Kc.mk prog 236 _ @tD
def vX(T:eH){H:dT}{a0:dR}{b a2:Int}{j:Bool}{a:dR}{d:Nat}(c:H[d]?=some [sI a0.aiK,sB a0.iN])(hm:hB a0 b a2=some (j,a)):eI prog T 238 [AV.eT d 0,sI b,sI a2] H (sB j) (gb H d [sI a.aiK,sB a.iN]):=by
 rw[hB] at hm;have i:=eK c;refine fo.Jr c ?_;have e:=i;refine wi aiN func238 [] [] 4 ?_;simp[e];refine wjs 999 999 (λf h=>h=gb H d [sI (e_ a0.iN (dR.mk (fl .i64 a0.aiK b) true) (dR.mk (fl .i64 a0.aiK b) (ei a2 4))).aiK,sB (e_ a0.iN (dR.mk (fl .i64 a0.aiK b) true) (dR.mk (fl .i64 a0.aiK b) (ei a2 4))).iN]/\f.1 2=sI a2) ?_ (λ_ g=>?_)
 ·rintro _ _ E;have e:=Aj e E;cases hm;simp[e]
 exact aa
@[reducible,instance] def Qf:=@Kc.mk prog 238 _ @vX
def gM(T:eH)(x:nV T):∀(n:Nat),(∀{H:dT} {a0:dR} {a:Pf} {s:Bool} {d:dR} {b:Nat} (l:H[b]?=some [sI a0.aiK,sB a0.iN]) (hm:iz n a0 a=some (s,d)),eI prog T 172 [AV.eT b 0,Pf.av a] H (sB s) (gb H b [sI d.aiK,sB d.iN])):=by
  intro n
  induction n with
  |zero=>
    skip
    all_goals(intro _ _;intros;rename_i hm;cases hm)
  |succ n ih=>
 intro H a0 a s d b l hm;rw[iz] at hm;have u:=eK l;refine fo.Jr l ?_;have e:=Aj x u;refine wi aiN func172 [] [] 5 ?_;have m:=hm;refine sw [0,2,0] ?_;intro c v e m;refine wA 999 0 [] [3,5] (λf=>f.1 0=AV.eT b 0/\f.1 61=sB (e_ v (e_ (sx a.aiL 0) true (e_ (eE a.aiL 0) (e_ c.aiL (e_ (eE (ez a.ef) c.ef) true (e_ (eE (ez a.fI) c.fI) true (eE (ez a.aiJ) c.aiJ))) true) (e_ (eE (ez a.ef) c.ef) true (e_ (eE (ez a.fI) c.fI) true (eE (ez a.aiJ) c.aiJ))))) true)) [13] (λ_ g=>?_) ?_
 ·rcases Pb v e with e|e;rotate_left
  ·exact aj
  rcases Pb (sx a.aiL 0) e with e|e
  ·exact aj
  rcases Pb (eE a.aiL 0) e with e|e;rotate_left
  ·rcases Pb (eE (ez a.ef) c.ef) e with e|e
   ·exact aj
   rcases Pb (eE (ez a.fI) c.fI) e with e|e
   ·exact aj
   exact aj
  rcases Pb c.aiL e with e|e;rotate_left
  ·exact aj
  rcases Pb (eE (ez a.ef) c.ef) e with e|e
  ·exact aj
  rcases Pb (eE (ez a.fI) c.fI) e with e|e
  ·exact aj
  exact aj
 intro _ e m;apply wg 4;simp[e];refine Wj m 999 999 (λw f h=>∃t,(h=gb H b [sI t.aiK,sB t.iN]/\f.1 0=AV.eT b 0/\f.1 3=AV.hU 3 (f.gen 3) 0/\f.box 3=some (Pf.av a).cells)/\w t=some (s,d)) (λw _ g m=>?_) ?_
 ·apply Iq e m<;>intro e m
  ·simp[e];refine Ds m nQ λ_ _ m=>?_;refine Il e m λe m=>?_;exact iO
  simp[e];refine pS m qD λ_ m=>?_;refine Im e m λe m=>?_;exact iO
 rintro _ _ ⟨t,E,m⟩;have e:=Aj e E;simp[e];refine Xe e m 999 (λo i f h=>h=gb H b [sI i.aiK,sB i.iN]/\f.1 0=AV.eT b 0/\f.1 84=sL Tm.av a.ef/\f.1 85=sI (ez a.ef)/\f.1 86=sI o/\bx f 3 (Pf.av a).cells) abx (λo _ i _ _ _ _ _ E e m z p=>?_) (λi _ _ _ E m=>?_)
 ·refine sw [10,0,2,0,2] ?_;intro _ _ _ d27 e m;exact aa
 refine sw [10,11,0] ?_;intro e m;refine Xe e m 999 (λq j f h=>h=gb H b [sI j.aiK,sB j.iN]/\f.1 0=AV.eT b 0/\f.1 99=sL Fm.av a.fI/\f.1 100=sI (ez a.fI)/\f.1 101=sI q/\bx f 3 (Pf.av a).cells) abx (λq _ j _ _ _ _ _ E e m z p=>?_) (λj _ _ _ E m=>?_)
 ·refine sw [10,0,2,0,2] ?_;intro _ _ _ d40 e m;exact aa
 refine sw [10,11,0] ?_;intro e m;refine Wr e m 999 (λr k f h=>h=gb H b [sI k.aiK,sB k.iN]/\f.1 0=AV.eT b 0/\f.1 114=sL Pf.av a.aiJ/\f.1 115=sI (ez a.aiJ)/\f.1 116=sI r) abx (λk _ _ _ E m=>?_) (λr _ k _ _ _ _ _ E e m z p=>?_)
 ·exact aa
 have e:=Aj e E;simp[e];refine Ds m (ih abx) λ_ d51 m=>?_;exact aa
def CV(T:eH)(h:nV T){H:dT}{a0:dR}{d:Pf}{f:Bool}{a:dR}{b:Nat}(c:H[b]?=some [sI a0.aiK,sB a0.iN]){n:Nat}(hm:iz n a0 d=some (f,a)):eI prog T 172 [AV.eT b 0,Pf.av d] H (sB f) (gb H b [sI a.aiK,sB a.iN]):=(gM T h n) c hm
@[reducible,instance] def OT:=@Kc.mk prog 172 _ @CV
def mP(T:eH)(c:nV T){H:dT}{a0:Pf}{a b:Int}(hm:qW a0=some (a,b)):eI prog T 135 [Pf.av a0] H (AV.tuple [sI a,sI b]) H:=by
 rw[qW] at hm;refine fo.uI (Post:=λx K=>x=AV.tuple [sI a,sI b]/\∃X,K=H++X) ?_ (λ_ _ h=>⟨_,h.2.choose_spec,by rw[h.1];simp[AV.low,AV.iu],h.1,rfl⟩);have e:=c;refine wi aiN func135 [6] [] 8 ?_;have m:=hm;refine sw [0,2,0,14] ?_;intro _ d2 e m;apply wg 1;simp[e];refine wB 999 999 [4] [] (λf=>f.1 12=sB (e_ d2.iN true (o0 d2.aiK 16384))) λ_ g=>?_;exact aa
@[reducible,instance] def QN:=@Kc.mk prog 135 _ @mP
def xa(T:eH)(b:nV T){H:dT}{a0:Pf}{a:Int}(hm:rz a0=some a):eI prog T 100 [Pf.av a0] H (sI a) H:=by
 rw[rz] at hm;have e:=b;refine wi aiN func100 [] [] 999 ?_;have m:=hm;exact aa
def xu(T:eH)(a:nV T){H:dT}{a0:Fm}{b:Pf}{c:Fm}{d:Pf}{h:Int}(hm:gT a0 b=some (c,d,h)):eI prog T 39 [Fm.av a0,Pf.av b] H (AV.tuple [Fm.av c,Pf.av d,sI h]) H:=by
 rw[gT] at hm;have e:=a;refine wi aiN func39 [] [] 4 ?_;have m:=hm;refine sw [0,1,0] ?_;intro _ e m;refine WB m 999 999 [] [2,3,4,5] (λv3 f=>f.1 7=sI v3) λi _ g m=>?_;apply Ir e m<;>intro e m
 ·exact iO
 simp[e];refine pS m (xa T a) λ_ m=>?_;exact iO
@[reducible,instance] def WZ:=@Kc.mk prog 39 _ @xu
def wL(T:eH)(d:nV T){H:dT}{a0:Tm}{a:Fm}{b:Pf}{c:Int}(hm:lu a0=some (a,b,c)):eI prog T 11 [Tm.av a0] H (AV.tuple [Fm.av a,Pf.av b,sI c]) H:=by
 rw[lu] at hm;have e:=d;refine wi aiN func11 [] [] 999 ?_;have m:=hm;exact aa
@[reducible,instance] def QJ:=@Kc.mk prog 11 _ @wL
def sC:C2 prog 254 kp (sL dK.av) (sL dK.av) (sL Ty.av):=by
 refine v2 func254 λT H a0 b r m e=>?_;rw[kp] at m;refine sw [0,4,9,0] ?_;intro a e m;refine Ad (f:=dK.av) a0 a (hD.full (D:=[])) T_ e.2 ?_;exact au
@[reducible,instance] def Ms:=@Kc.mk prog 254 _ @sC
def pb:C3 prog 255 mi sI (sL dK.av) Tm.av sI:=by
 refine u3 5 func255 λT H a0 a a2 r m e=>?_;rw[mi] at m;refine sw [0,2,0] ?_;intro _ b e m;refine WB m 999 999 [8] [] (λv4 f=>f.1 22=sB v4) λc _ g m=>?_;apply Ir e m<;>intro e m
 ·exact iO
 simp[e];refine pS m wG λ_ m=>?_;exact iO
@[reducible,instance] def MP:=@Kc.mk prog 255 _ @pb
def rI:C2 prog 257 iH sI (sL dK.av) Tm.av:=by
 refine v2 func257 λT H a0 a r m e=>?_;rw[iH] at m;exact aa
@[reducible,instance] def Kf:=@Kc.mk prog 257 _ @rI
def gO{n:Nat}:C2 prog 239 (fB n) sI (sL dK.av) Fm.av:=by
 refine i2 λn ih=>u2 6 func239 λT H a0 a r m e=>?_;rw[fB] at m;simp[e];refine CP m 1 999 (λj f h=>∃v2,(h=H/\f.1 0=sL dK.av v2/\f.1 3=AV.hU 3 (f.gen 3) 0/\f.box 3=some (Fm.av a).cells)/\j v2=some r) ?_ (λj _ b m=>?_)
 ·rintro _ _ ⟨v2,E,m⟩;have e:=Aj e E;simp[e];refine Wr e m 999 (λk _ f h=>h=H/\f.1 0=sL dK.av v2/\f.1 28=sL Fm.av a.aiJ/\f.1 29=sI (ez a.aiJ)/\f.1 30=sI k) abx (λ_ _ _ _ E m=>?_) (λk _ _ _ _ _ _ _ E e m z p=>?_)
  ·refine sw [10,11] ?_;intro e m;exact au
  have e:=Aj e E;refine sw [0,15,7] ?_;intro _ e m;exact al
 simp[e];refine CP m 4 999 (λc f h=>(h=H/\f.1 0=sL dK.av a0/\f.1 3=AV.hU 3 (f.gen 3) 0/\f.box 3=some (Fm.av a).cells)/\c=some r) ?_ (λc _ g m=>?_)
 ·rintro _ _ ⟨E,m⟩;have e:=Aj e E;refine sw [0,1,0] ?_;intro i e m;exact b _ _ ⟨i,abx,m⟩
 simp[e];refine wj 999 0 (λf h=>h=H/\f.1 0=sL dK.av a0/\f.1 12=sI a.aiI/\f.1 13=sB (e_ (ei a.aiI 4) true (ei a.aiI 5))/\bx f 3 (Fm.av a).cells) (λ_ g=>?_) ?_
 ·rcases Pb (ei a.aiI 4) e with e|e
  ·exact aj
  exact aj
 rintro _ _ E;have e:=Aj e E;apply Iq e m<;>intro e m
 ·apply wg 999;exact Ze
 apply wg 3;simp[e];refine wj 999 0 (λf h=>h=H/\f.1 0=sL dK.av a0/\f.1 12=sI a.aiI/\f.1 16=sB (e_ (ei a.aiI 6) true (ei a.aiI 7))/\bx f 3 (Fm.av a).cells) (λ_ g=>?_) ?_
 ·rcases Pb (ei a.aiI 6) e with e|e
  ·exact aj
  exact aj
 rintro _ _ E;have e:=Aj e E;apply Iq e m<;>intro e m
 ·apply wg 999;exact Ze
 apply wg 2;simp[e];refine wj 999 999 (λf h=>h=H/\f.1 0=sL dK.av a0/\f.1 19=sB (e_ (ei a.aiI 2) true (ei a.aiI 3))/\bx f 3 (Fm.av a).cells) (λ_ g=>?_) ?_
 ·rcases Pb (ei a.aiI 2) e with e|e
  ·exact aj
  exact aj
 rintro _ _ E;have e:=Aj e E;apply Iq e m<;>intro e m
 ·simp[e];exact b _ _ ⟨a0,abx,m⟩
 simp[e];refine Wr e m 999 (λd _ f h=>h=H/\f.1 0=sL dK.av a0/\f.1 42=sL Tm.av a.ef/\f.1 43=sI (ez a.ef)/\f.1 44=sI d) abx (λ_ _ _ _ E m=>?_) (λd _ _ _ _ _ _ _ E e m z p=>?_)
 ·exact aa
 exact aa
@[reducible,instance] def JP:=@Kc.mk prog 239 _ @gO
def zd(T:eH)(c:nV T){H:dT}{a0:List Ty}{a:Fm}{b:Int}(hm:tx a0 a=some b):eI prog T 173 [sL Ty.av a0,Fm.av a] H (sI b) H:=by
 rw[tx] at hm;have e:=c;refine wi aiN func173 [] [] 999 ?_;have m:=hm;exact aa
@[reducible,instance] def TK:=@Kc.mk prog 173 _ @zd
def s6(T:eH)(c:nV T){H:dT}{a0:List Fm}{a:Sq}{b:Int}(hm:si a0 a=some b):eI prog T 136 [sL Fm.av a0,Sq.av a] H (sI b) H:=by
 rw[si] at hm;have e:=c;refine wi aiN func136 [] [] 999 ?_;refine Il e hm λe m=>?_;simp[e];refine Wa e m 999 17 [15,16] [3] nI [11,0,1,7,7,0] ?_;intro _ _ _ e m;exact Wb e m 999 40 [38,39] [3] nI
def Ia(T:eH){H:dT}{u:Unit}(hm:yl=some u):eI prog T 137 [] H (AV.nB (List.length H)) (H++[[Mi]]):=by
 refine wi aiN func137 [] [] 999 ?_;simp;refine uf.xP kZ uM abB abB ?_;simp;refine uf.xP kZ uM abB abB ?_;simp;refine uf.xP kZ uM abB abB ?_;simp;refine uf.xP kZ uM abB abB ?_;simp;refine uf.xP kZ uM abB abB ?_;simp;refine uf.xP kZ uM abB abB ?_;simp;refine uf.xP kZ uM abB abB ?_;simp;refine uf.xP kZ uM abB abB ?_;simp;refine uf.xP kZ uM abB abB ?_;simp;refine uf.xP kZ uM abB abB ?_;simp;refine uf.xP kZ uM abB abB ?_;simp;refine uf.xP kZ uM abB abB ?_;simp;refine uf.xP kZ uM abB abB ?_;simp;refine uf.xP kZ uM abB abB ?_;simp;refine uf.xP kZ uM abB abB ?_;simp;refine uf.xP kZ uM abB abB ?_;simp;refine uf.xP kZ uM abB abB ?_;simp;refine uf.xP kZ uM abB abB ?_;simp;refine uf.xP kZ uM abB abB ?_;simp;refine uf.xP kZ uM abB abB ?_;simp;simp[Mi,OM,PW]
def uK:C2 prog 189 r7 d_.av d_.av Fm.av:=by
 refine v2 func189 λT H a0 a r m e=>?_;rw[r7] at m;refine sw [9,0] ?_;intro e m;refine Ad (f:=ec.av) a0.known [(ec.mk a a0.my.vars)] (hD.full (D:=[])) aep e.2 ?_;exact au
@[reducible,instance] def OE:=@Kc.mk prog 189 _ @uK
def vJ:C1 prog 139 uT d_.av Sq.av:=by
 refine v1 func139 λT H a0 r m e=>?_;rw[uT] at m;refine sw [0,1,0] ?_;intro _ e m;refine Wr e m 999 (λj b f h=>∃a,h=H/\f.1 16=sL Fm.av a0.aiP/\f.1 17=sI (ez a0.aiP)/\f.1 18=sI j/\bx f 2 [sI 0,sI 0,nL,nL]/\bx f 3 [sI b.1,sI b.2.1,sL dK.av b.2.2.1,sT a ec.av b.2.2.2]) ⟨.full,abx⟩ (λb _ _ _ E m=>?_) (λj _ b _ _ _ _ _ E e m z p=>?_)
 ·have⟨v12,c,d,i⟩:=b;have⟨a,E⟩:=E;have e:=Aj e E;dsimp only[ew,E2]at m;exact au
 have⟨v12,c,d,i⟩:=b;have⟨a,E⟩:=E;have e:=Aj e E;dsimp only[E2]at m;refine sw [0,1,0] ?_;intro _ e m;cases m;exact p _ _ _ ⟨.gx,abx⟩ z
def pC:C3 prog 243 ou sI eA.av sI sI:=by
 refine u3 3 func243 λT H a0 a a2 r m e=>?_;rw[ou] at m;simp[e];refine wB 999 999 [] [] (λf=>f.1 18=sB (e_ (o0 (fl .i64 a0.vars a) 16) true (o0 (fl .i64 a0.aiP a2) 16))) λ_ g=>?_;exact aa
@[reducible,instance] def OC:=@Kc.mk prog 243 _ @pC
def tJ:C2 prog 244 mf d_.av d_.av (sL Ty.av):=by
 refine v2 func244 λT H a0 a r m e=>?_;rw[mf] at m;exact aa
@[reducible,instance] def OB:=@Kc.mk prog 244 _ @tJ
def Dw:C3 prog 245 oD Fm.av sI Ty.av Fm.av:=by
 refine v3 func245 λT H a0 a a2 r m e=>?_;rw[oD] at m;have e:=Aj e (show AV.agg [sI a0,sI a.aiI,sL Ty.av a.aiJ,AV.slice .gx [],AV.slice .gx [Fm.av a2]]=Fm.av (Fm.mk a0 a [] [a2]) by rw[Fm.eO];rfl);exact au
@[reducible,instance] def QO:=@Kc.mk prog 245 _ @Dw
def yF:C2 prog 246 jR (λn=>AV.sc (Value.int .u32 n)) (λn=>AV.sc (Value.int .u32 n)) sI:=by
 intro T H a0 a r hm;rw[jR] at hm;have e:=trivial;refine wi aiN func246 [] [] 999 ?_;have⟨e,m⟩:=Ck e hm;exact au
@[reducible,instance] def LA:=@Kc.mk prog 246 _ @yF
def zq(T:eH){H:dT}{a0 f a b:Int}{q0:Nat}(c:H[q0]?=some [AV.sc (.int .u32 a)])(hm:nx a0 f a=some b):eI prog T 290 [sI a0,sI f,AV.eT q0 0] H (AV.tuple []) (gb H q0 [AV.sc (.int .u32 b)]):=by
 rw[nx] at hm;have d:=eK c;refine fo.Jr c ?_;have e:=d;refine wi aiN func290 [] [(1,false,[false,true,true,true,true,true,false])] 999 ?_;have m:=hm;refine sw [12,9] ?_;intro e m;exact au
def rX(T:eH):∀(n:Nat),(∀{S:Type} {st:S->dT} {k:Nat} {a0:Tm} {d:Int} {i:(S->Int->Int->Option (S))} {vK:S} {zD:S} {q0:Nat} {q1:Nat} {j:Nat} {l:List AV} (hF:EO st k) (b:∀s,(st s)[q0]?=some [AV.func (.func j) [] l]) (a:tB T j l st i) (c:∀s,(st s)[q1]?=some [AV.func (.func 311) [] [AV.eT q0 0,AV.eT q1 0]]) (hm:k8 n a0 d i vK=some zD),eI prog T 311 [Tm.av a0,sI d,AV.eT q0 0,AV.eT q1 0] (st vK) (AV.tuple []) (st zD)):=by
  intro n
  induction n with
  |zero=>
    skip
    all_goals(intro _ _;intros;rename_i hm;cases hm)
  |succ n ih=>
 intro S st k a0 d i vK zD q0 q1 j l hF b a c hm;rw[k8] at hm;have r:=λs=>eK (b s);have t:=λs=>eK (c s);have e:=Aj (Aj (Aj (Aj hF.len r) b) t) c;refine wi aiN func311 [] [] 2 ?_;simp[e];refine Wj hm 999 0 (λu f h=>∃v2,(h=st v2/\f.1 1=sI d/\f.1 3=AV.eT q1 0/\f.1 4=AV.hU 4 (f.gen 4) 0/\f.box 4=some (Tm.av a0).cells)/\u v2=some zD) (λu w g m=>?_) ?_
 ·apply Ir e m<;>intro e m
  ·exact iO
  refine sw [8,0] ?_;intro x e m;refine lz.F2 abL (tB.at0 a e.2) ?_;exact iO
 rintro _ _ ⟨v2,E,m⟩;have e:=Aj e E;refine wj 999 999 (λf h=>h=st v2/\f.1 1=sI (e_ (ei a0.aiI 2) (fl .i64 d 1) d)/\f.1 3=AV.eT q1 0/\f.1 4=AV.hU 4 (f.gen 4) 0/\f.box 4=some (Tm.av a0).cells) (λ_ g=>?_) ?_
 ·rcases Pb (ei a0.aiI 2) e with e|e
  ·exact aj
  exact aj
 rintro _ _ E;have e:=Aj e E;simp[e];refine Wr e m 999 (λq o f h=>h=st o/\f.1 1=sI (e_ (ei a0.aiI 2) (fl .i64 d 1) d)/\f.1 3=AV.eT q1 0/\f.1 22=sL Tm.av a0.aiJ/\f.1 23=sI (ez a0.aiJ)/\f.1 24=sI q) abx (λo _ _ _ E m=>?_) (λq _ o _ _ _ _ _ E e m z p=>?_)
 ·exact aa
 refine sw [10,8,0] ?_;intro v e m;refine lz.F2 abL (ih hF b a c e.2) ?_;exact al
def Jz(T:eH){S:Type}{st:S->dT}{k:Nat}{a0:Tm}{i:Int}{a:(S->Int->Int->Option (S))}{vK zD:S}{q0 q1 b:Nat}{c:List AV}(hF:EO st k)(f:∀s,(st s)[q0]?=some [AV.func (.func b) [] c])(d:tB T b c st a)(h:∀s,(st s)[q1]?=some [AV.func (.func 311) [] [AV.eT q0 0,AV.eT q1 0]]){n:Nat}(hm:k8 n a0 i a vK=some zD):eI prog T 311 [Tm.av a0,sI i,AV.eT q0 0,AV.eT q1 0] (st vK) (AV.tuple []) (st zD):=(rX T n) hF f d h hm
def Gu(T:eH){S:Type}{st:S->dT}{k:Nat}{a0:Tm}{c:(S->Int->Int->Option (S))}{vK zD:S}{g1:Nat}{a:List AV}(hF:EO st k)(b:tB T g1 a st c)(hm:vl a0 c vK=some zD):eI prog T 289 [Tm.av a0,AV.func (.func g1) [] a] (st vK) (AV.tuple []) (st zD):=by
 rw[vl] at hm;refine fo.ZF hF (Post:=λx K=>x=AV.tuple []/\∃X,K=(st zD)++X) ?_ (λ_ _ h=>⟨_,h.2.choose,h.2.choose_spec,by rw[h.1];simp[AV.low,AV.iu],h.1,rfl⟩);have e:=hF.len;refine wi aiN func289 [3,4] [] 999 ?_;have⟨s1,e,m⟩:=MX e hm;simp[e];refine lz.F2 abL (Jz T (st:=λs=>st s++[[AV.func (.func g1) [] a],[AV.func (.func 311) [] [AV.eT k 0,AV.eT (k+1) 0]]]) (EO.ext hF _ (n:=k+2) aaF) (λ_=>abx) (tB.ext b) (λ_=>abx) e.2) ?_;exact au
def JI(T:eH){H:dT}{a0:Tm}{a:Int}(hm:tO a0=some a):eI prog T 247 [Tm.av a0] H (AV.sc (.int .u32 a)) H:=by
 rw[tO] at hm;refine fo.uI (Post:=λx K=>x=AV.sc (.int .u32 a)/\∃X,K=H++X) ?_ (λ_ _ h=>⟨_,h.2.choose_spec,by rw[h.1];simp[AV.low,AV.iu],h.1,rfl⟩);have e:=trivial;refine wi aiN func247 [3] [] 999 ?_;simp[e];refine pS hm (Gu T (st:=λs:Int=>H++[[AV.sc (.int .u32 s)]]) (EO.adt H (λs:Int=>[[AV.sc (.int .u32 s)]]) 1 (λ_=>rfl) (by simp[AV.low,AV.iu])) (λX s _ _ b h=>by have:=zq T (H:=H++[[AV.sc (.int .u32 s)]]++X) (q0:=(List.length H)) abx h;simpa using this)) λ_ m=>?_;exact au
def yJ:C1 prog 250 pt (λn=>AV.sc (Value.int .u32 n)) Tm.av:=by
 intro T H a0 r hm;rw[pt] at hm;have e:=trivial;refine wi aiN func250 [] [] 999 ?_;cases hm;simp[e]
def ql:C2 prog 248 mX sB dK.av Ty.av:=by
 refine v2 func248 λT H a0 a r m e=>?_;rw[mX] at m;exact aa
def Ac(T:eH){H:dT}{a0 k a b c:Int}{q0 q1:Nat}(d:H[q0]?=some [sI a])(f:H[q1]?=some [sI b])(h:q0≠q1)(hm:og a0 k a b=some c):eI prog T 332 [sI a0,sI k,AV.eT q0 0,AV.eT q1 0] H (AV.tuple []) (gb H q1 [sI c]):=by
 rw[og] at hm;have i:=eK d;have j:=eK f;refine fo.Jr f ?_;have e:=Aj (Aj (Aj (Aj i d) j) h) h.symm;refine wi aiN func332 [] [] 999 ?_;have m:=hm;exact aa
def Dy(T:eH){H:dT}{a0:Tm}{a b:Int}(hm:s7 a0 a=some b):eI prog T 314 [Tm.av a0,sI a] H (sI b) H:=by
 rw[s7] at hm;refine fo.uI (Post:=λx K=>x=sI b/\∃X,K=H++X) ?_ (λ_ _ h=>⟨_,h.2.choose_spec,by rw[h.1];simp[AV.low,AV.iu],h.1,rfl⟩);have e:=trivial;refine wi aiN func314 [3,5] [] 999 ?_;simp[e];refine pS hm (Gu T (st:=λs:Int=>H++[[sI a],[sI s]]) (EO.adt H (λs:Int=>[[sI a],[sI s]]) 2 (λ_=>rfl) (by simp[AV.low,AV.iu])) (λX s _ _ c h=>by have:=Ac T (H:=H++[[sI a],[sI s]]++X) (q0:=(List.length H)) (q1:=(List.length H+1)) abx abx abx h;simpa using this)) λ_ m=>?_;exact au
@[reducible,instance] def Zz:=@Kc.mk prog 314 _ @Dy
def sE(T:eH){H:dT}{a0:Tm}{k a b c:Int}{q0 q1:Nat}(d:H[q0]?=some [sI a])(f:H[q1]?=some [sI b])(h:q0≠q1)(hm:jf a0 k a b=some c):eI prog T 313 [Tm.av a0,sI k,AV.eT q0 0,AV.eT q1 0] H (AV.tuple []) (gb H q0 [sI c]):=by
 rw[jf] at hm;have i:=eK d;have j:=eK f;refine fo.Jr d ?_;have e:=Aj (Aj (Aj (Aj i j) f) h) h.symm;refine wi aiN func313 [] [(1,true,[true,true,true,true,true,true,true,false])] 999 ?_;have m:=hm;exact aa
def oW:C1 prog 264 mH sB sI:=by
 refine u1 2 func264 λT H a0 r m e=>?_;rw[mH] at m;simp[e];refine wB 999 999 [] [] (λf=>f.1 2=sB (e_ (rb a0 4) (XA a0 7) false)) λ_ g=>?_;exact aa
@[reducible,instance] def RB:=@Kc.mk prog 264 _ @oW
def nS(T:eH):∀(n:Nat),(∀{S:Type} {st:S->dT} {k:Nat} {a0:Fm} {j:Int} {a2:(S->Tm->Int->Option (S))} {vK:S} {zD:S} {g2:Nat} {a:List AV} (hF:EO st k) (b:ED T g2 a st a2) (hm:l0 n a0 j a2 vK=some zD),eI prog T 312 [Fm.av a0,sI j,AV.func (.func g2) [] a] (st vK) (AV.tuple []) (st zD)):=by
  intro n
  induction n with
  |zero=>
    skip
    all_goals(intro _ _;intros;rename_i hm;cases hm)
  |succ n ih=>
 intro S st k a0 j a2 vK zD g2 a hF b hm;rw[l0] at hm;have e:=hF.len;refine wi aiN func312 [] [] 999 ?_;simp[e];refine Xe e hm 0 (λl s2 f h=>h=st s2/\f.1 1=sI j/\f.1 2=AV.func (.func g2) [] a/\f.1 11=sL Tm.av a0.ef/\f.1 12=sI (ez a0.ef)/\f.1 13=sI l/\bx f 3 (Fm.av a0).cells) abx (λl _ s2 _ _ _ _ _ E e m z p=>?_) (λs2 _ _ _ E m=>?_)
 ·have e:=Aj e E;refine sg 999 [8,0] ?_;intro o e m;refine lz.F2 abL (ED.at0 b e.2) ?_;exact al
 have e:=Aj e E;refine sg 5 [11,0] ?_;intro e m;refine WA m 999 999 [] [] (λc f=>f.1 1=sI c/\f.1 2=AV.func (.func g2) [] a/\f.1 3=AV.hU 3 (f.gen 3) 0/\f.box 3=some (Fm.av a0).cells) [0] (λq _ g m=>?_) ?_
 ·simp[e];refine pS m oW λ_ m=>?_;apply Ir e m<;>intro e m
  ·exact iO
  exact iO
 intro _ c e m;refine Wr e m 999 (λi d f h=>h=st d/\f.1 1=sI c/\f.1 2=AV.func (.func g2) [] a/\f.1 28=sL Fm.av a0.aiJ/\f.1 29=sI (ez a0.aiJ)/\f.1 30=sI i) abx (λd _ _ _ E m=>?_) (λi _ d _ _ _ _ _ E e m z p=>?_)
 ·exact aa
 have e:=Aj e E;simp[e];refine pS m (ih hF b) λ_ m=>?_;exact al
def GH(T:eH){S:Type}{st:S->dT}{k:Nat}{a0:Fm}{c:Int}{a2:(S->Tm->Int->Option (S))}{vK zD:S}{g2:Nat}{a:List AV}(hF:EO st k)(b:ED T g2 a st a2){n:Nat}(hm:l0 n a0 c a2 vK=some zD):eI prog T 312 [Fm.av a0,sI c,AV.func (.func g2) [] a] (st vK) (AV.tuple []) (st zD):=(nS T n) hF b hm
def BJ(T:eH){H:dT}{a0:Fm}{a b:Int}(hm:m_ a0 a=some b):eI prog T 291 [Fm.av a0,sI a] H (sI b) H:=by
 rw[m_] at hm;refine fo.uI (Post:=λx K=>x=sI b/\∃X,K=H++X) ?_ (λ_ _ h=>⟨_,h.2.choose_spec,by rw[h.1];simp[AV.low,AV.iu],h.1,rfl⟩);have e:=trivial;refine wi aiN func291 [3,5] [] 999 ?_;simp[e];refine pS hm (GH T (st:=λs:Int=>H++[[sI a],[sI s]]) (EO.adt H (λs:Int=>[[sI a],[sI s]]) 2 (λ_=>rfl) (by simp[AV.low,AV.iu])) (λX s _ _ c h=>by have:=sE T (H:=H++[[sI a],[sI s]]++X) (q0:=(List.length H+1)) (q1:=(List.length H)) abx abx abx h;simpa using this)) λ_ m=>?_;exact au
@[reducible,instance] def OJ:=@Kc.mk prog 291 _ @BJ
def HR:C1 prog 262 lN Tm.av sI:=by
 refine v1 func262 λT H a0 r m e=>?_;rw[lN] at m;exact au
@[reducible,instance] def adg:=@Kc.mk prog 262 _ @HR
def Co(T:eH){H:dT}{a0 i a b:Int}{l:Tm}{q0 q1:Nat}(c:H[q0]?=some [sI a])(d:H[q1]?=some [sI b])(hm:tL a0 i a b=some l):eI prog T 318 [sI a0,sI i,AV.eT q0 0,AV.eT q1 0] H (Tm.av l) H:=by
 rw[tL] at hm;have j:=eK c;have k:=eK d;have e:=Aj (Aj (Aj j c) k) d;refine wi aiN func318 [] [] 2 ?_;simp[e];refine wjs 999 999 (λf h=>h=H/\f.1 0=sI (e_ (rb (fU .i64 a0 i) a) (fl .i64 a0 b) a0)/\f.1 6=AV.hU 6 (f.gen 6) 0/\f.box 6=some [sI 0,sI 0,sI 0,nL,nL]) ?_ (λ_ g=>?_)
 ·rintro _ _ E;have m:=hm;exact aa
 rcases Pb (rb (fU .i64 a0 i) a) e with e|e
 ·exact aj
 exact aj
def oU(T:eH):∀(n:Nat),(∀{S:Type} {st:S->dT} {k:Nat} {a0:Tm} {l:Int} {o:(S->Int->Int->Option (Tm×S))} {vK:S} {v:Tm} {zD:S} {q0:Nat} {q1:Nat} {q:Nat} {r:List AV} (hF:EO st k) (d:∀s,(st s)[q0]?=some [AV.func (.func q) [] r]) (b:tC T q r st o) (i:∀s,(st s)[q1]?=some [AV.func (.func 334) [] [AV.eT q0 0,AV.eT q1 0]]) (hm:hO n a0 l o vK=some (v,zD)),eI prog T 334 [Tm.av a0,sI l,AV.eT q0 0,AV.eT q1 0] (st vK) (Tm.av v) (st zD)):=by
  intro n
  induction n with
  |zero=>
    skip
    all_goals(intro _ _;intros;rename_i hm;cases hm)
  |succ n ih=>
 intro S st k a0 l o vK v zD q0 q1 q r hF d b i hm;rw[hO] at hm;have w:=λs=>eK (d s);have x:=λs=>eK (i s);have e:=Aj (Aj (Aj (Aj hF.len w) d) x) i;refine wi aiN func334 [] [(9,false,[true,true,false,true,true,true,true,true,true,true])] 5 ?_;simp[e];apply Iq e hm<;>intro e m
 ·apply wg 999;have⟨F,G,e,m⟩:=Bo2 e m;simp[e];refine lz.F2 abL (tC.at0 b e.2) ?_;exact au
 refine sg 4 [0,4,0] ?_;intro B e m;refine wA 999 999 [] [4,6,7] (λf=>f.1 1=sI (e_ (ei a0.aiI 2) (fl .i64 l 1) l)/\f.1 3=AV.eT q1 0) [0] (λ_ g=>?_) ?_
 ·rcases Pb (ei a0.aiI 2) e with e|e
  ·exact aj
  exact aj
 intro _ e m;refine Wr e m 999 (λC t f h=>∃a,(h=st t.2/\f.1 1=sI (e_ (ei a0.aiI 2) (fl .i64 l 1) l)/\f.1 3=AV.eT q1 0/\f.1 32=sL Tm.av a0.aiJ/\f.1 33=sI (ez a0.aiJ)/\f.1 34=sI C/\bx f 6 [sI 0,sI 0,sI 0,nL,nL]/\bx f 7 [sI a0.aiI,sI a0.aiL,sI B.aiI,sL Ty.av B.aiJ,sT a Tm.av t.1])/\Ow f [45] a t.1) (by exact⟨.full,abx,hD.full⟩) (λt j _ _ E m=>?_) (λC _ t j _ _ _ _ E e m z p=>?_)
 ·have⟨u,y⟩:=t;have⟨a,E,c⟩:=E;have e:=Aj e E;dsimp only[ew,oO]at m;exact au
 have⟨u,y⟩:=t;have⟨a,E,c⟩:=E;have e:=Aj e E;dsimp only[oO]at m;have⟨A,D,e,m⟩:=Bo2 e m;simp[e];refine gI.F2 abL (ih hF d b i e.2) aaF ?_;refine sw [9,0] ?_;intro e m;refine Ad (f:=Tm.av) u [A] c y5 e.2 ?_;simp[e];cases m;exact p _ _ _ ⟨(.loc 45 (j.e8 45+1)),abx,(On 45)⟩ z
def FH(T:eH){S:Type}{st:S->dT}{k:Nat}{a0:Tm}{i:Int}{a:(S->Int->Int->Option (Tm×S))}{vK:S}{j:Tm}{zD:S}{q0 q1 b:Nat}{c:List AV}(hF:EO st k)(f:∀s,(st s)[q0]?=some [AV.func (.func b) [] c])(d:tC T b c st a)(h:∀s,(st s)[q1]?=some [AV.func (.func 334) [] [AV.eT q0 0,AV.eT q1 0]]){n:Nat}(hm:hO n a0 i a vK=some (j,zD)):eI prog T 334 [Tm.av a0,sI i,AV.eT q0 0,AV.eT q1 0] (st vK) (Tm.av j) (st zD):=(oU T n) hF f d h hm
def zT(T:eH){S:Type}{st:S->dT}{k:Nat}{a0:Tm}{d:(S->Int->Int->Option (Tm×S))}{vK:S}{b:Tm}{zD:S}{g1:Nat}{a:List AV}(hF:EO st k)(c:tC T g1 a st d)(hm:pZ a0 d vK=some (b,zD)):eI prog T 317 [Tm.av a0,AV.func (.func g1) [] a] (st vK) (Tm.av b) (st zD):=by
 rw[pZ] at hm;refine fo.ZF hF (Post:=λx K=>x=Tm.av b/\∃X,K=(st zD)++X) ?_ (λ_ _ h=>⟨_,h.2.choose,h.2.choose_spec,by rw[h.1];simp[AV.low,AV.iu],h.1,rfl⟩);have e:=hF.len;refine wi aiN func317 [3,5] [] 999 ?_;have⟨f,s2,e,m⟩:=Bo2 e hm;simp[e];refine lz.F2 abL (FH T (st:=λs=>st s++[[AV.func (.func g1) [] a],[AV.func (.func 334) [] [AV.eT k 0,AV.eT (k+1) 0]]]) (EO.ext hF _ (n:=k+2) aaF) (λ_=>abx) (tC.ext c) (λ_=>abx) e.2) ?_;exact au
def Ny(T:eH){H:dT}{a0:Tm}{a a2:Int}{b:Tm}(hm:td a0 a a2=some b):eI prog T 296 [Tm.av a0,sI a,sI a2] H (Tm.av b) H:=by
 rw[td] at hm;refine fo.uI (Post:=λx K=>x=Tm.av b/\∃X,K=H++X) ?_ (λ_ _ h=>⟨_,h.2.choose_spec,by rw[h.1];simp[AV.low,AV.iu],h.1,rfl⟩);have e:=trivial;refine wi aiN func296 [4,5] [] 999 ?_;simp[e];refine Ds hm (zT T (st:=λ_:Unit=>H++[[sI a],[sI a2]]) (EO.const _) (λX _ _ _ _ _ h=>by obtain⟨c,rfl⟩:=y7 h;exact Co T (q0:=(List.length H)) (q1:=(List.length H+1)) abx abx c)) λ_ _ m=>?_;exact au
@[reducible,instance] def ZW:=@Kc.mk prog 296 _ @Ny
def Eh(T:eH){H:dT}{a0 i b:Int}{a j:Tm}{q0 q1:Nat}(c:H[q0]?=some [sI b])(d:H[q1]?=some [sI a.aiI,sI a.aiL,sI a.dM.aiI,sL Ty.av a.dM.aiJ,sL Tm.av a.aiJ])(hm:n_ a0 i b a=some j):eI prog T 333 [sI a0,sI i,AV.eT q0 0,AV.eT q1 0] H (Tm.av j) H:=by
 rw[n_] at hm;have f:=eK c;have h:=eK d;have e:=Aj (Aj (Aj f c) h) d;refine wi aiN func333 [] [] 999 ?_;have m:=hm;exact aa
def O8(T:eH){H:dT}{a0:Tm}{a:Int}{a2 b:Tm}(hm:Aa a0 a a2=some b):eI prog T 316 [Tm.av a0,sI a,Tm.av a2] H (Tm.av b) H:=by
 rw[Aa] at hm;refine fo.uI (Post:=λx K=>x=Tm.av b/\∃X,K=H++X) ?_ (λ_ _ h=>⟨_,h.2.choose_spec,by rw[h.1];simp[AV.low,AV.iu],h.1,rfl⟩);have e:=trivial;refine wi aiN func316 [4,5] [] 999 ?_;simp[e];refine Ds hm (zT T (st:=λ_:Unit=>H++[[sI a],[sI a2.aiI,sI a2.aiL,sI a2.dM.aiI,sL Ty.av a2.dM.aiJ,sL Tm.av a2.aiJ]]) (EO.const _) (λX _ _ _ _ _ h=>by obtain⟨c,rfl⟩:=y7 h;exact Eh T (q0:=(List.length H)) (q1:=(List.length H+1)) abx abx c)) λ_ _ m=>?_;exact au
@[reducible,instance] def abI:=@Kc.mk prog 316 _ @O8
def uL(T:eH){H:dT}{a0:Tm}{i b:Int}{a j:Tm}{q0 q1:Nat}(c:H[q0]?=some [sI b])(d:H[q1]?=some [sI a.aiI,sI a.aiL,sI a.dM.aiI,sL Ty.av a.dM.aiJ,sL Tm.av a.aiJ])(hm:iI a0 i b a=some j):eI prog T 315 [Tm.av a0,sI i,AV.eT q0 0,AV.eT q1 0] H (Tm.av j) H:=by
 rw[iI] at hm;have f:=eK c;have h:=eK d;have e:=Aj (Aj (Aj f c) h) d;refine wi aiN func315 [] [] 999 ?_;have m:=hm;exact aa
def kh(T:eH):∀(n:Nat),(∀{S:Type} {st:S->dT} {k:Nat} {a0:Fm} {w:Int} {a2:(S->Tm->Int->Option (Tm×S))} {vK:S} {F:Fm} {zD:S} {g2:Nat} {i:List AV} (hF:EO st k) (t:DU T g2 i st a2) (hm:fq n a0 w a2 vK=some (F,zD)),eI prog T 190 [Fm.av a0,sI w,AV.func (.func g2) [] i] (st vK) (Fm.av F) (st zD)):=by
  intro n
  induction n with
  |zero=>
    skip
    all_goals(intro _ _;intros;rename_i hm;cases hm)
  |succ n ih=>
 intro S st k a0 w a2 vK F zD g2 i hF t hm;rw[fq] at hm;have e:=hF.len;refine wi aiN func190 [] [] 999 ?_;have m:=hm;refine sw [0,4,0] ?_;intro x e m;refine Xe e m 0 (λJ u f h=>∃b,(h=st u.2/\f.1 1=sI w/\f.1 2=AV.func (.func g2) [] i/\f.1 19=sL Tm.av a0.ef/\f.1 20=sI (ez a0.ef)/\f.1 21=sI J/\bx f 3 (Fm.av a0).cells/\bx f 6 [sI 0,sI 0,nL,nL,nL]/\bx f 7 [sI a0.aiI,sI x.aiI,sL Ty.av x.aiJ,sT b Tm.av u.1,nL])/\Ow f [32] b u.1) (by exact⟨.full,abx,hD.full⟩) (λJ _ u y _ _ _ _ E e m z p=>?_) (λu y _ _ E m=>?_)
 ·have⟨v12,A⟩:=u;have⟨b,E,o⟩:=E;have e:=Aj e E;dsimp only[oO]at m;apply wg 999;have⟨G,K,e,m⟩:=Bo2 e m;simp[e];refine gI.F2 abL (DU.at0 t e.2) aaF ?_;refine sw [9,0] ?_;intro e m;refine Ad (f:=Tm.av) v12 [G] o y5 e.2 ?_;simp[e];cases m;exact p _ _ _ ⟨(.loc 32 (y.e8 32+1)),abx,(On 32)⟩ z
 have⟨v12,A⟩:=u;have⟨b,E,o⟩:=E;have e:=Aj e E;apply wg 5;dsimp only[ew,oO]at m;simp[e];refine Wj m 999 999 (λB f h=>∃r c,(h=st A/\f.1 1=sI r/\f.1 2=AV.func (.func g2) [] i/\bx f 3 (Fm.av a0).cells/\bx f 6 [sI 0,sI 0,nL,nL,nL]/\bx f 7 [sI a0.aiI,sI x.aiI,sL Ty.av x.aiJ,sT c Tm.av v12,nL])/\Ow f [32] c v12/\B r=some (F,zD)) (λB _ g m=>?_) ?_
 ·refine sw [0,1] ?_;intro _ e m;apply Ir e m<;>intro e m
  ·simp[e];exact g _ _ ⟨w,b,abx,o,m⟩
  simp[e];exact g _ _ ⟨(fl .i64 w 1),b,abx,o,m⟩
 rintro _ _ ⟨r,c,E,v,m⟩;have e:=Aj e E;simp[e];refine Wr e m 999 (λC j f h=>∃a d,(h=st j.2/\f.1 1=sI r/\f.1 2=AV.func (.func g2) [] i/\f.1 41=sL Fm.av a0.aiJ/\f.1 42=sI (ez a0.aiJ)/\f.1 43=sI C/\bx f 6 [sI 0,sI 0,nL,nL,nL]/\bx f 7 [sI a0.aiI,sI x.aiI,sL Ty.av x.aiJ,sT a Tm.av v12,sT d Fm.av j.1])/\Ow f [32] a v12/\Ow f [54] d j.1) (by exact⟨c,.full,abx,v,hD.full⟩) (λj s _ _ E m=>?_) (λC _ j s _ _ _ _ E e m z p=>?_)
 ·have⟨D,H⟩:=j;have⟨a,d,E,q,l⟩:=E;have e:=Aj e E;dsimp only[ew,oO]at m;exact au
 have⟨D,H⟩:=j;have⟨a,d,E,q,l⟩:=E;have e:=Aj e E;dsimp only[oO]at m;simp[e];refine tq m (ih hF t) λI _ m=>?_;refine sw [9,0] ?_;intro e m;refine Ad (f:=Fm.av) D [I] l JC e.2 ?_;simp[e];cases m;exact p _ _ _ ⟨a,(.loc 54 (s.e8 54+1)),abx,(hD.other q l aak aak),(On 54)⟩ z
def sD(T:eH){S:Type}{st:S->dT}{k:Nat}{a0:Fm}{c:Int}{a2:(S->Tm->Int->Option (Tm×S))}{vK:S}{d:Fm}{zD:S}{g2:Nat}{a:List AV}(hF:EO st k)(b:DU T g2 a st a2){n:Nat}(hm:fq n a0 c a2 vK=some (d,zD)):eI prog T 190 [Fm.av a0,sI c,AV.func (.func g2) [] a] (st vK) (Fm.av d) (st zD):=(kh T n) hF b hm
def D2(T:eH){H:dT}{a0:Fm}{a:Int}{a2:Tm}{b:Fm}(hm:oG a0 a a2=some b):eI prog T 292 [Fm.av a0,sI a,Tm.av a2] H (Fm.av b) H:=by
 rw[oG] at hm;refine fo.uI (Post:=λx K=>x=Fm.av b/\∃X,K=H++X) ?_ (λ_ _ h=>⟨_,h.2.choose_spec,by rw[h.1];simp[AV.low,AV.iu],h.1,rfl⟩);have e:=trivial;refine wi aiN func292 [4,5] [] 999 ?_;simp[e];refine Ds hm (sD T (st:=λ_:Unit=>H++[[sI a],[sI a2.aiI,sI a2.aiL,sI a2.dM.aiI,sL Ty.av a2.dM.aiJ,sL Tm.av a2.aiJ]]) (EO.const _) (λX _ _ _ _ _ h=>by obtain⟨c,rfl⟩:=y7 h;exact uL T (q0:=(List.length H)) (q1:=(List.length H+1)) abx abx c)) λ_ _ m=>?_;exact au
@[reducible,instance] def QF:=@Kc.mk prog 292 _ @D2
def DE(T:eH)(d:nV T){H:dT}{a0:Fm}{a:Tm}{b:Fm}{c:Int}(hm:vI a0 a=some (b,c)):eI prog T 249 [Fm.av a0,Tm.av a] H (AV.tuple [Fm.av b,sI c]) H:=by
 rw[vI] at hm;have e:=d;refine wi aiN func249 [] [] 999 ?_;have m:=hm;exact aa
@[reducible,instance] def Yh:=@Kc.mk prog 249 _ @DE
def uv{n:Nat}:C2 prog 298 (iW n) sB Tm.av Tm.av:=by
 refine i2 λn ih=>u2 3 func298 λT H a0 a r m e=>?_;rw[iW] at m;simp[e];refine WA m 999 999 [] [2,3] (λv2 f=>f.1 35=sB v2) [7,0] (λb _ g m=>?_) ?_
 ·apply Iq e m<;>intro e m
  ·exact iO
  apply Iq e m<;>intro e m
  ·exact iO
  simp[e];refine pS m kA λ_ m=>?_;apply Ir e m<;>intro e m
  ·exact iO
  exact iO
 intro _ v2 e m;exact Wb e m 999 39 [37,38] [3] nI
@[reducible,instance] def Tt:=@Kc.mk prog 298 _ @uv
def Ew:C2 prog 265 rk sB Tm.av Tm.av:=by
 refine v2 func265 λT H a0 a r m e=>?_;rw[rk] at m;exact aa
@[reducible,instance] def Ys:=@Kc.mk prog 265 _ @Ew
def AT(T:eH)(c:nV T){H:dT}{a0 a:Tm}{a2 b:Int}(hm:pV a0 a a2=some b):eI prog T 194 [Tm.av a0,Tm.av a,sI a2] H (sI b) H:=by
 rw[pV] at hm;have e:=c;refine wi aiN func194 [] [] 999 ?_;have m:=hm;exact aa
@[reducible,instance] def We:=@Kc.mk prog 194 _ @AT
def pX(T:eH)(c:nV T):∀(n:Nat),(∀{H:dT} {a0:Fm} {a:Fm} {b:Int} (hm:l6 n a0 a=some b),eI prog T 142 [Fm.av a0,Fm.av a] H (sI b) H):=by
  intro n
  induction n with
  |zero=>
    skip
    all_goals(intro _ _;intros;rename_i hm;cases hm)
  |succ n ih=>
 intro H a0 a b hm;rw[l6] at hm;have e:=c;refine wi aiN func142 [] [] 3 ?_;simp[e];refine WA hm 999 999 [] [2,3] (λv2 f=>f.1 23=sB v2) [7,0] (λd _ g m=>?_) ?_
 ·apply Iq e m<;>intro e m
  ·exact iO
  simp[e];refine pS m kA λ_ m=>?_;exact iO
 intro _ v2 e m;refine Wa e m 999 27 [25,26] [2,3] nI [11,0] ?_;intro _ _ e m;exact Wb e m 999 46 [44,45] [3] nI
def GZ(T:eH)(c:nV T){H:dT}{a0 a:Fm}{b:Int}{n:Nat}(hm:l6 n a0 a=some b):eI prog T 142 [Fm.av a0,Fm.av a] H (sI b) H:=(pX T c n) hm
@[reducible,instance] def Te:=@Kc.mk prog 142 _ @GZ
def zi(T:eH)(c:nV T){H:dT}{a0 a:Fm}{b:Int}(hm:np a0 a=some b):eI prog T 102 [Fm.av a0,Fm.av a] H (sI b) H:=by
 rw[np] at hm;have e:=c;refine wi aiN func102 [] [] 999 ?_;have m:=hm;exact aa
@[reducible,instance] def Tn:=@Kc.mk prog 102 _ @zi
def G5:C2 prog 258 qJ Fm.av Tm.av Tm.av:=by
 refine v2 func258 λT H a0 a r m e=>?_;rw[qJ] at m;have e:=Aj e (show AV.agg [sI 1,sI 0,AV.slice .gx [],AV.slice .gx [Tm.av a0,Tm.av a],AV.slice .gx []]=Fm.av (Fm.mk 1 (Ty.mk 0 []) [a0,a] []) by rw[Fm.eO];rfl);exact au
@[reducible,instance] def To:=@Kc.mk prog 258 _ @G5
def sG(T:eH){H:dT}{a0:List Fm}{b:Pf}{a2:d_}{c:dV}{d:Int}{f:Nat}(a:KC H f a0)(hm:kq a0 b a2=some (c,d)):eI prog T 185 [AV.eT f 0,Pf.av b,d_.av a2] H (AV.tuple [dV.av c,sI d]) H:=by
 rw[kq] at hm;have e:=a;refine wi aiN func185 [] [] 999 ?_;have m:=hm;exact aa
def BV:C1 prog 335 tY (t2 sI sI) sB:=by
 refine v1 func335 λT H a0 r m e=>?_;rw[tY] at m;exact aa
@[reducible,instance] def Xu:=@Kc.mk prog 335 _ @BV
def SC:C2 prog 294 w7 Tm.av sI (sL Tm.av):=by
 refine v2 func294 λT H a0 a r m e=>?_;rw[w7] at m;exact au
@[reducible,instance] def adL:=@Kc.mk prog 294 _ @SC
def HZ:C2 prog 352 vP Tm.av Tm.av (sL Ty.av):=by
 refine v2 func352 λT H a0 b r m e=>?_;rw[vP] at m;simp[e];refine Wn m 999 (λs1 f h=>∃a,h=H/\f.1 1=sL Ty.av b/\f.1 5=sI s1.1/\bx f 2 [sI s1.2.1,sI s1.2.2.1,sI s1.2.2.2.1,sL Ty.av s1.2.2.2.2.1,sT a Tm.av s1.2.2.2.2.2]/\bx f 4 [sI 0,sI 0,sI 0,nL,nL]) ⟨.gx,abx⟩ (λs1 _ _ _ _ _ E m z p=>?_);have⟨v9,v10,v11,v12,c,d⟩:=s1;have⟨a,E⟩:=E;have e:=Aj e E;dsimp only[AG]at m;apply Ir e m<;>intro e m
 ·cases m;have m:=Qb z;dsimp only[AG]at m;exact au
 refine sw [8,0] ?_;intro i e m;cases m;exact p _ _ _ ⟨.full,abx⟩ z
@[reducible,instance] def abW:=@Kc.mk prog 352 _ @HZ
def Pl:C5 prog 353 Ak Tm.av sI Ty.av Tm.av Tm.av Tm.av:=by
 refine v5 func353 λT H a0 a a2 a3 a4 r m e=>?_;rw[Ak] at m;have e:=Aj e (show AV.agg [sI a0,sI 0,sI a.aiI,sL Ty.av a.aiJ,AV.slice .gx [Tm.av a2,Tm.av a3,Tm.av a4]]=Tm.av (Tm.mk a0 0 a [a2,a3,a4]) by rw[Tm.eO];rfl);exact au
@[reducible,instance] def adn:=@Kc.mk prog 353 _ @Pl
def wR:C3 prog 348 mB Tm.av Tm.av Tm.av Tm.av:=by
 refine v3 func348 λT H a0 a a2 r m e=>?_;rw[mB] at m;exact aa
@[reducible,instance] def Rn:=@Kc.mk prog 348 _ @wR
def DG:C0 prog 349 vQ Tm.av:=by
 refine v0 func349 λT H r m e=>?_;rw[vQ] at m;exact aa
@[reducible,instance] def XL:=@Kc.mk prog 349 _ @DG
end Go.Proofs.YtpgdkkomegalnaaGreatDoor
