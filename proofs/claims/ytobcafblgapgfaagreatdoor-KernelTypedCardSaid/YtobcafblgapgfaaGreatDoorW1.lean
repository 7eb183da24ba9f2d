/- Part of the proof of KernelTyped: walks. -/
import Derived.Test.YtobcafblgapgfaaGreatDoorProg
import Derived.Test.YtobcafblgapgfaaGreatDoorChecked
import Derived.WalkKit
import Derived.Laws.Bits64b
import Derived.BigCall
import Derived.Test.YtobcafblgapgfaaGreatDoorG1
set_option linter.all false
namespace Go.Proofs.YtobcafblgapgfaaGreatDoor
open Go Go.m7 Go.hI Tryz
def acd:prog.follows .mixedOrders=true:=by kernel_rfl
end Go.Proofs.YtobcafblgapgfaaGreatDoor
namespace Go.hI
open Go Go.m7
mutual
def Ty.av:Ty->AV
 |.mk ab9 ab_=>.agg [sI ab9,AV.slice .iP (Ty.J0 ab_)]
def Ty.J0:List Ty->List AV
 |[]=>[]|x::l=>x.av::Ty.J0 l
end
def Ty.Bp(l:List Ty):Ty.J0 l=l.map Ty.av:=by
 induction l with
 |nil=>rfl|cons x l a=>simp[Ty.J0,a]
def Ty.fL(ab9:Int)(ab_:List Ty):(Ty.mk ab9 ab_).av=.agg [sI ab9,sL Ty.av ab_]:=by rw[Ty.av];simp only[Ty.Bp]
mutual
@[simp] theorem Ty.zx(k:Nat):∀x:Ty,x.av.low k=true
 |.mk ab9 ab_=>by rw[Ty.fL];simp[AV.low,AV.iZ,Ty.sb k ab_]
@[simp] theorem Ty.sb(k:Nat):∀l:List Ty,AV.iZ k (l.map Ty.av)=true
 |[]=>rfl|x::l=>by simp[AV.iZ,Ty.zx k x,Ty.sb k l]
end
def Ty.gT(x:Ty):x.av=.agg [sI x.ab9,sL Ty.av x.ab_]:=by cases x;exact Ty.fL _ _
@[simp] theorem Ty.mw(x:Ty):x.av.cells=[sI x.ab9,sL Ty.av x.ab_]:=by rw[Ty.gT];rfl
@[simp] theorem Ty.uu(x:Ty):fZ x.av=true:=by rw[Ty.gT];rfl
@[simp] theorem Ty.qO(x:Ty):x.av.norm=x.av:=by rw[Ty.gT];rfl
@[simp] theorem Ty.ZW(a:Int)(b:List Ty):AV.agg [sI a,sL Ty.av b]=Ty.av (Ty.mk a b):=by rw[Ty.fL]<;>rfl
@[simp] theorem Ty.aa'(a:Int):AV.agg [sI a,AV.slice .iP []]=Ty.av (Ty.mk a []):=by rw[Ty.fL]<;>rfl
mutual
def Tm.av:Tm->AV
 |.mk ab9 aca dv ab_=>.agg [sI ab9,sI aca,sI dv.ab9,sL Ty.av dv.ab_,AV.slice .iP (Tm.J0 ab_)]
def Tm.J0:List Tm->List AV
 |[]=>[]|x::l=>x.av::Tm.J0 l
end
def Tm.Bp(l:List Tm):Tm.J0 l=l.map Tm.av:=by
 induction l with
 |nil=>rfl|cons x l a=>simp[Tm.J0,a]
def Tm.fL(ab9 aca:Int)(dv:Ty)(ab_:List Tm):(Tm.mk ab9 aca dv ab_).av=.agg [sI ab9,sI aca,sI dv.ab9,sL Ty.av dv.ab_,sL Tm.av ab_]:=by rw[Tm.av];simp only[Tm.Bp]
mutual
@[simp] theorem Tm.zx(k:Nat):∀x:Tm,x.av.low k=true
 |.mk ab9 aca dv ab_=>by rw[Tm.fL];simp[AV.low,AV.iZ,Tm.sb k ab_]
@[simp] theorem Tm.sb(k:Nat):∀l:List Tm,AV.iZ k (l.map Tm.av)=true
 |[]=>rfl|x::l=>by simp[AV.iZ,Tm.zx k x,Tm.sb k l]
end
def Tm.gT(x:Tm):x.av=.agg [sI x.ab9,sI x.aca,sI x.dv.ab9,sL Ty.av x.dv.ab_,sL Tm.av x.ab_]:=by cases x;exact Tm.fL _ _ _ _
@[simp] theorem Tm.mw(x:Tm):x.av.cells=[sI x.ab9,sI x.aca,sI x.dv.ab9,sL Ty.av x.dv.ab_,sL Tm.av x.ab_]:=by rw[Tm.gT];rfl
@[simp] theorem Tm.uu(x:Tm):fZ x.av=true:=by rw[Tm.gT];rfl
@[simp] theorem Tm.qO(x:Tm):x.av.norm=x.av:=by rw[Tm.gT];rfl
@[simp] theorem Tm.Va(a b c:Int)(c3:List Ty)(d:List Tm):AV.agg [sI a,sI b,sI c,sL Ty.av c3,sL Tm.av d]=Tm.av (Tm.mk a b (Ty.mk c c3) d):=by rw[Tm.fL]<;>rfl
@[simp] theorem Tm.abI(a b c:Int)(d:List Tm):AV.agg [sI a,sI b,sI c,AV.slice .iP [],sL Tm.av d]=Tm.av (Tm.mk a b (Ty.mk c []) d):=by rw[Tm.fL]<;>rfl
@[simp] theorem Tm.Zl(a b c:Int):AV.agg [sI a,sI b,sI c,AV.slice .iP [],AV.slice .iP []]=Tm.av (Tm.mk a b (Ty.mk c []) []):=by rw[Tm.fL]<;>rfl
mutual
def Fm.av:Fm->AV
 |.mk ab9 dv ej ab_=>.agg [sI ab9,sI dv.ab9,sL Ty.av dv.ab_,sL Tm.av ej,AV.slice .iP (Fm.J0 ab_)]
def Fm.J0:List Fm->List AV
 |[]=>[]|x::l=>x.av::Fm.J0 l
end
def Fm.Bp(l:List Fm):Fm.J0 l=l.map Fm.av:=by
 induction l with
 |nil=>rfl|cons x l a=>simp[Fm.J0,a]
def Fm.fL(ab9:Int)(dv:Ty)(ej:List Tm)(ab_:List Fm):(Fm.mk ab9 dv ej ab_).av=.agg [sI ab9,sI dv.ab9,sL Ty.av dv.ab_,sL Tm.av ej,sL Fm.av ab_]:=by rw[Fm.av];simp only[Fm.Bp]
mutual
@[simp] theorem Fm.zx(k:Nat):∀x:Fm,x.av.low k=true
 |.mk ab9 dv ej ab_=>by rw[Fm.fL];simp[AV.low,AV.iZ,Fm.sb k ab_]
@[simp] theorem Fm.sb(k:Nat):∀l:List Fm,AV.iZ k (l.map Fm.av)=true
 |[]=>rfl|x::l=>by simp[AV.iZ,Fm.zx k x,Fm.sb k l]
end
def Fm.gT(x:Fm):x.av=.agg [sI x.ab9,sI x.dv.ab9,sL Ty.av x.dv.ab_,sL Tm.av x.ej,sL Fm.av x.ab_]:=by cases x;exact Fm.fL _ _ _ _
@[simp] theorem Fm.mw(x:Fm):x.av.cells=[sI x.ab9,sI x.dv.ab9,sL Ty.av x.dv.ab_,sL Tm.av x.ej,sL Fm.av x.ab_]:=by rw[Fm.gT];rfl
@[simp] theorem Fm.uu(x:Fm):fZ x.av=true:=by rw[Fm.gT];rfl
@[simp] theorem Fm.qO(x:Fm):x.av.norm=x.av:=by rw[Fm.gT];rfl
@[simp] theorem Fm.OL(a b:Int)(c:List Ty)(c3:List Tm)(d:List Fm):AV.agg [sI a,sI b,sL Ty.av c,sL Tm.av c3,sL Fm.av d]=Fm.av (Fm.mk a (Ty.mk b c) c3 d):=by rw[Fm.fL]<;>rfl
@[simp] theorem Fm.aa1(a b:Int)(c:List Fm):AV.agg [sI a,sI b,AV.slice .iP [],AV.slice .iP [],sL Fm.av c]=Fm.av (Fm.mk a (Ty.mk b []) [] c):=by rw[Fm.fL]<;>rfl
@[simp] theorem Fm.Wl(a b:Int):AV.agg [sI a,sI b,AV.slice .iP [],AV.slice .iP [],AV.slice .iP []]=Fm.av (Fm.mk a (Ty.mk b []) [] []):=by rw[Fm.fL]<;>rfl
def Sq.av(x:Sq):AV:=.agg [sL Ty.av x.acb,sL Fm.av x.acf]
def Sq.fL(acb:List Ty)(acf:List Fm):(Sq.mk acb acf).av=.agg [sL Ty.av acb,sL Fm.av acf]:=rfl
def Sq.gT(x:Sq):x.av=.agg [sL Ty.av x.acb,sL Fm.av x.acf]:=by cases x;exact Sq.fL _ _
@[simp] theorem Sq.mw(x:Sq):x.av.cells=[sL Ty.av x.acb,sL Fm.av x.acf]:=by rw[Sq.gT];rfl
@[simp] theorem Sq.uu(x:Sq):fZ x.av=true:=by rw[Sq.gT];rfl
@[simp] theorem Sq.qO(x:Sq):x.av.norm=x.av:=by rw[Sq.gT];rfl
@[simp] theorem Sq.Va(a:List Ty)(b:List Fm):AV.agg [sL Ty.av a,sL Fm.av b]=Sq.av (Sq.mk a b):=by rw[Sq.fL]<;>rfl
@[simp] theorem Sq.Zl:AV.agg [AV.slice .iP [],AV.slice .iP []]=Sq.av (Sq.mk [] []):=by rw[Sq.fL]<;>rfl
mutual
def Pf.av:Pf->AV
 |.mk ab9 aca dv ej fj ab_=>.agg [sI ab9,sI aca,sI dv.ab9,sL Ty.av dv.ab_,sL Tm.av ej,sL Fm.av fj,AV.slice .iP (Pf.J0 ab_)]
def Pf.J0:List Pf->List AV
 |[]=>[]|x::l=>x.av::Pf.J0 l
end
def Pf.Bp(l:List Pf):Pf.J0 l=l.map Pf.av:=by
 induction l with
 |nil=>rfl|cons x l a=>simp[Pf.J0,a]
def Pf.fL(ab9 aca:Int)(dv:Ty)(ej:List Tm)(fj:List Fm)(ab_:List Pf):(Pf.mk ab9 aca dv ej fj ab_).av=.agg [sI ab9,sI aca,sI dv.ab9,sL Ty.av dv.ab_,sL Tm.av ej,sL Fm.av fj,sL Pf.av ab_]:=by rw[Pf.av];simp only[Pf.Bp]
mutual
@[simp] theorem Pf.zx(k:Nat):∀x:Pf,x.av.low k=true
 |.mk ab9 aca dv ej fj ab_=>by rw[Pf.fL];simp[AV.low,AV.iZ,Pf.sb k ab_]
@[simp] theorem Pf.sb(k:Nat):∀l:List Pf,AV.iZ k (l.map Pf.av)=true
 |[]=>rfl|x::l=>by simp[AV.iZ,Pf.zx k x,Pf.sb k l]
end
def Pf.gT(x:Pf):x.av=.agg [sI x.ab9,sI x.aca,sI x.dv.ab9,sL Ty.av x.dv.ab_,sL Tm.av x.ej,sL Fm.av x.fj,sL Pf.av x.ab_]:=by cases x;exact Pf.fL _ _ _ _ _ _
@[simp] theorem Pf.mw(x:Pf):x.av.cells=[sI x.ab9,sI x.aca,sI x.dv.ab9,sL Ty.av x.dv.ab_,sL Tm.av x.ej,sL Fm.av x.fj,sL Pf.av x.ab_]:=by rw[Pf.gT];rfl
@[simp] theorem Pf.uu(x:Pf):fZ x.av=true:=by rw[Pf.gT];rfl
@[simp] theorem Pf.qO(x:Pf):x.av.norm=x.av:=by rw[Pf.gT];rfl
@[simp] theorem Pf.UO(a b c:Int)(c3:List Ty)(d:List Tm)(c5:List Fm)(e:List Pf):AV.agg [sI a,sI b,sI c,sL Ty.av c3,sL Tm.av d,sL Fm.av c5,sL Pf.av e]=Pf.av (Pf.mk a b (Ty.mk c c3) d c5 e):=by rw[Pf.fL]<;>rfl
@[simp] theorem Pf.aaC(a b c:Int)(d:List Pf):AV.agg [sI a,sI b,sI c,AV.slice .iP [],AV.slice .iP [],AV.slice .iP [],sL Pf.av d]=Pf.av (Pf.mk a b (Ty.mk c []) [] [] d):=by rw[Pf.fL]<;>rfl
@[simp] theorem Pf.Tz(a b c:Int):AV.agg [sI a,sI b,sI c,AV.slice .iP [],AV.slice .iP [],AV.slice .iP [],AV.slice .iP []]=Pf.av (Pf.mk a b (Ty.mk c []) [] [] []):=by rw[Pf.fL]<;>rfl
def sQ.av(x:sQ):AV:=.agg [sI x.eg.ab9,sI x.eg.dv.ab9,sL Ty.av x.eg.dv.ab_,sL Tm.av x.eg.ej,sL Fm.av x.eg.ab_,AV.slice .iP (List.map (λn=>AV.sc (Value.int .i64 n)) x.gi)]
def sQ.fL(eg:Fm)(gi:List Int):(sQ.mk eg gi).av=.agg [sI eg.ab9,sI eg.dv.ab9,sL Ty.av eg.dv.ab_,sL Tm.av eg.ej,sL Fm.av eg.ab_,AV.slice .iP (List.map (λn=>AV.sc (Value.int .i64 n)) gi)]:=rfl
@[simp] theorem sQ.zx(k:Nat)(x:sQ):x.av.low k=true:=by
 cases x;rw[sQ.fL];simp[AV.low,AV.iZ]
def sQ.gT(x:sQ):x.av=.agg [sI x.eg.ab9,sI x.eg.dv.ab9,sL Ty.av x.eg.dv.ab_,sL Tm.av x.eg.ej,sL Fm.av x.eg.ab_,AV.slice .iP (List.map (λn=>AV.sc (Value.int .i64 n)) x.gi)]:=by cases x;exact sQ.fL _ _
@[simp] theorem sQ.mw(x:sQ):x.av.cells=[sI x.eg.ab9,sI x.eg.dv.ab9,sL Ty.av x.eg.dv.ab_,sL Tm.av x.eg.ej,sL Fm.av x.eg.ab_,AV.slice .iP (List.map (λn=>AV.sc (Value.int .i64 n)) x.gi)]:=by rw[sQ.gT];rfl
@[simp] theorem sQ.uu(x:sQ):fZ x.av=true:=by rw[sQ.gT];rfl
@[simp] theorem sQ.qO(x:sQ):x.av.norm=x.av:=by rw[sQ.gT];rfl
@[simp] theorem sQ.UO(a b:Int)(c:List Ty)(c3:List Tm)(d:List Fm)(c5:List Int):AV.agg [sI a,sI b,sL Ty.av c,sL Tm.av c3,sL Fm.av d,AV.slice .iP (List.map (λn=>AV.sc (Value.int .i64 n)) c5)]=sQ.av (sQ.mk (Fm.mk a (Ty.mk b c) c3 d) c5):=by rw[sQ.fL]<;>rfl
@[simp] theorem sQ.Tz(a b:Int):AV.agg [sI a,sI b,AV.slice .iP [],AV.slice .iP [],AV.slice .iP [],AV.slice .iP []]=sQ.av (sQ.mk (Fm.mk a (Ty.mk b []) [] []) []):=by rw[sQ.fL]<;>rfl
def ew.av(x:ew):AV:=.agg [AV.slice .iP (List.map (λn=>AV.sc (Value.int .i64 n)) x.l),sI x.pY]
def ew.fL(l:List Int)(pY:Int):(ew.mk l pY).av=.agg [AV.slice .iP (List.map (λn=>AV.sc (Value.int .i64 n)) l),sI pY]:=rfl
def ew.gT(x:ew):x.av=.agg [AV.slice .iP (List.map (λn=>AV.sc (Value.int .i64 n)) x.l),sI x.pY]:=by cases x;exact ew.fL _ _
@[simp] theorem ew.mw(x:ew):x.av.cells=[AV.slice .iP (List.map (λn=>AV.sc (Value.int .i64 n)) x.l),sI x.pY]:=by rw[ew.gT];rfl
@[simp] theorem ew.uu(x:ew):fZ x.av=true:=by rw[ew.gT];rfl
@[simp] theorem ew.ZW(a:List Int)(b:Int):AV.agg [AV.slice .iP (List.map (λn=>AV.sc (Value.int .i64 n)) a),sI b]=ew.av (ew.mk a b):=by rw[ew.fL]<;>rfl
def ec.av(x:ec):AV:=.agg [sI x.eg.ab9,sI x.eg.dv.ab9,sL Ty.av x.eg.dv.ab_,sL Tm.av x.eg.ej,sL Fm.av x.eg.ab_,AV.sc (.int .u32 x.gi)]
def ec.fL(eg:Fm)(gi:Int):(ec.mk eg gi).av=.agg [sI eg.ab9,sI eg.dv.ab9,sL Ty.av eg.dv.ab_,sL Tm.av eg.ej,sL Fm.av eg.ab_,AV.sc (.int .u32 gi)]:=rfl
def ec.gT(x:ec):x.av=.agg [sI x.eg.ab9,sI x.eg.dv.ab9,sL Ty.av x.eg.dv.ab_,sL Tm.av x.eg.ej,sL Fm.av x.eg.ab_,AV.sc (.int .u32 x.gi)]:=by cases x;exact ec.fL _ _
@[simp] theorem ec.mw(x:ec):x.av.cells=[sI x.eg.ab9,sI x.eg.dv.ab9,sL Ty.av x.eg.dv.ab_,sL Tm.av x.eg.ej,sL Fm.av x.eg.ab_,AV.sc (.int .u32 x.gi)]:=by rw[ec.gT];rfl
@[simp] theorem ec.uu(x:ec):fZ x.av=true:=by rw[ec.gT];rfl
@[simp] theorem ec.qO(x:ec):x.av.norm=x.av:=by rw[ec.gT];rfl
@[simp] theorem ec.OL(a b:Int)(c:List Ty)(c3:List Tm)(d:List Fm)(c5:Int):AV.agg [sI a,sI b,sL Ty.av c,sL Tm.av c3,sL Fm.av d,AV.sc (.int .u32 c5)]=ec.av (ec.mk (Fm.mk a (Ty.mk b c) c3 d) c5):=by rw[ec.fL]<;>rfl
@[simp] theorem ec.Wl(a b c5:Int):AV.agg [sI a,sI b,AV.slice .iP [],AV.slice .iP [],AV.slice .iP [],AV.sc (.int .u32 c5)]=ec.av (ec.mk (Fm.mk a (Ty.mk b []) [] []) c5):=by rw[ec.fL]<;>rfl
def fg.av(x:fg):AV:=.agg [sI x.vars,sI x.acf]
def fg.fL(vars acf:Int):(fg.mk vars acf).av=.agg [sI vars,sI acf]:=rfl
def fg.gT(x:fg):x.av=.agg [sI x.vars,sI x.acf]:=by cases x;exact fg.fL _ _
@[simp] theorem fg.mw(x:fg):x.av.cells=[sI x.vars,sI x.acf]:=by rw[fg.gT];rfl
@[simp] theorem fg.uu(x:fg):fZ x.av=true:=by rw[fg.gT];rfl
@[simp] theorem fg.qO(x:fg):x.av.norm=x.av:=by rw[fg.gT];rfl
@[simp] theorem fg.agg(a b:Int):AV.agg [sI a,sI b]=fg.av (fg.mk a b):=by rw[fg.fL]<;>rfl
def ed.av(x:ed):AV:=.agg [sI x.dv.ab9,sL Ty.av x.dv.ab_,sI x.ab']
def ed.fL(dv:Ty)(ab':Int):(ed.mk dv ab').av=.agg [sI dv.ab9,sL Ty.av dv.ab_,sI ab']:=rfl
def ed.gT(x:ed):x.av=.agg [sI x.dv.ab9,sL Ty.av x.dv.ab_,sI x.ab']:=by cases x;exact ed.fL _ _
@[simp] theorem ed.mw(x:ed):x.av.cells=[sI x.dv.ab9,sL Ty.av x.dv.ab_,sI x.ab']:=by rw[ed.gT];rfl
@[simp] theorem ed.uu(x:ed):fZ x.av=true:=by rw[ed.gT];rfl
@[simp] theorem ed.qO(x:ed):x.av.norm=x.av:=by rw[ed.gT];rfl
@[simp] theorem ed.ZW(a:Int)(b:List Ty)(c:Int):AV.agg [sI a,sL Ty.av b,sI c]=ed.av (ed.mk (Ty.mk a b) c):=by rw[ed.fL]<;>rfl
@[simp] theorem ed.aa'(a b:Int):AV.agg [sI a,AV.slice .iP [],sI b]=ed.av (ed.mk (Ty.mk a []) b):=by rw[ed.fL]<;>rfl
def eu.av(x:eu):AV:=.agg [sI x.eg.ab9,sI x.eg.dv.ab9,sL Ty.av x.eg.dv.ab_,sL Tm.av x.eg.ej,sL Fm.av x.eg.ab_,sI x.vars]
def eu.fL(eg:Fm)(vars:Int):(eu.mk eg vars).av=.agg [sI eg.ab9,sI eg.dv.ab9,sL Ty.av eg.dv.ab_,sL Tm.av eg.ej,sL Fm.av eg.ab_,sI vars]:=rfl
def eu.gT(x:eu):x.av=.agg [sI x.eg.ab9,sI x.eg.dv.ab9,sL Ty.av x.eg.dv.ab_,sL Tm.av x.eg.ej,sL Fm.av x.eg.ab_,sI x.vars]:=by cases x;exact eu.fL _ _
@[simp] theorem eu.mw(x:eu):x.av.cells=[sI x.eg.ab9,sI x.eg.dv.ab9,sL Ty.av x.eg.dv.ab_,sL Tm.av x.eg.ej,sL Fm.av x.eg.ab_,sI x.vars]:=by rw[eu.gT];rfl
@[simp] theorem eu.uu(x:eu):fZ x.av=true:=by rw[eu.gT];rfl
@[simp] theorem eu.qO(x:eu):x.av.norm=x.av:=by rw[eu.gT];rfl
@[simp] theorem eu.OL(a b:Int)(c:List Ty)(c3:List Tm)(d:List Fm)(c5:Int):AV.agg [sI a,sI b,sL Ty.av c,sL Tm.av c3,sL Fm.av d,sI c5]=eu.av (eu.mk (Fm.mk a (Ty.mk b c) c3 d) c5):=by rw[eu.fL]<;>rfl
def eh.av(x:eh):AV:=.agg [sI x.gn.vars,sI x.gn.acf,sL ed.av x.acb,sL eu.av x.known]
def eh.fL(gn:fg)(acb:List ed)(known:List eu):(eh.mk gn acb known).av=.agg [sI gn.vars,sI gn.acf,sL ed.av acb,sL eu.av known]:=rfl
def eh.gT(x:eh):x.av=.agg [sI x.gn.vars,sI x.gn.acf,sL ed.av x.acb,sL eu.av x.known]:=by cases x;exact eh.fL _ _ _
@[simp] theorem eh.mw(x:eh):x.av.cells=[sI x.gn.vars,sI x.gn.acf,sL ed.av x.acb,sL eu.av x.known]:=by rw[eh.gT];rfl
@[simp] theorem eh.uu(x:eh):fZ x.av=true:=by rw[eh.gT];rfl
@[simp] theorem eh.qO(x:eh):x.av.norm=x.av:=by rw[eh.gT];rfl
@[simp] theorem eh.Va(a b:Int)(c:List ed)(c3:List eu):AV.agg [sI a,sI b,sL ed.av c,sL eu.av c3]=eh.av (eh.mk (fg.mk a b) c c3):=by rw[eh.fL]<;>rfl
def en.av(x:en):AV:=.agg [sL Fm.av x.lemmas,sL Ty.av x.acb,sL Fm.av x.acf]
def en.fL(lemmas:List Fm)(acb:List Ty)(acf:List Fm):(en.mk lemmas acb acf).av=.agg [sL Fm.av lemmas,sL Ty.av acb,sL Fm.av acf]:=rfl
def en.gT(x:en):x.av=.agg [sL Fm.av x.lemmas,sL Ty.av x.acb,sL Fm.av x.acf]:=by cases x;exact en.fL _ _ _
@[simp] theorem en.mw(x:en):x.av.cells=[sL Fm.av x.lemmas,sL Ty.av x.acb,sL Fm.av x.acf]:=by rw[en.gT];rfl
@[simp] theorem en.uu(x:en):fZ x.av=true:=by rw[en.gT];rfl
@[simp] theorem en.qO(x:en):x.av.norm=x.av:=by rw[en.gT];rfl
@[simp] theorem en.OL(a:List Fm)(b:List Ty)(c:List Fm):AV.agg [sL Fm.av a,sL Ty.av b,sL Fm.av c]=en.av (en.mk a b c):=by rw[en.fL]<;>rfl
def et.av(x:et):AV:=.agg [sI x.ab',sB x.iB]
def et.fL(ab':Int)(iB:Bool):(et.mk ab' iB).av=.agg [sI ab',sB iB]:=rfl
def et.gT(x:et):x.av=.agg [sI x.ab',sB x.iB]:=by cases x;exact et.fL _ _
@[simp] theorem et.mw(x:et):x.av.cells=[sI x.ab',sB x.iB]:=by rw[et.gT];rfl
@[simp] theorem et.uu(x:et):fZ x.av=true:=by rw[et.gT];rfl
@[simp] theorem et.agg(a:Int)(b:Bool):AV.agg [sI a,sB b]=et.av (et.mk a b):=by rw[et.fL]<;>rfl
def eQ.av(x:eQ):AV:=.agg [sI x.ab9,sI x.base.ab9,sI x.base.aca,sI x.base.dv.ab9,sL Ty.av x.base.dv.ab_,sL Tm.av x.base.ab_,sL Ty.av x.vars,sI x.next.ab9,sI x.next.aca,sI x.next.dv.ab9,sL Ty.av x.next.dv.ab_,sL Tm.av x.next.ab_]
def eQ.fL(ab9:Int)(base:Tm)(vars:List Ty)(next:Tm):(eQ.mk ab9 base vars next).av=.agg [sI ab9,sI base.ab9,sI base.aca,sI base.dv.ab9,sL Ty.av base.dv.ab_,sL Tm.av base.ab_,sL Ty.av vars,sI next.ab9,sI next.aca,sI next.dv.ab9,sL Ty.av next.dv.ab_,sL Tm.av next.ab_]:=rfl
def eQ.gT(x:eQ):x.av=.agg [sI x.ab9,sI x.base.ab9,sI x.base.aca,sI x.base.dv.ab9,sL Ty.av x.base.dv.ab_,sL Tm.av x.base.ab_,sL Ty.av x.vars,sI x.next.ab9,sI x.next.aca,sI x.next.dv.ab9,sL Ty.av x.next.dv.ab_,sL Tm.av x.next.ab_]:=by cases x;exact eQ.fL _ _ _ _
@[simp] theorem eQ.mw(x:eQ):x.av.cells=[sI x.ab9,sI x.base.ab9,sI x.base.aca,sI x.base.dv.ab9,sL Ty.av x.base.dv.ab_,sL Tm.av x.base.ab_,sL Ty.av x.vars,sI x.next.ab9,sI x.next.aca,sI x.next.dv.ab9,sL Ty.av x.next.dv.ab_,sL Tm.av x.next.ab_]:=by rw[eQ.gT];rfl
@[simp] theorem eQ.uu(x:eQ):fZ x.av=true:=by rw[eQ.gT];rfl
def fB.av(x:fB):AV:=.agg [sI x.ej,sI x.fj,sI x.ab_,sB x.aca,sB x.pN]
def fB.fL(ej fj ab_:Int)(aca pN:Bool):(fB.mk ej fj ab_ aca pN).av=.agg [sI ej,sI fj,sI ab_,sB aca,sB pN]:=rfl
def fB.gT(x:fB):x.av=.agg [sI x.ej,sI x.fj,sI x.ab_,sB x.aca,sB x.pN]:=by cases x;exact fB.fL _ _ _ _ _
@[simp] theorem fB.mw(x:fB):x.av.cells=[sI x.ej,sI x.fj,sI x.ab_,sB x.aca,sB x.pN]:=by rw[fB.gT];rfl
@[simp] theorem fB.uu(x:fB):fZ x.av=true:=by rw[fB.gT];rfl
@[simp] theorem fB.qO(x:fB):x.av.norm=x.av:=by rw[fB.gT];rfl
@[simp] theorem fB.agg(a b c:Int)(c3 d:Bool):AV.agg [sI a,sI b,sI c,sB c3,sB d]=fB.av (fB.mk a b c c3 d):=by rw[fB.fL]<;>rfl
def fM.av(x:fM):AV:=.agg [sB x.aca,sB x.typed,sI x.ej,sI x.fj,sI x.ab_,sI x.sK,sI x.vars,sI x.acf]
def fM.fL(aca typed:Bool)(ej fj ab_ sK vars acf:Int):(fM.mk aca typed ej fj ab_ sK vars acf).av=.agg [sB aca,sB typed,sI ej,sI fj,sI ab_,sI sK,sI vars,sI acf]:=rfl
def fM.gT(x:fM):x.av=.agg [sB x.aca,sB x.typed,sI x.ej,sI x.fj,sI x.ab_,sI x.sK,sI x.vars,sI x.acf]:=by cases x;exact fM.fL _ _ _ _ _ _ _ _
@[simp] theorem fM.mw(x:fM):x.av.cells=[sB x.aca,sB x.typed,sI x.ej,sI x.fj,sI x.ab_,sI x.sK,sI x.vars,sI x.acf]:=by rw[fM.gT];rfl
@[simp] theorem fM.uu(x:fM):fZ x.av=true:=by rw[fM.gT];rfl
@[simp] theorem fM.qO(x:fM):x.av.norm=x.av:=by rw[fM.gT];rfl
@[simp] theorem fM.agg(a b:Bool)(c c3 d c5 e f:Int):AV.agg [sB a,sB b,sI c,sI c3,sI d,sI c5,sI e,sI f]=fM.av (fM.mk a b c c3 d c5 e f):=by rw[fM.fL]<;>rfl
def HC.cells(k:Nat):HC->List AV
 |.gh x=>[m0 k x.term,sI x.steps]|.eS x=>[sI x.ab9,sI x.aca,sI x.pN.ab9,sL Ty.av x.pN.ab_,AV.slice .iP (List.map (m0 k) x.ab_),sI x.size,sI x.free,sB x.normal]
@[simp] theorem HC.Nd(k:Nat)(x:fV):HC.cells k (.gh x)=[m0 k x.term,sI x.steps]:=rfl
@[simp] theorem HC.O5(k:Nat)(x:eR):HC.cells k (.eS x)=[sI x.ab9,sI x.aca,sI x.pN.ab9,sL Ty.av x.pN.ab_,AV.slice .iP (List.map (m0 k) x.ab_),sI x.size,sI x.free,sB x.normal]:=rfl
abbrev iJ(k:Nat)(l:List HC):eD:=wz HC.cells k l
end Go.hI
namespace Go.Proofs.YtobcafblgapgfaaGreatDoor
open Go Go.m7 Go.hI Tryz
@[simp] theorem RG:gy prog 3=some (false,1):=by kernel_rfl
@[simp] theorem Vb:lA prog 3=some [.sc (.int .i64 0)]:=by kernel_rfl
@[simp] theorem uJ:prog.underlying 3=some (.int .i64):=by kernel_rfl
@[simp] theorem abW:gy prog 4=some (false,1)/\lA prog 4=some [.sc (.bool false)]/\gy prog 22=some (false,1)/\gy prog 23=some (false,1)/\gy prog 24=some (false,1)/\gy prog 26=some (true,2)/\rk prog 26=some [.slice .full [],.slice .full []]/\lA prog 26=some [.slice .full [],.slice .full []]/\fE prog 26 0=some (0,24)/\hQ prog 26 0=some (0,1):=by and_intros<;>kernel_rfl
@[simp] theorem Qx:qG prog 22=some (3,1):=by kernel_rfl
@[simp] theorem YK:prog.underlying 22=some (.slice 3):=by kernel_rfl
@[simp] theorem DA:qG prog 23=some (46,5):=by kernel_rfl
@[simp] theorem Zj:prog.underlying 23=some (.slice 46):=by kernel_rfl
@[simp] theorem Fo:qG prog 24=some (28,2):=by kernel_rfl
@[simp] theorem Y4:prog.underlying 24=some (.slice 28):=by kernel_rfl
@[simp] theorem X7:fE prog 26 1=some (1,23)/\hQ prog 26 1=some (1,1)/\rk prog 28=some [.sc (.int .i64 0),.slice .full []]/\lA prog 28=some [.sc (.int .i64 0),.slice .full []]/\fE prog 28 0=some (0,3)/\hQ prog 28 0=some (0,1)/\fE prog 28 1=some (1,24)/\hQ prog 28 1=some (1,1)/\gy prog 29=some (false,1)/\gy prog 30=some (false,1):=by and_intros<;>kernel_rfl
@[simp] theorem Vn:gy prog 28=some (true,2):=by kernel_rfl
@[simp] theorem Ty.X5(x:Ty):sy prog 28 x.av=true:=by rw[Ty.gT,u7,Vn];rfl
@[simp] theorem Ct:qG prog 29=some (64,5):=by kernel_rfl
@[simp] theorem ZG:qG prog 30=some (32,7):=by kernel_rfl
@[simp] theorem Y1:gy prog 32=some (true,7):=by kernel_rfl
@[simp] theorem aaT:rk prog 32=some [.sc (.int .i64 0),.sc (.int .i64 0),.sc (.int .i64 0),.slice .full [],.slice .full [],.slice .full [],.slice .full []]/\lA prog 32=some [.sc (.int .i64 0),.sc (.int .i64 0),.sc (.int .i64 0),.slice .full [],.slice .full [],.slice .full [],.slice .full []]/\fE prog 32 0=some (0,3)/\hQ prog 32 0=some (0,1)/\fE prog 32 1=some (1,3)/\hQ prog 32 1=some (1,1)/\fE prog 32 2=some (2,28)/\hQ prog 32 2=some (2,2)/\fE prog 32 3=some (4,29)/\hQ prog 32 3=some (4,1):=by and_intros<;>kernel_rfl
@[simp] theorem Yh:fE prog 32 4=some (5,23)/\fE prog 32 5=some (6,30)/\gy prog 43=some (false,1)/\lA prog 43=some [.sc (.int .i64 0)]/\rk prog 46=some [.sc (.int .i64 0),.sc (.int .i64 0),.slice .full [],.slice .full [],.slice .full []]/\lA prog 46=some [.sc (.int .i64 0),.sc (.int .i64 0),.slice .full [],.slice .full [],.slice .full []]/\fE prog 46 0=some (0,3)/\hQ prog 46 0=some (0,1)/\fE prog 46 1=some (1,28)/\hQ prog 46 1=some (1,2):=by and_intros<;>kernel_rfl
@[simp] theorem Pf.YA(x:Pf):sy prog 32 x.av=true:=by rw[Pf.gT,u7,Y1];rfl
@[simp] theorem Vm:gy prog 46=some (true,5):=by kernel_rfl
@[simp] theorem Yk:fE prog 46 2=some (3,29)/\hQ prog 46 2=some (3,1)/\fE prog 46 3=some (4,23)/\hQ prog 46 3=some (4,1)/\gy prog 48=some (true,6)/\rk prog 48=some [.sc (.int .i64 0),.sc (.int .i64 0),.slice .full [],.slice .full [],.slice .full [],.slice .full []]/\lA prog 48=some [.sc (.int .i64 0),.sc (.int .i64 0),.slice .full [],.slice .full [],.slice .full [],.slice .full []]/\fE prog 48 0=some (0,46)/\hQ prog 48 0=some (0,5)/\fE prog 48 1=some (5,22):=by and_intros<;>kernel_rfl
@[simp] theorem Fm.Yv(x:Fm):sy prog 46 x.av=true:=by rw[Fm.gT,u7,Vm];rfl
@[simp] theorem Yz:hQ prog 48 1=some (5,1)/\rk prog 64=some [.sc (.int .i64 0),.sc (.int .i64 0),.sc (.int .i64 0),.slice .full [],.slice .full []]/\fE prog 64 0=some (0,3)/\hQ prog 64 0=some (0,1)/\fE prog 64 1=some (1,3)/\hQ prog 64 1=some (1,1)/\fE prog 64 2=some (2,28)/\hQ prog 64 2=some (2,2)/\fE prog 64 3=some (4,29)/\hQ prog 64 3=some (4,1):=by and_intros<;>kernel_rfl
@[simp] theorem U8:gy prog 64=some (true,5):=by kernel_rfl
@[simp] theorem Xw:lA prog 64=some [.sc (.int .i64 0),.sc (.int .i64 0),.sc (.int .i64 0),.slice .full [],.slice .full []]:=by kernel_rfl
@[simp] theorem Tm.X3(x:Tm):sy prog 64 x.av=true:=by rw[Tm.gT,u7,U8];rfl
@[simp] theorem aaP:rk prog 99=some [.slice .full [],.sc (.int .i64 0)]/\fE prog 99 0=some (0,22)/\hQ prog 99 0=some (0,1)/\fE prog 99 1=some (1,3)/\gy prog 113=some (false,1)/\rk prog 116=some [.slice .full [],.sc (.map none)]/\fE prog 116 0=some (0,23)/\hQ prog 116 0=some (0,1)/\fE prog 116 1=some (1,113)/\hQ prog 116 1=some (1,1):=by and_intros<;>kernel_rfl
@[simp] theorem abt:gy prog 118=some (false,1)/\lA prog 118=some [.sc (.int .u32 0)]/\gy prog 120=some (true,6)/\rk prog 120=some [.sc (.int .i64 0),.sc (.int .i64 0),.slice .full [],.slice .full [],.slice .full [],.sc (.int .u32 0)]/\lA prog 120=some [.sc (.int .i64 0),.sc (.int .i64 0),.slice .full [],.slice .full [],.slice .full [],.sc (.int .u32 0)]/\fE prog 120 0=some (0,46)/\hQ prog 120 0=some (0,5)/\fE prog 120 1=some (5,118)/\hQ prog 120 1=some (5,1)/\gy prog 124=some (true,2):=by and_intros<;>kernel_rfl
@[simp] theorem W3:fE prog 124 0=some (0,3)/\fE prog 124 1=some (1,3)/\gy prog 126=some (false,1)/\gy prog 127=some (false,1)/\gy prog 129=some (true,4)/\rk prog 129=some [.sc (.int .i64 0),.sc (.int .i64 0),.slice .full [],.slice .full []]/\lA prog 129=some [.sc (.int .i64 0),.sc (.int .i64 0),.slice .full [],.slice .full []]/\fE prog 129 0=some (0,124)/\fE prog 129 1=some (2,126)/\hQ prog 129 1=some (2,1):=by and_intros<;>kernel_rfl
@[simp] theorem SK:qG prog 126=some (191,3):=by kernel_rfl
@[simp] theorem V_:prog.underlying 126=some (.slice 191):=by kernel_rfl
@[simp] theorem Zq:qG prog 127=some (221,6):=by kernel_rfl
@[simp] theorem VT:prog.underlying 127=some (.slice 221):=by kernel_rfl
@[simp] theorem Wx:fE prog 129 2=some (3,127)/\gy prog 134=some (true,3)/\rk prog 134=some [.slice .full [],.slice .full [],.slice .full []]/\lA prog 134=some [.slice .full [],.slice .full [],.slice .full []]/\fE prog 134 0=some (0,23)/\hQ prog 134 0=some (0,1)/\fE prog 134 1=some (1,24)/\hQ prog 134 1=some (1,1)/\fE prog 134 2=some (2,23)/\hQ prog 134 2=some (2,1):=by and_intros<;>kernel_rfl
@[simp] theorem Ot:prog.underlying 148=some (.map 3 4):=by kernel_rfl
@[simp] theorem abu:gy prog 175=some (false,1)/\lA prog 175=some [.sc .nilFunc]/\rk prog 191=some [.sc (.int .i64 0),.slice .full [],.sc (.int .i64 0)]/\lA prog 191=some [.sc (.int .i64 0),.slice .full [],.sc (.int .i64 0)]/\fE prog 191 0=some (0,28)/\hQ prog 191 0=some (0,2)/\fE prog 191 1=some (2,3)/\hQ prog 191 1=some (2,1)/\rk prog 199=some [.sc (.int .i64 0),.sc (.bool false)]/\fE prog 199 0=some (0,3):=by and_intros<;>kernel_rfl
@[simp] theorem zi:gy prog 191=some (true,3):=by kernel_rfl
@[simp] theorem ed.WQ(x:ed):sy prog 191 x.av=true:=by rw[ed.gT,u7,zi];rfl
@[simp] theorem WC:fE prog 199 1=some (1,4)/\gy prog 214=some (true,12)/\rk prog 214=some [.sc (.int .i64 0),.sc (.int .i64 0),.sc (.int .i64 0),.sc (.int .i64 0),.slice .full [],.slice .full [],.slice .full [],.sc (.int .i64 0),.sc (.int .i64 0),.sc (.int .i64 0),.slice .full [],.slice .full []]/\lA prog 214=some [.sc (.int .i64 0),.sc (.int .i64 0),.sc (.int .i64 0),.sc (.int .i64 0),.slice .full [],.slice .full [],.slice .full [],.sc (.int .i64 0),.sc (.int .i64 0),.sc (.int .i64 0),.slice .full [],.slice .full []]/\fE prog 214 0=some (0,3)/\hQ prog 214 0=some (0,1)/\fE prog 214 1=some (1,64)/\hQ prog 214 1=some (1,5)/\fE prog 214 2=some (6,24)/\hQ prog 214 2=some (6,1):=by and_intros<;>kernel_rfl
@[simp] theorem W5:fE prog 214 3=some (7,64)/\hQ prog 214 3=some (7,5)/\rk prog 221=some [.sc (.int .i64 0),.sc (.int .i64 0),.slice .full [],.slice .full [],.slice .full [],.sc (.int .i64 0)]/\lA prog 221=some [.sc (.int .i64 0),.sc (.int .i64 0),.slice .full [],.slice .full [],.slice .full [],.sc (.int .i64 0)]/\fE prog 221 0=some (0,46)/\hQ prog 221 0=some (0,5)/\fE prog 221 1=some (5,3)/\hQ prog 221 1=some (5,1)/\gy prog 225=some (true,5)/\rk prog 225=some [.sc (.int .i64 0),.sc (.int .i64 0),.sc (.int .i64 0),.sc (.bool false),.sc (.bool false)]:=by and_intros<;>kernel_rfl
@[simp] theorem Rj:gy prog 221=some (true,6):=by kernel_rfl
@[simp] theorem eu.WL(x:eu):sy prog 221 x.av=true:=by rw[eu.gT,u7,Rj];rfl
@[simp] theorem aaw:lA prog 225=some [.sc (.int .i64 0),.sc (.int .i64 0),.sc (.int .i64 0),.sc (.bool false),.sc (.bool false)]/\fE prog 225 0=some (0,3)/\hQ prog 225 0=some (0,1)/\fE prog 225 1=some (1,3)/\hQ prog 225 1=some (1,1)/\fE prog 225 2=some (2,3)/\hQ prog 225 2=some (2,1)/\fE prog 225 3=some (3,4)/\hQ prog 225 3=some (3,1)/\fE prog 225 4=some (4,4):=by and_intros<;>kernel_rfl
@[simp] theorem WT:hQ prog 225 4=some (4,1)/\rk prog 238=some [.sc (.bool false),.sc (.bool false),.sc (.int .i64 0),.sc (.int .i64 0),.sc (.int .i64 0),.sc (.int .i64 0),.sc (.int .i64 0),.sc (.int .i64 0)]/\lA prog 238=some [.sc (.bool false),.sc (.bool false),.sc (.int .i64 0),.sc (.int .i64 0),.sc (.int .i64 0),.sc (.int .i64 0),.sc (.int .i64 0),.sc (.int .i64 0)]/\fE prog 238 0=some (0,4)/\fE prog 238 1=some (1,4)/\fE prog 238 2=some (2,3)/\fE prog 238 3=some (3,3)/\fE prog 238 4=some (4,3)/\gy prog 244=some (true,9)/\lA prog 244=some [.sc (.int .i64 0),.slice .full [],.sc (.int .i64 0),.sc (.int .i64 0),.slice .full [],.sc (.int .i64 0),.sc (.int .i64 0),.slice .full [],.sc (.int .i64 0)]:=by and_intros<;>kernel_rfl
@[simp] theorem RI:gy prog 238=some (true,8):=by kernel_rfl
@[simp] theorem fM.WJ(x:fM):sy prog 238 x.av=true:=by rw[fM.gT,u7,RI];rfl
@[simp] theorem DB:prog.underlying 244=some (.array 3 191):=by kernel_rfl
@[simp] theorem Y_(b g o:Nat):gN prog 244 (.eC b g o) (.sc (.int .i64 0))=some (.eC b g (o+0)):=by kernel_rfl
@[simp] theorem Z2(b g o:Nat):gN prog 244 (.eC b g o) (.sc (.int .i64 1))=some (.eC b g (o+3)):=by kernel_rfl
@[simp] theorem ZT(b g o:Nat):gN prog 244 (.eC b g o) (.sc (.int .i64 2))=some (.eC b g (o+6)):=by kernel_rfl
@[simp] theorem aaO:gy prog 247=some (false,1)/\gy prog 262=some (false,1)/\lA prog 262=some [.sc .nilFunc]/\rk prog 269=some [.sc (.pointer none),.sc (.int .i64 0)]/\fE prog 269 0=some (0,266)/\hQ prog 269 0=some (0,1)/\fE prog 269 1=some (1,3)/\gy prog 277=some (false,1)/\rk prog 283=some [.sc (.int .i64 0),.sc (.int .i64 0),.sc (.int .i64 0),.slice .full [],.slice .full [],.sc (.int .i64 0),.sc (.int .i64 0),.sc (.bool false)]/\fE prog 283 0=some (0,3):=by and_intros<;>kernel_rfl
@[simp] theorem WX:prog.underlying 258=some (.array 21 238):=by kernel_rfl
@[simp] theorem W_:gy prog 266=some (false,1):=by kernel_rfl
@[simp] theorem TC:lA prog 266=some [.sc (.pointer none)]:=by kernel_rfl
@[simp] theorem Te:prog.underlying 266=some (.pointer 283):=by kernel_rfl
@[simp] theorem abD(k:Nat)(x:Option Nat):oJ prog .eql 266 (m0 k x) (.sc (.pointer none))=some (.sc (.bool x.isNone)):=Sl Te
@[simp] theorem aa6(k:Nat)(x:Option Nat):oJ prog .neq 266 (m0 k x) (.sc (.pointer none))=some (.sc (.bool x.isSome)):=SX Te
@[simp] theorem Pu:qG prog 277=some (266,1):=by kernel_rfl
@[simp] theorem XP:hQ prog 283 0=some (0,1)/\fE prog 283 1=some (1,3)/\hQ prog 283 1=some (1,1)/\fE prog 283 2=some (2,28)/\hQ prog 283 2=some (2,2)/\fE prog 283 3=some (4,277)/\hQ prog 283 3=some (4,1)/\fE prog 283 4=some (5,3)/\hQ prog 283 4=some (5,1)/\fE prog 283 5=some (6,3):=by and_intros<;>kernel_rfl
@[simp] theorem WB:fE prog 283 6=some (7,4):=by kernel_rfl
@[simp] theorem abp:gy prog 284=some (false,1):=by kernel_rfl
@[simp] theorem WV:prog.underlying 287=some (.array 14 3):=by kernel_rfl
@[simp] theorem aba(tag:Tag)(l:List Int)(a:Int):qj prog 22 (.slice tag (List.map sI l)) (some (.sc (.int .i64 a))) none none=(Bm l a (eM l)).map λr=>.slice .iP (List.map sI r):=Mw _ l YK RG (λx=>by simp)
@[simp] theorem aaE(tag:Tag)(l:List Fm):qj prog 23 (.slice tag (List.map Fm.av l)) none (some (.sc (.int .i64 (eM l)))) (some (.sc (.int .i64 (eM l))))=some (.slice .full (List.map Fm.av l)):=yE _ l Zj Vm (λx=>by simp)
@[simp] theorem aaz(tag:Tag)(l:List Ty):qj prog 24 (.slice tag (List.map Ty.av l)) none (some (.sc (.int .i64 (eM l)))) (some (.sc (.int .i64 (eM l))))=some (.slice .full (List.map Ty.av l)):=yE _ l Y4 Vn (λx=>by simp)
@[simp] theorem YM(tag:Tag)(l:List ed):qj prog 126 (.slice tag (List.map ed.av l)) none (some (.sc (.int .i64 (eM l)))) (some (.sc (.int .i64 (eM l))))=some (.slice .full (List.map ed.av l)):=yE _ l V_ zi (λx=>by simp)
@[simp] theorem Y9(tag:Tag)(l:List eu):qj prog 127 (.slice tag (List.map eu.av l)) none (some (.sc (.int .i64 (eM l)))) (some (.sc (.int .i64 (eM l))))=some (.slice .full (List.map eu.av l)):=yE _ l VT Rj (λx=>by simp)
def fM.cs(x:fM):List AV:=x.av.cells
@[simp] theorem abY(a:Int):gN prog 258 (.np (.agg (List.flatMap (λx=>fM.cs x) o6))) (.sc (.int .i64 a))=(eJ o6 a).map λx=>.np x.av:=Fb WX RI (λx=>rfl) (λx=>⟨_,fM.gT x⟩) (λx=>by simp) rfl
@[simp] theorem abK(a:Int):gN prog 287 (.np (.agg (List.map (λn=>AV.sc (Value.int .i64 n)) qE))) (.sc (.int .i64 a))=(eJ qE a).map λx=>.np (.sc (.int .i64 x)):=GL WV RG rfl
@[simp] theorem lE:prog.underlying 113=some (.map 3 172):=by kernel_rfl
def SA:Ll prog 172=some (.sc .nilFunc):=by kernel_rfl
def Ni:List Value:=[.int .i64 1,.int .i64 2,.int .i64 3,.int .i64 4,.int .i64 5,.int .i64 6,.int .i64 7,.int .i64 8,.int .i64 12,.int .i64 9,.int .i64 13,.int .i64 10,.int .i64 14,.int .i64 11,.int .i64 15,.int .i64 16,.int .i64 17,.int .i64 18,.int .i64 19,.int .i64 20]
def N2:List AV:=[.func (.func 139) [] [],.func (.func 140) [] [],.func (.func 141) [] [],.func (.func 142) [] [],.func (.func 142) [] [],.func (.func 143) [] [],.func (.func 144) [] [],.func (.func 145) [] [],.func (.func 145) [] [],.func (.func 146) [] [],.func (.func 146) [] [],.func (.func 147) [] [],.func (.func 147) [] [],.func (.func 148) [] [],.func (.func 148) [] [],.func (.func 149) [] [],.func (.func 149) [] [],.func (.func 150) [] [],.func (.func 151) [] [],.func (.func 152) [] []]
def Li:AV:=.tZ Ni N2
def KO(k:Int):AV:=match mapIdx Ni (.int .i64 k)with|some j=>N2.getD j .undef|none=>.sc .nilFunc
abbrev KC(H:eD)(o:Nat)(l:List Fm):Prop:=H[o]?=some [sL Fm.av l,AV.mh (o-1)]/\H[o-1]?=some [Li]
def NU{H:eD}{o:Nat}{k:Int}(h:H[o]?=some [Li]):uP prog H 113 (AV.mh o) (sI k) false=some (KO k):=Qn lE uJ SA h (by decide+kernel) (by decide+kernel)
def jB{k key:Int}{x:AV}(h:eH k key=true)(a:KO key=x):KO k=x:=by rw[Tq h];exact a
def oA{T:fa}{g:Nat}{xs:List AV}{H H':eD}{r:AV}(h:eZ prog T g xs H r H'):qv prog T (.func (.func g) [] []) xs H r H':=by
 unfold qv rA;simp only[o_,AH];exact h
abbrev qq(T:fa):Prop:=T 2=some (AV.agg (List.map (λn=>AV.sc (Value.int .i64 n)) qE))/\T 1=some (AV.agg (List.flatMap (λx=>fM.cs x) o6))/\T 0=some (AV.agg (List.map (λn=>AV.sc (Value.int .u8 n)) l0))
def CJ{S:Type}(T:fa)(g:Nat)(cap:List AV)(st:S->eD)(w:(S->Tm->Int->Option (Tm×S))):Prop:=
 ∀(X:eD) (s:S) (a:Tm) (b:Int) (c:Tm) (d:S),w s a b=some (c,d)->eZ prog T g ([Tm.av a,sI b]++cap) (st s++X) (Tm.av c) (st d++X)
def CJ.XR{S:Type}{T:fa}{g:Nat}{cap:List AV}{st:S->eD}{w:(S->Tm->Int->Option (Tm×S))}(h:CJ T g cap st w){s:S}{a:Tm}{b:Int}{c:Tm}{d:S}(hw:w s a b=some (c,d)):eZ prog T g ([Tm.av a,sI b]++cap) (st s) (Tm.av c) (st d):=by
 have:=h [] s a b c d hw
 rwa [AH,AH] at this
def tw{S:Type}(T:fa)(g:Nat)(cap:List AV)(st:S->eD)(w:(S->Int->Int->Option (S))):Prop:=
 ∀(X:eD) (s:S) (a:Int) (b:Int) (c:S),w s a b=some c->eZ prog T g ([sI a,sI b]++cap) (st s++X) (AV.tuple []) (st c++X)
def tw.ext{S:Type}{T:fa}{g:Nat}{cap:List AV}{st:S->eD}{w:(S->Int->Int->Option (S))}(h:tw T g cap st w){Y:eD}:tw T g cap (λs=>st s++Y) w:=λX s a b c hw=>by
 have:=h (Y++X) s a b c hw
 rwa [<-uN,<-uN] at this
def tw.XR{S:Type}{T:fa}{g:Nat}{cap:List AV}{st:S->eD}{w:(S->Int->Int->Option (S))}(h:tw T g cap st w){s:S}{a b:Int}{c:S}(hw:w s a b=some c):eZ prog T g ([sI a,sI b]++cap) (st s) (AV.tuple []) (st c):=by
 have:=h [] s a b c hw
 rwa [AH,AH] at this
def B2{S:Type}(T:fa)(g:Nat)(cap:List AV)(st:S->eD)(w:(S->Tm->Int->Option (S))):Prop:=
 ∀(X:eD) (s:S) (a:Tm) (b:Int) (c:S),w s a b=some c->eZ prog T g ([Tm.av a,sI b]++cap) (st s++X) (AV.tuple []) (st c++X)
def B2.XR{S:Type}{T:fa}{g:Nat}{cap:List AV}{st:S->eD}{w:(S->Tm->Int->Option (S))}(h:B2 T g cap st w){s:S}{a:Tm}{b:Int}{c:S}(hw:w s a b=some c):eZ prog T g ([Tm.av a,sI b]++cap) (st s) (AV.tuple []) (st c):=by
 have:=h [] s a b c hw
 rwa [AH,AH] at this
def tz{S:Type}(T:fa)(g:Nat)(cap:List AV)(st:S->eD)(w:(S->Int->Int->Option (Tm×S))):Prop:=
 ∀(X:eD) (s:S) (a:Int) (b:Int) (c:Tm) (d:S),w s a b=some (c,d)->eZ prog T g ([sI a,sI b]++cap) (st s++X) (Tm.av c) (st d++X)
def tz.ext{S:Type}{T:fa}{g:Nat}{cap:List AV}{st:S->eD}{w:(S->Int->Int->Option (Tm×S))}(h:tz T g cap st w){Y:eD}:tz T g cap (λs=>st s++Y) w:=λX s a b c d hw=>by
 have:=h (Y++X) s a b c d hw
 rwa [<-uN,<-uN] at this
def tz.XR{S:Type}{T:fa}{g:Nat}{cap:List AV}{st:S->eD}{w:(S->Int->Int->Option (Tm×S))}(h:tz T g cap st w){s:S}{a b:Int}{c:Tm}{d:S}(hw:w s a b=some (c,d)):eZ prog T g ([sI a,sI b]++cap) (st s) (Tm.av c) (st d):=by
 have:=h [] s a b c d hw
 rwa [AH,AH] at this
end Go.Proofs.YtobcafblgapgfaaGreatDoor
set_option maxRecDepth 20000
set_option maxHeartbeats 4000000
namespace Go.Proofs.YtobcafblgapgfaaGreatDoor
open Go Go.m7 Go.hI Tryz
def hX:C0 prog 48 iG Ty.av:=by
 intro T H r hm;rw[iG] at hm;have e:=trivial;refine wi acd func48 [] [] 999 ?_;cases hm;simp[e]
def gu:C1 prog 52 fY Tm.av sI:=by
 intro T H a0 r hm;rw[fY] at hm;have e:=trivial;refine wi acd func52 [] [] 999 ?_;cases hm;simp[e]
def I8:∀(n:Nat),C1 prog 98 (iO n) Ty.av Ty.av:=by
  intro n
  induction n with
  |zero=>
   skip
   all_goals(intro _ _;intros;rename_i hm;cases hm)
  |succ n l=>
 intro T H a0 r hm;rw[iO] at hm;have e:=trivial;refine wi acd func98 [] [] 999 ?_;simp[e];refine Wr e hm 999 (λk s2 f h=>∃(a:Tag) (b:Nat) (c:Nat),(h=H/\f.1 1=AV.eC 1 b 0/\f.1 2=AV.eC 2 c 0/\f.1 3=sT a Ty.av s2/\f.1 7=sL Ty.av a0.ab_/\f.1 8=sI (eM a0.ab_)/\f.1 9=sI k/\f.gen 1=b/\f.box 1=some [sI a0.ab9,sL Ty.av a0.ab_]/\f.gen 2=c/\f.box 2=some [sI 0,AV.slice .full []])/\Ow f [17] a s2) (by exact⟨.full,1,1,by simp[e],iX.full⟩) (λs2 g o p E m=>?_) (λk s s2 g o p n6 t E e m q i=>?_)
 ·have⟨a,b,c,E,d⟩:=E;have e:=Aj e E;dsimp only[ei]at m;cases m;simp[e]
 have⟨a,b,c,E,d⟩:=E;have e:=Aj e E;have⟨j,e,m⟩:=ep e m;simp[e];refine Cf (l e.2) ?_;have⟨e,m⟩:=Ck e m;simp[e];refine Ao (f:=Ty.av) s2 [j] d Fo e.2 ?_;simp[e];cases m;exact i _ _ _ ⟨(.loc 17 (g.fN 17+1)),b,c,by simp[e],(On 17)⟩ q
def jO{n:Nat}:C1 prog 98 (iO n) Ty.av Ty.av:=(I8 n)
def HM:∀(n:Nat),C1 prog 104 (jD n) Tm.av Tm.av:=by
  intro n
  induction n with
  |zero=>
   skip
   all_goals(intro _ _;intros;rename_i hm;cases hm)
  |succ n l=>
 intro T H a0 r hm;rw[jD] at hm;have e:=trivial;refine wi acd func104 [] [] 999 ?_;simp[e];refine Wr e hm 999 (λk s2 f h=>∃(a:Tag) (b:Nat) (c:Nat),(h=H/\f.1 1=AV.eC 1 b 0/\f.1 2=AV.eC 2 c 0/\f.1 3=sT a Tm.av s2/\f.1 7=sL Tm.av a0.ab_/\f.1 8=sI (eM a0.ab_)/\f.1 9=sI k/\f.gen 1=b/\f.box 1=some [sI a0.ab9,sI a0.aca,sI a0.dv.ab9,sL Ty.av a0.dv.ab_,sL Tm.av a0.ab_]/\f.gen 2=c/\f.box 2=some [sI 0,sI 0,sI 0,AV.slice .full [],AV.slice .full []])/\Ow f [17] a s2) (by exact⟨.full,1,1,by simp[e],iX.full⟩) (λs2 g o p E m=>?_) (λk t s2 g o p n6 u E e m q i=>?_)
 ·have⟨a,b,c,E,d⟩:=E;have e:=Aj e E;dsimp only[ei]at m;have⟨s,e,m⟩:=ep e m;simp[e];refine Cs (jO e.2) ?_;cases m;simp[e]
 have⟨a,b,c,E,d⟩:=E;have e:=Aj e E;have⟨j,e,m⟩:=ep e m;simp[e];refine Cf (l e.2) ?_;have⟨e,m⟩:=Ck e m;simp[e];refine Ao (f:=Tm.av) s2 [j] d Ct e.2 ?_;simp[e];cases m;exact i _ _ _ ⟨(.loc 17 (g.fN 17+1)),b,c,by simp[e],(On 17)⟩ q
def my{n:Nat}:C1 prog 104 (jD n) Tm.av Tm.av:=(HM n)
def mD:C1 prog 53 ll Pf.av Tm.av:=by
 intro T H a0 r hm;rw[ll] at hm;have e:=trivial;refine wi acd func53 [] [] 999 ?_;have⟨a,e,m⟩:=ep e hm;simp[e];refine Cf (my e.2) ?_;have e:=Aj e (show AV.agg [sI 18,sI 0,sI 0,AV.slice .iP [],AV.slice .iP [Tm.av a],AV.slice .iP [],AV.slice .iP []]=Pf.av (Pf.mk 18 0 (Ty.mk 0 []) [a] [] []) by rw[Pf.fL];rfl);have e:=Aj e (show AV.agg [sI 18,sI 0,sI 0,AV.slice .iP [],AV.slice .iP [Tm.av a],AV.slice .iP [],AV.slice .iP []]=Pf.av (Pf.mk 18 0 (Ty.mk 0 []) [a] [] []) by rw[Pf.fL];rfl);cases m;simp[e]
def H5:∀(n:Nat),C1 prog 87 (jm n) Fm.av Fm.av:=by
  intro n
  induction n with
  |zero=>
   skip
   all_goals(intro _ _;intros;rename_i hm;cases hm)
  |succ n G=>
 intro T H a0 r hm;rw[jm] at hm;have e:=trivial;refine wi acd func87 [] [] 999 ?_;have⟨y,e,m⟩:=ep e hm;simp[e];refine Cs (jO e.2) ?_;simp[e];refine Wr e m 999 (λF t f h=>∃(c:Tag) (k:Nat) (i:Nat) (j:Nat),(h=H/\f.1 1=AV.eC 1 k 0/\f.1 2=AV.eC 2 i 0/\f.1 3=AV.eC 3 j 0/\f.1 15=sL Tm.av a0.ej/\f.1 16=sI (eM a0.ej)/\f.1 17=sI F/\f.gen 1=k/\f.box 1=some [sI a0.ab9,sI a0.dv.ab9,sL Ty.av a0.dv.ab_,sL Tm.av a0.ej,sL Fm.av a0.ab_]/\f.gen 2=i/\f.box 2=some [sI 0,sI 0,AV.slice .full [],AV.slice .full [],AV.slice .full []]/\f.gen 3=j/\f.box 3=some [sI a0.ab9,sI y.ab9,sL Ty.av y.ab_,sT c Tm.av t,AV.slice .full []])/\Ow f [26] c t) (by exact⟨.full,1,1,1,by simp[e],iX.full⟩) (λt u I J E m=>?_) (λF N t u I J O P E e m z9 v=>?_);rotate_left
 ·have⟨c,k,i,j,E,o⟩:=E;have e:=Aj e E;have⟨z,e,m⟩:=ep e m;simp[e];refine Cs (my e.2) ?_;have⟨e,m⟩:=Ck e m;simp[e];refine Ad (f:=Tm.av) t [z] o Ct e.2 ?_;simp[e];cases m;exact v _ _ _ ⟨(.loc 26 (u.fN 26+1)),k,i,j,by simp[e],(On 26)⟩ z9
 have⟨c,k,i,j,E,o⟩:=E;have e:=Aj e E;dsimp only[ei]at m;simp[e];refine Wr e m 999 (λw p f h=>∃(a:Tag) (b:Tag) (d:Nat) (g:Nat),(h=H/\f.1 2=AV.eC 2 d 0/\f.1 3=AV.eC 3 g 0/\f.1 30=sL Fm.av a0.ab_/\f.1 31=sI (eM a0.ab_)/\f.1 32=sI w/\f.gen 2=d/\f.box 2=some [sI 0,sI 0,AV.slice .full [],AV.slice .full [],AV.slice .full []]/\f.gen 3=g/\f.box 3=some [sI a0.ab9,sI y.ab9,sL Ty.av y.ab_,sT a Tm.av t,sT b Fm.av p])/\Ow f [26] a t/\Ow f [41] b p) (by exact⟨c,.full,i,j,by simp[e],o,iX.full⟩) (λp s A B E m=>?_) (λw K p s A B L M E e m C x=>?_)
 ·have⟨a,b,d,g,E,q,l⟩:=E;have e:=Aj e E;dsimp only[ei]at m;cases m;simp[e]
 have⟨a,b,d,g,E,q,l⟩:=E;have e:=Aj e E;have⟨D,e,m⟩:=ep e m;simp[e];refine Cs (G e.2) ?_;have⟨e,m⟩:=Ck e m;simp[e];refine Ad (f:=Fm.av) p [D] l DA e.2 ?_;simp[e];cases m;exact x _ _ _ ⟨a,(.loc 41 (s.fN 41+1)),d,g,by simp[e],(iX.other q l (by decide) (by decide)),(On 41)⟩ C
def kW{n:Nat}:C1 prog 87 (jm n) Fm.av Fm.av:=(H5 n)
def HZ:∀(n:Nat),C1 prog 75 (p9 n) Pf.av Pf.av:=by
  intro n
  induction n with
  |zero=>
   skip
   all_goals(intro _ _;intros;rename_i hm;cases hm)
  |succ n Z=>
 intro T H a0 r hm;rw[p9] at hm;have e:=trivial;refine wi acd func75 [] [] 999 ?_;have⟨G,e,m⟩:=ep e hm;simp[e];refine Cs (jO e.2) ?_;simp[e];refine Wr e m 999 (λY C f h=>∃(k:Tag) (q:Nat) (s:Nat) (t:Nat),(h=H/\f.1 1=AV.eC 1 q 0/\f.1 2=AV.eC 2 s 0/\f.1 3=AV.eC 3 t 0/\f.1 19=sL Tm.av a0.ej/\f.1 20=sI (eM a0.ej)/\f.1 21=sI Y/\f.gen 1=q/\f.box 1=some [sI a0.ab9,sI a0.aca,sI a0.dv.ab9,sL Ty.av a0.dv.ab_,sL Tm.av a0.ej,sL Fm.av a0.fj,sL Pf.av a0.ab_]/\f.gen 2=s/\f.box 2=some [sI 0,sI 0,sI 0,AV.slice .full [],AV.slice .full [],AV.slice .full [],AV.slice .full []]/\f.gen 3=t/\f.box 3=some [sI a0.ab9,sI a0.aca,sI G.ab9,sL Ty.av G.ab_,sT k Tm.av C,AV.slice .full [],AV.slice .full []])/\Ow f [30] k C) (by exact⟨.full,1,1,1,by simp[e],iX.full⟩) (λC I h4 K5 E m=>?_) (λY x6 C I h4 K5 n7 c8 E e m z9 J=>?_);rotate_left
 ·have⟨k,q,s,t,E,y⟩:=E;have e:=Aj e E;have⟨O,e,m⟩:=ep e m;simp[e];refine Cs (my e.2) ?_;have⟨e,m⟩:=Ck e m;simp[e];refine Ad (f:=Tm.av) C [O] y Ct e.2 ?_;simp[e];cases m;exact J _ _ _ ⟨(.loc 30 (I.fN 30+1)),q,s,t,by simp[e],(On 30)⟩ z9
 have⟨k,q,s,t,E,y⟩:=E;have e:=Aj e E;dsimp only[ei]at m;simp[e];refine Wr e m 999 (λK w f h=>∃(a:Tag) (b:Tag) (l:Nat) (g:Nat) (i:Nat),(h=H/\f.1 1=AV.eC 1 l 0/\f.1 2=AV.eC 2 g 0/\f.1 3=AV.eC 3 i 0/\f.1 34=sL Fm.av a0.fj/\f.1 35=sI (eM a0.fj)/\f.1 36=sI K/\f.gen 1=l/\f.box 1=some [sI a0.ab9,sI a0.aca,sI a0.dv.ab9,sL Ty.av a0.dv.ab_,sL Tm.av a0.ej,sL Fm.av a0.fj,sL Pf.av a0.ab_]/\f.gen 2=g/\f.box 2=some [sI 0,sI 0,sI 0,AV.slice .full [],AV.slice .full [],AV.slice .full [],AV.slice .full []]/\f.gen 3=i/\f.box 3=some [sI a0.ab9,sI a0.aca,sI G.ab9,sL Ty.av G.ab_,sT a Tm.av C,sT b Fm.av w,AV.slice .full []])/\Ow f [30] a C/\Ow f [45] b w) (by exact⟨k,.full,q,s,t,by simp[e],y,iX.full⟩) (λw D P Q E m=>?_) (λK aa w D P Q ab ad E e m R L=>?_);rotate_left
 ·have⟨a,b,l,g,i,E,x,u⟩:=E;have e:=Aj e E;have⟨S,e,m⟩:=ep e m;simp[e];refine Cs (kW e.2) ?_;have⟨e,m⟩:=Ck e m;simp[e];refine Ad (f:=Fm.av) w [S] u DA e.2 ?_;simp[e];cases m;exact L _ _ _ ⟨a,(.loc 45 (D.fN 45+1)),l,g,i,by simp[e],(iX.other x u (by decide) (by decide)),(On 45)⟩ R
 have⟨a,b,l,g,i,E,x,u⟩:=E;have e:=Aj e E;dsimp only[ei]at m;simp[e];refine Wr e m 999 (λM z f h=>∃(c:Tag) (d:Tag) (j:Tag) (o:Nat) (p:Nat),(h=H/\f.1 2=AV.eC 2 o 0/\f.1 3=AV.eC 3 p 0/\f.1 49=sL Pf.av a0.ab_/\f.1 50=sI (eM a0.ab_)/\f.1 51=sI M/\f.gen 2=o/\f.box 2=some [sI 0,sI 0,sI 0,AV.slice .full [],AV.slice .full [],AV.slice .full [],AV.slice .full []]/\f.gen 3=p/\f.box 3=some [sI a0.ab9,sI a0.aca,sI G.ab9,sL Ty.av G.ab_,sT c Tm.av C,sT d Fm.av w,sT j Pf.av z])/\Ow f [30] c C/\Ow f [45] d w/\Ow f [60] j z) (by exact⟨a,b,.full,g,i,by simp[e],x,u,iX.full⟩) (λz F U V E m=>?_) (λM ae z F U V af ah E e m W N=>?_)
 ·have⟨c,d,j,o,p,E,A,B,v⟩:=E;have e:=Aj e E;dsimp only[ei]at m;cases m;simp[e]
 have⟨c,d,j,o,p,E,A,B,v⟩:=E;have e:=Aj e E;have⟨X,e,m⟩:=ep e m;simp[e];refine Cs (Z e.2) ?_;have⟨e,m⟩:=Ck e m;simp[e];refine Ad (f:=Pf.av) z [X] v ZG e.2 ?_;simp[e];cases m;exact N _ _ _ ⟨c,d,(.loc 60 (F.fN 60+1)),o,p,by simp[e],(iX.other A v (by decide) (by decide)),(iX.other B v (by decide) (by decide)),(On 60)⟩ W
def B1{n:Nat}:C1 prog 75 (p9 n) Pf.av Pf.av:=(HZ n)
def ow:C2 prog 56 ng Pf.av sI (sL Pf.av):=by
 intro T H a0 a1 r hm;rw[ng] at hm;have e:=trivial;refine wi acd func56 [] [] 999 ?_;simp[e];refine Wr e hm 999 (λk s2 f h=>∃(a:Tag) (b:Nat) (c:Nat),(h=H/\f.1 4=AV.eC 4 b 0/\f.1 5=AV.eC 5 c 0/\f.1 10=sL Pf.av a1/\f.1 11=sI (eM a1)/\f.1 12=sI k/\f.gen 4=b/\f.box 4=some [sI 0,sI 0,sI 0,AV.slice .full [],AV.slice .full [],AV.slice .full [],AV.slice .full []]/\f.gen 5=c/\f.box 5=some [sI a0,sI 0,sI 0,AV.slice .full [],AV.slice .full [],AV.slice .full [],sT a Pf.av s2])/\Ow f [21] a s2) (by exact⟨.full,1,1,by simp[e],iX.full⟩) (λs2 g l n E m=>?_) (λk p s2 g l n n6 q E e m o i=>?_)
 ·have⟨a,b,c,E,d⟩:=E;have e:=Aj e E;dsimp only[ei]at m;cases m;simp[e]
 have⟨a,b,c,E,d⟩:=E;have e:=Aj e E;have⟨j,e,m⟩:=ep e m;simp[e];refine Cs (B1 e.2) ?_;have⟨e,m⟩:=Ck e m;simp[e];refine Ad (f:=Pf.av) s2 [j] d ZG e.2 ?_;simp[e];cases m;exact i _ _ _ ⟨(.loc 21 (g.fN 21+1)),b,c,by simp[e],(On 21)⟩ o
def rX:C3 prog 34 pH Pf.av sI Ty.av Pf.av:=by
 intro T H a0 a1 a2 r hm;rw[pH] at hm;have e:=trivial;refine wi acd func34 [] [] 999 ?_;have⟨a,e,m⟩:=ep e hm;simp[e];refine Cf (ow e.2) ?_;have⟨b,e,m⟩:=ep e m;simp[e];refine Cf (jO e.2) ?_;cases m;simp[e]
def CP:∀(n:Nat),C1 prog 236 (lU n) (t2 sI sB) Ty.av:=by
  intro n
  induction n with
  |zero=>
    skip
    all_goals(intro _ _;intros;rename_i hm;cases hm)
  |succ n u=>
 intro T H a0 r hm;rw[lU] at hm;have e:=trivial;refine wi acd func236 [] [] 4 ?_;simp[e];refine Wj hm 3 999 (λp f h=>∃(v2:Int) (c:Nat),(h=H/\f.1 1=AV.eC 1 c 0/\f.1 4=sI v2/\f.gen 1=c/\f.box 1=some [sI a0.ab9,sL Ty.av a0.ab_])/\p v2=some r) (λp J i m=>?_) ?_;rotate_left
 ·rintro v K ⟨v2,c,E,m⟩;have e:=Aj e E;rcases Io e m with⟨e,m⟩|⟨e,m⟩
  ·cases m;simp[e]
  simp[e];refine Wr e m 999 (λq l f h=>h=H/\f.1 5=sI l/\f.1 25=sL Ty.av a0.ab_/\f.1 26=sI (eM a0.ab_)/\f.1 27=sI q) (by simp[e]) (λl o w x E m=>?_) (λq y l o w x z A E e m j k=>?_)
  ·have e:=Aj e E;dsimp only[ei]at m;cases m;simp[e]
  have e:=Aj e E;have⟨B,C,e,m⟩:=gv e m;simp[e];refine Cf (u e.2) ?_;rcases Io e m with⟨e,m⟩|⟨e,m⟩;rotate_left
  ·cases m;cases j;simp[e]
  simp[e];cases m;exact k _ _ _ (by simp[e]) j
 simp[e];refine wj 999 0 (λf h=>∃(a:Nat),h=H/\f.1 1=AV.eC 1 a 0/\f.1 4=sI 0/\f.1 11=sI a0.ab9/\f.1 12=sB (fU (eH a0.ab9 1) true (fU (eH a0.ab9 2) true (eH a0.ab9 5)))/\f.gen 1=a/\f.box 1=some [sI a0.ab9,sL Ty.av a0.ab_]) (λD d=>?_) ?_
 ·rcases Pb (eH a0.ab9 1) e with e|e
  ·simp[e];exact d _ _ ⟨1,by simp[e]⟩
  rcases Pb (eH a0.ab9 2) e with e|e
  ·simp[e];exact d _ _ ⟨1,by simp[e]⟩
  simp[e];exact d _ _ ⟨1,by simp[e]⟩
 rintro s F ⟨a,E⟩;have e:=Aj e E;rcases Io e m with⟨e,m⟩|⟨e,m⟩
 ·apply wg 999;simp[e];exact i _ _ ⟨0,a,by simp[e],m⟩
 apply wg 1;simp[e];refine wj 999 999 (λf h=>∃(b:Nat),h=H/\f.1 1=AV.eC 1 b 0/\f.1 16=sB (fU (eH a0.ab9 3) true (eH a0.ab9 4))/\f.gen 1=b/\f.box 1=some [sI a0.ab9,sL Ty.av a0.ab_]) (λG g=>?_) ?_
 ·rcases Pb (eH a0.ab9 3) e with e|e
  ·simp[e];exact g _ _ ⟨a,by simp[e]⟩
  simp[e];exact g _ _ ⟨a,by simp[e]⟩
 rintro t I ⟨b,E⟩;have e:=Aj e E;rcases Io e m with⟨e,m⟩|⟨e,m⟩;rotate_left
 ·cases m;simp[e]
 simp[e];exact i _ _ ⟨2,b,by simp[e],m⟩
def Dp{n:Nat}:C1 prog 236 (lU n) (t2 sI sB) Ty.av:=(CP n)
def oC:C1 prog 186 jC (t2 sI sI) Ty.av:=by
 intro T H a0 r hm;rw[jC] at hm;have e:=trivial;refine wi acd func186 [] [] 999 ?_;have⟨a,b,e,m⟩:=gv e hm;simp[e];refine Cf (Dp e.2) ?_;rcases Io e m with⟨e,m⟩|⟨e,m⟩;rotate_left
 ·cases m;simp[e]
 rcases Io e m with⟨e,m⟩|⟨e,m⟩
 ·cases m;simp[e]
 cases m;simp[e]
def A6:C1 prog 136 mM sI Ty.av:=by
 intro T H a0 r hm;rw[mM] at hm;have e:=trivial;refine wi acd func136 [] [] 999 ?_;have⟨a,b,e,m⟩:=gv e hm;simp[e];refine Cf (oC e.2) ?_;cases m;simp[e]
def yM:C1 prog 77 nY sI (sL Ty.av):=by
 intro T H a0 r hm;rw[nY] at hm;have e:=trivial;refine wi acd func77 [] [] 999 ?_;rcases Io e hm with⟨e,m⟩|⟨e,m⟩
 ·cases m;simp[e]
 simp[e];refine Wr e m 999 (λc s2 f h=>h=H/\f.1 9=sL Ty.av a0/\f.1 10=sI (eM a0)/\f.1 11=sI c) (by simp[e]) (λs2 a g i E m=>?_) (λc k s2 a g i n6 l E e m d b=>?_)
 ·have e:=Aj e E;dsimp only[ei]at m;cases m;simp[e]
 have e:=Aj e E;have⟨j,e,m⟩:=ep e m;simp[e];refine Cf (A6 e.2) ?_;rcases Io e m with⟨e,m⟩|⟨e,m⟩
 ·cases m;cases d;simp[e]
 simp[e];cases m;exact b _ _ _ (by simp[e]) d
def w8:C1 prog 238 oM sB Ty.av:=by
 intro T H a0 r hm;rw[oM] at hm;have e:=trivial;refine wi acd func238 [] [] 2 ?_;simp[e];refine wj 999 999 (λf h=>h=H/\f.1 2=sB (fU (eH a0.ab9 0) (eH (eM a0.ab_) 0) false)) (λc a=>?_) ?_;rotate_left
 ·rintro b d E;have e:=Aj e E;cases hm;simp[e]
 rcases Pb (eH a0.ab9 0) e with e|e
 ·simp[e];exact a _ _ (by simp[e])
 simp[e];exact a _ _ (by simp[e])
def IY:C1 prog 269 rL sB Fm.av:=by
 intro T H a0 r hm;rw[rL] at hm;have e:=trivial;refine wi acd func269 [] [] 4 ?_;simp[e];refine Wj hm 5 0 (λn f h=>∃(v2:Int) (v3:Int) (v4:Bool) (c:Nat),(h=H/\f.1 1=AV.eC 1 c 0/\f.1 3=sI v2/\f.1 4=sI v3/\f.1 5=sB v4/\f.gen 1=c/\f.box 1=some [sI a0.ab9,sI a0.dv.ab9,sL Ty.av a0.dv.ab_,sL Tm.av a0.ej,sL Fm.av a0.ab_])/\n v2 v3 v4=some r) (λn G l m=>?_) ?_;rotate_left
 ·rintro u I ⟨v2,v3,v4,c,E,m⟩;have e:=Aj e E;refine Wj m 999 0 (λo f h=>∃(d:Nat),(h=H/\f.1 1=AV.eC 1 d 0/\f.1 3=sI v2/\f.1 4=sI v3/\f.gen 1=d/\f.box 1=some [sI a0.ab9,sI a0.dv.ab9,sL Ty.av a0.dv.ab_,sL Tm.av a0.ej,sL Fm.av a0.ab_])/\o=some r) (λo J i m=>?_) ?_;rotate_left
  ·rintro p v ⟨d,E,m⟩;have e:=Aj e E;refine wj 999 999 (λf h=>h=H/\f.1 2=sB (fU (eH (eM a0.ej) v2) (eH (eM a0.ab_) v3) false)) (λw j=>?_) ?_;rotate_left
   ·rintro q x E;have e:=Aj e E;cases m;simp[e]
   rcases Pb (eH (eM a0.ej) v2) e with e|e
   ·simp[e];exact j _ _ (by simp[e])
   simp[e];exact j _ _ (by simp[e])
  rcases Io e m with⟨e,m⟩|⟨e,m⟩
  ·have⟨y,z,e,m⟩:=gv e m;simp[e];refine Cf (oC e.2) ?_;rcases Io e m with⟨e,m⟩|⟨e,m⟩
   ·cases m;simp[e]
   simp[e];exact i _ _ ⟨c,by simp[e],m⟩
  have⟨A,e,m⟩:=ep e m;simp[e];refine Cf (w8 e.2) ?_;rcases Io e m with⟨e,m⟩|⟨e,m⟩;rotate_left
  ·cases m;simp[e]
  simp[e];exact i _ _ ⟨c,by simp[e],m⟩
 simp[e];rcases Io e m with⟨e,m⟩|⟨e,m⟩
 ·apply wg 999;simp[e];exact l _ _ ⟨2,0,false,1,by simp[e],m⟩
 apply wg 1;simp[e];refine wj 999 0 (λf h=>∃(a:Nat),h=H/\f.1 1=AV.eC 1 a 0/\f.1 3=sI 0/\f.1 5=sB false/\f.1 9=sI a0.ab9/\f.1 12=sB (fU (eH a0.ab9 2) true (eH a0.ab9 3))/\f.gen 1=a/\f.box 1=some [sI a0.ab9,sI a0.dv.ab9,sL Ty.av a0.dv.ab_,sL Tm.av a0.ej,sL Fm.av a0.ab_]) (λB k=>?_) ?_
 ·rcases Pb (eH a0.ab9 2) e with e|e
  ·simp[e];exact k _ _ ⟨1,by simp[e]⟩
  simp[e];exact k _ _ ⟨1,by simp[e]⟩
 rintro s C ⟨a,E⟩;have e:=Aj e E;rcases Io e m with⟨e,m⟩|⟨e,m⟩
 ·apply wg 999;simp[e];exact l _ _ ⟨0,2,false,a,by simp[e],m⟩
 apply wg 1;simp[e];refine wj 999 999 (λf h=>∃(b:Nat),h=H/\f.1 1=AV.eC 1 b 0/\f.1 3=sI 0/\f.1 15=sB (fU (eH a0.ab9 4) true (fU (eH a0.ab9 5) true (fU (eH a0.ab9 6) true (eH a0.ab9 7))))/\f.gen 1=b/\f.box 1=some [sI a0.ab9,sI a0.dv.ab9,sL Ty.av a0.dv.ab_,sL Tm.av a0.ej,sL Fm.av a0.ab_]) (λD g=>?_) ?_;rotate_left
 ·rintro t F ⟨b,E⟩;have e:=Aj e E;rcases Io e m with⟨e,m⟩|⟨e,m⟩;rotate_left
  ·cases m;simp[e]
  simp[e];exact l _ _ ⟨0,1,true,b,by simp[e],m⟩
 rcases Pb (eH a0.ab9 4) e with e|e
 ·simp[e];exact g _ _ ⟨a,by simp[e]⟩
 rcases Pb (eH a0.ab9 5) e with e|e
 ·simp[e];exact g _ _ ⟨a,by simp[e]⟩
 rcases Pb (eH a0.ab9 6) e with e|e
 ·simp[e];exact g _ _ ⟨a,by simp[e]⟩
 simp[e];exact g _ _ ⟨a,by simp[e]⟩
def J2(T:fa)(d:qq T){H:eD}{a0 b:Int}{c:Bool}(hm:vx a0=some (b,c)):eZ prog T 294 [sI a0] H (AV.tuple [sI b,sB c]) H:=by
 rw[vx] at hm;have e:=d;refine wi acd func294 [] [] 3 ?_;simp[e];refine wj 999 999 (λf h=>h=H/\f.1 0=sI a0/\f.1 9=sB (fU (ue a0 1) true (sN a0 14))) (λi a=>?_) ?_
 ·rcases Pb (ue a0 1) e with e|e
  ·simp[e];exact a _ _ (by simp[e])
  simp[e];exact a _ _ (by simp[e])
 rintro g j E;have e:=Aj e E;rcases Io e hm with⟨e,m⟩|⟨e,m⟩
 ·cases m;simp[e]
 have⟨k,e,m⟩:=ep e m;cases m;simp[e]
def KF:C1 prog 295 vW sB sI:=by
 intro T H a0 r hm;rw[vW] at hm;have e:=trivial;refine wi acd func295 [] [] 2 ?_;simp[e];refine wj 999 999 (λf h=>h=H/\f.1 2=sB (fU (eH a0 2) true (fU (eH a0 6) true (eH a0 9)))) (λc a=>?_) ?_;rotate_left
 ·rintro b d E;have e:=Aj e E;cases hm;simp[e]
 rcases Pb (eH a0 2) e with e|e
 ·simp[e];exact a _ _ (by simp[e])
 rcases Pb (eH a0 6) e with e|e
 ·simp[e];exact a _ _ (by simp[e])
 simp[e];exact a _ _ (by simp[e])
def BS(T:fa)(r:qq T):∀(n:Nat),(∀{H:eD} {a0:Tm} {l:Int} {o:Bool} (hm:j1 n a0=some (l,o)),eZ prog T 270 [Tm.av a0] H (AV.tuple [sI l,sB o]) H):=by
  intro n
  induction n with
  |zero=>
    skip
    all_goals(intro _ _;intros;rename_i hm;cases hm)
  |succ n w=>
 intro H a0 l o hm;rw[j1] at hm;have e:=r;refine wi acd func270 [] [] 5 ?_;have⟨s,t,e,m⟩:=gv e hm;simp[e];refine Cf (J2 T r e.2) ?_;simp[e];refine wj 999 0 (λf h=>∃(a:Nat),h=H/\f.1 1=AV.eC 1 a 0/\f.1 42=sB (fU t (fU (eW (eM a0.ab_) s) true (fU (ue a0.aca 0) true (fU (eW a0.aca 0) (eW a0.ab9 1) false))) true)/\f.gen 1=a/\f.box 1=some [sI a0.ab9,sI a0.aca,sI a0.dv.ab9,sL Ty.av a0.dv.ab_,sL Tm.av a0.ab_]) (λJ c=>?_) ?_
 ·rcases Pb t e with e|e;rotate_left
  ·simp[e];exact c _ _ ⟨1,by simp[e]⟩
  rcases Pb (eW (eM a0.ab_) s) e with e|e
  ·simp[e];exact c _ _ ⟨1,by simp[e]⟩
  rcases Pb (ue a0.aca 0) e with e|e
  ·simp[e];exact c _ _ ⟨1,by simp[e]⟩
  rcases Pb (eW a0.aca 0) e with e|e
  ·simp[e];exact c _ _ ⟨1,by simp[e]⟩
  simp[e];exact c _ _ ⟨1,by simp[e]⟩
 rintro x K ⟨a,E⟩;have e:=Aj e E;rcases Io e m with⟨e,m⟩|⟨e,m⟩
 ·apply wg 999;cases m;simp[e]
 apply wg 2;simp[e];refine Wj m 999 999 (λu f h=>∃(b:Nat),(h=H/\f.1 1=AV.eC 1 b 0/\f.gen 1=b/\f.box 1=some [sI a0.ab9,sI a0.aca,sI a0.dv.ab9,sL Ty.av a0.dv.ab_,sL Tm.av a0.ab_])/\u=some (l,o)) (λu L g m=>?_) ?_
 ·have⟨M,e,m⟩:=ep e m;simp[e];refine Cf (KF e.2) ?_;rcases Io e m with⟨e,m⟩|⟨e,m⟩
  ·have⟨y,z,e,m⟩:=gv e m;simp[e];refine Cf (oC e.2) ?_;rcases Io e m with⟨e,m⟩|⟨e,m⟩
   ·cases m;simp[e]
   simp[e];exact g _ _ ⟨a,by simp[e],m⟩
  have⟨A,e,m⟩:=ep e m;simp[e];refine Cf (w8 e.2) ?_;rcases Io e m with⟨e,m⟩|⟨e,m⟩;rotate_left
  ·cases m;simp[e]
  simp[e];exact g _ _ ⟨a,by simp[e],m⟩
 rintro v B ⟨b,E,m⟩;have e:=Aj e E;simp[e];refine Wr e m 999 (λi d f h=>h=H/\f.1 8=sI d/\f.1 59=sL Tm.av a0.ab_/\f.1 60=sI (eM a0.ab_)/\f.1 61=sI i) (by simp[e]) (λd j p q E m=>?_) (λi C d j p q D F E e m z21 k=>?_)
 ·have e:=Aj e E;dsimp only[ei]at m;cases m;simp[e]
 have e:=Aj e E;have⟨G,I,e,m⟩:=gv e m;simp[e];refine Cf (w e.2) ?_;rcases Io e m with⟨e,m⟩|⟨e,m⟩;rotate_left
 ·cases m;cases z21;simp[e]
 simp[e];cases m;exact k _ _ _ (by simp[e]) z21
def xa(T:fa)(c:qq T){H:eD}{a0:Tm}{a:Int}{b:Bool}{n:Nat}(hm:j1 n a0=some (a,b)):eZ prog T 270 [Tm.av a0] H (AV.tuple [sI a,sB b]) H:=(BS T c n) hm
def zM(T:fa)(r:qq T):∀(n:Nat),(∀{H:eD} {a0:Fm} {j:Int} {k:Bool} (hm:jU n a0=some (j,k)),eZ prog T 235 [Fm.av a0] H (AV.tuple [sI j,sB k]) H):=by
  intro n
  induction n with
  |zero=>
    skip
    all_goals(intro _ _;intros;rename_i hm;cases hm)
  |succ n t=>
 intro H a0 j k hm;rw[jU] at hm;have e:=r;refine wi acd func235 [] [] 999 ?_;have⟨D,e,m⟩:=ep e hm;simp[e];refine Cf (IY e.2) ?_;rcases Io e m with⟨e,m⟩|⟨e,m⟩;rotate_left
 ·cases m;simp[e]
 simp[e];refine Wr e m 999 (λs l f h=>∃(a:Nat),h=H/\f.1 1=AV.eC 1 a 0/\f.1 4=sI l/\f.1 17=sL Tm.av a0.ej/\f.1 18=sI (eM a0.ej)/\f.1 19=sI s/\f.gen 1=a/\f.box 1=some [sI a0.ab9,sI a0.dv.ab9,sL Ty.av a0.dv.ab_,sL Tm.av a0.ej,sL Fm.av a0.ab_]) ⟨1,by simp[e]⟩ (λl o u v E m=>?_) (λs F l o u v G I E e m z9 c=>?_);rotate_left
 ·have⟨a,E⟩:=E;have e:=Aj e E;have⟨w,x,e,m⟩:=gv e m;simp[e];refine Cf (xa T r e.2) ?_;rcases Io e m with⟨e,m⟩|⟨e,m⟩;rotate_left
  ·cases m;cases z9;simp[e]
  simp[e];cases m;exact c _ _ _ ⟨a,by simp[e]⟩ z9
 have⟨a,E⟩:=E;have e:=Aj e E;dsimp only[ei]at m;simp[e];refine Wr e m 999 (λd b f h=>h=H/\f.1 4=sI b/\f.1 35=sL Fm.av a0.ab_/\f.1 36=sI (eM a0.ab_)/\f.1 37=sI d) (by simp[e]) (λb g p q E m=>?_) (λd y b g p q z A E e m z20 i=>?_)
 ·have e:=Aj e E;dsimp only[ei]at m;cases m;simp[e]
 have e:=Aj e E;have⟨B,C,e,m⟩:=gv e m;simp[e];refine Cf (t e.2) ?_;rcases Io e m with⟨e,m⟩|⟨e,m⟩;rotate_left
 ·cases m;cases z20;simp[e]
 simp[e];cases m;exact i _ _ _ (by simp[e]) z20
def AL(T:fa)(c:qq T){H:eD}{a0:Fm}{a:Int}{b:Bool}{n:Nat}(hm:jU n a0=some (a,b)):eZ prog T 235 [Fm.av a0] H (AV.tuple [sI a,sB b]) H:=(zM T c n) hm
def qW(T:fa)(a:qq T){H:eD}{a0:Fm}{b c:Int}(hm:js a0=some (b,c)):eZ prog T 182 [Fm.av a0] H (AV.tuple [sI b,sI c]) H:=by
 rw[js] at hm;have e:=a;refine wi acd func182 [] [] 999 ?_;have⟨d,f,e,m⟩:=gv e hm;simp[e];refine Cf (AL T a e.2) ?_;rcases Io e m with⟨e,m⟩|⟨e,m⟩;rotate_left
 ·cases m;simp[e]
 rcases Io e m with⟨e,m⟩|⟨e,m⟩
 ·cases m;simp[e]
 cases m;simp[e]
def pt(T:fa)(a:qq T){H:eD}{a0:Fm}{b:Int}(hm:kG a0=some b):eZ prog T 133 [Fm.av a0] H (sI b) H:=by
 rw[kG] at hm;have e:=a;refine wi acd func133 [] [] 999 ?_;have⟨c,d,e,m⟩:=gv e hm;simp[e];refine Cf (qW T a e.2) ?_;cases m;simp[e]
def rU:C1 prog 183 nC ed.av Ty.av:=by
 intro T H a0 r hm;rw[nC] at hm;have e:=trivial;refine wi acd func183 [] [] 999 ?_;have⟨a,b,e,m⟩:=gv e hm;simp[e];refine Cf (oC e.2) ?_;cases m;simp[e]
def wP:C1 prog 134 oL (sL ed.av) (sL Ty.av):=by
 intro T H a0 r hm;rw[oL] at hm;have e:=trivial;refine wi acd func134 [] [] 999 ?_;simp[e];refine Wr e hm 999 (λi s2 f h=>∃(a:Tag),(h=H/\f.1 3=sT a ed.av s2/\f.1 6=sL Ty.av a0/\f.1 7=sI (eM a0)/\f.1 8=sI i)/\Ow f [16] a s2) (by exact⟨.full,by simp[e],iX.full⟩) (λs2 c j k E m=>?_) (λi n s2 c j k n6 o E e m l d=>?_)
 ·have⟨a,E,b⟩:=E;have e:=Aj e E;dsimp only[ei]at m;cases m;simp[e]
 have⟨a,E,b⟩:=E;have e:=Aj e E;have⟨g,e,m⟩:=ep e m;simp[e];refine Cf (rU e.2) ?_;have⟨e,m⟩:=Ck e m;simp[e];refine Ao (f:=ed.av) s2 [g] b SK e.2 ?_;simp[e];cases m;exact d _ _ _ ⟨(.loc 16 (c.fN 16+1)),by simp[e],(On 16)⟩ l
def ni:C2 prog 184 gH (sL ed.av) (sL ed.av) (sL Ty.av):=by
 intro T H a0 a1 r hm;rw[gH] at hm;have e:=trivial;refine wi acd func184 [] [] 999 ?_;have⟨a,e,m⟩:=ep e hm;simp[e];refine Cs (wP e.2) ?_;have⟨e,m⟩:=Ck e m;simp[e];refine Ad (f:=ed.av) a0 a (iX.full (D:=[])) SK e.2 ?_;cases m;simp[e]
def AZ:C3 prog 241 rW (t2 ed.av sI) sI ed.av ed.av:=by
 intro T H a0 a1 a2 r hm;rw[rW] at hm;have e:=trivial;refine wi acd func241 [] [] 999 ?_;rcases Io e hm with⟨e,m⟩|⟨e,m⟩
 ·cases m;simp[e]
 have e:=Aj e (show AV.agg [sI a0,AV.slice .iP [Ty.av a1.dv,Ty.av a2.dv],sI (fk .i64 (fk .i64 1 a1.ab') a2.ab')]=ed.av (ed.mk (Ty.mk a0 [a1.dv,a2.dv]) (fk .i64 (fk .i64 1 a1.ab') a2.ab')) by rw[ed.fL];rfl);have e:=Aj e (show AV.agg [sI a0,AV.slice .iP [Ty.av a1.dv,Ty.av a2.dv],sI (fk .i64 (fk .i64 1 a1.ab') a2.ab')]=ed.av (ed.mk (Ty.mk a0 [a1.dv,a2.dv]) (fk .i64 (fk .i64 1 a1.ab') a2.ab')) by rw[ed.fL];rfl);cases m;simp[e]
def F7:C1 prog 271 ke (sL sI) sI:=by
 intro T H a0 r hm;rw[ke] at hm;have e:=trivial;refine wi acd func271 [] [] 999 ?_;rcases Io e hm with⟨e,m⟩|⟨e,m⟩
 ·cases m;simp[e]
 rcases Io e m with⟨e,m⟩|⟨e,m⟩
 ·cases m;simp[e]
 rcases Io e m with⟨e,m⟩|⟨e,m⟩
 ·cases m;simp[e]
 rcases Io e m with⟨e,m⟩|⟨e,m⟩
 ·cases m;simp[e]
 rcases Io e m with⟨e,m⟩|⟨e,m⟩
 ·cases m;simp[e]
 cases m;simp[e]
def kO:C2 prog 252 jK sB ed.av sI:=by
 intro T H a0 a1 r hm;rw[jK] at hm;have e:=trivial;refine wi acd func252 [] [] 999 ?_;cases hm;simp[e]
def oi:C2 prog 272 jW ed.av ed.av sI:=by
 intro T H a0 a1 r hm;rw[jW] at hm;have e:=trivial;refine wi acd func272 [] [] 999 ?_;have⟨a,e,m⟩:=ep e hm;have⟨b,e,m⟩:=ep e m;simp[e];refine Cf (rU e.2) ?_;cases m;simp[e]
def D1:∀(n:Nat),C2 prog 230 (gZ n) sB Ty.av Ty.av:=by
  intro n
  induction n with
  |zero=>
    skip
    all_goals(intro _ _;intros;rename_i hm;cases hm)
  |succ n o=>
 intro T H a0 a1 r hm;rw[gZ] at hm;have e:=trivial;refine wi acd func230 [] [] 3 ?_;simp[e];refine wj 999 999 (λf h=>∃(c:Nat) (b:Nat),h=H/\f.1 2=AV.eC 2 c 0/\f.1 3=AV.eC 3 b 0/\f.1 20=sB (fU (eW a0.ab9 a1.ab9) true (eW (eM a0.ab_) (eM a1.ab_)))/\f.gen 2=c/\f.box 2=some [sI a0.ab9,sL Ty.av a0.ab_]/\f.gen 3=b/\f.box 3=some [sI a1.ab9,sL Ty.av a1.ab_]) (λw d=>?_) ?_
 ·rcases Pb (eW a0.ab9 a1.ab9) e with e|e
  ·simp[e];exact d _ _ ⟨1,1,by simp[e]⟩
  simp[e];exact d _ _ ⟨1,1,by simp[e]⟩
 rintro p x ⟨c,b,E⟩;have e:=Aj e E;rcases Io e hm with⟨e,m⟩|⟨e,m⟩
 ·cases m;simp[e]
 simp[e];refine Wr e m 999 (λk l f h=>∃(a:Nat),h=H/\f.1 3=AV.eC 3 a 0/\f.1 22=sL Ty.av a0.ab_/\f.1 23=sI (eM a0.ab_)/\f.1 24=sI k/\f.gen 3=a/\f.box 3=some [sI a1.ab9,sL Ty.av a1.ab_]) ⟨b,by simp[e]⟩ (λl j q s E m=>?_) (λk y l j q s z t E e m g i=>?_)
 ·have⟨a,E⟩:=E;have e:=Aj e E;dsimp only[ei]at m;cases m;simp[e]
 have⟨a,E⟩:=E;have e:=Aj e E;have⟨u,e,m⟩:=ep e m;have⟨v,e,m⟩:=ep e m;simp[e];refine Cs (o e.2) ?_;rcases Io e m with⟨e,m⟩|⟨e,m⟩;rotate_left
 ·cases m;cases g;simp[e]
 simp[e];cases m;exact i _ _ _ ⟨a,by simp[e]⟩ g
def pB{n:Nat}:C2 prog 230 (gZ n) sB Ty.av Ty.av:=(D1 n)
def qU:C2 prog 245 kT sB ed.av ed.av:=by
 intro T H a0 a1 r hm;rw[kT] at hm;have e:=trivial;refine wi acd func245 [] [] 2 ?_;simp[e];refine Wj hm 999 999 (λb f h=>∃(v2:Bool),(h=H/\f.1 4=sB v2)/\b v2=some r) (λb g a m=>?_) ?_;rotate_left
 ·rintro c i ⟨v2,E,m⟩;have e:=Aj e E;cases m;simp[e]
 rcases Io e m with⟨e,m⟩|⟨e,m⟩;rotate_left
 ·simp[e];exact a _ _ ⟨false,by simp[e],m⟩
 have⟨d,e,m⟩:=ep e m;simp[e];refine Cf (pB e.2) ?_;simp[e];exact a _ _ ⟨d,by simp[e],m⟩
def mX:C0 prog 208 nH Ty.av:=by
 intro T H r hm;rw[nH] at hm;have e:=trivial;refine wi acd func208 [] [] 999 ?_;cases hm;simp[e]
def ET:C0 prog 251 xF Ty.av:=by
 intro T H r hm;rw[xF] at hm;have e:=trivial;refine wi acd func251 [] [] 999 ?_;cases hm;simp[e]
def Bg:C2 prog 209 pD Ty.av Ty.av (sL Ty.av):=by
 intro T H a0 a1 r hm;rw[pD] at hm;have e:=trivial;refine wi acd func209 [] [] 999 ?_;simp[e];refine Wn hm 999 (λs1 f h=>∃(c:Tag) (a:Nat) (b:Nat),h=H/\f.1 1=sL Ty.av a1/\f.1 2=AV.eC 2 a 0/\f.1 4=AV.eC 4 b 0/\f.1 5=sI s1.1/\f.gen 2=a/\f.box 2=some [sI s1.2.1,sT c Ty.av s1.2.2]/\f.gen 4=b/\f.box 4=some [sI 0,AV.slice .full []]) ⟨.iP,1,1,by simp[e]⟩ (λs1 fr2 j k n4 c5 E m g d=>?_);have⟨l,v9,v10⟩:=s1;have⟨c,a,b,E⟩:=E;have e:=Aj e E;dsimp only[uj]at m;rcases Io e m with⟨e,m⟩|⟨e,m⟩;rotate_left
 ·cases m;have m:=Qb g;dsimp only[uj]at m;cases m;simp[e]
 have⟨i,e,m⟩:=ep e m;simp[e];cases m;exact d _ _ _ ⟨.full,a,b,by simp[e]⟩ g
def IK:C1 prog 273 qi Ty.av Tm.av:=by
 intro T H a0 r hm;rw[qi] at hm;have e:=trivial;refine wi acd func273 [] [] 999 ?_;rcases Io e hm with⟨e,m⟩|⟨e,m⟩;rotate_left
 ·have⟨a,e,m⟩:=ep e m;simp[e];refine Cs (mX e.2) ?_;have⟨b,e,m⟩:=ep e m;simp[e];refine Cs (Bg e.2) ?_;cases m;simp[e]
 have⟨c,e,m⟩:=ep e m;simp[e];refine Cs (mX e.2) ?_;have⟨d,e,m⟩:=ep e m;simp[e];refine Cs (ET e.2) ?_;have⟨f,e,m⟩:=ep e m;simp[e];refine Cs (Bg e.2) ?_;cases m;simp[e]
def IB:C2 prog 242 gM (t2 ed.av sI) Tm.av (λp=>AV.agg [sI p.1.dv.ab9,sL Ty.av p.1.dv.ab_,sI p.1.ab',sI p.2.1.dv.ab9,sL Ty.av p.2.1.dv.ab_,sI p.2.1.ab',sI p.2.2.dv.ab9,sL Ty.av p.2.2.dv.ab_,sI p.2.2.ab']):=by
 intro T H a0 a1 r hm;rw[gM] at hm;have e:=trivial;refine wi acd func242 [] [] 7 ?_;have⟨W,e,m⟩:=ep e hm;simp[e];refine Cf (F7 e.2) ?_;simp[e];rcases Io e m with⟨e,m⟩|⟨e,m⟩
 ·apply wg 999;have⟨O,e,m⟩:=ep e m;simp[e];refine Wr e m 0 (λI X f h=>∃(a:Nat) (d:Nat),h=H/\f.1 3=AV.eC 3 a 0/\f.1 4=AV.eC 4 d 0/\f.1 6=sL sI W/\f.1 18=sL sI O/\f.1 19=sI (eM O)/\f.1 20=sI I/\f.gen 3=a/\f.box 3=some [sI a1.1.dv.ab9,sL Ty.av a1.1.dv.ab_,sI a1.1.ab',sI a1.2.1.dv.ab9,sL Ty.av a1.2.1.dv.ab_,sI a1.2.1.ab',sI a1.2.2.dv.ab9,sL Ty.av a1.2.2.dv.ab_,sI a1.2.2.ab']/\f.gen 4=d/\f.box 4=some [sI 0,AV.slice .full [],sI 0]) ⟨1,1,by simp[e]⟩ (λX P h5 K6 E m=>?_) (λI x7 X P h5 K6 n8 c9 E e m J K=>?_)
  ·have⟨a,d,E⟩:=E;have e:=Aj e E;apply wg 999;dsimp only[ei]at m;have⟨ad,e,m⟩:=ep e m;have⟨ae,e,m⟩:=ep e m;simp[e];refine Cf (rU e.2) ?_;cases m;simp[e]
  have⟨a,d,E⟩:=E;have e:=Aj e E;apply wg 9;simp[e];refine Wj m 999 999 (λL f h=>∃(D:Bool) (l:Nat) (n:Nat),(h=H/\f.1 3=AV.eC 3 l 0/\f.1 4=AV.eC 4 n 0/\f.1 6=sL sI W/\f.1 18=sL sI O/\f.1 19=sI (eM O)/\f.1 20=sI I/\f.1 30=sB D/\f.gen 3=l/\f.box 3=some [sI a1.1.dv.ab9,sL Ty.av a1.1.dv.ab_,sI a1.1.ab',sI a1.2.1.dv.ab9,sL Ty.av a1.2.1.dv.ab_,sI a1.2.1.ab',sI a1.2.2.dv.ab9,sL Ty.av a1.2.2.dv.ab_,sI a1.2.2.ab']/\f.gen 4=n/\f.box 4=some [sI 0,AV.slice .full [],sI 0])/\L D=some c9) (λL af x m=>?_) ?_;rotate_left
  ·rintro Y ah ⟨D,l,n,E,m⟩;have e:=Aj e E;rcases Io e m with⟨e,m⟩|⟨e,m⟩
   ·cases m;cases J;simp[e]
   simp[e];cases m;exact K _ _ _ ⟨l,n,by simp[e]⟩ J
  rcases Io e m with⟨e,m⟩|⟨e,m⟩
  ·have e:=Aj e (DG (j:=0) DB zi (by simp[e]) (by decide):gN prog 244 (AV.eC 3 a 0) (sI I)=some (AV.eC 3 a 0));have⟨Q,e,m⟩:=ep e m;simp[e];refine Cf (kO e.2) ?_;simp[e];exact x _ _ ⟨(nt Q),a,d,by simp[e],m⟩
  rcases Io e m with⟨e,m⟩|⟨e,m⟩
  ·have e:=Aj e (DG (j:=1) DB zi (by simp[e]) (by decide):gN prog 244 (AV.eC 3 a 0) (sI I)=some (AV.eC 3 a 3));have⟨R,e,m⟩:=ep e m;simp[e];refine Cf (kO e.2) ?_;simp[e];exact x _ _ ⟨(nt R),a,d,by simp[e],m⟩
  have⟨e,m⟩:=Ck e m;have e:=Aj e (DG (j:=2) DB zi (by simp[e]) (by decide):gN prog 244 (AV.eC 3 a 0) (sI I)=some (AV.eC 3 a 6));have⟨S,e,m⟩:=ep e m;simp[e];refine Cf (kO e.2) ?_;simp[e];exact x _ _ ⟨(nt S),a,d,by simp[e],m⟩
 apply wg 8;simp[e];rcases Io e m with⟨e,m⟩|⟨e,m⟩
 ·apply wg 2;simp[e];refine Wj m 999 999 (λM f h=>∃(F:Bool) (o:Nat) (q:Nat),(h=H/\f.1 3=AV.eC 3 o 0/\f.1 4=AV.eC 4 q 0/\f.1 54=sB F/\f.gen 3=o/\f.box 3=some [sI a1.1.dv.ab9,sL Ty.av a1.1.dv.ab_,sI a1.1.ab',sI a1.2.1.dv.ab9,sL Ty.av a1.2.1.dv.ab_,sI a1.2.1.ab',sI a1.2.2.dv.ab9,sL Ty.av a1.2.2.dv.ab_,sI a1.2.2.ab']/\f.gen 4=q/\f.box 4=some [sI 0,AV.slice .full [],sI 0])/\M F=some r) (λM ai z m=>?_) ?_;rotate_left
  ·rintro Z aj ⟨F,o,q,E,m⟩;have e:=Aj e E;rcases Io e m with⟨e,m⟩|⟨e,m⟩
   ·cases m;simp[e]
   have⟨ak,e,m⟩:=ep e m;simp[e];refine Cf (oi e.2) ?_;cases m;simp[e]
  have⟨al,e,m⟩:=ep e m;simp[e];refine Cs (kO e.2) ?_;rcases Io e m with⟨e,m⟩|⟨e,m⟩;rotate_left
  ·simp[e];exact z _ _ ⟨true,1,1,by simp[e],m⟩
  have⟨an,e,m⟩:=ep e m;simp[e];refine Cs (oi e.2) ?_;have⟨U,e,m⟩:=ep e m;simp[e];refine Cs (qU e.2) ?_;simp[e];exact z _ _ ⟨(nt U),1,1,by simp[e],m⟩
 apply wg 1;simp[e];refine wj 999 0 (λf h=>∃(g:Nat) (i:Nat) (k:Nat),h=H/\f.1 2=AV.eC 2 g 0/\f.1 3=AV.eC 3 i 0/\f.1 4=AV.eC 4 k 0/\f.1 39=sI a0.ab9/\f.1 59=sB (fU (eH a0.ab9 6) true (eH a0.ab9 9))/\f.gen 2=g/\f.box 2=some [sI a0.ab9,sI a0.aca,sI a0.dv.ab9,sL Ty.av a0.dv.ab_,sL Tm.av a0.ab_]/\f.gen 3=i/\f.box 3=some [sI a1.1.dv.ab9,sL Ty.av a1.1.dv.ab_,sI a1.1.ab',sI a1.2.1.dv.ab9,sL Ty.av a1.2.1.dv.ab_,sI a1.2.1.ab',sI a1.2.2.dv.ab9,sL Ty.av a1.2.2.dv.ab_,sI a1.2.2.ab']/\f.gen 4=k/\f.box 4=some [sI 0,AV.slice .full [],sI 0]) (λao A=>?_) ?_
 ·rcases Pb (eH a0.ab9 6) e with e|e
  ·simp[e];exact A _ _ ⟨1,1,1,by simp[e]⟩
  simp[e];exact A _ _ ⟨1,1,1,by simp[e]⟩
 rintro B aq ⟨g,i,k,E⟩;have e:=Aj e E;rcases Io e m with⟨e,m⟩|⟨e,m⟩;rotate_left
 ·apply wg 999;rcases Io e m with⟨e,m⟩|⟨e,m⟩
  ·have⟨ar,au,e,m⟩:=gv e m;simp[e];refine Cf (AZ e.2) ?_;cases m;simp[e]
  have⟨aw,e,m⟩:=ep e m;simp[e];refine Cf (kO e.2) ?_;rcases Io e m with⟨e,m⟩|⟨e,m⟩;rotate_left
  ·cases m;simp[e]
  rcases Io e m with⟨e,m⟩|⟨e,m⟩
  ·have⟨ax,e,m⟩:=ep e m;simp[e];refine Cf (oi e.2) ?_;cases m;simp[e]
  have⟨ay,e,m⟩:=ep e m;simp[e];refine Cf (oi e.2) ?_;cases m;simp[e]
 apply wg 3;have⟨w,e,m⟩:=ep e m;simp[e];refine Cf (rU e.2) ?_;simp[e];refine wj 2 1 (λf h=>∃(s:Nat) (t:Nat) (b:Nat) (c:Nat),h=H/\f.1 2=AV.eC 2 s 0/\f.1 3=AV.eC 3 t 0/\f.1 4=AV.eC 4 b 0/\f.1 9=AV.eC 9 c 0/\f.1 10=sI (fU (eH a0.ab9 9) 2 1)/\f.gen 2=s/\f.box 2=some [sI a0.ab9,sI a0.aca,sI a0.dv.ab9,sL Ty.av a0.dv.ab_,sL Tm.av a0.ab_]/\f.gen 3=t/\f.box 3=some [sI a1.1.dv.ab9,sL Ty.av a1.1.dv.ab_,sI a1.1.ab',sI a1.2.1.dv.ab9,sL Ty.av a1.2.1.dv.ab_,sI a1.2.1.ab',sI a1.2.2.dv.ab9,sL Ty.av a1.2.2.dv.ab_,sI a1.2.2.ab']/\f.gen 4=b/\f.box 4=some [sI 0,AV.slice .full [],sI 0]/\f.gen 9=c/\f.box 9=some [sI w.dv.ab9,sL Ty.av w.dv.ab_,sI w.ab']) (λaz C=>?_) ?_
 ·simp[e];rcases Pb (eH a0.ab9 9) e with e|e
  ·apply wg 999;simp[e];exact C _ _ ⟨g,i,k,(B.gen 9+1),by simp[e]⟩
  apply wg 999;simp[e];exact C _ _ ⟨g,i,k,(B.gen 9+1),by simp[e]⟩
 rintro aa aA ⟨s,t,b,c,E⟩;have e:=Aj e E;simp[e];refine Wj m 999 999 (λN f h=>∃(G:Bool) (u:Nat) (v:Nat),(h=H/\f.1 4=AV.eC 4 u 0/\f.1 9=AV.eC 9 v 0/\f.1 88=sB G/\f.gen 4=u/\f.box 4=some [sI 0,AV.slice .full [],sI 0]/\f.gen 9=v/\f.box 9=some [sI w.dv.ab9,sL Ty.av w.dv.ab_,sI w.ab'])/\N G=some r) (λN aB y m=>?_) ?_;rotate_left
 ·rintro ab aC ⟨G,u,v,E,m⟩;have e:=Aj e E;rcases Io e m with⟨e,m⟩|⟨e,m⟩
  ·cases m;simp[e]
  cases m;simp[e]
 have⟨aD,e,m⟩:=ep e m;simp[e];refine Cs (qU e.2) ?_;rcases Io e m with⟨e,m⟩|⟨e,m⟩;rotate_left
 ·simp[e];exact y _ _ ⟨true,b,c,by simp[e],m⟩
 have⟨aE,e,m⟩:=ep e m;simp[e];refine Cs (IK e.2) ?_;have⟨aF,e,m⟩:=ep e m;simp[e];refine Cs (pB e.2) ?_;rcases Io e m with⟨e,m⟩|⟨e,m⟩;rotate_left
 ·simp[e];exact y _ _ ⟨true,b,c,by simp[e],m⟩
 have⟨V,e,m⟩:=ep e m;simp[e];refine Cs (kO e.2) ?_;simp[e];exact y _ _ ⟨(nt V),b,c,by simp[e],m⟩
def wQ:∀(n:Nat),C2 prog 197 (eY n) (t2 ed.av sI) (sL ed.av) Tm.av:=by
  intro n
  induction n with
  |zero=>
    skip
    all_goals(intro _ _;intros;rename_i hm;cases hm)
  |succ n U=>
 intro T H a0 a1 r hm;rw[eY] at hm;have e:=trivial;refine wi acd func197 [] [] 999 ?_;rcases Io e hm with⟨e,m⟩|⟨e,m⟩
 ·rcases Io e m with⟨e,m⟩|⟨e,m⟩
  ·cases m;simp[e]
  have⟨x1,e,m⟩:=ep e m;cases m;simp[e]
 rcases Io e m with⟨e,m⟩|⟨e,m⟩
 ·have⟨W,e,m⟩:=ep e m;simp[e];refine Cf (rU e.2) ?_;have⟨e,m⟩:=Ck e m;simp[e];refine Ad (f:=ed.av) a0 [W] (iX.full (D:=[])) SK e.2 ?_;have⟨x3,e,m⟩:=ep e m;have⟨x4,x5,e,m⟩:=gv e m;simp[e];refine Cs (U e.2) ?_;rcases Io e m with⟨e,m⟩|⟨e,m⟩
  ·cases m;simp[e]
  have⟨x6,x7,e,m⟩:=gv e m;simp[e];refine Cf (AZ e.2) ?_;cases m;simp[e]
 simp[e];refine Wr e m 0 (λL u f h=>∃(d:Tag) (g:Tag) (i:Tag) (b:Nat) (c:Nat) (a:Nat),h=H/\f.1 0=sL ed.av a0/\f.1 3=AV.eC 3 b 0/\f.1 4=AV.eC 4 c 0/\f.1 9=AV.eC 9 a 0/\f.1 65=sL Tm.av a1.ab_/\f.1 66=sI (eM a1.ab_)/\f.1 67=sI L/\f.gen 3=b/\f.box 3=some [sI a1.ab9,sI a1.aca,sI a1.dv.ab9,sL Ty.av a1.dv.ab_,sL Tm.av a1.ab_]/\f.gen 4=c/\f.box 4=some [sI 0,AV.slice .full [],sI 0]/\f.gen 9=a/\f.box 9=some [sI u.1,sT d Ty.av u.2.1,sI u.2.2.1,sI u.2.2.2.1,sT g Ty.av u.2.2.2.2.1,sI u.2.2.2.2.2.1,sI u.2.2.2.2.2.2.1,sT i Ty.av u.2.2.2.2.2.2.2.1,sI u.2.2.2.2.2.2.2.2]) ⟨.full,.full,.full,1,1,1,by simp[e]⟩ (λu M Q R E m=>?_) (λL X u M Q R Y S E e m N O=>?_)
 ·have⟨w,x,y,v20,v21,z,A,v24,B⟩:=u;have⟨d,g,i,b,c,a,E⟩:=E;have e:=Aj e E;apply wg 999;dsimp only[ei,SH]at m;have⟨Z,aa,e,m⟩:=gv e m;simp[e];refine Cf (IB e.2) ?_;cases m;simp[e]
 have⟨w,x,y,v20,v21,z,A,v24,B⟩:=u;have⟨d,g,i,b,c,a,E⟩:=E;have e:=Aj e E;dsimp only[SH]at m;apply wg 5;simp[e];refine Wj m 999 999 (λP f h=>∃(C:Int) (v30:List Ty) (v31:Int) (F:Int) (G:List Ty) (I:Int) (J:Int) (K:List Ty) (v37:Int) (k:Tag) (l:Tag) (o:Tag) (p:Nat) (q:Nat) (s:Nat),(h=H/\f.1 0=sL ed.av a0/\f.1 3=AV.eC 3 p 0/\f.1 4=AV.eC 4 q 0/\f.1 9=AV.eC 9 s 0/\f.1 65=sL Tm.av a1.ab_/\f.1 66=sI (eM a1.ab_)/\f.1 67=sI L/\f.gen 3=p/\f.box 3=some [sI a1.ab9,sI a1.aca,sI a1.dv.ab9,sL Ty.av a1.dv.ab_,sL Tm.av a1.ab_]/\f.gen 4=q/\f.box 4=some [sI 0,AV.slice .full [],sI 0]/\f.gen 9=s/\f.box 9=some [sI C,sT k Ty.av v30,sI v31,sI F,sT l Ty.av G,sI I,sI J,sT o Ty.av K,sI v37])/\P C v30 v31 F G I J K v37=some S) (λP ab v m=>?_) ?_;rotate_left
 ·rintro V ad ⟨C,v30,v31,F,G,I,J,K,v37,k,l,o,p,q,s,E,m⟩;have e:=Aj e E;simp[e];cases m;exact O _ _ _ ⟨k,l,o,p,q,s,by simp[e]⟩ N
 have⟨t,ae,e,m⟩:=gv e m;simp[e];refine Cf (U e.2) ?_;rcases Io e m with⟨e,m⟩|⟨e,m⟩
 ·cases m;cases N;simp[e]
 rcases Io e m with⟨e,m⟩|⟨e,m⟩
 ·have e:=Aj e (DG (j:=0) DB zi (by simp[e]) (by decide):gN prog 244 (AV.eC 9 a 0) (sI L)=some (AV.eC 9 a 0));simp[e];exact v _ _ ⟨t.dv.ab9,t.dv.ab_,t.ab',v20,v21,z,A,v24,B,.iP,g,i,b,c,a,by simp[e],m⟩
 rcases Io e m with⟨e,m⟩|⟨e,m⟩
 ·have e:=Aj e (DG (j:=1) DB zi (by simp[e]) (by decide):gN prog 244 (AV.eC 9 a 0) (sI L)=some (AV.eC 9 a 3));simp[e];exact v _ _ ⟨w,x,y,t.dv.ab9,t.dv.ab_,t.ab',A,v24,B,d,.iP,i,b,c,a,by simp[e],m⟩
 have⟨e,m⟩:=Ck e m;have e:=Aj e (DG (j:=2) DB zi (by simp[e]) (by decide):gN prog 244 (AV.eC 9 a 0) (sI L)=some (AV.eC 9 a 6));simp[e];exact v _ _ ⟨w,x,y,v20,v21,z,t.dv.ab9,t.dv.ab_,t.ab',d,g,.iP,b,c,a,by simp[e],m⟩
def lY{n:Nat}:C2 prog 197 (eY n) (t2 ed.av sI) (sL ed.av) Tm.av:=(wQ n)
def tI:C3 prog 205 iT sI (sL ed.av) Tm.av sI:=by
 intro T H a0 a1 a2 r hm;rw[iT] at hm;have e:=trivial;refine wi acd func205 [] [] 5 ?_;have⟨i,c,e,m⟩:=gv e hm;simp[e];refine Cf (lY e.2) ?_;simp[e];refine Wj m 999 999 (λb f h=>∃(v4:Bool),(h=H/\f.1 8=sI c/\f.1 22=sB v4)/\b v4=some r) (λb j a m=>?_) ?_;rotate_left
 ·rintro d k ⟨v4,E,m⟩;have e:=Aj e E;rcases Io e m with⟨e,m⟩|⟨e,m⟩
  ·cases m;simp[e]
  cases m;simp[e]
 rcases Io e m with⟨e,m⟩|⟨e,m⟩;rotate_left
 ·simp[e];exact a _ _ ⟨false,by simp[e],m⟩
 have⟨g,e,m⟩:=ep e m;simp[e];refine Cf (kO e.2) ?_;simp[e];exact a _ _ ⟨(nt g),by simp[e],m⟩
def r7:C2 prog 185 iK sI (sL ed.av) Tm.av:=by
 intro T H a0 a1 r hm;rw[iK] at hm;have e:=trivial;refine wi acd func185 [] [] 999 ?_;have⟨a,e,m⟩:=ep e hm;simp[e];refine Cf (tI e.2) ?_;cases m;simp[e]
def wc:∀(n:Nat),C2 prog 135 (eX n) sI (sL ed.av) Fm.av:=by
  intro n
  induction n with
  |zero=>
    skip
    all_goals(intro _ _;intros;rename_i hm;cases hm)
  |succ n K=>
 intro T H a0 a1 r hm;rw[eX] at hm;have e:=trivial;refine wi acd func135 [] [] 6 ?_;simp[e];refine Wj hm 1 999 (λB f h=>∃(v2:List ed) (g:Nat),(h=H/\f.1 0=sL ed.av v2/\f.1 3=AV.eC 3 g 0/\f.gen 3=g/\f.box 3=some [sI a1.ab9,sI a1.dv.ab9,sL Ty.av a1.dv.ab_,sL Tm.av a1.ej,sL Fm.av a1.ab_])/\B v2=some r) (λB K3 o m=>?_) ?_;rotate_left
 ·rintro L h5 ⟨v2,g,E,m⟩;have e:=Aj e E;simp[e];refine Wr e m 999 (λC D f h=>h=H/\f.1 0=sL ed.av v2/\f.1 28=sL Fm.av a1.ab_/\f.1 29=sI (eM a1.ab_)/\f.1 30=sI C) (by simp[e]) (λD x M N E m=>?_) (λC O D x M N P Q E e m p q=>?_)
  ·have e:=Aj e E;dsimp only[ei]at m;cases m;simp[e]
  have e:=Aj e E;have⟨R,e,m⟩:=ep e m;simp[e];refine Cf (K e.2) ?_;rcases Io e m with⟨e,m⟩|⟨e,m⟩
  ·cases m;cases p;simp[e]
  simp[e];cases m;exact q _ _ _ (by simp[e]) p
 simp[e];refine Wj m 4 999 (λs f h=>∃(c:Nat),(h=H/\f.1 0=sL ed.av a0/\f.1 3=AV.eC 3 c 0/\f.gen 3=c/\f.box 3=some [sI a1.ab9,sI a1.dv.ab9,sL Ty.av a1.dv.ab_,sL Tm.av a1.ej,sL Fm.av a1.ab_])/\s=some r) (λs S i m=>?_) ?_;rotate_left
 ·rintro F U ⟨c,E,m⟩;have e:=Aj e E;have⟨y,e,m⟩:=ep e m;simp[e];refine Cf (ni e.2) ?_;simp[e];exact o _ _ ⟨y,c,by simp[e],m⟩
 simp[e];refine wj 999 0 (λf h=>∃(a:Nat),h=H/\f.1 0=sL ed.av a0/\f.1 3=AV.eC 3 a 0/\f.1 12=sI a1.ab9/\f.1 13=sB (fU (eH a1.ab9 4) true (eH a1.ab9 5))/\f.gen 3=a/\f.box 3=some [sI a1.ab9,sI a1.dv.ab9,sL Ty.av a1.dv.ab_,sL Tm.av a1.ej,sL Fm.av a1.ab_]) (λV j=>?_) ?_
 ·rcases Pb (eH a1.ab9 4) e with e|e
  ·simp[e];exact j _ _ ⟨1,by simp[e]⟩
  simp[e];exact j _ _ ⟨1,by simp[e]⟩
 rintro G W ⟨a,E⟩;have e:=Aj e E;rcases Io e m with⟨e,m⟩|⟨e,m⟩
 ·apply wg 999;simp[e];exact i _ _ ⟨a,by simp[e],m⟩
 apply wg 3;simp[e];refine wj 999 0 (λf h=>∃(b:Nat),h=H/\f.1 0=sL ed.av a0/\f.1 3=AV.eC 3 b 0/\f.1 12=sI a1.ab9/\f.1 16=sB (fU (eH a1.ab9 6) true (eH a1.ab9 7))/\f.gen 3=b/\f.box 3=some [sI a1.ab9,sI a1.dv.ab9,sL Ty.av a1.dv.ab_,sL Tm.av a1.ej,sL Fm.av a1.ab_]) (λX k=>?_) ?_
 ·rcases Pb (eH a1.ab9 6) e with e|e
  ·simp[e];exact k _ _ ⟨a,by simp[e]⟩
  simp[e];exact k _ _ ⟨a,by simp[e]⟩
 rintro I Y ⟨b,E⟩;have e:=Aj e E;rcases Io e m with⟨e,m⟩|⟨e,m⟩
 ·apply wg 999;simp[e];exact i _ _ ⟨b,by simp[e],m⟩
 apply wg 2;simp[e];refine wj 999 999 (λf h=>∃(d:Nat),h=H/\f.1 0=sL ed.av a0/\f.1 3=AV.eC 3 d 0/\f.1 19=sB (fU (eH a1.ab9 2) true (eH a1.ab9 3))/\f.gen 3=d/\f.box 3=some [sI a1.ab9,sI a1.dv.ab9,sL Ty.av a1.dv.ab_,sL Tm.av a1.ej,sL Fm.av a1.ab_]) (λZ l=>?_) ?_
 ·rcases Pb (eH a1.ab9 2) e with e|e
  ·simp[e];exact l _ _ ⟨b,by simp[e]⟩
  simp[e];exact l _ _ ⟨b,by simp[e]⟩
 rintro J aa ⟨d,E⟩;have e:=Aj e E;rcases Io e m with⟨e,m⟩|⟨e,m⟩
 ·simp[e];exact o _ _ ⟨a0,d,by simp[e],m⟩
 simp[e];refine Wr e m 999 (λt u f h=>h=H/\f.1 0=sL ed.av a0/\f.1 42=sL Tm.av a1.ej/\f.1 43=sI (eM a1.ej)/\f.1 44=sI t) (by simp[e]) (λu v z A E m=>?_) (λt ab u v z A ad ae E e m z37 w=>?_)
 ·have e:=Aj e E;dsimp only[ei]at m;cases m;simp[e]
 have e:=Aj e E;have⟨af,e,m⟩:=ep e m;simp[e];refine Cf (r7 e.2) ?_;rcases Io e m with⟨e,m⟩|⟨e,m⟩
 ·cases m;cases z37;simp[e]
 simp[e];cases m;exact w _ _ _ (by simp[e]) z37
def ja{n:Nat}:C2 prog 135 (eX n) sI (sL ed.av) Fm.av:=(wc n)
def ub(T:fa)(a:qq T){H:eD}{a0:List Ty}{a1:Fm}{b:Int}(hm:mJ a0 a1=some b):eZ prog T 76 [sL Ty.av a0,Fm.av a1] H (sI b) H:=by
 rw[mJ] at hm;have e:=a;refine wi acd func76 [] [] 999 ?_;have⟨c,e,m⟩:=ep e hm;simp[e];refine Cf (yM e.2) ?_;rcases Io e m with⟨e,m⟩|⟨e,m⟩
 ·cases m;simp[e]
 have⟨d,e,m⟩:=ep e m;simp[e];refine Cf (pt T a e.2) ?_;rcases Io e m with⟨e,m⟩|⟨e,m⟩
 ·cases m;simp[e]
 have⟨f,e,m⟩:=ep e m;simp[e];refine Cs (wP e.2) ?_;have⟨g,e,m⟩:=ep e m;simp[e];refine Cs (ja e.2) ?_;cases m;simp[e]
def Ec(T:fa)(k:qq T){H:eD}{a0:List Fm}{a1:Sq}{q:Int}(hm:sJ a0 a1=some q):eZ prog T 21 [sL Fm.av a0,Sq.av a1] H (sI q) H:=by
 rw[sJ] at hm;have e:=k;refine wi acd func21 [] [] 999 ?_;rcases Io e hm with⟨e,m⟩|⟨e,m⟩
 ·cases m;simp[e]
 simp[e];refine Wr e m 999 (λr s2 f h=>∃(b:Nat),h=H/\f.1 3=AV.eC 3 b 0/\f.1 15=sL Fm.av a0/\f.1 16=sI (eM a0)/\f.1 17=sI r/\f.gen 3=b/\f.box 3=some [sL Ty.av a1.acb,sL Fm.av a1.acf]) ⟨1,by simp[e]⟩ (λs2 l t u E m=>?_) (λr B s2 l t u n6 C E e m s n=>?_);rotate_left
 ·have⟨b,E⟩:=E;have e:=Aj e E;have⟨v,e,m⟩:=ep e m;simp[e];refine Cf (ub T k e.2) ?_;rcases Io e m with⟨e,m⟩|⟨e,m⟩
  ·cases m;cases s;simp[e]
  simp[e];cases m;exact n _ _ _ ⟨b,by simp[e]⟩ s
 have⟨b,E⟩:=E;have e:=Aj e E;dsimp only[ei]at m;have⟨w,e,m⟩:=ep e m;simp[e];refine Cf (yM e.2) ?_;rcases Io e m with⟨e,m⟩|⟨e,m⟩
 ·cases m;simp[e]
 rcases Io e m with⟨e,m⟩|⟨e,m⟩
 ·cases m;simp[e]
 simp[e];refine Wr e m 999 (λc d f h=>∃(a:Nat),h=H/\f.1 3=AV.eC 3 a 0/\f.1 38=sL Fm.av a1.acf/\f.1 39=sI (eM a1.acf)/\f.1 40=sI c/\f.gen 3=a/\f.box 3=some [sL Ty.av a1.acb,sL Fm.av a1.acf]) ⟨b,by simp[e]⟩ (λd g o p E m=>?_) (λc x d g o p y z E e m i j=>?_)
 ·have⟨a,E⟩:=E;have e:=Aj e E;dsimp only[ei]at m;cases m;simp[e]
 have⟨a,E⟩:=E;have e:=Aj e E;have⟨A,e,m⟩:=ep e m;simp[e];refine Cf (ub T k e.2) ?_;rcases Io e m with⟨e,m⟩|⟨e,m⟩
 ·cases m;cases i;simp[e]
 simp[e];cases m;exact j _ _ _ ⟨a,by simp[e]⟩ i
def IW(T:fa)(g:qq T){H:eD}{a0:Int}{c:fM}{d:Bool}(hm:qa a0=some (c,d)):eZ prog T 237 [sI a0] H (AV.tuple [fM.av c,sB d]) H:=by
 rw[qa] at hm;have e:=g;refine wi acd func237 [] [] 3 ?_;simp[e];refine wj 999 999 (λf h=>∃(a:Nat),h=H/\f.1 0=sI a0/\f.1 2=AV.eC 2 a 0/\f.1 9=sB (fU (ue a0 1) true (sN a0 21))/\f.gen 2=a/\f.box 2=some [sB false,sB false,sI 0,sI 0,sI 0,sI 0,sI 0,sI 0]) (λj b=>?_) ?_
 ·rcases Pb (ue a0 1) e with e|e
  ·simp[e];exact b _ _ ⟨1,by simp[e]⟩
  simp[e];exact b _ _ ⟨1,by simp[e]⟩
 rintro i k ⟨a,E⟩;have e:=Aj e E;rcases Io e hm with⟨e,m⟩|⟨e,m⟩
 ·cases m;simp[e]
 have⟨l,e,m⟩:=ep e m;cases m;simp[e]
def tp(T:fa)(a:qq T){H:eD}{a0:Tm}{b c:Int}(hm:kK a0=some (b,c)):eZ prog T 240 [Tm.av a0] H (AV.tuple [sI b,sI c]) H:=by
 rw[kK] at hm;have e:=a;refine wi acd func240 [] [] 999 ?_;have⟨d,f,e,m⟩:=gv e hm;simp[e];refine Cf (xa T a e.2) ?_;rcases Io e m with⟨e,m⟩|⟨e,m⟩;rotate_left
 ·cases m;simp[e]
 rcases Io e m with⟨e,m⟩|⟨e,m⟩
 ·cases m;simp[e]
 cases m;simp[e]
def vK(T:fa){H:eD}{a0:et}{a1 a2:Int}{i:Bool}{a:et}{d:Nat}(b:H[d]?=some [sI a0.ab',sB a0.iB])(hm:iq a0 a1 a2=some (i,a)):eZ prog T 239 [AV.fO d 0,sI a1,sI a2] H (sB i) (gb H d [sI a.ab',sB a.iB]):=by
 rw[iq] at hm;have g:=fW b;refine fG.Iy b ?_;have e:=g;refine wi acd func239 [] [] 4 ?_;simp[e];refine wj 999 999 (λf h=>h=gb H d [sI (fU a0.iB (et.mk (fk .i64 a0.ab' a1) true) (et.mk (fk .i64 a0.ab' a1) (eH a2 4))).ab',sB (fU a0.iB (et.mk (fk .i64 a0.ab' a1) true) (et.mk (fk .i64 a0.ab' a1) (eH a2 4))).iB]/\f.1 2=sI a2) (λk c=>?_) ?_;rotate_left
 ·rintro j l E;have e:=Aj e E;cases hm;simp[e]
 rcases Pb a0.iB e with e|e
 ·simp[e];exact c _ _ (by simp[e])
 simp[e];exact c _ _ (by simp[e])
def AE(T:fa)(F:qq T):∀(n:Nat),(∀{H:eD} {a0:et} {a1:Pf} {G:Bool} {k:et} {j:Nat} (r:H[j]?=some [sI a0.ab',sB a0.iB]) (hm:i_ n a0 a1=some (G,k)),eZ prog T 189 [AV.fO j 0,Pf.av a1] H (sB G) (gb H j [sI k.ab',sB k.iB])):=by
  intro n
  induction n with
  |zero=>
    skip
    all_goals(intro _ _;intros;rename_i hm;cases hm)
  |succ n U=>
 intro H a0 a1 G k j r hm;rw[i_] at hm;have J:=fW r;refine fG.Iy r ?_;have e:=Aj F J;refine wi acd func189 [] [] 5 ?_;have⟨c,Q,e,m⟩:=gv e hm;simp[e];refine Cf (IW T F e.2) ?_;simp[e];refine wj 999 0 (λf h=>∃(i:Nat) (l:Nat),h=gb H j [sI a0.ab',sB a0.iB]/\f.1 0=AV.fO j 0/\f.1 3=AV.eC 3 i 0/\f.1 5=AV.eC 5 l 0/\f.1 61=sB (fU Q (fU (ue a1.aca 0) true (fU (eW a1.aca 0) (fU c.aca (fU (eW (eM a1.ej) c.ej) true (fU (eW (eM a1.fj) c.fj) true (eW (eM a1.ab_) c.ab_))) true) (fU (eW (eM a1.ej) c.ej) true (fU (eW (eM a1.fj) c.fj) true (eW (eM a1.ab_) c.ab_))))) true)/\f.gen 3=i/\f.box 3=some [sI a1.ab9,sI a1.aca,sI a1.dv.ab9,sL Ty.av a1.dv.ab_,sL Tm.av a1.ej,sL Fm.av a1.fj,sL Pf.av a1.ab_]/\f.gen 5=l/\f.box 5=some [sB c.aca,sB c.typed,sI c.ej,sI c.fj,sI c.ab_,sI c.sK,sI c.vars,sI c.acf]) (λK3 d=>?_) ?_
 ·rcases Pb Q e with e|e;rotate_left
  ·simp[e];exact d _ _ ⟨1,1,by simp[e]⟩
  rcases Pb (ue a1.aca 0) e with e|e
  ·simp[e];exact d _ _ ⟨1,1,by simp[e]⟩
  rcases Pb (eW a1.aca 0) e with e|e;rotate_left
  ·rcases Pb (eW (eM a1.ej) c.ej) e with e|e
   ·simp[e];exact d _ _ ⟨1,1,by simp[e]⟩
   rcases Pb (eW (eM a1.fj) c.fj) e with e|e
   ·simp[e];exact d _ _ ⟨1,1,by simp[e]⟩
   simp[e];exact d _ _ ⟨1,1,by simp[e]⟩
  rcases Pb c.aca e with e|e;rotate_left
  ·simp[e];exact d _ _ ⟨1,1,by simp[e]⟩
  rcases Pb (eW (eM a1.ej) c.ej) e with e|e
  ·simp[e];exact d _ _ ⟨1,1,by simp[e]⟩
  rcases Pb (eW (eM a1.fj) c.fj) e with e|e
  ·simp[e];exact d _ _ ⟨1,1,by simp[e]⟩
  simp[e];exact d _ _ ⟨1,1,by simp[e]⟩
 rintro V h5 ⟨i,l,E⟩;have e:=Aj e E;rcases Io e m with⟨e,m⟩|⟨e,m⟩
 ·apply wg 999;cases m;simp[e]
 apply wg 4;simp[e];refine Wj m 999 999 (λR f h=>∃(I:et) (g:Nat),(h=gb H j [sI I.ab',sB I.iB]/\f.1 0=AV.fO j 0/\f.1 3=AV.eC 3 g 0/\f.gen 3=g/\f.box 3=some [sI a1.ab9,sI a1.aca,sI a1.dv.ab9,sL Ty.av a1.dv.ab_,sL Tm.av a1.ej,sL Fm.av a1.fj,sL Pf.av a1.ab_])/\R I=some (G,k)) (λR K8 s m=>?_) ?_
 ·rcases Io e m with⟨e,m⟩|⟨e,m⟩
  ·have⟨W,X,e,m⟩:=gv e m;simp[e];refine Cf (oC e.2) ?_;rcases Io e m with⟨e,m⟩|⟨e,m⟩
   ·cases m;simp[e]
   simp[e];exact s _ _ ⟨(et.mk (fk .i64 a0.ab' 1) a0.iB),i,by simp[e],m⟩
  have⟨Y,e,m⟩:=ep e m;simp[e];refine Cf (w8 e.2) ?_;rcases Io e m with⟨e,m⟩|⟨e,m⟩;rotate_left
  ·cases m;simp[e]
  simp[e];exact s _ _ ⟨(et.mk (fk .i64 a0.ab' 1) a0.iB),i,by simp[e],m⟩
 rintro S Z ⟨I,g,E,m⟩;have e:=Aj e E;simp[e];refine Wr e m 999 (λt o f h=>∃(a:Nat),h=gb H j [sI o.ab',sB o.iB]/\f.1 0=AV.fO j 0/\f.1 3=AV.eC 3 a 0/\f.1 84=sL Tm.av a1.ej/\f.1 85=sI (eM a1.ej)/\f.1 86=sI t/\f.gen 3=a/\f.box 3=some [sI a1.ab9,sI a1.aca,sI a1.dv.ab9,sL Ty.av a1.dv.ab_,sL Tm.av a1.ej,sL Fm.av a1.fj,sL Pf.av a1.ab_]) ⟨g,by simp[e]⟩ (λo u K L E m=>?_) (λt aa o u K L ab ad E e m z21 v=>?_);rotate_left
 ·have⟨a,E⟩:=E;have e:=Aj e E;have⟨ae,af,e,m⟩:=gv e m;simp[e];refine Cf (tp T F e.2) ?_;have⟨ah,d26,e,m⟩:=gv e m;simp[e];refine Cf (vK T (by simp[e]) e.2) ?_;rcases Io e m with⟨e,m⟩|⟨e,m⟩;rotate_left
  ·cases m;cases z21;simp[e]
  simp[e];cases m;exact v _ _ _ ⟨a,by simp[e]⟩ z21
 have⟨a,E⟩:=E;have e:=Aj e E;dsimp only[ei]at m;simp[e];refine Wr e m 999 (λw p f h=>∃(b:Nat),h=gb H j [sI p.ab',sB p.iB]/\f.1 0=AV.fO j 0/\f.1 3=AV.eC 3 b 0/\f.1 99=sL Fm.av a1.fj/\f.1 100=sI (eM a1.fj)/\f.1 101=sI w/\f.gen 3=b/\f.box 3=some [sI a1.ab9,sI a1.aca,sI a1.dv.ab9,sL Ty.av a1.dv.ab_,sL Tm.av a1.ej,sL Fm.av a1.fj,sL Pf.av a1.ab_]) ⟨a,by simp[e]⟩ (λp x M N E m=>?_) (λw ai p x M N aj ak E e m y z=>?_);rotate_left
 ·have⟨b,E⟩:=E;have e:=Aj e E;have⟨al,an,e,m⟩:=gv e m;simp[e];refine Cf (qW T F e.2) ?_;have⟨ao,d39,e,m⟩:=gv e m;simp[e];refine Cf (vK T (by simp[e]) e.2) ?_;rcases Io e m with⟨e,m⟩|⟨e,m⟩;rotate_left
  ·cases m;cases y;simp[e]
  simp[e];cases m;exact z _ _ _ ⟨b,by simp[e]⟩ y
 have⟨b,E⟩:=E;have e:=Aj e E;dsimp only[ei]at m;simp[e];refine Wr e m 999 (λA q f h=>h=gb H j [sI q.ab',sB q.iB]/\f.1 0=AV.fO j 0/\f.1 114=sL Pf.av a1.ab_/\f.1 115=sI (eM a1.ab_)/\f.1 116=sI A) (by simp[e]) (λq B O P E m=>?_) (λA aq q B O P ar au E e m C D=>?_)
 ·have e:=Aj e E;dsimp only[ei]at m;cases m;simp[e]
 have e:=Aj e E;have⟨aw,d50,e,m⟩:=gv e m;simp[e];refine Cf (U (by simp[e]) e.2) ?_;rcases Io e m with⟨e,m⟩|⟨e,m⟩;rotate_left
 ·cases m;cases C;simp[e]
 simp[e];cases m;exact D _ _ _ (by simp[e]) C
def Bw(T:fa)(e:qq T){H:eD}{a0:et}{a1:Pf}{d:Bool}{a:et}{b:Nat}(c:H[b]?=some [sI a0.ab',sB a0.iB]){n:Nat}(hm:i_ n a0 a1=some (d,a)):eZ prog T 189 [AV.fO b 0,Pf.av a1] H (sB d) (gb H b [sI a.ab',sB a.iB]):=(AE T e n) c hm
def Ce(T:fa)(d:qq T){H:eD}{a0:Pf}{b c:Int}(hm:ry a0=some (b,c)):eZ prog T 138 [Pf.av a0] H (AV.tuple [sI b,sI c]) H:=by
 rw[ry] at hm;refine fG.tK (Post:=λx K=>x=AV.tuple [sI b,sI c]/\∃X,K=H++X) ?_ (λ_ _ h=>⟨_,h.2.choose_spec,by rw[h.1];simp[AV.low,AV.iZ],h.1,rfl⟩);have e:=d;refine wi acd func138 [6] [] 8 ?_;have⟨i,d2,e,m⟩:=gv e hm;simp[e];refine Cf (Bw T d (by simp[e]) e.2) ?_;simp[e];rcases Io e m with⟨e,m⟩|⟨e,m⟩;rotate_left
 ·apply wg 999;cases m;simp[e]
 apply wg 1;simp[e];refine wj 999 999 (λf h=>h=H++[[sI d2.ab',sB d2.iB]]/\f.1 4=AV.fO (List.length H) 0/\f.1 12=sB (fU d2.iB true (nX d2.ab' 16384))) (λj a=>?_) ?_;rotate_left
 ·rintro g k E;have e:=Aj e E;rcases Io e m with⟨e,m⟩|⟨e,m⟩
  ·cases m;simp[e]
  cases m;simp[e]
 rcases Pb d2.iB e with e|e
 ·simp[e];exact a _ _ (by simp[e])
 simp[e];exact a _ _ (by simp[e])
def Ih(T:fa)(a:qq T){H:eD}{a0:Pf}{b:Int}(hm:t_ a0=some b):eZ prog T 79 [Pf.av a0] H (sI b) H:=by
 rw[t_] at hm;have e:=a;refine wi acd func79 [] [] 999 ?_;have⟨c,d,e,m⟩:=gv e hm;simp[e];refine Cf (Ce T a e.2) ?_;cases m;simp[e]
def HD(T:fa){H:eD}{u:Unit}(hm:yr=some u):eZ prog T 80 [] H (AV.mh (List.length H)) (H++[[Li]]):=by
 refine wi acd func80 [] [] 999 ?_;simp;refine tJ.xQ lE uJ (by decide+kernel) (by decide+kernel) ?_;simp;refine tJ.xQ lE uJ (by decide+kernel) (by decide+kernel) ?_;simp;refine tJ.xQ lE uJ (by decide+kernel) (by decide+kernel) ?_;simp;refine tJ.xQ lE uJ (by decide+kernel) (by decide+kernel) ?_;simp;refine tJ.xQ lE uJ (by decide+kernel) (by decide+kernel) ?_;simp;refine tJ.xQ lE uJ (by decide+kernel) (by decide+kernel) ?_;simp;refine tJ.xQ lE uJ (by decide+kernel) (by decide+kernel) ?_;simp;refine tJ.xQ lE uJ (by decide+kernel) (by decide+kernel) ?_;simp;refine tJ.xQ lE uJ (by decide+kernel) (by decide+kernel) ?_;simp;refine tJ.xQ lE uJ (by decide+kernel) (by decide+kernel) ?_;simp;refine tJ.xQ lE uJ (by decide+kernel) (by decide+kernel) ?_;simp;refine tJ.xQ lE uJ (by decide+kernel) (by decide+kernel) ?_;simp;refine tJ.xQ lE uJ (by decide+kernel) (by decide+kernel) ?_;simp;refine tJ.xQ lE uJ (by decide+kernel) (by decide+kernel) ?_;simp;refine tJ.xQ lE uJ (by decide+kernel) (by decide+kernel) ?_;simp;refine tJ.xQ lE uJ (by decide+kernel) (by decide+kernel) ?_;simp;refine tJ.xQ lE uJ (by decide+kernel) (by decide+kernel) ?_;simp;refine tJ.xQ lE uJ (by decide+kernel) (by decide+kernel) ?_;simp;refine tJ.xQ lE uJ (by decide+kernel) (by decide+kernel) ?_;simp;refine tJ.xQ lE uJ (by decide+kernel) (by decide+kernel) ?_;simp;simp[Li,Ni,N2]
def om:C2 prog 154 gm eh.av eh.av Fm.av:=by
 intro T H a0 a1 r hm;rw[gm] at hm;have e:=trivial;refine wi acd func154 [] [] 999 ?_;have⟨e,m⟩:=Ck e hm;simp[e];refine Ad (f:=eu.av) a0.known [(eu.mk a1 a0.gn.vars)] (iX.full (D:=[])) Zq e.2 ?_;cases m;simp[e]
def Gt:C1 prog 82 sa eh.av Sq.av:=by
 intro T H a0 r hm;rw[sa] at hm;have e:=trivial;refine wi acd func82 [] [] 999 ?_;have⟨q,e,m⟩:=ep e hm;simp[e];refine Cf (wP e.2) ?_;simp[e];refine Wr e m 999 (λl d f h=>∃(c:Tag) (a:Nat) (b:Nat),h=H/\f.1 2=AV.eC 2 a 0/\f.1 3=AV.eC 3 b 0/\f.1 16=sL Fm.av a0.acf/\f.1 17=sI (eM a0.acf)/\f.1 18=sI l/\f.gen 2=a/\f.box 2=some [sI 0,sI 0,AV.slice .full [],AV.slice .full []]/\f.gen 3=b/\f.box 3=some [sI d.1,sI d.2.1,sL ed.av d.2.2.1,sT c eu.av d.2.2.2]) ⟨.full,1,1,by simp[e]⟩ (λd i n o E m=>?_) (λl s d i n o t u E e m z9 g=>?_)
 ·have⟨v11,v12,j,k⟩:=d;have⟨c,a,b,E⟩:=E;have e:=Aj e E;dsimp only[ei,RC]at m;cases m;simp[e]
 have⟨v11,v12,j,k⟩:=d;have⟨c,a,b,E⟩:=E;have e:=Aj e E;dsimp only[RC]at m;have⟨p,e,m⟩:=ep e m;simp[e];refine Cf (om e.2) ?_;simp[e];cases m;exact g _ _ _ ⟨.iP,a,b,by simp[e]⟩ z9
def kU:C1 prog 211 iN Tm.av sI:=by
 intro T H a0 r hm;rw[iN] at hm;have e:=trivial;refine wi acd func211 [] [] 999 ?_;cases hm;simp[e]
def H3(T:fa){H:eD}{a0 a1 b c:Int}{l:Tm}{q0 q1:Nat}(d:H[q0]?=some [sI b])(g:H[q1]?=some [sI c])(hm:tV a0 a1 b c=some l):eZ prog T 286 [sI a0,sI a1,AV.fO q0 0,AV.fO q1 0] H (Tm.av l) H:=by
 rw[tV] at hm;have j:=fW d;have k:=fW g;have e:=Aj (Aj (Aj j d) k) g;refine wi acd func286 [] [] 2 ?_;simp[e];refine wj 999 999 (λf h=>∃(a:Nat),h=H/\f.1 0=sI (fU (sN (fD .i64 a0 a1) b) (fk .i64 a0 c) a0)/\f.1 6=AV.eC 6 a 0/\f.gen 6=a/\f.box 6=some [sI 0,sI 0,sI 0,AV.slice .full [],AV.slice .full []]) (λo i=>?_) ?_;rotate_left
 ·rintro n p ⟨a,E⟩;have e:=Aj e E;have⟨q,e,m⟩:=ep e hm;simp[e];refine Cf (kU e.2) ?_;cases m;simp[e]
 rcases Pb (sN (fD .i64 a0 a1) b) e with e|e
 ·simp[e];exact i _ _ ⟨1,by simp[e]⟩
 simp[e];exact i _ _ ⟨1,by simp[e]⟩
def EU:∀(n:Nat),C1 prog 213 (kV n) Ty.av Ty.av:=by
  intro n
  induction n with
  |zero=>
   skip
   all_goals(intro _ _;intros;rename_i hm;cases hm)
  |succ n l=>
 intro T H a0 r hm;rw[kV] at hm;have e:=trivial;refine wi acd func213 [] [] 999 ?_;simp[e];refine Wr e hm 999 (λk s2 f h=>∃(a:Tag) (b:Nat) (c:Nat),(h=H/\f.1 2=AV.eC 2 b 0/\f.1 3=AV.eC 3 c 0/\f.1 10=sL Ty.av a0.ab_/\f.1 11=sI (eM a0.ab_)/\f.1 12=sI k/\f.gen 2=b/\f.box 2=some [sI 0,AV.slice .full []]/\f.gen 3=c/\f.box 3=some [sI a0.ab9,sT a Ty.av s2])/\Ow f [21] a s2) (by exact⟨.full,1,1,by simp[e],iX.full⟩) (λs2 g o p E m=>?_) (λk s s2 g o p n6 t E e m q i=>?_)
 ·have⟨a,b,c,E,d⟩:=E;have e:=Aj e E;dsimp only[ei]at m;cases m;simp[e]
 have⟨a,b,c,E,d⟩:=E;have e:=Aj e E;have⟨j,e,m⟩:=ep e m;simp[e];refine Cs (l e.2) ?_;have⟨e,m⟩:=Ck e m;simp[e];refine Ad (f:=Ty.av) s2 [j] d Fo e.2 ?_;simp[e];cases m;exact i _ _ _ ⟨(.loc 21 (g.fN 21+1)),b,c,by simp[e],(On 21)⟩ q
def sk{n:Nat}:C1 prog 213 (kV n) Ty.av Ty.av:=(EU n)
def Ci(T:fa):∀(n:Nat),(∀{S:Type} {st:S->eD} {k:Nat} {a0:Tm} {a1:Int} {r:(S->Int->Int->Option (Tm×S))} {l:S} {C:Tm} {t:S} {q0:Nat} {q1:Nat} {u:Nat} {v:List AV} (hF:BO st k) (o:∀s,(st s)[q0]?=some [AV.func (.func u) [] v]) (i:tz T u v st r) (p:∀s,(st s)[q1]?=some [AV.func (.func 303) [] [AV.fO q0 0,AV.fO q1 0]]) (hm:ia n a0 a1 r l=some (C,t)),eZ prog T 303 [Tm.av a0,sI a1,AV.fO q0 0,AV.fO q1 0] (st l) (Tm.av C) (st t)):=by
  intro n
  induction n with
  |zero=>
    skip
    all_goals(intro _ _;intros;rename_i hm;cases hm)
  |succ n L=>
 intro S st k a0 a1 r l C t q0 q1 u v hF o i p hm;rw[ia] at hm;have D:=λs=>fW (o s);have F:=λs=>fW (p s);have e:=Aj (Aj (Aj (Aj hF.len D) o) F) p;refine wi acd func303 [] [(9,false,[true,true,false,true,true,true,true,true,true,true])] 5 ?_;simp[e];rcases Io e hm with⟨e,m⟩|⟨e,m⟩
 ·apply wg 999;have⟨U,V,e,m⟩:=gv e m;simp[e];refine nc.TV (by rfl) (tz.XR i e.2) ?_;cases m;simp[e]
 apply wg 4;have⟨B,e,m⟩:=ep e m;simp[e];refine Cs (sk e.2) ?_;simp[e];refine wj 999 999 (λf h=>∃(j:Nat) (d:Nat) (g:Nat),h=st l/\f.1 1=sI (fU (eH a0.ab9 2) (fk .i64 a1 1) a1)/\f.1 3=AV.fO q1 0/\f.1 4=AV.eC 4 j 0/\f.1 6=AV.eC 6 d 0/\f.1 7=AV.eC 7 g 0/\f.gen 4=j/\f.box 4=some [sI a0.ab9,sI a0.aca,sI a0.dv.ab9,sL Ty.av a0.dv.ab_,sL Tm.av a0.ab_]/\f.gen 6=d/\f.box 6=some [sI 0,sI 0,sI 0,AV.slice .full [],AV.slice .full []]/\f.gen 7=g/\f.box 7=some [sI a0.ab9,sI a0.aca,sI B.ab9,sL Ty.av B.ab_,AV.slice .full []]) (λW x=>?_) ?_
 ·rcases Pb (eH a0.ab9 2) e with e|e
  ·simp[e];exact x _ _ ⟨1,1,1,by simp[e]⟩
  simp[e];exact x _ _ ⟨1,1,1,by simp[e]⟩
 rintro M X ⟨j,d,g,E⟩;have e:=Aj e E;simp[e];refine Wr e m 999 (λK w f h=>∃(a:Tag) (b:Nat) (c:Nat),(h=st w.2/\f.1 1=sI (fU (eH a0.ab9 2) (fk .i64 a1 1) a1)/\f.1 3=AV.fO q1 0/\f.1 6=AV.eC 6 b 0/\f.1 7=AV.eC 7 c 0/\f.1 32=sL Tm.av a0.ab_/\f.1 33=sI (eM a0.ab_)/\f.1 34=sI K/\f.gen 6=b/\f.box 6=some [sI 0,sI 0,sI 0,AV.slice .full [],AV.slice .full []]/\f.gen 7=c/\f.box 7=some [sI a0.ab9,sI a0.aca,sI B.ab9,sL Ty.av B.ab_,sT a Tm.av w.1])/\Ow f [45] a w.1) (by exact⟨.full,d,g,by simp[e],iX.full⟩) (λw y N G E m=>?_) (λK O w y N G P Q E e m H z=>?_)
 ·have⟨A,I⟩:=w;have⟨a,b,c,E,q⟩:=E;have e:=Aj e E;dsimp only[ei,nb]at m;cases m;simp[e]
 have⟨A,I⟩:=w;have⟨a,b,c,E,q⟩:=E;have e:=Aj e E;dsimp only[nb]at m;have⟨J,R,e,m⟩:=gv e m;simp[e];refine qJ.TV (by rfl) (L hF o i p e.2) (by simp) ?_;have⟨e,m⟩:=Ck e m;simp[e];refine Ad (f:=Tm.av) A [J] q Ct e.2 ?_;simp[e];cases m;exact z _ _ _ ⟨(.loc 45 (y.fN 45+1)),b,c,by simp[e],(On 45)⟩ H
def DQ(T:fa){S:Type}{st:S->eD}{k:Nat}{a0:Tm}{a1:Int}{a:(S->Int->Int->Option (Tm×S))}{b:S}{i:Tm}{c:S}{q0 q1 d:Nat}{e:List AV}(hF:BO st k)(g:∀s,(st s)[q0]?=some [AV.func (.func d) [] e])(f:tz T d e st a)(h:∀s,(st s)[q1]?=some [AV.func (.func 303) [] [AV.fO q0 0,AV.fO q1 0]]){n:Nat}(hm:ia n a0 a1 a b=some (i,c)):eZ prog T 303 [Tm.av a0,sI a1,AV.fO q0 0,AV.fO q1 0] (st b) (Tm.av i) (st c):=(Ci T n) hF g f h hm
def zG(T:fa){S:Type}{st:S->eD}{k:Nat}{a0:Tm}{a1:(S->Int->Int->Option (Tm×S))}{c:S}{d:Tm}{b:S}{g1:Nat}{a:List AV}(hF:BO st k)(f:tz T g1 a st a1)(hm:oU a0 a1 c=some (d,b)):eZ prog T 285 [Tm.av a0,AV.func (.func g1) [] a] (st c) (Tm.av d) (st b):=by
 rw[oU] at hm;refine fG.VH hF (Post:=λx K=>x=Tm.av d/\∃X,K=(st b)++X) ?_ (λ_ _ h=>⟨_,h.2.choose,h.2.choose_spec,by rw[h.1];simp[AV.low,AV.iZ],h.1,rfl⟩);have e:=hF.len;refine wi acd func285 [3,5] [] 999 ?_;have⟨g,s2,e,m⟩:=gv e hm;simp[e];refine nc.TV (by rfl) (DQ T (st:=λs=>st s++[[AV.func (.func g1) [] a],[AV.func (.func 303) [] [AV.fO k 0,AV.fO (k+1) 0]]]) (BO.ext hF _ (n:=k+2) (by simp)) (λ_=>(by simp[e])) (tz.ext f) (λ_=>(by simp[e])) e.2) ?_;cases m;simp[e]
def EL(T:fa){H:eD}{a0:Tm}{a1 a2:Int}{a:Tm}(hm:rY a0 a1 a2=some a):eZ prog T 254 [Tm.av a0,sI a1,sI a2] H (Tm.av a) H:=by
 rw[rY] at hm;refine fG.tK (Post:=λx K=>x=Tm.av a/\∃X,K=H++X) ?_ (λ_ _ h=>⟨_,h.2.choose_spec,by rw[h.1];simp[AV.low,AV.iZ],h.1,rfl⟩);have e:=trivial;refine wi acd func254 [4,5] [] 999 ?_;have⟨c,s2,e,m⟩:=gv e hm;simp[e];refine Cf (zG T (st:=λ_:Unit=>H++[[sI a1],[sI a2]]) (BO.const _) (λX _ _ _ _ _ h=>by obtain⟨b,rfl⟩:=vt h;exact H3 T (q0:=(List.length H)) (q1:=(List.length H+1)) (by simp[e]) (by simp[e]) b) e.2) ?_;cases m;simp[e]
def zl(T:fa){H:eD}{a0:Tm}{a1 a b:Int}{h:Tm}{q0 q1:Nat}(c:H[q0]?=some [sI a])(d:H[q1]?=some [sI b])(hm:m5 a0 a1 a b=some h):eZ prog T 253 [Tm.av a0,sI a1,AV.fO q0 0,AV.fO q1 0] H (Tm.av h) H:=by
 rw[m5] at hm;have f:=fW c;have g:=fW d;have e:=Aj (Aj (Aj f c) g) d;refine wi acd func253 [] [] 999 ?_;have⟨i,e,m⟩:=ep e hm;simp[e];refine Cf (EL T e.2) ?_;cases m;simp[e]
def wo:C1 prog 214 nA sB sI:=by
 intro T H a0 r hm;rw[nA] at hm;have e:=trivial;refine wi acd func214 [] [] 2 ?_;simp[e];refine wj 999 999 (λf h=>h=H/\f.1 2=sB (fU (sN a0 4) (MV a0 7) false)) (λc a=>?_) ?_;rotate_left
 ·rintro b d E;have e:=Aj e E;cases hm;simp[e]
 rcases Pb (sN a0 4) e with e|e
 ·simp[e];exact a _ _ (by simp[e])
 simp[e];exact a _ _ (by simp[e])
def yd(T:fa):∀(n:Nat),(∀{S:Type} {st:S->eD} {k:Nat} {a0:Fm} {a1:Int} {a2:(S->Tm->Int->Option (Tm×S))} {B:S} {M:Fm} {x:S} {g2:Nat} {p:List AV} (hF:BO st k) (C:CJ T g2 p st a2) (hm:fv n a0 a1 a2 B=some (M,x)),eZ prog T 155 [Fm.av a0,sI a1,AV.func (.func g2) [] p] (st B) (Fm.av M) (st x)):=by
  intro n
  induction n with
  |zero=>
    skip
    all_goals(intro _ _;intros;rename_i hm;cases hm)
  |succ n V=>
 intro S st k a0 a1 a2 B M x g2 p hF C hm;rw[fv] at hm;have e:=hF.len;refine wi acd func155 [] [] 999 ?_;have⟨G,e,m⟩:=ep e hm;simp[e];refine Cs (sk e.2) ?_;simp[e];refine Wr e m 0 (λR D f h=>∃(b:Tag) (g:Nat) (i:Nat) (j:Nat),(h=st D.2/\f.1 1=sI a1/\f.1 2=AV.func (.func g2) [] p/\f.1 3=AV.eC 3 g 0/\f.1 6=AV.eC 6 i 0/\f.1 7=AV.eC 7 j 0/\f.1 19=sL Tm.av a0.ej/\f.1 20=sI (eM a0.ej)/\f.1 21=sI R/\f.gen 3=g/\f.box 3=some [sI a0.ab9,sI a0.dv.ab9,sL Ty.av a0.dv.ab_,sL Tm.av a0.ej,sL Fm.av a0.ab_]/\f.gen 6=i/\f.box 6=some [sI 0,sI 0,AV.slice .full [],AV.slice .full [],AV.slice .full []]/\f.gen 7=j/\f.box 7=some [sI a0.ab9,sI G.ab9,sL Ty.av G.ab_,sT b Tm.av D.1,AV.slice .full []])/\Ow f [32] b D.1) (by exact⟨.full,1,1,1,by simp[e],iX.full⟩) (λD H W X E m=>?_) (λR x6 D H W X n7 c8 E e m z9 I=>?_);rotate_left
 ·have⟨v11,v12⟩:=D;have⟨b,g,i,j,E,v⟩:=E;have e:=Aj e E;dsimp only[nb]at m;apply wg 999;have⟨N,Y,e,m⟩:=gv e m;simp[e];refine qJ.TV (by rfl) (CJ.XR C e.2) (by simp) ?_;have⟨e,m⟩:=Ck e m;simp[e];refine Ad (f:=Tm.av) v11 [N] v Ct e.2 ?_;simp[e];cases m;exact I _ _ _ ⟨(.loc 32 (H.fN 32+1)),g,i,j,by simp[e],(On 32)⟩ z9
 have⟨v11,v12⟩:=D;have⟨b,g,i,j,E,v⟩:=E;have e:=Aj e E;apply wg 5;dsimp only[ei,nb]at m;simp[e];refine Wj m 999 999 (λJ f h=>∃(y:Int) (c:Tag) (s:Nat) (q:Nat) (r:Nat),(h=st v12/\f.1 1=sI y/\f.1 2=AV.func (.func g2) [] p/\f.1 3=AV.eC 3 s 0/\f.1 6=AV.eC 6 q 0/\f.1 7=AV.eC 7 r 0/\f.gen 3=s/\f.box 3=some [sI a0.ab9,sI a0.dv.ab9,sL Ty.av a0.dv.ab_,sL Tm.av a0.ej,sL Fm.av a0.ab_]/\f.gen 6=q/\f.box 6=some [sI 0,sI 0,AV.slice .full [],AV.slice .full [],AV.slice .full []]/\f.gen 7=r/\f.box 7=some [sI a0.ab9,sI G.ab9,sL Ty.av G.ab_,sT c Tm.av v11,AV.slice .full []])/\Ow f [32] c v11/\J y=some (M,x)) (λJ Z z m=>?_) ?_
 ·have⟨aa,e,m⟩:=ep e m;simp[e];refine Cf (wo e.2) ?_;rcases Io e m with⟨e,m⟩|⟨e,m⟩;rotate_left
  ·simp[e];exact z _ _ ⟨a1,b,g,i,j,by simp[e],v,m⟩
  simp[e];exact z _ _ ⟨(fk .i64 a1 1),b,g,i,j,by simp[e],v,m⟩
 rintro U ab ⟨y,c,s,q,r,E,F,m⟩;have e:=Aj e E;simp[e];refine Wr e m 999 (λK t f h=>∃(a:Tag) (d:Tag) (l:Nat) (o:Nat),(h=st t.2/\f.1 1=sI y/\f.1 2=AV.func (.func g2) [] p/\f.1 6=AV.eC 6 l 0/\f.1 7=AV.eC 7 o 0/\f.1 41=sL Fm.av a0.ab_/\f.1 42=sI (eM a0.ab_)/\f.1 43=sI K/\f.gen 6=l/\f.box 6=some [sI 0,sI 0,AV.slice .full [],AV.slice .full [],AV.slice .full []]/\f.gen 7=o/\f.box 7=some [sI a0.ab9,sI G.ab9,sL Ty.av G.ab_,sT a Tm.av v11,sT d Fm.av t.1])/\Ow f [32] a v11/\Ow f [54] d t.1) (by exact⟨c,.full,q,r,by simp[e],F,iX.full⟩) (λt A O P E m=>?_) (λK ad t A O P ae af E e m z28 L=>?_)
 ·have⟨v30,v31⟩:=t;have⟨a,d,l,o,E,w,u⟩:=E;have e:=Aj e E;dsimp only[ei,nb]at m;cases m;simp[e]
 have⟨v30,v31⟩:=t;have⟨a,d,l,o,E,w,u⟩:=E;have e:=Aj e E;dsimp only[nb]at m;have⟨Q,ah,e,m⟩:=gv e m;simp[e];refine Cs (V hF C e.2) ?_;have⟨e,m⟩:=Ck e m;simp[e];refine Ad (f:=Fm.av) v30 [Q] u DA e.2 ?_;simp[e];cases m;exact L _ _ _ ⟨a,(.loc 54 (A.fN 54+1)),l,o,by simp[e],(iX.other w u (by decide) (by decide)),(On 54)⟩ z28
def nk(T:fa){S:Type}{st:S->eD}{k:Nat}{a0:Fm}{a1:Int}{a2:(S->Tm->Int->Option (Tm×S))}{b:S}{e:Fm}{c:S}{g2:Nat}{a:List AV}(hF:BO st k)(d:CJ T g2 a st a2){n:Nat}(hm:fv n a0 a1 a2 b=some (e,c)):eZ prog T 155 [Fm.av a0,sI a1,AV.func (.func g2) [] a] (st b) (Fm.av e) (st c):=(yd T n) hF d hm
def o0(T:fa){H:eD}{a0:Fm}{a1 a2:Int}{a:Fm}(hm:fS a0 a1 a2=some a):eZ prog T 206 [Fm.av a0,sI a1,sI a2] H (Fm.av a) H:=by
 rw[fS] at hm;refine fG.tK (Post:=λx K=>x=Fm.av a/\∃X,K=H++X) ?_ (λ_ _ h=>⟨_,h.2.choose_spec,by rw[h.1];simp[AV.low,AV.iZ],h.1,rfl⟩);have e:=trivial;refine wi acd func206 [4,5] [] 999 ?_;have⟨c,s2,e,m⟩:=gv e hm;simp[e];refine Cf (nk T (st:=λ_:Unit=>H++[[sI a1],[sI a2]]) (BO.const _) (λX _ _ _ _ _ h=>by obtain⟨b,rfl⟩:=vt h;exact zl T (q0:=(List.length H)) (q1:=(List.length H+1)) (by simp[e]) (by simp[e]) b) e.2) ?_;cases m;simp[e]
def BG:C2 prog 190 lh (t2 Fm.av sB) eh.av sI:=by
 intro T H a0 a1 r hm;rw[lh] at hm;have e:=trivial;refine wi acd func190 [] [] 999 ?_;rcases Io e hm with⟨e,m⟩|⟨e,m⟩
 ·cases m;simp[e]
 have⟨a,e,m⟩:=ep e m;have⟨b,e,m⟩:=ep e m;simp[e];refine Cf (o0 T e.2) ?_;cases m;simp[e]
def zJ(T:fa){H:eD}{a0:List Fm}{a1:Pf}{a2:eh}{b:ec}{c:Int}{d:Nat}(a:KC H d a0)(hm:pd a0 a1 a2=some (b,c)):eZ prog T 139 [AV.fO d 0,Pf.av a1,eh.av a2] H (AV.tuple [ec.av b,sI c]) H:=by
 rw[pd] at hm;have e:=a;refine wi acd func139 [] [] 999 ?_;have⟨f,g,e,m⟩:=gv e hm;simp[e];refine Cf (BG e.2) ?_;rcases Io e m with⟨e,m⟩|⟨e,m⟩
 ·cases m;simp[e]
 cases m;simp[e]
def yF(T:fa){H:eD}{a0:List Fm}{a1:Pf}{a2:eh}{b:ec}{c:Int}{d:Nat}(a:KC H d a0)(hm:nO a0 a1 a2=some (b,c)):eZ prog T 140 [AV.fO d 0,Pf.av a1,eh.av a2] H (AV.tuple [ec.av b,sI c]) H:=by
 rw[nO] at hm;have e:=a;refine wi acd func140 [] [(1,true,[]),(3,true,[])] 999 ?_;rcases Io e hm with⟨e,m⟩|⟨e,m⟩
 ·cases m;simp[e]
 have⟨f,e,m⟩:=ep e m;cases m;simp[e]
def ER:C2 prog 191 Ak Fm.av sI (sL Fm.av):=by
 intro T H a0 a1 r hm;rw[Ak] at hm;have e:=trivial;refine wi acd func191 [] [] 999 ?_;cases hm;simp[e]
def nN:C3 prog 193 eV sI fg.av sI sI:=by
 intro T H a0 a1 a2 r hm;rw[eV] at hm;have e:=trivial;refine wi acd func193 [] [] 3 ?_;simp[e];refine wj 999 999 (λf h=>h=H/\f.1 18=sB (fU (nX (fk .i64 a0.vars a1) 16) true (nX (fk .i64 a0.acf a2) 16))) (λc a=>?_) ?_;rotate_left
 ·rintro b d E;have e:=Aj e E;rcases Io e hm with⟨e,m⟩|⟨e,m⟩
  ·cases m;simp[e]
  cases m;simp[e]
 rcases Pb (nX (fk .i64 a0.vars a1) 16) e with e|e
 ·simp[e];exact a _ _ (by simp[e])
 simp[e];exact a _ _ (by simp[e])
def wU(T:fa)(a:qq T){H:eD}{a0:Tm}{b:Int}(hm:qw a0=some b):eZ prog T 266 [Tm.av a0] H (sI b) H:=by
 rw[qw] at hm;have e:=a;refine wi acd func266 [] [] 999 ?_;have⟨c,d,e,m⟩:=gv e hm;simp[e];refine Cf (tp T a e.2) ?_;cases m;simp[e]
def DI:∀(n:Nat),C2 prog 292 (jc n) sB Tm.av Tm.av:=by
  intro n
  induction n with
  |zero=>
    skip
    all_goals(intro _ _;intros;rename_i hm;cases hm)
  |succ n q=>
 intro T H a0 a1 r hm;rw[jc] at hm;have e:=trivial;refine wi acd func292 [] [] 3 ?_;simp[e];refine Wj hm 999 999 (λl f h=>∃(v2:Bool) (c:Nat) (b:Nat),(h=H/\f.1 2=AV.eC 2 c 0/\f.1 3=AV.eC 3 b 0/\f.1 35=sB v2/\f.gen 2=c/\f.box 2=some [sI a0.ab9,sI a0.aca,sI a0.dv.ab9,sL Ty.av a0.dv.ab_,sL Tm.av a0.ab_]/\f.gen 3=b/\f.box 3=some [sI a1.ab9,sI a1.aca,sI a1.dv.ab9,sL Ty.av a1.dv.ab_,sL Tm.av a1.ab_])/\l v2=some r) (λl z d m=>?_) ?_
 ·rcases Io e m with⟨e,m⟩|⟨e,m⟩
  ·simp[e];exact d _ _ ⟨true,1,1,by simp[e],m⟩
  rcases Io e m with⟨e,m⟩|⟨e,m⟩
  ·simp[e];exact d _ _ ⟨true,1,1,by simp[e],m⟩
  have⟨A,e,m⟩:=ep e m;simp[e];refine Cf (pB e.2) ?_;rcases Io e m with⟨e,m⟩|⟨e,m⟩;rotate_left
  ·simp[e];exact d _ _ ⟨true,1,1,by simp[e],m⟩
  simp[e];exact d _ _ ⟨(eW (eM a0.ab_) (eM a1.ab_)),1,1,by simp[e],m⟩
 rintro s B ⟨v2,c,b,E,m⟩;have e:=Aj e E;rcases Io e m with⟨e,m⟩|⟨e,m⟩
 ·cases m;simp[e]
 simp[e];refine Wr e m 999 (λo p f h=>∃(a:Nat),h=H/\f.1 3=AV.eC 3 a 0/\f.1 37=sL Tm.av a0.ab_/\f.1 38=sI (eM a0.ab_)/\f.1 39=sI o/\f.gen 3=a/\f.box 3=some [sI a1.ab9,sI a1.aca,sI a1.dv.ab9,sL Ty.av a1.dv.ab_,sL Tm.av a1.ab_]) ⟨b,by simp[e]⟩ (λp j t k E m=>?_) (λo u p j t k v w E e m g i=>?_)
 ·have⟨a,E⟩:=E;have e:=Aj e E;dsimp only[ei]at m;cases m;simp[e]
 have⟨a,E⟩:=E;have e:=Aj e E;have⟨x,e,m⟩:=ep e m;have⟨y,e,m⟩:=ep e m;simp[e];refine Cs (q e.2) ?_;rcases Io e m with⟨e,m⟩|⟨e,m⟩;rotate_left
 ·cases m;cases g;simp[e]
 simp[e];cases m;exact i _ _ _ ⟨a,by simp[e]⟩ g
def yO{n:Nat}:C2 prog 292 (jc n) sB Tm.av Tm.av:=(DI n)
def B8:C2 prog 267 rD sB Tm.av Tm.av:=by
 intro T H a0 a1 r hm;rw[rD] at hm;have e:=trivial;refine wi acd func267 [] [] 999 ?_;have⟨a,e,m⟩:=ep e hm;simp[e];refine Cf (yO e.2) ?_;cases m;simp[e]
def Ip(T:fa){H:eD}{a0 a1:Int}{a b:Bool}{q0:Nat}(c:H[q0]?=some [sB a])(hm:r9 a0 a1 a=some b):eZ prog T 298 [sI a0,sI a1,AV.fO q0 0] H (AV.tuple []) (gb H q0 [sB b]):=by
 rw[r9] at hm;have d:=fW c;refine fG.Iy c ?_;have e:=d;refine wi acd func298 [] [] 999 ?_;rcases Io e hm with⟨e,m⟩|⟨e,m⟩
 ·cases m;simp[e]
 cases m;simp[e]
def F8(T:fa):∀(n:Nat),(∀{S:Type} {st:S->eD} {k:Nat} {a0:Tm} {a1:Int} {l:(S->Int->Int->Option (S))} {d:S} {g:S} {q0:Nat} {q1:Nat} {o:Nat} {p:List AV} (hF:BO st k) (i:∀s,(st s)[q0]?=some [AV.func (.func o) [] p]) (b:tw T o p st l) (j:∀s,(st s)[q1]?=some [AV.func (.func 274) [] [AV.fO q0 0,AV.fO q1 0]]) (hm:jV n a0 a1 l d=some g),eZ prog T 274 [Tm.av a0,sI a1,AV.fO q0 0,AV.fO q1 0] (st d) (AV.tuple []) (st g)):=by
  intro n
  induction n with
  |zero=>
    skip
    all_goals(intro _ _;intros;rename_i hm;cases hm)
  |succ n D=>
 intro S st k a0 a1 l d g q0 q1 o p hF i b j hm;rw[jV] at hm;have x:=λs=>fW (i s);have y:=λs=>fW (j s);have e:=Aj (Aj (Aj (Aj hF.len x) i) y) j;refine wi acd func274 [] [] 2 ?_;simp[e];refine Wj hm 999 0 (λC f h=>∃(v2:S) (a:Nat),(h=st v2/\f.1 1=sI a1/\f.1 3=AV.fO q1 0/\f.1 4=AV.eC 4 a 0/\f.gen 4=a/\f.box 4=some [sI a0.ab9,sI a0.aca,sI a0.dv.ab9,sL Ty.av a0.dv.ab_,sL Tm.av a0.ab_])/\C v2=some g) (λC M r m=>?_) ?_
 ·rcases Io e m with⟨e,m⟩|⟨e,m⟩;rotate_left
  ·simp[e];exact r _ _ ⟨d,1,by simp[e],m⟩
  have⟨F,e,m⟩:=ep e m;simp[e];refine nc.TV (by rfl) (tw.XR b e.2) ?_;simp[e];exact r _ _ ⟨F,1,by simp[e],m⟩
 rintro G N ⟨v2,a,E,m⟩;have e:=Aj e E;refine wj 999 999 (λf h=>∃(c:Nat),h=st v2/\f.1 1=sI (fU (eH a0.ab9 2) (fk .i64 a1 1) a1)/\f.1 3=AV.fO q1 0/\f.1 4=AV.eC 4 c 0/\f.gen 4=c/\f.box 4=some [sI a0.ab9,sI a0.aca,sI a0.dv.ab9,sL Ty.av a0.dv.ab_,sL Tm.av a0.ab_]) (λO t=>?_) ?_
 ·rcases Pb (eH a0.ab9 2) e with e|e
  ·simp[e];exact t _ _ ⟨a,by simp[e]⟩
  simp[e];exact t _ _ ⟨a,by simp[e]⟩
 rintro H P ⟨c,E⟩;have e:=Aj e E;simp[e];refine Wr e m 999 (λu q f h=>h=st q/\f.1 1=sI (fU (eH a0.ab9 2) (fk .i64 a1 1) a1)/\f.1 3=AV.fO q1 0/\f.1 22=sL Tm.av a0.ab_/\f.1 23=sI (eM a0.ab_)/\f.1 24=sI u) (by simp[e]) (λq v z A E m=>?_) (λu I q v z A J K E e m B w=>?_)
 ·have e:=Aj e E;dsimp only[ei]at m;cases m;simp[e]
 have e:=Aj e E;have⟨L,e,m⟩:=ep e m;simp[e];refine nc.TV (by rfl) (D hF i b j e.2) ?_;simp[e];cases m;exact w _ _ _ (by simp[e]) B
def HJ(T:fa){S:Type}{st:S->eD}{k:Nat}{a0:Tm}{a1:Int}{a:(S->Int->Int->Option (S))}{b c:S}{q0 q1 d:Nat}{e:List AV}(hF:BO st k)(g:∀s,(st s)[q0]?=some [AV.func (.func d) [] e])(f:tw T d e st a)(h:∀s,(st s)[q1]?=some [AV.func (.func 274) [] [AV.fO q0 0,AV.fO q1 0]]){n:Nat}(hm:jV n a0 a1 a b=some c):eZ prog T 274 [Tm.av a0,sI a1,AV.fO q0 0,AV.fO q1 0] (st b) (AV.tuple []) (st c):=(F8 T n) hF g f h hm
def zd(T:fa){S:Type}{st:S->eD}{k:Nat}{a0:Tm}{a1:(S->Int->Int->Option (S))}{c b:S}{g1:Nat}{a:List AV}(hF:BO st k)(d:tw T g1 a st a1)(hm:rO a0 a1 c=some b):eZ prog T 243 [Tm.av a0,AV.func (.func g1) [] a] (st c) (AV.tuple []) (st b):=by
 rw[rO] at hm;refine fG.VH hF (Post:=λx K=>x=AV.tuple []/\∃X,K=(st b)++X) ?_ (λ_ _ h=>⟨_,h.2.choose,h.2.choose_spec,by rw[h.1];simp[AV.low,AV.iZ],h.1,rfl⟩);have e:=hF.len;refine wi acd func243 [3,4] [] 999 ?_;have⟨s1,e,m⟩:=ep e hm;simp[e];refine nc.TV (by rfl) (HJ T (st:=λs=>st s++[[AV.func (.func g1) [] a],[AV.func (.func 274) [] [AV.fO k 0,AV.fO (k+1) 0]]]) (BO.ext hF _ (n:=k+2) (by simp)) (λ_=>(by simp[e])) (tw.ext d) (λ_=>(by simp[e])) e.2) ?_;cases m;simp[e]
def LP(T:fa){H:eD}{a0:Tm}{a:Bool}(hm:xq a0=some a):eZ prog T 280 [Tm.av a0] H (sB a) H:=by
 rw[xq] at hm;refine fG.tK (Post:=λx K=>x=sB a/\∃X,K=H++X) ?_ (λ_ _ h=>⟨_,h.2.choose_spec,by rw[h.1];simp[AV.low,AV.iZ],h.1,rfl⟩);have e:=trivial;refine wi acd func280 [3] [] 999 ?_;have⟨s1,e,m⟩:=ep e hm;simp[e];refine Cf (zd T (st:=λs:Bool=>H++[[sB s]]) (BO.RK H (λs:Bool=>[[sB s]]) 1 (λ_=>rfl) (by simp[AV.low,AV.iZ])) (λX s _ _ b h=>by have:=Ip T (H:=H++[[sB s]]++X) (q0:=(List.length H)) (by simp[e]) h;simpa using this) e.2) ?_;cases m;simp[e]
def ra(T:fa){H:eD}{a0 a1:Int}{a2:Ty}{a3:(List (Option Nat))}{nh:List HC}{C:Option Nat}{p:List HC}(hm:kx a0 a1 a2 a3 nh=some (C,p)):eZ prog T 299 [sI a0,sI a1,Ty.av a2,sL (m0 (List.length H)) a3] (H++iJ (List.length H) nh) (m0 (List.length H) C) (H++iJ (List.length H) p):=by
 rw[kx] at hm;have e:=trivial;refine wi acd func299 [17] [(5,false,[true,true,true,false,true,true,true,false,true,true,true,false]),(6,false,[true,true,true,true,false,true,true,true,false,true,true,true,false])] 999 ?_;have D:iJ (List.length H) nh++[[sI a0,sI a1,sI a2.ab9,sL Ty.av a2.ab_,sL (m0 (List.length H)) a3,sI 1,sI 0,sB false]]=iJ (List.length H) (nh++[HC.eS (eR.mk a0 a1 a2 a3 1 0 false)]):=Ju rfl;have e:=Aj e D;have F:(nh++[HC.eS (eR.mk a0 a1 a2 a3 1 0 false)])[(List.length nh)]?=some (HC.eS (eR.mk a0 a1 a2 a3 1 0 false)):=Pg;have e:=Aj e F;simp[e];refine Wr e hm 0 (λJ g f h=>h=H++iJ (List.length H) g/\f.1 0=sI a0/\f.1 1=sI a1/\f.1 9=AV.fO (List.length H+(List.length nh)) 0/\f.1 18=sL (m0 (List.length H)) a3/\f.1 19=sI (eM a3)/\f.1 20=sI J) (by simp[e]) (λg G M N E m=>?_) (λJ R g G M N S U E e m I r=>?_);rotate_left
 ·have e:=Aj e E;have K:=e;apply wg 999;have⟨a,e,m⟩:=ep e m;have k:=HC.eA e.2;have e:=Aj e.1 k;have⟨O,e,m⟩:=ep e m;have⟨d,e,m⟩:=ep e m;have s:=HC.eA e.2;have e:=Aj e.1 s;have t:gb (iJ (List.length H) g) (List.length nh) [sI a.ab9,sI a.aca,sI a.pN.ab9,sL Ty.av a.pN.ab_,sL (m0 (List.length H)) a.ab_,sI (fk .i64 a.size d.size),sI a.free,sB a.normal]=iJ (List.length H) (kE g (List.length nh) (HC.eS (eR.mk a.ab9 a.aca a.pN a.ab_ (fk .i64 a.size d.size) a.free a.normal))):=qo rfl;have e:=Aj e t;have l:(kE g (List.length nh) (HC.eS (eR.mk a.ab9 a.aca a.pN a.ab_ (fk .i64 a.size d.size) a.free a.normal)))[(List.length nh)]?=some (HC.eS (eR.mk a.ab9 a.aca a.pN a.ab_ (fk .i64 a.size d.size) a.free a.normal)):=wD k;have e:=Aj e l;have⟨j,e,m⟩:=ep e m;have u:=HC.eA e.2;have e:=Aj e.1 u;have v:gb (iJ (List.length H) (kE g (List.length nh) (HC.eS (eR.mk a.ab9 a.aca a.pN a.ab_ (fk .i64 a.size d.size) a.free a.normal)))) (List.length nh) [sI a.ab9,sI a.aca,sI a.pN.ab9,sL Ty.av a.pN.ab_,sL (m0 (List.length H)) a.ab_,sI (fk .i64 a.size d.size),sI (imax a.free j.free),sB a.normal]=iJ (List.length H) (kE (kE g (List.length nh) (HC.eS (eR.mk a.ab9 a.aca a.pN a.ab_ (fk .i64 a.size d.size) a.free a.normal))) (List.length nh) (HC.eS (eR.mk a.ab9 a.aca a.pN a.ab_ (fk .i64 a.size d.size) (imax a.free j.free) a.normal))):=qo rfl;have e:=Aj e v;have w:(kE (kE g (List.length nh) (HC.eS (eR.mk a.ab9 a.aca a.pN a.ab_ (fk .i64 a.size d.size) a.free a.normal))) (List.length nh) (HC.eS (eR.mk a.ab9 a.aca a.pN a.ab_ (fk .i64 a.size d.size) (imax a.free j.free) a.normal)))[(List.length nh)]?=some (HC.eS (eR.mk a.ab9 a.aca a.pN a.ab_ (fk .i64 a.size d.size) (imax a.free j.free) a.normal)):=wD l;have e:=Aj e w;simp[e];cases m;exact r _ _ _ (by simp[e]) I
 have e:=Aj e E;apply wg 5;dsimp only[ei]at m;simp[e];refine Wj m 999 999 (λx f h=>∃(q:List HC),(h=H++iJ (List.length H) q/\f.1 9=AV.fO (List.length H+(List.length nh)) 0)/\x q=some (C,p)) (λx P i m=>?_) ?_;rotate_left
 ·rintro L Q ⟨q,E,m⟩;have e:=Aj e E;cases m;simp[e]
 rcases Io e m with⟨e,m⟩|⟨e,m⟩
 ·have⟨c,e,m⟩:=ep e m;have n:=HC.eA e.2;have e:=Aj e.1 n;have y:gb (iJ (List.length H) g) (List.length nh) [sI c.ab9,sI c.aca,sI c.pN.ab9,sL Ty.av c.pN.ab_,sL (m0 (List.length H)) c.ab_,sI c.size,sI (fk .i64 a1 1),sB c.normal]=iJ (List.length H) (kE g (List.length nh) (HC.eS (eR.mk c.ab9 c.aca c.pN c.ab_ c.size (fk .i64 a1 1) c.normal))):=qo rfl;have e:=Aj e y;have z:(kE g (List.length nh) (HC.eS (eR.mk c.ab9 c.aca c.pN c.ab_ c.size (fk .i64 a1 1) c.normal)))[(List.length nh)]?=some (HC.eS (eR.mk c.ab9 c.aca c.pN c.ab_ c.size (fk .i64 a1 1) c.normal)):=wD n;have e:=Aj e z;simp[e];exact i _ _ ⟨(kE g (List.length nh) (HC.eS (eR.mk c.ab9 c.aca c.pN c.ab_ c.size (fk .i64 a1 1) c.normal))),by simp[e],m⟩
 rcases Io e m with⟨e,m⟩|⟨e,m⟩;rotate_left
 ·simp[e];exact i _ _ ⟨g,by simp[e],m⟩
 have⟨b,e,m⟩:=ep e m;have o:=HC.eA e.2;have e:=Aj e.1 o;have A:gb (iJ (List.length H) g) (List.length nh) [sI b.ab9,sI b.aca,sI b.pN.ab9,sL Ty.av b.pN.ab_,sL (m0 (List.length H)) b.ab_,sI b.size,sI (imax 0 (fD .i64 b.free 1)),sB b.normal]=iJ (List.length H) (kE g (List.length nh) (HC.eS (eR.mk b.ab9 b.aca b.pN b.ab_ b.size (imax 0 (fD .i64 b.free 1)) b.normal))):=qo rfl;have e:=Aj e A;have B:(kE g (List.length nh) (HC.eS (eR.mk b.ab9 b.aca b.pN b.ab_ b.size (imax 0 (fD .i64 b.free 1)) b.normal)))[(List.length nh)]?=some (HC.eS (eR.mk b.ab9 b.aca b.pN b.ab_ b.size (imax 0 (fD .i64 b.free 1)) b.normal)):=wD o;have e:=Aj e B;simp[e];exact i _ _ ⟨(kE g (List.length nh) (HC.eS (eR.mk b.ab9 b.aca b.pN b.ab_ b.size (imax 0 (fD .i64 b.free 1)) b.normal))),by simp[e],m⟩
def HX(T:fa):∀(n:Nat),(∀{H:eD} {a0:Tm} {nh:List HC} {i:Option Nat} {d:List HC} (hm:p8 n a0 nh=some (i,d)),eZ prog T 281 [Tm.av a0] (H++iJ (List.length H) nh) (m0 (List.length H) i) (H++iJ (List.length H) d)):=by
  intro n
  induction n with
  |zero=>
   skip
   all_goals(intro _ _;intros;rename_i hm;cases hm)
  |succ n r=>
 intro H a0 nh i d hm;rw[p8] at hm;have e:=trivial;refine wi acd func281 [] [] 999 ?_;simp[e];refine Wr e hm 999 (λl s2 f h=>∃(a:Tag) (b:Nat),(h=H++iJ (List.length H) s2.2/\f.1 1=AV.eC 1 b 0/\f.1 3=sT a (m0 (List.length H)) s2.1/\f.1 7=sL Tm.av a0.ab_/\f.1 8=sI (eM a0.ab_)/\f.1 9=sI l/\f.gen 1=b/\f.box 1=some [sI a0.ab9,sI a0.aca,sI a0.dv.ab9,sL Ty.av a0.dv.ab_,sL Tm.av a0.ab_])/\Ow f [17] a s2.1) (by exact⟨.full,1,by simp[e],iX.full⟩) (λs2 g s t E m=>?_) (λl w s2 g s t n6 x E e m u j=>?_)
 ·have⟨v10,v11⟩:=s2;have⟨a,b,E,c⟩:=E;have e:=Aj e E;dsimp only[ei,nb]at m;have⟨v,o,e,m⟩:=gv e m;simp[e];refine Cf (ra T (H:=H) e.2) ?_;cases m;simp[e]
 have⟨v10,v11⟩:=s2;have⟨a,b,E,c⟩:=E;have e:=Aj e E;have p:=e;dsimp only[nb]at m;have⟨k,q,e,m⟩:=gv e m;simp[e];refine Cf (r (H:=H) e.2) ?_;have⟨e,m⟩:=Ck e m;simp[e];refine Ao (f:=(m0 (List.length H))) v10 [k] c Pu e.2 ?_;simp[e];cases m;exact j _ _ _ ⟨(.loc 17 (g.fN 17+1)),b,by simp[e],(On 17)⟩ u
def KN(T:fa){H:eD}{a0:Tm}{nh:List HC}{b:Option Nat}{a:List HC}{n:Nat}(hm:p8 n a0 nh=some (b,a)):eZ prog T 281 [Tm.av a0] (H++iJ (List.length H) nh) (m0 (List.length H) b) (H++iJ (List.length H) a):=(HX T n) hm
def CQ(T:fa){H:eD}{a0:Option Nat}{nh:List HC}{b:Int}(hm:rz a0 nh=some b):eZ prog T 301 [m0 (List.length H) a0] (H++iJ (List.length H) nh) (sI b) (H++iJ (List.length H) nh):=by
 rw[rz] at hm;have e:=trivial;refine wi acd func301 [] [] 999 ?_;have⟨c,e,m⟩:=ep e hm;have⟨d,e,m⟩:=ep e m;have a:=HC.eA e.2;have e:=Aj e.1 a;cases m;simp[e]
def vF(T:fa){H:eD}{a0:Option Nat}{nh:List HC}{l:Bool}(hm:mT a0 nh=some l):eZ prog T 302 [m0 (List.length H) a0] (H++iJ (List.length H) nh) (sB l) (H++iJ (List.length H) nh):=by
 rw[mT] at hm;have e:=trivial;refine wi acd func302 [] [] 8 ?_;have⟨L,e,m⟩:=ep e hm;have⟨n,e,m⟩:=ep e m;have o:=HC.eA e.2;have e:=Aj e.1 o;simp[e];rcases Io e m with⟨e,m⟩|⟨e,m⟩
 ·apply wg 999;have⟨M,e,m⟩:=ep e m;have⟨N,e,m⟩:=ep e m;have⟨O,e,m⟩:=ep e m;have p:=HC.eA e.2;have e:=Aj e.1 p;cases m;simp[e]
 apply wg 3;simp[e];rcases Io e m with⟨e,m⟩|⟨e,m⟩
 ·apply wg 1;simp[e];refine Wj m 999 999 (λs f h=>∃(v9:Bool),(h=H++iJ (List.length H) nh/\f.1 2=sB v9)/\s v9=some l) (λs w a m=>?_) ?_;rotate_left
  ·rintro t x ⟨v9,E,m⟩;have e:=Aj e E;cases m;simp[e]
  have⟨y,e,m⟩:=ep e m;have⟨z,e,m⟩:=ep e m;have⟨q,e,m⟩:=ep e m;have g:=HC.eA e.2;have e:=Aj e.1 g;rcases Io e m with⟨e,m⟩|⟨e,m⟩
  ·simp[e];exact a _ _ ⟨true,by simp[e],m⟩
  simp[e];exact a _ _ ⟨(eH q.ab9 5),by simp[e],m⟩
 apply wg 4;rcases Io e m with⟨e,m⟩|⟨e,m⟩
 ·simp[e];refine Wj m 999 999 (λi f h=>∃(d:Bool),(h=H++iJ (List.length H) nh/\f.1 2=sB d)/\i d=some l) (λi A b m=>?_) ?_;rotate_left
  ·rintro u B ⟨d,E,m⟩;have e:=Aj e E;cases m;simp[e]
  have⟨C,e,m⟩:=ep e m;have⟨D,e,m⟩:=ep e m;have⟨r,e,m⟩:=ep e m;have j:=HC.eA e.2;have e:=Aj e.1 j;rcases Io e m with⟨e,m⟩|⟨e,m⟩
  ·simp[e];exact b _ _ ⟨true,by simp[e],m⟩
  simp[e];exact b _ _ ⟨(eH r.ab9 8),by simp[e],m⟩
 simp[e];refine wj 999 999 (λf h=>h=H++iJ (List.length H) nh/\f.1 0=m0 (List.length H) a0/\f.1 67=sB (fU (eH n.ab9 11) true (eH n.ab9 12))) (λF c=>?_) ?_
 ·rcases Pb (eH n.ab9 11) e with e|e
  ·simp[e];exact c _ _ (by simp[e])
  simp[e];exact c _ _ (by simp[e])
 rintro v G E;have e:=Aj e E;rcases Io e m with⟨e,m⟩|⟨e,m⟩;rotate_left
 ·cases m;simp[e]
 have⟨I,e,m⟩:=ep e m;have⟨J,e,m⟩:=ep e m;have⟨K,e,m⟩:=ep e m;have k:=HC.eA e.2;have e:=Aj e.1 k;cases m;simp[e]
def rC(T:fa){H:eD}{a0:Option Nat}{nh:List HC}{b:Int}(hm:jb a0 nh=some b):eZ prog T 317 [m0 (List.length H) a0] (H++iJ (List.length H) nh) (sI b) (H++iJ (List.length H) nh):=by
 rw[jb] at hm;have e:=trivial;refine wi acd func317 [] [] 999 ?_;have⟨c,e,m⟩:=ep e hm;have⟨d,e,m⟩:=ep e m;have a:=HC.eA e.2;have e:=Aj e.1 a;rcases Io e m with⟨e,m⟩|⟨e,m⟩
 ·cases m;simp[e]
 cases m;simp[e]
def Av(T:fa):∀(n:Nat),(∀{H:eD} {a0:Option Nat} {a1:Int} {nh:List HC} {b:Int} (hm:kz n a0 a1 nh=some b),eZ prog T 311 [m0 (List.length H) a0,sI a1] (H++iJ (List.length H) nh) (sI b) (H++iJ (List.length H) nh)):=by
  intro n
  induction n with
  |zero=>
    skip
    all_goals(intro _ _;intros;rename_i hm;cases hm)
  |succ n o=>
 intro H a0 a1 nh b hm;rw[kz] at hm;have e:=trivial;refine wi acd func311 [] [] 999 ?_;have⟨u,e,m⟩:=ep e hm;have⟨j,e,m⟩:=ep e m;have c:=HC.eA e.2;have e:=Aj e.1 c;rcases Io e m with⟨e,m⟩|⟨e,m⟩
 ·cases m;simp[e]
 rcases Io e m with⟨e,m⟩|⟨e,m⟩
 ·rcases Io e m with⟨e,m⟩|⟨e,m⟩
  ·cases m;simp[e]
  cases m;simp[e]
 simp[e];refine Wr e m 999 (λk d f h=>h=H++iJ (List.length H) nh/\f.1 0=m0 (List.length H) a0/\f.1 1=sI a1/\f.1 5=sI d/\f.1 28=sL (m0 (List.length H)) j.ab_/\f.1 29=sI (eM j.ab_)/\f.1 30=sI k) (by simp[e]) (λd g p q E m=>?_) (λk v d g p q w r E e m i a=>?_)
 ·have e:=Aj e E;dsimp only[ei]at m;cases m;simp[e]
 have e:=Aj e E;have l:=e;have⟨s,e,m⟩:=ep e m;simp[e];refine Cf (rC T (H:=H) e.2) ?_;have⟨t,e,m⟩:=ep e m;simp[e];refine Cf (o (H:=H) e.2) ?_;simp[e];cases m;exact a _ _ _ (by simp[e]) i
def Bq(T:fa){H:eD}{a0:Option Nat}{a1:Int}{nh:List HC}{a:Int}{n:Nat}(hm:kz n a0 a1 nh=some a):eZ prog T 311 [m0 (List.length H) a0,sI a1] (H++iJ (List.length H) nh) (sI a) (H++iJ (List.length H) nh):=(Av T n) hm
def pT(T:fa){H:eD}{a0:Option Nat}{a1:(List (Option Nat))}{nh:List HC}{c:Option Nat}{a:List HC}(hm:gV a0 a1 nh=some (c,a)):eZ prog T 309 [m0 (List.length H) a0,sL (m0 (List.length H)) a1] (H++iJ (List.length H) nh) (m0 (List.length H) c) (H++iJ (List.length H) a):=by
 rw[gV] at hm;have e:=trivial;refine wi acd func309 [] [(1,false,[true,true,true,false,true,true,true,false,true,true,true,false,true,true,true])] 999 ?_;have⟨f,e,m⟩:=ep e hm;have⟨g,e,m⟩:=ep e m;have b:=HC.eA e.2;have e:=Aj e.1 b;have⟨h,d,e,m⟩:=gv e m;simp[e];refine Cs (ra T (H:=H) e.2) ?_;cases m;simp[e]
def Bv(T:fa):∀(n:Nat),(∀{H:eD} {a0:Option Nat} {a1:Int} {a2:Int} {nh:List HC} {q:Option Nat} {d:List HC} (hm:jJ n a0 a1 a2 nh=some (q,d)),eZ prog T 318 [m0 (List.length H) a0,sI a1,sI a2] (H++iJ (List.length H) nh) (m0 (List.length H) q) (H++iJ (List.length H) d)):=by
  intro n
  induction n with
  |zero=>
    skip
    all_goals(intro _ _;intros;rename_i hm;cases hm)
  |succ n A=>
 intro H a0 a1 a2 nh q d hm;rw[jJ] at hm;have e:=trivial;refine wi acd func318 [] [(4,false,[true,true,true,false,true,true,true,false,true,true,true,true,true,false,true,true])] 3 ?_;simp[e];refine Wj hm 999 999 (λv f h=>∃(v2:Bool),(h=H++iJ (List.length H) nh/\f.1 0=m0 (List.length H) a0/\f.1 1=sI a1/\f.1 2=sI a2/\f.1 19=sB v2)/\v v2=some (q,d)) (λv K i m=>?_) ?_
 ·have⟨L,e,m⟩:=ep e m;have⟨M,e,m⟩:=ep e m;have r:=HC.eA e.2;have e:=Aj e.1 r;rcases Io e m with⟨e,m⟩|⟨e,m⟩
  ·simp[e];exact i _ _ ⟨true,by simp[e],m⟩
  simp[e];exact i _ _ ⟨(eH a2 0),by simp[e],m⟩
 rintro B N ⟨v2,E,m⟩;have e:=Aj e E;rcases Io e m with⟨e,m⟩|⟨e,m⟩
 ·cases m;simp[e]
 have⟨O,e,m⟩:=ep e m;have⟨j,e,m⟩:=ep e m;have k:=HC.eA e.2;have e:=Aj e.1 k;rcases Io e m with⟨e,m⟩|⟨e,m⟩
 ·have⟨C,w,e,m⟩:=gv e m;simp[e];refine Cs (ra T (H:=H) e.2) ?_;cases m;simp[e]
 simp[e];refine Wr e m 999 (λl b f h=>∃(a:Tag),(h=H++iJ (List.length H) b.2/\f.1 0=m0 (List.length H) a0/\f.1 1=sI a1/\f.1 2=sI a2/\f.1 7=sT a (m0 (List.length H)) b.1/\f.1 44=sL (m0 (List.length H)) j.ab_/\f.1 45=sI (eM j.ab_)/\f.1 46=sI l)/\Ow f [59] a b.1) (by exact⟨.full,by simp[e],iX.full⟩) (λb g s t E m=>?_) (λl D b g s t F G E e m z21 o=>?_)
 ·have⟨p,v24⟩:=b;have⟨a,E,c⟩:=E;have e:=Aj e E;dsimp only[ei,nb]at m;have⟨I,x,e,m⟩:=gv e m;simp[e];refine Cf (pT T (H:=H) e.2) ?_;cases m;simp[e]
 have⟨p,v24⟩:=b;have⟨a,E,c⟩:=E;have e:=Aj e E;have y:=e;dsimp only[nb]at m;have⟨J,e,m⟩:=ep e m;simp[e];refine Cf (rC T (H:=H) e.2) ?_;have⟨u,z,e,m⟩:=gv e m;simp[e];refine Cf (A (H:=H) e.2) ?_;have⟨e,m⟩:=Ck e m;simp[e];refine Ao (f:=(m0 (List.length H))) p [u] c Pu e.2 ?_;simp[e];cases m;exact o _ _ _ ⟨(.loc 59 (g.fN 59+1)),by simp[e],(On 59)⟩ z21
def Cj(T:fa){H:eD}{a0:Option Nat}{a1 a2:Int}{nh:List HC}{b:Option Nat}{a:List HC}{n:Nat}(hm:jJ n a0 a1 a2 nh=some (b,a)):eZ prog T 318 [m0 (List.length H) a0,sI a1,sI a2] (H++iJ (List.length H) nh) (m0 (List.length H) b) (H++iJ (List.length H) a):=(Bv T n) hm
def CE(T:fa):∀(n:Nat),(∀{H:eD} {a0:Option Nat} {a1:Int} {a2:Option Nat} {nh:List HC} {k:Option Nat} {d:List HC} (hm:kb n a0 a1 a2 nh=some (k,d)),eZ prog T 312 [m0 (List.length H) a0,sI a1,m0 (List.length H) a2] (H++iJ (List.length H) nh) (m0 (List.length H) k) (H++iJ (List.length H) d)):=by
  intro n
  induction n with
  |zero=>
    skip
    all_goals(intro _ _;intros;rename_i hm;cases hm)
  |succ n y=>
 intro H a0 a1 a2 nh k d hm;rw[kb] at hm;have e:=trivial;refine wi acd func312 [] [(6,false,[true,true,true,false,true,true,true,false,true,true,true,true,false,true,true])] 999 ?_;have⟨I,e,m⟩:=ep e hm;have⟨t,e,m⟩:=ep e m;have l:=HC.eA e.2;have e:=Aj e.1 l;rcases Io e m with⟨e,m⟩|⟨e,m⟩
 ·cases m;simp[e]
 rcases Io e m with⟨e,m⟩|⟨e,m⟩
 ·rcases Io e m with⟨e,m⟩|⟨e,m⟩;rotate_left
  ·have⟨J,z,e,m⟩:=gv e m;simp[e];refine Cs (ra T (H:=H) e.2) ?_;cases m;simp[e]
  have⟨K,A,e,m⟩:=gv e m;simp[e];refine Cf (Cj T (H:=H) e.2) ?_;cases m;simp[e]
 simp[e];refine Wr e m 999 (λu g f h=>∃(a:Tag),(h=H++iJ (List.length H) g.2/\f.1 0=m0 (List.length H) a0/\f.1 1=sI a1/\f.1 2=m0 (List.length H) a2/\f.1 7=sT a (m0 (List.length H)) g.1/\f.1 48=sL (m0 (List.length H)) t.ab_/\f.1 49=sI (eM t.ab_)/\f.1 50=sI u)/\Ow f [63] a g.1) (by exact⟨.full,by simp[e],iX.full⟩) (λg c o p E m=>?_) (λu B g c o p C D E e m q i=>?_)
 ·have⟨j,r⟩:=g;have⟨a,E,b⟩:=E;have e:=Aj e E;dsimp only[ei,nb]at m;have⟨F,v,e,m⟩:=gv e m;simp[e];refine Cf (pT T (H:=H) e.2) ?_;cases m;simp[e]
 have⟨j,r⟩:=g;have⟨a,E,b⟩:=E;have e:=Aj e E;have w:=e;dsimp only[nb]at m;have⟨G,e,m⟩:=ep e m;simp[e];refine Cf (rC T (H:=H) e.2) ?_;have⟨s,x,e,m⟩:=gv e m;simp[e];refine Cf (y (H:=H) e.2) ?_;have⟨e,m⟩:=Ck e m;simp[e];refine Ao (f:=(m0 (List.length H))) j [s] b Pu e.2 ?_;simp[e];cases m;exact i _ _ _ ⟨(.loc 63 (c.fN 63+1)),by simp[e],(On 63)⟩ q
def Dw(T:fa){H:eD}{a0:Option Nat}{a1:Int}{a2:Option Nat}{nh:List HC}{b:Option Nat}{a:List HC}{n:Nat}(hm:kb n a0 a1 a2 nh=some (b,a)):eZ prog T 312 [m0 (List.length H) a0,sI a1,m0 (List.length H) a2] (H++iJ (List.length H) nh) (m0 (List.length H) b) (H++iJ (List.length H) a):=(CE T n) hm
def Eo(T:fa){H:eD}{a0:Option Nat}{a1:(List (Option Nat))}{nh:List HC}{d:Option Nat}{a:List HC}(hm:r6 a0 a1 nh=some (d,a)):eZ prog T 313 [m0 (List.length H) a0,sL (m0 (List.length H)) a1] (H++iJ (List.length H) nh) (m0 (List.length H) d) (H++iJ (List.length H) a):=by
 rw[r6] at hm;have e:=trivial;refine wi acd func313 [] [] 999 ?_;simp[e];refine Wr e hm 999 (λg s2 f h=>h=H++iJ (List.length H) s2.2/\f.1 0=m0 (List.length H) s2.1/\f.1 7=sL (m0 (List.length H)) a1/\f.1 8=sI (eM a1)/\f.1 9=sI g) (by simp[e]) (λs2 b k l E m=>?_) (λg p s2 b k l n6 q E e m n c=>?_)
 ·have⟨v10,v11⟩:=s2;have e:=Aj e E;dsimp only[ei,nb]at m;cases m;simp[e]
 have⟨v10,v11⟩:=s2;have e:=Aj e E;have i:=e;dsimp only[nb]at m;have⟨o,j,e,m⟩:=gv e m;simp[e];refine Cf (ra T (H:=H) e.2) ?_;simp[e];cases m;exact c _ _ _ (by simp[e]) n
def sS(T:fa){H:eD}{a0:Option Nat}{nh:List HC}{i:Option Nat}{a:List HC}(hm:jf a0 nh=some (i,a)):eZ prog T 308 [m0 (List.length H) a0] (H++iJ (List.length H) nh) (m0 (List.length H) i) (H++iJ (List.length H) a):=by
 rw[jf] at hm;have e:=trivial;refine wi acd func308 [] [(3,false,[true,true,true,false,true,true,true,true,false,true,true,true,true,true,false,true,true,true,true]),(8,true,[]),(11,false,[true,true,true,true,true,true,false,true,true,true,false,true,true,true,true,true,true,true])] 999 ?_;have⟨I,e,m⟩:=ep e hm;have⟨J,e,m⟩:=ep e m;have g:=HC.eA e.2;have e:=Aj e.1 g;rcases Io e m with⟨e,m⟩|⟨e,m⟩
 ·have⟨K,e,m⟩:=ep e m;have⟨L,e,m⟩:=ep e m;have⟨M,e,m⟩:=ep e m;have h:=HC.eA e.2;have e:=Aj e.1 h;have⟨N,e,m⟩:=ep e m;have⟨O,e,m⟩:=ep e m;have⟨o,j,e,m⟩:=gv e m;simp[e];refine Cs (Dw T (H:=H) e.2) ?_;cases m;simp[e]
 rcases Io e m with⟨e,m⟩|⟨e,m⟩
 ·have⟨p,e,m⟩:=ep e m;have⟨q,e,m⟩:=ep e m;have⟨r,e,m⟩:=ep e m;have b:=HC.eA e.2;have e:=Aj e.1 b;have⟨s,e,m⟩:=ep e m;cases m;simp[e]
 rcases Io e m with⟨e,m⟩|⟨e,m⟩
 ·have⟨t,e,m⟩:=ep e m;have⟨u,e,m⟩:=ep e m;have⟨v,e,m⟩:=ep e m;have c:=HC.eA e.2;have e:=Aj e.1 c;have⟨w,e,m⟩:=ep e m;cases m;simp[e]
 have⟨x,e,m⟩:=ep e m;have⟨y,e,m⟩:=ep e m;have⟨z,e,m⟩:=ep e m;have⟨A,e,m⟩:=ep e m;have⟨B,e,m⟩:=ep e m;have d:=HC.eA e.2;have e:=Aj e.1 d;rcases Io e m with⟨e,m⟩|⟨e,m⟩
 ·cases m;simp[e]
 have⟨C,e,m⟩:=ep e m;have⟨D,k,e,m⟩:=gv e m;simp[e];refine Cs (pT T (H:=H) e.2) ?_;have⟨E,e,m⟩:=ep e m;have f:=HC.eA e.2;have e:=Aj e.1 f;have⟨F,l,e,m⟩:=gv e m;simp[e];refine Cf (Eo T (H:=H) e.2) ?_;have⟨G,n,e,m⟩:=gv e m;simp[e];refine Cf (Eo T (H:=H) e.2) ?_;cases m;simp[e]
def Bs(T:fa){H:eD}{a0:Option Nat}{nh:List HC}{t:Int}{a:List HC}(hm:mU a0 nh=some (t,a)):eZ prog T 307 [m0 (List.length H) a0] (H++iJ (List.length H) nh) (sI t) (H++iJ (List.length H) a):=by
 rw[mU] at hm;have e:=trivial;refine wi acd func307 [] [(4,true,[]),(7,true,[]),(12,true,[])] 999 ?_;have⟨x1,e,m⟩:=ep e hm;have⟨x2,e,m⟩:=ep e m;have r:=HC.eA e.2;have e:=Aj e.1 r;rcases Io e m with⟨e,m⟩|⟨e,m⟩
 ·have⟨x4,e,m⟩:=ep e m;have⟨x5,e,m⟩:=ep e m;have⟨x6,e,m⟩:=ep e m;have s:=HC.eA e.2;have e:=Aj e.1 s;have⟨x8,e,m⟩:=ep e m;have⟨x9,e,m⟩:=ep e m;have⟨v,e,m⟩:=ep e m;have b:=HC.eA e.2;have e:=Aj e.1 b;have⟨w,e,m⟩:=ep e m;simp[e];refine Cs (Bq T (H:=H) e.2) ?_;have⟨x,e,m⟩:=ep e m;have⟨y,e,m⟩:=ep e m;have⟨z,e,m⟩:=ep e m;have c:=HC.eA e.2;have e:=Aj e.1 c;cases m;simp[e]
 rcases Io e m with⟨e,m⟩|⟨e,m⟩
 ·have⟨A,e,m⟩:=ep e m;have⟨B,e,m⟩:=ep e m;have⟨C,e,m⟩:=ep e m;have d:=HC.eA e.2;have e:=Aj e.1 d;rcases Io e m with⟨e,m⟩|⟨e,m⟩;rotate_left
  ·have⟨D,e,m⟩:=ep e m;have⟨E,e,m⟩:=ep e m;have⟨F,e,m⟩:=ep e m;have f:=HC.eA e.2;have e:=Aj e.1 f;cases m;simp[e]
  have⟨G,e,m⟩:=ep e m;have⟨I,e,m⟩:=ep e m;have⟨J,e,m⟩:=ep e m;have g:=HC.eA e.2;have e:=Aj e.1 g;have⟨K,e,m⟩:=ep e m;have⟨L,e,m⟩:=ep e m;have⟨M,e,m⟩:=ep e m;have h:=HC.eA e.2;have e:=Aj e.1 h;have⟨N,e,m⟩:=ep e m;have⟨O,e,m⟩:=ep e m;have⟨P,e,m⟩:=ep e m;have i:=HC.eA e.2;have e:=Aj e.1 i;cases m;simp[e]
 rcases Io e m with⟨e,m⟩|⟨e,m⟩;rotate_left
 ·have⟨Q,u,e,m⟩:=gv e m;simp[e];refine Cf (sS T (H:=H) e.2) ?_;have⟨R,e,m⟩:=ep e m;have⟨S,e,m⟩:=ep e m;have j:=HC.eA e.2;have e:=Aj e.1 j;cases m;simp[e]
 have⟨U,e,m⟩:=ep e m;have⟨V,e,m⟩:=ep e m;have⟨W,e,m⟩:=ep e m;have k:=HC.eA e.2;have e:=Aj e.1 k;rcases Io e m with⟨e,m⟩|⟨e,m⟩;rotate_left
 ·have⟨X,e,m⟩:=ep e m;have⟨Y,e,m⟩:=ep e m;have⟨Z,e,m⟩:=ep e m;have l:=HC.eA e.2;have e:=Aj e.1 l;cases m;simp[e]
 have⟨aa,e,m⟩:=ep e m;have⟨ab,e,m⟩:=ep e m;have⟨ad,e,m⟩:=ep e m;have n:=HC.eA e.2;have e:=Aj e.1 n;have⟨ae,e,m⟩:=ep e m;have⟨af,e,m⟩:=ep e m;have⟨ah,e,m⟩:=ep e m;have o:=HC.eA e.2;have e:=Aj e.1 o;have⟨ai,e,m⟩:=ep e m;have⟨aj,e,m⟩:=ep e m;have⟨ak,e,m⟩:=ep e m;have p:=HC.eA e.2;have e:=Aj e.1 p;have⟨al,e,m⟩:=ep e m;have⟨an,e,m⟩:=ep e m;have⟨ao,e,m⟩:=ep e m;have q:=HC.eA e.2;have e:=Aj e.1 q;cases m;simp[e]
def AF(T:fa){H:eD}{a0:Option Nat}{nh:List HC}{a:Int}(hm:pR a0 nh=some a):eZ prog T 307 [m0 (List.length H) a0] (H++iJ (List.length H) nh) (sI a) (H++iJ (List.length H) nh):=by
 have⟨r,c,b,d⟩:=jk hm;obtain rfl:=iy d;obtain⟨X,rfl⟩:=B3 b;exact fG.tK (Bs T b) (λ_ _ h=>⟨iJ (List.length H) X,by rw[h.2];simp[wz],by rw[h.1];rfl,h.1,rfl⟩)
def Qu:sw prog 300=true:=by kernel_rfl
def BF(T:fa):∀(n:Nat),(∀{H:eD} {a0:Option Nat} {a1:Int} {nh:List HC} {r0:Option Nat} {r1:Int} {al:List HC} (hm:jL n a0 a1 nh=some (r0,r1,al)),eZ prog T 300 [m0 (List.length H) a0,sI a1] (H++iJ (List.length H) nh) (AV.tuple [m0 (List.length H) r0,sI r1]) (H++iJ (List.length H) al)):=by
  intro n
  induction n with
  |zero=>
    skip
    all_goals(intro _ _;intros;rename_i hm;cases hm)
  |succ n ih=>
 intro H a0 a1 nh r0 r1 al hm;rw[jL] at hm;refine fG.intro (fn:=f300) func300 rfl Qu (XV rfl) ?_;refine gJ.sr [] λK1 bs=>?_;simp;apply bs;refine gJ.ud λK3 bt=>?_;refine gJ.sr [] λK5 bu=>?_;have⟨x7,j,an⟩:=eO hm;clear hm
 try dsimp only at an
 have⟨C,a,K⟩:=eO an;replace a:=HC.eA a;clear an
 try dsimp only at K
 simp[j,a];apply bu;refine gJ.tS λb6 b7 aU aV=>?_;rcases jw K with⟨b,aa⟩|⟨b,ab⟩
 ·clear K;simp[j,a,b];apply aU;refine gJ.sr [] λb8 aW=>?_;simp[j,a,b];apply aW;refine gJ.ret ?_;simp only[s7,Gw] at aa;obtain⟨rfl,rfl,rfl⟩:=aa;simp[vS,j,a,b]
 clear K;simp[j,a,b];apply aV;refine gJ.skip ?_;apply bt;refine gJ.ud λb9 aX=>?_;refine gJ.sr [] λb_ aY=>?_;have⟨b',aZ,M⟩:=eO ab;clear ab
 try dsimp only at M
 simp[j,a,b];refine nc.fn (vF T (H:=H) aZ) ?_;simp[j,a,b];apply aY;refine gJ.tS λca cb a6 a7=>?_;rcases jw M with⟨c,ad⟩|⟨c,ae⟩
 ·clear M;simp[j,a,b,c];apply a6;refine gJ.ud λcc a8=>?_;refine gJ.ud λcd a_=>?_;refine gJ.T5 [] true acd (by decide+kernel) (by decide+kernel) ?_;have⟨cf,a',N⟩:=eO ad;clear ad
  try dsimp only at N
  simp[j,a,b,c];refine Ch.fn (AF T (H:=H) a') (by simp) ?_;simp[j,a,b,c];apply a_;refine gJ.tS λcg ch ba bb=>?_;rcases jw N with⟨w,af⟩|⟨w,ah⟩
  ·clear N;simp[j,a,b,c,w];apply ba;refine gJ.sr [] λcj bc=>?_;simp[j,a,b,c,w];apply bc;refine gJ.ret ?_;simp only[s7,Gw] at af;obtain⟨rfl,rfl,rfl⟩:=af;simp[vS,j,a,b,c,w]
  clear N;simp[j,a,b,c,w];apply bb;refine gJ.skip ?_;apply a8;refine gJ.sr [] λck bd=>?_;have⟨cm,bC,bf,P⟩:=jk ah;clear ah
  try dsimp only at P
  simp[j,a,b,c,w];refine nc.fn (sS T (H:=H) bf) ?_;simp[j,a,b,c,w];apply bd;refine gJ.ret ?_;simp only[s7,Gw] at P;obtain⟨rfl,rfl,rfl⟩:=P;simp[vS,j,a,b,c,w]
 clear M;simp[j,a,b,c];apply a7;refine gJ.skip ?_;apply aX;refine gJ.ud λcn bg=>?_;refine gJ.sr [] λcp bh=>?_;simp[j,a,b,c];apply bh;have⟨ao,ai⟩:=m9 ae;clear ae;have⟨bw,bj,Q⟩:=mf ai;clear ai
 try dsimp only at Q
 have⟨aq,y,s⟩:=eO Q;clear Q;refine gJ.yZ λcq bD bk bE aj=>?_;refine gJ.Mu (λn75 fr h=>∃(i76:Nat) (R:Int) (O:List HC),H++iJ (List.length H) O=h/\(fr.env 0=m0 (List.length H) a0/\fr.env 1=sI a1/\fr.env 31=sL (m0 (List.length H)) C.ab_/\fr.env 32=sI (eM C.ab_)/\fr.env 33=sI R)/\R=(i76:Int)/\i76+n75=List.length C.ab_/\fp bw (List.drop i76 C.ab_) i76 O=some aq) (List.length C.ab_) ?_ ?_
 ·refine⟨0,0,nh,?_,⟨?_,?_,?_,?_,?_⟩,rfl,(by simp),y⟩<;>first|rfl|simp[j,a,b,c]
 rintro n75 bl cr ⟨i76,R,O,rfl,p,D,bF,y⟩ cu bm;rcases n75 with _|n75
 ·have e:=Lz (l:=C.ab_) D (by omega);refine gJ.sr [] λcw bn=>?_;simp[p,j,a,e,b,c];apply bn;refine gJ.ud λcx bG=>?_;refine gJ.tS λcy cz bH bo=>?_;simp[p,j,a,e,b,c];apply bo;refine gJ.exit ?_;apply bk;rw[IM (by omega),pq] at y;obtain rfl:=iy y;rw[ei] at s
  try dsimp only at s
  apply bg;refine gJ.sr [] λcA bp=>?_;have⟨t,z,S⟩:=eO s;replace z:=HC.eA z;clear s
  try dsimp only at S
  have U:gb (iJ (List.length H) O) x7 [sI t.ab9,sI t.aca,sI t.pN.ab9,sL Ty.av t.pN.ab_,sL (m0 (List.length H)) t.ab_,sI t.size,sI t.free,sB true]=iJ (List.length H) (kE O x7 (HC.eS (eR.mk t.ab9 t.aca t.pN t.ab_ t.size t.free true))):=qo rfl;have V:(kE O x7 (HC.eS (eR.mk t.ab9 t.aca t.pN t.ab_ t.size t.free true)))[x7]?=some (HC.eS (eR.mk t.ab9 t.aca t.pN t.ab_ t.size t.free true)):=wD z;simp[p,j,a,e,z,U,V,b,c];apply bp;refine gJ.sr [] λbI ar=>?_;simp[p,j,a,e,z,U,V,b,c];apply ar;refine gJ.ret ?_;simp only[s7,Gw] at S;obtain⟨rfl,rfl,rfl⟩:=S;simp[vS,p,j,a,e,z,U,V,b,c]
 have e:=Pk (l:=C.ab_) D (by omega);have⟨bJ,au,i⟩:=Md (l:=C.ab_) D (by omega);rw[au,fl] at y;have⟨bK,A,v⟩:=eO y;clear y;rw[bj,<-D] at A
 try dsimp only at A
 refine gJ.sr [] λbL aw=>?_;simp[p,j,a,e,i,b,c];apply aw;refine gJ.ud λbM ax=>?_;refine gJ.tS λbN bO ay bx=>?_;simp[p,j,a,e,i,b,c];apply ay;refine gJ.skip ?_;apply ax;refine gJ.ud λbP az=>?_;refine gJ.yZ λbQ aA bz bA W=>?_;refine gJ.sr [] λbR aB=>?_;simp[p,j,a,e,i,b,c];apply aB;refine gJ.sr [] λbS aC=>?_;have⟨ak,bT,aD,aE,B⟩:=BK A;clear A
 try dsimp only at B
 simp[p,j,a,e,i,b,c];refine nc.fn (ih (H:=H) aE) ?_;simp[p,j,a,e,i,b,c];apply aC;refine gJ.ud λbU aF=>?_;refine gJ.sr [] λbV aG=>?_;simp[p,j,a,e,i,b,c];apply aG;refine gJ.tS λbW bX aH aI=>?_;rcases jw B with⟨m,aJ⟩|⟨m,F⟩
 ·clear B;simp[p,j,a,e,i,b,c,m];apply aH;refine gJ.sr [] λbY aK=>?_;simp[p,j,a,e,i,b,c,m];apply aK;refine gJ.ret ?_;apply W;apply aj;obtain rfl:=iy aJ;rw[zL] at v;obtain rfl:=iy v;rw[p0] at s
  try dsimp only at s
  simp only[s7,Gw] at s;obtain⟨rfl,rfl,rfl⟩:=s;simp[vS,p,j,a,e,i,b,c,m]
 clear B;simp[p,j,a,e,i,b,c,m];apply aI;refine gJ.skip ?_;apply aF;refine gJ.sr [] λbZ aL=>?_;simp[p,j,a,e,i,b,c,m];apply aL;refine gJ.tS λb0 b1 aM aN=>?_;rcases jw F with⟨o,X⟩|⟨o,aO⟩;rotate_left
 ·clear F;simp[p,j,a,e,i,b,c,m,o];apply aN;refine gJ.skip ?_;apply aA;apply az;refine gJ.region [] (by decide+kernel) ?_;simp[p,j,a,e,i,b,c,m,o];obtain rfl:=iy aO;rw[ft] at v
  refine bm _ _ n75 (Zr _) ⟨(i76+1),(fk .i64 R 1),aD,?_,⟨?_,?_,?_,?_,?_⟩,(Jf D (by omega) ao),(by omega),v⟩<;>first|rfl|simp[p,j,a,e,i,b,c,m,o]
 clear F;simp[p,j,a,e,i,b,c,m,o];apply aM;refine gJ.sr [] λb2 aP=>?_;have⟨E,q,G⟩:=eO X;replace q:=HC.eA q;clear X
 try dsimp only at G
 have⟨aQ,Y⟩:=m9 G;clear G;simp[p,j,a,e,i,q,b,c,m,o];refine sg.XK (f:=(m0 (List.length H))) E.ab_ Pu ⟨_,TC⟩ (by intro x;simp) aQ (by first|rfl|simp) (by first|rfl|simp) λI bq=>?_;simp[p,j,a,e,i,q,b,c,m,o];apply aP;refine gJ.sr [] λb3 aR=>?_;have⟨br,r,J⟩:=eO Y;clear Y
 try dsimp only at J
 have u:=Gk r;simp[p,j,a,e,i,q,r,u,b,c,m,o];refine zc.arr (f:=(m0 (List.length H))) (L:=E.ab_) (k:=((I-List.length E.ab_)*1)) ak W_ (by intro x;simp) (by simp[p,j,a,e,i,q,r,u,b,c,m,o]) (x:=br) (by assumption) (by simp[p,j,a,e,i,q,r,u,b,c,m,o]) (by simp[p,j,a,e,i,q,r,u,b,c,m,o]) (by simp[p,j,a,e,i,q,r,u,b,c,m,o]) ?_;simp[p,j,a,e,i,q,r,u,b,c,m,o];apply aR;refine gJ.ud λb4 aS=>?_;refine gJ.ZX 10 (f:=(m0 (List.length H))) (L:=(xl E.ab_ R ak)) (k:=((I-List.length E.ab_)*1)) (sz:=1) (d:=53) (g:=(bl.gen 53+1)) (cap:=I) (by intro x;simp) (by intro x;simp) (by simp[p,j,a,e,i,q,r,u,b,c,m,o]) (by simp[p,j,a,e,i,q,r,u,b,c,m,o]) (by simp[p,j,a,e,i,q,r,u,b,c,m,o]) ?_;refine gJ.region [] (by decide+kernel) ?_;have⟨b5,bB,aT,Z⟩:=jk J;clear J
 try dsimp only at Z
 simp[p,j,a,e,i,q,r,u,b,c,m,o];refine nc.fn (pT T (H:=H) aT) ?_;simp[p,j,a,e,i,q,r,u,b,c,m,o];apply aS;refine gJ.ret ?_;apply W;apply aj;obtain rfl:=iy Z;rw[zL] at v;obtain rfl:=iy v;rw[p0] at s
 try dsimp only at s
 simp only[s7,Gw] at s;obtain⟨rfl,rfl,rfl⟩:=s;simp[vS,p,j,a,e,i,q,r,u,b,c,m,o]
def BU(T:fa){H:eD}{a0:Option Nat}{a1:Int}{nh:List HC}{b:Option Nat}{c:Int}{a:List HC}{n:Nat}(hm:jL n a0 a1 nh=some (b,c,a)):eZ prog T 300 [m0 (List.length H) a0,sI a1] (H++iJ (List.length H) nh) (AV.tuple [m0 (List.length H) b,sI c]) (H++iJ (List.length H) a):=(BF T n) hm
def AM(T:fa){H:eD}{a0:Option Nat}{nh:List HC}{r:Bool}{s:Int}{j:List HC}(hm:jT a0 nh=some (r,s,j)):eZ prog T 282 [m0 (List.length H) a0] (H++iJ (List.length H) nh) (AV.tuple [sB r,sI s]) (H++iJ (List.length H) j):=by
 rw[jT] at hm;have e:=trivial;refine wi acd func282 [] [(1,true,[true,true,true,true,true,true,true,true,true,true,false,true,true,true,true,true])] 5 ?_;have⟨d,e,m⟩:=ep e hm;have⟨v,e,m⟩:=ep e m;have p:=HC.gW e.2;have e:=Aj e.1 p;have⟨w,e,m⟩:=ep e m;simp[e];refine Cs (CQ T (H:=H) e.2) ?_;have⟨c,q,b,e,m⟩:=Kd e m;simp[e];refine CU.fn (BU T (H:=H) e.2) ?_;simp[e];refine wj 999 999 (λf h=>h=H++iJ (List.length H) b/\f.1 0=m0 (List.length H) a0/\f.1 4=m0 (List.length H) c/\f.1 5=sI q/\f.1 25=sB (fU (eW q 0) true (Option.isNone c))) (λx k=>?_) ?_
 ·rcases Pb (eW q 0) e with e|e
  ·simp[e];exact k _ _ (by simp[e])
  simp[e];exact k _ _ (by simp[e])
 rintro t u E;have e:=Aj e E;rcases Io e m with⟨e,m⟩|⟨e,m⟩
 ·cases m;simp[e]
 have⟨a,e,m⟩:=ep e m;have g:=HC.gW e.2;have e:=Aj e.1 g;have l:gb (iJ (List.length H) b) d [m0 (List.length H) c,sI a.steps]=iJ (List.length H) (kE b d (HC.gh (fV.mk c a.steps))):=qo rfl;have e:=Aj e l;have i:(kE b d (HC.gh (fV.mk c a.steps)))[d]?=some (HC.gh (fV.mk c a.steps)):=wD g;have e:=Aj e i;have n:gb (iJ (List.length H) (kE b d (HC.gh (fV.mk c a.steps)))) d [m0 (List.length H) c,sI (fk .i64 a.steps 1)]=iJ (List.length H) (kE (kE b d (HC.gh (fV.mk c a.steps))) d (HC.gh (fV.mk c (fk .i64 a.steps 1)))):=qo rfl;have e:=Aj e n;have o:(kE (kE b d (HC.gh (fV.mk c a.steps))) d (HC.gh (fV.mk c (fk .i64 a.steps 1))))[d]?=some (HC.gh (fV.mk c (fk .i64 a.steps 1))):=wD i;have e:=Aj e o;cases m;simp[e]
def Bl(T:fa):∀(n:Nat),(∀{H:eD} {a0:Option Nat} {nh:List HC} {l:Tm} (hm:iW n a0 nh=some l),eZ prog T 283 [m0 (List.length H) a0] (H++iJ (List.length H) nh) (Tm.av l) (H++iJ (List.length H) nh)):=by
  intro n
  induction n with
  |zero=>
   skip
   all_goals(intro _ _;intros;rename_i hm;cases hm)
  |succ n t=>
 intro H a0 nh l hm;rw[iW] at hm;have e:=trivial;refine wi acd func283 [] [(1,true,[])] 999 ?_;have⟨y,e,m⟩:=ep e hm;have⟨k,e,m⟩:=ep e m;have o:=HC.eA e.2;have e:=Aj e.1 o;have⟨q,e,m⟩:=ep e m;simp[e];refine Cs (sk e.2) ?_;simp[e];refine Wr e m 999 (λr g f h=>∃(a:Tag) (b:Nat) (c:Nat),(h=H++iJ (List.length H) nh/\f.1 2=AV.eC 2 b 0/\f.1 3=AV.eC 3 c 0/\f.1 23=sL (m0 (List.length H)) k.ab_/\f.1 24=sI (eM k.ab_)/\f.1 25=sI r/\f.gen 2=b/\f.box 2=some [sI 0,sI 0,sI 0,AV.slice .full [],AV.slice .full []]/\f.gen 3=c/\f.box 3=some [sI k.ab9,sI k.aca,sI q.ab9,sL Ty.av q.ab_,sT a Tm.av g])/\Ow f [34] a g) (by exact⟨.full,1,1,by simp[e],iX.full⟩) (λg i u v E m=>?_) (λr z g i u v w x E e m z12 j=>?_)
 ·have⟨a,b,c,E,d⟩:=E;have e:=Aj e E;dsimp only[ei]at m;cases m;simp[e]
 have⟨a,b,c,E,d⟩:=E;have e:=Aj e E;have s:=e;have⟨p,e,m⟩:=ep e m;simp[e];refine Cs (t (H:=H) e.2) ?_;have⟨e,m⟩:=Ck e m;simp[e];refine Ad (f:=Tm.av) g [p] d Ct e.2 ?_;simp[e];cases m;exact j _ _ _ ⟨(.loc 34 (i.fN 34+1)),b,c,by simp[e],(On 34)⟩ z12
def wE(T:fa){H:eD}{a0:Option Nat}{nh:List HC}{a:Tm}{n:Nat}(hm:iW n a0 nh=some a):eZ prog T 283 [m0 (List.length H) a0] (H++iJ (List.length H) nh) (Tm.av a) (H++iJ (List.length H) nh):=(Bl T n) hm
def z8(T:fa):∀(n:Nat),(∀{H:eD} {a0:Option Nat} {nh:List HC} {l:Bool} {c:List HC} (hm:jq n a0 nh=some (l,c)),eZ prog T 284 [m0 (List.length H) a0] (H++iJ (List.length H) nh) (sB l) (H++iJ (List.length H) c)):=by
  intro n
  induction n with
  |zero=>
    skip
    all_goals(intro _ _;intros;rename_i hm;cases hm)
  |succ n u=>
 intro H a0 nh l c hm;rw[jq] at hm;have e:=trivial;refine wi acd func284 [] [] 999 ?_;have⟨k,e,m⟩:=ep e hm;have⟨q,e,m⟩:=ep e m;have o:=HC.eA e.2;have e:=Aj e.1 o;rcases Io e m with⟨e,m⟩|⟨e,m⟩
 ·cases m;simp[e]
 have⟨A,e,m⟩:=ep e m;simp[e];refine Cf (vF T (H:=H) e.2) ?_;rcases Io e m with⟨e,m⟩|⟨e,m⟩
 ·cases m;simp[e]
 simp[e];refine Wr e m 999 (λr d f h=>h=H++iJ (List.length H) d/\f.1 0=m0 (List.length H) a0/\f.1 14=sL (m0 (List.length H)) q.ab_/\f.1 15=sI (eM q.ab_)/\f.1 16=sI r) (by simp[e]) (λd p v w E m=>?_) (λr B d p v w x y E e m z12 g=>?_);rotate_left
 ·have e:=Aj e E;have s:=e;have⟨z,t,e,m⟩:=gv e m;simp[e];refine Cf (u (H:=H) e.2) ?_;rcases Io e m with⟨e,m⟩|⟨e,m⟩;rotate_left
  ·cases m;cases z12;simp[e]
  simp[e];cases m;exact g _ _ _ (by simp[e]) z12
 have e:=Aj e E;dsimp only[ei]at m;have⟨a,e,m⟩:=ep e m;have b:=HC.eA e.2;have e:=Aj e.1 b;have i:gb (iJ (List.length H) d) k [sI a.ab9,sI a.aca,sI a.pN.ab9,sL Ty.av a.pN.ab_,sL (m0 (List.length H)) a.ab_,sI a.size,sI a.free,sB true]=iJ (List.length H) (kE d k (HC.eS (eR.mk a.ab9 a.aca a.pN a.ab_ a.size a.free true))):=qo rfl;have e:=Aj e i;have j:(kE d k (HC.eS (eR.mk a.ab9 a.aca a.pN a.ab_ a.size a.free true)))[k]?=some (HC.eS (eR.mk a.ab9 a.aca a.pN a.ab_ a.size a.free true)):=wD b;have e:=Aj e j;cases m;simp[e]
def Ay(T:fa){H:eD}{a0:Option Nat}{nh:List HC}{b:Bool}{a:List HC}{n:Nat}(hm:jq n a0 nh=some (b,a)):eZ prog T 284 [m0 (List.length H) a0] (H++iJ (List.length H) nh) (sB b) (H++iJ (List.length H) a):=(z8 T n) hm
def ui(T:fa)(z:qq T){H:eD}{a0:Tm}{a1:Int}{u:Tm}{v w:Int}(hm:kI a0 a1=some (u,v,w)):eZ prog T 249 [Tm.av a0,sI a1] H (AV.tuple [Tm.av u,sI v,sI w]) H:=by
 rw[kI] at hm;refine fG.tK (Post:=λx K=>x=AV.tuple [Tm.av u,sI v,sI w]/\∃X,K=H++X) ?_ (λ_ _ h=>⟨_,h.2.choose_spec,by rw[h.1];simp[AV.low,AV.iZ],h.1,rfl⟩);refine fG.Z5 (c:=HC.cells) ?_;have e:=z;refine wi acd func249 [32] [(12,true,[]),(15,true,[])] 7 ?_;have⟨Y,e,m⟩:=ep e hm;simp[e];refine Cf (wU T z e.2) ?_;simp[e];rcases Io e m with⟨e,m⟩|⟨e,m⟩
 ·apply wg 999;cases m;simp[e]
 apply wg 3;simp[e];refine Wj m 999 999 (λA f h=>∃(v3:Bool) (d:Nat) (b:Nat),(h=H++iJ (List.length H) ([]:List HC)/\f.1 1=sI a1/\f.1 2=AV.eC 2 d 0/\f.1 4=AV.eC 4 b 0/\f.1 27=sB v3/\f.gen 2=d/\f.box 2=some [sI a0.ab9,sI a0.aca,sI a0.dv.ab9,sL Ty.av a0.dv.ab_,sL Tm.av a0.ab_]/\f.gen 4=b/\f.box 4=some [sI 0,sI 0,sI 0,AV.slice .full [],AV.slice .full []])/\A v3=some (u,v,w)) (λA Z j m=>?_) ?_
 ·rcases Io e m with⟨e,m⟩|⟨e,m⟩
  ·simp[e];exact j _ _ ⟨true,1,1,by simp[e],m⟩
  rcases Io e m with⟨e,m⟩|⟨e,m⟩
  ·simp[e];exact j _ _ ⟨true,1,1,by simp[e],m⟩
  have⟨F,e,m⟩:=ep e m;simp[e];refine Cf (LP T e.2) ?_;simp[e];exact j _ _ ⟨(nt F),1,1,by simp[e],m⟩
 rintro G h7 ⟨v3,d,b,E,m⟩;have e:=Aj e E;rcases Io e m with⟨e,m⟩|⟨e,m⟩
 ·cases m;simp[e]
 have⟨y,g,e,m⟩:=gv e m;simp[e];refine Cf (KN T (H:=H) e.2) ?_;have k:iJ (List.length H) g++[[m0 (List.length H) y,sI 0]]=iJ (List.length H) (g++[HC.gh (fV.mk y 0)]):=Ju rfl;have e:=Aj e k;have l:(g++[HC.gh (fV.mk y 0)])[(List.length g)]?=some (HC.gh (fV.mk y 0)):=Pg;have e:=Aj e l;simp[e];refine Wn m 3 (λn f h=>∃(a:Nat),h=H++iJ (List.length H) n/\f.1 1=sI a1/\f.1 4=AV.eC 4 a 0/\f.1 8=AV.fO (List.length H+(List.length g)) 0/\f.gen 4=a/\f.box 4=some [sI 0,sI 0,sI 0,AV.slice .full [],AV.slice .full []]) ⟨b,by simp[e]⟩ (λn B I J L M E m i o=>?_);have⟨a,E⟩:=E;have e:=Aj e E;have p:=e;have⟨N,e,m⟩:=ep e m;have q:=HC.gW e.2;have e:=Aj e.1 q;simp[e];rcases Io e m with⟨e,m⟩|⟨e,m⟩
 ·apply wg 999;have⟨O,P,C,e,m⟩:=Kd e m;simp[e];refine Cf (AM T (H:=H) e.2) ?_;rcases Io e m with⟨e,m⟩|⟨e,m⟩
  ·cases m;cases i;simp[e]
  rcases Io e m with⟨e,m⟩|⟨e,m⟩
  ·simp[e];cases m;exact o _ _ _ ⟨a,by simp[e]⟩ i
  have⟨Q,e,m⟩:=ep e m;have r:=HC.gW e.2;have e:=Aj e.1 r;have⟨R,e,m⟩:=ep e m;simp[e];refine Cs (wE T (H:=H) e.2) ?_;cases m;cases i;simp[e]
 apply wg 2;simp[e];cases m;have m:=Qb i
 try dsimp only at m
 have e:=p;apply wg 999;have⟨S,e,m⟩:=ep e m;have s:=HC.gW e.2;have e:=Aj e.1 s;have⟨U,D,e,m⟩:=gv e m;simp[e];refine Cf (Ay T (H:=H) e.2) ?_;rcases Io e m with⟨e,m⟩|⟨e,m⟩;rotate_left
 ·cases m;simp[e]
 have⟨V,e,m⟩:=ep e m;have t:=HC.gW e.2;have e:=Aj e.1 t;have⟨W,e,m⟩:=ep e m;simp[e];refine Cs (wE T (H:=H) e.2) ?_;cases m;simp[e]
def Gl(T:fa)(a:qq T){H:eD}{a0 a1:Tm}{a2 b:Int}(hm:lG a0 a1 a2=some b):eZ prog T 231 [Tm.av a0,Tm.av a1,sI a2] H (sI b) H:=by
 rw[lG] at hm;have e:=a;refine wi acd func231 [] [] 999 ?_;have⟨d,e,m⟩:=ep e hm;simp[e];refine Cf (wU T a e.2) ?_;rcases Io e m with⟨e,m⟩|⟨e,m⟩
 ·cases m;simp[e]
 have⟨f,e,m⟩:=ep e m;simp[e];refine Cf (wU T a e.2) ?_;rcases Io e m with⟨e,m⟩|⟨e,m⟩
 ·cases m;simp[e]
 have⟨g,e,m⟩:=ep e m;simp[e];refine Cf (B8 e.2) ?_;rcases Io e m with⟨e,m⟩|⟨e,m⟩
 ·cases m;simp[e]
 have⟨h,i,j,e,m⟩:=Kd e m;simp[e];refine Cf (ui T a e.2) ?_;rcases Io e m with⟨e,m⟩|⟨e,m⟩
 ·cases m;simp[e]
 have⟨k,l,n,e,m⟩:=Kd e m;simp[e];refine Cf (ui T a e.2) ?_;rcases Io e m with⟨e,m⟩|⟨e,m⟩
 ·cases m;simp[e]
 have⟨c,e,m⟩:=ep e m;simp[e];refine Cf (B8 e.2) ?_;rcases Io e m with⟨e,m⟩|⟨e,m⟩
 ·cases m;simp[e]
 cases m;simp[e]
def D5(T:fa)(x:qq T):∀(n:Nat),(∀{H:eD} {a0:Fm} {a1:Fm} {s:Int} (hm:jI n a0 a1=some s),eZ prog T 169 [Fm.av a0,Fm.av a1] H (sI s) H):=by
  intro n
  induction n with
  |zero=>
    skip
    all_goals(intro _ _;intros;rename_i hm;cases hm)
  |succ n B=>
 intro H a0 a1 s hm;rw[jI] at hm;have e:=x;refine wi acd func169 [] [] 3 ?_;simp[e];refine Wj hm 999 999 (λy f h=>∃(v2:Bool) (d:Nat) (g:Nat),(h=H/\f.1 2=AV.eC 2 d 0/\f.1 3=AV.eC 3 g 0/\f.1 23=sB v2/\f.gen 2=d/\f.box 2=some [sI a0.ab9,sI a0.dv.ab9,sL Ty.av a0.dv.ab_,sL Tm.av a0.ej,sL Fm.av a0.ab_]/\f.gen 3=g/\f.box 3=some [sI a1.ab9,sI a1.dv.ab9,sL Ty.av a1.dv.ab_,sL Tm.av a1.ej,sL Fm.av a1.ab_])/\y v2=some s) (λy R i m=>?_) ?_
 ·rcases Io e m with⟨e,m⟩|⟨e,m⟩
  ·simp[e];exact i _ _ ⟨true,1,1,by simp[e],m⟩
  have⟨C,e,m⟩:=ep e m;simp[e];refine Cf (pB e.2) ?_;simp[e];exact i _ _ ⟨(nt C),1,1,by simp[e],m⟩
 rintro D S ⟨v2,d,g,E,m⟩;have e:=Aj e E;rcases Io e m with⟨e,m⟩|⟨e,m⟩
 ·cases m;simp[e]
 simp[e];refine Wr e m 999 (λz A f h=>∃(c:Nat) (b:Nat),h=H/\f.1 2=AV.eC 2 c 0/\f.1 3=AV.eC 3 b 0/\f.1 25=sL Tm.av a0.ej/\f.1 26=sI (eM a0.ej)/\f.1 27=sI z/\f.gen 2=c/\f.box 2=some [sI a0.ab9,sI a0.dv.ab9,sL Ty.av a0.dv.ab_,sL Tm.av a0.ej,sL Fm.av a0.ab_]/\f.gen 3=b/\f.box 3=some [sI a1.ab9,sI a1.dv.ab9,sL Ty.av a1.dv.ab_,sL Tm.av a1.ej,sL Fm.av a1.ab_]) ⟨d,g,by simp[e]⟩ (λA t F u E m=>?_) (λz G A t F u I J E e m j k=>?_);rotate_left
 ·have⟨c,b,E⟩:=E;have e:=Aj e E;have⟨K,e,m⟩:=ep e m;have⟨L,e,m⟩:=ep e m;simp[e];refine Cs (Gl T x e.2) ?_;rcases Io e m with⟨e,m⟩|⟨e,m⟩
  ·cases m;cases j;simp[e]
  simp[e];cases m;exact k _ _ _ ⟨c,b,by simp[e]⟩ j
 have⟨c,b,E⟩:=E;have e:=Aj e E;dsimp only[ei]at m;simp[e];refine Wr e m 999 (λl o f h=>∃(a:Nat),h=H/\f.1 3=AV.eC 3 a 0/\f.1 44=sL Fm.av a0.ab_/\f.1 45=sI (eM a0.ab_)/\f.1 46=sI l/\f.gen 3=a/\f.box 3=some [sI a1.ab9,sI a1.dv.ab9,sL Ty.av a1.dv.ab_,sL Tm.av a1.ej,sL Fm.av a1.ab_]) ⟨b,by simp[e]⟩ (λo p v w E m=>?_) (λl M o p v w N O E e m q r=>?_)
 ·have⟨a,E⟩:=E;have e:=Aj e E;dsimp only[ei]at m;cases m;simp[e]
 have⟨a,E⟩:=E;have e:=Aj e E;have⟨P,e,m⟩:=ep e m;have⟨Q,e,m⟩:=ep e m;simp[e];refine Cs (B e.2) ?_;rcases Io e m with⟨e,m⟩|⟨e,m⟩
 ·cases m;cases q;simp[e]
 simp[e];cases m;exact r _ _ _ ⟨a,by simp[e]⟩ q
def Fj(T:fa)(b:qq T){H:eD}{a0 a1:Fm}{a:Int}{n:Nat}(hm:jI n a0 a1=some a):eZ prog T 169 [Fm.av a0,Fm.av a1] H (sI a) H:=(D5 T b n) hm
def uk(T:fa)(a:qq T){H:eD}{a0 a1:Fm}{b:Int}(hm:jd a0 a1=some b):eZ prog T 107 [Fm.av a0,Fm.av a1] H (sI b) H:=by
 rw[jd] at hm;have e:=a;refine wi acd func107 [] [] 999 ?_;have⟨c,e,m⟩:=ep e hm;simp[e];refine Cf (pt T a e.2) ?_;rcases Io e m with⟨e,m⟩|⟨e,m⟩
 ·cases m;simp[e]
 have⟨d,e,m⟩:=ep e m;simp[e];refine Cf (pt T a e.2) ?_;rcases Io e m with⟨e,m⟩|⟨e,m⟩
 ·cases m;simp[e]
 have⟨f,e,m⟩:=ep e m;simp[e];refine Cf (Fj T a e.2) ?_;cases m;simp[e]
def p5:C2 prog 194 f_ eh.av eh.av (sL Ty.av):=by
 intro T H a0 a1 r hm;rw[f_] at hm;have e:=trivial;refine wi acd func194 [] [] 999 ?_;have⟨a,e,m⟩:=ep e hm;simp[e];refine Cf (ni e.2) ?_;cases m;simp[e]
def r':C3 prog 195 ki Fm.av sI Ty.av Fm.av:=by
 intro T H a0 a1 a2 r hm;rw[ki] at hm;have e:=trivial;refine wi acd func195 [] [] 999 ?_;have e:=Aj e (show AV.agg [sI a0,sI a1.ab9,sL Ty.av a1.ab_,AV.slice .iP [],AV.slice .iP [Fm.av a2]]=Fm.av (Fm.mk a0 a1 [] [a2]) by rw[Fm.fL];rfl);have e:=Aj e (show AV.agg [sI a0,sI a1.ab9,sL Ty.av a1.ab_,AV.slice .iP [],AV.slice .iP [Fm.av a2]]=Fm.av (Fm.mk a0 a1 [] [a2]) by rw[Fm.fL];rfl);cases hm;simp[e]
def oT:C2 prog 196 fJ (λn=>AV.sc (Value.int .u32 n)) (λn=>AV.sc (Value.int .u32 n)) sI:=by
 intro T H a0 a1 r hm;rw[fJ] at hm;have e:=trivial;refine wi acd func196 [] [] 999 ?_;have⟨e,m⟩:=Ck e hm;cases m;simp[e]
def E2(T:fa){H:eD}{a0 a1 a b:Int}{q0:Nat}(c:H[q0]?=some [AV.sc (.int .u32 a)])(hm:oa a0 a1 a=some b):eZ prog T 244 [sI a0,sI a1,AV.fO q0 0] H (AV.tuple []) (gb H q0 [AV.sc (.int .u32 b)]):=by
 rw[oa] at hm;have d:=fW c;refine fG.Iy c ?_;have e:=d;refine wi acd func244 [] [(1,false,[false,true,true,true,true,true,false])] 999 ?_;rcases Io e hm with⟨e,m⟩|⟨e,m⟩;rotate_left
 ·cases m;simp[e]
 have⟨e,m⟩:=Ck e m;cases m;simp[e]
def wV(T:fa){H:eD}{a0:Tm}{a:Int}(hm:kA a0=some a):eZ prog T 198 [Tm.av a0] H (AV.sc (.int .u32 a)) H:=by
 rw[kA] at hm;refine fG.tK (Post:=λx K=>x=AV.sc (.int .u32 a)/\∃X,K=H++X) ?_ (λ_ _ h=>⟨_,h.2.choose_spec,by rw[h.1];simp[AV.low,AV.iZ],h.1,rfl⟩);have e:=trivial;refine wi acd func198 [3] [] 999 ?_;have⟨s1,e,m⟩:=ep e hm;simp[e];refine Cf (zd T (st:=λs:Int=>H++[[AV.sc (.int .u32 s)]]) (BO.RK H (λs:Int=>[[AV.sc (.int .u32 s)]]) 1 (λ_=>rfl) (by simp[AV.low,AV.iZ])) (λX s _ _ b h=>by have:=E2 T (H:=H++[[AV.sc (.int .u32 s)]]++X) (q0:=(List.length H)) (by simp[e]) h;simpa using this) e.2) ?_;cases m;simp[e]
def qZ:C2 prog 199 iv sB ed.av Ty.av:=by
 intro T H a0 a1 r hm;rw[iv] at hm;have e:=trivial;refine wi acd func199 [] [] 999 ?_;have⟨a,e,m⟩:=ep e hm;simp[e];refine Cs (rU e.2) ?_;have⟨b,e,m⟩:=ep e m;simp[e];refine Cs (qU e.2) ?_;cases m;simp[e]
def G_(T:fa){H:eD}{a0 a1 a b c:Int}{q0 q1:Nat}(d:H[q0]?=some [sI a])(f:H[q1]?=some [sI b])(g:q0≠q1)(hm:pe a0 a1 a b=some c):eZ prog T 296 [sI a0,sI a1,AV.fO q0 0,AV.fO q1 0] H (AV.tuple []) (gb H q1 [sI c]):=by
 rw[pe] at hm;have h:=fW d;have i:=fW f;refine fG.Iy f ?_;have e:=Aj (Aj (Aj (Aj h d) i) g) g.symm;refine wi acd func296 [] [] 999 ?_;rcases Io e hm with⟨e,m⟩|⟨e,m⟩
 ·cases m;simp[e]
 cases m;simp[e]
def Cl(T:fa){H:eD}{a0:Tm}{a1 a:Int}(hm:sW a0 a1=some a):eZ prog T 277 [Tm.av a0,sI a1] H (sI a) H:=by
 rw[sW] at hm;refine fG.tK (Post:=λx K=>x=sI a/\∃X,K=H++X) ?_ (λ_ _ h=>⟨_,h.2.choose_spec,by rw[h.1];simp[AV.low,AV.iZ],h.1,rfl⟩);have e:=trivial;refine wi acd func277 [3,5] [] 999 ?_;have⟨s1,e,m⟩:=ep e hm;simp[e];refine Cf (zd T (st:=λs:Int=>H++[[sI a1],[sI s]]) (BO.RK H (λs:Int=>[[sI a1],[sI s]]) 2 (λ_=>rfl) (by simp[AV.low,AV.iZ])) (λX s _ _ b h=>by have:=G_ T (H:=H++[[sI a1],[sI s]]++X) (q0:=(List.length H)) (q1:=(List.length H+1)) (by simp[e]) (by simp[e]) (by simp[e]) h;simpa using this) e.2) ?_;cases m;simp[e]
def yT(T:fa){H:eD}{a0:Tm}{a1 a b c:Int}{q0 q1:Nat}(d:H[q0]?=some [sI a])(f:H[q1]?=some [sI b])(g:q0≠q1)(hm:jQ a0 a1 a b=some c):eZ prog T 276 [Tm.av a0,sI a1,AV.fO q0 0,AV.fO q1 0] H (AV.tuple []) (gb H q0 [sI c]):=by
 rw[jQ] at hm;have h:=fW d;have i:=fW f;refine fG.Iy d ?_;have e:=Aj (Aj (Aj (Aj h i) f) g) g.symm;refine wi acd func276 [] [(1,true,[true,true,true,true,true,true,true,false])] 999 ?_;have⟨j,e,m⟩:=ep e hm;simp[e];refine Cs (Cl T e.2) ?_;cases m;simp[e]
def DX(T:fa):∀(n:Nat),(∀{S:Type} {st:S->eD} {k:Nat} {a0:Fm} {a1:Int} {a2:(S->Tm->Int->Option (S))} {i:S} {d:S} {g2:Nat} {b:List AV} (hF:BO st k) (j:B2 T g2 b st a2) (hm:mH n a0 a1 a2 i=some d),eZ prog T 275 [Fm.av a0,sI a1,AV.func (.func g2) [] b] (st i) (AV.tuple []) (st d)):=by
  intro n
  induction n with
  |zero=>
    skip
    all_goals(intro _ _;intros;rename_i hm;cases hm)
  |succ n y=>
 intro S st k a0 a1 a2 i d g2 b hF j hm;rw[mH] at hm;have e:=hF.len;refine wi acd func275 [] [] 999 ?_;simp[e];refine Wr e hm 0 (λw s2 f h=>∃(a:Nat),h=st s2/\f.1 1=sI a1/\f.1 2=AV.func (.func g2) [] b/\f.1 3=AV.eC 3 a 0/\f.1 11=sL Tm.av a0.ej/\f.1 12=sI (eM a0.ej)/\f.1 13=sI w/\f.gen 3=a/\f.box 3=some [sI a0.ab9,sI a0.dv.ab9,sL Ty.av a0.dv.ab_,sL Tm.av a0.ej,sL Fm.av a0.ab_]) ⟨1,by simp[e]⟩ (λs2 s z A E m=>?_) (λw L s2 s z A n6 M E e m B t=>?_);rotate_left
 ·have⟨a,E⟩:=E;have e:=Aj e E;apply wg 999;have⟨C,e,m⟩:=ep e m;simp[e];refine nc.TV (by rfl) (B2.XR j e.2) ?_;simp[e];cases m;exact t _ _ _ ⟨a,by simp[e]⟩ B
 have⟨a,E⟩:=E;have e:=Aj e E;apply wg 5;dsimp only[ei]at m;simp[e];refine Wj m 999 999 (λo f h=>∃(v12:Int) (c:Nat),(h=st s2/\f.1 1=sI v12/\f.1 2=AV.func (.func g2) [] b/\f.1 3=AV.eC 3 c 0/\f.gen 3=c/\f.box 3=some [sI a0.ab9,sI a0.dv.ab9,sL Ty.av a0.dv.ab_,sL Tm.av a0.ej,sL Fm.av a0.ab_])/\o v12=some d) (λo D g m=>?_) ?_
 ·have⟨F,e,m⟩:=ep e m;simp[e];refine Cf (wo e.2) ?_;rcases Io e m with⟨e,m⟩|⟨e,m⟩;rotate_left
  ·simp[e];exact g _ _ ⟨a1,a,by simp[e],m⟩
  simp[e];exact g _ _ ⟨(fk .i64 a1 1),a,by simp[e],m⟩
 rintro x G ⟨v12,c,E,m⟩;have e:=Aj e E;simp[e];refine Wr e m 999 (λp l f h=>h=st l/\f.1 1=sI v12/\f.1 2=AV.func (.func g2) [] b/\f.1 28=sL Fm.av a0.ab_/\f.1 29=sI (eM a0.ab_)/\f.1 30=sI p) (by simp[e]) (λl q u v E m=>?_) (λp H l q u v I J E e m z24 r=>?_)
 ·have e:=Aj e E;dsimp only[ei]at m;cases m;simp[e]
 have e:=Aj e E;have⟨K,e,m⟩:=ep e m;simp[e];refine Cf (y hF j e.2) ?_;simp[e];cases m;exact r _ _ _ (by simp[e]) z24
def E8(T:fa){S:Type}{st:S->eD}{k:Nat}{a0:Fm}{a1:Int}{a2:(S->Tm->Int->Option (S))}{b c:S}{g2:Nat}{a:List AV}(hF:BO st k)(d:B2 T g2 a st a2){n:Nat}(hm:mH n a0 a1 a2 b=some c):eZ prog T 275 [Fm.av a0,sI a1,AV.func (.func g2) [] a] (st b) (AV.tuple []) (st c):=(DX T n) hF d hm
def qV(T:fa){H:eD}{a0:Fm}{a1 a:Int}(hm:kN a0 a1=some a):eZ prog T 246 [Fm.av a0,sI a1] H (sI a) H:=by
 rw[kN] at hm;refine fG.tK (Post:=λx K=>x=sI a/\∃X,K=H++X) ?_ (λ_ _ h=>⟨_,h.2.choose_spec,by rw[h.1];simp[AV.low,AV.iZ],h.1,rfl⟩);have e:=trivial;refine wi acd func246 [3,5] [] 999 ?_;have⟨s1,e,m⟩:=ep e hm;simp[e];refine Cf (E8 T (st:=λs:Int=>H++[[sI a1],[sI s]]) (BO.RK H (λs:Int=>[[sI a1],[sI s]]) 2 (λ_=>rfl) (by simp[AV.low,AV.iZ])) (λX s _ _ b h=>by have:=yT T (H:=H++[[sI a1],[sI s]]++X) (q0:=(List.length H+1)) (q1:=(List.length H)) (by simp[e]) (by simp[e]) (by simp[e]) h;simpa using this) e.2) ?_;cases m;simp[e]
def JY(T:fa){H:eD}{a0 a1 b:Int}{a h:Tm}{q0 q1:Nat}(c:H[q0]?=some [sI b])(d:H[q1]?=some [sI a.ab9,sI a.aca,sI a.dv.ab9,sL Ty.av a.dv.ab_,sL Tm.av a.ab_])(hm:pj a0 a1 b a=some h):eZ prog T 297 [sI a0,sI a1,AV.fO q0 0,AV.fO q1 0] H (Tm.av h) H:=by
 rw[pj] at hm;have f:=fW c;have g:=fW d;have e:=Aj (Aj (Aj f c) g) d;refine wi acd func297 [] [] 999 ?_;rcases Io e hm with⟨e,m⟩|⟨e,m⟩
 ·have⟨i,e,m⟩:=ep e m;simp[e];refine Cf (EL T e.2) ?_;cases m;simp[e]
 rcases Io e m with⟨e,m⟩|⟨e,m⟩
 ·have⟨j,e,m⟩:=ep e m;simp[e];refine Cf (kU e.2) ?_;cases m;simp[e]
 have⟨k,e,m⟩:=ep e m;simp[e];refine Cf (kU e.2) ?_;cases m;simp[e]
def N0(T:fa){H:eD}{a0:Tm}{a1:Int}{a2 a:Tm}(hm:zY a0 a1 a2=some a):eZ prog T 279 [Tm.av a0,sI a1,Tm.av a2] H (Tm.av a) H:=by
 rw[zY] at hm;refine fG.tK (Post:=λx K=>x=Tm.av a/\∃X,K=H++X) ?_ (λ_ _ h=>⟨_,h.2.choose_spec,by rw[h.1];simp[AV.low,AV.iZ],h.1,rfl⟩);have e:=trivial;refine wi acd func279 [4,5] [] 999 ?_;have⟨c,s2,e,m⟩:=gv e hm;simp[e];refine Cf (zG T (st:=λ_:Unit=>H++[[sI a1],[sI a2.ab9,sI a2.aca,sI a2.dv.ab9,sL Ty.av a2.dv.ab_,sL Tm.av a2.ab_]]) (BO.const _) (λX _ _ _ _ _ h=>by obtain⟨b,rfl⟩:=vt h;exact JY T (q0:=(List.length H)) (q1:=(List.length H+1)) (by simp[e]) (by simp[e]) b) e.2) ?_;cases m;simp[e]
def AA(T:fa){H:eD}{a0:Tm}{a1 b:Int}{a h:Tm}{q0 q1:Nat}(c:H[q0]?=some [sI b])(d:H[q1]?=some [sI a.ab9,sI a.aca,sI a.dv.ab9,sL Ty.av a.dv.ab_,sL Tm.av a.ab_])(hm:jv a0 a1 b a=some h):eZ prog T 278 [Tm.av a0,sI a1,AV.fO q0 0,AV.fO q1 0] H (Tm.av h) H:=by
 rw[jv] at hm;have f:=fW c;have g:=fW d;have e:=Aj (Aj (Aj f c) g) d;refine wi acd func278 [] [] 999 ?_;have⟨i,e,m⟩:=ep e hm;simp[e];refine Cf (N0 T e.2) ?_;cases m;simp[e]
def sG(T:fa){H:eD}{a0:Fm}{a1:Int}{a2:Tm}{a:Fm}(hm:k7 a0 a1 a2=some a):eZ prog T 247 [Fm.av a0,sI a1,Tm.av a2] H (Fm.av a) H:=by
 rw[k7] at hm;refine fG.tK (Post:=λx K=>x=Fm.av a/\∃X,K=H++X) ?_ (λ_ _ h=>⟨_,h.2.choose_spec,by rw[h.1];simp[AV.low,AV.iZ],h.1,rfl⟩);have e:=trivial;refine wi acd func247 [4,5] [] 999 ?_;have⟨c,s2,e,m⟩:=gv e hm;simp[e];refine Cf (nk T (st:=λ_:Unit=>H++[[sI a1],[sI a2.ab9,sI a2.aca,sI a2.dv.ab9,sL Ty.av a2.dv.ab_,sL Tm.av a2.ab_]]) (BO.const _) (λX _ _ _ _ _ h=>by obtain⟨b,rfl⟩:=vt h;exact AA T (q0:=(List.length H)) (q1:=(List.length H+1)) (by simp[e]) (by simp[e]) b) e.2) ?_;cases m;simp[e]
def sm(T:fa)(a:qq T){H:eD}{a0:Fm}{a1:Tm}{b:Fm}{c:Int}(hm:jl a0 a1=some (b,c)):eZ prog T 200 [Fm.av a0,Tm.av a1] H (AV.tuple [Fm.av b,sI c]) H:=by
 rw[jl] at hm;have e:=a;refine wi acd func200 [] [] 999 ?_;have⟨d,f,e,m⟩:=gv e hm;simp[e];refine Cf (qW T a e.2) ?_;have⟨g,h,e,m⟩:=gv e m;simp[e];refine Cf (tp T a e.2) ?_;have⟨i,e,m⟩:=ep e m;simp[e];refine Cf (qV T e.2) ?_;rcases Io e m with⟨e,m⟩|⟨e,m⟩
 ·cases m;simp[e]
 have⟨j,e,m⟩:=ep e m;simp[e];refine Cf (sG T e.2) ?_;cases m;simp[e]
def yt:C1 prog 201 qm (λn=>AV.sc (Value.int .u32 n)) Tm.av:=by
 intro T H a0 r hm;rw[qm] at hm;have e:=trivial;refine wi acd func201 [] [] 999 ?_;cases hm;simp[e]
def BM(T:fa)(f:qq T){H:eD}{a0:Tm}{a1 a:Int}{g:Tm}{b:Int}{q0:Nat}(c:H[q0]?=some [sI a])(hm:ky a0 a1 a=some (g,b)):eZ prog T 248 [Tm.av a0,sI a1,AV.fO q0 0] H (Tm.av g) (gb H q0 [sI b]):=by
 rw[ky] at hm;have d:=fW c;refine fG.Iy c ?_;have e:=Aj f d;refine wi acd func248 [] [] 999 ?_;rcases Io e hm with⟨e,m⟩|⟨e,m⟩
 ·cases m;simp[e]
 have⟨h,i,j,e,m⟩:=Kd e m;simp[e];refine Cf (ui T f e.2) ?_;cases m;simp[e]
def DP(T:fa)(c:qq T){H:eD}{a0 a:Fm}{b:Int}(hm:mY a0=some (a,b)):eZ prog T 203 [Fm.av a0] H (AV.tuple [Fm.av a,sI b]) H:=by
 rw[mY] at hm;refine fG.tK (Post:=λx K=>x=AV.tuple [Fm.av a,sI b]/\∃X,K=H++X) ?_ (λ_ _ h=>⟨_,h.2.choose_spec,by rw[h.1];simp[AV.low,AV.iZ],h.1,rfl⟩);have e:=c;refine wi acd func203 [4] [(6,true,[])] 999 ?_;have⟨d,e,m⟩:=ep e hm;simp[e];refine Cf (qV T e.2) ?_;rcases Io e m with⟨e,m⟩|⟨e,m⟩
 ·have⟨f,e,m⟩:=ep e m;simp[e];refine Cf (sG T e.2) ?_;cases m;simp[e]
 have⟨g,i,e,m⟩:=gv e m;simp[e];refine Cf (nk T (st:=λs:Int=>H++[[sI s]]) (BO.RK H (λs:Int=>[[sI s]]) 1 (λ_=>rfl) (by simp[AV.low,AV.iZ])) (λX s _ _ _ j h=>by have:=BM T c (H:=H++[[sI s]]++X) (q0:=(List.length H)) (by simp[e]) h;simpa using this) e.2) ?_;rcases Io e m with⟨e,m⟩|⟨e,m⟩
 ·cases m;simp[e]
 have⟨k,e,m⟩:=ep e m;simp[e];refine Cf (qV T e.2) ?_;rcases Io e m with⟨e,m⟩|⟨e,m⟩
 ·cases m;simp[e]
 have⟨l,e,m⟩:=ep e m;simp[e];refine Cf (sG T e.2) ?_;cases m;simp[e]
def r_:C2 prog 250 rv Tm.av sI (sL Tm.av):=by
 intro T H a0 a1 r hm;rw[rv] at hm;have e:=trivial;refine wi acd func250 [] [] 999 ?_;cases hm;simp[e]
def zv:C1 prog 204 kn eQ.av sI:=by
 intro T H a0 r hm;rw[kn] at hm;have e:=trivial;refine wi acd func204 [] [] 999 ?_;rcases Io e hm with⟨e,m⟩|⟨e,m⟩
 ·have⟨b,e,m⟩:=ep e m;simp[e];refine Cf (r_ e.2) ?_;have⟨f,e,m⟩:=ep e m;simp[e];refine Cf (mX e.2) ?_;have⟨i,e,m⟩:=ep e m;simp[e];refine Cf (kU e.2) ?_;have⟨c,e,m⟩:=ep e m;simp[e];refine Cf (r_ e.2) ?_;have e:=Aj e (show AV.agg [sI 1,sI b.ab9,sI b.aca,sI b.dv.ab9,sL Ty.av b.dv.ab_,sL Tm.av b.ab_,AV.slice .iP [Ty.av f],sI c.ab9,sI c.aca,sI c.dv.ab9,sL Ty.av c.dv.ab_,sL Tm.av c.ab_]=eQ.av (eQ.mk 1 b [f] c) by rw[eQ.fL];rfl);have e:=Aj e (show AV.agg [sI 1,sI b.ab9,sI b.aca,sI b.dv.ab9,sL Ty.av b.dv.ab_,sL Tm.av b.ab_,AV.slice .iP [Ty.av f],sI c.ab9,sI c.aca,sI c.dv.ab9,sL Ty.av c.dv.ab_,sL Tm.av c.ab_]=eQ.av (eQ.mk 1 b [f] c) by rw[eQ.fL];rfl);cases m;simp[e]
 have⟨d,e,m⟩:=ep e m;simp[e];refine Cf (r_ e.2) ?_;have⟨g,e,m⟩:=ep e m;simp[e];refine Cf (mX e.2) ?_;have⟨h,e,m⟩:=ep e m;simp[e];refine Cf (ET e.2) ?_;have⟨j,e,m⟩:=ep e m;simp[e];refine Cf (kU e.2) ?_;have⟨k,e,m⟩:=ep e m;simp[e];refine Cf (kU e.2) ?_;have⟨a,e,m⟩:=ep e m;simp[e];refine Cf (r_ e.2) ?_;have e:=Aj e (show AV.agg [sI 2,sI d.ab9,sI d.aca,sI d.dv.ab9,sL Ty.av d.dv.ab_,sL Tm.av d.ab_,AV.slice .iP [Ty.av g,Ty.av h],sI a.ab9,sI a.aca,sI a.dv.ab9,sL Ty.av a.dv.ab_,sL Tm.av a.ab_]=eQ.av (eQ.mk 2 d [g,h] a) by rw[eQ.fL];rfl);have e:=Aj e (show AV.agg [sI 2,sI d.ab9,sI d.aca,sI d.dv.ab9,sL Ty.av d.dv.ab_,sL Tm.av d.ab_,AV.slice .iP [Ty.av g,Ty.av h],sI a.ab9,sI a.aca,sI a.dv.ab9,sL Ty.av a.dv.ab_,sL Tm.av a.ab_]=eQ.av (eQ.mk 2 d [g,h] a) by rw[eQ.fL];rfl);cases m;simp[e]
def yK:C2 prog 207 rn Fm.av Tm.av Tm.av:=by
 intro T H a0 a1 r hm;rw[rn] at hm;have e:=trivial;refine wi acd func207 [] [] 999 ?_;have e:=Aj e (show AV.agg [sI 1,sI 0,AV.slice .iP [],AV.slice .iP [Tm.av a0,Tm.av a1],AV.slice .iP []]=Fm.av (Fm.mk 1 (Ty.mk 0 []) [a0,a1] []) by rw[Fm.fL];rfl);have e:=Aj e (show AV.agg [sI 1,sI 0,AV.slice .iP [],AV.slice .iP [Tm.av a0,Tm.av a1],AV.slice .iP []]=Fm.av (Fm.mk 1 (Ty.mk 0 []) [a0,a1] []) by rw[Fm.fL];rfl);cases hm;simp[e]
def yS(T:fa){H:eD}{a0:List Fm}{a1:Pf}{a2:eh}{b:ec}{c:Int}{d:Nat}(a:KC H d a0)(hm:oh a0 a1 a2=some (b,c)):eZ prog T 150 [AV.fO d 0,Pf.av a1,eh.av a2] H (AV.tuple [ec.av b,sI c]) H:=by
 rw[oh] at hm;have e:=a;refine wi acd func150 [] [] 999 ?_;have⟨f,e,m⟩:=ep e hm;have⟨g,e,m⟩:=ep e m;simp[e];refine Cf (r7 e.2) ?_;rcases Io e m with⟨e,m⟩|⟨e,m⟩
 ·cases m;simp[e]
 have⟨h,e,m⟩:=ep e m;simp[e];refine Cf (yK e.2) ?_;cases m;simp[e]
def Bx:C2 prog 210 sh Tm.av Tm.av (sL Tm.av):=by
 intro T H a0 a1 r hm;rw[sh] at hm;have e:=trivial;refine wi acd func210 [] [] 999 ?_;simp[e];refine Wr e hm 999 (λj s2 f h=>∃(a:Nat) (b:Nat),h=H/\f.1 2=AV.eC 2 a 0/\f.1 4=AV.eC 4 b 0/\f.1 7=sL Tm.av a1/\f.1 8=sI (eM a1)/\f.1 9=sI j/\f.gen 2=a/\f.box 2=some [sI s2.1,sI s2.2.1,sI s2.2.2.1,sL Ty.av s2.2.2.2.1,sL Tm.av s2.2.2.2.2]/\f.gen 4=b/\f.box 4=some [sI 0,sI 0,sI 0,AV.slice .full [],AV.slice .full []]) ⟨1,1,by simp[e]⟩ (λs2 c k l E m=>?_) (λj p s2 c k l n6 q E e m n d=>?_)
 ·have⟨v10,v11,v12,g,i⟩:=s2;have⟨a,b,E⟩:=E;have e:=Aj e E;dsimp only[ei,F9]at m;cases m;simp[e]
 have⟨v10,v11,v12,g,i⟩:=s2;have⟨a,b,E⟩:=E;have e:=Aj e E;dsimp only[F9]at m;have⟨o,e,m⟩:=ep e m;simp[e];refine Cf (r_ e.2) ?_;simp[e];cases m;exact d _ _ _ ⟨a,b,by simp[e]⟩ n
def IA:C1 prog 304 tE (t2 sI sI) sB:=by
 intro T H a0 r hm;rw[tE] at hm;have e:=trivial;refine wi acd func304 [] [] 999 ?_;rcases Io e hm with⟨e,m⟩|⟨e,m⟩
 ·cases m;simp[e]
 cases m;simp[e]
def BD:C2 prog 319 u9 Tm.av Tm.av (sL Ty.av):=by
 intro T H a0 a1 r hm;rw[u9] at hm;have e:=trivial;refine wi acd func319 [] [] 999 ?_;simp[e];refine Wn hm 999 (λs1 f h=>∃(c:Tag) (a:Nat) (b:Nat),h=H/\f.1 1=sL Ty.av a1/\f.1 2=AV.eC 2 a 0/\f.1 4=AV.eC 4 b 0/\f.1 5=sI s1.1/\f.gen 2=a/\f.box 2=some [sI s1.2.1,sI s1.2.2.1,sI s1.2.2.2.1,sL Ty.av s1.2.2.2.2.1,sT c Tm.av s1.2.2.2.2.2]/\f.gen 4=b/\f.box 4=some [sI 0,sI 0,sI 0,AV.slice .full [],AV.slice .full []]) ⟨.iP,1,1,by simp[e]⟩ (λs1 fr2 k l n4 c5 E m g d=>?_);have⟨n,v9,v10,v11,v12,i⟩:=s1;have⟨c,a,b,E⟩:=E;have e:=Aj e E;dsimp only[zh]at m;rcases Io e m with⟨e,m⟩|⟨e,m⟩;rotate_left
 ·cases m;have m:=Qb g;dsimp only[zh]at m;cases m;simp[e]
 have⟨j,e,m⟩:=ep e m;simp[e];cases m;exact d _ _ _ ⟨.full,a,b,by simp[e]⟩ g
def N_:C5 prog 320 zm Tm.av sI Ty.av Tm.av Tm.av Tm.av:=by
 intro T H a0 a1 a2 a3 a4 r hm;rw[zm] at hm;have e:=trivial;refine wi acd func320 [] [] 999 ?_;have e:=Aj e (show AV.agg [sI a0,sI 0,sI a1.ab9,sL Ty.av a1.ab_,AV.slice .iP [Tm.av a2,Tm.av a3,Tm.av a4]]=Tm.av (Tm.mk a0 0 a1 [a2,a3,a4]) by rw[Tm.fL];rfl);have e:=Aj e (show AV.agg [sI a0,sI 0,sI a1.ab9,sL Ty.av a1.ab_,AV.slice .iP [Tm.av a2,Tm.av a3,Tm.av a4]]=Tm.av (Tm.mk a0 0 a1 [a2,a3,a4]) by rw[Tm.fL];rfl);cases hm;simp[e]
def wI:C3 prog 315 nB Tm.av Tm.av Tm.av Tm.av:=by
 intro T H a0 a1 a2 r hm;rw[nB] at hm;have e:=trivial;refine wi acd func315 [] [] 999 ?_;have⟨a,e,m⟩:=ep e hm;simp[e];refine Cs (mX e.2) ?_;have⟨b,e,m⟩:=ep e m;simp[e];refine Cs (mX e.2) ?_;have⟨c,e,m⟩:=ep e m;simp[e];refine Cs (mX e.2) ?_;have⟨d,e,m⟩:=ep e m;simp[e];refine Cs (BD e.2) ?_;have⟨f,e,m⟩:=ep e m;simp[e];refine Cs (N_ e.2) ?_;cases m;simp[e]
def K0:C0 prog 316 vB Tm.av:=by
 intro T H r hm;rw[vB] at hm;have e:=trivial;refine wi acd func316 [] [] 999 ?_;have⟨a,e,m⟩:=ep e hm;simp[e];refine Cf (r_ e.2) ?_;have⟨b,e,m⟩:=ep e m;simp[e];refine Cf (kU e.2) ?_;have⟨c,e,m⟩:=ep e m;simp[e];refine Cf (kU e.2) ?_;have⟨d,e,m⟩:=ep e m;simp[e];refine Cf (wI e.2) ?_;have⟨f,e,m⟩:=ep e m;simp[e];refine Cf (mX e.2) ?_;have⟨g,e,m⟩:=ep e m;simp[e];refine Cf (BD e.2) ?_;cases m;simp[e]
def M1:C1 prog 314 Am Tm.av Tm.av:=by
 intro T H a0 r hm;rw[Am] at hm;have e:=trivial;refine wi acd func314 [] [] 999 ?_;have⟨a,e,m⟩:=ep e hm;simp[e];refine Cs (mX e.2) ?_;have⟨b,e,m⟩:=ep e m;simp[e];refine Cs (mX e.2) ?_;have⟨c,e,m⟩:=ep e m;simp[e];refine Cs (BD e.2) ?_;cases m;simp[e]
def L5:C0 prog 310 xu Tm.av:=by
 intro T H r hm;rw[xu] at hm;have e:=trivial;refine wi acd func310 [] [] 999 ?_;have⟨a,e,m⟩:=ep e hm;simp[e];refine Cf (kU e.2) ?_;have⟨b,e,m⟩:=ep e m;simp[e];refine Cf (K0 e.2) ?_;have⟨c,e,m⟩:=ep e m;simp[e];refine Cf (kU e.2) ?_;have⟨d,e,m⟩:=ep e m;simp[e];refine Cf (Bx e.2) ?_;have⟨f,e,m⟩:=ep e m;simp[e];refine Cf (kU e.2) ?_;have⟨g,e,m⟩:=ep e m;simp[e];refine Cf (wI e.2) ?_;have⟨h,e,m⟩:=ep e m;simp[e];refine Cf (M1 e.2) ?_;cases m;simp[e]
def KV:C2 prog 306 vU Fm.av Tm.av Tm.av:=by
 intro T H a0 a1 r hm;rw[vU] at hm;have e:=trivial;refine wi acd func306 [] [] 999 ?_;have⟨a,e,m⟩:=ep e hm;simp[e];refine Cs (L5 e.2) ?_;have⟨b,e,m⟩:=ep e m;simp[e];refine Cs (r_ e.2) ?_;have⟨c,e,m⟩:=ep e m;simp[e];refine Cs (Bx e.2) ?_;have⟨d,e,m⟩:=ep e m;simp[e];refine Cs (r_ e.2) ?_;have⟨f,e,m⟩:=ep e m;simp[e];refine Cs (yK e.2) ?_;cases m;simp[e]
def AK:∀(n:Nat),C2 prog 305 (ku n) sB Fm.av Fm.av:=by
  intro n
  induction n with
  |zero=>
    skip
    all_goals(intro _ _;intros;rename_i hm;cases hm)
  |succ n A=>
 intro T H a0 a1 r hm;rw[ku] at hm;have e:=trivial;refine wi acd func305 [] [] 3 ?_;simp[e];refine Wj hm 999 999 (λx f h=>∃(v2:Bool) (d:Nat) (g:Nat),(h=H/\f.1 2=AV.eC 2 d 0/\f.1 3=AV.eC 3 g 0/\f.1 39=sB v2/\f.gen 2=d/\f.box 2=some [sI a0.ab9,sI a0.dv.ab9,sL Ty.av a0.dv.ab_,sL Tm.av a0.ej,sL Fm.av a0.ab_]/\f.gen 3=g/\f.box 3=some [sI a1.ab9,sI a1.dv.ab9,sL Ty.av a1.dv.ab_,sL Tm.av a1.ej,sL Fm.av a1.ab_])/\x v2=some r) (λx P i m=>?_) ?_
 ·rcases Io e m with⟨e,m⟩|⟨e,m⟩
  ·simp[e];exact i _ _ ⟨true,1,1,by simp[e],m⟩
  have⟨Q,e,m⟩:=ep e m;simp[e];refine Cf (pB e.2) ?_;rcases Io e m with⟨e,m⟩|⟨e,m⟩;rotate_left
  ·simp[e];exact i _ _ ⟨true,1,1,by simp[e],m⟩
  rcases Io e m with⟨e,m⟩|⟨e,m⟩
  ·simp[e];exact i _ _ ⟨true,1,1,by simp[e],m⟩
  simp[e];exact i _ _ ⟨(eW (eM a0.ab_) (eM a1.ab_)),1,1,by simp[e],m⟩
 rintro B R ⟨v2,d,g,E,m⟩;have e:=Aj e E;rcases Io e m with⟨e,m⟩|⟨e,m⟩
 ·cases m;simp[e]
 simp[e];refine Wr e m 999 (λy z f h=>∃(c:Nat) (b:Nat),h=H/\f.1 2=AV.eC 2 c 0/\f.1 3=AV.eC 3 b 0/\f.1 41=sL Tm.av a0.ej/\f.1 42=sI (eM a0.ej)/\f.1 43=sI y/\f.gen 2=c/\f.box 2=some [sI a0.ab9,sI a0.dv.ab9,sL Ty.av a0.dv.ab_,sL Tm.av a0.ej,sL Fm.av a0.ab_]/\f.gen 3=b/\f.box 3=some [sI a1.ab9,sI a1.dv.ab9,sL Ty.av a1.dv.ab_,sL Tm.av a1.ej,sL Fm.av a1.ab_]) ⟨d,g,by simp[e]⟩ (λz t C u E m=>?_) (λy D z t C u F G E e m j k=>?_);rotate_left
 ·have⟨c,b,E⟩:=E;have e:=Aj e E;have⟨I,e,m⟩:=ep e m;have⟨J,e,m⟩:=ep e m;simp[e];refine Cs (yO e.2) ?_;rcases Io e m with⟨e,m⟩|⟨e,m⟩;rotate_left
  ·cases m;cases j;simp[e]
  simp[e];cases m;exact k _ _ _ ⟨c,b,by simp[e]⟩ j
 have⟨c,b,E⟩:=E;have e:=Aj e E;dsimp only[ei]at m;simp[e];refine Wr e m 999 (λl o f h=>∃(a:Nat),h=H/\f.1 3=AV.eC 3 a 0/\f.1 58=sL Fm.av a0.ab_/\f.1 59=sI (eM a0.ab_)/\f.1 60=sI l/\f.gen 3=a/\f.box 3=some [sI a1.ab9,sI a1.dv.ab9,sL Ty.av a1.dv.ab_,sL Tm.av a1.ej,sL Fm.av a1.ab_]) ⟨b,by simp[e]⟩ (λo p v w E m=>?_) (λl K o p v w L M E e m q s=>?_)
 ·have⟨a,E⟩:=E;have e:=Aj e E;dsimp only[ei]at m;cases m;simp[e]
 have⟨a,E⟩:=E;have e:=Aj e E;have⟨N,e,m⟩:=ep e m;have⟨O,e,m⟩:=ep e m;simp[e];refine Cs (A e.2) ?_;rcases Io e m with⟨e,m⟩|⟨e,m⟩;rotate_left
 ·cases m;cases q;simp[e]
 simp[e];cases m;exact s _ _ _ ⟨a,by simp[e]⟩ q
def Bt{n:Nat}:C2 prog 305 (ku n) sB Fm.av Fm.av:=(AK n)
def HY(T:fa){H:eD}{a0:Fm}{r:Bool}{s:Tm}{t:Fm}{u:Bool}(hm:tO a0=some (r,s,t,u)):eZ prog T 287 [Fm.av a0] H (AV.tuple [sB r,Tm.av s,Fm.av t,sB u]) H:=by
 rw[tO] at hm;have e:=trivial;refine wi acd func287 [] [] 7 ?_;have⟨L,M,e,m⟩:=gv e hm;simp[e];refine Cf (IA e.2) ?_;simp[e];refine Wj m 999 0 (λw f h=>∃(v4:Bool) (a:Nat) (b:Nat) (c:Nat),(h=H/\f.1 1=AV.eC 1 a 0/\f.1 3=AV.eC 3 b 0/\f.1 4=AV.eC 4 c 0/\f.1 6=sB (eH a0.ab9 4)/\f.1 48=sB v4/\f.gen 1=a/\f.box 1=some [sI a0.ab9,sI a0.dv.ab9,sL Ty.av a0.dv.ab_,sL Tm.av a0.ej,sL Fm.av a0.ab_]/\f.gen 3=b/\f.box 3=some [sI 0,sI 0,sI 0,AV.slice .full [],AV.slice .full []]/\f.gen 4=c/\f.box 4=some [sI 0,sI 0,AV.slice .full [],AV.slice .full [],AV.slice .full []])/\w v4=some (r,s,t,u)) (λw N n m=>?_) ?_
 ·rcases Io e m with⟨e,m⟩|⟨e,m⟩
  ·simp[e];exact n _ _ ⟨true,1,1,1,by simp[e],m⟩
  rcases Io e m with⟨e,m⟩|⟨e,m⟩
  ·simp[e];exact n _ _ ⟨true,1,1,1,by simp[e],m⟩
  have⟨O,e,m⟩:=ep e m;rcases Io e m with⟨e,m⟩|⟨e,m⟩
  ·simp[e];exact n _ _ ⟨true,1,1,1,by simp[e],m⟩
  have⟨y,e,m⟩:=ep e m;simp[e];exact n _ _ ⟨(eW y.ab9 1),1,1,1,by simp[e],m⟩
 rintro o P ⟨v4,a,b,c,E,m⟩;have e:=Aj e E;rcases Io e m with⟨e,m⟩|⟨e,m⟩
 ·apply wg 999;cases m;simp[e]
 apply wg 7;have⟨z,e,m⟩:=ep e m;have⟨A,e,m⟩:=ep e m;have⟨k,e,m⟩:=ep e m;simp[e];refine Wj m 999 999 (λq f h=>∃(p:Bool) (g:Nat) (i:Nat) (j:Nat) (d:Nat),(h=H/\f.1 1=AV.eC 1 g 0/\f.1 3=AV.eC 3 i 0/\f.1 4=AV.eC 4 j 0/\f.1 6=sB (eH a0.ab9 4)/\f.1 10=AV.eC 10 d 0/\f.1 83=sB p/\f.gen 1=g/\f.box 1=some [sI a0.ab9,sI a0.dv.ab9,sL Ty.av a0.dv.ab_,sL Tm.av a0.ej,sL Fm.av a0.ab_]/\f.gen 3=i/\f.box 3=some [sI 0,sI 0,sI 0,AV.slice .full [],AV.slice .full []]/\f.gen 4=j/\f.box 4=some [sI 0,sI 0,AV.slice .full [],AV.slice .full [],AV.slice .full []]/\f.gen 10=d/\f.box 10=some [sI k.ab9,sI k.aca,sI k.dv.ab9,sL Ty.av k.dv.ab_,sL Tm.av k.ab_])/\q p=some (r,s,t,u)) (λq B l m=>?_) ?_;rotate_left
 ·rintro x C ⟨p,g,i,j,d,E,m⟩;have e:=Aj e E;rcases Io e m with⟨e,m⟩|⟨e,m⟩
  ·cases m;simp[e]
  have⟨D,e,m⟩:=ep e m;have⟨F,e,m⟩:=ep e m;cases m;simp[e]
 rcases Io e m with⟨e,m⟩|⟨e,m⟩
 ·simp[e];exact l _ _ ⟨true,a,b,c,(o.gen 10+1),by simp[e],m⟩
 have⟨G,e,m⟩:=ep e m;have⟨I,e,m⟩:=ep e m;simp[e];refine Cs (Cl T e.2) ?_;rcases Io e m with⟨e,m⟩|⟨e,m⟩
 ·simp[e];exact l _ _ ⟨true,a,b,c,(o.gen 10+1),by simp[e],m⟩
 have⟨J,e,m⟩:=ep e m;simp[e];refine Cs (kU e.2) ?_;have⟨K,e,m⟩:=ep e m;simp[e];refine Cs (KV e.2) ?_;have⟨v,e,m⟩:=ep e m;simp[e];refine Cs (Bt e.2) ?_;simp[e];exact l _ _ ⟨(nt v),a,b,c,(o.gen 10+1),by simp[e],m⟩
def MI:∀(n:Nat),C1 prog 255 (nW n) (λn=>AV.sc (Value.int .u8 n)) Fm.av:=by
  intro n
  induction n with
  |zero=>
    skip
    all_goals(intro _ _;intros;rename_i hm;cases hm)
  |succ n l=>
 intro T H a0 r hm;rw[nW] at hm;have e:=trivial;refine wi acd func255 [] [] 5 ?_;simp[e];rcases Io e hm with⟨e,m⟩|⟨e,m⟩
 ·apply wg 999;cases m;simp[e]
 apply wg 4;have⟨J,e,m⟩:=ep e m;have⟨i,e,m⟩:=ep e m;simp[e];refine Cf (l e.2) ?_;simp[e];refine Wj m 3 2 (λp f h=>∃(v4:Int) (b:Nat),(h=H/\f.1 1=AV.eC 1 b 0/\f.1 3=AV.sc (.int .u8 v4)/\f.gen 1=b/\f.box 1=some [sI a0.ab9,sI a0.dv.ab9,sL Ty.av a0.dv.ab_,sL Tm.av a0.ej,sL Fm.av a0.ab_])/\p v4=some r) (λp K j m=>?_) ?_;rotate_left
 ·rintro v L ⟨v4,b,E,m⟩;have e:=Aj e E;simp[e];refine Wj m 999 999 (λq f h=>∃(v9:Int),(h=H/\f.1 6=AV.sc (.int .u8 v9))/\q v9=some r) (λq w c m=>?_) ?_;rotate_left
  ·rintro s x ⟨v9,E,m⟩;have e:=Aj e E;cases m;simp[e]
  have⟨y,z,A,B,e,m⟩:=Bo4 e m;simp[e];refine Cf (HY T e.2) ?_;rcases Io e m with⟨e,m⟩|⟨e,m⟩;rotate_left
  ·simp[e];exact c _ _ ⟨(qN .u8 v4 1),by simp[e],m⟩
  have⟨o,e,m⟩:=ep e m;simp[e];refine Cf (l e.2) ?_;simp[e];exact c _ _ ⟨(xj .u8 (qN .u8 v4 1) (qN .u8 o 4)),by simp[e],m⟩
 simp[e];refine wj 999 0 (λf h=>∃(a:Nat),h=H/\f.1 1=AV.eC 1 a 0/\f.1 3=AV.sc (.int .u8 i)/\f.1 24=sI a0.ab9/\f.1 25=sB (fU (eH a0.ab9 2) true (eH a0.ab9 3))/\f.gen 1=a/\f.box 1=some [sI a0.ab9,sI a0.dv.ab9,sL Ty.av a0.dv.ab_,sL Tm.av a0.ej,sL Fm.av a0.ab_]) (λC d=>?_) ?_
 ·rcases Pb (eH a0.ab9 2) e with e|e
  ·simp[e];exact d _ _ ⟨1,by simp[e]⟩
  simp[e];exact d _ _ ⟨1,by simp[e]⟩
 rintro t D ⟨a,E⟩;have e:=Aj e E;rcases Io e m with⟨e,m⟩|⟨e,m⟩;rotate_left
 ·apply wg 999;rcases Io e m with⟨e,m⟩|⟨e,m⟩;rotate_left
  ·simp[e];exact j _ _ ⟨i,a,by simp[e],m⟩
  simp[e];exact j _ _ ⟨(xj .u8 i 1),a,by simp[e],m⟩
 apply wg 5;have⟨F,e,m⟩:=ep e m;have⟨k,e,m⟩:=ep e m;simp[e];refine Cf (l e.2) ?_;simp[e];refine wj 2 999 (λf h=>h=H/\f.1 3=AV.sc (.int .u8 (fU (eH a0.ab9 2) (xj .u8 i k) i))/\f.1 5=AV.sc (.int .u8 (qN .u8 (qN .u8 k i) 6))) (λG g=>?_) ?_;rotate_left
 ·rintro u I E;have e:=Aj e E;cases m;simp[e]
 simp[e];rcases Pb (eH a0.ab9 2) e with e|e
 ·apply wg 999;simp[e];exact g _ _ (by simp[e])
 apply wg 999;simp[e];exact g _ _ (by simp[e])
def Nk{n:Nat}:C1 prog 255 (nW n) (λn=>AV.sc (Value.int .u8 n)) Fm.av:=(MI n)
def Mi(T:fa)(a:qq T){H:eD}{a0:Fm}{a1:Int}{b:Bool}{c:Int}(hm:Ar a0 a1=some (b,c)):eZ prog T 212 [Fm.av a0,AV.sc (.int .u8 a1)] H (AV.tuple [sB b,sI c]) H:=by
 rw[Ar] at hm;have e:=a;refine wi acd func212 [] [] 999 ?_;have⟨d,e,m⟩:=ep e hm;simp[e];refine Cf (pt T a e.2) ?_;rcases Io e m with⟨e,m⟩|⟨e,m⟩
 ·cases m;simp[e]
 have⟨f,e,m⟩:=ep e m;simp[e];refine Cf (Nk e.2) ?_;cases m;simp[e]
def E1(T:fa)(a:qq T){H:eD}{a0:Fm}{b:Bool}{c:Int}(hm:pL a0=some (b,c)):eZ prog T 153 [Fm.av a0] H (AV.tuple [sB b,sI c]) H:=by
 rw[pL] at hm;have e:=a;refine wi acd func153 [] [] 999 ?_;have⟨d,f,e,m⟩:=gv e hm;simp[e];refine Cf (Mi T a e.2) ?_;cases m;simp[e]
def xn(T:fa)(k:qq T):∀(n:Nat),(∀{H:eD} {a0:List Fm} {a1:Pf} {a2:eh} {c:ec} {d:Int} {g:Nat} (a:KC H g a0) (hm:e9 n a0 a1 a2=some (c,d)),eZ prog T 81 [AV.fO g 0,Pf.av a1,eh.av a2] H (AV.tuple [ec.av c,sI d]) H)/\(∀{H:eD} {a0:List Fm} {a1:Pf} {a2:eh} {c:ec} {d:Int} {g:Nat} (a:KC H g a0) (hm:kZ n a0 a1 a2=some (c,d)),eZ prog T 141 [AV.fO g 0,Pf.av a1,eh.av a2] H (AV.tuple [ec.av c,sI d]) H)/\(∀{H:eD} {a0:List Fm} {a1:Pf} {a2:eh} {c:ec} {d:Int} {g:Nat} (a:KC H g a0) (hm:iF n a0 a1 a2=some (c,d)),eZ prog T 142 [AV.fO g 0,Pf.av a1,eh.av a2] H (AV.tuple [ec.av c,sI d]) H)/\(∀{H:eD} {a0:List Fm} {a1:Pf} {a2:eh} {c:ec} {d:Int} {g:Nat} (a:KC H g a0) (hm:kY n a0 a1 a2=some (c,d)),eZ prog T 143 [AV.fO g 0,Pf.av a1,eh.av a2] H (AV.tuple [ec.av c,sI d]) H)/\(∀{H:eD} {a0:List Fm} {a1:Pf} {a2:eh} {c:ec} {d:Int} {g:Nat} (a:KC H g a0) (hm:kX n a0 a1 a2=some (c,d)),eZ prog T 144 [AV.fO g 0,Pf.av a1,eh.av a2] H (AV.tuple [ec.av c,sI d]) H)/\(∀{H:eD} {a0:List Fm} {a1:Pf} {a2:eh} {c:ec} {d:Int} {g:Nat} (a:KC H g a0) (hm:il n a0 a1 a2=some (c,d)),eZ prog T 145 [AV.fO g 0,Pf.av a1,eh.av a2] H (AV.tuple [ec.av c,sI d]) H)/\(∀{H:eD} {a0:List Fm} {a1:Pf} {a2:eh} {c:ec} {d:Int} {g:Nat} (a:KC H g a0) (hm:ik n a0 a1 a2=some (c,d)),eZ prog T 146 [AV.fO g 0,Pf.av a1,eh.av a2] H (AV.tuple [ec.av c,sI d]) H)/\(∀{H:eD} {a0:List Fm} {a1:Pf} {a2:eh} {c:ec} {d:Int} {g:Nat} (a:KC H g a0) (hm:iC n a0 a1 a2=some (c,d)),eZ prog T 147 [AV.fO g 0,Pf.av a1,eh.av a2] H (AV.tuple [ec.av c,sI d]) H)/\(∀{H:eD} {a0:List Fm} {a1:Pf} {a2:eh} {c:ec} {d:Int} {g:Nat} (a:KC H g a0) (hm:iD n a0 a1 a2=some (c,d)),eZ prog T 148 [AV.fO g 0,Pf.av a1,eh.av a2] H (AV.tuple [ec.av c,sI d]) H)/\(∀{H:eD} {a0:List Fm} {a1:Pf} {a2:eh} {c:ec} {d:Int} {g:Nat} (a:KC H g a0) (hm:iE n a0 a1 a2=some (c,d)),eZ prog T 149 [AV.fO g 0,Pf.av a1,eh.av a2] H (AV.tuple [ec.av c,sI d]) H)/\(∀{H:eD} {a0:List Fm} {a1:Pf} {a2:eh} {c:ec} {d:Int} {g:Nat} (a:KC H g a0) (hm:kv n a0 a1 a2=some (c,d)),eZ prog T 151 [AV.fO g 0,Pf.av a1,eh.av a2] H (AV.tuple [ec.av c,sI d]) H)/\(∀{H:eD} {a0:List Fm} {a1:Pf} {a2:eh} {c:ec} {d:Int} {g:Nat} (a:KC H g a0) (hm:j0 n a0 a1 a2=some (c,d)),eZ prog T 152 [AV.fO g 0,Pf.av a1,eh.av a2] H (AV.tuple [ec.av c,sI d]) H)/\(∀{H:eD} {a0:List Fm} {a1:Pf} {a2:eh} {a3:Int} {c:ec} {d:Int} {g:Nat} (a:KC H g a0) (hm:fh n a0 a1 a2 a3=some (c,d)),eZ prog T 192 [AV.fO g 0,Pf.av a1,eh.av a2,sI a3] H (AV.tuple [ec.av c,sI d]) H)/\(∀{H:eD} {a0:List Fm} {a1:Pf} {a2:eh} {a3:Fm} {a4:Tm} {c:ec} {d:Int} {g:Nat} (a:KC H g a0) (hm:fi n a0 a1 a2 a3 a4=some (c,d)),eZ prog T 202 [AV.fO g 0,Pf.av a1,eh.av a2,Fm.av a3,Tm.av a4] H (AV.tuple [ec.av c,sI d]) H):=by
  intro n
  induction n with
  |zero=>
    refine⟨?_,?_,?_,?_,?_,?_,?_,?_,?_,?_,?_,?_,?_,?_⟩
    all_goals(intro _ _;intros;rename_i hm;cases hm)
  |succ n j=>
 refine⟨?_,?_,?_,?_,?_,?_,?_,?_,?_,?_,?_,?_,?_,?_⟩
 ·intro H a0 a1 a2 c d g a hm;rw[e9] at hm;have e:=Aj k a;refine wi acd func81 [] [(1,true,[])] 7 ?_;have aD:uP prog H 113 (AV.mh (g-1)) (sI a1.ab9) false=some (KO a1.ab9):=NU a.2;have e:=Aj e aD;have⟨Z,x3,e,m⟩:=gv e hm;simp[e];refine qJ.val (r:=AV.tuple [ec.av Z,sI x3]) (H':=H) ?_ (by simp) ?_
  ·have b:=e.2;rcases xB (eH a1.ab9 1=true)with hk|hk
   ·rw[ee hk] at b;rw[jB hk (by rfl)];exact oA (zJ T a b)
   rw[ea hk] at b;rcases xB (eH a1.ab9 2=true)with hk|hk
   ·rw[ee hk] at b;rw[jB hk (by rfl)];exact oA (yF T a b)
   rw[ea hk] at b;rcases xB (eH a1.ab9 3=true)with hk|hk
   ·rw[ee hk] at b;rw[jB hk (by rfl)];exact oA (j.2.1 a b)
   rw[ea hk] at b;rcases xB (eH a1.ab9 4=true)with hk|hk
   ·rw[ee hk] at b;rw[jB hk (by rfl)];exact oA (j.2.2.1 a b)
   rw[ea hk] at b;rcases xB (eH a1.ab9 5=true)with hk|hk
   ·rw[ee hk] at b;rw[jB hk (by rfl)];exact oA (j.2.2.1 a b)
   rw[ea hk] at b;rcases xB (eH a1.ab9 6=true)with hk|hk
   ·rw[ee hk] at b;rw[jB hk (by rfl)];exact oA (j.2.2.2.1 a b)
   rw[ea hk] at b;rcases xB (eH a1.ab9 7=true)with hk|hk
   ·rw[ee hk] at b;rw[jB hk (by rfl)];exact oA (j.2.2.2.2.1 a b)
   rw[ea hk] at b;rcases xB (eH a1.ab9 8=true)with hk|hk
   ·rw[ee hk] at b;rw[jB hk (by rfl)];exact oA (j.2.2.2.2.2.1 a b)
   rw[ea hk] at b;rcases xB (eH a1.ab9 12=true)with hk|hk
   ·rw[ee hk] at b;rw[jB hk (by rfl)];exact oA (j.2.2.2.2.2.1 a b)
   rw[ea hk] at b;rcases xB (eH a1.ab9 9=true)with hk|hk
   ·rw[ee hk] at b;rw[jB hk (by rfl)];exact oA (j.2.2.2.2.2.2.1 a b)
   rw[ea hk] at b;rcases xB (eH a1.ab9 13=true)with hk|hk
   ·rw[ee hk] at b;rw[jB hk (by rfl)];exact oA (j.2.2.2.2.2.2.1 a b)
   rw[ea hk] at b;rcases xB (eH a1.ab9 10=true)with hk|hk
   ·rw[ee hk] at b;rw[jB hk (by rfl)];exact oA (j.2.2.2.2.2.2.2.1 a b)
   rw[ea hk] at b;rcases xB (eH a1.ab9 14=true)with hk|hk
   ·rw[ee hk] at b;rw[jB hk (by rfl)];exact oA (j.2.2.2.2.2.2.2.1 a b)
   rw[ea hk] at b;rcases xB (eH a1.ab9 11=true)with hk|hk
   ·rw[ee hk] at b;rw[jB hk (by rfl)];exact oA (j.2.2.2.2.2.2.2.2.1 a b)
   rw[ea hk] at b;rcases xB (eH a1.ab9 15=true)with hk|hk
   ·rw[ee hk] at b;rw[jB hk (by rfl)];exact oA (j.2.2.2.2.2.2.2.2.1 a b)
   rw[ea hk] at b;rcases xB (eH a1.ab9 16=true)with hk|hk
   ·rw[ee hk] at b;rw[jB hk (by rfl)];exact oA (j.2.2.2.2.2.2.2.2.2.1 a b)
   rw[ea hk] at b;rcases xB (eH a1.ab9 17=true)with hk|hk
   ·rw[ee hk] at b;rw[jB hk (by rfl)];exact oA (j.2.2.2.2.2.2.2.2.2.1 a b)
   rw[ea hk] at b;rcases xB (eH a1.ab9 18=true)with hk|hk
   ·rw[ee hk] at b;rw[jB hk (by rfl)];exact oA (yS T a b)
   rw[ea hk] at b;rcases xB (eH a1.ab9 19=true)with hk|hk
   ·rw[ee hk] at b;rw[jB hk (by rfl)];exact oA (j.2.2.2.2.2.2.2.2.2.2.1 a b)
   rw[ea hk] at b;rcases xB (eH a1.ab9 20=true)with hk|hk
   ·rw[ee hk] at b;rw[jB hk (by rfl)];exact oA (j.2.2.2.2.2.2.2.2.2.2.2.1 a b)
   rw[ea hk] at b;cases b
  simp[e];rcases Io e m with⟨e,m⟩|⟨e,m⟩
  ·apply wg 999;cases m;simp[e]
  apply wg 5;have⟨x5,e,m⟩:=ep e m;simp[e];refine Cf (pt T k e.2) ?_;simp[e];rcases Io e m with⟨e,m⟩|⟨e,m⟩
  ·apply wg 999;cases m;simp[e]
  apply wg 2;simp[e];refine Wj m 999 999 (λj6 f h=>∃(v7:Int) (y:Nat) (z:Nat),(h=H/\f.1 6=AV.eC 6 y 0/\f.1 8=AV.eC 8 z 0/\f.gen 6=y/\f.box 6=some [sI 0,sI 0,AV.slice .full [],AV.slice .full [],AV.slice .full [],AV.sc (.int .u32 0)]/\f.gen 8=z/\f.box 8=some [sI Z.eg.ab9,sI Z.eg.dv.ab9,sL Ty.av Z.eg.dv.ab_,sL Tm.av Z.eg.ej,sL Fm.av Z.eg.ab_,AV.sc (.int .u32 v7)])/\j6 v7=some (c,d)) (λj6 K8 aq m=>?_) ?_;rotate_left
  ·rintro aS aY ⟨v7,y,z,E,m⟩;have e:=Aj e E;cases m;simp[e]
  have⟨ar,aj,e,m⟩:=gv e m;simp[e];refine Cf (E1 T k e.2) ?_;rcases Io e m with⟨e,m⟩|⟨e,m⟩;rotate_left
  ·simp[e];exact aq _ _ ⟨0,1,1,by simp[e],m⟩
  simp[e];exact aq _ _ ⟨Z.gi,1,1,by simp[e],m⟩
 ·intro H a0 a1 a2 c d g a hm;rw[kZ] at hm;have e:=Aj k a;refine wi acd func141 [] [] 999 ?_;have⟨ak,e,m⟩:=ep e hm;have⟨i,x5,e,m⟩:=gv e m;simp[e];refine Cs (j.1 a e.2) ?_;rcases Io e m with⟨e,m⟩|⟨e,m⟩
  ·cases m;simp[e]
  have⟨aj,e,m⟩:=ep e m;have⟨aE,aF,e,m⟩:=gv e m;simp[e];refine Cs (j.1 a e.2) ?_;rcases Io e m with⟨e,m⟩|⟨e,m⟩
  ·cases m;simp[e]
  have⟨au,e,m⟩:=ep e m;simp[e];refine Cs (ER e.2) ?_;cases m;simp[e]
 ·intro H a0 a1 a2 c d g a hm;rw[iF] at hm;have e:=Aj k a;refine wi acd func142 [] [] 7 ?_;have⟨ak,e,m⟩:=ep e hm;have⟨i,x5,e,m⟩:=gv e m;simp[e];refine Cs (j.2.2.2.2.2.2.2.2.2.2.2.2.1 a e.2) ?_;simp[e];rcases Io e m with⟨e,m⟩|⟨e,m⟩
  ·apply wg 999;cases m;simp[e]
  apply wg 4;simp[e];refine wj 999 999 (λf h=>∃(A:Nat) (B:Nat),h=H/\f.1 6=AV.eC 6 A 0/\f.1 8=AV.eC 8 B 0/\f.1 10=sI (fU (eH a1.ab9 5) 1 0)/\f.gen 6=A/\f.box 6=some [sI 0,sI 0,AV.slice .full [],AV.slice .full [],AV.slice .full [],AV.sc (.int .u32 0)]/\f.gen 8=B/\f.box 8=some [sI i.eg.ab9,sI i.eg.dv.ab9,sL Ty.av i.eg.dv.ab_,sL Tm.av i.eg.ej,sL Fm.av i.eg.ab_,AV.sc (.int .u32 i.gi)]) (λaZ ad=>?_) ?_;rotate_left
  ·rintro aT a6 ⟨A,B,E⟩;have e:=Aj e E;have⟨x7,e,m⟩:=ep e m;cases m;simp[e]
  rcases Pb (eH a1.ab9 5) e with e|e
  ·simp[e];exact ad _ _ ⟨1,1,by simp[e]⟩
  simp[e];exact ad _ _ ⟨1,1,by simp[e]⟩
 ·intro H a0 a1 a2 c d g a hm;rw[kY] at hm;have e:=Aj k a;refine wi acd func143 [] [] 999 ?_;have⟨C,e,m⟩:=ep e hm;have⟨Z,e,m⟩:=ep e m;simp[e];refine Cf (ja e.2) ?_;rcases Io e m with⟨e,m⟩|⟨e,m⟩
  ·cases m;simp[e]
  have⟨x5,e,m⟩:=ep e m;simp[e];refine Cf (nN e.2) ?_;rcases Io e m with⟨e,m⟩|⟨e,m⟩
  ·cases m;simp[e]
  have⟨aG,e,m⟩:=ep e m;have⟨aw,e,m⟩:=ep e m;simp[e];refine Cs (om e.2) ?_;have⟨aH,au,e,m⟩:=gv e m;simp[e];refine Cs (j.1 a e.2) ?_;rcases Io e m with⟨e,m⟩|⟨e,m⟩
  ·cases m;simp[e]
  have⟨aI,e,m⟩:=ep e m;simp[e];refine Cs (ER e.2) ?_;cases m;simp[e]
 ·intro H a0 a1 a2 c d g a hm;rw[kX] at hm;have e:=Aj k a;refine wi acd func144 [] [] 999 ?_;have⟨ak,e,m⟩:=ep e hm;have⟨i,x5,e,m⟩:=gv e m;simp[e];refine Cs (j.2.2.2.2.2.2.2.2.2.2.2.2.1 a e.2) ?_;rcases Io e m with⟨e,m⟩|⟨e,m⟩
  ·cases m;simp[e]
  have⟨aj,e,m⟩:=ep e m;have⟨aE,aF,e,m⟩:=gv e m;simp[e];refine Cs (j.1 a e.2) ?_;rcases Io e m with⟨e,m⟩|⟨e,m⟩
  ·cases m;simp[e]
  have⟨aJ,e,m⟩:=ep e m;have⟨aa,e,m⟩:=ep e m;simp[e];refine Cs (uk T k e.2) ?_;rcases Io e m with⟨e,m⟩|⟨e,m⟩
  ·cases m;simp[e]
  have⟨V,e,m⟩:=ep e m;cases m;simp[e]
 ·intro H a0 a1 a2 c d g a hm;rw[il] at hm;have e:=Aj k a;refine wi acd func145 [] [] 7 ?_;have⟨a7,e,m⟩:=ep e hm;simp[e];refine Cf (nN e.2) ?_;simp[e];rcases Io e m with⟨e,m⟩|⟨e,m⟩
  ·apply wg 999;cases m;simp[e]
  apply wg 7;have⟨x7,e,m⟩:=ep e m;have⟨a8,e,m⟩:=ep e m;simp[e];refine Cs (p5 e.2) ?_;have⟨W,ar,e,m⟩:=gv e m;simp[e];refine Cs (j.1 a e.2) ?_;simp[e];rcases Io e m with⟨e,m⟩|⟨e,m⟩
  ·apply wg 999;cases m;simp[e]
  apply wg 4;simp[e];refine Wj m 999 999 (λax f h=>∃(al:Int) (D:Nat) (F:Nat) (G:Nat),(h=H/\f.1 4=AV.eC 4 D 0/\f.1 6=AV.eC 6 F 0/\f.1 9=AV.eC 9 G 0/\f.1 11=sI al/\f.gen 4=D/\f.box 4=some [sI a1.ab9,sI a1.aca,sI a1.dv.ab9,sL Ty.av a1.dv.ab_,sL Tm.av a1.ej,sL Fm.av a1.fj,sL Pf.av a1.ab_]/\f.gen 6=F/\f.box 6=some [sI 0,sI 0,AV.slice .full [],AV.slice .full [],AV.slice .full [],AV.sc (.int .u32 0)]/\f.gen 9=G/\f.box 9=some [sI W.eg.ab9,sI W.eg.dv.ab9,sL Ty.av W.eg.dv.ab_,sL Tm.av W.eg.ej,sL Fm.av W.eg.ab_,AV.sc (.int .u32 W.gi)])/\ax al=some (c,d)) (λax a_ ae m=>?_) ?_
  ·rcases Io e m with⟨e,m⟩|⟨e,m⟩;rotate_left
   ·simp[e];exact ae _ _ ⟨4,1,1,1,by simp[e],m⟩
   rcases Io e m with⟨e,m⟩|⟨e,m⟩
   ·cases m;simp[e]
   simp[e];exact ae _ _ ⟨6,1,1,1,by simp[e],m⟩
  rintro aU a' ⟨al,D,F,G,E,m⟩;have e:=Aj e E;have⟨ba,e,m⟩:=ep e m;simp[e];refine Cs (r' e.2) ?_;have⟨bb,e,m⟩:=ep e m;simp[e];refine Cs (oT e.2) ?_;cases m;simp[e]
 ·intro H a0 a1 a2 c d g a hm;rw[ik] at hm;have e:=Aj k a;refine wi acd func146 [] [] 9 ?_;have⟨C,e,m⟩:=ep e hm;have⟨an,bc,e,m⟩:=gv e m;simp[e];refine Cf (lY e.2) ?_;simp[e];rcases Io e m with⟨e,m⟩|⟨e,m⟩
  ·apply wg 999;cases m;simp[e]
  apply wg 4;have⟨ay,e,m⟩:=ep e m;simp[e];refine Cf (wV T e.2) ?_;simp[e];refine wj 999 999 (λf h=>∃(I:Nat) (J:Nat) (K:Nat) (L:Nat) (M:Nat),h=H/\f.1 0=AV.fO g 0/\f.1 4=AV.eC 4 I 0/\f.1 5=AV.eC 5 J 0/\f.1 6=AV.eC 6 K 0/\f.1 8=AV.eC 8 L 0/\f.1 9=AV.eC 9 M 0/\f.1 11=sI (fU (eH a1.ab9 13) 6 4)/\f.1 12=AV.sc (.int .u32 (fU (eH a1.ab9 13) 0 ay))/\f.gen 4=I/\f.box 4=some [sI a1.ab9,sI a1.aca,sI a1.dv.ab9,sL Ty.av a1.dv.ab_,sL Tm.av a1.ej,sL Fm.av a1.fj,sL Pf.av a1.ab_]/\f.gen 5=J/\f.box 5=some [sI a2.gn.vars,sI a2.gn.acf,sL ed.av a2.acb,sL eu.av a2.known]/\f.gen 6=K/\f.box 6=some [sI 0,sI 0,AV.slice .full [],AV.slice .full [],AV.slice .full [],AV.sc (.int .u32 0)]/\f.gen 8=L/\f.box 8=some [sI C.ab9,sI C.aca,sI C.dv.ab9,sL Ty.av C.dv.ab_,sL Tm.av C.ab_]/\f.gen 9=M/\f.box 9=some [sI an.dv.ab9,sL Ty.av an.dv.ab_,sI an.ab']) (λbd af=>?_) ?_
  ·rcases Pb (eH a1.ab9 13) e with e|e
   ·simp[e];exact af _ _ ⟨1,1,1,1,1,by simp[e]⟩
   simp[e];exact af _ _ ⟨1,1,1,1,1,by simp[e]⟩
  rintro aV bf ⟨I,J,K,L,M,E⟩;have e:=Aj e E;have⟨bg,e,m⟩:=ep e m;have⟨ar,aj,e,m⟩:=gv e m;simp[e];refine Cs (j.2.2.2.2.2.2.2.2.2.2.2.2.1 a e.2) ?_;rcases Io e m with⟨e,m⟩|⟨e,m⟩
  ·cases m;simp[e]
  have⟨aw,e,m⟩:=ep e m;simp[e];refine Cf (qZ e.2) ?_;rcases Io e m with⟨e,m⟩|⟨e,m⟩;rotate_left
  ·cases m;simp[e]
  have⟨bh,e,m⟩:=ep e m;have⟨aK,aL,e,m⟩:=gv e m;simp[e];refine Cs (sm T k e.2) ?_;cases m;simp[e]
 ·intro H a0 a1 a2 c d g a hm;rw[iC] at hm;have e:=Aj k a;refine wi acd func147 [] [] 999 ?_;have⟨ay,e,m⟩:=ep e hm;have⟨bj,e,m⟩:=ep e m;rcases Io e m with⟨e,m⟩|⟨e,m⟩;rotate_left
  ·have⟨bk,e,m⟩:=ep e m;simp[e];refine Cf (ja e.2) ?_;rcases Io e m with⟨e,m⟩|⟨e,m⟩
   ·cases m;simp[e]
   rcases Io e m with⟨e,m⟩|⟨e,m⟩
   ·cases m;simp[e]
   have⟨bl,aM,e,m⟩:=gv e m;simp[e];refine Cf (lY e.2) ?_;rcases Io e m with⟨e,m⟩|⟨e,m⟩
   ·cases m;simp[e]
   have⟨bm,e,m⟩:=ep e m;simp[e];refine Cf (qZ e.2) ?_;rcases Io e m with⟨e,m⟩|⟨e,m⟩;rotate_left
   ·cases m;simp[e]
   have⟨aN,e,m⟩:=ep e m;have⟨bn,e,m⟩:=ep e m;have⟨bo,bp,e,m⟩:=gv e m;simp[e];refine Cs (j.2.2.2.2.2.2.2.2.2.2.2.2.2 a e.2) ?_;rcases Io e m with⟨e,m⟩|⟨e,m⟩
   ·cases m;simp[e]
   have⟨bq,e,m⟩:=ep e m;simp[e];refine Cs (wV T e.2) ?_;cases m;simp[e]
  have⟨az,e,m⟩:=ep e m;simp[e];refine Cf (ja e.2) ?_;rcases Io e m with⟨e,m⟩|⟨e,m⟩
  ·cases m;simp[e]
  rcases Io e m with⟨e,m⟩|⟨e,m⟩
  ·cases m;simp[e]
  have⟨x9,br,e,m⟩:=gv e m;simp[e];refine Cf (lY e.2) ?_;rcases Io e m with⟨e,m⟩|⟨e,m⟩
  ·cases m;simp[e]
  have⟨bs,e,m⟩:=ep e m;simp[e];refine Cf (qZ e.2) ?_;rcases Io e m with⟨e,m⟩|⟨e,m⟩;rotate_left
  ·cases m;simp[e]
  have⟨bt,e,m⟩:=ep e m;have⟨bu,e,m⟩:=ep e m;have⟨aL,aO,e,m⟩:=gv e m;simp[e];refine Cs (j.2.2.2.2.2.2.2.2.2.2.2.2.2 a e.2) ?_;rcases Io e m with⟨e,m⟩|⟨e,m⟩
  ·cases m;simp[e]
  have⟨w,e,m⟩:=ep e m;simp[e];refine Cs (yt e.2) ?_;cases m;simp[e]
 ·intro H a0 a1 a2 c d g a hm;rw[iD] at hm;have e:=Aj k a;refine wi acd func148 [] [] 6 ?_;simp[e];refine wj 999 5 (λf h=>∃(N:Nat) (O:Nat) (l:Nat),h=H/\f.1 0=AV.fO g 0/\f.1 4=AV.eC 4 N 0/\f.1 5=AV.eC 5 O 0/\f.1 6=AV.eC 6 l 0/\f.1 8=sB (eH a1.ab9 15)/\f.1 9=sI (fU (eH a1.ab9 15) 7 5)/\f.gen 4=N/\f.box 4=some [sI a1.ab9,sI a1.aca,sI a1.dv.ab9,sL Ty.av a1.dv.ab_,sL Tm.av a1.ej,sL Fm.av a1.fj,sL Pf.av a1.ab_]/\f.gen 5=O/\f.box 5=some [sI a2.gn.vars,sI a2.gn.acf,sL ed.av a2.acb,sL eu.av a2.known]/\f.gen 6=l/\f.box 6=some [sI 0,sI 0,AV.slice .full [],AV.slice .full [],AV.slice .full [],AV.sc (.int .u32 0)]) (λbw aA=>?_) ?_
  ·rcases Pb (eH a1.ab9 15) e with e|e
   ·simp[e];exact aA _ _ ⟨1,1,1,by simp[e]⟩
   simp[e];exact aA _ _ ⟨1,1,1,by simp[e]⟩
  rintro o bx ⟨N,O,l,E⟩;have e:=Aj e E;have⟨x5,e,m⟩:=ep e hm;have⟨P,bz,e,m⟩:=gv e m;simp[e];refine Cs (j.2.2.2.2.2.2.2.2.2.2.2.2.1 a e.2) ?_;simp[e];rcases Io e m with⟨e,m⟩|⟨e,m⟩
  ·apply wg 999;cases m;simp[e]
  apply wg 7;have⟨x7,e,m⟩:=ep e m;simp[e];refine Cf (nN e.2) ?_;simp[e];rcases Io e m with⟨e,m⟩|⟨e,m⟩
  ·apply wg 999;cases m;simp[e]
  apply wg 7;have⟨aO,e,m⟩:=ep e m;have⟨bA,e,m⟩:=ep e m;simp[e];refine Cs (p5 e.2) ?_;have⟨aJ,e,m⟩:=ep e m;have⟨aa,e,m⟩:=ep e m;simp[e];refine Cs (om e.2) ?_;have⟨w,bB,e,m⟩:=gv e m;simp[e];refine Cs (j.1 a e.2) ?_;simp[e];rcases Io e m with⟨e,m⟩|⟨e,m⟩
  ·apply wg 999;cases m;simp[e]
  apply wg 7;have⟨V,aP,e,m⟩:=gv e m;simp[e];refine Cf (DP T k e.2) ?_;simp[e];rcases Io e m with⟨e,m⟩|⟨e,m⟩
  ·apply wg 999;cases m;simp[e]
  apply wg 3;simp[e];refine wj 999 999 (λf h=>∃(Q:Nat) (p:Nat) (q:Nat) (s:Nat),h=H/\f.1 6=AV.eC 6 Q 0/\f.1 10=AV.eC 10 p 0/\f.1 13=AV.eC 13 q 0/\f.1 14=AV.eC 14 s 0/\f.1 82=sB (fU (eH a1.ab9 15) (eW (qN .u32 w.gi 1) 0) false)/\f.gen 6=Q/\f.box 6=some [sI 0,sI 0,AV.slice .full [],AV.slice .full [],AV.slice .full [],AV.sc (.int .u32 0)]/\f.gen 10=p/\f.box 10=some [sI P.eg.ab9,sI P.eg.dv.ab9,sL Ty.av P.eg.dv.ab_,sL Tm.av P.eg.ej,sL Fm.av P.eg.ab_,AV.sc (.int .u32 P.gi)]/\f.gen 13=q/\f.box 13=some [sI w.eg.ab9,sI w.eg.dv.ab9,sL Ty.av w.eg.dv.ab_,sL Tm.av w.eg.ej,sL Fm.av w.eg.ab_,AV.sc (.int .u32 w.gi)]/\f.gen 14=s/\f.box 14=some [sI V.ab9,sI V.dv.ab9,sL Ty.av V.dv.ab_,sL Tm.av V.ej,sL Fm.av V.ab_]) (λbC ah=>?_) ?_;rotate_left
  ·rintro aW bD ⟨Q,p,q,s,E⟩;have e:=Aj e E;rcases Io e m with⟨e,m⟩|⟨e,m⟩
   ·cases m;simp[e]
   have⟨aQ,e,m⟩:=ep e m;simp[e];refine Cs (oT e.2) ?_;cases m;simp[e]
  rcases Pb (eH a1.ab9 15) e with e|e
  ·simp[e];exact ah _ _ ⟨l,(o.gen 10+1),(o.gen 13+1),(o.gen 14+1),by simp[e]⟩
  simp[e];exact ah _ _ ⟨l,(o.gen 10+1),(o.gen 13+1),(o.gen 14+1),by simp[e]⟩
 ·intro H a0 a1 a2 c d g a hm;rw[iE] at hm;have e:=Aj k a;refine wi acd func149 [] [] 999 ?_;have⟨x5,e,m⟩:=ep e hm;have⟨P,e,m⟩:=ep e m;have⟨az,e,m⟩:=ep e m;simp[e];refine Cs (zv e.2) ?_;have⟨aR,e,m⟩:=ep e m;simp[e];refine Cs (ni e.2) ?_;have⟨aI,e,m⟩:=ep e m;simp[e];refine Cs (ja e.2) ?_;rcases Io e m with⟨e,m⟩|⟨e,m⟩
  ·cases m;simp[e]
  have⟨aK,e,m⟩:=ep e m;simp[e];refine Cf (tI e.2) ?_;rcases Io e m with⟨e,m⟩|⟨e,m⟩
  ·cases m;simp[e]
  have⟨aP,e,m⟩:=ep e m;have⟨bE,bF,e,m⟩:=gv e m;simp[e];refine Cs (j.2.2.2.2.2.2.2.2.2.2.2.2.2 a e.2) ?_;rcases Io e m with⟨e,m⟩|⟨e,m⟩
  ·cases m;simp[e]
  have⟨bG,e,m⟩:=ep e m;simp[e];refine Cf (nN e.2) ?_;rcases Io e m with⟨e,m⟩|⟨e,m⟩
  ·cases m;simp[e]
  have⟨bH,e,m⟩:=ep e m;simp[e];refine Cs (p5 e.2) ?_;have⟨bI,e,m⟩:=ep e m;simp[e];refine Cs (o0 T e.2) ?_;have⟨bJ,e,m⟩:=ep e m;simp[e];refine Cs (om e.2) ?_;have⟨bK,e,m⟩:=ep e m;have⟨bL,e,m⟩:=ep e m;simp[e];refine Cs (o0 T e.2) ?_;have⟨bM,bN,e,m⟩:=gv e m;simp[e];refine Cs (j.2.2.2.2.2.2.2.2.2.2.2.2.2 a e.2) ?_;rcases Io e m with⟨e,m⟩|⟨e,m⟩
  ·cases m;simp[e]
  have⟨bO,bP,e,m⟩:=gv e m;simp[e];refine Cf (sm T k e.2) ?_;have⟨bQ,e,m⟩:=ep e m;simp[e];refine Cs (wV T e.2) ?_;have⟨bR,e,m⟩:=ep e m;simp[e];refine Cs (oT e.2) ?_;cases m;simp[e]
 ·intro H a0 a1 a2 c d g a hm;rw[kv] at hm;have e:=Aj k a;refine wi acd func151 [] [] 999 ?_;have⟨C,e,m⟩:=ep e hm;have⟨au,e,m⟩:=ep e m;simp[e];refine Cs (mX e.2) ?_;have⟨bS,e,m⟩:=ep e m;simp[e];refine Cs (ni e.2) ?_;have⟨bT,e,m⟩:=ep e m;simp[e];refine Cs (ja e.2) ?_;rcases Io e m with⟨e,m⟩|⟨e,m⟩
  ·cases m;simp[e]
  have⟨bU,e,m⟩:=ep e m;have⟨bV,aa,e,m⟩:=gv e m;simp[e];refine Cs (j.2.2.2.2.2.2.2.2.2.2.2.2.1 a e.2) ?_;rcases Io e m with⟨e,m⟩|⟨e,m⟩
  ·cases m;simp[e]
  have⟨aQ,e,m⟩:=ep e m;have⟨bW,e,m⟩:=ep e m;have⟨bX,bY,e,m⟩:=gv e m;simp[e];refine Cs (j.2.2.2.2.2.2.2.2.2.2.2.2.2 a e.2) ?_;rcases Io e m with⟨e,m⟩|⟨e,m⟩
  ·cases m;simp[e]
  have⟨bZ,e,m⟩:=ep e m;have⟨aN,b0,e,m⟩:=gv e m;simp[e];refine Cs (sm T k e.2) ?_;cases m;simp[e]
 ·intro H a0 a1 a2 c d g a hm;rw[j0] at hm;have e:=Aj k a;refine wi acd func152 [] [] 7 ?_;have⟨ak,e,m⟩:=ep e hm;have⟨i,x5,e,m⟩:=gv e m;simp[e];refine Cs (j.2.2.2.2.2.2.2.2.2.2.2.2.1 a e.2) ?_;simp[e];rcases Io e m with⟨e,m⟩|⟨e,m⟩
  ·apply wg 999;cases m;simp[e]
  apply wg 9;have⟨az,e,m⟩:=ep e m;simp[e];rcases Io e m with⟨e,m⟩|⟨e,m⟩
  ·apply wg 999;cases m;simp[e]
  apply wg 7;have⟨x8,e,m⟩:=ep e m;simp[e];refine Cf (Bg e.2) ?_;have⟨aG,e,m⟩:=ep e m;have⟨aw,e,m⟩:=ep e m;simp[e];refine Cf (o0 T e.2) ?_;have⟨aH,e,m⟩:=ep e m;simp[e];refine Cf (kU e.2) ?_;have⟨b1,e,m⟩:=ep e m;simp[e];refine Cf (kU e.2) ?_;have⟨b2,e,m⟩:=ep e m;simp[e];refine Cf (Bx e.2) ?_;have⟨X,aR,e,m⟩:=gv e m;simp[e];refine Cf (sm T k e.2) ?_;simp[e];refine Wj m 999 999 (λaB f h=>∃(ao:Bool) (R:Nat) (S:Nat) (t:Nat) (u:Nat) (v:Nat),(h=H/\f.1 6=AV.eC 6 R 0/\f.1 8=AV.eC 8 S 0/\f.1 10=AV.eC 10 t 0/\f.1 12=AV.eC 12 u 0/\f.1 13=AV.eC 13 v 0/\f.1 63=sB ao/\f.gen 6=R/\f.box 6=some [sI 0,sI 0,AV.slice .full [],AV.slice .full [],AV.slice .full [],AV.sc (.int .u32 0)]/\f.gen 8=S/\f.box 8=some [sI i.eg.ab9,sI i.eg.dv.ab9,sL Ty.av i.eg.dv.ab_,sL Tm.av i.eg.ej,sL Fm.av i.eg.ab_,AV.sc (.int .u32 i.gi)]/\f.gen 10=t/\f.box 10=some [sI i.eg.ab9,sI i.eg.dv.ab9,sL Ty.av i.eg.dv.ab_,sL Tm.av i.eg.ej,sL Fm.av i.eg.ab_]/\f.gen 12=u/\f.box 12=some [sI x8.ab9,sL Ty.av x8.ab_]/\f.gen 13=v/\f.box 13=some [sI X.ab9,sI X.dv.ab9,sL Ty.av X.dv.ab_,sL Tm.av X.ej,sL Fm.av X.ab_])/\aB ao=some (c,d)) (λaB b3 ai m=>?_) ?_
  ·rcases Io e m with⟨e,m⟩|⟨e,m⟩
   ·simp[e];exact ai _ _ ⟨true,1,1,1,1,1,by simp[e],m⟩
   have⟨aa,e,m⟩:=ep e m;simp[e];refine Cf (A6 e.2) ?_;simp[e];exact ai _ _ ⟨(eW aa 0),1,1,1,1,1,by simp[e],m⟩
  rintro aX b4 ⟨ao,R,S,t,u,v,E,m⟩;have e:=Aj e E;rcases Io e m with⟨e,m⟩|⟨e,m⟩
  ·cases m;simp[e]
  have⟨b5,e,m⟩:=ep e m;simp[e];refine Cs (r' e.2) ?_;have⟨aM,e,m⟩:=ep e m;simp[e];refine Cs (r' e.2) ?_;cases m;simp[e]
 ·intro H a0 a1 a2 a3 c d g a hm;rw[fh] at hm;have e:=Aj k a;refine wi acd func192 [] [] 5 ?_;have⟨x,ab,e,m⟩:=gv e hm;simp[e];refine Cf (j.1 a e.2) ?_;simp[e];refine wj 999 999 (λf h=>∃(Y:Nat) (U:Nat),h=H/\f.1 8=AV.eC 8 Y 0/\f.1 10=AV.eC 10 U 0/\f.1 11=sI ab/\f.1 27=sB (fU (eH ab 0) (eW x.eg.ab9 a3) false)/\f.gen 8=Y/\f.box 8=some [sI 0,sI 0,AV.slice .full [],AV.slice .full [],AV.slice .full [],AV.sc (.int .u32 0)]/\f.gen 10=U/\f.box 10=some [sI x.eg.ab9,sI x.eg.dv.ab9,sL Ty.av x.eg.dv.ab_,sL Tm.av x.eg.ej,sL Fm.av x.eg.ab_,AV.sc (.int .u32 x.gi)]) (λK1 aC=>?_) ?_;rotate_left
  ·rintro b6 h3 ⟨Y,U,E⟩;have e:=Aj e E;rcases Io e m with⟨e,m⟩|⟨e,m⟩
   ·cases m;simp[e]
   cases m;simp[e]
  rcases Pb (eH ab 0) e with e|e
  ·simp[e];exact aC _ _ ⟨1,1,by simp[e]⟩
  simp[e];exact aC _ _ ⟨1,1,by simp[e]⟩
 ·intro H a0 a1 a2 a3 a4 c d g a hm;rw[fi] at hm;have e:=Aj k a;refine wi acd func202 [] [] 999 ?_;have⟨x,ab,e,m⟩:=gv e hm;simp[e];refine Cf (j.1 a e.2) ?_;rcases Io e m with⟨e,m⟩|⟨e,m⟩
  ·cases m;simp[e]
  have⟨x1,Z,e,m⟩:=gv e m;simp[e];refine Cf (sm T k e.2) ?_;rcases Io e m with⟨e,m⟩|⟨e,m⟩
  ·cases m;simp[e]
  have⟨x5,e,m⟩:=ep e m;simp[e];refine Cs (uk T k e.2) ?_;cases m;simp[e]
def yv(T:fa)(e:qq T){H:eD}{a0:List Fm}{a1:Pf}{a2:eh}{b:ec}{c:Int}{d:Nat}(a:KC H d a0){n:Nat}(hm:e9 n a0 a1 a2=some (b,c)):eZ prog T 81 [AV.fO d 0,Pf.av a1,eh.av a2] H (AV.tuple [ec.av b,sI c]) H:=(xn T e n).1 a hm
def LQ:∀(n:Nat),C1 prog 157 (vz n) Tm.av Tm.av:=by
  intro n
  induction n with
  |zero=>
   skip
   all_goals(intro _ _;intros;rename_i hm;cases hm)
  |succ n p=>
 intro T H a0 r hm;rw[vz] at hm;have e:=trivial;refine wi acd func157 [] [] 999 ?_;have⟨l,e,m⟩:=ep e hm;simp[e];refine Cs (sk e.2) ?_;simp[e];refine Wr e m 999 (λo g f h=>∃(a:Tag) (b:Nat) (c:Nat),(h=H/\f.1 2=AV.eC 2 b 0/\f.1 3=AV.eC 3 c 0/\f.1 15=sL Tm.av a0.ab_/\f.1 16=sI (eM a0.ab_)/\f.1 17=sI o/\f.gen 2=b/\f.box 2=some [sI 0,sI 0,sI 0,AV.slice .full [],AV.slice .full []]/\f.gen 3=c/\f.box 3=some [sI a0.ab9,sI a0.aca,sI l.ab9,sL Ty.av l.ab_,sT a Tm.av g])/\Ow f [26] a g) (by exact⟨.full,1,1,by simp[e],iX.full⟩) (λg i q s E m=>?_) (λo t g i q s u v E e m z9 j=>?_)
 ·have⟨a,b,c,E,d⟩:=E;have e:=Aj e E;dsimp only[ei]at m;cases m;simp[e]
 have⟨a,b,c,E,d⟩:=E;have e:=Aj e E;have⟨k,e,m⟩:=ep e m;simp[e];refine Cs (p e.2) ?_;have⟨e,m⟩:=Ck e m;simp[e];refine Ad (f:=Tm.av) g [k] d Ct e.2 ?_;simp[e];cases m;exact j _ _ _ ⟨(.loc 26 (i.fN 26+1)),b,c,by simp[e],(On 26)⟩ z9
def NB{n:Nat}:C1 prog 157 (vz n) Tm.av Tm.av:=(LQ n)
def AN:C2 prog 156 nE Tm.av Tm.av sI:=by
 intro T H a0 a1 r hm;rw[nE] at hm;have e:=trivial;refine wi acd func156 [] [] 999 ?_;have⟨a,e,m⟩:=ep e hm;simp[e];refine Cf (NB e.2) ?_;cases m;simp[e]
def CD:C1 prog 83 px Fm.av Fm.av:=by
 intro T H a0 r hm;rw[px] at hm;have e:=trivial;refine wi acd func83 [] [] 999 ?_;have⟨b,s2,e,m⟩:=gv e hm;simp[e];refine Cf (nk T (st:=λ_:Unit=>H) (BO.const _) (λX _ _ _ _ _ h=>by obtain⟨a,rfl⟩:=vt h;exact AN a) e.2) ?_;cases m;simp[e]
def Qe:sw prog 158=true:=by kernel_rfl
set_option maxHeartbeats 4000000 in
def Uo(x k idx:Nat)(w:World)(b:((x:Int)==0)=false)
  (key:bits BinOp.and IntKind.u32 (x:Int) (-(x:Int)%4294967296)*125613361%4294967296/134217728=(idx:Int))
  (hi:idx<32) (c:k<32) (a:w.cell? ⟨0,idx,none⟩=some (.int .u8 k)):Calls prog 158 #[.int .u32 x] w λe w'=>e=.returned (.int .i64 k)/\w'=w:=by
 go_enter func158,ntmps158
 go_wp2_with (simp only[key])
 go_ret
 exact⟨rfl,rfl⟩
set_option maxHeartbeats 4000000 in
def TZ(w:World):Calls prog 158 #[.int .u32 0] w λe w'=>e=.returned (.int .i64 32)/\w'=w:=by
 go_enter func158,ntmps158
 go_wp2
 go_ret
 exact⟨rfl,rfl⟩
def Uj(n:Int):IntKind.u32.wrap n=n%4294967296:=by simp[IntKind.wrap,IntKind.signed,IntKind.bits]
def Wq(a b:Nat)(e:a<4294967296)(f:b<4294967296):bits .and .u32 (a:Int) (b:Int)=((a&&&b:Nat):Int):=by
 have g:a&&&b<2^32:=UJ _ (by omega)
 have c:(BitVec.ofInt 32 (a:Int)).toNat=a:=by
  rw[Wo];omega
 have d:(BitVec.ofInt 32 (b:Int)).toNat=b:=by
  rw[Wo];omega
 show IntKind.u32.wrap ((BitVec.ofInt 32 (a:Int)&&&BitVec.ofInt 32 (b:Int)).toNat:Int)=_;rw[BitVec.toNat_and,c,d,Uj];omega
def WM(x a:Nat)(c:x<4294967296)(d:x≠0)(b:x&&&(4294967296-x)=a):bits BinOp.and IntKind.u32 (x:Int) (-(x:Int)%4294967296)*125613361%4294967296/134217728=((a*125613361%4294967296/134217728:Nat):Int):=by
 have e:-(x:Int)%4294967296=((4294967296-x:Nat):Int):=by omega
 rw[e,Wq x _ c (by omega),b];omega
def VN:∀j,j<32->l0[j]?=some ((Lib.deBruijn32tab.getD j 0:Nat):Int):=by decide+kernel
def uz(T:fa)(n:qq T){H:eD}{a0 g:Int}(hm:iQ a0=some g):eZ prog T 158 [AV.sc (.int .u32 a0)] H (sI g) H:=by
 unfold iQ at hm
 split at hm
 case isFalse=>cases hm
 rename_i h;obtain⟨x,rfl⟩:∃x:Nat,a0=(x:Int):=⟨a0.toNat,by omega⟩;obtain rfl:=iy hm
 have j:x<2^32:=by omega
 rw[AP];refine eZ.UZ Qe λG F w vs hg o=>?_
 obtain⟨v1,rfl,a⟩:∃v,vs=[v]/\ib F G H.length (AV.sc (.int .u32 (x:Int))) v:=by
  cases o with
  |cons a b=>cases b;exact⟨_,rfl,a⟩
 cases a;refine⟨_,.sc rfl,?_⟩
 by_cases c:x=0
 ·subst c;exact(TZ w).mono λe w' ⟨a,b⟩=>⟨a,by rw[b];exact QL _ _⟩
 ·have⟨d,k⟩:=Lib.lowest_bit 32 x c j;have⟨hi,f⟩:=Lib.deBruijn32_at _ k;have p:=hg.AO 0 _ n.2.2;cases p with
  |np a b r=>
   have l:=VN _ hi;rw[f] at l;have⟨v,q,h⟩:=a.get (i:=2^Lib.ctz 32 x*125613361%4294967296/134217728) (x:=.sc (.int .u8 (Lib.ctz 32 x:Int))) (by simp[AV.cells,l]);cases h;have m:=hg.EX _ _ _ (b _ _ q);rw[uK] at m;exact(Uo x (Lib.ctz 32 x) _ w (by simp;omega) (WM x _ j c d) hi k m).mono λe w' ⟨a,b⟩=>⟨a,by rw[b];exact QL _ _⟩
def wb(T:fa)(g:qq T){H:eD}{a0:Int}{i:List Int}(hm:kB a0=some i):eZ prog T 84 [AV.sc (.int .u32 a0)] H (sL sI i) H:=by
 rw[kB] at hm;have e:=g;refine wi acd func84 [] [] 999 ?_;simp[e];refine Wn hm 999 (λs1 f h=>∃(a:Tag),(h=H/\f.1 0=AV.sc (.int .u32 s1.1)/\f.1 3=sT a sI s1.2)/\Ow f [14] a s1.2) (by exact⟨.full,by simp[e],iX.full⟩) (λs1 fr2 k l n4 c5 E m j c=>?_);have⟨n,v9⟩:=s1;have⟨a,E,b⟩:=E;have e:=Aj e E;dsimp only[nb]at m;rcases Io e m with⟨e,m⟩|⟨e,m⟩;rotate_left
 ·cases m;have m:=Qb j;dsimp only[nb]at m;cases m;simp[e]
 have⟨d,e,m⟩:=ep e m;simp[e];refine Cf (uz T g e.2) ?_;have⟨e,m⟩:=Ck e m;simp[e];refine Ao (f:=sI) v9 [d] b Qx e.2 ?_;simp[e];cases m;exact c _ _ _ ⟨(.loc 14 (fr2.fN 14+1)),by simp[e],(On 14)⟩ j
def vD(T:fa)(a:qq T){H:eD}{a0:List Fm}{a1:Sq}{a2:Pf}{b:sQ}{c:Int}(hm:mx a0 a1 a2=some (b,c)):eZ prog T 23 [sL Fm.av a0,Sq.av a1,Pf.av a2] H (AV.tuple [sQ.av b,sI c]) H:=by
 rw[mx] at hm;refine fG.tK (Post:=λx K=>x=AV.tuple [sQ.av b,sI c]/\∃X,K=H++X) ?_ (λ_ _ h=>⟨_,h.2.choose_spec,by rw[h.1];simp[AV.low,AV.iZ],h.1,rfl⟩);have e:=a;refine wi acd func23 [29] [] 999 ?_;have⟨d,e,m⟩:=ep e hm;simp[e];refine Cf (Ec T a e.2) ?_;rcases Io e m with⟨e,m⟩|⟨e,m⟩
 ·cases m;simp[e]
 have⟨f,e,m⟩:=ep e m;simp[e];refine Cf (Ih T a e.2) ?_;rcases Io e m with⟨e,m⟩|⟨e,m⟩
 ·cases m;simp[e]
 have⟨g,e,m⟩:=ep e m;simp[e];refine Cf (HD T e.2) ?_;have⟨i,e,m⟩:=ep e m;simp[e];refine Cs (Gt e.2) ?_;have⟨j,k,e,m⟩:=gv e m;simp[e];refine Cs (yv T a ⟨by simp[e],by simp[e]⟩ e.2) ?_;rcases Io e m with⟨e,m⟩|⟨e,m⟩
 ·cases m;simp[e]
 have⟨l,e,m⟩:=ep e m;simp[e];refine Cs (CD e.2) ?_;have⟨n,e,m⟩:=ep e m;simp[e];refine Cs (wb T a e.2) ?_;cases m;simp[e]
def nZ:C2 prog 51 ml Fm.av Tm.av Tm.av:=by
 intro T H a0 a1 r hm;rw[ml] at hm;have e:=trivial;refine wi acd func51 [] [] 999 ?_;have⟨a,e,m⟩:=ep e hm;simp[e];refine Cs (my e.2) ?_;have⟨b,e,m⟩:=ep e m;simp[e];refine Cs (my e.2) ?_;have e:=Aj e (show AV.agg [sI 1,sI 0,AV.slice .iP [],AV.slice .iP [Tm.av a,Tm.av b],AV.slice .iP []]=Fm.av (Fm.mk 1 (Ty.mk 0 []) [a,b] []) by rw[Fm.fL];rfl);have e:=Aj e (show AV.agg [sI 1,sI 0,AV.slice .iP [],AV.slice .iP [Tm.av a,Tm.av b],AV.slice .iP []]=Fm.av (Fm.mk 1 (Ty.mk 0 []) [a,b] []) by rw[Fm.fL];rfl);cases m;simp[e]
def nD:C3 prog 50 kh Fm.av sI Ty.av Fm.av:=by
 intro T H a0 a1 a2 r hm;rw[kh] at hm;have e:=trivial;refine wi acd func50 [] [] 999 ?_;have⟨a,e,m⟩:=ep e hm;simp[e];refine Cs (jO e.2) ?_;have⟨b,e,m⟩:=ep e m;simp[e];refine Cs (kW e.2) ?_;have e:=Aj e (show AV.agg [sI a0,sI a.ab9,sL Ty.av a.ab_,AV.slice .iP [],AV.slice .iP [Fm.av b]]=Fm.av (Fm.mk a0 a [] [b]) by rw[Fm.fL];rfl);have e:=Aj e (show AV.agg [sI a0,sI a.ab9,sL Ty.av a.ab_,AV.slice .iP [],AV.slice .iP [Fm.av b]]=Fm.av (Fm.mk a0 a [] [b]) by rw[Fm.fL];rfl);cases m;simp[e]
def Ir:∀(n:Nat),C2 prog 61 (fQ n) sB Ty.av Ty.av:=by
  intro n
  induction n with
  |zero=>
    skip
    all_goals(intro _ _;intros;rename_i hm;cases hm)
  |succ n p=>
 intro T H a0 a1 r hm;rw[fQ] at hm;have e:=trivial;refine wi acd func61 [] [] 3 ?_;simp[e];refine wj 999 999 (λf h=>∃(c:Nat) (d:Nat),h=H/\f.1 2=AV.eC 2 c 0/\f.1 3=AV.eC 3 d 0/\f.1 19=sB (fU (eW a0.ab9 a1.ab9) true (eW (eM a0.ab_) (eM a1.ab_)))/\f.gen 2=c/\f.box 2=some [sI a0.ab9,sL Ty.av a0.ab_]/\f.gen 3=d/\f.box 3=some [sI a1.ab9,sL Ty.av a1.ab_]) (λx g=>?_) ?_
 ·rcases Pb (eW a0.ab9 a1.ab9) e with e|e
  ·simp[e];exact g _ _ ⟨1,1,by simp[e]⟩
  simp[e];exact g _ _ ⟨1,1,by simp[e]⟩
 rintro q y ⟨c,d,E⟩;have e:=Aj e E;rcases Io e hm with⟨e,m⟩|⟨e,m⟩
 ·cases m;simp[e]
 simp[e];refine Wr e m 999 (λl o f h=>∃(a:Nat) (b:Nat),h=H/\f.1 2=AV.eC 2 a 0/\f.1 3=AV.eC 3 b 0/\f.1 22=sI (eM a0.ab_)/\f.1 23=sI l/\f.gen 2=a/\f.box 2=some [sI a0.ab9,sL Ty.av a0.ab_]/\f.gen 3=b/\f.box 3=some [sI a1.ab9,sL Ty.av a1.ab_]) ⟨c,d,by simp[e]⟩ (λo k s t E m=>?_) (λl z o k s t A u E e m i j=>?_)
 ·have⟨a,b,E⟩:=E;have e:=Aj e E;dsimp only[ei]at m;cases m;simp[e]
 have⟨a,b,E⟩:=E;have e:=Aj e E;have⟨v,e,m⟩:=ep e m;have⟨w,e,m⟩:=ep e m;simp[e];refine Cs (p e.2) ?_;rcases Io e m with⟨e,m⟩|⟨e,m⟩;rotate_left
 ·cases m;cases i;simp[e]
 simp[e];cases m;exact j _ _ _ ⟨a,b,by simp[e]⟩ i
def iw{n:Nat}:C2 prog 61 (fQ n) sB Ty.av Ty.av:=(Ir n)
def IE:∀(n:Nat),C2 prog 168 (kl n) sB Tm.av Tm.av:=by
  intro n
  induction n with
  |zero=>
    skip
    all_goals(intro _ _;intros;rename_i hm;cases hm)
  |succ n s=>
 intro T H a0 a1 r hm;rw[kl] at hm;have e:=trivial;refine wi acd func168 [] [] 3 ?_;simp[e];refine Wj hm 999 999 (λo f h=>∃(v2:Bool) (c:Nat) (d:Nat),(h=H/\f.1 2=AV.eC 2 c 0/\f.1 3=AV.eC 3 d 0/\f.1 34=sB v2/\f.gen 2=c/\f.box 2=some [sI a0.ab9,sI a0.aca,sI a0.dv.ab9,sL Ty.av a0.dv.ab_,sL Tm.av a0.ab_]/\f.gen 3=d/\f.box 3=some [sI a1.ab9,sI a1.aca,sI a1.dv.ab9,sL Ty.av a1.dv.ab_,sL Tm.av a1.ab_])/\o v2=some r) (λo A g m=>?_) ?_
 ·rcases Io e m with⟨e,m⟩|⟨e,m⟩
  ·simp[e];exact g _ _ ⟨true,1,1,by simp[e],m⟩
  rcases Io e m with⟨e,m⟩|⟨e,m⟩
  ·simp[e];exact g _ _ ⟨true,1,1,by simp[e],m⟩
  have⟨B,e,m⟩:=ep e m;simp[e];refine Cf (iw e.2) ?_;rcases Io e m with⟨e,m⟩|⟨e,m⟩;rotate_left
  ·simp[e];exact g _ _ ⟨true,1,1,by simp[e],m⟩
  simp[e];exact g _ _ ⟨(eW (eM a0.ab_) (eM a1.ab_)),1,1,by simp[e],m⟩
 rintro t C ⟨v2,c,d,E,m⟩;have e:=Aj e E;rcases Io e m with⟨e,m⟩|⟨e,m⟩
 ·cases m;simp[e]
 simp[e];refine Wr e m 999 (λp q f h=>∃(a:Nat) (b:Nat),h=H/\f.1 2=AV.eC 2 a 0/\f.1 3=AV.eC 3 b 0/\f.1 37=sI (eM a0.ab_)/\f.1 38=sI p/\f.gen 2=a/\f.box 2=some [sI a0.ab9,sI a0.aca,sI a0.dv.ab9,sL Ty.av a0.dv.ab_,sL Tm.av a0.ab_]/\f.gen 3=b/\f.box 3=some [sI a1.ab9,sI a1.aca,sI a1.dv.ab9,sL Ty.av a1.dv.ab_,sL Tm.av a1.ab_]) ⟨c,d,by simp[e]⟩ (λq k u l E m=>?_) (λp v q k u l w x E e m i j=>?_)
 ·have⟨a,b,E⟩:=E;have e:=Aj e E;dsimp only[ei]at m;cases m;simp[e]
 have⟨a,b,E⟩:=E;have e:=Aj e E;have⟨y,e,m⟩:=ep e m;have⟨z,e,m⟩:=ep e m;simp[e];refine Cs (s e.2) ?_;rcases Io e m with⟨e,m⟩|⟨e,m⟩;rotate_left
 ·cases m;cases i;simp[e]
 simp[e];cases m;exact j _ _ _ ⟨a,b,by simp[e]⟩ i
def yC{n:Nat}:C2 prog 168 (kl n) sB Tm.av Tm.av:=(IE n)
def Fk:C2 prog 105 re sB (sL Tm.av) (sL Tm.av):=by
 intro T H a0 a1 r hm;rw[re] at hm;have e:=trivial;refine wi acd func105 [] [] 999 ?_;rcases Io e hm with⟨e,m⟩|⟨e,m⟩
 ·cases m;simp[e]
 simp[e];refine Wr e m 999 (λc s2 f h=>h=H/\f.1 0=sL Tm.av a0/\f.1 1=sL Tm.av a1/\f.1 12=sI (eM a0)/\f.1 13=sI c) (by simp[e]) (λs2 a g i E m=>?_) (λc l s2 a g i n6 n E e m d b=>?_)
 ·have e:=Aj e E;dsimp only[ei]at m;cases m;simp[e]
 have e:=Aj e E;have⟨j,e,m⟩:=ep e m;have⟨k,e,m⟩:=ep e m;simp[e];refine Cs (yC e.2) ?_;rcases Io e m with⟨e,m⟩|⟨e,m⟩;rotate_left
 ·cases m;cases d;simp[e]
 simp[e];cases m;exact b _ _ _ (by simp[e]) d
def Ie:∀(n:Nat),C2 prog 37 (qp n) sB Fm.av Fm.av:=by
  intro n
  induction n with
  |zero=>
    skip
    all_goals(intro _ _;intros;rename_i hm;cases hm)
  |succ n t=>
 intro T H a0 a1 r hm;rw[qp] at hm;have e:=trivial;refine wi acd func37 [] [] 3 ?_;simp[e];refine Wj hm 999 999 (λp f h=>∃(v2:Bool) (c:Nat) (d:Nat),(h=H/\f.1 2=AV.eC 2 c 0/\f.1 3=AV.eC 3 d 0/\f.1 35=sB v2/\f.gen 2=c/\f.box 2=some [sI a0.ab9,sI a0.dv.ab9,sL Ty.av a0.dv.ab_,sL Tm.av a0.ej,sL Fm.av a0.ab_]/\f.gen 3=d/\f.box 3=some [sI a1.ab9,sI a1.dv.ab9,sL Ty.av a1.dv.ab_,sL Tm.av a1.ej,sL Fm.av a1.ab_])/\p v2=some r) (λp A g m=>?_) ?_
 ·rcases Io e m with⟨e,m⟩|⟨e,m⟩
  ·simp[e];exact g _ _ ⟨true,1,1,by simp[e],m⟩
  have⟨B,e,m⟩:=ep e m;simp[e];refine Cf (iw e.2) ?_;rcases Io e m with⟨e,m⟩|⟨e,m⟩;rotate_left
  ·simp[e];exact g _ _ ⟨true,1,1,by simp[e],m⟩
  have⟨C,e,m⟩:=ep e m;simp[e];refine Cf (Fk e.2) ?_;rcases Io e m with⟨e,m⟩|⟨e,m⟩;rotate_left
  ·simp[e];exact g _ _ ⟨true,1,1,by simp[e],m⟩
  simp[e];exact g _ _ ⟨(eW (eM a0.ab_) (eM a1.ab_)),1,1,by simp[e],m⟩
 rintro u D ⟨v2,c,d,E,m⟩;have e:=Aj e E;rcases Io e m with⟨e,m⟩|⟨e,m⟩
 ·cases m;simp[e]
 simp[e];refine Wr e m 999 (λq s f h=>∃(a:Nat) (b:Nat),h=H/\f.1 2=AV.eC 2 a 0/\f.1 3=AV.eC 3 b 0/\f.1 38=sI (eM a0.ab_)/\f.1 39=sI q/\f.gen 2=a/\f.box 2=some [sI a0.ab9,sI a0.dv.ab9,sL Ty.av a0.dv.ab_,sL Tm.av a0.ej,sL Fm.av a0.ab_]/\f.gen 3=b/\f.box 3=some [sI a1.ab9,sI a1.dv.ab9,sL Ty.av a1.dv.ab_,sL Tm.av a1.ej,sL Fm.av a1.ab_]) ⟨c,d,by simp[e]⟩ (λs i l o E m=>?_) (λq v s i l o w x E e m j k=>?_)
 ·have⟨a,b,E⟩:=E;have e:=Aj e E;dsimp only[ei]at m;cases m;simp[e]
 have⟨a,b,E⟩:=E;have e:=Aj e E;have⟨y,e,m⟩:=ep e m;have⟨z,e,m⟩:=ep e m;simp[e];refine Cs (t e.2) ?_;rcases Io e m with⟨e,m⟩|⟨e,m⟩;rotate_left
 ·cases m;cases j;simp[e]
 simp[e];cases m;exact k _ _ _ ⟨a,b,by simp[e]⟩ j
def J6{n:Nat}:C2 prog 37 (qp n) sB Fm.av Fm.av:=(Ie n)
def JW(T:fa)(g:qq T){H:eD}{b:Bool}(hm:vH=some b):eZ prog T 12 [] H (sB b) H:=by
 rw[vH] at hm;have e:=g;refine wi acd func12 [] [] 6 ?_;have⟨q,e,m⟩:=ep e hm;simp[e];refine Cf (hX e.2) ?_;have⟨r,e,m⟩:=ep e m;simp[e];refine Cs (gu e.2) ?_;have⟨s,e,m⟩:=ep e m;simp[e];refine Cs (mD e.2) ?_;have⟨t,e,m⟩:=ep e m;simp[e];refine Cs (rX e.2) ?_;have⟨u,v,e,m⟩:=gv e m;simp[e];refine Cs (vD T g e.2) ?_;simp[e];refine Wj m 999 999 (λi f h=>∃(c:Bool),(h=H/\f.1 0=sB c)/\i c=some b) (λi w a m=>?_) ?_;rotate_left
 ·rintro j k ⟨c,E,m⟩;have e:=Aj e E;cases m;simp[e]
 rcases Io e m with⟨e,m⟩|⟨e,m⟩;rotate_left
 ·simp[e];exact a _ _ ⟨false,by simp[e],m⟩
 rcases Io e m with⟨e,m⟩|⟨e,m⟩;rotate_left
 ·simp[e];exact a _ _ ⟨false,by simp[e],m⟩
 have⟨l,e,m⟩:=ep e m;simp[e];refine Cs (gu e.2) ?_;have⟨n,e,m⟩:=ep e m;simp[e];refine Cs (gu e.2) ?_;have⟨o,e,m⟩:=ep e m;simp[e];refine Cs (nZ e.2) ?_;have⟨p,e,m⟩:=ep e m;simp[e];refine Cs (nD e.2) ?_;have⟨d,e,m⟩:=ep e m;simp[e];refine Cs (J6 e.2) ?_;simp[e];exact a _ _ ⟨d,by simp[e],m⟩
def SZ:C1 prog 13 G7 sB (sL sI):=by
 intro T H a0 r hm;rw[G7] at hm;have e:=trivial;refine wi acd func13 [] [] 999 ?_;cases hm;simp[e]
def To:sw prog 16=true:=by kernel_rfl
def S1(T:fa){a0:List Int}{b:ew}(hm:NO a0=some b):eZ prog T 16 [AV.slice .iP (List.map (λn=>AV.sc (Value.int .i64 n)) a0)] [] (AV.fO 0 0) (gb [[]] 0 [AV.slice .iP (List.map (λn=>AV.sc (Value.int .i64 n)) b.l),AV.sc (.int .i64 b.pY)]):=by
 obtain rfl:=iy hm;refine fG.intro (fn:=f16) func16 rfl To (XV rfl) ?_;refine gJ.ud λc a=>?_;refine gJ.region [] (by decide+kernel) ?_;simp;refine a _ _ ?_;refine gJ.ud λc a=>?_;refine gJ.region [5] (by decide+kernel) ?_;simp;refine a _ _ ?_;refine gJ.ret ?_;simp[vS,gb]
def SU:C2 prog 128 HE sI sI sI:=by
 intro T H a0 a1 r hm;rw[HE] at hm;have e:=trivial;refine wi acd func128 [] [] 999 ?_;have⟨e,m⟩:=Ck e hm;have⟨e,m⟩:=Ck e m;cases m;simp[e]
def gf(T:fa){H:eD}{a0:ew}{a1 i:Int}{a:ew}{b:Nat}(c:H[b]?=some [sL sI a0.l,sI a0.pY])(hm:gk a0 a1=some (i,a)):eZ prog T 55 [AV.fO b 0,sI a1] H (sI i) (gb H b [sL sI a.l,sI a.pY]):=by
 rw[gk] at hm;have g:=fW c;refine fG.Iy c ?_;have e:=g;refine wi acd func55 [] [(1,true,[]),(3,true,[])] 3 ?_;simp[e];refine wj 999 999 (λf h=>h=gb H b [sL sI a0.l,sI a0.pY]/\f.1 0=AV.fO b 0/\f.1 1=sI a1/\f.1 19=sB (fU (ue a1 1) true (sN a0.pY (eM a0.l)))) (λk d=>?_) ?_
 ·rcases Pb (ue a1 1) e with e|e
  ·simp[e];exact d _ _ (by simp[e])
  simp[e];exact d _ _ (by simp[e])
 rintro j n E;have e:=Aj e E;rcases Io e hm with⟨e,m⟩|⟨e,m⟩
 ·cases m;simp[e]
 have⟨o,e,m⟩:=ep e m;have⟨p,e,m⟩:=ep e m;simp[e];refine Cf (SU e.2) ?_;cases m;simp[e]
def wy:C3 prog 88 oo Fm.av sI Fm.av Fm.av:=by
 intro T H a0 a1 a2 r hm;rw[oo] at hm;have e:=trivial;refine wi acd func88 [] [] 999 ?_;have⟨a,e,m⟩:=ep e hm;simp[e];refine Cs (kW e.2) ?_;have⟨b,e,m⟩:=ep e m;simp[e];refine Cs (kW e.2) ?_;have e:=Aj e (show AV.agg [sI a0,sI 0,AV.slice .iP [],AV.slice .iP [],AV.slice .iP [Fm.av a,Fm.av b]]=Fm.av (Fm.mk a0 (Ty.mk 0 []) [] [a,b]) by rw[Fm.fL];rfl);have e:=Aj e (show AV.agg [sI a0,sI 0,AV.slice .iP [],AV.slice .iP [],AV.slice .iP [Fm.av a,Fm.av b]]=Fm.av (Fm.mk a0 (Ty.mk 0 []) [] [a,b]) by rw[Fm.fL];rfl);cases m;simp[e]
def nS:C0 prog 71 mZ Ty.av:=by
 intro T H r hm;rw[mZ] at hm;have e:=trivial;refine wi acd func71 [] [] 999 ?_;cases hm;simp[e]
def BW:C0 prog 96 vp Ty.av:=by
 intro T H r hm;rw[vp] at hm;have e:=trivial;refine wi acd func96 [] [] 999 ?_;cases hm;simp[e]
def EB:C2 prog 97 uS Ty.av Ty.av Ty.av:=by
 intro T H a0 a1 r hm;rw[uS] at hm;have e:=trivial;refine wi acd func97 [] [] 999 ?_;have⟨a,e,m⟩:=ep e hm;simp[e];refine Cs (jO e.2) ?_;have⟨b,e,m⟩:=ep e m;simp[e];refine Cs (jO e.2) ?_;have e:=Aj e (show AV.agg [sI 3,AV.slice .iP [Ty.av a,Ty.av b]]=Ty.av (Ty.mk 3 [a,b]) by rw[Ty.fL];rfl);have e:=Aj e (show AV.agg [sI 3,AV.slice .iP [Ty.av a,Ty.av b]]=Ty.av (Ty.mk 3 [a,b]) by rw[Ty.fL];rfl);cases m;simp[e]
def oP:C2 prog 60 lx Ty.av Ty.av Ty.av:=by
 intro T H a0 a1 r hm;rw[lx] at hm;have e:=trivial;refine wi acd func60 [] [] 999 ?_;have⟨a,e,m⟩:=ep e hm;simp[e];refine Cs (jO e.2) ?_;have⟨b,e,m⟩:=ep e m;simp[e];refine Cs (jO e.2) ?_;have e:=Aj e (show AV.agg [sI 4,AV.slice .iP [Ty.av a,Ty.av b]]=Ty.av (Ty.mk 4 [a,b]) by rw[Ty.fL];rfl);have e:=Aj e (show AV.agg [sI 4,AV.slice .iP [Ty.av a,Ty.av b]]=Ty.av (Ty.mk 4 [a,b]) by rw[Ty.fL];rfl);cases m;simp[e]
def Nu(T:fa):∀(n:Nat),(∀{H:eD} {a0:ew} {a1:Int} {o:Ty} {b:ew} {g:Nat} (i:H[g]?=some [sL sI a0.l,sI a0.pY]) (hm:iY n a0 a1=some (o,b)),eZ prog T 33 [AV.fO g 0,sI a1] H (Ty.av o) (gb H g [sL sI b.l,sI b.pY])):=by
  intro n
  induction n with
  |zero=>
    skip
    all_goals(intro _ _;intros;rename_i hm;cases hm)
  |succ n p=>
 intro H a0 a1 o b g i hm;rw[iY] at hm;have q:=fW i;refine fG.Iy i ?_;have e:=q;refine wi acd func33 [] [] 2 ?_;simp[e];refine Wj hm 3 999 (λr f h=>∃(v2:ew) (c:Nat),(h=gb H g [sL sI v2.l,sI v2.pY]/\f.1 4=AV.eC 4 c 0/\f.gen 4=c/\f.box 4=some [sI 0,AV.slice .full []])/\r v2=some (o,b)) (λr F j m=>?_) ?_;rotate_left
 ·rintro t G ⟨v2,c,E,m⟩;have e:=Aj e E;have⟨I,e,m⟩:=ep e m;simp[e];refine Cf (hX e.2) ?_;cases m;simp[e]
 have⟨k,d8,e,m⟩:=gv e m;simp[e];refine Cf (gf T (by simp[e]) e.2) ?_;simp[e];refine wj 999 999 (λf h=>∃(a:Nat),h=gb H g [sL sI d8.l,sI d8.pY]/\f.1 0=AV.fO g 0/\f.1 1=sI a1/\f.1 4=AV.eC 4 a 0/\f.1 6=sI k/\f.1 7=sB (fU (eH k 0) true (fU (eH k 1) true (eH k 2)))/\f.gen 4=a/\f.box 4=some [sI 0,AV.slice .full []]) (λJ d=>?_) ?_
 ·rcases Pb (eH k 0) e with e|e
  ·simp[e];exact d _ _ ⟨1,by simp[e]⟩
  rcases Pb (eH k 1) e with e|e
  ·simp[e];exact d _ _ ⟨1,by simp[e]⟩
  simp[e];exact d _ _ ⟨1,by simp[e]⟩
 rintro s u ⟨a,E⟩;have e:=Aj e E;rcases Io e m with⟨e,m⟩|⟨e,m⟩
 ·have⟨v,e,m⟩:=ep e m;simp[e];refine Cf (hX e.2) ?_;cases m;simp[e]
 rcases Io e m with⟨e,m⟩|⟨e,m⟩
 ·have⟨w,e,m⟩:=ep e m;simp[e];refine Cf (nS e.2) ?_;cases m;simp[e]
 rcases Io e m with⟨e,m⟩|⟨e,m⟩
 ·have⟨x,e,m⟩:=ep e m;simp[e];refine Cf (BW e.2) ?_;cases m;simp[e]
 rcases Io e m with⟨e,m⟩|⟨e,m⟩
 ·rcases Io e m with⟨e,m⟩|⟨e,m⟩;rotate_left
  ·simp[e];exact j _ _ ⟨d8,a,by simp[e],m⟩
  have⟨y,d16,e,m⟩:=gv e m;simp[e];refine Cf (p (by simp[e]) e.2) ?_;have⟨z,d18,e,m⟩:=gv e m;simp[e];refine Cf (p (by simp[e]) e.2) ?_;have⟨A,e,m⟩:=ep e m;simp[e];refine Cf (EB e.2) ?_;cases m;simp[e]
 rcases Io e m with⟨e,m⟩|⟨e,m⟩;rotate_left
 ·simp[e];exact j _ _ ⟨d8,a,by simp[e],m⟩
 rcases Io e m with⟨e,m⟩|⟨e,m⟩;rotate_left
 ·simp[e];exact j _ _ ⟨d8,a,by simp[e],m⟩
 have⟨B,d21,e,m⟩:=gv e m;simp[e];refine Cf (p (by simp[e]) e.2) ?_;have⟨C,d23,e,m⟩:=gv e m;simp[e];refine Cf (p (by simp[e]) e.2) ?_;have⟨D,e,m⟩:=ep e m;simp[e];refine Cf (oP e.2) ?_;cases m;simp[e]
def mS(T:fa){H:eD}{a0:ew}{a1:Int}{d:Ty}{a:ew}{b:Nat}(c:H[b]?=some [sL sI a0.l,sI a0.pY]){n:Nat}(hm:iY n a0 a1=some (d,a)):eZ prog T 33 [AV.fO b 0,sI a1] H (Ty.av d) (gb H b [sL sI a.l,sI a.pY]):=(Nu T n) c hm
def oS:C2 prog 89 mV (sL Ty.av) (sL Ty.av) (sL Ty.av):=by
 intro T H a0 a1 r hm;rw[mV] at hm;have e:=trivial;refine wi acd func89 [] [] 999 ?_;have⟨e,m⟩:=Ck e hm;simp[e];refine Ao (f:=Ty.av) [] a0 (iX.full (D:=[])) Fo e.2 ?_;have⟨e,m⟩:=Ck e m;simp[e];refine Ao (f:=Ty.av) (gG [] a0) a1 (iX.new (D:=[6]) (d:=6) (by decide)) Fo e.2 ?_;cases m;simp[e]
def QF:C2 prog 99 Cy (sL sI) (sL Ty.av) Ty.av:=by
 intro T H a0 a1 r hm;rw[Cy] at hm;have e:=trivial;refine wi acd func99 [] [] 999 ?_;simp[e];refine Wr e hm 0 (λk s2 f h=>∃(b:Tag) (c:Nat),(h=H/\f.1 0=sL Ty.av a0/\f.1 3=AV.eC 3 c 0/\f.1 5=sT b sI s2/\f.1 8=sI (eM a0)/\f.1 9=sI k/\f.gen 3=c/\f.box 3=some [sI a1.ab9,sL Ty.av a1.ab_])/\Ow f [25] b s2) (by exact⟨.full,1,by simp[e],iX.full⟩) (λs2 l q s E m=>?_) (λk z s2 l q s n6 t E e m u o=>?_)
 ·have⟨b,c,E,g⟩:=E;have e:=Aj e E;apply wg 999;dsimp only[ei]at m;cases m;simp[e]
 have⟨b,c,E,g⟩:=E;have e:=Aj e E;apply wg 5;simp[e];refine Wj m 999 999 (λn f h=>∃(v11:List Int) (a:Tag) (d:Nat),(h=H/\f.1 0=sL Ty.av a0/\f.1 3=AV.eC 3 d 0/\f.1 5=sT a sI v11/\f.1 8=sI (eM a0)/\f.1 9=sI k/\f.gen 3=d/\f.box 3=some [sI a1.ab9,sL Ty.av a1.ab_])/\Ow f [25] a v11/\n v11=some t) (λn v i m=>?_) ?_;rotate_left
 ·rintro p w ⟨v11,a,d,E,j,m⟩;have e:=Aj e E;simp[e];cases m;exact o _ _ _ ⟨a,d,by simp[e],j⟩ u
 have⟨x,e,m⟩:=ep e m;have⟨y,e,m⟩:=ep e m;simp[e];refine Cs (iw e.2) ?_;rcases Io e m with⟨e,m⟩|⟨e,m⟩;rotate_left
 ·simp[e];exact i _ _ ⟨s2,b,c,by simp[e],g,m⟩
 have⟨e,m⟩:=Ck e m;simp[e];refine Ao (f:=sI) s2 [k] g Qx e.2 ?_;simp[e];exact i _ _ ⟨(gG s2 [k]),(.loc 25 (l.fN 25+1)),c,by simp[e],(On 25),m⟩
def gR:C2 prog 100 gq Tm.av sI (sL Tm.av):=by
 intro T H a0 a1 r hm;rw[gq] at hm;have e:=trivial;refine wi acd func100 [] [] 999 ?_;simp[e];refine Wr e hm 999 (λj s2 f h=>∃(a:Tag) (b:Nat),(h=H/\f.1 0=sI a0/\f.1 4=AV.eC 4 b 0/\f.1 5=sT a Tm.av s2/\f.1 8=sL Tm.av a1/\f.1 9=sI (eM a1)/\f.1 10=sI j/\f.gen 4=b/\f.box 4=some [sI 0,sI 0,sI 0,AV.slice .full [],AV.slice .full []])/\Ow f [18] a s2) (by exact⟨.full,1,by simp[e],iX.full⟩) (λs2 d k l E m=>?_) (λj o s2 d k l n6 p E e m n g=>?_)
 ·have⟨a,b,E,c⟩:=E;have e:=Aj e E;dsimp only[ei]at m;cases m;simp[e]
 have⟨a,b,E,c⟩:=E;have e:=Aj e E;have⟨i,e,m⟩:=ep e m;simp[e];refine Cf (my e.2) ?_;have⟨e,m⟩:=Ck e m;simp[e];refine Ao (f:=Tm.av) s2 [i] c Ct e.2 ?_;simp[e];cases m;exact g _ _ _ ⟨(.loc 18 (d.fN 18+1)),b,by simp[e],(On 18)⟩ n
def l9:C3 prog 62 lZ Tm.av sI Ty.av (sL Tm.av):=by
 intro T H a0 a1 a2 r hm;rw[lZ] at hm;have e:=trivial;refine wi acd func62 [] [] 999 ?_;have⟨a,e,m⟩:=ep e hm;simp[e];refine Cf (gR e.2) ?_;have⟨b,e,m⟩:=ep e m;simp[e];refine Cf (jO e.2) ?_;cases m;simp[e]
def Fl:C1 prog 178 rf Tm.av sI:=by
 intro T H a0 r hm;rw[rf] at hm;have e:=trivial;refine wi acd func178 [] [] 999 ?_;have⟨n,e,m⟩:=ep e hm;simp[e];refine Cf (gR e.2) ?_;simp[e];refine Wn m 999 (λs2 f h=>∃(c:Tag) (d:Tag) (a:Nat) (b:Nat),h=H/\f.1 0=sI s2.1/\f.1 2=AV.eC 2 a 0/\f.1 3=AV.eC 3 b 0/\f.gen 2=a/\f.box 2=some [sI 0,sI 0,sI 0,AV.slice .full [],AV.slice .full []]/\f.gen 3=b/\f.box 3=some [sI s2.2.1,sI s2.2.2.1,sI s2.2.2.2.1,sT c Ty.av s2.2.2.2.2.1,sT d Tm.av s2.2.2.2.2.2]) ⟨.iP,.iP,1,1,by simp[e]⟩ (λs2 j o p q s E m i g=>?_);have⟨v9,v10,v11,v12,k,l⟩:=s2;have⟨c,d,a,b,E⟩:=E;have e:=Aj e E;dsimp only[zh]at m;rcases Io e m with⟨e,m⟩|⟨e,m⟩;rotate_left
 ·cases m;have m:=Qb i;dsimp only[zh]at m;cases m;simp[e]
 simp[e];cases m;exact g _ _ _ ⟨.full,.full,a,b,by simp[e]⟩ i
def FO:C1 prog 127 uH (t2 Tm.av sI) sI:=by
 intro T H a0 r hm;rw[uH] at hm;have e:=trivial;refine wi acd func127 [] [] 999 ?_;rcases Io e hm with⟨e,m⟩|⟨e,m⟩
 ·cases m;simp[e]
 rcases Io e m with⟨e,m⟩|⟨e,m⟩
 ·cases m;simp[e]
 have⟨a,e,m⟩:=ep e m;simp[e];refine Cf (Fl e.2) ?_;cases m;simp[e]
def CI:C1 prog 54 zt Tm.av sI:=by
 intro T H a0 r hm;rw[zt] at hm;have e:=trivial;refine wi acd func54 [] [] 999 ?_;have⟨a,b,e,m⟩:=gv e hm;simp[e];refine Cf (FO e.2) ?_;cases m;simp[e]
def lX:C1 prog 165 lr Tm.av Tm.av:=by
 intro T H a0 r hm;rw[lr] at hm;have e:=trivial;refine wi acd func165 [] [] 999 ?_;have⟨a,e,m⟩:=ep e hm;simp[e];refine Cs (hX e.2) ?_;have⟨b,e,m⟩:=ep e m;simp[e];refine Cs (l9 e.2) ?_;cases m;simp[e]
end Go.Proofs.YtobcafblgapgfaaGreatDoor
