/- Part of the proof of KernelUniform: walks. -/
import Derived.Test.YtobcafblgapgfaaGreatDoorProg
import Derived.Test.YtobcafblgapgfaaGreatDoorChecked
import Derived.WalkKit
import Derived.Laws.Bits64b
import Derived.BigCall
import Derived.Test.YtobcafblgapgfaaGreatDoorG1
set_option linter.all false
namespace Go.Proofs.YtobcafblgapgfaaGreatDoor
open Go Go.mS Go.hJ Tryz
def abf:prog.follows .mixedOrders=true:=by kernel_rfl
end Go.Proofs.YtobcafblgapgfaaGreatDoor
namespace Go.hJ
open Go Go.mS
mutual
def Ty.av:Ty->AV
 |.mk aba abb=>.agg [sI aba,AV.slice .iN (Ty.Jm abb)]
def Ty.Jm:List Ty->List AV
 |[]=>[]|x::l=>x.av::Ty.Jm l
end
def Ty.AT(l:List Ty):Ty.Jm l=l.map Ty.av:=by
 induction l with
 |nil=>rfl|cons x l a=>simp[Ty.Jm,a]
def Ty.fL(aba:Int)(abb:List Ty):(Ty.mk aba abb).av=.agg [sI aba,sL Ty.av abb]:=by rw[Ty.av];simp only[Ty.AT]
mutual
@[simp] theorem Ty.zs(k:Nat):∀x:Ty,x.av.low k=true
 |.mk aba abb=>by rw[Ty.fL];simp[AV.low,AV.jf,Ty.rT k abb]
@[simp] theorem Ty.rT(k:Nat):∀l:List Ty,AV.jf k (l.map Ty.av)=true
 |[]=>rfl|x::l=>by simp[AV.jf,Ty.zs k x,Ty.rT k l]
end
def Ty.gV(x:Ty):x.av=.agg [sI x.aba,sL Ty.av x.abb]:=by cases x;exact Ty.fL _ _
@[simp] theorem Ty.mq(x:Ty):x.av.cells=[sI x.aba,sL Ty.av x.abb]:=by rw[Ty.gV];rfl
@[simp] theorem Ty.tX(x:Ty):fX x.av=true:=by rw[Ty.gV];rfl
@[simp] theorem Ty.qH(x:Ty):x.av.norm=x.av:=by rw[Ty.gV];rfl
@[simp] theorem Ty.Zs(a:Int)(b:List Ty):AV.agg [sI a,sL Ty.av b]=Ty.av (Ty.mk a b):=by rw[Ty.fL]<;>rfl
@[simp] theorem Ty.aaB(a:Int):AV.agg [sI a,AV.slice .iN []]=Ty.av (Ty.mk a []):=by rw[Ty.fL]<;>rfl
mutual
def Tm.av:Tm->AV
 |.mk aba abd dv abb=>.agg [sI aba,sI abd,sI dv.aba,sL Ty.av dv.abb,AV.slice .iN (Tm.Jm abb)]
def Tm.Jm:List Tm->List AV
 |[]=>[]|x::l=>x.av::Tm.Jm l
end
def Tm.AT(l:List Tm):Tm.Jm l=l.map Tm.av:=by
 induction l with
 |nil=>rfl|cons x l a=>simp[Tm.Jm,a]
def Tm.fL(aba abd:Int)(dv:Ty)(abb:List Tm):(Tm.mk aba abd dv abb).av=.agg [sI aba,sI abd,sI dv.aba,sL Ty.av dv.abb,sL Tm.av abb]:=by rw[Tm.av];simp only[Tm.AT]
mutual
@[simp] theorem Tm.zs(k:Nat):∀x:Tm,x.av.low k=true
 |.mk aba abd dv abb=>by rw[Tm.fL];simp[AV.low,AV.jf,Tm.rT k abb]
@[simp] theorem Tm.rT(k:Nat):∀l:List Tm,AV.jf k (l.map Tm.av)=true
 |[]=>rfl|x::l=>by simp[AV.jf,Tm.zs k x,Tm.rT k l]
end
def Tm.gV(x:Tm):x.av=.agg [sI x.aba,sI x.abd,sI x.dv.aba,sL Ty.av x.dv.abb,sL Tm.av x.abb]:=by cases x;exact Tm.fL _ _ _ _
@[simp] theorem Tm.mq(x:Tm):x.av.cells=[sI x.aba,sI x.abd,sI x.dv.aba,sL Ty.av x.dv.abb,sL Tm.av x.abb]:=by rw[Tm.gV];rfl
@[simp] theorem Tm.tX(x:Tm):fX x.av=true:=by rw[Tm.gV];rfl
@[simp] theorem Tm.qH(x:Tm):x.av.norm=x.av:=by rw[Tm.gV];rfl
@[simp] theorem Tm.Uj(a b c:Int)(c3:List Ty)(d:List Tm):AV.agg [sI a,sI b,sI c,sL Ty.av c3,sL Tm.av d]=Tm.av (Tm.mk a b (Ty.mk c c3) d):=by rw[Tm.fL]<;>rfl
@[simp] theorem Tm.aaM(a b c:Int)(d:List Tm):AV.agg [sI a,sI b,sI c,AV.slice .iN [],sL Tm.av d]=Tm.av (Tm.mk a b (Ty.mk c []) d):=by rw[Tm.fL]<;>rfl
@[simp] theorem Tm.XZ(a b c:Int):AV.agg [sI a,sI b,sI c,AV.slice .iN [],AV.slice .iN []]=Tm.av (Tm.mk a b (Ty.mk c []) []):=by rw[Tm.fL]<;>rfl
mutual
def Fm.av:Fm->AV
 |.mk aba dv ek abb=>.agg [sI aba,sI dv.aba,sL Ty.av dv.abb,sL Tm.av ek,AV.slice .iN (Fm.Jm abb)]
def Fm.Jm:List Fm->List AV
 |[]=>[]|x::l=>x.av::Fm.Jm l
end
def Fm.AT(l:List Fm):Fm.Jm l=l.map Fm.av:=by
 induction l with
 |nil=>rfl|cons x l a=>simp[Fm.Jm,a]
def Fm.fL(aba:Int)(dv:Ty)(ek:List Tm)(abb:List Fm):(Fm.mk aba dv ek abb).av=.agg [sI aba,sI dv.aba,sL Ty.av dv.abb,sL Tm.av ek,sL Fm.av abb]:=by rw[Fm.av];simp only[Fm.AT]
mutual
@[simp] theorem Fm.zs(k:Nat):∀x:Fm,x.av.low k=true
 |.mk aba dv ek abb=>by rw[Fm.fL];simp[AV.low,AV.jf,Fm.rT k abb]
@[simp] theorem Fm.rT(k:Nat):∀l:List Fm,AV.jf k (l.map Fm.av)=true
 |[]=>rfl|x::l=>by simp[AV.jf,Fm.zs k x,Fm.rT k l]
end
def Fm.gV(x:Fm):x.av=.agg [sI x.aba,sI x.dv.aba,sL Ty.av x.dv.abb,sL Tm.av x.ek,sL Fm.av x.abb]:=by cases x;exact Fm.fL _ _ _ _
@[simp] theorem Fm.mq(x:Fm):x.av.cells=[sI x.aba,sI x.dv.aba,sL Ty.av x.dv.abb,sL Tm.av x.ek,sL Fm.av x.abb]:=by rw[Fm.gV];rfl
@[simp] theorem Fm.tX(x:Fm):fX x.av=true:=by rw[Fm.gV];rfl
@[simp] theorem Fm.qH(x:Fm):x.av.norm=x.av:=by rw[Fm.gV];rfl
@[simp] theorem Fm.NT(a b:Int)(c:List Ty)(c3:List Tm)(d:List Fm):AV.agg [sI a,sI b,sL Ty.av c,sL Tm.av c3,sL Fm.av d]=Fm.av (Fm.mk a (Ty.mk b c) c3 d):=by rw[Fm.fL]<;>rfl
@[simp] theorem Fm.aaG(a b:Int)(c:List Fm):AV.agg [sI a,sI b,AV.slice .iN [],AV.slice .iN [],sL Fm.av c]=Fm.av (Fm.mk a (Ty.mk b []) [] c):=by rw[Fm.fL]<;>rfl
@[simp] theorem Fm.U7(a b:Int):AV.agg [sI a,sI b,AV.slice .iN [],AV.slice .iN [],AV.slice .iN []]=Fm.av (Fm.mk a (Ty.mk b []) [] []):=by rw[Fm.fL]<;>rfl
def Sq.av(x:Sq):AV:=.agg [sL Ty.av x.abe,sL Fm.av x.abh]
def Sq.fL(abe:List Ty)(abh:List Fm):(Sq.mk abe abh).av=.agg [sL Ty.av abe,sL Fm.av abh]:=rfl
def Sq.gV(x:Sq):x.av=.agg [sL Ty.av x.abe,sL Fm.av x.abh]:=by cases x;exact Sq.fL _ _
@[simp] theorem Sq.mq(x:Sq):x.av.cells=[sL Ty.av x.abe,sL Fm.av x.abh]:=by rw[Sq.gV];rfl
@[simp] theorem Sq.tX(x:Sq):fX x.av=true:=by rw[Sq.gV];rfl
@[simp] theorem Sq.qH(x:Sq):x.av.norm=x.av:=by rw[Sq.gV];rfl
@[simp] theorem Sq.Uj(a:List Ty)(b:List Fm):AV.agg [sL Ty.av a,sL Fm.av b]=Sq.av (Sq.mk a b):=by rw[Sq.fL]<;>rfl
@[simp] theorem Sq.XZ:AV.agg [AV.slice .iN [],AV.slice .iN []]=Sq.av (Sq.mk [] []):=by rw[Sq.fL]<;>rfl
mutual
def Pf.av:Pf->AV
 |.mk aba abd dv ek fi abb=>.agg [sI aba,sI abd,sI dv.aba,sL Ty.av dv.abb,sL Tm.av ek,sL Fm.av fi,AV.slice .iN (Pf.Jm abb)]
def Pf.Jm:List Pf->List AV
 |[]=>[]|x::l=>x.av::Pf.Jm l
end
def Pf.AT(l:List Pf):Pf.Jm l=l.map Pf.av:=by
 induction l with
 |nil=>rfl|cons x l a=>simp[Pf.Jm,a]
def Pf.fL(aba abd:Int)(dv:Ty)(ek:List Tm)(fi:List Fm)(abb:List Pf):(Pf.mk aba abd dv ek fi abb).av=.agg [sI aba,sI abd,sI dv.aba,sL Ty.av dv.abb,sL Tm.av ek,sL Fm.av fi,sL Pf.av abb]:=by rw[Pf.av];simp only[Pf.AT]
mutual
@[simp] theorem Pf.zs(k:Nat):∀x:Pf,x.av.low k=true
 |.mk aba abd dv ek fi abb=>by rw[Pf.fL];simp[AV.low,AV.jf,Pf.rT k abb]
@[simp] theorem Pf.rT(k:Nat):∀l:List Pf,AV.jf k (l.map Pf.av)=true
 |[]=>rfl|x::l=>by simp[AV.jf,Pf.zs k x,Pf.rT k l]
end
def Pf.gV(x:Pf):x.av=.agg [sI x.aba,sI x.abd,sI x.dv.aba,sL Ty.av x.dv.abb,sL Tm.av x.ek,sL Fm.av x.fi,sL Pf.av x.abb]:=by cases x;exact Pf.fL _ _ _ _ _ _
@[simp] theorem Pf.mq(x:Pf):x.av.cells=[sI x.aba,sI x.abd,sI x.dv.aba,sL Ty.av x.dv.abb,sL Tm.av x.ek,sL Fm.av x.fi,sL Pf.av x.abb]:=by rw[Pf.gV];rfl
@[simp] theorem Pf.tX(x:Pf):fX x.av=true:=by rw[Pf.gV];rfl
@[simp] theorem Pf.qH(x:Pf):x.av.norm=x.av:=by rw[Pf.gV];rfl
@[simp] theorem Pf.TW(a b c:Int)(c3:List Ty)(d:List Tm)(c5:List Fm)(e:List Pf):AV.agg [sI a,sI b,sI c,sL Ty.av c3,sL Tm.av d,sL Fm.av c5,sL Pf.av e]=Pf.av (Pf.mk a b (Ty.mk c c3) d c5 e):=by rw[Pf.fL]<;>rfl
@[simp] theorem Pf.ZE(a b c:Int)(d:List Pf):AV.agg [sI a,sI b,sI c,AV.slice .iN [],AV.slice .iN [],AV.slice .iN [],sL Pf.av d]=Pf.av (Pf.mk a b (Ty.mk c []) [] [] d):=by rw[Pf.fL]<;>rfl
@[simp] theorem Pf.Td(a b c:Int):AV.agg [sI a,sI b,sI c,AV.slice .iN [],AV.slice .iN [],AV.slice .iN [],AV.slice .iN []]=Pf.av (Pf.mk a b (Ty.mk c []) [] [] []):=by rw[Pf.fL]<;>rfl
def rN.av(x:rN):AV:=.agg [sI x.eg.aba,sI x.eg.dv.aba,sL Ty.av x.eg.dv.abb,sL Tm.av x.eg.ek,sL Fm.av x.eg.abb,AV.slice .iN (List.map (λn=>AV.sc (Value.int .i64 n)) x.gp)]
def rN.fL(eg:Fm)(gp:List Int):(rN.mk eg gp).av=.agg [sI eg.aba,sI eg.dv.aba,sL Ty.av eg.dv.abb,sL Tm.av eg.ek,sL Fm.av eg.abb,AV.slice .iN (List.map (λn=>AV.sc (Value.int .i64 n)) gp)]:=rfl
@[simp] theorem rN.zs(k:Nat)(x:rN):x.av.low k=true:=by
 cases x;rw[rN.fL];simp[AV.low,AV.jf]
def rN.gV(x:rN):x.av=.agg [sI x.eg.aba,sI x.eg.dv.aba,sL Ty.av x.eg.dv.abb,sL Tm.av x.eg.ek,sL Fm.av x.eg.abb,AV.slice .iN (List.map (λn=>AV.sc (Value.int .i64 n)) x.gp)]:=by cases x;exact rN.fL _ _
@[simp] theorem rN.mq(x:rN):x.av.cells=[sI x.eg.aba,sI x.eg.dv.aba,sL Ty.av x.eg.dv.abb,sL Tm.av x.eg.ek,sL Fm.av x.eg.abb,AV.slice .iN (List.map (λn=>AV.sc (Value.int .i64 n)) x.gp)]:=by rw[rN.gV];rfl
@[simp] theorem rN.tX(x:rN):fX x.av=true:=by rw[rN.gV];rfl
@[simp] theorem rN.qH(x:rN):x.av.norm=x.av:=by rw[rN.gV];rfl
@[simp] theorem rN.TW(a b:Int)(c:List Ty)(c3:List Tm)(d:List Fm)(c5:List Int):AV.agg [sI a,sI b,sL Ty.av c,sL Tm.av c3,sL Fm.av d,AV.slice .iN (List.map (λn=>AV.sc (Value.int .i64 n)) c5)]=rN.av (rN.mk (Fm.mk a (Ty.mk b c) c3 d) c5):=by rw[rN.fL]<;>rfl
@[simp] theorem rN.Td(a b:Int):AV.agg [sI a,sI b,AV.slice .iN [],AV.slice .iN [],AV.slice .iN [],AV.slice .iN []]=rN.av (rN.mk (Fm.mk a (Ty.mk b []) [] []) []):=by rw[rN.fL]<;>rfl
def eu.av(x:eu):AV:=.agg [AV.slice .iN (List.map (λn=>AV.sc (Value.int .i64 n)) x.l),sI x.pg]
def eu.fL(l:List Int)(pg:Int):(eu.mk l pg).av=.agg [AV.slice .iN (List.map (λn=>AV.sc (Value.int .i64 n)) l),sI pg]:=rfl
def eu.gV(x:eu):x.av=.agg [AV.slice .iN (List.map (λn=>AV.sc (Value.int .i64 n)) x.l),sI x.pg]:=by cases x;exact eu.fL _ _
@[simp] theorem eu.mq(x:eu):x.av.cells=[AV.slice .iN (List.map (λn=>AV.sc (Value.int .i64 n)) x.l),sI x.pg]:=by rw[eu.gV];rfl
@[simp] theorem eu.tX(x:eu):fX x.av=true:=by rw[eu.gV];rfl
@[simp] theorem eu.Zs(a:List Int)(b:Int):AV.agg [AV.slice .iN (List.map (λn=>AV.sc (Value.int .i64 n)) a),sI b]=eu.av (eu.mk a b):=by rw[eu.fL]<;>rfl
def ec.av(x:ec):AV:=.agg [sI x.eg.aba,sI x.eg.dv.aba,sL Ty.av x.eg.dv.abb,sL Tm.av x.eg.ek,sL Fm.av x.eg.abb,AV.sc (.int .u32 x.gp)]
def ec.fL(eg:Fm)(gp:Int):(ec.mk eg gp).av=.agg [sI eg.aba,sI eg.dv.aba,sL Ty.av eg.dv.abb,sL Tm.av eg.ek,sL Fm.av eg.abb,AV.sc (.int .u32 gp)]:=rfl
def ec.gV(x:ec):x.av=.agg [sI x.eg.aba,sI x.eg.dv.aba,sL Ty.av x.eg.dv.abb,sL Tm.av x.eg.ek,sL Fm.av x.eg.abb,AV.sc (.int .u32 x.gp)]:=by cases x;exact ec.fL _ _
@[simp] theorem ec.mq(x:ec):x.av.cells=[sI x.eg.aba,sI x.eg.dv.aba,sL Ty.av x.eg.dv.abb,sL Tm.av x.eg.ek,sL Fm.av x.eg.abb,AV.sc (.int .u32 x.gp)]:=by rw[ec.gV];rfl
@[simp] theorem ec.tX(x:ec):fX x.av=true:=by rw[ec.gV];rfl
@[simp] theorem ec.qH(x:ec):x.av.norm=x.av:=by rw[ec.gV];rfl
@[simp] theorem ec.NT(a b:Int)(c:List Ty)(c3:List Tm)(d:List Fm)(c5:Int):AV.agg [sI a,sI b,sL Ty.av c,sL Tm.av c3,sL Fm.av d,AV.sc (.int .u32 c5)]=ec.av (ec.mk (Fm.mk a (Ty.mk b c) c3 d) c5):=by rw[ec.fL]<;>rfl
@[simp] theorem ec.U7(a b c5:Int):AV.agg [sI a,sI b,AV.slice .iN [],AV.slice .iN [],AV.slice .iN [],AV.sc (.int .u32 c5)]=ec.av (ec.mk (Fm.mk a (Ty.mk b []) [] []) c5):=by rw[ec.fL]<;>rfl
def e_.av(x:e_):AV:=.agg [sI x.vars,sI x.abh]
def e_.fL(vars abh:Int):(e_.mk vars abh).av=.agg [sI vars,sI abh]:=rfl
def e_.gV(x:e_):x.av=.agg [sI x.vars,sI x.abh]:=by cases x;exact e_.fL _ _
@[simp] theorem e_.mq(x:e_):x.av.cells=[sI x.vars,sI x.abh]:=by rw[e_.gV];rfl
@[simp] theorem e_.tX(x:e_):fX x.av=true:=by rw[e_.gV];rfl
@[simp] theorem e_.qH(x:e_):x.av.norm=x.av:=by rw[e_.gV];rfl
@[simp] theorem e_.agg(a b:Int):AV.agg [sI a,sI b]=e_.av (e_.mk a b):=by rw[e_.fL]<;>rfl
def ed.av(x:ed):AV:=.agg [sI x.dv.aba,sL Ty.av x.dv.abb,sI x.abc]
def ed.fL(dv:Ty)(abc:Int):(ed.mk dv abc).av=.agg [sI dv.aba,sL Ty.av dv.abb,sI abc]:=rfl
def ed.gV(x:ed):x.av=.agg [sI x.dv.aba,sL Ty.av x.dv.abb,sI x.abc]:=by cases x;exact ed.fL _ _
@[simp] theorem ed.mq(x:ed):x.av.cells=[sI x.dv.aba,sL Ty.av x.dv.abb,sI x.abc]:=by rw[ed.gV];rfl
@[simp] theorem ed.tX(x:ed):fX x.av=true:=by rw[ed.gV];rfl
@[simp] theorem ed.qH(x:ed):x.av.norm=x.av:=by rw[ed.gV];rfl
@[simp] theorem ed.Zs(a:Int)(b:List Ty)(c:Int):AV.agg [sI a,sL Ty.av b,sI c]=ed.av (ed.mk (Ty.mk a b) c):=by rw[ed.fL]<;>rfl
@[simp] theorem ed.aaB(a b:Int):AV.agg [sI a,AV.slice .iN [],sI b]=ed.av (ed.mk (Ty.mk a []) b):=by rw[ed.fL]<;>rfl
def ew.av(x:ew):AV:=.agg [sI x.eg.aba,sI x.eg.dv.aba,sL Ty.av x.eg.dv.abb,sL Tm.av x.eg.ek,sL Fm.av x.eg.abb,sI x.vars]
def ew.fL(eg:Fm)(vars:Int):(ew.mk eg vars).av=.agg [sI eg.aba,sI eg.dv.aba,sL Ty.av eg.dv.abb,sL Tm.av eg.ek,sL Fm.av eg.abb,sI vars]:=rfl
def ew.gV(x:ew):x.av=.agg [sI x.eg.aba,sI x.eg.dv.aba,sL Ty.av x.eg.dv.abb,sL Tm.av x.eg.ek,sL Fm.av x.eg.abb,sI x.vars]:=by cases x;exact ew.fL _ _
@[simp] theorem ew.mq(x:ew):x.av.cells=[sI x.eg.aba,sI x.eg.dv.aba,sL Ty.av x.eg.dv.abb,sL Tm.av x.eg.ek,sL Fm.av x.eg.abb,sI x.vars]:=by rw[ew.gV];rfl
@[simp] theorem ew.tX(x:ew):fX x.av=true:=by rw[ew.gV];rfl
@[simp] theorem ew.qH(x:ew):x.av.norm=x.av:=by rw[ew.gV];rfl
@[simp] theorem ew.NT(a b:Int)(c:List Ty)(c3:List Tm)(d:List Fm)(c5:Int):AV.agg [sI a,sI b,sL Ty.av c,sL Tm.av c3,sL Fm.av d,sI c5]=ew.av (ew.mk (Fm.mk a (Ty.mk b c) c3 d) c5):=by rw[ew.fL]<;>rfl
def eh.av(x:eh):AV:=.agg [sI x.gk.vars,sI x.gk.abh,sL ed.av x.abe,sL ew.av x.known]
def eh.fL(gk:e_)(abe:List ed)(known:List ew):(eh.mk gk abe known).av=.agg [sI gk.vars,sI gk.abh,sL ed.av abe,sL ew.av known]:=rfl
def eh.gV(x:eh):x.av=.agg [sI x.gk.vars,sI x.gk.abh,sL ed.av x.abe,sL ew.av x.known]:=by cases x;exact eh.fL _ _ _
@[simp] theorem eh.mq(x:eh):x.av.cells=[sI x.gk.vars,sI x.gk.abh,sL ed.av x.abe,sL ew.av x.known]:=by rw[eh.gV];rfl
@[simp] theorem eh.tX(x:eh):fX x.av=true:=by rw[eh.gV];rfl
@[simp] theorem eh.qH(x:eh):x.av.norm=x.av:=by rw[eh.gV];rfl
@[simp] theorem eh.Uj(a b:Int)(c:List ed)(c3:List ew):AV.agg [sI a,sI b,sL ed.av c,sL ew.av c3]=eh.av (eh.mk (e_.mk a b) c c3):=by rw[eh.fL]<;>rfl
def ej.av(x:ej):AV:=.agg [sL Fm.av x.lemmas,sL Ty.av x.abe,sL Fm.av x.abh]
def ej.fL(lemmas:List Fm)(abe:List Ty)(abh:List Fm):(ej.mk lemmas abe abh).av=.agg [sL Fm.av lemmas,sL Ty.av abe,sL Fm.av abh]:=rfl
def ej.gV(x:ej):x.av=.agg [sL Fm.av x.lemmas,sL Ty.av x.abe,sL Fm.av x.abh]:=by cases x;exact ej.fL _ _ _
@[simp] theorem ej.mq(x:ej):x.av.cells=[sL Fm.av x.lemmas,sL Ty.av x.abe,sL Fm.av x.abh]:=by rw[ej.gV];rfl
@[simp] theorem ej.tX(x:ej):fX x.av=true:=by rw[ej.gV];rfl
@[simp] theorem ej.qH(x:ej):x.av.norm=x.av:=by rw[ej.gV];rfl
@[simp] theorem ej.NT(a:List Fm)(b:List Ty)(c:List Fm):AV.agg [sL Fm.av a,sL Ty.av b,sL Fm.av c]=ej.av (ej.mk a b c):=by rw[ej.fL]<;>rfl
def et.av(x:et):AV:=.agg [sI x.abc,sB x.iz]
def et.fL(abc:Int)(iz:Bool):(et.mk abc iz).av=.agg [sI abc,sB iz]:=rfl
def et.gV(x:et):x.av=.agg [sI x.abc,sB x.iz]:=by cases x;exact et.fL _ _
@[simp] theorem et.mq(x:et):x.av.cells=[sI x.abc,sB x.iz]:=by rw[et.gV];rfl
@[simp] theorem et.tX(x:et):fX x.av=true:=by rw[et.gV];rfl
@[simp] theorem et.agg(a:Int)(b:Bool):AV.agg [sI a,sB b]=et.av (et.mk a b):=by rw[et.fL]<;>rfl
def eP.av(x:eP):AV:=.agg [sI x.aba,sI x.base.aba,sI x.base.abd,sI x.base.dv.aba,sL Ty.av x.base.dv.abb,sL Tm.av x.base.abb,sL Ty.av x.vars,sI x.next.aba,sI x.next.abd,sI x.next.dv.aba,sL Ty.av x.next.dv.abb,sL Tm.av x.next.abb]
def eP.fL(aba:Int)(base:Tm)(vars:List Ty)(next:Tm):(eP.mk aba base vars next).av=.agg [sI aba,sI base.aba,sI base.abd,sI base.dv.aba,sL Ty.av base.dv.abb,sL Tm.av base.abb,sL Ty.av vars,sI next.aba,sI next.abd,sI next.dv.aba,sL Ty.av next.dv.abb,sL Tm.av next.abb]:=rfl
def eP.gV(x:eP):x.av=.agg [sI x.aba,sI x.base.aba,sI x.base.abd,sI x.base.dv.aba,sL Ty.av x.base.dv.abb,sL Tm.av x.base.abb,sL Ty.av x.vars,sI x.next.aba,sI x.next.abd,sI x.next.dv.aba,sL Ty.av x.next.dv.abb,sL Tm.av x.next.abb]:=by cases x;exact eP.fL _ _ _ _
@[simp] theorem eP.mq(x:eP):x.av.cells=[sI x.aba,sI x.base.aba,sI x.base.abd,sI x.base.dv.aba,sL Ty.av x.base.dv.abb,sL Tm.av x.base.abb,sL Ty.av x.vars,sI x.next.aba,sI x.next.abd,sI x.next.dv.aba,sL Ty.av x.next.dv.abb,sL Tm.av x.next.abb]:=by rw[eP.gV];rfl
@[simp] theorem eP.tX(x:eP):fX x.av=true:=by rw[eP.gV];rfl
def fx.av(x:fx):AV:=.agg [sI x.ek,sI x.fi,sI x.abb,sB x.abd,sB x.pF]
def fx.fL(ek fi abb:Int)(abd pF:Bool):(fx.mk ek fi abb abd pF).av=.agg [sI ek,sI fi,sI abb,sB abd,sB pF]:=rfl
def fx.gV(x:fx):x.av=.agg [sI x.ek,sI x.fi,sI x.abb,sB x.abd,sB x.pF]:=by cases x;exact fx.fL _ _ _ _ _
@[simp] theorem fx.mq(x:fx):x.av.cells=[sI x.ek,sI x.fi,sI x.abb,sB x.abd,sB x.pF]:=by rw[fx.gV];rfl
@[simp] theorem fx.tX(x:fx):fX x.av=true:=by rw[fx.gV];rfl
@[simp] theorem fx.qH(x:fx):x.av.norm=x.av:=by rw[fx.gV];rfl
@[simp] theorem fx.agg(a b c:Int)(c3 d:Bool):AV.agg [sI a,sI b,sI c,sB c3,sB d]=fx.av (fx.mk a b c c3 d):=by rw[fx.fL]<;>rfl
def fM.av(x:fM):AV:=.agg [sB x.abd,sB x.typed,sI x.ek,sI x.fi,sI x.abb,sI x.sd,sI x.vars,sI x.abh]
def fM.fL(abd typed:Bool)(ek fi abb sd vars abh:Int):(fM.mk abd typed ek fi abb sd vars abh).av=.agg [sB abd,sB typed,sI ek,sI fi,sI abb,sI sd,sI vars,sI abh]:=rfl
def fM.gV(x:fM):x.av=.agg [sB x.abd,sB x.typed,sI x.ek,sI x.fi,sI x.abb,sI x.sd,sI x.vars,sI x.abh]:=by cases x;exact fM.fL _ _ _ _ _ _ _ _
@[simp] theorem fM.mq(x:fM):x.av.cells=[sB x.abd,sB x.typed,sI x.ek,sI x.fi,sI x.abb,sI x.sd,sI x.vars,sI x.abh]:=by rw[fM.gV];rfl
@[simp] theorem fM.tX(x:fM):fX x.av=true:=by rw[fM.gV];rfl
@[simp] theorem fM.qH(x:fM):x.av.norm=x.av:=by rw[fM.gV];rfl
@[simp] theorem fM.agg(a b:Bool)(c c3 d c5 e f:Int):AV.agg [sB a,sB b,sI c,sI c3,sI d,sI c5,sI e,sI f]=fM.av (fM.mk a b c c3 d c5 e f):=by rw[fM.fL]<;>rfl
def HC.cells(k:Nat):HC->List AV
 |.gd x=>[m5 k x.term,sI x.steps]|.eS x=>[sI x.aba,sI x.abd,sI x.pF.aba,sL Ty.av x.pF.abb,AV.slice .iN (List.map (m5 k) x.abb),sI x.size,sI x.free,sB x.normal]
@[simp] theorem HC.Ms(k:Nat)(x:fV):HC.cells k (.gd x)=[m5 k x.term,sI x.steps]:=rfl
@[simp] theorem HC.N4(k:Nat)(x:eR):HC.cells k (.eS x)=[sI x.aba,sI x.abd,sI x.pF.aba,sL Ty.av x.pF.abb,AV.slice .iN (List.map (m5 k) x.abb),sI x.size,sI x.free,sB x.normal]:=rfl
abbrev iF(k:Nat)(l:List HC):eD:=vS HC.cells k l
end Go.hJ
namespace Go.Proofs.YtobcafblgapgfaaGreatDoor
open Go Go.mS Go.hJ Tryz
@[simp] theorem Sn:gz prog 3=some (false,1):=by kernel_rfl
@[simp] theorem Ug:lv prog 3=some [.sc (.int .i64 0)]:=by kernel_rfl
@[simp] theorem uc:prog.underlying 3=some (.int .i64):=by kernel_rfl
@[simp] theorem aaU:gz prog 4=some (false,1)/\lv prog 4=some [.sc (.bool false)]/\gz prog 22=some (false,1)/\gz prog 23=some (false,1)/\gz prog 24=some (false,1)/\gz prog 26=some (true,2)/\qY prog 26=some [.slice .full [],.slice .full []]/\lv prog 26=some [.slice .full [],.slice .full []]/\fC prog 26 0=some (0,24)/\hP prog 26 0=some (0,1):=by and_intros<;>kernel_rfl
@[simp] theorem PL:qG prog 22=some (3,1):=by kernel_rfl
@[simp] theorem Ym:prog.underlying 22=some (.slice 3):=by kernel_rfl
@[simp] theorem Cl:qG prog 23=some (46,5):=by kernel_rfl
@[simp] theorem XR:prog.underlying 23=some (.slice 46):=by kernel_rfl
@[simp] theorem BV:qG prog 24=some (28,2):=by kernel_rfl
@[simp] theorem YL:prog.underlying 24=some (.slice 28):=by kernel_rfl
@[simp] theorem XA:fC prog 26 1=some (1,23)/\hP prog 26 1=some (1,1)/\qY prog 28=some [.sc (.int .i64 0),.slice .full []]/\lv prog 28=some [.sc (.int .i64 0),.slice .full []]/\fC prog 28 0=some (0,3)/\hP prog 28 0=some (0,1)/\fC prog 28 1=some (1,24)/\hP prog 28 1=some (1,1)/\gz prog 29=some (false,1)/\gz prog 30=some (false,1):=by and_intros<;>kernel_rfl
@[simp] theorem UJ:gz prog 28=some (true,2):=by kernel_rfl
@[simp] theorem Ty.Xi(x:Ty):ss prog 28 x.av=true:=by rw[Ty.gV,uI,UJ];rfl
@[simp] theorem B1:qG prog 29=some (64,5):=by kernel_rfl
@[simp] theorem XE:qG prog 30=some (32,7):=by kernel_rfl
@[simp] theorem XK:gz prog 32=some (true,7):=by kernel_rfl
@[simp] theorem aaD:qY prog 32=some [.sc (.int .i64 0),.sc (.int .i64 0),.sc (.int .i64 0),.slice .full [],.slice .full [],.slice .full [],.slice .full []]/\lv prog 32=some [.sc (.int .i64 0),.sc (.int .i64 0),.sc (.int .i64 0),.slice .full [],.slice .full [],.slice .full [],.slice .full []]/\fC prog 32 0=some (0,3)/\hP prog 32 0=some (0,1)/\fC prog 32 1=some (1,3)/\hP prog 32 1=some (1,1)/\fC prog 32 2=some (2,28)/\hP prog 32 2=some (2,2)/\fC prog 32 3=some (4,29)/\hP prog 32 3=some (4,1):=by and_intros<;>kernel_rfl
@[simp] theorem Xx:fC prog 32 4=some (5,23)/\fC prog 32 5=some (6,30)/\gz prog 43=some (false,1)/\lv prog 43=some [.sc (.int .i64 0)]/\qY prog 46=some [.sc (.int .i64 0),.sc (.int .i64 0),.slice .full [],.slice .full [],.slice .full []]/\lv prog 46=some [.sc (.int .i64 0),.sc (.int .i64 0),.slice .full [],.slice .full [],.slice .full []]/\fC prog 46 0=some (0,3)/\hP prog 46 0=some (0,1)/\fC prog 46 1=some (1,28)/\hP prog 46 1=some (1,2):=by and_intros<;>kernel_rfl
@[simp] theorem Pf.Xt(x:Pf):ss prog 32 x.av=true:=by rw[Pf.gV,uI,XK];rfl
@[simp] theorem UK:gz prog 46=some (true,5):=by kernel_rfl
@[simp] theorem Xb:fC prog 46 2=some (3,29)/\hP prog 46 2=some (3,1)/\fC prog 46 3=some (4,23)/\hP prog 46 3=some (4,1)/\gz prog 48=some (true,6)/\qY prog 48=some [.sc (.int .i64 0),.sc (.int .i64 0),.slice .full [],.slice .full [],.slice .full [],.slice .full []]/\lv prog 48=some [.sc (.int .i64 0),.sc (.int .i64 0),.slice .full [],.slice .full [],.slice .full [],.slice .full []]/\fC prog 48 0=some (0,46)/\hP prog 48 0=some (0,5)/\fC prog 48 1=some (5,22):=by and_intros<;>kernel_rfl
@[simp] theorem Fm.Xf(x:Fm):ss prog 46 x.av=true:=by rw[Fm.gV,uI,UK];rfl
@[simp] theorem Xz:hP prog 48 1=some (5,1)/\qY prog 64=some [.sc (.int .i64 0),.sc (.int .i64 0),.sc (.int .i64 0),.slice .full [],.slice .full []]/\fC prog 64 0=some (0,3)/\hP prog 64 0=some (0,1)/\fC prog 64 1=some (1,3)/\hP prog 64 1=some (1,1)/\fC prog 64 2=some (2,28)/\hP prog 64 2=some (2,2)/\fC prog 64 3=some (4,29)/\hP prog 64 3=some (4,1):=by and_intros<;>kernel_rfl
@[simp] theorem Uu:gz prog 64=some (true,5):=by kernel_rfl
@[simp] theorem VE:lv prog 64=some [.sc (.int .i64 0),.sc (.int .i64 0),.sc (.int .i64 0),.slice .full [],.slice .full []]:=by kernel_rfl
@[simp] theorem Tm.Xp(x:Tm):ss prog 64 x.av=true:=by rw[Tm.gV,uI,Uu];rfl
@[simp] theorem aaJ:qY prog 99=some [.slice .full [],.sc (.int .i64 0)]/\fC prog 99 0=some (0,22)/\hP prog 99 0=some (0,1)/\fC prog 99 1=some (1,3)/\gz prog 113=some (false,1)/\qY prog 116=some [.slice .full [],.sc (.map none)]/\fC prog 116 0=some (0,23)/\hP prog 116 0=some (0,1)/\fC prog 116 1=some (1,113)/\hP prog 116 1=some (1,1):=by and_intros<;>kernel_rfl
@[simp] theorem ZW:gz prog 118=some (false,1)/\lv prog 118=some [.sc (.int .u32 0)]/\gz prog 120=some (true,6)/\qY prog 120=some [.sc (.int .i64 0),.sc (.int .i64 0),.slice .full [],.slice .full [],.slice .full [],.sc (.int .u32 0)]/\lv prog 120=some [.sc (.int .i64 0),.sc (.int .i64 0),.slice .full [],.slice .full [],.slice .full [],.sc (.int .u32 0)]/\fC prog 120 0=some (0,46)/\hP prog 120 0=some (0,5)/\fC prog 120 1=some (5,118)/\hP prog 120 1=some (5,1)/\gz prog 124=some (true,2):=by and_intros<;>kernel_rfl
@[simp] theorem V7:fC prog 124 0=some (0,3)/\fC prog 124 1=some (1,3)/\gz prog 126=some (false,1)/\gz prog 127=some (false,1)/\gz prog 129=some (true,4)/\qY prog 129=some [.sc (.int .i64 0),.sc (.int .i64 0),.slice .full [],.slice .full []]/\lv prog 129=some [.sc (.int .i64 0),.sc (.int .i64 0),.slice .full [],.slice .full []]/\fC prog 129 0=some (0,124)/\fC prog 129 1=some (2,126)/\hP prog 129 1=some (2,1):=by and_intros<;>kernel_rfl
@[simp] theorem RD:qG prog 126=some (191,3):=by kernel_rfl
@[simp] theorem VO:prog.underlying 126=some (.slice 191):=by kernel_rfl
@[simp] theorem Yl:qG prog 127=some (221,6):=by kernel_rfl
@[simp] theorem VB:prog.underlying 127=some (.slice 221):=by kernel_rfl
@[simp] theorem U3:fC prog 129 2=some (3,127)/\gz prog 134=some (true,3)/\qY prog 134=some [.slice .full [],.slice .full [],.slice .full []]/\lv prog 134=some [.slice .full [],.slice .full [],.slice .full []]/\fC prog 134 0=some (0,23)/\hP prog 134 0=some (0,1)/\fC prog 134 1=some (1,24)/\hP prog 134 1=some (1,1)/\fC prog 134 2=some (2,23)/\hP prog 134 2=some (2,1):=by and_intros<;>kernel_rfl
@[simp] theorem MD:prog.underlying 148=some (.map 3 4):=by kernel_rfl
@[simp] theorem Z1:gz prog 175=some (false,1)/\lv prog 175=some [.sc .nilFunc]/\qY prog 191=some [.sc (.int .i64 0),.slice .full [],.sc (.int .i64 0)]/\lv prog 191=some [.sc (.int .i64 0),.slice .full [],.sc (.int .i64 0)]/\fC prog 191 0=some (0,28)/\hP prog 191 0=some (0,2)/\fC prog 191 1=some (2,3)/\hP prog 191 1=some (2,1)/\qY prog 199=some [.sc (.int .i64 0),.sc (.bool false)]/\fC prog 199 0=some (0,3):=by and_intros<;>kernel_rfl
@[simp] theorem yO:gz prog 191=some (true,3):=by kernel_rfl
@[simp] theorem ed.Vr(x:ed):ss prog 191 x.av=true:=by rw[ed.gV,uI,yO];rfl
@[simp] theorem Wx:fC prog 199 1=some (1,4)/\gz prog 214=some (true,12)/\qY prog 214=some [.sc (.int .i64 0),.sc (.int .i64 0),.sc (.int .i64 0),.sc (.int .i64 0),.slice .full [],.slice .full [],.slice .full [],.sc (.int .i64 0),.sc (.int .i64 0),.sc (.int .i64 0),.slice .full [],.slice .full []]/\lv prog 214=some [.sc (.int .i64 0),.sc (.int .i64 0),.sc (.int .i64 0),.sc (.int .i64 0),.slice .full [],.slice .full [],.slice .full [],.sc (.int .i64 0),.sc (.int .i64 0),.sc (.int .i64 0),.slice .full [],.slice .full []]/\fC prog 214 0=some (0,3)/\hP prog 214 0=some (0,1)/\fC prog 214 1=some (1,64)/\hP prog 214 1=some (1,5)/\fC prog 214 2=some (6,24)/\hP prog 214 2=some (6,1):=by and_intros<;>kernel_rfl
@[simp] theorem V_:fC prog 214 3=some (7,64)/\hP prog 214 3=some (7,5)/\qY prog 221=some [.sc (.int .i64 0),.sc (.int .i64 0),.slice .full [],.slice .full [],.slice .full [],.sc (.int .i64 0)]/\lv prog 221=some [.sc (.int .i64 0),.sc (.int .i64 0),.slice .full [],.slice .full [],.slice .full [],.sc (.int .i64 0)]/\fC prog 221 0=some (0,46)/\hP prog 221 0=some (0,5)/\fC prog 221 1=some (5,3)/\hP prog 221 1=some (5,1)/\gz prog 225=some (true,5)/\qY prog 225=some [.sc (.int .i64 0),.sc (.int .i64 0),.sc (.int .i64 0),.sc (.bool false),.sc (.bool false)]:=by and_intros<;>kernel_rfl
@[simp] theorem Qo:gz prog 221=some (true,6):=by kernel_rfl
@[simp] theorem ew.WD(x:ew):ss prog 221 x.av=true:=by rw[ew.gV,uI,Qo];rfl
@[simp] theorem ZF:lv prog 225=some [.sc (.int .i64 0),.sc (.int .i64 0),.sc (.int .i64 0),.sc (.bool false),.sc (.bool false)]/\fC prog 225 0=some (0,3)/\hP prog 225 0=some (0,1)/\fC prog 225 1=some (1,3)/\hP prog 225 1=some (1,1)/\fC prog 225 2=some (2,3)/\hP prog 225 2=some (2,1)/\fC prog 225 3=some (3,4)/\hP prog 225 3=some (3,1)/\fC prog 225 4=some (4,4):=by and_intros<;>kernel_rfl
@[simp] theorem WM:hP prog 225 4=some (4,1)/\qY prog 238=some [.sc (.bool false),.sc (.bool false),.sc (.int .i64 0),.sc (.int .i64 0),.sc (.int .i64 0),.sc (.int .i64 0),.sc (.int .i64 0),.sc (.int .i64 0)]/\lv prog 238=some [.sc (.bool false),.sc (.bool false),.sc (.int .i64 0),.sc (.int .i64 0),.sc (.int .i64 0),.sc (.int .i64 0),.sc (.int .i64 0),.sc (.int .i64 0)]/\fC prog 238 0=some (0,4)/\fC prog 238 1=some (1,4)/\fC prog 238 2=some (2,3)/\fC prog 238 3=some (3,3)/\fC prog 238 4=some (4,3)/\gz prog 244=some (true,9)/\lv prog 244=some [.sc (.int .i64 0),.slice .full [],.sc (.int .i64 0),.sc (.int .i64 0),.slice .full [],.sc (.int .i64 0),.sc (.int .i64 0),.slice .full [],.sc (.int .i64 0)]:=by and_intros<;>kernel_rfl
@[simp] theorem RI:gz prog 238=some (true,8):=by kernel_rfl
@[simp] theorem fM.VA(x:fM):ss prog 238 x.av=true:=by rw[fM.gV,uI,RI];rfl
@[simp] theorem Dp:prog.underlying 244=some (.array 3 191):=by kernel_rfl
@[simp] theorem Yq(b g o:Nat):gN prog 244 (.eB b g o) (.sc (.int .i64 0))=some (.eB b g (o+0)):=by kernel_rfl
@[simp] theorem X3(b g o:Nat):gN prog 244 (.eB b g o) (.sc (.int .i64 1))=some (.eB b g (o+3)):=by kernel_rfl
@[simp] theorem X4(b g o:Nat):gN prog 244 (.eB b g o) (.sc (.int .i64 2))=some (.eB b g (o+6)):=by kernel_rfl
@[simp] theorem Z':gz prog 247=some (false,1)/\gz prog 262=some (false,1)/\lv prog 262=some [.sc .nilFunc]/\qY prog 269=some [.sc (.pointer none),.sc (.int .i64 0)]/\fC prog 269 0=some (0,266)/\hP prog 269 0=some (0,1)/\fC prog 269 1=some (1,3)/\gz prog 277=some (false,1)/\qY prog 283=some [.sc (.int .i64 0),.sc (.int .i64 0),.sc (.int .i64 0),.slice .full [],.slice .full [],.sc (.int .i64 0),.sc (.int .i64 0),.sc (.bool false)]/\fC prog 283 0=some (0,3):=by and_intros<;>kernel_rfl
@[simp] theorem W2:prog.underlying 258=some (.array 21 238):=by kernel_rfl
@[simp] theorem WW:gz prog 266=some (false,1):=by kernel_rfl
@[simp] theorem Tu:lv prog 266=some [.sc (.pointer none)]:=by kernel_rfl
@[simp] theorem Rz:prog.underlying 266=some (.pointer 283):=by kernel_rfl
@[simp] theorem aay(k:Nat)(x:Option Nat):n5 prog .eql 266 (m5 k x) (.sc (.pointer none))=some (.sc (.bool x.isNone)):=R8 Rz
@[simp] theorem aaj(k:Nat)(x:Option Nat):n5 prog .neq 266 (m5 k x) (.sc (.pointer none))=some (.sc (.bool x.isSome)):=RE Rz
@[simp] theorem N1:qG prog 277=some (266,1):=by kernel_rfl
@[simp] theorem Ve:hP prog 283 0=some (0,1)/\fC prog 283 1=some (1,3)/\hP prog 283 1=some (1,1)/\fC prog 283 2=some (2,28)/\hP prog 283 2=some (2,2)/\fC prog 283 3=some (4,277)/\hP prog 283 3=some (4,1)/\fC prog 283 4=some (5,3)/\hP prog 283 4=some (5,1)/\fC prog 283 5=some (6,3):=by and_intros<;>kernel_rfl
@[simp] theorem Wd:fC prog 283 6=some (7,4):=by kernel_rfl
@[simp] theorem aaH:gz prog 284=some (false,1):=by kernel_rfl
@[simp] theorem Vw:prog.underlying 287=some (.array 14 3):=by kernel_rfl
@[simp] theorem aaF(tag:Tag)(l:List Int)(a:Int):qe prog 22 (.slice tag (List.map sI l)) (some (.sc (.int .i64 a))) none none=(Bl l a (eM l)).map λr=>.slice .iN (List.map sI r):=LZ _ l Ym Sn (λx=>by simp)
@[simp] theorem ZI(tag:Tag)(l:List Fm):qe prog 23 (.slice tag (List.map Fm.av l)) none (some (.sc (.int .i64 (eM l)))) (some (.sc (.int .i64 (eM l))))=some (.slice .full (List.map Fm.av l)):=xS _ l XR UK (λx=>by simp)
@[simp] theorem ZJ(tag:Tag)(l:List Ty):qe prog 24 (.slice tag (List.map Ty.av l)) none (some (.sc (.int .i64 (eM l)))) (some (.sc (.int .i64 (eM l))))=some (.slice .full (List.map Ty.av l)):=xS _ l YL UJ (λx=>by simp)
@[simp] theorem YF(tag:Tag)(l:List ed):qe prog 126 (.slice tag (List.map ed.av l)) none (some (.sc (.int .i64 (eM l)))) (some (.sc (.int .i64 (eM l))))=some (.slice .full (List.map ed.av l)):=xS _ l VO yO (λx=>by simp)
@[simp] theorem XU(tag:Tag)(l:List ew):qe prog 127 (.slice tag (List.map ew.av l)) none (some (.sc (.int .i64 (eM l)))) (some (.sc (.int .i64 (eM l))))=some (.slice .full (List.map ew.av l)):=xS _ l VB Qo (λx=>by simp)
def fM.cs(x:fM):List AV:=x.av.cells
@[simp] theorem aaV(a:Int):gN prog 258 (.na (.agg (List.flatMap (λx=>fM.cs x) oM))) (.sc (.int .i64 a))=(eI oM a).map λx=>.na x.av:=EJ W2 RI (λx=>rfl) (λx=>⟨_,fM.gV x⟩) (λx=>by simp) rfl
@[simp] theorem aaZ(a:Int):gN prog 287 (.na (.agg (List.map (λn=>AV.sc (Value.int .i64 n)) qI))) (.sc (.int .i64 a))=(eI qI a).map λx=>.na (.sc (.int .i64 x)):=FM Vw Sn rfl
@[simp] theorem lD:prog.underlying 113=some (.map 3 172):=by kernel_rfl
def St:L9 prog 172=some (.sc .nilFunc):=by kernel_rfl
def MJ:List Value:=[.int .i64 1,.int .i64 2,.int .i64 3,.int .i64 4,.int .i64 5,.int .i64 6,.int .i64 7,.int .i64 8,.int .i64 12,.int .i64 9,.int .i64 13,.int .i64 10,.int .i64 14,.int .i64 11,.int .i64 15,.int .i64 16,.int .i64 17,.int .i64 18,.int .i64 19,.int .i64 20]
def ME:List AV:=[.func (.func 139) [] [],.func (.func 140) [] [],.func (.func 141) [] [],.func (.func 142) [] [],.func (.func 142) [] [],.func (.func 143) [] [],.func (.func 144) [] [],.func (.func 145) [] [],.func (.func 145) [] [],.func (.func 146) [] [],.func (.func 146) [] [],.func (.func 147) [] [],.func (.func 147) [] [],.func (.func 148) [] [],.func (.func 148) [] [],.func (.func 149) [] [],.func (.func 149) [] [],.func (.func 150) [] [],.func (.func 151) [] [],.func (.func 152) [] []]
def Jv:AV:=.tz MJ ME
def JN(k:Int):AV:=match mapIdx MJ (.int .i64 k)with|some j=>ME.getD j .undef|none=>.sc .nilFunc
abbrev KC(H:eD)(o:Nat)(l:List Fm):Prop:=H[o]?=some [sL Fm.av l,AV.nZ (o-1)]/\H[o-1]?=some [Jv]
def NO{H:eD}{o:Nat}{k:Int}(h:H[o]?=some [Jv]):uy prog H 113 (AV.nZ o) (sI k) false=some (JN k):=OP lD uc St h (by decide+kernel) (by decide+kernel)
def ju{k key:Int}{x:AV}(h:eH k key=true)(a:JN key=x):JN k=x:=by rw[P_ h];exact a
def oz{T:fg}{g:Nat}{xs:List AV}{H H':eD}{r:AV}(h:e9 prog T g xs H r H'):qj prog T (.func (.func g) [] []) xs H r H':=by
 unfold qj rb;simp only[oh,Ah];exact h
abbrev qy(T:fg):Prop:=T 2=some (AV.agg (List.map (λn=>AV.sc (Value.int .i64 n)) qI))/\T 1=some (AV.agg (List.flatMap (λx=>fM.cs x) oM))/\T 0=some (AV.agg (List.map (λn=>AV.sc (Value.int .u8 n)) lZ))
def BH{S:Type}(T:fg)(g:Nat)(cap:List AV)(st:S->eD)(w:(S->Tm->Int->Option (Tm×S))):Prop:=
 ∀(X:eD) (s:S) (a:Tm) (b:Int) (c:Tm) (d:S),w s a b=some (c,d)->e9 prog T g ([Tm.av a,sI b]++cap) (st s++X) (Tm.av c) (st d++X)
def BH.U9{S:Type}{T:fg}{g:Nat}{cap:List AV}{st:S->eD}{w:(S->Tm->Int->Option (Tm×S))}(h:BH T g cap st w){s:S}{a:Tm}{b:Int}{c:Tm}{d:S}(hw:w s a b=some (c,d)):e9 prog T g ([Tm.av a,sI b]++cap) (st s) (Tm.av c) (st d):=by
 have:=h [] s a b c d hw
 rwa [Ah,Ah] at this
def td{S:Type}(T:fg)(g:Nat)(cap:List AV)(st:S->eD)(w:(S->Int->Int->Option (S))):Prop:=
 ∀(X:eD) (s:S) (a:Int) (b:Int) (c:S),w s a b=some c->e9 prog T g ([sI a,sI b]++cap) (st s++X) (AV.tuple []) (st c++X)
def td.ext{S:Type}{T:fg}{g:Nat}{cap:List AV}{st:S->eD}{w:(S->Int->Int->Option (S))}(h:td T g cap st w){Y:eD}:td T g cap (λs=>st s++Y) w:=λX s a b c hw=>by
 have:=h (Y++X) s a b c hw
 rwa [<-ux,<-ux] at this
def td.U9{S:Type}{T:fg}{g:Nat}{cap:List AV}{st:S->eD}{w:(S->Int->Int->Option (S))}(h:td T g cap st w){s:S}{a b:Int}{c:S}(hw:w s a b=some c):e9 prog T g ([sI a,sI b]++cap) (st s) (AV.tuple []) (st c):=by
 have:=h [] s a b c hw
 rwa [Ah,Ah] at this
def Cc{S:Type}(T:fg)(g:Nat)(cap:List AV)(st:S->eD)(w:(S->Tm->Int->Option (S))):Prop:=
 ∀(X:eD) (s:S) (a:Tm) (b:Int) (c:S),w s a b=some c->e9 prog T g ([Tm.av a,sI b]++cap) (st s++X) (AV.tuple []) (st c++X)
def Cc.U9{S:Type}{T:fg}{g:Nat}{cap:List AV}{st:S->eD}{w:(S->Tm->Int->Option (S))}(h:Cc T g cap st w){s:S}{a:Tm}{b:Int}{c:S}(hw:w s a b=some c):e9 prog T g ([Tm.av a,sI b]++cap) (st s) (AV.tuple []) (st c):=by
 have:=h [] s a b c hw
 rwa [Ah,Ah] at this
def th{S:Type}(T:fg)(g:Nat)(cap:List AV)(st:S->eD)(w:(S->Int->Int->Option (Tm×S))):Prop:=
 ∀(X:eD) (s:S) (a:Int) (b:Int) (c:Tm) (d:S),w s a b=some (c,d)->e9 prog T g ([sI a,sI b]++cap) (st s++X) (Tm.av c) (st d++X)
def th.ext{S:Type}{T:fg}{g:Nat}{cap:List AV}{st:S->eD}{w:(S->Int->Int->Option (Tm×S))}(h:th T g cap st w){Y:eD}:th T g cap (λs=>st s++Y) w:=λX s a b c d hw=>by
 have:=h (Y++X) s a b c d hw
 rwa [<-ux,<-ux] at this
def th.U9{S:Type}{T:fg}{g:Nat}{cap:List AV}{st:S->eD}{w:(S->Int->Int->Option (Tm×S))}(h:th T g cap st w){s:S}{a b:Int}{c:Tm}{d:S}(hw:w s a b=some (c,d)):e9 prog T g ([sI a,sI b]++cap) (st s) (Tm.av c) (st d):=by
 have:=h [] s a b c d hw
 rwa [Ah,Ah] at this
end Go.Proofs.YtobcafblgapgfaaGreatDoor
set_option maxRecDepth 20000
set_option maxHeartbeats 4000000
namespace Go.Proofs.YtobcafblgapgfaaGreatDoor
open Go Go.mS Go.hJ Tryz
def hV:C0 prog 48 iE Ty.av:=by
 intro T H r hm;rw[iE] at hm;have e:=trivial;refine wi abf func48 [] [] 999 ?_;cases hm;simp[e]
def gr:C1 prog 52 fW Tm.av sI:=by
 intro T H a0 r hm;rw[fW] at hm;have e:=trivial;refine wi abf func52 [] [] 999 ?_;cases hm;simp[e]
def HD:∀(n:Nat),C1 prog 98 (iJ n) Ty.av Ty.av:=by
  intro n
  induction n with
  |zero=>
   skip
   all_goals(intro _ _;intros;rename_i hm;cases hm)
  |succ n l=>
 intro T H a0 r hm;rw[iJ] at hm;have e:=trivial;refine wi abf func98 [] [] 999 ?_;simp[e];refine Wr e hm 999 (λk s2 f h=>∃(a:Tag) (b:Nat) (c:Nat),(h=H/\f.1 1=AV.eB 1 b 0/\f.1 2=AV.eB 2 c 0/\f.1 3=sT a Ty.av s2/\f.1 7=sL Ty.av a0.abb/\f.1 8=sI (eM a0.abb)/\f.1 9=sI k/\f.gen 1=b/\f.box 1=some [sI a0.aba,sL Ty.av a0.abb]/\f.gen 2=c/\f.box 2=some [sI 0,AV.slice .full []])/\Ow f [17] a s2) (by exact⟨.full,1,1,by simp[e],iM.full⟩) (λs2 g o p E m=>?_) (λk s s2 g o p n6 t E e m q i=>?_)
 ·have⟨a,b,c,E,d⟩:=E;have e:=Aj e E;dsimp only[en]at m;cases m;simp[e]
 have⟨a,b,c,E,d⟩:=E;have e:=Aj e E;have⟨j,e,m⟩:=ep e m;simp[e];refine Cf (l e.2) ?_;have⟨e,m⟩:=Ck e m;simp[e];refine Ao (f:=Ty.av) s2 [j] d BV e.2 ?_;simp[e];cases m;exact i _ _ _ ⟨(.loc 17 (g.fN 17+1)),b,c,by simp[e],(On 17)⟩ q
def jG{n:Nat}:C1 prog 98 (iJ n) Ty.av Ty.av:=(HD n)
def Ia:∀(n:Nat),C1 prog 104 (jA n) Tm.av Tm.av:=by
  intro n
  induction n with
  |zero=>
   skip
   all_goals(intro _ _;intros;rename_i hm;cases hm)
  |succ n l=>
 intro T H a0 r hm;rw[jA] at hm;have e:=trivial;refine wi abf func104 [] [] 999 ?_;simp[e];refine Wr e hm 999 (λk s2 f h=>∃(a:Tag) (b:Nat) (c:Nat),(h=H/\f.1 1=AV.eB 1 b 0/\f.1 2=AV.eB 2 c 0/\f.1 3=sT a Tm.av s2/\f.1 7=sL Tm.av a0.abb/\f.1 8=sI (eM a0.abb)/\f.1 9=sI k/\f.gen 1=b/\f.box 1=some [sI a0.aba,sI a0.abd,sI a0.dv.aba,sL Ty.av a0.dv.abb,sL Tm.av a0.abb]/\f.gen 2=c/\f.box 2=some [sI 0,sI 0,sI 0,AV.slice .full [],AV.slice .full []])/\Ow f [17] a s2) (by exact⟨.full,1,1,by simp[e],iM.full⟩) (λs2 g o p E m=>?_) (λk t s2 g o p n6 u E e m q i=>?_)
 ·have⟨a,b,c,E,d⟩:=E;have e:=Aj e E;dsimp only[en]at m;have⟨s,e,m⟩:=ep e m;simp[e];refine Cs (jG e.2) ?_;cases m;simp[e]
 have⟨a,b,c,E,d⟩:=E;have e:=Aj e E;have⟨j,e,m⟩:=ep e m;simp[e];refine Cf (l e.2) ?_;have⟨e,m⟩:=Ck e m;simp[e];refine Ao (f:=Tm.av) s2 [j] d B1 e.2 ?_;simp[e];cases m;exact i _ _ _ ⟨(.loc 17 (g.fN 17+1)),b,c,by simp[e],(On 17)⟩ q
def mx{n:Nat}:C1 prog 104 (jA n) Tm.av Tm.av:=(Ia n)
def lz:C1 prog 53 kF Pf.av Tm.av:=by
 intro T H a0 r hm;rw[kF] at hm;have e:=trivial;refine wi abf func53 [] [] 999 ?_;have⟨a,e,m⟩:=ep e hm;simp[e];refine Cf (mx e.2) ?_;have e:=Aj e (show AV.agg [sI 18,sI 0,sI 0,AV.slice .iN [],AV.slice .iN [Tm.av a],AV.slice .iN [],AV.slice .iN []]=Pf.av (Pf.mk 18 0 (Ty.mk 0 []) [a] [] []) by rw[Pf.fL];rfl);have e:=Aj e (show AV.agg [sI 18,sI 0,sI 0,AV.slice .iN [],AV.slice .iN [Tm.av a],AV.slice .iN [],AV.slice .iN []]=Pf.av (Pf.mk 18 0 (Ty.mk 0 []) [a] [] []) by rw[Pf.fL];rfl);cases m;simp[e]
def Ic:∀(n:Nat),C1 prog 87 (je n) Fm.av Fm.av:=by
  intro n
  induction n with
  |zero=>
   skip
   all_goals(intro _ _;intros;rename_i hm;cases hm)
  |succ n G=>
 intro T H a0 r hm;rw[je] at hm;have e:=trivial;refine wi abf func87 [] [] 999 ?_;have⟨y,e,m⟩:=ep e hm;simp[e];refine Cs (jG e.2) ?_;simp[e];refine Wr e m 999 (λF t f h=>∃(c:Tag) (k:Nat) (i:Nat) (j:Nat),(h=H/\f.1 1=AV.eB 1 k 0/\f.1 2=AV.eB 2 i 0/\f.1 3=AV.eB 3 j 0/\f.1 15=sL Tm.av a0.ek/\f.1 16=sI (eM a0.ek)/\f.1 17=sI F/\f.gen 1=k/\f.box 1=some [sI a0.aba,sI a0.dv.aba,sL Ty.av a0.dv.abb,sL Tm.av a0.ek,sL Fm.av a0.abb]/\f.gen 2=i/\f.box 2=some [sI 0,sI 0,AV.slice .full [],AV.slice .full [],AV.slice .full []]/\f.gen 3=j/\f.box 3=some [sI a0.aba,sI y.aba,sL Ty.av y.abb,sT c Tm.av t,AV.slice .full []])/\Ow f [26] c t) (by exact⟨.full,1,1,1,by simp[e],iM.full⟩) (λt u I J E m=>?_) (λF N t u I J O P E e m z9 v=>?_);rotate_left
 ·have⟨c,k,i,j,E,o⟩:=E;have e:=Aj e E;have⟨z,e,m⟩:=ep e m;simp[e];refine Cs (mx e.2) ?_;have⟨e,m⟩:=Ck e m;simp[e];refine Ad (f:=Tm.av) t [z] o B1 e.2 ?_;simp[e];cases m;exact v _ _ _ ⟨(.loc 26 (u.fN 26+1)),k,i,j,by simp[e],(On 26)⟩ z9
 have⟨c,k,i,j,E,o⟩:=E;have e:=Aj e E;dsimp only[en]at m;simp[e];refine Wr e m 999 (λw p f h=>∃(a:Tag) (b:Tag) (d:Nat) (g:Nat),(h=H/\f.1 2=AV.eB 2 d 0/\f.1 3=AV.eB 3 g 0/\f.1 30=sL Fm.av a0.abb/\f.1 31=sI (eM a0.abb)/\f.1 32=sI w/\f.gen 2=d/\f.box 2=some [sI 0,sI 0,AV.slice .full [],AV.slice .full [],AV.slice .full []]/\f.gen 3=g/\f.box 3=some [sI a0.aba,sI y.aba,sL Ty.av y.abb,sT a Tm.av t,sT b Fm.av p])/\Ow f [26] a t/\Ow f [41] b p) (by exact⟨c,.full,i,j,by simp[e],o,iM.full⟩) (λp s A B E m=>?_) (λw K p s A B L M E e m C x=>?_)
 ·have⟨a,b,d,g,E,q,l⟩:=E;have e:=Aj e E;dsimp only[en]at m;cases m;simp[e]
 have⟨a,b,d,g,E,q,l⟩:=E;have e:=Aj e E;have⟨D,e,m⟩:=ep e m;simp[e];refine Cs (G e.2) ?_;have⟨e,m⟩:=Ck e m;simp[e];refine Ad (f:=Fm.av) p [D] l Cl e.2 ?_;simp[e];cases m;exact x _ _ _ ⟨a,(.loc 41 (s.fN 41+1)),d,g,by simp[e],(iM.other q l (by decide) (by decide)),(On 41)⟩ C
def kO{n:Nat}:C1 prog 87 (je n) Fm.av Fm.av:=(Ic n)
def Hn:∀(n:Nat),C1 prog 75 (qt n) Pf.av Pf.av:=by
  intro n
  induction n with
  |zero=>
   skip
   all_goals(intro _ _;intros;rename_i hm;cases hm)
  |succ n Z=>
 intro T H a0 r hm;rw[qt] at hm;have e:=trivial;refine wi abf func75 [] [] 999 ?_;have⟨G,e,m⟩:=ep e hm;simp[e];refine Cs (jG e.2) ?_;simp[e];refine Wr e m 999 (λY C f h=>∃(k:Tag) (q:Nat) (s:Nat) (t:Nat),(h=H/\f.1 1=AV.eB 1 q 0/\f.1 2=AV.eB 2 s 0/\f.1 3=AV.eB 3 t 0/\f.1 19=sL Tm.av a0.ek/\f.1 20=sI (eM a0.ek)/\f.1 21=sI Y/\f.gen 1=q/\f.box 1=some [sI a0.aba,sI a0.abd,sI a0.dv.aba,sL Ty.av a0.dv.abb,sL Tm.av a0.ek,sL Fm.av a0.fi,sL Pf.av a0.abb]/\f.gen 2=s/\f.box 2=some [sI 0,sI 0,sI 0,AV.slice .full [],AV.slice .full [],AV.slice .full [],AV.slice .full []]/\f.gen 3=t/\f.box 3=some [sI a0.aba,sI a0.abd,sI G.aba,sL Ty.av G.abb,sT k Tm.av C,AV.slice .full [],AV.slice .full []])/\Ow f [30] k C) (by exact⟨.full,1,1,1,by simp[e],iM.full⟩) (λC I h4 K5 E m=>?_) (λY x6 C I h4 K5 n7 c8 E e m z9 J=>?_);rotate_left
 ·have⟨k,q,s,t,E,y⟩:=E;have e:=Aj e E;have⟨O,e,m⟩:=ep e m;simp[e];refine Cs (mx e.2) ?_;have⟨e,m⟩:=Ck e m;simp[e];refine Ad (f:=Tm.av) C [O] y B1 e.2 ?_;simp[e];cases m;exact J _ _ _ ⟨(.loc 30 (I.fN 30+1)),q,s,t,by simp[e],(On 30)⟩ z9
 have⟨k,q,s,t,E,y⟩:=E;have e:=Aj e E;dsimp only[en]at m;simp[e];refine Wr e m 999 (λK w f h=>∃(a:Tag) (b:Tag) (l:Nat) (g:Nat) (i:Nat),(h=H/\f.1 1=AV.eB 1 l 0/\f.1 2=AV.eB 2 g 0/\f.1 3=AV.eB 3 i 0/\f.1 34=sL Fm.av a0.fi/\f.1 35=sI (eM a0.fi)/\f.1 36=sI K/\f.gen 1=l/\f.box 1=some [sI a0.aba,sI a0.abd,sI a0.dv.aba,sL Ty.av a0.dv.abb,sL Tm.av a0.ek,sL Fm.av a0.fi,sL Pf.av a0.abb]/\f.gen 2=g/\f.box 2=some [sI 0,sI 0,sI 0,AV.slice .full [],AV.slice .full [],AV.slice .full [],AV.slice .full []]/\f.gen 3=i/\f.box 3=some [sI a0.aba,sI a0.abd,sI G.aba,sL Ty.av G.abb,sT a Tm.av C,sT b Fm.av w,AV.slice .full []])/\Ow f [30] a C/\Ow f [45] b w) (by exact⟨k,.full,q,s,t,by simp[e],y,iM.full⟩) (λw D P Q E m=>?_) (λK aa w D P Q ab ad E e m R L=>?_);rotate_left
 ·have⟨a,b,l,g,i,E,x,u⟩:=E;have e:=Aj e E;have⟨S,e,m⟩:=ep e m;simp[e];refine Cs (kO e.2) ?_;have⟨e,m⟩:=Ck e m;simp[e];refine Ad (f:=Fm.av) w [S] u Cl e.2 ?_;simp[e];cases m;exact L _ _ _ ⟨a,(.loc 45 (D.fN 45+1)),l,g,i,by simp[e],(iM.other x u (by decide) (by decide)),(On 45)⟩ R
 have⟨a,b,l,g,i,E,x,u⟩:=E;have e:=Aj e E;dsimp only[en]at m;simp[e];refine Wr e m 999 (λM z f h=>∃(c:Tag) (d:Tag) (j:Tag) (o:Nat) (p:Nat),(h=H/\f.1 2=AV.eB 2 o 0/\f.1 3=AV.eB 3 p 0/\f.1 49=sL Pf.av a0.abb/\f.1 50=sI (eM a0.abb)/\f.1 51=sI M/\f.gen 2=o/\f.box 2=some [sI 0,sI 0,sI 0,AV.slice .full [],AV.slice .full [],AV.slice .full [],AV.slice .full []]/\f.gen 3=p/\f.box 3=some [sI a0.aba,sI a0.abd,sI G.aba,sL Ty.av G.abb,sT c Tm.av C,sT d Fm.av w,sT j Pf.av z])/\Ow f [30] c C/\Ow f [45] d w/\Ow f [60] j z) (by exact⟨a,b,.full,g,i,by simp[e],x,u,iM.full⟩) (λz F U V E m=>?_) (λM ae z F U V af ah E e m W N=>?_)
 ·have⟨c,d,j,o,p,E,A,B,v⟩:=E;have e:=Aj e E;dsimp only[en]at m;cases m;simp[e]
 have⟨c,d,j,o,p,E,A,B,v⟩:=E;have e:=Aj e E;have⟨X,e,m⟩:=ep e m;simp[e];refine Cs (Z e.2) ?_;have⟨e,m⟩:=Ck e m;simp[e];refine Ad (f:=Pf.av) z [X] v XE e.2 ?_;simp[e];cases m;exact N _ _ _ ⟨c,d,(.loc 60 (F.fN 60+1)),o,p,by simp[e],(iM.other A v (by decide) (by decide)),(iM.other B v (by decide) (by decide)),(On 60)⟩ W
def CD{n:Nat}:C1 prog 75 (qt n) Pf.av Pf.av:=(Hn n)
def ov:C2 prog 56 m9 Pf.av sI (sL Pf.av):=by
 intro T H a0 a1 r hm;rw[m9] at hm;have e:=trivial;refine wi abf func56 [] [] 999 ?_;simp[e];refine Wr e hm 999 (λk s2 f h=>∃(a:Tag) (b:Nat) (c:Nat),(h=H/\f.1 4=AV.eB 4 b 0/\f.1 5=AV.eB 5 c 0/\f.1 10=sL Pf.av a1/\f.1 11=sI (eM a1)/\f.1 12=sI k/\f.gen 4=b/\f.box 4=some [sI 0,sI 0,sI 0,AV.slice .full [],AV.slice .full [],AV.slice .full [],AV.slice .full []]/\f.gen 5=c/\f.box 5=some [sI a0,sI 0,sI 0,AV.slice .full [],AV.slice .full [],AV.slice .full [],sT a Pf.av s2])/\Ow f [21] a s2) (by exact⟨.full,1,1,by simp[e],iM.full⟩) (λs2 g l n E m=>?_) (λk p s2 g l n n6 q E e m o i=>?_)
 ·have⟨a,b,c,E,d⟩:=E;have e:=Aj e E;dsimp only[en]at m;cases m;simp[e]
 have⟨a,b,c,E,d⟩:=E;have e:=Aj e E;have⟨j,e,m⟩:=ep e m;simp[e];refine Cs (CD e.2) ?_;have⟨e,m⟩:=Ck e m;simp[e];refine Ad (f:=Pf.av) s2 [j] d XE e.2 ?_;simp[e];cases m;exact i _ _ _ ⟨(.loc 21 (g.fN 21+1)),b,c,by simp[e],(On 21)⟩ o
def mB:C3 prog 34 k6 Pf.av sI Ty.av Pf.av:=by
 intro T H a0 a1 a2 r hm;rw[k6] at hm;have e:=trivial;refine wi abf func34 [] [] 999 ?_;have⟨a,e,m⟩:=ep e hm;simp[e];refine Cf (ov e.2) ?_;have⟨b,e,m⟩:=ep e m;simp[e];refine Cf (jG e.2) ?_;cases m;simp[e]
def BP:∀(n:Nat),C1 prog 236 (lH n) (t2 sI sB) Ty.av:=by
  intro n
  induction n with
  |zero=>
    skip
    all_goals(intro _ _;intros;rename_i hm;cases hm)
  |succ n u=>
 intro T H a0 r hm;rw[lH] at hm;have e:=trivial;refine wi abf func236 [] [] 4 ?_;simp[e];refine Wj hm 3 999 (λp f h=>∃(v2:Int) (c:Nat),(h=H/\f.1 1=AV.eB 1 c 0/\f.1 4=sI v2/\f.gen 1=c/\f.box 1=some [sI a0.aba,sL Ty.av a0.abb])/\p v2=some r) (λp J i m=>?_) ?_;rotate_left
 ·rintro v K ⟨v2,c,E,m⟩;have e:=Aj e E;rcases Io e m with⟨e,m⟩|⟨e,m⟩
  ·cases m;simp[e]
  simp[e];refine Wr e m 999 (λq l f h=>h=H/\f.1 5=sI l/\f.1 25=sL Ty.av a0.abb/\f.1 26=sI (eM a0.abb)/\f.1 27=sI q) (by simp[e]) (λl o w x E m=>?_) (λq y l o w x z A E e m j k=>?_)
  ·have e:=Aj e E;dsimp only[en]at m;cases m;simp[e]
  have e:=Aj e E;have⟨B,C,e,m⟩:=gq e m;simp[e];refine Cf (u e.2) ?_;rcases Io e m with⟨e,m⟩|⟨e,m⟩;rotate_left
  ·cases m;cases j;simp[e]
  simp[e];cases m;exact k _ _ _ (by simp[e]) j
 simp[e];refine wj 999 0 (λf h=>∃(a:Nat),h=H/\f.1 1=AV.eB 1 a 0/\f.1 4=sI 0/\f.1 11=sI a0.aba/\f.1 12=sB (fU (eH a0.aba 1) true (fU (eH a0.aba 2) true (eH a0.aba 5)))/\f.gen 1=a/\f.box 1=some [sI a0.aba,sL Ty.av a0.abb]) (λD d=>?_) ?_
 ·rcases Pb (eH a0.aba 1) e with e|e
  ·simp[e];exact d _ _ ⟨1,by simp[e]⟩
  rcases Pb (eH a0.aba 2) e with e|e
  ·simp[e];exact d _ _ ⟨1,by simp[e]⟩
  simp[e];exact d _ _ ⟨1,by simp[e]⟩
 rintro s F ⟨a,E⟩;have e:=Aj e E;rcases Io e m with⟨e,m⟩|⟨e,m⟩
 ·apply wg 999;simp[e];exact i _ _ ⟨0,a,by simp[e],m⟩
 apply wg 1;simp[e];refine wj 999 999 (λf h=>∃(b:Nat),h=H/\f.1 1=AV.eB 1 b 0/\f.1 16=sB (fU (eH a0.aba 3) true (eH a0.aba 4))/\f.gen 1=b/\f.box 1=some [sI a0.aba,sL Ty.av a0.abb]) (λG g=>?_) ?_
 ·rcases Pb (eH a0.aba 3) e with e|e
  ·simp[e];exact g _ _ ⟨a,by simp[e]⟩
  simp[e];exact g _ _ ⟨a,by simp[e]⟩
 rintro t I ⟨b,E⟩;have e:=Aj e E;rcases Io e m with⟨e,m⟩|⟨e,m⟩;rotate_left
 ·cases m;simp[e]
 simp[e];exact i _ _ ⟨2,b,by simp[e],m⟩
def Db{n:Nat}:C1 prog 236 (lH n) (t2 sI sB) Ty.av:=(BP n)
def og:C1 prog 186 jy (t2 sI sI) Ty.av:=by
 intro T H a0 r hm;rw[jy] at hm;have e:=trivial;refine wi abf func186 [] [] 999 ?_;have⟨a,b,e,m⟩:=gq e hm;simp[e];refine Cf (Db e.2) ?_;rcases Io e m with⟨e,m⟩|⟨e,m⟩;rotate_left
 ·cases m;simp[e]
 rcases Io e m with⟨e,m⟩|⟨e,m⟩
 ·cases m;simp[e]
 cases m;simp[e]
def AH:C1 prog 136 mE sI Ty.av:=by
 intro T H a0 r hm;rw[mE] at hm;have e:=trivial;refine wi abf func136 [] [] 999 ?_;have⟨a,b,e,m⟩:=gq e hm;simp[e];refine Cf (og e.2) ?_;cases m;simp[e]
def yf:C1 prog 77 nQ sI (sL Ty.av):=by
 intro T H a0 r hm;rw[nQ] at hm;have e:=trivial;refine wi abf func77 [] [] 999 ?_;rcases Io e hm with⟨e,m⟩|⟨e,m⟩
 ·cases m;simp[e]
 simp[e];refine Wr e m 999 (λc s2 f h=>h=H/\f.1 9=sL Ty.av a0/\f.1 10=sI (eM a0)/\f.1 11=sI c) (by simp[e]) (λs2 a g i E m=>?_) (λc k s2 a g i n6 l E e m d b=>?_)
 ·have e:=Aj e E;dsimp only[en]at m;cases m;simp[e]
 have e:=Aj e E;have⟨j,e,m⟩:=ep e m;simp[e];refine Cf (AH e.2) ?_;rcases Io e m with⟨e,m⟩|⟨e,m⟩
 ·cases m;cases d;simp[e]
 simp[e];cases m;exact b _ _ _ (by simp[e]) d
def wb:C1 prog 238 oK sB Ty.av:=by
 intro T H a0 r hm;rw[oK] at hm;have e:=trivial;refine wi abf func238 [] [] 2 ?_;simp[e];refine wj 999 999 (λf h=>h=H/\f.1 2=sB (fU (eH a0.aba 0) (eH (eM a0.abb) 0) false)) (λc a=>?_) ?_;rotate_left
 ·rintro b d E;have e:=Aj e E;cases hm;simp[e]
 rcases Pb (eH a0.aba 0) e with e|e
 ·simp[e];exact a _ _ (by simp[e])
 simp[e];exact a _ _ (by simp[e])
def Hv:C1 prog 269 rO sB Fm.av:=by
 intro T H a0 r hm;rw[rO] at hm;have e:=trivial;refine wi abf func269 [] [] 4 ?_;simp[e];refine Wj hm 5 0 (λn f h=>∃(v2:Int) (v3:Int) (v4:Bool) (c:Nat),(h=H/\f.1 1=AV.eB 1 c 0/\f.1 3=sI v2/\f.1 4=sI v3/\f.1 5=sB v4/\f.gen 1=c/\f.box 1=some [sI a0.aba,sI a0.dv.aba,sL Ty.av a0.dv.abb,sL Tm.av a0.ek,sL Fm.av a0.abb])/\n v2 v3 v4=some r) (λn G l m=>?_) ?_;rotate_left
 ·rintro u I ⟨v2,v3,v4,c,E,m⟩;have e:=Aj e E;refine Wj m 999 0 (λo f h=>∃(d:Nat),(h=H/\f.1 1=AV.eB 1 d 0/\f.1 3=sI v2/\f.1 4=sI v3/\f.gen 1=d/\f.box 1=some [sI a0.aba,sI a0.dv.aba,sL Ty.av a0.dv.abb,sL Tm.av a0.ek,sL Fm.av a0.abb])/\o=some r) (λo J i m=>?_) ?_;rotate_left
  ·rintro p v ⟨d,E,m⟩;have e:=Aj e E;refine wj 999 999 (λf h=>h=H/\f.1 2=sB (fU (eH (eM a0.ek) v2) (eH (eM a0.abb) v3) false)) (λw j=>?_) ?_;rotate_left
   ·rintro q x E;have e:=Aj e E;cases m;simp[e]
   rcases Pb (eH (eM a0.ek) v2) e with e|e
   ·simp[e];exact j _ _ (by simp[e])
   simp[e];exact j _ _ (by simp[e])
  rcases Io e m with⟨e,m⟩|⟨e,m⟩
  ·have⟨y,z,e,m⟩:=gq e m;simp[e];refine Cf (og e.2) ?_;rcases Io e m with⟨e,m⟩|⟨e,m⟩
   ·cases m;simp[e]
   simp[e];exact i _ _ ⟨c,by simp[e],m⟩
  have⟨A,e,m⟩:=ep e m;simp[e];refine Cf (wb e.2) ?_;rcases Io e m with⟨e,m⟩|⟨e,m⟩;rotate_left
  ·cases m;simp[e]
  simp[e];exact i _ _ ⟨c,by simp[e],m⟩
 simp[e];rcases Io e m with⟨e,m⟩|⟨e,m⟩
 ·apply wg 999;simp[e];exact l _ _ ⟨2,0,false,1,by simp[e],m⟩
 apply wg 1;simp[e];refine wj 999 0 (λf h=>∃(a:Nat),h=H/\f.1 1=AV.eB 1 a 0/\f.1 3=sI 0/\f.1 5=sB false/\f.1 9=sI a0.aba/\f.1 12=sB (fU (eH a0.aba 2) true (eH a0.aba 3))/\f.gen 1=a/\f.box 1=some [sI a0.aba,sI a0.dv.aba,sL Ty.av a0.dv.abb,sL Tm.av a0.ek,sL Fm.av a0.abb]) (λB k=>?_) ?_
 ·rcases Pb (eH a0.aba 2) e with e|e
  ·simp[e];exact k _ _ ⟨1,by simp[e]⟩
  simp[e];exact k _ _ ⟨1,by simp[e]⟩
 rintro s C ⟨a,E⟩;have e:=Aj e E;rcases Io e m with⟨e,m⟩|⟨e,m⟩
 ·apply wg 999;simp[e];exact l _ _ ⟨0,2,false,a,by simp[e],m⟩
 apply wg 1;simp[e];refine wj 999 999 (λf h=>∃(b:Nat),h=H/\f.1 1=AV.eB 1 b 0/\f.1 3=sI 0/\f.1 15=sB (fU (eH a0.aba 4) true (fU (eH a0.aba 5) true (fU (eH a0.aba 6) true (eH a0.aba 7))))/\f.gen 1=b/\f.box 1=some [sI a0.aba,sI a0.dv.aba,sL Ty.av a0.dv.abb,sL Tm.av a0.ek,sL Fm.av a0.abb]) (λD g=>?_) ?_;rotate_left
 ·rintro t F ⟨b,E⟩;have e:=Aj e E;rcases Io e m with⟨e,m⟩|⟨e,m⟩;rotate_left
  ·cases m;simp[e]
  simp[e];exact l _ _ ⟨0,1,true,b,by simp[e],m⟩
 rcases Pb (eH a0.aba 4) e with e|e
 ·simp[e];exact g _ _ ⟨a,by simp[e]⟩
 rcases Pb (eH a0.aba 5) e with e|e
 ·simp[e];exact g _ _ ⟨a,by simp[e]⟩
 rcases Pb (eH a0.aba 6) e with e|e
 ·simp[e];exact g _ _ ⟨a,by simp[e]⟩
 simp[e];exact g _ _ ⟨a,by simp[e]⟩
def Jn(T:fg)(d:qy T){H:eD}{a0 b:Int}{c:Bool}(hm:uS a0=some (b,c)):e9 prog T 294 [sI a0] H (AV.tuple [sI b,sB c]) H:=by
 rw[uS] at hm;have e:=d;refine wi abf func294 [] [] 3 ?_;simp[e];refine wj 999 999 (λf h=>h=H/\f.1 0=sI a0/\f.1 9=sB (fU (tW a0 1) true (tq a0 14))) (λi a=>?_) ?_
 ·rcases Pb (tW a0 1) e with e|e
  ·simp[e];exact a _ _ (by simp[e])
  simp[e];exact a _ _ (by simp[e])
 rintro g j E;have e:=Aj e E;rcases Io e hm with⟨e,m⟩|⟨e,m⟩
 ·cases m;simp[e]
 have⟨k,e,m⟩:=ep e m;cases m;simp[e]
def Ke:C1 prog 295 uL sB sI:=by
 intro T H a0 r hm;rw[uL] at hm;have e:=trivial;refine wi abf func295 [] [] 2 ?_;simp[e];refine wj 999 999 (λf h=>h=H/\f.1 2=sB (fU (eH a0 2) true (fU (eH a0 6) true (eH a0 9)))) (λc a=>?_) ?_;rotate_left
 ·rintro b d E;have e:=Aj e E;cases hm;simp[e]
 rcases Pb (eH a0 2) e with e|e
 ·simp[e];exact a _ _ (by simp[e])
 rcases Pb (eH a0 6) e with e|e
 ·simp[e];exact a _ _ (by simp[e])
 simp[e];exact a _ _ (by simp[e])
def CB(T:fg)(r:qy T):∀(n:Nat),(∀{H:eD} {a0:Tm} {l:Int} {o:Bool} (hm:jZ n a0=some (l,o)),e9 prog T 270 [Tm.av a0] H (AV.tuple [sI l,sB o]) H):=by
  intro n
  induction n with
  |zero=>
    skip
    all_goals(intro _ _;intros;rename_i hm;cases hm)
  |succ n w=>
 intro H a0 l o hm;rw[jZ] at hm;have e:=r;refine wi abf func270 [] [] 5 ?_;have⟨s,t,e,m⟩:=gq e hm;simp[e];refine Cf (Jn T r e.2) ?_;simp[e];refine wj 999 0 (λf h=>∃(a:Nat),h=H/\f.1 1=AV.eB 1 a 0/\f.1 42=sB (fU t (fU (eW (eM a0.abb) s) true (fU (tW a0.abd 0) true (fU (eW a0.abd 0) (eW a0.aba 1) false))) true)/\f.gen 1=a/\f.box 1=some [sI a0.aba,sI a0.abd,sI a0.dv.aba,sL Ty.av a0.dv.abb,sL Tm.av a0.abb]) (λJ c=>?_) ?_
 ·rcases Pb t e with e|e;rotate_left
  ·simp[e];exact c _ _ ⟨1,by simp[e]⟩
  rcases Pb (eW (eM a0.abb) s) e with e|e
  ·simp[e];exact c _ _ ⟨1,by simp[e]⟩
  rcases Pb (tW a0.abd 0) e with e|e
  ·simp[e];exact c _ _ ⟨1,by simp[e]⟩
  rcases Pb (eW a0.abd 0) e with e|e
  ·simp[e];exact c _ _ ⟨1,by simp[e]⟩
  simp[e];exact c _ _ ⟨1,by simp[e]⟩
 rintro x K ⟨a,E⟩;have e:=Aj e E;rcases Io e m with⟨e,m⟩|⟨e,m⟩
 ·apply wg 999;cases m;simp[e]
 apply wg 2;simp[e];refine Wj m 999 999 (λu f h=>∃(b:Nat),(h=H/\f.1 1=AV.eB 1 b 0/\f.gen 1=b/\f.box 1=some [sI a0.aba,sI a0.abd,sI a0.dv.aba,sL Ty.av a0.dv.abb,sL Tm.av a0.abb])/\u=some (l,o)) (λu L g m=>?_) ?_
 ·have⟨M,e,m⟩:=ep e m;simp[e];refine Cf (Ke e.2) ?_;rcases Io e m with⟨e,m⟩|⟨e,m⟩
  ·have⟨y,z,e,m⟩:=gq e m;simp[e];refine Cf (og e.2) ?_;rcases Io e m with⟨e,m⟩|⟨e,m⟩
   ·cases m;simp[e]
   simp[e];exact g _ _ ⟨a,by simp[e],m⟩
  have⟨A,e,m⟩:=ep e m;simp[e];refine Cf (wb e.2) ?_;rcases Io e m with⟨e,m⟩|⟨e,m⟩;rotate_left
  ·cases m;simp[e]
  simp[e];exact g _ _ ⟨a,by simp[e],m⟩
 rintro v B ⟨b,E,m⟩;have e:=Aj e E;simp[e];refine Wr e m 999 (λi d f h=>h=H/\f.1 8=sI d/\f.1 59=sL Tm.av a0.abb/\f.1 60=sI (eM a0.abb)/\f.1 61=sI i) (by simp[e]) (λd j p q E m=>?_) (λi C d j p q D F E e m z21 k=>?_)
 ·have e:=Aj e E;dsimp only[en]at m;cases m;simp[e]
 have e:=Aj e E;have⟨G,I,e,m⟩:=gq e m;simp[e];refine Cf (w e.2) ?_;rcases Io e m with⟨e,m⟩|⟨e,m⟩;rotate_left
 ·cases m;cases z21;simp[e]
 simp[e];cases m;exact k _ _ _ (by simp[e]) z21
def xf(T:fg)(c:qy T){H:eD}{a0:Tm}{a:Int}{b:Bool}{n:Nat}(hm:jZ n a0=some (a,b)):e9 prog T 270 [Tm.av a0] H (AV.tuple [sI a,sB b]) H:=(CB T c n) hm
def zD(T:fg)(r:qy T):∀(n:Nat),(∀{H:eD} {a0:Fm} {j:Int} {k:Bool} (hm:jQ n a0=some (j,k)),e9 prog T 235 [Fm.av a0] H (AV.tuple [sI j,sB k]) H):=by
  intro n
  induction n with
  |zero=>
    skip
    all_goals(intro _ _;intros;rename_i hm;cases hm)
  |succ n t=>
 intro H a0 j k hm;rw[jQ] at hm;have e:=r;refine wi abf func235 [] [] 999 ?_;have⟨D,e,m⟩:=ep e hm;simp[e];refine Cf (Hv e.2) ?_;rcases Io e m with⟨e,m⟩|⟨e,m⟩;rotate_left
 ·cases m;simp[e]
 simp[e];refine Wr e m 999 (λs l f h=>∃(a:Nat),h=H/\f.1 1=AV.eB 1 a 0/\f.1 4=sI l/\f.1 17=sL Tm.av a0.ek/\f.1 18=sI (eM a0.ek)/\f.1 19=sI s/\f.gen 1=a/\f.box 1=some [sI a0.aba,sI a0.dv.aba,sL Ty.av a0.dv.abb,sL Tm.av a0.ek,sL Fm.av a0.abb]) ⟨1,by simp[e]⟩ (λl o u v E m=>?_) (λs F l o u v G I E e m z9 c=>?_);rotate_left
 ·have⟨a,E⟩:=E;have e:=Aj e E;have⟨w,x,e,m⟩:=gq e m;simp[e];refine Cf (xf T r e.2) ?_;rcases Io e m with⟨e,m⟩|⟨e,m⟩;rotate_left
  ·cases m;cases z9;simp[e]
  simp[e];cases m;exact c _ _ _ ⟨a,by simp[e]⟩ z9
 have⟨a,E⟩:=E;have e:=Aj e E;dsimp only[en]at m;simp[e];refine Wr e m 999 (λd b f h=>h=H/\f.1 4=sI b/\f.1 35=sL Fm.av a0.abb/\f.1 36=sI (eM a0.abb)/\f.1 37=sI d) (by simp[e]) (λb g p q E m=>?_) (λd y b g p q z A E e m z20 i=>?_)
 ·have e:=Aj e E;dsimp only[en]at m;cases m;simp[e]
 have e:=Aj e E;have⟨B,C,e,m⟩:=gq e m;simp[e];refine Cf (t e.2) ?_;rcases Io e m with⟨e,m⟩|⟨e,m⟩;rotate_left
 ·cases m;cases z20;simp[e]
 simp[e];cases m;exact i _ _ _ (by simp[e]) z20
def Ar(T:fg)(c:qy T){H:eD}{a0:Fm}{a:Int}{b:Bool}{n:Nat}(hm:jQ n a0=some (a,b)):e9 prog T 235 [Fm.av a0] H (AV.tuple [sI a,sB b]) H:=(zD T c n) hm
def qM(T:fg)(a:qy T){H:eD}{a0:Fm}{b c:Int}(hm:jr a0=some (b,c)):e9 prog T 182 [Fm.av a0] H (AV.tuple [sI b,sI c]) H:=by
 rw[jr] at hm;have e:=a;refine wi abf func182 [] [] 999 ?_;have⟨d,f,e,m⟩:=gq e hm;simp[e];refine Cf (Ar T a e.2) ?_;rcases Io e m with⟨e,m⟩|⟨e,m⟩;rotate_left
 ·cases m;simp[e]
 rcases Io e m with⟨e,m⟩|⟨e,m⟩
 ·cases m;simp[e]
 cases m;simp[e]
def pd(T:fg)(a:qy T){H:eD}{a0:Fm}{b:Int}(hm:kz a0=some b):e9 prog T 133 [Fm.av a0] H (sI b) H:=by
 rw[kz] at hm;have e:=a;refine wi abf func133 [] [] 999 ?_;have⟨c,d,e,m⟩:=gq e hm;simp[e];refine Cf (qM T a e.2) ?_;cases m;simp[e]
def ry:C1 prog 183 ns ed.av Ty.av:=by
 intro T H a0 r hm;rw[ns] at hm;have e:=trivial;refine wi abf func183 [] [] 999 ?_;have⟨a,b,e,m⟩:=gq e hm;simp[e];refine Cf (og e.2) ?_;cases m;simp[e]
def wh:C1 prog 134 oC (sL ed.av) (sL Ty.av):=by
 intro T H a0 r hm;rw[oC] at hm;have e:=trivial;refine wi abf func134 [] [] 999 ?_;simp[e];refine Wr e hm 999 (λi s2 f h=>∃(a:Tag),(h=H/\f.1 3=sT a ed.av s2/\f.1 6=sL Ty.av a0/\f.1 7=sI (eM a0)/\f.1 8=sI i)/\Ow f [16] a s2) (by exact⟨.full,by simp[e],iM.full⟩) (λs2 c j k E m=>?_) (λi n s2 c j k n6 o E e m l d=>?_)
 ·have⟨a,E,b⟩:=E;have e:=Aj e E;dsimp only[en]at m;cases m;simp[e]
 have⟨a,E,b⟩:=E;have e:=Aj e E;have⟨g,e,m⟩:=ep e m;simp[e];refine Cf (ry e.2) ?_;have⟨e,m⟩:=Ck e m;simp[e];refine Ao (f:=ed.av) s2 [g] b RD e.2 ?_;simp[e];cases m;exact d _ _ _ ⟨(.loc 16 (c.fN 16+1)),by simp[e],(On 16)⟩ l
def m8:C2 prog 184 gH (sL ed.av) (sL ed.av) (sL Ty.av):=by
 intro T H a0 a1 r hm;rw[gH] at hm;have e:=trivial;refine wi abf func184 [] [] 999 ?_;have⟨a,e,m⟩:=ep e hm;simp[e];refine Cs (wh e.2) ?_;have⟨e,m⟩:=Ck e m;simp[e];refine Ad (f:=ed.av) a0 a (iM.full (D:=[])) RD e.2 ?_;cases m;simp[e]
def AL:C3 prog 241 ru (t2 ed.av sI) sI ed.av ed.av:=by
 intro T H a0 a1 a2 r hm;rw[ru] at hm;have e:=trivial;refine wi abf func241 [] [] 999 ?_;rcases Io e hm with⟨e,m⟩|⟨e,m⟩
 ·cases m;simp[e]
 have e:=Aj e (show AV.agg [sI a0,AV.slice .iN [Ty.av a1.dv,Ty.av a2.dv],sI (fj .i64 (fj .i64 1 a1.abc) a2.abc)]=ed.av (ed.mk (Ty.mk a0 [a1.dv,a2.dv]) (fj .i64 (fj .i64 1 a1.abc) a2.abc)) by rw[ed.fL];rfl);have e:=Aj e (show AV.agg [sI a0,AV.slice .iN [Ty.av a1.dv,Ty.av a2.dv],sI (fj .i64 (fj .i64 1 a1.abc) a2.abc)]=ed.av (ed.mk (Ty.mk a0 [a1.dv,a2.dv]) (fj .i64 (fj .i64 1 a1.abc) a2.abc)) by rw[ed.fL];rfl);cases m;simp[e]
def Fz:C1 prog 271 j_ (sL sI) sI:=by
 intro T H a0 r hm;rw[j_] at hm;have e:=trivial;refine wi abf func271 [] [] 999 ?_;rcases Io e hm with⟨e,m⟩|⟨e,m⟩
 ·cases m;simp[e]
 rcases Io e m with⟨e,m⟩|⟨e,m⟩
 ·cases m;simp[e]
 rcases Io e m with⟨e,m⟩|⟨e,m⟩
 ·cases m;simp[e]
 rcases Io e m with⟨e,m⟩|⟨e,m⟩
 ·cases m;simp[e]
 rcases Io e m with⟨e,m⟩|⟨e,m⟩
 ·cases m;simp[e]
 cases m;simp[e]
def kG:C2 prog 252 jE sB ed.av sI:=by
 intro T H a0 a1 r hm;rw[jE] at hm;have e:=trivial;refine wi abf func252 [] [] 999 ?_;cases hm;simp[e]
def oa:C2 prog 272 jR ed.av ed.av sI:=by
 intro T H a0 a1 r hm;rw[jR] at hm;have e:=trivial;refine wi abf func272 [] [] 999 ?_;have⟨a,e,m⟩:=ep e hm;have⟨b,e,m⟩:=ep e m;simp[e];refine Cf (ry e.2) ?_;cases m;simp[e]
def DI:∀(n:Nat),C2 prog 230 (hD n) sB Ty.av Ty.av:=by
  intro n
  induction n with
  |zero=>
    skip
    all_goals(intro _ _;intros;rename_i hm;cases hm)
  |succ n o=>
 intro T H a0 a1 r hm;rw[hD] at hm;have e:=trivial;refine wi abf func230 [] [] 3 ?_;simp[e];refine wj 999 999 (λf h=>∃(c:Nat) (b:Nat),h=H/\f.1 2=AV.eB 2 c 0/\f.1 3=AV.eB 3 b 0/\f.1 20=sB (fU (eW a0.aba a1.aba) true (eW (eM a0.abb) (eM a1.abb)))/\f.gen 2=c/\f.box 2=some [sI a0.aba,sL Ty.av a0.abb]/\f.gen 3=b/\f.box 3=some [sI a1.aba,sL Ty.av a1.abb]) (λw d=>?_) ?_
 ·rcases Pb (eW a0.aba a1.aba) e with e|e
  ·simp[e];exact d _ _ ⟨1,1,by simp[e]⟩
  simp[e];exact d _ _ ⟨1,1,by simp[e]⟩
 rintro p x ⟨c,b,E⟩;have e:=Aj e E;rcases Io e hm with⟨e,m⟩|⟨e,m⟩
 ·cases m;simp[e]
 simp[e];refine Wr e m 999 (λk l f h=>∃(a:Nat),h=H/\f.1 3=AV.eB 3 a 0/\f.1 22=sL Ty.av a0.abb/\f.1 23=sI (eM a0.abb)/\f.1 24=sI k/\f.gen 3=a/\f.box 3=some [sI a1.aba,sL Ty.av a1.abb]) ⟨b,by simp[e]⟩ (λl j q s E m=>?_) (λk y l j q s z t E e m g i=>?_)
 ·have⟨a,E⟩:=E;have e:=Aj e E;dsimp only[en]at m;cases m;simp[e]
 have⟨a,E⟩:=E;have e:=Aj e E;have⟨u,e,m⟩:=ep e m;have⟨v,e,m⟩:=ep e m;simp[e];refine Cs (o e.2) ?_;rcases Io e m with⟨e,m⟩|⟨e,m⟩;rotate_left
 ·cases m;cases g;simp[e]
 simp[e];cases m;exact i _ _ _ ⟨a,by simp[e]⟩ g
def pk{n:Nat}:C2 prog 230 (hD n) sB Ty.av Ty.av:=(DI n)
def qP:C2 prog 245 kL sB ed.av ed.av:=by
 intro T H a0 a1 r hm;rw[kL] at hm;have e:=trivial;refine wi abf func245 [] [] 2 ?_;simp[e];refine Wj hm 999 999 (λb f h=>∃(v2:Bool),(h=H/\f.1 4=sB v2)/\b v2=some r) (λb g a m=>?_) ?_;rotate_left
 ·rintro c i ⟨v2,E,m⟩;have e:=Aj e E;cases m;simp[e]
 rcases Io e m with⟨e,m⟩|⟨e,m⟩;rotate_left
 ·simp[e];exact a _ _ ⟨false,by simp[e],m⟩
 have⟨d,e,m⟩:=ep e m;simp[e];refine Cf (pk e.2) ?_;simp[e];exact a _ _ ⟨d,by simp[e],m⟩
def mT:C0 prog 208 nD Ty.av:=by
 intro T H r hm;rw[nD] at hm;have e:=trivial;refine wi abf func208 [] [] 999 ?_;cases hm;simp[e]
def DM:C0 prog 251 xp Ty.av:=by
 intro T H r hm;rw[xp] at hm;have e:=trivial;refine wi abf func251 [] [] 999 ?_;cases hm;simp[e]
def Bp:C2 prog 209 o6 Ty.av Ty.av (sL Ty.av):=by
 intro T H a0 a1 r hm;rw[o6] at hm;have e:=trivial;refine wi abf func209 [] [] 999 ?_;simp[e];refine Wn hm 999 (λs1 f h=>∃(c:Tag) (a:Nat) (b:Nat),h=H/\f.1 1=sL Ty.av a1/\f.1 2=AV.eB 2 a 0/\f.1 4=AV.eB 4 b 0/\f.1 5=sI s1.1/\f.gen 2=a/\f.box 2=some [sI s1.2.1,sT c Ty.av s1.2.2]/\f.gen 4=b/\f.box 4=some [sI 0,AV.slice .full []]) ⟨.iN,1,1,by simp[e]⟩ (λs1 fr2 j k n4 c5 E m g d=>?_);have⟨l,v9,v10⟩:=s1;have⟨c,a,b,E⟩:=E;have e:=Aj e E;dsimp only[tU]at m;rcases Io e m with⟨e,m⟩|⟨e,m⟩;rotate_left
 ·cases m;have m:=Qb g;dsimp only[tU]at m;cases m;simp[e]
 have⟨i,e,m⟩:=ep e m;simp[e];cases m;exact d _ _ _ ⟨.full,a,b,by simp[e]⟩ g
def H0:C1 prog 273 qp Ty.av Tm.av:=by
 intro T H a0 r hm;rw[qp] at hm;have e:=trivial;refine wi abf func273 [] [] 999 ?_;rcases Io e hm with⟨e,m⟩|⟨e,m⟩;rotate_left
 ·have⟨a,e,m⟩:=ep e m;simp[e];refine Cs (mT e.2) ?_;have⟨b,e,m⟩:=ep e m;simp[e];refine Cs (Bp e.2) ?_;cases m;simp[e]
 have⟨c,e,m⟩:=ep e m;simp[e];refine Cs (mT e.2) ?_;have⟨d,e,m⟩:=ep e m;simp[e];refine Cs (DM e.2) ?_;have⟨f,e,m⟩:=ep e m;simp[e];refine Cs (Bp e.2) ?_;cases m;simp[e]
def HE:C2 prog 242 gM (t2 ed.av sI) Tm.av (λp=>AV.agg [sI p.1.dv.aba,sL Ty.av p.1.dv.abb,sI p.1.abc,sI p.2.1.dv.aba,sL Ty.av p.2.1.dv.abb,sI p.2.1.abc,sI p.2.2.dv.aba,sL Ty.av p.2.2.dv.abb,sI p.2.2.abc]):=by
 intro T H a0 a1 r hm;rw[gM] at hm;have e:=trivial;refine wi abf func242 [] [] 7 ?_;have⟨W,e,m⟩:=ep e hm;simp[e];refine Cf (Fz e.2) ?_;simp[e];rcases Io e m with⟨e,m⟩|⟨e,m⟩
 ·apply wg 999;have⟨O,e,m⟩:=ep e m;simp[e];refine Wr e m 0 (λI X f h=>∃(a:Nat) (d:Nat),h=H/\f.1 3=AV.eB 3 a 0/\f.1 4=AV.eB 4 d 0/\f.1 6=sL sI W/\f.1 18=sL sI O/\f.1 19=sI (eM O)/\f.1 20=sI I/\f.gen 3=a/\f.box 3=some [sI a1.1.dv.aba,sL Ty.av a1.1.dv.abb,sI a1.1.abc,sI a1.2.1.dv.aba,sL Ty.av a1.2.1.dv.abb,sI a1.2.1.abc,sI a1.2.2.dv.aba,sL Ty.av a1.2.2.dv.abb,sI a1.2.2.abc]/\f.gen 4=d/\f.box 4=some [sI 0,AV.slice .full [],sI 0]) ⟨1,1,by simp[e]⟩ (λX P h5 K6 E m=>?_) (λI x7 X P h5 K6 n8 c9 E e m J K=>?_)
  ·have⟨a,d,E⟩:=E;have e:=Aj e E;apply wg 999;dsimp only[en]at m;have⟨ad,e,m⟩:=ep e m;have⟨ae,e,m⟩:=ep e m;simp[e];refine Cf (ry e.2) ?_;cases m;simp[e]
  have⟨a,d,E⟩:=E;have e:=Aj e E;apply wg 9;simp[e];refine Wj m 999 999 (λL f h=>∃(D:Bool) (l:Nat) (n:Nat),(h=H/\f.1 3=AV.eB 3 l 0/\f.1 4=AV.eB 4 n 0/\f.1 6=sL sI W/\f.1 18=sL sI O/\f.1 19=sI (eM O)/\f.1 20=sI I/\f.1 30=sB D/\f.gen 3=l/\f.box 3=some [sI a1.1.dv.aba,sL Ty.av a1.1.dv.abb,sI a1.1.abc,sI a1.2.1.dv.aba,sL Ty.av a1.2.1.dv.abb,sI a1.2.1.abc,sI a1.2.2.dv.aba,sL Ty.av a1.2.2.dv.abb,sI a1.2.2.abc]/\f.gen 4=n/\f.box 4=some [sI 0,AV.slice .full [],sI 0])/\L D=some c9) (λL af x m=>?_) ?_;rotate_left
  ·rintro Y ah ⟨D,l,n,E,m⟩;have e:=Aj e E;rcases Io e m with⟨e,m⟩|⟨e,m⟩
   ·cases m;cases J;simp[e]
   simp[e];cases m;exact K _ _ _ ⟨l,n,by simp[e]⟩ J
  rcases Io e m with⟨e,m⟩|⟨e,m⟩
  ·have e:=Aj e (CM (j:=0) Dp yO (by simp[e]) (by decide):gN prog 244 (AV.eB 3 a 0) (sI I)=some (AV.eB 3 a 0));have⟨Q,e,m⟩:=ep e m;simp[e];refine Cf (kG e.2) ?_;simp[e];exact x _ _ ⟨(nC Q),a,d,by simp[e],m⟩
  rcases Io e m with⟨e,m⟩|⟨e,m⟩
  ·have e:=Aj e (CM (j:=1) Dp yO (by simp[e]) (by decide):gN prog 244 (AV.eB 3 a 0) (sI I)=some (AV.eB 3 a 3));have⟨R,e,m⟩:=ep e m;simp[e];refine Cf (kG e.2) ?_;simp[e];exact x _ _ ⟨(nC R),a,d,by simp[e],m⟩
  have⟨e,m⟩:=Ck e m;have e:=Aj e (CM (j:=2) Dp yO (by simp[e]) (by decide):gN prog 244 (AV.eB 3 a 0) (sI I)=some (AV.eB 3 a 6));have⟨S,e,m⟩:=ep e m;simp[e];refine Cf (kG e.2) ?_;simp[e];exact x _ _ ⟨(nC S),a,d,by simp[e],m⟩
 apply wg 8;simp[e];rcases Io e m with⟨e,m⟩|⟨e,m⟩
 ·apply wg 2;simp[e];refine Wj m 999 999 (λM f h=>∃(F:Bool) (o:Nat) (q:Nat),(h=H/\f.1 3=AV.eB 3 o 0/\f.1 4=AV.eB 4 q 0/\f.1 54=sB F/\f.gen 3=o/\f.box 3=some [sI a1.1.dv.aba,sL Ty.av a1.1.dv.abb,sI a1.1.abc,sI a1.2.1.dv.aba,sL Ty.av a1.2.1.dv.abb,sI a1.2.1.abc,sI a1.2.2.dv.aba,sL Ty.av a1.2.2.dv.abb,sI a1.2.2.abc]/\f.gen 4=q/\f.box 4=some [sI 0,AV.slice .full [],sI 0])/\M F=some r) (λM ai z m=>?_) ?_;rotate_left
  ·rintro Z aj ⟨F,o,q,E,m⟩;have e:=Aj e E;rcases Io e m with⟨e,m⟩|⟨e,m⟩
   ·cases m;simp[e]
   have⟨ak,e,m⟩:=ep e m;simp[e];refine Cf (oa e.2) ?_;cases m;simp[e]
  have⟨al,e,m⟩:=ep e m;simp[e];refine Cs (kG e.2) ?_;rcases Io e m with⟨e,m⟩|⟨e,m⟩;rotate_left
  ·simp[e];exact z _ _ ⟨true,1,1,by simp[e],m⟩
  have⟨an,e,m⟩:=ep e m;simp[e];refine Cs (oa e.2) ?_;have⟨U,e,m⟩:=ep e m;simp[e];refine Cs (qP e.2) ?_;simp[e];exact z _ _ ⟨(nC U),1,1,by simp[e],m⟩
 apply wg 1;simp[e];refine wj 999 0 (λf h=>∃(g:Nat) (i:Nat) (k:Nat),h=H/\f.1 2=AV.eB 2 g 0/\f.1 3=AV.eB 3 i 0/\f.1 4=AV.eB 4 k 0/\f.1 39=sI a0.aba/\f.1 59=sB (fU (eH a0.aba 6) true (eH a0.aba 9))/\f.gen 2=g/\f.box 2=some [sI a0.aba,sI a0.abd,sI a0.dv.aba,sL Ty.av a0.dv.abb,sL Tm.av a0.abb]/\f.gen 3=i/\f.box 3=some [sI a1.1.dv.aba,sL Ty.av a1.1.dv.abb,sI a1.1.abc,sI a1.2.1.dv.aba,sL Ty.av a1.2.1.dv.abb,sI a1.2.1.abc,sI a1.2.2.dv.aba,sL Ty.av a1.2.2.dv.abb,sI a1.2.2.abc]/\f.gen 4=k/\f.box 4=some [sI 0,AV.slice .full [],sI 0]) (λao A=>?_) ?_
 ·rcases Pb (eH a0.aba 6) e with e|e
  ·simp[e];exact A _ _ ⟨1,1,1,by simp[e]⟩
  simp[e];exact A _ _ ⟨1,1,1,by simp[e]⟩
 rintro B aq ⟨g,i,k,E⟩;have e:=Aj e E;rcases Io e m with⟨e,m⟩|⟨e,m⟩;rotate_left
 ·apply wg 999;rcases Io e m with⟨e,m⟩|⟨e,m⟩
  ·have⟨ar,au,e,m⟩:=gq e m;simp[e];refine Cf (AL e.2) ?_;cases m;simp[e]
  have⟨aw,e,m⟩:=ep e m;simp[e];refine Cf (kG e.2) ?_;rcases Io e m with⟨e,m⟩|⟨e,m⟩;rotate_left
  ·cases m;simp[e]
  rcases Io e m with⟨e,m⟩|⟨e,m⟩
  ·have⟨ax,e,m⟩:=ep e m;simp[e];refine Cf (oa e.2) ?_;cases m;simp[e]
  have⟨ay,e,m⟩:=ep e m;simp[e];refine Cf (oa e.2) ?_;cases m;simp[e]
 apply wg 3;have⟨w,e,m⟩:=ep e m;simp[e];refine Cf (ry e.2) ?_;simp[e];refine wj 2 1 (λf h=>∃(s:Nat) (t:Nat) (b:Nat) (c:Nat),h=H/\f.1 2=AV.eB 2 s 0/\f.1 3=AV.eB 3 t 0/\f.1 4=AV.eB 4 b 0/\f.1 9=AV.eB 9 c 0/\f.1 10=sI (fU (eH a0.aba 9) 2 1)/\f.gen 2=s/\f.box 2=some [sI a0.aba,sI a0.abd,sI a0.dv.aba,sL Ty.av a0.dv.abb,sL Tm.av a0.abb]/\f.gen 3=t/\f.box 3=some [sI a1.1.dv.aba,sL Ty.av a1.1.dv.abb,sI a1.1.abc,sI a1.2.1.dv.aba,sL Ty.av a1.2.1.dv.abb,sI a1.2.1.abc,sI a1.2.2.dv.aba,sL Ty.av a1.2.2.dv.abb,sI a1.2.2.abc]/\f.gen 4=b/\f.box 4=some [sI 0,AV.slice .full [],sI 0]/\f.gen 9=c/\f.box 9=some [sI w.dv.aba,sL Ty.av w.dv.abb,sI w.abc]) (λaz C=>?_) ?_
 ·simp[e];rcases Pb (eH a0.aba 9) e with e|e
  ·apply wg 999;simp[e];exact C _ _ ⟨g,i,k,(B.gen 9+1),by simp[e]⟩
  apply wg 999;simp[e];exact C _ _ ⟨g,i,k,(B.gen 9+1),by simp[e]⟩
 rintro aa aA ⟨s,t,b,c,E⟩;have e:=Aj e E;simp[e];refine Wj m 999 999 (λN f h=>∃(G:Bool) (u:Nat) (v:Nat),(h=H/\f.1 4=AV.eB 4 u 0/\f.1 9=AV.eB 9 v 0/\f.1 88=sB G/\f.gen 4=u/\f.box 4=some [sI 0,AV.slice .full [],sI 0]/\f.gen 9=v/\f.box 9=some [sI w.dv.aba,sL Ty.av w.dv.abb,sI w.abc])/\N G=some r) (λN aB y m=>?_) ?_;rotate_left
 ·rintro ab aC ⟨G,u,v,E,m⟩;have e:=Aj e E;rcases Io e m with⟨e,m⟩|⟨e,m⟩
  ·cases m;simp[e]
  cases m;simp[e]
 have⟨aD,e,m⟩:=ep e m;simp[e];refine Cs (qP e.2) ?_;rcases Io e m with⟨e,m⟩|⟨e,m⟩;rotate_left
 ·simp[e];exact y _ _ ⟨true,b,c,by simp[e],m⟩
 have⟨aE,e,m⟩:=ep e m;simp[e];refine Cs (H0 e.2) ?_;have⟨aF,e,m⟩:=ep e m;simp[e];refine Cs (pk e.2) ?_;rcases Io e m with⟨e,m⟩|⟨e,m⟩;rotate_left
 ·simp[e];exact y _ _ ⟨true,b,c,by simp[e],m⟩
 have⟨V,e,m⟩:=ep e m;simp[e];refine Cs (kG e.2) ?_;simp[e];exact y _ _ ⟨(nC V),b,c,by simp[e],m⟩
def wB:∀(n:Nat),C2 prog 197 (eY n) (t2 ed.av sI) (sL ed.av) Tm.av:=by
  intro n
  induction n with
  |zero=>
    skip
    all_goals(intro _ _;intros;rename_i hm;cases hm)
  |succ n U=>
 intro T H a0 a1 r hm;rw[eY] at hm;have e:=trivial;refine wi abf func197 [] [] 999 ?_;rcases Io e hm with⟨e,m⟩|⟨e,m⟩
 ·rcases Io e m with⟨e,m⟩|⟨e,m⟩
  ·cases m;simp[e]
  have⟨x1,e,m⟩:=ep e m;cases m;simp[e]
 rcases Io e m with⟨e,m⟩|⟨e,m⟩
 ·have⟨W,e,m⟩:=ep e m;simp[e];refine Cf (ry e.2) ?_;have⟨e,m⟩:=Ck e m;simp[e];refine Ad (f:=ed.av) a0 [W] (iM.full (D:=[])) RD e.2 ?_;have⟨x3,e,m⟩:=ep e m;have⟨x4,x5,e,m⟩:=gq e m;simp[e];refine Cs (U e.2) ?_;rcases Io e m with⟨e,m⟩|⟨e,m⟩
  ·cases m;simp[e]
  have⟨x6,x7,e,m⟩:=gq e m;simp[e];refine Cf (AL e.2) ?_;cases m;simp[e]
 simp[e];refine Wr e m 0 (λL u f h=>∃(d:Tag) (g:Tag) (i:Tag) (b:Nat) (c:Nat) (a:Nat),h=H/\f.1 0=sL ed.av a0/\f.1 3=AV.eB 3 b 0/\f.1 4=AV.eB 4 c 0/\f.1 9=AV.eB 9 a 0/\f.1 65=sL Tm.av a1.abb/\f.1 66=sI (eM a1.abb)/\f.1 67=sI L/\f.gen 3=b/\f.box 3=some [sI a1.aba,sI a1.abd,sI a1.dv.aba,sL Ty.av a1.dv.abb,sL Tm.av a1.abb]/\f.gen 4=c/\f.box 4=some [sI 0,AV.slice .full [],sI 0]/\f.gen 9=a/\f.box 9=some [sI u.1,sT d Ty.av u.2.1,sI u.2.2.1,sI u.2.2.2.1,sT g Ty.av u.2.2.2.2.1,sI u.2.2.2.2.2.1,sI u.2.2.2.2.2.2.1,sT i Ty.av u.2.2.2.2.2.2.2.1,sI u.2.2.2.2.2.2.2.2]) ⟨.full,.full,.full,1,1,1,by simp[e]⟩ (λu M Q R E m=>?_) (λL X u M Q R Y S E e m N O=>?_)
 ·have⟨w,x,y,v20,v21,z,A,v24,B⟩:=u;have⟨d,g,i,b,c,a,E⟩:=E;have e:=Aj e E;apply wg 999;dsimp only[en,Rk]at m;have⟨Z,aa,e,m⟩:=gq e m;simp[e];refine Cf (HE e.2) ?_;cases m;simp[e]
 have⟨w,x,y,v20,v21,z,A,v24,B⟩:=u;have⟨d,g,i,b,c,a,E⟩:=E;have e:=Aj e E;dsimp only[Rk]at m;apply wg 5;simp[e];refine Wj m 999 999 (λP f h=>∃(C:Int) (v30:List Ty) (v31:Int) (F:Int) (G:List Ty) (I:Int) (J:Int) (K:List Ty) (v37:Int) (k:Tag) (l:Tag) (o:Tag) (p:Nat) (q:Nat) (s:Nat),(h=H/\f.1 0=sL ed.av a0/\f.1 3=AV.eB 3 p 0/\f.1 4=AV.eB 4 q 0/\f.1 9=AV.eB 9 s 0/\f.1 65=sL Tm.av a1.abb/\f.1 66=sI (eM a1.abb)/\f.1 67=sI L/\f.gen 3=p/\f.box 3=some [sI a1.aba,sI a1.abd,sI a1.dv.aba,sL Ty.av a1.dv.abb,sL Tm.av a1.abb]/\f.gen 4=q/\f.box 4=some [sI 0,AV.slice .full [],sI 0]/\f.gen 9=s/\f.box 9=some [sI C,sT k Ty.av v30,sI v31,sI F,sT l Ty.av G,sI I,sI J,sT o Ty.av K,sI v37])/\P C v30 v31 F G I J K v37=some S) (λP ab v m=>?_) ?_;rotate_left
 ·rintro V ad ⟨C,v30,v31,F,G,I,J,K,v37,k,l,o,p,q,s,E,m⟩;have e:=Aj e E;simp[e];cases m;exact O _ _ _ ⟨k,l,o,p,q,s,by simp[e]⟩ N
 have⟨t,ae,e,m⟩:=gq e m;simp[e];refine Cf (U e.2) ?_;rcases Io e m with⟨e,m⟩|⟨e,m⟩
 ·cases m;cases N;simp[e]
 rcases Io e m with⟨e,m⟩|⟨e,m⟩
 ·have e:=Aj e (CM (j:=0) Dp yO (by simp[e]) (by decide):gN prog 244 (AV.eB 9 a 0) (sI L)=some (AV.eB 9 a 0));simp[e];exact v _ _ ⟨t.dv.aba,t.dv.abb,t.abc,v20,v21,z,A,v24,B,.iN,g,i,b,c,a,by simp[e],m⟩
 rcases Io e m with⟨e,m⟩|⟨e,m⟩
 ·have e:=Aj e (CM (j:=1) Dp yO (by simp[e]) (by decide):gN prog 244 (AV.eB 9 a 0) (sI L)=some (AV.eB 9 a 3));simp[e];exact v _ _ ⟨w,x,y,t.dv.aba,t.dv.abb,t.abc,A,v24,B,d,.iN,i,b,c,a,by simp[e],m⟩
 have⟨e,m⟩:=Ck e m;have e:=Aj e (CM (j:=2) Dp yO (by simp[e]) (by decide):gN prog 244 (AV.eB 9 a 0) (sI L)=some (AV.eB 9 a 6));simp[e];exact v _ _ ⟨w,x,y,v20,v21,z,t.dv.aba,t.dv.abb,t.abc,d,g,.iN,b,c,a,by simp[e],m⟩
def lY{n:Nat}:C2 prog 197 (eY n) (t2 ed.av sI) (sL ed.av) Tm.av:=(wB n)
def tI:C3 prog 205 iR sI (sL ed.av) Tm.av sI:=by
 intro T H a0 a1 a2 r hm;rw[iR] at hm;have e:=trivial;refine wi abf func205 [] [] 5 ?_;have⟨i,c,e,m⟩:=gq e hm;simp[e];refine Cf (lY e.2) ?_;simp[e];refine Wj m 999 999 (λb f h=>∃(v4:Bool),(h=H/\f.1 8=sI c/\f.1 22=sB v4)/\b v4=some r) (λb j a m=>?_) ?_;rotate_left
 ·rintro d k ⟨v4,E,m⟩;have e:=Aj e E;rcases Io e m with⟨e,m⟩|⟨e,m⟩
  ·cases m;simp[e]
  cases m;simp[e]
 rcases Io e m with⟨e,m⟩|⟨e,m⟩;rotate_left
 ·simp[e];exact a _ _ ⟨false,by simp[e],m⟩
 have⟨g,e,m⟩:=ep e m;simp[e];refine Cf (kG e.2) ?_;simp[e];exact a _ _ ⟨(nC g),by simp[e],m⟩
def rF:C2 prog 185 iH sI (sL ed.av) Tm.av:=by
 intro T H a0 a1 r hm;rw[iH] at hm;have e:=trivial;refine wi abf func185 [] [] 999 ?_;have⟨a,e,m⟩:=ep e hm;simp[e];refine Cf (tI e.2) ?_;cases m;simp[e]
def vC:∀(n:Nat),C2 prog 135 (eX n) sI (sL ed.av) Fm.av:=by
  intro n
  induction n with
  |zero=>
    skip
    all_goals(intro _ _;intros;rename_i hm;cases hm)
  |succ n K=>
 intro T H a0 a1 r hm;rw[eX] at hm;have e:=trivial;refine wi abf func135 [] [] 6 ?_;simp[e];refine Wj hm 1 999 (λB f h=>∃(v2:List ed) (g:Nat),(h=H/\f.1 0=sL ed.av v2/\f.1 3=AV.eB 3 g 0/\f.gen 3=g/\f.box 3=some [sI a1.aba,sI a1.dv.aba,sL Ty.av a1.dv.abb,sL Tm.av a1.ek,sL Fm.av a1.abb])/\B v2=some r) (λB K3 o m=>?_) ?_;rotate_left
 ·rintro L h5 ⟨v2,g,E,m⟩;have e:=Aj e E;simp[e];refine Wr e m 999 (λC D f h=>h=H/\f.1 0=sL ed.av v2/\f.1 28=sL Fm.av a1.abb/\f.1 29=sI (eM a1.abb)/\f.1 30=sI C) (by simp[e]) (λD x M N E m=>?_) (λC O D x M N P Q E e m p q=>?_)
  ·have e:=Aj e E;dsimp only[en]at m;cases m;simp[e]
  have e:=Aj e E;have⟨R,e,m⟩:=ep e m;simp[e];refine Cf (K e.2) ?_;rcases Io e m with⟨e,m⟩|⟨e,m⟩
  ·cases m;cases p;simp[e]
  simp[e];cases m;exact q _ _ _ (by simp[e]) p
 simp[e];refine Wj m 4 999 (λs f h=>∃(c:Nat),(h=H/\f.1 0=sL ed.av a0/\f.1 3=AV.eB 3 c 0/\f.gen 3=c/\f.box 3=some [sI a1.aba,sI a1.dv.aba,sL Ty.av a1.dv.abb,sL Tm.av a1.ek,sL Fm.av a1.abb])/\s=some r) (λs S i m=>?_) ?_;rotate_left
 ·rintro F U ⟨c,E,m⟩;have e:=Aj e E;have⟨y,e,m⟩:=ep e m;simp[e];refine Cf (m8 e.2) ?_;simp[e];exact o _ _ ⟨y,c,by simp[e],m⟩
 simp[e];refine wj 999 0 (λf h=>∃(a:Nat),h=H/\f.1 0=sL ed.av a0/\f.1 3=AV.eB 3 a 0/\f.1 12=sI a1.aba/\f.1 13=sB (fU (eH a1.aba 4) true (eH a1.aba 5))/\f.gen 3=a/\f.box 3=some [sI a1.aba,sI a1.dv.aba,sL Ty.av a1.dv.abb,sL Tm.av a1.ek,sL Fm.av a1.abb]) (λV j=>?_) ?_
 ·rcases Pb (eH a1.aba 4) e with e|e
  ·simp[e];exact j _ _ ⟨1,by simp[e]⟩
  simp[e];exact j _ _ ⟨1,by simp[e]⟩
 rintro G W ⟨a,E⟩;have e:=Aj e E;rcases Io e m with⟨e,m⟩|⟨e,m⟩
 ·apply wg 999;simp[e];exact i _ _ ⟨a,by simp[e],m⟩
 apply wg 3;simp[e];refine wj 999 0 (λf h=>∃(b:Nat),h=H/\f.1 0=sL ed.av a0/\f.1 3=AV.eB 3 b 0/\f.1 12=sI a1.aba/\f.1 16=sB (fU (eH a1.aba 6) true (eH a1.aba 7))/\f.gen 3=b/\f.box 3=some [sI a1.aba,sI a1.dv.aba,sL Ty.av a1.dv.abb,sL Tm.av a1.ek,sL Fm.av a1.abb]) (λX k=>?_) ?_
 ·rcases Pb (eH a1.aba 6) e with e|e
  ·simp[e];exact k _ _ ⟨a,by simp[e]⟩
  simp[e];exact k _ _ ⟨a,by simp[e]⟩
 rintro I Y ⟨b,E⟩;have e:=Aj e E;rcases Io e m with⟨e,m⟩|⟨e,m⟩
 ·apply wg 999;simp[e];exact i _ _ ⟨b,by simp[e],m⟩
 apply wg 2;simp[e];refine wj 999 999 (λf h=>∃(d:Nat),h=H/\f.1 0=sL ed.av a0/\f.1 3=AV.eB 3 d 0/\f.1 19=sB (fU (eH a1.aba 2) true (eH a1.aba 3))/\f.gen 3=d/\f.box 3=some [sI a1.aba,sI a1.dv.aba,sL Ty.av a1.dv.abb,sL Tm.av a1.ek,sL Fm.av a1.abb]) (λZ l=>?_) ?_
 ·rcases Pb (eH a1.aba 2) e with e|e
  ·simp[e];exact l _ _ ⟨b,by simp[e]⟩
  simp[e];exact l _ _ ⟨b,by simp[e]⟩
 rintro J aa ⟨d,E⟩;have e:=Aj e E;rcases Io e m with⟨e,m⟩|⟨e,m⟩
 ·simp[e];exact o _ _ ⟨a0,d,by simp[e],m⟩
 simp[e];refine Wr e m 999 (λt u f h=>h=H/\f.1 0=sL ed.av a0/\f.1 42=sL Tm.av a1.ek/\f.1 43=sI (eM a1.ek)/\f.1 44=sI t) (by simp[e]) (λu v z A E m=>?_) (λt ab u v z A ad ae E e m z37 w=>?_)
 ·have e:=Aj e E;dsimp only[en]at m;cases m;simp[e]
 have e:=Aj e E;have⟨af,e,m⟩:=ep e m;simp[e];refine Cf (rF e.2) ?_;rcases Io e m with⟨e,m⟩|⟨e,m⟩
 ·cases m;cases z37;simp[e]
 simp[e];cases m;exact w _ _ _ (by simp[e]) z37
def iV{n:Nat}:C2 prog 135 (eX n) sI (sL ed.av) Fm.av:=(vC n)
def ym(T:fg)(a:qy T){H:eD}{a0:List Ty}{a1:Fm}{b:Int}(hm:nO a0 a1=some b):e9 prog T 76 [sL Ty.av a0,Fm.av a1] H (sI b) H:=by
 rw[nO] at hm;have e:=a;refine wi abf func76 [] [] 999 ?_;have⟨c,e,m⟩:=ep e hm;simp[e];refine Cf (yf e.2) ?_;rcases Io e m with⟨e,m⟩|⟨e,m⟩
 ·cases m;simp[e]
 have⟨d,e,m⟩:=ep e m;simp[e];refine Cf (pd T a e.2) ?_;rcases Io e m with⟨e,m⟩|⟨e,m⟩
 ·cases m;simp[e]
 have⟨f,e,m⟩:=ep e m;simp[e];refine Cs (wh e.2) ?_;have⟨g,e,m⟩:=ep e m;simp[e];refine Cs (iV e.2) ?_;cases m;simp[e]
def DE(T:fg)(k:qy T){H:eD}{a0:List Fm}{a1:Sq}{q:Int}(hm:sk a0 a1=some q):e9 prog T 21 [sL Fm.av a0,Sq.av a1] H (sI q) H:=by
 rw[sk] at hm;have e:=k;refine wi abf func21 [] [] 999 ?_;rcases Io e hm with⟨e,m⟩|⟨e,m⟩
 ·cases m;simp[e]
 simp[e];refine Wr e m 999 (λr s2 f h=>∃(b:Nat),h=H/\f.1 3=AV.eB 3 b 0/\f.1 15=sL Fm.av a0/\f.1 16=sI (eM a0)/\f.1 17=sI r/\f.gen 3=b/\f.box 3=some [sL Ty.av a1.abe,sL Fm.av a1.abh]) ⟨1,by simp[e]⟩ (λs2 l t u E m=>?_) (λr B s2 l t u n6 C E e m s n=>?_);rotate_left
 ·have⟨b,E⟩:=E;have e:=Aj e E;have⟨v,e,m⟩:=ep e m;simp[e];refine Cf (ym T k e.2) ?_;rcases Io e m with⟨e,m⟩|⟨e,m⟩
  ·cases m;cases s;simp[e]
  simp[e];cases m;exact n _ _ _ ⟨b,by simp[e]⟩ s
 have⟨b,E⟩:=E;have e:=Aj e E;dsimp only[en]at m;have⟨w,e,m⟩:=ep e m;simp[e];refine Cf (yf e.2) ?_;rcases Io e m with⟨e,m⟩|⟨e,m⟩
 ·cases m;simp[e]
 rcases Io e m with⟨e,m⟩|⟨e,m⟩
 ·cases m;simp[e]
 simp[e];refine Wr e m 999 (λc d f h=>∃(a:Nat),h=H/\f.1 3=AV.eB 3 a 0/\f.1 38=sL Fm.av a1.abh/\f.1 39=sI (eM a1.abh)/\f.1 40=sI c/\f.gen 3=a/\f.box 3=some [sL Ty.av a1.abe,sL Fm.av a1.abh]) ⟨b,by simp[e]⟩ (λd g o p E m=>?_) (λc x d g o p y z E e m i j=>?_)
 ·have⟨a,E⟩:=E;have e:=Aj e E;dsimp only[en]at m;cases m;simp[e]
 have⟨a,E⟩:=E;have e:=Aj e E;have⟨A,e,m⟩:=ep e m;simp[e];refine Cf (ym T k e.2) ?_;rcases Io e m with⟨e,m⟩|⟨e,m⟩
 ·cases m;cases i;simp[e]
 simp[e];cases m;exact j _ _ _ ⟨a,by simp[e]⟩ i
def Hm(T:fg)(g:qy T){H:eD}{a0:Int}{c:fM}{d:Bool}(hm:pR a0=some (c,d)):e9 prog T 237 [sI a0] H (AV.tuple [fM.av c,sB d]) H:=by
 rw[pR] at hm;have e:=g;refine wi abf func237 [] [] 3 ?_;simp[e];refine wj 999 999 (λf h=>∃(a:Nat),h=H/\f.1 0=sI a0/\f.1 2=AV.eB 2 a 0/\f.1 9=sB (fU (tW a0 1) true (tq a0 21))/\f.gen 2=a/\f.box 2=some [sB false,sB false,sI 0,sI 0,sI 0,sI 0,sI 0,sI 0]) (λj b=>?_) ?_
 ·rcases Pb (tW a0 1) e with e|e
  ·simp[e];exact b _ _ ⟨1,by simp[e]⟩
  simp[e];exact b _ _ ⟨1,by simp[e]⟩
 rintro i k ⟨a,E⟩;have e:=Aj e E;rcases Io e hm with⟨e,m⟩|⟨e,m⟩
 ·cases m;simp[e]
 have⟨l,e,m⟩:=ep e m;cases m;simp[e]
def sO(T:fg)(a:qy T){H:eD}{a0:Tm}{b c:Int}(hm:kS a0=some (b,c)):e9 prog T 240 [Tm.av a0] H (AV.tuple [sI b,sI c]) H:=by
 rw[kS] at hm;have e:=a;refine wi abf func240 [] [] 999 ?_;have⟨d,f,e,m⟩:=gq e hm;simp[e];refine Cf (xf T a e.2) ?_;rcases Io e m with⟨e,m⟩|⟨e,m⟩;rotate_left
 ·cases m;simp[e]
 rcases Io e m with⟨e,m⟩|⟨e,m⟩
 ·cases m;simp[e]
 cases m;simp[e]
def uN(T:fg){H:eD}{a0:et}{a1 a2:Int}{i:Bool}{a:et}{d:Nat}(b:H[d]?=some [sI a0.abc,sB a0.iz])(hm:il a0 a1 a2=some (i,a)):e9 prog T 239 [AV.fE d 0,sI a1,sI a2] H (sB i) (gj H d [sI a.abc,sB a.iz]):=by
 rw[il] at hm;have g:=f_ b;refine fH.I8 b ?_;have e:=g;refine wi abf func239 [] [] 4 ?_;simp[e];refine wj 999 999 (λf h=>h=gj H d [sI (fU a0.iz (et.mk (fj .i64 a0.abc a1) true) (et.mk (fj .i64 a0.abc a1) (eH a2 4))).abc,sB (fU a0.iz (et.mk (fj .i64 a0.abc a1) true) (et.mk (fj .i64 a0.abc a1) (eH a2 4))).iz]/\f.1 2=sI a2) (λk c=>?_) ?_;rotate_left
 ·rintro j l E;have e:=Aj e E;cases hm;simp[e]
 rcases Pb a0.iz e with e|e
 ·simp[e];exact c _ _ (by simp[e])
 simp[e];exact c _ _ (by simp[e])
def Af(T:fg)(F:qy T):∀(n:Nat),(∀{H:eD} {a0:et} {a1:Pf} {G:Bool} {k:et} {j:Nat} (r:H[j]?=some [sI a0.abc,sB a0.iz]) (hm:iX n a0 a1=some (G,k)),e9 prog T 189 [AV.fE j 0,Pf.av a1] H (sB G) (gj H j [sI k.abc,sB k.iz])):=by
  intro n
  induction n with
  |zero=>
    skip
    all_goals(intro _ _;intros;rename_i hm;cases hm)
  |succ n U=>
 intro H a0 a1 G k j r hm;rw[iX] at hm;have J:=f_ r;refine fH.I8 r ?_;have e:=Aj F J;refine wi abf func189 [] [] 5 ?_;have⟨c,Q,e,m⟩:=gq e hm;simp[e];refine Cf (Hm T F e.2) ?_;simp[e];refine wj 999 0 (λf h=>∃(i:Nat) (l:Nat),h=gj H j [sI a0.abc,sB a0.iz]/\f.1 0=AV.fE j 0/\f.1 3=AV.eB 3 i 0/\f.1 5=AV.eB 5 l 0/\f.1 61=sB (fU Q (fU (tW a1.abd 0) true (fU (eW a1.abd 0) (fU c.abd (fU (eW (eM a1.ek) c.ek) true (fU (eW (eM a1.fi) c.fi) true (eW (eM a1.abb) c.abb))) true) (fU (eW (eM a1.ek) c.ek) true (fU (eW (eM a1.fi) c.fi) true (eW (eM a1.abb) c.abb))))) true)/\f.gen 3=i/\f.box 3=some [sI a1.aba,sI a1.abd,sI a1.dv.aba,sL Ty.av a1.dv.abb,sL Tm.av a1.ek,sL Fm.av a1.fi,sL Pf.av a1.abb]/\f.gen 5=l/\f.box 5=some [sB c.abd,sB c.typed,sI c.ek,sI c.fi,sI c.abb,sI c.sd,sI c.vars,sI c.abh]) (λK3 d=>?_) ?_
 ·rcases Pb Q e with e|e;rotate_left
  ·simp[e];exact d _ _ ⟨1,1,by simp[e]⟩
  rcases Pb (tW a1.abd 0) e with e|e
  ·simp[e];exact d _ _ ⟨1,1,by simp[e]⟩
  rcases Pb (eW a1.abd 0) e with e|e;rotate_left
  ·rcases Pb (eW (eM a1.ek) c.ek) e with e|e
   ·simp[e];exact d _ _ ⟨1,1,by simp[e]⟩
   rcases Pb (eW (eM a1.fi) c.fi) e with e|e
   ·simp[e];exact d _ _ ⟨1,1,by simp[e]⟩
   simp[e];exact d _ _ ⟨1,1,by simp[e]⟩
  rcases Pb c.abd e with e|e;rotate_left
  ·simp[e];exact d _ _ ⟨1,1,by simp[e]⟩
  rcases Pb (eW (eM a1.ek) c.ek) e with e|e
  ·simp[e];exact d _ _ ⟨1,1,by simp[e]⟩
  rcases Pb (eW (eM a1.fi) c.fi) e with e|e
  ·simp[e];exact d _ _ ⟨1,1,by simp[e]⟩
  simp[e];exact d _ _ ⟨1,1,by simp[e]⟩
 rintro V h5 ⟨i,l,E⟩;have e:=Aj e E;rcases Io e m with⟨e,m⟩|⟨e,m⟩
 ·apply wg 999;cases m;simp[e]
 apply wg 4;simp[e];refine Wj m 999 999 (λR f h=>∃(I:et) (g:Nat),(h=gj H j [sI I.abc,sB I.iz]/\f.1 0=AV.fE j 0/\f.1 3=AV.eB 3 g 0/\f.gen 3=g/\f.box 3=some [sI a1.aba,sI a1.abd,sI a1.dv.aba,sL Ty.av a1.dv.abb,sL Tm.av a1.ek,sL Fm.av a1.fi,sL Pf.av a1.abb])/\R I=some (G,k)) (λR K8 s m=>?_) ?_
 ·rcases Io e m with⟨e,m⟩|⟨e,m⟩
  ·have⟨W,X,e,m⟩:=gq e m;simp[e];refine Cf (og e.2) ?_;rcases Io e m with⟨e,m⟩|⟨e,m⟩
   ·cases m;simp[e]
   simp[e];exact s _ _ ⟨(et.mk (fj .i64 a0.abc 1) a0.iz),i,by simp[e],m⟩
  have⟨Y,e,m⟩:=ep e m;simp[e];refine Cf (wb e.2) ?_;rcases Io e m with⟨e,m⟩|⟨e,m⟩;rotate_left
  ·cases m;simp[e]
  simp[e];exact s _ _ ⟨(et.mk (fj .i64 a0.abc 1) a0.iz),i,by simp[e],m⟩
 rintro S Z ⟨I,g,E,m⟩;have e:=Aj e E;simp[e];refine Wr e m 999 (λt o f h=>∃(a:Nat),h=gj H j [sI o.abc,sB o.iz]/\f.1 0=AV.fE j 0/\f.1 3=AV.eB 3 a 0/\f.1 84=sL Tm.av a1.ek/\f.1 85=sI (eM a1.ek)/\f.1 86=sI t/\f.gen 3=a/\f.box 3=some [sI a1.aba,sI a1.abd,sI a1.dv.aba,sL Ty.av a1.dv.abb,sL Tm.av a1.ek,sL Fm.av a1.fi,sL Pf.av a1.abb]) ⟨g,by simp[e]⟩ (λo u K L E m=>?_) (λt aa o u K L ab ad E e m z21 v=>?_);rotate_left
 ·have⟨a,E⟩:=E;have e:=Aj e E;have⟨ae,af,e,m⟩:=gq e m;simp[e];refine Cf (sO T F e.2) ?_;have⟨ah,d26,e,m⟩:=gq e m;simp[e];refine Cf (uN T (by simp[e]) e.2) ?_;rcases Io e m with⟨e,m⟩|⟨e,m⟩;rotate_left
  ·cases m;cases z21;simp[e]
  simp[e];cases m;exact v _ _ _ ⟨a,by simp[e]⟩ z21
 have⟨a,E⟩:=E;have e:=Aj e E;dsimp only[en]at m;simp[e];refine Wr e m 999 (λw p f h=>∃(b:Nat),h=gj H j [sI p.abc,sB p.iz]/\f.1 0=AV.fE j 0/\f.1 3=AV.eB 3 b 0/\f.1 99=sL Fm.av a1.fi/\f.1 100=sI (eM a1.fi)/\f.1 101=sI w/\f.gen 3=b/\f.box 3=some [sI a1.aba,sI a1.abd,sI a1.dv.aba,sL Ty.av a1.dv.abb,sL Tm.av a1.ek,sL Fm.av a1.fi,sL Pf.av a1.abb]) ⟨a,by simp[e]⟩ (λp x M N E m=>?_) (λw ai p x M N aj ak E e m y z=>?_);rotate_left
 ·have⟨b,E⟩:=E;have e:=Aj e E;have⟨al,an,e,m⟩:=gq e m;simp[e];refine Cf (qM T F e.2) ?_;have⟨ao,d39,e,m⟩:=gq e m;simp[e];refine Cf (uN T (by simp[e]) e.2) ?_;rcases Io e m with⟨e,m⟩|⟨e,m⟩;rotate_left
  ·cases m;cases y;simp[e]
  simp[e];cases m;exact z _ _ _ ⟨b,by simp[e]⟩ y
 have⟨b,E⟩:=E;have e:=Aj e E;dsimp only[en]at m;simp[e];refine Wr e m 999 (λA q f h=>h=gj H j [sI q.abc,sB q.iz]/\f.1 0=AV.fE j 0/\f.1 114=sL Pf.av a1.abb/\f.1 115=sI (eM a1.abb)/\f.1 116=sI A) (by simp[e]) (λq B O P E m=>?_) (λA aq q B O P ar au E e m C D=>?_)
 ·have e:=Aj e E;dsimp only[en]at m;cases m;simp[e]
 have e:=Aj e E;have⟨aw,d50,e,m⟩:=gq e m;simp[e];refine Cf (U (by simp[e]) e.2) ?_;rcases Io e m with⟨e,m⟩|⟨e,m⟩;rotate_left
 ·cases m;cases C;simp[e]
 simp[e];cases m;exact D _ _ _ (by simp[e]) C
def Ba(T:fg)(e:qy T){H:eD}{a0:et}{a1:Pf}{d:Bool}{a:et}{b:Nat}(c:H[b]?=some [sI a0.abc,sB a0.iz]){n:Nat}(hm:iX n a0 a1=some (d,a)):e9 prog T 189 [AV.fE b 0,Pf.av a1] H (sB d) (gj H b [sI a.abc,sB a.iz]):=(Af T e n) c hm
def BA(T:fg)(d:qy T){H:eD}{a0:Pf}{b c:Int}(hm:ra a0=some (b,c)):e9 prog T 138 [Pf.av a0] H (AV.tuple [sI b,sI c]) H:=by
 rw[ra] at hm;refine fH.tY (Post:=λx K=>x=AV.tuple [sI b,sI c]/\∃X,K=H++X) ?_ (λ_ _ h=>⟨_,h.2.choose_spec,by rw[h.1];simp[AV.low,AV.jf],h.1,rfl⟩);have e:=d;refine wi abf func138 [6] [] 8 ?_;have⟨i,d2,e,m⟩:=gq e hm;simp[e];refine Cf (Ba T d (by simp[e]) e.2) ?_;simp[e];rcases Io e m with⟨e,m⟩|⟨e,m⟩;rotate_left
 ·apply wg 999;cases m;simp[e]
 apply wg 1;simp[e];refine wj 999 999 (λf h=>h=H++[[sI d2.abc,sB d2.iz]]/\f.1 4=AV.fE (List.length H) 0/\f.1 12=sB (fU d2.iz true (nS d2.abc 16384))) (λj a=>?_) ?_;rotate_left
 ·rintro g k E;have e:=Aj e E;rcases Io e m with⟨e,m⟩|⟨e,m⟩
  ·cases m;simp[e]
  cases m;simp[e]
 rcases Pb d2.iz e with e|e
 ·simp[e];exact a _ _ (by simp[e])
 simp[e];exact a _ _ (by simp[e])
def Ip(T:fg)(a:qy T){H:eD}{a0:Pf}{b:Int}(hm:tO a0=some b):e9 prog T 79 [Pf.av a0] H (sI b) H:=by
 rw[tO] at hm;have e:=a;refine wi abf func79 [] [] 999 ?_;have⟨c,d,e,m⟩:=gq e hm;simp[e];refine Cf (BA T a e.2) ?_;cases m;simp[e]
def GX(T:fg){H:eD}{u:Unit}(hm:xF=some u):e9 prog T 80 [] H (AV.nZ (List.length H)) (H++[[Jv]]):=by
 refine wi abf func80 [] [] 999 ?_;simp;refine tP.wQ lD uc (by decide+kernel) (by decide+kernel) ?_;simp;refine tP.wQ lD uc (by decide+kernel) (by decide+kernel) ?_;simp;refine tP.wQ lD uc (by decide+kernel) (by decide+kernel) ?_;simp;refine tP.wQ lD uc (by decide+kernel) (by decide+kernel) ?_;simp;refine tP.wQ lD uc (by decide+kernel) (by decide+kernel) ?_;simp;refine tP.wQ lD uc (by decide+kernel) (by decide+kernel) ?_;simp;refine tP.wQ lD uc (by decide+kernel) (by decide+kernel) ?_;simp;refine tP.wQ lD uc (by decide+kernel) (by decide+kernel) ?_;simp;refine tP.wQ lD uc (by decide+kernel) (by decide+kernel) ?_;simp;refine tP.wQ lD uc (by decide+kernel) (by decide+kernel) ?_;simp;refine tP.wQ lD uc (by decide+kernel) (by decide+kernel) ?_;simp;refine tP.wQ lD uc (by decide+kernel) (by decide+kernel) ?_;simp;refine tP.wQ lD uc (by decide+kernel) (by decide+kernel) ?_;simp;refine tP.wQ lD uc (by decide+kernel) (by decide+kernel) ?_;simp;refine tP.wQ lD uc (by decide+kernel) (by decide+kernel) ?_;simp;refine tP.wQ lD uc (by decide+kernel) (by decide+kernel) ?_;simp;refine tP.wQ lD uc (by decide+kernel) (by decide+kernel) ?_;simp;refine tP.wQ lD uc (by decide+kernel) (by decide+kernel) ?_;simp;refine tP.wQ lD uc (by decide+kernel) (by decide+kernel) ?_;simp;refine tP.wQ lD uc (by decide+kernel) (by decide+kernel) ?_;simp;simp[Jv,MJ,ME]
def n_:C2 prog 154 gi eh.av eh.av Fm.av:=by
 intro T H a0 a1 r hm;rw[gi] at hm;have e:=trivial;refine wi abf func154 [] [] 999 ?_;have⟨e,m⟩:=Ck e hm;simp[e];refine Ad (f:=ew.av) a0.known [(ew.mk a1 a0.gk.vars)] (iM.full (D:=[])) Yl e.2 ?_;cases m;simp[e]
def Gz:C1 prog 82 r5 eh.av Sq.av:=by
 intro T H a0 r hm;rw[r5] at hm;have e:=trivial;refine wi abf func82 [] [] 999 ?_;have⟨q,e,m⟩:=ep e hm;simp[e];refine Cf (wh e.2) ?_;simp[e];refine Wr e m 999 (λl d f h=>∃(c:Tag) (a:Nat) (b:Nat),h=H/\f.1 2=AV.eB 2 a 0/\f.1 3=AV.eB 3 b 0/\f.1 16=sL Fm.av a0.abh/\f.1 17=sI (eM a0.abh)/\f.1 18=sI l/\f.gen 2=a/\f.box 2=some [sI 0,sI 0,AV.slice .full [],AV.slice .full []]/\f.gen 3=b/\f.box 3=some [sI d.1,sI d.2.1,sL ed.av d.2.2.1,sT c ew.av d.2.2.2]) ⟨.full,1,1,by simp[e]⟩ (λd i n o E m=>?_) (λl s d i n o t u E e m z9 g=>?_)
 ·have⟨v11,v12,j,k⟩:=d;have⟨c,a,b,E⟩:=E;have e:=Aj e E;dsimp only[en,Qj]at m;cases m;simp[e]
 have⟨v11,v12,j,k⟩:=d;have⟨c,a,b,E⟩:=E;have e:=Aj e E;dsimp only[Qj]at m;have⟨p,e,m⟩:=ep e m;simp[e];refine Cf (n_ e.2) ?_;simp[e];cases m;exact g _ _ _ ⟨.iN,a,b,by simp[e]⟩ z9
def kC:C1 prog 211 iK Tm.av sI:=by
 intro T H a0 r hm;rw[iK] at hm;have e:=trivial;refine wi abf func211 [] [] 999 ?_;cases hm;simp[e]
def He(T:fg){H:eD}{a0 a1 b c:Int}{l:Tm}{q0 q1:Nat}(d:H[q0]?=some [sI b])(g:H[q1]?=some [sI c])(hm:tC a0 a1 b c=some l):e9 prog T 286 [sI a0,sI a1,AV.fE q0 0,AV.fE q1 0] H (Tm.av l) H:=by
 rw[tC] at hm;have j:=f_ d;have k:=f_ g;have e:=Aj (Aj (Aj j d) k) g;refine wi abf func286 [] [] 2 ?_;simp[e];refine wj 999 999 (λf h=>∃(a:Nat),h=H/\f.1 0=sI (fU (tq (fB .i64 a0 a1) b) (fj .i64 a0 c) a0)/\f.1 6=AV.eB 6 a 0/\f.gen 6=a/\f.box 6=some [sI 0,sI 0,sI 0,AV.slice .full [],AV.slice .full []]) (λo i=>?_) ?_;rotate_left
 ·rintro n p ⟨a,E⟩;have e:=Aj e E;have⟨q,e,m⟩:=ep e hm;simp[e];refine Cf (kC e.2) ?_;cases m;simp[e]
 rcases Pb (tq (fB .i64 a0 a1) b) e with e|e
 ·simp[e];exact i _ _ ⟨1,by simp[e]⟩
 simp[e];exact i _ _ ⟨1,by simp[e]⟩
def EN:∀(n:Nat),C1 prog 213 (kI n) Ty.av Ty.av:=by
  intro n
  induction n with
  |zero=>
   skip
   all_goals(intro _ _;intros;rename_i hm;cases hm)
  |succ n l=>
 intro T H a0 r hm;rw[kI] at hm;have e:=trivial;refine wi abf func213 [] [] 999 ?_;simp[e];refine Wr e hm 999 (λk s2 f h=>∃(a:Tag) (b:Nat) (c:Nat),(h=H/\f.1 2=AV.eB 2 b 0/\f.1 3=AV.eB 3 c 0/\f.1 10=sL Ty.av a0.abb/\f.1 11=sI (eM a0.abb)/\f.1 12=sI k/\f.gen 2=b/\f.box 2=some [sI 0,AV.slice .full []]/\f.gen 3=c/\f.box 3=some [sI a0.aba,sT a Ty.av s2])/\Ow f [21] a s2) (by exact⟨.full,1,1,by simp[e],iM.full⟩) (λs2 g o p E m=>?_) (λk s s2 g o p n6 t E e m q i=>?_)
 ·have⟨a,b,c,E,d⟩:=E;have e:=Aj e E;dsimp only[en]at m;cases m;simp[e]
 have⟨a,b,c,E,d⟩:=E;have e:=Aj e E;have⟨j,e,m⟩:=ep e m;simp[e];refine Cs (l e.2) ?_;have⟨e,m⟩:=Ck e m;simp[e];refine Ad (f:=Ty.av) s2 [j] d BV e.2 ?_;simp[e];cases m;exact i _ _ _ ⟨(.loc 21 (g.fN 21+1)),b,c,by simp[e],(On 21)⟩ q
def sb{n:Nat}:C1 prog 213 (kI n) Ty.av Ty.av:=(EN n)
def Cr(T:fg):∀(n:Nat),(∀{S:Type} {st:S->eD} {k:Nat} {a0:Tm} {a1:Int} {r:(S->Int->Int->Option (Tm×S))} {l:S} {C:Tm} {t:S} {q0:Nat} {q1:Nat} {u:Nat} {v:List AV} (hF:Bs st k) (o:∀s,(st s)[q0]?=some [AV.func (.func u) [] v]) (i:th T u v st r) (p:∀s,(st s)[q1]?=some [AV.func (.func 303) [] [AV.fE q0 0,AV.fE q1 0]]) (hm:h_ n a0 a1 r l=some (C,t)),e9 prog T 303 [Tm.av a0,sI a1,AV.fE q0 0,AV.fE q1 0] (st l) (Tm.av C) (st t)):=by
  intro n
  induction n with
  |zero=>
    skip
    all_goals(intro _ _;intros;rename_i hm;cases hm)
  |succ n L=>
 intro S st k a0 a1 r l C t q0 q1 u v hF o i p hm;rw[h_] at hm;have D:=λs=>f_ (o s);have F:=λs=>f_ (p s);have e:=Aj (Aj (Aj (Aj hF.len D) o) F) p;refine wi abf func303 [] [(9,false,[true,true,false,true,true,true,true,true,true,true])] 5 ?_;simp[e];rcases Io e hm with⟨e,m⟩|⟨e,m⟩
 ·apply wg 999;have⟨U,V,e,m⟩:=gq e m;simp[e];refine mW.SX (by rfl) (th.U9 i e.2) ?_;cases m;simp[e]
 apply wg 4;have⟨B,e,m⟩:=ep e m;simp[e];refine Cs (sb e.2) ?_;simp[e];refine wj 999 999 (λf h=>∃(j:Nat) (d:Nat) (g:Nat),h=st l/\f.1 1=sI (fU (eH a0.aba 2) (fj .i64 a1 1) a1)/\f.1 3=AV.fE q1 0/\f.1 4=AV.eB 4 j 0/\f.1 6=AV.eB 6 d 0/\f.1 7=AV.eB 7 g 0/\f.gen 4=j/\f.box 4=some [sI a0.aba,sI a0.abd,sI a0.dv.aba,sL Ty.av a0.dv.abb,sL Tm.av a0.abb]/\f.gen 6=d/\f.box 6=some [sI 0,sI 0,sI 0,AV.slice .full [],AV.slice .full []]/\f.gen 7=g/\f.box 7=some [sI a0.aba,sI a0.abd,sI B.aba,sL Ty.av B.abb,AV.slice .full []]) (λW x=>?_) ?_
 ·rcases Pb (eH a0.aba 2) e with e|e
  ·simp[e];exact x _ _ ⟨1,1,1,by simp[e]⟩
  simp[e];exact x _ _ ⟨1,1,1,by simp[e]⟩
 rintro M X ⟨j,d,g,E⟩;have e:=Aj e E;simp[e];refine Wr e m 999 (λK w f h=>∃(a:Tag) (b:Nat) (c:Nat),(h=st w.2/\f.1 1=sI (fU (eH a0.aba 2) (fj .i64 a1 1) a1)/\f.1 3=AV.fE q1 0/\f.1 6=AV.eB 6 b 0/\f.1 7=AV.eB 7 c 0/\f.1 32=sL Tm.av a0.abb/\f.1 33=sI (eM a0.abb)/\f.1 34=sI K/\f.gen 6=b/\f.box 6=some [sI 0,sI 0,sI 0,AV.slice .full [],AV.slice .full []]/\f.gen 7=c/\f.box 7=some [sI a0.aba,sI a0.abd,sI B.aba,sL Ty.av B.abb,sT a Tm.av w.1])/\Ow f [45] a w.1) (by exact⟨.full,d,g,by simp[e],iM.full⟩) (λw y N G E m=>?_) (λK O w y N G P Q E e m H z=>?_)
 ·have⟨A,I⟩:=w;have⟨a,b,c,E,q⟩:=E;have e:=Aj e E;dsimp only[en,mf]at m;cases m;simp[e]
 have⟨A,I⟩:=w;have⟨a,b,c,E,q⟩:=E;have e:=Aj e E;dsimp only[mf]at m;have⟨J,R,e,m⟩:=gq e m;simp[e];refine qF.SX (by rfl) (L hF o i p e.2) (by simp) ?_;have⟨e,m⟩:=Ck e m;simp[e];refine Ad (f:=Tm.av) A [J] q B1 e.2 ?_;simp[e];cases m;exact z _ _ _ ⟨(.loc 45 (y.fN 45+1)),b,c,by simp[e],(On 45)⟩ H
def Dj(T:fg){S:Type}{st:S->eD}{k:Nat}{a0:Tm}{a1:Int}{a:(S->Int->Int->Option (Tm×S))}{b:S}{i:Tm}{c:S}{q0 q1 d:Nat}{e:List AV}(hF:Bs st k)(g:∀s,(st s)[q0]?=some [AV.func (.func d) [] e])(f:th T d e st a)(h:∀s,(st s)[q1]?=some [AV.func (.func 303) [] [AV.fE q0 0,AV.fE q1 0]]){n:Nat}(hm:h_ n a0 a1 a b=some (i,c)):e9 prog T 303 [Tm.av a0,sI a1,AV.fE q0 0,AV.fE q1 0] (st b) (Tm.av i) (st c):=(Cr T n) hF g f h hm
def zx(T:fg){S:Type}{st:S->eD}{k:Nat}{a0:Tm}{a1:(S->Int->Int->Option (Tm×S))}{c:S}{d:Tm}{b:S}{g1:Nat}{a:List AV}(hF:Bs st k)(f:th T g1 a st a1)(hm:oR a0 a1 c=some (d,b)):e9 prog T 285 [Tm.av a0,AV.func (.func g1) [] a] (st c) (Tm.av d) (st b):=by
 rw[oR] at hm;refine fH.UA hF (Post:=λx K=>x=Tm.av d/\∃X,K=(st b)++X) ?_ (λ_ _ h=>⟨_,h.2.choose,h.2.choose_spec,by rw[h.1];simp[AV.low,AV.jf],h.1,rfl⟩);have e:=hF.len;refine wi abf func285 [3,5] [] 999 ?_;have⟨g,s2,e,m⟩:=gq e hm;simp[e];refine mW.SX (by rfl) (Dj T (st:=λs=>st s++[[AV.func (.func g1) [] a],[AV.func (.func 303) [] [AV.fE k 0,AV.fE (k+1) 0]]]) (Bs.ext hF _ (n:=k+2) (by simp)) (λ_=>(by simp[e])) (th.ext f) (λ_=>(by simp[e])) e.2) ?_;cases m;simp[e]
def Ed(T:fg){H:eD}{a0:Tm}{a1 a2:Int}{a:Tm}(hm:rC a0 a1 a2=some a):e9 prog T 254 [Tm.av a0,sI a1,sI a2] H (Tm.av a) H:=by
 rw[rC] at hm;refine fH.tY (Post:=λx K=>x=Tm.av a/\∃X,K=H++X) ?_ (λ_ _ h=>⟨_,h.2.choose_spec,by rw[h.1];simp[AV.low,AV.jf],h.1,rfl⟩);have e:=trivial;refine wi abf func254 [4,5] [] 999 ?_;have⟨c,s2,e,m⟩:=gq e hm;simp[e];refine Cf (zx T (st:=λ_:Unit=>H++[[sI a1],[sI a2]]) (Bs.const _) (λX _ _ _ _ _ h=>by obtain⟨b,rfl⟩:=uO h;exact He T (q0:=(List.length H)) (q1:=(List.length H+1)) (by simp[e]) (by simp[e]) b) e.2) ?_;cases m;simp[e]
def y7(T:fg){H:eD}{a0:Tm}{a1 a b:Int}{h:Tm}{q0 q1:Nat}(c:H[q0]?=some [sI a])(d:H[q1]?=some [sI b])(hm:m0 a0 a1 a b=some h):e9 prog T 253 [Tm.av a0,sI a1,AV.fE q0 0,AV.fE q1 0] H (Tm.av h) H:=by
 rw[m0] at hm;have f:=f_ c;have g:=f_ d;have e:=Aj (Aj (Aj f c) g) d;refine wi abf func253 [] [] 999 ?_;have⟨i,e,m⟩:=ep e hm;simp[e];refine Cf (Ed T e.2) ?_;cases m;simp[e]
def vR:C1 prog 214 nr sB sI:=by
 intro T H a0 r hm;rw[nr] at hm;have e:=trivial;refine wi abf func214 [] [] 2 ?_;simp[e];refine wj 999 999 (λf h=>h=H/\f.1 2=sB (fU (tq a0 4) (Jx a0 7) false)) (λc a=>?_) ?_;rotate_left
 ·rintro b d E;have e:=Aj e E;cases hm;simp[e]
 rcases Pb (tq a0 4) e with e|e
 ·simp[e];exact a _ _ (by simp[e])
 simp[e];exact a _ _ (by simp[e])
def xT(T:fg):∀(n:Nat),(∀{S:Type} {st:S->eD} {k:Nat} {a0:Fm} {a1:Int} {a2:(S->Tm->Int->Option (Tm×S))} {B:S} {M:Fm} {x:S} {g2:Nat} {p:List AV} (hF:Bs st k) (C:BH T g2 p st a2) (hm:fq n a0 a1 a2 B=some (M,x)),e9 prog T 155 [Fm.av a0,sI a1,AV.func (.func g2) [] p] (st B) (Fm.av M) (st x)):=by
  intro n
  induction n with
  |zero=>
    skip
    all_goals(intro _ _;intros;rename_i hm;cases hm)
  |succ n V=>
 intro S st k a0 a1 a2 B M x g2 p hF C hm;rw[fq] at hm;have e:=hF.len;refine wi abf func155 [] [] 999 ?_;have⟨G,e,m⟩:=ep e hm;simp[e];refine Cs (sb e.2) ?_;simp[e];refine Wr e m 0 (λR D f h=>∃(b:Tag) (g:Nat) (i:Nat) (j:Nat),(h=st D.2/\f.1 1=sI a1/\f.1 2=AV.func (.func g2) [] p/\f.1 3=AV.eB 3 g 0/\f.1 6=AV.eB 6 i 0/\f.1 7=AV.eB 7 j 0/\f.1 19=sL Tm.av a0.ek/\f.1 20=sI (eM a0.ek)/\f.1 21=sI R/\f.gen 3=g/\f.box 3=some [sI a0.aba,sI a0.dv.aba,sL Ty.av a0.dv.abb,sL Tm.av a0.ek,sL Fm.av a0.abb]/\f.gen 6=i/\f.box 6=some [sI 0,sI 0,AV.slice .full [],AV.slice .full [],AV.slice .full []]/\f.gen 7=j/\f.box 7=some [sI a0.aba,sI G.aba,sL Ty.av G.abb,sT b Tm.av D.1,AV.slice .full []])/\Ow f [32] b D.1) (by exact⟨.full,1,1,1,by simp[e],iM.full⟩) (λD H W X E m=>?_) (λR x6 D H W X n7 c8 E e m z9 I=>?_);rotate_left
 ·have⟨v11,v12⟩:=D;have⟨b,g,i,j,E,v⟩:=E;have e:=Aj e E;dsimp only[mf]at m;apply wg 999;have⟨N,Y,e,m⟩:=gq e m;simp[e];refine qF.SX (by rfl) (BH.U9 C e.2) (by simp) ?_;have⟨e,m⟩:=Ck e m;simp[e];refine Ad (f:=Tm.av) v11 [N] v B1 e.2 ?_;simp[e];cases m;exact I _ _ _ ⟨(.loc 32 (H.fN 32+1)),g,i,j,by simp[e],(On 32)⟩ z9
 have⟨v11,v12⟩:=D;have⟨b,g,i,j,E,v⟩:=E;have e:=Aj e E;apply wg 5;dsimp only[en,mf]at m;simp[e];refine Wj m 999 999 (λJ f h=>∃(y:Int) (c:Tag) (s:Nat) (q:Nat) (r:Nat),(h=st v12/\f.1 1=sI y/\f.1 2=AV.func (.func g2) [] p/\f.1 3=AV.eB 3 s 0/\f.1 6=AV.eB 6 q 0/\f.1 7=AV.eB 7 r 0/\f.gen 3=s/\f.box 3=some [sI a0.aba,sI a0.dv.aba,sL Ty.av a0.dv.abb,sL Tm.av a0.ek,sL Fm.av a0.abb]/\f.gen 6=q/\f.box 6=some [sI 0,sI 0,AV.slice .full [],AV.slice .full [],AV.slice .full []]/\f.gen 7=r/\f.box 7=some [sI a0.aba,sI G.aba,sL Ty.av G.abb,sT c Tm.av v11,AV.slice .full []])/\Ow f [32] c v11/\J y=some (M,x)) (λJ Z z m=>?_) ?_
 ·have⟨aa,e,m⟩:=ep e m;simp[e];refine Cf (vR e.2) ?_;rcases Io e m with⟨e,m⟩|⟨e,m⟩;rotate_left
  ·simp[e];exact z _ _ ⟨a1,b,g,i,j,by simp[e],v,m⟩
  simp[e];exact z _ _ ⟨(fj .i64 a1 1),b,g,i,j,by simp[e],v,m⟩
 rintro U ab ⟨y,c,s,q,r,E,F,m⟩;have e:=Aj e E;simp[e];refine Wr e m 999 (λK t f h=>∃(a:Tag) (d:Tag) (l:Nat) (o:Nat),(h=st t.2/\f.1 1=sI y/\f.1 2=AV.func (.func g2) [] p/\f.1 6=AV.eB 6 l 0/\f.1 7=AV.eB 7 o 0/\f.1 41=sL Fm.av a0.abb/\f.1 42=sI (eM a0.abb)/\f.1 43=sI K/\f.gen 6=l/\f.box 6=some [sI 0,sI 0,AV.slice .full [],AV.slice .full [],AV.slice .full []]/\f.gen 7=o/\f.box 7=some [sI a0.aba,sI G.aba,sL Ty.av G.abb,sT a Tm.av v11,sT d Fm.av t.1])/\Ow f [32] a v11/\Ow f [54] d t.1) (by exact⟨c,.full,q,r,by simp[e],F,iM.full⟩) (λt A O P E m=>?_) (λK ad t A O P ae af E e m z28 L=>?_)
 ·have⟨v30,v31⟩:=t;have⟨a,d,l,o,E,w,u⟩:=E;have e:=Aj e E;dsimp only[en,mf]at m;cases m;simp[e]
 have⟨v30,v31⟩:=t;have⟨a,d,l,o,E,w,u⟩:=E;have e:=Aj e E;dsimp only[mf]at m;have⟨Q,ah,e,m⟩:=gq e m;simp[e];refine Cs (V hF C e.2) ?_;have⟨e,m⟩:=Ck e m;simp[e];refine Ad (f:=Fm.av) v30 [Q] u Cl e.2 ?_;simp[e];cases m;exact L _ _ _ ⟨a,(.loc 54 (A.fN 54+1)),l,o,by simp[e],(iM.other w u (by decide) (by decide)),(On 54)⟩ z28
def m6(T:fg){S:Type}{st:S->eD}{k:Nat}{a0:Fm}{a1:Int}{a2:(S->Tm->Int->Option (Tm×S))}{b:S}{e:Fm}{c:S}{g2:Nat}{a:List AV}(hF:Bs st k)(d:BH T g2 a st a2){n:Nat}(hm:fq n a0 a1 a2 b=some (e,c)):e9 prog T 155 [Fm.av a0,sI a1,AV.func (.func g2) [] a] (st b) (Fm.av e) (st c):=(xT T n) hF d hm
def oO(T:fg){H:eD}{a0:Fm}{a1 a2:Int}{a:Fm}(hm:fR a0 a1 a2=some a):e9 prog T 206 [Fm.av a0,sI a1,sI a2] H (Fm.av a) H:=by
 rw[fR] at hm;refine fH.tY (Post:=λx K=>x=Fm.av a/\∃X,K=H++X) ?_ (λ_ _ h=>⟨_,h.2.choose_spec,by rw[h.1];simp[AV.low,AV.jf],h.1,rfl⟩);have e:=trivial;refine wi abf func206 [4,5] [] 999 ?_;have⟨c,s2,e,m⟩:=gq e hm;simp[e];refine Cf (m6 T (st:=λ_:Unit=>H++[[sI a1],[sI a2]]) (Bs.const _) (λX _ _ _ _ _ h=>by obtain⟨b,rfl⟩:=uO h;exact y7 T (q0:=(List.length H)) (q1:=(List.length H+1)) (by simp[e]) (by simp[e]) b) e.2) ?_;cases m;simp[e]
def AS:C2 prog 190 k_ (t2 Fm.av sB) eh.av sI:=by
 intro T H a0 a1 r hm;rw[k_] at hm;have e:=trivial;refine wi abf func190 [] [] 999 ?_;rcases Io e hm with⟨e,m⟩|⟨e,m⟩
 ·cases m;simp[e]
 have⟨a,e,m⟩:=ep e m;have⟨b,e,m⟩:=ep e m;simp[e];refine Cf (oO T e.2) ?_;cases m;simp[e]
def yH(T:fg){H:eD}{a0:List Fm}{a1:Pf}{a2:eh}{b:ec}{c:Int}{d:Nat}(a:KC H d a0)(hm:oZ a0 a1 a2=some (b,c)):e9 prog T 139 [AV.fE d 0,Pf.av a1,eh.av a2] H (AV.tuple [ec.av b,sI c]) H:=by
 rw[oZ] at hm;have e:=a;refine wi abf func139 [] [] 999 ?_;have⟨f,g,e,m⟩:=gq e hm;simp[e];refine Cf (AS e.2) ?_;rcases Io e m with⟨e,m⟩|⟨e,m⟩
 ·cases m;simp[e]
 cases m;simp[e]
def xU(T:fg){H:eD}{a0:List Fm}{a1:Pf}{a2:eh}{b:ec}{c:Int}{d:Nat}(a:KC H d a0)(hm:nN a0 a1 a2=some (b,c)):e9 prog T 140 [AV.fE d 0,Pf.av a1,eh.av a2] H (AV.tuple [ec.av b,sI c]) H:=by
 rw[nN] at hm;have e:=a;refine wi abf func140 [] [(1,true,[]),(3,true,[])] 999 ?_;rcases Io e hm with⟨e,m⟩|⟨e,m⟩
 ·cases m;simp[e]
 have⟨f,e,m⟩:=ep e m;cases m;simp[e]
def Eb:C2 prog 191 z7 Fm.av sI (sL Fm.av):=by
 intro T H a0 a1 r hm;rw[z7] at hm;have e:=trivial;refine wi abf func191 [] [] 999 ?_;cases hm;simp[e]
def nF:C3 prog 193 eV sI e_.av sI sI:=by
 intro T H a0 a1 a2 r hm;rw[eV] at hm;have e:=trivial;refine wi abf func193 [] [] 3 ?_;simp[e];refine wj 999 999 (λf h=>h=H/\f.1 18=sB (fU (nS (fj .i64 a0.vars a1) 16) true (nS (fj .i64 a0.abh a2) 16))) (λc a=>?_) ?_;rotate_left
 ·rintro b d E;have e:=Aj e E;rcases Io e hm with⟨e,m⟩|⟨e,m⟩
  ·cases m;simp[e]
  cases m;simp[e]
 rcases Pb (nS (fj .i64 a0.vars a1) 16) e with e|e
 ·simp[e];exact a _ _ (by simp[e])
 simp[e];exact a _ _ (by simp[e])
def wo(T:fg)(a:qy T){H:eD}{a0:Tm}{b:Int}(hm:qb a0=some b):e9 prog T 266 [Tm.av a0] H (sI b) H:=by
 rw[qb] at hm;have e:=a;refine wi abf func266 [] [] 999 ?_;have⟨c,d,e,m⟩:=gq e hm;simp[e];refine Cf (sO T a e.2) ?_;cases m;simp[e]
def Dh:∀(n:Nat),C2 prog 292 (iU n) sB Tm.av Tm.av:=by
  intro n
  induction n with
  |zero=>
    skip
    all_goals(intro _ _;intros;rename_i hm;cases hm)
  |succ n q=>
 intro T H a0 a1 r hm;rw[iU] at hm;have e:=trivial;refine wi abf func292 [] [] 3 ?_;simp[e];refine Wj hm 999 999 (λl f h=>∃(v2:Bool) (c:Nat) (b:Nat),(h=H/\f.1 2=AV.eB 2 c 0/\f.1 3=AV.eB 3 b 0/\f.1 35=sB v2/\f.gen 2=c/\f.box 2=some [sI a0.aba,sI a0.abd,sI a0.dv.aba,sL Ty.av a0.dv.abb,sL Tm.av a0.abb]/\f.gen 3=b/\f.box 3=some [sI a1.aba,sI a1.abd,sI a1.dv.aba,sL Ty.av a1.dv.abb,sL Tm.av a1.abb])/\l v2=some r) (λl z d m=>?_) ?_
 ·rcases Io e m with⟨e,m⟩|⟨e,m⟩
  ·simp[e];exact d _ _ ⟨true,1,1,by simp[e],m⟩
  rcases Io e m with⟨e,m⟩|⟨e,m⟩
  ·simp[e];exact d _ _ ⟨true,1,1,by simp[e],m⟩
  have⟨A,e,m⟩:=ep e m;simp[e];refine Cf (pk e.2) ?_;rcases Io e m with⟨e,m⟩|⟨e,m⟩;rotate_left
  ·simp[e];exact d _ _ ⟨true,1,1,by simp[e],m⟩
  simp[e];exact d _ _ ⟨(eW (eM a0.abb) (eM a1.abb)),1,1,by simp[e],m⟩
 rintro s B ⟨v2,c,b,E,m⟩;have e:=Aj e E;rcases Io e m with⟨e,m⟩|⟨e,m⟩
 ·cases m;simp[e]
 simp[e];refine Wr e m 999 (λo p f h=>∃(a:Nat),h=H/\f.1 3=AV.eB 3 a 0/\f.1 37=sL Tm.av a0.abb/\f.1 38=sI (eM a0.abb)/\f.1 39=sI o/\f.gen 3=a/\f.box 3=some [sI a1.aba,sI a1.abd,sI a1.dv.aba,sL Ty.av a1.dv.abb,sL Tm.av a1.abb]) ⟨b,by simp[e]⟩ (λp j t k E m=>?_) (λo u p j t k v w E e m g i=>?_)
 ·have⟨a,E⟩:=E;have e:=Aj e E;dsimp only[en]at m;cases m;simp[e]
 have⟨a,E⟩:=E;have e:=Aj e E;have⟨x,e,m⟩:=ep e m;have⟨y,e,m⟩:=ep e m;simp[e];refine Cs (q e.2) ?_;rcases Io e m with⟨e,m⟩|⟨e,m⟩;rotate_left
 ·cases m;cases g;simp[e]
 simp[e];cases m;exact i _ _ _ ⟨a,by simp[e]⟩ g
def yi{n:Nat}:C2 prog 292 (iU n) sB Tm.av Tm.av:=(Dh n)
def Bv:C2 prog 267 rk sB Tm.av Tm.av:=by
 intro T H a0 a1 r hm;rw[rk] at hm;have e:=trivial;refine wi abf func267 [] [] 999 ?_;have⟨a,e,m⟩:=ep e hm;simp[e];refine Cf (yi e.2) ?_;cases m;simp[e]
def Is(T:fg){H:eD}{a0 a1:Int}{a b:Bool}{q0:Nat}(c:H[q0]?=some [sB a])(hm:rI a0 a1 a=some b):e9 prog T 298 [sI a0,sI a1,AV.fE q0 0] H (AV.tuple []) (gj H q0 [sB b]):=by
 rw[rI] at hm;have d:=f_ c;refine fH.I8 c ?_;have e:=d;refine wi abf func298 [] [] 999 ?_;rcases Io e hm with⟨e,m⟩|⟨e,m⟩
 ·cases m;simp[e]
 cases m;simp[e]
def F9(T:fg):∀(n:Nat),(∀{S:Type} {st:S->eD} {k:Nat} {a0:Tm} {a1:Int} {l:(S->Int->Int->Option (S))} {d:S} {g:S} {q0:Nat} {q1:Nat} {o:Nat} {p:List AV} (hF:Bs st k) (i:∀s,(st s)[q0]?=some [AV.func (.func o) [] p]) (b:td T o p st l) (j:∀s,(st s)[q1]?=some [AV.func (.func 274) [] [AV.fE q0 0,AV.fE q1 0]]) (hm:jM n a0 a1 l d=some g),e9 prog T 274 [Tm.av a0,sI a1,AV.fE q0 0,AV.fE q1 0] (st d) (AV.tuple []) (st g)):=by
  intro n
  induction n with
  |zero=>
    skip
    all_goals(intro _ _;intros;rename_i hm;cases hm)
  |succ n D=>
 intro S st k a0 a1 l d g q0 q1 o p hF i b j hm;rw[jM] at hm;have x:=λs=>f_ (i s);have y:=λs=>f_ (j s);have e:=Aj (Aj (Aj (Aj hF.len x) i) y) j;refine wi abf func274 [] [] 2 ?_;simp[e];refine Wj hm 999 0 (λC f h=>∃(v2:S) (a:Nat),(h=st v2/\f.1 1=sI a1/\f.1 3=AV.fE q1 0/\f.1 4=AV.eB 4 a 0/\f.gen 4=a/\f.box 4=some [sI a0.aba,sI a0.abd,sI a0.dv.aba,sL Ty.av a0.dv.abb,sL Tm.av a0.abb])/\C v2=some g) (λC M r m=>?_) ?_
 ·rcases Io e m with⟨e,m⟩|⟨e,m⟩;rotate_left
  ·simp[e];exact r _ _ ⟨d,1,by simp[e],m⟩
  have⟨F,e,m⟩:=ep e m;simp[e];refine mW.SX (by rfl) (td.U9 b e.2) ?_;simp[e];exact r _ _ ⟨F,1,by simp[e],m⟩
 rintro G N ⟨v2,a,E,m⟩;have e:=Aj e E;refine wj 999 999 (λf h=>∃(c:Nat),h=st v2/\f.1 1=sI (fU (eH a0.aba 2) (fj .i64 a1 1) a1)/\f.1 3=AV.fE q1 0/\f.1 4=AV.eB 4 c 0/\f.gen 4=c/\f.box 4=some [sI a0.aba,sI a0.abd,sI a0.dv.aba,sL Ty.av a0.dv.abb,sL Tm.av a0.abb]) (λO t=>?_) ?_
 ·rcases Pb (eH a0.aba 2) e with e|e
  ·simp[e];exact t _ _ ⟨a,by simp[e]⟩
  simp[e];exact t _ _ ⟨a,by simp[e]⟩
 rintro H P ⟨c,E⟩;have e:=Aj e E;simp[e];refine Wr e m 999 (λu q f h=>h=st q/\f.1 1=sI (fU (eH a0.aba 2) (fj .i64 a1 1) a1)/\f.1 3=AV.fE q1 0/\f.1 22=sL Tm.av a0.abb/\f.1 23=sI (eM a0.abb)/\f.1 24=sI u) (by simp[e]) (λq v z A E m=>?_) (λu I q v z A J K E e m B w=>?_)
 ·have e:=Aj e E;dsimp only[en]at m;cases m;simp[e]
 have e:=Aj e E;have⟨L,e,m⟩:=ep e m;simp[e];refine mW.SX (by rfl) (D hF i b j e.2) ?_;simp[e];cases m;exact w _ _ _ (by simp[e]) B
def HK(T:fg){S:Type}{st:S->eD}{k:Nat}{a0:Tm}{a1:Int}{a:(S->Int->Int->Option (S))}{b c:S}{q0 q1 d:Nat}{e:List AV}(hF:Bs st k)(g:∀s,(st s)[q0]?=some [AV.func (.func d) [] e])(f:td T d e st a)(h:∀s,(st s)[q1]?=some [AV.func (.func 274) [] [AV.fE q0 0,AV.fE q1 0]]){n:Nat}(hm:jM n a0 a1 a b=some c):e9 prog T 274 [Tm.av a0,sI a1,AV.fE q0 0,AV.fE q1 0] (st b) (AV.tuple []) (st c):=(F9 T n) hF g f h hm
def yz(T:fg){S:Type}{st:S->eD}{k:Nat}{a0:Tm}{a1:(S->Int->Int->Option (S))}{c b:S}{g1:Nat}{a:List AV}(hF:Bs st k)(d:td T g1 a st a1)(hm:rH a0 a1 c=some b):e9 prog T 243 [Tm.av a0,AV.func (.func g1) [] a] (st c) (AV.tuple []) (st b):=by
 rw[rH] at hm;refine fH.UA hF (Post:=λx K=>x=AV.tuple []/\∃X,K=(st b)++X) ?_ (λ_ _ h=>⟨_,h.2.choose,h.2.choose_spec,by rw[h.1];simp[AV.low,AV.jf],h.1,rfl⟩);have e:=hF.len;refine wi abf func243 [3,4] [] 999 ?_;have⟨s1,e,m⟩:=ep e hm;simp[e];refine mW.SX (by rfl) (HK T (st:=λs=>st s++[[AV.func (.func g1) [] a],[AV.func (.func 274) [] [AV.fE k 0,AV.fE (k+1) 0]]]) (Bs.ext hF _ (n:=k+2) (by simp)) (λ_=>(by simp[e])) (td.ext d) (λ_=>(by simp[e])) e.2) ?_;cases m;simp[e]
def LM(T:fg){H:eD}{a0:Tm}{a:Bool}(hm:xc a0=some a):e9 prog T 280 [Tm.av a0] H (sB a) H:=by
 rw[xc] at hm;refine fH.tY (Post:=λx K=>x=sB a/\∃X,K=H++X) ?_ (λ_ _ h=>⟨_,h.2.choose_spec,by rw[h.1];simp[AV.low,AV.jf],h.1,rfl⟩);have e:=trivial;refine wi abf func280 [3] [] 999 ?_;have⟨s1,e,m⟩:=ep e hm;simp[e];refine Cf (yz T (st:=λs:Bool=>H++[[sB s]]) (Bs.Sh H (λs:Bool=>[[sB s]]) 1 (λ_=>rfl) (by simp[AV.low,AV.jf])) (λX s _ _ b h=>by have:=Is T (H:=H++[[sB s]]++X) (q0:=(List.length H)) (by simp[e]) h;simpa using this) e.2) ?_;cases m;simp[e]
def qU(T:fg){H:eD}{a0 a1:Int}{a2:Ty}{a3:(List (Option Nat))}{nh:List HC}{C:Option Nat}{p:List HC}(hm:km a0 a1 a2 a3 nh=some (C,p)):e9 prog T 299 [sI a0,sI a1,Ty.av a2,sL (m5 (List.length H)) a3] (H++iF (List.length H) nh) (m5 (List.length H) C) (H++iF (List.length H) p):=by
 rw[km] at hm;have e:=trivial;refine wi abf func299 [17] [(5,false,[true,true,true,false,true,true,true,false,true,true,true,false]),(6,false,[true,true,true,true,false,true,true,true,false,true,true,true,false])] 999 ?_;have D:iF (List.length H) nh++[[sI a0,sI a1,sI a2.aba,sL Ty.av a2.abb,sL (m5 (List.length H)) a3,sI 1,sI 0,sB false]]=iF (List.length H) (nh++[HC.eS (eR.mk a0 a1 a2 a3 1 0 false)]):=II rfl;have e:=Aj e D;have F:(nh++[HC.eS (eR.mk a0 a1 a2 a3 1 0 false)])[(List.length nh)]?=some (HC.eS (eR.mk a0 a1 a2 a3 1 0 false)):=Oa;have e:=Aj e F;simp[e];refine Wr e hm 0 (λJ g f h=>h=H++iF (List.length H) g/\f.1 0=sI a0/\f.1 1=sI a1/\f.1 9=AV.fE (List.length H+(List.length nh)) 0/\f.1 18=sL (m5 (List.length H)) a3/\f.1 19=sI (eM a3)/\f.1 20=sI J) (by simp[e]) (λg G M N E m=>?_) (λJ R g G M N S U E e m I r=>?_);rotate_left
 ·have e:=Aj e E;have K:=e;apply wg 999;have⟨a,e,m⟩:=ep e m;have k:=HC.ez e.2;have e:=Aj e.1 k;have⟨O,e,m⟩:=ep e m;have⟨d,e,m⟩:=ep e m;have s:=HC.ez e.2;have e:=Aj e.1 s;have t:gj (iF (List.length H) g) (List.length nh) [sI a.aba,sI a.abd,sI a.pF.aba,sL Ty.av a.pF.abb,sL (m5 (List.length H)) a.abb,sI (fj .i64 a.size d.size),sI a.free,sB a.normal]=iF (List.length H) (kx g (List.length nh) (HC.eS (eR.mk a.aba a.abd a.pF a.abb (fj .i64 a.size d.size) a.free a.normal))):=p9 rfl;have e:=Aj e t;have l:(kx g (List.length nh) (HC.eS (eR.mk a.aba a.abd a.pF a.abb (fj .i64 a.size d.size) a.free a.normal)))[(List.length nh)]?=some (HC.eS (eR.mk a.aba a.abd a.pF a.abb (fj .i64 a.size d.size) a.free a.normal)):=vZ k;have e:=Aj e l;have⟨j,e,m⟩:=ep e m;have u:=HC.ez e.2;have e:=Aj e.1 u;have v:gj (iF (List.length H) (kx g (List.length nh) (HC.eS (eR.mk a.aba a.abd a.pF a.abb (fj .i64 a.size d.size) a.free a.normal)))) (List.length nh) [sI a.aba,sI a.abd,sI a.pF.aba,sL Ty.av a.pF.abb,sL (m5 (List.length H)) a.abb,sI (fj .i64 a.size d.size),sI (imax a.free j.free),sB a.normal]=iF (List.length H) (kx (kx g (List.length nh) (HC.eS (eR.mk a.aba a.abd a.pF a.abb (fj .i64 a.size d.size) a.free a.normal))) (List.length nh) (HC.eS (eR.mk a.aba a.abd a.pF a.abb (fj .i64 a.size d.size) (imax a.free j.free) a.normal))):=p9 rfl;have e:=Aj e v;have w:(kx (kx g (List.length nh) (HC.eS (eR.mk a.aba a.abd a.pF a.abb (fj .i64 a.size d.size) a.free a.normal))) (List.length nh) (HC.eS (eR.mk a.aba a.abd a.pF a.abb (fj .i64 a.size d.size) (imax a.free j.free) a.normal)))[(List.length nh)]?=some (HC.eS (eR.mk a.aba a.abd a.pF a.abb (fj .i64 a.size d.size) (imax a.free j.free) a.normal)):=vZ l;have e:=Aj e w;simp[e];cases m;exact r _ _ _ (by simp[e]) I
 have e:=Aj e E;apply wg 5;dsimp only[en]at m;simp[e];refine Wj m 999 999 (λx f h=>∃(q:List HC),(h=H++iF (List.length H) q/\f.1 9=AV.fE (List.length H+(List.length nh)) 0)/\x q=some (C,p)) (λx P i m=>?_) ?_;rotate_left
 ·rintro L Q ⟨q,E,m⟩;have e:=Aj e E;cases m;simp[e]
 rcases Io e m with⟨e,m⟩|⟨e,m⟩
 ·have⟨c,e,m⟩:=ep e m;have n:=HC.ez e.2;have e:=Aj e.1 n;have y:gj (iF (List.length H) g) (List.length nh) [sI c.aba,sI c.abd,sI c.pF.aba,sL Ty.av c.pF.abb,sL (m5 (List.length H)) c.abb,sI c.size,sI (fj .i64 a1 1),sB c.normal]=iF (List.length H) (kx g (List.length nh) (HC.eS (eR.mk c.aba c.abd c.pF c.abb c.size (fj .i64 a1 1) c.normal))):=p9 rfl;have e:=Aj e y;have z:(kx g (List.length nh) (HC.eS (eR.mk c.aba c.abd c.pF c.abb c.size (fj .i64 a1 1) c.normal)))[(List.length nh)]?=some (HC.eS (eR.mk c.aba c.abd c.pF c.abb c.size (fj .i64 a1 1) c.normal)):=vZ n;have e:=Aj e z;simp[e];exact i _ _ ⟨(kx g (List.length nh) (HC.eS (eR.mk c.aba c.abd c.pF c.abb c.size (fj .i64 a1 1) c.normal))),by simp[e],m⟩
 rcases Io e m with⟨e,m⟩|⟨e,m⟩;rotate_left
 ·simp[e];exact i _ _ ⟨g,by simp[e],m⟩
 have⟨b,e,m⟩:=ep e m;have o:=HC.ez e.2;have e:=Aj e.1 o;have A:gj (iF (List.length H) g) (List.length nh) [sI b.aba,sI b.abd,sI b.pF.aba,sL Ty.av b.pF.abb,sL (m5 (List.length H)) b.abb,sI b.size,sI (imax 0 (fB .i64 b.free 1)),sB b.normal]=iF (List.length H) (kx g (List.length nh) (HC.eS (eR.mk b.aba b.abd b.pF b.abb b.size (imax 0 (fB .i64 b.free 1)) b.normal))):=p9 rfl;have e:=Aj e A;have B:(kx g (List.length nh) (HC.eS (eR.mk b.aba b.abd b.pF b.abb b.size (imax 0 (fB .i64 b.free 1)) b.normal)))[(List.length nh)]?=some (HC.eS (eR.mk b.aba b.abd b.pF b.abb b.size (imax 0 (fB .i64 b.free 1)) b.normal)):=vZ o;have e:=Aj e B;simp[e];exact i _ _ ⟨(kx g (List.length nh) (HC.eS (eR.mk b.aba b.abd b.pF b.abb b.size (imax 0 (fB .i64 b.free 1)) b.normal))),by simp[e],m⟩
def HP(T:fg):∀(n:Nat),(∀{H:eD} {a0:Tm} {nh:List HC} {i:Option Nat} {d:List HC} (hm:qq n a0 nh=some (i,d)),e9 prog T 281 [Tm.av a0] (H++iF (List.length H) nh) (m5 (List.length H) i) (H++iF (List.length H) d)):=by
  intro n
  induction n with
  |zero=>
   skip
   all_goals(intro _ _;intros;rename_i hm;cases hm)
  |succ n r=>
 intro H a0 nh i d hm;rw[qq] at hm;have e:=trivial;refine wi abf func281 [] [] 999 ?_;simp[e];refine Wr e hm 999 (λl s2 f h=>∃(a:Tag) (b:Nat),(h=H++iF (List.length H) s2.2/\f.1 1=AV.eB 1 b 0/\f.1 3=sT a (m5 (List.length H)) s2.1/\f.1 7=sL Tm.av a0.abb/\f.1 8=sI (eM a0.abb)/\f.1 9=sI l/\f.gen 1=b/\f.box 1=some [sI a0.aba,sI a0.abd,sI a0.dv.aba,sL Ty.av a0.dv.abb,sL Tm.av a0.abb])/\Ow f [17] a s2.1) (by exact⟨.full,1,by simp[e],iM.full⟩) (λs2 g s t E m=>?_) (λl w s2 g s t n6 x E e m u j=>?_)
 ·have⟨v10,v11⟩:=s2;have⟨a,b,E,c⟩:=E;have e:=Aj e E;dsimp only[en,mf]at m;have⟨v,o,e,m⟩:=gq e m;simp[e];refine Cf (qU T (H:=H) e.2) ?_;cases m;simp[e]
 have⟨v10,v11⟩:=s2;have⟨a,b,E,c⟩:=E;have e:=Aj e E;have p:=e;dsimp only[mf]at m;have⟨k,q,e,m⟩:=gq e m;simp[e];refine Cf (r (H:=H) e.2) ?_;have⟨e,m⟩:=Ck e m;simp[e];refine Ao (f:=(m5 (List.length H))) v10 [k] c N1 e.2 ?_;simp[e];cases m;exact j _ _ _ ⟨(.loc 17 (g.fN 17+1)),b,by simp[e],(On 17)⟩ u
def Kt(T:fg){H:eD}{a0:Tm}{nh:List HC}{b:Option Nat}{a:List HC}{n:Nat}(hm:qq n a0 nh=some (b,a)):e9 prog T 281 [Tm.av a0] (H++iF (List.length H) nh) (m5 (List.length H) b) (H++iF (List.length H) a):=(HP T n) hm
def BG(T:fg){H:eD}{a0:Option Nat}{nh:List HC}{b:Int}(hm:q8 a0 nh=some b):e9 prog T 301 [m5 (List.length H) a0] (H++iF (List.length H) nh) (sI b) (H++iF (List.length H) nh):=by
 rw[q8] at hm;have e:=trivial;refine wi abf func301 [] [] 999 ?_;have⟨c,e,m⟩:=ep e hm;have⟨d,e,m⟩:=ep e m;have a:=HC.ez e.2;have e:=Aj e.1 a;cases m;simp[e]
def uJ(T:fg){H:eD}{a0:Option Nat}{nh:List HC}{l:Bool}(hm:mK a0 nh=some l):e9 prog T 302 [m5 (List.length H) a0] (H++iF (List.length H) nh) (sB l) (H++iF (List.length H) nh):=by
 rw[mK] at hm;have e:=trivial;refine wi abf func302 [] [] 8 ?_;have⟨L,e,m⟩:=ep e hm;have⟨n,e,m⟩:=ep e m;have o:=HC.ez e.2;have e:=Aj e.1 o;simp[e];rcases Io e m with⟨e,m⟩|⟨e,m⟩
 ·apply wg 999;have⟨M,e,m⟩:=ep e m;have⟨N,e,m⟩:=ep e m;have⟨O,e,m⟩:=ep e m;have p:=HC.ez e.2;have e:=Aj e.1 p;cases m;simp[e]
 apply wg 3;simp[e];rcases Io e m with⟨e,m⟩|⟨e,m⟩
 ·apply wg 1;simp[e];refine Wj m 999 999 (λs f h=>∃(v9:Bool),(h=H++iF (List.length H) nh/\f.1 2=sB v9)/\s v9=some l) (λs w a m=>?_) ?_;rotate_left
  ·rintro t x ⟨v9,E,m⟩;have e:=Aj e E;cases m;simp[e]
  have⟨y,e,m⟩:=ep e m;have⟨z,e,m⟩:=ep e m;have⟨q,e,m⟩:=ep e m;have g:=HC.ez e.2;have e:=Aj e.1 g;rcases Io e m with⟨e,m⟩|⟨e,m⟩
  ·simp[e];exact a _ _ ⟨true,by simp[e],m⟩
  simp[e];exact a _ _ ⟨(eH q.aba 5),by simp[e],m⟩
 apply wg 4;rcases Io e m with⟨e,m⟩|⟨e,m⟩
 ·simp[e];refine Wj m 999 999 (λi f h=>∃(d:Bool),(h=H++iF (List.length H) nh/\f.1 2=sB d)/\i d=some l) (λi A b m=>?_) ?_;rotate_left
  ·rintro u B ⟨d,E,m⟩;have e:=Aj e E;cases m;simp[e]
  have⟨C,e,m⟩:=ep e m;have⟨D,e,m⟩:=ep e m;have⟨r,e,m⟩:=ep e m;have j:=HC.ez e.2;have e:=Aj e.1 j;rcases Io e m with⟨e,m⟩|⟨e,m⟩
  ·simp[e];exact b _ _ ⟨true,by simp[e],m⟩
  simp[e];exact b _ _ ⟨(eH r.aba 8),by simp[e],m⟩
 simp[e];refine wj 999 999 (λf h=>h=H++iF (List.length H) nh/\f.1 0=m5 (List.length H) a0/\f.1 67=sB (fU (eH n.aba 11) true (eH n.aba 12))) (λF c=>?_) ?_
 ·rcases Pb (eH n.aba 11) e with e|e
  ·simp[e];exact c _ _ (by simp[e])
  simp[e];exact c _ _ (by simp[e])
 rintro v G E;have e:=Aj e E;rcases Io e m with⟨e,m⟩|⟨e,m⟩;rotate_left
 ·cases m;simp[e]
 have⟨I,e,m⟩:=ep e m;have⟨J,e,m⟩:=ep e m;have⟨K,e,m⟩:=ep e m;have k:=HC.ez e.2;have e:=Aj e.1 k;cases m;simp[e]
def rp(T:fg){H:eD}{a0:Option Nat}{nh:List HC}{b:Int}(hm:iW a0 nh=some b):e9 prog T 317 [m5 (List.length H) a0] (H++iF (List.length H) nh) (sI b) (H++iF (List.length H) nh):=by
 rw[iW] at hm;have e:=trivial;refine wi abf func317 [] [] 999 ?_;have⟨c,e,m⟩:=ep e hm;have⟨d,e,m⟩:=ep e m;have a:=HC.ez e.2;have e:=Aj e.1 a;rcases Io e m with⟨e,m⟩|⟨e,m⟩
 ·cases m;simp[e]
 cases m;simp[e]
def Al(T:fg):∀(n:Nat),(∀{H:eD} {a0:Option Nat} {a1:Int} {nh:List HC} {b:Int} (hm:kh n a0 a1 nh=some b),e9 prog T 311 [m5 (List.length H) a0,sI a1] (H++iF (List.length H) nh) (sI b) (H++iF (List.length H) nh)):=by
  intro n
  induction n with
  |zero=>
    skip
    all_goals(intro _ _;intros;rename_i hm;cases hm)
  |succ n o=>
 intro H a0 a1 nh b hm;rw[kh] at hm;have e:=trivial;refine wi abf func311 [] [] 999 ?_;have⟨u,e,m⟩:=ep e hm;have⟨j,e,m⟩:=ep e m;have c:=HC.ez e.2;have e:=Aj e.1 c;rcases Io e m with⟨e,m⟩|⟨e,m⟩
 ·cases m;simp[e]
 rcases Io e m with⟨e,m⟩|⟨e,m⟩
 ·rcases Io e m with⟨e,m⟩|⟨e,m⟩
  ·cases m;simp[e]
  cases m;simp[e]
 simp[e];refine Wr e m 999 (λk d f h=>h=H++iF (List.length H) nh/\f.1 0=m5 (List.length H) a0/\f.1 1=sI a1/\f.1 5=sI d/\f.1 28=sL (m5 (List.length H)) j.abb/\f.1 29=sI (eM j.abb)/\f.1 30=sI k) (by simp[e]) (λd g p q E m=>?_) (λk v d g p q w r E e m i a=>?_)
 ·have e:=Aj e E;dsimp only[en]at m;cases m;simp[e]
 have e:=Aj e E;have l:=e;have⟨s,e,m⟩:=ep e m;simp[e];refine Cf (rp T (H:=H) e.2) ?_;have⟨t,e,m⟩:=ep e m;simp[e];refine Cf (o (H:=H) e.2) ?_;simp[e];cases m;exact a _ _ _ (by simp[e]) i
def Bb(T:fg){H:eD}{a0:Option Nat}{a1:Int}{nh:List HC}{a:Int}{n:Nat}(hm:kh n a0 a1 nh=some a):e9 prog T 311 [m5 (List.length H) a0,sI a1] (H++iF (List.length H) nh) (sI a) (H++iF (List.length H) nh):=(Al T n) hm
def pI(T:fg){H:eD}{a0:Option Nat}{a1:(List (Option Nat))}{nh:List HC}{c:Option Nat}{a:List HC}(hm:gW a0 a1 nh=some (c,a)):e9 prog T 309 [m5 (List.length H) a0,sL (m5 (List.length H)) a1] (H++iF (List.length H) nh) (m5 (List.length H) c) (H++iF (List.length H) a):=by
 rw[gW] at hm;have e:=trivial;refine wi abf func309 [] [(1,false,[true,true,true,false,true,true,true,false,true,true,true,false,true,true,true])] 999 ?_;have⟨f,e,m⟩:=ep e hm;have⟨g,e,m⟩:=ep e m;have b:=HC.ez e.2;have e:=Aj e.1 b;have⟨h,d,e,m⟩:=gq e m;simp[e];refine Cs (qU T (H:=H) e.2) ?_;cases m;simp[e]
def Br(T:fg):∀(n:Nat),(∀{H:eD} {a0:Option Nat} {a1:Int} {a2:Int} {nh:List HC} {q:Option Nat} {d:List HC} (hm:jD n a0 a1 a2 nh=some (q,d)),e9 prog T 318 [m5 (List.length H) a0,sI a1,sI a2] (H++iF (List.length H) nh) (m5 (List.length H) q) (H++iF (List.length H) d)):=by
  intro n
  induction n with
  |zero=>
    skip
    all_goals(intro _ _;intros;rename_i hm;cases hm)
  |succ n A=>
 intro H a0 a1 a2 nh q d hm;rw[jD] at hm;have e:=trivial;refine wi abf func318 [] [(4,false,[true,true,true,false,true,true,true,false,true,true,true,true,true,false,true,true])] 3 ?_;simp[e];refine Wj hm 999 999 (λv f h=>∃(v2:Bool),(h=H++iF (List.length H) nh/\f.1 0=m5 (List.length H) a0/\f.1 1=sI a1/\f.1 2=sI a2/\f.1 19=sB v2)/\v v2=some (q,d)) (λv K i m=>?_) ?_
 ·have⟨L,e,m⟩:=ep e m;have⟨M,e,m⟩:=ep e m;have r:=HC.ez e.2;have e:=Aj e.1 r;rcases Io e m with⟨e,m⟩|⟨e,m⟩
  ·simp[e];exact i _ _ ⟨true,by simp[e],m⟩
  simp[e];exact i _ _ ⟨(eH a2 0),by simp[e],m⟩
 rintro B N ⟨v2,E,m⟩;have e:=Aj e E;rcases Io e m with⟨e,m⟩|⟨e,m⟩
 ·cases m;simp[e]
 have⟨O,e,m⟩:=ep e m;have⟨j,e,m⟩:=ep e m;have k:=HC.ez e.2;have e:=Aj e.1 k;rcases Io e m with⟨e,m⟩|⟨e,m⟩
 ·have⟨C,w,e,m⟩:=gq e m;simp[e];refine Cs (qU T (H:=H) e.2) ?_;cases m;simp[e]
 simp[e];refine Wr e m 999 (λl b f h=>∃(a:Tag),(h=H++iF (List.length H) b.2/\f.1 0=m5 (List.length H) a0/\f.1 1=sI a1/\f.1 2=sI a2/\f.1 7=sT a (m5 (List.length H)) b.1/\f.1 44=sL (m5 (List.length H)) j.abb/\f.1 45=sI (eM j.abb)/\f.1 46=sI l)/\Ow f [59] a b.1) (by exact⟨.full,by simp[e],iM.full⟩) (λb g s t E m=>?_) (λl D b g s t F G E e m z21 o=>?_)
 ·have⟨p,v24⟩:=b;have⟨a,E,c⟩:=E;have e:=Aj e E;dsimp only[en,mf]at m;have⟨I,x,e,m⟩:=gq e m;simp[e];refine Cf (pI T (H:=H) e.2) ?_;cases m;simp[e]
 have⟨p,v24⟩:=b;have⟨a,E,c⟩:=E;have e:=Aj e E;have y:=e;dsimp only[mf]at m;have⟨J,e,m⟩:=ep e m;simp[e];refine Cf (rp T (H:=H) e.2) ?_;have⟨u,z,e,m⟩:=gq e m;simp[e];refine Cf (A (H:=H) e.2) ?_;have⟨e,m⟩:=Ck e m;simp[e];refine Ao (f:=(m5 (List.length H))) p [u] c N1 e.2 ?_;simp[e];cases m;exact o _ _ _ ⟨(.loc 59 (g.fN 59+1)),by simp[e],(On 59)⟩ z21
def Ci(T:fg){H:eD}{a0:Option Nat}{a1 a2:Int}{nh:List HC}{b:Option Nat}{a:List HC}{n:Nat}(hm:jD n a0 a1 a2 nh=some (b,a)):e9 prog T 318 [m5 (List.length H) a0,sI a1,sI a2] (H++iF (List.length H) nh) (m5 (List.length H) b) (H++iF (List.length H) a):=(Br T n) hm
def Cm(T:fg):∀(n:Nat),(∀{H:eD} {a0:Option Nat} {a1:Int} {a2:Option Nat} {nh:List HC} {k:Option Nat} {d:List HC} (hm:jW n a0 a1 a2 nh=some (k,d)),e9 prog T 312 [m5 (List.length H) a0,sI a1,m5 (List.length H) a2] (H++iF (List.length H) nh) (m5 (List.length H) k) (H++iF (List.length H) d)):=by
  intro n
  induction n with
  |zero=>
    skip
    all_goals(intro _ _;intros;rename_i hm;cases hm)
  |succ n y=>
 intro H a0 a1 a2 nh k d hm;rw[jW] at hm;have e:=trivial;refine wi abf func312 [] [(6,false,[true,true,true,false,true,true,true,false,true,true,true,true,false,true,true])] 999 ?_;have⟨I,e,m⟩:=ep e hm;have⟨t,e,m⟩:=ep e m;have l:=HC.ez e.2;have e:=Aj e.1 l;rcases Io e m with⟨e,m⟩|⟨e,m⟩
 ·cases m;simp[e]
 rcases Io e m with⟨e,m⟩|⟨e,m⟩
 ·rcases Io e m with⟨e,m⟩|⟨e,m⟩;rotate_left
  ·have⟨J,z,e,m⟩:=gq e m;simp[e];refine Cs (qU T (H:=H) e.2) ?_;cases m;simp[e]
  have⟨K,A,e,m⟩:=gq e m;simp[e];refine Cf (Ci T (H:=H) e.2) ?_;cases m;simp[e]
 simp[e];refine Wr e m 999 (λu g f h=>∃(a:Tag),(h=H++iF (List.length H) g.2/\f.1 0=m5 (List.length H) a0/\f.1 1=sI a1/\f.1 2=m5 (List.length H) a2/\f.1 7=sT a (m5 (List.length H)) g.1/\f.1 48=sL (m5 (List.length H)) t.abb/\f.1 49=sI (eM t.abb)/\f.1 50=sI u)/\Ow f [63] a g.1) (by exact⟨.full,by simp[e],iM.full⟩) (λg c o p E m=>?_) (λu B g c o p C D E e m q i=>?_)
 ·have⟨j,r⟩:=g;have⟨a,E,b⟩:=E;have e:=Aj e E;dsimp only[en,mf]at m;have⟨F,v,e,m⟩:=gq e m;simp[e];refine Cf (pI T (H:=H) e.2) ?_;cases m;simp[e]
 have⟨j,r⟩:=g;have⟨a,E,b⟩:=E;have e:=Aj e E;have w:=e;dsimp only[mf]at m;have⟨G,e,m⟩:=ep e m;simp[e];refine Cf (rp T (H:=H) e.2) ?_;have⟨s,x,e,m⟩:=gq e m;simp[e];refine Cf (y (H:=H) e.2) ?_;have⟨e,m⟩:=Ck e m;simp[e];refine Ao (f:=(m5 (List.length H))) j [s] b N1 e.2 ?_;simp[e];cases m;exact i _ _ _ ⟨(.loc 63 (c.fN 63+1)),by simp[e],(On 63)⟩ q
def C8(T:fg){H:eD}{a0:Option Nat}{a1:Int}{a2:Option Nat}{nh:List HC}{b:Option Nat}{a:List HC}{n:Nat}(hm:jW n a0 a1 a2 nh=some (b,a)):e9 prog T 312 [m5 (List.length H) a0,sI a1,m5 (List.length H) a2] (H++iF (List.length H) nh) (m5 (List.length H) b) (H++iF (List.length H) a):=(Cm T n) hm
def D0(T:fg){H:eD}{a0:Option Nat}{a1:(List (Option Nat))}{nh:List HC}{d:Option Nat}{a:List HC}(hm:rG a0 a1 nh=some (d,a)):e9 prog T 313 [m5 (List.length H) a0,sL (m5 (List.length H)) a1] (H++iF (List.length H) nh) (m5 (List.length H) d) (H++iF (List.length H) a):=by
 rw[rG] at hm;have e:=trivial;refine wi abf func313 [] [] 999 ?_;simp[e];refine Wr e hm 999 (λg s2 f h=>h=H++iF (List.length H) s2.2/\f.1 0=m5 (List.length H) s2.1/\f.1 7=sL (m5 (List.length H)) a1/\f.1 8=sI (eM a1)/\f.1 9=sI g) (by simp[e]) (λs2 b k l E m=>?_) (λg p s2 b k l n6 q E e m n c=>?_)
 ·have⟨v10,v11⟩:=s2;have e:=Aj e E;dsimp only[en,mf]at m;cases m;simp[e]
 have⟨v10,v11⟩:=s2;have e:=Aj e E;have i:=e;dsimp only[mf]at m;have⟨o,j,e,m⟩:=gq e m;simp[e];refine Cf (qU T (H:=H) e.2) ?_;simp[e];cases m;exact c _ _ _ (by simp[e]) n
def sE(T:fg){H:eD}{a0:Option Nat}{nh:List HC}{i:Option Nat}{a:List HC}(hm:i_ a0 nh=some (i,a)):e9 prog T 308 [m5 (List.length H) a0] (H++iF (List.length H) nh) (m5 (List.length H) i) (H++iF (List.length H) a):=by
 rw[i_] at hm;have e:=trivial;refine wi abf func308 [] [(3,false,[true,true,true,false,true,true,true,true,false,true,true,true,true,true,false,true,true,true,true]),(8,true,[]),(11,false,[true,true,true,true,true,true,false,true,true,true,false,true,true,true,true,true,true,true])] 999 ?_;have⟨I,e,m⟩:=ep e hm;have⟨J,e,m⟩:=ep e m;have g:=HC.ez e.2;have e:=Aj e.1 g;rcases Io e m with⟨e,m⟩|⟨e,m⟩
 ·have⟨K,e,m⟩:=ep e m;have⟨L,e,m⟩:=ep e m;have⟨M,e,m⟩:=ep e m;have h:=HC.ez e.2;have e:=Aj e.1 h;have⟨N,e,m⟩:=ep e m;have⟨O,e,m⟩:=ep e m;have⟨o,j,e,m⟩:=gq e m;simp[e];refine Cs (C8 T (H:=H) e.2) ?_;cases m;simp[e]
 rcases Io e m with⟨e,m⟩|⟨e,m⟩
 ·have⟨p,e,m⟩:=ep e m;have⟨q,e,m⟩:=ep e m;have⟨r,e,m⟩:=ep e m;have b:=HC.ez e.2;have e:=Aj e.1 b;have⟨s,e,m⟩:=ep e m;cases m;simp[e]
 rcases Io e m with⟨e,m⟩|⟨e,m⟩
 ·have⟨t,e,m⟩:=ep e m;have⟨u,e,m⟩:=ep e m;have⟨v,e,m⟩:=ep e m;have c:=HC.ez e.2;have e:=Aj e.1 c;have⟨w,e,m⟩:=ep e m;cases m;simp[e]
 have⟨x,e,m⟩:=ep e m;have⟨y,e,m⟩:=ep e m;have⟨z,e,m⟩:=ep e m;have⟨A,e,m⟩:=ep e m;have⟨B,e,m⟩:=ep e m;have d:=HC.ez e.2;have e:=Aj e.1 d;rcases Io e m with⟨e,m⟩|⟨e,m⟩
 ·cases m;simp[e]
 have⟨C,e,m⟩:=ep e m;have⟨D,k,e,m⟩:=gq e m;simp[e];refine Cs (pI T (H:=H) e.2) ?_;have⟨E,e,m⟩:=ep e m;have f:=HC.ez e.2;have e:=Aj e.1 f;have⟨F,l,e,m⟩:=gq e m;simp[e];refine Cf (D0 T (H:=H) e.2) ?_;have⟨G,n,e,m⟩:=gq e m;simp[e];refine Cf (D0 T (H:=H) e.2) ?_;cases m;simp[e]
def AW(T:fg){H:eD}{a0:Option Nat}{nh:List HC}{t:Int}{a:List HC}(hm:mN a0 nh=some (t,a)):e9 prog T 307 [m5 (List.length H) a0] (H++iF (List.length H) nh) (sI t) (H++iF (List.length H) a):=by
 rw[mN] at hm;have e:=trivial;refine wi abf func307 [] [(4,true,[]),(7,true,[]),(12,true,[])] 999 ?_;have⟨x1,e,m⟩:=ep e hm;have⟨x2,e,m⟩:=ep e m;have r:=HC.ez e.2;have e:=Aj e.1 r;rcases Io e m with⟨e,m⟩|⟨e,m⟩
 ·have⟨x4,e,m⟩:=ep e m;have⟨x5,e,m⟩:=ep e m;have⟨x6,e,m⟩:=ep e m;have s:=HC.ez e.2;have e:=Aj e.1 s;have⟨x8,e,m⟩:=ep e m;have⟨x9,e,m⟩:=ep e m;have⟨v,e,m⟩:=ep e m;have b:=HC.ez e.2;have e:=Aj e.1 b;have⟨w,e,m⟩:=ep e m;simp[e];refine Cs (Bb T (H:=H) e.2) ?_;have⟨x,e,m⟩:=ep e m;have⟨y,e,m⟩:=ep e m;have⟨z,e,m⟩:=ep e m;have c:=HC.ez e.2;have e:=Aj e.1 c;cases m;simp[e]
 rcases Io e m with⟨e,m⟩|⟨e,m⟩
 ·have⟨A,e,m⟩:=ep e m;have⟨B,e,m⟩:=ep e m;have⟨C,e,m⟩:=ep e m;have d:=HC.ez e.2;have e:=Aj e.1 d;rcases Io e m with⟨e,m⟩|⟨e,m⟩;rotate_left
  ·have⟨D,e,m⟩:=ep e m;have⟨E,e,m⟩:=ep e m;have⟨F,e,m⟩:=ep e m;have f:=HC.ez e.2;have e:=Aj e.1 f;cases m;simp[e]
  have⟨G,e,m⟩:=ep e m;have⟨I,e,m⟩:=ep e m;have⟨J,e,m⟩:=ep e m;have g:=HC.ez e.2;have e:=Aj e.1 g;have⟨K,e,m⟩:=ep e m;have⟨L,e,m⟩:=ep e m;have⟨M,e,m⟩:=ep e m;have h:=HC.ez e.2;have e:=Aj e.1 h;have⟨N,e,m⟩:=ep e m;have⟨O,e,m⟩:=ep e m;have⟨P,e,m⟩:=ep e m;have i:=HC.ez e.2;have e:=Aj e.1 i;cases m;simp[e]
 rcases Io e m with⟨e,m⟩|⟨e,m⟩;rotate_left
 ·have⟨Q,u,e,m⟩:=gq e m;simp[e];refine Cf (sE T (H:=H) e.2) ?_;have⟨R,e,m⟩:=ep e m;have⟨S,e,m⟩:=ep e m;have j:=HC.ez e.2;have e:=Aj e.1 j;cases m;simp[e]
 have⟨U,e,m⟩:=ep e m;have⟨V,e,m⟩:=ep e m;have⟨W,e,m⟩:=ep e m;have k:=HC.ez e.2;have e:=Aj e.1 k;rcases Io e m with⟨e,m⟩|⟨e,m⟩;rotate_left
 ·have⟨X,e,m⟩:=ep e m;have⟨Y,e,m⟩:=ep e m;have⟨Z,e,m⟩:=ep e m;have l:=HC.ez e.2;have e:=Aj e.1 l;cases m;simp[e]
 have⟨aa,e,m⟩:=ep e m;have⟨ab,e,m⟩:=ep e m;have⟨ad,e,m⟩:=ep e m;have n:=HC.ez e.2;have e:=Aj e.1 n;have⟨ae,e,m⟩:=ep e m;have⟨af,e,m⟩:=ep e m;have⟨ah,e,m⟩:=ep e m;have o:=HC.ez e.2;have e:=Aj e.1 o;have⟨ai,e,m⟩:=ep e m;have⟨aj,e,m⟩:=ep e m;have⟨ak,e,m⟩:=ep e m;have p:=HC.ez e.2;have e:=Aj e.1 p;have⟨al,e,m⟩:=ep e m;have⟨an,e,m⟩:=ep e m;have⟨ao,e,m⟩:=ep e m;have q:=HC.ez e.2;have e:=Aj e.1 q;cases m;simp[e]
def Ak(T:fg){H:eD}{a0:Option Nat}{nh:List HC}{a:Int}(hm:pJ a0 nh=some a):e9 prog T 307 [m5 (List.length H) a0] (H++iF (List.length H) nh) (sI a) (H++iF (List.length H) nh):=by
 have⟨r,c,b,d⟩:=jg hm;obtain rfl:=iw d;obtain⟨X,rfl⟩:=BI b;exact fH.tY (AW T b) (λ_ _ h=>⟨iF (List.length H) X,by rw[h.2];simp[vS],by rw[h.1];rfl,h.1,rfl⟩)
def O':su prog 300=true:=by kernel_rfl
def A_(T:fg):∀(n:Nat),(∀{H:eD} {a0:Option Nat} {a1:Int} {nh:List HC} {r0:Option Nat} {r1:Int} {al:List HC} (hm:jB n a0 a1 nh=some (r0,r1,al)),e9 prog T 300 [m5 (List.length H) a0,sI a1] (H++iF (List.length H) nh) (AV.tuple [m5 (List.length H) r0,sI r1]) (H++iF (List.length H) al)):=by
  intro n
  induction n with
  |zero=>
    skip
    all_goals(intro _ _;intros;rename_i hm;cases hm)
  |succ n ih=>
 intro H a0 a1 nh r0 r1 al hm;rw[jB] at hm;refine fH.intro (fn:=f300) func300 rfl O' (R3 rfl) ?_;refine gI.sr [] λK1 bs=>?_;simp;apply bs;refine gI.tR λK3 bt=>?_;refine gI.sr [] λK5 bu=>?_;have⟨x7,j,an⟩:=eO hm;clear hm
 try dsimp only at an
 have⟨C,a,K⟩:=eO an;replace a:=HC.ez a;clear an
 try dsimp only at K
 simp[j,a];apply bu;refine gI.tM λb6 b7 aU aV=>?_;rcases jm K with⟨b,aa⟩|⟨b,ab⟩
 ·clear K;simp[j,a,b];apply aU;refine gI.sr [] λb8 aW=>?_;simp[j,a,b];apply aW;refine gI.ret ?_;simp only[sH,FJ] at aa;obtain⟨rfl,rfl,rfl⟩:=aa;simp[vu,j,a,b]
 clear K;simp[j,a,b];apply aV;refine gI.skip ?_;apply bt;refine gI.tR λb9 aX=>?_;refine gI.sr [] λb_ aY=>?_;have⟨b',aZ,M⟩:=eO ab;clear ab
 try dsimp only at M
 simp[j,a,b];refine mW.fn (uJ T (H:=H) aZ) ?_;simp[j,a,b];apply aY;refine gI.tM λca cb a6 a7=>?_;rcases jm M with⟨c,ad⟩|⟨c,ae⟩
 ·clear M;simp[j,a,b,c];apply a6;refine gI.tR λcc a8=>?_;refine gI.tR λcd a_=>?_;refine gI.T2 [] true abf (by decide+kernel) (by decide+kernel) ?_;have⟨cf,a',N⟩:=eO ad;clear ad
  try dsimp only at N
  simp[j,a,b,c];refine Ct.fn (Ak T (H:=H) a') (by simp) ?_;simp[j,a,b,c];apply a_;refine gI.tM λcg ch ba bb=>?_;rcases jm N with⟨w,af⟩|⟨w,ah⟩
  ·clear N;simp[j,a,b,c,w];apply ba;refine gI.sr [] λcj bc=>?_;simp[j,a,b,c,w];apply bc;refine gI.ret ?_;simp only[sH,FJ] at af;obtain⟨rfl,rfl,rfl⟩:=af;simp[vu,j,a,b,c,w]
  clear N;simp[j,a,b,c,w];apply bb;refine gI.skip ?_;apply a8;refine gI.sr [] λck bd=>?_;have⟨cm,bC,bf,P⟩:=jg ah;clear ah
  try dsimp only at P
  simp[j,a,b,c,w];refine mW.fn (sE T (H:=H) bf) ?_;simp[j,a,b,c,w];apply bd;refine gI.ret ?_;simp only[sH,FJ] at P;obtain⟨rfl,rfl,rfl⟩:=P;simp[vu,j,a,b,c,w]
 clear M;simp[j,a,b,c];apply a7;refine gI.skip ?_;apply aX;refine gI.tR λcn bg=>?_;refine gI.sr [] λcp bh=>?_;simp[j,a,b,c];apply bh;have⟨ao,ai⟩:=mV ae;clear ae;have⟨bw,bj,Q⟩:=l_ ai;clear ai
 try dsimp only at Q
 have⟨aq,y,s⟩:=eO Q;clear Q;refine gI.yY λcq bD bk bE aj=>?_;refine gI.Lt (λn75 fr h=>∃(i76:Nat) (R:Int) (O:List HC),H++iF (List.length H) O=h/\(fr.env 0=m5 (List.length H) a0/\fr.env 1=sI a1/\fr.env 31=sL (m5 (List.length H)) C.abb/\fr.env 32=sI (eM C.abb)/\fr.env 33=sI R)/\R=(i76:Int)/\i76+n75=List.length C.abb/\ft bw (List.drop i76 C.abb) i76 O=some aq) (List.length C.abb) ?_ ?_
 ·refine⟨0,0,nh,?_,⟨?_,?_,?_,?_,?_⟩,rfl,(by simp),y⟩<;>first|rfl|simp[j,a,b,c]
 rintro n75 bl cr ⟨i76,R,O,rfl,p,D,bF,y⟩ cu bm;rcases n75 with _|n75
 ·have e:=Md (l:=C.abb) D (by omega);refine gI.sr [] λcw bn=>?_;simp[p,j,a,e,b,c];apply bn;refine gI.tR λcx bG=>?_;refine gI.tM λcy cz bH bo=>?_;simp[p,j,a,e,b,c];apply bo;refine gI.exit ?_;apply bk;rw[Hh (by omega),pe] at y;obtain rfl:=iw y;rw[en] at s
  try dsimp only at s
  apply bg;refine gI.sr [] λcA bp=>?_;have⟨t,z,S⟩:=eO s;replace z:=HC.ez z;clear s
  try dsimp only at S
  have U:gj (iF (List.length H) O) x7 [sI t.aba,sI t.abd,sI t.pF.aba,sL Ty.av t.pF.abb,sL (m5 (List.length H)) t.abb,sI t.size,sI t.free,sB true]=iF (List.length H) (kx O x7 (HC.eS (eR.mk t.aba t.abd t.pF t.abb t.size t.free true))):=p9 rfl;have V:(kx O x7 (HC.eS (eR.mk t.aba t.abd t.pF t.abb t.size t.free true)))[x7]?=some (HC.eS (eR.mk t.aba t.abd t.pF t.abb t.size t.free true)):=vZ z;simp[p,j,a,e,z,U,V,b,c];apply bp;refine gI.sr [] λbI ar=>?_;simp[p,j,a,e,z,U,V,b,c];apply ar;refine gI.ret ?_;simp only[sH,FJ] at S;obtain⟨rfl,rfl,rfl⟩:=S;simp[vu,p,j,a,e,z,U,V,b,c]
 have e:=Oz (l:=C.abb) D (by omega);have⟨bJ,au,i⟩:=Ml (l:=C.abb) D (by omega);rw[au,fm] at y;have⟨bK,A,v⟩:=eO y;clear y;rw[bj,<-D] at A
 try dsimp only at A
 refine gI.sr [] λbL aw=>?_;simp[p,j,a,e,i,b,c];apply aw;refine gI.tR λbM ax=>?_;refine gI.tM λbN bO ay bx=>?_;simp[p,j,a,e,i,b,c];apply ay;refine gI.skip ?_;apply ax;refine gI.tR λbP az=>?_;refine gI.yY λbQ aA bz bA W=>?_;refine gI.sr [] λbR aB=>?_;simp[p,j,a,e,i,b,c];apply aB;refine gI.sr [] λbS aC=>?_;have⟨ak,bT,aD,aE,B⟩:=Bo A;clear A
 try dsimp only at B
 simp[p,j,a,e,i,b,c];refine mW.fn (ih (H:=H) aE) ?_;simp[p,j,a,e,i,b,c];apply aC;refine gI.tR λbU aF=>?_;refine gI.sr [] λbV aG=>?_;simp[p,j,a,e,i,b,c];apply aG;refine gI.tM λbW bX aH aI=>?_;rcases jm B with⟨m,aJ⟩|⟨m,F⟩
 ·clear B;simp[p,j,a,e,i,b,c,m];apply aH;refine gI.sr [] λbY aK=>?_;simp[p,j,a,e,i,b,c,m];apply aK;refine gI.ret ?_;apply W;apply aj;obtain rfl:=iw aJ;rw[BT] at v;obtain rfl:=iw v;rw[qi] at s
  try dsimp only at s
  simp only[sH,FJ] at s;obtain⟨rfl,rfl,rfl⟩:=s;simp[vu,p,j,a,e,i,b,c,m]
 clear B;simp[p,j,a,e,i,b,c,m];apply aI;refine gI.skip ?_;apply aF;refine gI.sr [] λbZ aL=>?_;simp[p,j,a,e,i,b,c,m];apply aL;refine gI.tM λb0 b1 aM aN=>?_;rcases jm F with⟨o,X⟩|⟨o,aO⟩;rotate_left
 ·clear F;simp[p,j,a,e,i,b,c,m,o];apply aN;refine gI.skip ?_;apply aA;apply az;refine gI.region [] (by decide+kernel) ?_;simp[p,j,a,e,i,b,c,m,o];obtain rfl:=iw aO;rw[fA] at v
  refine bm _ _ n75 (QB _) ⟨(i76+1),(fj .i64 R 1),aD,?_,⟨?_,?_,?_,?_,?_⟩,(Iw D (by omega) ao),(by omega),v⟩<;>first|rfl|simp[p,j,a,e,i,b,c,m,o]
 clear F;simp[p,j,a,e,i,b,c,m,o];apply aM;refine gI.sr [] λb2 aP=>?_;have⟨E,q,G⟩:=eO X;replace q:=HC.ez q;clear X
 try dsimp only at G
 have⟨aQ,Y⟩:=mV G;clear G;simp[p,j,a,e,i,q,b,c,m,o];refine si.Wo (f:=(m5 (List.length H))) E.abb N1 ⟨_,Tu⟩ (by intro x;simp) aQ (by first|rfl|simp) (by first|rfl|simp) λI bq=>?_;simp[p,j,a,e,i,q,b,c,m,o];apply aP;refine gI.sr [] λb3 aR=>?_;have⟨br,r,J⟩:=eO Y;clear Y
 try dsimp only at J
 have u:=GO r;simp[p,j,a,e,i,q,r,u,b,c,m,o];refine yL.arr (f:=(m5 (List.length H))) (L:=E.abb) (k:=((I-List.length E.abb)*1)) ak WW (by intro x;simp) (by simp[p,j,a,e,i,q,r,u,b,c,m,o]) (x:=br) (by assumption) (by simp[p,j,a,e,i,q,r,u,b,c,m,o]) (by simp[p,j,a,e,i,q,r,u,b,c,m,o]) (by simp[p,j,a,e,i,q,r,u,b,c,m,o]) ?_;simp[p,j,a,e,i,q,r,u,b,c,m,o];apply aR;refine gI.tR λb4 aS=>?_;refine gI.Zy 10 (f:=(m5 (List.length H))) (L:=(wV E.abb R ak)) (k:=((I-List.length E.abb)*1)) (sz:=1) (d:=53) (g:=(bl.gen 53+1)) (cap:=I) (by intro x;simp) (by intro x;simp) (by simp[p,j,a,e,i,q,r,u,b,c,m,o]) (by simp[p,j,a,e,i,q,r,u,b,c,m,o]) (by simp[p,j,a,e,i,q,r,u,b,c,m,o]) ?_;refine gI.region [] (by decide+kernel) ?_;have⟨b5,bB,aT,Z⟩:=jg J;clear J
 try dsimp only at Z
 simp[p,j,a,e,i,q,r,u,b,c,m,o];refine mW.fn (pI T (H:=H) aT) ?_;simp[p,j,a,e,i,q,r,u,b,c,m,o];apply aS;refine gI.ret ?_;apply W;apply aj;obtain rfl:=iw Z;rw[BT] at v;obtain rfl:=iw v;rw[qi] at s
 try dsimp only at s
 simp only[sH,FJ] at s;obtain⟨rfl,rfl,rfl⟩:=s;simp[vu,p,j,a,e,i,q,r,u,b,c,m,o]
def BX(T:fg){H:eD}{a0:Option Nat}{a1:Int}{nh:List HC}{b:Option Nat}{c:Int}{a:List HC}{n:Nat}(hm:jB n a0 a1 nh=some (b,c,a)):e9 prog T 300 [m5 (List.length H) a0,sI a1] (H++iF (List.length H) nh) (AV.tuple [m5 (List.length H) b,sI c]) (H++iF (List.length H) a):=(A_ T n) hm
def Am(T:fg){H:eD}{a0:Option Nat}{nh:List HC}{r:Bool}{s:Int}{j:List HC}(hm:jN a0 nh=some (r,s,j)):e9 prog T 282 [m5 (List.length H) a0] (H++iF (List.length H) nh) (AV.tuple [sB r,sI s]) (H++iF (List.length H) j):=by
 rw[jN] at hm;have e:=trivial;refine wi abf func282 [] [(1,true,[true,true,true,true,true,true,true,true,true,true,false,true,true,true,true,true])] 5 ?_;have⟨d,e,m⟩:=ep e hm;have⟨v,e,m⟩:=ep e m;have p:=HC.gX e.2;have e:=Aj e.1 p;have⟨w,e,m⟩:=ep e m;simp[e];refine Cs (BG T (H:=H) e.2) ?_;have⟨c,q,b,e,m⟩:=Ix e m;simp[e];refine Bz.fn (BX T (H:=H) e.2) ?_;simp[e];refine wj 999 999 (λf h=>h=H++iF (List.length H) b/\f.1 0=m5 (List.length H) a0/\f.1 4=m5 (List.length H) c/\f.1 5=sI q/\f.1 25=sB (fU (eW q 0) true (Option.isNone c))) (λx k=>?_) ?_
 ·rcases Pb (eW q 0) e with e|e
  ·simp[e];exact k _ _ (by simp[e])
  simp[e];exact k _ _ (by simp[e])
 rintro t u E;have e:=Aj e E;rcases Io e m with⟨e,m⟩|⟨e,m⟩
 ·cases m;simp[e]
 have⟨a,e,m⟩:=ep e m;have g:=HC.gX e.2;have e:=Aj e.1 g;have l:gj (iF (List.length H) b) d [m5 (List.length H) c,sI a.steps]=iF (List.length H) (kx b d (HC.gd (fV.mk c a.steps))):=p9 rfl;have e:=Aj e l;have i:(kx b d (HC.gd (fV.mk c a.steps)))[d]?=some (HC.gd (fV.mk c a.steps)):=vZ g;have e:=Aj e i;have n:gj (iF (List.length H) (kx b d (HC.gd (fV.mk c a.steps)))) d [m5 (List.length H) c,sI (fj .i64 a.steps 1)]=iF (List.length H) (kx (kx b d (HC.gd (fV.mk c a.steps))) d (HC.gd (fV.mk c (fj .i64 a.steps 1)))):=p9 rfl;have e:=Aj e n;have o:(kx (kx b d (HC.gd (fV.mk c a.steps))) d (HC.gd (fV.mk c (fj .i64 a.steps 1))))[d]?=some (HC.gd (fV.mk c (fj .i64 a.steps 1))):=vZ i;have e:=Aj e o;cases m;simp[e]
def Bj(T:fg):∀(n:Nat),(∀{H:eD} {a0:Option Nat} {nh:List HC} {l:Tm} (hm:iS n a0 nh=some l),e9 prog T 283 [m5 (List.length H) a0] (H++iF (List.length H) nh) (Tm.av l) (H++iF (List.length H) nh)):=by
  intro n
  induction n with
  |zero=>
   skip
   all_goals(intro _ _;intros;rename_i hm;cases hm)
  |succ n t=>
 intro H a0 nh l hm;rw[iS] at hm;have e:=trivial;refine wi abf func283 [] [(1,true,[])] 999 ?_;have⟨y,e,m⟩:=ep e hm;have⟨k,e,m⟩:=ep e m;have o:=HC.ez e.2;have e:=Aj e.1 o;have⟨q,e,m⟩:=ep e m;simp[e];refine Cs (sb e.2) ?_;simp[e];refine Wr e m 999 (λr g f h=>∃(a:Tag) (b:Nat) (c:Nat),(h=H++iF (List.length H) nh/\f.1 2=AV.eB 2 b 0/\f.1 3=AV.eB 3 c 0/\f.1 23=sL (m5 (List.length H)) k.abb/\f.1 24=sI (eM k.abb)/\f.1 25=sI r/\f.gen 2=b/\f.box 2=some [sI 0,sI 0,sI 0,AV.slice .full [],AV.slice .full []]/\f.gen 3=c/\f.box 3=some [sI k.aba,sI k.abd,sI q.aba,sL Ty.av q.abb,sT a Tm.av g])/\Ow f [34] a g) (by exact⟨.full,1,1,by simp[e],iM.full⟩) (λg i u v E m=>?_) (λr z g i u v w x E e m z12 j=>?_)
 ·have⟨a,b,c,E,d⟩:=E;have e:=Aj e E;dsimp only[en]at m;cases m;simp[e]
 have⟨a,b,c,E,d⟩:=E;have e:=Aj e E;have s:=e;have⟨p,e,m⟩:=ep e m;simp[e];refine Cs (t (H:=H) e.2) ?_;have⟨e,m⟩:=Ck e m;simp[e];refine Ad (f:=Tm.av) g [p] d B1 e.2 ?_;simp[e];cases m;exact j _ _ _ ⟨(.loc 34 (i.fN 34+1)),b,c,by simp[e],(On 34)⟩ z12
def vH(T:fg){H:eD}{a0:Option Nat}{nh:List HC}{a:Tm}{n:Nat}(hm:iS n a0 nh=some a):e9 prog T 283 [m5 (List.length H) a0] (H++iF (List.length H) nh) (Tm.av a) (H++iF (List.length H) nh):=(Bj T n) hm
def yW(T:fg):∀(n:Nat),(∀{H:eD} {a0:Option Nat} {nh:List HC} {l:Bool} {c:List HC} (hm:jj n a0 nh=some (l,c)),e9 prog T 284 [m5 (List.length H) a0] (H++iF (List.length H) nh) (sB l) (H++iF (List.length H) c)):=by
  intro n
  induction n with
  |zero=>
    skip
    all_goals(intro _ _;intros;rename_i hm;cases hm)
  |succ n u=>
 intro H a0 nh l c hm;rw[jj] at hm;have e:=trivial;refine wi abf func284 [] [] 999 ?_;have⟨k,e,m⟩:=ep e hm;have⟨q,e,m⟩:=ep e m;have o:=HC.ez e.2;have e:=Aj e.1 o;rcases Io e m with⟨e,m⟩|⟨e,m⟩
 ·cases m;simp[e]
 have⟨A,e,m⟩:=ep e m;simp[e];refine Cf (uJ T (H:=H) e.2) ?_;rcases Io e m with⟨e,m⟩|⟨e,m⟩
 ·cases m;simp[e]
 simp[e];refine Wr e m 999 (λr d f h=>h=H++iF (List.length H) d/\f.1 0=m5 (List.length H) a0/\f.1 14=sL (m5 (List.length H)) q.abb/\f.1 15=sI (eM q.abb)/\f.1 16=sI r) (by simp[e]) (λd p v w E m=>?_) (λr B d p v w x y E e m z12 g=>?_);rotate_left
 ·have e:=Aj e E;have s:=e;have⟨z,t,e,m⟩:=gq e m;simp[e];refine Cf (u (H:=H) e.2) ?_;rcases Io e m with⟨e,m⟩|⟨e,m⟩;rotate_left
  ·cases m;cases z12;simp[e]
  simp[e];cases m;exact g _ _ _ (by simp[e]) z12
 have e:=Aj e E;dsimp only[en]at m;have⟨a,e,m⟩:=ep e m;have b:=HC.ez e.2;have e:=Aj e.1 b;have i:gj (iF (List.length H) d) k [sI a.aba,sI a.abd,sI a.pF.aba,sL Ty.av a.pF.abb,sL (m5 (List.length H)) a.abb,sI a.size,sI a.free,sB true]=iF (List.length H) (kx d k (HC.eS (eR.mk a.aba a.abd a.pF a.abb a.size a.free true))):=p9 rfl;have e:=Aj e i;have j:(kx d k (HC.eS (eR.mk a.aba a.abd a.pF a.abb a.size a.free true)))[k]?=some (HC.eS (eR.mk a.aba a.abd a.pF a.abb a.size a.free true)):=vZ b;have e:=Aj e j;cases m;simp[e]
def z'(T:fg){H:eD}{a0:Option Nat}{nh:List HC}{b:Bool}{a:List HC}{n:Nat}(hm:jj n a0 nh=some (b,a)):e9 prog T 284 [m5 (List.length H) a0] (H++iF (List.length H) nh) (sB b) (H++iF (List.length H) a):=(yW T n) hm
def tT(T:fg)(z:qy T){H:eD}{a0:Tm}{a1:Int}{u:Tm}{v w:Int}(hm:kA a0 a1=some (u,v,w)):e9 prog T 249 [Tm.av a0,sI a1] H (AV.tuple [Tm.av u,sI v,sI w]) H:=by
 rw[kA] at hm;refine fH.tY (Post:=λx K=>x=AV.tuple [Tm.av u,sI v,sI w]/\∃X,K=H++X) ?_ (λ_ _ h=>⟨_,h.2.choose_spec,by rw[h.1];simp[AV.low,AV.jf],h.1,rfl⟩);refine fH.XP (c:=HC.cells) ?_;have e:=z;refine wi abf func249 [32] [(12,true,[]),(15,true,[])] 7 ?_;have⟨Y,e,m⟩:=ep e hm;simp[e];refine Cf (wo T z e.2) ?_;simp[e];rcases Io e m with⟨e,m⟩|⟨e,m⟩
 ·apply wg 999;cases m;simp[e]
 apply wg 3;simp[e];refine Wj m 999 999 (λA f h=>∃(v3:Bool) (d:Nat) (b:Nat),(h=H++iF (List.length H) ([]:List HC)/\f.1 1=sI a1/\f.1 2=AV.eB 2 d 0/\f.1 4=AV.eB 4 b 0/\f.1 27=sB v3/\f.gen 2=d/\f.box 2=some [sI a0.aba,sI a0.abd,sI a0.dv.aba,sL Ty.av a0.dv.abb,sL Tm.av a0.abb]/\f.gen 4=b/\f.box 4=some [sI 0,sI 0,sI 0,AV.slice .full [],AV.slice .full []])/\A v3=some (u,v,w)) (λA Z j m=>?_) ?_
 ·rcases Io e m with⟨e,m⟩|⟨e,m⟩
  ·simp[e];exact j _ _ ⟨true,1,1,by simp[e],m⟩
  rcases Io e m with⟨e,m⟩|⟨e,m⟩
  ·simp[e];exact j _ _ ⟨true,1,1,by simp[e],m⟩
  have⟨F,e,m⟩:=ep e m;simp[e];refine Cf (LM T e.2) ?_;simp[e];exact j _ _ ⟨(nC F),1,1,by simp[e],m⟩
 rintro G h7 ⟨v3,d,b,E,m⟩;have e:=Aj e E;rcases Io e m with⟨e,m⟩|⟨e,m⟩
 ·cases m;simp[e]
 have⟨y,g,e,m⟩:=gq e m;simp[e];refine Cf (Kt T (H:=H) e.2) ?_;have k:iF (List.length H) g++[[m5 (List.length H) y,sI 0]]=iF (List.length H) (g++[HC.gd (fV.mk y 0)]):=II rfl;have e:=Aj e k;have l:(g++[HC.gd (fV.mk y 0)])[(List.length g)]?=some (HC.gd (fV.mk y 0)):=Oa;have e:=Aj e l;simp[e];refine Wn m 3 (λn f h=>∃(a:Nat),h=H++iF (List.length H) n/\f.1 1=sI a1/\f.1 4=AV.eB 4 a 0/\f.1 8=AV.fE (List.length H+(List.length g)) 0/\f.gen 4=a/\f.box 4=some [sI 0,sI 0,sI 0,AV.slice .full [],AV.slice .full []]) ⟨b,by simp[e]⟩ (λn B I J L M E m i o=>?_);have⟨a,E⟩:=E;have e:=Aj e E;have p:=e;have⟨N,e,m⟩:=ep e m;have q:=HC.gX e.2;have e:=Aj e.1 q;simp[e];rcases Io e m with⟨e,m⟩|⟨e,m⟩
 ·apply wg 999;have⟨O,P,C,e,m⟩:=Ix e m;simp[e];refine Cf (Am T (H:=H) e.2) ?_;rcases Io e m with⟨e,m⟩|⟨e,m⟩
  ·cases m;cases i;simp[e]
  rcases Io e m with⟨e,m⟩|⟨e,m⟩
  ·simp[e];cases m;exact o _ _ _ ⟨a,by simp[e]⟩ i
  have⟨Q,e,m⟩:=ep e m;have r:=HC.gX e.2;have e:=Aj e.1 r;have⟨R,e,m⟩:=ep e m;simp[e];refine Cs (vH T (H:=H) e.2) ?_;cases m;cases i;simp[e]
 apply wg 2;simp[e];cases m;have m:=Qb i
 try dsimp only at m
 have e:=p;apply wg 999;have⟨S,e,m⟩:=ep e m;have s:=HC.gX e.2;have e:=Aj e.1 s;have⟨U,D,e,m⟩:=gq e m;simp[e];refine Cf (z' T (H:=H) e.2) ?_;rcases Io e m with⟨e,m⟩|⟨e,m⟩;rotate_left
 ·cases m;simp[e]
 have⟨V,e,m⟩:=ep e m;have t:=HC.gX e.2;have e:=Aj e.1 t;have⟨W,e,m⟩:=ep e m;simp[e];refine Cs (vH T (H:=H) e.2) ?_;cases m;simp[e]
def Gi(T:fg)(a:qy T){H:eD}{a0 a1:Tm}{a2 b:Int}(hm:qu a0 a1 a2=some b):e9 prog T 231 [Tm.av a0,Tm.av a1,sI a2] H (sI b) H:=by
 rw[qu] at hm;have e:=a;refine wi abf func231 [] [] 999 ?_;have⟨d,e,m⟩:=ep e hm;simp[e];refine Cf (wo T a e.2) ?_;rcases Io e m with⟨e,m⟩|⟨e,m⟩
 ·cases m;simp[e]
 have⟨f,e,m⟩:=ep e m;simp[e];refine Cf (wo T a e.2) ?_;rcases Io e m with⟨e,m⟩|⟨e,m⟩
 ·cases m;simp[e]
 have⟨g,e,m⟩:=ep e m;simp[e];refine Cf (Bv e.2) ?_;rcases Io e m with⟨e,m⟩|⟨e,m⟩
 ·cases m;simp[e]
 have⟨h,i,j,e,m⟩:=Ix e m;simp[e];refine Cf (tT T a e.2) ?_;rcases Io e m with⟨e,m⟩|⟨e,m⟩
 ·cases m;simp[e]
 have⟨k,l,n,e,m⟩:=Ix e m;simp[e];refine Cf (tT T a e.2) ?_;rcases Io e m with⟨e,m⟩|⟨e,m⟩
 ·cases m;simp[e]
 have⟨c,e,m⟩:=ep e m;simp[e];refine Cf (Bv e.2) ?_;rcases Io e m with⟨e,m⟩|⟨e,m⟩
 ·cases m;simp[e]
 cases m;simp[e]
def Dm(T:fg)(x:qy T):∀(n:Nat),(∀{H:eD} {a0:Fm} {a1:Fm} {s:Int} (hm:mA n a0 a1=some s),e9 prog T 169 [Fm.av a0,Fm.av a1] H (sI s) H):=by
  intro n
  induction n with
  |zero=>
    skip
    all_goals(intro _ _;intros;rename_i hm;cases hm)
  |succ n B=>
 intro H a0 a1 s hm;rw[mA] at hm;have e:=x;refine wi abf func169 [] [] 3 ?_;simp[e];refine Wj hm 999 999 (λy f h=>∃(v2:Bool) (d:Nat) (g:Nat),(h=H/\f.1 2=AV.eB 2 d 0/\f.1 3=AV.eB 3 g 0/\f.1 23=sB v2/\f.gen 2=d/\f.box 2=some [sI a0.aba,sI a0.dv.aba,sL Ty.av a0.dv.abb,sL Tm.av a0.ek,sL Fm.av a0.abb]/\f.gen 3=g/\f.box 3=some [sI a1.aba,sI a1.dv.aba,sL Ty.av a1.dv.abb,sL Tm.av a1.ek,sL Fm.av a1.abb])/\y v2=some s) (λy R i m=>?_) ?_
 ·rcases Io e m with⟨e,m⟩|⟨e,m⟩
  ·simp[e];exact i _ _ ⟨true,1,1,by simp[e],m⟩
  have⟨C,e,m⟩:=ep e m;simp[e];refine Cf (pk e.2) ?_;simp[e];exact i _ _ ⟨(nC C),1,1,by simp[e],m⟩
 rintro D S ⟨v2,d,g,E,m⟩;have e:=Aj e E;rcases Io e m with⟨e,m⟩|⟨e,m⟩
 ·cases m;simp[e]
 simp[e];refine Wr e m 999 (λz A f h=>∃(c:Nat) (b:Nat),h=H/\f.1 2=AV.eB 2 c 0/\f.1 3=AV.eB 3 b 0/\f.1 25=sL Tm.av a0.ek/\f.1 26=sI (eM a0.ek)/\f.1 27=sI z/\f.gen 2=c/\f.box 2=some [sI a0.aba,sI a0.dv.aba,sL Ty.av a0.dv.abb,sL Tm.av a0.ek,sL Fm.av a0.abb]/\f.gen 3=b/\f.box 3=some [sI a1.aba,sI a1.dv.aba,sL Ty.av a1.dv.abb,sL Tm.av a1.ek,sL Fm.av a1.abb]) ⟨d,g,by simp[e]⟩ (λA t F u E m=>?_) (λz G A t F u I J E e m j k=>?_);rotate_left
 ·have⟨c,b,E⟩:=E;have e:=Aj e E;have⟨K,e,m⟩:=ep e m;have⟨L,e,m⟩:=ep e m;simp[e];refine Cs (Gi T x e.2) ?_;rcases Io e m with⟨e,m⟩|⟨e,m⟩
  ·cases m;cases j;simp[e]
  simp[e];cases m;exact k _ _ _ ⟨c,b,by simp[e]⟩ j
 have⟨c,b,E⟩:=E;have e:=Aj e E;dsimp only[en]at m;simp[e];refine Wr e m 999 (λl o f h=>∃(a:Nat),h=H/\f.1 3=AV.eB 3 a 0/\f.1 44=sL Fm.av a0.abb/\f.1 45=sI (eM a0.abb)/\f.1 46=sI l/\f.gen 3=a/\f.box 3=some [sI a1.aba,sI a1.dv.aba,sL Ty.av a1.dv.abb,sL Tm.av a1.ek,sL Fm.av a1.abb]) ⟨b,by simp[e]⟩ (λo p v w E m=>?_) (λl M o p v w N O E e m q r=>?_)
 ·have⟨a,E⟩:=E;have e:=Aj e E;dsimp only[en]at m;cases m;simp[e]
 have⟨a,E⟩:=E;have e:=Aj e E;have⟨P,e,m⟩:=ep e m;have⟨Q,e,m⟩:=ep e m;simp[e];refine Cs (B e.2) ?_;rcases Io e m with⟨e,m⟩|⟨e,m⟩
 ·cases m;cases q;simp[e]
 simp[e];cases m;exact r _ _ _ ⟨a,by simp[e]⟩ q
def EB(T:fg)(b:qy T){H:eD}{a0 a1:Fm}{a:Int}{n:Nat}(hm:mA n a0 a1=some a):e9 prog T 169 [Fm.av a0,Fm.av a1] H (sI a) H:=(Dm T b n) hm
def yo(T:fg)(a:qy T){H:eD}{a0 a1:Fm}{b:Int}(hm:lA a0 a1=some b):e9 prog T 107 [Fm.av a0,Fm.av a1] H (sI b) H:=by
 rw[lA] at hm;have e:=a;refine wi abf func107 [] [] 999 ?_;have⟨c,e,m⟩:=ep e hm;simp[e];refine Cf (pd T a e.2) ?_;rcases Io e m with⟨e,m⟩|⟨e,m⟩
 ·cases m;simp[e]
 have⟨d,e,m⟩:=ep e m;simp[e];refine Cf (pd T a e.2) ?_;rcases Io e m with⟨e,m⟩|⟨e,m⟩
 ·cases m;simp[e]
 have⟨f,e,m⟩:=ep e m;simp[e];refine Cf (EB T a e.2) ?_;cases m;simp[e]
def pZ:C2 prog 194 fZ eh.av eh.av (sL Ty.av):=by
 intro T H a0 a1 r hm;rw[fZ] at hm;have e:=trivial;refine wi abf func194 [] [] 999 ?_;have⟨a,e,m⟩:=ep e hm;simp[e];refine Cf (m8 e.2) ?_;cases m;simp[e]
def r8:C3 prog 195 j4 Fm.av sI Ty.av Fm.av:=by
 intro T H a0 a1 a2 r hm;rw[j4] at hm;have e:=trivial;refine wi abf func195 [] [] 999 ?_;have e:=Aj e (show AV.agg [sI a0,sI a1.aba,sL Ty.av a1.abb,AV.slice .iN [],AV.slice .iN [Fm.av a2]]=Fm.av (Fm.mk a0 a1 [] [a2]) by rw[Fm.fL];rfl);have e:=Aj e (show AV.agg [sI a0,sI a1.aba,sL Ty.av a1.abb,AV.slice .iN [],AV.slice .iN [Fm.av a2]]=Fm.av (Fm.mk a0 a1 [] [a2]) by rw[Fm.fL];rfl);cases hm;simp[e]
def oQ:C2 prog 196 fJ (λn=>AV.sc (Value.int .u32 n)) (λn=>AV.sc (Value.int .u32 n)) sI:=by
 intro T H a0 a1 r hm;rw[fJ] at hm;have e:=trivial;refine wi abf func196 [] [] 999 ?_;have⟨e,m⟩:=Ck e hm;cases m;simp[e]
def EG(T:fg){H:eD}{a0 a1 a b:Int}{q0:Nat}(c:H[q0]?=some [AV.sc (.int .u32 a)])(hm:nX a0 a1 a=some b):e9 prog T 244 [sI a0,sI a1,AV.fE q0 0] H (AV.tuple []) (gj H q0 [AV.sc (.int .u32 b)]):=by
 rw[nX] at hm;have d:=f_ c;refine fH.I8 c ?_;have e:=d;refine wi abf func244 [] [(1,false,[false,true,true,true,true,true,false])] 999 ?_;rcases Io e hm with⟨e,m⟩|⟨e,m⟩;rotate_left
 ·cases m;simp[e]
 have⟨e,m⟩:=Ck e m;cases m;simp[e]
def wq(T:fg){H:eD}{a0:Tm}{a:Int}(hm:kr a0=some a):e9 prog T 198 [Tm.av a0] H (AV.sc (.int .u32 a)) H:=by
 rw[kr] at hm;refine fH.tY (Post:=λx K=>x=AV.sc (.int .u32 a)/\∃X,K=H++X) ?_ (λ_ _ h=>⟨_,h.2.choose_spec,by rw[h.1];simp[AV.low,AV.jf],h.1,rfl⟩);have e:=trivial;refine wi abf func198 [3] [] 999 ?_;have⟨s1,e,m⟩:=ep e hm;simp[e];refine Cf (yz T (st:=λs:Int=>H++[[AV.sc (.int .u32 s)]]) (Bs.Sh H (λs:Int=>[[AV.sc (.int .u32 s)]]) 1 (λ_=>rfl) (by simp[AV.low,AV.jf])) (λX s _ _ b h=>by have:=EG T (H:=H++[[AV.sc (.int .u32 s)]]++X) (q0:=(List.length H)) (by simp[e]) h;simpa using this) e.2) ?_;cases m;simp[e]
def qN:C2 prog 199 ir sB ed.av Ty.av:=by
 intro T H a0 a1 r hm;rw[ir] at hm;have e:=trivial;refine wi abf func199 [] [] 999 ?_;have⟨a,e,m⟩:=ep e hm;simp[e];refine Cs (ry e.2) ?_;have⟨b,e,m⟩:=ep e m;simp[e];refine Cs (qP e.2) ?_;cases m;simp[e]
def GG(T:fg){H:eD}{a0 a1 a b c:Int}{q0 q1:Nat}(d:H[q0]?=some [sI a])(f:H[q1]?=some [sI b])(g:q0≠q1)(hm:oV a0 a1 a b=some c):e9 prog T 296 [sI a0,sI a1,AV.fE q0 0,AV.fE q1 0] H (AV.tuple []) (gj H q1 [sI c]):=by
 rw[oV] at hm;have h:=f_ d;have i:=f_ f;refine fH.I8 f ?_;have e:=Aj (Aj (Aj (Aj h d) i) g) g.symm;refine wi abf func296 [] [] 999 ?_;rcases Io e hm with⟨e,m⟩|⟨e,m⟩
 ·cases m;simp[e]
 cases m;simp[e]
def BZ(T:fg){H:eD}{a0:Tm}{a1 a:Int}(hm:sY a0 a1=some a):e9 prog T 277 [Tm.av a0,sI a1] H (sI a) H:=by
 rw[sY] at hm;refine fH.tY (Post:=λx K=>x=sI a/\∃X,K=H++X) ?_ (λ_ _ h=>⟨_,h.2.choose_spec,by rw[h.1];simp[AV.low,AV.jf],h.1,rfl⟩);have e:=trivial;refine wi abf func277 [3,5] [] 999 ?_;have⟨s1,e,m⟩:=ep e hm;simp[e];refine Cf (yz T (st:=λs:Int=>H++[[sI a1],[sI s]]) (Bs.Sh H (λs:Int=>[[sI a1],[sI s]]) 2 (λ_=>rfl) (by simp[AV.low,AV.jf])) (λX s _ _ b h=>by have:=GG T (H:=H++[[sI a1],[sI s]]++X) (q0:=(List.length H)) (q1:=(List.length H+1)) (by simp[e]) (by simp[e]) (by simp[e]) h;simpa using this) e.2) ?_;cases m;simp[e]
def yt(T:fg){H:eD}{a0:Tm}{a1 a b c:Int}{q0 q1:Nat}(d:H[q0]?=some [sI a])(f:H[q1]?=some [sI b])(g:q0≠q1)(hm:jK a0 a1 a b=some c):e9 prog T 276 [Tm.av a0,sI a1,AV.fE q0 0,AV.fE q1 0] H (AV.tuple []) (gj H q0 [sI c]):=by
 rw[jK] at hm;have h:=f_ d;have i:=f_ f;refine fH.I8 d ?_;have e:=Aj (Aj (Aj (Aj h i) f) g) g.symm;refine wi abf func276 [] [(1,true,[true,true,true,true,true,true,true,false])] 999 ?_;have⟨j,e,m⟩:=ep e hm;simp[e];refine Cs (BZ T e.2) ?_;cases m;simp[e]
def C6(T:fg):∀(n:Nat),(∀{S:Type} {st:S->eD} {k:Nat} {a0:Fm} {a1:Int} {a2:(S->Tm->Int->Option (S))} {i:S} {d:S} {g2:Nat} {b:List AV} (hF:Bs st k) (j:Cc T g2 b st a2) (hm:mI n a0 a1 a2 i=some d),e9 prog T 275 [Fm.av a0,sI a1,AV.func (.func g2) [] b] (st i) (AV.tuple []) (st d)):=by
  intro n
  induction n with
  |zero=>
    skip
    all_goals(intro _ _;intros;rename_i hm;cases hm)
  |succ n y=>
 intro S st k a0 a1 a2 i d g2 b hF j hm;rw[mI] at hm;have e:=hF.len;refine wi abf func275 [] [] 999 ?_;simp[e];refine Wr e hm 0 (λw s2 f h=>∃(a:Nat),h=st s2/\f.1 1=sI a1/\f.1 2=AV.func (.func g2) [] b/\f.1 3=AV.eB 3 a 0/\f.1 11=sL Tm.av a0.ek/\f.1 12=sI (eM a0.ek)/\f.1 13=sI w/\f.gen 3=a/\f.box 3=some [sI a0.aba,sI a0.dv.aba,sL Ty.av a0.dv.abb,sL Tm.av a0.ek,sL Fm.av a0.abb]) ⟨1,by simp[e]⟩ (λs2 s z A E m=>?_) (λw L s2 s z A n6 M E e m B t=>?_);rotate_left
 ·have⟨a,E⟩:=E;have e:=Aj e E;apply wg 999;have⟨C,e,m⟩:=ep e m;simp[e];refine mW.SX (by rfl) (Cc.U9 j e.2) ?_;simp[e];cases m;exact t _ _ _ ⟨a,by simp[e]⟩ B
 have⟨a,E⟩:=E;have e:=Aj e E;apply wg 5;dsimp only[en]at m;simp[e];refine Wj m 999 999 (λo f h=>∃(v12:Int) (c:Nat),(h=st s2/\f.1 1=sI v12/\f.1 2=AV.func (.func g2) [] b/\f.1 3=AV.eB 3 c 0/\f.gen 3=c/\f.box 3=some [sI a0.aba,sI a0.dv.aba,sL Ty.av a0.dv.abb,sL Tm.av a0.ek,sL Fm.av a0.abb])/\o v12=some d) (λo D g m=>?_) ?_
 ·have⟨F,e,m⟩:=ep e m;simp[e];refine Cf (vR e.2) ?_;rcases Io e m with⟨e,m⟩|⟨e,m⟩;rotate_left
  ·simp[e];exact g _ _ ⟨a1,a,by simp[e],m⟩
  simp[e];exact g _ _ ⟨(fj .i64 a1 1),a,by simp[e],m⟩
 rintro x G ⟨v12,c,E,m⟩;have e:=Aj e E;simp[e];refine Wr e m 999 (λp l f h=>h=st l/\f.1 1=sI v12/\f.1 2=AV.func (.func g2) [] b/\f.1 28=sL Fm.av a0.abb/\f.1 29=sI (eM a0.abb)/\f.1 30=sI p) (by simp[e]) (λl q u v E m=>?_) (λp H l q u v I J E e m z24 r=>?_)
 ·have e:=Aj e E;dsimp only[en]at m;cases m;simp[e]
 have e:=Aj e E;have⟨K,e,m⟩:=ep e m;simp[e];refine Cf (y hF j e.2) ?_;simp[e];cases m;exact r _ _ _ (by simp[e]) z24
def EH(T:fg){S:Type}{st:S->eD}{k:Nat}{a0:Fm}{a1:Int}{a2:(S->Tm->Int->Option (S))}{b c:S}{g2:Nat}{a:List AV}(hF:Bs st k)(d:Cc T g2 a st a2){n:Nat}(hm:mI n a0 a1 a2 b=some c):e9 prog T 275 [Fm.av a0,sI a1,AV.func (.func g2) [] a] (st b) (AV.tuple []) (st c):=(C6 T n) hF d hm
def qO(T:fg){H:eD}{a0:Fm}{a1 a:Int}(hm:kN a0 a1=some a):e9 prog T 246 [Fm.av a0,sI a1] H (sI a) H:=by
 rw[kN] at hm;refine fH.tY (Post:=λx K=>x=sI a/\∃X,K=H++X) ?_ (λ_ _ h=>⟨_,h.2.choose_spec,by rw[h.1];simp[AV.low,AV.jf],h.1,rfl⟩);have e:=trivial;refine wi abf func246 [3,5] [] 999 ?_;have⟨s1,e,m⟩:=ep e hm;simp[e];refine Cf (EH T (st:=λs:Int=>H++[[sI a1],[sI s]]) (Bs.Sh H (λs:Int=>[[sI a1],[sI s]]) 2 (λ_=>rfl) (by simp[AV.low,AV.jf])) (λX s _ _ b h=>by have:=yt T (H:=H++[[sI a1],[sI s]]++X) (q0:=(List.length H+1)) (q1:=(List.length H)) (by simp[e]) (by simp[e]) (by simp[e]) h;simpa using this) e.2) ?_;cases m;simp[e]
def Jy(T:fg){H:eD}{a0 a1 b:Int}{a h:Tm}{q0 q1:Nat}(c:H[q0]?=some [sI b])(d:H[q1]?=some [sI a.aba,sI a.abd,sI a.dv.aba,sL Ty.av a.dv.abb,sL Tm.av a.abb])(hm:oP a0 a1 b a=some h):e9 prog T 297 [sI a0,sI a1,AV.fE q0 0,AV.fE q1 0] H (Tm.av h) H:=by
 rw[oP] at hm;have f:=f_ c;have g:=f_ d;have e:=Aj (Aj (Aj f c) g) d;refine wi abf func297 [] [] 999 ?_;rcases Io e hm with⟨e,m⟩|⟨e,m⟩
 ·have⟨i,e,m⟩:=ep e m;simp[e];refine Cf (Ed T e.2) ?_;cases m;simp[e]
 rcases Io e m with⟨e,m⟩|⟨e,m⟩
 ·have⟨j,e,m⟩:=ep e m;simp[e];refine Cf (kC e.2) ?_;cases m;simp[e]
 have⟨k,e,m⟩:=ep e m;simp[e];refine Cf (kC e.2) ?_;cases m;simp[e]
def NC(T:fg){H:eD}{a0:Tm}{a1:Int}{a2 a:Tm}(hm:zd a0 a1 a2=some a):e9 prog T 279 [Tm.av a0,sI a1,Tm.av a2] H (Tm.av a) H:=by
 rw[zd] at hm;refine fH.tY (Post:=λx K=>x=Tm.av a/\∃X,K=H++X) ?_ (λ_ _ h=>⟨_,h.2.choose_spec,by rw[h.1];simp[AV.low,AV.jf],h.1,rfl⟩);have e:=trivial;refine wi abf func279 [4,5] [] 999 ?_;have⟨c,s2,e,m⟩:=gq e hm;simp[e];refine Cf (zx T (st:=λ_:Unit=>H++[[sI a1],[sI a2.aba,sI a2.abd,sI a2.dv.aba,sL Ty.av a2.dv.abb,sL Tm.av a2.abb]]) (Bs.const _) (λX _ _ _ _ _ h=>by obtain⟨b,rfl⟩:=uO h;exact Jy T (q0:=(List.length H)) (q1:=(List.length H+1)) (by simp[e]) (by simp[e]) b) e.2) ?_;cases m;simp[e]
def Ab(T:fg){H:eD}{a0:Tm}{a1 b:Int}{a h:Tm}{q0 q1:Nat}(c:H[q0]?=some [sI b])(d:H[q1]?=some [sI a.aba,sI a.abd,sI a.dv.aba,sL Ty.av a.dv.abb,sL Tm.av a.abb])(hm:jl a0 a1 b a=some h):e9 prog T 278 [Tm.av a0,sI a1,AV.fE q0 0,AV.fE q1 0] H (Tm.av h) H:=by
 rw[jl] at hm;have f:=f_ c;have g:=f_ d;have e:=Aj (Aj (Aj f c) g) d;refine wi abf func278 [] [] 999 ?_;have⟨i,e,m⟩:=ep e hm;simp[e];refine Cf (NC T e.2) ?_;cases m;simp[e]
def r6(T:fg){H:eD}{a0:Fm}{a1:Int}{a2:Tm}{a:Fm}(hm:k1 a0 a1 a2=some a):e9 prog T 247 [Fm.av a0,sI a1,Tm.av a2] H (Fm.av a) H:=by
 rw[k1] at hm;refine fH.tY (Post:=λx K=>x=Fm.av a/\∃X,K=H++X) ?_ (λ_ _ h=>⟨_,h.2.choose_spec,by rw[h.1];simp[AV.low,AV.jf],h.1,rfl⟩);have e:=trivial;refine wi abf func247 [4,5] [] 999 ?_;have⟨c,s2,e,m⟩:=gq e hm;simp[e];refine Cf (m6 T (st:=λ_:Unit=>H++[[sI a1],[sI a2.aba,sI a2.abd,sI a2.dv.aba,sL Ty.av a2.dv.abb,sL Tm.av a2.abb]]) (Bs.const _) (λX _ _ _ _ _ h=>by obtain⟨b,rfl⟩:=uO h;exact Ab T (q0:=(List.length H)) (q1:=(List.length H+1)) (by simp[e]) (by simp[e]) b) e.2) ?_;cases m;simp[e]
def rV(T:fg)(a:qy T){H:eD}{a0:Fm}{a1:Tm}{b:Fm}{c:Int}(hm:jd a0 a1=some (b,c)):e9 prog T 200 [Fm.av a0,Tm.av a1] H (AV.tuple [Fm.av b,sI c]) H:=by
 rw[jd] at hm;have e:=a;refine wi abf func200 [] [] 999 ?_;have⟨d,f,e,m⟩:=gq e hm;simp[e];refine Cf (qM T a e.2) ?_;have⟨g,h,e,m⟩:=gq e m;simp[e];refine Cf (sO T a e.2) ?_;have⟨i,e,m⟩:=ep e m;simp[e];refine Cf (qO T e.2) ?_;rcases Io e m with⟨e,m⟩|⟨e,m⟩
 ·cases m;simp[e]
 have⟨j,e,m⟩:=ep e m;simp[e];refine Cf (r6 T e.2) ?_;cases m;simp[e]
def xM:C1 prog 201 qd (λn=>AV.sc (Value.int .u32 n)) Tm.av:=by
 intro T H a0 r hm;rw[qd] at hm;have e:=trivial;refine wi abf func201 [] [] 999 ?_;cases hm;simp[e]
def Bh(T:fg)(f:qy T){H:eD}{a0:Tm}{a1 a:Int}{g:Tm}{b:Int}{q0:Nat}(c:H[q0]?=some [sI a])(hm:kg a0 a1 a=some (g,b)):e9 prog T 248 [Tm.av a0,sI a1,AV.fE q0 0] H (Tm.av g) (gj H q0 [sI b]):=by
 rw[kg] at hm;have d:=f_ c;refine fH.I8 c ?_;have e:=Aj f d;refine wi abf func248 [] [] 999 ?_;rcases Io e hm with⟨e,m⟩|⟨e,m⟩
 ·cases m;simp[e]
 have⟨h,i,j,e,m⟩:=Ix e m;simp[e];refine Cf (tT T f e.2) ?_;cases m;simp[e]
def Da(T:fg)(c:qy T){H:eD}{a0 a:Fm}{b:Int}(hm:mP a0=some (a,b)):e9 prog T 203 [Fm.av a0] H (AV.tuple [Fm.av a,sI b]) H:=by
 rw[mP] at hm;refine fH.tY (Post:=λx K=>x=AV.tuple [Fm.av a,sI b]/\∃X,K=H++X) ?_ (λ_ _ h=>⟨_,h.2.choose_spec,by rw[h.1];simp[AV.low,AV.jf],h.1,rfl⟩);have e:=c;refine wi abf func203 [4] [(6,true,[])] 999 ?_;have⟨d,e,m⟩:=ep e hm;simp[e];refine Cf (qO T e.2) ?_;rcases Io e m with⟨e,m⟩|⟨e,m⟩
 ·have⟨f,e,m⟩:=ep e m;simp[e];refine Cf (r6 T e.2) ?_;cases m;simp[e]
 have⟨g,i,e,m⟩:=gq e m;simp[e];refine Cf (m6 T (st:=λs:Int=>H++[[sI s]]) (Bs.Sh H (λs:Int=>[[sI s]]) 1 (λ_=>rfl) (by simp[AV.low,AV.jf])) (λX s _ _ _ j h=>by have:=Bh T c (H:=H++[[sI s]]++X) (q0:=(List.length H)) (by simp[e]) h;simpa using this) e.2) ?_;rcases Io e m with⟨e,m⟩|⟨e,m⟩
 ·cases m;simp[e]
 have⟨k,e,m⟩:=ep e m;simp[e];refine Cf (qO T e.2) ?_;rcases Io e m with⟨e,m⟩|⟨e,m⟩
 ·cases m;simp[e]
 have⟨l,e,m⟩:=ep e m;simp[e];refine Cf (r6 T e.2) ?_;cases m;simp[e]
def rz:C2 prog 250 rf Tm.av sI (sL Tm.av):=by
 intro T H a0 a1 r hm;rw[rf] at hm;have e:=trivial;refine wi abf func250 [] [] 999 ?_;cases hm;simp[e]
def yS:C1 prog 204 ka eP.av sI:=by
 intro T H a0 r hm;rw[ka] at hm;have e:=trivial;refine wi abf func204 [] [] 999 ?_;rcases Io e hm with⟨e,m⟩|⟨e,m⟩
 ·have⟨b,e,m⟩:=ep e m;simp[e];refine Cf (rz e.2) ?_;have⟨f,e,m⟩:=ep e m;simp[e];refine Cf (mT e.2) ?_;have⟨i,e,m⟩:=ep e m;simp[e];refine Cf (kC e.2) ?_;have⟨c,e,m⟩:=ep e m;simp[e];refine Cf (rz e.2) ?_;have e:=Aj e (show AV.agg [sI 1,sI b.aba,sI b.abd,sI b.dv.aba,sL Ty.av b.dv.abb,sL Tm.av b.abb,AV.slice .iN [Ty.av f],sI c.aba,sI c.abd,sI c.dv.aba,sL Ty.av c.dv.abb,sL Tm.av c.abb]=eP.av (eP.mk 1 b [f] c) by rw[eP.fL];rfl);have e:=Aj e (show AV.agg [sI 1,sI b.aba,sI b.abd,sI b.dv.aba,sL Ty.av b.dv.abb,sL Tm.av b.abb,AV.slice .iN [Ty.av f],sI c.aba,sI c.abd,sI c.dv.aba,sL Ty.av c.dv.abb,sL Tm.av c.abb]=eP.av (eP.mk 1 b [f] c) by rw[eP.fL];rfl);cases m;simp[e]
 have⟨d,e,m⟩:=ep e m;simp[e];refine Cf (rz e.2) ?_;have⟨g,e,m⟩:=ep e m;simp[e];refine Cf (mT e.2) ?_;have⟨h,e,m⟩:=ep e m;simp[e];refine Cf (DM e.2) ?_;have⟨j,e,m⟩:=ep e m;simp[e];refine Cf (kC e.2) ?_;have⟨k,e,m⟩:=ep e m;simp[e];refine Cf (kC e.2) ?_;have⟨a,e,m⟩:=ep e m;simp[e];refine Cf (rz e.2) ?_;have e:=Aj e (show AV.agg [sI 2,sI d.aba,sI d.abd,sI d.dv.aba,sL Ty.av d.dv.abb,sL Tm.av d.abb,AV.slice .iN [Ty.av g,Ty.av h],sI a.aba,sI a.abd,sI a.dv.aba,sL Ty.av a.dv.abb,sL Tm.av a.abb]=eP.av (eP.mk 2 d [g,h] a) by rw[eP.fL];rfl);have e:=Aj e (show AV.agg [sI 2,sI d.aba,sI d.abd,sI d.dv.aba,sL Ty.av d.dv.abb,sL Tm.av d.abb,AV.slice .iN [Ty.av g,Ty.av h],sI a.aba,sI a.abd,sI a.dv.aba,sL Ty.av a.dv.abb,sL Tm.av a.abb]=eP.av (eP.mk 2 d [g,h] a) by rw[eP.fL];rfl);cases m;simp[e]
def yn:C2 prog 207 q3 Fm.av Tm.av Tm.av:=by
 intro T H a0 a1 r hm;rw[q3] at hm;have e:=trivial;refine wi abf func207 [] [] 999 ?_;have e:=Aj e (show AV.agg [sI 1,sI 0,AV.slice .iN [],AV.slice .iN [Tm.av a0,Tm.av a1],AV.slice .iN []]=Fm.av (Fm.mk 1 (Ty.mk 0 []) [a0,a1] []) by rw[Fm.fL];rfl);have e:=Aj e (show AV.agg [sI 1,sI 0,AV.slice .iN [],AV.slice .iN [Tm.av a0,Tm.av a1],AV.slice .iN []]=Fm.av (Fm.mk 1 (Ty.mk 0 []) [a0,a1] []) by rw[Fm.fL];rfl);cases hm;simp[e]
def yr(T:fg){H:eD}{a0:List Fm}{a1:Pf}{a2:eh}{b:ec}{c:Int}{d:Nat}(a:KC H d a0)(hm:oc a0 a1 a2=some (b,c)):e9 prog T 150 [AV.fE d 0,Pf.av a1,eh.av a2] H (AV.tuple [ec.av b,sI c]) H:=by
 rw[oc] at hm;have e:=a;refine wi abf func150 [] [] 999 ?_;have⟨f,e,m⟩:=ep e hm;have⟨g,e,m⟩:=ep e m;simp[e];refine Cf (rF e.2) ?_;rcases Io e m with⟨e,m⟩|⟨e,m⟩
 ·cases m;simp[e]
 have⟨h,e,m⟩:=ep e m;simp[e];refine Cf (yn e.2) ?_;cases m;simp[e]
def Bq:C2 prog 210 rX Tm.av Tm.av (sL Tm.av):=by
 intro T H a0 a1 r hm;rw[rX] at hm;have e:=trivial;refine wi abf func210 [] [] 999 ?_;simp[e];refine Wr e hm 999 (λj s2 f h=>∃(a:Nat) (b:Nat),h=H/\f.1 2=AV.eB 2 a 0/\f.1 4=AV.eB 4 b 0/\f.1 7=sL Tm.av a1/\f.1 8=sI (eM a1)/\f.1 9=sI j/\f.gen 2=a/\f.box 2=some [sI s2.1,sI s2.2.1,sI s2.2.2.1,sL Ty.av s2.2.2.2.1,sL Tm.av s2.2.2.2.2]/\f.gen 4=b/\f.box 4=some [sI 0,sI 0,sI 0,AV.slice .full [],AV.slice .full []]) ⟨1,1,by simp[e]⟩ (λs2 c k l E m=>?_) (λj p s2 c k l n6 q E e m n d=>?_)
 ·have⟨v10,v11,v12,g,i⟩:=s2;have⟨a,b,E⟩:=E;have e:=Aj e E;dsimp only[en,FH]at m;cases m;simp[e]
 have⟨v10,v11,v12,g,i⟩:=s2;have⟨a,b,E⟩:=E;have e:=Aj e E;dsimp only[FH]at m;have⟨o,e,m⟩:=ep e m;simp[e];refine Cf (rz e.2) ?_;simp[e];cases m;exact d _ _ _ ⟨a,b,by simp[e]⟩ n
def Im:C1 prog 304 tG (t2 sI sI) sB:=by
 intro T H a0 r hm;rw[tG] at hm;have e:=trivial;refine wi abf func304 [] [] 999 ?_;rcases Io e hm with⟨e,m⟩|⟨e,m⟩
 ·cases m;simp[e]
 cases m;simp[e]
def AX:C2 prog 319 uV Tm.av Tm.av (sL Ty.av):=by
 intro T H a0 a1 r hm;rw[uV] at hm;have e:=trivial;refine wi abf func319 [] [] 999 ?_;simp[e];refine Wn hm 999 (λs1 f h=>∃(c:Tag) (a:Nat) (b:Nat),h=H/\f.1 1=sL Ty.av a1/\f.1 2=AV.eB 2 a 0/\f.1 4=AV.eB 4 b 0/\f.1 5=sI s1.1/\f.gen 2=a/\f.box 2=some [sI s1.2.1,sI s1.2.2.1,sI s1.2.2.2.1,sL Ty.av s1.2.2.2.2.1,sT c Tm.av s1.2.2.2.2.2]/\f.gen 4=b/\f.box 4=some [sI 0,sI 0,sI 0,AV.slice .full [],AV.slice .full []]) ⟨.iN,1,1,by simp[e]⟩ (λs1 fr2 k l n4 c5 E m g d=>?_);have⟨n,v9,v10,v11,v12,i⟩:=s1;have⟨c,a,b,E⟩:=E;have e:=Aj e E;dsimp only[y_]at m;rcases Io e m with⟨e,m⟩|⟨e,m⟩;rotate_left
 ·cases m;have m:=Qb g;dsimp only[y_]at m;cases m;simp[e]
 have⟨j,e,m⟩:=ep e m;simp[e];cases m;exact d _ _ _ ⟨.full,a,b,by simp[e]⟩ g
def No:C5 prog 320 yQ Tm.av sI Ty.av Tm.av Tm.av Tm.av:=by
 intro T H a0 a1 a2 a3 a4 r hm;rw[yQ] at hm;have e:=trivial;refine wi abf func320 [] [] 999 ?_;have e:=Aj e (show AV.agg [sI a0,sI 0,sI a1.aba,sL Ty.av a1.abb,AV.slice .iN [Tm.av a2,Tm.av a3,Tm.av a4]]=Tm.av (Tm.mk a0 0 a1 [a2,a3,a4]) by rw[Tm.fL];rfl);have e:=Aj e (show AV.agg [sI a0,sI 0,sI a1.aba,sL Ty.av a1.abb,AV.slice .iN [Tm.av a2,Tm.av a3,Tm.av a4]]=Tm.av (Tm.mk a0 0 a1 [a2,a3,a4]) by rw[Tm.fL];rfl);cases hm;simp[e]
def vI:C3 prog 315 nq Tm.av Tm.av Tm.av Tm.av:=by
 intro T H a0 a1 a2 r hm;rw[nq] at hm;have e:=trivial;refine wi abf func315 [] [] 999 ?_;have⟨a,e,m⟩:=ep e hm;simp[e];refine Cs (mT e.2) ?_;have⟨b,e,m⟩:=ep e m;simp[e];refine Cs (mT e.2) ?_;have⟨c,e,m⟩:=ep e m;simp[e];refine Cs (mT e.2) ?_;have⟨d,e,m⟩:=ep e m;simp[e];refine Cs (AX e.2) ?_;have⟨f,e,m⟩:=ep e m;simp[e];refine Cs (No e.2) ?_;cases m;simp[e]
def Kh:C0 prog 316 vp Tm.av:=by
 intro T H r hm;rw[vp] at hm;have e:=trivial;refine wi abf func316 [] [] 999 ?_;have⟨a,e,m⟩:=ep e hm;simp[e];refine Cf (rz e.2) ?_;have⟨b,e,m⟩:=ep e m;simp[e];refine Cf (kC e.2) ?_;have⟨c,e,m⟩:=ep e m;simp[e];refine Cf (kC e.2) ?_;have⟨d,e,m⟩:=ep e m;simp[e];refine Cf (vI e.2) ?_;have⟨f,e,m⟩:=ep e m;simp[e];refine Cf (mT e.2) ?_;have⟨g,e,m⟩:=ep e m;simp[e];refine Cf (AX e.2) ?_;cases m;simp[e]
def Mm:C1 prog 314 zU Tm.av Tm.av:=by
 intro T H a0 r hm;rw[zU] at hm;have e:=trivial;refine wi abf func314 [] [] 999 ?_;have⟨a,e,m⟩:=ep e hm;simp[e];refine Cs (mT e.2) ?_;have⟨b,e,m⟩:=ep e m;simp[e];refine Cs (mT e.2) ?_;have⟨c,e,m⟩:=ep e m;simp[e];refine Cs (AX e.2) ?_;cases m;simp[e]
def Ma:C0 prog 310 wI Tm.av:=by
 intro T H r hm;rw[wI] at hm;have e:=trivial;refine wi abf func310 [] [] 999 ?_;have⟨a,e,m⟩:=ep e hm;simp[e];refine Cf (kC e.2) ?_;have⟨b,e,m⟩:=ep e m;simp[e];refine Cf (Kh e.2) ?_;have⟨c,e,m⟩:=ep e m;simp[e];refine Cf (kC e.2) ?_;have⟨d,e,m⟩:=ep e m;simp[e];refine Cf (Bq e.2) ?_;have⟨f,e,m⟩:=ep e m;simp[e];refine Cf (kC e.2) ?_;have⟨g,e,m⟩:=ep e m;simp[e];refine Cf (vI e.2) ?_;have⟨h,e,m⟩:=ep e m;simp[e];refine Cf (Mm e.2) ?_;cases m;simp[e]
def J':C2 prog 306 uP Fm.av Tm.av Tm.av:=by
 intro T H a0 a1 r hm;rw[uP] at hm;have e:=trivial;refine wi abf func306 [] [] 999 ?_;have⟨a,e,m⟩:=ep e hm;simp[e];refine Cs (Ma e.2) ?_;have⟨b,e,m⟩:=ep e m;simp[e];refine Cs (rz e.2) ?_;have⟨c,e,m⟩:=ep e m;simp[e];refine Cs (Bq e.2) ?_;have⟨d,e,m⟩:=ep e m;simp[e];refine Cs (rz e.2) ?_;have⟨f,e,m⟩:=ep e m;simp[e];refine Cs (yn e.2) ?_;cases m;simp[e]
def Aa:∀(n:Nat),C2 prog 305 (kl n) sB Fm.av Fm.av:=by
  intro n
  induction n with
  |zero=>
    skip
    all_goals(intro _ _;intros;rename_i hm;cases hm)
  |succ n A=>
 intro T H a0 a1 r hm;rw[kl] at hm;have e:=trivial;refine wi abf func305 [] [] 3 ?_;simp[e];refine Wj hm 999 999 (λx f h=>∃(v2:Bool) (d:Nat) (g:Nat),(h=H/\f.1 2=AV.eB 2 d 0/\f.1 3=AV.eB 3 g 0/\f.1 39=sB v2/\f.gen 2=d/\f.box 2=some [sI a0.aba,sI a0.dv.aba,sL Ty.av a0.dv.abb,sL Tm.av a0.ek,sL Fm.av a0.abb]/\f.gen 3=g/\f.box 3=some [sI a1.aba,sI a1.dv.aba,sL Ty.av a1.dv.abb,sL Tm.av a1.ek,sL Fm.av a1.abb])/\x v2=some r) (λx P i m=>?_) ?_
 ·rcases Io e m with⟨e,m⟩|⟨e,m⟩
  ·simp[e];exact i _ _ ⟨true,1,1,by simp[e],m⟩
  have⟨Q,e,m⟩:=ep e m;simp[e];refine Cf (pk e.2) ?_;rcases Io e m with⟨e,m⟩|⟨e,m⟩;rotate_left
  ·simp[e];exact i _ _ ⟨true,1,1,by simp[e],m⟩
  rcases Io e m with⟨e,m⟩|⟨e,m⟩
  ·simp[e];exact i _ _ ⟨true,1,1,by simp[e],m⟩
  simp[e];exact i _ _ ⟨(eW (eM a0.abb) (eM a1.abb)),1,1,by simp[e],m⟩
 rintro B R ⟨v2,d,g,E,m⟩;have e:=Aj e E;rcases Io e m with⟨e,m⟩|⟨e,m⟩
 ·cases m;simp[e]
 simp[e];refine Wr e m 999 (λy z f h=>∃(c:Nat) (b:Nat),h=H/\f.1 2=AV.eB 2 c 0/\f.1 3=AV.eB 3 b 0/\f.1 41=sL Tm.av a0.ek/\f.1 42=sI (eM a0.ek)/\f.1 43=sI y/\f.gen 2=c/\f.box 2=some [sI a0.aba,sI a0.dv.aba,sL Ty.av a0.dv.abb,sL Tm.av a0.ek,sL Fm.av a0.abb]/\f.gen 3=b/\f.box 3=some [sI a1.aba,sI a1.dv.aba,sL Ty.av a1.dv.abb,sL Tm.av a1.ek,sL Fm.av a1.abb]) ⟨d,g,by simp[e]⟩ (λz t C u E m=>?_) (λy D z t C u F G E e m j k=>?_);rotate_left
 ·have⟨c,b,E⟩:=E;have e:=Aj e E;have⟨I,e,m⟩:=ep e m;have⟨J,e,m⟩:=ep e m;simp[e];refine Cs (yi e.2) ?_;rcases Io e m with⟨e,m⟩|⟨e,m⟩;rotate_left
  ·cases m;cases j;simp[e]
  simp[e];cases m;exact k _ _ _ ⟨c,b,by simp[e]⟩ j
 have⟨c,b,E⟩:=E;have e:=Aj e E;dsimp only[en]at m;simp[e];refine Wr e m 999 (λl o f h=>∃(a:Nat),h=H/\f.1 3=AV.eB 3 a 0/\f.1 58=sL Fm.av a0.abb/\f.1 59=sI (eM a0.abb)/\f.1 60=sI l/\f.gen 3=a/\f.box 3=some [sI a1.aba,sI a1.dv.aba,sL Ty.av a1.dv.abb,sL Tm.av a1.ek,sL Fm.av a1.abb]) ⟨b,by simp[e]⟩ (λo p v w E m=>?_) (λl K o p v w L M E e m q s=>?_)
 ·have⟨a,E⟩:=E;have e:=Aj e E;dsimp only[en]at m;cases m;simp[e]
 have⟨a,E⟩:=E;have e:=Aj e E;have⟨N,e,m⟩:=ep e m;have⟨O,e,m⟩:=ep e m;simp[e];refine Cs (A e.2) ?_;rcases Io e m with⟨e,m⟩|⟨e,m⟩;rotate_left
 ·cases m;cases q;simp[e]
 simp[e];cases m;exact s _ _ _ ⟨a,by simp[e]⟩ q
def Bn{n:Nat}:C2 prog 305 (kl n) sB Fm.av Fm.av:=(Aa n)
def H3(T:fg){H:eD}{a0:Fm}{r:Bool}{s:Tm}{t:Fm}{u:Bool}(hm:tF a0=some (r,s,t,u)):e9 prog T 287 [Fm.av a0] H (AV.tuple [sB r,Tm.av s,Fm.av t,sB u]) H:=by
 rw[tF] at hm;have e:=trivial;refine wi abf func287 [] [] 7 ?_;have⟨L,M,e,m⟩:=gq e hm;simp[e];refine Cf (Im e.2) ?_;simp[e];refine Wj m 999 0 (λw f h=>∃(v4:Bool) (a:Nat) (b:Nat) (c:Nat),(h=H/\f.1 1=AV.eB 1 a 0/\f.1 3=AV.eB 3 b 0/\f.1 4=AV.eB 4 c 0/\f.1 6=sB (eH a0.aba 4)/\f.1 48=sB v4/\f.gen 1=a/\f.box 1=some [sI a0.aba,sI a0.dv.aba,sL Ty.av a0.dv.abb,sL Tm.av a0.ek,sL Fm.av a0.abb]/\f.gen 3=b/\f.box 3=some [sI 0,sI 0,sI 0,AV.slice .full [],AV.slice .full []]/\f.gen 4=c/\f.box 4=some [sI 0,sI 0,AV.slice .full [],AV.slice .full [],AV.slice .full []])/\w v4=some (r,s,t,u)) (λw N n m=>?_) ?_
 ·rcases Io e m with⟨e,m⟩|⟨e,m⟩
  ·simp[e];exact n _ _ ⟨true,1,1,1,by simp[e],m⟩
  rcases Io e m with⟨e,m⟩|⟨e,m⟩
  ·simp[e];exact n _ _ ⟨true,1,1,1,by simp[e],m⟩
  have⟨O,e,m⟩:=ep e m;rcases Io e m with⟨e,m⟩|⟨e,m⟩
  ·simp[e];exact n _ _ ⟨true,1,1,1,by simp[e],m⟩
  have⟨y,e,m⟩:=ep e m;simp[e];exact n _ _ ⟨(eW y.aba 1),1,1,1,by simp[e],m⟩
 rintro o P ⟨v4,a,b,c,E,m⟩;have e:=Aj e E;rcases Io e m with⟨e,m⟩|⟨e,m⟩
 ·apply wg 999;cases m;simp[e]
 apply wg 7;have⟨z,e,m⟩:=ep e m;have⟨A,e,m⟩:=ep e m;have⟨k,e,m⟩:=ep e m;simp[e];refine Wj m 999 999 (λq f h=>∃(p:Bool) (g:Nat) (i:Nat) (j:Nat) (d:Nat),(h=H/\f.1 1=AV.eB 1 g 0/\f.1 3=AV.eB 3 i 0/\f.1 4=AV.eB 4 j 0/\f.1 6=sB (eH a0.aba 4)/\f.1 10=AV.eB 10 d 0/\f.1 83=sB p/\f.gen 1=g/\f.box 1=some [sI a0.aba,sI a0.dv.aba,sL Ty.av a0.dv.abb,sL Tm.av a0.ek,sL Fm.av a0.abb]/\f.gen 3=i/\f.box 3=some [sI 0,sI 0,sI 0,AV.slice .full [],AV.slice .full []]/\f.gen 4=j/\f.box 4=some [sI 0,sI 0,AV.slice .full [],AV.slice .full [],AV.slice .full []]/\f.gen 10=d/\f.box 10=some [sI k.aba,sI k.abd,sI k.dv.aba,sL Ty.av k.dv.abb,sL Tm.av k.abb])/\q p=some (r,s,t,u)) (λq B l m=>?_) ?_;rotate_left
 ·rintro x C ⟨p,g,i,j,d,E,m⟩;have e:=Aj e E;rcases Io e m with⟨e,m⟩|⟨e,m⟩
  ·cases m;simp[e]
  have⟨D,e,m⟩:=ep e m;have⟨F,e,m⟩:=ep e m;cases m;simp[e]
 rcases Io e m with⟨e,m⟩|⟨e,m⟩
 ·simp[e];exact l _ _ ⟨true,a,b,c,(o.gen 10+1),by simp[e],m⟩
 have⟨G,e,m⟩:=ep e m;have⟨I,e,m⟩:=ep e m;simp[e];refine Cs (BZ T e.2) ?_;rcases Io e m with⟨e,m⟩|⟨e,m⟩
 ·simp[e];exact l _ _ ⟨true,a,b,c,(o.gen 10+1),by simp[e],m⟩
 have⟨J,e,m⟩:=ep e m;simp[e];refine Cs (kC e.2) ?_;have⟨K,e,m⟩:=ep e m;simp[e];refine Cs (J' e.2) ?_;have⟨v,e,m⟩:=ep e m;simp[e];refine Cs (Bn e.2) ?_;simp[e];exact l _ _ ⟨(nC v),a,b,c,(o.gen 10+1),by simp[e],m⟩
def Lj:∀(n:Nat),C1 prog 255 (nu n) (λn=>AV.sc (Value.int .u8 n)) Fm.av:=by
  intro n
  induction n with
  |zero=>
    skip
    all_goals(intro _ _;intros;rename_i hm;cases hm)
  |succ n l=>
 intro T H a0 r hm;rw[nu] at hm;have e:=trivial;refine wi abf func255 [] [] 5 ?_;simp[e];rcases Io e hm with⟨e,m⟩|⟨e,m⟩
 ·apply wg 999;cases m;simp[e]
 apply wg 4;have⟨J,e,m⟩:=ep e m;have⟨i,e,m⟩:=ep e m;simp[e];refine Cf (l e.2) ?_;simp[e];refine Wj m 3 2 (λp f h=>∃(v4:Int) (b:Nat),(h=H/\f.1 1=AV.eB 1 b 0/\f.1 3=AV.sc (.int .u8 v4)/\f.gen 1=b/\f.box 1=some [sI a0.aba,sI a0.dv.aba,sL Ty.av a0.dv.abb,sL Tm.av a0.ek,sL Fm.av a0.abb])/\p v4=some r) (λp K j m=>?_) ?_;rotate_left
 ·rintro v L ⟨v4,b,E,m⟩;have e:=Aj e E;simp[e];refine Wj m 999 999 (λq f h=>∃(v9:Int),(h=H/\f.1 6=AV.sc (.int .u8 v9))/\q v9=some r) (λq w c m=>?_) ?_;rotate_left
  ·rintro s x ⟨v9,E,m⟩;have e:=Aj e E;cases m;simp[e]
  have⟨y,z,A,B,e,m⟩:=Bo4 e m;simp[e];refine Cf (H3 T e.2) ?_;rcases Io e m with⟨e,m⟩|⟨e,m⟩;rotate_left
  ·simp[e];exact c _ _ ⟨(qA .u8 v4 1),by simp[e],m⟩
  have⟨o,e,m⟩:=ep e m;simp[e];refine Cf (l e.2) ?_;simp[e];exact c _ _ ⟨(xm .u8 (qA .u8 v4 1) (qA .u8 o 4)),by simp[e],m⟩
 simp[e];refine wj 999 0 (λf h=>∃(a:Nat),h=H/\f.1 1=AV.eB 1 a 0/\f.1 3=AV.sc (.int .u8 i)/\f.1 24=sI a0.aba/\f.1 25=sB (fU (eH a0.aba 2) true (eH a0.aba 3))/\f.gen 1=a/\f.box 1=some [sI a0.aba,sI a0.dv.aba,sL Ty.av a0.dv.abb,sL Tm.av a0.ek,sL Fm.av a0.abb]) (λC d=>?_) ?_
 ·rcases Pb (eH a0.aba 2) e with e|e
  ·simp[e];exact d _ _ ⟨1,by simp[e]⟩
  simp[e];exact d _ _ ⟨1,by simp[e]⟩
 rintro t D ⟨a,E⟩;have e:=Aj e E;rcases Io e m with⟨e,m⟩|⟨e,m⟩;rotate_left
 ·apply wg 999;rcases Io e m with⟨e,m⟩|⟨e,m⟩;rotate_left
  ·simp[e];exact j _ _ ⟨i,a,by simp[e],m⟩
  simp[e];exact j _ _ ⟨(xm .u8 i 1),a,by simp[e],m⟩
 apply wg 5;have⟨F,e,m⟩:=ep e m;have⟨k,e,m⟩:=ep e m;simp[e];refine Cf (l e.2) ?_;simp[e];refine wj 2 999 (λf h=>h=H/\f.1 3=AV.sc (.int .u8 (fU (eH a0.aba 2) (xm .u8 i k) i))/\f.1 5=AV.sc (.int .u8 (qA .u8 (qA .u8 k i) 6))) (λG g=>?_) ?_;rotate_left
 ·rintro u I E;have e:=Aj e E;cases m;simp[e]
 simp[e];rcases Pb (eH a0.aba 2) e with e|e
 ·apply wg 999;simp[e];exact g _ _ (by simp[e])
 apply wg 999;simp[e];exact g _ _ (by simp[e])
def ND{n:Nat}:C1 prog 255 (nu n) (λn=>AV.sc (Value.int .u8 n)) Fm.av:=(Lj n)
def K_(T:fg)(a:qy T){H:eD}{a0:Fm}{a1:Int}{b:Bool}{c:Int}(hm:zV a0 a1=some (b,c)):e9 prog T 212 [Fm.av a0,AV.sc (.int .u8 a1)] H (AV.tuple [sB b,sI c]) H:=by
 rw[zV] at hm;have e:=a;refine wi abf func212 [] [] 999 ?_;have⟨d,e,m⟩:=ep e hm;simp[e];refine Cf (pd T a e.2) ?_;rcases Io e m with⟨e,m⟩|⟨e,m⟩
 ·cases m;simp[e]
 have⟨f,e,m⟩:=ep e m;simp[e];refine Cf (ND e.2) ?_;cases m;simp[e]
def Ep(T:fg)(a:qy T){H:eD}{a0:Fm}{b:Bool}{c:Int}(hm:px a0=some (b,c)):e9 prog T 153 [Fm.av a0] H (AV.tuple [sB b,sI c]) H:=by
 rw[px] at hm;have e:=a;refine wi abf func153 [] [] 999 ?_;have⟨d,f,e,m⟩:=gq e hm;simp[e];refine Cf (K_ T a e.2) ?_;cases m;simp[e]
def xb(T:fg)(k:qy T):∀(n:Nat),(∀{H:eD} {a0:List Fm} {a1:Pf} {a2:eh} {c:ec} {d:Int} {g:Nat} (a:KC H g a0) (hm:eZ n a0 a1 a2=some (c,d)),e9 prog T 81 [AV.fE g 0,Pf.av a1,eh.av a2] H (AV.tuple [ec.av c,sI d]) H)/\(∀{H:eD} {a0:List Fm} {a1:Pf} {a2:eh} {c:ec} {d:Int} {g:Nat} (a:KC H g a0) (hm:kW n a0 a1 a2=some (c,d)),e9 prog T 141 [AV.fE g 0,Pf.av a1,eh.av a2] H (AV.tuple [ec.av c,sI d]) H)/\(∀{H:eD} {a0:List Fm} {a1:Pf} {a2:eh} {c:ec} {d:Int} {g:Nat} (a:KC H g a0) (hm:iC n a0 a1 a2=some (c,d)),e9 prog T 142 [AV.fE g 0,Pf.av a1,eh.av a2] H (AV.tuple [ec.av c,sI d]) H)/\(∀{H:eD} {a0:List Fm} {a1:Pf} {a2:eh} {c:ec} {d:Int} {g:Nat} (a:KC H g a0) (hm:kU n a0 a1 a2=some (c,d)),e9 prog T 143 [AV.fE g 0,Pf.av a1,eh.av a2] H (AV.tuple [ec.av c,sI d]) H)/\(∀{H:eD} {a0:List Fm} {a1:Pf} {a2:eh} {c:ec} {d:Int} {g:Nat} (a:KC H g a0) (hm:kV n a0 a1 a2=some (c,d)),e9 prog T 144 [AV.fE g 0,Pf.av a1,eh.av a2] H (AV.tuple [ec.av c,sI d]) H)/\(∀{H:eD} {a0:List Fm} {a1:Pf} {a2:eh} {c:ec} {d:Int} {g:Nat} (a:KC H g a0) (hm:ig n a0 a1 a2=some (c,d)),e9 prog T 145 [AV.fE g 0,Pf.av a1,eh.av a2] H (AV.tuple [ec.av c,sI d]) H)/\(∀{H:eD} {a0:List Fm} {a1:Pf} {a2:eh} {c:ec} {d:Int} {g:Nat} (a:KC H g a0) (hm:ie n a0 a1 a2=some (c,d)),e9 prog T 146 [AV.fE g 0,Pf.av a1,eh.av a2] H (AV.tuple [ec.av c,sI d]) H)/\(∀{H:eD} {a0:List Fm} {a1:Pf} {a2:eh} {c:ec} {d:Int} {g:Nat} (a:KC H g a0) (hm:iD n a0 a1 a2=some (c,d)),e9 prog T 147 [AV.fE g 0,Pf.av a1,eh.av a2] H (AV.tuple [ec.av c,sI d]) H)/\(∀{H:eD} {a0:List Fm} {a1:Pf} {a2:eh} {c:ec} {d:Int} {g:Nat} (a:KC H g a0) (hm:iA n a0 a1 a2=some (c,d)),e9 prog T 148 [AV.fE g 0,Pf.av a1,eh.av a2] H (AV.tuple [ec.av c,sI d]) H)/\(∀{H:eD} {a0:List Fm} {a1:Pf} {a2:eh} {c:ec} {d:Int} {g:Nat} (a:KC H g a0) (hm:iB n a0 a1 a2=some (c,d)),e9 prog T 149 [AV.fE g 0,Pf.av a1,eh.av a2] H (AV.tuple [ec.av c,sI d]) H)/\(∀{H:eD} {a0:List Fm} {a1:Pf} {a2:eh} {c:ec} {d:Int} {g:Nat} (a:KC H g a0) (hm:kq n a0 a1 a2=some (c,d)),e9 prog T 151 [AV.fE g 0,Pf.av a1,eh.av a2] H (AV.tuple [ec.av c,sI d]) H)/\(∀{H:eD} {a0:List Fm} {a1:Pf} {a2:eh} {c:ec} {d:Int} {g:Nat} (a:KC H g a0) (hm:jU n a0 a1 a2=some (c,d)),e9 prog T 152 [AV.fE g 0,Pf.av a1,eh.av a2] H (AV.tuple [ec.av c,sI d]) H)/\(∀{H:eD} {a0:List Fm} {a1:Pf} {a2:eh} {a3:Int} {c:ec} {d:Int} {g:Nat} (a:KC H g a0) (hm:fa n a0 a1 a2 a3=some (c,d)),e9 prog T 192 [AV.fE g 0,Pf.av a1,eh.av a2,sI a3] H (AV.tuple [ec.av c,sI d]) H)/\(∀{H:eD} {a0:List Fm} {a1:Pf} {a2:eh} {a3:Fm} {a4:Tm} {c:ec} {d:Int} {g:Nat} (a:KC H g a0) (hm:fh n a0 a1 a2 a3 a4=some (c,d)),e9 prog T 202 [AV.fE g 0,Pf.av a1,eh.av a2,Fm.av a3,Tm.av a4] H (AV.tuple [ec.av c,sI d]) H):=by
  intro n
  induction n with
  |zero=>
    refine⟨?_,?_,?_,?_,?_,?_,?_,?_,?_,?_,?_,?_,?_,?_⟩
    all_goals(intro _ _;intros;rename_i hm;cases hm)
  |succ n j=>
 refine⟨?_,?_,?_,?_,?_,?_,?_,?_,?_,?_,?_,?_,?_,?_⟩
 ·intro H a0 a1 a2 c d g a hm;rw[eZ] at hm;have e:=Aj k a;refine wi abf func81 [] [(1,true,[])] 7 ?_;have aD:uy prog H 113 (AV.nZ (g-1)) (sI a1.aba) false=some (JN a1.aba):=NO a.2;have e:=Aj e aD;have⟨Z,x3,e,m⟩:=gq e hm;simp[e];refine qF.val (r:=AV.tuple [ec.av Z,sI x3]) (H':=H) ?_ (by simp) ?_
  ·have b:=e.2;rcases xr (eH a1.aba 1=true)with hk|hk
   ·rw[ee hk] at b;rw[ju hk (by rfl)];exact oz (yH T a b)
   rw[ea hk] at b;rcases xr (eH a1.aba 2=true)with hk|hk
   ·rw[ee hk] at b;rw[ju hk (by rfl)];exact oz (xU T a b)
   rw[ea hk] at b;rcases xr (eH a1.aba 3=true)with hk|hk
   ·rw[ee hk] at b;rw[ju hk (by rfl)];exact oz (j.2.1 a b)
   rw[ea hk] at b;rcases xr (eH a1.aba 4=true)with hk|hk
   ·rw[ee hk] at b;rw[ju hk (by rfl)];exact oz (j.2.2.1 a b)
   rw[ea hk] at b;rcases xr (eH a1.aba 5=true)with hk|hk
   ·rw[ee hk] at b;rw[ju hk (by rfl)];exact oz (j.2.2.1 a b)
   rw[ea hk] at b;rcases xr (eH a1.aba 6=true)with hk|hk
   ·rw[ee hk] at b;rw[ju hk (by rfl)];exact oz (j.2.2.2.1 a b)
   rw[ea hk] at b;rcases xr (eH a1.aba 7=true)with hk|hk
   ·rw[ee hk] at b;rw[ju hk (by rfl)];exact oz (j.2.2.2.2.1 a b)
   rw[ea hk] at b;rcases xr (eH a1.aba 8=true)with hk|hk
   ·rw[ee hk] at b;rw[ju hk (by rfl)];exact oz (j.2.2.2.2.2.1 a b)
   rw[ea hk] at b;rcases xr (eH a1.aba 12=true)with hk|hk
   ·rw[ee hk] at b;rw[ju hk (by rfl)];exact oz (j.2.2.2.2.2.1 a b)
   rw[ea hk] at b;rcases xr (eH a1.aba 9=true)with hk|hk
   ·rw[ee hk] at b;rw[ju hk (by rfl)];exact oz (j.2.2.2.2.2.2.1 a b)
   rw[ea hk] at b;rcases xr (eH a1.aba 13=true)with hk|hk
   ·rw[ee hk] at b;rw[ju hk (by rfl)];exact oz (j.2.2.2.2.2.2.1 a b)
   rw[ea hk] at b;rcases xr (eH a1.aba 10=true)with hk|hk
   ·rw[ee hk] at b;rw[ju hk (by rfl)];exact oz (j.2.2.2.2.2.2.2.1 a b)
   rw[ea hk] at b;rcases xr (eH a1.aba 14=true)with hk|hk
   ·rw[ee hk] at b;rw[ju hk (by rfl)];exact oz (j.2.2.2.2.2.2.2.1 a b)
   rw[ea hk] at b;rcases xr (eH a1.aba 11=true)with hk|hk
   ·rw[ee hk] at b;rw[ju hk (by rfl)];exact oz (j.2.2.2.2.2.2.2.2.1 a b)
   rw[ea hk] at b;rcases xr (eH a1.aba 15=true)with hk|hk
   ·rw[ee hk] at b;rw[ju hk (by rfl)];exact oz (j.2.2.2.2.2.2.2.2.1 a b)
   rw[ea hk] at b;rcases xr (eH a1.aba 16=true)with hk|hk
   ·rw[ee hk] at b;rw[ju hk (by rfl)];exact oz (j.2.2.2.2.2.2.2.2.2.1 a b)
   rw[ea hk] at b;rcases xr (eH a1.aba 17=true)with hk|hk
   ·rw[ee hk] at b;rw[ju hk (by rfl)];exact oz (j.2.2.2.2.2.2.2.2.2.1 a b)
   rw[ea hk] at b;rcases xr (eH a1.aba 18=true)with hk|hk
   ·rw[ee hk] at b;rw[ju hk (by rfl)];exact oz (yr T a b)
   rw[ea hk] at b;rcases xr (eH a1.aba 19=true)with hk|hk
   ·rw[ee hk] at b;rw[ju hk (by rfl)];exact oz (j.2.2.2.2.2.2.2.2.2.2.1 a b)
   rw[ea hk] at b;rcases xr (eH a1.aba 20=true)with hk|hk
   ·rw[ee hk] at b;rw[ju hk (by rfl)];exact oz (j.2.2.2.2.2.2.2.2.2.2.2.1 a b)
   rw[ea hk] at b;cases b
  simp[e];rcases Io e m with⟨e,m⟩|⟨e,m⟩
  ·apply wg 999;cases m;simp[e]
  apply wg 5;have⟨x5,e,m⟩:=ep e m;simp[e];refine Cf (pd T k e.2) ?_;simp[e];rcases Io e m with⟨e,m⟩|⟨e,m⟩
  ·apply wg 999;cases m;simp[e]
  apply wg 2;simp[e];refine Wj m 999 999 (λj6 f h=>∃(v7:Int) (y:Nat) (z:Nat),(h=H/\f.1 6=AV.eB 6 y 0/\f.1 8=AV.eB 8 z 0/\f.gen 6=y/\f.box 6=some [sI 0,sI 0,AV.slice .full [],AV.slice .full [],AV.slice .full [],AV.sc (.int .u32 0)]/\f.gen 8=z/\f.box 8=some [sI Z.eg.aba,sI Z.eg.dv.aba,sL Ty.av Z.eg.dv.abb,sL Tm.av Z.eg.ek,sL Fm.av Z.eg.abb,AV.sc (.int .u32 v7)])/\j6 v7=some (c,d)) (λj6 K8 aq m=>?_) ?_;rotate_left
  ·rintro aS aY ⟨v7,y,z,E,m⟩;have e:=Aj e E;cases m;simp[e]
  have⟨ar,aj,e,m⟩:=gq e m;simp[e];refine Cf (Ep T k e.2) ?_;rcases Io e m with⟨e,m⟩|⟨e,m⟩;rotate_left
  ·simp[e];exact aq _ _ ⟨0,1,1,by simp[e],m⟩
  simp[e];exact aq _ _ ⟨Z.gp,1,1,by simp[e],m⟩
 ·intro H a0 a1 a2 c d g a hm;rw[kW] at hm;have e:=Aj k a;refine wi abf func141 [] [] 999 ?_;have⟨ak,e,m⟩:=ep e hm;have⟨i,x5,e,m⟩:=gq e m;simp[e];refine Cs (j.1 a e.2) ?_;rcases Io e m with⟨e,m⟩|⟨e,m⟩
  ·cases m;simp[e]
  have⟨aj,e,m⟩:=ep e m;have⟨aE,aF,e,m⟩:=gq e m;simp[e];refine Cs (j.1 a e.2) ?_;rcases Io e m with⟨e,m⟩|⟨e,m⟩
  ·cases m;simp[e]
  have⟨au,e,m⟩:=ep e m;simp[e];refine Cs (Eb e.2) ?_;cases m;simp[e]
 ·intro H a0 a1 a2 c d g a hm;rw[iC] at hm;have e:=Aj k a;refine wi abf func142 [] [] 7 ?_;have⟨ak,e,m⟩:=ep e hm;have⟨i,x5,e,m⟩:=gq e m;simp[e];refine Cs (j.2.2.2.2.2.2.2.2.2.2.2.2.1 a e.2) ?_;simp[e];rcases Io e m with⟨e,m⟩|⟨e,m⟩
  ·apply wg 999;cases m;simp[e]
  apply wg 4;simp[e];refine wj 999 999 (λf h=>∃(A:Nat) (B:Nat),h=H/\f.1 6=AV.eB 6 A 0/\f.1 8=AV.eB 8 B 0/\f.1 10=sI (fU (eH a1.aba 5) 1 0)/\f.gen 6=A/\f.box 6=some [sI 0,sI 0,AV.slice .full [],AV.slice .full [],AV.slice .full [],AV.sc (.int .u32 0)]/\f.gen 8=B/\f.box 8=some [sI i.eg.aba,sI i.eg.dv.aba,sL Ty.av i.eg.dv.abb,sL Tm.av i.eg.ek,sL Fm.av i.eg.abb,AV.sc (.int .u32 i.gp)]) (λaZ ad=>?_) ?_;rotate_left
  ·rintro aT a6 ⟨A,B,E⟩;have e:=Aj e E;have⟨x7,e,m⟩:=ep e m;cases m;simp[e]
  rcases Pb (eH a1.aba 5) e with e|e
  ·simp[e];exact ad _ _ ⟨1,1,by simp[e]⟩
  simp[e];exact ad _ _ ⟨1,1,by simp[e]⟩
 ·intro H a0 a1 a2 c d g a hm;rw[kU] at hm;have e:=Aj k a;refine wi abf func143 [] [] 999 ?_;have⟨C,e,m⟩:=ep e hm;have⟨Z,e,m⟩:=ep e m;simp[e];refine Cf (iV e.2) ?_;rcases Io e m with⟨e,m⟩|⟨e,m⟩
  ·cases m;simp[e]
  have⟨x5,e,m⟩:=ep e m;simp[e];refine Cf (nF e.2) ?_;rcases Io e m with⟨e,m⟩|⟨e,m⟩
  ·cases m;simp[e]
  have⟨aG,e,m⟩:=ep e m;have⟨aw,e,m⟩:=ep e m;simp[e];refine Cs (n_ e.2) ?_;have⟨aH,au,e,m⟩:=gq e m;simp[e];refine Cs (j.1 a e.2) ?_;rcases Io e m with⟨e,m⟩|⟨e,m⟩
  ·cases m;simp[e]
  have⟨aI,e,m⟩:=ep e m;simp[e];refine Cs (Eb e.2) ?_;cases m;simp[e]
 ·intro H a0 a1 a2 c d g a hm;rw[kV] at hm;have e:=Aj k a;refine wi abf func144 [] [] 999 ?_;have⟨ak,e,m⟩:=ep e hm;have⟨i,x5,e,m⟩:=gq e m;simp[e];refine Cs (j.2.2.2.2.2.2.2.2.2.2.2.2.1 a e.2) ?_;rcases Io e m with⟨e,m⟩|⟨e,m⟩
  ·cases m;simp[e]
  have⟨aj,e,m⟩:=ep e m;have⟨aE,aF,e,m⟩:=gq e m;simp[e];refine Cs (j.1 a e.2) ?_;rcases Io e m with⟨e,m⟩|⟨e,m⟩
  ·cases m;simp[e]
  have⟨aJ,e,m⟩:=ep e m;have⟨aa,e,m⟩:=ep e m;simp[e];refine Cs (yo T k e.2) ?_;rcases Io e m with⟨e,m⟩|⟨e,m⟩
  ·cases m;simp[e]
  have⟨V,e,m⟩:=ep e m;cases m;simp[e]
 ·intro H a0 a1 a2 c d g a hm;rw[ig] at hm;have e:=Aj k a;refine wi abf func145 [] [] 7 ?_;have⟨a7,e,m⟩:=ep e hm;simp[e];refine Cf (nF e.2) ?_;simp[e];rcases Io e m with⟨e,m⟩|⟨e,m⟩
  ·apply wg 999;cases m;simp[e]
  apply wg 7;have⟨x7,e,m⟩:=ep e m;have⟨a8,e,m⟩:=ep e m;simp[e];refine Cs (pZ e.2) ?_;have⟨W,ar,e,m⟩:=gq e m;simp[e];refine Cs (j.1 a e.2) ?_;simp[e];rcases Io e m with⟨e,m⟩|⟨e,m⟩
  ·apply wg 999;cases m;simp[e]
  apply wg 4;simp[e];refine Wj m 999 999 (λax f h=>∃(al:Int) (D:Nat) (F:Nat) (G:Nat),(h=H/\f.1 4=AV.eB 4 D 0/\f.1 6=AV.eB 6 F 0/\f.1 9=AV.eB 9 G 0/\f.1 11=sI al/\f.gen 4=D/\f.box 4=some [sI a1.aba,sI a1.abd,sI a1.dv.aba,sL Ty.av a1.dv.abb,sL Tm.av a1.ek,sL Fm.av a1.fi,sL Pf.av a1.abb]/\f.gen 6=F/\f.box 6=some [sI 0,sI 0,AV.slice .full [],AV.slice .full [],AV.slice .full [],AV.sc (.int .u32 0)]/\f.gen 9=G/\f.box 9=some [sI W.eg.aba,sI W.eg.dv.aba,sL Ty.av W.eg.dv.abb,sL Tm.av W.eg.ek,sL Fm.av W.eg.abb,AV.sc (.int .u32 W.gp)])/\ax al=some (c,d)) (λax a_ ae m=>?_) ?_
  ·rcases Io e m with⟨e,m⟩|⟨e,m⟩;rotate_left
   ·simp[e];exact ae _ _ ⟨4,1,1,1,by simp[e],m⟩
   rcases Io e m with⟨e,m⟩|⟨e,m⟩
   ·cases m;simp[e]
   simp[e];exact ae _ _ ⟨6,1,1,1,by simp[e],m⟩
  rintro aU a' ⟨al,D,F,G,E,m⟩;have e:=Aj e E;have⟨ba,e,m⟩:=ep e m;simp[e];refine Cs (r8 e.2) ?_;have⟨bb,e,m⟩:=ep e m;simp[e];refine Cs (oQ e.2) ?_;cases m;simp[e]
 ·intro H a0 a1 a2 c d g a hm;rw[ie] at hm;have e:=Aj k a;refine wi abf func146 [] [] 9 ?_;have⟨C,e,m⟩:=ep e hm;have⟨an,bc,e,m⟩:=gq e m;simp[e];refine Cf (lY e.2) ?_;simp[e];rcases Io e m with⟨e,m⟩|⟨e,m⟩
  ·apply wg 999;cases m;simp[e]
  apply wg 4;have⟨ay,e,m⟩:=ep e m;simp[e];refine Cf (wq T e.2) ?_;simp[e];refine wj 999 999 (λf h=>∃(I:Nat) (J:Nat) (K:Nat) (L:Nat) (M:Nat),h=H/\f.1 0=AV.fE g 0/\f.1 4=AV.eB 4 I 0/\f.1 5=AV.eB 5 J 0/\f.1 6=AV.eB 6 K 0/\f.1 8=AV.eB 8 L 0/\f.1 9=AV.eB 9 M 0/\f.1 11=sI (fU (eH a1.aba 13) 6 4)/\f.1 12=AV.sc (.int .u32 (fU (eH a1.aba 13) 0 ay))/\f.gen 4=I/\f.box 4=some [sI a1.aba,sI a1.abd,sI a1.dv.aba,sL Ty.av a1.dv.abb,sL Tm.av a1.ek,sL Fm.av a1.fi,sL Pf.av a1.abb]/\f.gen 5=J/\f.box 5=some [sI a2.gk.vars,sI a2.gk.abh,sL ed.av a2.abe,sL ew.av a2.known]/\f.gen 6=K/\f.box 6=some [sI 0,sI 0,AV.slice .full [],AV.slice .full [],AV.slice .full [],AV.sc (.int .u32 0)]/\f.gen 8=L/\f.box 8=some [sI C.aba,sI C.abd,sI C.dv.aba,sL Ty.av C.dv.abb,sL Tm.av C.abb]/\f.gen 9=M/\f.box 9=some [sI an.dv.aba,sL Ty.av an.dv.abb,sI an.abc]) (λbd af=>?_) ?_
  ·rcases Pb (eH a1.aba 13) e with e|e
   ·simp[e];exact af _ _ ⟨1,1,1,1,1,by simp[e]⟩
   simp[e];exact af _ _ ⟨1,1,1,1,1,by simp[e]⟩
  rintro aV bf ⟨I,J,K,L,M,E⟩;have e:=Aj e E;have⟨bg,e,m⟩:=ep e m;have⟨ar,aj,e,m⟩:=gq e m;simp[e];refine Cs (j.2.2.2.2.2.2.2.2.2.2.2.2.1 a e.2) ?_;rcases Io e m with⟨e,m⟩|⟨e,m⟩
  ·cases m;simp[e]
  have⟨aw,e,m⟩:=ep e m;simp[e];refine Cf (qN e.2) ?_;rcases Io e m with⟨e,m⟩|⟨e,m⟩;rotate_left
  ·cases m;simp[e]
  have⟨bh,e,m⟩:=ep e m;have⟨aK,aL,e,m⟩:=gq e m;simp[e];refine Cs (rV T k e.2) ?_;cases m;simp[e]
 ·intro H a0 a1 a2 c d g a hm;rw[iD] at hm;have e:=Aj k a;refine wi abf func147 [] [] 999 ?_;have⟨ay,e,m⟩:=ep e hm;have⟨bj,e,m⟩:=ep e m;rcases Io e m with⟨e,m⟩|⟨e,m⟩;rotate_left
  ·have⟨bk,e,m⟩:=ep e m;simp[e];refine Cf (iV e.2) ?_;rcases Io e m with⟨e,m⟩|⟨e,m⟩
   ·cases m;simp[e]
   rcases Io e m with⟨e,m⟩|⟨e,m⟩
   ·cases m;simp[e]
   have⟨bl,aM,e,m⟩:=gq e m;simp[e];refine Cf (lY e.2) ?_;rcases Io e m with⟨e,m⟩|⟨e,m⟩
   ·cases m;simp[e]
   have⟨bm,e,m⟩:=ep e m;simp[e];refine Cf (qN e.2) ?_;rcases Io e m with⟨e,m⟩|⟨e,m⟩;rotate_left
   ·cases m;simp[e]
   have⟨aN,e,m⟩:=ep e m;have⟨bn,e,m⟩:=ep e m;have⟨bo,bp,e,m⟩:=gq e m;simp[e];refine Cs (j.2.2.2.2.2.2.2.2.2.2.2.2.2 a e.2) ?_;rcases Io e m with⟨e,m⟩|⟨e,m⟩
   ·cases m;simp[e]
   have⟨bq,e,m⟩:=ep e m;simp[e];refine Cs (wq T e.2) ?_;cases m;simp[e]
  have⟨az,e,m⟩:=ep e m;simp[e];refine Cf (iV e.2) ?_;rcases Io e m with⟨e,m⟩|⟨e,m⟩
  ·cases m;simp[e]
  rcases Io e m with⟨e,m⟩|⟨e,m⟩
  ·cases m;simp[e]
  have⟨x9,br,e,m⟩:=gq e m;simp[e];refine Cf (lY e.2) ?_;rcases Io e m with⟨e,m⟩|⟨e,m⟩
  ·cases m;simp[e]
  have⟨bs,e,m⟩:=ep e m;simp[e];refine Cf (qN e.2) ?_;rcases Io e m with⟨e,m⟩|⟨e,m⟩;rotate_left
  ·cases m;simp[e]
  have⟨bt,e,m⟩:=ep e m;have⟨bu,e,m⟩:=ep e m;have⟨aL,aO,e,m⟩:=gq e m;simp[e];refine Cs (j.2.2.2.2.2.2.2.2.2.2.2.2.2 a e.2) ?_;rcases Io e m with⟨e,m⟩|⟨e,m⟩
  ·cases m;simp[e]
  have⟨w,e,m⟩:=ep e m;simp[e];refine Cs (xM e.2) ?_;cases m;simp[e]
 ·intro H a0 a1 a2 c d g a hm;rw[iA] at hm;have e:=Aj k a;refine wi abf func148 [] [] 6 ?_;simp[e];refine wj 999 5 (λf h=>∃(N:Nat) (O:Nat) (l:Nat),h=H/\f.1 0=AV.fE g 0/\f.1 4=AV.eB 4 N 0/\f.1 5=AV.eB 5 O 0/\f.1 6=AV.eB 6 l 0/\f.1 8=sB (eH a1.aba 15)/\f.1 9=sI (fU (eH a1.aba 15) 7 5)/\f.gen 4=N/\f.box 4=some [sI a1.aba,sI a1.abd,sI a1.dv.aba,sL Ty.av a1.dv.abb,sL Tm.av a1.ek,sL Fm.av a1.fi,sL Pf.av a1.abb]/\f.gen 5=O/\f.box 5=some [sI a2.gk.vars,sI a2.gk.abh,sL ed.av a2.abe,sL ew.av a2.known]/\f.gen 6=l/\f.box 6=some [sI 0,sI 0,AV.slice .full [],AV.slice .full [],AV.slice .full [],AV.sc (.int .u32 0)]) (λbw aA=>?_) ?_
  ·rcases Pb (eH a1.aba 15) e with e|e
   ·simp[e];exact aA _ _ ⟨1,1,1,by simp[e]⟩
   simp[e];exact aA _ _ ⟨1,1,1,by simp[e]⟩
  rintro o bx ⟨N,O,l,E⟩;have e:=Aj e E;have⟨x5,e,m⟩:=ep e hm;have⟨P,bz,e,m⟩:=gq e m;simp[e];refine Cs (j.2.2.2.2.2.2.2.2.2.2.2.2.1 a e.2) ?_;simp[e];rcases Io e m with⟨e,m⟩|⟨e,m⟩
  ·apply wg 999;cases m;simp[e]
  apply wg 7;have⟨x7,e,m⟩:=ep e m;simp[e];refine Cf (nF e.2) ?_;simp[e];rcases Io e m with⟨e,m⟩|⟨e,m⟩
  ·apply wg 999;cases m;simp[e]
  apply wg 7;have⟨aO,e,m⟩:=ep e m;have⟨bA,e,m⟩:=ep e m;simp[e];refine Cs (pZ e.2) ?_;have⟨aJ,e,m⟩:=ep e m;have⟨aa,e,m⟩:=ep e m;simp[e];refine Cs (n_ e.2) ?_;have⟨w,bB,e,m⟩:=gq e m;simp[e];refine Cs (j.1 a e.2) ?_;simp[e];rcases Io e m with⟨e,m⟩|⟨e,m⟩
  ·apply wg 999;cases m;simp[e]
  apply wg 7;have⟨V,aP,e,m⟩:=gq e m;simp[e];refine Cf (Da T k e.2) ?_;simp[e];rcases Io e m with⟨e,m⟩|⟨e,m⟩
  ·apply wg 999;cases m;simp[e]
  apply wg 3;simp[e];refine wj 999 999 (λf h=>∃(Q:Nat) (p:Nat) (q:Nat) (s:Nat),h=H/\f.1 6=AV.eB 6 Q 0/\f.1 10=AV.eB 10 p 0/\f.1 13=AV.eB 13 q 0/\f.1 14=AV.eB 14 s 0/\f.1 82=sB (fU (eH a1.aba 15) (eW (qA .u32 w.gp 1) 0) false)/\f.gen 6=Q/\f.box 6=some [sI 0,sI 0,AV.slice .full [],AV.slice .full [],AV.slice .full [],AV.sc (.int .u32 0)]/\f.gen 10=p/\f.box 10=some [sI P.eg.aba,sI P.eg.dv.aba,sL Ty.av P.eg.dv.abb,sL Tm.av P.eg.ek,sL Fm.av P.eg.abb,AV.sc (.int .u32 P.gp)]/\f.gen 13=q/\f.box 13=some [sI w.eg.aba,sI w.eg.dv.aba,sL Ty.av w.eg.dv.abb,sL Tm.av w.eg.ek,sL Fm.av w.eg.abb,AV.sc (.int .u32 w.gp)]/\f.gen 14=s/\f.box 14=some [sI V.aba,sI V.dv.aba,sL Ty.av V.dv.abb,sL Tm.av V.ek,sL Fm.av V.abb]) (λbC ah=>?_) ?_;rotate_left
  ·rintro aW bD ⟨Q,p,q,s,E⟩;have e:=Aj e E;rcases Io e m with⟨e,m⟩|⟨e,m⟩
   ·cases m;simp[e]
   have⟨aQ,e,m⟩:=ep e m;simp[e];refine Cs (oQ e.2) ?_;cases m;simp[e]
  rcases Pb (eH a1.aba 15) e with e|e
  ·simp[e];exact ah _ _ ⟨l,(o.gen 10+1),(o.gen 13+1),(o.gen 14+1),by simp[e]⟩
  simp[e];exact ah _ _ ⟨l,(o.gen 10+1),(o.gen 13+1),(o.gen 14+1),by simp[e]⟩
 ·intro H a0 a1 a2 c d g a hm;rw[iB] at hm;have e:=Aj k a;refine wi abf func149 [] [] 999 ?_;have⟨x5,e,m⟩:=ep e hm;have⟨P,e,m⟩:=ep e m;have⟨az,e,m⟩:=ep e m;simp[e];refine Cs (yS e.2) ?_;have⟨aR,e,m⟩:=ep e m;simp[e];refine Cs (m8 e.2) ?_;have⟨aI,e,m⟩:=ep e m;simp[e];refine Cs (iV e.2) ?_;rcases Io e m with⟨e,m⟩|⟨e,m⟩
  ·cases m;simp[e]
  have⟨aK,e,m⟩:=ep e m;simp[e];refine Cf (tI e.2) ?_;rcases Io e m with⟨e,m⟩|⟨e,m⟩
  ·cases m;simp[e]
  have⟨aP,e,m⟩:=ep e m;have⟨bE,bF,e,m⟩:=gq e m;simp[e];refine Cs (j.2.2.2.2.2.2.2.2.2.2.2.2.2 a e.2) ?_;rcases Io e m with⟨e,m⟩|⟨e,m⟩
  ·cases m;simp[e]
  have⟨bG,e,m⟩:=ep e m;simp[e];refine Cf (nF e.2) ?_;rcases Io e m with⟨e,m⟩|⟨e,m⟩
  ·cases m;simp[e]
  have⟨bH,e,m⟩:=ep e m;simp[e];refine Cs (pZ e.2) ?_;have⟨bI,e,m⟩:=ep e m;simp[e];refine Cs (oO T e.2) ?_;have⟨bJ,e,m⟩:=ep e m;simp[e];refine Cs (n_ e.2) ?_;have⟨bK,e,m⟩:=ep e m;have⟨bL,e,m⟩:=ep e m;simp[e];refine Cs (oO T e.2) ?_;have⟨bM,bN,e,m⟩:=gq e m;simp[e];refine Cs (j.2.2.2.2.2.2.2.2.2.2.2.2.2 a e.2) ?_;rcases Io e m with⟨e,m⟩|⟨e,m⟩
  ·cases m;simp[e]
  have⟨bO,bP,e,m⟩:=gq e m;simp[e];refine Cf (rV T k e.2) ?_;have⟨bQ,e,m⟩:=ep e m;simp[e];refine Cs (wq T e.2) ?_;have⟨bR,e,m⟩:=ep e m;simp[e];refine Cs (oQ e.2) ?_;cases m;simp[e]
 ·intro H a0 a1 a2 c d g a hm;rw[kq] at hm;have e:=Aj k a;refine wi abf func151 [] [] 999 ?_;have⟨C,e,m⟩:=ep e hm;have⟨au,e,m⟩:=ep e m;simp[e];refine Cs (mT e.2) ?_;have⟨bS,e,m⟩:=ep e m;simp[e];refine Cs (m8 e.2) ?_;have⟨bT,e,m⟩:=ep e m;simp[e];refine Cs (iV e.2) ?_;rcases Io e m with⟨e,m⟩|⟨e,m⟩
  ·cases m;simp[e]
  have⟨bU,e,m⟩:=ep e m;have⟨bV,aa,e,m⟩:=gq e m;simp[e];refine Cs (j.2.2.2.2.2.2.2.2.2.2.2.2.1 a e.2) ?_;rcases Io e m with⟨e,m⟩|⟨e,m⟩
  ·cases m;simp[e]
  have⟨aQ,e,m⟩:=ep e m;have⟨bW,e,m⟩:=ep e m;have⟨bX,bY,e,m⟩:=gq e m;simp[e];refine Cs (j.2.2.2.2.2.2.2.2.2.2.2.2.2 a e.2) ?_;rcases Io e m with⟨e,m⟩|⟨e,m⟩
  ·cases m;simp[e]
  have⟨bZ,e,m⟩:=ep e m;have⟨aN,b0,e,m⟩:=gq e m;simp[e];refine Cs (rV T k e.2) ?_;cases m;simp[e]
 ·intro H a0 a1 a2 c d g a hm;rw[jU] at hm;have e:=Aj k a;refine wi abf func152 [] [] 7 ?_;have⟨ak,e,m⟩:=ep e hm;have⟨i,x5,e,m⟩:=gq e m;simp[e];refine Cs (j.2.2.2.2.2.2.2.2.2.2.2.2.1 a e.2) ?_;simp[e];rcases Io e m with⟨e,m⟩|⟨e,m⟩
  ·apply wg 999;cases m;simp[e]
  apply wg 9;have⟨az,e,m⟩:=ep e m;simp[e];rcases Io e m with⟨e,m⟩|⟨e,m⟩
  ·apply wg 999;cases m;simp[e]
  apply wg 7;have⟨x8,e,m⟩:=ep e m;simp[e];refine Cf (Bp e.2) ?_;have⟨aG,e,m⟩:=ep e m;have⟨aw,e,m⟩:=ep e m;simp[e];refine Cf (oO T e.2) ?_;have⟨aH,e,m⟩:=ep e m;simp[e];refine Cf (kC e.2) ?_;have⟨b1,e,m⟩:=ep e m;simp[e];refine Cf (kC e.2) ?_;have⟨b2,e,m⟩:=ep e m;simp[e];refine Cf (Bq e.2) ?_;have⟨X,aR,e,m⟩:=gq e m;simp[e];refine Cf (rV T k e.2) ?_;simp[e];refine Wj m 999 999 (λaB f h=>∃(ao:Bool) (R:Nat) (S:Nat) (t:Nat) (u:Nat) (v:Nat),(h=H/\f.1 6=AV.eB 6 R 0/\f.1 8=AV.eB 8 S 0/\f.1 10=AV.eB 10 t 0/\f.1 12=AV.eB 12 u 0/\f.1 13=AV.eB 13 v 0/\f.1 63=sB ao/\f.gen 6=R/\f.box 6=some [sI 0,sI 0,AV.slice .full [],AV.slice .full [],AV.slice .full [],AV.sc (.int .u32 0)]/\f.gen 8=S/\f.box 8=some [sI i.eg.aba,sI i.eg.dv.aba,sL Ty.av i.eg.dv.abb,sL Tm.av i.eg.ek,sL Fm.av i.eg.abb,AV.sc (.int .u32 i.gp)]/\f.gen 10=t/\f.box 10=some [sI i.eg.aba,sI i.eg.dv.aba,sL Ty.av i.eg.dv.abb,sL Tm.av i.eg.ek,sL Fm.av i.eg.abb]/\f.gen 12=u/\f.box 12=some [sI x8.aba,sL Ty.av x8.abb]/\f.gen 13=v/\f.box 13=some [sI X.aba,sI X.dv.aba,sL Ty.av X.dv.abb,sL Tm.av X.ek,sL Fm.av X.abb])/\aB ao=some (c,d)) (λaB b3 ai m=>?_) ?_
  ·rcases Io e m with⟨e,m⟩|⟨e,m⟩
   ·simp[e];exact ai _ _ ⟨true,1,1,1,1,1,by simp[e],m⟩
   have⟨aa,e,m⟩:=ep e m;simp[e];refine Cf (AH e.2) ?_;simp[e];exact ai _ _ ⟨(eW aa 0),1,1,1,1,1,by simp[e],m⟩
  rintro aX b4 ⟨ao,R,S,t,u,v,E,m⟩;have e:=Aj e E;rcases Io e m with⟨e,m⟩|⟨e,m⟩
  ·cases m;simp[e]
  have⟨b5,e,m⟩:=ep e m;simp[e];refine Cs (r8 e.2) ?_;have⟨aM,e,m⟩:=ep e m;simp[e];refine Cs (r8 e.2) ?_;cases m;simp[e]
 ·intro H a0 a1 a2 a3 c d g a hm;rw[fa] at hm;have e:=Aj k a;refine wi abf func192 [] [] 5 ?_;have⟨x,ab,e,m⟩:=gq e hm;simp[e];refine Cf (j.1 a e.2) ?_;simp[e];refine wj 999 999 (λf h=>∃(Y:Nat) (U:Nat),h=H/\f.1 8=AV.eB 8 Y 0/\f.1 10=AV.eB 10 U 0/\f.1 11=sI ab/\f.1 27=sB (fU (eH ab 0) (eW x.eg.aba a3) false)/\f.gen 8=Y/\f.box 8=some [sI 0,sI 0,AV.slice .full [],AV.slice .full [],AV.slice .full [],AV.sc (.int .u32 0)]/\f.gen 10=U/\f.box 10=some [sI x.eg.aba,sI x.eg.dv.aba,sL Ty.av x.eg.dv.abb,sL Tm.av x.eg.ek,sL Fm.av x.eg.abb,AV.sc (.int .u32 x.gp)]) (λK1 aC=>?_) ?_;rotate_left
  ·rintro b6 h3 ⟨Y,U,E⟩;have e:=Aj e E;rcases Io e m with⟨e,m⟩|⟨e,m⟩
   ·cases m;simp[e]
   cases m;simp[e]
  rcases Pb (eH ab 0) e with e|e
  ·simp[e];exact aC _ _ ⟨1,1,by simp[e]⟩
  simp[e];exact aC _ _ ⟨1,1,by simp[e]⟩
 ·intro H a0 a1 a2 a3 a4 c d g a hm;rw[fh] at hm;have e:=Aj k a;refine wi abf func202 [] [] 999 ?_;have⟨x,ab,e,m⟩:=gq e hm;simp[e];refine Cf (j.1 a e.2) ?_;rcases Io e m with⟨e,m⟩|⟨e,m⟩
  ·cases m;simp[e]
  have⟨x1,Z,e,m⟩:=gq e m;simp[e];refine Cf (rV T k e.2) ?_;rcases Io e m with⟨e,m⟩|⟨e,m⟩
  ·cases m;simp[e]
  have⟨x5,e,m⟩:=ep e m;simp[e];refine Cs (yo T k e.2) ?_;cases m;simp[e]
def xR(T:fg)(e:qy T){H:eD}{a0:List Fm}{a1:Pf}{a2:eh}{b:ec}{c:Int}{d:Nat}(a:KC H d a0){n:Nat}(hm:eZ n a0 a1 a2=some (b,c)):e9 prog T 81 [AV.fE d 0,Pf.av a1,eh.av a2] H (AV.tuple [ec.av b,sI c]) H:=(xb T e n).1 a hm
def Mg:∀(n:Nat),C1 prog 157 (vA n) Tm.av Tm.av:=by
  intro n
  induction n with
  |zero=>
   skip
   all_goals(intro _ _;intros;rename_i hm;cases hm)
  |succ n p=>
 intro T H a0 r hm;rw[vA] at hm;have e:=trivial;refine wi abf func157 [] [] 999 ?_;have⟨l,e,m⟩:=ep e hm;simp[e];refine Cs (sb e.2) ?_;simp[e];refine Wr e m 999 (λo g f h=>∃(a:Tag) (b:Nat) (c:Nat),(h=H/\f.1 2=AV.eB 2 b 0/\f.1 3=AV.eB 3 c 0/\f.1 15=sL Tm.av a0.abb/\f.1 16=sI (eM a0.abb)/\f.1 17=sI o/\f.gen 2=b/\f.box 2=some [sI 0,sI 0,sI 0,AV.slice .full [],AV.slice .full []]/\f.gen 3=c/\f.box 3=some [sI a0.aba,sI a0.abd,sI l.aba,sL Ty.av l.abb,sT a Tm.av g])/\Ow f [26] a g) (by exact⟨.full,1,1,by simp[e],iM.full⟩) (λg i q s E m=>?_) (λo t g i q s u v E e m z9 j=>?_)
 ·have⟨a,b,c,E,d⟩:=E;have e:=Aj e E;dsimp only[en]at m;cases m;simp[e]
 have⟨a,b,c,E,d⟩:=E;have e:=Aj e E;have⟨k,e,m⟩:=ep e m;simp[e];refine Cs (p e.2) ?_;have⟨e,m⟩:=Ck e m;simp[e];refine Ad (f:=Tm.av) g [k] d B1 e.2 ?_;simp[e];cases m;exact j _ _ _ ⟨(.loc 26 (i.fN 26+1)),b,c,by simp[e],(On 26)⟩ z9
def Nw{n:Nat}:C1 prog 157 (vA n) Tm.av Tm.av:=(Mg n)
def An:C2 prog 156 ny Tm.av Tm.av sI:=by
 intro T H a0 a1 r hm;rw[ny] at hm;have e:=trivial;refine wi abf func156 [] [] 999 ?_;have⟨a,e,m⟩:=ep e hm;simp[e];refine Cf (Nw e.2) ?_;cases m;simp[e]
def Cg:C1 prog 83 pj Fm.av Fm.av:=by
 intro T H a0 r hm;rw[pj] at hm;have e:=trivial;refine wi abf func83 [] [] 999 ?_;have⟨b,s2,e,m⟩:=gq e hm;simp[e];refine Cf (m6 T (st:=λ_:Unit=>H) (Bs.const _) (λX _ _ _ _ _ h=>by obtain⟨a,rfl⟩:=uO h;exact An a) e.2) ?_;cases m;simp[e]
def OK:su prog 158=true:=by kernel_rfl
set_option maxHeartbeats 4000000 in
def TB(x k idx:Nat)(w:World)(b:((x:Int)==0)=false)
  (key:bits BinOp.and IntKind.u32 (x:Int) (-(x:Int)%4294967296)*125613361%4294967296/134217728=(idx:Int))
  (hi:idx<32) (c:k<32) (a:w.cell? ⟨0,idx,none⟩=some (.int .u8 k)):Calls prog 158 #[.int .u32 x] w λe w'=>e=.returned (.int .i64 k)/\w'=w:=by
 go_enter func158,ntmps158
 go_wp2_with (simp only[key])
 go_ret
 exact⟨rfl,rfl⟩
set_option maxHeartbeats 4000000 in
def Ts(w:World):Calls prog 158 #[.int .u32 0] w λe w'=>e=.returned (.int .i64 32)/\w'=w:=by
 go_enter func158,ntmps158
 go_wp2
 go_ret
 exact⟨rfl,rfl⟩
def SZ(n:Int):IntKind.u32.wrap n=n%4294967296:=by simp[IntKind.wrap,IntKind.signed,IntKind.bits]
def Vo(a b:Nat)(e:a<4294967296)(f:b<4294967296):bits .and .u32 (a:Int) (b:Int)=((a&&&b:Nat):Int):=by
 have g:a&&&b<2^32:=Ye _ (by omega)
 have c:(BitVec.ofInt 32 (a:Int)).toNat=a:=by
  rw[XI];omega
 have d:(BitVec.ofInt 32 (b:Int)).toNat=b:=by
  rw[XI];omega
 show IntKind.u32.wrap ((BitVec.ofInt 32 (a:Int)&&&BitVec.ofInt 32 (b:Int)).toNat:Int)=_;rw[BitVec.toNat_and,c,d,SZ];omega
def Vf(x a:Nat)(c:x<4294967296)(d:x≠0)(b:x&&&(4294967296-x)=a):bits BinOp.and IntKind.u32 (x:Int) (-(x:Int)%4294967296)*125613361%4294967296/134217728=((a*125613361%4294967296/134217728:Nat):Int):=by
 have e:-(x:Int)%4294967296=((4294967296-x:Nat):Int):=by omega
 rw[e,Vo x _ c (by omega),b];omega
def WI:∀j,j<32->lZ[j]?=some ((Lib.deBruijn32tab.getD j 0:Nat):Int):=by decide+kernel
def um(T:fg)(n:qy T){H:eD}{a0 g:Int}(hm:iP a0=some g):e9 prog T 158 [AV.sc (.int .u32 a0)] H (sI g) H:=by
 unfold iP at hm
 split at hm
 case isFalse=>cases hm
 rename_i h;obtain⟨x,rfl⟩:∃x:Nat,a0=(x:Int):=⟨a0.toNat,by omega⟩;obtain rfl:=iw hm
 have j:x<2^32:=by omega
 rw[As];refine e9.To OK λG F w vs hg o=>?_
 obtain⟨v1,rfl,a⟩:∃v,vs=[v]/\ia F G H.length (AV.sc (.int .u32 (x:Int))) v:=by
  cases o with
  |cons a b=>cases b;exact⟨_,rfl,a⟩
 cases a;refine⟨_,.sc rfl,?_⟩
 by_cases c:x=0
 ·subst c;exact(Ts w).mono λe w' ⟨a,b⟩=>⟨a,by rw[b];exact YI _ _⟩
 ·have⟨d,k⟩:=Lib.lowest_bit 32 x c j;have⟨hi,f⟩:=Lib.deBruijn32_at _ k;have p:=hg.Ag 0 _ n.2.2;cases p with
  |na a b r=>
   have l:=WI _ hi;rw[f] at l;have⟨v,q,h⟩:=a.get (i:=2^Lib.ctz 32 x*125613361%4294967296/134217728) (x:=.sc (.int .u8 (Lib.ctz 32 x:Int))) (by simp[AV.cells,l]);cases h;have m:=hg.Ex _ _ _ (b _ _ q);rw[vt] at m;exact(TB x (Lib.ctz 32 x) _ w (by simp;omega) (Vf x _ j c d) hi k m).mono λe w' ⟨a,b⟩=>⟨a,by rw[b];exact YI _ _⟩
def vD(T:fg)(g:qy T){H:eD}{a0:Int}{i:List Int}(hm:kj a0=some i):e9 prog T 84 [AV.sc (.int .u32 a0)] H (sL sI i) H:=by
 rw[kj] at hm;have e:=g;refine wi abf func84 [] [] 999 ?_;simp[e];refine Wn hm 999 (λs1 f h=>∃(a:Tag),(h=H/\f.1 0=AV.sc (.int .u32 s1.1)/\f.1 3=sT a sI s1.2)/\Ow f [14] a s1.2) (by exact⟨.full,by simp[e],iM.full⟩) (λs1 fr2 k l n4 c5 E m j c=>?_);have⟨n,v9⟩:=s1;have⟨a,E,b⟩:=E;have e:=Aj e E;dsimp only[mf]at m;rcases Io e m with⟨e,m⟩|⟨e,m⟩;rotate_left
 ·cases m;have m:=Qb j;dsimp only[mf]at m;cases m;simp[e]
 have⟨d,e,m⟩:=ep e m;simp[e];refine Cf (um T g e.2) ?_;have⟨e,m⟩:=Ck e m;simp[e];refine Ao (f:=sI) v9 [d] b PL e.2 ?_;simp[e];cases m;exact c _ _ _ ⟨(.loc 14 (fr2.fN 14+1)),by simp[e],(On 14)⟩ j
def p5(T:fg)(a:qy T){H:eD}{a0:List Fm}{a1:Sq}{a2:Pf}{b:rN}{c:Int}(hm:jH a0 a1 a2=some (b,c)):e9 prog T 23 [sL Fm.av a0,Sq.av a1,Pf.av a2] H (AV.tuple [rN.av b,sI c]) H:=by
 rw[jH] at hm;refine fH.tY (Post:=λx K=>x=AV.tuple [rN.av b,sI c]/\∃X,K=H++X) ?_ (λ_ _ h=>⟨_,h.2.choose_spec,by rw[h.1];simp[AV.low,AV.jf],h.1,rfl⟩);have e:=a;refine wi abf func23 [29] [] 999 ?_;have⟨d,e,m⟩:=ep e hm;simp[e];refine Cf (DE T a e.2) ?_;rcases Io e m with⟨e,m⟩|⟨e,m⟩
 ·cases m;simp[e]
 have⟨f,e,m⟩:=ep e m;simp[e];refine Cf (Ip T a e.2) ?_;rcases Io e m with⟨e,m⟩|⟨e,m⟩
 ·cases m;simp[e]
 have⟨g,e,m⟩:=ep e m;simp[e];refine Cf (GX T e.2) ?_;have⟨i,e,m⟩:=ep e m;simp[e];refine Cs (Gz e.2) ?_;have⟨j,k,e,m⟩:=gq e m;simp[e];refine Cs (xR T a ⟨by simp[e],by simp[e]⟩ e.2) ?_;rcases Io e m with⟨e,m⟩|⟨e,m⟩
 ·cases m;simp[e]
 have⟨l,e,m⟩:=ep e m;simp[e];refine Cs (Cg e.2) ?_;have⟨n,e,m⟩:=ep e m;simp[e];refine Cs (vD T a e.2) ?_;cases m;simp[e]
def nY:C2 prog 51 mr Fm.av Tm.av Tm.av:=by
 intro T H a0 a1 r hm;rw[mr] at hm;have e:=trivial;refine wi abf func51 [] [] 999 ?_;have⟨a,e,m⟩:=ep e hm;simp[e];refine Cs (mx e.2) ?_;have⟨b,e,m⟩:=ep e m;simp[e];refine Cs (mx e.2) ?_;have e:=Aj e (show AV.agg [sI 1,sI 0,AV.slice .iN [],AV.slice .iN [Tm.av a,Tm.av b],AV.slice .iN []]=Fm.av (Fm.mk 1 (Ty.mk 0 []) [a,b] []) by rw[Fm.fL];rfl);have e:=Aj e (show AV.agg [sI 1,sI 0,AV.slice .iN [],AV.slice .iN [Tm.av a,Tm.av b],AV.slice .iN []]=Fm.av (Fm.mk 1 (Ty.mk 0 []) [a,b] []) by rw[Fm.fL];rfl);cases m;simp[e]
def nk:C3 prog 50 j3 Fm.av sI Ty.av Fm.av:=by
 intro T H a0 a1 a2 r hm;rw[j3] at hm;have e:=trivial;refine wi abf func50 [] [] 999 ?_;have⟨a,e,m⟩:=ep e hm;simp[e];refine Cs (jG e.2) ?_;have⟨b,e,m⟩:=ep e m;simp[e];refine Cs (kO e.2) ?_;have e:=Aj e (show AV.agg [sI a0,sI a.aba,sL Ty.av a.abb,AV.slice .iN [],AV.slice .iN [Fm.av b]]=Fm.av (Fm.mk a0 a [] [b]) by rw[Fm.fL];rfl);have e:=Aj e (show AV.agg [sI a0,sI a.aba,sL Ty.av a.abb,AV.slice .iN [],AV.slice .iN [Fm.av b]]=Fm.av (Fm.mk a0 a [] [b]) by rw[Fm.fL];rfl);cases m;simp[e]
def Hi:∀(n:Nat),C2 prog 61 (fP n) sB Ty.av Ty.av:=by
  intro n
  induction n with
  |zero=>
    skip
    all_goals(intro _ _;intros;rename_i hm;cases hm)
  |succ n p=>
 intro T H a0 a1 r hm;rw[fP] at hm;have e:=trivial;refine wi abf func61 [] [] 3 ?_;simp[e];refine wj 999 999 (λf h=>∃(c:Nat) (d:Nat),h=H/\f.1 2=AV.eB 2 c 0/\f.1 3=AV.eB 3 d 0/\f.1 19=sB (fU (eW a0.aba a1.aba) true (eW (eM a0.abb) (eM a1.abb)))/\f.gen 2=c/\f.box 2=some [sI a0.aba,sL Ty.av a0.abb]/\f.gen 3=d/\f.box 3=some [sI a1.aba,sL Ty.av a1.abb]) (λx g=>?_) ?_
 ·rcases Pb (eW a0.aba a1.aba) e with e|e
  ·simp[e];exact g _ _ ⟨1,1,by simp[e]⟩
  simp[e];exact g _ _ ⟨1,1,by simp[e]⟩
 rintro q y ⟨c,d,E⟩;have e:=Aj e E;rcases Io e hm with⟨e,m⟩|⟨e,m⟩
 ·cases m;simp[e]
 simp[e];refine Wr e m 999 (λl o f h=>∃(a:Nat) (b:Nat),h=H/\f.1 2=AV.eB 2 a 0/\f.1 3=AV.eB 3 b 0/\f.1 22=sI (eM a0.abb)/\f.1 23=sI l/\f.gen 2=a/\f.box 2=some [sI a0.aba,sL Ty.av a0.abb]/\f.gen 3=b/\f.box 3=some [sI a1.aba,sL Ty.av a1.abb]) ⟨c,d,by simp[e]⟩ (λo k s t E m=>?_) (λl z o k s t A u E e m i j=>?_)
 ·have⟨a,b,E⟩:=E;have e:=Aj e E;dsimp only[en]at m;cases m;simp[e]
 have⟨a,b,E⟩:=E;have e:=Aj e E;have⟨v,e,m⟩:=ep e m;have⟨w,e,m⟩:=ep e m;simp[e];refine Cs (p e.2) ?_;rcases Io e m with⟨e,m⟩|⟨e,m⟩;rotate_left
 ·cases m;cases i;simp[e]
 simp[e];cases m;exact j _ _ _ ⟨a,b,by simp[e]⟩ i
def iq{n:Nat}:C2 prog 61 (fP n) sB Ty.av Ty.av:=(Hi n)
def HQ:∀(n:Nat),C2 prog 168 (kb n) sB Tm.av Tm.av:=by
  intro n
  induction n with
  |zero=>
    skip
    all_goals(intro _ _;intros;rename_i hm;cases hm)
  |succ n s=>
 intro T H a0 a1 r hm;rw[kb] at hm;have e:=trivial;refine wi abf func168 [] [] 3 ?_;simp[e];refine Wj hm 999 999 (λo f h=>∃(v2:Bool) (c:Nat) (d:Nat),(h=H/\f.1 2=AV.eB 2 c 0/\f.1 3=AV.eB 3 d 0/\f.1 34=sB v2/\f.gen 2=c/\f.box 2=some [sI a0.aba,sI a0.abd,sI a0.dv.aba,sL Ty.av a0.dv.abb,sL Tm.av a0.abb]/\f.gen 3=d/\f.box 3=some [sI a1.aba,sI a1.abd,sI a1.dv.aba,sL Ty.av a1.dv.abb,sL Tm.av a1.abb])/\o v2=some r) (λo A g m=>?_) ?_
 ·rcases Io e m with⟨e,m⟩|⟨e,m⟩
  ·simp[e];exact g _ _ ⟨true,1,1,by simp[e],m⟩
  rcases Io e m with⟨e,m⟩|⟨e,m⟩
  ·simp[e];exact g _ _ ⟨true,1,1,by simp[e],m⟩
  have⟨B,e,m⟩:=ep e m;simp[e];refine Cf (iq e.2) ?_;rcases Io e m with⟨e,m⟩|⟨e,m⟩;rotate_left
  ·simp[e];exact g _ _ ⟨true,1,1,by simp[e],m⟩
  simp[e];exact g _ _ ⟨(eW (eM a0.abb) (eM a1.abb)),1,1,by simp[e],m⟩
 rintro t C ⟨v2,c,d,E,m⟩;have e:=Aj e E;rcases Io e m with⟨e,m⟩|⟨e,m⟩
 ·cases m;simp[e]
 simp[e];refine Wr e m 999 (λp q f h=>∃(a:Nat) (b:Nat),h=H/\f.1 2=AV.eB 2 a 0/\f.1 3=AV.eB 3 b 0/\f.1 37=sI (eM a0.abb)/\f.1 38=sI p/\f.gen 2=a/\f.box 2=some [sI a0.aba,sI a0.abd,sI a0.dv.aba,sL Ty.av a0.dv.abb,sL Tm.av a0.abb]/\f.gen 3=b/\f.box 3=some [sI a1.aba,sI a1.abd,sI a1.dv.aba,sL Ty.av a1.dv.abb,sL Tm.av a1.abb]) ⟨c,d,by simp[e]⟩ (λq k u l E m=>?_) (λp v q k u l w x E e m i j=>?_)
 ·have⟨a,b,E⟩:=E;have e:=Aj e E;dsimp only[en]at m;cases m;simp[e]
 have⟨a,b,E⟩:=E;have e:=Aj e E;have⟨y,e,m⟩:=ep e m;have⟨z,e,m⟩:=ep e m;simp[e];refine Cs (s e.2) ?_;rcases Io e m with⟨e,m⟩|⟨e,m⟩;rotate_left
 ·cases m;cases i;simp[e]
 simp[e];cases m;exact j _ _ _ ⟨a,b,by simp[e]⟩ i
def yb{n:Nat}:C2 prog 168 (kb n) sB Tm.av Tm.av:=(HQ n)
def ES:C2 prog 105 qZ sB (sL Tm.av) (sL Tm.av):=by
 intro T H a0 a1 r hm;rw[qZ] at hm;have e:=trivial;refine wi abf func105 [] [] 999 ?_;rcases Io e hm with⟨e,m⟩|⟨e,m⟩
 ·cases m;simp[e]
 simp[e];refine Wr e m 999 (λc s2 f h=>h=H/\f.1 0=sL Tm.av a0/\f.1 1=sL Tm.av a1/\f.1 12=sI (eM a0)/\f.1 13=sI c) (by simp[e]) (λs2 a g i E m=>?_) (λc l s2 a g i n6 n E e m d b=>?_)
 ·have e:=Aj e E;dsimp only[en]at m;cases m;simp[e]
 have e:=Aj e E;have⟨j,e,m⟩:=ep e m;have⟨k,e,m⟩:=ep e m;simp[e];refine Cs (yb e.2) ?_;rcases Io e m with⟨e,m⟩|⟨e,m⟩;rotate_left
 ·cases m;cases d;simp[e]
 simp[e];cases m;exact b _ _ _ (by simp[e]) d
def HN:∀(n:Nat),C2 prog 37 (nR n) sB Fm.av Fm.av:=by
  intro n
  induction n with
  |zero=>
    skip
    all_goals(intro _ _;intros;rename_i hm;cases hm)
  |succ n t=>
 intro T H a0 a1 r hm;rw[nR] at hm;have e:=trivial;refine wi abf func37 [] [] 3 ?_;simp[e];refine Wj hm 999 999 (λp f h=>∃(v2:Bool) (c:Nat) (d:Nat),(h=H/\f.1 2=AV.eB 2 c 0/\f.1 3=AV.eB 3 d 0/\f.1 35=sB v2/\f.gen 2=c/\f.box 2=some [sI a0.aba,sI a0.dv.aba,sL Ty.av a0.dv.abb,sL Tm.av a0.ek,sL Fm.av a0.abb]/\f.gen 3=d/\f.box 3=some [sI a1.aba,sI a1.dv.aba,sL Ty.av a1.dv.abb,sL Tm.av a1.ek,sL Fm.av a1.abb])/\p v2=some r) (λp A g m=>?_) ?_
 ·rcases Io e m with⟨e,m⟩|⟨e,m⟩
  ·simp[e];exact g _ _ ⟨true,1,1,by simp[e],m⟩
  have⟨B,e,m⟩:=ep e m;simp[e];refine Cf (iq e.2) ?_;rcases Io e m with⟨e,m⟩|⟨e,m⟩;rotate_left
  ·simp[e];exact g _ _ ⟨true,1,1,by simp[e],m⟩
  have⟨C,e,m⟩:=ep e m;simp[e];refine Cf (ES e.2) ?_;rcases Io e m with⟨e,m⟩|⟨e,m⟩;rotate_left
  ·simp[e];exact g _ _ ⟨true,1,1,by simp[e],m⟩
  simp[e];exact g _ _ ⟨(eW (eM a0.abb) (eM a1.abb)),1,1,by simp[e],m⟩
 rintro u D ⟨v2,c,d,E,m⟩;have e:=Aj e E;rcases Io e m with⟨e,m⟩|⟨e,m⟩
 ·cases m;simp[e]
 simp[e];refine Wr e m 999 (λq s f h=>∃(a:Nat) (b:Nat),h=H/\f.1 2=AV.eB 2 a 0/\f.1 3=AV.eB 3 b 0/\f.1 38=sI (eM a0.abb)/\f.1 39=sI q/\f.gen 2=a/\f.box 2=some [sI a0.aba,sI a0.dv.aba,sL Ty.av a0.dv.abb,sL Tm.av a0.ek,sL Fm.av a0.abb]/\f.gen 3=b/\f.box 3=some [sI a1.aba,sI a1.dv.aba,sL Ty.av a1.dv.abb,sL Tm.av a1.ek,sL Fm.av a1.abb]) ⟨c,d,by simp[e]⟩ (λs i l o E m=>?_) (λq v s i l o w x E e m j k=>?_)
 ·have⟨a,b,E⟩:=E;have e:=Aj e E;dsimp only[en]at m;cases m;simp[e]
 have⟨a,b,E⟩:=E;have e:=Aj e E;have⟨y,e,m⟩:=ep e m;have⟨z,e,m⟩:=ep e m;simp[e];refine Cs (t e.2) ?_;rcases Io e m with⟨e,m⟩|⟨e,m⟩;rotate_left
 ·cases m;cases j;simp[e]
 simp[e];cases m;exact k _ _ _ ⟨a,b,by simp[e]⟩ j
def Cz{n:Nat}:C2 prog 37 (nR n) sB Fm.av Fm.av:=(HN n)
def Kc(T:fg)(g:qy T){H:eD}{b:Bool}(hm:uY=some b):e9 prog T 12 [] H (sB b) H:=by
 rw[uY] at hm;have e:=g;refine wi abf func12 [] [] 6 ?_;have⟨q,e,m⟩:=ep e hm;simp[e];refine Cf (hV e.2) ?_;have⟨r,e,m⟩:=ep e m;simp[e];refine Cs (gr e.2) ?_;have⟨s,e,m⟩:=ep e m;simp[e];refine Cs (lz e.2) ?_;have⟨t,e,m⟩:=ep e m;simp[e];refine Cs (mB e.2) ?_;have⟨u,v,e,m⟩:=gq e m;simp[e];refine Cs (p5 T g e.2) ?_;simp[e];refine Wj m 999 999 (λi f h=>∃(c:Bool),(h=H/\f.1 0=sB c)/\i c=some b) (λi w a m=>?_) ?_;rotate_left
 ·rintro j k ⟨c,E,m⟩;have e:=Aj e E;cases m;simp[e]
 rcases Io e m with⟨e,m⟩|⟨e,m⟩;rotate_left
 ·simp[e];exact a _ _ ⟨false,by simp[e],m⟩
 rcases Io e m with⟨e,m⟩|⟨e,m⟩;rotate_left
 ·simp[e];exact a _ _ ⟨false,by simp[e],m⟩
 have⟨l,e,m⟩:=ep e m;simp[e];refine Cs (gr e.2) ?_;have⟨n,e,m⟩:=ep e m;simp[e];refine Cs (gr e.2) ?_;have⟨o,e,m⟩:=ep e m;simp[e];refine Cs (nY e.2) ?_;have⟨p,e,m⟩:=ep e m;simp[e];refine Cs (nk e.2) ?_;have⟨d,e,m⟩:=ep e m;simp[e];refine Cs (Cz e.2) ?_;simp[e];exact a _ _ ⟨d,by simp[e],m⟩
def Ru:C1 prog 13 GM sB (sL sI):=by
 intro T H a0 r hm;rw[GM] at hm;have e:=trivial;refine wi abf func13 [] [] 999 ?_;cases hm;simp[e]
def QZ:su prog 16=true:=by kernel_rfl
def R1(T:fg){a0:List Int}{b:eu}(hm:MW a0=some b):e9 prog T 16 [AV.slice .iN (List.map (λn=>AV.sc (Value.int .i64 n)) a0)] [] (AV.fE 0 0) (gj [[]] 0 [AV.slice .iN (List.map (λn=>AV.sc (Value.int .i64 n)) b.l),AV.sc (.int .i64 b.pg)]):=by
 obtain rfl:=iw hm;refine fH.intro (fn:=f16) func16 rfl QZ (R3 rfl) ?_;refine gI.tR λc a=>?_;refine gI.region [] (by decide+kernel) ?_;simp;refine a _ _ ?_;refine gI.tR λc a=>?_;refine gI.region [5] (by decide+kernel) ?_;simp;refine a _ _ ?_;refine gI.ret ?_;simp[vu,gj]
def QQ:C2 prog 128 FO sI sI sI:=by
 intro T H a0 a1 r hm;rw[FO] at hm;have e:=trivial;refine wi abf func128 [] [] 999 ?_;have⟨e,m⟩:=Ck e hm;have⟨e,m⟩:=Ck e m;cases m;simp[e]
def fY(T:fg){H:eD}{a0:eu}{a1 i:Int}{a:eu}{b:Nat}(c:H[b]?=some [sL sI a0.l,sI a0.pg])(hm:gb a0 a1=some (i,a)):e9 prog T 55 [AV.fE b 0,sI a1] H (sI i) (gj H b [sL sI a.l,sI a.pg]):=by
 rw[gb] at hm;have g:=f_ c;refine fH.I8 c ?_;have e:=g;refine wi abf func55 [] [(1,true,[]),(3,true,[])] 3 ?_;simp[e];refine wj 999 999 (λf h=>h=gj H b [sL sI a0.l,sI a0.pg]/\f.1 0=AV.fE b 0/\f.1 1=sI a1/\f.1 19=sB (fU (tW a1 1) true (tq a0.pg (eM a0.l)))) (λk d=>?_) ?_
 ·rcases Pb (tW a1 1) e with e|e
  ·simp[e];exact d _ _ (by simp[e])
  simp[e];exact d _ _ (by simp[e])
 rintro j n E;have e:=Aj e E;rcases Io e hm with⟨e,m⟩|⟨e,m⟩
 ·cases m;simp[e]
 have⟨o,e,m⟩:=ep e m;have⟨p,e,m⟩:=ep e m;simp[e];refine Cf (QQ e.2) ?_;cases m;simp[e]
def vV:C3 prog 88 oq Fm.av sI Fm.av Fm.av:=by
 intro T H a0 a1 a2 r hm;rw[oq] at hm;have e:=trivial;refine wi abf func88 [] [] 999 ?_;have⟨a,e,m⟩:=ep e hm;simp[e];refine Cs (kO e.2) ?_;have⟨b,e,m⟩:=ep e m;simp[e];refine Cs (kO e.2) ?_;have e:=Aj e (show AV.agg [sI a0,sI 0,AV.slice .iN [],AV.slice .iN [],AV.slice .iN [Fm.av a,Fm.av b]]=Fm.av (Fm.mk a0 (Ty.mk 0 []) [] [a,b]) by rw[Fm.fL];rfl);have e:=Aj e (show AV.agg [sI a0,sI 0,AV.slice .iN [],AV.slice .iN [],AV.slice .iN [Fm.av a,Fm.av b]]=Fm.av (Fm.mk a0 (Ty.mk 0 []) [] [a,b]) by rw[Fm.fL];rfl);cases m;simp[e]
def nw:C0 prog 71 mR Ty.av:=by
 intro T H r hm;rw[mR] at hm;have e:=trivial;refine wi abf func71 [] [] 999 ?_;cases hm;simp[e]
def BD:C0 prog 96 u_ Ty.av:=by
 intro T H r hm;rw[u_] at hm;have e:=trivial;refine wi abf func96 [] [] 999 ?_;cases hm;simp[e]
def D1:C2 prog 97 uA Ty.av Ty.av Ty.av:=by
 intro T H a0 a1 r hm;rw[uA] at hm;have e:=trivial;refine wi abf func97 [] [] 999 ?_;have⟨a,e,m⟩:=ep e hm;simp[e];refine Cs (jG e.2) ?_;have⟨b,e,m⟩:=ep e m;simp[e];refine Cs (jG e.2) ?_;have e:=Aj e (show AV.agg [sI 3,AV.slice .iN [Ty.av a,Ty.av b]]=Ty.av (Ty.mk 3 [a,b]) by rw[Ty.fL];rfl);have e:=Aj e (show AV.agg [sI 3,AV.slice .iN [Ty.av a,Ty.av b]]=Ty.av (Ty.mk 3 [a,b]) by rw[Ty.fL];rfl);cases m;simp[e]
def oF:C2 prog 60 ld Ty.av Ty.av Ty.av:=by
 intro T H a0 a1 r hm;rw[ld] at hm;have e:=trivial;refine wi abf func60 [] [] 999 ?_;have⟨a,e,m⟩:=ep e hm;simp[e];refine Cs (jG e.2) ?_;have⟨b,e,m⟩:=ep e m;simp[e];refine Cs (jG e.2) ?_;have e:=Aj e (show AV.agg [sI 4,AV.slice .iN [Ty.av a,Ty.av b]]=Ty.av (Ty.mk 4 [a,b]) by rw[Ty.fL];rfl);have e:=Aj e (show AV.agg [sI 4,AV.slice .iN [Ty.av a,Ty.av b]]=Ty.av (Ty.mk 4 [a,b]) by rw[Ty.fL];rfl);cases m;simp[e]
def Ni(T:fg):∀(n:Nat),(∀{H:eD} {a0:eu} {a1:Int} {o:Ty} {b:eu} {g:Nat} (i:H[g]?=some [sL sI a0.l,sI a0.pg]) (hm:iQ n a0 a1=some (o,b)),e9 prog T 33 [AV.fE g 0,sI a1] H (Ty.av o) (gj H g [sL sI b.l,sI b.pg])):=by
  intro n
  induction n with
  |zero=>
    skip
    all_goals(intro _ _;intros;rename_i hm;cases hm)
  |succ n p=>
 intro H a0 a1 o b g i hm;rw[iQ] at hm;have q:=f_ i;refine fH.I8 i ?_;have e:=q;refine wi abf func33 [] [] 2 ?_;simp[e];refine Wj hm 3 999 (λr f h=>∃(v2:eu) (c:Nat),(h=gj H g [sL sI v2.l,sI v2.pg]/\f.1 4=AV.eB 4 c 0/\f.gen 4=c/\f.box 4=some [sI 0,AV.slice .full []])/\r v2=some (o,b)) (λr F j m=>?_) ?_;rotate_left
 ·rintro t G ⟨v2,c,E,m⟩;have e:=Aj e E;have⟨I,e,m⟩:=ep e m;simp[e];refine Cf (hV e.2) ?_;cases m;simp[e]
 have⟨k,d8,e,m⟩:=gq e m;simp[e];refine Cf (fY T (by simp[e]) e.2) ?_;simp[e];refine wj 999 999 (λf h=>∃(a:Nat),h=gj H g [sL sI d8.l,sI d8.pg]/\f.1 0=AV.fE g 0/\f.1 1=sI a1/\f.1 4=AV.eB 4 a 0/\f.1 6=sI k/\f.1 7=sB (fU (eH k 0) true (fU (eH k 1) true (eH k 2)))/\f.gen 4=a/\f.box 4=some [sI 0,AV.slice .full []]) (λJ d=>?_) ?_
 ·rcases Pb (eH k 0) e with e|e
  ·simp[e];exact d _ _ ⟨1,by simp[e]⟩
  rcases Pb (eH k 1) e with e|e
  ·simp[e];exact d _ _ ⟨1,by simp[e]⟩
  simp[e];exact d _ _ ⟨1,by simp[e]⟩
 rintro s u ⟨a,E⟩;have e:=Aj e E;rcases Io e m with⟨e,m⟩|⟨e,m⟩
 ·have⟨v,e,m⟩:=ep e m;simp[e];refine Cf (hV e.2) ?_;cases m;simp[e]
 rcases Io e m with⟨e,m⟩|⟨e,m⟩
 ·have⟨w,e,m⟩:=ep e m;simp[e];refine Cf (nw e.2) ?_;cases m;simp[e]
 rcases Io e m with⟨e,m⟩|⟨e,m⟩
 ·have⟨x,e,m⟩:=ep e m;simp[e];refine Cf (BD e.2) ?_;cases m;simp[e]
 rcases Io e m with⟨e,m⟩|⟨e,m⟩
 ·rcases Io e m with⟨e,m⟩|⟨e,m⟩;rotate_left
  ·simp[e];exact j _ _ ⟨d8,a,by simp[e],m⟩
  have⟨y,d16,e,m⟩:=gq e m;simp[e];refine Cf (p (by simp[e]) e.2) ?_;have⟨z,d18,e,m⟩:=gq e m;simp[e];refine Cf (p (by simp[e]) e.2) ?_;have⟨A,e,m⟩:=ep e m;simp[e];refine Cf (D1 e.2) ?_;cases m;simp[e]
 rcases Io e m with⟨e,m⟩|⟨e,m⟩;rotate_left
 ·simp[e];exact j _ _ ⟨d8,a,by simp[e],m⟩
 rcases Io e m with⟨e,m⟩|⟨e,m⟩;rotate_left
 ·simp[e];exact j _ _ ⟨d8,a,by simp[e],m⟩
 have⟨B,d21,e,m⟩:=gq e m;simp[e];refine Cf (p (by simp[e]) e.2) ?_;have⟨C,d23,e,m⟩:=gq e m;simp[e];refine Cf (p (by simp[e]) e.2) ?_;have⟨D,e,m⟩:=ep e m;simp[e];refine Cf (oF e.2) ?_;cases m;simp[e]
def lW(T:fg){H:eD}{a0:eu}{a1:Int}{d:Ty}{a:eu}{b:Nat}(c:H[b]?=some [sL sI a0.l,sI a0.pg]){n:Nat}(hm:iQ n a0 a1=some (d,a)):e9 prog T 33 [AV.fE b 0,sI a1] H (Ty.av d) (gj H b [sL sI a.l,sI a.pg]):=(Ni T n) c hm
def oB:C2 prog 89 mM (sL Ty.av) (sL Ty.av) (sL Ty.av):=by
 intro T H a0 a1 r hm;rw[mM] at hm;have e:=trivial;refine wi abf func89 [] [] 999 ?_;have⟨e,m⟩:=Ck e hm;simp[e];refine Ao (f:=Ty.av) [] a0 (iM.full (D:=[])) BV e.2 ?_;have⟨e,m⟩:=Ck e m;simp[e];refine Ao (f:=Ty.av) (gv [] a0) a1 (iM.new (D:=[6]) (d:=6) (by decide)) BV e.2 ?_;cases m;simp[e]
def PZ:C2 prog 99 BQ (sL sI) (sL Ty.av) Ty.av:=by
 intro T H a0 a1 r hm;rw[BQ] at hm;have e:=trivial;refine wi abf func99 [] [] 999 ?_;simp[e];refine Wr e hm 0 (λk s2 f h=>∃(b:Tag) (c:Nat),(h=H/\f.1 0=sL Ty.av a0/\f.1 3=AV.eB 3 c 0/\f.1 5=sT b sI s2/\f.1 8=sI (eM a0)/\f.1 9=sI k/\f.gen 3=c/\f.box 3=some [sI a1.aba,sL Ty.av a1.abb])/\Ow f [25] b s2) (by exact⟨.full,1,by simp[e],iM.full⟩) (λs2 l q s E m=>?_) (λk z s2 l q s n6 t E e m u o=>?_)
 ·have⟨b,c,E,g⟩:=E;have e:=Aj e E;apply wg 999;dsimp only[en]at m;cases m;simp[e]
 have⟨b,c,E,g⟩:=E;have e:=Aj e E;apply wg 5;simp[e];refine Wj m 999 999 (λn f h=>∃(v11:List Int) (a:Tag) (d:Nat),(h=H/\f.1 0=sL Ty.av a0/\f.1 3=AV.eB 3 d 0/\f.1 5=sT a sI v11/\f.1 8=sI (eM a0)/\f.1 9=sI k/\f.gen 3=d/\f.box 3=some [sI a1.aba,sL Ty.av a1.abb])/\Ow f [25] a v11/\n v11=some t) (λn v i m=>?_) ?_;rotate_left
 ·rintro p w ⟨v11,a,d,E,j,m⟩;have e:=Aj e E;simp[e];cases m;exact o _ _ _ ⟨a,d,by simp[e],j⟩ u
 have⟨x,e,m⟩:=ep e m;have⟨y,e,m⟩:=ep e m;simp[e];refine Cs (iq e.2) ?_;rcases Io e m with⟨e,m⟩|⟨e,m⟩;rotate_left
 ·simp[e];exact i _ _ ⟨s2,b,c,by simp[e],g,m⟩
 have⟨e,m⟩:=Ck e m;simp[e];refine Ao (f:=sI) s2 [k] g PL e.2 ?_;simp[e];exact i _ _ ⟨(gv s2 [k]),(.loc 25 (l.fN 25+1)),c,by simp[e],(On 25),m⟩
def gR:C2 prog 100 gn Tm.av sI (sL Tm.av):=by
 intro T H a0 a1 r hm;rw[gn] at hm;have e:=trivial;refine wi abf func100 [] [] 999 ?_;simp[e];refine Wr e hm 999 (λj s2 f h=>∃(a:Tag) (b:Nat),(h=H/\f.1 0=sI a0/\f.1 4=AV.eB 4 b 0/\f.1 5=sT a Tm.av s2/\f.1 8=sL Tm.av a1/\f.1 9=sI (eM a1)/\f.1 10=sI j/\f.gen 4=b/\f.box 4=some [sI 0,sI 0,sI 0,AV.slice .full [],AV.slice .full []])/\Ow f [18] a s2) (by exact⟨.full,1,by simp[e],iM.full⟩) (λs2 d k l E m=>?_) (λj o s2 d k l n6 p E e m n g=>?_)
 ·have⟨a,b,E,c⟩:=E;have e:=Aj e E;dsimp only[en]at m;cases m;simp[e]
 have⟨a,b,E,c⟩:=E;have e:=Aj e E;have⟨i,e,m⟩:=ep e m;simp[e];refine Cf (mx e.2) ?_;have⟨e,m⟩:=Ck e m;simp[e];refine Ao (f:=Tm.av) s2 [i] c B1 e.2 ?_;simp[e];cases m;exact g _ _ _ ⟨(.loc 18 (d.fN 18+1)),b,by simp[e],(On 18)⟩ n
def l5:C3 prog 62 lU Tm.av sI Ty.av (sL Tm.av):=by
 intro T H a0 a1 a2 r hm;rw[lU] at hm;have e:=trivial;refine wi abf func62 [] [] 999 ?_;have⟨a,e,m⟩:=ep e hm;simp[e];refine Cf (gR e.2) ?_;have⟨b,e,m⟩:=ep e m;simp[e];refine Cf (jG e.2) ?_;cases m;simp[e]
def EI:C1 prog 178 qX Tm.av sI:=by
 intro T H a0 r hm;rw[qX] at hm;have e:=trivial;refine wi abf func178 [] [] 999 ?_;have⟨n,e,m⟩:=ep e hm;simp[e];refine Cf (gR e.2) ?_;simp[e];refine Wn m 999 (λs2 f h=>∃(c:Tag) (d:Tag) (a:Nat) (b:Nat),h=H/\f.1 0=sI s2.1/\f.1 2=AV.eB 2 a 0/\f.1 3=AV.eB 3 b 0/\f.gen 2=a/\f.box 2=some [sI 0,sI 0,sI 0,AV.slice .full [],AV.slice .full []]/\f.gen 3=b/\f.box 3=some [sI s2.2.1,sI s2.2.2.1,sI s2.2.2.2.1,sT c Ty.av s2.2.2.2.2.1,sT d Tm.av s2.2.2.2.2.2]) ⟨.iN,.iN,1,1,by simp[e]⟩ (λs2 j o p q s E m i g=>?_);have⟨v9,v10,v11,v12,k,l⟩:=s2;have⟨c,d,a,b,E⟩:=E;have e:=Aj e E;dsimp only[y_]at m;rcases Io e m with⟨e,m⟩|⟨e,m⟩;rotate_left
 ·cases m;have m:=Qb i;dsimp only[y_]at m;cases m;simp[e]
 simp[e];cases m;exact g _ _ _ ⟨.full,.full,a,b,by simp[e]⟩ i
def FA:C1 prog 127 ui (t2 Tm.av sI) sI:=by
 intro T H a0 r hm;rw[ui] at hm;have e:=trivial;refine wi abf func127 [] [] 999 ?_;rcases Io e hm with⟨e,m⟩|⟨e,m⟩
 ·cases m;simp[e]
 rcases Io e m with⟨e,m⟩|⟨e,m⟩
 ·cases m;simp[e]
 have⟨a,e,m⟩:=ep e m;simp[e];refine Cf (EI e.2) ?_;cases m;simp[e]
def zA:C1 prog 54 x' Tm.av sI:=by
 intro T H a0 r hm;rw[x'] at hm;have e:=trivial;refine wi abf func54 [] [] 999 ?_;have⟨a,b,e,m⟩:=gq e hm;simp[e];refine Cf (FA e.2) ?_;cases m;simp[e]
def lR:C1 prog 165 lb Tm.av Tm.av:=by
 intro T H a0 r hm;rw[lb] at hm;have e:=trivial;refine wi abf func165 [] [] 999 ?_;have⟨a,e,m⟩:=ep e hm;simp[e];refine Cs (hV e.2) ?_;have⟨b,e,m⟩:=ep e m;simp[e];refine Cs (l5 e.2) ?_;cases m;simp[e]
end Go.Proofs.YtobcafblgapgfaaGreatDoor
