/- Part of the proof of KernelChoice: walks. -/
import Derived.Test.YtobcafblgapgfaaGreatDoorProg
import Derived.Test.YtobcafblgapgfaaGreatDoorChecked
import Derived.WalkKit
import Derived.Laws.Bits64b
import Derived.BigCall
import Derived.Test.YtobcafblgapgfaaGreatDoorG1
set_option linter.all false
namespace Go.Proofs.YtobcafblgapgfaaGreatDoor
open Go Go.ky Go.fg Tryz
def abi:prog.follows .mixedOrders=true:=by kernel_rfl
end Go.Proofs.YtobcafblgapgfaaGreatDoor
namespace Go.fg
open Go Go.ky
mutual
def Ty.av:Ty->AV
 |.mk abd abe=>.agg [AV.sc (.int .i64 abd),AV.slice .eh (Ty.Ht abe)]
def Ty.Ht:List Ty->List AV
 |[]=>[]|x::l=>x.av::Ty.Ht l
end
def Ty.yv(l:List Ty):Ty.Ht l=l.map Ty.av:=by
 induction l with
 |nil=>rfl|cons x l a=>simp[Ty.Ht,a]
def Ty.ey(abd:Int)(abe:List Ty):(Ty.mk abd abe).av=.agg [AV.sc (.int .i64 abd),AV.slice .eh (List.map Ty.av abe)]:=by rw[Ty.av];simp only[Ty.yv]
mutual
@[simp] theorem Ty.zV(k:Nat):∀x:Ty,x.av.low k=true
 |.mk abd abe=>by rw[Ty.ey];simp[AV.low,AV.hS,Ty.sM k abe]
@[simp] theorem Ty.sM(k:Nat):∀l:List Ty,AV.hS k (l.map Ty.av)=true
 |[]=>rfl|x::l=>by simp[AV.hS,Ty.zV k x,Ty.sM k l]
end
def Ty.fw(x:Ty):x.av=.agg [AV.sc (.int .i64 x.abd),AV.slice .eh (List.map Ty.av x.abe)]:=by cases x;exact Ty.ey _ _
@[simp] theorem Ty.kZ(x:Ty):x.av.cells=[AV.sc (.int .i64 x.abd),AV.slice .eh (List.map Ty.av x.abe)]:=by rw[Ty.fw];rfl
@[simp] theorem Ty.s6(x:Ty):ek x.av=true:=by rw[Ty.fw];rfl
@[simp] theorem Ty.px(x:Ty):x.av.norm=x.av:=by rw[Ty.fw];rfl
@[simp] theorem Ty.Wp(a:Int)(b:List Ty):AV.agg [AV.sc (.int .i64 a),AV.slice .eh (List.map Ty.av b)]=Ty.av (Ty.mk a b):=by rw[Ty.ey]<;>rfl
@[simp] theorem Ty.Z6(a:Int):AV.agg [AV.sc (.int .i64 a),AV.slice .eh []]=Ty.av (Ty.mk a []):=by rw[Ty.ey]<;>rfl
mutual
def Tm.av:Tm->AV
 |.mk abd abg cD abe=>.agg [AV.sc (.int .i64 abd),AV.sc (.int .i64 abg),AV.sc (.int .i64 cD.abd),AV.slice .eh (List.map Ty.av cD.abe),AV.slice .eh (Tm.Ht abe)]
def Tm.Ht:List Tm->List AV
 |[]=>[]|x::l=>x.av::Tm.Ht l
end
def Tm.yv(l:List Tm):Tm.Ht l=l.map Tm.av:=by
 induction l with
 |nil=>rfl|cons x l a=>simp[Tm.Ht,a]
def Tm.ey(abd:Int)(abg:Int)(cD:Ty)(abe:List Tm):(Tm.mk abd abg cD abe).av=.agg [AV.sc (.int .i64 abd),AV.sc (.int .i64 abg),AV.sc (.int .i64 cD.abd),AV.slice .eh (List.map Ty.av cD.abe),AV.slice .eh (List.map Tm.av abe)]:=by rw[Tm.av];simp only[Tm.yv]
mutual
@[simp] theorem Tm.zV(k:Nat):∀x:Tm,x.av.low k=true
 |.mk abd abg cD abe=>by rw[Tm.ey];simp[AV.low,AV.hS,Tm.sM k abe]
@[simp] theorem Tm.sM(k:Nat):∀l:List Tm,AV.hS k (l.map Tm.av)=true
 |[]=>rfl|x::l=>by simp[AV.hS,Tm.zV k x,Tm.sM k l]
end
def Tm.fw(x:Tm):x.av=.agg [AV.sc (.int .i64 x.abd),AV.sc (.int .i64 x.abg),AV.sc (.int .i64 x.cD.abd),AV.slice .eh (List.map Ty.av x.cD.abe),AV.slice .eh (List.map Tm.av x.abe)]:=by cases x;exact Tm.ey _ _ _ _
@[simp] theorem Tm.kZ(x:Tm):x.av.cells=[AV.sc (.int .i64 x.abd),AV.sc (.int .i64 x.abg),AV.sc (.int .i64 x.cD.abd),AV.slice .eh (List.map Ty.av x.cD.abe),AV.slice .eh (List.map Tm.av x.abe)]:=by rw[Tm.fw];rfl
@[simp] theorem Tm.s6(x:Tm):ek x.av=true:=by rw[Tm.fw];rfl
@[simp] theorem Tm.px(x:Tm):x.av.norm=x.av:=by rw[Tm.fw];rfl
@[simp] theorem Tm.Rv(a:Int)(b:Int)(c:Int)(c3:List Ty)(d:List Tm):AV.agg [AV.sc (.int .i64 a),AV.sc (.int .i64 b),AV.sc (.int .i64 c),AV.slice .eh (List.map Ty.av c3),AV.slice .eh (List.map Tm.av d)]=Tm.av (Tm.mk a b (Ty.mk c c3) d):=by rw[Tm.ey]<;>rfl
@[simp] theorem Tm.aav(a:Int)(b:Int)(c:Int)(d:List Tm):AV.agg [AV.sc (.int .i64 a),AV.sc (.int .i64 b),AV.sc (.int .i64 c),AV.slice .eh [],AV.slice .eh (List.map Tm.av d)]=Tm.av (Tm.mk a b (Ty.mk c []) d):=by rw[Tm.ey]<;>rfl
@[simp] theorem Tm.W'(a:Int)(b:Int)(c:Int):AV.agg [AV.sc (.int .i64 a),AV.sc (.int .i64 b),AV.sc (.int .i64 c),AV.slice .eh [],AV.slice .eh []]=Tm.av (Tm.mk a b (Ty.mk c []) []):=by rw[Tm.ey]<;>rfl
mutual
def Fm.av:Fm->AV
 |.mk abd cD cU abe=>.agg [AV.sc (.int .i64 abd),AV.sc (.int .i64 cD.abd),AV.slice .eh (List.map Ty.av cD.abe),AV.slice .eh (List.map Tm.av cU),AV.slice .eh (Fm.Ht abe)]
def Fm.Ht:List Fm->List AV
 |[]=>[]|x::l=>x.av::Fm.Ht l
end
def Fm.yv(l:List Fm):Fm.Ht l=l.map Fm.av:=by
 induction l with
 |nil=>rfl|cons x l a=>simp[Fm.Ht,a]
def Fm.ey(abd:Int)(cD:Ty)(cU:List Tm)(abe:List Fm):(Fm.mk abd cD cU abe).av=.agg [AV.sc (.int .i64 abd),AV.sc (.int .i64 cD.abd),AV.slice .eh (List.map Ty.av cD.abe),AV.slice .eh (List.map Tm.av cU),AV.slice .eh (List.map Fm.av abe)]:=by rw[Fm.av];simp only[Fm.yv]
mutual
@[simp] theorem Fm.zV(k:Nat):∀x:Fm,x.av.low k=true
 |.mk abd cD cU abe=>by rw[Fm.ey];simp[AV.low,AV.hS,Fm.sM k abe]
@[simp] theorem Fm.sM(k:Nat):∀l:List Fm,AV.hS k (l.map Fm.av)=true
 |[]=>rfl|x::l=>by simp[AV.hS,Fm.zV k x,Fm.sM k l]
end
def Fm.fw(x:Fm):x.av=.agg [AV.sc (.int .i64 x.abd),AV.sc (.int .i64 x.cD.abd),AV.slice .eh (List.map Ty.av x.cD.abe),AV.slice .eh (List.map Tm.av x.cU),AV.slice .eh (List.map Fm.av x.abe)]:=by cases x;exact Fm.ey _ _ _ _
@[simp] theorem Fm.kZ(x:Fm):x.av.cells=[AV.sc (.int .i64 x.abd),AV.sc (.int .i64 x.cD.abd),AV.slice .eh (List.map Ty.av x.cD.abe),AV.slice .eh (List.map Tm.av x.cU),AV.slice .eh (List.map Fm.av x.abe)]:=by rw[Fm.fw];rfl
@[simp] theorem Fm.s6(x:Fm):ek x.av=true:=by rw[Fm.fw];rfl
@[simp] theorem Fm.px(x:Fm):x.av.norm=x.av:=by rw[Fm.fw];rfl
@[simp] theorem Fm.N8(a:Int)(b:Int)(c:List Ty)(c3:List Tm)(d:List Fm):AV.agg [AV.sc (.int .i64 a),AV.sc (.int .i64 b),AV.slice .eh (List.map Ty.av c),AV.slice .eh (List.map Tm.av c3),AV.slice .eh (List.map Fm.av d)]=Fm.av (Fm.mk a (Ty.mk b c) c3 d):=by rw[Fm.ey]<;>rfl
@[simp] theorem Fm.Zx(a:Int)(b:Int)(c:List Fm):AV.agg [AV.sc (.int .i64 a),AV.sc (.int .i64 b),AV.slice .eh [],AV.slice .eh [],AV.slice .eh (List.map Fm.av c)]=Fm.av (Fm.mk a (Ty.mk b []) [] c):=by rw[Fm.ey]<;>rfl
@[simp] theorem Fm.Uu(a:Int)(b:Int):AV.agg [AV.sc (.int .i64 a),AV.sc (.int .i64 b),AV.slice .eh [],AV.slice .eh [],AV.slice .eh []]=Fm.av (Fm.mk a (Ty.mk b []) [] []):=by rw[Fm.ey]<;>rfl
def Sq.av(x:Sq):AV:=.agg [AV.slice .eh (List.map Ty.av x.abh),AV.slice .eh (List.map Fm.av x.abk)]
def Sq.ey(abh:List Ty)(abk:List Fm):(Sq.mk abh abk).av=.agg [AV.slice .eh (List.map Ty.av abh),AV.slice .eh (List.map Fm.av abk)]:=rfl
def Sq.fw(x:Sq):x.av=.agg [AV.slice .eh (List.map Ty.av x.abh),AV.slice .eh (List.map Fm.av x.abk)]:=by cases x;exact Sq.ey _ _
@[simp] theorem Sq.kZ(x:Sq):x.av.cells=[AV.slice .eh (List.map Ty.av x.abh),AV.slice .eh (List.map Fm.av x.abk)]:=by rw[Sq.fw];rfl
@[simp] theorem Sq.s6(x:Sq):ek x.av=true:=by rw[Sq.fw];rfl
@[simp] theorem Sq.px(x:Sq):x.av.norm=x.av:=by rw[Sq.fw];rfl
@[simp] theorem Sq.Rv(a:List Ty)(b:List Fm):AV.agg [AV.slice .eh (List.map Ty.av a),AV.slice .eh (List.map Fm.av b)]=Sq.av (Sq.mk a b):=by rw[Sq.ey]<;>rfl
@[simp] theorem Sq.W':AV.agg [AV.slice .eh [],AV.slice .eh []]=Sq.av (Sq.mk [] []):=by rw[Sq.ey]<;>rfl
mutual
def Pf.av:Pf->AV
 |.mk abd abg cD cU ef abe=>.agg [AV.sc (.int .i64 abd),AV.sc (.int .i64 abg),AV.sc (.int .i64 cD.abd),AV.slice .eh (List.map Ty.av cD.abe),AV.slice .eh (List.map Tm.av cU),AV.slice .eh (List.map Fm.av ef),AV.slice .eh (Pf.Ht abe)]
def Pf.Ht:List Pf->List AV
 |[]=>[]|x::l=>x.av::Pf.Ht l
end
def Pf.yv(l:List Pf):Pf.Ht l=l.map Pf.av:=by
 induction l with
 |nil=>rfl|cons x l a=>simp[Pf.Ht,a]
def Pf.ey(abd:Int)(abg:Int)(cD:Ty)(cU:List Tm)(ef:List Fm)(abe:List Pf):(Pf.mk abd abg cD cU ef abe).av=.agg [AV.sc (.int .i64 abd),AV.sc (.int .i64 abg),AV.sc (.int .i64 cD.abd),AV.slice .eh (List.map Ty.av cD.abe),AV.slice .eh (List.map Tm.av cU),AV.slice .eh (List.map Fm.av ef),AV.slice .eh (List.map Pf.av abe)]:=by rw[Pf.av];simp only[Pf.yv]
def Pf.fw(x:Pf):x.av=.agg [AV.sc (.int .i64 x.abd),AV.sc (.int .i64 x.abg),AV.sc (.int .i64 x.cD.abd),AV.slice .eh (List.map Ty.av x.cD.abe),AV.slice .eh (List.map Tm.av x.cU),AV.slice .eh (List.map Fm.av x.ef),AV.slice .eh (List.map Pf.av x.abe)]:=by cases x;exact Pf.ey _ _ _ _ _ _
@[simp] theorem Pf.kZ(x:Pf):x.av.cells=[AV.sc (.int .i64 x.abd),AV.sc (.int .i64 x.abg),AV.sc (.int .i64 x.cD.abd),AV.slice .eh (List.map Ty.av x.cD.abe),AV.slice .eh (List.map Tm.av x.cU),AV.slice .eh (List.map Fm.av x.ef),AV.slice .eh (List.map Pf.av x.abe)]:=by rw[Pf.fw];rfl
@[simp] theorem Pf.s6(x:Pf):ek x.av=true:=by rw[Pf.fw];rfl
@[simp] theorem Pf.px(x:Pf):x.av.norm=x.av:=by rw[Pf.fw];rfl
@[simp] theorem Pf.Qi(a:Int)(b:Int)(c:Int)(c3:List Ty)(d:List Tm)(c5:List Fm)(e:List Pf):AV.agg [AV.sc (.int .i64 a),AV.sc (.int .i64 b),AV.sc (.int .i64 c),AV.slice .eh (List.map Ty.av c3),AV.slice .eh (List.map Tm.av d),AV.slice .eh (List.map Fm.av c5),AV.slice .eh (List.map Pf.av e)]=Pf.av (Pf.mk a b (Ty.mk c c3) d c5 e):=by rw[Pf.ey]<;>rfl
@[simp] theorem Pf.Y6(a:Int)(b:Int)(c:Int)(d:List Pf):AV.agg [AV.sc (.int .i64 a),AV.sc (.int .i64 b),AV.sc (.int .i64 c),AV.slice .eh [],AV.slice .eh [],AV.slice .eh [],AV.slice .eh (List.map Pf.av d)]=Pf.av (Pf.mk a b (Ty.mk c []) [] [] d):=by rw[Pf.ey]<;>rfl
def qE.av(x:qE):AV:=.agg [AV.sc (.int .i64 x.cK.abd),AV.sc (.int .i64 x.cK.cD.abd),AV.slice .eh (List.map Ty.av x.cK.cD.abe),AV.slice .eh (List.map Tm.av x.cK.cU),AV.slice .eh (List.map Fm.av x.cK.abe),AV.slice .eh (List.map (λn=>AV.sc (Value.int .i64 n)) x.eS)]
def qE.ey(cK:Fm)(eS:List Int):(qE.mk cK eS).av=.agg [AV.sc (.int .i64 cK.abd),AV.sc (.int .i64 cK.cD.abd),AV.slice .eh (List.map Ty.av cK.cD.abe),AV.slice .eh (List.map Tm.av cK.cU),AV.slice .eh (List.map Fm.av cK.abe),AV.slice .eh (List.map (λn=>AV.sc (Value.int .i64 n)) eS)]:=rfl
@[simp] theorem qE.zV(k:Nat)(x:qE):x.av.low k=true:=by
 cases x;rw[qE.ey];simp[AV.low,AV.hS]
def qE.fw(x:qE):x.av=.agg [AV.sc (.int .i64 x.cK.abd),AV.sc (.int .i64 x.cK.cD.abd),AV.slice .eh (List.map Ty.av x.cK.cD.abe),AV.slice .eh (List.map Tm.av x.cK.cU),AV.slice .eh (List.map Fm.av x.cK.abe),AV.slice .eh (List.map (λn=>AV.sc (Value.int .i64 n)) x.eS)]:=by cases x;exact qE.ey _ _
@[simp] theorem qE.kZ(x:qE):x.av.cells=[AV.sc (.int .i64 x.cK.abd),AV.sc (.int .i64 x.cK.cD.abd),AV.slice .eh (List.map Ty.av x.cK.cD.abe),AV.slice .eh (List.map Tm.av x.cK.cU),AV.slice .eh (List.map Fm.av x.cK.abe),AV.slice .eh (List.map (λn=>AV.sc (Value.int .i64 n)) x.eS)]:=by rw[qE.fw];rfl
@[simp] theorem qE.s6(x:qE):ek x.av=true:=by rw[qE.fw];rfl
@[simp] theorem qE.px(x:qE):x.av.norm=x.av:=by rw[qE.fw];rfl
@[simp] theorem qE.Qi(a:Int)(b:Int)(c:List Ty)(c3:List Tm)(d:List Fm)(c5:List Int):AV.agg [AV.sc (.int .i64 a),AV.sc (.int .i64 b),AV.slice .eh (List.map Ty.av c),AV.slice .eh (List.map Tm.av c3),AV.slice .eh (List.map Fm.av d),AV.slice .eh (List.map (λn=>AV.sc (Value.int .i64 n)) c5)]=qE.av (qE.mk (Fm.mk a (Ty.mk b c) c3 d) c5):=by rw[qE.ey]<;>rfl
@[simp] theorem qE.YE(a:Int)(b:Int):AV.agg [AV.sc (.int .i64 a),AV.sc (.int .i64 b),AV.slice .eh [],AV.slice .eh [],AV.slice .eh [],AV.slice .eh []]=qE.av (qE.mk (Fm.mk a (Ty.mk b []) [] []) []):=by rw[qE.ey]<;>rfl
def c6.av(x:c6):AV:=.agg [AV.slice .eh (List.map (λn=>AV.sc (Value.int .i64 n)) x.l),AV.sc (.int .i64 x.qU)]
def c6.ey(l:List Int)(qU:Int):(c6.mk l qU).av=.agg [AV.slice .eh (List.map (λn=>AV.sc (Value.int .i64 n)) l),AV.sc (.int .i64 qU)]:=rfl
def c6.fw(x:c6):x.av=.agg [AV.slice .eh (List.map (λn=>AV.sc (Value.int .i64 n)) x.l),AV.sc (.int .i64 x.qU)]:=by cases x;exact c6.ey _ _
@[simp] theorem c6.kZ(x:c6):x.av.cells=[AV.slice .eh (List.map (λn=>AV.sc (Value.int .i64 n)) x.l),AV.sc (.int .i64 x.qU)]:=by rw[c6.fw];rfl
@[simp] theorem c6.s6(x:c6):ek x.av=true:=by rw[c6.fw];rfl
@[simp] theorem c6.Wp(a:List Int)(b:Int):AV.agg [AV.slice .eh (List.map (λn=>AV.sc (Value.int .i64 n)) a),AV.sc (.int .i64 b)]=c6.av (c6.mk a b):=by rw[c6.ey]<;>rfl
def cE.av(x:cE):AV:=.agg [AV.sc (.int .i64 x.cK.abd),AV.sc (.int .i64 x.cK.cD.abd),AV.slice .eh (List.map Ty.av x.cK.cD.abe),AV.slice .eh (List.map Tm.av x.cK.cU),AV.slice .eh (List.map Fm.av x.cK.abe),AV.sc (.int .u32 x.eS)]
def cE.ey(cK:Fm)(eS:Int):(cE.mk cK eS).av=.agg [AV.sc (.int .i64 cK.abd),AV.sc (.int .i64 cK.cD.abd),AV.slice .eh (List.map Ty.av cK.cD.abe),AV.slice .eh (List.map Tm.av cK.cU),AV.slice .eh (List.map Fm.av cK.abe),AV.sc (.int .u32 eS)]:=rfl
def cE.fw(x:cE):x.av=.agg [AV.sc (.int .i64 x.cK.abd),AV.sc (.int .i64 x.cK.cD.abd),AV.slice .eh (List.map Ty.av x.cK.cD.abe),AV.slice .eh (List.map Tm.av x.cK.cU),AV.slice .eh (List.map Fm.av x.cK.abe),AV.sc (.int .u32 x.eS)]:=by cases x;exact cE.ey _ _
@[simp] theorem cE.kZ(x:cE):x.av.cells=[AV.sc (.int .i64 x.cK.abd),AV.sc (.int .i64 x.cK.cD.abd),AV.slice .eh (List.map Ty.av x.cK.cD.abe),AV.slice .eh (List.map Tm.av x.cK.cU),AV.slice .eh (List.map Fm.av x.cK.abe),AV.sc (.int .u32 x.eS)]:=by rw[cE.fw];rfl
@[simp] theorem cE.s6(x:cE):ek x.av=true:=by rw[cE.fw];rfl
@[simp] theorem cE.px(x:cE):x.av.norm=x.av:=by rw[cE.fw];rfl
@[simp] theorem cE.N8(a:Int)(b:Int)(c:List Ty)(c3:List Tm)(d:List Fm)(c5:Int):AV.agg [AV.sc (.int .i64 a),AV.sc (.int .i64 b),AV.slice .eh (List.map Ty.av c),AV.slice .eh (List.map Tm.av c3),AV.slice .eh (List.map Fm.av d),AV.sc (.int .u32 c5)]=cE.av (cE.mk (Fm.mk a (Ty.mk b c) c3 d) c5):=by rw[cE.ey]<;>rfl
@[simp] theorem cE.Uu(a:Int)(b:Int)(c5:Int):AV.agg [AV.sc (.int .i64 a),AV.sc (.int .i64 b),AV.slice .eh [],AV.slice .eh [],AV.slice .eh [],AV.sc (.int .u32 c5)]=cE.av (cE.mk (Fm.mk a (Ty.mk b []) [] []) c5):=by rw[cE.ey]<;>rfl
def dw.av(x:dw):AV:=.agg [AV.sc (.int .i64 x.vars),AV.sc (.int .i64 x.abk)]
def dw.ey(vars:Int)(abk:Int):(dw.mk vars abk).av=.agg [AV.sc (.int .i64 vars),AV.sc (.int .i64 abk)]:=rfl
def dw.fw(x:dw):x.av=.agg [AV.sc (.int .i64 x.vars),AV.sc (.int .i64 x.abk)]:=by cases x;exact dw.ey _ _
@[simp] theorem dw.kZ(x:dw):x.av.cells=[AV.sc (.int .i64 x.vars),AV.sc (.int .i64 x.abk)]:=by rw[dw.fw];rfl
@[simp] theorem dw.s6(x:dw):ek x.av=true:=by rw[dw.fw];rfl
@[simp] theorem dw.px(x:dw):x.av.norm=x.av:=by rw[dw.fw];rfl
@[simp] theorem dw.agg(a:Int)(b:Int):AV.agg [AV.sc (.int .i64 a),AV.sc (.int .i64 b)]=dw.av (dw.mk a b):=by rw[dw.ey]<;>rfl
def cH.av(x:cH):AV:=.agg [AV.sc (.int .i64 x.cD.abd),AV.slice .eh (List.map Ty.av x.cD.abe),AV.sc (.int .i64 x.abf)]
def cH.ey(cD:Ty)(abf:Int):(cH.mk cD abf).av=.agg [AV.sc (.int .i64 cD.abd),AV.slice .eh (List.map Ty.av cD.abe),AV.sc (.int .i64 abf)]:=rfl
def cH.fw(x:cH):x.av=.agg [AV.sc (.int .i64 x.cD.abd),AV.slice .eh (List.map Ty.av x.cD.abe),AV.sc (.int .i64 x.abf)]:=by cases x;exact cH.ey _ _
@[simp] theorem cH.kZ(x:cH):x.av.cells=[AV.sc (.int .i64 x.cD.abd),AV.slice .eh (List.map Ty.av x.cD.abe),AV.sc (.int .i64 x.abf)]:=by rw[cH.fw];rfl
@[simp] theorem cH.s6(x:cH):ek x.av=true:=by rw[cH.fw];rfl
@[simp] theorem cH.px(x:cH):x.av.norm=x.av:=by rw[cH.fw];rfl
@[simp] theorem cH.Wp(a:Int)(b:List Ty)(c:Int):AV.agg [AV.sc (.int .i64 a),AV.slice .eh (List.map Ty.av b),AV.sc (.int .i64 c)]=cH.av (cH.mk (Ty.mk a b) c):=by rw[cH.ey]<;>rfl
@[simp] theorem cH.Z6(a:Int)(b:Int):AV.agg [AV.sc (.int .i64 a),AV.slice .eh [],AV.sc (.int .i64 b)]=cH.av (cH.mk (Ty.mk a []) b):=by rw[cH.ey]<;>rfl
def cP.av(x:cP):AV:=.agg [AV.sc (.int .i64 x.cK.abd),AV.sc (.int .i64 x.cK.cD.abd),AV.slice .eh (List.map Ty.av x.cK.cD.abe),AV.slice .eh (List.map Tm.av x.cK.cU),AV.slice .eh (List.map Fm.av x.cK.abe),AV.sc (.int .i64 x.vars)]
def cP.ey(cK:Fm)(vars:Int):(cP.mk cK vars).av=.agg [AV.sc (.int .i64 cK.abd),AV.sc (.int .i64 cK.cD.abd),AV.slice .eh (List.map Ty.av cK.cD.abe),AV.slice .eh (List.map Tm.av cK.cU),AV.slice .eh (List.map Fm.av cK.abe),AV.sc (.int .i64 vars)]:=rfl
def cP.fw(x:cP):x.av=.agg [AV.sc (.int .i64 x.cK.abd),AV.sc (.int .i64 x.cK.cD.abd),AV.slice .eh (List.map Ty.av x.cK.cD.abe),AV.slice .eh (List.map Tm.av x.cK.cU),AV.slice .eh (List.map Fm.av x.cK.abe),AV.sc (.int .i64 x.vars)]:=by cases x;exact cP.ey _ _
@[simp] theorem cP.kZ(x:cP):x.av.cells=[AV.sc (.int .i64 x.cK.abd),AV.sc (.int .i64 x.cK.cD.abd),AV.slice .eh (List.map Ty.av x.cK.cD.abe),AV.slice .eh (List.map Tm.av x.cK.cU),AV.slice .eh (List.map Fm.av x.cK.abe),AV.sc (.int .i64 x.vars)]:=by rw[cP.fw];rfl
@[simp] theorem cP.s6(x:cP):ek x.av=true:=by rw[cP.fw];rfl
@[simp] theorem cP.px(x:cP):x.av.norm=x.av:=by rw[cP.fw];rfl
@[simp] theorem cP.N8(a:Int)(b:Int)(c:List Ty)(c3:List Tm)(d:List Fm)(c5:Int):AV.agg [AV.sc (.int .i64 a),AV.sc (.int .i64 b),AV.slice .eh (List.map Ty.av c),AV.slice .eh (List.map Tm.av c3),AV.slice .eh (List.map Fm.av d),AV.sc (.int .i64 c5)]=cP.av (cP.mk (Fm.mk a (Ty.mk b c) c3 d) c5):=by rw[cP.ey]<;>rfl
def cJ.av(x:cJ):AV:=.agg [AV.sc (.int .i64 x.eu.vars),AV.sc (.int .i64 x.eu.abk),AV.slice .eh (List.map cH.av x.abh),AV.slice .eh (List.map cP.av x.known)]
def cJ.ey(eu:dw)(abh:List cH)(known:List cP):(cJ.mk eu abh known).av=.agg [AV.sc (.int .i64 eu.vars),AV.sc (.int .i64 eu.abk),AV.slice .eh (List.map cH.av abh),AV.slice .eh (List.map cP.av known)]:=rfl
def cJ.fw(x:cJ):x.av=.agg [AV.sc (.int .i64 x.eu.vars),AV.sc (.int .i64 x.eu.abk),AV.slice .eh (List.map cH.av x.abh),AV.slice .eh (List.map cP.av x.known)]:=by cases x;exact cJ.ey _ _ _
@[simp] theorem cJ.kZ(x:cJ):x.av.cells=[AV.sc (.int .i64 x.eu.vars),AV.sc (.int .i64 x.eu.abk),AV.slice .eh (List.map cH.av x.abh),AV.slice .eh (List.map cP.av x.known)]:=by rw[cJ.fw];rfl
@[simp] theorem cJ.s6(x:cJ):ek x.av=true:=by rw[cJ.fw];rfl
@[simp] theorem cJ.px(x:cJ):x.av.norm=x.av:=by rw[cJ.fw];rfl
@[simp] theorem cJ.Rv(a:Int)(b:Int)(c:List cH)(c3:List cP):AV.agg [AV.sc (.int .i64 a),AV.sc (.int .i64 b),AV.slice .eh (List.map cH.av c),AV.slice .eh (List.map cP.av c3)]=cJ.av (cJ.mk (dw.mk a b) c c3):=by rw[cJ.ey]<;>rfl
def cY.av(x:cY):AV:=.agg [AV.slice .eh (List.map Fm.av x.lemmas),AV.slice .eh (List.map Ty.av x.abh),AV.slice .eh (List.map Fm.av x.abk)]
def cO.av(x:cO):AV:=.agg [AV.sc (.int .i64 x.abf),AV.sc (.bool x.fP)]
def cO.ey(abf:Int)(fP:Bool):(cO.mk abf fP).av=.agg [AV.sc (.int .i64 abf),AV.sc (.bool fP)]:=rfl
def cO.fw(x:cO):x.av=.agg [AV.sc (.int .i64 x.abf),AV.sc (.bool x.fP)]:=by cases x;exact cO.ey _ _
@[simp] theorem cO.kZ(x:cO):x.av.cells=[AV.sc (.int .i64 x.abf),AV.sc (.bool x.fP)]:=by rw[cO.fw];rfl
@[simp] theorem cO.s6(x:cO):ek x.av=true:=by rw[cO.fw];rfl
@[simp] theorem cO.agg(a:Int)(b:Bool):AV.agg [AV.sc (.int .i64 a),AV.sc (.bool b)]=cO.av (cO.mk a b):=by rw[cO.ey]<;>rfl
def dh.av(x:dh):AV:=.agg [AV.sc (.int .i64 x.abd),AV.sc (.int .i64 x.base.abd),AV.sc (.int .i64 x.base.abg),AV.sc (.int .i64 x.base.cD.abd),AV.slice .eh (List.map Ty.av x.base.cD.abe),AV.slice .eh (List.map Tm.av x.base.abe),AV.slice .eh (List.map Ty.av x.vars),AV.sc (.int .i64 x.next.abd),AV.sc (.int .i64 x.next.abg),AV.sc (.int .i64 x.next.cD.abd),AV.slice .eh (List.map Ty.av x.next.cD.abe),AV.slice .eh (List.map Tm.av x.next.abe)]
def dh.ey(abd:Int)(base:Tm)(vars:List Ty)(next:Tm):(dh.mk abd base vars next).av=.agg [AV.sc (.int .i64 abd),AV.sc (.int .i64 base.abd),AV.sc (.int .i64 base.abg),AV.sc (.int .i64 base.cD.abd),AV.slice .eh (List.map Ty.av base.cD.abe),AV.slice .eh (List.map Tm.av base.abe),AV.slice .eh (List.map Ty.av vars),AV.sc (.int .i64 next.abd),AV.sc (.int .i64 next.abg),AV.sc (.int .i64 next.cD.abd),AV.slice .eh (List.map Ty.av next.cD.abe),AV.slice .eh (List.map Tm.av next.abe)]:=rfl
def dh.fw(x:dh):x.av=.agg [AV.sc (.int .i64 x.abd),AV.sc (.int .i64 x.base.abd),AV.sc (.int .i64 x.base.abg),AV.sc (.int .i64 x.base.cD.abd),AV.slice .eh (List.map Ty.av x.base.cD.abe),AV.slice .eh (List.map Tm.av x.base.abe),AV.slice .eh (List.map Ty.av x.vars),AV.sc (.int .i64 x.next.abd),AV.sc (.int .i64 x.next.abg),AV.sc (.int .i64 x.next.cD.abd),AV.slice .eh (List.map Ty.av x.next.cD.abe),AV.slice .eh (List.map Tm.av x.next.abe)]:=by cases x;exact dh.ey _ _ _ _
@[simp] theorem dh.kZ(x:dh):x.av.cells=[AV.sc (.int .i64 x.abd),AV.sc (.int .i64 x.base.abd),AV.sc (.int .i64 x.base.abg),AV.sc (.int .i64 x.base.cD.abd),AV.slice .eh (List.map Ty.av x.base.cD.abe),AV.slice .eh (List.map Tm.av x.base.abe),AV.slice .eh (List.map Ty.av x.vars),AV.sc (.int .i64 x.next.abd),AV.sc (.int .i64 x.next.abg),AV.sc (.int .i64 x.next.cD.abd),AV.slice .eh (List.map Ty.av x.next.cD.abe),AV.slice .eh (List.map Tm.av x.next.abe)]:=by rw[dh.fw];rfl
@[simp] theorem dh.s6(x:dh):ek x.av=true:=by rw[dh.fw];rfl
def fN.av(x:fN):AV:=.agg [AV.sc (.int .i64 x.cU),AV.sc (.int .i64 x.ef),AV.sc (.int .i64 x.abe),AV.sc (.bool x.abg),AV.sc (.bool x.nU)]
def dV.av(x:dV):AV:=.agg [AV.sc (.bool x.abg),AV.sc (.bool x.typed),AV.sc (.int .i64 x.cU),AV.sc (.int .i64 x.ef),AV.sc (.int .i64 x.abe),AV.sc (.int .i64 x.pt),AV.sc (.int .i64 x.vars),AV.sc (.int .i64 x.abk)]
def dV.ey(abg:Bool)(typed:Bool)(cU:Int)(ef:Int)(abe:Int)(pt:Int)(vars:Int)(abk:Int):(dV.mk abg typed cU ef abe pt vars abk).av=.agg [AV.sc (.bool abg),AV.sc (.bool typed),AV.sc (.int .i64 cU),AV.sc (.int .i64 ef),AV.sc (.int .i64 abe),AV.sc (.int .i64 pt),AV.sc (.int .i64 vars),AV.sc (.int .i64 abk)]:=rfl
def dV.fw(x:dV):x.av=.agg [AV.sc (.bool x.abg),AV.sc (.bool x.typed),AV.sc (.int .i64 x.cU),AV.sc (.int .i64 x.ef),AV.sc (.int .i64 x.abe),AV.sc (.int .i64 x.pt),AV.sc (.int .i64 x.vars),AV.sc (.int .i64 x.abk)]:=by cases x;exact dV.ey _ _ _ _ _ _ _ _
@[simp] theorem dV.kZ(x:dV):x.av.cells=[AV.sc (.bool x.abg),AV.sc (.bool x.typed),AV.sc (.int .i64 x.cU),AV.sc (.int .i64 x.ef),AV.sc (.int .i64 x.abe),AV.sc (.int .i64 x.pt),AV.sc (.int .i64 x.vars),AV.sc (.int .i64 x.abk)]:=by rw[dV.fw];rfl
@[simp] theorem dV.s6(x:dV):ek x.av=true:=by rw[dV.fw];rfl
@[simp] theorem dV.px(x:dV):x.av.norm=x.av:=by rw[dV.fw];rfl
@[simp] theorem dV.agg(a:Bool)(b:Bool)(c:Int)(c3:Int)(d:Int)(c5:Int)(e:Int)(f:Int):AV.agg [AV.sc (.bool a),AV.sc (.bool b),AV.sc (.int .i64 c),AV.sc (.int .i64 c3),AV.sc (.int .i64 d),AV.sc (.int .i64 c5),AV.sc (.int .i64 e),AV.sc (.int .i64 f)]=dV.av (dV.mk a b c c3 d c5 e f):=by rw[dV.ey]<;>rfl
def HC.cells(k:Nat):HC->List AV
 |.en x=>[kG k x.term,AV.sc (.int .i64 x.steps)]|.dn x=>[AV.sc (.int .i64 x.abd),AV.sc (.int .i64 x.abg),AV.sc (.int .i64 x.nU.abd),AV.slice .eh (List.map Ty.av x.nU.abe),AV.slice .eh (List.map (kG k) x.abe),AV.sc (.int .i64 x.size),AV.sc (.int .i64 x.free),AV.sc (.bool x.normal)]
@[simp] theorem HC.Jm(k:Nat)(x:eb):HC.cells k (.en x)=[kG k x.term,AV.sc (.int .i64 x.steps)]:=rfl
@[simp] theorem HC.Lz(k:Nat)(x:di):HC.cells k (.dn x)=[AV.sc (.int .i64 x.abd),AV.sc (.int .i64 x.abg),AV.sc (.int .i64 x.nU.abd),AV.slice .eh (List.map Ty.av x.nU.abe),AV.slice .eh (List.map (kG k) x.abe),AV.sc (.int .i64 x.size),AV.sc (.int .i64 x.free),AV.sc (.bool x.normal)]:=rfl
abbrev fW(k:Nat)(l:List HC):cV:=s7 HC.cells k l
end Go.fg
namespace Go.Proofs.YtobcafblgapgfaaGreatDoor
open Go Go.ky Go.fg Tryz
@[simp] theorem WB:eB prog 3=some (false,1):=by kernel_rfl
@[simp] theorem aaw:jM prog 3=some [.sc (.int .i64 0)]:=by kernel_rfl
@[simp] theorem tu:prog.underlying 3=some (.int .i64):=by kernel_rfl
@[simp] theorem aa_:eB prog 4=some (false,1):=by kernel_rfl
@[simp] theorem aaE:jM prog 4=some [.sc (.bool false)]:=by kernel_rfl
@[simp] theorem aaF:eB prog 22=some (false,1):=by kernel_rfl
@[simp] theorem WZ:nM prog 22=some (3,1):=by kernel_rfl
@[simp] theorem Wt:prog.underlying 22=some (.slice 3):=by kernel_rfl
@[simp] theorem aaq:eB prog 23=some (false,1):=by kernel_rfl
@[simp] theorem OL:nM prog 23=some (46,5):=by kernel_rfl
@[simp] theorem aas:eB prog 24=some (false,1):=by kernel_rfl
@[simp] theorem Ft:nM prog 24=some (28,2):=by kernel_rfl
@[simp] theorem Xj:prog.underlying 24=some (.slice 28):=by kernel_rfl
@[simp] theorem aaD:eB prog 26=some (true,2):=by kernel_rfl
@[simp] theorem ZE:ow prog 26=some [.slice .full [],.slice .full []]:=by kernel_rfl
@[simp] theorem ZX:jM prog 26=some [.slice .full [],.slice .full []]:=by kernel_rfl
@[simp] theorem Vs:dO prog 26 0=some (0,24):=by kernel_rfl
@[simp] theorem V_:fm prog 26 0=some (0,1):=by kernel_rfl
@[simp] theorem VK:dO prog 26 1=some (1,23):=by kernel_rfl
@[simp] theorem Vy:fm prog 26 1=some (1,1):=by kernel_rfl
@[simp] theorem Rm:eB prog 28=some (true,2):=by kernel_rfl
@[simp] theorem Z1:ow prog 28=some [.sc (.int .i64 0),.slice .full []]:=by kernel_rfl
@[simp] theorem Y_:jM prog 28=some [.sc (.int .i64 0),.slice .full []]:=by kernel_rfl
@[simp] theorem Vn:dO prog 28 0=some (0,3):=by kernel_rfl
@[simp] theorem U7:fm prog 28 0=some (0,1):=by kernel_rfl
@[simp] theorem VU:dO prog 28 1=some (1,24):=by kernel_rfl
@[simp] theorem VD:fm prog 28 1=some (1,1):=by kernel_rfl
@[simp] theorem Ty.U8(x:Ty):oz prog 28 x.av=true:=by rw[Ty.fw,sh,Rm];rfl
@[simp] theorem aaA:eB prog 29=some (false,1):=by kernel_rfl
@[simp] theorem C7:nM prog 29=some (64,5):=by kernel_rfl
@[simp] theorem aar:eB prog 30=some (false,1):=by kernel_rfl
@[simp] theorem Xo:nM prog 30=some (32,7):=by kernel_rfl
@[simp] theorem XQ:eB prog 32=some (true,7):=by kernel_rfl
@[simp] theorem Zv:ow prog 32=some [.sc (.int .i64 0),.sc (.int .i64 0),.sc (.int .i64 0),.slice .full [],.slice .full [],.slice .full [],.slice .full []]:=by kernel_rfl
@[simp] theorem ZO:jM prog 32=some [.sc (.int .i64 0),.sc (.int .i64 0),.sc (.int .i64 0),.slice .full [],.slice .full [],.slice .full [],.slice .full []]:=by kernel_rfl
@[simp] theorem Vh:dO prog 32 0=some (0,3):=by kernel_rfl
@[simp] theorem Vj:fm prog 32 0=some (0,1):=by kernel_rfl
@[simp] theorem VO:dO prog 32 1=some (1,3):=by kernel_rfl
@[simp] theorem Vb:fm prog 32 1=some (1,1):=by kernel_rfl
@[simp] theorem VB:dO prog 32 2=some (2,28):=by kernel_rfl
@[simp] theorem V':fm prog 32 2=some (2,2):=by kernel_rfl
@[simp] theorem Vw:dO prog 32 3=some (4,29):=by kernel_rfl
@[simp] theorem U9:fm prog 32 3=some (4,1):=by kernel_rfl
@[simp] theorem VA:dO prog 32 4=some (5,23):=by kernel_rfl
@[simp] theorem Vi:dO prog 32 5=some (6,30):=by kernel_rfl
@[simp] theorem Pf.U5(x:Pf):oz prog 32 x.av=true:=by rw[Pf.fw,sh,XQ];rfl
@[simp] theorem aaH:eB prog 43=some (false,1):=by kernel_rfl
@[simp] theorem aae:jM prog 43=some [.sc (.int .i64 0)]:=by kernel_rfl
@[simp] theorem W1:eB prog 46=some (true,5):=by kernel_rfl
@[simp] theorem aaj:ow prog 46=some [.sc (.int .i64 0),.sc (.int .i64 0),.slice .full [],.slice .full [],.slice .full []]:=by kernel_rfl
@[simp] theorem ZD:jM prog 46=some [.sc (.int .i64 0),.sc (.int .i64 0),.slice .full [],.slice .full [],.slice .full []]:=by kernel_rfl
@[simp] theorem VM:dO prog 46 0=some (0,3):=by kernel_rfl
@[simp] theorem VI:fm prog 46 0=some (0,1):=by kernel_rfl
@[simp] theorem V3:dO prog 46 1=some (1,28):=by kernel_rfl
@[simp] theorem Wa:fm prog 46 1=some (1,2):=by kernel_rfl
@[simp] theorem V9:dO prog 46 2=some (3,29):=by kernel_rfl
@[simp] theorem Wb:fm prog 46 2=some (3,1):=by kernel_rfl
@[simp] theorem V0:dO prog 46 3=some (4,23):=by kernel_rfl
@[simp] theorem VS:fm prog 46 3=some (4,1):=by kernel_rfl
@[simp] theorem Fm.VY(x:Fm):oz prog 46 x.av=true:=by rw[Fm.fw,sh,W1];rfl
@[simp] theorem aaz:eB prog 48=some (true,6):=by kernel_rfl
@[simp] theorem ZS:ow prog 48=some [.sc (.int .i64 0),.sc (.int .i64 0),.slice .full [],.slice .full [],.slice .full [],.slice .full []]:=by kernel_rfl
@[simp] theorem Z5:jM prog 48=some [.sc (.int .i64 0),.sc (.int .i64 0),.slice .full [],.slice .full [],.slice .full [],.slice .full []]:=by kernel_rfl
@[simp] theorem VP:dO prog 48 0=some (0,46):=by kernel_rfl
@[simp] theorem VC:fm prog 48 0=some (0,5):=by kernel_rfl
@[simp] theorem Vm:dO prog 48 1=some (5,22):=by kernel_rfl
@[simp] theorem U':fm prog 48 1=some (5,1):=by kernel_rfl
@[simp] theorem WI:eB prog 64=some (true,5):=by kernel_rfl
@[simp] theorem ZP:ow prog 64=some [.sc (.int .i64 0),.sc (.int .i64 0),.sc (.int .i64 0),.slice .full [],.slice .full []]:=by kernel_rfl
@[simp] theorem ZT:jM prog 64=some [.sc (.int .i64 0),.sc (.int .i64 0),.sc (.int .i64 0),.slice .full [],.slice .full []]:=by kernel_rfl
@[simp] theorem V7:dO prog 64 0=some (0,3):=by kernel_rfl
@[simp] theorem Vx:fm prog 64 0=some (0,1):=by kernel_rfl
@[simp] theorem V1:dO prog 64 1=some (1,3):=by kernel_rfl
@[simp] theorem Vc:fm prog 64 1=some (1,1):=by kernel_rfl
@[simp] theorem V4:dO prog 64 2=some (2,28):=by kernel_rfl
@[simp] theorem VH:fm prog 64 2=some (2,2):=by kernel_rfl
@[simp] theorem Vg:dO prog 64 3=some (4,29):=by kernel_rfl
@[simp] theorem Va:fm prog 64 3=some (4,1):=by kernel_rfl
@[simp] theorem Tm.U6(x:Tm):oz prog 64 x.av=true:=by rw[Tm.fw,sh,WI];rfl
@[simp] theorem ZI:ow prog 99=some [.slice .full [],.sc (.int .i64 0)]:=by kernel_rfl
@[simp] theorem Vq:dO prog 99 0=some (0,22):=by kernel_rfl
@[simp] theorem Vf:fm prog 99 0=some (0,1):=by kernel_rfl
@[simp] theorem Vd:dO prog 99 1=some (1,3):=by kernel_rfl
@[simp] theorem ZU:eB prog 113=some (false,1):=by kernel_rfl
@[simp] theorem YN:ow prog 116=some [.slice .full [],.sc (.map none)]:=by kernel_rfl
@[simp] theorem TN:dO prog 116 0=some (0,23):=by kernel_rfl
@[simp] theorem UR:fm prog 116 0=some (0,1):=by kernel_rfl
@[simp] theorem S2:dO prog 116 1=some (1,113):=by kernel_rfl
@[simp] theorem R8:fm prog 116 1=some (1,1):=by kernel_rfl
@[simp] theorem Zq:eB prog 118=some (false,1):=by kernel_rfl
@[simp] theorem YV:jM prog 118=some [.sc (.int .u32 0)]:=by kernel_rfl
@[simp] theorem Z7:eB prog 120=some (true,6):=by kernel_rfl
@[simp] theorem Yo:ow prog 120=some [.sc (.int .i64 0),.sc (.int .i64 0),.slice .full [],.slice .full [],.slice .full [],.sc (.int .u32 0)]:=by kernel_rfl
@[simp] theorem YF:jM prog 120=some [.sc (.int .i64 0),.sc (.int .i64 0),.slice .full [],.slice .full [],.slice .full [],.sc (.int .u32 0)]:=by kernel_rfl
@[simp] theorem R2:dO prog 120 0=some (0,46):=by kernel_rfl
@[simp] theorem Tl:fm prog 120 0=some (0,5):=by kernel_rfl
@[simp] theorem Sf:dO prog 120 1=some (5,118):=by kernel_rfl
@[simp] theorem R_:fm prog 120 1=some (5,1):=by kernel_rfl
@[simp] theorem Zn:eB prog 124=some (true,2):=by kernel_rfl
@[simp] theorem UM:dO prog 124 0=some (0,3):=by kernel_rfl
@[simp] theorem SO:dO prog 124 1=some (1,3):=by kernel_rfl
@[simp] theorem aaa:eB prog 126=some (false,1):=by kernel_rfl
@[simp] theorem N_:nM prog 126=some (191,3):=by kernel_rfl
@[simp] theorem TM:prog.underlying 126=some (.slice 191):=by kernel_rfl
@[simp] theorem Zh:eB prog 127=some (false,1):=by kernel_rfl
@[simp] theorem WL:nM prog 127=some (221,6):=by kernel_rfl
@[simp] theorem UB:prog.underlying 127=some (.slice 221):=by kernel_rfl
@[simp] theorem Zw:eB prog 129=some (true,4):=by kernel_rfl
@[simp] theorem YY:ow prog 129=some [.sc (.int .i64 0),.sc (.int .i64 0),.slice .full [],.slice .full []]:=by kernel_rfl
@[simp] theorem YM:jM prog 129=some [.sc (.int .i64 0),.sc (.int .i64 0),.slice .full [],.slice .full []]:=by kernel_rfl
@[simp] theorem SW:dO prog 129 0=some (0,124):=by kernel_rfl
@[simp] theorem TQ:dO prog 129 1=some (2,126):=by kernel_rfl
@[simp] theorem Sb:fm prog 129 1=some (2,1):=by kernel_rfl
@[simp] theorem SB:dO prog 129 2=some (3,127):=by kernel_rfl
@[simp] theorem ZF:eB prog 134=some (true,3):=by kernel_rfl
@[simp] theorem Y0:ow prog 134=some [.slice .full [],.slice .full [],.slice .full []]:=by kernel_rfl
@[simp] theorem Yr:jM prog 134=some [.slice .full [],.slice .full [],.slice .full []]:=by kernel_rfl
@[simp] theorem SL:dO prog 134 0=some (0,23):=by kernel_rfl
@[simp] theorem SF:fm prog 134 0=some (0,1):=by kernel_rfl
@[simp] theorem Sy:dO prog 134 1=some (1,24):=by kernel_rfl
@[simp] theorem Uv:fm prog 134 1=some (1,1):=by kernel_rfl
@[simp] theorem RU:dO prog 134 2=some (2,23):=by kernel_rfl
@[simp] theorem Sh:fm prog 134 2=some (2,1):=by kernel_rfl
@[simp] theorem Ze:eB prog 175=some (false,1):=by kernel_rfl
@[simp] theorem YI:jM prog 175=some [.sc .nilFunc]:=by kernel_rfl
@[simp] theorem wc:eB prog 191=some (true,3):=by kernel_rfl
@[simp] theorem YZ:ow prog 191=some [.sc (.int .i64 0),.slice .full [],.sc (.int .i64 0)]:=by kernel_rfl
@[simp] theorem Yp:jM prog 191=some [.sc (.int .i64 0),.slice .full [],.sc (.int .i64 0)]:=by kernel_rfl
@[simp] theorem RT:dO prog 191 0=some (0,28):=by kernel_rfl
@[simp] theorem Sg:fm prog 191 0=some (0,2):=by kernel_rfl
@[simp] theorem T':dO prog 191 1=some (2,3):=by kernel_rfl
@[simp] theorem UP:fm prog 191 1=some (2,1):=by kernel_rfl
@[simp] theorem cH.Uc(x:cH):oz prog 191 x.av=true:=by rw[cH.fw,sh,wc];rfl
@[simp] theorem YJ:ow prog 199=some [.sc (.int .i64 0),.sc (.bool false)]:=by kernel_rfl
@[simp] theorem Ug:dO prog 199 0=some (0,3):=by kernel_rfl
@[simp] theorem U4:dO prog 199 1=some (1,4):=by kernel_rfl
@[simp] theorem Z0:eB prog 214=some (true,12):=by kernel_rfl
@[simp] theorem YU:ow prog 214=some [.sc (.int .i64 0),.sc (.int .i64 0),.sc (.int .i64 0),.sc (.int .i64 0),.slice .full [],.slice .full [],.slice .full [],.sc (.int .i64 0),.sc (.int .i64 0),.sc (.int .i64 0),.slice .full [],.slice .full []]:=by kernel_rfl
@[simp] theorem YD:jM prog 214=some [.sc (.int .i64 0),.sc (.int .i64 0),.sc (.int .i64 0),.sc (.int .i64 0),.slice .full [],.slice .full [],.slice .full [],.sc (.int .i64 0),.sc (.int .i64 0),.sc (.int .i64 0),.slice .full [],.slice .full []]:=by kernel_rfl
@[simp] theorem TK:dO prog 214 0=some (0,3):=by kernel_rfl
@[simp] theorem SK:fm prog 214 0=some (0,1):=by kernel_rfl
@[simp] theorem TX:dO prog 214 1=some (1,64):=by kernel_rfl
@[simp] theorem SV:fm prog 214 1=some (1,5):=by kernel_rfl
@[simp] theorem Sj:dO prog 214 2=some (6,24):=by kernel_rfl
@[simp] theorem Tu:fm prog 214 2=some (6,1):=by kernel_rfl
@[simp] theorem Ur:dO prog 214 3=some (7,64):=by kernel_rfl
@[simp] theorem TH:fm prog 214 3=some (7,5):=by kernel_rfl
@[simp] theorem O9:eB prog 221=some (true,6):=by kernel_rfl
@[simp] theorem YK:ow prog 221=some [.sc (.int .i64 0),.sc (.int .i64 0),.slice .full [],.slice .full [],.slice .full [],.sc (.int .i64 0)]:=by kernel_rfl
@[simp] theorem Yz:jM prog 221=some [.sc (.int .i64 0),.sc (.int .i64 0),.slice .full [],.slice .full [],.slice .full [],.sc (.int .i64 0)]:=by kernel_rfl
@[simp] theorem SP:dO prog 221 0=some (0,46):=by kernel_rfl
@[simp] theorem TE:fm prog 221 0=some (0,5):=by kernel_rfl
@[simp] theorem SU:dO prog 221 1=some (5,3):=by kernel_rfl
@[simp] theorem Tv:fm prog 221 1=some (5,1):=by kernel_rfl
@[simp] theorem cP.Tw(x:cP):oz prog 221 x.av=true:=by rw[cP.fw,sh,O9];rfl
@[simp] theorem ZL:eB prog 225=some (true,5):=by kernel_rfl
@[simp] theorem YX:ow prog 225=some [.sc (.int .i64 0),.sc (.int .i64 0),.sc (.int .i64 0),.sc (.bool false),.sc (.bool false)]:=by kernel_rfl
@[simp] theorem Yu:jM prog 225=some [.sc (.int .i64 0),.sc (.int .i64 0),.sc (.int .i64 0),.sc (.bool false),.sc (.bool false)]:=by kernel_rfl
@[simp] theorem Uy:dO prog 225 0=some (0,3):=by kernel_rfl
@[simp] theorem S8:fm prog 225 0=some (0,1):=by kernel_rfl
@[simp] theorem Tg:dO prog 225 1=some (1,3):=by kernel_rfl
@[simp] theorem Tc:fm prog 225 1=some (1,1):=by kernel_rfl
@[simp] theorem SM:dO prog 225 2=some (2,3):=by kernel_rfl
@[simp] theorem Tk:fm prog 225 2=some (2,1):=by kernel_rfl
@[simp] theorem Ua:dO prog 225 3=some (3,4):=by kernel_rfl
@[simp] theorem UF:fm prog 225 3=some (3,1):=by kernel_rfl
@[simp] theorem Ux:dO prog 225 4=some (4,4):=by kernel_rfl
@[simp] theorem R5:fm prog 225 4=some (4,1):=by kernel_rfl
@[simp] theorem OM:eB prog 238=some (true,8):=by kernel_rfl
@[simp] theorem Y3:ow prog 238=some [.sc (.bool false),.sc (.bool false),.sc (.int .i64 0),.sc (.int .i64 0),.sc (.int .i64 0),.sc (.int .i64 0),.sc (.int .i64 0),.sc (.int .i64 0)]:=by kernel_rfl
@[simp] theorem Yw:jM prog 238=some [.sc (.bool false),.sc (.bool false),.sc (.int .i64 0),.sc (.int .i64 0),.sc (.int .i64 0),.sc (.int .i64 0),.sc (.int .i64 0),.sc (.int .i64 0)]:=by kernel_rfl
@[simp] theorem To:dO prog 238 0=some (0,4):=by kernel_rfl
@[simp] theorem Ub:dO prog 238 1=some (1,4):=by kernel_rfl
@[simp] theorem S4:dO prog 238 2=some (2,3):=by kernel_rfl
@[simp] theorem UG:dO prog 238 3=some (3,3):=by kernel_rfl
@[simp] theorem Uq:dO prog 238 4=some (4,3):=by kernel_rfl
@[simp] theorem dV.Ti(x:dV):oz prog 238 x.av=true:=by rw[dV.fw,sh,OM];rfl
@[simp] theorem Y8:eB prog 244=some (true,9):=by kernel_rfl
@[simp] theorem YB:jM prog 244=some [.sc (.int .i64 0),.slice .full [],.sc (.int .i64 0),.sc (.int .i64 0),.slice .full [],.sc (.int .i64 0),.sc (.int .i64 0),.slice .full [],.sc (.int .i64 0)]:=by kernel_rfl
@[simp] theorem z_:prog.underlying 244=some (.array 3 191):=by kernel_rfl
@[simp] theorem X2(b g o:Nat):eL prog 244 (.dc b g o) (.sc (.int .i64 0))=some (.dc b g (o+0)):=by kernel_rfl
@[simp] theorem Xa(b g o:Nat):eL prog 244 (.dc b g o) (.sc (.int .i64 1))=some (.dc b g (o+3)):=by kernel_rfl
@[simp] theorem Wz(b g o:Nat):eL prog 244 (.dc b g o) (.sc (.int .i64 2))=some (.dc b g (o+6)):=by kernel_rfl
@[simp] theorem Zy:eB prog 247=some (false,1):=by kernel_rfl
@[simp] theorem R4:prog.underlying 258=some (.array 21 238):=by kernel_rfl
@[simp] theorem Zk:eB prog 262=some (false,1):=by kernel_rfl
@[simp] theorem YQ:jM prog 262=some [.sc .nilFunc]:=by kernel_rfl
@[simp] theorem Tf:eB prog 266=some (false,1):=by kernel_rfl
@[simp] theorem Ql:jM prog 266=some [.sc (.pointer none)]:=by kernel_rfl
@[simp] theorem O_:prog.underlying 266=some (.pointer 283):=by kernel_rfl
@[simp] theorem Zm(k:Nat)(x:Option Nat):lX prog .eql 266 (kG k x) (.sc (.pointer none))=some (.sc (.bool x.isNone)):=O6 O_
@[simp] theorem Z3(k:Nat)(x:Option Nat):lX prog .neq 266 (kG k x) (.sc (.pointer none))=some (.sc (.bool x.isSome)):=Pt O_
@[simp] theorem YG:ow prog 269=some [.sc (.pointer none),.sc (.int .i64 0)]:=by kernel_rfl
@[simp] theorem UC:dO prog 269 0=some (0,266):=by kernel_rfl
@[simp] theorem UY:fm prog 269 0=some (0,1):=by kernel_rfl
@[simp] theorem U1:dO prog 269 1=some (1,3):=by kernel_rfl
@[simp] theorem ZK:eB prog 277=some (false,1):=by kernel_rfl
@[simp] theorem Lg:nM prog 277=some (266,1):=by kernel_rfl
@[simp] theorem YP:ow prog 283=some [.sc (.int .i64 0),.sc (.int .i64 0),.sc (.int .i64 0),.slice .full [],.slice .full [],.sc (.int .i64 0),.sc (.int .i64 0),.sc (.bool false)]:=by kernel_rfl
@[simp] theorem So:dO prog 283 0=some (0,3):=by kernel_rfl
@[simp] theorem UN:fm prog 283 0=some (0,1):=by kernel_rfl
@[simp] theorem TO:dO prog 283 1=some (1,3):=by kernel_rfl
@[simp] theorem TD:fm prog 283 1=some (1,1):=by kernel_rfl
@[simp] theorem SN:dO prog 283 2=some (2,28):=by kernel_rfl
@[simp] theorem Uh:fm prog 283 2=some (2,2):=by kernel_rfl
@[simp] theorem UZ:dO prog 283 3=some (4,277):=by kernel_rfl
@[simp] theorem UW:fm prog 283 3=some (4,1):=by kernel_rfl
@[simp] theorem Tb:dO prog 283 4=some (5,3):=by kernel_rfl
@[simp] theorem Tn:fm prog 283 4=some (5,1):=by kernel_rfl
@[simp] theorem Sw:dO prog 283 5=some (6,3):=by kernel_rfl
@[simp] theorem TY:dO prog 283 6=some (7,4):=by kernel_rfl
@[simp] theorem Zs:eB prog 284=some (false,1):=by kernel_rfl
@[simp] theorem SY:prog.underlying 287=some (.array 14 3):=by kernel_rfl
@[simp] theorem ZG(tag:Tag)(l:List Int)(a:Int):mo prog 22 (.slice tag (List.map sI l)) (some (.sc (.int .i64 a))) none none=(xO l a (dm l)).map λr=>.slice .eh (List.map sI r):=Jj _ l Wt WB (λx=>by simp)
@[simp] theorem Ym(tag:Tag)(l:List Ty):mo prog 24 (.slice tag (List.map Ty.av l)) none (some (.sc (.int .i64 (dm l)))) (some (.sc (.int .i64 (dm l))))=some (.slice .full (List.map Ty.av l)):=yl _ l Xj Rm (λx=>by simp)
@[simp] theorem XK(tag:Tag)(l:List cH):mo prog 126 (.slice tag (List.map cH.av l)) none (some (.sc (.int .i64 (dm l)))) (some (.sc (.int .i64 (dm l))))=some (.slice .full (List.map cH.av l)):=yl _ l TM wc (λx=>by simp)
@[simp] theorem Xi(tag:Tag)(l:List cP):mo prog 127 (.slice tag (List.map cP.av l)) none (some (.sc (.int .i64 (dm l)))) (some (.sc (.int .i64 (dm l))))=some (.slice .full (List.map cP.av l)):=yl _ l UB O9 (λx=>by simp)
def dV.cs(x:dV):List AV:=x.av.cells
@[simp] theorem aa2(a:Int):eL prog 258 (.kN (.agg (List.flatMap (λx=>dV.cs x) mv))) (.sc (.int .i64 a))=(c_ mv a).map λx=>.kN x.av:=B9 R4 OM (λx=>rfl) (λx=>⟨_,dV.fw x⟩) (λx=>by simp) rfl
@[simp] theorem aa1(a:Int):eL prog 287 (.kN (.agg (List.map (λn=>AV.sc (Value.int .i64 n)) nK))) (.sc (.int .i64 a))=(c_ nK a).map λx=>.kN (.sc (.int .i64 x)):=DJ SY WB rfl
@[simp] theorem jB:prog.underlying 113=some (.map 3 172):=by kernel_rfl
def NN:Iy prog 172=some (.sc .nilFunc):=by kernel_rfl
def Jy:List Value:=[.int .i64 1,.int .i64 2,.int .i64 3,.int .i64 4,.int .i64 5,.int .i64 6,.int .i64 7,.int .i64 8,.int .i64 12,.int .i64 9,.int .i64 13,.int .i64 10,.int .i64 14,.int .i64 11,.int .i64 15,.int .i64 16,.int .i64 17,.int .i64 18,.int .i64 19,.int .i64 20]
def J7:List AV:=[.func (.func 139) [] [],.func (.func 140) [] [],.func (.func 141) [] [],.func (.func 142) [] [],.func (.func 142) [] [],.func (.func 143) [] [],.func (.func 144) [] [],.func (.func 145) [] [],.func (.func 145) [] [],.func (.func 146) [] [],.func (.func 146) [] [],.func (.func 147) [] [],.func (.func 147) [] [],.func (.func 148) [] [],.func (.func 148) [] [],.func (.func 149) [] [],.func (.func 149) [] [],.func (.func 150) [] [],.func (.func 151) [] [],.func (.func 152) [] []]
def G1:AV:=.sC Jy J7
def Hh(k:Int):AV:=match mapIdx Jy (.int .i64 k)with|some j=>J7.getD j .undef|none=>.sc .nilFunc
abbrev KC(H:cV)(o:Nat)(l:List Fm):Prop:=H[o]?=some [sL Fm.av l,AV.oa (o-1)]/\H[o-1]?=some [G1]
def Jr{H:cV}{o:Nat}{k:Int}(h:H[o]?=some [G1]):re prog H 113 (AV.oa o) (sI k) false=some (Hh k):=Ms jB tu NN h (by decide+kernel) (by decide+kernel)
def gS{k key:Int}{x:AV}(h:de k key=true)(a:Hh key=x):Hh k=x:=by rw[N1 h];exact a
def lM{T:dA}{g:Nat}{xs:List AV}{H H':cV}{r:AV}(h:dy prog T g xs H r H'):nj prog T (.func (.func g) [] []) xs H r H':=by
 unfold nj oF;simp only[mI,xm];exact h
abbrev nb(T:dA):Prop:=T 2=some (AV.agg (List.map (λn=>AV.sc (Value.int .i64 n)) nK))/\T 1=some (AV.agg (List.flatMap (λx=>dV.cs x) mv))/\T 0=some (AV.agg (List.map (λn=>AV.sc (Value.int .u8 n)) jZ))
def zf{S:Type}(T:dA)(g:Nat)(cap:List AV)(st:S->cV)(w:(S->Tm->Int->Option (Tm×S))):Prop:=
 ∀(X:cV) (s:S) (a:Tm) (b:Int) (c:Tm) (d:S),w s a b=some (c,d)->dy prog T g ([Tm.av a,sI b]++cap) (st s++X) (Tm.av c) (st d++X)
def zf.T5{S:Type}{T:dA}{g:Nat}{cap:List AV}{st:S->cV}{w:(S->Tm->Int->Option (Tm×S))}(h:zf T g cap st w){s:S}{a:Tm}{b:Int}{c:Tm}{d:S}(hw:w s a b=some (c,d)):dy prog T g ([Tm.av a,sI b]++cap) (st s) (Tm.av c) (st d):=by
 have:=h [] s a b c d hw
 rwa [xm,xm] at this
def qC{S:Type}(T:dA)(g:Nat)(cap:List AV)(st:S->cV)(w:(S->Int->Int->Option (S))):Prop:=
 ∀(X:cV) (s:S) (a:Int) (b:Int) (c:S),w s a b=some c->dy prog T g ([sI a,sI b]++cap) (st s++X) (AV.tuple []) (st c++X)
def qC.ext{S:Type}{T:dA}{g:Nat}{cap:List AV}{st:S->cV}{w:(S->Int->Int->Option (S))}(h:qC T g cap st w){Y:cV}:qC T g cap (λs=>st s++Y) w:=λX s a b c hw=>by
 have:=h (Y++X) s a b c hw
 rwa [<-so,<-so] at this
def qC.T5{S:Type}{T:dA}{g:Nat}{cap:List AV}{st:S->cV}{w:(S->Int->Int->Option (S))}(h:qC T g cap st w){s:S}{a:Int}{b:Int}{c:S}(hw:w s a b=some c):dy prog T g ([sI a,sI b]++cap) (st s) (AV.tuple []) (st c):=by
 have:=h [] s a b c hw
 rwa [xm,xm] at this
def zo{S:Type}(T:dA)(g:Nat)(cap:List AV)(st:S->cV)(w:(S->Tm->Int->Option (S))):Prop:=
 ∀(X:cV) (s:S) (a:Tm) (b:Int) (c:S),w s a b=some c->dy prog T g ([Tm.av a,sI b]++cap) (st s++X) (AV.tuple []) (st c++X)
def zo.T5{S:Type}{T:dA}{g:Nat}{cap:List AV}{st:S->cV}{w:(S->Tm->Int->Option (S))}(h:zo T g cap st w){s:S}{a:Tm}{b:Int}{c:S}(hw:w s a b=some c):dy prog T g ([Tm.av a,sI b]++cap) (st s) (AV.tuple []) (st c):=by
 have:=h [] s a b c hw
 rwa [xm,xm] at this
def qy{S:Type}(T:dA)(g:Nat)(cap:List AV)(st:S->cV)(w:(S->Int->Int->Option (Tm×S))):Prop:=
 ∀(X:cV) (s:S) (a:Int) (b:Int) (c:Tm) (d:S),w s a b=some (c,d)->dy prog T g ([sI a,sI b]++cap) (st s++X) (Tm.av c) (st d++X)
def qy.ext{S:Type}{T:dA}{g:Nat}{cap:List AV}{st:S->cV}{w:(S->Int->Int->Option (Tm×S))}(h:qy T g cap st w){Y:cV}:qy T g cap (λs=>st s++Y) w:=λX s a b c d hw=>by
 have:=h (Y++X) s a b c d hw
 rwa [<-so,<-so] at this
def qy.T5{S:Type}{T:dA}{g:Nat}{cap:List AV}{st:S->cV}{w:(S->Int->Int->Option (Tm×S))}(h:qy T g cap st w){s:S}{a:Int}{b:Int}{c:Tm}{d:S}(hw:w s a b=some (c,d)):dy prog T g ([sI a,sI b]++cap) (st s) (Tm.av c) (st d):=by
 have:=h [] s a b c d hw
 rwa [xm,xm] at this
end Go.Proofs.YtobcafblgapgfaaGreatDoor
set_option maxRecDepth 20000
set_option maxHeartbeats 4000000
namespace Go.Proofs.YtobcafblgapgfaaGreatDoor
open Go Go.ky Go.fg Tryz
def iO:C0 prog 48 gT Ty.av:=by
 intro T H r hm;rw[gT] at hm;have e:=trivial;refine wi abi func48 [] [] 999 ?_;cases hm;simp[e]
def gV:C1 prog 52 eN Tm.av sI:=by
 intro T H a0 r hm;rw[eN] at hm;have e:=trivial;refine wi abi func52 [] [] 999 ?_;cases hm;simp[e]
def Ef:∀(n:Nat),C1 prog 98 (f_ n) Ty.av Ty.av:=by
  intro n
  induction n with
  |zero=>
   skip
   all_goals(intro _ _;intros;rename_i hm;cases hm)
  |succ n l=>
 intro T H a0 r hm;rw[f_] at hm;have e:=trivial;refine wi abi func98 [] [] 999 ?_;simp[e];refine Wr e hm 999 (λk s2 f h=>∃(a:Tag) (b:Nat) (c:Nat),(h=H/\f.1 1=AV.dc 1 b 0/\f.1 2=AV.dc 2 c 0/\f.1 3=sT a Ty.av s2/\f.1 7=sL Ty.av a0.abe/\f.1 8=sI (dm a0.abe)/\f.1 9=sI k/\f.gen 1=b/\f.box 1=some [sI a0.abd,sL Ty.av a0.abe]/\f.gen 2=c/\f.box 2=some [sI 0,AV.slice .full []])/\Ow f [17] a s2) (by exact⟨.full,1,1,by simp[e],iS.full⟩) (λs2 g o p E m=>?_) (λk s s2 g o p n6 t E e m q i=>?_)
 ·have⟨a,b,c,E,d⟩:=E;have e:=Aj e E;dsimp only[cQ]at m;cases m;simp[e]
 have⟨a,b,c,E,d⟩:=E;have e:=Aj e E;have⟨j,e,m⟩:=c7 e m;simp[e];refine Cf (l e.2) ?_;have⟨e,m⟩:=Ck e m;simp[e];refine Ao (f:=Ty.av) s2 [j] d Ft e.2 ?_;simp[e];cases m;exact i _ _ _ ⟨(.loc 17 (g.ea 17+1)),b,c,by simp[e],(On 17)⟩ q
def hL{n:Nat}:C1 prog 98 (f_ n) Ty.av Ty.av:=(Ef n)
def Fa:∀(n:Nat),C1 prog 104 (gY n) Tm.av Tm.av:=by
  intro n
  induction n with
  |zero=>
   skip
   all_goals(intro _ _;intros;rename_i hm;cases hm)
  |succ n l=>
 intro T H a0 r hm;rw[gY] at hm;have e:=trivial;refine wi abi func104 [] [] 999 ?_;simp[e];refine Wr e hm 999 (λk s2 f h=>∃(a:Tag) (b:Nat) (c:Nat),(h=H/\f.1 1=AV.dc 1 b 0/\f.1 2=AV.dc 2 c 0/\f.1 3=sT a Tm.av s2/\f.1 7=sL Tm.av a0.abe/\f.1 8=sI (dm a0.abe)/\f.1 9=sI k/\f.gen 1=b/\f.box 1=some [sI a0.abd,sI a0.abg,sI a0.cD.abd,sL Ty.av a0.cD.abe,sL Tm.av a0.abe]/\f.gen 2=c/\f.box 2=some [sI 0,sI 0,sI 0,AV.slice .full [],AV.slice .full []])/\Ow f [17] a s2) (by exact⟨.full,1,1,by simp[e],iS.full⟩) (λs2 g o p E m=>?_) (λk t s2 g o p n6 u E e m q i=>?_)
 ·have⟨a,b,c,E,d⟩:=E;have e:=Aj e E;dsimp only[cQ]at m;have⟨s,e,m⟩:=c7 e m;simp[e];refine Cs (hL e.2) ?_;cases m;simp[e]
 have⟨a,b,c,E,d⟩:=E;have e:=Aj e E;have⟨j,e,m⟩:=c7 e m;simp[e];refine Cf (l e.2) ?_;have⟨e,m⟩:=Ck e m;simp[e];refine Ao (f:=Tm.av) s2 [j] d C7 e.2 ?_;simp[e];cases m;exact i _ _ _ ⟨(.loc 17 (g.ea 17+1)),b,c,by simp[e],(On 17)⟩ q
def k0{n:Nat}:C1 prog 104 (gY n) Tm.av Tm.av:=(Fa n)
def uK:C1 prog 53 oN Pf.av Tm.av:=by
 intro T H a0 r hm;rw[oN] at hm;have e:=trivial;refine wi abi func53 [] [] 999 ?_;have⟨a,e,m⟩:=c7 e hm;simp[e];refine Cf (k0 e.2) ?_;have e:=Aj e (show AV.agg [sI 18,sI 0,sI 0,AV.slice .eh [],AV.slice .eh [Tm.av a],AV.slice .eh [],AV.slice .eh []]=Pf.av (Pf.mk 18 0 (Ty.mk 0 []) [a] [] []) by rw[Pf.ey];rfl);have e:=Aj e (show AV.agg [sI 18,sI 0,sI 0,AV.slice .eh [],AV.slice .eh [Tm.av a],AV.slice .eh [],AV.slice .eh []]=Pf.av (Pf.mk 18 0 (Ty.mk 0 []) [a] [] []) by rw[Pf.ey];rfl);cases m;simp[e]
def EP:∀(n:Nat),C1 prog 87 (iZ n) Fm.av Fm.av:=by
  intro n
  induction n with
  |zero=>
   skip
   all_goals(intro _ _;intros;rename_i hm;cases hm)
  |succ n G=>
 intro T H a0 r hm;rw[iZ] at hm;have e:=trivial;refine wi abi func87 [] [] 999 ?_;have⟨y,e,m⟩:=c7 e hm;simp[e];refine Cs (hL e.2) ?_;simp[e];refine Wr e m 999 (λF t f h=>∃(c:Tag) (k:Nat) (i:Nat) (j:Nat),(h=H/\f.1 1=AV.dc 1 k 0/\f.1 2=AV.dc 2 i 0/\f.1 3=AV.dc 3 j 0/\f.1 15=sL Tm.av a0.cU/\f.1 16=sI (dm a0.cU)/\f.1 17=sI F/\f.gen 1=k/\f.box 1=some [sI a0.abd,sI a0.cD.abd,sL Ty.av a0.cD.abe,sL Tm.av a0.cU,sL Fm.av a0.abe]/\f.gen 2=i/\f.box 2=some [sI 0,sI 0,AV.slice .full [],AV.slice .full [],AV.slice .full []]/\f.gen 3=j/\f.box 3=some [sI a0.abd,sI y.abd,sL Ty.av y.abe,sT c Tm.av t,AV.slice .full []])/\Ow f [26] c t) (by exact⟨.full,1,1,1,by simp[e],iS.full⟩) (λt u I J E m=>?_) (λF N t u I J O P E e m z9 v=>?_);rotate_left
 ·have⟨c,k,i,j,E,o⟩:=E;have e:=Aj e E;have⟨z,e,m⟩:=c7 e m;simp[e];refine Cs (k0 e.2) ?_;have⟨e,m⟩:=Ck e m;simp[e];refine Ad (f:=Tm.av) t [z] o C7 e.2 ?_;simp[e];cases m;exact v _ _ _ ⟨(.loc 26 (u.ea 26+1)),k,i,j,by simp[e],(On 26)⟩ z9
 have⟨c,k,i,j,E,o⟩:=E;have e:=Aj e E;dsimp only[cQ]at m;simp[e];refine Wr e m 999 (λw p f h=>∃(a:Tag) (b:Tag) (d:Nat) (g:Nat),(h=H/\f.1 2=AV.dc 2 d 0/\f.1 3=AV.dc 3 g 0/\f.1 30=sL Fm.av a0.abe/\f.1 31=sI (dm a0.abe)/\f.1 32=sI w/\f.gen 2=d/\f.box 2=some [sI 0,sI 0,AV.slice .full [],AV.slice .full [],AV.slice .full []]/\f.gen 3=g/\f.box 3=some [sI a0.abd,sI y.abd,sL Ty.av y.abe,sT a Tm.av t,sT b Fm.av p])/\Ow f [26] a t/\Ow f [41] b p) (by exact⟨c,.full,i,j,by simp[e],o,iS.full⟩) (λp s A B E m=>?_) (λw K p s A B L M E e m C x=>?_)
 ·have⟨a,b,d,g,E,q,l⟩:=E;have e:=Aj e E;dsimp only[cQ]at m;cases m;simp[e]
 have⟨a,b,d,g,E,q,l⟩:=E;have e:=Aj e E;have⟨D,e,m⟩:=c7 e m;simp[e];refine Cs (G e.2) ?_;have⟨e,m⟩:=Ck e m;simp[e];refine Ad (f:=Fm.av) p [D] l OL e.2 ?_;simp[e];cases m;exact x _ _ _ ⟨a,(.loc 41 (s.ea 41+1)),d,g,by simp[e],(iS.other q l (by decide) (by decide)),(On 41)⟩ C
def nH{n:Nat}:C1 prog 87 (iZ n) Fm.av Fm.av:=(EP n)
def Fq:∀(n:Nat),C1 prog 75 (oT n) Pf.av Pf.av:=by
  intro n
  induction n with
  |zero=>
   skip
   all_goals(intro _ _;intros;rename_i hm;cases hm)
  |succ n Z=>
 intro T H a0 r hm;rw[oT] at hm;have e:=trivial;refine wi abi func75 [] [] 999 ?_;have⟨G,e,m⟩:=c7 e hm;simp[e];refine Cs (hL e.2) ?_;simp[e];refine Wr e m 999 (λY C f h=>∃(k:Tag) (q:Nat) (s:Nat) (t:Nat),(h=H/\f.1 1=AV.dc 1 q 0/\f.1 2=AV.dc 2 s 0/\f.1 3=AV.dc 3 t 0/\f.1 19=sL Tm.av a0.cU/\f.1 20=sI (dm a0.cU)/\f.1 21=sI Y/\f.gen 1=q/\f.box 1=some [sI a0.abd,sI a0.abg,sI a0.cD.abd,sL Ty.av a0.cD.abe,sL Tm.av a0.cU,sL Fm.av a0.ef,sL Pf.av a0.abe]/\f.gen 2=s/\f.box 2=some [sI 0,sI 0,sI 0,AV.slice .full [],AV.slice .full [],AV.slice .full [],AV.slice .full []]/\f.gen 3=t/\f.box 3=some [sI a0.abd,sI a0.abg,sI G.abd,sL Ty.av G.abe,sT k Tm.av C,AV.slice .full [],AV.slice .full []])/\Ow f [30] k C) (by exact⟨.full,1,1,1,by simp[e],iS.full⟩) (λC I h4 K5 E m=>?_) (λY x6 C I h4 K5 n7 c8 E e m z9 J=>?_);rotate_left
 ·have⟨k,q,s,t,E,y⟩:=E;have e:=Aj e E;have⟨O,e,m⟩:=c7 e m;simp[e];refine Cs (k0 e.2) ?_;have⟨e,m⟩:=Ck e m;simp[e];refine Ad (f:=Tm.av) C [O] y C7 e.2 ?_;simp[e];cases m;exact J _ _ _ ⟨(.loc 30 (I.ea 30+1)),q,s,t,by simp[e],(On 30)⟩ z9
 have⟨k,q,s,t,E,y⟩:=E;have e:=Aj e E;dsimp only[cQ]at m;simp[e];refine Wr e m 999 (λK w f h=>∃(a:Tag) (b:Tag) (l:Nat) (g:Nat) (i:Nat),(h=H/\f.1 1=AV.dc 1 l 0/\f.1 2=AV.dc 2 g 0/\f.1 3=AV.dc 3 i 0/\f.1 34=sL Fm.av a0.ef/\f.1 35=sI (dm a0.ef)/\f.1 36=sI K/\f.gen 1=l/\f.box 1=some [sI a0.abd,sI a0.abg,sI a0.cD.abd,sL Ty.av a0.cD.abe,sL Tm.av a0.cU,sL Fm.av a0.ef,sL Pf.av a0.abe]/\f.gen 2=g/\f.box 2=some [sI 0,sI 0,sI 0,AV.slice .full [],AV.slice .full [],AV.slice .full [],AV.slice .full []]/\f.gen 3=i/\f.box 3=some [sI a0.abd,sI a0.abg,sI G.abd,sL Ty.av G.abe,sT a Tm.av C,sT b Fm.av w,AV.slice .full []])/\Ow f [30] a C/\Ow f [45] b w) (by exact⟨k,.full,q,s,t,by simp[e],y,iS.full⟩) (λw D P Q E m=>?_) (λK aa w D P Q ab ad E e m R L=>?_);rotate_left
 ·have⟨a,b,l,g,i,E,x,u⟩:=E;have e:=Aj e E;have⟨S,e,m⟩:=c7 e m;simp[e];refine Cs (nH e.2) ?_;have⟨e,m⟩:=Ck e m;simp[e];refine Ad (f:=Fm.av) w [S] u OL e.2 ?_;simp[e];cases m;exact L _ _ _ ⟨a,(.loc 45 (D.ea 45+1)),l,g,i,by simp[e],(iS.other x u (by decide) (by decide)),(On 45)⟩ R
 have⟨a,b,l,g,i,E,x,u⟩:=E;have e:=Aj e E;dsimp only[cQ]at m;simp[e];refine Wr e m 999 (λM z f h=>∃(c:Tag) (d:Tag) (j:Tag) (o:Nat) (p:Nat),(h=H/\f.1 2=AV.dc 2 o 0/\f.1 3=AV.dc 3 p 0/\f.1 49=sL Pf.av a0.abe/\f.1 50=sI (dm a0.abe)/\f.1 51=sI M/\f.gen 2=o/\f.box 2=some [sI 0,sI 0,sI 0,AV.slice .full [],AV.slice .full [],AV.slice .full [],AV.slice .full []]/\f.gen 3=p/\f.box 3=some [sI a0.abd,sI a0.abg,sI G.abd,sL Ty.av G.abe,sT c Tm.av C,sT d Fm.av w,sT j Pf.av z])/\Ow f [30] c C/\Ow f [45] d w/\Ow f [60] j z) (by exact⟨a,b,.full,g,i,by simp[e],x,u,iS.full⟩) (λz F U V E m=>?_) (λM ae z F U V af ah E e m W N=>?_)
 ·have⟨c,d,j,o,p,E,A,B,v⟩:=E;have e:=Aj e E;dsimp only[cQ]at m;cases m;simp[e]
 have⟨c,d,j,o,p,E,A,B,v⟩:=E;have e:=Aj e E;have⟨X,e,m⟩:=c7 e m;simp[e];refine Cs (Z e.2) ?_;have⟨e,m⟩:=Ck e m;simp[e];refine Ad (f:=Pf.av) z [X] v Xo e.2 ?_;simp[e];cases m;exact N _ _ _ ⟨c,d,(.loc 60 (F.ea 60+1)),o,p,by simp[e],(iS.other A v (by decide) (by decide)),(iS.other B v (by decide) (by decide)),(On 60)⟩ W
def Gh{n:Nat}:C1 prog 75 (oT n) Pf.av Pf.av:=(Fq n)
def zZ:C2 prog 56 sG Pf.av sI (sL Pf.av):=by
 intro T H a0 a1 r hm;rw[sG] at hm;have e:=trivial;refine wi abi func56 [] [] 999 ?_;simp[e];refine Wr e hm 999 (λk s2 f h=>∃(a:Tag) (b:Nat) (c:Nat),(h=H/\f.1 4=AV.dc 4 b 0/\f.1 5=AV.dc 5 c 0/\f.1 10=sL Pf.av a1/\f.1 11=sI (dm a1)/\f.1 12=sI k/\f.gen 4=b/\f.box 4=some [sI 0,sI 0,sI 0,AV.slice .full [],AV.slice .full [],AV.slice .full [],AV.slice .full []]/\f.gen 5=c/\f.box 5=some [sI a0,sI 0,sI 0,AV.slice .full [],AV.slice .full [],AV.slice .full [],sT a Pf.av s2])/\Ow f [21] a s2) (by exact⟨.full,1,1,by simp[e],iS.full⟩) (λs2 g l n E m=>?_) (λk p s2 g l n n6 q E e m o i=>?_)
 ·have⟨a,b,c,E,d⟩:=E;have e:=Aj e E;dsimp only[cQ]at m;cases m;simp[e]
 have⟨a,b,c,E,d⟩:=E;have e:=Aj e E;have⟨j,e,m⟩:=c7 e m;simp[e];refine Cs (Gh e.2) ?_;have⟨e,m⟩:=Ck e m;simp[e];refine Ad (f:=Pf.av) s2 [j] d Xo e.2 ?_;simp[e];cases m;exact i _ _ _ ⟨(.loc 21 (g.ea 21+1)),b,c,by simp[e],(On 21)⟩ o
def vC:C3 prog 34 qj Pf.av sI Ty.av Pf.av:=by
 intro T H a0 a1 a2 r hm;rw[qj] at hm;have e:=trivial;refine wi abi func34 [] [] 999 ?_;have⟨a,e,m⟩:=c7 e hm;simp[e];refine Cf (zZ e.2) ?_;have⟨b,e,m⟩:=c7 e m;simp[e];refine Cf (hL e.2) ?_;cases m;simp[e]
def yQ:∀(n:Nat),C1 prog 236 (jP n) (t2 sI sB) Ty.av:=by
  intro n
  induction n with
  |zero=>
    skip
    all_goals(intro _ _;intros;rename_i hm;cases hm)
  |succ n u=>
 intro T H a0 r hm;rw[jP] at hm;have e:=trivial;refine wi abi func236 [] [] 4 ?_;simp[e];refine Wj hm 3 999 (λp f h=>∃(v2:Int) (c:Nat),(h=H/\f.1 1=AV.dc 1 c 0/\f.1 4=sI v2/\f.gen 1=c/\f.box 1=some [sI a0.abd,sL Ty.av a0.abe])/\p v2=some r) (λp J i m=>?_) ?_;rotate_left
 ·rintro v K ⟨v2,c,E,m⟩;have e:=Aj e E;rcases Io e m with⟨e,m⟩|⟨e,m⟩
  ·cases m;simp[e]
  simp[e];refine Wr e m 999 (λq l f h=>h=H/\f.1 5=sI l/\f.1 25=sL Ty.av a0.abe/\f.1 26=sI (dm a0.abe)/\f.1 27=sI q) (by simp[e]) (λl o w x E m=>?_) (λq y l o w x z A E e m j k=>?_)
  ·have e:=Aj e E;dsimp only[cQ]at m;cases m;simp[e]
  have e:=Aj e E;have⟨B,C,e,m⟩:=gb e m;simp[e];refine Cf (u e.2) ?_;rcases Io e m with⟨e,m⟩|⟨e,m⟩;rotate_left
  ·cases m;cases j;simp[e]
  simp[e];cases m;exact k _ _ _ (by simp[e]) j
 simp[e];refine wj 999 0 (λf h=>∃(a:Nat),h=H/\f.1 1=AV.dc 1 a 0/\f.1 4=sI 0/\f.1 11=sI a0.abd/\f.1 12=sB (ew (de a0.abd 1) true (ew (de a0.abd 2) true (de a0.abd 5)))/\f.gen 1=a/\f.box 1=some [sI a0.abd,sL Ty.av a0.abe]) (λD d=>?_) ?_
 ·rcases Pb (de a0.abd 1) e with e|e
  ·simp[e];exact d _ _ ⟨1,by simp[e]⟩
  rcases Pb (de a0.abd 2) e with e|e
  ·simp[e];exact d _ _ ⟨1,by simp[e]⟩
  simp[e];exact d _ _ ⟨1,by simp[e]⟩
 rintro s F ⟨a,E⟩;have e:=Aj e E;rcases Io e m with⟨e,m⟩|⟨e,m⟩
 ·apply wg 999;simp[e];exact i _ _ ⟨0,a,by simp[e],m⟩
 apply wg 1;simp[e];refine wj 999 999 (λf h=>∃(b:Nat),h=H/\f.1 1=AV.dc 1 b 0/\f.1 16=sB (ew (de a0.abd 3) true (de a0.abd 4))/\f.gen 1=b/\f.box 1=some [sI a0.abd,sL Ty.av a0.abe]) (λG g=>?_) ?_
 ·rcases Pb (de a0.abd 3) e with e|e
  ·simp[e];exact g _ _ ⟨a,by simp[e]⟩
  simp[e];exact g _ _ ⟨a,by simp[e]⟩
 rintro t I ⟨b,E⟩;have e:=Aj e E;rcases Io e m with⟨e,m⟩|⟨e,m⟩;rotate_left
 ·cases m;simp[e]
 simp[e];exact i _ _ ⟨2,b,by simp[e],m⟩
def Al{n:Nat}:C1 prog 236 (jP n) (t2 sI sB) Ty.av:=(yQ n)
def lS:C1 prog 186 gX (t2 sI sI) Ty.av:=by
 intro T H a0 r hm;rw[gX] at hm;have e:=trivial;refine wi abi func186 [] [] 999 ?_;have⟨a,b,e,m⟩:=gb e hm;simp[e];refine Cf (Al e.2) ?_;rcases Io e m with⟨e,m⟩|⟨e,m⟩;rotate_left
 ·cases m;simp[e]
 rcases Io e m with⟨e,m⟩|⟨e,m⟩
 ·cases m;simp[e]
 cases m;simp[e]
def xH:C1 prog 136 kq sI Ty.av:=by
 intro T H a0 r hm;rw[kq] at hm;have e:=trivial;refine wi abi func136 [] [] 999 ?_;have⟨a,b,e,m⟩:=gb e hm;simp[e];refine Cf (lS e.2) ?_;cases m;simp[e]
def vh:C1 prog 77 lC sI (sL Ty.av):=by
 intro T H a0 r hm;rw[lC] at hm;have e:=trivial;refine wi abi func77 [] [] 999 ?_;rcases Io e hm with⟨e,m⟩|⟨e,m⟩
 ·cases m;simp[e]
 simp[e];refine Wr e m 999 (λc s2 f h=>h=H/\f.1 9=sL Ty.av a0/\f.1 10=sI (dm a0)/\f.1 11=sI c) (by simp[e]) (λs2 a g i E m=>?_) (λc k s2 a g i n6 l E e m d b=>?_)
 ·have e:=Aj e E;dsimp only[cQ]at m;cases m;simp[e]
 have e:=Aj e E;have⟨j,e,m⟩:=c7 e m;simp[e];refine Cf (xH e.2) ?_;rcases Io e m with⟨e,m⟩|⟨e,m⟩
 ·cases m;cases d;simp[e]
 simp[e];cases m;exact b _ _ _ (by simp[e]) d
def tC:C1 prog 238 l7 sB Ty.av:=by
 intro T H a0 r hm;rw[l7] at hm;have e:=trivial;refine wi abi func238 [] [] 2 ?_;simp[e];refine wj 999 999 (λf h=>h=H/\f.1 2=sB (ew (de a0.abd 0) (de (dm a0.abe) 0) false)) (λc a=>?_) ?_;rotate_left
 ·rintro b d E;have e:=Aj e E;cases hm;simp[e]
 rcases Pb (de a0.abd 0) e with e|e
 ·simp[e];exact a _ _ (by simp[e])
 simp[e];exact a _ _ (by simp[e])
def Fj:C1 prog 269 oY sB Fm.av:=by
 intro T H a0 r hm;rw[oY] at hm;have e:=trivial;refine wi abi func269 [] [] 4 ?_;simp[e];refine Wj hm 5 0 (λn f h=>∃(v2:Int) (v3:Int) (v4:Bool) (c:Nat),(h=H/\f.1 1=AV.dc 1 c 0/\f.1 3=sI v2/\f.1 4=sI v3/\f.1 5=sB v4/\f.gen 1=c/\f.box 1=some [sI a0.abd,sI a0.cD.abd,sL Ty.av a0.cD.abe,sL Tm.av a0.cU,sL Fm.av a0.abe])/\n v2 v3 v4=some r) (λn G l m=>?_) ?_;rotate_left
 ·rintro u I ⟨v2,v3,v4,c,E,m⟩;have e:=Aj e E;refine Wj m 999 0 (λo f h=>∃(d:Nat),(h=H/\f.1 1=AV.dc 1 d 0/\f.1 3=sI v2/\f.1 4=sI v3/\f.gen 1=d/\f.box 1=some [sI a0.abd,sI a0.cD.abd,sL Ty.av a0.cD.abe,sL Tm.av a0.cU,sL Fm.av a0.abe])/\o=some r) (λo J i m=>?_) ?_;rotate_left
  ·rintro p v ⟨d,E,m⟩;have e:=Aj e E;refine wj 999 999 (λf h=>h=H/\f.1 2=sB (ew (de (dm a0.cU) v2) (de (dm a0.abe) v3) false)) (λw j=>?_) ?_;rotate_left
   ·rintro q x E;have e:=Aj e E;cases m;simp[e]
   rcases Pb (de (dm a0.cU) v2) e with e|e
   ·simp[e];exact j _ _ (by simp[e])
   simp[e];exact j _ _ (by simp[e])
  rcases Io e m with⟨e,m⟩|⟨e,m⟩
  ·have⟨y,z,e,m⟩:=gb e m;simp[e];refine Cf (lS e.2) ?_;rcases Io e m with⟨e,m⟩|⟨e,m⟩
   ·cases m;simp[e]
   simp[e];exact i _ _ ⟨c,by simp[e],m⟩
  have⟨A,e,m⟩:=c7 e m;simp[e];refine Cf (tC e.2) ?_;rcases Io e m with⟨e,m⟩|⟨e,m⟩;rotate_left
  ·cases m;simp[e]
  simp[e];exact i _ _ ⟨c,by simp[e],m⟩
 simp[e];rcases Io e m with⟨e,m⟩|⟨e,m⟩
 ·apply wg 999;simp[e];exact l _ _ ⟨2,0,false,1,by simp[e],m⟩
 apply wg 1;simp[e];refine wj 999 0 (λf h=>∃(a:Nat),h=H/\f.1 1=AV.dc 1 a 0/\f.1 3=sI 0/\f.1 5=sB false/\f.1 9=sI a0.abd/\f.1 12=sB (ew (de a0.abd 2) true (de a0.abd 3))/\f.gen 1=a/\f.box 1=some [sI a0.abd,sI a0.cD.abd,sL Ty.av a0.cD.abe,sL Tm.av a0.cU,sL Fm.av a0.abe]) (λB k=>?_) ?_
 ·rcases Pb (de a0.abd 2) e with e|e
  ·simp[e];exact k _ _ ⟨1,by simp[e]⟩
  simp[e];exact k _ _ ⟨1,by simp[e]⟩
 rintro s C ⟨a,E⟩;have e:=Aj e E;rcases Io e m with⟨e,m⟩|⟨e,m⟩
 ·apply wg 999;simp[e];exact l _ _ ⟨0,2,false,a,by simp[e],m⟩
 apply wg 1;simp[e];refine wj 999 999 (λf h=>∃(b:Nat),h=H/\f.1 1=AV.dc 1 b 0/\f.1 3=sI 0/\f.1 15=sB (ew (de a0.abd 4) true (ew (de a0.abd 5) true (ew (de a0.abd 6) true (de a0.abd 7))))/\f.gen 1=b/\f.box 1=some [sI a0.abd,sI a0.cD.abd,sL Ty.av a0.cD.abe,sL Tm.av a0.cU,sL Fm.av a0.abe]) (λD g=>?_) ?_;rotate_left
 ·rintro t F ⟨b,E⟩;have e:=Aj e E;rcases Io e m with⟨e,m⟩|⟨e,m⟩;rotate_left
  ·cases m;simp[e]
  simp[e];exact l _ _ ⟨0,1,true,b,by simp[e],m⟩
 rcases Pb (de a0.abd 4) e with e|e
 ·simp[e];exact g _ _ ⟨a,by simp[e]⟩
 rcases Pb (de a0.abd 5) e with e|e
 ·simp[e];exact g _ _ ⟨a,by simp[e]⟩
 rcases Pb (de a0.abd 6) e with e|e
 ·simp[e];exact g _ _ ⟨a,by simp[e]⟩
 simp[e];exact g _ _ ⟨a,by simp[e]⟩
def Hz(T:dA)(d:nb T){H:cV}{a0:Int}{b:Int}{c:Bool}(hm:rZ a0=some (b,c)):dy prog T 294 [sI a0] H (AV.tuple [sI b,sB c]) H:=by
 rw[rZ] at hm;have e:=d;refine wi abi func294 [] [] 3 ?_;simp[e];refine wj 999 999 (λf h=>h=H/\f.1 0=sI a0/\f.1 9=sB (ew (rv a0 1) true (qT a0 14))) (λi a=>?_) ?_
 ·rcases Pb (rv a0 1) e with e|e
  ·simp[e];exact a _ _ (by simp[e])
  simp[e];exact a _ _ (by simp[e])
 rintro g j E;have e:=Aj e E;rcases Io e hm with⟨e,m⟩|⟨e,m⟩
 ·cases m;simp[e]
 have⟨k,e,m⟩:=c7 e m;cases m;simp[e]
def Gz:C1 prog 295 sl sB sI:=by
 intro T H a0 r hm;rw[sl] at hm;have e:=trivial;refine wi abi func295 [] [] 2 ?_;simp[e];refine wj 999 999 (λf h=>h=H/\f.1 2=sB (ew (de a0 2) true (ew (de a0 6) true (de a0 9)))) (λc a=>?_) ?_;rotate_left
 ·rintro b d E;have e:=Aj e E;cases hm;simp[e]
 rcases Pb (de a0 2) e with e|e
 ·simp[e];exact a _ _ (by simp[e])
 rcases Pb (de a0 6) e with e|e
 ·simp[e];exact a _ _ (by simp[e])
 simp[e];exact a _ _ (by simp[e])
def yD(T:dA)(r:nb T):∀(n:Nat),(∀{H:cV} {a0:Tm} {l:Int} {o:Bool} (hm:ie n a0=some (l,o)),dy prog T 270 [Tm.av a0] H (AV.tuple [sI l,sB o]) H):=by
  intro n
  induction n with
  |zero=>
    skip
    all_goals(intro _ _;intros;rename_i hm;cases hm)
  |succ n w=>
 intro H a0 l o hm;rw[ie] at hm;have e:=r;refine wi abi func270 [] [] 5 ?_;have⟨s,t,e,m⟩:=gb e hm;simp[e];refine Cf (Hz T r e.2) ?_;simp[e];refine wj 999 0 (λf h=>∃(a:Nat),h=H/\f.1 1=AV.dc 1 a 0/\f.1 42=sB (ew t (ew (dr (dm a0.abe) s) true (ew (rv a0.abg 0) true (ew (dr a0.abg 0) (dr a0.abd 1) false))) true)/\f.gen 1=a/\f.box 1=some [sI a0.abd,sI a0.abg,sI a0.cD.abd,sL Ty.av a0.cD.abe,sL Tm.av a0.abe]) (λJ c=>?_) ?_
 ·rcases Pb t e with e|e;rotate_left
  ·simp[e];exact c _ _ ⟨1,by simp[e]⟩
  rcases Pb (dr (dm a0.abe) s) e with e|e
  ·simp[e];exact c _ _ ⟨1,by simp[e]⟩
  rcases Pb (rv a0.abg 0) e with e|e
  ·simp[e];exact c _ _ ⟨1,by simp[e]⟩
  rcases Pb (dr a0.abg 0) e with e|e
  ·simp[e];exact c _ _ ⟨1,by simp[e]⟩
  simp[e];exact c _ _ ⟨1,by simp[e]⟩
 rintro x K ⟨a,E⟩;have e:=Aj e E;rcases Io e m with⟨e,m⟩|⟨e,m⟩
 ·apply wg 999;cases m;simp[e]
 apply wg 2;simp[e];refine Wj m 999 999 (λu f h=>∃(b:Nat),(h=H/\f.1 1=AV.dc 1 b 0/\f.gen 1=b/\f.box 1=some [sI a0.abd,sI a0.abg,sI a0.cD.abd,sL Ty.av a0.cD.abe,sL Tm.av a0.abe])/\u=some (l,o)) (λu L g m=>?_) ?_
 ·have⟨M,e,m⟩:=c7 e m;simp[e];refine Cf (Gz e.2) ?_;rcases Io e m with⟨e,m⟩|⟨e,m⟩
  ·have⟨y,z,e,m⟩:=gb e m;simp[e];refine Cf (lS e.2) ?_;rcases Io e m with⟨e,m⟩|⟨e,m⟩
   ·cases m;simp[e]
   simp[e];exact g _ _ ⟨a,by simp[e],m⟩
  have⟨A,e,m⟩:=c7 e m;simp[e];refine Cf (tC e.2) ?_;rcases Io e m with⟨e,m⟩|⟨e,m⟩;rotate_left
  ·cases m;simp[e]
  simp[e];exact g _ _ ⟨a,by simp[e],m⟩
 rintro v B ⟨b,E,m⟩;have e:=Aj e E;simp[e];refine Wr e m 999 (λi d f h=>h=H/\f.1 8=sI d/\f.1 59=sL Tm.av a0.abe/\f.1 60=sI (dm a0.abe)/\f.1 61=sI i) (by simp[e]) (λd j p q E m=>?_) (λi C d j p q D F E e m z21 k=>?_)
 ·have e:=Aj e E;dsimp only[cQ]at m;cases m;simp[e]
 have e:=Aj e E;have⟨G,I,e,m⟩:=gb e m;simp[e];refine Cf (w e.2) ?_;rcases Io e m with⟨e,m⟩|⟨e,m⟩;rotate_left
 ·cases m;cases z21;simp[e]
 simp[e];cases m;exact k _ _ _ (by simp[e]) z21
def uD(T:dA)(c:nb T){H:cV}{a0:Tm}{a:Int}{b:Bool}{n:Nat}(hm:ie n a0=some (a,b)):dy prog T 270 [Tm.av a0] H (AV.tuple [sI a,sB b]) H:=(yD T c n) hm
def v_(T:dA)(r:nb T):∀(n:Nat),(∀{H:cV} {a0:Fm} {j:Int} {k:Bool} (hm:hX n a0=some (j,k)),dy prog T 235 [Fm.av a0] H (AV.tuple [sI j,sB k]) H):=by
  intro n
  induction n with
  |zero=>
    skip
    all_goals(intro _ _;intros;rename_i hm;cases hm)
  |succ n t=>
 intro H a0 j k hm;rw[hX] at hm;have e:=r;refine wi abi func235 [] [] 999 ?_;have⟨D,e,m⟩:=c7 e hm;simp[e];refine Cf (Fj e.2) ?_;rcases Io e m with⟨e,m⟩|⟨e,m⟩;rotate_left
 ·cases m;simp[e]
 simp[e];refine Wr e m 999 (λs l f h=>∃(a:Nat),h=H/\f.1 1=AV.dc 1 a 0/\f.1 4=sI l/\f.1 17=sL Tm.av a0.cU/\f.1 18=sI (dm a0.cU)/\f.1 19=sI s/\f.gen 1=a/\f.box 1=some [sI a0.abd,sI a0.cD.abd,sL Ty.av a0.cD.abe,sL Tm.av a0.cU,sL Fm.av a0.abe]) ⟨1,by simp[e]⟩ (λl o u v E m=>?_) (λs F l o u v G I E e m z9 c=>?_);rotate_left
 ·have⟨a,E⟩:=E;have e:=Aj e E;have⟨w,x,e,m⟩:=gb e m;simp[e];refine Cf (uD T r e.2) ?_;rcases Io e m with⟨e,m⟩|⟨e,m⟩;rotate_left
  ·cases m;cases z9;simp[e]
  simp[e];cases m;exact c _ _ _ ⟨a,by simp[e]⟩ z9
 have⟨a,E⟩:=E;have e:=Aj e E;dsimp only[cQ]at m;simp[e];refine Wr e m 999 (λd b f h=>h=H/\f.1 4=sI b/\f.1 35=sL Fm.av a0.abe/\f.1 36=sI (dm a0.abe)/\f.1 37=sI d) (by simp[e]) (λb g p q E m=>?_) (λd y b g p q z A E e m z20 i=>?_)
 ·have e:=Aj e E;dsimp only[cQ]at m;cases m;simp[e]
 have e:=Aj e E;have⟨B,C,e,m⟩:=gb e m;simp[e];refine Cf (t e.2) ?_;rcases Io e m with⟨e,m⟩|⟨e,m⟩;rotate_left
 ·cases m;cases z20;simp[e]
 simp[e];cases m;exact i _ _ _ (by simp[e]) z20
def xq(T:dA)(c:nb T){H:cV}{a0:Fm}{a:Int}{b:Bool}{n:Nat}(hm:hX n a0=some (a,b)):dy prog T 235 [Fm.av a0] H (AV.tuple [sI a,sB b]) H:=(v_ T c n) hm
def od(T:dA)(a:nb T){H:cV}{a0:Fm}{b:Int}{c:Int}(hm:gO a0=some (b,c)):dy prog T 182 [Fm.av a0] H (AV.tuple [sI b,sI c]) H:=by
 rw[gO] at hm;have e:=a;refine wi abi func182 [] [] 999 ?_;have⟨d,f,e,m⟩:=gb e hm;simp[e];refine Cf (xq T a e.2) ?_;rcases Io e m with⟨e,m⟩|⟨e,m⟩;rotate_left
 ·cases m;simp[e]
 rcases Io e m with⟨e,m⟩|⟨e,m⟩
 ·cases m;simp[e]
 cases m;simp[e]
def mC(T:dA)(a:nb T){H:cV}{a0:Fm}{b:Int}(hm:iT a0=some b):dy prog T 133 [Fm.av a0] H (sI b) H:=by
 rw[iT] at hm;have e:=a;refine wi abi func133 [] [] 999 ?_;have⟨c,d,e,m⟩:=gb e hm;simp[e];refine Cf (od T a e.2) ?_;cases m;simp[e]
def pe:C1 prog 183 kT cH.av Ty.av:=by
 intro T H a0 r hm;rw[kT] at hm;have e:=trivial;refine wi abi func183 [] [] 999 ?_;have⟨a,b,e,m⟩:=gb e hm;simp[e];refine Cf (lS e.2) ?_;cases m;simp[e]
def tg:C1 prog 134 lZ (sL cH.av) (sL Ty.av):=by
 intro T H a0 r hm;rw[lZ] at hm;have e:=trivial;refine wi abi func134 [] [] 999 ?_;simp[e];refine Wr e hm 999 (λi s2 f h=>∃(a:Tag),(h=H/\f.1 3=sT a cH.av s2/\f.1 6=sL Ty.av a0/\f.1 7=sI (dm a0)/\f.1 8=sI i)/\Ow f [16] a s2) (by exact⟨.full,by simp[e],iS.full⟩) (λs2 c j k E m=>?_) (λi n s2 c j k n6 o E e m l d=>?_)
 ·have⟨a,E,b⟩:=E;have e:=Aj e E;dsimp only[cQ]at m;cases m;simp[e]
 have⟨a,E,b⟩:=E;have e:=Aj e E;have⟨g,e,m⟩:=c7 e m;simp[e];refine Cf (pe e.2) ?_;have⟨e,m⟩:=Ck e m;simp[e];refine Ao (f:=cH.av) s2 [g] b N_ e.2 ?_;simp[e];cases m;exact d _ _ _ ⟨(.loc 16 (c.ea 16+1)),by simp[e],(On 16)⟩ l
def kK:C2 prog 184 eG (sL cH.av) (sL cH.av) (sL Ty.av):=by
 intro T H a0 a1 r hm;rw[eG] at hm;have e:=trivial;refine wi abi func184 [] [] 999 ?_;have⟨a,e,m⟩:=c7 e hm;simp[e];refine Cs (tg e.2) ?_;have⟨e,m⟩:=Ck e m;simp[e];refine Ad (f:=cH.av) a0 a (iS.full (D:=[])) N_ e.2 ?_;cases m;simp[e]
def xt:C3 prog 241 o8 (t2 cH.av sI) sI cH.av cH.av:=by
 intro T H a0 a1 a2 r hm;rw[o8] at hm;have e:=trivial;refine wi abi func241 [] [] 999 ?_;rcases Io e hm with⟨e,m⟩|⟨e,m⟩
 ·cases m;simp[e]
 have e:=Aj e (show AV.agg [sI a0,AV.slice .eh [Ty.av a1.cD,Ty.av a2.cD],sI (dB .i64 (dB .i64 1 a1.abf) a2.abf)]=cH.av (cH.mk (Ty.mk a0 [a1.cD,a2.cD]) (dB .i64 (dB .i64 1 a1.abf) a2.abf)) by rw[cH.ey];rfl);have e:=Aj e (show AV.agg [sI a0,AV.slice .eh [Ty.av a1.cD,Ty.av a2.cD],sI (dB .i64 (dB .i64 1 a1.abf) a2.abf)]=cH.av (cH.mk (Ty.mk a0 [a1.cD,a2.cD]) (dB .i64 (dB .i64 1 a1.abf) a2.abf)) by rw[cH.ey];rfl);cases m;simp[e]
def Dx:C1 prog 271 im (sL sI) sI:=by
 intro T H a0 r hm;rw[im] at hm;have e:=trivial;refine wi abi func271 [] [] 999 ?_;rcases Io e hm with⟨e,m⟩|⟨e,m⟩
 ·cases m;simp[e]
 rcases Io e m with⟨e,m⟩|⟨e,m⟩
 ·cases m;simp[e]
 rcases Io e m with⟨e,m⟩|⟨e,m⟩
 ·cases m;simp[e]
 rcases Io e m with⟨e,m⟩|⟨e,m⟩
 ·cases m;simp[e]
 rcases Io e m with⟨e,m⟩|⟨e,m⟩
 ·cases m;simp[e]
 cases m;simp[e]
def iY:C2 prog 252 hI sB cH.av sI:=by
 intro T H a0 a1 r hm;rw[hI] at hm;have e:=trivial;refine wi abi func252 [] [] 999 ?_;cases hm;simp[e]
def lJ:C2 prog 272 hV cH.av cH.av sI:=by
 intro T H a0 a1 r hm;rw[hV] at hm;have e:=trivial;refine wi abi func272 [] [] 999 ?_;have⟨a,e,m⟩:=c7 e hm;have⟨b,e,m⟩:=c7 e m;simp[e];refine Cf (pe e.2) ?_;cases m;simp[e]
def zT:∀(n:Nat),C2 prog 230 (eU n) sB Ty.av Ty.av:=by
  intro n
  induction n with
  |zero=>
    skip
    all_goals(intro _ _;intros;rename_i hm;cases hm)
  |succ n o=>
 intro T H a0 a1 r hm;rw[eU] at hm;have e:=trivial;refine wi abi func230 [] [] 3 ?_;simp[e];refine wj 999 999 (λf h=>∃(c:Nat) (b:Nat),h=H/\f.1 2=AV.dc 2 c 0/\f.1 3=AV.dc 3 b 0/\f.1 20=sB (ew (dr a0.abd a1.abd) true (dr (dm a0.abe) (dm a1.abe)))/\f.gen 2=c/\f.box 2=some [sI a0.abd,sL Ty.av a0.abe]/\f.gen 3=b/\f.box 3=some [sI a1.abd,sL Ty.av a1.abe]) (λw d=>?_) ?_
 ·rcases Pb (dr a0.abd a1.abd) e with e|e
  ·simp[e];exact d _ _ ⟨1,1,by simp[e]⟩
  simp[e];exact d _ _ ⟨1,1,by simp[e]⟩
 rintro p x ⟨c,b,E⟩;have e:=Aj e E;rcases Io e hm with⟨e,m⟩|⟨e,m⟩
 ·cases m;simp[e]
 simp[e];refine Wr e m 999 (λk l f h=>∃(a:Nat),h=H/\f.1 3=AV.dc 3 a 0/\f.1 22=sL Ty.av a0.abe/\f.1 23=sI (dm a0.abe)/\f.1 24=sI k/\f.gen 3=a/\f.box 3=some [sI a1.abd,sL Ty.av a1.abe]) ⟨b,by simp[e]⟩ (λl j q s E m=>?_) (λk y l j q s z t E e m g i=>?_)
 ·have⟨a,E⟩:=E;have e:=Aj e E;dsimp only[cQ]at m;cases m;simp[e]
 have⟨a,E⟩:=E;have e:=Aj e E;have⟨u,e,m⟩:=c7 e m;have⟨v,e,m⟩:=c7 e m;simp[e];refine Cs (o e.2) ?_;rcases Io e m with⟨e,m⟩|⟨e,m⟩;rotate_left
 ·cases m;cases g;simp[e]
 simp[e];cases m;exact i _ _ _ ⟨a,by simp[e]⟩ g
def mD{n:Nat}:C2 prog 230 (eU n) sB Ty.av Ty.av:=(zT n)
def og:C2 prog 245 je sB cH.av cH.av:=by
 intro T H a0 a1 r hm;rw[je] at hm;have e:=trivial;refine wi abi func245 [] [] 2 ?_;simp[e];refine Wj hm 999 999 (λb f h=>∃(v2:Bool),(h=H/\f.1 4=sB v2)/\b v2=some r) (λb g a m=>?_) ?_;rotate_left
 ·rintro c i ⟨v2,E,m⟩;have e:=Aj e E;cases m;simp[e]
 rcases Io e m with⟨e,m⟩|⟨e,m⟩;rotate_left
 ·simp[e];exact a _ _ ⟨false,by simp[e],m⟩
 have⟨d,e,m⟩:=c7 e m;simp[e];refine Cf (mD e.2) ?_;simp[e];exact a _ _ ⟨d,by simp[e],m⟩
def kB:C0 prog 208 la Ty.av:=by
 intro T H r hm;rw[la] at hm;have e:=trivial;refine wi abi func208 [] [] 999 ?_;cases hm;simp[e]
def A1:C0 prog 251 ux Ty.av:=by
 intro T H r hm;rw[ux] at hm;have e:=trivial;refine wi abi func251 [] [] 999 ?_;cases hm;simp[e]
def xW:C2 prog 209 my Ty.av Ty.av (sL Ty.av):=by
 intro T H a0 a1 r hm;rw[my] at hm;have e:=trivial;refine wi abi func209 [] [] 999 ?_;simp[e];refine Wn hm 999 (λs1 f h=>∃(c:Tag) (a:Nat) (b:Nat),h=H/\f.1 1=sL Ty.av a1/\f.1 2=AV.dc 2 a 0/\f.1 4=AV.dc 4 b 0/\f.1 5=sI s1.1/\f.gen 2=a/\f.box 2=some [sI s1.2.1,sT c Ty.av s1.2.2]/\f.gen 4=b/\f.box 4=some [sI 0,AV.slice .full []]) ⟨.eh,1,1,by simp[e]⟩ (λs1 fr2 j k n4 c5 E m g d=>?_);have⟨l,v9,v10⟩:=s1;have⟨c,a,b,E⟩:=E;have e:=Aj e E;dsimp only[tj]at m;rcases Io e m with⟨e,m⟩|⟨e,m⟩;rotate_left
 ·cases m;have m:=Qb g;dsimp only[tj]at m;cases m;simp[e]
 have⟨i,e,m⟩:=c7 e m;simp[e];cases m;exact d _ _ _ ⟨.full,a,b,by simp[e]⟩ g
def Ed:C1 prog 273 m8 Ty.av Tm.av:=by
 intro T H a0 r hm;rw[m8] at hm;have e:=trivial;refine wi abi func273 [] [] 999 ?_;rcases Io e hm with⟨e,m⟩|⟨e,m⟩;rotate_left
 ·have⟨a,e,m⟩:=c7 e m;simp[e];refine Cs (kB e.2) ?_;have⟨b,e,m⟩:=c7 e m;simp[e];refine Cs (xW e.2) ?_;cases m;simp[e]
 have⟨c,e,m⟩:=c7 e m;simp[e];refine Cs (kB e.2) ?_;have⟨d,e,m⟩:=c7 e m;simp[e];refine Cs (A1 e.2) ?_;have⟨f,e,m⟩:=c7 e m;simp[e];refine Cs (xW e.2) ?_;cases m;simp[e]
def Ev:C2 prog 242 eK (t2 cH.av sI) Tm.av (λp=>AV.agg [sI p.1.cD.abd,sL Ty.av p.1.cD.abe,sI p.1.abf,sI p.2.1.cD.abd,sL Ty.av p.2.1.cD.abe,sI p.2.1.abf,sI p.2.2.cD.abd,sL Ty.av p.2.2.cD.abe,sI p.2.2.abf]):=by
 intro T H a0 a1 r hm;rw[eK] at hm;have e:=trivial;refine wi abi func242 [] [] 7 ?_;have⟨W,e,m⟩:=c7 e hm;simp[e];refine Cf (Dx e.2) ?_;simp[e];rcases Io e m with⟨e,m⟩|⟨e,m⟩
 ·apply wg 999;have⟨O,e,m⟩:=c7 e m;simp[e];refine Wr e m 0 (λI X f h=>∃(a:Nat) (d:Nat),h=H/\f.1 3=AV.dc 3 a 0/\f.1 4=AV.dc 4 d 0/\f.1 6=sL sI W/\f.1 18=sL sI O/\f.1 19=sI (dm O)/\f.1 20=sI I/\f.gen 3=a/\f.box 3=some [sI a1.1.cD.abd,sL Ty.av a1.1.cD.abe,sI a1.1.abf,sI a1.2.1.cD.abd,sL Ty.av a1.2.1.cD.abe,sI a1.2.1.abf,sI a1.2.2.cD.abd,sL Ty.av a1.2.2.cD.abe,sI a1.2.2.abf]/\f.gen 4=d/\f.box 4=some [sI 0,AV.slice .full [],sI 0]) ⟨1,1,by simp[e]⟩ (λX P h5 K6 E m=>?_) (λI x7 X P h5 K6 n8 c9 E e m J K=>?_)
  ·have⟨a,d,E⟩:=E;have e:=Aj e E;apply wg 999;dsimp only[cQ]at m;have⟨ad,e,m⟩:=c7 e m;have⟨ae,e,m⟩:=c7 e m;simp[e];refine Cf (pe e.2) ?_;cases m;simp[e]
  have⟨a,d,E⟩:=E;have e:=Aj e E;apply wg 9;simp[e];refine Wj m 999 999 (λL f h=>∃(D:Bool) (l:Nat) (n:Nat),(h=H/\f.1 3=AV.dc 3 l 0/\f.1 4=AV.dc 4 n 0/\f.1 6=sL sI W/\f.1 18=sL sI O/\f.1 19=sI (dm O)/\f.1 20=sI I/\f.1 30=sB D/\f.gen 3=l/\f.box 3=some [sI a1.1.cD.abd,sL Ty.av a1.1.cD.abe,sI a1.1.abf,sI a1.2.1.cD.abd,sL Ty.av a1.2.1.cD.abe,sI a1.2.1.abf,sI a1.2.2.cD.abd,sL Ty.av a1.2.2.cD.abe,sI a1.2.2.abf]/\f.gen 4=n/\f.box 4=some [sI 0,AV.slice .full [],sI 0])/\L D=some c9) (λL af x m=>?_) ?_;rotate_left
  ·rintro Y ah ⟨D,l,n,E,m⟩;have e:=Aj e E;rcases Io e m with⟨e,m⟩|⟨e,m⟩
   ·cases m;cases J;simp[e]
   simp[e];cases m;exact K _ _ _ ⟨l,n,by simp[e]⟩ J
  rcases Io e m with⟨e,m⟩|⟨e,m⟩
  ·have e:=Aj e (Ah (j:=0) z_ wc (by simp[e]) (by decide):eL prog 244 (AV.dc 3 a 0) (sI I)=some (AV.dc 3 a 0));have⟨Q,e,m⟩:=c7 e m;simp[e];refine Cf (iY e.2) ?_;simp[e];exact x _ _ ⟨(k4 Q),a,d,by simp[e],m⟩
  rcases Io e m with⟨e,m⟩|⟨e,m⟩
  ·have e:=Aj e (Ah (j:=1) z_ wc (by simp[e]) (by decide):eL prog 244 (AV.dc 3 a 0) (sI I)=some (AV.dc 3 a 3));have⟨R,e,m⟩:=c7 e m;simp[e];refine Cf (iY e.2) ?_;simp[e];exact x _ _ ⟨(k4 R),a,d,by simp[e],m⟩
  have⟨e,m⟩:=Ck e m;have e:=Aj e (Ah (j:=2) z_ wc (by simp[e]) (by decide):eL prog 244 (AV.dc 3 a 0) (sI I)=some (AV.dc 3 a 6));have⟨S,e,m⟩:=c7 e m;simp[e];refine Cf (iY e.2) ?_;simp[e];exact x _ _ ⟨(k4 S),a,d,by simp[e],m⟩
 apply wg 8;simp[e];rcases Io e m with⟨e,m⟩|⟨e,m⟩
 ·apply wg 2;simp[e];refine Wj m 999 999 (λM f h=>∃(F:Bool) (o:Nat) (q:Nat),(h=H/\f.1 3=AV.dc 3 o 0/\f.1 4=AV.dc 4 q 0/\f.1 54=sB F/\f.gen 3=o/\f.box 3=some [sI a1.1.cD.abd,sL Ty.av a1.1.cD.abe,sI a1.1.abf,sI a1.2.1.cD.abd,sL Ty.av a1.2.1.cD.abe,sI a1.2.1.abf,sI a1.2.2.cD.abd,sL Ty.av a1.2.2.cD.abe,sI a1.2.2.abf]/\f.gen 4=q/\f.box 4=some [sI 0,AV.slice .full [],sI 0])/\M F=some r) (λM ai z m=>?_) ?_;rotate_left
  ·rintro Z aj ⟨F,o,q,E,m⟩;have e:=Aj e E;rcases Io e m with⟨e,m⟩|⟨e,m⟩
   ·cases m;simp[e]
   have⟨ak,e,m⟩:=c7 e m;simp[e];refine Cf (lJ e.2) ?_;cases m;simp[e]
  have⟨al,e,m⟩:=c7 e m;simp[e];refine Cs (iY e.2) ?_;rcases Io e m with⟨e,m⟩|⟨e,m⟩;rotate_left
  ·simp[e];exact z _ _ ⟨true,1,1,by simp[e],m⟩
  have⟨an,e,m⟩:=c7 e m;simp[e];refine Cs (lJ e.2) ?_;have⟨U,e,m⟩:=c7 e m;simp[e];refine Cs (og e.2) ?_;simp[e];exact z _ _ ⟨(k4 U),1,1,by simp[e],m⟩
 apply wg 1;simp[e];refine wj 999 0 (λf h=>∃(g:Nat) (i:Nat) (k:Nat),h=H/\f.1 2=AV.dc 2 g 0/\f.1 3=AV.dc 3 i 0/\f.1 4=AV.dc 4 k 0/\f.1 39=sI a0.abd/\f.1 59=sB (ew (de a0.abd 6) true (de a0.abd 9))/\f.gen 2=g/\f.box 2=some [sI a0.abd,sI a0.abg,sI a0.cD.abd,sL Ty.av a0.cD.abe,sL Tm.av a0.abe]/\f.gen 3=i/\f.box 3=some [sI a1.1.cD.abd,sL Ty.av a1.1.cD.abe,sI a1.1.abf,sI a1.2.1.cD.abd,sL Ty.av a1.2.1.cD.abe,sI a1.2.1.abf,sI a1.2.2.cD.abd,sL Ty.av a1.2.2.cD.abe,sI a1.2.2.abf]/\f.gen 4=k/\f.box 4=some [sI 0,AV.slice .full [],sI 0]) (λao A=>?_) ?_
 ·rcases Pb (de a0.abd 6) e with e|e
  ·simp[e];exact A _ _ ⟨1,1,1,by simp[e]⟩
  simp[e];exact A _ _ ⟨1,1,1,by simp[e]⟩
 rintro B aq ⟨g,i,k,E⟩;have e:=Aj e E;rcases Io e m with⟨e,m⟩|⟨e,m⟩;rotate_left
 ·apply wg 999;rcases Io e m with⟨e,m⟩|⟨e,m⟩
  ·have⟨ar,au,e,m⟩:=gb e m;simp[e];refine Cf (xt e.2) ?_;cases m;simp[e]
  have⟨aw,e,m⟩:=c7 e m;simp[e];refine Cf (iY e.2) ?_;rcases Io e m with⟨e,m⟩|⟨e,m⟩;rotate_left
  ·cases m;simp[e]
  rcases Io e m with⟨e,m⟩|⟨e,m⟩
  ·have⟨ax,e,m⟩:=c7 e m;simp[e];refine Cf (lJ e.2) ?_;cases m;simp[e]
  have⟨ay,e,m⟩:=c7 e m;simp[e];refine Cf (lJ e.2) ?_;cases m;simp[e]
 apply wg 3;have⟨w,e,m⟩:=c7 e m;simp[e];refine Cf (pe e.2) ?_;simp[e];refine wj 2 1 (λf h=>∃(s:Nat) (t:Nat) (b:Nat) (c:Nat),h=H/\f.1 2=AV.dc 2 s 0/\f.1 3=AV.dc 3 t 0/\f.1 4=AV.dc 4 b 0/\f.1 9=AV.dc 9 c 0/\f.1 10=sI (ew (de a0.abd 9) 2 1)/\f.gen 2=s/\f.box 2=some [sI a0.abd,sI a0.abg,sI a0.cD.abd,sL Ty.av a0.cD.abe,sL Tm.av a0.abe]/\f.gen 3=t/\f.box 3=some [sI a1.1.cD.abd,sL Ty.av a1.1.cD.abe,sI a1.1.abf,sI a1.2.1.cD.abd,sL Ty.av a1.2.1.cD.abe,sI a1.2.1.abf,sI a1.2.2.cD.abd,sL Ty.av a1.2.2.cD.abe,sI a1.2.2.abf]/\f.gen 4=b/\f.box 4=some [sI 0,AV.slice .full [],sI 0]/\f.gen 9=c/\f.box 9=some [sI w.cD.abd,sL Ty.av w.cD.abe,sI w.abf]) (λaz C=>?_) ?_
 ·simp[e];rcases Pb (de a0.abd 9) e with e|e
  ·apply wg 999;simp[e];exact C _ _ ⟨g,i,k,(B.gen 9+1),by simp[e]⟩
  apply wg 999;simp[e];exact C _ _ ⟨g,i,k,(B.gen 9+1),by simp[e]⟩
 rintro aa aA ⟨s,t,b,c,E⟩;have e:=Aj e E;simp[e];refine Wj m 999 999 (λN f h=>∃(G:Bool) (u:Nat) (v:Nat),(h=H/\f.1 4=AV.dc 4 u 0/\f.1 9=AV.dc 9 v 0/\f.1 88=sB G/\f.gen 4=u/\f.box 4=some [sI 0,AV.slice .full [],sI 0]/\f.gen 9=v/\f.box 9=some [sI w.cD.abd,sL Ty.av w.cD.abe,sI w.abf])/\N G=some r) (λN aB y m=>?_) ?_;rotate_left
 ·rintro ab aC ⟨G,u,v,E,m⟩;have e:=Aj e E;rcases Io e m with⟨e,m⟩|⟨e,m⟩
  ·cases m;simp[e]
  cases m;simp[e]
 have⟨aD,e,m⟩:=c7 e m;simp[e];refine Cs (og e.2) ?_;rcases Io e m with⟨e,m⟩|⟨e,m⟩;rotate_left
 ·simp[e];exact y _ _ ⟨true,b,c,by simp[e],m⟩
 have⟨aE,e,m⟩:=c7 e m;simp[e];refine Cs (Ed e.2) ?_;have⟨aF,e,m⟩:=c7 e m;simp[e];refine Cs (mD e.2) ?_;rcases Io e m with⟨e,m⟩|⟨e,m⟩;rotate_left
 ·simp[e];exact y _ _ ⟨true,b,c,by simp[e],m⟩
 have⟨V,e,m⟩:=c7 e m;simp[e];refine Cs (iY e.2) ?_;simp[e];exact y _ _ ⟨(k4 V),b,c,by simp[e],m⟩
def tm:∀(n:Nat),C2 prog 197 (du n) (t2 cH.av sI) (sL cH.av) Tm.av:=by
  intro n
  induction n with
  |zero=>
    skip
    all_goals(intro _ _;intros;rename_i hm;cases hm)
  |succ n U=>
 intro T H a0 a1 r hm;rw[du] at hm;have e:=trivial;refine wi abi func197 [] [] 999 ?_;rcases Io e hm with⟨e,m⟩|⟨e,m⟩
 ·rcases Io e m with⟨e,m⟩|⟨e,m⟩
  ·cases m;simp[e]
  have⟨x1,e,m⟩:=c7 e m;cases m;simp[e]
 rcases Io e m with⟨e,m⟩|⟨e,m⟩
 ·have⟨W,e,m⟩:=c7 e m;simp[e];refine Cf (pe e.2) ?_;have⟨e,m⟩:=Ck e m;simp[e];refine Ad (f:=cH.av) a0 [W] (iS.full (D:=[])) N_ e.2 ?_;have⟨x3,e,m⟩:=c7 e m;have⟨x4,x5,e,m⟩:=gb e m;simp[e];refine Cs (U e.2) ?_;rcases Io e m with⟨e,m⟩|⟨e,m⟩
  ·cases m;simp[e]
  have⟨x6,x7,e,m⟩:=gb e m;simp[e];refine Cf (xt e.2) ?_;cases m;simp[e]
 simp[e];refine Wr e m 0 (λL u f h=>∃(d:Tag) (g:Tag) (i:Tag) (b:Nat) (c:Nat) (a:Nat),h=H/\f.1 0=sL cH.av a0/\f.1 3=AV.dc 3 b 0/\f.1 4=AV.dc 4 c 0/\f.1 9=AV.dc 9 a 0/\f.1 65=sL Tm.av a1.abe/\f.1 66=sI (dm a1.abe)/\f.1 67=sI L/\f.gen 3=b/\f.box 3=some [sI a1.abd,sI a1.abg,sI a1.cD.abd,sL Ty.av a1.cD.abe,sL Tm.av a1.abe]/\f.gen 4=c/\f.box 4=some [sI 0,AV.slice .full [],sI 0]/\f.gen 9=a/\f.box 9=some [sI u.1,sT d Ty.av u.2.1,sI u.2.2.1,sI u.2.2.2.1,sT g Ty.av u.2.2.2.2.1,sI u.2.2.2.2.2.1,sI u.2.2.2.2.2.2.1,sT i Ty.av u.2.2.2.2.2.2.2.1,sI u.2.2.2.2.2.2.2.2]) ⟨.full,.full,.full,1,1,1,by simp[e]⟩ (λu M Q R E m=>?_) (λL X u M Q R Y S E e m N O=>?_)
 ·have⟨w,x,y,v20,v21,z,A,v24,B⟩:=u;have⟨d,g,i,b,c,a,E⟩:=E;have e:=Aj e E;apply wg 999;dsimp only[cQ,OA]at m;have⟨Z,aa,e,m⟩:=gb e m;simp[e];refine Cf (Ev e.2) ?_;cases m;simp[e]
 have⟨w,x,y,v20,v21,z,A,v24,B⟩:=u;have⟨d,g,i,b,c,a,E⟩:=E;have e:=Aj e E;dsimp only[OA]at m;apply wg 5;simp[e];refine Wj m 999 999 (λP f h=>∃(C:Int) (v30:List Ty) (v31:Int) (F:Int) (G:List Ty) (I:Int) (J:Int) (K:List Ty) (v37:Int) (k:Tag) (l:Tag) (o:Tag) (p:Nat) (q:Nat) (s:Nat),(h=H/\f.1 0=sL cH.av a0/\f.1 3=AV.dc 3 p 0/\f.1 4=AV.dc 4 q 0/\f.1 9=AV.dc 9 s 0/\f.1 65=sL Tm.av a1.abe/\f.1 66=sI (dm a1.abe)/\f.1 67=sI L/\f.gen 3=p/\f.box 3=some [sI a1.abd,sI a1.abg,sI a1.cD.abd,sL Ty.av a1.cD.abe,sL Tm.av a1.abe]/\f.gen 4=q/\f.box 4=some [sI 0,AV.slice .full [],sI 0]/\f.gen 9=s/\f.box 9=some [sI C,sT k Ty.av v30,sI v31,sI F,sT l Ty.av G,sI I,sI J,sT o Ty.av K,sI v37])/\P C v30 v31 F G I J K v37=some S) (λP ab v m=>?_) ?_;rotate_left
 ·rintro V ad ⟨C,v30,v31,F,G,I,J,K,v37,k,l,o,p,q,s,E,m⟩;have e:=Aj e E;simp[e];cases m;exact O _ _ _ ⟨k,l,o,p,q,s,by simp[e]⟩ N
 have⟨t,ae,e,m⟩:=gb e m;simp[e];refine Cf (U e.2) ?_;rcases Io e m with⟨e,m⟩|⟨e,m⟩
 ·cases m;cases N;simp[e]
 rcases Io e m with⟨e,m⟩|⟨e,m⟩
 ·have e:=Aj e (Ah (j:=0) z_ wc (by simp[e]) (by decide):eL prog 244 (AV.dc 9 a 0) (sI L)=some (AV.dc 9 a 0));simp[e];exact v _ _ ⟨t.cD.abd,t.cD.abe,t.abf,v20,v21,z,A,v24,B,.eh,g,i,b,c,a,by simp[e],m⟩
 rcases Io e m with⟨e,m⟩|⟨e,m⟩
 ·have e:=Aj e (Ah (j:=1) z_ wc (by simp[e]) (by decide):eL prog 244 (AV.dc 9 a 0) (sI L)=some (AV.dc 9 a 3));simp[e];exact v _ _ ⟨w,x,y,t.cD.abd,t.cD.abe,t.abf,A,v24,B,d,.eh,i,b,c,a,by simp[e],m⟩
 have⟨e,m⟩:=Ck e m;have e:=Aj e (Ah (j:=2) z_ wc (by simp[e]) (by decide):eL prog 244 (AV.dc 9 a 0) (sI L)=some (AV.dc 9 a 6));simp[e];exact v _ _ ⟨w,x,y,v20,v21,z,t.cD.abd,t.cD.abe,t.abf,d,g,.eh,b,c,a,by simp[e],m⟩
def jY{n:Nat}:C2 prog 197 (du n) (t2 cH.av sI) (sL cH.av) Tm.av:=(tm n)
def qR:C3 prog 205 gn sI (sL cH.av) Tm.av sI:=by
 intro T H a0 a1 a2 r hm;rw[gn] at hm;have e:=trivial;refine wi abi func205 [] [] 5 ?_;have⟨i,c,e,m⟩:=gb e hm;simp[e];refine Cf (jY e.2) ?_;simp[e];refine Wj m 999 999 (λb f h=>∃(v4:Bool),(h=H/\f.1 8=sI c/\f.1 22=sB v4)/\b v4=some r) (λb j a m=>?_) ?_;rotate_left
 ·rintro d k ⟨v4,E,m⟩;have e:=Aj e E;rcases Io e m with⟨e,m⟩|⟨e,m⟩
  ·cases m;simp[e]
  cases m;simp[e]
 rcases Io e m with⟨e,m⟩|⟨e,m⟩;rotate_left
 ·simp[e];exact a _ _ ⟨false,by simp[e],m⟩
 have⟨g,e,m⟩:=c7 e m;simp[e];refine Cf (iY e.2) ?_;simp[e];exact a _ _ ⟨(k4 g),by simp[e],m⟩
def pq:C2 prog 185 fY sI (sL cH.av) Tm.av:=by
 intro T H a0 a1 r hm;rw[fY] at hm;have e:=trivial;refine wi abi func185 [] [] 999 ?_;have⟨a,e,m⟩:=c7 e hm;simp[e];refine Cf (qR e.2) ?_;cases m;simp[e]
def sx:∀(n:Nat),C2 prog 135 (ds n) sI (sL cH.av) Fm.av:=by
  intro n
  induction n with
  |zero=>
    skip
    all_goals(intro _ _;intros;rename_i hm;cases hm)
  |succ n K=>
 intro T H a0 a1 r hm;rw[ds] at hm;have e:=trivial;refine wi abi func135 [] [] 6 ?_;simp[e];refine Wj hm 1 999 (λB f h=>∃(v2:List cH) (g:Nat),(h=H/\f.1 0=sL cH.av v2/\f.1 3=AV.dc 3 g 0/\f.gen 3=g/\f.box 3=some [sI a1.abd,sI a1.cD.abd,sL Ty.av a1.cD.abe,sL Tm.av a1.cU,sL Fm.av a1.abe])/\B v2=some r) (λB K3 o m=>?_) ?_;rotate_left
 ·rintro L h5 ⟨v2,g,E,m⟩;have e:=Aj e E;simp[e];refine Wr e m 999 (λC D f h=>h=H/\f.1 0=sL cH.av v2/\f.1 28=sL Fm.av a1.abe/\f.1 29=sI (dm a1.abe)/\f.1 30=sI C) (by simp[e]) (λD x M N E m=>?_) (λC O D x M N P Q E e m p q=>?_)
  ·have e:=Aj e E;dsimp only[cQ]at m;cases m;simp[e]
  have e:=Aj e E;have⟨R,e,m⟩:=c7 e m;simp[e];refine Cf (K e.2) ?_;rcases Io e m with⟨e,m⟩|⟨e,m⟩
  ·cases m;cases p;simp[e]
  simp[e];cases m;exact q _ _ _ (by simp[e]) p
 simp[e];refine Wj m 4 999 (λs f h=>∃(c:Nat),(h=H/\f.1 0=sL cH.av a0/\f.1 3=AV.dc 3 c 0/\f.gen 3=c/\f.box 3=some [sI a1.abd,sI a1.cD.abd,sL Ty.av a1.cD.abe,sL Tm.av a1.cU,sL Fm.av a1.abe])/\s=some r) (λs S i m=>?_) ?_;rotate_left
 ·rintro F U ⟨c,E,m⟩;have e:=Aj e E;have⟨y,e,m⟩:=c7 e m;simp[e];refine Cf (kK e.2) ?_;simp[e];exact o _ _ ⟨y,c,by simp[e],m⟩
 simp[e];refine wj 999 0 (λf h=>∃(a:Nat),h=H/\f.1 0=sL cH.av a0/\f.1 3=AV.dc 3 a 0/\f.1 12=sI a1.abd/\f.1 13=sB (ew (de a1.abd 4) true (de a1.abd 5))/\f.gen 3=a/\f.box 3=some [sI a1.abd,sI a1.cD.abd,sL Ty.av a1.cD.abe,sL Tm.av a1.cU,sL Fm.av a1.abe]) (λV j=>?_) ?_
 ·rcases Pb (de a1.abd 4) e with e|e
  ·simp[e];exact j _ _ ⟨1,by simp[e]⟩
  simp[e];exact j _ _ ⟨1,by simp[e]⟩
 rintro G W ⟨a,E⟩;have e:=Aj e E;rcases Io e m with⟨e,m⟩|⟨e,m⟩
 ·apply wg 999;simp[e];exact i _ _ ⟨a,by simp[e],m⟩
 apply wg 3;simp[e];refine wj 999 0 (λf h=>∃(b:Nat),h=H/\f.1 0=sL cH.av a0/\f.1 3=AV.dc 3 b 0/\f.1 12=sI a1.abd/\f.1 16=sB (ew (de a1.abd 6) true (de a1.abd 7))/\f.gen 3=b/\f.box 3=some [sI a1.abd,sI a1.cD.abd,sL Ty.av a1.cD.abe,sL Tm.av a1.cU,sL Fm.av a1.abe]) (λX k=>?_) ?_
 ·rcases Pb (de a1.abd 6) e with e|e
  ·simp[e];exact k _ _ ⟨a,by simp[e]⟩
  simp[e];exact k _ _ ⟨a,by simp[e]⟩
 rintro I Y ⟨b,E⟩;have e:=Aj e E;rcases Io e m with⟨e,m⟩|⟨e,m⟩
 ·apply wg 999;simp[e];exact i _ _ ⟨b,by simp[e],m⟩
 apply wg 2;simp[e];refine wj 999 999 (λf h=>∃(d:Nat),h=H/\f.1 0=sL cH.av a0/\f.1 3=AV.dc 3 d 0/\f.1 19=sB (ew (de a1.abd 2) true (de a1.abd 3))/\f.gen 3=d/\f.box 3=some [sI a1.abd,sI a1.cD.abd,sL Ty.av a1.cD.abe,sL Tm.av a1.cU,sL Fm.av a1.abe]) (λZ l=>?_) ?_
 ·rcases Pb (de a1.abd 2) e with e|e
  ·simp[e];exact l _ _ ⟨b,by simp[e]⟩
  simp[e];exact l _ _ ⟨b,by simp[e]⟩
 rintro J aa ⟨d,E⟩;have e:=Aj e E;rcases Io e m with⟨e,m⟩|⟨e,m⟩
 ·simp[e];exact o _ _ ⟨a0,d,by simp[e],m⟩
 simp[e];refine Wr e m 999 (λt u f h=>h=H/\f.1 0=sL cH.av a0/\f.1 42=sL Tm.av a1.cU/\f.1 43=sI (dm a1.cU)/\f.1 44=sI t) (by simp[e]) (λu v z A E m=>?_) (λt ab u v z A ad ae E e m z37 w=>?_)
 ·have e:=Aj e E;dsimp only[cQ]at m;cases m;simp[e]
 have e:=Aj e E;have⟨af,e,m⟩:=c7 e m;simp[e];refine Cf (pq e.2) ?_;rcases Io e m with⟨e,m⟩|⟨e,m⟩
 ·cases m;cases z37;simp[e]
 simp[e];cases m;exact w _ _ _ (by simp[e]) z37
def gD{n:Nat}:C2 prog 135 (ds n) sI (sL cH.av) Fm.av:=(sx n)
def q5(T:dA)(a:nb T){H:cV}{a0:List Ty}{a1:Fm}{b:Int}(hm:km a0 a1=some b):dy prog T 76 [sL Ty.av a0,Fm.av a1] H (sI b) H:=by
 rw[km] at hm;have e:=a;refine wi abi func76 [] [] 999 ?_;have⟨c,e,m⟩:=c7 e hm;simp[e];refine Cf (vh e.2) ?_;rcases Io e m with⟨e,m⟩|⟨e,m⟩
 ·cases m;simp[e]
 have⟨d,e,m⟩:=c7 e m;simp[e];refine Cf (mC T a e.2) ?_;rcases Io e m with⟨e,m⟩|⟨e,m⟩
 ·cases m;simp[e]
 have⟨f,e,m⟩:=c7 e m;simp[e];refine Cs (tg e.2) ?_;have⟨g,e,m⟩:=c7 e m;simp[e];refine Cs (gD e.2) ?_;cases m;simp[e]
def A0(T:dA)(k:nb T){H:cV}{a0:List Fm}{a1:Sq}{q:Int}(hm:pz a0 a1=some q):dy prog T 21 [sL Fm.av a0,Sq.av a1] H (sI q) H:=by
 rw[pz] at hm;have e:=k;refine wi abi func21 [] [] 999 ?_;rcases Io e hm with⟨e,m⟩|⟨e,m⟩
 ·cases m;simp[e]
 simp[e];refine Wr e m 999 (λr s2 f h=>∃(b:Nat),h=H/\f.1 3=AV.dc 3 b 0/\f.1 15=sL Fm.av a0/\f.1 16=sI (dm a0)/\f.1 17=sI r/\f.gen 3=b/\f.box 3=some [sL Ty.av a1.abh,sL Fm.av a1.abk]) ⟨1,by simp[e]⟩ (λs2 l t u E m=>?_) (λr B s2 l t u n6 C E e m s n=>?_);rotate_left
 ·have⟨b,E⟩:=E;have e:=Aj e E;have⟨v,e,m⟩:=c7 e m;simp[e];refine Cf (q5 T k e.2) ?_;rcases Io e m with⟨e,m⟩|⟨e,m⟩
  ·cases m;cases s;simp[e]
  simp[e];cases m;exact n _ _ _ ⟨b,by simp[e]⟩ s
 have⟨b,E⟩:=E;have e:=Aj e E;dsimp only[cQ]at m;have⟨w,e,m⟩:=c7 e m;simp[e];refine Cf (vh e.2) ?_;rcases Io e m with⟨e,m⟩|⟨e,m⟩
 ·cases m;simp[e]
 rcases Io e m with⟨e,m⟩|⟨e,m⟩
 ·cases m;simp[e]
 simp[e];refine Wr e m 999 (λc d f h=>∃(a:Nat),h=H/\f.1 3=AV.dc 3 a 0/\f.1 38=sL Fm.av a1.abk/\f.1 39=sI (dm a1.abk)/\f.1 40=sI c/\f.gen 3=a/\f.box 3=some [sL Ty.av a1.abh,sL Fm.av a1.abk]) ⟨b,by simp[e]⟩ (λd g o p E m=>?_) (λc x d g o p y z E e m i j=>?_)
 ·have⟨a,E⟩:=E;have e:=Aj e E;dsimp only[cQ]at m;cases m;simp[e]
 have⟨a,E⟩:=E;have e:=Aj e E;have⟨A,e,m⟩:=c7 e m;simp[e];refine Cf (q5 T k e.2) ?_;rcases Io e m with⟨e,m⟩|⟨e,m⟩
 ·cases m;cases i;simp[e]
 simp[e];cases m;exact j _ _ _ ⟨a,by simp[e]⟩ i
def Ep(T:dA)(g:nb T){H:cV}{a0:Int}{c:dV}{d:Bool}(hm:m7 a0=some (c,d)):dy prog T 237 [sI a0] H (AV.tuple [dV.av c,sB d]) H:=by
 rw[m7] at hm;have e:=g;refine wi abi func237 [] [] 3 ?_;simp[e];refine wj 999 999 (λf h=>∃(a:Nat),h=H/\f.1 0=sI a0/\f.1 2=AV.dc 2 a 0/\f.1 9=sB (ew (rv a0 1) true (qT a0 21))/\f.gen 2=a/\f.box 2=some [sB false,sB false,sI 0,sI 0,sI 0,sI 0,sI 0,sI 0]) (λj b=>?_) ?_
 ·rcases Pb (rv a0 1) e with e|e
  ·simp[e];exact b _ _ ⟨1,by simp[e]⟩
  simp[e];exact b _ _ ⟨1,by simp[e]⟩
 rintro i k ⟨a,E⟩;have e:=Aj e E;rcases Io e hm with⟨e,m⟩|⟨e,m⟩
 ·cases m;simp[e]
 have⟨l,e,m⟩:=c7 e m;cases m;simp[e]
def p_(T:dA)(a:nb T){H:cV}{a0:Tm}{b:Int}{c:Int}(hm:ja a0=some (b,c)):dy prog T 240 [Tm.av a0] H (AV.tuple [sI b,sI c]) H:=by
 rw[ja] at hm;have e:=a;refine wi abi func240 [] [] 999 ?_;have⟨d,f,e,m⟩:=gb e hm;simp[e];refine Cf (uD T a e.2) ?_;rcases Io e m with⟨e,m⟩|⟨e,m⟩;rotate_left
 ·cases m;simp[e]
 rcases Io e m with⟨e,m⟩|⟨e,m⟩
 ·cases m;simp[e]
 cases m;simp[e]
def r5(T:dA){H:cV}{a0:cO}{a1:Int}{a2:Int}{i:Bool}{a:cO}{d:Nat}(b:H[d]?=some [sI a0.abf,sB a0.fP])(hm:fJ a0 a1 a2=some (i,a)):dy prog T 239 [AV.ei d 0,sI a1,sI a2] H (sB i) (fu H d [sI a.abf,sB a.fP]):=by
 rw[fJ] at hm;have g:=eP b;refine ej.L7 b ?_;have e:=g;refine wi abi func239 [] [] 4 ?_;simp[e];refine wj 999 999 (λf h=>h=fu H d [sI (ew a0.fP (cO.mk (dB .i64 a0.abf a1) true) (cO.mk (dB .i64 a0.abf a1) (de a2 4))).abf,sB (ew a0.fP (cO.mk (dB .i64 a0.abf a1) true) (cO.mk (dB .i64 a0.abf a1) (de a2 4))).fP]/\f.1 2=sI a2) (λk c=>?_) ?_;rotate_left
 ·rintro j l E;have e:=Aj e E;cases hm;simp[e]
 rcases Pb a0.fP e with e|e
 ·simp[e];exact c _ _ (by simp[e])
 simp[e];exact c _ _ (by simp[e])
def xh(T:dA)(F:nb T):∀(n:Nat),(∀{H:cV} {a0:cO} {a1:Pf} {G:Bool} {k:cO} {j:Nat} (r:H[j]?=some [sI a0.abf,sB a0.fP]) (hm:gy n a0 a1=some (G,k)),dy prog T 189 [AV.ei j 0,Pf.av a1] H (sB G) (fu H j [sI k.abf,sB k.fP])):=by
  intro n
  induction n with
  |zero=>
    skip
    all_goals(intro _ _;intros;rename_i hm;cases hm)
  |succ n U=>
 intro H a0 a1 G k j r hm;rw[gy] at hm;have J:=eP r;refine ej.L7 r ?_;have e:=Aj F J;refine wi abi func189 [] [] 5 ?_;have⟨c,Q,e,m⟩:=gb e hm;simp[e];refine Cf (Ep T F e.2) ?_;simp[e];refine wj 999 0 (λf h=>∃(i:Nat) (l:Nat),h=fu H j [sI a0.abf,sB a0.fP]/\f.1 0=AV.ei j 0/\f.1 3=AV.dc 3 i 0/\f.1 5=AV.dc 5 l 0/\f.1 61=sB (ew Q (ew (rv a1.abg 0) true (ew (dr a1.abg 0) (ew c.abg (ew (dr (dm a1.cU) c.cU) true (ew (dr (dm a1.ef) c.ef) true (dr (dm a1.abe) c.abe))) true) (ew (dr (dm a1.cU) c.cU) true (ew (dr (dm a1.ef) c.ef) true (dr (dm a1.abe) c.abe))))) true)/\f.gen 3=i/\f.box 3=some [sI a1.abd,sI a1.abg,sI a1.cD.abd,sL Ty.av a1.cD.abe,sL Tm.av a1.cU,sL Fm.av a1.ef,sL Pf.av a1.abe]/\f.gen 5=l/\f.box 5=some [sB c.abg,sB c.typed,sI c.cU,sI c.ef,sI c.abe,sI c.pt,sI c.vars,sI c.abk]) (λK3 d=>?_) ?_
 ·rcases Pb Q e with e|e;rotate_left
  ·simp[e];exact d _ _ ⟨1,1,by simp[e]⟩
  rcases Pb (rv a1.abg 0) e with e|e
  ·simp[e];exact d _ _ ⟨1,1,by simp[e]⟩
  rcases Pb (dr a1.abg 0) e with e|e;rotate_left
  ·rcases Pb (dr (dm a1.cU) c.cU) e with e|e
   ·simp[e];exact d _ _ ⟨1,1,by simp[e]⟩
   rcases Pb (dr (dm a1.ef) c.ef) e with e|e
   ·simp[e];exact d _ _ ⟨1,1,by simp[e]⟩
   simp[e];exact d _ _ ⟨1,1,by simp[e]⟩
  rcases Pb c.abg e with e|e;rotate_left
  ·simp[e];exact d _ _ ⟨1,1,by simp[e]⟩
  rcases Pb (dr (dm a1.cU) c.cU) e with e|e
  ·simp[e];exact d _ _ ⟨1,1,by simp[e]⟩
  rcases Pb (dr (dm a1.ef) c.ef) e with e|e
  ·simp[e];exact d _ _ ⟨1,1,by simp[e]⟩
  simp[e];exact d _ _ ⟨1,1,by simp[e]⟩
 rintro V h5 ⟨i,l,E⟩;have e:=Aj e E;rcases Io e m with⟨e,m⟩|⟨e,m⟩
 ·apply wg 999;cases m;simp[e]
 apply wg 4;simp[e];refine Wj m 999 999 (λR f h=>∃(I:cO) (g:Nat),(h=fu H j [sI I.abf,sB I.fP]/\f.1 0=AV.ei j 0/\f.1 3=AV.dc 3 g 0/\f.gen 3=g/\f.box 3=some [sI a1.abd,sI a1.abg,sI a1.cD.abd,sL Ty.av a1.cD.abe,sL Tm.av a1.cU,sL Fm.av a1.ef,sL Pf.av a1.abe])/\R I=some (G,k)) (λR K8 s m=>?_) ?_
 ·rcases Io e m with⟨e,m⟩|⟨e,m⟩
  ·have⟨W,X,e,m⟩:=gb e m;simp[e];refine Cf (lS e.2) ?_;rcases Io e m with⟨e,m⟩|⟨e,m⟩
   ·cases m;simp[e]
   simp[e];exact s _ _ ⟨(cO.mk (dB .i64 a0.abf 1) a0.fP),i,by simp[e],m⟩
  have⟨Y,e,m⟩:=c7 e m;simp[e];refine Cf (tC e.2) ?_;rcases Io e m with⟨e,m⟩|⟨e,m⟩;rotate_left
  ·cases m;simp[e]
  simp[e];exact s _ _ ⟨(cO.mk (dB .i64 a0.abf 1) a0.fP),i,by simp[e],m⟩
 rintro S Z ⟨I,g,E,m⟩;have e:=Aj e E;simp[e];refine Wr e m 999 (λt o f h=>∃(a:Nat),h=fu H j [sI o.abf,sB o.fP]/\f.1 0=AV.ei j 0/\f.1 3=AV.dc 3 a 0/\f.1 84=sL Tm.av a1.cU/\f.1 85=sI (dm a1.cU)/\f.1 86=sI t/\f.gen 3=a/\f.box 3=some [sI a1.abd,sI a1.abg,sI a1.cD.abd,sL Ty.av a1.cD.abe,sL Tm.av a1.cU,sL Fm.av a1.ef,sL Pf.av a1.abe]) ⟨g,by simp[e]⟩ (λo u K L E m=>?_) (λt aa o u K L ab ad E e m z21 v=>?_);rotate_left
 ·have⟨a,E⟩:=E;have e:=Aj e E;have⟨ae,af,e,m⟩:=gb e m;simp[e];refine Cf (p_ T F e.2) ?_;have⟨ah,d26,e,m⟩:=gb e m;simp[e];refine Cf (r5 T (by simp[e]) e.2) ?_;rcases Io e m with⟨e,m⟩|⟨e,m⟩;rotate_left
  ·cases m;cases z21;simp[e]
  simp[e];cases m;exact v _ _ _ ⟨a,by simp[e]⟩ z21
 have⟨a,E⟩:=E;have e:=Aj e E;dsimp only[cQ]at m;simp[e];refine Wr e m 999 (λw p f h=>∃(b:Nat),h=fu H j [sI p.abf,sB p.fP]/\f.1 0=AV.ei j 0/\f.1 3=AV.dc 3 b 0/\f.1 99=sL Fm.av a1.ef/\f.1 100=sI (dm a1.ef)/\f.1 101=sI w/\f.gen 3=b/\f.box 3=some [sI a1.abd,sI a1.abg,sI a1.cD.abd,sL Ty.av a1.cD.abe,sL Tm.av a1.cU,sL Fm.av a1.ef,sL Pf.av a1.abe]) ⟨a,by simp[e]⟩ (λp x M N E m=>?_) (λw ai p x M N aj ak E e m y z=>?_);rotate_left
 ·have⟨b,E⟩:=E;have e:=Aj e E;have⟨al,an,e,m⟩:=gb e m;simp[e];refine Cf (od T F e.2) ?_;have⟨ao,d39,e,m⟩:=gb e m;simp[e];refine Cf (r5 T (by simp[e]) e.2) ?_;rcases Io e m with⟨e,m⟩|⟨e,m⟩;rotate_left
  ·cases m;cases y;simp[e]
  simp[e];cases m;exact z _ _ _ ⟨b,by simp[e]⟩ y
 have⟨b,E⟩:=E;have e:=Aj e E;dsimp only[cQ]at m;simp[e];refine Wr e m 999 (λA q f h=>h=fu H j [sI q.abf,sB q.fP]/\f.1 0=AV.ei j 0/\f.1 114=sL Pf.av a1.abe/\f.1 115=sI (dm a1.abe)/\f.1 116=sI A) (by simp[e]) (λq B O P E m=>?_) (λA aq q B O P ar au E e m C D=>?_)
 ·have e:=Aj e E;dsimp only[cQ]at m;cases m;simp[e]
 have e:=Aj e E;have⟨aw,d50,e,m⟩:=gb e m;simp[e];refine Cf (U (by simp[e]) e.2) ?_;rcases Io e m with⟨e,m⟩|⟨e,m⟩;rotate_left
 ·cases m;cases C;simp[e]
 simp[e];cases m;exact D _ _ _ (by simp[e]) C
def yu(T:dA)(e:nb T){H:cV}{a0:cO}{a1:Pf}{d:Bool}{a:cO}{b:Nat}(c:H[b]?=some [sI a0.abf,sB a0.fP]){n:Nat}(hm:gy n a0 a1=some (d,a)):dy prog T 189 [AV.ei b 0,Pf.av a1] H (sB d) (fu H b [sI a.abf,sB a.fP]):=(xh T e n) c hm
def zH(T:dA)(d:nb T){H:cV}{a0:Pf}{b:Int}{c:Int}(hm:oJ a0=some (b,c)):dy prog T 138 [Pf.av a0] H (AV.tuple [sI b,sI c]) H:=by
 rw[oJ] at hm;refine ej.ur (Post:=λx K=>x=AV.tuple [sI b,sI c]/\∃X,K=H++X) ?_ (λ_ _ h=>⟨_,h.2.choose_spec,by rw[h.1];simp[AV.low,AV.hS],h.1,rfl⟩);have e:=d;refine wi abi func138 [6] [] 8 ?_;have⟨i,d2,e,m⟩:=gb e hm;simp[e];refine Cf (yu T d (by simp[e]) e.2) ?_;simp[e];rcases Io e m with⟨e,m⟩|⟨e,m⟩;rotate_left
 ·apply wg 999;cases m;simp[e]
 apply wg 1;simp[e];refine wj 999 999 (λf h=>h=H++[[sI d2.abf,sB d2.fP]]/\f.1 4=AV.ei (List.length H) 0/\f.1 12=sB (ew d2.fP true (mV d2.abf 16384))) (λj a=>?_) ?_;rotate_left
 ·rintro g k E;have e:=Aj e E;rcases Io e m with⟨e,m⟩|⟨e,m⟩
  ·cases m;simp[e]
  cases m;simp[e]
 rcases Pb d2.fP e with e|e
 ·simp[e];exact a _ _ (by simp[e])
 simp[e];exact a _ _ (by simp[e])
def Fe(T:dA)(a:nb T){H:cV}{a0:Pf}{b:Int}(hm:qG a0=some b):dy prog T 79 [Pf.av a0] H (sI b) H:=by
 rw[qG] at hm;have e:=a;refine wi abi func79 [] [] 999 ?_;have⟨c,d,e,m⟩:=gb e hm;simp[e];refine Cf (zH T a e.2) ?_;cases m;simp[e]
def Cy(T:dA){H:cV}{u:Unit}(hm:uU=some u):dy prog T 80 [] H (AV.oa (List.length H)) (H++[[G1]]):=by
 refine wi abi func80 [] [] 999 ?_;simp;refine ss.tV jB tu (by decide+kernel) (by decide+kernel) ?_;simp;refine ss.tV jB tu (by decide+kernel) (by decide+kernel) ?_;simp;refine ss.tV jB tu (by decide+kernel) (by decide+kernel) ?_;simp;refine ss.tV jB tu (by decide+kernel) (by decide+kernel) ?_;simp;refine ss.tV jB tu (by decide+kernel) (by decide+kernel) ?_;simp;refine ss.tV jB tu (by decide+kernel) (by decide+kernel) ?_;simp;refine ss.tV jB tu (by decide+kernel) (by decide+kernel) ?_;simp;refine ss.tV jB tu (by decide+kernel) (by decide+kernel) ?_;simp;refine ss.tV jB tu (by decide+kernel) (by decide+kernel) ?_;simp;refine ss.tV jB tu (by decide+kernel) (by decide+kernel) ?_;simp;refine ss.tV jB tu (by decide+kernel) (by decide+kernel) ?_;simp;refine ss.tV jB tu (by decide+kernel) (by decide+kernel) ?_;simp;refine ss.tV jB tu (by decide+kernel) (by decide+kernel) ?_;simp;refine ss.tV jB tu (by decide+kernel) (by decide+kernel) ?_;simp;refine ss.tV jB tu (by decide+kernel) (by decide+kernel) ?_;simp;refine ss.tV jB tu (by decide+kernel) (by decide+kernel) ?_;simp;refine ss.tV jB tu (by decide+kernel) (by decide+kernel) ?_;simp;refine ss.tV jB tu (by decide+kernel) (by decide+kernel) ?_;simp;refine ss.tV jB tu (by decide+kernel) (by decide+kernel) ?_;simp;refine ss.tV jB tu (by decide+kernel) (by decide+kernel) ?_;simp;simp[G1,Jy,J7]
def lK:C2 prog 154 eo cJ.av cJ.av Fm.av:=by
 intro T H a0 a1 r hm;rw[eo] at hm;have e:=trivial;refine wi abi func154 [] [] 999 ?_;have⟨e,m⟩:=Ck e hm;simp[e];refine Ad (f:=cP.av) a0.known [(cP.mk a1 a0.eu.vars)] (iS.full (D:=[])) WL e.2 ?_;cases m;simp[e]
def Cz:C1 prog 82 pB cJ.av Sq.av:=by
 intro T H a0 r hm;rw[pB] at hm;have e:=trivial;refine wi abi func82 [] [] 999 ?_;have⟨q,e,m⟩:=c7 e hm;simp[e];refine Cf (tg e.2) ?_;simp[e];refine Wr e m 999 (λl d f h=>∃(c:Tag) (a:Nat) (b:Nat),h=H/\f.1 2=AV.dc 2 a 0/\f.1 3=AV.dc 3 b 0/\f.1 16=sL Fm.av a0.abk/\f.1 17=sI (dm a0.abk)/\f.1 18=sI l/\f.gen 2=a/\f.box 2=some [sI 0,sI 0,AV.slice .full [],AV.slice .full []]/\f.gen 3=b/\f.box 3=some [sI d.1,sI d.2.1,sL cH.av d.2.2.1,sT c cP.av d.2.2.2]) ⟨.full,1,1,by simp[e]⟩ (λd i n o E m=>?_) (λl s d i n o t u E e m z9 g=>?_)
 ·have⟨v11,v12,j,k⟩:=d;have⟨c,a,b,E⟩:=E;have e:=Aj e E;dsimp only[cQ,Pw]at m;cases m;simp[e]
 have⟨v11,v12,j,k⟩:=d;have⟨c,a,b,E⟩:=E;have e:=Aj e E;dsimp only[Pw]at m;have⟨p,e,m⟩:=c7 e m;simp[e];refine Cf (lK e.2) ?_;simp[e];cases m;exact g _ _ _ ⟨.eh,a,b,by simp[e]⟩ z9
def iW:C1 prog 211 gf Tm.av sI:=by
 intro T H a0 r hm;rw[gf] at hm;have e:=trivial;refine wi abi func211 [] [] 999 ?_;cases hm;simp[e]
def EY(T:dA){H:cV}{a0:Int}{a1:Int}{b:Int}{c:Int}{l:Tm}{q0:Nat}{q1:Nat}(d:H[q0]?=some [sI b])(g:H[q1]?=some [sI c])(hm:qM a0 a1 b c=some l):dy prog T 286 [sI a0,sI a1,AV.ei q0 0,AV.ei q1 0] H (Tm.av l) H:=by
 rw[qM] at hm;have j:=eP d;have k:=eP g;have e:=Aj (Aj (Aj j d) k) g;refine wi abi func286 [] [] 2 ?_;simp[e];refine wj 999 999 (λf h=>∃(a:Nat),h=H/\f.1 0=sI (ew (qT (dX .i64 a0 a1) b) (dB .i64 a0 c) a0)/\f.1 6=AV.dc 6 a 0/\f.gen 6=a/\f.box 6=some [sI 0,sI 0,sI 0,AV.slice .full [],AV.slice .full []]) (λo i=>?_) ?_;rotate_left
 ·rintro n p ⟨a,E⟩;have e:=Aj e E;have⟨q,e,m⟩:=c7 e hm;simp[e];refine Cf (iW e.2) ?_;cases m;simp[e]
 rcases Pb (qT (dX .i64 a0 a1) b) e with e|e
 ·simp[e];exact i _ _ ⟨1,by simp[e]⟩
 simp[e];exact i _ _ ⟨1,by simp[e]⟩
def Cc:∀(n:Nat),C1 prog 213 (iX n) Ty.av Ty.av:=by
  intro n
  induction n with
  |zero=>
   skip
   all_goals(intro _ _;intros;rename_i hm;cases hm)
  |succ n l=>
 intro T H a0 r hm;rw[iX] at hm;have e:=trivial;refine wi abi func213 [] [] 999 ?_;simp[e];refine Wr e hm 999 (λk s2 f h=>∃(a:Tag) (b:Nat) (c:Nat),(h=H/\f.1 2=AV.dc 2 b 0/\f.1 3=AV.dc 3 c 0/\f.1 10=sL Ty.av a0.abe/\f.1 11=sI (dm a0.abe)/\f.1 12=sI k/\f.gen 2=b/\f.box 2=some [sI 0,AV.slice .full []]/\f.gen 3=c/\f.box 3=some [sI a0.abd,sT a Ty.av s2])/\Ow f [21] a s2) (by exact⟨.full,1,1,by simp[e],iS.full⟩) (λs2 g o p E m=>?_) (λk s s2 g o p n6 t E e m q i=>?_)
 ·have⟨a,b,c,E,d⟩:=E;have e:=Aj e E;dsimp only[cQ]at m;cases m;simp[e]
 have⟨a,b,c,E,d⟩:=E;have e:=Aj e E;have⟨j,e,m⟩:=c7 e m;simp[e];refine Cs (l e.2) ?_;have⟨e,m⟩:=Ck e m;simp[e];refine Ad (f:=Ty.av) s2 [j] d Ft e.2 ?_;simp[e];cases m;exact i _ _ _ ⟨(.loc 21 (g.ea 21+1)),b,c,by simp[e],(On 21)⟩ q
def py{n:Nat}:C1 prog 213 (iX n) Ty.av Ty.av:=(Cc n)
def zE(T:dA):∀(n:Nat),(∀{S:Type} {st:S->cV} {k:Nat} {a0:Tm} {a1:Int} {r:(S->Int->Int->Option (Tm×S))} {l:S} {C:Tm} {t:S} {q0:Nat} {q1:Nat} {u:Nat} {v:List AV} (hF:yw st k) (o:∀s,(st s)[q0]?=some [AV.func (.func u) [] v]) (i:qy T u v st r) (p:∀s,(st s)[q1]?=some [AV.func (.func 303) [] [AV.ei q0 0,AV.ei q1 0]]) (hm:fy n a0 a1 r l=some (C,t)),dy prog T 303 [Tm.av a0,sI a1,AV.ei q0 0,AV.ei q1 0] (st l) (Tm.av C) (st t)):=by
  intro n
  induction n with
  |zero=>
    skip
    all_goals(intro _ _;intros;rename_i hm;cases hm)
  |succ n L=>
 intro S st k a0 a1 r l C t q0 q1 u v hF o i p hm;rw[fy] at hm;have D:=λs=>eP (o s);have F:=λs=>eP (p s);have e:=Aj (Aj (Aj (Aj hF.len D) o) F) p;refine wi abi func303 [] [(9,false,[true,true,false,true,true,true,true,true,true,true])] 5 ?_;simp[e];rcases Io e hm with⟨e,m⟩|⟨e,m⟩
 ·apply wg 999;have⟨U,V,e,m⟩:=gb e m;simp[e];refine mb.P6 (by rfl) (qy.T5 i e.2) ?_;cases m;simp[e]
 apply wg 4;have⟨B,e,m⟩:=c7 e m;simp[e];refine Cs (py e.2) ?_;simp[e];refine wj 999 999 (λf h=>∃(j:Nat) (d:Nat) (g:Nat),h=st l/\f.1 1=sI (ew (de a0.abd 2) (dB .i64 a1 1) a1)/\f.1 3=AV.ei q1 0/\f.1 4=AV.dc 4 j 0/\f.1 6=AV.dc 6 d 0/\f.1 7=AV.dc 7 g 0/\f.gen 4=j/\f.box 4=some [sI a0.abd,sI a0.abg,sI a0.cD.abd,sL Ty.av a0.cD.abe,sL Tm.av a0.abe]/\f.gen 6=d/\f.box 6=some [sI 0,sI 0,sI 0,AV.slice .full [],AV.slice .full []]/\f.gen 7=g/\f.box 7=some [sI a0.abd,sI a0.abg,sI B.abd,sL Ty.av B.abe,AV.slice .full []]) (λW x=>?_) ?_
 ·rcases Pb (de a0.abd 2) e with e|e
  ·simp[e];exact x _ _ ⟨1,1,1,by simp[e]⟩
  simp[e];exact x _ _ ⟨1,1,1,by simp[e]⟩
 rintro M X ⟨j,d,g,E⟩;have e:=Aj e E;simp[e];refine Wr e m 999 (λK w f h=>∃(a:Tag) (b:Nat) (c:Nat),(h=st w.2/\f.1 1=sI (ew (de a0.abd 2) (dB .i64 a1 1) a1)/\f.1 3=AV.ei q1 0/\f.1 6=AV.dc 6 b 0/\f.1 7=AV.dc 7 c 0/\f.1 32=sL Tm.av a0.abe/\f.1 33=sI (dm a0.abe)/\f.1 34=sI K/\f.gen 6=b/\f.box 6=some [sI 0,sI 0,sI 0,AV.slice .full [],AV.slice .full []]/\f.gen 7=c/\f.box 7=some [sI a0.abd,sI a0.abg,sI B.abd,sL Ty.av B.abe,sT a Tm.av w.1])/\Ow f [45] a w.1) (by exact⟨.full,d,g,by simp[e],iS.full⟩) (λw y N G E m=>?_) (λK O w y N G P Q E e m H z=>?_)
 ·have⟨A,I⟩:=w;have⟨a,b,c,E,q⟩:=E;have e:=Aj e E;dsimp only[cQ,kC]at m;cases m;simp[e]
 have⟨A,I⟩:=w;have⟨a,b,c,E,q⟩:=E;have e:=Aj e E;dsimp only[kC]at m;have⟨J,R,e,m⟩:=gb e m;simp[e];refine nL.P6 (by rfl) (L hF o i p e.2) (by simp) ?_;have⟨e,m⟩:=Ck e m;simp[e];refine Ad (f:=Tm.av) A [J] q C7 e.2 ?_;simp[e];cases m;exact z _ _ _ ⟨(.loc 45 (y.ea 45+1)),b,c,by simp[e],(On 45)⟩ H
def Ab(T:dA){S:Type}{st:S->cV}{k:Nat}{a0:Tm}{a1:Int}{a:(S->Int->Int->Option (Tm×S))}{b:S}{i:Tm}{c:S}{q0:Nat}{q1:Nat}{d:Nat}{e:List AV}(hF:yw st k)(g:∀s,(st s)[q0]?=some [AV.func (.func d) [] e])(f:qy T d e st a)(h:∀s,(st s)[q1]?=some [AV.func (.func 303) [] [AV.ei q0 0,AV.ei q1 0]]){n:Nat}(hm:fy n a0 a1 a b=some (i,c)):dy prog T 303 [Tm.av a0,sI a1,AV.ei q0 0,AV.ei q1 0] (st b) (Tm.av i) (st c):=(zE T n) hF g f h hm
def wF(T:dA){S:Type}{st:S->cV}{k:Nat}{a0:Tm}{a1:(S->Int->Int->Option (Tm×S))}{c:S}{d:Tm}{b:S}{g1:Nat}{a:List AV}(hF:yw st k)(f:qy T g1 a st a1)(hm:ml a0 a1 c=some (d,b)):dy prog T 285 [Tm.av a0,AV.func (.func g1) [] a] (st c) (Tm.av d) (st b):=by
 rw[ml] at hm;refine ej.Rr hF (Post:=λx K=>x=Tm.av d/\∃X,K=(st b)++X) ?_ (λ_ _ h=>⟨_,h.2.choose,h.2.choose_spec,by rw[h.1];simp[AV.low,AV.hS],h.1,rfl⟩);have e:=hF.len;refine wi abi func285 [3,5] [] 999 ?_;have⟨g,s2,e,m⟩:=gb e hm;simp[e];refine mb.P6 (by rfl) (Ab T (st:=λs=>st s++[[AV.func (.func g1) [] a],[AV.func (.func 303) [] [AV.ei k 0,AV.ei (k+1) 0]]]) (yw.ext hF _ (n:=k+2) (by simp)) (λ_=>(by simp[e])) (qy.ext f) (λ_=>(by simp[e])) e.2) ?_;cases m;simp[e]
def Bl(T:dA){H:cV}{a0:Tm}{a1:Int}{a2:Int}{a:Tm}(hm:oV a0 a1 a2=some a):dy prog T 254 [Tm.av a0,sI a1,sI a2] H (Tm.av a) H:=by
 rw[oV] at hm;refine ej.ur (Post:=λx K=>x=Tm.av a/\∃X,K=H++X) ?_ (λ_ _ h=>⟨_,h.2.choose_spec,by rw[h.1];simp[AV.low,AV.hS],h.1,rfl⟩);have e:=trivial;refine wi abi func254 [4,5] [] 999 ?_;have⟨c,s2,e,m⟩:=gb e hm;simp[e];refine Cf (wF T (st:=λ_:Unit=>H++[[sI a1],[sI a2]]) (yw.const _) (λX _ _ _ _ _ h=>by obtain⟨b,rfl⟩:=r6 h;exact EY T (q0:=(List.length H)) (q1:=(List.length H+1)) (by simp[e]) (by simp[e]) b) e.2) ?_;cases m;simp[e]
def vI(T:dA){H:cV}{a0:Tm}{a1:Int}{a:Int}{b:Int}{h:Tm}{q0:Nat}{q1:Nat}(c:H[q0]?=some [sI a])(d:H[q1]?=some [sI b])(hm:kD a0 a1 a b=some h):dy prog T 253 [Tm.av a0,sI a1,AV.ei q0 0,AV.ei q1 0] H (Tm.av h) H:=by
 rw[kD] at hm;have f:=eP c;have g:=eP d;have e:=Aj (Aj (Aj f c) g) d;refine wi abi func253 [] [] 999 ?_;have⟨i,e,m⟩:=c7 e hm;simp[e];refine Cf (Bl T e.2) ?_;cases m;simp[e]
def sW:C1 prog 214 kW sB sI:=by
 intro T H a0 r hm;rw[kW] at hm;have e:=trivial;refine wi abi func214 [] [] 2 ?_;simp[e];refine wj 999 999 (λf h=>h=H/\f.1 2=sB (ew (qT a0 4) (Gd a0 7) false)) (λc a=>?_) ?_;rotate_left
 ·rintro b d E;have e:=Aj e E;cases hm;simp[e]
 rcases Pb (qT a0 4) e with e|e
 ·simp[e];exact a _ _ (by simp[e])
 simp[e];exact a _ _ (by simp[e])
def uT(T:dA):∀(n:Nat),(∀{S:Type} {st:S->cV} {k:Nat} {a0:Fm} {a1:Int} {a2:(S->Tm->Int->Option (Tm×S))} {B:S} {M:Fm} {x:S} {g2:Nat} {p:List AV} (hF:yw st k) (C:zf T g2 p st a2) (hm:dE n a0 a1 a2 B=some (M,x)),dy prog T 155 [Fm.av a0,sI a1,AV.func (.func g2) [] p] (st B) (Fm.av M) (st x)):=by
  intro n
  induction n with
  |zero=>
    skip
    all_goals(intro _ _;intros;rename_i hm;cases hm)
  |succ n V=>
 intro S st k a0 a1 a2 B M x g2 p hF C hm;rw[dE] at hm;have e:=hF.len;refine wi abi func155 [] [] 999 ?_;have⟨G,e,m⟩:=c7 e hm;simp[e];refine Cs (py e.2) ?_;simp[e];refine Wr e m 0 (λR D f h=>∃(b:Tag) (g:Nat) (i:Nat) (j:Nat),(h=st D.2/\f.1 1=sI a1/\f.1 2=AV.func (.func g2) [] p/\f.1 3=AV.dc 3 g 0/\f.1 6=AV.dc 6 i 0/\f.1 7=AV.dc 7 j 0/\f.1 19=sL Tm.av a0.cU/\f.1 20=sI (dm a0.cU)/\f.1 21=sI R/\f.gen 3=g/\f.box 3=some [sI a0.abd,sI a0.cD.abd,sL Ty.av a0.cD.abe,sL Tm.av a0.cU,sL Fm.av a0.abe]/\f.gen 6=i/\f.box 6=some [sI 0,sI 0,AV.slice .full [],AV.slice .full [],AV.slice .full []]/\f.gen 7=j/\f.box 7=some [sI a0.abd,sI G.abd,sL Ty.av G.abe,sT b Tm.av D.1,AV.slice .full []])/\Ow f [32] b D.1) (by exact⟨.full,1,1,1,by simp[e],iS.full⟩) (λD H W X E m=>?_) (λR x6 D H W X n7 c8 E e m z9 I=>?_);rotate_left
 ·have⟨v11,v12⟩:=D;have⟨b,g,i,j,E,v⟩:=E;have e:=Aj e E;dsimp only[kC]at m;apply wg 999;have⟨N,Y,e,m⟩:=gb e m;simp[e];refine nL.P6 (by rfl) (zf.T5 C e.2) (by simp) ?_;have⟨e,m⟩:=Ck e m;simp[e];refine Ad (f:=Tm.av) v11 [N] v C7 e.2 ?_;simp[e];cases m;exact I _ _ _ ⟨(.loc 32 (H.ea 32+1)),g,i,j,by simp[e],(On 32)⟩ z9
 have⟨v11,v12⟩:=D;have⟨b,g,i,j,E,v⟩:=E;have e:=Aj e E;apply wg 5;dsimp only[cQ,kC]at m;simp[e];refine Wj m 999 999 (λJ f h=>∃(y:Int) (c:Tag) (s:Nat) (q:Nat) (r:Nat),(h=st v12/\f.1 1=sI y/\f.1 2=AV.func (.func g2) [] p/\f.1 3=AV.dc 3 s 0/\f.1 6=AV.dc 6 q 0/\f.1 7=AV.dc 7 r 0/\f.gen 3=s/\f.box 3=some [sI a0.abd,sI a0.cD.abd,sL Ty.av a0.cD.abe,sL Tm.av a0.cU,sL Fm.av a0.abe]/\f.gen 6=q/\f.box 6=some [sI 0,sI 0,AV.slice .full [],AV.slice .full [],AV.slice .full []]/\f.gen 7=r/\f.box 7=some [sI a0.abd,sI G.abd,sL Ty.av G.abe,sT c Tm.av v11,AV.slice .full []])/\Ow f [32] c v11/\J y=some (M,x)) (λJ Z z m=>?_) ?_
 ·have⟨aa,e,m⟩:=c7 e m;simp[e];refine Cf (sW e.2) ?_;rcases Io e m with⟨e,m⟩|⟨e,m⟩;rotate_left
  ·simp[e];exact z _ _ ⟨a1,b,g,i,j,by simp[e],v,m⟩
  simp[e];exact z _ _ ⟨(dB .i64 a1 1),b,g,i,j,by simp[e],v,m⟩
 rintro U ab ⟨y,c,s,q,r,E,F,m⟩;have e:=Aj e E;simp[e];refine Wr e m 999 (λK t f h=>∃(a:Tag) (d:Tag) (l:Nat) (o:Nat),(h=st t.2/\f.1 1=sI y/\f.1 2=AV.func (.func g2) [] p/\f.1 6=AV.dc 6 l 0/\f.1 7=AV.dc 7 o 0/\f.1 41=sL Fm.av a0.abe/\f.1 42=sI (dm a0.abe)/\f.1 43=sI K/\f.gen 6=l/\f.box 6=some [sI 0,sI 0,AV.slice .full [],AV.slice .full [],AV.slice .full []]/\f.gen 7=o/\f.box 7=some [sI a0.abd,sI G.abd,sL Ty.av G.abe,sT a Tm.av v11,sT d Fm.av t.1])/\Ow f [32] a v11/\Ow f [54] d t.1) (by exact⟨c,.full,q,r,by simp[e],F,iS.full⟩) (λt A O P E m=>?_) (λK ad t A O P ae af E e m z28 L=>?_)
 ·have⟨v30,v31⟩:=t;have⟨a,d,l,o,E,w,u⟩:=E;have e:=Aj e E;dsimp only[cQ,kC]at m;cases m;simp[e]
 have⟨v30,v31⟩:=t;have⟨a,d,l,o,E,w,u⟩:=E;have e:=Aj e E;dsimp only[kC]at m;have⟨Q,ah,e,m⟩:=gb e m;simp[e];refine Cs (V hF C e.2) ?_;have⟨e,m⟩:=Ck e m;simp[e];refine Ad (f:=Fm.av) v30 [Q] u OL e.2 ?_;simp[e];cases m;exact L _ _ _ ⟨a,(.loc 54 (A.ea 54+1)),l,o,by simp[e],(iS.other w u (by decide) (by decide)),(On 54)⟩ z28
def kL(T:dA){S:Type}{st:S->cV}{k:Nat}{a0:Fm}{a1:Int}{a2:(S->Tm->Int->Option (Tm×S))}{b:S}{e:Fm}{c:S}{g2:Nat}{a:List AV}(hF:yw st k)(d:zf T g2 a st a2){n:Nat}(hm:dE n a0 a1 a2 b=some (e,c)):dy prog T 155 [Fm.av a0,sI a1,AV.func (.func g2) [] a] (st b) (Fm.av e) (st c):=(uT T n) hF d hm
def l8(T:dA){H:cV}{a0:Fm}{a1:Int}{a2:Int}{a:Fm}(hm:dY a0 a1 a2=some a):dy prog T 206 [Fm.av a0,sI a1,sI a2] H (Fm.av a) H:=by
 rw[dY] at hm;refine ej.ur (Post:=λx K=>x=Fm.av a/\∃X,K=H++X) ?_ (λ_ _ h=>⟨_,h.2.choose_spec,by rw[h.1];simp[AV.low,AV.hS],h.1,rfl⟩);have e:=trivial;refine wi abi func206 [4,5] [] 999 ?_;have⟨c,s2,e,m⟩:=gb e hm;simp[e];refine Cf (kL T (st:=λ_:Unit=>H++[[sI a1],[sI a2]]) (yw.const _) (λX _ _ _ _ _ h=>by obtain⟨b,rfl⟩:=r6 h;exact vI T (q0:=(List.length H)) (q1:=(List.length H+1)) (by simp[e]) (by simp[e]) b) e.2) ?_;cases m;simp[e]
def yf:C2 prog 190 ju (t2 Fm.av sB) cJ.av sI:=by
 intro T H a0 a1 r hm;rw[ju] at hm;have e:=trivial;refine wi abi func190 [] [] 999 ?_;rcases Io e hm with⟨e,m⟩|⟨e,m⟩
 ·cases m;simp[e]
 have⟨a,e,m⟩:=c7 e m;have⟨b,e,m⟩:=c7 e m;simp[e];refine Cf (l8 T e.2) ?_;cases m;simp[e]
def vY(T:dA){H:cV}{a0:List Fm}{a1:Pf}{a2:cJ}{b:cE}{c:Int}{d:Nat}(a:KC H d a0)(hm:mc a0 a1 a2=some (b,c)):dy prog T 139 [AV.ei d 0,Pf.av a1,cJ.av a2] H (AV.tuple [cE.av b,sI c]) H:=by
 rw[mc] at hm;have e:=a;refine wi abi func139 [] [] 999 ?_;have⟨f,g,e,m⟩:=gb e hm;simp[e];refine Cf (yf e.2) ?_;rcases Io e m with⟨e,m⟩|⟨e,m⟩
 ·cases m;simp[e]
 cases m;simp[e]
def u_(T:dA){H:cV}{a0:List Fm}{a1:Pf}{a2:cJ}{b:cE}{c:Int}{d:Nat}(a:KC H d a0)(hm:lq a0 a1 a2=some (b,c)):dy prog T 140 [AV.ei d 0,Pf.av a1,cJ.av a2] H (AV.tuple [cE.av b,sI c]) H:=by
 rw[lq] at hm;have e:=a;refine wi abi func140 [] [(1,true,[]),(3,true,[])] 999 ?_;rcases Io e hm with⟨e,m⟩|⟨e,m⟩
 ·cases m;simp[e]
 have⟨f,e,m⟩:=c7 e m;cases m;simp[e]
def A8:C2 prog 191 w8 Fm.av sI (sL Fm.av):=by
 intro T H a0 a1 r hm;rw[w8] at hm;have e:=trivial;refine wi abi func191 [] [] 999 ?_;cases hm;simp[e]
def k6:C3 prog 193 dq sI dw.av sI sI:=by
 intro T H a0 a1 a2 r hm;rw[dq] at hm;have e:=trivial;refine wi abi func193 [] [] 3 ?_;simp[e];refine wj 999 999 (λf h=>h=H/\f.1 18=sB (ew (mV (dB .i64 a0.vars a1) 16) true (mV (dB .i64 a0.abk a2) 16))) (λc a=>?_) ?_;rotate_left
 ·rintro b d E;have e:=Aj e E;rcases Io e hm with⟨e,m⟩|⟨e,m⟩
  ·cases m;simp[e]
  cases m;simp[e]
 rcases Pb (mV (dB .i64 a0.vars a1) 16) e with e|e
 ·simp[e];exact a _ _ (by simp[e])
 simp[e];exact a _ _ (by simp[e])
def td(T:dA)(a:nb T){H:cV}{a0:Tm}{b:Int}(hm:nt a0=some b):dy prog T 266 [Tm.av a0] H (sI b) H:=by
 rw[nt] at hm;have e:=a;refine wi abi func266 [] [] 999 ?_;have⟨c,d,e,m⟩:=gb e hm;simp[e];refine Cf (p_ T a e.2) ?_;cases m;simp[e]
def AX:∀(n:Nat),C2 prog 292 (gx n) sB Tm.av Tm.av:=by
  intro n
  induction n with
  |zero=>
    skip
    all_goals(intro _ _;intros;rename_i hm;cases hm)
  |succ n q=>
 intro T H a0 a1 r hm;rw[gx] at hm;have e:=trivial;refine wi abi func292 [] [] 3 ?_;simp[e];refine Wj hm 999 999 (λl f h=>∃(v2:Bool) (c:Nat) (b:Nat),(h=H/\f.1 2=AV.dc 2 c 0/\f.1 3=AV.dc 3 b 0/\f.1 35=sB v2/\f.gen 2=c/\f.box 2=some [sI a0.abd,sI a0.abg,sI a0.cD.abd,sL Ty.av a0.cD.abe,sL Tm.av a0.abe]/\f.gen 3=b/\f.box 3=some [sI a1.abd,sI a1.abg,sI a1.cD.abd,sL Ty.av a1.cD.abe,sL Tm.av a1.abe])/\l v2=some r) (λl z d m=>?_) ?_
 ·rcases Io e m with⟨e,m⟩|⟨e,m⟩
  ·simp[e];exact d _ _ ⟨true,1,1,by simp[e],m⟩
  rcases Io e m with⟨e,m⟩|⟨e,m⟩
  ·simp[e];exact d _ _ ⟨true,1,1,by simp[e],m⟩
  have⟨A,e,m⟩:=c7 e m;simp[e];refine Cf (mD e.2) ?_;rcases Io e m with⟨e,m⟩|⟨e,m⟩;rotate_left
  ·simp[e];exact d _ _ ⟨true,1,1,by simp[e],m⟩
  simp[e];exact d _ _ ⟨(dr (dm a0.abe) (dm a1.abe)),1,1,by simp[e],m⟩
 rintro s B ⟨v2,c,b,E,m⟩;have e:=Aj e E;rcases Io e m with⟨e,m⟩|⟨e,m⟩
 ·cases m;simp[e]
 simp[e];refine Wr e m 999 (λo p f h=>∃(a:Nat),h=H/\f.1 3=AV.dc 3 a 0/\f.1 37=sL Tm.av a0.abe/\f.1 38=sI (dm a0.abe)/\f.1 39=sI o/\f.gen 3=a/\f.box 3=some [sI a1.abd,sI a1.abg,sI a1.cD.abd,sL Ty.av a1.cD.abe,sL Tm.av a1.abe]) ⟨b,by simp[e]⟩ (λp j t k E m=>?_) (λo u p j t k v w E e m g i=>?_)
 ·have⟨a,E⟩:=E;have e:=Aj e E;dsimp only[cQ]at m;cases m;simp[e]
 have⟨a,E⟩:=E;have e:=Aj e E;have⟨x,e,m⟩:=c7 e m;have⟨y,e,m⟩:=c7 e m;simp[e];refine Cs (q e.2) ?_;rcases Io e m with⟨e,m⟩|⟨e,m⟩;rotate_left
 ·cases m;cases g;simp[e]
 simp[e];cases m;exact i _ _ _ ⟨a,by simp[e]⟩ g
def va{n:Nat}:C2 prog 292 (gx n) sB Tm.av Tm.av:=(AX n)
def zl:C2 prog 267 oR sB Tm.av Tm.av:=by
 intro T H a0 a1 r hm;rw[oR] at hm;have e:=trivial;refine wi abi func267 [] [] 999 ?_;have⟨a,e,m⟩:=c7 e hm;simp[e];refine Cf (va e.2) ?_;cases m;simp[e]
def EO(T:dA){H:cV}{a0:Int}{a1:Int}{a:Bool}{b:Bool}{q0:Nat}(c:H[q0]?=some [sB a])(hm:oU a0 a1 a=some b):dy prog T 298 [sI a0,sI a1,AV.ei q0 0] H (AV.tuple []) (fu H q0 [sB b]):=by
 rw[oU] at hm;have d:=eP c;refine ej.L7 c ?_;have e:=d;refine wi abi func298 [] [] 999 ?_;rcases Io e hm with⟨e,m⟩|⟨e,m⟩
 ·cases m;simp[e]
 cases m;simp[e]
def D5(T:dA):∀(n:Nat),(∀{S:Type} {st:S->cV} {k:Nat} {a0:Tm} {a1:Int} {l:(S->Int->Int->Option (S))} {d:S} {g:S} {q0:Nat} {q1:Nat} {o:Nat} {p:List AV} (hF:yw st k) (i:∀s,(st s)[q0]?=some [AV.func (.func o) [] p]) (b:qC T o p st l) (j:∀s,(st s)[q1]?=some [AV.func (.func 274) [] [AV.ei q0 0,AV.ei q1 0]]) (hm:hU n a0 a1 l d=some g),dy prog T 274 [Tm.av a0,sI a1,AV.ei q0 0,AV.ei q1 0] (st d) (AV.tuple []) (st g)):=by
  intro n
  induction n with
  |zero=>
    skip
    all_goals(intro _ _;intros;rename_i hm;cases hm)
  |succ n D=>
 intro S st k a0 a1 l d g q0 q1 o p hF i b j hm;rw[hU] at hm;have x:=λs=>eP (i s);have y:=λs=>eP (j s);have e:=Aj (Aj (Aj (Aj hF.len x) i) y) j;refine wi abi func274 [] [] 2 ?_;simp[e];refine Wj hm 999 0 (λC f h=>∃(v2:S) (a:Nat),(h=st v2/\f.1 1=sI a1/\f.1 3=AV.ei q1 0/\f.1 4=AV.dc 4 a 0/\f.gen 4=a/\f.box 4=some [sI a0.abd,sI a0.abg,sI a0.cD.abd,sL Ty.av a0.cD.abe,sL Tm.av a0.abe])/\C v2=some g) (λC M r m=>?_) ?_
 ·rcases Io e m with⟨e,m⟩|⟨e,m⟩;rotate_left
  ·simp[e];exact r _ _ ⟨d,1,by simp[e],m⟩
  have⟨F,e,m⟩:=c7 e m;simp[e];refine mb.P6 (by rfl) (qC.T5 b e.2) ?_;simp[e];exact r _ _ ⟨F,1,by simp[e],m⟩
 rintro G N ⟨v2,a,E,m⟩;have e:=Aj e E;refine wj 999 999 (λf h=>∃(c:Nat),h=st v2/\f.1 1=sI (ew (de a0.abd 2) (dB .i64 a1 1) a1)/\f.1 3=AV.ei q1 0/\f.1 4=AV.dc 4 c 0/\f.gen 4=c/\f.box 4=some [sI a0.abd,sI a0.abg,sI a0.cD.abd,sL Ty.av a0.cD.abe,sL Tm.av a0.abe]) (λO t=>?_) ?_
 ·rcases Pb (de a0.abd 2) e with e|e
  ·simp[e];exact t _ _ ⟨a,by simp[e]⟩
  simp[e];exact t _ _ ⟨a,by simp[e]⟩
 rintro H P ⟨c,E⟩;have e:=Aj e E;simp[e];refine Wr e m 999 (λu q f h=>h=st q/\f.1 1=sI (ew (de a0.abd 2) (dB .i64 a1 1) a1)/\f.1 3=AV.ei q1 0/\f.1 22=sL Tm.av a0.abe/\f.1 23=sI (dm a0.abe)/\f.1 24=sI u) (by simp[e]) (λq v z A E m=>?_) (λu I q v z A J K E e m B w=>?_)
 ·have e:=Aj e E;dsimp only[cQ]at m;cases m;simp[e]
 have e:=Aj e E;have⟨L,e,m⟩:=c7 e m;simp[e];refine mb.P6 (by rfl) (D hF i b j e.2) ?_;simp[e];cases m;exact w _ _ _ (by simp[e]) B
def Fo(T:dA){S:Type}{st:S->cV}{k:Nat}{a0:Tm}{a1:Int}{a:(S->Int->Int->Option (S))}{b:S}{c:S}{q0:Nat}{q1:Nat}{d:Nat}{e:List AV}(hF:yw st k)(g:∀s,(st s)[q0]?=some [AV.func (.func d) [] e])(f:qC T d e st a)(h:∀s,(st s)[q1]?=some [AV.func (.func 274) [] [AV.ei q0 0,AV.ei q1 0]]){n:Nat}(hm:hU n a0 a1 a b=some c):dy prog T 274 [Tm.av a0,sI a1,AV.ei q0 0,AV.ei q1 0] (st b) (AV.tuple []) (st c):=(D5 T n) hF g f h hm
def vS(T:dA){S:Type}{st:S->cV}{k:Nat}{a0:Tm}{a1:(S->Int->Int->Option (S))}{c:S}{b:S}{g1:Nat}{a:List AV}(hF:yw st k)(d:qC T g1 a st a1)(hm:pj a0 a1 c=some b):dy prog T 243 [Tm.av a0,AV.func (.func g1) [] a] (st c) (AV.tuple []) (st b):=by
 rw[pj] at hm;refine ej.Rr hF (Post:=λx K=>x=AV.tuple []/\∃X,K=(st b)++X) ?_ (λ_ _ h=>⟨_,h.2.choose,h.2.choose_spec,by rw[h.1];simp[AV.low,AV.hS],h.1,rfl⟩);have e:=hF.len;refine wi abi func243 [3,4] [] 999 ?_;have⟨s1,e,m⟩:=c7 e hm;simp[e];refine mb.P6 (by rfl) (Fo T (st:=λs=>st s++[[AV.func (.func g1) [] a],[AV.func (.func 274) [] [AV.ei k 0,AV.ei (k+1) 0]]]) (yw.ext hF _ (n:=k+2) (by simp)) (λ_=>(by simp[e])) (qC.ext d) (λ_=>(by simp[e])) e.2) ?_;cases m;simp[e]
def HU(T:dA){H:cV}{a0:Tm}{a:Bool}(hm:tM a0=some a):dy prog T 280 [Tm.av a0] H (sB a) H:=by
 rw[tM] at hm;refine ej.ur (Post:=λx K=>x=sB a/\∃X,K=H++X) ?_ (λ_ _ h=>⟨_,h.2.choose_spec,by rw[h.1];simp[AV.low,AV.hS],h.1,rfl⟩);have e:=trivial;refine wi abi func280 [3] [] 999 ?_;have⟨s1,e,m⟩:=c7 e hm;simp[e];refine Cf (vS T (st:=λs:Bool=>H++[[sB s]]) (yw.Nb H (λs:Bool=>[[sB s]]) 1 (λ_=>rfl) (by simp[AV.low,AV.hS])) (λX s _ _ b h=>by have:=EO T (H:=H++[[sB s]]++X) (q0:=(List.length H)) (by simp[e]) h;simpa using this) e.2) ?_;cases m;simp[e]
def ox(T:dA){H:cV}{a0:Int}{a1:Int}{a2:Ty}{a3:(List (Option Nat))}{nh:List HC}{C:Option Nat}{p:List HC}(hm:iD a0 a1 a2 a3 nh=some (C,p)):dy prog T 299 [sI a0,sI a1,Ty.av a2,sL (kG (List.length H)) a3] (H++fW (List.length H) nh) (kG (List.length H) C) (H++fW (List.length H) p):=by
 rw[iD] at hm;have e:=trivial;refine wi abi func299 [17] [(5,false,[true,true,true,false,true,true,true,false,true,true,true,false]),(6,false,[true,true,true,true,false,true,true,true,false,true,true,true,false])] 999 ?_;have D:fW (List.length H) nh++[[sI a0,sI a1,sI a2.abd,sL Ty.av a2.abe,sL (kG (List.length H)) a3,sI 1,sI 0,sB false]]=fW (List.length H) (nh++[HC.dn (di.mk a0 a1 a2 a3 1 0 false)]):=FG rfl;have e:=Aj e D;have F:(nh++[HC.dn (di.mk a0 a1 a2 a3 1 0 false)])[(List.length nh)]?=some (HC.dn (di.mk a0 a1 a2 a3 1 0 false)):=Li;have e:=Aj e F;simp[e];refine Wr e hm 0 (λJ g f h=>h=H++fW (List.length H) g/\f.1 0=sI a0/\f.1 1=sI a1/\f.1 9=AV.ei (List.length H+(List.length nh)) 0/\f.1 18=sL (kG (List.length H)) a3/\f.1 19=sI (dm a3)/\f.1 20=sI J) (by simp[e]) (λg G M N E m=>?_) (λJ R g G M N S U E e m I r=>?_);rotate_left
 ·have e:=Aj e E;have K:=e;apply wg 999;have⟨a,e,m⟩:=c7 e m;have k:=HC.cS e.2;have e:=Aj e.1 k;have⟨O,e,m⟩:=c7 e m;have⟨d,e,m⟩:=c7 e m;have s:=HC.cS e.2;have e:=Aj e.1 s;have t:fu (fW (List.length H) g) (List.length nh) [sI a.abd,sI a.abg,sI a.nU.abd,sL Ty.av a.nU.abe,sL (kG (List.length H)) a.abe,sI (dB .i64 a.size d.size),sI a.free,sB a.normal]=fW (List.length H) (iF g (List.length nh) (HC.dn (di.mk a.abd a.abg a.nU a.abe (dB .i64 a.size d.size) a.free a.normal))):=nx rfl;have e:=Aj e t;have l:(iF g (List.length nh) (HC.dn (di.mk a.abd a.abg a.nU a.abe (dB .i64 a.size d.size) a.free a.normal)))[(List.length nh)]?=some (HC.dn (di.mk a.abd a.abg a.nU a.abe (dB .i64 a.size d.size) a.free a.normal)):=sX k;have e:=Aj e l;have⟨j,e,m⟩:=c7 e m;have u:=HC.cS e.2;have e:=Aj e.1 u;have v:fu (fW (List.length H) (iF g (List.length nh) (HC.dn (di.mk a.abd a.abg a.nU a.abe (dB .i64 a.size d.size) a.free a.normal)))) (List.length nh) [sI a.abd,sI a.abg,sI a.nU.abd,sL Ty.av a.nU.abe,sL (kG (List.length H)) a.abe,sI (dB .i64 a.size d.size),sI (imax a.free j.free),sB a.normal]=fW (List.length H) (iF (iF g (List.length nh) (HC.dn (di.mk a.abd a.abg a.nU a.abe (dB .i64 a.size d.size) a.free a.normal))) (List.length nh) (HC.dn (di.mk a.abd a.abg a.nU a.abe (dB .i64 a.size d.size) (imax a.free j.free) a.normal))):=nx rfl;have e:=Aj e v;have w:(iF (iF g (List.length nh) (HC.dn (di.mk a.abd a.abg a.nU a.abe (dB .i64 a.size d.size) a.free a.normal))) (List.length nh) (HC.dn (di.mk a.abd a.abg a.nU a.abe (dB .i64 a.size d.size) (imax a.free j.free) a.normal)))[(List.length nh)]?=some (HC.dn (di.mk a.abd a.abg a.nU a.abe (dB .i64 a.size d.size) (imax a.free j.free) a.normal)):=sX l;have e:=Aj e w;simp[e];cases m;exact r _ _ _ (by simp[e]) I
 have e:=Aj e E;apply wg 5;dsimp only[cQ]at m;simp[e];refine Wj m 999 999 (λx f h=>∃(q:List HC),(h=H++fW (List.length H) q/\f.1 9=AV.ei (List.length H+(List.length nh)) 0)/\x q=some (C,p)) (λx P i m=>?_) ?_;rotate_left
 ·rintro L Q ⟨q,E,m⟩;have e:=Aj e E;cases m;simp[e]
 rcases Io e m with⟨e,m⟩|⟨e,m⟩
 ·have⟨c,e,m⟩:=c7 e m;have n:=HC.cS e.2;have e:=Aj e.1 n;have y:fu (fW (List.length H) g) (List.length nh) [sI c.abd,sI c.abg,sI c.nU.abd,sL Ty.av c.nU.abe,sL (kG (List.length H)) c.abe,sI c.size,sI (dB .i64 a1 1),sB c.normal]=fW (List.length H) (iF g (List.length nh) (HC.dn (di.mk c.abd c.abg c.nU c.abe c.size (dB .i64 a1 1) c.normal))):=nx rfl;have e:=Aj e y;have z:(iF g (List.length nh) (HC.dn (di.mk c.abd c.abg c.nU c.abe c.size (dB .i64 a1 1) c.normal)))[(List.length nh)]?=some (HC.dn (di.mk c.abd c.abg c.nU c.abe c.size (dB .i64 a1 1) c.normal)):=sX n;have e:=Aj e z;simp[e];exact i _ _ ⟨(iF g (List.length nh) (HC.dn (di.mk c.abd c.abg c.nU c.abe c.size (dB .i64 a1 1) c.normal))),by simp[e],m⟩
 rcases Io e m with⟨e,m⟩|⟨e,m⟩;rotate_left
 ·simp[e];exact i _ _ ⟨g,by simp[e],m⟩
 have⟨b,e,m⟩:=c7 e m;have o:=HC.cS e.2;have e:=Aj e.1 o;have A:fu (fW (List.length H) g) (List.length nh) [sI b.abd,sI b.abg,sI b.nU.abd,sL Ty.av b.nU.abe,sL (kG (List.length H)) b.abe,sI b.size,sI (imax 0 (dX .i64 b.free 1)),sB b.normal]=fW (List.length H) (iF g (List.length nh) (HC.dn (di.mk b.abd b.abg b.nU b.abe b.size (imax 0 (dX .i64 b.free 1)) b.normal))):=nx rfl;have e:=Aj e A;have B:(iF g (List.length nh) (HC.dn (di.mk b.abd b.abg b.nU b.abe b.size (imax 0 (dX .i64 b.free 1)) b.normal)))[(List.length nh)]?=some (HC.dn (di.mk b.abd b.abg b.nU b.abe b.size (imax 0 (dX .i64 b.free 1)) b.normal)):=sX o;have e:=Aj e B;simp[e];exact i _ _ ⟨(iF g (List.length nh) (HC.dn (di.mk b.abd b.abg b.nU b.abe b.size (imax 0 (dX .i64 b.free 1)) b.normal))),by simp[e],m⟩
def Fw(T:dA):∀(n:Nat),(∀{H:cV} {a0:Tm} {nh:List HC} {i:Option Nat} {d:List HC} (hm:ng n a0 nh=some (i,d)),dy prog T 281 [Tm.av a0] (H++fW (List.length H) nh) (kG (List.length H) i) (H++fW (List.length H) d)):=by
  intro n
  induction n with
  |zero=>
   skip
   all_goals(intro _ _;intros;rename_i hm;cases hm)
  |succ n r=>
 intro H a0 nh i d hm;rw[ng] at hm;have e:=trivial;refine wi abi func281 [] [] 999 ?_;simp[e];refine Wr e hm 999 (λl s2 f h=>∃(a:Tag) (b:Nat),(h=H++fW (List.length H) s2.2/\f.1 1=AV.dc 1 b 0/\f.1 3=sT a (kG (List.length H)) s2.1/\f.1 7=sL Tm.av a0.abe/\f.1 8=sI (dm a0.abe)/\f.1 9=sI l/\f.gen 1=b/\f.box 1=some [sI a0.abd,sI a0.abg,sI a0.cD.abd,sL Ty.av a0.cD.abe,sL Tm.av a0.abe])/\Ow f [17] a s2.1) (by exact⟨.full,1,by simp[e],iS.full⟩) (λs2 g s t E m=>?_) (λl w s2 g s t n6 x E e m u j=>?_)
 ·have⟨v10,v11⟩:=s2;have⟨a,b,E,c⟩:=E;have e:=Aj e E;dsimp only[cQ,kC]at m;have⟨v,o,e,m⟩:=gb e m;simp[e];refine Cf (ox T (H:=H) e.2) ?_;cases m;simp[e]
 have⟨v10,v11⟩:=s2;have⟨a,b,E,c⟩:=E;have e:=Aj e E;have p:=e;dsimp only[kC]at m;have⟨k,q,e,m⟩:=gb e m;simp[e];refine Cf (r (H:=H) e.2) ?_;have⟨e,m⟩:=Ck e m;simp[e];refine Ao (f:=(kG (List.length H))) v10 [k] c Lg e.2 ?_;simp[e];cases m;exact j _ _ _ ⟨(.loc 17 (g.ea 17+1)),b,by simp[e],(On 17)⟩ u
def Ho(T:dA){H:cV}{a0:Tm}{nh:List HC}{b:Option Nat}{a:List HC}{n:Nat}(hm:ng n a0 nh=some (b,a)):dy prog T 281 [Tm.av a0] (H++fW (List.length H) nh) (kG (List.length H) b) (H++fW (List.length H) a):=(Fw T n) hm
def yR(T:dA){H:cV}{a0:Option Nat}{nh:List HC}{b:Int}(hm:oH a0 nh=some b):dy prog T 301 [kG (List.length H) a0] (H++fW (List.length H) nh) (sI b) (H++fW (List.length H) nh):=by
 rw[oH] at hm;have e:=trivial;refine wi abi func301 [] [] 999 ?_;have⟨c,e,m⟩:=c7 e hm;have⟨d,e,m⟩:=c7 e m;have a:=HC.cS e.2;have e:=Aj e.1 a;cases m;simp[e]
def sd(T:dA){H:cV}{a0:Option Nat}{nh:List HC}{l:Bool}(hm:iC a0 nh=some l):dy prog T 302 [kG (List.length H) a0] (H++fW (List.length H) nh) (sB l) (H++fW (List.length H) nh):=by
 rw[iC] at hm;have e:=trivial;refine wi abi func302 [] [] 8 ?_;have⟨L,e,m⟩:=c7 e hm;have⟨n,e,m⟩:=c7 e m;have o:=HC.cS e.2;have e:=Aj e.1 o;simp[e];rcases Io e m with⟨e,m⟩|⟨e,m⟩
 ·apply wg 999;have⟨M,e,m⟩:=c7 e m;have⟨N,e,m⟩:=c7 e m;have⟨O,e,m⟩:=c7 e m;have p:=HC.cS e.2;have e:=Aj e.1 p;cases m;simp[e]
 apply wg 3;simp[e];rcases Io e m with⟨e,m⟩|⟨e,m⟩
 ·apply wg 1;simp[e];refine Wj m 999 999 (λs f h=>∃(v9:Bool),(h=H++fW (List.length H) nh/\f.1 2=sB v9)/\s v9=some l) (λs w a m=>?_) ?_;rotate_left
  ·rintro t x ⟨v9,E,m⟩;have e:=Aj e E;cases m;simp[e]
  have⟨y,e,m⟩:=c7 e m;have⟨z,e,m⟩:=c7 e m;have⟨q,e,m⟩:=c7 e m;have g:=HC.cS e.2;have e:=Aj e.1 g;rcases Io e m with⟨e,m⟩|⟨e,m⟩
  ·simp[e];exact a _ _ ⟨true,by simp[e],m⟩
  simp[e];exact a _ _ ⟨(de q.abd 5),by simp[e],m⟩
 apply wg 4;rcases Io e m with⟨e,m⟩|⟨e,m⟩
 ·simp[e];refine Wj m 999 999 (λi f h=>∃(d:Bool),(h=H++fW (List.length H) nh/\f.1 2=sB d)/\i d=some l) (λi A b m=>?_) ?_;rotate_left
  ·rintro u B ⟨d,E,m⟩;have e:=Aj e E;cases m;simp[e]
  have⟨C,e,m⟩:=c7 e m;have⟨D,e,m⟩:=c7 e m;have⟨r,e,m⟩:=c7 e m;have j:=HC.cS e.2;have e:=Aj e.1 j;rcases Io e m with⟨e,m⟩|⟨e,m⟩
  ·simp[e];exact b _ _ ⟨true,by simp[e],m⟩
  simp[e];exact b _ _ ⟨(de r.abd 8),by simp[e],m⟩
 simp[e];refine wj 999 999 (λf h=>h=H++fW (List.length H) nh/\f.1 0=kG (List.length H) a0/\f.1 67=sB (ew (de n.abd 11) true (de n.abd 12))) (λF c=>?_) ?_
 ·rcases Pb (de n.abd 11) e with e|e
  ·simp[e];exact c _ _ (by simp[e])
  simp[e];exact c _ _ (by simp[e])
 rintro v G E;have e:=Aj e E;rcases Io e m with⟨e,m⟩|⟨e,m⟩;rotate_left
 ·cases m;simp[e]
 have⟨I,e,m⟩:=c7 e m;have⟨J,e,m⟩:=c7 e m;have⟨K,e,m⟩:=c7 e m;have k:=HC.cS e.2;have e:=Aj e.1 k;cases m;simp[e]
def oP(T:dA){H:cV}{a0:Option Nat}{nh:List HC}{b:Int}(hm:gA a0 nh=some b):dy prog T 317 [kG (List.length H) a0] (H++fW (List.length H) nh) (sI b) (H++fW (List.length H) nh):=by
 rw[gA] at hm;have e:=trivial;refine wi abi func317 [] [] 999 ?_;have⟨c,e,m⟩:=c7 e hm;have⟨d,e,m⟩:=c7 e m;have a:=HC.cS e.2;have e:=Aj e.1 a;rcases Io e m with⟨e,m⟩|⟨e,m⟩
 ·cases m;simp[e]
 cases m;simp[e]
def xd(T:dA):∀(n:Nat),(∀{H:cV} {a0:Option Nat} {a1:Int} {nh:List HC} {b:Int} (hm:iG n a0 a1 nh=some b),dy prog T 311 [kG (List.length H) a0,sI a1] (H++fW (List.length H) nh) (sI b) (H++fW (List.length H) nh)):=by
  intro n
  induction n with
  |zero=>
    skip
    all_goals(intro _ _;intros;rename_i hm;cases hm)
  |succ n o=>
 intro H a0 a1 nh b hm;rw[iG] at hm;have e:=trivial;refine wi abi func311 [] [] 999 ?_;have⟨u,e,m⟩:=c7 e hm;have⟨j,e,m⟩:=c7 e m;have c:=HC.cS e.2;have e:=Aj e.1 c;rcases Io e m with⟨e,m⟩|⟨e,m⟩
 ·cases m;simp[e]
 rcases Io e m with⟨e,m⟩|⟨e,m⟩
 ·rcases Io e m with⟨e,m⟩|⟨e,m⟩
  ·cases m;simp[e]
  cases m;simp[e]
 simp[e];refine Wr e m 999 (λk d f h=>h=H++fW (List.length H) nh/\f.1 0=kG (List.length H) a0/\f.1 1=sI a1/\f.1 5=sI d/\f.1 28=sL (kG (List.length H)) j.abe/\f.1 29=sI (dm j.abe)/\f.1 30=sI k) (by simp[e]) (λd g p q E m=>?_) (λk v d g p q w r E e m i a=>?_)
 ·have e:=Aj e E;dsimp only[cQ]at m;cases m;simp[e]
 have e:=Aj e E;have l:=e;have⟨s,e,m⟩:=c7 e m;simp[e];refine Cf (oP T (H:=H) e.2) ?_;have⟨t,e,m⟩:=c7 e m;simp[e];refine Cf (o (H:=H) e.2) ?_;simp[e];cases m;exact a _ _ _ (by simp[e]) i
def xT(T:dA){H:cV}{a0:Option Nat}{a1:Int}{nh:List HC}{a:Int}{n:Nat}(hm:iG n a0 a1 nh=some a):dy prog T 311 [kG (List.length H) a0,sI a1] (H++fW (List.length H) nh) (sI a) (H++fW (List.length H) nh):=(xd T n) hm
def mQ(T:dA){H:cV}{a0:Option Nat}{a1:(List (Option Nat))}{nh:List HC}{c:Option Nat}{a:List HC}(hm:eT a0 a1 nh=some (c,a)):dy prog T 309 [kG (List.length H) a0,sL (kG (List.length H)) a1] (H++fW (List.length H) nh) (kG (List.length H) c) (H++fW (List.length H) a):=by
 rw[eT] at hm;have e:=trivial;refine wi abi func309 [] [(1,false,[true,true,true,false,true,true,true,false,true,true,true,false,true,true,true])] 999 ?_;have⟨f,e,m⟩:=c7 e hm;have⟨g,e,m⟩:=c7 e m;have b:=HC.cS e.2;have e:=Aj e.1 b;have⟨h,d,e,m⟩:=gb e m;simp[e];refine Cs (ox T (H:=H) e.2) ?_;cases m;simp[e]
def xU(T:dA):∀(n:Nat),(∀{H:cV} {a0:Option Nat} {a1:Int} {a2:Int} {nh:List HC} {q:Option Nat} {d:List HC} (hm:hH n a0 a1 a2 nh=some (q,d)),dy prog T 318 [kG (List.length H) a0,sI a1,sI a2] (H++fW (List.length H) nh) (kG (List.length H) q) (H++fW (List.length H) d)):=by
  intro n
  induction n with
  |zero=>
    skip
    all_goals(intro _ _;intros;rename_i hm;cases hm)
  |succ n A=>
 intro H a0 a1 a2 nh q d hm;rw[hH] at hm;have e:=trivial;refine wi abi func318 [] [(4,false,[true,true,true,false,true,true,true,false,true,true,true,true,true,false,true,true])] 3 ?_;simp[e];refine Wj hm 999 999 (λv f h=>∃(v2:Bool),(h=H++fW (List.length H) nh/\f.1 0=kG (List.length H) a0/\f.1 1=sI a1/\f.1 2=sI a2/\f.1 19=sB v2)/\v v2=some (q,d)) (λv K i m=>?_) ?_
 ·have⟨L,e,m⟩:=c7 e m;have⟨M,e,m⟩:=c7 e m;have r:=HC.cS e.2;have e:=Aj e.1 r;rcases Io e m with⟨e,m⟩|⟨e,m⟩
  ·simp[e];exact i _ _ ⟨true,by simp[e],m⟩
  simp[e];exact i _ _ ⟨(de a2 0),by simp[e],m⟩
 rintro B N ⟨v2,E,m⟩;have e:=Aj e E;rcases Io e m with⟨e,m⟩|⟨e,m⟩
 ·cases m;simp[e]
 have⟨O,e,m⟩:=c7 e m;have⟨j,e,m⟩:=c7 e m;have k:=HC.cS e.2;have e:=Aj e.1 k;rcases Io e m with⟨e,m⟩|⟨e,m⟩
 ·have⟨C,w,e,m⟩:=gb e m;simp[e];refine Cs (ox T (H:=H) e.2) ?_;cases m;simp[e]
 simp[e];refine Wr e m 999 (λl b f h=>∃(a:Tag),(h=H++fW (List.length H) b.2/\f.1 0=kG (List.length H) a0/\f.1 1=sI a1/\f.1 2=sI a2/\f.1 7=sT a (kG (List.length H)) b.1/\f.1 44=sL (kG (List.length H)) j.abe/\f.1 45=sI (dm j.abe)/\f.1 46=sI l)/\Ow f [59] a b.1) (by exact⟨.full,by simp[e],iS.full⟩) (λb g s t E m=>?_) (λl D b g s t F G E e m z21 o=>?_)
 ·have⟨p,v24⟩:=b;have⟨a,E,c⟩:=E;have e:=Aj e E;dsimp only[cQ,kC]at m;have⟨I,x,e,m⟩:=gb e m;simp[e];refine Cf (mQ T (H:=H) e.2) ?_;cases m;simp[e]
 have⟨p,v24⟩:=b;have⟨a,E,c⟩:=E;have e:=Aj e E;have y:=e;dsimp only[kC]at m;have⟨J,e,m⟩:=c7 e m;simp[e];refine Cf (oP T (H:=H) e.2) ?_;have⟨u,z,e,m⟩:=gb e m;simp[e];refine Cf (A (H:=H) e.2) ?_;have⟨e,m⟩:=Ck e m;simp[e];refine Ao (f:=(kG (List.length H))) p [u] c Lg e.2 ?_;simp[e];cases m;exact o _ _ _ ⟨(.loc 59 (g.ea 59+1)),by simp[e],(On 59)⟩ z21
def zu(T:dA){H:cV}{a0:Option Nat}{a1:Int}{a2:Int}{nh:List HC}{b:Option Nat}{a:List HC}{n:Nat}(hm:hH n a0 a1 a2 nh=some (b,a)):dy prog T 318 [kG (List.length H) a0,sI a1,sI a2] (H++fW (List.length H) nh) (kG (List.length H) b) (H++fW (List.length H) a):=(xU T n) hm
def y9(T:dA):∀(n:Nat),(∀{H:cV} {a0:Option Nat} {a1:Int} {a2:Option Nat} {nh:List HC} {k:Option Nat} {d:List HC} (hm:ij n a0 a1 a2 nh=some (k,d)),dy prog T 312 [kG (List.length H) a0,sI a1,kG (List.length H) a2] (H++fW (List.length H) nh) (kG (List.length H) k) (H++fW (List.length H) d)):=by
  intro n
  induction n with
  |zero=>
    skip
    all_goals(intro _ _;intros;rename_i hm;cases hm)
  |succ n y=>
 intro H a0 a1 a2 nh k d hm;rw[ij] at hm;have e:=trivial;refine wi abi func312 [] [(6,false,[true,true,true,false,true,true,true,false,true,true,true,true,false,true,true])] 999 ?_;have⟨I,e,m⟩:=c7 e hm;have⟨t,e,m⟩:=c7 e m;have l:=HC.cS e.2;have e:=Aj e.1 l;rcases Io e m with⟨e,m⟩|⟨e,m⟩
 ·cases m;simp[e]
 rcases Io e m with⟨e,m⟩|⟨e,m⟩
 ·rcases Io e m with⟨e,m⟩|⟨e,m⟩;rotate_left
  ·have⟨J,z,e,m⟩:=gb e m;simp[e];refine Cs (ox T (H:=H) e.2) ?_;cases m;simp[e]
  have⟨K,A,e,m⟩:=gb e m;simp[e];refine Cf (zu T (H:=H) e.2) ?_;cases m;simp[e]
 simp[e];refine Wr e m 999 (λu g f h=>∃(a:Tag),(h=H++fW (List.length H) g.2/\f.1 0=kG (List.length H) a0/\f.1 1=sI a1/\f.1 2=kG (List.length H) a2/\f.1 7=sT a (kG (List.length H)) g.1/\f.1 48=sL (kG (List.length H)) t.abe/\f.1 49=sI (dm t.abe)/\f.1 50=sI u)/\Ow f [63] a g.1) (by exact⟨.full,by simp[e],iS.full⟩) (λg c o p E m=>?_) (λu B g c o p C D E e m q i=>?_)
 ·have⟨j,r⟩:=g;have⟨a,E,b⟩:=E;have e:=Aj e E;dsimp only[cQ,kC]at m;have⟨F,v,e,m⟩:=gb e m;simp[e];refine Cf (mQ T (H:=H) e.2) ?_;cases m;simp[e]
 have⟨j,r⟩:=g;have⟨a,E,b⟩:=E;have e:=Aj e E;have w:=e;dsimp only[kC]at m;have⟨G,e,m⟩:=c7 e m;simp[e];refine Cf (oP T (H:=H) e.2) ?_;have⟨s,x,e,m⟩:=gb e m;simp[e];refine Cf (y (H:=H) e.2) ?_;have⟨e,m⟩:=Ck e m;simp[e];refine Ao (f:=(kG (List.length H))) j [s] b Lg e.2 ?_;simp[e];cases m;exact i _ _ _ ⟨(.loc 63 (c.ea 63+1)),by simp[e],(On 63)⟩ q
def AF(T:dA){H:cV}{a0:Option Nat}{a1:Int}{a2:Option Nat}{nh:List HC}{b:Option Nat}{a:List HC}{n:Nat}(hm:ij n a0 a1 a2 nh=some (b,a)):dy prog T 312 [kG (List.length H) a0,sI a1,kG (List.length H) a2] (H++fW (List.length H) nh) (kG (List.length H) b) (H++fW (List.length H) a):=(y9 T n) hm
def Br(T:dA){H:cV}{a0:Option Nat}{a1:(List (Option Nat))}{nh:List HC}{d:Option Nat}{a:List HC}(hm:o6 a0 a1 nh=some (d,a)):dy prog T 313 [kG (List.length H) a0,sL (kG (List.length H)) a1] (H++fW (List.length H) nh) (kG (List.length H) d) (H++fW (List.length H) a):=by
 rw[o6] at hm;have e:=trivial;refine wi abi func313 [] [] 999 ?_;simp[e];refine Wr e hm 999 (λg s2 f h=>h=H++fW (List.length H) s2.2/\f.1 0=kG (List.length H) s2.1/\f.1 7=sL (kG (List.length H)) a1/\f.1 8=sI (dm a1)/\f.1 9=sI g) (by simp[e]) (λs2 b k l E m=>?_) (λg p s2 b k l n6 q E e m n c=>?_)
 ·have⟨v10,v11⟩:=s2;have e:=Aj e E;dsimp only[cQ,kC]at m;cases m;simp[e]
 have⟨v10,v11⟩:=s2;have e:=Aj e E;have i:=e;dsimp only[kC]at m;have⟨o,j,e,m⟩:=gb e m;simp[e];refine Cf (ox T (H:=H) e.2) ?_;simp[e];cases m;exact c _ _ _ (by simp[e]) n
def p6(T:dA){H:cV}{a0:Option Nat}{nh:List HC}{i:Option Nat}{a:List HC}(hm:gE a0 nh=some (i,a)):dy prog T 308 [kG (List.length H) a0] (H++fW (List.length H) nh) (kG (List.length H) i) (H++fW (List.length H) a):=by
 rw[gE] at hm;have e:=trivial;refine wi abi func308 [] [(3,false,[true,true,true,false,true,true,true,true,false,true,true,true,true,true,false,true,true,true,true]),(8,true,[]),(11,false,[true,true,true,true,true,true,false,true,true,true,false,true,true,true,true,true,true,true])] 999 ?_;have⟨I,e,m⟩:=c7 e hm;have⟨J,e,m⟩:=c7 e m;have g:=HC.cS e.2;have e:=Aj e.1 g;rcases Io e m with⟨e,m⟩|⟨e,m⟩
 ·have⟨K,e,m⟩:=c7 e m;have⟨L,e,m⟩:=c7 e m;have⟨M,e,m⟩:=c7 e m;have h:=HC.cS e.2;have e:=Aj e.1 h;have⟨N,e,m⟩:=c7 e m;have⟨O,e,m⟩:=c7 e m;have⟨o,j,e,m⟩:=gb e m;simp[e];refine Cs (AF T (H:=H) e.2) ?_;cases m;simp[e]
 rcases Io e m with⟨e,m⟩|⟨e,m⟩
 ·have⟨p,e,m⟩:=c7 e m;have⟨q,e,m⟩:=c7 e m;have⟨r,e,m⟩:=c7 e m;have b:=HC.cS e.2;have e:=Aj e.1 b;have⟨s,e,m⟩:=c7 e m;cases m;simp[e]
 rcases Io e m with⟨e,m⟩|⟨e,m⟩
 ·have⟨t,e,m⟩:=c7 e m;have⟨u,e,m⟩:=c7 e m;have⟨v,e,m⟩:=c7 e m;have c:=HC.cS e.2;have e:=Aj e.1 c;have⟨w,e,m⟩:=c7 e m;cases m;simp[e]
 have⟨x,e,m⟩:=c7 e m;have⟨y,e,m⟩:=c7 e m;have⟨z,e,m⟩:=c7 e m;have⟨A,e,m⟩:=c7 e m;have⟨B,e,m⟩:=c7 e m;have d:=HC.cS e.2;have e:=Aj e.1 d;rcases Io e m with⟨e,m⟩|⟨e,m⟩
 ·cases m;simp[e]
 have⟨C,e,m⟩:=c7 e m;have⟨D,k,e,m⟩:=gb e m;simp[e];refine Cs (mQ T (H:=H) e.2) ?_;have⟨E,e,m⟩:=c7 e m;have f:=HC.cS e.2;have e:=Aj e.1 f;have⟨F,l,e,m⟩:=gb e m;simp[e];refine Cf (Br T (H:=H) e.2) ?_;have⟨G,n,e,m⟩:=gb e m;simp[e];refine Cf (Br T (H:=H) e.2) ?_;cases m;simp[e]
def xS(T:dA){H:cV}{a0:Option Nat}{nh:List HC}{t:Int}{a:List HC}(hm:ku a0 nh=some (t,a)):dy prog T 307 [kG (List.length H) a0] (H++fW (List.length H) nh) (sI t) (H++fW (List.length H) a):=by
 rw[ku] at hm;have e:=trivial;refine wi abi func307 [] [(4,true,[]),(7,true,[]),(12,true,[])] 999 ?_;have⟨x1,e,m⟩:=c7 e hm;have⟨x2,e,m⟩:=c7 e m;have r:=HC.cS e.2;have e:=Aj e.1 r;rcases Io e m with⟨e,m⟩|⟨e,m⟩
 ·have⟨x4,e,m⟩:=c7 e m;have⟨x5,e,m⟩:=c7 e m;have⟨x6,e,m⟩:=c7 e m;have s:=HC.cS e.2;have e:=Aj e.1 s;have⟨x8,e,m⟩:=c7 e m;have⟨x9,e,m⟩:=c7 e m;have⟨v,e,m⟩:=c7 e m;have b:=HC.cS e.2;have e:=Aj e.1 b;have⟨w,e,m⟩:=c7 e m;simp[e];refine Cs (xT T (H:=H) e.2) ?_;have⟨x,e,m⟩:=c7 e m;have⟨y,e,m⟩:=c7 e m;have⟨z,e,m⟩:=c7 e m;have c:=HC.cS e.2;have e:=Aj e.1 c;cases m;simp[e]
 rcases Io e m with⟨e,m⟩|⟨e,m⟩
 ·have⟨A,e,m⟩:=c7 e m;have⟨B,e,m⟩:=c7 e m;have⟨C,e,m⟩:=c7 e m;have d:=HC.cS e.2;have e:=Aj e.1 d;rcases Io e m with⟨e,m⟩|⟨e,m⟩;rotate_left
  ·have⟨D,e,m⟩:=c7 e m;have⟨E,e,m⟩:=c7 e m;have⟨F,e,m⟩:=c7 e m;have f:=HC.cS e.2;have e:=Aj e.1 f;cases m;simp[e]
  have⟨G,e,m⟩:=c7 e m;have⟨I,e,m⟩:=c7 e m;have⟨J,e,m⟩:=c7 e m;have g:=HC.cS e.2;have e:=Aj e.1 g;have⟨K,e,m⟩:=c7 e m;have⟨L,e,m⟩:=c7 e m;have⟨M,e,m⟩:=c7 e m;have h:=HC.cS e.2;have e:=Aj e.1 h;have⟨N,e,m⟩:=c7 e m;have⟨O,e,m⟩:=c7 e m;have⟨P,e,m⟩:=c7 e m;have i:=HC.cS e.2;have e:=Aj e.1 i;cases m;simp[e]
 rcases Io e m with⟨e,m⟩|⟨e,m⟩;rotate_left
 ·have⟨Q,u,e,m⟩:=gb e m;simp[e];refine Cf (p6 T (H:=H) e.2) ?_;have⟨R,e,m⟩:=c7 e m;have⟨S,e,m⟩:=c7 e m;have j:=HC.cS e.2;have e:=Aj e.1 j;cases m;simp[e]
 have⟨U,e,m⟩:=c7 e m;have⟨V,e,m⟩:=c7 e m;have⟨W,e,m⟩:=c7 e m;have k:=HC.cS e.2;have e:=Aj e.1 k;rcases Io e m with⟨e,m⟩|⟨e,m⟩;rotate_left
 ·have⟨X,e,m⟩:=c7 e m;have⟨Y,e,m⟩:=c7 e m;have⟨Z,e,m⟩:=c7 e m;have l:=HC.cS e.2;have e:=Aj e.1 l;cases m;simp[e]
 have⟨aa,e,m⟩:=c7 e m;have⟨ab,e,m⟩:=c7 e m;have⟨ad,e,m⟩:=c7 e m;have n:=HC.cS e.2;have e:=Aj e.1 n;have⟨ae,e,m⟩:=c7 e m;have⟨af,e,m⟩:=c7 e m;have⟨ah,e,m⟩:=c7 e m;have o:=HC.cS e.2;have e:=Aj e.1 o;have⟨ai,e,m⟩:=c7 e m;have⟨aj,e,m⟩:=c7 e m;have⟨ak,e,m⟩:=c7 e m;have p:=HC.cS e.2;have e:=Aj e.1 p;have⟨al,e,m⟩:=c7 e m;have⟨an,e,m⟩:=c7 e m;have⟨ao,e,m⟩:=c7 e m;have q:=HC.cS e.2;have e:=Aj e.1 q;cases m;simp[e]
def xa(T:dA){H:cV}{a0:Option Nat}{nh:List HC}{a:Int}(hm:mR a0 nh=some a):dy prog T 307 [kG (List.length H) a0] (H++fW (List.length H) nh) (sI a) (H++fW (List.length H) nh):=by
 have⟨r,c,b,d⟩:=gK hm;obtain rfl:=gk d;obtain⟨X,rfl⟩:=yy b;exact ej.ur (xS T b) (λ_ _ h=>⟨fW (List.length H) X,by rw[h.2];simp[s7],by rw[h.1];rfl,h.1,rfl⟩)
def Mg:rh prog 300=true:=by kernel_rfl
def ym(T:dA):∀(n:Nat),(∀{H:cV} {a0:Option Nat} {a1:Int} {nh:List HC} {r0:Option Nat} {r1:Int} {al:List HC} (hm:hD n a0 a1 nh=some (r0,r1,al)),dy prog T 300 [kG (List.length H) a0,sI a1] (H++fW (List.length H) nh) (AV.tuple [kG (List.length H) r0,sI r1]) (H++fW (List.length H) al)):=by
  intro n
  induction n with
  |zero=>
    skip
    all_goals(intro _ _;intros;rename_i hm;cases hm)
  |succ n ih=>
 intro H a0 a1 nh r0 r1 al hm;rw[hD] at hm;refine ej.intro (fn:=f300) func300 rfl Mg (SC rfl) ?_;refine g_.sr [] λK1 bs=>?_;simp;apply bs;refine g_.AU λK3 bt=>?_;refine g_.sr [] λK5 bu=>?_;have⟨x7,j,an⟩:=dj hm;clear hm
 try dsimp only at an
 have⟨C,a,K⟩:=dj an;replace a:=HC.cS a;clear an
 try dsimp only at K
 simp[j,a];apply bu;refine g_.A' λb6 b7 aU aV=>?_;rcases ik K with⟨b,aa⟩|⟨b,ab⟩
 ·clear K;simp[j,a,b];apply aU;refine g_.sr [] λb8 aW=>?_;simp[j,a,b];apply aW;refine g_.ret ?_;simp only[u6,MZ] at aa;obtain⟨rfl,rfl,rfl⟩:=aa;simp[wm,j,a,b]
 clear K;simp[j,a,b];apply aV;refine g_.skip ?_;apply bt;refine g_.AU λb9 aX=>?_;refine g_.sr [] λb_ aY=>?_;have⟨b',aZ,M⟩:=dj ab;clear ab
 try dsimp only at M
 simp[j,a,b];refine mb.fn (sd T (H:=H) aZ) ?_;simp[j,a,b];apply aY;refine g_.A' λca cb a6 a7=>?_;rcases ik M with⟨c,ad⟩|⟨c,ae⟩
 ·clear M;simp[j,a,b,c];apply a6;refine g_.AU λcc a8=>?_;refine g_.AU λcd a_=>?_;refine g_.QS [] true abi (by decide+kernel) (by decide+kernel) ?_;have⟨cf,a',N⟩:=dj ad;clear ad
  try dsimp only at N
  simp[j,a,b,c];refine y0.fn (xa T (H:=H) a') (by simp) ?_;simp[j,a,b,c];apply a_;refine g_.A' λcg ch ba bb=>?_;rcases ik N with⟨w,af⟩|⟨w,ah⟩
  ·clear N;simp[j,a,b,c,w];apply ba;refine g_.sr [] λcj bc=>?_;simp[j,a,b,c,w];apply bc;refine g_.ret ?_;simp only[u6,MZ] at af;obtain⟨rfl,rfl,rfl⟩:=af;simp[wm,j,a,b,c,w]
  clear N;simp[j,a,b,c,w];apply bb;refine g_.skip ?_;apply a8;refine g_.sr [] λck bd=>?_;have⟨cl,bC,bf,P⟩:=gK ah;clear ah
  try dsimp only at P
  simp[j,a,b,c,w];refine mb.fn (p6 T (H:=H) bf) ?_;simp[j,a,b,c,w];apply bd;refine g_.ret ?_;simp only[u6,MZ] at P;obtain⟨rfl,rfl,rfl⟩:=P;simp[wm,j,a,b,c,w]
 clear M;simp[j,a,b,c];apply a7;refine g_.skip ?_;apply aX;refine g_.AU λcm bg=>?_;refine g_.sr [] λcn bh=>?_;simp[j,a,b,c];apply bh;have⟨ao,ai⟩:=nq ae;clear ae;have⟨bw,bj,Q⟩:=oL ai;clear ai
 try dsimp only at Q
 have⟨aq,y,s⟩:=dj Q;clear Q;refine g_.OT λcp bD bk bE aj=>?_;refine g_.Rk (λn75 fr h=>∃(i76:Nat) (R:Int) (O:List HC),H++fW (List.length H) O=h/\(fr.env 0=kG (List.length H) a0/\fr.env 1=sI a1/\fr.env 31=sL (kG (List.length H)) C.abe/\fr.env 32=sI (dm C.abe)/\fr.env 33=sI R)/\R=(i76:Int)/\i76+n75=List.length C.abe/\dH bw (List.drop i76 C.abe) i76 O=some aq) (List.length C.abe) ?_ ?_
 ·refine⟨0,0,nh,?_,⟨?_,?_,?_,?_,?_⟩,rfl,(by simp),y⟩<;>first|rfl|simp[j,a,b,c]
 rintro n75 bl cq ⟨i76,R,O,rfl,p,D,bF,y⟩ cr bm;rcases n75 with _|n75
 ·have e:=NQ (l:=C.abe) D (by omega);refine g_.sr [] λcu bn=>?_;simp[p,j,a,e,b,c];apply bn;refine g_.AU λcv bG=>?_;refine g_.A' λcw cx bH bo=>?_;simp[p,j,a,e,b,c];apply bo;refine g_.exit ?_;apply bk;rw[IT (by omega),oA] at y;obtain rfl:=gk y;rw[cQ] at s
  try dsimp only at s
  apply bg;refine g_.sr [] λcy bp=>?_;have⟨t,z,S⟩:=dj s;replace z:=HC.cS z;clear s
  try dsimp only at S
  have U:fu (fW (List.length H) O) x7 [sI t.abd,sI t.abg,sI t.nU.abd,sL Ty.av t.nU.abe,sL (kG (List.length H)) t.abe,sI t.size,sI t.free,sB true]=fW (List.length H) (iF O x7 (HC.dn (di.mk t.abd t.abg t.nU t.abe t.size t.free true))):=nx rfl;have V:(iF O x7 (HC.dn (di.mk t.abd t.abg t.nU t.abe t.size t.free true)))[x7]?=some (HC.dn (di.mk t.abd t.abg t.nU t.abe t.size t.free true)):=sX z;simp[p,j,a,e,z,U,V,b,c];apply bp;refine g_.sr [] λbI ar=>?_;simp[p,j,a,e,z,U,V,b,c];apply ar;refine g_.ret ?_;simp only[u6,MZ] at S;obtain⟨rfl,rfl,rfl⟩:=S;simp[wm,p,j,a,e,z,U,V,b,c]
 have e:=QU (l:=C.abe) D (by omega);have⟨bJ,au,i⟩:=OR (l:=C.abe) D (by omega);rw[au,dC] at y;have⟨bK,A,v⟩:=dj y;clear y;rw[bj,<-D] at A
 try dsimp only at A
 refine g_.sr [] λbL aw=>?_;simp[p,j,a,e,i,b,c];apply aw;refine g_.AU λbM ax=>?_;refine g_.A' λbN bO ay bx=>?_;simp[p,j,a,e,i,b,c];apply ay;refine g_.skip ?_;apply ax;refine g_.AU λbP az=>?_;refine g_.OT λbQ aA bz bA W=>?_;refine g_.sr [] λbR aB=>?_;simp[p,j,a,e,i,b,c];apply aB;refine g_.sr [] λbS aC=>?_;have⟨ak,bT,aD,aE,B⟩:=CU A;clear A
 try dsimp only at B
 simp[p,j,a,e,i,b,c];refine mb.fn (ih (H:=H) aE) ?_;simp[p,j,a,e,i,b,c];apply aC;refine g_.AU λbU aF=>?_;refine g_.sr [] λbV aG=>?_;simp[p,j,a,e,i,b,c];apply aG;refine g_.A' λbW bX aH aI=>?_;rcases ik B with⟨m,aJ⟩|⟨m,F⟩
 ·clear B;simp[p,j,a,e,i,b,c,m];apply aH;refine g_.sr [] λbY aK=>?_;simp[p,j,a,e,i,b,c,m];apply aK;refine g_.ret ?_;apply W;apply aj;obtain rfl:=gk aJ;rw[yZ] at v;obtain rfl:=gk v;rw[oi] at s
  try dsimp only at s
  simp only[u6,MZ] at s;obtain⟨rfl,rfl,rfl⟩:=s;simp[wm,p,j,a,e,i,b,c,m]
 clear B;simp[p,j,a,e,i,b,c,m];apply aI;refine g_.skip ?_;apply aF;refine g_.sr [] λbZ aL=>?_;simp[p,j,a,e,i,b,c,m];apply aL;refine g_.A' λb0 b1 aM aN=>?_;rcases ik F with⟨o,X⟩|⟨o,aO⟩;rotate_left
 ·clear F;simp[p,j,a,e,i,b,c,m,o];apply aN;refine g_.skip ?_;apply aA;apply az;refine g_.region [] (by decide+kernel) ?_;simp[p,j,a,e,i,b,c,m,o];obtain rfl:=gk aO;rw[dL] at v
  refine bm _ _ n75 (XY _) ⟨(i76+1),(dB .i64 R 1),aD,?_,⟨?_,?_,?_,?_,?_⟩,(MI D (by omega) ao),(by omega),v⟩<;>first|rfl|simp[p,j,a,e,i,b,c,m,o]
 clear F;simp[p,j,a,e,i,b,c,m,o];apply aM;refine g_.sr [] λb2 aP=>?_;have⟨E,q,G⟩:=dj X;replace q:=HC.cS q;clear X
 try dsimp only at G
 have⟨aQ,Y⟩:=nq G;clear G;simp[p,j,a,e,i,q,b,c,m,o];refine uQ.Z9 (f:=(kG (List.length H))) E.abe Lg ⟨_,Ql⟩ (by intro x;simp) aQ (by first|rfl|simp) (by first|rfl|simp) λI bq=>?_;simp[p,j,a,e,i,q,b,c,m,o];apply aP;refine g_.sr [] λb3 aR=>?_;have⟨br,r,J⟩:=dj Y;clear Y
 try dsimp only at J
 have u:=JV r;simp[p,j,a,e,i,q,r,u,b,c,m,o];refine Hb.arr (f:=(kG (List.length H))) (L:=E.abe) (k:=((I-List.length E.abe)*1)) ak Tf (by intro x;simp) (by simp[p,j,a,e,i,q,r,u,b,c,m,o]) (x:=br) (by assumption) (by simp[p,j,a,e,i,q,r,u,b,c,m,o]) (by simp[p,j,a,e,i,q,r,u,b,c,m,o]) (by simp[p,j,a,e,i,q,r,u,b,c,m,o]) ?_;simp[p,j,a,e,i,q,r,u,b,c,m,o];apply aR;refine g_.AU λb4 aS=>?_;refine g_.Zf 10 (f:=(kG (List.length H))) (L:=(yH E.abe R ak)) (k:=((I-List.length E.abe)*1)) (sz:=1) (d:=53) (g:=(bl.gen 53+1)) (cap:=I) (by intro x;simp) (by intro x;simp) (by simp[p,j,a,e,i,q,r,u,b,c,m,o]) (by simp[p,j,a,e,i,q,r,u,b,c,m,o]) (by simp[p,j,a,e,i,q,r,u,b,c,m,o]) ?_;refine g_.region [] (by decide+kernel) ?_;have⟨b5,bB,aT,Z⟩:=gK J;clear J
 try dsimp only at Z
 simp[p,j,a,e,i,q,r,u,b,c,m,o];refine mb.fn (mQ T (H:=H) aT) ?_;simp[p,j,a,e,i,q,r,u,b,c,m,o];apply aS;refine g_.ret ?_;apply W;apply aj;obtain rfl:=gk Z;rw[yZ] at v;obtain rfl:=gk v;rw[oi] at s
 try dsimp only at s
 simp only[u6,MZ] at s;obtain⟨rfl,rfl,rfl⟩:=s;simp[wm,p,j,a,e,i,q,r,u,b,c,m,o]
def zp(T:dA){H:cV}{a0:Option Nat}{a1:Int}{nh:List HC}{b:Option Nat}{c:Int}{a:List HC}{n:Nat}(hm:hD n a0 a1 nh=some (b,c,a)):dy prog T 300 [kG (List.length H) a0,sI a1] (H++fW (List.length H) nh) (AV.tuple [kG (List.length H) b,sI c]) (H++fW (List.length H) a):=(ym T n) hm
def xo(T:dA){H:cV}{a0:Option Nat}{nh:List HC}{r:Bool}{s:Int}{j:List HC}(hm:h6 a0 nh=some (r,s,j)):dy prog T 282 [kG (List.length H) a0] (H++fW (List.length H) nh) (AV.tuple [sB r,sI s]) (H++fW (List.length H) j):=by
 rw[h6] at hm;have e:=trivial;refine wi abi func282 [] [(1,true,[true,true,true,true,true,true,true,true,true,true,false,true,true,true,true,true])] 5 ?_;have⟨d,e,m⟩:=c7 e hm;have⟨v,e,m⟩:=c7 e m;have p:=HC.eV e.2;have e:=Aj e.1 p;have⟨w,e,m⟩:=c7 e m;simp[e];refine Cs (yR T (H:=H) e.2) ?_;have⟨c,q,b,e,m⟩:=XF e m;simp[e];refine yK.fn (zp T (H:=H) e.2) ?_;simp[e];refine wj 999 999 (λf h=>h=H++fW (List.length H) b/\f.1 0=kG (List.length H) a0/\f.1 4=kG (List.length H) c/\f.1 5=sI q/\f.1 25=sB (ew (dr q 0) true (Option.isNone c))) (λx k=>?_) ?_
 ·rcases Pb (dr q 0) e with e|e
  ·simp[e];exact k _ _ (by simp[e])
  simp[e];exact k _ _ (by simp[e])
 rintro t u E;have e:=Aj e E;rcases Io e m with⟨e,m⟩|⟨e,m⟩
 ·cases m;simp[e]
 have⟨a,e,m⟩:=c7 e m;have g:=HC.eV e.2;have e:=Aj e.1 g;have l:fu (fW (List.length H) b) d [kG (List.length H) c,sI a.steps]=fW (List.length H) (iF b d (HC.en (eb.mk c a.steps))):=nx rfl;have e:=Aj e l;have i:(iF b d (HC.en (eb.mk c a.steps)))[d]?=some (HC.en (eb.mk c a.steps)):=sX g;have e:=Aj e i;have n:fu (fW (List.length H) (iF b d (HC.en (eb.mk c a.steps)))) d [kG (List.length H) c,sI (dB .i64 a.steps 1)]=fW (List.length H) (iF (iF b d (HC.en (eb.mk c a.steps))) d (HC.en (eb.mk c (dB .i64 a.steps 1)))):=nx rfl;have e:=Aj e n;have o:(iF (iF b d (HC.en (eb.mk c a.steps))) d (HC.en (eb.mk c (dB .i64 a.steps 1))))[d]?=some (HC.en (eb.mk c (dB .i64 a.steps 1))):=sX i;have e:=Aj e o;cases m;simp[e]
def yb(T:dA):∀(n:Nat),(∀{H:cV} {a0:Option Nat} {nh:List HC} {l:Tm} (hm:gw n a0 nh=some l),dy prog T 283 [kG (List.length H) a0] (H++fW (List.length H) nh) (Tm.av l) (H++fW (List.length H) nh)):=by
  intro n
  induction n with
  |zero=>
   skip
   all_goals(intro _ _;intros;rename_i hm;cases hm)
  |succ n t=>
 intro H a0 nh l hm;rw[gw] at hm;have e:=trivial;refine wi abi func283 [] [(1,true,[])] 999 ?_;have⟨y,e,m⟩:=c7 e hm;have⟨k,e,m⟩:=c7 e m;have o:=HC.cS e.2;have e:=Aj e.1 o;have⟨q,e,m⟩:=c7 e m;simp[e];refine Cs (py e.2) ?_;simp[e];refine Wr e m 999 (λr g f h=>∃(a:Tag) (b:Nat) (c:Nat),(h=H++fW (List.length H) nh/\f.1 2=AV.dc 2 b 0/\f.1 3=AV.dc 3 c 0/\f.1 23=sL (kG (List.length H)) k.abe/\f.1 24=sI (dm k.abe)/\f.1 25=sI r/\f.gen 2=b/\f.box 2=some [sI 0,sI 0,sI 0,AV.slice .full [],AV.slice .full []]/\f.gen 3=c/\f.box 3=some [sI k.abd,sI k.abg,sI q.abd,sL Ty.av q.abe,sT a Tm.av g])/\Ow f [34] a g) (by exact⟨.full,1,1,by simp[e],iS.full⟩) (λg i u v E m=>?_) (λr z g i u v w x E e m z12 j=>?_)
 ·have⟨a,b,c,E,d⟩:=E;have e:=Aj e E;dsimp only[cQ]at m;cases m;simp[e]
 have⟨a,b,c,E,d⟩:=E;have e:=Aj e E;have s:=e;have⟨p,e,m⟩:=c7 e m;simp[e];refine Cs (t (H:=H) e.2) ?_;have⟨e,m⟩:=Ck e m;simp[e];refine Ad (f:=Tm.av) g [p] d C7 e.2 ?_;simp[e];cases m;exact j _ _ _ ⟨(.loc 34 (i.ea 34+1)),b,c,by simp[e],(On 34)⟩ z12
def s8(T:dA){H:cV}{a0:Option Nat}{nh:List HC}{a:Tm}{n:Nat}(hm:gw n a0 nh=some a):dy prog T 283 [kG (List.length H) a0] (H++fW (List.length H) nh) (Tm.av a) (H++fW (List.length H) nh):=(yb T n) hm
def wk(T:dA):∀(n:Nat),(∀{H:cV} {a0:Option Nat} {nh:List HC} {l:Bool} {c:List HC} (hm:gR n a0 nh=some (l,c)),dy prog T 284 [kG (List.length H) a0] (H++fW (List.length H) nh) (sB l) (H++fW (List.length H) c)):=by
  intro n
  induction n with
  |zero=>
    skip
    all_goals(intro _ _;intros;rename_i hm;cases hm)
  |succ n u=>
 intro H a0 nh l c hm;rw[gR] at hm;have e:=trivial;refine wi abi func284 [] [] 999 ?_;have⟨k,e,m⟩:=c7 e hm;have⟨q,e,m⟩:=c7 e m;have o:=HC.cS e.2;have e:=Aj e.1 o;rcases Io e m with⟨e,m⟩|⟨e,m⟩
 ·cases m;simp[e]
 have⟨A,e,m⟩:=c7 e m;simp[e];refine Cf (sd T (H:=H) e.2) ?_;rcases Io e m with⟨e,m⟩|⟨e,m⟩
 ·cases m;simp[e]
 simp[e];refine Wr e m 999 (λr d f h=>h=H++fW (List.length H) d/\f.1 0=kG (List.length H) a0/\f.1 14=sL (kG (List.length H)) q.abe/\f.1 15=sI (dm q.abe)/\f.1 16=sI r) (by simp[e]) (λd p v w E m=>?_) (λr B d p v w x y E e m z12 g=>?_);rotate_left
 ·have e:=Aj e E;have s:=e;have⟨z,t,e,m⟩:=gb e m;simp[e];refine Cf (u (H:=H) e.2) ?_;rcases Io e m with⟨e,m⟩|⟨e,m⟩;rotate_left
  ·cases m;cases z12;simp[e]
  simp[e];cases m;exact g _ _ _ (by simp[e]) z12
 have e:=Aj e E;dsimp only[cQ]at m;have⟨a,e,m⟩:=c7 e m;have b:=HC.cS e.2;have e:=Aj e.1 b;have i:fu (fW (List.length H) d) k [sI a.abd,sI a.abg,sI a.nU.abd,sL Ty.av a.nU.abe,sL (kG (List.length H)) a.abe,sI a.size,sI a.free,sB true]=fW (List.length H) (iF d k (HC.dn (di.mk a.abd a.abg a.nU a.abe a.size a.free true))):=nx rfl;have e:=Aj e i;have j:(iF d k (HC.dn (di.mk a.abd a.abg a.nU a.abe a.size a.free true)))[k]?=some (HC.dn (di.mk a.abd a.abg a.nU a.abe a.size a.free true)):=sX b;have e:=Aj e j;cases m;simp[e]
def xf(T:dA){H:cV}{a0:Option Nat}{nh:List HC}{b:Bool}{a:List HC}{n:Nat}(hm:gR n a0 nh=some (b,a)):dy prog T 284 [kG (List.length H) a0] (H++fW (List.length H) nh) (sB b) (H++fW (List.length H) a):=(wk T n) hm
def qZ(T:dA)(z:nb T){H:cV}{a0:Tm}{a1:Int}{u:Tm}{v:Int}{w:Int}(hm:iU a0 a1=some (u,v,w)):dy prog T 249 [Tm.av a0,sI a1] H (AV.tuple [Tm.av u,sI v,sI w]) H:=by
 rw[iU] at hm;refine ej.ur (Post:=λx K=>x=AV.tuple [Tm.av u,sI v,sI w]/\∃X,K=H++X) ?_ (λ_ _ h=>⟨_,h.2.choose_spec,by rw[h.1];simp[AV.low,AV.hS],h.1,rfl⟩);refine ej.Yi (c:=HC.cells) ?_;have e:=z;refine wi abi func249 [32] [(12,true,[]),(15,true,[])] 7 ?_;have⟨Y,e,m⟩:=c7 e hm;simp[e];refine Cf (td T z e.2) ?_;simp[e];rcases Io e m with⟨e,m⟩|⟨e,m⟩
 ·apply wg 999;cases m;simp[e]
 apply wg 3;simp[e];refine Wj m 999 999 (λA f h=>∃(v3:Bool) (d:Nat) (b:Nat),(h=H++fW (List.length H) ([]:List HC)/\f.1 1=sI a1/\f.1 2=AV.dc 2 d 0/\f.1 4=AV.dc 4 b 0/\f.1 27=sB v3/\f.gen 2=d/\f.box 2=some [sI a0.abd,sI a0.abg,sI a0.cD.abd,sL Ty.av a0.cD.abe,sL Tm.av a0.abe]/\f.gen 4=b/\f.box 4=some [sI 0,sI 0,sI 0,AV.slice .full [],AV.slice .full []])/\A v3=some (u,v,w)) (λA Z j m=>?_) ?_
 ·rcases Io e m with⟨e,m⟩|⟨e,m⟩
  ·simp[e];exact j _ _ ⟨true,1,1,by simp[e],m⟩
  rcases Io e m with⟨e,m⟩|⟨e,m⟩
  ·simp[e];exact j _ _ ⟨true,1,1,by simp[e],m⟩
  have⟨F,e,m⟩:=c7 e m;simp[e];refine Cf (HU T e.2) ?_;simp[e];exact j _ _ ⟨(k4 F),1,1,by simp[e],m⟩
 rintro G h7 ⟨v3,d,b,E,m⟩;have e:=Aj e E;rcases Io e m with⟨e,m⟩|⟨e,m⟩
 ·cases m;simp[e]
 have⟨y,g,e,m⟩:=gb e m;simp[e];refine Cf (Ho T (H:=H) e.2) ?_;have k:fW (List.length H) g++[[kG (List.length H) y,sI 0]]=fW (List.length H) (g++[HC.en (eb.mk y 0)]):=FG rfl;have e:=Aj e k;have l:(g++[HC.en (eb.mk y 0)])[(List.length g)]?=some (HC.en (eb.mk y 0)):=Li;have e:=Aj e l;simp[e];refine Wn m 3 (λn f h=>∃(a:Nat),h=H++fW (List.length H) n/\f.1 1=sI a1/\f.1 4=AV.dc 4 a 0/\f.1 8=AV.ei (List.length H+(List.length g)) 0/\f.gen 4=a/\f.box 4=some [sI 0,sI 0,sI 0,AV.slice .full [],AV.slice .full []]) ⟨b,by simp[e]⟩ (λn B I J L M E m i o=>?_);have⟨a,E⟩:=E;have e:=Aj e E;have p:=e;have⟨N,e,m⟩:=c7 e m;have q:=HC.eV e.2;have e:=Aj e.1 q;simp[e];rcases Io e m with⟨e,m⟩|⟨e,m⟩
 ·apply wg 999;have⟨O,P,C,e,m⟩:=XF e m;simp[e];refine Cf (xo T (H:=H) e.2) ?_;rcases Io e m with⟨e,m⟩|⟨e,m⟩
  ·cases m;cases i;simp[e]
  rcases Io e m with⟨e,m⟩|⟨e,m⟩
  ·simp[e];cases m;exact o _ _ _ ⟨a,by simp[e]⟩ i
  have⟨Q,e,m⟩:=c7 e m;have r:=HC.eV e.2;have e:=Aj e.1 r;have⟨R,e,m⟩:=c7 e m;simp[e];refine Cs (s8 T (H:=H) e.2) ?_;cases m;cases i;simp[e]
 apply wg 2;simp[e];cases m;have m:=Qb i
 try dsimp only at m
 have e:=p;apply wg 999;have⟨S,e,m⟩:=c7 e m;have s:=HC.eV e.2;have e:=Aj e.1 s;have⟨U,D,e,m⟩:=gb e m;simp[e];refine Cf (xf T (H:=H) e.2) ?_;rcases Io e m with⟨e,m⟩|⟨e,m⟩;rotate_left
 ·cases m;simp[e]
 have⟨V,e,m⟩:=c7 e m;have t:=HC.eV e.2;have e:=Aj e.1 t;have⟨W,e,m⟩:=c7 e m;simp[e];refine Cs (s8 T (H:=H) e.2) ?_;cases m;simp[e]
def Dh(T:dA)(a:nb T){H:cV}{a0:Tm}{a1:Tm}{a2:Int}{b:Int}(hm:jF a0 a1 a2=some b):dy prog T 231 [Tm.av a0,Tm.av a1,sI a2] H (sI b) H:=by
 rw[jF] at hm;have e:=a;refine wi abi func231 [] [] 999 ?_;have⟨d,e,m⟩:=c7 e hm;simp[e];refine Cf (td T a e.2) ?_;rcases Io e m with⟨e,m⟩|⟨e,m⟩
 ·cases m;simp[e]
 have⟨f,e,m⟩:=c7 e m;simp[e];refine Cf (td T a e.2) ?_;rcases Io e m with⟨e,m⟩|⟨e,m⟩
 ·cases m;simp[e]
 have⟨g,e,m⟩:=c7 e m;simp[e];refine Cf (zl e.2) ?_;rcases Io e m with⟨e,m⟩|⟨e,m⟩
 ·cases m;simp[e]
 have⟨h,i,j,e,m⟩:=XF e m;simp[e];refine Cf (qZ T a e.2) ?_;rcases Io e m with⟨e,m⟩|⟨e,m⟩
 ·cases m;simp[e]
 have⟨k,l,n,e,m⟩:=XF e m;simp[e];refine Cf (qZ T a e.2) ?_;rcases Io e m with⟨e,m⟩|⟨e,m⟩
 ·cases m;simp[e]
 have⟨c,e,m⟩:=c7 e m;simp[e];refine Cf (zl e.2) ?_;rcases Io e m with⟨e,m⟩|⟨e,m⟩
 ·cases m;simp[e]
 cases m;simp[e]
def AZ(T:dA)(x:nb T):∀(n:Nat),(∀{H:cV} {a0:Fm} {a1:Fm} {s:Int} (hm:hE n a0 a1=some s),dy prog T 169 [Fm.av a0,Fm.av a1] H (sI s) H):=by
  intro n
  induction n with
  |zero=>
    skip
    all_goals(intro _ _;intros;rename_i hm;cases hm)
  |succ n B=>
 intro H a0 a1 s hm;rw[hE] at hm;have e:=x;refine wi abi func169 [] [] 3 ?_;simp[e];refine Wj hm 999 999 (λy f h=>∃(v2:Bool) (d:Nat) (g:Nat),(h=H/\f.1 2=AV.dc 2 d 0/\f.1 3=AV.dc 3 g 0/\f.1 23=sB v2/\f.gen 2=d/\f.box 2=some [sI a0.abd,sI a0.cD.abd,sL Ty.av a0.cD.abe,sL Tm.av a0.cU,sL Fm.av a0.abe]/\f.gen 3=g/\f.box 3=some [sI a1.abd,sI a1.cD.abd,sL Ty.av a1.cD.abe,sL Tm.av a1.cU,sL Fm.av a1.abe])/\y v2=some s) (λy R i m=>?_) ?_
 ·rcases Io e m with⟨e,m⟩|⟨e,m⟩
  ·simp[e];exact i _ _ ⟨true,1,1,by simp[e],m⟩
  have⟨C,e,m⟩:=c7 e m;simp[e];refine Cf (mD e.2) ?_;simp[e];exact i _ _ ⟨(k4 C),1,1,by simp[e],m⟩
 rintro D S ⟨v2,d,g,E,m⟩;have e:=Aj e E;rcases Io e m with⟨e,m⟩|⟨e,m⟩
 ·cases m;simp[e]
 simp[e];refine Wr e m 999 (λz A f h=>∃(c:Nat) (b:Nat),h=H/\f.1 2=AV.dc 2 c 0/\f.1 3=AV.dc 3 b 0/\f.1 25=sL Tm.av a0.cU/\f.1 26=sI (dm a0.cU)/\f.1 27=sI z/\f.gen 2=c/\f.box 2=some [sI a0.abd,sI a0.cD.abd,sL Ty.av a0.cD.abe,sL Tm.av a0.cU,sL Fm.av a0.abe]/\f.gen 3=b/\f.box 3=some [sI a1.abd,sI a1.cD.abd,sL Ty.av a1.cD.abe,sL Tm.av a1.cU,sL Fm.av a1.abe]) ⟨d,g,by simp[e]⟩ (λA t F u E m=>?_) (λz G A t F u I J E e m j k=>?_);rotate_left
 ·have⟨c,b,E⟩:=E;have e:=Aj e E;have⟨K,e,m⟩:=c7 e m;have⟨L,e,m⟩:=c7 e m;simp[e];refine Cs (Dh T x e.2) ?_;rcases Io e m with⟨e,m⟩|⟨e,m⟩
  ·cases m;cases j;simp[e]
  simp[e];cases m;exact k _ _ _ ⟨c,b,by simp[e]⟩ j
 have⟨c,b,E⟩:=E;have e:=Aj e E;dsimp only[cQ]at m;simp[e];refine Wr e m 999 (λl o f h=>∃(a:Nat),h=H/\f.1 3=AV.dc 3 a 0/\f.1 44=sL Fm.av a0.abe/\f.1 45=sI (dm a0.abe)/\f.1 46=sI l/\f.gen 3=a/\f.box 3=some [sI a1.abd,sI a1.cD.abd,sL Ty.av a1.cD.abe,sL Tm.av a1.cU,sL Fm.av a1.abe]) ⟨b,by simp[e]⟩ (λo p v w E m=>?_) (λl M o p v w N O E e m q r=>?_)
 ·have⟨a,E⟩:=E;have e:=Aj e E;dsimp only[cQ]at m;cases m;simp[e]
 have⟨a,E⟩:=E;have e:=Aj e E;have⟨P,e,m⟩:=c7 e m;have⟨Q,e,m⟩:=c7 e m;simp[e];refine Cs (B e.2) ?_;rcases Io e m with⟨e,m⟩|⟨e,m⟩
 ·cases m;cases q;simp[e]
 simp[e];cases m;exact r _ _ _ ⟨a,by simp[e]⟩ q
def B6(T:dA)(b:nb T){H:cV}{a0:Fm}{a1:Fm}{a:Int}{n:Nat}(hm:hE n a0 a1=some a):dy prog T 169 [Fm.av a0,Fm.av a1] H (sI a) H:=(AZ T b n) hm
def qY(T:dA)(a:nb T){H:cV}{a0:Fm}{a1:Fm}{b:Int}(hm:gB a0 a1=some b):dy prog T 107 [Fm.av a0,Fm.av a1] H (sI b) H:=by
 rw[gB] at hm;have e:=a;refine wi abi func107 [] [] 999 ?_;have⟨c,e,m⟩:=c7 e hm;simp[e];refine Cf (mC T a e.2) ?_;rcases Io e m with⟨e,m⟩|⟨e,m⟩
 ·cases m;simp[e]
 have⟨d,e,m⟩:=c7 e m;simp[e];refine Cf (mC T a e.2) ?_;rcases Io e m with⟨e,m⟩|⟨e,m⟩
 ·cases m;simp[e]
 have⟨f,e,m⟩:=c7 e m;simp[e];refine Cf (B6 T a e.2) ?_;cases m;simp[e]
def nc:C2 prog 194 eg cJ.av cJ.av (sL Ty.av):=by
 intro T H a0 a1 r hm;rw[eg] at hm;have e:=trivial;refine wi abi func194 [] [] 999 ?_;have⟨a,e,m⟩:=c7 e hm;simp[e];refine Cf (kK e.2) ?_;cases m;simp[e]
def pO:C3 prog 195 il Fm.av sI Ty.av Fm.av:=by
 intro T H a0 a1 a2 r hm;rw[il] at hm;have e:=trivial;refine wi abi func195 [] [] 999 ?_;have e:=Aj e (show AV.agg [sI a0,sI a1.abd,sL Ty.av a1.abe,AV.slice .eh [],AV.slice .eh [Fm.av a2]]=Fm.av (Fm.mk a0 a1 [] [a2]) by rw[Fm.ey];rfl);have e:=Aj e (show AV.agg [sI a0,sI a1.abd,sL Ty.av a1.abe,AV.slice .eh [],AV.slice .eh [Fm.av a2]]=Fm.av (Fm.mk a0 a1 [] [a2]) by rw[Fm.ey];rfl);cases hm;simp[e]
def mg:C2 prog 196 dS (λn=>AV.sc (Value.int .u32 n)) (λn=>AV.sc (Value.int .u32 n)) sI:=by
 intro T H a0 a1 r hm;rw[dS] at hm;have e:=trivial;refine wi abi func196 [] [] 999 ?_;have⟨e,m⟩:=Ck e hm;cases m;simp[e]
def B1(T:dA){H:cV}{a0:Int}{a1:Int}{a:Int}{b:Int}{q0:Nat}(c:H[q0]?=some [AV.sc (.int .u32 a)])(hm:lv a0 a1 a=some b):dy prog T 244 [sI a0,sI a1,AV.ei q0 0] H (AV.tuple []) (fu H q0 [AV.sc (.int .u32 b)]):=by
 rw[lv] at hm;have d:=eP c;refine ej.L7 c ?_;have e:=d;refine wi abi func244 [] [(1,false,[false,true,true,true,true,true,false])] 999 ?_;rcases Io e hm with⟨e,m⟩|⟨e,m⟩;rotate_left
 ·cases m;simp[e]
 have⟨e,m⟩:=Ck e m;cases m;simp[e]
def tn(T:dA){H:cV}{a0:Tm}{a:Int}(hm:iN a0=some a):dy prog T 198 [Tm.av a0] H (AV.sc (.int .u32 a)) H:=by
 rw[iN] at hm;refine ej.ur (Post:=λx K=>x=AV.sc (.int .u32 a)/\∃X,K=H++X) ?_ (λ_ _ h=>⟨_,h.2.choose_spec,by rw[h.1];simp[AV.low,AV.hS],h.1,rfl⟩);have e:=trivial;refine wi abi func198 [3] [] 999 ?_;have⟨s1,e,m⟩:=c7 e hm;simp[e];refine Cf (vS T (st:=λs:Int=>H++[[AV.sc (.int .u32 s)]]) (yw.Nb H (λs:Int=>[[AV.sc (.int .u32 s)]]) 1 (λ_=>rfl) (by simp[AV.low,AV.hS])) (λX s _ _ b h=>by have:=B1 T (H:=H++[[AV.sc (.int .u32 s)]]++X) (q0:=(List.length H)) (by simp[e]) h;simpa using this) e.2) ?_;cases m;simp[e]
def oh:C2 prog 199 fK sB cH.av Ty.av:=by
 intro T H a0 a1 r hm;rw[fK] at hm;have e:=trivial;refine wi abi func199 [] [] 999 ?_;have⟨a,e,m⟩:=c7 e hm;simp[e];refine Cs (pe e.2) ?_;have⟨b,e,m⟩:=c7 e m;simp[e];refine Cs (og e.2) ?_;cases m;simp[e]
def D6(T:dA){H:cV}{a0:Int}{a1:Int}{a:Int}{b:Int}{c:Int}{q0:Nat}{q1:Nat}(d:H[q0]?=some [sI a])(f:H[q1]?=some [sI b])(g:q0≠q1)(hm:mq a0 a1 a b=some c):dy prog T 296 [sI a0,sI a1,AV.ei q0 0,AV.ei q1 0] H (AV.tuple []) (fu H q1 [sI c]):=by
 rw[mq] at hm;have h:=eP d;have i:=eP f;refine ej.L7 f ?_;have e:=Aj (Aj (Aj (Aj h d) i) g) g.symm;refine wi abi func296 [] [] 999 ?_;rcases Io e hm with⟨e,m⟩|⟨e,m⟩
 ·cases m;simp[e]
 cases m;simp[e]
def zc(T:dA){H:cV}{a0:Tm}{a1:Int}{a:Int}(hm:qg a0 a1=some a):dy prog T 277 [Tm.av a0,sI a1] H (sI a) H:=by
 rw[qg] at hm;refine ej.ur (Post:=λx K=>x=sI a/\∃X,K=H++X) ?_ (λ_ _ h=>⟨_,h.2.choose_spec,by rw[h.1];simp[AV.low,AV.hS],h.1,rfl⟩);have e:=trivial;refine wi abi func277 [3,5] [] 999 ?_;have⟨s1,e,m⟩:=c7 e hm;simp[e];refine Cf (vS T (st:=λs:Int=>H++[[sI a1],[sI s]]) (yw.Nb H (λs:Int=>[[sI a1],[sI s]]) 2 (λ_=>rfl) (by simp[AV.low,AV.hS])) (λX s _ _ b h=>by have:=D6 T (H:=H++[[sI a1],[sI s]]++X) (q0:=(List.length H)) (q1:=(List.length H+1)) (by simp[e]) (by simp[e]) (by simp[e]) h;simpa using this) e.2) ?_;cases m;simp[e]
def vm(T:dA){H:cV}{a0:Tm}{a1:Int}{a:Int}{b:Int}{c:Int}{q0:Nat}{q1:Nat}(d:H[q0]?=some [sI a])(f:H[q1]?=some [sI b])(g:q0≠q1)(hm:hQ a0 a1 a b=some c):dy prog T 276 [Tm.av a0,sI a1,AV.ei q0 0,AV.ei q1 0] H (AV.tuple []) (fu H q0 [sI c]):=by
 rw[hQ] at hm;have h:=eP d;have i:=eP f;refine ej.L7 d ?_;have e:=Aj (Aj (Aj (Aj h i) f) g) g.symm;refine wi abi func276 [] [(1,true,[true,true,true,true,true,true,true,false])] 999 ?_;have⟨j,e,m⟩:=c7 e hm;simp[e];refine Cs (zc T e.2) ?_;cases m;simp[e]
def Ax(T:dA):∀(n:Nat),(∀{S:Type} {st:S->cV} {k:Nat} {a0:Fm} {a1:Int} {a2:(S->Tm->Int->Option (S))} {i:S} {d:S} {g2:Nat} {b:List AV} (hF:yw st k) (j:zo T g2 b st a2) (hm:ki n a0 a1 a2 i=some d),dy prog T 275 [Fm.av a0,sI a1,AV.func (.func g2) [] b] (st i) (AV.tuple []) (st d)):=by
  intro n
  induction n with
  |zero=>
    skip
    all_goals(intro _ _;intros;rename_i hm;cases hm)
  |succ n y=>
 intro S st k a0 a1 a2 i d g2 b hF j hm;rw[ki] at hm;have e:=hF.len;refine wi abi func275 [] [] 999 ?_;simp[e];refine Wr e hm 0 (λw s2 f h=>∃(a:Nat),h=st s2/\f.1 1=sI a1/\f.1 2=AV.func (.func g2) [] b/\f.1 3=AV.dc 3 a 0/\f.1 11=sL Tm.av a0.cU/\f.1 12=sI (dm a0.cU)/\f.1 13=sI w/\f.gen 3=a/\f.box 3=some [sI a0.abd,sI a0.cD.abd,sL Ty.av a0.cD.abe,sL Tm.av a0.cU,sL Fm.av a0.abe]) ⟨1,by simp[e]⟩ (λs2 s z A E m=>?_) (λw L s2 s z A n6 M E e m B t=>?_);rotate_left
 ·have⟨a,E⟩:=E;have e:=Aj e E;apply wg 999;have⟨C,e,m⟩:=c7 e m;simp[e];refine mb.P6 (by rfl) (zo.T5 j e.2) ?_;simp[e];cases m;exact t _ _ _ ⟨a,by simp[e]⟩ B
 have⟨a,E⟩:=E;have e:=Aj e E;apply wg 5;dsimp only[cQ]at m;simp[e];refine Wj m 999 999 (λo f h=>∃(v12:Int) (c:Nat),(h=st s2/\f.1 1=sI v12/\f.1 2=AV.func (.func g2) [] b/\f.1 3=AV.dc 3 c 0/\f.gen 3=c/\f.box 3=some [sI a0.abd,sI a0.cD.abd,sL Ty.av a0.cD.abe,sL Tm.av a0.cU,sL Fm.av a0.abe])/\o v12=some d) (λo D g m=>?_) ?_
 ·have⟨F,e,m⟩:=c7 e m;simp[e];refine Cf (sW e.2) ?_;rcases Io e m with⟨e,m⟩|⟨e,m⟩;rotate_left
  ·simp[e];exact g _ _ ⟨a1,a,by simp[e],m⟩
  simp[e];exact g _ _ ⟨(dB .i64 a1 1),a,by simp[e],m⟩
 rintro x G ⟨v12,c,E,m⟩;have e:=Aj e E;simp[e];refine Wr e m 999 (λp l f h=>h=st l/\f.1 1=sI v12/\f.1 2=AV.func (.func g2) [] b/\f.1 28=sL Fm.av a0.abe/\f.1 29=sI (dm a0.abe)/\f.1 30=sI p) (by simp[e]) (λl q u v E m=>?_) (λp H l q u v I J E e m z24 r=>?_)
 ·have e:=Aj e E;dsimp only[cQ]at m;cases m;simp[e]
 have e:=Aj e E;have⟨K,e,m⟩:=c7 e m;simp[e];refine Cf (y hF j e.2) ?_;simp[e];cases m;exact r _ _ _ (by simp[e]) z24
def B5(T:dA){S:Type}{st:S->cV}{k:Nat}{a0:Fm}{a1:Int}{a2:(S->Tm->Int->Option (S))}{b:S}{c:S}{g2:Nat}{a:List AV}(hF:yw st k)(d:zo T g2 a st a2){n:Nat}(hm:ki n a0 a1 a2 b=some c):dy prog T 275 [Fm.av a0,sI a1,AV.func (.func g2) [] a] (st b) (AV.tuple []) (st c):=(Ax T n) hF d hm
def n9(T:dA){H:cV}{a0:Fm}{a1:Int}{a:Int}(hm:iV a0 a1=some a):dy prog T 246 [Fm.av a0,sI a1] H (sI a) H:=by
 rw[iV] at hm;refine ej.ur (Post:=λx K=>x=sI a/\∃X,K=H++X) ?_ (λ_ _ h=>⟨_,h.2.choose_spec,by rw[h.1];simp[AV.low,AV.hS],h.1,rfl⟩);have e:=trivial;refine wi abi func246 [3,5] [] 999 ?_;have⟨s1,e,m⟩:=c7 e hm;simp[e];refine Cf (B5 T (st:=λs:Int=>H++[[sI a1],[sI s]]) (yw.Nb H (λs:Int=>[[sI a1],[sI s]]) 2 (λ_=>rfl) (by simp[AV.low,AV.hS])) (λX s _ _ b h=>by have:=vm T (H:=H++[[sI a1],[sI s]]++X) (q0:=(List.length H+1)) (q1:=(List.length H)) (by simp[e]) (by simp[e]) (by simp[e]) h;simpa using this) e.2) ?_;cases m;simp[e]
def GR(T:dA){H:cV}{a0:Int}{a1:Int}{b:Int}{a:Tm}{h:Tm}{q0:Nat}{q1:Nat}(c:H[q0]?=some [sI b])(d:H[q1]?=some [sI a.abd,sI a.abg,sI a.cD.abd,sL Ty.av a.cD.abe,sL Tm.av a.abe])(hm:mu a0 a1 b a=some h):dy prog T 297 [sI a0,sI a1,AV.ei q0 0,AV.ei q1 0] H (Tm.av h) H:=by
 rw[mu] at hm;have f:=eP c;have g:=eP d;have e:=Aj (Aj (Aj f c) g) d;refine wi abi func297 [] [] 999 ?_;rcases Io e hm with⟨e,m⟩|⟨e,m⟩
 ·have⟨i,e,m⟩:=c7 e m;simp[e];refine Cf (Bl T e.2) ?_;cases m;simp[e]
 rcases Io e m with⟨e,m⟩|⟨e,m⟩
 ·have⟨j,e,m⟩:=c7 e m;simp[e];refine Cf (iW e.2) ?_;cases m;simp[e]
 have⟨k,e,m⟩:=c7 e m;simp[e];refine Cf (iW e.2) ?_;cases m;simp[e]
def JZ(T:dA){H:cV}{a0:Tm}{a1:Int}{a2:Tm}{a:Tm}(hm:wh a0 a1 a2=some a):dy prog T 279 [Tm.av a0,sI a1,Tm.av a2] H (Tm.av a) H:=by
 rw[wh] at hm;refine ej.ur (Post:=λx K=>x=Tm.av a/\∃X,K=H++X) ?_ (λ_ _ h=>⟨_,h.2.choose_spec,by rw[h.1];simp[AV.low,AV.hS],h.1,rfl⟩);have e:=trivial;refine wi abi func279 [4,5] [] 999 ?_;have⟨c,s2,e,m⟩:=gb e hm;simp[e];refine Cf (wF T (st:=λ_:Unit=>H++[[sI a1],[sI a2.abd,sI a2.abg,sI a2.cD.abd,sL Ty.av a2.cD.abe,sL Tm.av a2.abe]]) (yw.const _) (λX _ _ _ _ _ h=>by obtain⟨b,rfl⟩:=r6 h;exact GR T (q0:=(List.length H)) (q1:=(List.length H+1)) (by simp[e]) (by simp[e]) b) e.2) ?_;cases m;simp[e]
def w_(T:dA){H:cV}{a0:Tm}{a1:Int}{b:Int}{a:Tm}{h:Tm}{q0:Nat}{q1:Nat}(c:H[q0]?=some [sI b])(d:H[q1]?=some [sI a.abd,sI a.abg,sI a.cD.abd,sL Ty.av a.cD.abe,sL Tm.av a.abe])(hm:gM a0 a1 b a=some h):dy prog T 278 [Tm.av a0,sI a1,AV.ei q0 0,AV.ei q1 0] H (Tm.av h) H:=by
 rw[gM] at hm;have f:=eP c;have g:=eP d;have e:=Aj (Aj (Aj f c) g) d;refine wi abi func278 [] [] 999 ?_;have⟨i,e,m⟩:=c7 e hm;simp[e];refine Cf (JZ T e.2) ?_;cases m;simp[e]
def pP(T:dA){H:cV}{a0:Fm}{a1:Int}{a2:Tm}{a:Fm}(hm:jn a0 a1 a2=some a):dy prog T 247 [Fm.av a0,sI a1,Tm.av a2] H (Fm.av a) H:=by
 rw[jn] at hm;refine ej.ur (Post:=λx K=>x=Fm.av a/\∃X,K=H++X) ?_ (λ_ _ h=>⟨_,h.2.choose_spec,by rw[h.1];simp[AV.low,AV.hS],h.1,rfl⟩);have e:=trivial;refine wi abi func247 [4,5] [] 999 ?_;have⟨c,s2,e,m⟩:=gb e hm;simp[e];refine Cf (kL T (st:=λ_:Unit=>H++[[sI a1],[sI a2.abd,sI a2.abg,sI a2.cD.abd,sL Ty.av a2.cD.abe,sL Tm.av a2.abe]]) (yw.const _) (λX _ _ _ _ _ h=>by obtain⟨b,rfl⟩:=r6 h;exact w_ T (q0:=(List.length H)) (q1:=(List.length H+1)) (by simp[e]) (by simp[e]) b) e.2) ?_;cases m;simp[e]
def pN(T:dA)(a:nb T){H:cV}{a0:Fm}{a1:Tm}{b:Fm}{c:Int}(hm:gJ a0 a1=some (b,c)):dy prog T 200 [Fm.av a0,Tm.av a1] H (AV.tuple [Fm.av b,sI c]) H:=by
 rw[gJ] at hm;have e:=a;refine wi abi func200 [] [] 999 ?_;have⟨d,f,e,m⟩:=gb e hm;simp[e];refine Cf (od T a e.2) ?_;have⟨g,h,e,m⟩:=gb e m;simp[e];refine Cf (p_ T a e.2) ?_;have⟨i,e,m⟩:=c7 e m;simp[e];refine Cf (n9 T e.2) ?_;rcases Io e m with⟨e,m⟩|⟨e,m⟩
 ·cases m;simp[e]
 have⟨j,e,m⟩:=c7 e m;simp[e];refine Cf (pP T e.2) ?_;cases m;simp[e]
def uG:C1 prog 201 nd (λn=>AV.sc (Value.int .u32 n)) Tm.av:=by
 intro T H a0 r hm;rw[nd] at hm;have e:=trivial;refine wi abi func201 [] [] 999 ?_;cases hm;simp[e]
def xL(T:dA)(f:nb T){H:cV}{a0:Tm}{a1:Int}{a:Int}{g:Tm}{b:Int}{q0:Nat}(c:H[q0]?=some [sI a])(hm:iI a0 a1 a=some (g,b)):dy prog T 248 [Tm.av a0,sI a1,AV.ei q0 0] H (Tm.av g) (fu H q0 [sI b]):=by
 rw[iI] at hm;have d:=eP c;refine ej.L7 c ?_;have e:=Aj f d;refine wi abi func248 [] [] 999 ?_;rcases Io e hm with⟨e,m⟩|⟨e,m⟩
 ·cases m;simp[e]
 have⟨h,i,j,e,m⟩:=XF e m;simp[e];refine Cf (qZ T f e.2) ?_;cases m;simp[e]
def Ay(T:dA)(c:nb T){H:cV}{a0:Fm}{a:Fm}{b:Int}(hm:kI a0=some (a,b)):dy prog T 203 [Fm.av a0] H (AV.tuple [Fm.av a,sI b]) H:=by
 rw[kI] at hm;refine ej.ur (Post:=λx K=>x=AV.tuple [Fm.av a,sI b]/\∃X,K=H++X) ?_ (λ_ _ h=>⟨_,h.2.choose_spec,by rw[h.1];simp[AV.low,AV.hS],h.1,rfl⟩);have e:=c;refine wi abi func203 [4] [(6,true,[])] 999 ?_;have⟨d,e,m⟩:=c7 e hm;simp[e];refine Cf (n9 T e.2) ?_;rcases Io e m with⟨e,m⟩|⟨e,m⟩
 ·have⟨f,e,m⟩:=c7 e m;simp[e];refine Cf (pP T e.2) ?_;cases m;simp[e]
 have⟨g,i,e,m⟩:=gb e m;simp[e];refine Cf (kL T (st:=λs:Int=>H++[[sI s]]) (yw.Nb H (λs:Int=>[[sI s]]) 1 (λ_=>rfl) (by simp[AV.low,AV.hS])) (λX s _ _ _ j h=>by have:=xL T c (H:=H++[[sI s]]++X) (q0:=(List.length H)) (by simp[e]) h;simpa using this) e.2) ?_;rcases Io e m with⟨e,m⟩|⟨e,m⟩
 ·cases m;simp[e]
 have⟨k,e,m⟩:=c7 e m;simp[e];refine Cf (n9 T e.2) ?_;rcases Io e m with⟨e,m⟩|⟨e,m⟩
 ·cases m;simp[e]
 have⟨l,e,m⟩:=c7 e m;simp[e];refine Cf (pP T e.2) ?_;cases m;simp[e]
def pc:C2 prog 250 oG Tm.av sI (sL Tm.av):=by
 intro T H a0 a1 r hm;rw[oG] at hm;have e:=trivial;refine wi abi func250 [] [] 999 ?_;cases hm;simp[e]
def vN:C1 prog 204 iw dh.av sI:=by
 intro T H a0 r hm;rw[iw] at hm;have e:=trivial;refine wi abi func204 [] [] 999 ?_;rcases Io e hm with⟨e,m⟩|⟨e,m⟩
 ·have⟨b,e,m⟩:=c7 e m;simp[e];refine Cf (pc e.2) ?_;have⟨f,e,m⟩:=c7 e m;simp[e];refine Cf (kB e.2) ?_;have⟨i,e,m⟩:=c7 e m;simp[e];refine Cf (iW e.2) ?_;have⟨c,e,m⟩:=c7 e m;simp[e];refine Cf (pc e.2) ?_;have e:=Aj e (show AV.agg [sI 1,sI b.abd,sI b.abg,sI b.cD.abd,sL Ty.av b.cD.abe,sL Tm.av b.abe,AV.slice .eh [Ty.av f],sI c.abd,sI c.abg,sI c.cD.abd,sL Ty.av c.cD.abe,sL Tm.av c.abe]=dh.av (dh.mk 1 b [f] c) by rw[dh.ey];rfl);have e:=Aj e (show AV.agg [sI 1,sI b.abd,sI b.abg,sI b.cD.abd,sL Ty.av b.cD.abe,sL Tm.av b.abe,AV.slice .eh [Ty.av f],sI c.abd,sI c.abg,sI c.cD.abd,sL Ty.av c.cD.abe,sL Tm.av c.abe]=dh.av (dh.mk 1 b [f] c) by rw[dh.ey];rfl);cases m;simp[e]
 have⟨d,e,m⟩:=c7 e m;simp[e];refine Cf (pc e.2) ?_;have⟨g,e,m⟩:=c7 e m;simp[e];refine Cf (kB e.2) ?_;have⟨h,e,m⟩:=c7 e m;simp[e];refine Cf (A1 e.2) ?_;have⟨j,e,m⟩:=c7 e m;simp[e];refine Cf (iW e.2) ?_;have⟨k,e,m⟩:=c7 e m;simp[e];refine Cf (iW e.2) ?_;have⟨a,e,m⟩:=c7 e m;simp[e];refine Cf (pc e.2) ?_;have e:=Aj e (show AV.agg [sI 2,sI d.abd,sI d.abg,sI d.cD.abd,sL Ty.av d.cD.abe,sL Tm.av d.abe,AV.slice .eh [Ty.av g,Ty.av h],sI a.abd,sI a.abg,sI a.cD.abd,sL Ty.av a.cD.abe,sL Tm.av a.abe]=dh.av (dh.mk 2 d [g,h] a) by rw[dh.ey];rfl);have e:=Aj e (show AV.agg [sI 2,sI d.abd,sI d.abg,sI d.cD.abd,sL Ty.av d.cD.abe,sL Tm.av d.abe,AV.slice .eh [Ty.av g,Ty.av h],sI a.abd,sI a.abg,sI a.cD.abd,sL Ty.av a.cD.abe,sL Tm.av a.abe]=dh.av (dh.mk 2 d [g,h] a) by rw[dh.ey];rfl);cases m;simp[e]
def vg:C2 prog 207 ot Fm.av Tm.av Tm.av:=by
 intro T H a0 a1 r hm;rw[ot] at hm;have e:=trivial;refine wi abi func207 [] [] 999 ?_;have e:=Aj e (show AV.agg [sI 1,sI 0,AV.slice .eh [],AV.slice .eh [Tm.av a0,Tm.av a1],AV.slice .eh []]=Fm.av (Fm.mk 1 (Ty.mk 0 []) [a0,a1] []) by rw[Fm.ey];rfl);have e:=Aj e (show AV.agg [sI 1,sI 0,AV.slice .eh [],AV.slice .eh [Tm.av a0,Tm.av a1],AV.slice .eh []]=Fm.av (Fm.mk 1 (Ty.mk 0 []) [a0,a1] []) by rw[Fm.ey];rfl);cases hm;simp[e]
def vl(T:dA){H:cV}{a0:List Fm}{a1:Pf}{a2:cJ}{b:cE}{c:Int}{d:Nat}(a:KC H d a0)(hm:lI a0 a1 a2=some (b,c)):dy prog T 150 [AV.ei d 0,Pf.av a1,cJ.av a2] H (AV.tuple [cE.av b,sI c]) H:=by
 rw[lI] at hm;have e:=a;refine wi abi func150 [] [] 999 ?_;have⟨f,e,m⟩:=c7 e hm;have⟨g,e,m⟩:=c7 e m;simp[e];refine Cf (pq e.2) ?_;rcases Io e m with⟨e,m⟩|⟨e,m⟩
 ·cases m;simp[e]
 have⟨h,e,m⟩:=c7 e m;simp[e];refine Cf (vg e.2) ?_;cases m;simp[e]
def yg:C2 prog 210 pQ Tm.av Tm.av (sL Tm.av):=by
 intro T H a0 a1 r hm;rw[pQ] at hm;have e:=trivial;refine wi abi func210 [] [] 999 ?_;simp[e];refine Wr e hm 999 (λj s2 f h=>∃(a:Nat) (b:Nat),h=H/\f.1 2=AV.dc 2 a 0/\f.1 4=AV.dc 4 b 0/\f.1 7=sL Tm.av a1/\f.1 8=sI (dm a1)/\f.1 9=sI j/\f.gen 2=a/\f.box 2=some [sI s2.1,sI s2.2.1,sI s2.2.2.1,sL Ty.av s2.2.2.2.1,sL Tm.av s2.2.2.2.2]/\f.gen 4=b/\f.box 4=some [sI 0,sI 0,sI 0,AV.slice .full [],AV.slice .full []]) ⟨1,1,by simp[e]⟩ (λs2 c k l E m=>?_) (λj p s2 c k l n6 q E e m n d=>?_)
 ·have⟨v10,v11,v12,g,i⟩:=s2;have⟨a,b,E⟩:=E;have e:=Aj e E;dsimp only[cQ,CY]at m;cases m;simp[e]
 have⟨v10,v11,v12,g,i⟩:=s2;have⟨a,b,E⟩:=E;have e:=Aj e E;dsimp only[CY]at m;have⟨o,e,m⟩:=c7 e m;simp[e];refine Cf (pc e.2) ?_;simp[e];cases m;exact d _ _ _ ⟨a,b,by simp[e]⟩ n
def ED:C1 prog 304 qO (t2 sI sI) sB:=by
 intro T H a0 r hm;rw[qO] at hm;have e:=trivial;refine wi abi func304 [] [] 999 ?_;rcases Io e hm with⟨e,m⟩|⟨e,m⟩
 ·cases m;simp[e]
 cases m;simp[e]
def xP:C2 prog 319 r8 Tm.av Tm.av (sL Ty.av):=by
 intro T H a0 a1 r hm;rw[r8] at hm;have e:=trivial;refine wi abi func319 [] [] 999 ?_;simp[e];refine Wn hm 999 (λs1 f h=>∃(c:Tag) (a:Nat) (b:Nat),h=H/\f.1 1=sL Ty.av a1/\f.1 2=AV.dc 2 a 0/\f.1 4=AV.dc 4 b 0/\f.1 5=sI s1.1/\f.gen 2=a/\f.box 2=some [sI s1.2.1,sI s1.2.2.1,sI s1.2.2.2.1,sL Ty.av s1.2.2.2.2.1,sT c Tm.av s1.2.2.2.2.2]/\f.gen 4=b/\f.box 4=some [sI 0,sI 0,sI 0,AV.slice .full [],AV.slice .full []]) ⟨.eh,1,1,by simp[e]⟩ (λs1 fr2 k l n4 c5 E m g d=>?_);have⟨n,v9,v10,v11,v12,i⟩:=s1;have⟨c,a,b,E⟩:=E;have e:=Aj e E;dsimp only[yn]at m;rcases Io e m with⟨e,m⟩|⟨e,m⟩;rotate_left
 ·cases m;have m:=Qb g;dsimp only[yn]at m;cases m;simp[e]
 have⟨j,e,m⟩:=c7 e m;simp[e];cases m;exact d _ _ _ ⟨.full,a,b,by simp[e]⟩ g
def J1:C5 prog 320 we Tm.av sI Ty.av Tm.av Tm.av Tm.av:=by
 intro T H a0 a1 a2 a3 a4 r hm;rw[we] at hm;have e:=trivial;refine wi abi func320 [] [] 999 ?_;have e:=Aj e (show AV.agg [sI a0,sI 0,sI a1.abd,sL Ty.av a1.abe,AV.slice .eh [Tm.av a2,Tm.av a3,Tm.av a4]]=Tm.av (Tm.mk a0 0 a1 [a2,a3,a4]) by rw[Tm.ey];rfl);have e:=Aj e (show AV.agg [sI a0,sI 0,sI a1.abd,sL Ty.av a1.abe,AV.slice .eh [Tm.av a2,Tm.av a3,Tm.av a4]]=Tm.av (Tm.mk a0 0 a1 [a2,a3,a4]) by rw[Tm.ey];rfl);cases hm;simp[e]
def sP:C3 prog 315 kV Tm.av Tm.av Tm.av Tm.av:=by
 intro T H a0 a1 a2 r hm;rw[kV] at hm;have e:=trivial;refine wi abi func315 [] [] 999 ?_;have⟨a,e,m⟩:=c7 e hm;simp[e];refine Cs (kB e.2) ?_;have⟨b,e,m⟩:=c7 e m;simp[e];refine Cs (kB e.2) ?_;have⟨c,e,m⟩:=c7 e m;simp[e];refine Cs (kB e.2) ?_;have⟨d,e,m⟩:=c7 e m;simp[e];refine Cs (xP e.2) ?_;have⟨f,e,m⟩:=c7 e m;simp[e];refine Cs (J1 e.2) ?_;cases m;simp[e]
def Gt:C0 prog 316 rU Tm.av:=by
 intro T H r hm;rw[rU] at hm;have e:=trivial;refine wi abi func316 [] [] 999 ?_;have⟨a,e,m⟩:=c7 e hm;simp[e];refine Cf (pc e.2) ?_;have⟨b,e,m⟩:=c7 e m;simp[e];refine Cf (iW e.2) ?_;have⟨c,e,m⟩:=c7 e m;simp[e];refine Cf (iW e.2) ?_;have⟨d,e,m⟩:=c7 e m;simp[e];refine Cf (sP e.2) ?_;have⟨f,e,m⟩:=c7 e m;simp[e];refine Cf (kB e.2) ?_;have⟨g,e,m⟩:=c7 e m;simp[e];refine Cf (xP e.2) ?_;cases m;simp[e]
def IB:C1 prog 314 wU Tm.av Tm.av:=by
 intro T H a0 r hm;rw[wU] at hm;have e:=trivial;refine wi abi func314 [] [] 999 ?_;have⟨a,e,m⟩:=c7 e hm;simp[e];refine Cs (kB e.2) ?_;have⟨b,e,m⟩:=c7 e m;simp[e];refine Cs (kB e.2) ?_;have⟨c,e,m⟩:=c7 e m;simp[e];refine Cs (xP e.2) ?_;cases m;simp[e]
def I3:C0 prog 310 uC Tm.av:=by
 intro T H r hm;rw[uC] at hm;have e:=trivial;refine wi abi func310 [] [] 999 ?_;have⟨a,e,m⟩:=c7 e hm;simp[e];refine Cf (iW e.2) ?_;have⟨b,e,m⟩:=c7 e m;simp[e];refine Cf (Gt e.2) ?_;have⟨c,e,m⟩:=c7 e m;simp[e];refine Cf (iW e.2) ?_;have⟨d,e,m⟩:=c7 e m;simp[e];refine Cf (yg e.2) ?_;have⟨f,e,m⟩:=c7 e m;simp[e];refine Cf (iW e.2) ?_;have⟨g,e,m⟩:=c7 e m;simp[e];refine Cf (sP e.2) ?_;have⟨h,e,m⟩:=c7 e m;simp[e];refine Cf (IB e.2) ?_;cases m;simp[e]
def GC:C2 prog 306 rE Fm.av Tm.av Tm.av:=by
 intro T H a0 a1 r hm;rw[rE] at hm;have e:=trivial;refine wi abi func306 [] [] 999 ?_;have⟨a,e,m⟩:=c7 e hm;simp[e];refine Cs (I3 e.2) ?_;have⟨b,e,m⟩:=c7 e m;simp[e];refine Cs (pc e.2) ?_;have⟨c,e,m⟩:=c7 e m;simp[e];refine Cs (yg e.2) ?_;have⟨d,e,m⟩:=c7 e m;simp[e];refine Cs (pc e.2) ?_;have⟨f,e,m⟩:=c7 e m;simp[e];refine Cs (vg e.2) ?_;cases m;simp[e]
def xp:∀(n:Nat),C2 prog 305 (iM n) sB Fm.av Fm.av:=by
  intro n
  induction n with
  |zero=>
    skip
    all_goals(intro _ _;intros;rename_i hm;cases hm)
  |succ n A=>
 intro T H a0 a1 r hm;rw[iM] at hm;have e:=trivial;refine wi abi func305 [] [] 3 ?_;simp[e];refine Wj hm 999 999 (λx f h=>∃(v2:Bool) (d:Nat) (g:Nat),(h=H/\f.1 2=AV.dc 2 d 0/\f.1 3=AV.dc 3 g 0/\f.1 39=sB v2/\f.gen 2=d/\f.box 2=some [sI a0.abd,sI a0.cD.abd,sL Ty.av a0.cD.abe,sL Tm.av a0.cU,sL Fm.av a0.abe]/\f.gen 3=g/\f.box 3=some [sI a1.abd,sI a1.cD.abd,sL Ty.av a1.cD.abe,sL Tm.av a1.cU,sL Fm.av a1.abe])/\x v2=some r) (λx P i m=>?_) ?_
 ·rcases Io e m with⟨e,m⟩|⟨e,m⟩
  ·simp[e];exact i _ _ ⟨true,1,1,by simp[e],m⟩
  have⟨Q,e,m⟩:=c7 e m;simp[e];refine Cf (mD e.2) ?_;rcases Io e m with⟨e,m⟩|⟨e,m⟩;rotate_left
  ·simp[e];exact i _ _ ⟨true,1,1,by simp[e],m⟩
  rcases Io e m with⟨e,m⟩|⟨e,m⟩
  ·simp[e];exact i _ _ ⟨true,1,1,by simp[e],m⟩
  simp[e];exact i _ _ ⟨(dr (dm a0.abe) (dm a1.abe)),1,1,by simp[e],m⟩
 rintro B R ⟨v2,d,g,E,m⟩;have e:=Aj e E;rcases Io e m with⟨e,m⟩|⟨e,m⟩
 ·cases m;simp[e]
 simp[e];refine Wr e m 999 (λy z f h=>∃(c:Nat) (b:Nat),h=H/\f.1 2=AV.dc 2 c 0/\f.1 3=AV.dc 3 b 0/\f.1 41=sL Tm.av a0.cU/\f.1 42=sI (dm a0.cU)/\f.1 43=sI y/\f.gen 2=c/\f.box 2=some [sI a0.abd,sI a0.cD.abd,sL Ty.av a0.cD.abe,sL Tm.av a0.cU,sL Fm.av a0.abe]/\f.gen 3=b/\f.box 3=some [sI a1.abd,sI a1.cD.abd,sL Ty.av a1.cD.abe,sL Tm.av a1.cU,sL Fm.av a1.abe]) ⟨d,g,by simp[e]⟩ (λz t C u E m=>?_) (λy D z t C u F G E e m j k=>?_);rotate_left
 ·have⟨c,b,E⟩:=E;have e:=Aj e E;have⟨I,e,m⟩:=c7 e m;have⟨J,e,m⟩:=c7 e m;simp[e];refine Cs (va e.2) ?_;rcases Io e m with⟨e,m⟩|⟨e,m⟩;rotate_left
  ·cases m;cases j;simp[e]
  simp[e];cases m;exact k _ _ _ ⟨c,b,by simp[e]⟩ j
 have⟨c,b,E⟩:=E;have e:=Aj e E;dsimp only[cQ]at m;simp[e];refine Wr e m 999 (λl o f h=>∃(a:Nat),h=H/\f.1 3=AV.dc 3 a 0/\f.1 58=sL Fm.av a0.abe/\f.1 59=sI (dm a0.abe)/\f.1 60=sI l/\f.gen 3=a/\f.box 3=some [sI a1.abd,sI a1.cD.abd,sL Ty.av a1.cD.abe,sL Tm.av a1.cU,sL Fm.av a1.abe]) ⟨b,by simp[e]⟩ (λo p v w E m=>?_) (λl K o p v w L M E e m q s=>?_)
 ·have⟨a,E⟩:=E;have e:=Aj e E;dsimp only[cQ]at m;cases m;simp[e]
 have⟨a,E⟩:=E;have e:=Aj e E;have⟨N,e,m⟩:=c7 e m;have⟨O,e,m⟩:=c7 e m;simp[e];refine Cs (A e.2) ?_;rcases Io e m with⟨e,m⟩|⟨e,m⟩;rotate_left
 ·cases m;cases q;simp[e]
 simp[e];cases m;exact s _ _ _ ⟨a,by simp[e]⟩ q
def xM{n:Nat}:C2 prog 305 (iM n) sB Fm.av Fm.av:=(xp n)
def Ei(T:dA){H:cV}{a0:Fm}{r:Bool}{s:Tm}{t:Fm}{u:Bool}(hm:qQ a0=some (r,s,t,u)):dy prog T 287 [Fm.av a0] H (AV.tuple [sB r,Tm.av s,Fm.av t,sB u]) H:=by
 rw[qQ] at hm;have e:=trivial;refine wi abi func287 [] [] 7 ?_;have⟨L,M,e,m⟩:=gb e hm;simp[e];refine Cf (ED e.2) ?_;simp[e];refine Wj m 999 0 (λw f h=>∃(v4:Bool) (a:Nat) (b:Nat) (c:Nat),(h=H/\f.1 1=AV.dc 1 a 0/\f.1 3=AV.dc 3 b 0/\f.1 4=AV.dc 4 c 0/\f.1 6=sB (de a0.abd 4)/\f.1 48=sB v4/\f.gen 1=a/\f.box 1=some [sI a0.abd,sI a0.cD.abd,sL Ty.av a0.cD.abe,sL Tm.av a0.cU,sL Fm.av a0.abe]/\f.gen 3=b/\f.box 3=some [sI 0,sI 0,sI 0,AV.slice .full [],AV.slice .full []]/\f.gen 4=c/\f.box 4=some [sI 0,sI 0,AV.slice .full [],AV.slice .full [],AV.slice .full []])/\w v4=some (r,s,t,u)) (λw N n m=>?_) ?_
 ·rcases Io e m with⟨e,m⟩|⟨e,m⟩
  ·simp[e];exact n _ _ ⟨true,1,1,1,by simp[e],m⟩
  rcases Io e m with⟨e,m⟩|⟨e,m⟩
  ·simp[e];exact n _ _ ⟨true,1,1,1,by simp[e],m⟩
  have⟨O,e,m⟩:=c7 e m;rcases Io e m with⟨e,m⟩|⟨e,m⟩
  ·simp[e];exact n _ _ ⟨true,1,1,1,by simp[e],m⟩
  have⟨y,e,m⟩:=c7 e m;simp[e];exact n _ _ ⟨(dr y.abd 1),1,1,1,by simp[e],m⟩
 rintro o P ⟨v4,a,b,c,E,m⟩;have e:=Aj e E;rcases Io e m with⟨e,m⟩|⟨e,m⟩
 ·apply wg 999;cases m;simp[e]
 apply wg 7;have⟨z,e,m⟩:=c7 e m;have⟨A,e,m⟩:=c7 e m;have⟨k,e,m⟩:=c7 e m;simp[e];refine Wj m 999 999 (λq f h=>∃(p:Bool) (g:Nat) (i:Nat) (j:Nat) (d:Nat),(h=H/\f.1 1=AV.dc 1 g 0/\f.1 3=AV.dc 3 i 0/\f.1 4=AV.dc 4 j 0/\f.1 6=sB (de a0.abd 4)/\f.1 10=AV.dc 10 d 0/\f.1 83=sB p/\f.gen 1=g/\f.box 1=some [sI a0.abd,sI a0.cD.abd,sL Ty.av a0.cD.abe,sL Tm.av a0.cU,sL Fm.av a0.abe]/\f.gen 3=i/\f.box 3=some [sI 0,sI 0,sI 0,AV.slice .full [],AV.slice .full []]/\f.gen 4=j/\f.box 4=some [sI 0,sI 0,AV.slice .full [],AV.slice .full [],AV.slice .full []]/\f.gen 10=d/\f.box 10=some [sI k.abd,sI k.abg,sI k.cD.abd,sL Ty.av k.cD.abe,sL Tm.av k.abe])/\q p=some (r,s,t,u)) (λq B l m=>?_) ?_;rotate_left
 ·rintro x C ⟨p,g,i,j,d,E,m⟩;have e:=Aj e E;rcases Io e m with⟨e,m⟩|⟨e,m⟩
  ·cases m;simp[e]
  have⟨D,e,m⟩:=c7 e m;have⟨F,e,m⟩:=c7 e m;cases m;simp[e]
 rcases Io e m with⟨e,m⟩|⟨e,m⟩
 ·simp[e];exact l _ _ ⟨true,a,b,c,(o.gen 10+1),by simp[e],m⟩
 have⟨G,e,m⟩:=c7 e m;have⟨I,e,m⟩:=c7 e m;simp[e];refine Cs (zc T e.2) ?_;rcases Io e m with⟨e,m⟩|⟨e,m⟩
 ·simp[e];exact l _ _ ⟨true,a,b,c,(o.gen 10+1),by simp[e],m⟩
 have⟨J,e,m⟩:=c7 e m;simp[e];refine Cs (iW e.2) ?_;have⟨K,e,m⟩:=c7 e m;simp[e];refine Cs (GC e.2) ?_;have⟨v,e,m⟩:=c7 e m;simp[e];refine Cs (xM e.2) ?_;simp[e];exact l _ _ ⟨(k4 v),a,b,c,(o.gen 10+1),by simp[e],m⟩
def Jk:∀(n:Nat),C1 prog 255 (lj n) (λn=>AV.sc (Value.int .u8 n)) Fm.av:=by
  intro n
  induction n with
  |zero=>
    skip
    all_goals(intro _ _;intros;rename_i hm;cases hm)
  |succ n l=>
 intro T H a0 r hm;rw[lj] at hm;have e:=trivial;refine wi abi func255 [] [] 5 ?_;simp[e];rcases Io e hm with⟨e,m⟩|⟨e,m⟩
 ·apply wg 999;cases m;simp[e]
 apply wg 4;have⟨J,e,m⟩:=c7 e m;have⟨i,e,m⟩:=c7 e m;simp[e];refine Cf (l e.2) ?_;simp[e];refine Wj m 3 2 (λp f h=>∃(v4:Int) (b:Nat),(h=H/\f.1 1=AV.dc 1 b 0/\f.1 3=AV.sc (.int .u8 v4)/\f.gen 1=b/\f.box 1=some [sI a0.abd,sI a0.cD.abd,sL Ty.av a0.cD.abe,sL Tm.av a0.cU,sL Fm.av a0.abe])/\p v4=some r) (λp K j m=>?_) ?_;rotate_left
 ·rintro v L ⟨v4,b,E,m⟩;have e:=Aj e E;simp[e];refine Wj m 999 999 (λq f h=>∃(v9:Int),(h=H/\f.1 6=AV.sc (.int .u8 v9))/\q v9=some r) (λq w c m=>?_) ?_;rotate_left
  ·rintro s x ⟨v9,E,m⟩;have e:=Aj e E;cases m;simp[e]
  have⟨y,z,A,B,e,m⟩:=Bo4 e m;simp[e];refine Cf (Ei T e.2) ?_;rcases Io e m with⟨e,m⟩|⟨e,m⟩;rotate_left
  ·simp[e];exact c _ _ ⟨(nI .u8 v4 1),by simp[e],m⟩
  have⟨o,e,m⟩:=c7 e m;simp[e];refine Cf (l e.2) ?_;simp[e];exact c _ _ ⟨(tO .u8 (nI .u8 v4 1) (nI .u8 o 4)),by simp[e],m⟩
 simp[e];refine wj 999 0 (λf h=>∃(a:Nat),h=H/\f.1 1=AV.dc 1 a 0/\f.1 3=AV.sc (.int .u8 i)/\f.1 24=sI a0.abd/\f.1 25=sB (ew (de a0.abd 2) true (de a0.abd 3))/\f.gen 1=a/\f.box 1=some [sI a0.abd,sI a0.cD.abd,sL Ty.av a0.cD.abe,sL Tm.av a0.cU,sL Fm.av a0.abe]) (λC d=>?_) ?_
 ·rcases Pb (de a0.abd 2) e with e|e
  ·simp[e];exact d _ _ ⟨1,by simp[e]⟩
  simp[e];exact d _ _ ⟨1,by simp[e]⟩
 rintro t D ⟨a,E⟩;have e:=Aj e E;rcases Io e m with⟨e,m⟩|⟨e,m⟩;rotate_left
 ·apply wg 999;rcases Io e m with⟨e,m⟩|⟨e,m⟩;rotate_left
  ·simp[e];exact j _ _ ⟨i,a,by simp[e],m⟩
  simp[e];exact j _ _ ⟨(tO .u8 i 1),a,by simp[e],m⟩
 apply wg 5;have⟨F,e,m⟩:=c7 e m;have⟨k,e,m⟩:=c7 e m;simp[e];refine Cf (l e.2) ?_;simp[e];refine wj 2 999 (λf h=>h=H/\f.1 3=AV.sc (.int .u8 (ew (de a0.abd 2) (tO .u8 i k) i))/\f.1 5=AV.sc (.int .u8 (nI .u8 (nI .u8 k i) 6))) (λG g=>?_) ?_;rotate_left
 ·rintro u I E;have e:=Aj e E;cases m;simp[e]
 simp[e];rcases Pb (de a0.abd 2) e with e|e
 ·apply wg 999;simp[e];exact g _ _ (by simp[e])
 apply wg 999;simp[e];exact g _ _ (by simp[e])
def JT{n:Nat}:C1 prog 255 (lj n) (λn=>AV.sc (Value.int .u8 n)) Fm.av:=(Jk n)
def I9(T:dA)(a:nb T){H:cV}{a0:Fm}{a1:Int}{b:Bool}{c:Int}(hm:wR a0 a1=some (b,c)):dy prog T 212 [Fm.av a0,AV.sc (.int .u8 a1)] H (AV.tuple [sB b,sI c]) H:=by
 rw[wR] at hm;have e:=a;refine wi abi func212 [] [] 999 ?_;have⟨d,e,m⟩:=c7 e hm;simp[e];refine Cf (mC T a e.2) ?_;rcases Io e m with⟨e,m⟩|⟨e,m⟩
 ·cases m;simp[e]
 have⟨f,e,m⟩:=c7 e m;simp[e];refine Cf (JT e.2) ?_;cases m;simp[e]
def BS(T:dA)(a:nb T){H:cV}{a0:Fm}{b:Bool}{c:Int}(hm:mL a0=some (b,c)):dy prog T 153 [Fm.av a0] H (AV.tuple [sB b,sI c]) H:=by
 rw[mL] at hm;have e:=a;refine wi abi func153 [] [] 999 ?_;have⟨d,f,e,m⟩:=gb e hm;simp[e];refine Cf (I9 T a e.2) ?_;cases m;simp[e]
def tL(T:dA)(k:nb T):∀(n:Nat),(∀{H:cV} {a0:List Fm} {a1:Pf} {a2:cJ} {c:cE} {d:Int} {g:Nat} (a:KC H g a0) (hm:dv n a0 a1 a2=some (c,d)),dy prog T 81 [AV.ei g 0,Pf.av a1,cJ.av a2] H (AV.tuple [cE.av c,sI d]) H)/\(∀{H:cV} {a0:List Fm} {a1:Pf} {a2:cJ} {c:cE} {d:Int} {g:Nat} (a:KC H g a0) (hm:jh n a0 a1 a2=some (c,d)),dy prog T 141 [AV.ei g 0,Pf.av a1,cJ.av a2] H (AV.tuple [cE.av c,sI d]) H)/\(∀{H:cV} {a0:List Fm} {a1:Pf} {a2:cJ} {c:cE} {d:Int} {g:Nat} (a:KC H g a0) (hm:fS n a0 a1 a2=some (c,d)),dy prog T 142 [AV.ei g 0,Pf.av a1,cJ.av a2] H (AV.tuple [cE.av c,sI d]) H)/\(∀{H:cV} {a0:List Fm} {a1:Pf} {a2:cJ} {c:cE} {d:Int} {g:Nat} (a:KC H g a0) (hm:jf n a0 a1 a2=some (c,d)),dy prog T 143 [AV.ei g 0,Pf.av a1,cJ.av a2] H (AV.tuple [cE.av c,sI d]) H)/\(∀{H:cV} {a0:List Fm} {a1:Pf} {a2:cJ} {c:cE} {d:Int} {g:Nat} (a:KC H g a0) (hm:ji n a0 a1 a2=some (c,d)),dy prog T 144 [AV.ei g 0,Pf.av a1,cJ.av a2] H (AV.tuple [cE.av c,sI d]) H)/\(∀{H:cV} {a0:List Fm} {a1:Pf} {a2:cJ} {c:cE} {d:Int} {g:Nat} (a:KC H g a0) (hm:fH n a0 a1 a2=some (c,d)),dy prog T 145 [AV.ei g 0,Pf.av a1,cJ.av a2] H (AV.tuple [cE.av c,sI d]) H)/\(∀{H:cV} {a0:List Fm} {a1:Pf} {a2:cJ} {c:cE} {d:Int} {g:Nat} (a:KC H g a0) (hm:fG n a0 a1 a2=some (c,d)),dy prog T 146 [AV.ei g 0,Pf.av a1,cJ.av a2] H (AV.tuple [cE.av c,sI d]) H)/\(∀{H:cV} {a0:List Fm} {a1:Pf} {a2:cJ} {c:cE} {d:Int} {g:Nat} (a:KC H g a0) (hm:fR n a0 a1 a2=some (c,d)),dy prog T 147 [AV.ei g 0,Pf.av a1,cJ.av a2] H (AV.tuple [cE.av c,sI d]) H)/\(∀{H:cV} {a0:List Fm} {a1:Pf} {a2:cJ} {c:cE} {d:Int} {g:Nat} (a:KC H g a0) (hm:fU n a0 a1 a2=some (c,d)),dy prog T 148 [AV.ei g 0,Pf.av a1,cJ.av a2] H (AV.tuple [cE.av c,sI d]) H)/\(∀{H:cV} {a0:List Fm} {a1:Pf} {a2:cJ} {c:cE} {d:Int} {g:Nat} (a:KC H g a0) (hm:fT n a0 a1 a2=some (c,d)),dy prog T 149 [AV.ei g 0,Pf.av a1,cJ.av a2] H (AV.tuple [cE.av c,sI d]) H)/\(∀{H:cV} {a0:List Fm} {a1:Pf} {a2:cJ} {c:cE} {d:Int} {g:Nat} (a:KC H g a0) (hm:iH n a0 a1 a2=some (c,d)),dy prog T 151 [AV.ei g 0,Pf.av a1,cJ.av a2] H (AV.tuple [cE.av c,sI d]) H)/\(∀{H:cV} {a0:List Fm} {a1:Pf} {a2:cJ} {c:cE} {d:Int} {g:Nat} (a:KC H g a0) (hm:ib n a0 a1 a2=some (c,d)),dy prog T 152 [AV.ei g 0,Pf.av a1,cJ.av a2] H (AV.tuple [cE.av c,sI d]) H)/\(∀{H:cV} {a0:List Fm} {a1:Pf} {a2:cJ} {a3:Int} {c:cE} {d:Int} {g:Nat} (a:KC H g a0) (hm:dx n a0 a1 a2 a3=some (c,d)),dy prog T 192 [AV.ei g 0,Pf.av a1,cJ.av a2,sI a3] H (AV.tuple [cE.av c,sI d]) H)/\(∀{H:cV} {a0:List Fm} {a1:Pf} {a2:cJ} {a3:Fm} {a4:Tm} {c:cE} {d:Int} {g:Nat} (a:KC H g a0) (hm:dz n a0 a1 a2 a3 a4=some (c,d)),dy prog T 202 [AV.ei g 0,Pf.av a1,cJ.av a2,Fm.av a3,Tm.av a4] H (AV.tuple [cE.av c,sI d]) H):=by
  intro n
  induction n with
  |zero=>
    refine⟨?_,?_,?_,?_,?_,?_,?_,?_,?_,?_,?_,?_,?_,?_⟩
    all_goals(intro _ _;intros;rename_i hm;cases hm)
  |succ n j=>
 refine⟨?_,?_,?_,?_,?_,?_,?_,?_,?_,?_,?_,?_,?_,?_⟩
 ·intro H a0 a1 a2 c d g a hm;rw[dv] at hm;have e:=Aj k a;refine wi abi func81 [] [(1,true,[])] 7 ?_;have aD:re prog H 113 (AV.oa (g-1)) (sI a1.abd) false=some (Hh a1.abd):=Jr a.2;have e:=Aj e aD;have⟨Z,x3,e,m⟩:=gb e hm;simp[e];refine nL.val (r:=AV.tuple [cE.av Z,sI x3]) (H':=H) ?_ (by simp) ?_
  ·have b:=e.2;rcases ue (de a1.abd 1=true)with hk|hk
   ·rw[cG hk] at b;rw[gS hk (by rfl)];exact lM (vY T a b)
   rw[cB hk] at b;rcases ue (de a1.abd 2=true)with hk|hk
   ·rw[cG hk] at b;rw[gS hk (by rfl)];exact lM (u_ T a b)
   rw[cB hk] at b;rcases ue (de a1.abd 3=true)with hk|hk
   ·rw[cG hk] at b;rw[gS hk (by rfl)];exact lM (j.2.1 a b)
   rw[cB hk] at b;rcases ue (de a1.abd 4=true)with hk|hk
   ·rw[cG hk] at b;rw[gS hk (by rfl)];exact lM (j.2.2.1 a b)
   rw[cB hk] at b;rcases ue (de a1.abd 5=true)with hk|hk
   ·rw[cG hk] at b;rw[gS hk (by rfl)];exact lM (j.2.2.1 a b)
   rw[cB hk] at b;rcases ue (de a1.abd 6=true)with hk|hk
   ·rw[cG hk] at b;rw[gS hk (by rfl)];exact lM (j.2.2.2.1 a b)
   rw[cB hk] at b;rcases ue (de a1.abd 7=true)with hk|hk
   ·rw[cG hk] at b;rw[gS hk (by rfl)];exact lM (j.2.2.2.2.1 a b)
   rw[cB hk] at b;rcases ue (de a1.abd 8=true)with hk|hk
   ·rw[cG hk] at b;rw[gS hk (by rfl)];exact lM (j.2.2.2.2.2.1 a b)
   rw[cB hk] at b;rcases ue (de a1.abd 12=true)with hk|hk
   ·rw[cG hk] at b;rw[gS hk (by rfl)];exact lM (j.2.2.2.2.2.1 a b)
   rw[cB hk] at b;rcases ue (de a1.abd 9=true)with hk|hk
   ·rw[cG hk] at b;rw[gS hk (by rfl)];exact lM (j.2.2.2.2.2.2.1 a b)
   rw[cB hk] at b;rcases ue (de a1.abd 13=true)with hk|hk
   ·rw[cG hk] at b;rw[gS hk (by rfl)];exact lM (j.2.2.2.2.2.2.1 a b)
   rw[cB hk] at b;rcases ue (de a1.abd 10=true)with hk|hk
   ·rw[cG hk] at b;rw[gS hk (by rfl)];exact lM (j.2.2.2.2.2.2.2.1 a b)
   rw[cB hk] at b;rcases ue (de a1.abd 14=true)with hk|hk
   ·rw[cG hk] at b;rw[gS hk (by rfl)];exact lM (j.2.2.2.2.2.2.2.1 a b)
   rw[cB hk] at b;rcases ue (de a1.abd 11=true)with hk|hk
   ·rw[cG hk] at b;rw[gS hk (by rfl)];exact lM (j.2.2.2.2.2.2.2.2.1 a b)
   rw[cB hk] at b;rcases ue (de a1.abd 15=true)with hk|hk
   ·rw[cG hk] at b;rw[gS hk (by rfl)];exact lM (j.2.2.2.2.2.2.2.2.1 a b)
   rw[cB hk] at b;rcases ue (de a1.abd 16=true)with hk|hk
   ·rw[cG hk] at b;rw[gS hk (by rfl)];exact lM (j.2.2.2.2.2.2.2.2.2.1 a b)
   rw[cB hk] at b;rcases ue (de a1.abd 17=true)with hk|hk
   ·rw[cG hk] at b;rw[gS hk (by rfl)];exact lM (j.2.2.2.2.2.2.2.2.2.1 a b)
   rw[cB hk] at b;rcases ue (de a1.abd 18=true)with hk|hk
   ·rw[cG hk] at b;rw[gS hk (by rfl)];exact lM (vl T a b)
   rw[cB hk] at b;rcases ue (de a1.abd 19=true)with hk|hk
   ·rw[cG hk] at b;rw[gS hk (by rfl)];exact lM (j.2.2.2.2.2.2.2.2.2.2.1 a b)
   rw[cB hk] at b;rcases ue (de a1.abd 20=true)with hk|hk
   ·rw[cG hk] at b;rw[gS hk (by rfl)];exact lM (j.2.2.2.2.2.2.2.2.2.2.2.1 a b)
   rw[cB hk] at b;cases b
  simp[e];rcases Io e m with⟨e,m⟩|⟨e,m⟩
  ·apply wg 999;cases m;simp[e]
  apply wg 5;have⟨x5,e,m⟩:=c7 e m;simp[e];refine Cf (mC T k e.2) ?_;simp[e];rcases Io e m with⟨e,m⟩|⟨e,m⟩
  ·apply wg 999;cases m;simp[e]
  apply wg 2;simp[e];refine Wj m 999 999 (λj6 f h=>∃(v7:Int) (y:Nat) (z:Nat),(h=H/\f.1 6=AV.dc 6 y 0/\f.1 8=AV.dc 8 z 0/\f.gen 6=y/\f.box 6=some [sI 0,sI 0,AV.slice .full [],AV.slice .full [],AV.slice .full [],AV.sc (.int .u32 0)]/\f.gen 8=z/\f.box 8=some [sI Z.cK.abd,sI Z.cK.cD.abd,sL Ty.av Z.cK.cD.abe,sL Tm.av Z.cK.cU,sL Fm.av Z.cK.abe,AV.sc (.int .u32 v7)])/\j6 v7=some (c,d)) (λj6 K8 aq m=>?_) ?_;rotate_left
  ·rintro aS aY ⟨v7,y,z,E,m⟩;have e:=Aj e E;cases m;simp[e]
  have⟨ar,aj,e,m⟩:=gb e m;simp[e];refine Cf (BS T k e.2) ?_;rcases Io e m with⟨e,m⟩|⟨e,m⟩;rotate_left
  ·simp[e];exact aq _ _ ⟨0,1,1,by simp[e],m⟩
  simp[e];exact aq _ _ ⟨Z.eS,1,1,by simp[e],m⟩
 ·intro H a0 a1 a2 c d g a hm;rw[jh] at hm;have e:=Aj k a;refine wi abi func141 [] [] 999 ?_;have⟨ak,e,m⟩:=c7 e hm;have⟨i,x5,e,m⟩:=gb e m;simp[e];refine Cs (j.1 a e.2) ?_;rcases Io e m with⟨e,m⟩|⟨e,m⟩
  ·cases m;simp[e]
  have⟨aj,e,m⟩:=c7 e m;have⟨aE,aF,e,m⟩:=gb e m;simp[e];refine Cs (j.1 a e.2) ?_;rcases Io e m with⟨e,m⟩|⟨e,m⟩
  ·cases m;simp[e]
  have⟨au,e,m⟩:=c7 e m;simp[e];refine Cs (A8 e.2) ?_;cases m;simp[e]
 ·intro H a0 a1 a2 c d g a hm;rw[fS] at hm;have e:=Aj k a;refine wi abi func142 [] [] 7 ?_;have⟨ak,e,m⟩:=c7 e hm;have⟨i,x5,e,m⟩:=gb e m;simp[e];refine Cs (j.2.2.2.2.2.2.2.2.2.2.2.2.1 a e.2) ?_;simp[e];rcases Io e m with⟨e,m⟩|⟨e,m⟩
  ·apply wg 999;cases m;simp[e]
  apply wg 4;simp[e];refine wj 999 999 (λf h=>∃(A:Nat) (B:Nat),h=H/\f.1 6=AV.dc 6 A 0/\f.1 8=AV.dc 8 B 0/\f.1 10=sI (ew (de a1.abd 5) 1 0)/\f.gen 6=A/\f.box 6=some [sI 0,sI 0,AV.slice .full [],AV.slice .full [],AV.slice .full [],AV.sc (.int .u32 0)]/\f.gen 8=B/\f.box 8=some [sI i.cK.abd,sI i.cK.cD.abd,sL Ty.av i.cK.cD.abe,sL Tm.av i.cK.cU,sL Fm.av i.cK.abe,AV.sc (.int .u32 i.eS)]) (λaZ ad=>?_) ?_;rotate_left
  ·rintro aT a6 ⟨A,B,E⟩;have e:=Aj e E;have⟨x7,e,m⟩:=c7 e m;cases m;simp[e]
  rcases Pb (de a1.abd 5) e with e|e
  ·simp[e];exact ad _ _ ⟨1,1,by simp[e]⟩
  simp[e];exact ad _ _ ⟨1,1,by simp[e]⟩
 ·intro H a0 a1 a2 c d g a hm;rw[jf] at hm;have e:=Aj k a;refine wi abi func143 [] [] 999 ?_;have⟨C,e,m⟩:=c7 e hm;have⟨Z,e,m⟩:=c7 e m;simp[e];refine Cf (gD e.2) ?_;rcases Io e m with⟨e,m⟩|⟨e,m⟩
  ·cases m;simp[e]
  have⟨x5,e,m⟩:=c7 e m;simp[e];refine Cf (k6 e.2) ?_;rcases Io e m with⟨e,m⟩|⟨e,m⟩
  ·cases m;simp[e]
  have⟨aG,e,m⟩:=c7 e m;have⟨aw,e,m⟩:=c7 e m;simp[e];refine Cs (lK e.2) ?_;have⟨aH,au,e,m⟩:=gb e m;simp[e];refine Cs (j.1 a e.2) ?_;rcases Io e m with⟨e,m⟩|⟨e,m⟩
  ·cases m;simp[e]
  have⟨aI,e,m⟩:=c7 e m;simp[e];refine Cs (A8 e.2) ?_;cases m;simp[e]
 ·intro H a0 a1 a2 c d g a hm;rw[ji] at hm;have e:=Aj k a;refine wi abi func144 [] [] 999 ?_;have⟨ak,e,m⟩:=c7 e hm;have⟨i,x5,e,m⟩:=gb e m;simp[e];refine Cs (j.2.2.2.2.2.2.2.2.2.2.2.2.1 a e.2) ?_;rcases Io e m with⟨e,m⟩|⟨e,m⟩
  ·cases m;simp[e]
  have⟨aj,e,m⟩:=c7 e m;have⟨aE,aF,e,m⟩:=gb e m;simp[e];refine Cs (j.1 a e.2) ?_;rcases Io e m with⟨e,m⟩|⟨e,m⟩
  ·cases m;simp[e]
  have⟨aJ,e,m⟩:=c7 e m;have⟨aa,e,m⟩:=c7 e m;simp[e];refine Cs (qY T k e.2) ?_;rcases Io e m with⟨e,m⟩|⟨e,m⟩
  ·cases m;simp[e]
  have⟨V,e,m⟩:=c7 e m;cases m;simp[e]
 ·intro H a0 a1 a2 c d g a hm;rw[fH] at hm;have e:=Aj k a;refine wi abi func145 [] [] 7 ?_;have⟨a7,e,m⟩:=c7 e hm;simp[e];refine Cf (k6 e.2) ?_;simp[e];rcases Io e m with⟨e,m⟩|⟨e,m⟩
  ·apply wg 999;cases m;simp[e]
  apply wg 7;have⟨x7,e,m⟩:=c7 e m;have⟨a8,e,m⟩:=c7 e m;simp[e];refine Cs (nc e.2) ?_;have⟨W,ar,e,m⟩:=gb e m;simp[e];refine Cs (j.1 a e.2) ?_;simp[e];rcases Io e m with⟨e,m⟩|⟨e,m⟩
  ·apply wg 999;cases m;simp[e]
  apply wg 4;simp[e];refine Wj m 999 999 (λax f h=>∃(al:Int) (D:Nat) (F:Nat) (G:Nat),(h=H/\f.1 4=AV.dc 4 D 0/\f.1 6=AV.dc 6 F 0/\f.1 9=AV.dc 9 G 0/\f.1 11=sI al/\f.gen 4=D/\f.box 4=some [sI a1.abd,sI a1.abg,sI a1.cD.abd,sL Ty.av a1.cD.abe,sL Tm.av a1.cU,sL Fm.av a1.ef,sL Pf.av a1.abe]/\f.gen 6=F/\f.box 6=some [sI 0,sI 0,AV.slice .full [],AV.slice .full [],AV.slice .full [],AV.sc (.int .u32 0)]/\f.gen 9=G/\f.box 9=some [sI W.cK.abd,sI W.cK.cD.abd,sL Ty.av W.cK.cD.abe,sL Tm.av W.cK.cU,sL Fm.av W.cK.abe,AV.sc (.int .u32 W.eS)])/\ax al=some (c,d)) (λax a_ ae m=>?_) ?_
  ·rcases Io e m with⟨e,m⟩|⟨e,m⟩;rotate_left
   ·simp[e];exact ae _ _ ⟨4,1,1,1,by simp[e],m⟩
   rcases Io e m with⟨e,m⟩|⟨e,m⟩
   ·cases m;simp[e]
   simp[e];exact ae _ _ ⟨6,1,1,1,by simp[e],m⟩
  rintro aU a' ⟨al,D,F,G,E,m⟩;have e:=Aj e E;have⟨ba,e,m⟩:=c7 e m;simp[e];refine Cs (pO e.2) ?_;have⟨bb,e,m⟩:=c7 e m;simp[e];refine Cs (mg e.2) ?_;cases m;simp[e]
 ·intro H a0 a1 a2 c d g a hm;rw[fG] at hm;have e:=Aj k a;refine wi abi func146 [] [] 9 ?_;have⟨C,e,m⟩:=c7 e hm;have⟨an,bc,e,m⟩:=gb e m;simp[e];refine Cf (jY e.2) ?_;simp[e];rcases Io e m with⟨e,m⟩|⟨e,m⟩
  ·apply wg 999;cases m;simp[e]
  apply wg 4;have⟨ay,e,m⟩:=c7 e m;simp[e];refine Cf (tn T e.2) ?_;simp[e];refine wj 999 999 (λf h=>∃(I:Nat) (J:Nat) (K:Nat) (L:Nat) (M:Nat),h=H/\f.1 0=AV.ei g 0/\f.1 4=AV.dc 4 I 0/\f.1 5=AV.dc 5 J 0/\f.1 6=AV.dc 6 K 0/\f.1 8=AV.dc 8 L 0/\f.1 9=AV.dc 9 M 0/\f.1 11=sI (ew (de a1.abd 13) 6 4)/\f.1 12=AV.sc (.int .u32 (ew (de a1.abd 13) 0 ay))/\f.gen 4=I/\f.box 4=some [sI a1.abd,sI a1.abg,sI a1.cD.abd,sL Ty.av a1.cD.abe,sL Tm.av a1.cU,sL Fm.av a1.ef,sL Pf.av a1.abe]/\f.gen 5=J/\f.box 5=some [sI a2.eu.vars,sI a2.eu.abk,sL cH.av a2.abh,sL cP.av a2.known]/\f.gen 6=K/\f.box 6=some [sI 0,sI 0,AV.slice .full [],AV.slice .full [],AV.slice .full [],AV.sc (.int .u32 0)]/\f.gen 8=L/\f.box 8=some [sI C.abd,sI C.abg,sI C.cD.abd,sL Ty.av C.cD.abe,sL Tm.av C.abe]/\f.gen 9=M/\f.box 9=some [sI an.cD.abd,sL Ty.av an.cD.abe,sI an.abf]) (λbd af=>?_) ?_
  ·rcases Pb (de a1.abd 13) e with e|e
   ·simp[e];exact af _ _ ⟨1,1,1,1,1,by simp[e]⟩
   simp[e];exact af _ _ ⟨1,1,1,1,1,by simp[e]⟩
  rintro aV bf ⟨I,J,K,L,M,E⟩;have e:=Aj e E;have⟨bg,e,m⟩:=c7 e m;have⟨ar,aj,e,m⟩:=gb e m;simp[e];refine Cs (j.2.2.2.2.2.2.2.2.2.2.2.2.1 a e.2) ?_;rcases Io e m with⟨e,m⟩|⟨e,m⟩
  ·cases m;simp[e]
  have⟨aw,e,m⟩:=c7 e m;simp[e];refine Cf (oh e.2) ?_;rcases Io e m with⟨e,m⟩|⟨e,m⟩;rotate_left
  ·cases m;simp[e]
  have⟨bh,e,m⟩:=c7 e m;have⟨aK,aL,e,m⟩:=gb e m;simp[e];refine Cs (pN T k e.2) ?_;cases m;simp[e]
 ·intro H a0 a1 a2 c d g a hm;rw[fR] at hm;have e:=Aj k a;refine wi abi func147 [] [] 999 ?_;have⟨ay,e,m⟩:=c7 e hm;have⟨bj,e,m⟩:=c7 e m;rcases Io e m with⟨e,m⟩|⟨e,m⟩;rotate_left
  ·have⟨bk,e,m⟩:=c7 e m;simp[e];refine Cf (gD e.2) ?_;rcases Io e m with⟨e,m⟩|⟨e,m⟩
   ·cases m;simp[e]
   rcases Io e m with⟨e,m⟩|⟨e,m⟩
   ·cases m;simp[e]
   have⟨bl,aM,e,m⟩:=gb e m;simp[e];refine Cf (jY e.2) ?_;rcases Io e m with⟨e,m⟩|⟨e,m⟩
   ·cases m;simp[e]
   have⟨bm,e,m⟩:=c7 e m;simp[e];refine Cf (oh e.2) ?_;rcases Io e m with⟨e,m⟩|⟨e,m⟩;rotate_left
   ·cases m;simp[e]
   have⟨aN,e,m⟩:=c7 e m;have⟨bn,e,m⟩:=c7 e m;have⟨bo,bp,e,m⟩:=gb e m;simp[e];refine Cs (j.2.2.2.2.2.2.2.2.2.2.2.2.2 a e.2) ?_;rcases Io e m with⟨e,m⟩|⟨e,m⟩
   ·cases m;simp[e]
   have⟨bq,e,m⟩:=c7 e m;simp[e];refine Cs (tn T e.2) ?_;cases m;simp[e]
  have⟨az,e,m⟩:=c7 e m;simp[e];refine Cf (gD e.2) ?_;rcases Io e m with⟨e,m⟩|⟨e,m⟩
  ·cases m;simp[e]
  rcases Io e m with⟨e,m⟩|⟨e,m⟩
  ·cases m;simp[e]
  have⟨x9,br,e,m⟩:=gb e m;simp[e];refine Cf (jY e.2) ?_;rcases Io e m with⟨e,m⟩|⟨e,m⟩
  ·cases m;simp[e]
  have⟨bs,e,m⟩:=c7 e m;simp[e];refine Cf (oh e.2) ?_;rcases Io e m with⟨e,m⟩|⟨e,m⟩;rotate_left
  ·cases m;simp[e]
  have⟨bt,e,m⟩:=c7 e m;have⟨bu,e,m⟩:=c7 e m;have⟨aL,aO,e,m⟩:=gb e m;simp[e];refine Cs (j.2.2.2.2.2.2.2.2.2.2.2.2.2 a e.2) ?_;rcases Io e m with⟨e,m⟩|⟨e,m⟩
  ·cases m;simp[e]
  have⟨w,e,m⟩:=c7 e m;simp[e];refine Cs (uG e.2) ?_;cases m;simp[e]
 ·intro H a0 a1 a2 c d g a hm;rw[fU] at hm;have e:=Aj k a;refine wi abi func148 [] [] 6 ?_;simp[e];refine wj 999 5 (λf h=>∃(N:Nat) (O:Nat) (l:Nat),h=H/\f.1 0=AV.ei g 0/\f.1 4=AV.dc 4 N 0/\f.1 5=AV.dc 5 O 0/\f.1 6=AV.dc 6 l 0/\f.1 8=sB (de a1.abd 15)/\f.1 9=sI (ew (de a1.abd 15) 7 5)/\f.gen 4=N/\f.box 4=some [sI a1.abd,sI a1.abg,sI a1.cD.abd,sL Ty.av a1.cD.abe,sL Tm.av a1.cU,sL Fm.av a1.ef,sL Pf.av a1.abe]/\f.gen 5=O/\f.box 5=some [sI a2.eu.vars,sI a2.eu.abk,sL cH.av a2.abh,sL cP.av a2.known]/\f.gen 6=l/\f.box 6=some [sI 0,sI 0,AV.slice .full [],AV.slice .full [],AV.slice .full [],AV.sc (.int .u32 0)]) (λbw aA=>?_) ?_
  ·rcases Pb (de a1.abd 15) e with e|e
   ·simp[e];exact aA _ _ ⟨1,1,1,by simp[e]⟩
   simp[e];exact aA _ _ ⟨1,1,1,by simp[e]⟩
  rintro o bx ⟨N,O,l,E⟩;have e:=Aj e E;have⟨x5,e,m⟩:=c7 e hm;have⟨P,bz,e,m⟩:=gb e m;simp[e];refine Cs (j.2.2.2.2.2.2.2.2.2.2.2.2.1 a e.2) ?_;simp[e];rcases Io e m with⟨e,m⟩|⟨e,m⟩
  ·apply wg 999;cases m;simp[e]
  apply wg 7;have⟨x7,e,m⟩:=c7 e m;simp[e];refine Cf (k6 e.2) ?_;simp[e];rcases Io e m with⟨e,m⟩|⟨e,m⟩
  ·apply wg 999;cases m;simp[e]
  apply wg 7;have⟨aO,e,m⟩:=c7 e m;have⟨bA,e,m⟩:=c7 e m;simp[e];refine Cs (nc e.2) ?_;have⟨aJ,e,m⟩:=c7 e m;have⟨aa,e,m⟩:=c7 e m;simp[e];refine Cs (lK e.2) ?_;have⟨w,bB,e,m⟩:=gb e m;simp[e];refine Cs (j.1 a e.2) ?_;simp[e];rcases Io e m with⟨e,m⟩|⟨e,m⟩
  ·apply wg 999;cases m;simp[e]
  apply wg 7;have⟨V,aP,e,m⟩:=gb e m;simp[e];refine Cf (Ay T k e.2) ?_;simp[e];rcases Io e m with⟨e,m⟩|⟨e,m⟩
  ·apply wg 999;cases m;simp[e]
  apply wg 3;simp[e];refine wj 999 999 (λf h=>∃(Q:Nat) (p:Nat) (q:Nat) (s:Nat),h=H/\f.1 6=AV.dc 6 Q 0/\f.1 10=AV.dc 10 p 0/\f.1 13=AV.dc 13 q 0/\f.1 14=AV.dc 14 s 0/\f.1 82=sB (ew (de a1.abd 15) (dr (nI .u32 w.eS 1) 0) false)/\f.gen 6=Q/\f.box 6=some [sI 0,sI 0,AV.slice .full [],AV.slice .full [],AV.slice .full [],AV.sc (.int .u32 0)]/\f.gen 10=p/\f.box 10=some [sI P.cK.abd,sI P.cK.cD.abd,sL Ty.av P.cK.cD.abe,sL Tm.av P.cK.cU,sL Fm.av P.cK.abe,AV.sc (.int .u32 P.eS)]/\f.gen 13=q/\f.box 13=some [sI w.cK.abd,sI w.cK.cD.abd,sL Ty.av w.cK.cD.abe,sL Tm.av w.cK.cU,sL Fm.av w.cK.abe,AV.sc (.int .u32 w.eS)]/\f.gen 14=s/\f.box 14=some [sI V.abd,sI V.cD.abd,sL Ty.av V.cD.abe,sL Tm.av V.cU,sL Fm.av V.abe]) (λbC ah=>?_) ?_;rotate_left
  ·rintro aW bD ⟨Q,p,q,s,E⟩;have e:=Aj e E;rcases Io e m with⟨e,m⟩|⟨e,m⟩
   ·cases m;simp[e]
   have⟨aQ,e,m⟩:=c7 e m;simp[e];refine Cs (mg e.2) ?_;cases m;simp[e]
  rcases Pb (de a1.abd 15) e with e|e
  ·simp[e];exact ah _ _ ⟨l,(o.gen 10+1),(o.gen 13+1),(o.gen 14+1),by simp[e]⟩
  simp[e];exact ah _ _ ⟨l,(o.gen 10+1),(o.gen 13+1),(o.gen 14+1),by simp[e]⟩
 ·intro H a0 a1 a2 c d g a hm;rw[fT] at hm;have e:=Aj k a;refine wi abi func149 [] [] 999 ?_;have⟨x5,e,m⟩:=c7 e hm;have⟨P,e,m⟩:=c7 e m;have⟨az,e,m⟩:=c7 e m;simp[e];refine Cs (vN e.2) ?_;have⟨aR,e,m⟩:=c7 e m;simp[e];refine Cs (kK e.2) ?_;have⟨aI,e,m⟩:=c7 e m;simp[e];refine Cs (gD e.2) ?_;rcases Io e m with⟨e,m⟩|⟨e,m⟩
  ·cases m;simp[e]
  have⟨aK,e,m⟩:=c7 e m;simp[e];refine Cf (qR e.2) ?_;rcases Io e m with⟨e,m⟩|⟨e,m⟩
  ·cases m;simp[e]
  have⟨aP,e,m⟩:=c7 e m;have⟨bE,bF,e,m⟩:=gb e m;simp[e];refine Cs (j.2.2.2.2.2.2.2.2.2.2.2.2.2 a e.2) ?_;rcases Io e m with⟨e,m⟩|⟨e,m⟩
  ·cases m;simp[e]
  have⟨bG,e,m⟩:=c7 e m;simp[e];refine Cf (k6 e.2) ?_;rcases Io e m with⟨e,m⟩|⟨e,m⟩
  ·cases m;simp[e]
  have⟨bH,e,m⟩:=c7 e m;simp[e];refine Cs (nc e.2) ?_;have⟨bI,e,m⟩:=c7 e m;simp[e];refine Cs (l8 T e.2) ?_;have⟨bJ,e,m⟩:=c7 e m;simp[e];refine Cs (lK e.2) ?_;have⟨bK,e,m⟩:=c7 e m;have⟨bL,e,m⟩:=c7 e m;simp[e];refine Cs (l8 T e.2) ?_;have⟨bM,bN,e,m⟩:=gb e m;simp[e];refine Cs (j.2.2.2.2.2.2.2.2.2.2.2.2.2 a e.2) ?_;rcases Io e m with⟨e,m⟩|⟨e,m⟩
  ·cases m;simp[e]
  have⟨bO,bP,e,m⟩:=gb e m;simp[e];refine Cf (pN T k e.2) ?_;have⟨bQ,e,m⟩:=c7 e m;simp[e];refine Cs (tn T e.2) ?_;have⟨bR,e,m⟩:=c7 e m;simp[e];refine Cs (mg e.2) ?_;cases m;simp[e]
 ·intro H a0 a1 a2 c d g a hm;rw[iH] at hm;have e:=Aj k a;refine wi abi func151 [] [] 999 ?_;have⟨C,e,m⟩:=c7 e hm;have⟨au,e,m⟩:=c7 e m;simp[e];refine Cs (kB e.2) ?_;have⟨bS,e,m⟩:=c7 e m;simp[e];refine Cs (kK e.2) ?_;have⟨bT,e,m⟩:=c7 e m;simp[e];refine Cs (gD e.2) ?_;rcases Io e m with⟨e,m⟩|⟨e,m⟩
  ·cases m;simp[e]
  have⟨bU,e,m⟩:=c7 e m;have⟨bV,aa,e,m⟩:=gb e m;simp[e];refine Cs (j.2.2.2.2.2.2.2.2.2.2.2.2.1 a e.2) ?_;rcases Io e m with⟨e,m⟩|⟨e,m⟩
  ·cases m;simp[e]
  have⟨aQ,e,m⟩:=c7 e m;have⟨bW,e,m⟩:=c7 e m;have⟨bX,bY,e,m⟩:=gb e m;simp[e];refine Cs (j.2.2.2.2.2.2.2.2.2.2.2.2.2 a e.2) ?_;rcases Io e m with⟨e,m⟩|⟨e,m⟩
  ·cases m;simp[e]
  have⟨bZ,e,m⟩:=c7 e m;have⟨aN,b0,e,m⟩:=gb e m;simp[e];refine Cs (pN T k e.2) ?_;cases m;simp[e]
 ·intro H a0 a1 a2 c d g a hm;rw[ib] at hm;have e:=Aj k a;refine wi abi func152 [] [] 7 ?_;have⟨ak,e,m⟩:=c7 e hm;have⟨i,x5,e,m⟩:=gb e m;simp[e];refine Cs (j.2.2.2.2.2.2.2.2.2.2.2.2.1 a e.2) ?_;simp[e];rcases Io e m with⟨e,m⟩|⟨e,m⟩
  ·apply wg 999;cases m;simp[e]
  apply wg 9;have⟨az,e,m⟩:=c7 e m;simp[e];rcases Io e m with⟨e,m⟩|⟨e,m⟩
  ·apply wg 999;cases m;simp[e]
  apply wg 7;have⟨x8,e,m⟩:=c7 e m;simp[e];refine Cf (xW e.2) ?_;have⟨aG,e,m⟩:=c7 e m;have⟨aw,e,m⟩:=c7 e m;simp[e];refine Cf (l8 T e.2) ?_;have⟨aH,e,m⟩:=c7 e m;simp[e];refine Cf (iW e.2) ?_;have⟨b1,e,m⟩:=c7 e m;simp[e];refine Cf (iW e.2) ?_;have⟨b2,e,m⟩:=c7 e m;simp[e];refine Cf (yg e.2) ?_;have⟨X,aR,e,m⟩:=gb e m;simp[e];refine Cf (pN T k e.2) ?_;simp[e];refine Wj m 999 999 (λaB f h=>∃(ao:Bool) (R:Nat) (S:Nat) (t:Nat) (u:Nat) (v:Nat),(h=H/\f.1 6=AV.dc 6 R 0/\f.1 8=AV.dc 8 S 0/\f.1 10=AV.dc 10 t 0/\f.1 12=AV.dc 12 u 0/\f.1 13=AV.dc 13 v 0/\f.1 63=sB ao/\f.gen 6=R/\f.box 6=some [sI 0,sI 0,AV.slice .full [],AV.slice .full [],AV.slice .full [],AV.sc (.int .u32 0)]/\f.gen 8=S/\f.box 8=some [sI i.cK.abd,sI i.cK.cD.abd,sL Ty.av i.cK.cD.abe,sL Tm.av i.cK.cU,sL Fm.av i.cK.abe,AV.sc (.int .u32 i.eS)]/\f.gen 10=t/\f.box 10=some [sI i.cK.abd,sI i.cK.cD.abd,sL Ty.av i.cK.cD.abe,sL Tm.av i.cK.cU,sL Fm.av i.cK.abe]/\f.gen 12=u/\f.box 12=some [sI x8.abd,sL Ty.av x8.abe]/\f.gen 13=v/\f.box 13=some [sI X.abd,sI X.cD.abd,sL Ty.av X.cD.abe,sL Tm.av X.cU,sL Fm.av X.abe])/\aB ao=some (c,d)) (λaB b3 ai m=>?_) ?_
  ·rcases Io e m with⟨e,m⟩|⟨e,m⟩
   ·simp[e];exact ai _ _ ⟨true,1,1,1,1,1,by simp[e],m⟩
   have⟨aa,e,m⟩:=c7 e m;simp[e];refine Cf (xH e.2) ?_;simp[e];exact ai _ _ ⟨(dr aa 0),1,1,1,1,1,by simp[e],m⟩
  rintro aX b4 ⟨ao,R,S,t,u,v,E,m⟩;have e:=Aj e E;rcases Io e m with⟨e,m⟩|⟨e,m⟩
  ·cases m;simp[e]
  have⟨b5,e,m⟩:=c7 e m;simp[e];refine Cs (pO e.2) ?_;have⟨aM,e,m⟩:=c7 e m;simp[e];refine Cs (pO e.2) ?_;cases m;simp[e]
 ·intro H a0 a1 a2 a3 c d g a hm;rw[dx] at hm;have e:=Aj k a;refine wi abi func192 [] [] 5 ?_;have⟨x,ab,e,m⟩:=gb e hm;simp[e];refine Cf (j.1 a e.2) ?_;simp[e];refine wj 999 999 (λf h=>∃(Y:Nat) (U:Nat),h=H/\f.1 8=AV.dc 8 Y 0/\f.1 10=AV.dc 10 U 0/\f.1 11=sI ab/\f.1 27=sB (ew (de ab 0) (dr x.cK.abd a3) false)/\f.gen 8=Y/\f.box 8=some [sI 0,sI 0,AV.slice .full [],AV.slice .full [],AV.slice .full [],AV.sc (.int .u32 0)]/\f.gen 10=U/\f.box 10=some [sI x.cK.abd,sI x.cK.cD.abd,sL Ty.av x.cK.cD.abe,sL Tm.av x.cK.cU,sL Fm.av x.cK.abe,AV.sc (.int .u32 x.eS)]) (λK1 aC=>?_) ?_;rotate_left
  ·rintro b6 h3 ⟨Y,U,E⟩;have e:=Aj e E;rcases Io e m with⟨e,m⟩|⟨e,m⟩
   ·cases m;simp[e]
   cases m;simp[e]
  rcases Pb (de ab 0) e with e|e
  ·simp[e];exact aC _ _ ⟨1,1,by simp[e]⟩
  simp[e];exact aC _ _ ⟨1,1,by simp[e]⟩
 ·intro H a0 a1 a2 a3 a4 c d g a hm;rw[dz] at hm;have e:=Aj k a;refine wi abi func202 [] [] 999 ?_;have⟨x,ab,e,m⟩:=gb e hm;simp[e];refine Cf (j.1 a e.2) ?_;rcases Io e m with⟨e,m⟩|⟨e,m⟩
  ·cases m;simp[e]
  have⟨x1,Z,e,m⟩:=gb e m;simp[e];refine Cf (pN T k e.2) ?_;rcases Io e m with⟨e,m⟩|⟨e,m⟩
  ·cases m;simp[e]
  have⟨x5,e,m⟩:=c7 e m;simp[e];refine Cs (qY T k e.2) ?_;cases m;simp[e]
def uM(T:dA)(e:nb T){H:cV}{a0:List Fm}{a1:Pf}{a2:cJ}{b:cE}{c:Int}{d:Nat}(a:KC H d a0){n:Nat}(hm:dv n a0 a1 a2=some (b,c)):dy prog T 81 [AV.ei d 0,Pf.av a1,cJ.av a2] H (AV.tuple [cE.av b,sI c]) H:=(tL T e n).1 a hm
def IW:∀(n:Nat),C1 prog 157 (rN n) Tm.av Tm.av:=by
  intro n
  induction n with
  |zero=>
   skip
   all_goals(intro _ _;intros;rename_i hm;cases hm)
  |succ n p=>
 intro T H a0 r hm;rw[rN] at hm;have e:=trivial;refine wi abi func157 [] [] 999 ?_;have⟨l,e,m⟩:=c7 e hm;simp[e];refine Cs (py e.2) ?_;simp[e];refine Wr e m 999 (λo g f h=>∃(a:Tag) (b:Nat) (c:Nat),(h=H/\f.1 2=AV.dc 2 b 0/\f.1 3=AV.dc 3 c 0/\f.1 15=sL Tm.av a0.abe/\f.1 16=sI (dm a0.abe)/\f.1 17=sI o/\f.gen 2=b/\f.box 2=some [sI 0,sI 0,sI 0,AV.slice .full [],AV.slice .full []]/\f.gen 3=c/\f.box 3=some [sI a0.abd,sI a0.abg,sI l.abd,sL Ty.av l.abe,sT a Tm.av g])/\Ow f [26] a g) (by exact⟨.full,1,1,by simp[e],iS.full⟩) (λg i q s E m=>?_) (λo t g i q s u v E e m z9 j=>?_)
 ·have⟨a,b,c,E,d⟩:=E;have e:=Aj e E;dsimp only[cQ]at m;cases m;simp[e]
 have⟨a,b,c,E,d⟩:=E;have e:=Aj e E;have⟨k,e,m⟩:=c7 e m;simp[e];refine Cs (p e.2) ?_;have⟨e,m⟩:=Ck e m;simp[e];refine Ad (f:=Tm.av) g [k] d C7 e.2 ?_;simp[e];cases m;exact j _ _ _ ⟨(.loc 26 (i.ea 26+1)),b,c,by simp[e],(On 26)⟩ z9
def KM{n:Nat}:C1 prog 157 (rN n) Tm.av Tm.av:=(IW n)
def xj:C2 prog 156 k5 Tm.av Tm.av sI:=by
 intro T H a0 a1 r hm;rw[k5] at hm;have e:=trivial;refine wi abi func156 [] [] 999 ?_;have⟨a,e,m⟩:=c7 e hm;simp[e];refine Cf (KM e.2) ?_;cases m;simp[e]
def yJ:C1 prog 83 mH Fm.av Fm.av:=by
 intro T H a0 r hm;rw[mH] at hm;have e:=trivial;refine wi abi func83 [] [] 999 ?_;have⟨b,s2,e,m⟩:=gb e hm;simp[e];refine Cf (kL T (st:=λ_:Unit=>H) (yw.const _) (λX _ _ _ _ _ h=>by obtain⟨a,rfl⟩:=r6 h;exact xj a) e.2) ?_;cases m;simp[e]
def MN:rh prog 158=true:=by kernel_rfl
set_option maxHeartbeats 4000000 in
def Qq(x k idx:Nat)(w:World)(b:((x:Int)==0)=false)
  (key:bits BinOp.and IntKind.u32 (x:Int) (-(x:Int)%4294967296)*125613361%4294967296/134217728=(idx:Int))
  (hi:idx<32) (c:k<32) (a:w.cell? ⟨0,idx,none⟩=some (.int .u8 k)):Calls prog 158 #[.int .u32 x] w λe w'=>e=.returned (.int .i64 k)/\w'=w:=by
 go_enter func158,ntmps158
 go_wp2_with (simp only[key])
 go_ret
 exact⟨rfl,rfl⟩
set_option maxHeartbeats 4000000 in
def Qj(w:World):Calls prog 158 #[.int .u32 0] w λe w'=>e=.returned (.int .i64 32)/\w'=w:=by
 go_enter func158,ntmps158
 go_wp2
 go_ret
 exact⟨rfl,rfl⟩
def P7(n:Int):IntKind.u32.wrap n=n%4294967296:=by simp[IntKind.wrap,IntKind.signed,IntKind.bits]
def Ud(a b:Nat)(e:a<4294967296)(f:b<4294967296):bits .and .u32 (a:Int) (b:Int)=((a&&&b:Nat):Int):=by
 have g:a&&&b<2^32:=Td _ (by omega)
 have c:(BitVec.ofInt 32 (a:Int)).toNat=a:=by
  rw[UO];omega
 have d:(BitVec.ofInt 32 (b:Int)).toNat=b:=by
  rw[UO];omega
 show IntKind.u32.wrap ((BitVec.ofInt 32 (a:Int)&&&BitVec.ofInt 32 (b:Int)).toNat:Int)=_;rw[BitVec.toNat_and,c,d,P7];omega
def TS(x a:Nat)(c:x<4294967296)(d:x≠0)(b:x&&&(4294967296-x)=a):bits BinOp.and IntKind.u32 (x:Int) (-(x:Int)%4294967296)*125613361%4294967296/134217728=((a*125613361%4294967296/134217728:Nat):Int):=by
 have e:-(x:Int)%4294967296=((4294967296-x:Nat):Int):=by omega
 rw[e,Ud x _ c (by omega),b];omega
def T0:∀j,j<32->jZ[j]?=some ((Lib.deBruijn32tab.getD j 0:Nat):Int):=by decide+kernel
def q9(T:dA)(n:nb T){H:cV}{a0:Int}{g:Int}(hm:gm a0=some g):dy prog T 158 [AV.sc (.int .u32 a0)] H (sI g) H:=by
 unfold gm at hm
 split at hm
 case isFalse=>cases hm
 rename_i h;obtain⟨x,rfl⟩:∃x:Nat,a0=(x:Int):=⟨a0.toNat,by omega⟩;obtain rfl:=gk hm
 have j:x<2^32:=by omega
 rw[BM];refine dy.Q7 MN λG F w vs hg o=>?_
 obtain⟨v1,rfl,a⟩:∃v,vs=[v]/\fB F G H.length (AV.sc (.int .u32 (x:Int))) v:=by
  cases o with
  |cons a b=>cases b;exact⟨_,rfl,a⟩
 cases a;refine⟨_,.sc rfl,?_⟩
 by_cases c:x=0
 ·subst c;exact(Qj w).mono λe w' ⟨a,b⟩=>⟨a,by rw[b];exact XW _ _⟩
 ·have⟨d,k⟩:=Lib.lowest_bit 32 x c j;have⟨hi,f⟩:=Lib.deBruijn32_at _ k;have p:=hg.x0 0 _ n.2.2;cases p with
  |kN a b r=>
   have l:=T0 _ hi;rw[f] at l;have⟨v,q,h⟩:=a.get (i:=2^Lib.ctz 32 x*125613361%4294967296/134217728) (x:=.sc (.int .u8 (Lib.ctz 32 x:Int))) (by simp[AV.cells,l]);cases h;have m:=hg.Ce _ _ _ (b _ _ q);rw[sy] at m;exact(Qq x (Lib.ctz 32 x) _ w (by simp;omega) (TS x _ j c d) hi k m).mono λe w' ⟨a,b⟩=>⟨a,by rw[b];exact XW _ _⟩
def su(T:dA)(g:nb T){H:cV}{a0:Int}{i:List Int}(hm:iB a0=some i):dy prog T 84 [AV.sc (.int .u32 a0)] H (sL sI i) H:=by
 rw[iB] at hm;have e:=g;refine wi abi func84 [] [] 999 ?_;simp[e];refine Wn hm 999 (λs1 f h=>∃(a:Tag),(h=H/\f.1 0=AV.sc (.int .u32 s1.1)/\f.1 3=sT a sI s1.2)/\Ow f [14] a s1.2) (by exact⟨.full,by simp[e],iS.full⟩) (λs1 fr2 k l n4 c5 E m j c=>?_);have⟨n,v9⟩:=s1;have⟨a,E,b⟩:=E;have e:=Aj e E;dsimp only[kC]at m;rcases Io e m with⟨e,m⟩|⟨e,m⟩;rotate_left
 ·cases m;have m:=Qb j;dsimp only[kC]at m;cases m;simp[e]
 have⟨d,e,m⟩:=c7 e m;simp[e];refine Cf (q9 T g e.2) ?_;have⟨e,m⟩:=Ck e m;simp[e];refine Ao (f:=sI) v9 [d] b WZ e.2 ?_;simp[e];cases m;exact c _ _ _ ⟨(.loc 14 (fr2.ea 14+1)),by simp[e],(On 14)⟩ j
def pI(T:dA)(a:nb T){H:cV}{a0:List Fm}{a1:Sq}{a2:Pf}{b:qE}{c:Int}(hm:jd a0 a1 a2=some (b,c)):dy prog T 23 [sL Fm.av a0,Sq.av a1,Pf.av a2] H (AV.tuple [qE.av b,sI c]) H:=by
 rw[jd] at hm;refine ej.ur (Post:=λx K=>x=AV.tuple [qE.av b,sI c]/\∃X,K=H++X) ?_ (λ_ _ h=>⟨_,h.2.choose_spec,by rw[h.1];simp[AV.low,AV.hS],h.1,rfl⟩);have e:=a;refine wi abi func23 [29] [] 999 ?_;have⟨d,e,m⟩:=c7 e hm;simp[e];refine Cf (A0 T a e.2) ?_;rcases Io e m with⟨e,m⟩|⟨e,m⟩
 ·cases m;simp[e]
 have⟨f,e,m⟩:=c7 e m;simp[e];refine Cf (Fe T a e.2) ?_;rcases Io e m with⟨e,m⟩|⟨e,m⟩
 ·cases m;simp[e]
 have⟨g,e,m⟩:=c7 e m;simp[e];refine Cf (Cy T e.2) ?_;have⟨i,e,m⟩:=c7 e m;simp[e];refine Cs (Cz e.2) ?_;have⟨j,k,e,m⟩:=gb e m;simp[e];refine Cs (uM T a ⟨by simp[e],by simp[e]⟩ e.2) ?_;rcases Io e m with⟨e,m⟩|⟨e,m⟩
 ·cases m;simp[e]
 have⟨l,e,m⟩:=c7 e m;simp[e];refine Cs (yJ e.2) ?_;have⟨n,e,m⟩:=c7 e m;simp[e];refine Cs (su T a e.2) ?_;cases m;simp[e]
def xR:C2 prog 51 pT Fm.av Tm.av Tm.av:=by
 intro T H a0 a1 r hm;rw[pT] at hm;have e:=trivial;refine wi abi func51 [] [] 999 ?_;have⟨a,e,m⟩:=c7 e hm;simp[e];refine Cs (k0 e.2) ?_;have⟨b,e,m⟩:=c7 e m;simp[e];refine Cs (k0 e.2) ?_;have e:=Aj e (show AV.agg [sI 1,sI 0,AV.slice .eh [],AV.slice .eh [Tm.av a,Tm.av b],AV.slice .eh []]=Fm.av (Fm.mk 1 (Ty.mk 0 []) [a,b] []) by rw[Fm.ey];rfl);have e:=Aj e (show AV.agg [sI 1,sI 0,AV.slice .eh [],AV.slice .eh [Tm.av a,Tm.av b],AV.slice .eh []]=Fm.av (Fm.mk 1 (Ty.mk 0 []) [a,b] []) by rw[Fm.ey];rfl);cases m;simp[e]
def uk:C3 prog 50 js Fm.av sI Ty.av Fm.av:=by
 intro T H a0 a1 a2 r hm;rw[js] at hm;have e:=trivial;refine wi abi func50 [] [] 999 ?_;have⟨a,e,m⟩:=c7 e hm;simp[e];refine Cs (hL e.2) ?_;have⟨b,e,m⟩:=c7 e m;simp[e];refine Cs (nH e.2) ?_;have e:=Aj e (show AV.agg [sI a0,sI a.abd,sL Ty.av a.abe,AV.slice .eh [],AV.slice .eh [Fm.av b]]=Fm.av (Fm.mk a0 a [] [b]) by rw[Fm.ey];rfl);have e:=Aj e (show AV.agg [sI a0,sI a.abd,sL Ty.av a.abe,AV.slice .eh [],AV.slice .eh [Fm.av b]]=Fm.av (Fm.mk a0 a [] [b]) by rw[Fm.ey];rfl);cases m;simp[e]
def EX:∀(n:Nat),C2 prog 61 (dR n) sB Ty.av Ty.av:=by
  intro n
  induction n with
  |zero=>
    skip
    all_goals(intro _ _;intros;rename_i hm;cases hm)
  |succ n p=>
 intro T H a0 a1 r hm;rw[dR] at hm;have e:=trivial;refine wi abi func61 [] [] 3 ?_;simp[e];refine wj 999 999 (λf h=>∃(c:Nat) (d:Nat),h=H/\f.1 2=AV.dc 2 c 0/\f.1 3=AV.dc 3 d 0/\f.1 19=sB (ew (dr a0.abd a1.abd) true (dr (dm a0.abe) (dm a1.abe)))/\f.gen 2=c/\f.box 2=some [sI a0.abd,sL Ty.av a0.abe]/\f.gen 3=d/\f.box 3=some [sI a1.abd,sL Ty.av a1.abe]) (λx g=>?_) ?_
 ·rcases Pb (dr a0.abd a1.abd) e with e|e
  ·simp[e];exact g _ _ ⟨1,1,by simp[e]⟩
  simp[e];exact g _ _ ⟨1,1,by simp[e]⟩
 rintro q y ⟨c,d,E⟩;have e:=Aj e E;rcases Io e hm with⟨e,m⟩|⟨e,m⟩
 ·cases m;simp[e]
 simp[e];refine Wr e m 999 (λl o f h=>∃(a:Nat) (b:Nat),h=H/\f.1 2=AV.dc 2 a 0/\f.1 3=AV.dc 3 b 0/\f.1 22=sI (dm a0.abe)/\f.1 23=sI l/\f.gen 2=a/\f.box 2=some [sI a0.abd,sL Ty.av a0.abe]/\f.gen 3=b/\f.box 3=some [sI a1.abd,sL Ty.av a1.abe]) ⟨c,d,by simp[e]⟩ (λo k s t E m=>?_) (λl z o k s t A u E e m i j=>?_)
 ·have⟨a,b,E⟩:=E;have e:=Aj e E;dsimp only[cQ]at m;cases m;simp[e]
 have⟨a,b,E⟩:=E;have e:=Aj e E;have⟨v,e,m⟩:=c7 e m;have⟨w,e,m⟩:=c7 e m;simp[e];refine Cs (p e.2) ?_;rcases Io e m with⟨e,m⟩|⟨e,m⟩;rotate_left
 ·cases m;cases i;simp[e]
 simp[e];cases m;exact j _ _ _ ⟨a,b,by simp[e]⟩ i
def gp{n:Nat}:C2 prog 61 (dR n) sB Ty.av Ty.av:=(EX n)
def EA:∀(n:Nat),C2 prog 168 (iv n) sB Tm.av Tm.av:=by
  intro n
  induction n with
  |zero=>
    skip
    all_goals(intro _ _;intros;rename_i hm;cases hm)
  |succ n s=>
 intro T H a0 a1 r hm;rw[iv] at hm;have e:=trivial;refine wi abi func168 [] [] 3 ?_;simp[e];refine Wj hm 999 999 (λo f h=>∃(v2:Bool) (c:Nat) (d:Nat),(h=H/\f.1 2=AV.dc 2 c 0/\f.1 3=AV.dc 3 d 0/\f.1 34=sB v2/\f.gen 2=c/\f.box 2=some [sI a0.abd,sI a0.abg,sI a0.cD.abd,sL Ty.av a0.cD.abe,sL Tm.av a0.abe]/\f.gen 3=d/\f.box 3=some [sI a1.abd,sI a1.abg,sI a1.cD.abd,sL Ty.av a1.cD.abe,sL Tm.av a1.abe])/\o v2=some r) (λo A g m=>?_) ?_
 ·rcases Io e m with⟨e,m⟩|⟨e,m⟩
  ·simp[e];exact g _ _ ⟨true,1,1,by simp[e],m⟩
  rcases Io e m with⟨e,m⟩|⟨e,m⟩
  ·simp[e];exact g _ _ ⟨true,1,1,by simp[e],m⟩
  have⟨B,e,m⟩:=c7 e m;simp[e];refine Cf (gp e.2) ?_;rcases Io e m with⟨e,m⟩|⟨e,m⟩;rotate_left
  ·simp[e];exact g _ _ ⟨true,1,1,by simp[e],m⟩
  simp[e];exact g _ _ ⟨(dr (dm a0.abe) (dm a1.abe)),1,1,by simp[e],m⟩
 rintro t C ⟨v2,c,d,E,m⟩;have e:=Aj e E;rcases Io e m with⟨e,m⟩|⟨e,m⟩
 ·cases m;simp[e]
 simp[e];refine Wr e m 999 (λp q f h=>∃(a:Nat) (b:Nat),h=H/\f.1 2=AV.dc 2 a 0/\f.1 3=AV.dc 3 b 0/\f.1 37=sI (dm a0.abe)/\f.1 38=sI p/\f.gen 2=a/\f.box 2=some [sI a0.abd,sI a0.abg,sI a0.cD.abd,sL Ty.av a0.cD.abe,sL Tm.av a0.abe]/\f.gen 3=b/\f.box 3=some [sI a1.abd,sI a1.abg,sI a1.cD.abd,sL Ty.av a1.cD.abe,sL Tm.av a1.abe]) ⟨c,d,by simp[e]⟩ (λq k u l E m=>?_) (λp v q k u l w x E e m i j=>?_)
 ·have⟨a,b,E⟩:=E;have e:=Aj e E;dsimp only[cQ]at m;cases m;simp[e]
 have⟨a,b,E⟩:=E;have e:=Aj e E;have⟨y,e,m⟩:=c7 e m;have⟨z,e,m⟩:=c7 e m;simp[e];refine Cs (s e.2) ?_;rcases Io e m with⟨e,m⟩|⟨e,m⟩;rotate_left
 ·cases m;cases i;simp[e]
 simp[e];cases m;exact j _ _ _ ⟨a,b,by simp[e]⟩ i
def GA{n:Nat}:C2 prog 168 (iv n) sB Tm.av Tm.av:=(EA n)
def BX:C2 prog 105 oD sB (sL Tm.av) (sL Tm.av):=by
 intro T H a0 a1 r hm;rw[oD] at hm;have e:=trivial;refine wi abi func105 [] [] 999 ?_;rcases Io e hm with⟨e,m⟩|⟨e,m⟩
 ·cases m;simp[e]
 simp[e];refine Wr e m 999 (λc s2 f h=>h=H/\f.1 0=sL Tm.av a0/\f.1 1=sL Tm.av a1/\f.1 12=sI (dm a0)/\f.1 13=sI c) (by simp[e]) (λs2 a g i E m=>?_) (λc l s2 a g i n6 n E e m d b=>?_)
 ·have e:=Aj e E;dsimp only[cQ]at m;cases m;simp[e]
 have e:=Aj e E;have⟨j,e,m⟩:=c7 e m;have⟨k,e,m⟩:=c7 e m;simp[e];refine Cs (GA e.2) ?_;rcases Io e m with⟨e,m⟩|⟨e,m⟩;rotate_left
 ·cases m;cases d;simp[e]
 simp[e];cases m;exact b _ _ _ (by simp[e]) d
def Er:∀(n:Nat),C2 prog 37 (ny n) sB Fm.av Fm.av:=by
  intro n
  induction n with
  |zero=>
    skip
    all_goals(intro _ _;intros;rename_i hm;cases hm)
  |succ n t=>
 intro T H a0 a1 r hm;rw[ny] at hm;have e:=trivial;refine wi abi func37 [] [] 3 ?_;simp[e];refine Wj hm 999 999 (λp f h=>∃(v2:Bool) (c:Nat) (d:Nat),(h=H/\f.1 2=AV.dc 2 c 0/\f.1 3=AV.dc 3 d 0/\f.1 35=sB v2/\f.gen 2=c/\f.box 2=some [sI a0.abd,sI a0.cD.abd,sL Ty.av a0.cD.abe,sL Tm.av a0.cU,sL Fm.av a0.abe]/\f.gen 3=d/\f.box 3=some [sI a1.abd,sI a1.cD.abd,sL Ty.av a1.cD.abe,sL Tm.av a1.cU,sL Fm.av a1.abe])/\p v2=some r) (λp A g m=>?_) ?_
 ·rcases Io e m with⟨e,m⟩|⟨e,m⟩
  ·simp[e];exact g _ _ ⟨true,1,1,by simp[e],m⟩
  have⟨B,e,m⟩:=c7 e m;simp[e];refine Cf (gp e.2) ?_;rcases Io e m with⟨e,m⟩|⟨e,m⟩;rotate_left
  ·simp[e];exact g _ _ ⟨true,1,1,by simp[e],m⟩
  have⟨C,e,m⟩:=c7 e m;simp[e];refine Cf (BX e.2) ?_;rcases Io e m with⟨e,m⟩|⟨e,m⟩;rotate_left
  ·simp[e];exact g _ _ ⟨true,1,1,by simp[e],m⟩
  simp[e];exact g _ _ ⟨(dr (dm a0.abe) (dm a1.abe)),1,1,by simp[e],m⟩
 rintro u D ⟨v2,c,d,E,m⟩;have e:=Aj e E;rcases Io e m with⟨e,m⟩|⟨e,m⟩
 ·cases m;simp[e]
 simp[e];refine Wr e m 999 (λq s f h=>∃(a:Nat) (b:Nat),h=H/\f.1 2=AV.dc 2 a 0/\f.1 3=AV.dc 3 b 0/\f.1 38=sI (dm a0.abe)/\f.1 39=sI q/\f.gen 2=a/\f.box 2=some [sI a0.abd,sI a0.cD.abd,sL Ty.av a0.cD.abe,sL Tm.av a0.cU,sL Fm.av a0.abe]/\f.gen 3=b/\f.box 3=some [sI a1.abd,sI a1.cD.abd,sL Ty.av a1.cD.abe,sL Tm.av a1.cU,sL Fm.av a1.abe]) ⟨c,d,by simp[e]⟩ (λs i l o E m=>?_) (λq v s i l o w x E e m j k=>?_)
 ·have⟨a,b,E⟩:=E;have e:=Aj e E;dsimp only[cQ]at m;cases m;simp[e]
 have⟨a,b,E⟩:=E;have e:=Aj e E;have⟨y,e,m⟩:=c7 e m;have⟨z,e,m⟩:=c7 e m;simp[e];refine Cs (t e.2) ?_;rcases Io e m with⟨e,m⟩|⟨e,m⟩;rotate_left
 ·cases m;cases j;simp[e]
 simp[e];cases m;exact k _ _ _ ⟨a,b,by simp[e]⟩ j
def HG{n:Nat}:C2 prog 37 (ny n) sB Fm.av Fm.av:=(Er n)
def GM(T:dA)(g:nb T){H:cV}{b:Bool}(hm:sa=some b):dy prog T 12 [] H (sB b) H:=by
 rw[sa] at hm;have e:=g;refine wi abi func12 [] [] 6 ?_;have⟨q,e,m⟩:=c7 e hm;simp[e];refine Cf (iO e.2) ?_;have⟨r,e,m⟩:=c7 e m;simp[e];refine Cs (gV e.2) ?_;have⟨s,e,m⟩:=c7 e m;simp[e];refine Cs (uK e.2) ?_;have⟨t,e,m⟩:=c7 e m;simp[e];refine Cs (vC e.2) ?_;have⟨u,v,e,m⟩:=gb e m;simp[e];refine Cs (pI T g e.2) ?_;simp[e];refine Wj m 999 999 (λi f h=>∃(c:Bool),(h=H/\f.1 0=sB c)/\i c=some b) (λi w a m=>?_) ?_;rotate_left
 ·rintro j k ⟨c,E,m⟩;have e:=Aj e E;cases m;simp[e]
 rcases Io e m with⟨e,m⟩|⟨e,m⟩;rotate_left
 ·simp[e];exact a _ _ ⟨false,by simp[e],m⟩
 rcases Io e m with⟨e,m⟩|⟨e,m⟩;rotate_left
 ·simp[e];exact a _ _ ⟨false,by simp[e],m⟩
 have⟨l,e,m⟩:=c7 e m;simp[e];refine Cs (gV e.2) ?_;have⟨n,e,m⟩:=c7 e m;simp[e];refine Cs (gV e.2) ?_;have⟨o,e,m⟩:=c7 e m;simp[e];refine Cs (xR e.2) ?_;have⟨p,e,m⟩:=c7 e m;simp[e];refine Cs (uk e.2) ?_;have⟨d,e,m⟩:=c7 e m;simp[e];refine Cs (HG e.2) ?_;simp[e];exact a _ _ ⟨d,by simp[e],m⟩
def NC:C1 prog 13 C9 sB (sL sI):=by
 intro T H a0 r hm;rw[C9] at hm;have e:=trivial;refine wi abi func13 [] [] 999 ?_;cases hm;simp[e]
def NL:rh prog 16=true:=by kernel_rfl
def NA(T:dA){a0:List Int}{b:c6}(hm:JG a0=some b):dy prog T 16 [AV.slice .eh (List.map (λn=>AV.sc (Value.int .i64 n)) a0)] [] (AV.ei 0 0) (fu [[]] 0 [AV.slice .eh (List.map (λn=>AV.sc (Value.int .i64 n)) b.l),AV.sc (.int .i64 b.qU)]):=by
 obtain rfl:=gk hm;refine ej.intro (fn:=f16) func16 rfl NL (SC rfl) ?_;refine g_.AU λc a=>?_;refine g_.region [] (by decide+kernel) ?_;simp;refine a _ _ ?_;refine g_.AU λc a=>?_;refine g_.region [5] (by decide+kernel) ?_;simp;refine a _ _ ?_;refine g_.ret ?_;simp[wm,fu]
def Nx:C2 prog 128 D8 sI sI sI:=by
 intro T H a0 a1 r hm;rw[D8] at hm;have e:=trivial;refine wi abi func128 [] [] 999 ?_;have⟨e,m⟩:=Ck e hm;have⟨e,m⟩:=Ck e m;cases m;simp[e]
def gr(T:dA){H:cV}{a0:c6}{a1:Int}{i:Int}{a:c6}{b:Nat}(c:H[b]?=some [sL sI a0.l,sI a0.qU])(hm:fM a0 a1=some (i,a)):dy prog T 55 [AV.ei b 0,sI a1] H (sI i) (fu H b [sL sI a.l,sI a.qU]):=by
 rw[fM] at hm;have g:=eP c;refine ej.L7 c ?_;have e:=g;refine wi abi func55 [] [(1,true,[]),(3,true,[])] 3 ?_;simp[e];refine wj 999 999 (λf h=>h=fu H b [sL sI a0.l,sI a0.qU]/\f.1 0=AV.ei b 0/\f.1 1=sI a1/\f.1 19=sB (ew (rv a1 1) true (qT a0.qU (dm a0.l)))) (λk d=>?_) ?_
 ·rcases Pb (rv a1 1) e with e|e
  ·simp[e];exact d _ _ (by simp[e])
  simp[e];exact d _ _ (by simp[e])
 rintro j n E;have e:=Aj e E;rcases Io e hm with⟨e,m⟩|⟨e,m⟩
 ·cases m;simp[e]
 have⟨o,e,m⟩:=c7 e m;have⟨p,e,m⟩:=c7 e m;simp[e];refine Cf (Nx e.2) ?_;cases m;simp[e]
def By:C3 prog 88 lN Fm.av sI Fm.av Fm.av:=by
 intro T H a0 a1 a2 r hm;rw[lN] at hm;have e:=trivial;refine wi abi func88 [] [] 999 ?_;have⟨a,e,m⟩:=c7 e hm;simp[e];refine Cs (nH e.2) ?_;have⟨b,e,m⟩:=c7 e m;simp[e];refine Cs (nH e.2) ?_;have e:=Aj e (show AV.agg [sI a0,sI 0,AV.slice .eh [],AV.slice .eh [],AV.slice .eh [Fm.av a,Fm.av b]]=Fm.av (Fm.mk a0 (Ty.mk 0 []) [] [a,b]) by rw[Fm.ey];rfl);have e:=Aj e (show AV.agg [sI a0,sI 0,AV.slice .eh [],AV.slice .eh [],AV.slice .eh [Fm.av a,Fm.av b]]=Fm.av (Fm.mk a0 (Ty.mk 0 []) [] [a,b]) by rw[Fm.ey];rfl);cases m;simp[e]
def pV:C0 prog 71 lB Ty.av:=by
 intro T H r hm;rw[lB] at hm;have e:=trivial;refine wi abi func71 [] [] 999 ?_;cases hm;simp[e]
end Go.Proofs.YtobcafblgapgfaaGreatDoor
