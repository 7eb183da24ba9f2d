/- Part of the proof of KernelLifts, KernelPuts, KernelCuts: walks. -/
import Derived.Test.YtobcafblgapgfaaGreatDoorProg
import Derived.Test.YtobcafblgapgfaaGreatDoorChecked
import Derived.WalkKit
import Derived.Laws.Bits64b
import Derived.BigCall
import Derived.Test.YtobcafblgapgfaaGreatDoorG1
set_option linter.all false
namespace Go.Proofs.YtobcafblgapgfaaGreatDoor
open Go Go.tq Go.eD Tryz
def aft:prog.follows .mixedOrders=true:=by kernel_rfl
instance:Nonempty (prog.follows .mixedOrders=true):=⟨aft⟩
end Go.Proofs.YtobcafblgapgfaaGreatDoor
namespace Go.eD
open Go Go.tq
mutual
def Ty.av:Ty->AV
 |.mk afo afp=>.agg [sI afo,AV.slice .pw (Ty.R6 afp)]
def Ty.R6:List Ty->List AV
 |[]=>[]|x::l=>x.av::Ty.R6 l
end
def Ty.KA(l:List Ty):Ty.R6 l=l.map Ty.av:=by
 induction l with
 |nil=>rfl|cons x l a=>simp[Ty.R6,a]
def Ty.jf(afo:Int)(afp:List Ty):(Ty.mk afo afp).av=.agg [sI afo,sL Ty.av afp]:=by rw[Ty.av];simp only[Ty.KA]
mutual
@[simp] theorem Ty.I9(k:Nat):∀x:Ty,x.av.low k=true
 |.mk afo afp=>by rw[Ty.jf];simp[AV.low,AV.nk,Ty.Bi k afp]
@[simp] theorem Ty.Bi(k:Nat):∀l:List Ty,AV.nk k (l.map Ty.av)=true
 |[]=>rfl|x::l=>by simp[AV.nk,Ty.I9 k x,Ty.Bi k l]
end
def Ty.j1(x:Ty):x.av=.agg [sI x.afo,sL Ty.av x.afp]:=by cases x;exact Ty.jf _ _
@[simp] theorem Ty.s8(x:Ty):x.av.cells=[sI x.afo,sL Ty.av x.afp]:=by rw[Ty.j1];rfl
@[simp] theorem Ty.Dp(x:Ty):iu x.av=true:=by rw[Ty.j1];rfl
@[simp] theorem Ty.y5(x:Ty):x.av.norm=x.av:=by rw[Ty.j1];rfl
@[simp] theorem Ty.acg(a:Int)(b:List Ty):AV.agg [sI a,sL Ty.av b]=Ty.av (Ty.mk a b):=by rw[Ty.jf]<;>rfl
@[simp] theorem Ty.ad6(a:Int):AV.agg [sI a,AV.slice .pw []]=Ty.av (Ty.mk a []):=by rw[Ty.jf]<;>rfl
mutual
def Tm.av:Tm->AV
 |.mk afo afr cW afp=>.agg [sI afo,sI afr,sI cW.afo,sL Ty.av cW.afp,AV.slice .pw (Tm.R6 afp)]
def Tm.R6:List Tm->List AV
 |[]=>[]|x::l=>x.av::Tm.R6 l
end
def Tm.KA(l:List Tm):Tm.R6 l=l.map Tm.av:=by
 induction l with
 |nil=>rfl|cons x l a=>simp[Tm.R6,a]
def Tm.jf(afo afr:Int)(cW:Ty)(afp:List Tm):(Tm.mk afo afr cW afp).av=.agg [sI afo,sI afr,sI cW.afo,sL Ty.av cW.afp,sL Tm.av afp]:=by rw[Tm.av];simp only[Tm.KA]
mutual
@[simp] theorem Tm.I9(k:Nat):∀x:Tm,x.av.low k=true
 |.mk afo afr cW afp=>by rw[Tm.jf];simp[AV.low,AV.nk,Tm.Bi k afp]
@[simp] theorem Tm.Bi(k:Nat):∀l:List Tm,AV.nk k (l.map Tm.av)=true
 |[]=>rfl|x::l=>by simp[AV.nk,Tm.I9 k x,Tm.Bi k l]
end
def Tm.j1(x:Tm):x.av=.agg [sI x.afo,sI x.afr,sI x.cW.afo,sL Ty.av x.cW.afp,sL Tm.av x.afp]:=by cases x;exact Tm.jf _ _ _ _
@[simp] theorem Tm.s8(x:Tm):x.av.cells=[sI x.afo,sI x.afr,sI x.cW.afo,sL Ty.av x.cW.afp,sL Tm.av x.afp]:=by rw[Tm.j1];rfl
@[simp] theorem Tm.Dp(x:Tm):iu x.av=true:=by rw[Tm.j1];rfl
@[simp] theorem Tm.y5(x:Tm):x.av.norm=x.av:=by rw[Tm.j1];rfl
@[simp] theorem Tm.Zq(a b c:Int)(c3:List Ty)(d:List Tm):AV.agg [sI a,sI b,sI c,sL Ty.av c3,sL Tm.av d]=Tm.av (Tm.mk a b (Ty.mk c c3) d):=by rw[Tm.jf]<;>rfl
@[simp] theorem Tm.aeT(a b c:Int)(d:List Tm):AV.agg [sI a,sI b,sI c,AV.slice .pw [],sL Tm.av d]=Tm.av (Tm.mk a b (Ty.mk c []) d):=by rw[Tm.jf]<;>rfl
@[simp] theorem Tm.acq(a b c:Int):AV.agg [sI a,sI b,sI c,AV.slice .pw [],AV.slice .pw []]=Tm.av (Tm.mk a b (Ty.mk c []) []):=by rw[Tm.jf]<;>rfl
mutual
def Fm.av:Fm->AV
 |.mk afo cW dy afp=>.agg [sI afo,sI cW.afo,sL Ty.av cW.afp,sL Tm.av dy,AV.slice .pw (Fm.R6 afp)]
def Fm.R6:List Fm->List AV
 |[]=>[]|x::l=>x.av::Fm.R6 l
end
def Fm.KA(l:List Fm):Fm.R6 l=l.map Fm.av:=by
 induction l with
 |nil=>rfl|cons x l a=>simp[Fm.R6,a]
def Fm.jf(afo:Int)(cW:Ty)(dy:List Tm)(afp:List Fm):(Fm.mk afo cW dy afp).av=.agg [sI afo,sI cW.afo,sL Ty.av cW.afp,sL Tm.av dy,sL Fm.av afp]:=by rw[Fm.av];simp only[Fm.KA]
mutual
@[simp] theorem Fm.I9(k:Nat):∀x:Fm,x.av.low k=true
 |.mk afo cW dy afp=>by rw[Fm.jf];simp[AV.low,AV.nk,Fm.Bi k afp]
@[simp] theorem Fm.Bi(k:Nat):∀l:List Fm,AV.nk k (l.map Fm.av)=true
 |[]=>rfl|x::l=>by simp[AV.nk,Fm.I9 k x,Fm.Bi k l]
end
def Fm.j1(x:Fm):x.av=.agg [sI x.afo,sI x.cW.afo,sL Ty.av x.cW.afp,sL Tm.av x.dy,sL Fm.av x.afp]:=by cases x;exact Fm.jf _ _ _ _
@[simp] theorem Fm.s8(x:Fm):x.av.cells=[sI x.afo,sI x.cW.afo,sL Ty.av x.cW.afp,sL Tm.av x.dy,sL Fm.av x.afp]:=by rw[Fm.j1];rfl
@[simp] theorem Fm.Dp(x:Fm):iu x.av=true:=by rw[Fm.j1];rfl
@[simp] theorem Fm.y5(x:Fm):x.av.norm=x.av:=by rw[Fm.j1];rfl
@[simp] theorem Fm.UW(a b:Int)(c:List Ty)(c3:List Tm)(d:List Fm):AV.agg [sI a,sI b,sL Ty.av c,sL Tm.av c3,sL Fm.av d]=Fm.av (Fm.mk a (Ty.mk b c) c3 d):=by rw[Fm.jf]<;>rfl
@[simp] theorem Fm.aeo(a b:Int)(c:List Fm):AV.agg [sI a,sI b,AV.slice .pw [],AV.slice .pw [],sL Fm.av c]=Fm.av (Fm.mk a (Ty.mk b []) [] c):=by rw[Fm.jf]<;>rfl
@[simp] theorem Fm.aaq(a b:Int):AV.agg [sI a,sI b,AV.slice .pw [],AV.slice .pw [],AV.slice .pw []]=Fm.av (Fm.mk a (Ty.mk b []) [] []):=by rw[Fm.jf]<;>rfl
def Sq.av(x:Sq):AV:=.agg [sL Ty.av x.afs,sL Fm.av x.afv]
def Sq.jf(afs:List Ty)(afv:List Fm):(Sq.mk afs afv).av=.agg [sL Ty.av afs,sL Fm.av afv]:=rfl
def Sq.j1(x:Sq):x.av=.agg [sL Ty.av x.afs,sL Fm.av x.afv]:=by cases x;exact Sq.jf _ _
@[simp] theorem Sq.s8(x:Sq):x.av.cells=[sL Ty.av x.afs,sL Fm.av x.afv]:=by rw[Sq.j1];rfl
@[simp] theorem Sq.Dp(x:Sq):iu x.av=true:=by rw[Sq.j1];rfl
@[simp] theorem Sq.y5(x:Sq):x.av.norm=x.av:=by rw[Sq.j1];rfl
@[simp] theorem Sq.Zq(a:List Ty)(b:List Fm):AV.agg [sL Ty.av a,sL Fm.av b]=Sq.av (Sq.mk a b):=by rw[Sq.jf]<;>rfl
@[simp] theorem Sq.acq:AV.agg [AV.slice .pw [],AV.slice .pw []]=Sq.av (Sq.mk [] []):=by rw[Sq.jf]<;>rfl
mutual
def Pf.av:Pf->AV
 |.mk afo afr cW dy fP afp=>.agg [sI afo,sI afr,sI cW.afo,sL Ty.av cW.afp,sL Tm.av dy,sL Fm.av fP,AV.slice .pw (Pf.R6 afp)]
def Pf.R6:List Pf->List AV
 |[]=>[]|x::l=>x.av::Pf.R6 l
end
def Pf.KA(l:List Pf):Pf.R6 l=l.map Pf.av:=by
 induction l with
 |nil=>rfl|cons x l a=>simp[Pf.R6,a]
def Pf.jf(afo afr:Int)(cW:Ty)(dy:List Tm)(fP:List Fm)(afp:List Pf):(Pf.mk afo afr cW dy fP afp).av=.agg [sI afo,sI afr,sI cW.afo,sL Ty.av cW.afp,sL Tm.av dy,sL Fm.av fP,sL Pf.av afp]:=by rw[Pf.av];simp only[Pf.KA]
mutual
@[simp] theorem Pf.I9(k:Nat):∀x:Pf,x.av.low k=true
 |.mk afo afr cW dy fP afp=>by rw[Pf.jf];simp[AV.low,AV.nk,Pf.Bi k afp]
@[simp] theorem Pf.Bi(k:Nat):∀l:List Pf,AV.nk k (l.map Pf.av)=true
 |[]=>rfl|x::l=>by simp[AV.nk,Pf.I9 k x,Pf.Bi k l]
end
def Pf.j1(x:Pf):x.av=.agg [sI x.afo,sI x.afr,sI x.cW.afo,sL Ty.av x.cW.afp,sL Tm.av x.dy,sL Fm.av x.fP,sL Pf.av x.afp]:=by cases x;exact Pf.jf _ _ _ _ _ _
@[simp] theorem Pf.s8(x:Pf):x.av.cells=[sI x.afo,sI x.afr,sI x.cW.afo,sL Ty.av x.cW.afp,sL Tm.av x.dy,sL Fm.av x.fP,sL Pf.av x.afp]:=by rw[Pf.j1];rfl
@[simp] theorem Pf.Dp(x:Pf):iu x.av=true:=by rw[Pf.j1];rfl
@[simp] theorem Pf.y5(x:Pf):x.av.norm=x.av:=by rw[Pf.j1];rfl
@[simp] theorem Pf.YB(a b c:Int)(c3:List Ty)(d:List Tm)(c5:List Fm)(e:List Pf):AV.agg [sI a,sI b,sI c,sL Ty.av c3,sL Tm.av d,sL Fm.av c5,sL Pf.av e]=Pf.av (Pf.mk a b (Ty.mk c c3) d c5 e):=by rw[Pf.jf]<;>rfl
@[simp] theorem Pf.adX(a b c:Int)(d:List Pf):AV.agg [sI a,sI b,sI c,AV.slice .pw [],AV.slice .pw [],AV.slice .pw [],sL Pf.av d]=Pf.av (Pf.mk a b (Ty.mk c []) [] [] d):=by rw[Pf.jf]<;>rfl
@[simp] theorem Pf.Yd(a b c:Int):AV.agg [sI a,sI b,sI c,AV.slice .pw [],AV.slice .pw [],AV.slice .pw [],AV.slice .pw []]=Pf.av (Pf.mk a b (Ty.mk c []) [] [] []):=by rw[Pf.jf]<;>rfl
def xt.av(x:xt):AV:=.agg [sI x.cZ.afo,sI x.cZ.cW.afo,sL Ty.av x.cZ.cW.afp,sL Tm.av x.cZ.dy,sL Fm.av x.cZ.afp,AV.slice .pw (List.map (λn=>AV.sc (Value.int .i64 n)) x.fF)]
def xt.jf(cZ:Fm)(fF:List Int):(xt.mk cZ fF).av=.agg [sI cZ.afo,sI cZ.cW.afo,sL Ty.av cZ.cW.afp,sL Tm.av cZ.dy,sL Fm.av cZ.afp,AV.slice .pw (List.map (λn=>AV.sc (Value.int .i64 n)) fF)]:=rfl
@[simp] theorem xt.I9(k:Nat)(x:xt):x.av.low k=true:=by
 cases x;rw[xt.jf];simp[AV.low,AV.nk]
def xt.j1(x:xt):x.av=.agg [sI x.cZ.afo,sI x.cZ.cW.afo,sL Ty.av x.cZ.cW.afp,sL Tm.av x.cZ.dy,sL Fm.av x.cZ.afp,AV.slice .pw (List.map (λn=>AV.sc (Value.int .i64 n)) x.fF)]:=by cases x;exact xt.jf _ _
@[simp] theorem xt.s8(x:xt):x.av.cells=[sI x.cZ.afo,sI x.cZ.cW.afo,sL Ty.av x.cZ.cW.afp,sL Tm.av x.cZ.dy,sL Fm.av x.cZ.afp,AV.slice .pw (List.map (λn=>AV.sc (Value.int .i64 n)) x.fF)]:=by rw[xt.j1];rfl
@[simp] theorem xt.Dp(x:xt):iu x.av=true:=by rw[xt.j1];rfl
@[simp] theorem xt.y5(x:xt):x.av.norm=x.av:=by rw[xt.j1];rfl
@[simp] theorem xt.YB(a b:Int)(c:List Ty)(c3:List Tm)(d:List Fm)(c5:List Int):AV.agg [sI a,sI b,sL Ty.av c,sL Tm.av c3,sL Fm.av d,AV.slice .pw (List.map (λn=>AV.sc (Value.int .i64 n)) c5)]=xt.av (xt.mk (Fm.mk a (Ty.mk b c) c3 d) c5):=by rw[xt.jf]<;>rfl
@[simp] theorem xt.Yd(a b:Int):AV.agg [sI a,sI b,AV.slice .pw [],AV.slice .pw [],AV.slice .pw [],AV.slice .pw []]=xt.av (xt.mk (Fm.mk a (Ty.mk b []) [] []) []):=by rw[xt.jf]<;>rfl
def db.av(x:db):AV:=.agg [AV.slice .pw (List.map (λn=>AV.sc (Value.int .i64 n)) x.l),sI x.vr]
def db.jf(l:List Int)(vr:Int):(db.mk l vr).av=.agg [AV.slice .pw (List.map (λn=>AV.sc (Value.int .i64 n)) l),sI vr]:=rfl
def db.j1(x:db):x.av=.agg [AV.slice .pw (List.map (λn=>AV.sc (Value.int .i64 n)) x.l),sI x.vr]:=by cases x;exact db.jf _ _
@[simp] theorem db.s8(x:db):x.av.cells=[AV.slice .pw (List.map (λn=>AV.sc (Value.int .i64 n)) x.l),sI x.vr]:=by rw[db.j1];rfl
@[simp] theorem db.Dp(x:db):iu x.av=true:=by rw[db.j1];rfl
@[simp] theorem db.acg(a:List Int)(b:Int):AV.agg [AV.slice .pw (List.map (λn=>AV.sc (Value.int .i64 n)) a),sI b]=db.av (db.mk a b):=by rw[db.jf]<;>rfl
def cT.av(x:cT):AV:=.agg [sI x.cZ.afo,sI x.cZ.cW.afo,sL Ty.av x.cZ.cW.afp,sL Tm.av x.cZ.dy,sL Fm.av x.cZ.afp,AV.sc (.int .u32 x.fF)]
def cT.jf(cZ:Fm)(fF:Int):(cT.mk cZ fF).av=.agg [sI cZ.afo,sI cZ.cW.afo,sL Ty.av cZ.cW.afp,sL Tm.av cZ.dy,sL Fm.av cZ.afp,AV.sc (.int .u32 fF)]:=rfl
def cT.j1(x:cT):x.av=.agg [sI x.cZ.afo,sI x.cZ.cW.afo,sL Ty.av x.cZ.cW.afp,sL Tm.av x.cZ.dy,sL Fm.av x.cZ.afp,AV.sc (.int .u32 x.fF)]:=by cases x;exact cT.jf _ _
@[simp] theorem cT.s8(x:cT):x.av.cells=[sI x.cZ.afo,sI x.cZ.cW.afo,sL Ty.av x.cZ.cW.afp,sL Tm.av x.cZ.dy,sL Fm.av x.cZ.afp,AV.sc (.int .u32 x.fF)]:=by rw[cT.j1];rfl
@[simp] theorem cT.Dp(x:cT):iu x.av=true:=by rw[cT.j1];rfl
@[simp] theorem cT.y5(x:cT):x.av.norm=x.av:=by rw[cT.j1];rfl
@[simp] theorem cT.UW(a b:Int)(c:List Ty)(c3:List Tm)(d:List Fm)(c5:Int):AV.agg [sI a,sI b,sL Ty.av c,sL Tm.av c3,sL Fm.av d,AV.sc (.int .u32 c5)]=cT.av (cT.mk (Fm.mk a (Ty.mk b c) c3 d) c5):=by rw[cT.jf]<;>rfl
@[simp] theorem cT.aaq(a b c5:Int):AV.agg [sI a,sI b,AV.slice .pw [],AV.slice .pw [],AV.slice .pw [],AV.sc (.int .u32 c5)]=cT.av (cT.mk (Fm.mk a (Ty.mk b []) [] []) c5):=by rw[cT.jf]<;>rfl
def eU.av(x:eU):AV:=.agg [sI x.vars,sI x.afv]
def eU.jf(vars afv:Int):(eU.mk vars afv).av=.agg [sI vars,sI afv]:=rfl
def eU.j1(x:eU):x.av=.agg [sI x.vars,sI x.afv]:=by cases x;exact eU.jf _ _
@[simp] theorem eU.s8(x:eU):x.av.cells=[sI x.vars,sI x.afv]:=by rw[eU.j1];rfl
@[simp] theorem eU.Dp(x:eU):iu x.av=true:=by rw[eU.j1];rfl
@[simp] theorem eU.y5(x:eU):x.av.norm=x.av:=by rw[eU.j1];rfl
@[simp] theorem eU.agg(a b:Int):AV.agg [sI a,sI b]=eU.av (eU.mk a b):=by rw[eU.jf]<;>rfl
def cU.av(x:cU):AV:=.agg [sI x.cW.afo,sL Ty.av x.cW.afp,sI x.afq]
def cU.jf(cW:Ty)(afq:Int):(cU.mk cW afq).av=.agg [sI cW.afo,sL Ty.av cW.afp,sI afq]:=rfl
def cU.j1(x:cU):x.av=.agg [sI x.cW.afo,sL Ty.av x.cW.afp,sI x.afq]:=by cases x;exact cU.jf _ _
@[simp] theorem cU.s8(x:cU):x.av.cells=[sI x.cW.afo,sL Ty.av x.cW.afp,sI x.afq]:=by rw[cU.j1];rfl
@[simp] theorem cU.Dp(x:cU):iu x.av=true:=by rw[cU.j1];rfl
@[simp] theorem cU.y5(x:cU):x.av.norm=x.av:=by rw[cU.j1];rfl
@[simp] theorem cU.acg(a:Int)(b:List Ty)(c:Int):AV.agg [sI a,sL Ty.av b,sI c]=cU.av (cU.mk (Ty.mk a b) c):=by rw[cU.jf]<;>rfl
@[simp] theorem cU.ad6(a b:Int):AV.agg [sI a,AV.slice .pw [],sI b]=cU.av (cU.mk (Ty.mk a []) b):=by rw[cU.jf]<;>rfl
def de.av(x:de):AV:=.agg [sI x.cZ.afo,sI x.cZ.cW.afo,sL Ty.av x.cZ.cW.afp,sL Tm.av x.cZ.dy,sL Fm.av x.cZ.afp,sI x.vars]
def de.jf(cZ:Fm)(vars:Int):(de.mk cZ vars).av=.agg [sI cZ.afo,sI cZ.cW.afo,sL Ty.av cZ.cW.afp,sL Tm.av cZ.dy,sL Fm.av cZ.afp,sI vars]:=rfl
def de.j1(x:de):x.av=.agg [sI x.cZ.afo,sI x.cZ.cW.afo,sL Ty.av x.cZ.cW.afp,sL Tm.av x.cZ.dy,sL Fm.av x.cZ.afp,sI x.vars]:=by cases x;exact de.jf _ _
@[simp] theorem de.s8(x:de):x.av.cells=[sI x.cZ.afo,sI x.cZ.cW.afo,sL Ty.av x.cZ.cW.afp,sL Tm.av x.cZ.dy,sL Fm.av x.cZ.afp,sI x.vars]:=by rw[de.j1];rfl
@[simp] theorem de.Dp(x:de):iu x.av=true:=by rw[de.j1];rfl
@[simp] theorem de.y5(x:de):x.av.norm=x.av:=by rw[de.j1];rfl
@[simp] theorem de.UW(a b:Int)(c:List Ty)(c3:List Tm)(d:List Fm)(c5:Int):AV.agg [sI a,sI b,sL Ty.av c,sL Tm.av c3,sL Fm.av d,sI c5]=de.av (de.mk (Fm.mk a (Ty.mk b c) c3 d) c5):=by rw[de.jf]<;>rfl
def cS.av(x:cS):AV:=.agg [sI x.eI.vars,sI x.eI.afv,sL cU.av x.afs,sL de.av x.known]
def cS.jf(eI:eU)(afs:List cU)(known:List de):(cS.mk eI afs known).av=.agg [sI eI.vars,sI eI.afv,sL cU.av afs,sL de.av known]:=rfl
def cS.j1(x:cS):x.av=.agg [sI x.eI.vars,sI x.eI.afv,sL cU.av x.afs,sL de.av x.known]:=by cases x;exact cS.jf _ _ _
@[simp] theorem cS.s8(x:cS):x.av.cells=[sI x.eI.vars,sI x.eI.afv,sL cU.av x.afs,sL de.av x.known]:=by rw[cS.j1];rfl
@[simp] theorem cS.Dp(x:cS):iu x.av=true:=by rw[cS.j1];rfl
@[simp] theorem cS.y5(x:cS):x.av.norm=x.av:=by rw[cS.j1];rfl
@[simp] theorem cS.Zq(a b:Int)(c:List cU)(c3:List de):AV.agg [sI a,sI b,sL cU.av c,sL de.av c3]=cS.av (cS.mk (eU.mk a b) c c3):=by rw[cS.jf]<;>rfl
def cY.av(x:cY):AV:=.agg [sL Fm.av x.lemmas,sL Ty.av x.afs,sL Fm.av x.afv]
def cY.jf(lemmas:List Fm)(afs:List Ty)(afv:List Fm):(cY.mk lemmas afs afv).av=.agg [sL Fm.av lemmas,sL Ty.av afs,sL Fm.av afv]:=rfl
def cY.j1(x:cY):x.av=.agg [sL Fm.av x.lemmas,sL Ty.av x.afs,sL Fm.av x.afv]:=by cases x;exact cY.jf _ _ _
@[simp] theorem cY.s8(x:cY):x.av.cells=[sL Fm.av x.lemmas,sL Ty.av x.afs,sL Fm.av x.afv]:=by rw[cY.j1];rfl
@[simp] theorem cY.Dp(x:cY):iu x.av=true:=by rw[cY.j1];rfl
@[simp] theorem cY.y5(x:cY):x.av.norm=x.av:=by rw[cY.j1];rfl
@[simp] theorem cY.UW(a:List Fm)(b:List Ty)(c:List Fm):AV.agg [sL Fm.av a,sL Ty.av b,sL Fm.av c]=cY.av (cY.mk a b c):=by rw[cY.jf]<;>rfl
def c7.av(x:c7):AV:=.agg [sI x.afq,sB x.iz]
def c7.jf(afq:Int)(iz:Bool):(c7.mk afq iz).av=.agg [sI afq,sB iz]:=rfl
def c7.j1(x:c7):x.av=.agg [sI x.afq,sB x.iz]:=by cases x;exact c7.jf _ _
@[simp] theorem c7.s8(x:c7):x.av.cells=[sI x.afq,sB x.iz]:=by rw[c7.j1];rfl
@[simp] theorem c7.Dp(x:c7):iu x.av=true:=by rw[c7.j1];rfl
@[simp] theorem c7.agg(a:Int)(b:Bool):AV.agg [sI a,sB b]=c7.av (c7.mk a b):=by rw[c7.jf]<;>rfl
def fJ.av(x:fJ):AV:=.agg [sI x.afo,sI x.base.afo,sI x.base.afr,sI x.base.cW.afo,sL Ty.av x.base.cW.afp,sL Tm.av x.base.afp,sL Ty.av x.vars,sI x.next.afo,sI x.next.afr,sI x.next.cW.afo,sL Ty.av x.next.cW.afp,sL Tm.av x.next.afp]
def fJ.jf(afo:Int)(base:Tm)(vars:List Ty)(next:Tm):(fJ.mk afo base vars next).av=.agg [sI afo,sI base.afo,sI base.afr,sI base.cW.afo,sL Ty.av base.cW.afp,sL Tm.av base.afp,sL Ty.av vars,sI next.afo,sI next.afr,sI next.cW.afo,sL Ty.av next.cW.afp,sL Tm.av next.afp]:=rfl
def fJ.j1(x:fJ):x.av=.agg [sI x.afo,sI x.base.afo,sI x.base.afr,sI x.base.cW.afo,sL Ty.av x.base.cW.afp,sL Tm.av x.base.afp,sL Ty.av x.vars,sI x.next.afo,sI x.next.afr,sI x.next.cW.afo,sL Ty.av x.next.cW.afp,sL Tm.av x.next.afp]:=by cases x;exact fJ.jf _ _ _ _
@[simp] theorem fJ.s8(x:fJ):x.av.cells=[sI x.afo,sI x.base.afo,sI x.base.afr,sI x.base.cW.afo,sL Ty.av x.base.cW.afp,sL Tm.av x.base.afp,sL Ty.av x.vars,sI x.next.afo,sI x.next.afr,sI x.next.cW.afo,sL Ty.av x.next.cW.afp,sL Tm.av x.next.afp]:=by rw[fJ.j1];rfl
@[simp] theorem fJ.Dp(x:fJ):iu x.av=true:=by rw[fJ.j1];rfl
def gr.av(x:gr):AV:=.agg [sI x.dy,sI x.fP,sI x.afp,sB x.afr,sB x.ta]
def gr.jf(dy fP afp:Int)(afr ta:Bool):(gr.mk dy fP afp afr ta).av=.agg [sI dy,sI fP,sI afp,sB afr,sB ta]:=rfl
def gr.j1(x:gr):x.av=.agg [sI x.dy,sI x.fP,sI x.afp,sB x.afr,sB x.ta]:=by cases x;exact gr.jf _ _ _ _ _
@[simp] theorem gr.s8(x:gr):x.av.cells=[sI x.dy,sI x.fP,sI x.afp,sB x.afr,sB x.ta]:=by rw[gr.j1];rfl
@[simp] theorem gr.Dp(x:gr):iu x.av=true:=by rw[gr.j1];rfl
@[simp] theorem gr.y5(x:gr):x.av.norm=x.av:=by rw[gr.j1];rfl
@[simp] theorem gr.agg(a b c:Int)(c3 d:Bool):AV.agg [sI a,sI b,sI c,sB c3,sB d]=gr.av (gr.mk a b c c3 d):=by rw[gr.jf]<;>rfl
def gu.av(x:gu):AV:=.agg [sB x.afr,sB x.typed,sI x.dy,sI x.fP,sI x.afp,sI x.zG,sI x.vars,sI x.afv]
def gu.jf(afr typed:Bool)(dy fP afp zG vars afv:Int):(gu.mk afr typed dy fP afp zG vars afv).av=.agg [sB afr,sB typed,sI dy,sI fP,sI afp,sI zG,sI vars,sI afv]:=rfl
def gu.j1(x:gu):x.av=.agg [sB x.afr,sB x.typed,sI x.dy,sI x.fP,sI x.afp,sI x.zG,sI x.vars,sI x.afv]:=by cases x;exact gu.jf _ _ _ _ _ _ _ _
@[simp] theorem gu.s8(x:gu):x.av.cells=[sB x.afr,sB x.typed,sI x.dy,sI x.fP,sI x.afp,sI x.zG,sI x.vars,sI x.afv]:=by rw[gu.j1];rfl
@[simp] theorem gu.Dp(x:gu):iu x.av=true:=by rw[gu.j1];rfl
@[simp] theorem gu.y5(x:gu):x.av.norm=x.av:=by rw[gu.j1];rfl
@[simp] theorem gu.agg(a b:Bool)(c c3 d c5 e f:Int):AV.agg [sB a,sB b,sI c,sI c3,sI d,sI c5,sI e,sI f]=gu.av (gu.mk a b c c3 d c5 e f):=by rw[gu.jf]<;>rfl
def HC.cells(k:Nat):HC->List AV
 |.fY x=>[tR k x.term,sI x.steps]|.dZ x=>[sI x.afo,sI x.afr,sI x.ta.afo,sL Ty.av x.ta.afp,AV.slice .pw (List.map (tR k) x.afp),sI x.size,sI x.free,sB x.normal]
@[simp] theorem HC.Ub(k:Nat)(x:fZ):HC.cells k (.fY x)=[tR k x.term,sI x.steps]:=rfl
@[simp] theorem HC.U8(k:Nat)(x:dW):HC.cells k (.dZ x)=[sI x.afo,sI x.afr,sI x.ta.afo,sL Ty.av x.ta.afp,AV.slice .pw (List.map (tR k) x.afp),sI x.size,sI x.free,sB x.normal]:=rfl
abbrev l9(k:Nat)(l:List HC):dM:=Fa HC.cells k l
end Go.eD
namespace Go.Proofs.YtobcafblgapgfaaGreatDoor
open Go Go.tq Go.eD Tryz
@[simp] theorem W_:jd prog 3=some (false,1):=by kernel_rfl
@[simp] theorem YY:q_ prog 3=some [.sc (.int .i64 0)]:=by kernel_rfl
@[simp] theorem DA:prog.underlying 3=some (.int .i64):=by kernel_rfl
@[simp] theorem afl:jd prog 4=some (false,1)/\q_ prog 4=some [.sc (.bool false)]/\jd prog 22=some (false,1)/\jd prog 23=some (false,1)/\jd prog 24=some (false,1)/\jd prog 26=some (true,2)/\zE prog 26=some [.slice .full [],.slice .full []]/\q_ prog 26=some [.slice .full [],.slice .full []]/\gE prog 26 0=some (0,24)/\kP prog 26 0=some (0,1):=by and_intros<;>kernel_rfl
@[simp] theorem Vs:zb prog 22=some (3,1):=by kernel_rfl
@[simp] theorem ac3:prog.underlying 22=some (.slice 3):=by kernel_rfl
@[simp] theorem E5:zb prog 23=some (46,5):=by kernel_rfl
@[simp] theorem acx:prog.underlying 23=some (.slice 46):=by kernel_rfl
@[simp] theorem Lx:zb prog 24=some (28,2):=by kernel_rfl
@[simp] theorem YX:prog.underlying 24=some (.slice 28):=by kernel_rfl
@[simp] theorem abm:gE prog 26 1=some (1,23)/\kP prog 26 1=some (1,1)/\zE prog 28=some [.sc (.int .i64 0),.slice .full []]/\q_ prog 28=some [.sc (.int .i64 0),.slice .full []]/\gE prog 28 0=some (0,3)/\kP prog 28 0=some (0,1)/\gE prog 28 1=some (1,24)/\kP prog 28 1=some (1,1)/\jd prog 29=some (false,1)/\jd prog 30=some (false,1):=by and_intros<;>kernel_rfl
@[simp] theorem XG:jd prog 28=some (true,2):=by kernel_rfl
@[simp] theorem Ty.abC(x:Ty):BJ prog 28 x.av=true:=by rw[Ty.j1,ET,XG];rfl
@[simp] theorem JY:zb prog 29=some (64,5):=by kernel_rfl
@[simp] theorem V7:zb prog 30=some (32,7):=by kernel_rfl
@[simp] theorem ac6:jd prog 32=some (true,7):=by kernel_rfl
@[simp] theorem ad3:zE prog 32=some [.sc (.int .i64 0),.sc (.int .i64 0),.sc (.int .i64 0),.slice .full [],.slice .full [],.slice .full [],.slice .full []]/\q_ prog 32=some [.sc (.int .i64 0),.sc (.int .i64 0),.sc (.int .i64 0),.slice .full [],.slice .full [],.slice .full [],.slice .full []]/\gE prog 32 0=some (0,3)/\kP prog 32 0=some (0,1)/\gE prog 32 1=some (1,3)/\kP prog 32 1=some (1,1)/\gE prog 32 2=some (2,28)/\kP prog 32 2=some (2,2)/\gE prog 32 3=some (4,29)/\kP prog 32 3=some (4,1):=by and_intros<;>kernel_rfl
@[simp] theorem abt:gE prog 32 4=some (5,23)/\gE prog 32 5=some (6,30)/\jd prog 43=some (false,1)/\q_ prog 43=some [.sc (.int .i64 0)]/\zE prog 46=some [.sc (.int .i64 0),.sc (.int .i64 0),.slice .full [],.slice .full [],.slice .full []]/\q_ prog 46=some [.sc (.int .i64 0),.sc (.int .i64 0),.slice .full [],.slice .full [],.slice .full []]/\gE prog 46 0=some (0,3)/\kP prog 46 0=some (0,1)/\gE prog 46 1=some (1,28)/\kP prog 46 1=some (1,2):=by and_intros<;>kernel_rfl
@[simp] theorem Pf.abx(x:Pf):BJ prog 32 x.av=true:=by rw[Pf.j1,ET,ac6];rfl
@[simp] theorem Zf:jd prog 46=some (true,5):=by kernel_rfl
@[simp] theorem abH:gE prog 46 2=some (3,29)/\kP prog 46 2=some (3,1)/\gE prog 46 3=some (4,23)/\kP prog 46 3=some (4,1)/\jd prog 48=some (true,6)/\zE prog 48=some [.sc (.int .i64 0),.sc (.int .i64 0),.slice .full [],.slice .full [],.slice .full [],.slice .full []]/\q_ prog 48=some [.sc (.int .i64 0),.sc (.int .i64 0),.slice .full [],.slice .full [],.slice .full [],.slice .full []]/\gE prog 48 0=some (0,46)/\kP prog 48 0=some (0,5)/\gE prog 48 1=some (5,22):=by and_intros<;>kernel_rfl
@[simp] theorem Fm.abq(x:Fm):BJ prog 46 x.av=true:=by rw[Fm.j1,ET,Zf];rfl
@[simp] theorem abR:kP prog 48 1=some (5,1)/\zE prog 64=some [.sc (.int .i64 0),.sc (.int .i64 0),.sc (.int .i64 0),.slice .full [],.slice .full []]/\gE prog 64 0=some (0,3)/\kP prog 64 0=some (0,1)/\gE prog 64 1=some (1,3)/\kP prog 64 1=some (1,1)/\gE prog 64 2=some (2,28)/\kP prog 64 2=some (2,2)/\gE prog 64 3=some (4,29)/\kP prog 64 3=some (4,1):=by and_intros<;>kernel_rfl
@[simp] theorem Y9:jd prog 64=some (true,5):=by kernel_rfl
@[simp] theorem Z1:q_ prog 64=some [.sc (.int .i64 0),.sc (.int .i64 0),.sc (.int .i64 0),.slice .full [],.slice .full []]:=by kernel_rfl
@[simp] theorem Tm.aby(x:Tm):BJ prog 64 x.av=true:=by rw[Tm.j1,ET,Y9];rfl
@[simp] theorem ad4:zE prog 99=some [.slice .full [],.sc (.int .i64 0)]/\gE prog 99 0=some (0,22)/\kP prog 99 0=some (0,1)/\gE prog 99 1=some (1,3)/\jd prog 113=some (false,1)/\zE prog 116=some [.slice .full [],.sc (.map none)]/\gE prog 116 0=some (0,23)/\kP prog 116 0=some (0,1)/\gE prog 116 1=some (1,113)/\kP prog 116 1=some (1,1):=by and_intros<;>kernel_rfl
@[simp] theorem aep:jd prog 118=some (false,1)/\q_ prog 118=some [.sc (.int .u32 0)]/\jd prog 120=some (true,6)/\zE prog 120=some [.sc (.int .i64 0),.sc (.int .i64 0),.slice .full [],.slice .full [],.slice .full [],.sc (.int .u32 0)]/\q_ prog 120=some [.sc (.int .i64 0),.sc (.int .i64 0),.slice .full [],.slice .full [],.slice .full [],.sc (.int .u32 0)]/\gE prog 120 0=some (0,46)/\kP prog 120 0=some (0,5)/\gE prog 120 1=some (5,118)/\kP prog 120 1=some (5,1)/\jd prog 124=some (true,2):=by and_intros<;>kernel_rfl
@[simp] theorem aaK:gE prog 124 0=some (0,3)/\gE prog 124 1=some (1,3)/\jd prog 126=some (false,1)/\jd prog 127=some (false,1)/\jd prog 129=some (true,4)/\zE prog 129=some [.sc (.int .i64 0),.sc (.int .i64 0),.slice .full [],.slice .full []]/\q_ prog 129=some [.sc (.int .i64 0),.sc (.int .i64 0),.slice .full [],.slice .full []]/\gE prog 129 0=some (0,124)/\gE prog 129 1=some (2,126)/\kP prog 129 1=some (2,1):=by and_intros<;>kernel_rfl
@[simp] theorem Xh:zb prog 126=some (191,3):=by kernel_rfl
@[simp] theorem aaI:prog.underlying 126=some (.slice 191):=by kernel_rfl
@[simp] theorem acd:zb prog 127=some (221,6):=by kernel_rfl
@[simp] theorem aaS:prog.underlying 127=some (.slice 221):=by kernel_rfl
@[simp] theorem Z4:gE prog 129 2=some (3,127)/\jd prog 134=some (true,3)/\zE prog 134=some [.slice .full [],.slice .full [],.slice .full []]/\q_ prog 134=some [.slice .full [],.slice .full [],.slice .full []]/\gE prog 134 0=some (0,23)/\kP prog 134 0=some (0,1)/\gE prog 134 1=some (1,24)/\kP prog 134 1=some (1,1)/\gE prog 134 2=some (2,23)/\kP prog 134 2=some (2,1):=by and_intros<;>kernel_rfl
@[simp] theorem Uj:prog.underlying 148=some (.map 3 4):=by kernel_rfl
@[simp] theorem ad9:jd prog 175=some (false,1)/\q_ prog 175=some [.sc .nilFunc]/\zE prog 191=some [.sc (.int .i64 0),.slice .full [],.sc (.int .i64 0)]/\q_ prog 191=some [.sc (.int .i64 0),.slice .full [],.sc (.int .i64 0)]/\gE prog 191 0=some (0,28)/\kP prog 191 0=some (0,2)/\gE prog 191 1=some (2,3)/\kP prog 191 1=some (2,1)/\zE prog 199=some [.sc (.int .i64 0),.sc (.bool false)]/\gE prog 199 0=some (0,3):=by and_intros<;>kernel_rfl
@[simp] theorem JG:jd prog 191=some (true,3):=by kernel_rfl
@[simp] theorem cU.aaG(x:cU):BJ prog 191 x.av=true:=by rw[cU.j1,ET,JG];rfl
@[simp] theorem aaw:gE prog 199 1=some (1,4)/\jd prog 214=some (true,12)/\zE prog 214=some [.sc (.int .i64 0),.sc (.int .i64 0),.sc (.int .i64 0),.sc (.int .i64 0),.slice .full [],.slice .full [],.slice .full [],.sc (.int .i64 0),.sc (.int .i64 0),.sc (.int .i64 0),.slice .full [],.slice .full []]/\q_ prog 214=some [.sc (.int .i64 0),.sc (.int .i64 0),.sc (.int .i64 0),.sc (.int .i64 0),.slice .full [],.slice .full [],.slice .full [],.sc (.int .i64 0),.sc (.int .i64 0),.sc (.int .i64 0),.slice .full [],.slice .full []]/\gE prog 214 0=some (0,3)/\kP prog 214 0=some (0,1)/\gE prog 214 1=some (1,64)/\kP prog 214 1=some (1,5)/\gE prog 214 2=some (6,24)/\kP prog 214 2=some (6,1):=by and_intros<;>kernel_rfl
@[simp] theorem Z':gE prog 214 3=some (7,64)/\kP prog 214 3=some (7,5)/\zE prog 221=some [.sc (.int .i64 0),.sc (.int .i64 0),.slice .full [],.slice .full [],.slice .full [],.sc (.int .i64 0)]/\q_ prog 221=some [.sc (.int .i64 0),.sc (.int .i64 0),.slice .full [],.slice .full [],.slice .full [],.sc (.int .i64 0)]/\gE prog 221 0=some (0,46)/\kP prog 221 0=some (0,5)/\gE prog 221 1=some (5,3)/\kP prog 221 1=some (5,1)/\jd prog 225=some (true,5)/\zE prog 225=some [.sc (.int .i64 0),.sc (.int .i64 0),.sc (.int .i64 0),.sc (.bool false),.sc (.bool false)]:=by and_intros<;>kernel_rfl
@[simp] theorem Xe:jd prog 221=some (true,6):=by kernel_rfl
@[simp] theorem de.aa2(x:de):BJ prog 221 x.av=true:=by rw[de.j1,ET,Xe];rfl
@[simp] theorem adR:q_ prog 225=some [.sc (.int .i64 0),.sc (.int .i64 0),.sc (.int .i64 0),.sc (.bool false),.sc (.bool false)]/\gE prog 225 0=some (0,3)/\kP prog 225 0=some (0,1)/\gE prog 225 1=some (1,3)/\kP prog 225 1=some (1,1)/\gE prog 225 2=some (2,3)/\kP prog 225 2=some (2,1)/\gE prog 225 3=some (3,4)/\kP prog 225 3=some (3,1)/\gE prog 225 4=some (4,4):=by and_intros<;>kernel_rfl
@[simp] theorem ZN:kP prog 225 4=some (4,1)/\zE prog 238=some [.sc (.bool false),.sc (.bool false),.sc (.int .i64 0),.sc (.int .i64 0),.sc (.int .i64 0),.sc (.int .i64 0),.sc (.int .i64 0),.sc (.int .i64 0)]/\q_ prog 238=some [.sc (.bool false),.sc (.bool false),.sc (.int .i64 0),.sc (.int .i64 0),.sc (.int .i64 0),.sc (.int .i64 0),.sc (.int .i64 0),.sc (.int .i64 0)]/\gE prog 238 0=some (0,4)/\gE prog 238 1=some (1,4)/\gE prog 238 2=some (2,3)/\gE prog 238 3=some (3,3)/\gE prog 238 4=some (4,3)/\jd prog 244=some (true,9)/\q_ prog 244=some [.sc (.int .i64 0),.slice .full [],.sc (.int .i64 0),.sc (.int .i64 0),.slice .full [],.sc (.int .i64 0),.sc (.int .i64 0),.slice .full [],.sc (.int .i64 0)]:=by and_intros<;>kernel_rfl
@[simp] theorem Xa:jd prog 238=some (true,8):=by kernel_rfl
@[simp] theorem gu.aa0(x:gu):BJ prog 238 x.av=true:=by rw[gu.j1,ET,Xa];rfl
@[simp] theorem MW:prog.underlying 244=some (.array 3 191):=by kernel_rfl
@[simp] theorem adw(b g o:Nat):jN prog 244 (.mD b g o) (.sc (.int .i64 0))=some (.mD b g (o+0)):=by kernel_rfl
@[simp] theorem adu(b g o:Nat):jN prog 244 (.mD b g o) (.sc (.int .i64 1))=some (.mD b g (o+3)):=by kernel_rfl
@[simp] theorem abV(b g o:Nat):jN prog 244 (.mD b g o) (.sc (.int .i64 2))=some (.mD b g (o+6)):=by kernel_rfl
@[simp] theorem ad7:jd prog 247=some (false,1)/\jd prog 262=some (false,1)/\q_ prog 262=some [.sc .nilFunc]/\zE prog 269=some [.sc (.pointer none),.sc (.int .i64 0)]/\gE prog 269 0=some (0,266)/\kP prog 269 0=some (0,1)/\gE prog 269 1=some (1,3)/\jd prog 277=some (false,1)/\zE prog 283=some [.sc (.int .i64 0),.sc (.int .i64 0),.sc (.int .i64 0),.slice .full [],.slice .full [],.sc (.int .i64 0),.sc (.int .i64 0),.sc (.bool false)]/\gE prog 283 0=some (0,3):=by and_intros<;>kernel_rfl
@[simp] theorem aaP:prog.underlying 258=some (.array 21 238):=by kernel_rfl
@[simp] theorem aaC:jd prog 266=some (false,1):=by kernel_rfl
@[simp] theorem Yx:q_ prog 266=some [.sc (.pointer none)]:=by kernel_rfl
@[simp] theorem WT:prog.underlying 266=some (.pointer 283):=by kernel_rfl
@[simp] theorem ad8(k:Nat)(x:Option Nat):wx prog .eql 266 (tR k x) (.sc (.pointer none))=some (.sc (.bool x.isNone)):=Xk WT
@[simp] theorem aed(k:Nat)(x:Option Nat):wx prog .neq 266 (tR k x) (.sc (.pointer none))=some (.sc (.bool x.isSome)):=XP WT
@[simp] theorem U3:zb prog 277=some (266,1):=by kernel_rfl
@[simp] theorem aak:kP prog 283 0=some (0,1)/\gE prog 283 1=some (1,3)/\kP prog 283 1=some (1,1)/\gE prog 283 2=some (2,28)/\kP prog 283 2=some (2,2)/\gE prog 283 3=some (4,277)/\kP prog 283 3=some (4,1)/\gE prog 283 4=some (5,3)/\kP prog 283 4=some (5,1)/\gE prog 283 5=some (6,3):=by and_intros<;>kernel_rfl
@[simp] theorem ZG:gE prog 283 6=some (7,4):=by kernel_rfl
@[simp] theorem ael:jd prog 284=some (false,1):=by kernel_rfl
@[simp] theorem aaz:prog.underlying 287=some (.array 14 3):=by kernel_rfl
@[simp] theorem aec(tag:Tag)(l:List Int)(a:Int):vp prog 22 (.slice tag (List.map sI l)) (some (.sc (.int .i64 a))) none none=(wO l a (dT l)).map λr=>.slice .pw (List.map sI r):=T4 _ l ac3 W_ (λx=>by simp)
@[simp] theorem adW(tag:Tag)(l:List Fm):vp prog 23 (.slice tag (List.map Fm.av l)) none (some (.sc (.int .i64 (dT l)))) (some (.sc (.int .i64 (dT l))))=some (.slice .full (List.map Fm.av l)):=HF _ l acx Zf (λx=>by simp)
@[simp] theorem adQ(tag:Tag)(l:List Ty):vp prog 24 (.slice tag (List.map Ty.av l)) none (some (.sc (.int .i64 (dT l)))) (some (.sc (.int .i64 (dT l))))=some (.slice .full (List.map Ty.av l)):=HF _ l YX XG (λx=>by simp)
@[simp] theorem aej(tag:Tag)(l:List Ty)(b:Int):vp prog 24 (.slice tag (List.map Ty.av l)) none (some (.sc (.int .i64 b))) none=(wO l 0 b).map λr=>.slice .pw (List.map Ty.av r):=T1 _ l YX XG (λx=>by simp)
@[simp] theorem adE(tag:Tag)(l:List cU):vp prog 126 (.slice tag (List.map cU.av l)) none (some (.sc (.int .i64 (dT l)))) (some (.sc (.int .i64 (dT l))))=some (.slice .full (List.map cU.av l)):=HF _ l aaI JG (λx=>by simp)
@[simp] theorem ac7(tag:Tag)(l:List de):vp prog 127 (.slice tag (List.map de.av l)) none (some (.sc (.int .i64 (dT l)))) (some (.sc (.int .i64 (dT l))))=some (.slice .full (List.map de.av l)):=HF _ l aaS Xe (λx=>by simp)
def gu.cs(x:gu):List AV:=x.av.cells
@[simp] theorem afk(a:Int):jN prog 258 (.tB (.agg (List.flatMap (λx=>gu.cs x) mR))) (.sc (.int .i64 a))=(du mR a).map λx=>.tB x.av:=NW aaP Xa (λx=>rfl) (λx=>⟨_,gu.j1 x⟩) (λx=>by simp) rfl
@[simp] theorem afj(a:Int):jN prog 287 (.tB (.agg (List.map (λn=>AV.sc (Value.int .i64 n)) rl))) (.sc (.int .i64 a))=(du rl a).map λx=>.tB (.sc (.int .i64 x)):=O' aaz W_ rfl
@[simp] theorem rh:prog.underlying 113=some (.map 3 172):=by kernel_rfl
def XZ:TZ prog 172=some (.sc .nilFunc):=by kernel_rfl
def Uu:List Value:=[.int .i64 1,.int .i64 2,.int .i64 3,.int .i64 4,.int .i64 5,.int .i64 6,.int .i64 7,.int .i64 8,.int .i64 12,.int .i64 9,.int .i64 13,.int .i64 10,.int .i64 14,.int .i64 11,.int .i64 15,.int .i64 16,.int .i64 17,.int .i64 18,.int .i64 19,.int .i64 20]
def Up:List AV:=[.func (.func 139) [] [],.func (.func 140) [] [],.func (.func 141) [] [],.func (.func 142) [] [],.func (.func 142) [] [],.func (.func 143) [] [],.func (.func 144) [] [],.func (.func 145) [] [],.func (.func 145) [] [],.func (.func 146) [] [],.func (.func 146) [] [],.func (.func 147) [] [],.func (.func 147) [] [],.func (.func 148) [] [],.func (.func 148) [] [],.func (.func 149) [] [],.func (.func 149) [] [],.func (.func 150) [] [],.func (.func 151) [] [],.func (.func 152) [] []]
def RX:AV:=.Dd Uu Up
def RI(k:Int):AV:=match mapIdx Uu (.int .i64 k)with|some j=>Up.getD j .undef|none=>.sc .nilFunc
abbrev KC(H:dM)(o:Nat)(l:List Fm):Prop:=H[o]?=some [sL Fm.av l,AV.vu (o-1)]/\H[o-1]?=some [RX]
def Uf{H:dM}{o:Nat}{k:Int}(h:H[o]?=some [RX]):Dz prog H 113 (AV.vu o) (sI k) false=some (RI k):=V4 rh DA XZ h abn abn
def nD{k key:Int}{x:AV}(h:dC k key=true)(a:RI key=x):RI k=x:=by rw[Wy h];exact a
def wq{T:fx}{g:Nat}{xs:List AV}{H H':dM}{r:AV}(h:fg prog T g xs H r H'):yt prog T (.func (.func g) [] []) xs H r H':=by
 unfold yt BL;simp only[k9,Dn];exact h
abbrev w5(T:fx):Prop:=T 2=some (AV.agg (List.map (λn=>AV.sc (Value.int .i64 n)) rl))/\T 1=some (AV.agg (List.flatMap (λx=>gu.cs x) mR))/\T 0=some (AV.agg (List.map (λn=>AV.sc (Value.int .u8 n)) lu))
def Mt{S:Type}(T:fx)(g:Nat)(cap:List AV)(st:S->dM)(w:(S->Tm->Int->Option (Tm×S))):Prop:=
 ∀(X:dM) (s:S) (a:Tm) (b:Int) (c:Tm) (d:S),w s a b=some (c,d)->fg prog T g ([Tm.av a,sI b]++cap) (st s++X) (Tm.av c) (st d++X)
def Mt.at0{S:Type}{T:fx}{g:Nat}{cap:List AV}{st:S->dM}{w:(S->Tm->Int->Option (Tm×S))}(h:Mt T g cap st w){s:S}{a:Tm}{b:Int}{c:Tm}{d:S}(hw:w s a b=some (c,d)):fg prog T g ([Tm.av a,sI b]++cap) (st s) (Tm.av c) (st d):=by
 have:=h [] s a b c d hw
 rwa [Dn,Dn] at this
def B7{S:Type}(T:fx)(g:Nat)(cap:List AV)(st:S->dM)(w:(S->Int->Int->Option (S))):Prop:=
 ∀(X:dM) (s:S) (a:Int) (b:Int) (c:S),w s a b=some c->fg prog T g ([sI a,sI b]++cap) (st s++X) (AV.tuple []) (st c++X)
def B7.ext{S:Type}{T:fx}{g:Nat}{cap:List AV}{st:S->dM}{w:(S->Int->Int->Option (S))}(h:B7 T g cap st w){Y:dM}:B7 T g cap (λs=>st s++Y) w:=λX s a b c hw=>by
 have:=h (Y++X) s a b c hw
 rwa [<-ml,<-ml] at this
def B7.at0{S:Type}{T:fx}{g:Nat}{cap:List AV}{st:S->dM}{w:(S->Int->Int->Option (S))}(h:B7 T g cap st w){s:S}{a b:Int}{c:S}(hw:w s a b=some c):fg prog T g ([sI a,sI b]++cap) (st s) (AV.tuple []) (st c):=by
 have:=h [] s a b c hw
 rwa [Dn,Dn] at this
def L0{S:Type}(T:fx)(g:Nat)(cap:List AV)(st:S->dM)(w:(S->Tm->Int->Option (S))):Prop:=
 ∀(X:dM) (s:S) (a:Tm) (b:Int) (c:S),w s a b=some c->fg prog T g ([Tm.av a,sI b]++cap) (st s++X) (AV.tuple []) (st c++X)
def L0.at0{S:Type}{T:fx}{g:Nat}{cap:List AV}{st:S->dM}{w:(S->Tm->Int->Option (S))}(h:L0 T g cap st w){s:S}{a:Tm}{b:Int}{c:S}(hw:w s a b=some c):fg prog T g ([Tm.av a,sI b]++cap) (st s) (AV.tuple []) (st c):=by
 have:=h [] s a b c hw
 rwa [Dn,Dn] at this
def Cb{S:Type}(T:fx)(g:Nat)(cap:List AV)(st:S->dM)(w:(S->Int->Int->Option (Tm×S))):Prop:=
 ∀(X:dM) (s:S) (a:Int) (b:Int) (c:Tm) (d:S),w s a b=some (c,d)->fg prog T g ([sI a,sI b]++cap) (st s++X) (Tm.av c) (st d++X)
def Cb.ext{S:Type}{T:fx}{g:Nat}{cap:List AV}{st:S->dM}{w:(S->Int->Int->Option (Tm×S))}(h:Cb T g cap st w){Y:dM}:Cb T g cap (λs=>st s++Y) w:=λX s a b c d hw=>by
 have:=h (Y++X) s a b c d hw
 rwa [<-ml,<-ml] at this
def Cb.at0{S:Type}{T:fx}{g:Nat}{cap:List AV}{st:S->dM}{w:(S->Int->Int->Option (Tm×S))}(h:Cb T g cap st w){s:S}{a b:Int}{c:Tm}{d:S}(hw:w s a b=some (c,d)):fg prog T g ([sI a,sI b]++cap) (st s) (Tm.av c) (st d):=by
 have:=h [] s a b c d hw
 rwa [Dn,Dn] at this
end Go.Proofs.YtobcafblgapgfaaGreatDoor
set_option maxRecDepth 20000
set_option maxHeartbeats 4000000
namespace Go.Proofs.YtobcafblgapgfaaGreatDoor
open Go Go.tq Go.eD Tryz
def k0:C0 prog 48 lp Ty.av:=by
 refine v0 func48 λT H r m e=>?_;rw[lp] at m;exact au
def i_:C1 prog 52 fv Tm.av sI:=by
 refine v1 func52 λT H a0 r m e=>?_;rw[fv] at m;exact au
def oE{n:Nat}:C1 prog 98 (kH n) Ty.av Ty.av:=by
 refine i1 λn j=>v1 func98 λT H a0 r m e=>?_;rw[kH] at m;simp[e];refine Wr e m 999 (λi s2 f h=>∃a,(h=H/\f.1 3=sT a Ty.av s2/\f.1 7=sL Ty.av a0.afp/\f.1 8=sI (dT a0.afp)/\f.1 9=sI i/\bx f 1 (Ty.av a0).cells/\bx f 2 [sI 0,nL])/\Ow f [17] a s2) (by exact⟨.full,aav,kG.full⟩) (λs2 c _ _ E m=>?_) (λi _ s2 c _ _ _ _ E e m z p=>?_)
 ·have⟨a,E,b⟩:=E;have e:=Aj e E;dsimp only[cR]at m;exact au
 have⟨a,E,b⟩:=E;have e:=Aj e E;simp[e];refine gj m j λd m=>?_;have⟨e,m⟩:=Ck e m;simp[e];refine Ao (f:=Ty.av) s2 [d] b Lx e.2 ?_;simp[e];cases m;exact p _ _ _ ⟨(.loc 17 (c.gN 17+1)),aav,(On 17)⟩ z
def ti{n:Nat}:C1 prog 104 (kU n) Tm.av Tm.av:=by
 refine i1 λn j=>v1 func104 λT H a0 r m e=>?_;rw[kU] at m;simp[e];refine Wr e m 999 (λi s2 f h=>∃a,(h=H/\f.1 3=sT a Tm.av s2/\f.1 7=sL Tm.av a0.afp/\f.1 8=sI (dT a0.afp)/\f.1 9=sI i/\bx f 1 (Tm.av a0).cells/\bx f 2 [sI 0,sI 0,sI 0,nL,nL])/\Ow f [17] a s2) (by exact⟨.full,aav,kG.full⟩) (λs2 c _ _ E m=>?_) (λi _ s2 c _ _ _ _ E e m z p=>?_)
 ·have⟨a,E,b⟩:=E;have e:=Aj e E;dsimp only[cR]at m;simp[e];refine fQ m oE λ_ m=>?_;exact au
 have⟨a,E,b⟩:=E;have e:=Aj e E;simp[e];refine gj m j λd m=>?_;have⟨e,m⟩:=Ck e m;simp[e];refine Ao (f:=Tm.av) s2 [d] b JY e.2 ?_;simp[e];cases m;exact p _ _ _ ⟨(.loc 17 (c.gN 17+1)),aav,(On 17)⟩ z
def rf:C1 prog 53 ni Pf.av Tm.av:=by
 refine v1 func53 λT H a0 r m e=>?_;rw[ni] at m;simp[e];refine gj m ti λa m=>?_;have e:=Aj e (show AV.agg [sI 18,sI 0,sI 0,AV.slice .pw [],AV.slice .pw [Tm.av a],AV.slice .pw [],AV.slice .pw []]=Pf.av (Pf.mk 18 0 (Ty.mk 0 []) [a] [] []) by rw[Pf.jf];rfl);exact au
def qi{n:Nat}:C1 prog 87 (lk n) Fm.av Fm.av:=by
 refine i1 λn x=>v1 func87 λT H a0 r m e=>?_;rw[lk] at m;simp[e];refine fQ m oE λt m=>?_;simp[e];refine F7 e m 999 (λw o f h=>∃c,(h=H/\f.1 15=sL Tm.av a0.dy/\f.1 16=sI (dT a0.dy)/\f.1 17=sI w/\bx f 1 (Fm.av a0).cells/\bx f 2 [sI 0,sI 0,nL,nL,nL]/\bx f 3 [sI a0.afo,sI t.afo,sL Ty.av t.afp,sT c Tm.av o,nL])/\Ow f [26] c o) (by exact⟨.full,aav,kG.full⟩) (λw _ o q _ _ _ _ E e m z p=>?_) (λo q _ _ E m=>?_)
 ·have⟨c,E,i⟩:=E;have e:=Aj e E;simp[e];refine fQ m ti λu m=>?_;have⟨e,m⟩:=Ck e m;simp[e];refine Ad (f:=Tm.av) o [u] i JY e.2 ?_;simp[e];cases m;exact p _ _ _ ⟨(.loc 26 (q.gN 26+1)),aav,(On 26)⟩ z
 have⟨c,E,i⟩:=E;have e:=Aj e E;dsimp only[cR]at m;simp[e];refine Wr e m 999 (λs j f h=>∃a b,(h=H/\f.1 30=sL Fm.av a0.afp/\f.1 31=sI (dT a0.afp)/\f.1 32=sI s/\bx f 2 [sI 0,sI 0,nL,nL,nL]/\bx f 3 [sI a0.afo,sI t.afo,sL Ty.av t.afp,sT a Tm.av o,sT b Fm.av j])/\Ow f [26] a o/\Ow f [41] b j) (by exact⟨c,.full,aav,i,kG.full⟩) (λj l _ _ E m=>?_) (λs _ j l _ _ _ _ E e m z p=>?_)
 ·have⟨a,b,E,k,d⟩:=E;have e:=Aj e E;dsimp only[cR]at m;exact au
 have⟨a,b,E,k,d⟩:=E;have e:=Aj e E;simp[e];refine fQ m x λv m=>?_;have⟨e,m⟩:=Ck e m;simp[e];refine Ad (f:=Fm.av) j [v] d E5 e.2 ?_;simp[e];cases m;exact p _ _ _ ⟨a,(.loc 41 (l.gN 41+1)),aav,(kG.other k d Zk Zk),(On 41)⟩ z
def Dw{n:Nat}:C1 prog 75 (mU n) Pf.av Pf.av:=by
 refine i1 λn K=>v1 func75 λT H a0 r m e=>?_;rw[mU] at m;simp[e];refine fQ m oE λA m=>?_;simp[e];refine F7 e m 999 (λJ w f h=>∃j,(h=H/\f.1 19=sL Tm.av a0.dy/\f.1 20=sI (dT a0.dy)/\f.1 21=sI J/\bx f 1 (Pf.av a0).cells/\bx f 2 [sI 0,sI 0,sI 0,nL,nL,nL,nL]/\bx f 3 [sI a0.afo,sI a0.afr,sI A.afo,sL Ty.av A.afp,sT j Tm.av w,nL,nL])/\Ow f [30] j w) (by exact⟨.full,aav,kG.full⟩) (λJ _ w B _ _ _ _ E e m z p=>?_) (λw B _ _ E m=>?_)
 ·have⟨j,E,s⟩:=E;have e:=Aj e E;simp[e];refine fQ m ti λF m=>?_;have⟨e,m⟩:=Ck e m;simp[e];refine Ad (f:=Tm.av) w [F] s JY e.2 ?_;simp[e];cases m;exact p _ _ _ ⟨(.loc 30 (B.gN 30+1)),aav,(On 30)⟩ z
 have⟨j,E,s⟩:=E;have e:=Aj e E;dsimp only[cR]at m;simp[e];refine F7 e m 999 (λC o f h=>∃a b,(h=H/\f.1 34=sL Fm.av a0.fP/\f.1 35=sI (dT a0.fP)/\f.1 36=sI C/\bx f 1 (Pf.av a0).cells/\bx f 2 [sI 0,sI 0,sI 0,nL,nL,nL,nL]/\bx f 3 [sI a0.afo,sI a0.afr,sI A.afo,sL Ty.av A.afp,sT a Tm.av w,sT b Fm.av o,nL])/\Ow f [30] a w/\Ow f [45] b o) (by exact⟨j,.full,aav,s,kG.full⟩) (λC _ o x _ _ _ _ E e m z p=>?_) (λo x _ _ E m=>?_)
 ·have⟨a,b,E,q,k⟩:=E;have e:=Aj e E;simp[e];refine fQ m qi λG m=>?_;have⟨e,m⟩:=Ck e m;simp[e];refine Ad (f:=Fm.av) o [G] k E5 e.2 ?_;simp[e];cases m;exact p _ _ _ ⟨a,(.loc 45 (x.gN 45+1)),aav,(kG.other q k Zk Zk),(On 45)⟩ z
 have⟨a,b,E,q,k⟩:=E;have e:=Aj e E;dsimp only[cR]at m;simp[e];refine Wr e m 999 (λD t f h=>∃c d i,(h=H/\f.1 49=sL Pf.av a0.afp/\f.1 50=sI (dT a0.afp)/\f.1 51=sI D/\bx f 2 [sI 0,sI 0,sI 0,nL,nL,nL,nL]/\bx f 3 [sI a0.afo,sI a0.afr,sI A.afo,sL Ty.av A.afp,sT c Tm.av w,sT d Fm.av o,sT i Pf.av t])/\Ow f [30] c w/\Ow f [45] d o/\Ow f [60] i t) (by exact⟨a,b,.full,aav,q,k,kG.full⟩) (λt y _ _ E m=>?_) (λD _ t y _ _ _ _ E e m z p=>?_)
 ·have⟨c,d,i,E,u,v,l⟩:=E;have e:=Aj e E;dsimp only[cR]at m;exact au
 have⟨c,d,i,E,u,v,l⟩:=E;have e:=Aj e E;simp[e];refine fQ m K λI m=>?_;have⟨e,m⟩:=Ck e m;simp[e];refine Ad (f:=Pf.av) t [I] l V7 e.2 ?_;simp[e];cases m;exact p _ _ _ ⟨c,d,(.loc 60 (y.gN 60+1)),aav,(kG.other u l Zk Zk),(kG.other v l Zk Zk),(On 60)⟩ z
def vJ:C2 prog 56 nO Pf.av sI (sL Pf.av):=by
 refine v2 func56 λT H a0 a1 r m e=>?_;rw[nO] at m;simp[e];refine Wr e m 999 (λi s2 f h=>∃a,(h=H/\f.1 10=sL Pf.av a1/\f.1 11=sI (dT a1)/\f.1 12=sI i/\bx f 4 [sI 0,sI 0,sI 0,nL,nL,nL,nL]/\bx f 5 [sI a0,sI 0,sI 0,nL,nL,nL,sT a Pf.av s2])/\Ow f [21] a s2) (by exact⟨.full,aav,kG.full⟩) (λs2 c _ _ E m=>?_) (λi _ s2 c _ _ _ _ E e m z p=>?_)
 ·have⟨a,E,b⟩:=E;have e:=Aj e E;dsimp only[cR]at m;exact au
 have⟨a,E,b⟩:=E;have e:=Aj e E;simp[e];refine fQ m Dw λd m=>?_;have⟨e,m⟩:=Ck e m;simp[e];refine Ad (f:=Pf.av) s2 [d] b V7 e.2 ?_;simp[e];cases m;exact p _ _ _ ⟨(.loc 21 (c.gN 21+1)),aav,(On 21)⟩ z
def Ap:C3 prog 34 sj Pf.av sI Ty.av Pf.av:=by
 refine v3 func34 λT H a0 a1 a2 r m e=>?_;rw[sj] at m;simp[e];refine gj m vJ λ_ m=>?_;simp[e];refine gj m oE λ_ m=>?_;exact au
def MF{n:Nat}:C1 prog 236 (mC n) (t2 sI sB) Ty.av:=by
 refine i1 λn d=>u1 4 func236 λT H a0 r m e=>?_;rw[mC] at m;simp[e];refine Gc m 3 999 (λb f h=>∃v2,(h=H/\f.1 4=sI v2/\bx f 1 (Ty.av a0).cells)/\b v2=some r) ?_ (λb _ g m=>?_)
 ·rintro _ _ ⟨v2,E,m⟩;have e:=Aj e E;refine Il e m λe m=>?_;simp[e];refine Wr e m 999 (λc a f h=>h=H/\f.1 5=sI a/\f.1 25=sL Ty.av a0.afp/\f.1 26=sI (dT a0.afp)/\f.1 27=sI c) aav (λa _ _ _ E m=>?_) (λc _ a _ _ _ _ _ E e m z p=>?_)
  ·have e:=Aj e E;dsimp only[cR]at m;exact au
  have e:=Aj e E;simp[e];refine mM m d λ_ _ m=>?_;refine Im e m λe m=>?_;exact al
 simp[e];refine wj 999 0 (λf h=>h=H/\f.1 4=sI 0/\f.1 11=sI a0.afo/\f.1 12=sB (fp (dC a0.afo 1) true (fp (dC a0.afo 2) true (dC a0.afo 5)))/\bx f 1 (Ty.av a0).cells) (λ_ g=>?_) ?_
 ·rcases Pb (dC a0.afo 1) e with e|e
  ·exact aj
  rcases Pb (dC a0.afo 2) e with e|e
  ·exact aj
  exact aj
 rintro _ _ E;have e:=Aj e E;apply Iq e m<;>intro e m
 ·apply wg 999;exact nP
 apply wg 1;simp[e];refine wj 999 999 (λf h=>h=H/\f.1 16=sB (fp (dC a0.afo 3) true (dC a0.afo 4))/\bx f 1 (Ty.av a0).cells) (λ_ g=>?_) ?_
 ·rcases Pb (dC a0.afo 3) e with e|e
  ·exact aj
  exact aj
 rintro _ _ E;have e:=Aj e E;refine Im e m λe m=>?_;exact nP
def vU:C1 prog 186 jx (t2 sI sI) Ty.av:=by
 refine v1 func186 λT H a0 r m e=>?_;rw[jx] at m;simp[e];refine mM m MF λ_ _ m=>?_;refine Im e m λe m=>?_;refine Il e m λe m=>?_;exact au
def Kj:C1 prog 136 kJ sI Ty.av:=by
 refine v1 func136 λT H a0 r m e=>?_;rw[kJ] at m;simp[e];refine mM m vU λ_ _ m=>?_;exact au
def HV:C1 prog 77 m6 sI (sL Ty.av):=by
 refine v1 func77 λT H a0 r m e=>?_;rw[m6] at m;refine Il e m λe m=>?_;simp[e];refine Wr e m 999 (λa _ f h=>h=H/\f.1 9=sL Ty.av a0/\f.1 10=sI (dT a0)/\f.1 11=sI a) aav (λ_ _ _ _ E m=>?_) (λa _ _ _ _ _ _ _ E e m z p=>?_)
 ·have e:=Aj e E;dsimp only[cR]at m;exact au
 have e:=Aj e E;simp[e];refine gj m Kj λ_ m=>?_;refine Il e m λe m=>?_;exact al
def F9:C1 prog 238 oM sB Ty.av:=by
 refine u1 2 func238 λT H a0 r m e=>?_;rw[oM] at m;simp[e];refine QY 999 999 (λf h=>h=H/\f.1 2=sB (fp (dC a0.afo 0) (dC (dT a0.afp) 0) false)) ?_ (λ_ g=>?_)
 ·rintro _ _ E;have e:=Aj e E;exact au
 rcases Pb (dC a0.afo 0) e with e|e
 ·exact aj
 exact aj
def QJ:C1 prog 269 qL sB Fm.av:=by
 refine u1 4 func269 λT H a0 r m e=>?_;rw[qL] at m;simp[e];refine Gc m 5 0 (λa f h=>∃v2 v3 v4,(h=H/\f.1 3=sI v2/\f.1 4=sI v3/\f.1 5=sB v4/\bx f 1 (Fm.av a0).cells)/\a v2 v3 v4=some r) ?_ (λa _ g m=>?_)
 ·rintro _ _ ⟨v2,v3,v4,E,m⟩;have e:=Aj e E;refine Gc m 999 0 (λb f h=>(h=H/\f.1 3=sI v2/\f.1 4=sI v3/\bx f 1 (Fm.av a0).cells)/\b=some r) ?_ (λb _ g m=>?_)
  ·rintro _ _ ⟨E,m⟩;have e:=Aj e E;refine QY 999 999 (λf h=>h=H/\f.1 2=sB (fp (dC (dT a0.dy) v2) (dC (dT a0.afp) v3) false)) ?_ (λ_ g=>?_)
   ·rintro _ _ E;have e:=Aj e E;exact au
   rcases Pb (dC (dT a0.dy) v2) e with e|e
   ·exact aj
   exact aj
  apply Iq e m<;>intro e m
  ·simp[e];refine mM m vU λ_ _ m=>?_;refine Il e m λe m=>?_;exact YU
  simp[e];refine gj m F9 λ_ m=>?_;refine Im e m λe m=>?_;exact YU
 simp[e];apply Iq e m<;>intro e m
 ·apply wg 999;exact ak3
 apply wg 1;simp[e];refine wj 999 0 (λf h=>h=H/\f.1 3=sI 0/\f.1 5=sB false/\f.1 9=sI a0.afo/\f.1 12=sB (fp (dC a0.afo 2) true (dC a0.afo 3))/\bx f 1 (Fm.av a0).cells) (λ_ g=>?_) ?_
 ·rcases Pb (dC a0.afo 2) e with e|e
  ·exact aj
  exact aj
 rintro _ _ E;have e:=Aj e E;apply Iq e m<;>intro e m
 ·apply wg 999;exact ak3
 apply wg 1;simp[e];refine QY 999 999 (λf h=>h=H/\f.1 3=sI 0/\f.1 15=sB (fp (dC a0.afo 4) true (fp (dC a0.afo 5) true (fp (dC a0.afo 6) true (dC a0.afo 7))))/\bx f 1 (Fm.av a0).cells) ?_ (λ_ g=>?_)
 ·rintro _ _ E;have e:=Aj e E;refine Im e m λe m=>?_;exact ak3
 rcases Pb (dC a0.afo 4) e with e|e
 ·exact aj
 rcases Pb (dC a0.afo 5) e with e|e
 ·exact aj
 rcases Pb (dC a0.afo 6) e with e|e
 ·exact aj
 exact aj
def Sl(T:fx)(c:w5 T){H:dM}{a0 a:Int}{b:Bool}(hm:wT a0=some (a,b)):fg prog T 294 [sI a0] H (AV.tuple [sI a,sB b]) H:=by
 rw[wT] at hm;have e:=c;refine wi aft func294 [] [] 3 ?_;simp[e];refine wj 999 999 (λf h=>h=H/\f.1 0=sI a0/\f.1 9=sB (fp (xT a0 1) true (sS a0 14))) (λ_ g=>?_) ?_
 ·rcases Pb (xT a0 1) e with e|e
  ·exact aj
  exact aj
 rintro _ _ E;have e:=Aj e E;refine Il e hm λe m=>?_;have⟨d,e,m⟩:=g_ e m;exact au
def RU:C1 prog 295 w8 sB sI:=by
 refine u1 2 func295 λT H a0 r m e=>?_;rw[w8] at m;simp[e];refine QY 999 999 (λf h=>h=H/\f.1 2=sB (fp (dC a0 2) true (fp (dC a0 6) true (dC a0 9)))) ?_ (λ_ g=>?_)
 ·rintro _ _ E;have e:=Aj e E;exact au
 rcases Pb (dC a0 2) e with e|e
 ·exact aj
 rcases Pb (dC a0 6) e with e|e
 ·exact aj
 exact aj
def LB(T:fx)(i:w5 T):∀(n:Nat),(∀{H:dM} {a0:Tm} {c:Int} {d:Bool} (hm:jV n a0=some (c,d)),fg prog T 270 [Tm.av a0] H (AV.tuple [sI c,sB d]) H):=by
  intro n
  induction n with
  |zero=>
    skip
    all_goals(intro _ _;intros;rename_i hm;cases hm)
  |succ n o=>
 intro H a0 c d hm;rw[jV] at hm;have e:=i;refine wi aft func270 [] [] 5 ?_;simp[e];refine mM hm (Sl T i) λj k m=>?_;simp[e];refine wj 999 0 (λf h=>h=H/\f.1 42=sB (fp k (fp (dI (dT a0.afp) j) true (fp (xT a0.afr 0) true (fp (dI a0.afr 0) (dI a0.afo 1) false))) true)/\bx f 1 (Tm.av a0).cells) (λ_ g=>?_) ?_
 ·rcases Pb k e with e|e;rotate_left
  ·exact aj
  rcases Pb (dI (dT a0.afp) j) e with e|e
  ·exact aj
  rcases Pb (xT a0.afr 0) e with e|e
  ·exact aj
  rcases Pb (dI a0.afr 0) e with e|e
  ·exact aj
  exact aj
 rintro _ _ E;have e:=Aj e E;apply Iq e m<;>intro e m
 ·apply wg 999;exact au
 apply wg 2;simp[e];refine Wj m 999 999 (λl f h=>(h=H/\f.1 1=AV.mD 1 (f.gen 1) 0/\f.box 1=some (Tm.av a0).cells)/\l=some (c,d)) (λl _ g m=>?_) ?_
 ·simp[e];refine gj m RU λ_ m=>?_;apply Iq e m<;>intro e m
  ·simp[e];refine mM m vU λ_ _ m=>?_;refine Il e m λe m=>?_;exact YU
  simp[e];refine gj m F9 λ_ m=>?_;refine Im e m λe m=>?_;exact YU
 rintro _ _ ⟨E,m⟩;have e:=Aj e E;simp[e];refine Wr e m 999 (λb a f h=>h=H/\f.1 8=sI a/\f.1 59=sL Tm.av a0.afp/\f.1 60=sI (dT a0.afp)/\f.1 61=sI b) aav (λa _ _ _ E m=>?_) (λb _ a _ _ _ _ _ E e m z p=>?_)
 ·have e:=Aj e E;dsimp only[cR]at m;exact au
 have e:=Aj e E;simp[e];refine mM m o λ_ _ m=>?_;refine Im e m λe m=>?_;exact al
def GN(T:fx)(c:w5 T){H:dM}{a0:Tm}{a:Int}{b:Bool}{n:Nat}(hm:jV n a0=some (a,b)):fg prog T 270 [Tm.av a0] H (AV.tuple [sI a,sB b]) H:=(LB T c n) hm
def JI(T:fx)(j:w5 T):∀(n:Nat),(∀{H:dM} {a0:Fm} {c:Int} {d:Bool} (hm:jX n a0=some (c,d)),fg prog T 235 [Fm.av a0] H (AV.tuple [sI c,sB d]) H):=by
  intro n
  induction n with
  |zero=>
   skip
   all_goals(intro _ _;intros;rename_i hm;cases hm)
  |succ n l=>
 intro H a0 c d hm;rw[jX] at hm;have e:=j;refine wi aft func235 [] [] 999 ?_;simp[e];refine gj hm QJ λ_ m=>?_;refine Im e m λe m=>?_;simp[e];refine F7 e m 999 (λk i f h=>h=H/\f.1 4=sI i/\f.1 17=sL Tm.av a0.dy/\f.1 18=sI (dT a0.dy)/\f.1 19=sI k/\bx f 1 (Fm.av a0).cells) aav (λk _ i _ _ _ _ _ E e m z p=>?_) (λi _ _ _ E m=>?_)
 ·have e:=Aj e E;simp[e];refine mM m (GN T j) λ_ _ m=>?_;refine Im e m λe m=>?_;exact al
 have e:=Aj e E;dsimp only[cR]at m;simp[e];refine Wr e m 999 (λb a f h=>h=H/\f.1 4=sI a/\f.1 35=sL Fm.av a0.afp/\f.1 36=sI (dT a0.afp)/\f.1 37=sI b) aav (λa _ _ _ E m=>?_) (λb _ a _ _ _ _ _ E e m z p=>?_)
 ·have e:=Aj e E;dsimp only[cR]at m;exact au
 have e:=Aj e E;simp[e];refine mM m l λ_ _ m=>?_;refine Im e m λe m=>?_;exact al
def J7(T:fx)(c:w5 T){H:dM}{a0:Fm}{a:Int}{b:Bool}{n:Nat}(hm:jX n a0=some (a,b)):fg prog T 235 [Fm.av a0] H (AV.tuple [sI a,sB b]) H:=(JI T c n) hm
def zo(T:fx)(a:w5 T){H:dM}{a0:Fm}{b c:Int}(hm:iS a0=some (b,c)):fg prog T 182 [Fm.av a0] H (AV.tuple [sI b,sI c]) H:=by
 rw[iS] at hm;have e:=a;refine wi aft func182 [] [] 999 ?_;simp[e];refine mM hm (J7 T a) λ_ _ m=>?_;refine Im e m λe m=>?_;refine Il e m λe m=>?_;exact au
def xl(T:fx)(a:w5 T){H:dM}{a0:Fm}{b:Int}(hm:ly a0=some b):fg prog T 133 [Fm.av a0] H (sI b) H:=by
 rw[ly] at hm;have e:=a;refine wi aft func133 [] [] 999 ?_;simp[e];refine mM hm (zo T a) λ_ _ m=>?_;exact au
def AT:C1 prog 183 nF cU.av Ty.av:=by
 refine v1 func183 λT H a0 r m e=>?_;rw[nF] at m;simp[e];refine mM m vU λ_ _ m=>?_;exact au
def FW:C1 prog 134 oO (sL cU.av) (sL Ty.av):=by
 refine v1 func134 λT H a0 r m e=>?_;rw[oO] at m;simp[e];refine Wr e m 999 (λi s2 f h=>∃a,(h=H/\f.1 3=sT a cU.av s2/\f.1 6=sL Ty.av a0/\f.1 7=sI (dT a0)/\f.1 8=sI i)/\Ow f [16] a s2) (by exact⟨.full,aav,kG.full⟩) (λs2 c _ _ E m=>?_) (λi _ s2 c _ _ _ _ E e m z p=>?_)
 ·have⟨a,E,b⟩:=E;have e:=Aj e E;dsimp only[cR]at m;exact au
 have⟨a,E,b⟩:=E;have e:=Aj e E;simp[e];refine gj m AT λd m=>?_;have⟨e,m⟩:=Ck e m;simp[e];refine Ao (f:=cU.av) s2 [d] b Xh e.2 ?_;simp[e];cases m;exact p _ _ _ ⟨(.loc 16 (c.gN 16+1)),aav,(On 16)⟩ z
def ub:C2 prog 184 fi (sL cU.av) (sL cU.av) (sL Ty.av):=by
 refine v2 func184 λT H a0 a1 r m e=>?_;rw[fi] at m;simp[e];refine fQ m FW λa m=>?_;have⟨e,m⟩:=Ck e m;simp[e];refine Ad (f:=cU.av) a0 a (kG.full (D:=[])) Xh e.2 ?_;exact au
def Kl:C3 prog 241 tk (t2 cU.av sI) sI cU.av cU.av:=by
 refine v3 func241 λT H a0 a1 a2 r m e=>?_;rw[tk] at m;refine Il e m λe m=>?_;have e:=Aj e (show AV.agg [sI a0,AV.slice .pw [Ty.av a1.cW,Ty.av a2.cW],sI (ep .i64 (ep .i64 1 a1.afq) a2.afq)]=cU.av (cU.mk (Ty.mk a0 [a1.cW,a2.cW]) (ep .i64 (ep .i64 1 a1.afq) a2.afq)) by rw[cU.jf];rfl);exact au
def OW:C1 prog 271 hJ (sL sI) sI:=by
 refine v1 func271 λT H a0 r m e=>?_;rw[hJ] at m;refine Il e m λe m=>?_;refine Il e m λe m=>?_;refine Il e m λe m=>?_;refine Il e m λe m=>?_;refine Il e m λe m=>?_;exact au
def qC:C2 prog 252 mh sB cU.av sI:=by
 refine v2 func252 λT H a0 a1 r m e=>?_;rw[mh] at m;exact au
def vB:C2 prog 272 k6 cU.av cU.av sI:=by
 refine v2 func272 λT H a0 a1 r m e=>?_;rw[k6] at m;have⟨a,e,m⟩:=g_ e m;simp[e];refine gj m AT λ_ m=>?_;exact au
def xq{n:Nat}:C2 prog 230 (fG n) sB Ty.av Ty.av:=by
 refine i2 λn b=>u2 3 func230 λT H a0 a1 r m e=>?_;rw[fG] at m;simp[e];refine wj 999 999 (λf h=>h=H/\f.1 20=sB (fp (dI a0.afo a1.afo) true (dI (dT a0.afp) (dT a1.afp)))/\bx f 2 (Ty.av a0).cells/\bx f 3 (Ty.av a1).cells) (λ_ g=>?_) ?_
 ·rcases Pb (dI a0.afo a1.afo) e with e|e
  ·exact aj
  exact aj
 rintro _ _ E;have e:=Aj e E;refine Il e m λe m=>?_;simp[e];refine Wr e m 999 (λa _ f h=>h=H/\f.1 22=sL Ty.av a0.afp/\f.1 23=sI (dT a0.afp)/\f.1 24=sI a/\bx f 3 (Ty.av a1).cells) aav (λ_ _ _ _ E m=>?_) (λa _ _ _ _ _ _ _ E e m z p=>?_)
 ·have e:=Aj e E;dsimp only[cR]at m;exact au
 have e:=Aj e E;have⟨c,e,m⟩:=g_ e m;simp[e];refine fQ m b λ_ m=>?_;refine Im e m λe m=>?_;exact al
def zs:C2 prog 245 lV sB cU.av cU.av:=by
 refine u2 2 func245 λT H a0 a1 r m e=>?_;rw[lV] at m;simp[e];refine Gc m 999 999 (λa f h=>∃v2,(h=H/\f.1 4=sB v2)/\a v2=some r) ?_ (λa _ g m=>?_)
 ·rintro _ _ ⟨v2,E,m⟩;have e:=Aj e E;exact au
 apply Ir e m<;>intro e m
 ·exact nP
 simp[e];refine gj m xq λ_ m=>?_;exact nP
def tT:C0 prog 208 s7 Ty.av:=by
 refine v0 func208 λT H r m e=>?_;rw[s7] at m;exact au
def Nx:C0 prog 251 BW Ty.av:=by
 refine v0 func251 λT H r m e=>?_;rw[BW] at m;exact au
def KJ:C2 prog 209 mO Ty.av Ty.av (sL Ty.av):=by
 refine v2 func209 λT H a0 a1 r m e=>?_;rw[mO] at m;simp[e];refine Wn m 999 (λs1 f h=>∃a,h=H/\f.1 1=sL Ty.av a1/\f.1 5=sI s1.1/\bx f 2 [sI s1.2.1,sT a Ty.av s1.2.2]/\bx f 4 [sI 0,nL]) ⟨.pw,aav⟩ (λs1 _ _ _ _ _ E m z p=>?_);have⟨c,v9,v10⟩:=s1;have⟨a,E⟩:=E;have e:=Aj e E;dsimp only[wh]at m;apply Ir e m<;>intro e m
 ·cases m;have m:=Qb z;dsimp only[wh]at m;exact au
 have⟨b,e,m⟩:=g_ e m;simp[e];cases m;exact p _ _ _ ⟨.full,aav⟩ z
def QI:C1 prog 273 oo Ty.av Tm.av:=by
 refine v1 func273 λT H a0 r m e=>?_;rw[oo] at m;apply Ir e m<;>intro e m
 ·simp[e];refine fQ m tT λ_ m=>?_;simp[e];refine fQ m KJ λ_ m=>?_;exact au
 simp[e];refine fQ m tT λ_ m=>?_;simp[e];refine fQ m Nx λ_ m=>?_;simp[e];refine fQ m KJ λ_ m=>?_;exact au
def QT:C2 prog 242 et (t2 cU.av sI) Tm.av (λp=>AV.agg [sI p.1.cW.afo,sL Ty.av p.1.cW.afp,sI p.1.afq,sI p.2.1.cW.afo,sL Ty.av p.2.1.cW.afp,sI p.2.1.afq,sI p.2.2.cW.afo,sL Ty.av p.2.2.cW.afp,sI p.2.2.afq]):=by
 intro T H a0 a1 r hm;rw[et] at hm;have e:=trivial;refine wi aft func242 [] [] 7 ?_;simp[e];refine gj hm OW λD m=>?_;simp[e];apply Iq e m<;>intro e m
 ·apply wg 999;have⟨x,e,m⟩:=g_ e m;simp[e];refine Wr e m 0 (λq _ f h=>h=H/\f.1 6=sL sI D/\f.1 18=sL sI x/\f.1 19=sI (dT x)/\f.1 20=sI q/\bx f 3 [sI a1.1.cW.afo,sL Ty.av a1.1.cW.afp,sI a1.1.afq,sI a1.2.1.cW.afo,sL Ty.av a1.2.1.cW.afp,sI a1.2.1.afq,sI a1.2.2.cW.afo,sL Ty.av a1.2.2.cW.afp,sI a1.2.2.afq]/\bx f 4 [sI 0,nL,sI 0]) aav (λ_ a _ _ E m=>?_) (λq _ _ a _ _ _ F E e m s t=>?_)
  ·have e:=Aj e E;apply wg 999;dsimp only[cR]at m;have⟨G,e,m⟩:=g_ e m;simp[e];refine gj m AT λ_ m=>?_;cases m;simp[e]
  have e:=Aj e E;apply wg 9;simp[e];refine Gc m 999 999 (λu f h=>∃l,(h=H/\f.1 6=sL sI D/\f.1 18=sL sI x/\f.1 19=sI (dT x)/\f.1 20=sI q/\f.1 30=sB l/\bx f 3 [sI a1.1.cW.afo,sL Ty.av a1.1.cW.afp,sI a1.1.afq,sI a1.2.1.cW.afo,sL Ty.av a1.2.1.cW.afp,sI a1.2.1.afq,sI a1.2.2.cW.afo,sL Ty.av a1.2.2.cW.afp,sI a1.2.2.afq]/\bx f 4 [sI 0,nL,sI 0])/\u l=some F) ?_ (λu _ c m=>?_)
  ·rintro _ _ ⟨l,E,m⟩;have e:=Aj e E;apply Iq e m<;>intro e m
   ·cases m;cases s;simp[e]
   simp[e];cases m;exact t _ _ _ aav s
  apply Iq e m<;>intro e m
  ·have e:=Aj e (M3 (j:=0) MW JG aav Zk:jN prog 244 (AV.mD 3 (a.gen 3) 0) (sI q)=some (AV.mD 3 (a.gen 3) 0));simp[e];refine gj m qC λy m=>?_;simp[e];exact c _ _ ⟨(s_ y),aav,m⟩
  apply Iq e m<;>intro e m
  ·have e:=Aj e (M3 (j:=1) MW JG aav Zk:jN prog 244 (AV.mD 3 (a.gen 3) 0) (sI q)=some (AV.mD 3 (a.gen 3) 3));simp[e];refine gj m qC λz m=>?_;simp[e];exact c _ _ ⟨(s_ z),aav,m⟩
  have⟨e,m⟩:=Ck e m;have e:=Aj e (M3 (j:=2) MW JG aav Zk:jN prog 244 (AV.mD 3 (a.gen 3) 0) (sI q)=some (AV.mD 3 (a.gen 3) 6));simp[e];refine gj m qC λA m=>?_;simp[e];exact c _ _ ⟨(s_ A),aav,m⟩
 apply wg 8;simp[e];apply Iq e m<;>intro e m
 ·apply wg 2;simp[e];refine Gc m 999 999 (λv f h=>∃n,(h=H/\f.1 54=sB n/\bx f 3 [sI a1.1.cW.afo,sL Ty.av a1.1.cW.afp,sI a1.1.afq,sI a1.2.1.cW.afo,sL Ty.av a1.2.1.cW.afp,sI a1.2.1.afq,sI a1.2.2.cW.afo,sL Ty.av a1.2.2.cW.afp,sI a1.2.2.afq]/\bx f 4 [sI 0,nL,sI 0])/\v n=some r) ?_ (λv _ g m=>?_)
  ·rintro _ _ ⟨n,E,m⟩;have e:=Aj e E;apply Iq e m<;>intro e m
   ·cases m;simp[e]
   simp[e];refine gj m vB λ_ m=>?_;cases m;simp[e]
  simp[e];refine fQ m qC λ_ m=>?_;apply Ir e m<;>intro e m
  ·simp[e];exact g _ _ ⟨true,aav,m⟩
  simp[e];refine fQ m vB λ_ m=>?_;simp[e];refine fQ m zs λB m=>?_;simp[e];exact g _ _ ⟨(s_ B),aav,m⟩
 apply wg 1;simp[e];refine wj 999 0 (λf h=>h=H/\f.1 39=sI a0.afo/\f.1 59=sB (fp (dC a0.afo 6) true (dC a0.afo 9))/\bx f 2 (Tm.av a0).cells/\bx f 3 [sI a1.1.cW.afo,sL Ty.av a1.1.cW.afp,sI a1.1.afq,sI a1.2.1.cW.afo,sL Ty.av a1.2.1.cW.afp,sI a1.2.1.afq,sI a1.2.2.cW.afo,sL Ty.av a1.2.2.cW.afp,sI a1.2.2.afq]/\bx f 4 [sI 0,nL,sI 0]) (λ_ i=>?_) ?_
 ·rcases Pb (dC a0.afo 6) e with e|e
  ·simp[e];exact i _ _ aav
  simp[e];exact i _ _ aav
 rintro _ _ E;have e:=Aj e E;apply Ir e m<;>intro e m
 ·apply wg 999;apply Iq e m<;>intro e m
  ·simp[e];refine mM m Kl λ_ _ m=>?_;cases m;simp[e]
  simp[e];refine gj m qC λ_ m=>?_;apply Ir e m<;>intro e m
  ·cases m;simp[e]
  apply Iq e m<;>intro e m
  ·simp[e];refine gj m vB λ_ m=>?_;cases m;simp[e]
  simp[e];refine gj m vB λ_ m=>?_;cases m;simp[e]
 apply wg 3;simp[e];refine gj m AT λb m=>?_;simp[e];refine wj 2 1 (λf h=>h=H/\f.1 10=sI (fp (dC a0.afo 9) 2 1)/\bx f 2 (Tm.av a0).cells/\bx f 3 [sI a1.1.cW.afo,sL Ty.av a1.1.cW.afp,sI a1.1.afq,sI a1.2.1.cW.afo,sL Ty.av a1.2.1.cW.afp,sI a1.2.1.afq,sI a1.2.2.cW.afo,sL Ty.av a1.2.2.cW.afp,sI a1.2.2.afq]/\bx f 4 [sI 0,nL,sI 0]/\bx f 9 [sI b.cW.afo,sL Ty.av b.cW.afp,sI b.afq]) (λ_ k=>?_) ?_
 ·simp[e];rcases Pb (dC a0.afo 9) e with e|e
  ·apply wg 999;simp[e];exact k _ _ aav
  apply wg 999;simp[e];exact k _ _ aav
 rintro _ _ E;have e:=Aj e E;simp[e];refine Gc m 999 999 (λw f h=>∃o,(h=H/\f.1 88=sB o/\bx f 4 [sI 0,nL,sI 0]/\bx f 9 [sI b.cW.afo,sL Ty.av b.cW.afp,sI b.afq])/\w o=some r) ?_ (λw _ d m=>?_)
 ·rintro _ _ ⟨o,E,m⟩;have e:=Aj e E;apply Iq e m<;>intro e m
  ·cases m;simp[e]
  cases m;simp[e]
 simp[e];refine fQ m zs λ_ m=>?_;apply Ir e m<;>intro e m
 ·simp[e];exact d _ _ ⟨true,aav,m⟩
 simp[e];refine fQ m QI λ_ m=>?_;simp[e];refine fQ m xq λ_ m=>?_;apply Ir e m<;>intro e m
 ·simp[e];exact d _ _ ⟨true,aav,m⟩
 simp[e];refine fQ m qC λC m=>?_;simp[e];exact d _ _ ⟨(s_ C),aav,m⟩
def sG{n:Nat}:C2 prog 197 (dz n) (t2 cU.av sI) (sL cU.av) Tm.av:=by
 refine i2 λn K=>v2 func197 λT H a0 a1 r m e=>?_;rw[dz] at m;apply Iq e m<;>intro e m
 ·refine Il e m λe m=>?_;have⟨M,e,m⟩:=g_ e m;exact au
 apply Iq e m<;>intro e m
 ·simp[e];refine gj m AT λL m=>?_;have⟨e,m⟩:=Ck e m;simp[e];refine Ad (f:=cU.av) a0 [L] (kG.full (D:=[])) Xh e.2 ?_;have⟨N,e,m⟩:=g_ e m;simp[e];refine sa m K λ_ _ m=>?_;refine Il e m λe m=>?_;simp[e];refine mM m Kl λ_ _ m=>?_;exact au
 simp[e];refine Wr e m 0 (λx o f h=>∃a b c,h=H/\f.1 0=sL cU.av a0/\f.1 65=sL Tm.av a1.afp/\f.1 66=sI (dT a1.afp)/\f.1 67=sI x/\bx f 3 (Tm.av a1).cells/\bx f 4 [sI 0,nL,sI 0]/\bx f 9 [sI o.1,sT a Ty.av o.2.1,sI o.2.2.1,sI o.2.2.2.1,sT b Ty.av o.2.2.2.2.1,sI o.2.2.2.2.2.1,sI o.2.2.2.2.2.2.1,sT c Ty.av o.2.2.2.2.2.2.2.1,sI o.2.2.2.2.2.2.2.2]) ⟨.full,.full,.full,aav⟩ (λo d _ _ E m=>?_) (λx _ o d _ _ _ A E e m z p=>?_)
 ·have⟨B,C,F,v20,v21,G,I,v24,J⟩:=o;have⟨a,b,c,E⟩:=E;have e:=Aj e E;apply wg 999;dsimp only[cR,WN]at m;simp[e];refine mM m QT λ_ _ m=>?_;exact au
 have⟨B,C,F,v20,v21,G,I,v24,J⟩:=o;have⟨a,b,c,E⟩:=E;have e:=Aj e E;dsimp only[WN]at m;apply wg 5;simp[e];refine Gc m 999 999 (λy f h=>∃q v30 v31 s t u v w v37 i k l,(h=H/\f.1 0=sL cU.av a0/\f.1 65=sL Tm.av a1.afp/\f.1 66=sI (dT a1.afp)/\f.1 67=sI x/\bx f 3 (Tm.av a1).cells/\bx f 4 [sI 0,nL,sI 0]/\bx f 9 [sI q,sT i Ty.av v30,sI v31,sI s,sT k Ty.av t,sI u,sI v,sT l Ty.av w,sI v37])/\y q v30 v31 s t u v w v37=some A) ?_ (λy _ g m=>?_)
 ·rintro _ _ ⟨q,v30,v31,s,t,u,v,w,v37,i,k,l,E,m⟩;have e:=Aj e E;simp[e];cases m;exact p _ _ _ ⟨i,k,l,aav⟩ z
 simp[e];refine mM m K λ_ _ m=>?_;refine Il e m λe m=>?_;apply Iq e m<;>intro e m
 ·have e:=Aj e (M3 (j:=0) MW JG aav Zk:jN prog 244 (AV.mD 9 (d.gen 9) 0) (sI x)=some (AV.mD 9 (d.gen 9) 0));simp[e];exact g _ _ ⟨_,_,_,_,_,_,_,_,_,.pw,b,c,aav,m⟩
 apply Iq e m<;>intro e m
 ·have e:=Aj e (M3 (j:=1) MW JG aav Zk:jN prog 244 (AV.mD 9 (d.gen 9) 0) (sI x)=some (AV.mD 9 (d.gen 9) 3));simp[e];exact g _ _ ⟨_,_,_,_,_,_,_,_,_,a,.pw,c,aav,m⟩
 have⟨e,m⟩:=Ck e m;have e:=Aj e (M3 (j:=2) MW JG aav Zk:jN prog 244 (AV.mD 9 (d.gen 9) 0) (sI x)=some (AV.mD 9 (d.gen 9) 6));simp[e];exact g _ _ ⟨_,_,_,_,_,_,_,_,_,a,b,.pw,aav,m⟩
def CW:C3 prog 205 gX sI (sL cU.av) Tm.av sI:=by
 refine u3 5 func205 λT H a0 a1 a2 r m e=>?_;rw[gX] at m;simp[e];refine mM m sG λ_ b m=>?_;simp[e];refine Gc m 999 999 (λa f h=>∃v4,(h=H/\f.1 8=sI b/\f.1 22=sB v4)/\a v4=some r) ?_ (λa _ g m=>?_)
 ·rintro _ _ ⟨v4,E,m⟩;have e:=Aj e E;refine Il e m λe m=>?_;exact au
 apply Ir e m<;>intro e m
 ·exact nP
 simp[e];refine gj m qC λ_ m=>?_;exact nP
def AR:C2 prog 185 gV sI (sL cU.av) Tm.av:=by
 refine v2 func185 λT H a0 a1 r m e=>?_;rw[gV] at m;simp[e];refine gj m CW λ_ m=>?_;exact au
def na{n:Nat}:C2 prog 135 (dE n) sI (sL cU.av) Fm.av:=by
 refine i2 λn k=>u2 6 func135 λT H a0 a1 r m e=>?_;rw[dE] at m;simp[e];refine Gc m 1 999 (λi f h=>∃v2,(h=H/\f.1 0=sL cU.av v2/\f.1 3=AV.mD 3 (f.gen 3) 0/\f.box 3=some (Fm.av a1).cells)/\i v2=some r) ?_ (λi _ a m=>?_)
 ·rintro _ _ ⟨v2,E,m⟩;have e:=Aj e E;simp[e];refine Wr e m 999 (λj _ f h=>h=H/\f.1 0=sL cU.av v2/\f.1 28=sL Fm.av a1.afp/\f.1 29=sI (dT a1.afp)/\f.1 30=sI j) aav (λ_ _ _ _ E m=>?_) (λj _ _ _ _ _ _ _ E e m z p=>?_)
  ·have e:=Aj e E;dsimp only[cR]at m;exact au
  have e:=Aj e E;simp[e];refine gj m k λ_ m=>?_;refine Il e m λe m=>?_;exact al
 simp[e];refine Gc m 4 999 (λb f h=>(h=H/\f.1 0=sL cU.av a0/\f.1 3=AV.mD 3 (f.gen 3) 0/\f.box 3=some (Fm.av a1).cells)/\b=some r) ?_ (λb _ g m=>?_)
 ·rintro _ _ ⟨E,m⟩;have e:=Aj e E;simp[e];refine gj m ub λd m=>?_;simp[e];exact a _ _ ⟨d,aav,m⟩
 simp[e];refine wj 999 0 (λf h=>h=H/\f.1 0=sL cU.av a0/\f.1 12=sI a1.afo/\f.1 13=sB (fp (dC a1.afo 4) true (dC a1.afo 5))/\bx f 3 (Fm.av a1).cells) (λ_ g=>?_) ?_
 ·rcases Pb (dC a1.afo 4) e with e|e
  ·exact aj
  exact aj
 rintro _ _ E;have e:=Aj e E;apply Iq e m<;>intro e m
 ·apply wg 999;exact YU
 apply wg 3;simp[e];refine wj 999 0 (λf h=>h=H/\f.1 0=sL cU.av a0/\f.1 12=sI a1.afo/\f.1 16=sB (fp (dC a1.afo 6) true (dC a1.afo 7))/\bx f 3 (Fm.av a1).cells) (λ_ g=>?_) ?_
 ·rcases Pb (dC a1.afo 6) e with e|e
  ·exact aj
  exact aj
 rintro _ _ E;have e:=Aj e E;apply Iq e m<;>intro e m
 ·apply wg 999;exact YU
 apply wg 2;simp[e];refine wj 999 999 (λf h=>h=H/\f.1 0=sL cU.av a0/\f.1 19=sB (fp (dC a1.afo 2) true (dC a1.afo 3))/\bx f 3 (Fm.av a1).cells) (λ_ g=>?_) ?_
 ·rcases Pb (dC a1.afo 2) e with e|e
  ·exact aj
  exact aj
 rintro _ _ E;have e:=Aj e E;apply Iq e m<;>intro e m
 ·simp[e];exact a _ _ ⟨a0,aav,m⟩
 simp[e];refine Wr e m 999 (λc _ f h=>h=H/\f.1 0=sL cU.av a0/\f.1 42=sL Tm.av a1.dy/\f.1 43=sI (dT a1.dy)/\f.1 44=sI c) aav (λ_ _ _ _ E m=>?_) (λc _ _ _ _ _ _ _ E e m z p=>?_)
 ·have e:=Aj e E;dsimp only[cR]at m;exact au
 have e:=Aj e E;simp[e];refine gj m AR λ_ m=>?_;refine Il e m λe m=>?_;exact al
def Dg(T:fx)(a:w5 T){H:dM}{a0:List Ty}{a1:Fm}{b:Int}(hm:mE a0 a1=some b):fg prog T 76 [sL Ty.av a0,Fm.av a1] H (sI b) H:=by
 rw[mE] at hm;have e:=a;refine wi aft func76 [] [] 999 ?_;simp[e];refine gj hm HV λ_ m=>?_;refine Il e m λe m=>?_;simp[e];refine gj m (xl T a) λ_ m=>?_;refine Il e m λe m=>?_;simp[e];refine fQ m FW λ_ m=>?_;simp[e];refine fQ m na λ_ m=>?_;exact au
def MX(T:fx)(b:w5 T){H:dM}{a0:List Fm}{a1:Sq}{c:Int}(hm:wb a0 a1=some c):fg prog T 21 [sL Fm.av a0,Sq.av a1] H (sI c) H:=by
 rw[wb] at hm;have e:=b;refine wi aft func21 [] [] 999 ?_;refine Il e hm λe m=>?_;simp[e];refine F7 e m 999 (λd _ f h=>h=H/\f.1 15=sL Fm.av a0/\f.1 16=sI (dT a0)/\f.1 17=sI d/\bx f 3 (Sq.av a1).cells) aav (λd _ _ _ _ _ _ _ E e m z p=>?_) (λ_ _ _ _ E m=>?_)
 ·have e:=Aj e E;simp[e];refine gj m (Dg T b) λ_ m=>?_;refine Il e m λe m=>?_;exact al
 have e:=Aj e E;dsimp only[cR]at m;simp[e];refine gj m HV λ_ m=>?_;refine Il e m λe m=>?_;refine Il e m λe m=>?_;simp[e];refine Wr e m 999 (λa _ f h=>h=H/\f.1 38=sL Fm.av a1.afv/\f.1 39=sI (dT a1.afv)/\f.1 40=sI a/\bx f 3 (Sq.av a1).cells) aav (λ_ _ _ _ E m=>?_) (λa _ _ _ _ _ _ _ E e m z p=>?_)
 ·have e:=Aj e E;dsimp only[cR]at m;exact au
 have e:=Aj e E;simp[e];refine gj m (Dg T b) λ_ m=>?_;refine Il e m λe m=>?_;exact al
def Ql(T:fx)(c:w5 T){H:dM}{a0:Int}{a:gu}{b:Bool}(hm:nU a0=some (a,b)):fg prog T 237 [sI a0] H (AV.tuple [gu.av a,sB b]) H:=by
 rw[nU] at hm;have e:=c;refine wi aft func237 [] [] 3 ?_;simp[e];refine wj 999 999 (λf h=>h=H/\f.1 0=sI a0/\f.1 9=sB (fp (xT a0 1) true (sS a0 21))/\bx f 2 [sB false,sB false,sI 0,sI 0,sI 0,sI 0,sI 0,sI 0]) (λ_ g=>?_) ?_
 ·rcases Pb (xT a0 1) e with e|e
  ·exact aj
  exact aj
 rintro _ _ E;have e:=Aj e E;refine Il e hm λe m=>?_;have⟨d,e,m⟩:=g_ e m;exact au
def BY(T:fx)(a:w5 T){H:dM}{a0:Tm}{b c:Int}(hm:kn a0=some (b,c)):fg prog T 240 [Tm.av a0] H (AV.tuple [sI b,sI c]) H:=by
 rw[kn] at hm;have e:=a;refine wi aft func240 [] [] 999 ?_;simp[e];refine mM hm (GN T a) λ_ _ m=>?_;refine Im e m λe m=>?_;refine Il e m λe m=>?_;exact au
def Ee(T:fx){H:dM}{a0:c7}{a1 a2:Int}{i:Bool}{a:c7}{c:Nat}(b:H[c]?=some [sI a0.afq,sB a0.iz])(hm:fN a0 a1 a2=some (i,a)):fg prog T 239 [AV.gS c 0,sI a1,sI a2] H (sB i) (iE H c [sI a.afq,sB a.iz]):=by
 rw[fN] at hm;have d:=ie b;refine gG.Qi b ?_;have e:=d;refine wi aft func239 [] [] 4 ?_;simp[e];refine QY 999 999 (λf h=>h=iE H c [sI (fp a0.iz (c7.mk (ep .i64 a0.afq a1) true) (c7.mk (ep .i64 a0.afq a1) (dC a2 4))).afq,sB (fp a0.iz (c7.mk (ep .i64 a0.afq a1) true) (c7.mk (ep .i64 a0.afq a1) (dC a2 4))).iz]/\f.1 2=sI a2) ?_ (λ_ g=>?_)
 ·rintro _ _ E;have e:=Aj e E;cases hm;simp[e]
 rcases Pb a0.iz e with e|e
 ·exact aj
 exact aj
def J'(T:fx)(r:w5 T):∀(n:Nat),(∀{H:dM} {a0:c7} {a1:Pf} {s:Bool} {c:c7} {a:Nat} (k:H[a]?=some [sI a0.afq,sB a0.iz]) (hm:ij n a0 a1=some (s,c)),fg prog T 189 [AV.gS a 0,Pf.av a1] H (sB s) (iE H a [sI c.afq,sB c.iz])):=by
  intro n
  induction n with
  |zero=>
    skip
    all_goals(intro _ _;intros;rename_i hm;cases hm)
  |succ n x=>
 intro H a0 a1 s c a k hm;rw[ij] at hm;have u:=ie k;refine gG.Qi k ?_;have e:=Aj r u;refine wi aft func189 [] [] 5 ?_;simp[e];refine mM hm (Ql T r) λb v m=>?_;simp[e];refine wj 999 0 (λf h=>h=iE H a [sI a0.afq,sB a0.iz]/\f.1 0=AV.gS a 0/\f.1 61=sB (fp v (fp (xT a1.afr 0) true (fp (dI a1.afr 0) (fp b.afr (fp (dI (dT a1.dy) b.dy) true (fp (dI (dT a1.fP) b.fP) true (dI (dT a1.afp) b.afp))) true) (fp (dI (dT a1.dy) b.dy) true (fp (dI (dT a1.fP) b.fP) true (dI (dT a1.afp) b.afp))))) true)/\bx f 3 (Pf.av a1).cells/\bx f 5 (gu.av b).cells) (λ_ g=>?_) ?_
 ·rcases Pb v e with e|e;rotate_left
  ·exact aj
  rcases Pb (xT a1.afr 0) e with e|e
  ·exact aj
  rcases Pb (dI a1.afr 0) e with e|e;rotate_left
  ·rcases Pb (dI (dT a1.dy) b.dy) e with e|e
   ·exact aj
   rcases Pb (dI (dT a1.fP) b.fP) e with e|e
   ·exact aj
   exact aj
  rcases Pb b.afr e with e|e;rotate_left
  ·exact aj
  rcases Pb (dI (dT a1.dy) b.dy) e with e|e
  ·exact aj
  rcases Pb (dI (dT a1.fP) b.fP) e with e|e
  ·exact aj
  exact aj
 rintro _ _ E;have e:=Aj e E;apply Iq e m<;>intro e m
 ·apply wg 999;exact au
 apply wg 4;simp[e];refine Wj m 999 999 (λw f h=>∃t,(h=iE H a [sI t.afq,sB t.iz]/\f.1 0=AV.gS a 0/\f.1 3=AV.mD 3 (f.gen 3) 0/\f.box 3=some (Pf.av a1).cells)/\w t=some (s,c)) (λw _ g m=>?_) ?_
 ·apply Iq e m<;>intro e m
  ·simp[e];refine mM m vU λ_ _ m=>?_;refine Il e m λe m=>?_;exact nP
  simp[e];refine gj m F9 λ_ m=>?_;refine Im e m λe m=>?_;exact nP
 rintro _ _ ⟨t,E,m⟩;have e:=Aj e E;simp[e];refine F7 e m 999 (λl d f h=>h=iE H a [sI d.afq,sB d.iz]/\f.1 0=AV.gS a 0/\f.1 84=sL Tm.av a1.dy/\f.1 85=sI (dT a1.dy)/\f.1 86=sI l/\bx f 3 (Pf.av a1).cells) aav (λl _ d _ _ _ _ _ E e m z p=>?_) (λd _ _ _ E m=>?_)
 ·have e:=Aj e E;simp[e];refine mM m (BY T r) λ_ _ m=>?_;simp[e];refine mM m (Ee T aav) λ_ d26 m=>?_;refine Im e m λe m=>?_;exact al
 have e:=Aj e E;dsimp only[cR]at m;simp[e];refine F7 e m 999 (λo i f h=>h=iE H a [sI i.afq,sB i.iz]/\f.1 0=AV.gS a 0/\f.1 99=sL Fm.av a1.fP/\f.1 100=sI (dT a1.fP)/\f.1 101=sI o/\bx f 3 (Pf.av a1).cells) aav (λo _ i _ _ _ _ _ E e m z p=>?_) (λi _ _ _ E m=>?_)
 ·have e:=Aj e E;simp[e];refine mM m (zo T r) λ_ _ m=>?_;simp[e];refine mM m (Ee T aav) λ_ d39 m=>?_;refine Im e m λe m=>?_;exact al
 have e:=Aj e E;dsimp only[cR]at m;simp[e];refine Wr e m 999 (λq j f h=>h=iE H a [sI j.afq,sB j.iz]/\f.1 0=AV.gS a 0/\f.1 114=sL Pf.av a1.afp/\f.1 115=sI (dT a1.afp)/\f.1 116=sI q) aav (λj _ _ _ E m=>?_) (λq _ j _ _ _ _ _ E e m z p=>?_)
 ·have e:=Aj e E;dsimp only[cR]at m;exact au
 have e:=Aj e E;simp[e];refine mM m (x aav) λ_ d50 m=>?_;refine Im e m λe m=>?_;exact al
def Ko(T:fx)(e:w5 T){H:dM}{a0:c7}{a1:Pf}{d:Bool}{a:c7}{b:Nat}(c:H[b]?=some [sI a0.afq,sB a0.iz]){n:Nat}(hm:ij n a0 a1=some (d,a)):fg prog T 189 [AV.gS b 0,Pf.av a1] H (sB d) (iE H b [sI a.afq,sB a.iz]):=(J' T e n) c hm
def Lt(T:fx)(c:w5 T){H:dM}{a0:Pf}{a b:Int}(hm:uo a0=some (a,b)):fg prog T 138 [Pf.av a0] H (AV.tuple [sI a,sI b]) H:=by
 rw[uo] at hm;refine gG.Dq (Post:=λx K=>x=AV.tuple [sI a,sI b]/\∃X,K=H++X) ?_ (λ_ _ h=>⟨_,h.2.choose_spec,by rw[h.1];simp[AV.low,AV.nk],h.1,rfl⟩);have e:=c;refine wi aft func138 [6] [] 8 ?_;simp[e];refine mM hm (Ko T c aav) λ_ d2 m=>?_;simp[e];apply Ir e m<;>intro e m
 ·apply wg 999;exact au
 apply wg 1;simp[e];refine QY 999 999 (λf h=>h=H++[[sI d2.afq,sB d2.iz]]/\f.1 4=AV.gS (List.length H) 0/\f.1 12=sB (fp d2.iz true (pc d2.afq 16384))) ?_ (λ_ g=>?_)
 ·rintro _ _ E;have e:=Aj e E;refine Il e m λe m=>?_;exact au
 rcases Pb d2.iz e with e|e
 ·exact aj
 exact aj
def QB(T:fx)(a:w5 T){H:dM}{a0:Pf}{b:Int}(hm:uN a0=some b):fg prog T 79 [Pf.av a0] H (sI b) H:=by
 rw[uN] at hm;have e:=a;refine wi aft func79 [] [] 999 ?_;simp[e];refine mM hm (Lt T a) λ_ _ m=>?_;exact au
def P1(T:fx){H:dM}{u:Unit}(hm:Br=some u):fg prog T 80 [] H (AV.vu (List.length H)) (H++[[RX]]):=by
 refine wi aft func80 [] [] 999 ?_;simp;refine CO.Hh rh DA abn abn ?_;simp;refine CO.Hh rh DA abn abn ?_;simp;refine CO.Hh rh DA abn abn ?_;simp;refine CO.Hh rh DA abn abn ?_;simp;refine CO.Hh rh DA abn abn ?_;simp;refine CO.Hh rh DA abn abn ?_;simp;refine CO.Hh rh DA abn abn ?_;simp;refine CO.Hh rh DA abn abn ?_;simp;refine CO.Hh rh DA abn abn ?_;simp;refine CO.Hh rh DA abn abn ?_;simp;refine CO.Hh rh DA abn abn ?_;simp;refine CO.Hh rh DA abn abn ?_;simp;refine CO.Hh rh DA abn abn ?_;simp;refine CO.Hh rh DA abn abn ?_;simp;refine CO.Hh rh DA abn abn ?_;simp;refine CO.Hh rh DA abn abn ?_;simp;refine CO.Hh rh DA abn abn ?_;simp;refine CO.Hh rh DA abn abn ?_;simp;refine CO.Hh rh DA abn abn ?_;simp;refine CO.Hh rh DA abn abn ?_;simp;simp[RX,Uu,Up]
def vz:C2 prog 154 eB cS.av cS.av Fm.av:=by
 refine v2 func154 λT H a0 a1 r m e=>?_;rw[eB] at m;have⟨e,m⟩:=Ck e m;simp[e];refine Ad (f:=de.av) a0.known [(de.mk a1 a0.eI.vars)] (kG.full (D:=[])) acd e.2 ?_;exact au
def OI:C1 prog 82 td cS.av Sq.av:=by
 refine v1 func82 λT H a0 r m e=>?_;rw[td] at m;simp[e];refine gj m FW λ_ m=>?_;simp[e];refine Wr e m 999 (λi b f h=>∃a,h=H/\f.1 16=sL Fm.av a0.afv/\f.1 17=sI (dT a0.afv)/\f.1 18=sI i/\bx f 2 [sI 0,sI 0,nL,nL]/\bx f 3 [sI b.1,sI b.2.1,sL cU.av b.2.2.1,sT a de.av b.2.2.2]) ⟨.full,aav⟩ (λb _ _ _ E m=>?_) (λi _ b _ _ _ _ _ E e m z p=>?_)
 ·have⟨v11,v12,c,d⟩:=b;have⟨a,E⟩:=E;have e:=Aj e E;dsimp only[cR,W2]at m;exact au
 have⟨v11,v12,c,d⟩:=b;have⟨a,E⟩:=E;have e:=Aj e E;dsimp only[W2]at m;simp[e];refine gj m vz λ_ m=>?_;simp[e];cases m;exact p _ _ _ ⟨.pw,aav⟩ z
def qu:C1 prog 211 hX Tm.av sI:=by
 refine v1 func211 λT H a0 r m e=>?_;rw[hX] at m;exact au
def QN(T:fx){H:dM}{a0 a1 a b:Int}{k:Tm}{q0 q1:Nat}(c:H[q0]?=some [sI a])(d:H[q1]?=some [sI b])(hm:vb a0 a1 a b=some k):fg prog T 286 [sI a0,sI a1,AV.gS q0 0,AV.gS q1 0] H (Tm.av k) H:=by
 rw[vb] at hm;have i:=ie c;have j:=ie d;have e:=Aj (Aj (Aj i c) j) d;refine wi aft func286 [] [] 2 ?_;simp[e];refine QY 999 999 (λf h=>h=H/\f.1 0=sI (fp (sS (eH .i64 a0 a1) a) (ep .i64 a0 b) a0)/\f.1 6=AV.mD 6 (f.gen 6) 0/\f.box 6=some [sI 0,sI 0,sI 0,nL,nL]) ?_ (λ_ g=>?_)
 ·rintro _ _ E;have e:=Aj e E;simp[e];refine gj hm qu λ_ m=>?_;exact au
 rcases Pb (sS (eH .i64 a0 a1) a) e with e|e
 ·exact aj
 exact aj
def BB{n:Nat}:C1 prog 213 (mg n) Ty.av Ty.av:=by
 refine i1 λn j=>v1 func213 λT H a0 r m e=>?_;rw[mg] at m;simp[e];refine Wr e m 999 (λi s2 f h=>∃a,(h=H/\f.1 10=sL Ty.av a0.afp/\f.1 11=sI (dT a0.afp)/\f.1 12=sI i/\bx f 2 [sI 0,nL]/\bx f 3 [sI a0.afo,sT a Ty.av s2])/\Ow f [21] a s2) (by exact⟨.full,aav,kG.full⟩) (λs2 c _ _ E m=>?_) (λi _ s2 c _ _ _ _ E e m z p=>?_)
 ·have⟨a,E,b⟩:=E;have e:=Aj e E;dsimp only[cR]at m;exact au
 have⟨a,E,b⟩:=E;have e:=Aj e E;simp[e];refine fQ m j λd m=>?_;have⟨e,m⟩:=Ck e m;simp[e];refine Ad (f:=Ty.av) s2 [d] b Lx e.2 ?_;simp[e];cases m;exact p _ _ _ ⟨(.loc 21 (c.gN 21+1)),aav,(On 21)⟩ z
def Lb(T:fx):∀(n:Nat),(∀{S:Type} {st:S->dM} {k:Nat} {a0:Tm} {a1:Int} {l:(S->Int->Int->Option (Tm×S))} {c:S} {x:Tm} {o:S} {q0:Nat} {q1:Nat} {q:Nat} {r:List AV} (hF:KV st k) (d:∀s,(st s)[q0]?=some [AV.func (.func q) [] r]) (b:Cb T q r st l) (i:∀s,(st s)[q1]?=some [AV.func (.func 303) [] [AV.gS q0 0,AV.gS q1 0]]) (hm:fE n a0 a1 l c=some (x,o)),fg prog T 303 [Tm.av a0,sI a1,AV.gS q0 0,AV.gS q1 0] (st c) (Tm.av x) (st o)):=by
  intro n
  induction n with
  |zero=>
    skip
    all_goals(intro _ _;intros;rename_i hm;cases hm)
  |succ n F=>
 intro S st k a0 a1 l c x o q0 q1 q r hF d b i hm;rw[fE] at hm;have y:=λs=>ie (d s);have A:=λs=>ie (i s);have e:=Aj (Aj (Aj (Aj hF.len y) d) A) i;refine wi aft func303 [] [(9,false,[true,true,false,true,true,true,true,true,true,true])] 5 ?_;simp[e];apply Iq e hm<;>intro e m
 ·apply wg 999;have⟨H,I,e,m⟩:=Bo2 e m;simp[e];refine sM.YA abG (Cb.at0 b e.2) ?_;exact au
 apply wg 4;simp[e];refine fQ m BB λw m=>?_;simp[e];refine wj 999 999 (λf h=>h=st c/\f.1 1=sI (fp (dC a0.afo 2) (ep .i64 a1 1) a1)/\f.1 3=AV.gS q1 0/\bx f 4 (Tm.av a0).cells/\bx f 6 [sI 0,sI 0,sI 0,nL,nL]/\bx f 7 [sI a0.afo,sI a0.afr,sI w.afo,sL Ty.av w.afp,nL]) (λ_ g=>?_) ?_
 ·rcases Pb (dC a0.afo 2) e with e|e
  ·exact aj
  exact aj
 rintro _ _ E;have e:=Aj e E;simp[e];refine Wr e m 999 (λD t f h=>∃a,(h=st t.2/\f.1 1=sI (fp (dC a0.afo 2) (ep .i64 a1 1) a1)/\f.1 3=AV.gS q1 0/\f.1 32=sL Tm.av a0.afp/\f.1 33=sI (dT a0.afp)/\f.1 34=sI D/\bx f 6 [sI 0,sI 0,sI 0,nL,nL]/\bx f 7 [sI a0.afo,sI a0.afr,sI w.afo,sL Ty.av w.afp,sT a Tm.av t.1])/\Ow f [45] a t.1) (by exact⟨.full,aav,kG.full⟩) (λt u _ _ E m=>?_) (λD _ t u _ _ _ _ E e m z p=>?_)
 ·have⟨v,B⟩:=t;have⟨a,E,j⟩:=E;have e:=Aj e E;dsimp only[cR,mW]at m;exact au
 have⟨v,B⟩:=t;have⟨a,E,j⟩:=E;have e:=Aj e E;dsimp only[mW]at m;have⟨C,G,e,m⟩:=Bo2 e m;simp[e];refine vx.YA abG (F hF d b i e.2) aae ?_;have⟨e,m⟩:=Ck e m;simp[e];refine Ad (f:=Tm.av) v [C] j JY e.2 ?_;simp[e];cases m;exact p _ _ _ ⟨(.loc 45 (u.gN 45+1)),aav,(On 45)⟩ z
def MA(T:fx){S:Type}{st:S->dM}{k:Nat}{a0:Tm}{a1:Int}{a:(S->Int->Int->Option (Tm×S))}{b:S}{i:Tm}{c:S}{q0 q1 d:Nat}{e:List AV}(hF:KV st k)(g:∀s,(st s)[q0]?=some [AV.func (.func d) [] e])(f:Cb T d e st a)(h:∀s,(st s)[q1]?=some [AV.func (.func 303) [] [AV.gS q0 0,AV.gS q1 0]]){n:Nat}(hm:fE n a0 a1 a b=some (i,c)):fg prog T 303 [Tm.av a0,sI a1,AV.gS q0 0,AV.gS q1 0] (st b) (Tm.av i) (st c):=(Lb T n) hF g f h hm
def IV(T:fx){S:Type}{st:S->dM}{k:Nat}{a0:Tm}{a1:(S->Int->Int->Option (Tm×S))}{c:S}{d:Tm}{b:S}{g1:Nat}{a:List AV}(hF:KV st k)(f:Cb T g1 a st a1)(hm:oA a0 a1 c=some (d,b)):fg prog T 285 [Tm.av a0,AV.func (.func g1) [] a] (st c) (Tm.av d) (st b):=by
 rw[oA] at hm;refine gG.Zo hF (Post:=λx K=>x=Tm.av d/\∃X,K=(st b)++X) ?_ (λ_ _ h=>⟨_,h.2.choose,h.2.choose_spec,by rw[h.1];simp[AV.low,AV.nk],h.1,rfl⟩);have e:=hF.len;refine wi aft func285 [3,5] [] 999 ?_;have⟨i,s2,e,m⟩:=Bo2 e hm;simp[e];refine sM.YA abG (MA T (st:=λs=>st s++[[AV.func (.func g1) [] a],[AV.func (.func 303) [] [AV.gS k 0,AV.gS (k+1) 0]]]) (KV.ext hF _ (n:=k+2) aae) (λ_=>aav) (Cb.ext f) (λ_=>aav) e.2) ?_;exact au
def M9(T:fx){H:dM}{a0:Tm}{a1 a2:Int}{a:Tm}(hm:qF a0 a1 a2=some a):fg prog T 254 [Tm.av a0,sI a1,sI a2] H (Tm.av a) H:=by
 rw[qF] at hm;refine gG.Dq (Post:=λx K=>x=Tm.av a/\∃X,K=H++X) ?_ (λ_ _ h=>⟨_,h.2.choose_spec,by rw[h.1];simp[AV.low,AV.nk],h.1,rfl⟩);have e:=trivial;refine wi aft func254 [4,5] [] 999 ?_;simp[e];refine mM hm (IV T (st:=λ_:Unit=>H++[[sI a1],[sI a2]]) (KV.const _) (λX _ _ _ _ _ h=>by obtain⟨b,rfl⟩:=ES h;exact QN T (q0:=(List.length H)) (q1:=(List.length H+1)) aav aav b)) λ_ _ m=>?_;exact au
def IM(T:fx){H:dM}{a0:Tm}{a1 a b:Int}{i:Tm}{q0 q1:Nat}(c:H[q0]?=some [sI a])(d:H[q1]?=some [sI b])(hm:mT a0 a1 a b=some i):fg prog T 253 [Tm.av a0,sI a1,AV.gS q0 0,AV.gS q1 0] H (Tm.av i) H:=by
 rw[mT] at hm;have f:=ie c;have h:=ie d;have e:=Aj (Aj (Aj f c) h) d;refine wi aft func253 [] [] 999 ?_;simp[e];refine gj hm (M9 T) λ_ m=>?_;exact au
def Fw:C1 prog 214 oq sB sI:=by
 refine u1 2 func214 λT H a0 r m e=>?_;rw[oq] at m;simp[e];refine QY 999 999 (λf h=>h=H/\f.1 2=sB (fp (sS a0 4) (Mu a0 7) false)) ?_ (λ_ g=>?_)
 ·rintro _ _ E;have e:=Aj e E;exact au
 rcases Pb (sS a0 4) e with e|e
 ·exact aj
 exact aj
def HD(T:fx):∀(n:Nat),(∀{S:Type} {st:S->dM} {k:Nat} {a0:Fm} {a1:Int} {a2:(S->Tm->Int->Option (Tm×S))} {u:S} {D:Fm} {r:S} {g2:Nat} {i:List AV} (hF:KV st k) (v:Mt T g2 i st a2) (hm:dR n a0 a1 a2 u=some (D,r)),fg prog T 155 [Fm.av a0,sI a1,AV.func (.func g2) [] i] (st u) (Fm.av D) (st r)):=by
  intro n
  induction n with
  |zero=>
    skip
    all_goals(intro _ _;intros;rename_i hm;cases hm)
  |succ n I=>
 intro S st k a0 a1 a2 u D r g2 i hF v hm;rw[dR] at hm;have e:=hF.len;refine wi aft func155 [] [] 999 ?_;simp[e];refine fQ hm BB λy m=>?_;simp[e];refine F7 e m 0 (λH w f h=>∃b,(h=st w.2/\f.1 1=sI a1/\f.1 2=AV.func (.func g2) [] i/\f.1 19=sL Tm.av a0.dy/\f.1 20=sI (dT a0.dy)/\f.1 21=sI H/\bx f 3 (Fm.av a0).cells/\bx f 6 [sI 0,sI 0,nL,nL,nL]/\bx f 7 [sI a0.afo,sI y.afo,sL Ty.av y.afp,sT b Tm.av w.1,nL])/\Ow f [32] b w.1) (by exact⟨.full,aav,kG.full⟩) (λH _ w A _ _ _ _ E e m z p=>?_) (λw A _ _ E m=>?_)
 ·have⟨v11,v12⟩:=w;have⟨b,E,o⟩:=E;have e:=Aj e E;dsimp only[mW]at m;apply wg 999;have⟨F,J,e,m⟩:=Bo2 e m;simp[e];refine vx.YA abG (Mt.at0 v e.2) aae ?_;have⟨e,m⟩:=Ck e m;simp[e];refine Ad (f:=Tm.av) v11 [F] o JY e.2 ?_;simp[e];cases m;exact p _ _ _ ⟨(.loc 32 (A.gN 32+1)),aav,(On 32)⟩ z
 have⟨v11,v12⟩:=w;have⟨b,E,o⟩:=E;have e:=Aj e E;apply wg 5;dsimp only[cR,mW]at m;simp[e];refine Wj m 999 999 (λB f h=>∃s c,(h=st v12/\f.1 1=sI s/\f.1 2=AV.func (.func g2) [] i/\bx f 3 (Fm.av a0).cells/\bx f 6 [sI 0,sI 0,nL,nL,nL]/\bx f 7 [sI a0.afo,sI y.afo,sL Ty.av y.afp,sT c Tm.av v11,nL])/\Ow f [32] c v11/\B s=some (D,r)) (λB _ g m=>?_) ?_
 ·simp[e];refine gj m Fw λ_ m=>?_;apply Ir e m<;>intro e m
  ·simp[e];exact g _ _ ⟨a1,b,aav,o,m⟩
  simp[e];exact g _ _ ⟨(ep .i64 a1 1),b,aav,o,m⟩
 rintro _ _ ⟨s,c,E,x,m⟩;have e:=Aj e E;simp[e];refine Wr e m 999 (λC j f h=>∃a d,(h=st j.2/\f.1 1=sI s/\f.1 2=AV.func (.func g2) [] i/\f.1 41=sL Fm.av a0.afp/\f.1 42=sI (dT a0.afp)/\f.1 43=sI C/\bx f 6 [sI 0,sI 0,nL,nL,nL]/\bx f 7 [sI a0.afo,sI y.afo,sL Ty.av y.afp,sT a Tm.av v11,sT d Fm.av j.1])/\Ow f [32] a v11/\Ow f [54] d j.1) (by exact⟨c,.full,aav,x,kG.full⟩) (λj t _ _ E m=>?_) (λC _ j t _ _ _ _ E e m z p=>?_)
 ·have⟨v30,v31⟩:=j;have⟨a,d,E,q,l⟩:=E;have e:=Aj e E;dsimp only[cR,mW]at m;exact au
 have⟨v30,v31⟩:=j;have⟨a,d,E,q,l⟩:=E;have e:=Aj e E;dsimp only[mW]at m;simp[e];refine sa m (I hF v) λG _ m=>?_;have⟨e,m⟩:=Ck e m;simp[e];refine Ad (f:=Fm.av) v30 [G] l E5 e.2 ?_;simp[e];cases m;exact p _ _ _ ⟨a,(.loc 54 (t.gN 54+1)),aav,(kG.other q l Zk Zk),(On 54)⟩ z
def ud(T:fx){S:Type}{st:S->dM}{k:Nat}{a0:Fm}{a1:Int}{a2:(S->Tm->Int->Option (Tm×S))}{b:S}{e:Fm}{c:S}{g2:Nat}{a:List AV}(hF:KV st k)(d:Mt T g2 a st a2){n:Nat}(hm:dR n a0 a1 a2 b=some (e,c)):fg prog T 155 [Fm.av a0,sI a1,AV.func (.func g2) [] a] (st b) (Fm.av e) (st c):=(HD T n) hF d hm
def w4(T:fx){H:dM}{a0:Fm}{a1 a2:Int}{a:Fm}(hm:ee a0 a1 a2=some a):fg prog T 206 [Fm.av a0,sI a1,sI a2] H (Fm.av a) H:=by
 rw[ee] at hm;refine gG.Dq (Post:=λx K=>x=Fm.av a/\∃X,K=H++X) ?_ (λ_ _ h=>⟨_,h.2.choose_spec,by rw[h.1];simp[AV.low,AV.nk],h.1,rfl⟩);have e:=trivial;refine wi aft func206 [4,5] [] 999 ?_;simp[e];refine mM hm (ud T (st:=λ_:Unit=>H++[[sI a1],[sI a2]]) (KV.const _) (λX _ _ _ _ _ h=>by obtain⟨b,rfl⟩:=ES h;exact IM T (q0:=(List.length H)) (q1:=(List.length H+1)) aav aav b)) λ_ _ m=>?_;exact au
def KE:C2 prog 190 j0 (t2 Fm.av sB) cS.av sI:=by
 refine v2 func190 λT H a0 a1 r m e=>?_;rw[j0] at m;refine Il e m λe m=>?_;have⟨a,e,m⟩:=g_ e m;simp[e];refine gj m (w4 T) λ_ m=>?_;exact au
def IF(T:fx){H:dM}{a0:List Fm}{a1:Pf}{a2:cS}{b:cT}{c:Int}{d:Nat}(a:KC H d a0)(hm:q9 a0 a1 a2=some (b,c)):fg prog T 139 [AV.gS d 0,Pf.av a1,cS.av a2] H (AV.tuple [cT.av b,sI c]) H:=by
 rw[q9] at hm;have e:=a;refine wi aft func139 [] [] 999 ?_;simp[e];refine mM hm KE λ_ _ m=>?_;refine Il e m λe m=>?_;exact au
def HT(T:fx){H:dM}{a0:List Fm}{a1:Pf}{a2:cS}{b:cT}{c:Int}{d:Nat}(a:KC H d a0)(hm:pD a0 a1 a2=some (b,c)):fg prog T 140 [AV.gS d 0,Pf.av a1,cS.av a2] H (AV.tuple [cT.av b,sI c]) H:=by
 rw[pD] at hm;have e:=a;refine wi aft func140 [] [(1,true,[]),(3,true,[])] 999 ?_;refine Il e hm λe m=>?_;have⟨f,e,m⟩:=g_ e m;exact au
def Ny:C2 prog 191 JQ Fm.av sI (sL Fm.av):=by
 refine v2 func191 λT H a0 a1 r m e=>?_;rw[JQ] at m;exact au
def uD:C3 prog 193 dh sI eU.av sI sI:=by
 refine u3 3 func193 λT H a0 a1 a2 r m e=>?_;rw[dh] at m;simp[e];refine QY 999 999 (λf h=>h=H/\f.1 18=sB (fp (pc (ep .i64 a0.vars a1) 16) true (pc (ep .i64 a0.afv a2) 16))) ?_ (λ_ g=>?_)
 ·rintro _ _ E;have e:=Aj e E;refine Il e m λe m=>?_;exact au
 rcases Pb (pc (ep .i64 a0.vars a1) 16) e with e|e
 ·exact aj
 exact aj
def F2(T:fx)(a:w5 T){H:dM}{a0:Tm}{b:Int}(hm:r8 a0=some b):fg prog T 266 [Tm.av a0] H (sI b) H:=by
 rw[r8] at hm;have e:=a;refine wi aft func266 [] [] 999 ?_;simp[e];refine mM hm (BY T a) λ_ _ m=>?_;exact au
def HZ{n:Nat}:C2 prog 292 (ia n) sB Tm.av Tm.av:=by
 refine i2 λn c=>u2 3 func292 λT H a0 a1 r m e=>?_;rw[ia] at m;simp[e];refine Wj m 999 999 (λa f h=>∃v2,(h=H/\f.1 35=sB v2/\bx f 2 (Tm.av a0).cells/\bx f 3 (Tm.av a1).cells)/\a v2=some r) (λa _ g m=>?_) ?_
 ·apply Iq e m<;>intro e m
  ·exact nP
  apply Iq e m<;>intro e m
  ·exact nP
  simp[e];refine gj m xq λ_ m=>?_;apply Ir e m<;>intro e m
  ·exact nP
  exact nP
 rintro _ _ ⟨v2,E,m⟩;have e:=Aj e E;refine Il e m λe m=>?_;simp[e];refine Wr e m 999 (λb _ f h=>h=H/\f.1 37=sL Tm.av a0.afp/\f.1 38=sI (dT a0.afp)/\f.1 39=sI b/\bx f 3 (Tm.av a1).cells) aav (λ_ _ _ _ E m=>?_) (λb _ _ _ _ _ _ _ E e m z p=>?_)
 ·have e:=Aj e E;dsimp only[cR]at m;exact au
 have e:=Aj e E;have⟨d,e,m⟩:=g_ e m;simp[e];refine fQ m c λ_ m=>?_;refine Im e m λe m=>?_;exact al
def La:C2 prog 267 qW sB Tm.av Tm.av:=by
 refine v2 func267 λT H a0 a1 r m e=>?_;rw[qW] at m;simp[e];refine gj m HZ λ_ m=>?_;exact au
def Qw(T:fx){H:dM}{a0 a1:Int}{a b:Bool}{q0:Nat}(c:H[q0]?=some [sB a])(hm:qK a0 a1 a=some b):fg prog T 298 [sI a0,sI a1,AV.gS q0 0] H (AV.tuple []) (iE H q0 [sB b]):=by
 rw[qK] at hm;have d:=ie c;refine gG.Qi c ?_;have e:=d;refine wi aft func298 [] [] 999 ?_;refine Il e hm λe m=>?_;exact au
def OY(T:fx):∀(n:Nat),(∀{S:Type} {st:S->dM} {k:Nat} {a0:Tm} {a1:Int} {i:(S->Int->Int->Option (S))} {j:S} {b:S} {q0:Nat} {q1:Nat} {l:Nat} {o:List AV} (hF:KV st k) (c:∀s,(st s)[q0]?=some [AV.func (.func l) [] o]) (a:B7 T l o st i) (d:∀s,(st s)[q1]?=some [AV.func (.func 274) [] [AV.gS q0 0,AV.gS q1 0]]) (hm:h_ n a0 a1 i j=some b),fg prog T 274 [Tm.av a0,sI a1,AV.gS q0 0,AV.gS q1 0] (st j) (AV.tuple []) (st b)):=by
  intro n
  induction n with
  |zero=>
    skip
    all_goals(intro _ _;intros;rename_i hm;cases hm)
  |succ n w=>
 intro S st k a0 a1 i j b q0 q1 l o hF c a d hm;rw[h_] at hm;have t:=λs=>ie (c s);have u:=λs=>ie (d s);have e:=Aj (Aj (Aj (Aj hF.len t) c) u) d;refine wi aft func274 [] [] 2 ?_;simp[e];refine Wj hm 999 0 (λv f h=>∃v2,(h=st v2/\f.1 1=sI a1/\f.1 3=AV.gS q1 0/\f.1 4=AV.mD 4 (f.gen 4) 0/\f.box 4=some (Tm.av a0).cells)/\v v2=some b) (λv _ g m=>?_) ?_
 ·apply Ir e m<;>intro e m
  ·exact nP
  have⟨y,e,m⟩:=g_ e m;simp[e];refine sM.YA abG (B7.at0 a e.2) ?_;exact nP
 rintro _ _ ⟨v2,E,m⟩;have e:=Aj e E;refine wj 999 999 (λf h=>h=st v2/\f.1 1=sI (fp (dC a0.afo 2) (ep .i64 a1 1) a1)/\f.1 3=AV.gS q1 0/\f.1 4=AV.mD 4 (f.gen 4) 0/\f.box 4=some (Tm.av a0).cells) (λ_ g=>?_) ?_
 ·rcases Pb (dC a0.afo 2) e with e|e
  ·exact aj
  exact aj
 rintro _ _ E;have e:=Aj e E;simp[e];refine Wr e m 999 (λr q f h=>h=st q/\f.1 1=sI (fp (dC a0.afo 2) (ep .i64 a1 1) a1)/\f.1 3=AV.gS q1 0/\f.1 22=sL Tm.av a0.afp/\f.1 23=sI (dT a0.afp)/\f.1 24=sI r) aav (λq _ _ _ E m=>?_) (λr _ q _ _ _ _ _ E e m z p=>?_)
 ·have e:=Aj e E;dsimp only[cR]at m;exact au
 have e:=Aj e E;have⟨x,e,m⟩:=g_ e m;simp[e];refine sM.YA abG (w hF c a d e.2) ?_;exact al
def Qy(T:fx){S:Type}{st:S->dM}{k:Nat}{a0:Tm}{a1:Int}{a:(S->Int->Int->Option (S))}{b c:S}{q0 q1 d:Nat}{e:List AV}(hF:KV st k)(g:∀s,(st s)[q0]?=some [AV.func (.func d) [] e])(f:B7 T d e st a)(h:∀s,(st s)[q1]?=some [AV.func (.func 274) [] [AV.gS q0 0,AV.gS q1 0]]){n:Nat}(hm:h_ n a0 a1 a b=some c):fg prog T 274 [Tm.av a0,sI a1,AV.gS q0 0,AV.gS q1 0] (st b) (AV.tuple []) (st c):=(OY T n) hF g f h hm
def Iu(T:fx){S:Type}{st:S->dM}{k:Nat}{a0:Tm}{a1:(S->Int->Int->Option (S))}{c b:S}{g1:Nat}{a:List AV}(hF:KV st k)(d:B7 T g1 a st a1)(hm:si a0 a1 c=some b):fg prog T 243 [Tm.av a0,AV.func (.func g1) [] a] (st c) (AV.tuple []) (st b):=by
 rw[si] at hm;refine gG.Zo hF (Post:=λx K=>x=AV.tuple []/\∃X,K=(st b)++X) ?_ (λ_ _ h=>⟨_,h.2.choose,h.2.choose_spec,by rw[h.1];simp[AV.low,AV.nk],h.1,rfl⟩);have e:=hF.len;refine wi aft func243 [3,4] [] 999 ?_;have⟨s1,e,m⟩:=g_ e hm;simp[e];refine sM.YA abG (Qy T (st:=λs=>st s++[[AV.func (.func g1) [] a],[AV.func (.func 274) [] [AV.gS k 0,AV.gS (k+1) 0]]]) (KV.ext hF _ (n:=k+2) aae) (λ_=>aav) (B7.ext d) (λ_=>aav) e.2) ?_;exact au
def Te(T:fx){H:dM}{a0:Tm}{a:Bool}(hm:y_ a0=some a):fg prog T 280 [Tm.av a0] H (sB a) H:=by
 rw[y_] at hm;refine gG.Dq (Post:=λx K=>x=sB a/\∃X,K=H++X) ?_ (λ_ _ h=>⟨_,h.2.choose_spec,by rw[h.1];simp[AV.low,AV.nk],h.1,rfl⟩);have e:=trivial;refine wi aft func280 [3] [] 999 ?_;simp[e];refine gj hm (Iu T (st:=λs:Bool=>H++[[sB s]]) (KV.WU H (λs:Bool=>[[sB s]]) 1 (λ_=>rfl) (by simp[AV.low,AV.nk])) (λX s _ _ b h=>by have:=Qw T (H:=H++[[sB s]]++X) (q0:=(List.length H)) aav h;simpa using this)) λ_ m=>?_;exact au
def zH(T:fx){H:dM}{a0 a1:Int}{a2:Ty}{a3:(List (Option Nat))}{nh:List HC}{D:Option Nat}{q:List HC}(hm:lU a0 a1 a2 a3 nh=some (D,q)):fg prog T 299 [sI a0,sI a1,Ty.av a2,sL (tR (List.length H)) a3] (H++l9 (List.length H) nh) (tR (List.length H) D) (H++l9 (List.length H) q):=by
 rw[lU] at hm;have e:=trivial;refine wi aft func299 [17] [(5,false,[true,true,true,false,true,true,true,false,true,true,true,false]),(6,false,[true,true,true,true,false,true,true,true,false,true,true,true,false])] 999 ?_;have F:l9 (List.length H) nh++[[sI a0,sI a1,sI a2.afo,sL Ty.av a2.afp,sL (tR (List.length H)) a3,sI 1,sI 0,sB false]]=l9 (List.length H) (nh++[HC.dZ (dW.mk a0 a1 a2 a3 1 0 false)]):=Rm rfl;have e:=Aj e F;have G:(nh++[HC.dZ (dW.mk a0 a1 a2 a3 1 0 false)])[(List.length nh)]?=some (HC.dZ (dW.mk a0 a1 a2 a3 1 0 false)):=Vb;have e:=Aj e G;simp[e];refine F7 e hm 0 (λI i f h=>h=H++l9 (List.length H) i/\f.1 0=sI a0/\f.1 1=sI a1/\f.1 9=AV.gS (List.length H+(List.length nh)) 0/\f.1 18=sL (tR (List.length H)) a3/\f.1 19=sI (dT a3)/\f.1 20=sI I) aav (λI _ i _ _ _ _ _ E e m z p=>?_) (λi _ _ _ E m=>?_)
 ·have e:=Aj e E;have J:=e;apply wg 999;have⟨a,e,m⟩:=g_ e m;have k:=HC.dw e.2;have e:=Aj e.1 k;have⟨K,e,m⟩:=g_ e m;have⟨d,e,m⟩:=g_ e m;have s:=HC.dw e.2;have e:=Aj e.1 s;have t:iE (l9 (List.length H) i) (List.length nh) [sI a.afo,sI a.afr,sI a.ta.afo,sL Ty.av a.ta.afp,sL (tR (List.length H)) a.afp,sI (ep .i64 a.size d.size),sI a.free,sB a.normal]=l9 (List.length H) (kY i (List.length nh) (HC.dZ (dW.mk a.afo a.afr a.ta a.afp (ep .i64 a.size d.size) a.free a.normal))):=yF rfl;have e:=Aj e t;have l:(kY i (List.length nh) (HC.dZ (dW.mk a.afo a.afr a.ta a.afp (ep .i64 a.size d.size) a.free a.normal)))[(List.length nh)]?=some (HC.dZ (dW.mk a.afo a.afr a.ta a.afp (ep .i64 a.size d.size) a.free a.normal)):=Ft k;have e:=Aj e l;have⟨j,e,m⟩:=g_ e m;have u:=HC.dw e.2;have e:=Aj e.1 u;have v:iE (l9 (List.length H) (kY i (List.length nh) (HC.dZ (dW.mk a.afo a.afr a.ta a.afp (ep .i64 a.size d.size) a.free a.normal)))) (List.length nh) [sI a.afo,sI a.afr,sI a.ta.afo,sL Ty.av a.ta.afp,sL (tR (List.length H)) a.afp,sI (ep .i64 a.size d.size),sI (imax a.free j.free),sB a.normal]=l9 (List.length H) (kY (kY i (List.length nh) (HC.dZ (dW.mk a.afo a.afr a.ta a.afp (ep .i64 a.size d.size) a.free a.normal))) (List.length nh) (HC.dZ (dW.mk a.afo a.afr a.ta a.afp (ep .i64 a.size d.size) (imax a.free j.free) a.normal))):=yF rfl;have e:=Aj e v;have w:(kY (kY i (List.length nh) (HC.dZ (dW.mk a.afo a.afr a.ta a.afp (ep .i64 a.size d.size) a.free a.normal))) (List.length nh) (HC.dZ (dW.mk a.afo a.afr a.ta a.afp (ep .i64 a.size d.size) (imax a.free j.free) a.normal)))[(List.length nh)]?=some (HC.dZ (dW.mk a.afo a.afr a.ta a.afp (ep .i64 a.size d.size) (imax a.free j.free) a.normal)):=Ft l;have e:=Aj e w;exact al
 have e:=Aj e E;apply wg 5;dsimp only[cR]at m;simp[e];refine Gc m 999 999 (λx f h=>∃r,(h=H++l9 (List.length H) r/\f.1 9=AV.gS (List.length H+(List.length nh)) 0)/\x r=some (D,q)) ?_ (λx _ g m=>?_)
 ·rintro _ _ ⟨r,E,m⟩;have e:=Aj e E;exact au
 apply Iq e m<;>intro e m
 ·have⟨c,e,m⟩:=g_ e m;have n:=HC.dw e.2;have e:=Aj e.1 n;have y:iE (l9 (List.length H) i) (List.length nh) [sI c.afo,sI c.afr,sI c.ta.afo,sL Ty.av c.ta.afp,sL (tR (List.length H)) c.afp,sI c.size,sI (ep .i64 a1 1),sB c.normal]=l9 (List.length H) (kY i (List.length nh) (HC.dZ (dW.mk c.afo c.afr c.ta c.afp c.size (ep .i64 a1 1) c.normal))):=yF rfl;have e:=Aj e y;have A:(kY i (List.length nh) (HC.dZ (dW.mk c.afo c.afr c.ta c.afp c.size (ep .i64 a1 1) c.normal)))[(List.length nh)]?=some (HC.dZ (dW.mk c.afo c.afr c.ta c.afp c.size (ep .i64 a1 1) c.normal)):=Ft n;have e:=Aj e A;exact nP
 apply Ir e m<;>intro e m
 ·exact nP
 have⟨b,e,m⟩:=g_ e m;have o:=HC.dw e.2;have e:=Aj e.1 o;have B:iE (l9 (List.length H) i) (List.length nh) [sI b.afo,sI b.afr,sI b.ta.afo,sL Ty.av b.ta.afp,sL (tR (List.length H)) b.afp,sI b.size,sI (imax 0 (eH .i64 b.free 1)),sB b.normal]=l9 (List.length H) (kY i (List.length nh) (HC.dZ (dW.mk b.afo b.afr b.ta b.afp b.size (imax 0 (eH .i64 b.free 1)) b.normal))):=yF rfl;have e:=Aj e B;have C:(kY i (List.length nh) (HC.dZ (dW.mk b.afo b.afr b.ta b.afp b.size (imax 0 (eH .i64 b.free 1)) b.normal)))[(List.length nh)]?=some (HC.dZ (dW.mk b.afo b.afr b.ta b.afp b.size (imax 0 (eH .i64 b.free 1)) b.normal)):=Ft o;have e:=Aj e C;exact nP
def QD(T:fx):∀(n:Nat),(∀{H:dM} {a0:Tm} {nh:List HC} {i:Option Nat} {c:List HC} (hm:qm n a0 nh=some (i,c)),fg prog T 281 [Tm.av a0] (H++l9 (List.length H) nh) (tR (List.length H) i) (H++l9 (List.length H) c)):=by
  intro n
  induction n with
  |zero=>
   skip
   all_goals(intro _ _;intros;rename_i hm;cases hm)
  |succ n r=>
 intro H a0 nh i c hm;rw[qm] at hm;have e:=trivial;refine wi aft func281 [] [] 999 ?_;simp[e];refine Wr e hm 999 (λk s2 f h=>∃a,(h=H++l9 (List.length H) s2.2/\f.1 3=sT a (tR (List.length H)) s2.1/\f.1 7=sL Tm.av a0.afp/\f.1 8=sI (dT a0.afp)/\f.1 9=sI k/\bx f 1 (Tm.av a0).cells)/\Ow f [17] a s2.1) (by exact⟨.full,aav,kG.full⟩) (λs2 d _ _ E m=>?_) (λk _ s2 d _ _ _ _ E e m z p=>?_)
 ·have⟨v10,v11⟩:=s2;have⟨a,E,b⟩:=E;have e:=Aj e E;dsimp only[cR,mW]at m;simp[e];refine mM m (zH T (H:=H)) λ_ l m=>?_;exact au
 have⟨v10,v11⟩:=s2;have⟨a,E,b⟩:=E;have e:=Aj e E;have o:=e;dsimp only[mW]at m;simp[e];refine mM m (r (H:=H)) λj q m=>?_;have⟨e,m⟩:=Ck e m;simp[e];refine Ao (f:=(tR (List.length H))) v10 [j] b U3 e.2 ?_;simp[e];cases m;exact p _ _ _ ⟨(.loc 17 (d.gN 17+1)),aav,(On 17)⟩ z
def RO(T:fx){H:dM}{a0:Tm}{nh:List HC}{b:Option Nat}{a:List HC}{n:Nat}(hm:qm n a0 nh=some (b,a)):fg prog T 281 [Tm.av a0] (H++l9 (List.length H) nh) (tR (List.length H) b) (H++l9 (List.length H) a):=(QD T n) hm
def Mf(T:fx){H:dM}{a0:Option Nat}{nh:List HC}{b:Int}(hm:ur a0 nh=some b):fg prog T 301 [tR (List.length H) a0] (H++l9 (List.length H) nh) (sI b) (H++l9 (List.length H) nh):=by
 rw[ur] at hm;have e:=trivial;refine wi aft func301 [] [] 999 ?_;have⟨c,e,m⟩:=g_ e hm;have⟨d,e,m⟩:=g_ e m;have a:=HC.dw e.2;have e:=Aj e.1 a;exact au
def EK(T:fx){H:dM}{a0:Option Nat}{nh:List HC}{j:Bool}(hm:m9 a0 nh=some j):fg prog T 302 [tR (List.length H) a0] (H++l9 (List.length H) nh) (sB j) (H++l9 (List.length H) nh):=by
 rw[m9] at hm;have e:=trivial;refine wi aft func302 [] [] 8 ?_;have⟨A,e,m⟩:=g_ e hm;have⟨k,e,m⟩:=g_ e m;have l:=HC.dw e.2;have e:=Aj e.1 l;simp[e];apply Iq e m<;>intro e m
 ·apply wg 999;have⟨B,e,m⟩:=g_ e m;have⟨C,e,m⟩:=g_ e m;have⟨D,e,m⟩:=g_ e m;have n:=HC.dw e.2;have e:=Aj e.1 n;exact au
 apply wg 3;simp[e];apply Iq e m<;>intro e m
 ·apply wg 1;simp[e];refine Gc m 999 999 (λo f h=>∃v9,(h=H++l9 (List.length H) nh/\f.1 2=sB v9)/\o v9=some j) ?_ (λo _ g m=>?_)
  ·rintro _ _ ⟨v9,E,m⟩;have e:=Aj e E;exact au
  have⟨q,e,m⟩:=g_ e m;have⟨r,e,m⟩:=g_ e m;have⟨s,e,m⟩:=g_ e m;have b:=HC.dw e.2;have e:=Aj e.1 b;apply Iq e m<;>intro e m
  ·exact nP
  exact nP
 apply wg 4;apply Iq e m<;>intro e m
 ·simp[e];refine Gc m 999 999 (λc f h=>∃a,(h=H++l9 (List.length H) nh/\f.1 2=sB a)/\c a=some j) ?_ (λc _ g m=>?_)
  ·rintro _ _ ⟨a,E,m⟩;have e:=Aj e E;exact au
  have⟨t,e,m⟩:=g_ e m;have⟨u,e,m⟩:=g_ e m;have⟨v,e,m⟩:=g_ e m;have d:=HC.dw e.2;have e:=Aj e.1 d;apply Iq e m<;>intro e m
  ·exact nP
  exact nP
 simp[e];refine wj 999 999 (λf h=>h=H++l9 (List.length H) nh/\f.1 0=tR (List.length H) a0/\f.1 67=sB (fp (dC k.afo 11) true (dC k.afo 12))) (λ_ g=>?_) ?_
 ·rcases Pb (dC k.afo 11) e with e|e
  ·exact aj
  exact aj
 rintro _ _ E;have e:=Aj e E;refine Im e m λe m=>?_;have⟨w,e,m⟩:=g_ e m;have⟨x,e,m⟩:=g_ e m;have⟨y,e,m⟩:=g_ e m;have i:=HC.dw e.2;have e:=Aj e.1 i;exact au
def Ak(T:fx){H:dM}{a0:Option Nat}{nh:List HC}{b:Int}(hm:il a0 nh=some b):fg prog T 317 [tR (List.length H) a0] (H++l9 (List.length H) nh) (sI b) (H++l9 (List.length H) nh):=by
 rw[il] at hm;have e:=trivial;refine wi aft func317 [] [] 999 ?_;have⟨c,e,m⟩:=g_ e hm;have⟨d,e,m⟩:=g_ e m;have a:=HC.dw e.2;have e:=Aj e.1 a;refine Il e m λe m=>?_;exact au
def JZ(T:fx):∀(n:Nat),(∀{H:dM} {a0:Option Nat} {a1:Int} {nh:List HC} {a:Int} (hm:kB n a0 a1 nh=some a),fg prog T 311 [tR (List.length H) a0,sI a1] (H++l9 (List.length H) nh) (sI a) (H++l9 (List.length H) nh)):=by
  intro n
  induction n with
  |zero=>
   skip
   all_goals(intro _ _;intros;rename_i hm;cases hm)
  |succ n k=>
 intro H a0 a1 nh a hm;rw[kB] at hm;have e:=trivial;refine wi aft func311 [] [] 999 ?_;have⟨l,e,m⟩:=g_ e hm;have⟨d,e,m⟩:=g_ e m;have b:=HC.dw e.2;have e:=Aj e.1 b;refine Il e m λe m=>?_;apply Iq e m<;>intro e m
 ·refine Il e m λe m=>?_;exact au
 simp[e];refine Wr e m 999 (λi c f h=>h=H++l9 (List.length H) nh/\f.1 0=tR (List.length H) a0/\f.1 1=sI a1/\f.1 5=sI c/\f.1 28=sL (tR (List.length H)) d.afp/\f.1 29=sI (dT d.afp)/\f.1 30=sI i) aav (λc _ _ _ E m=>?_) (λi _ c _ _ _ _ _ E e m z p=>?_)
 ·have e:=Aj e E;dsimp only[cR]at m;exact au
 have e:=Aj e E;have j:=e;simp[e];refine gj m (Ak T (H:=H)) λ_ m=>?_;simp[e];refine gj m (k (H:=H)) λ_ m=>?_;exact al
def KK(T:fx){H:dM}{a0:Option Nat}{a1:Int}{nh:List HC}{a:Int}{n:Nat}(hm:kB n a0 a1 nh=some a):fg prog T 311 [tR (List.length H) a0,sI a1] (H++l9 (List.length H) nh) (sI a) (H++l9 (List.length H) nh):=(JZ T n) hm
def xM(T:fx){H:dM}{a0:Option Nat}{a1:(List (Option Nat))}{nh:List HC}{c:Option Nat}{a:List HC}(hm:fH a0 a1 nh=some (c,a)):fg prog T 309 [tR (List.length H) a0,sL (tR (List.length H)) a1] (H++l9 (List.length H) nh) (tR (List.length H) c) (H++l9 (List.length H) a):=by
 rw[fH] at hm;have e:=trivial;refine wi aft func309 [] [(1,false,[true,true,true,false,true,true,true,false,true,true,true,false,true,true,true])] 999 ?_;have⟨f,e,m⟩:=g_ e hm;have⟨h,e,m⟩:=g_ e m;have b:=HC.dw e.2;have e:=Aj e.1 b;simp[e];refine sa m (zH T (H:=H)) λ_ d m=>?_;exact au
def Kw(T:fx):∀(n:Nat),(∀{H:dM} {a0:Option Nat} {a1:Int} {a2:Int} {nh:List HC} {q:Option Nat} {d:List HC} (hm:j7 n a0 a1 a2 nh=some (q,d)),fg prog T 318 [tR (List.length H) a0,sI a1,sI a2] (H++l9 (List.length H) nh) (tR (List.length H) q) (H++l9 (List.length H) d)):=by
  intro n
  induction n with
  |zero=>
    skip
    all_goals(intro _ _;intros;rename_i hm;cases hm)
  |succ n y=>
 intro H a0 a1 a2 nh q d hm;rw[j7] at hm;have e:=trivial;refine wi aft func318 [] [(4,false,[true,true,true,false,true,true,true,false,true,true,true,true,true,false,true,true])] 3 ?_;simp[e];refine Wj hm 999 999 (λt f h=>∃v2,(h=H++l9 (List.length H) nh/\f.1 0=tR (List.length H) a0/\f.1 1=sI a1/\f.1 2=sI a2/\f.1 19=sB v2)/\t v2=some (q,d)) (λt _ g m=>?_) ?_
 ·have⟨A,e,m⟩:=g_ e m;have⟨B,e,m⟩:=g_ e m;have r:=HC.dw e.2;have e:=Aj e.1 r;apply Iq e m<;>intro e m
  ·exact nP
  exact nP
 rintro _ _ ⟨v2,E,m⟩;have e:=Aj e E;refine Il e m λe m=>?_;have⟨C,e,m⟩:=g_ e m;have⟨j,e,m⟩:=g_ e m;have k:=HC.dw e.2;have e:=Aj e.1 k;apply Iq e m<;>intro e m
 ·simp[e];refine sa m (zH T (H:=H)) λ_ u m=>?_;exact au
 simp[e];refine Wr e m 999 (λl b f h=>∃a,(h=H++l9 (List.length H) b.2/\f.1 0=tR (List.length H) a0/\f.1 1=sI a1/\f.1 2=sI a2/\f.1 7=sT a (tR (List.length H)) b.1/\f.1 44=sL (tR (List.length H)) j.afp/\f.1 45=sI (dT j.afp)/\f.1 46=sI l)/\Ow f [59] a b.1) (by exact⟨.full,aav,kG.full⟩) (λb i _ _ E m=>?_) (λl _ b i _ _ _ _ E e m z p=>?_)
 ·have⟨o,v24⟩:=b;have⟨a,E,c⟩:=E;have e:=Aj e E;dsimp only[cR,mW]at m;simp[e];refine mM m (xM T (H:=H)) λ_ v m=>?_;exact au
 have⟨o,v24⟩:=b;have⟨a,E,c⟩:=E;have e:=Aj e E;have w:=e;dsimp only[mW]at m;simp[e];refine gj m (Ak T (H:=H)) λ_ m=>?_;simp[e];refine mM m (y (H:=H)) λs x m=>?_;have⟨e,m⟩:=Ck e m;simp[e];refine Ao (f:=(tR (List.length H))) o [s] c U3 e.2 ?_;simp[e];cases m;exact p _ _ _ ⟨(.loc 59 (i.gN 59+1)),aav,(On 59)⟩ z
def L7(T:fx){H:dM}{a0:Option Nat}{a1 a2:Int}{nh:List HC}{b:Option Nat}{a:List HC}{n:Nat}(hm:j7 n a0 a1 a2 nh=some (b,a)):fg prog T 318 [tR (List.length H) a0,sI a1,sI a2] (H++l9 (List.length H) nh) (tR (List.length H) b) (H++l9 (List.length H) a):=(Kw T n) hm
def LX(T:fx):∀(n:Nat),(∀{H:dM} {a0:Option Nat} {a1:Int} {a2:Option Nat} {nh:List HC} {k:Option Nat} {d:List HC} (hm:kM n a0 a1 a2 nh=some (k,d)),fg prog T 312 [tR (List.length H) a0,sI a1,tR (List.length H) a2] (H++l9 (List.length H) nh) (tR (List.length H) k) (H++l9 (List.length H) d)):=by
  intro n
  induction n with
  |zero=>
    skip
    all_goals(intro _ _;intros;rename_i hm;cases hm)
  |succ n w=>
 intro H a0 a1 a2 nh k d hm;rw[kM] at hm;have e:=trivial;refine wi aft func312 [] [(6,false,[true,true,true,false,true,true,true,false,true,true,true,true,false,true,true])] 999 ?_;have⟨A,e,m⟩:=g_ e hm;have⟨r,e,m⟩:=g_ e m;have l:=HC.dw e.2;have e:=Aj e.1 l;refine Il e m λe m=>?_;apply Iq e m<;>intro e m
 ·apply Ir e m<;>intro e m
  ·simp[e];refine sa m (zH T (H:=H)) λ_ x m=>?_;exact au
  simp[e];refine mM m (L7 T (H:=H)) λ_ y m=>?_;exact au
 simp[e];refine Wr e m 999 (λs i f h=>∃a,(h=H++l9 (List.length H) i.2/\f.1 0=tR (List.length H) a0/\f.1 1=sI a1/\f.1 2=tR (List.length H) a2/\f.1 7=sT a (tR (List.length H)) i.1/\f.1 48=sL (tR (List.length H)) r.afp/\f.1 49=sI (dT r.afp)/\f.1 50=sI s)/\Ow f [63] a i.1) (by exact⟨.full,aav,kG.full⟩) (λi c _ _ E m=>?_) (λs _ i c _ _ _ _ E e m z p=>?_)
 ·have⟨j,o⟩:=i;have⟨a,E,b⟩:=E;have e:=Aj e E;dsimp only[cR,mW]at m;simp[e];refine mM m (xM T (H:=H)) λ_ t m=>?_;exact au
 have⟨j,o⟩:=i;have⟨a,E,b⟩:=E;have e:=Aj e E;have u:=e;dsimp only[mW]at m;simp[e];refine gj m (Ak T (H:=H)) λ_ m=>?_;simp[e];refine mM m (w (H:=H)) λq v m=>?_;have⟨e,m⟩:=Ck e m;simp[e];refine Ao (f:=(tR (List.length H))) j [q] b U3 e.2 ?_;simp[e];cases m;exact p _ _ _ ⟨(.loc 63 (c.gN 63+1)),aav,(On 63)⟩ z
def MJ(T:fx){H:dM}{a0:Option Nat}{a1:Int}{a2:Option Nat}{nh:List HC}{b:Option Nat}{a:List HC}{n:Nat}(hm:kM n a0 a1 a2 nh=some (b,a)):fg prog T 312 [tR (List.length H) a0,sI a1,tR (List.length H) a2] (H++l9 (List.length H) nh) (tR (List.length H) b) (H++l9 (List.length H) a):=(LX T n) hm
def M7(T:fx){H:dM}{a0:Option Nat}{a1:(List (Option Nat))}{nh:List HC}{b:Option Nat}{a:List HC}(hm:uq a0 a1 nh=some (b,a)):fg prog T 313 [tR (List.length H) a0,sL (tR (List.length H)) a1] (H++l9 (List.length H) nh) (tR (List.length H) b) (H++l9 (List.length H) a):=by
 rw[uq] at hm;have e:=trivial;refine wi aft func313 [] [] 999 ?_;simp[e];refine Wr e hm 999 (λc s2 f h=>h=H++l9 (List.length H) s2.2/\f.1 0=tR (List.length H) s2.1/\f.1 7=sL (tR (List.length H)) a1/\f.1 8=sI (dT a1)/\f.1 9=sI c) aav (λs2 _ _ _ E m=>?_) (λc _ s2 _ _ _ _ _ E e m z p=>?_)
 ·have⟨v10,v11⟩:=s2;have e:=Aj e E;dsimp only[cR,mW]at m;exact au
 have⟨v10,v11⟩:=s2;have e:=Aj e E;have d:=e;dsimp only[mW]at m;simp[e];refine mM m (zH T (H:=H)) λ_ i m=>?_;exact al
def BV(T:fx){H:dM}{a0:Option Nat}{nh:List HC}{j:Option Nat}{a:List HC}(hm:j6 a0 nh=some (j,a)):fg prog T 308 [tR (List.length H) a0] (H++l9 (List.length H) nh) (tR (List.length H) j) (H++l9 (List.length H) a):=by
 rw[j6] at hm;have e:=trivial;refine wi aft func308 [] [(3,false,[true,true,true,false,true,true,true,true,false,true,true,true,true,true,false,true,true,true,true]),(8,true,[]),(11,false,[true,true,true,true,true,true,false,true,true,true,false,true,true,true,true,true,true,true])] 999 ?_;have⟨G,e,m⟩:=g_ e hm;have⟨I,e,m⟩:=g_ e m;have h:=HC.dw e.2;have e:=Aj e.1 h;apply Iq e m<;>intro e m
 ·have⟨J,e,m⟩:=g_ e m;have⟨K,e,m⟩:=g_ e m;have⟨L,e,m⟩:=g_ e m;have i:=HC.dw e.2;have e:=Aj e.1 i;have⟨M,e,m⟩:=g_ e m;have⟨N,e,m⟩:=g_ e m;simp[e];refine sa m (MJ T (H:=H)) λ_ k m=>?_;exact au
 apply Iq e m<;>intro e m
 ·have⟨q,e,m⟩:=g_ e m;have⟨r,e,m⟩:=g_ e m;have⟨s,e,m⟩:=g_ e m;have b:=HC.dw e.2;have e:=Aj e.1 b;have⟨t,e,m⟩:=g_ e m;exact au
 apply Iq e m<;>intro e m
 ·have⟨u,e,m⟩:=g_ e m;have⟨v,e,m⟩:=g_ e m;have⟨w,e,m⟩:=g_ e m;have c:=HC.dw e.2;have e:=Aj e.1 c;have⟨x,e,m⟩:=g_ e m;exact au
 have⟨y,e,m⟩:=g_ e m;have⟨A,e,m⟩:=g_ e m;have⟨B,e,m⟩:=g_ e m;have⟨C,e,m⟩:=g_ e m;have⟨D,e,m⟩:=g_ e m;have d:=HC.dw e.2;have e:=Aj e.1 d;refine Il e m λe m=>?_;have⟨E,e,m⟩:=g_ e m;simp[e];refine sa m (xM T (H:=H)) λ_ l m=>?_;have⟨F,e,m⟩:=g_ e m;have f:=HC.dw e.2;have e:=Aj e.1 f;simp[e];refine mM m (M7 T (H:=H)) λ_ n m=>?_;simp[e];refine mM m (M7 T (H:=H)) λ_ o m=>?_;exact au
def KQ(T:fx){H:dM}{a0:Option Nat}{nh:List HC}{v:Int}{a:List HC}(hm:pT a0 nh=some (v,a)):fg prog T 307 [tR (List.length H) a0] (H++l9 (List.length H) nh) (sI v) (H++l9 (List.length H) a):=by
 rw[pT] at hm;have e:=trivial;refine wi aft func307 [] [(4,true,[]),(7,true,[]),(12,true,[])] 999 ?_;have⟨x1,e,m⟩:=g_ e hm;have⟨x2,e,m⟩:=g_ e m;have t:=HC.dw e.2;have e:=Aj e.1 t;apply Iq e m<;>intro e m
 ·have⟨x4,e,m⟩:=g_ e m;have⟨x5,e,m⟩:=g_ e m;have⟨x6,e,m⟩:=g_ e m;have u:=HC.dw e.2;have e:=Aj e.1 u;have⟨x8,e,m⟩:=g_ e m;have⟨x9,e,m⟩:=g_ e m;have⟨x,e,m⟩:=g_ e m;have b:=HC.dw e.2;have e:=Aj e.1 b;simp[e];refine fQ m (KK T (H:=H)) λ_ m=>?_;have⟨y,e,m⟩:=g_ e m;have⟨A,e,m⟩:=g_ e m;have⟨B,e,m⟩:=g_ e m;have c:=HC.dw e.2;have e:=Aj e.1 c;exact au
 apply Iq e m<;>intro e m
 ·have⟨C,e,m⟩:=g_ e m;have⟨D,e,m⟩:=g_ e m;have⟨E,e,m⟩:=g_ e m;have d:=HC.dw e.2;have e:=Aj e.1 d;apply Ir e m<;>intro e m
  ·have⟨F,e,m⟩:=g_ e m;have⟨G,e,m⟩:=g_ e m;have⟨I,e,m⟩:=g_ e m;have f:=HC.dw e.2;have e:=Aj e.1 f;exact au
  have⟨J,e,m⟩:=g_ e m;have⟨K,e,m⟩:=g_ e m;have⟨L,e,m⟩:=g_ e m;have h:=HC.dw e.2;have e:=Aj e.1 h;have⟨M,e,m⟩:=g_ e m;have⟨N,e,m⟩:=g_ e m;have⟨O,e,m⟩:=g_ e m;have i:=HC.dw e.2;have e:=Aj e.1 i;have⟨P,e,m⟩:=g_ e m;have⟨Q,e,m⟩:=g_ e m;have⟨R,e,m⟩:=g_ e m;have j:=HC.dw e.2;have e:=Aj e.1 j;exact au
 apply Ir e m<;>intro e m
 ·simp[e];refine mM m (BV T (H:=H)) λ_ w m=>?_;have⟨S,e,m⟩:=g_ e m;have⟨U,e,m⟩:=g_ e m;have k:=HC.dw e.2;have e:=Aj e.1 k;exact au
 have⟨V,e,m⟩:=g_ e m;have⟨W,e,m⟩:=g_ e m;have⟨X,e,m⟩:=g_ e m;have l:=HC.dw e.2;have e:=Aj e.1 l;apply Ir e m<;>intro e m
 ·have⟨Y,e,m⟩:=g_ e m;have⟨Z,e,m⟩:=g_ e m;have⟨aa,e,m⟩:=g_ e m;have n:=HC.dw e.2;have e:=Aj e.1 n;exact au
 have⟨ab,e,m⟩:=g_ e m;have⟨ad,e,m⟩:=g_ e m;have⟨ae,e,m⟩:=g_ e m;have o:=HC.dw e.2;have e:=Aj e.1 o;have⟨af,e,m⟩:=g_ e m;have⟨ah,e,m⟩:=g_ e m;have⟨ai,e,m⟩:=g_ e m;have q:=HC.dw e.2;have e:=Aj e.1 q;have⟨ak,e,m⟩:=g_ e m;have⟨an,e,m⟩:=g_ e m;have⟨ao,e,m⟩:=g_ e m;have r:=HC.dw e.2;have e:=Aj e.1 r;have⟨aq,e,m⟩:=g_ e m;have⟨ar,e,m⟩:=g_ e m;have⟨aw,e,m⟩:=g_ e m;have s:=HC.dw e.2;have e:=Aj e.1 s;exact au
def J0(T:fx){H:dM}{a0:Option Nat}{nh:List HC}{a:Int}(hm:oR a0 nh=some a):fg prog T 307 [tR (List.length H) a0] (H++l9 (List.length H) nh) (sI a) (H++l9 (List.length H) nh):=by
 have⟨r,c,b,d⟩:=mq hm;obtain rfl:=hZ d;obtain⟨X,rfl⟩:=Lp b;exact gG.Dq (KQ T b) (λ_ _ h=>⟨l9 (List.length H) X,by rw[h.2];simp[Fa],by rw[h.1];rfl,h.1,rfl⟩)
def Vy:qx prog 300=true:=by kernel_rfl
def KH(T:fx):∀(n:Nat),(∀{H:dM} {a0:Option Nat} {a1:Int} {nh:List HC} {r0:Option Nat} {r1:Int} {ao:List HC} (hm:iH n a0 a1 nh=some (r0,r1,ao)),fg prog T 300 [tR (List.length H) a0,sI a1] (H++l9 (List.length H) nh) (AV.tuple [tR (List.length H) r0,sI r1]) (H++l9 (List.length H) ao)):=by
  intro n
  induction n with
  |zero=>
    skip
    all_goals(intro _ _;intros;rename_i hm;cases hm)
  |succ n ih=>
 intro H a0 a1 nh r0 r1 ao hm;rw[iH] at hm;refine gG.intro (fn:=f300) func300 rfl Vy (Kz rfl) ?_;refine jF.sr [] λK1 bw=>?_;simp;apply bw;refine jF.Dh λK3 bz=>?_;refine jF.sr [] λK5 bA=>?_;have⟨x7,j,aq⟩:=ez hm;clear hm
 try dsimp only at aq
 have⟨C,a,K⟩:=ez aq;replace a:=HC.dw a;clear aq
 try dsimp only at K
 simp[j,a];apply bA;refine jF.Cq λb_ b' aX aY=>?_;rcases nx K with⟨b,aa⟩|⟨b,ab⟩
 ·clear K;simp[j,a,b];apply aX;refine jF.sr [] λca aZ=>?_;simp[j,a,b];apply aZ;refine jF.ret ?_;simp only[zq,Ln] at aa;obtain⟨rfl,rfl,rfl⟩:=aa;simp[DU,j,a,b]
 clear K;simp[j,a,b];apply aY;refine jF.skip ?_;apply bz;refine jF.Dh λcb a6=>?_;refine jF.sr [] λcc a7=>?_;have⟨cd,a8,M⟩:=ez ab;clear ab
 try dsimp only at M
 simp[j,a,b];refine sM.fn (EK T (H:=H) a8) ?_;simp[j,a,b];apply a7;refine jF.Cq λcf cg a_ a'=>?_;rcases nx M with⟨c,ad⟩|⟨c,ae⟩
 ·clear M;simp[j,a,b,c];apply a_;refine jF.Dh λch ba=>?_;refine jF.Dh λcj bb=>?_;refine jF.Yg [] true aft abn abn ?_;have⟨ck,bc,N⟩:=ez ad;clear ad
  try dsimp only at N
  simp[j,a,b,c];refine LA.fn (J0 T (H:=H) bc) aae ?_;simp[j,a,b,c];apply bb;refine jF.Cq λcm cn bd bf=>?_;rcases nx N with⟨w,af⟩|⟨w,ah⟩
  ·clear N;simp[j,a,b,c,w];apply bd;refine jF.sr [] λcp bg=>?_;simp[j,a,b,c,w];apply bg;refine jF.ret ?_;simp only[zq,Ln] at af;obtain⟨rfl,rfl,rfl⟩:=af;simp[DU,j,a,b,c,w]
  clear N;simp[j,a,b,c,w];apply bf;refine jF.skip ?_;apply ba;refine jF.sr [] λcq bh=>?_;have⟨cr,bG,bj,P⟩:=mq ah;clear ah
  try dsimp only at P
  simp[j,a,b,c,w];refine sM.fn (BV T (H:=H) bj) ?_;simp[j,a,b,c,w];apply bh;refine jF.ret ?_;simp only[zq,Ln] at P;obtain⟨rfl,rfl,rfl⟩:=P;simp[DU,j,a,b,c,w]
 clear M;simp[j,a,b,c];apply a';refine jF.skip ?_;apply a6;refine jF.Dh λcu bk=>?_;refine jF.sr [] λcw bl=>?_;simp[j,a,b,c];apply bl;have⟨ar,ai⟩:=tZ ae;clear ae;have⟨bB,bm,Q⟩:=sR ai;clear ai
 try dsimp only at Q
 have⟨aw,y,s⟩:=ez Q;clear Q;refine jF.JE λcx bH bn bI ak=>?_;refine jF.TC (λn75 fr h=>∃(i76:Nat) (R:Int) (O:List HC),H++l9 (List.length H) O=h/\(fr.env 0=tR (List.length H) a0/\fr.env 1=sI a1/\fr.env 31=sL (tR (List.length H)) C.afp/\fr.env 32=sI (dT C.afp)/\fr.env 33=sI R)/\R=(i76:Int)/\i76+n75=List.length C.afp/\eg bB (List.drop i76 C.afp) i76 O=some aw) (List.length C.afp) ?_ ?_
 ·refine⟨0,0,nh,?_,⟨?_,?_,?_,?_,?_⟩,rfl,aae,y⟩<;>first|rfl|simp[j,a,b,c]
 rintro n75 bo cy ⟨i76,R,O,rfl,p,D,bJ,y⟩ cz bp;rcases n75 with _|n75
 ·have e:=S6 (l:=C.afp) D Zb;refine jF.sr [] λcA bq=>?_;simp[p,j,a,e,b,c];apply bq;refine jF.Dh λcB bK=>?_;refine jF.Cq λcD cE bL br=>?_;simp[p,j,a,e,b,c];apply br;refine jF.exit ?_;apply bn;rw[Od Zb,lz] at y;obtain rfl:=hZ y;rw[cR] at s
  try dsimp only at s
  apply bk;refine jF.sr [] λcF bs=>?_;have⟨t,z,S⟩:=ez s;replace z:=HC.dw z;clear s
  try dsimp only at S
  have U:iE (l9 (List.length H) O) x7 [sI t.afo,sI t.afr,sI t.ta.afo,sL Ty.av t.ta.afp,sL (tR (List.length H)) t.afp,sI t.size,sI t.free,sB true]=l9 (List.length H) (kY O x7 (HC.dZ (dW.mk t.afo t.afr t.ta t.afp t.size t.free true))):=yF rfl;have V:(kY O x7 (HC.dZ (dW.mk t.afo t.afr t.ta t.afp t.size t.free true)))[x7]?=some (HC.dZ (dW.mk t.afo t.afr t.ta t.afp t.size t.free true)):=Ft z;simp[p,j,a,e,z,U,V,b,c];apply bs;refine jF.sr [] λbM ax=>?_;simp[p,j,a,e,z,U,V,b,c];apply ax;refine jF.ret ?_;simp only[zq,Ln] at S;obtain⟨rfl,rfl,rfl⟩:=S;simp[DU,p,j,a,e,z,U,V,b,c]
 have e:=U0 (l:=C.afp) D Zb;have⟨bN,ay,i⟩:=Tn (l:=C.afp) D Zb;rw[ay,dq] at y;have⟨bO,A,v⟩:=ez y;clear y;rw[bm,<-D] at A
 try dsimp only at A
 refine jF.sr [] λbP az=>?_;simp[p,j,a,e,i,b,c];apply az;refine jF.Dh λbQ aA=>?_;refine jF.Cq λbR bS aB bC=>?_;simp[p,j,a,e,i,b,c];apply aB;refine jF.skip ?_;apply aA;refine jF.Dh λbT aC=>?_;refine jF.JE λbU aD bD bE W=>?_;refine jF.sr [] λbV aE=>?_;simp[p,j,a,e,i,b,c];apply aE;refine jF.sr [] λbW aF=>?_;have⟨an,bX,aG,aH,B⟩:=Eh A;clear A
 try dsimp only at B
 simp[p,j,a,e,i,b,c];refine sM.fn (ih (H:=H) aH) ?_;simp[p,j,a,e,i,b,c];apply aF;refine jF.Dh λbY aI=>?_;refine jF.sr [] λbZ aJ=>?_;simp[p,j,a,e,i,b,c];apply aJ;refine jF.Cq λb0 b1 aK aL=>?_;rcases nx B with⟨m,aM⟩|⟨m,F⟩
 ·clear B;simp[p,j,a,e,i,b,c,m];apply aK;refine jF.sr [] λb2 aN=>?_;simp[p,j,a,e,i,b,c,m];apply aN;refine jF.ret ?_;apply W;apply ak;obtain rfl:=hZ aM;rw[BG] at v;obtain rfl:=hZ v;rw[mA] at s
  try dsimp only at s
  simp only[zq,Ln] at s;obtain⟨rfl,rfl,rfl⟩:=s;simp[DU,p,j,a,e,i,b,c,m]
 clear B;simp[p,j,a,e,i,b,c,m];apply aL;refine jF.skip ?_;apply aI;refine jF.sr [] λb3 aO=>?_;simp[p,j,a,e,i,b,c,m];apply aO;refine jF.Cq λb4 b5 aP aQ=>?_;rcases nx F with⟨o,X⟩|⟨o,aR⟩;rotate_left
 ·clear F;simp[p,j,a,e,i,b,c,m,o];apply aQ;refine jF.skip ?_;apply aD;apply aC;refine jF.region [] abn ?_;simp[p,j,a,e,i,b,c,m,o];obtain rfl:=hZ aR;rw[dt] at v
  refine bp _ _ n75 (XD _) ⟨(i76+1),(ep .i64 R 1),aG,?_,⟨?_,?_,?_,?_,?_⟩,(Q6 D Zb ar),Zb,v⟩<;>first|rfl|simp[p,j,a,e,i,b,c,m,o]
 clear F;simp[p,j,a,e,i,b,c,m,o];apply aP;refine jF.sr [] λb6 aS=>?_;have⟨E,q,G⟩:=ez X;replace q:=HC.dw q;clear X
 try dsimp only at G
 have⟨aT,Y⟩:=tZ G;clear G;simp[p,j,a,e,i,q,b,c,m,o];refine Bf.ZR (f:=(tR (List.length H))) E.afp U3 ⟨_,Yx⟩ (by intro x;simp) aT (by first|rfl|simp) (by first|rfl|simp) λI bt=>?_;simp[p,j,a,e,i,q,b,c,m,o];apply aS;refine jF.sr [] λb7 aU=>?_;have⟨bu,r,J⟩:=ez Y;clear Y
 try dsimp only at J
 have u:=Pr r;simp[p,j,a,e,i,q,r,u,b,c,m,o];refine Ie.arr (f:=(tR (List.length H))) (L:=E.afp) (k:=((I-List.length E.afp)*1)) an aaC (by intro x;simp) (by simp[p,j,a,e,i,q,r,u,b,c,m,o]) (x:=bu) (by assumption) (by simp[p,j,a,e,i,q,r,u,b,c,m,o]) (by simp[p,j,a,e,i,q,r,u,b,c,m,o]) (by simp[p,j,a,e,i,q,r,u,b,c,m,o]) ?_;simp[p,j,a,e,i,q,r,u,b,c,m,o];apply aU;refine jF.Dh λb8 aV=>?_;refine jF.adp 10 (f:=(tR (List.length H))) (L:=(ya E.afp R an)) (k:=((I-List.length E.afp)*1)) (sz:=1) (d:=53) (g:=(bo.gen 53+1)) (cap:=I) (by intro x;simp) (by intro x;simp) (by simp[p,j,a,e,i,q,r,u,b,c,m,o]) (by simp[p,j,a,e,i,q,r,u,b,c,m,o]) (by simp[p,j,a,e,i,q,r,u,b,c,m,o]) ?_;refine jF.region [] abn ?_;have⟨b9,bF,aW,Z⟩:=mq J;clear J
 try dsimp only at Z
 simp[p,j,a,e,i,q,r,u,b,c,m,o];refine sM.fn (xM T (H:=H) aW) ?_;simp[p,j,a,e,i,q,r,u,b,c,m,o];apply aV;refine jF.ret ?_;apply W;apply ak;obtain rfl:=hZ Z;rw[BG] at v;obtain rfl:=hZ v;rw[mA] at s
 try dsimp only at s
 simp only[zq,Ln] at s;obtain⟨rfl,rfl,rfl⟩:=s;simp[DU,p,j,a,e,i,q,r,u,b,c,m,o]
def Mp(T:fx){H:dM}{a0:Option Nat}{a1:Int}{nh:List HC}{b:Option Nat}{c:Int}{a:List HC}{n:Nat}(hm:iH n a0 a1 nh=some (b,c,a)):fg prog T 300 [tR (List.length H) a0,sI a1] (H++l9 (List.length H) nh) (AV.tuple [tR (List.length H) b,sI c]) (H++l9 (List.length H) a):=(KH T n) hm
def J6(T:fx){H:dM}{a0:Option Nat}{nh:List HC}{s:Bool}{t:Int}{k:List HC}(hm:iA a0 nh=some (s,t,k)):fg prog T 282 [tR (List.length H) a0] (H++l9 (List.length H) nh) (AV.tuple [sB s,sI t]) (H++l9 (List.length H) k):=by
 rw[iA] at hm;have e:=trivial;refine wi aft func282 [] [(1,true,[true,true,true,true,true,true,true,true,true,true,false,true,true,true,true,true])] 5 ?_;have⟨d,e,m⟩:=g_ e hm;have⟨u,e,m⟩:=g_ e m;have q:=HC.gd e.2;have e:=Aj e.1 q;simp[e];refine fQ m (Mf T (H:=H)) λ_ m=>?_;have⟨c,r,b,e,m⟩:=Bo3 e m;simp[e];refine LC.fn (Mp T (H:=H) e.2) ?_;simp[e];refine wj 999 999 (λf h=>h=H++l9 (List.length H) b/\f.1 0=tR (List.length H) a0/\f.1 4=tR (List.length H) c/\f.1 5=sI r/\f.1 25=sB (fp (dI r 0) true (Option.isNone c))) (λ_ g=>?_) ?_
 ·rcases Pb (dI r 0) e with e|e
  ·exact aj
  exact aj
 rintro _ _ E;have e:=Aj e E;refine Il e m λe m=>?_;have⟨a,e,m⟩:=g_ e m;have i:=HC.gd e.2;have e:=Aj e.1 i;have l:iE (l9 (List.length H) b) d [tR (List.length H) c,sI a.steps]=l9 (List.length H) (kY b d (HC.fY (fZ.mk c a.steps))):=yF rfl;have e:=Aj e l;have j:(kY b d (HC.fY (fZ.mk c a.steps)))[d]?=some (HC.fY (fZ.mk c a.steps)):=Ft i;have e:=Aj e j;have n:iE (l9 (List.length H) (kY b d (HC.fY (fZ.mk c a.steps)))) d [tR (List.length H) c,sI (ep .i64 a.steps 1)]=l9 (List.length H) (kY (kY b d (HC.fY (fZ.mk c a.steps))) d (HC.fY (fZ.mk c (ep .i64 a.steps 1)))):=yF rfl;have e:=Aj e n;have o:(kY (kY b d (HC.fY (fZ.mk c a.steps))) d (HC.fY (fZ.mk c (ep .i64 a.steps 1))))[d]?=some (HC.fY (fZ.mk c (ep .i64 a.steps 1))):=Ft j;have e:=Aj e o;exact au
def Ky(T:fx):∀(n:Nat),(∀{H:dM} {a0:Option Nat} {nh:List HC} {j:Tm} (hm:iy n a0 nh=some j),fg prog T 283 [tR (List.length H) a0] (H++l9 (List.length H) nh) (Tm.av j) (H++l9 (List.length H) nh)):=by
  intro n
  induction n with
  |zero=>
   skip
   all_goals(intro _ _;intros;rename_i hm;cases hm)
  |succ n s=>
 intro H a0 nh j hm;rw[iy] at hm;have e:=trivial;refine wi aft func283 [] [(1,true,[])] 999 ?_;have⟨t,e,m⟩:=g_ e hm;have⟨i,e,m⟩:=g_ e m;have k:=HC.dw e.2;have e:=Aj e.1 k;simp[e];refine fQ m BB λo m=>?_;simp[e];refine Wr e m 999 (λq c f h=>∃a,(h=H++l9 (List.length H) nh/\f.1 23=sL (tR (List.length H)) i.afp/\f.1 24=sI (dT i.afp)/\f.1 25=sI q/\bx f 2 [sI 0,sI 0,sI 0,nL,nL]/\bx f 3 [sI i.afo,sI i.afr,sI o.afo,sL Ty.av o.afp,sT a Tm.av c])/\Ow f [34] a c) (by exact⟨.full,aav,kG.full⟩) (λc d _ _ E m=>?_) (λq _ c d _ _ _ _ E e m z p=>?_)
 ·have⟨a,E,b⟩:=E;have e:=Aj e E;dsimp only[cR]at m;exact au
 have⟨a,E,b⟩:=E;have e:=Aj e E;have r:=e;simp[e];refine fQ m (s (H:=H)) λl m=>?_;have⟨e,m⟩:=Ck e m;simp[e];refine Ad (f:=Tm.av) c [l] b JY e.2 ?_;simp[e];cases m;exact p _ _ _ ⟨(.loc 34 (d.gN 34+1)),aav,(On 34)⟩ z
def E8(T:fx){H:dM}{a0:Option Nat}{nh:List HC}{a:Tm}{n:Nat}(hm:iy n a0 nh=some a):fg prog T 283 [tR (List.length H) a0] (H++l9 (List.length H) nh) (Tm.av a) (H++l9 (List.length H) nh):=(Ky T n) hm
def IH(T:fx):∀(n:Nat),(∀{H:dM} {a0:Option Nat} {nh:List HC} {l:Bool} {c:List HC} (hm:iJ n a0 nh=some (l,c)),fg prog T 284 [tR (List.length H) a0] (H++l9 (List.length H) nh) (sB l) (H++l9 (List.length H) c)):=by
  intro n
  induction n with
  |zero=>
   skip
   all_goals(intro _ _;intros;rename_i hm;cases hm)
  |succ n u=>
 intro H a0 nh l c hm;rw[iJ] at hm;have e:=trivial;refine wi aft func284 [] [] 999 ?_;have⟨k,e,m⟩:=g_ e hm;have⟨q,e,m⟩:=g_ e m;have o:=HC.dw e.2;have e:=Aj e.1 o;refine Il e m λe m=>?_;simp[e];refine gj m (EK T (H:=H)) λ_ m=>?_;refine Il e m λe m=>?_;simp[e];refine F7 e m 999 (λr d f h=>h=H++l9 (List.length H) d/\f.1 0=tR (List.length H) a0/\f.1 14=sL (tR (List.length H)) q.afp/\f.1 15=sI (dT q.afp)/\f.1 16=sI r) aav (λr _ d _ _ _ _ _ E e m z p=>?_) (λd _ _ _ E m=>?_)
 ·have e:=Aj e E;have s:=e;simp[e];refine mM m (u (H:=H)) λ_ t m=>?_;refine Im e m λe m=>?_;exact al
 have e:=Aj e E;dsimp only[cR]at m;have⟨a,e,m⟩:=g_ e m;have b:=HC.dw e.2;have e:=Aj e.1 b;have i:iE (l9 (List.length H) d) k [sI a.afo,sI a.afr,sI a.ta.afo,sL Ty.av a.ta.afp,sL (tR (List.length H)) a.afp,sI a.size,sI a.free,sB true]=l9 (List.length H) (kY d k (HC.dZ (dW.mk a.afo a.afr a.ta a.afp a.size a.free true))):=yF rfl;have e:=Aj e i;have j:(kY d k (HC.dZ (dW.mk a.afo a.afr a.ta a.afp a.size a.free true)))[k]?=some (HC.dZ (dW.mk a.afo a.afr a.ta a.afp a.size a.free true)):=Ft b;have e:=Aj e j;exact au
def J8(T:fx){H:dM}{a0:Option Nat}{nh:List HC}{b:Bool}{a:List HC}{n:Nat}(hm:iJ n a0 nh=some (b,a)):fg prog T 284 [tR (List.length H) a0] (H++l9 (List.length H) nh) (sB b) (H++l9 (List.length H) a):=(IH T n) hm
def De(T:fx)(u:w5 T){H:dM}{a0:Tm}{a1:Int}{q:Tm}{r s:Int}(hm:jP a0 a1=some (q,r,s)):fg prog T 249 [Tm.av a0,sI a1] H (AV.tuple [Tm.av q,sI r,sI s]) H:=by
 rw[jP] at hm;refine gG.Dq (Post:=λx K=>x=AV.tuple [Tm.av q,sI r,sI s]/\∃X,K=H++X) ?_ (λ_ _ h=>⟨_,h.2.choose_spec,by rw[h.1];simp[AV.low,AV.nk],h.1,rfl⟩);refine gG.VD (c:=HC.cells) ?_;have e:=u;refine wi aft func249 [32] [(12,true,[]),(15,true,[])] 7 ?_;simp[e];refine gj hm (F2 T u) λ_ m=>?_;simp[e];apply Iq e m<;>intro e m
 ·apply wg 999;exact au
 apply wg 3;simp[e];refine Wj m 999 999 (λv f h=>∃v3,(h=H++l9 (List.length H) ([]:List HC)/\f.1 1=sI a1/\f.1 27=sB v3/\bx f 2 (Tm.av a0).cells/\bx f 4 [sI 0,sI 0,sI 0,nL,nL])/\v v3=some (q,r,s)) (λv _ g m=>?_) ?_
 ·apply Iq e m<;>intro e m
  ·exact nP
  apply Iq e m<;>intro e m
  ·exact nP
  simp[e];refine gj m (Te T) λ_ m=>?_;exact nP
 rintro _ _ ⟨v3,E,m⟩;have e:=Aj e E;refine Il e m λe m=>?_;simp[e];refine mM m (RO T (H:=H)) λt a m=>?_;have b:l9 (List.length H) a++[[tR (List.length H) t,sI 0]]=l9 (List.length H) (a++[HC.fY (fZ.mk t 0)]):=Rm rfl;have e:=Aj e b;have d:(a++[HC.fY (fZ.mk t 0)])[(List.length a)]?=some (HC.fY (fZ.mk t 0)):=Vb;have e:=Aj e d;simp[e];refine Wn m 3 (λi f h=>h=H++l9 (List.length H) i/\f.1 1=sI a1/\f.1 8=AV.gS (List.length H+(List.length a)) 0/\bx f 4 [sI 0,sI 0,sI 0,nL,nL]) aav (λi _ _ _ _ _ E m z p=>?_);have e:=Aj e E;have j:=e;have⟨A,e,m⟩:=g_ e m;have k:=HC.gd e.2;have e:=Aj e.1 k;simp[e];apply Iq e m<;>intro e m
 ·apply wg 999;simp[e];refine QA m (J6 T (H:=H)) λ_ _ w m=>?_;refine Il e m λe m=>?_;apply Iq e m<;>intro e m
  ·exact al
  have⟨B,e,m⟩:=g_ e m;have l:=HC.gd e.2;have e:=Aj e.1 l;simp[e];refine fQ m (E8 T (H:=H)) λ_ m=>?_;exact au
 apply wg 2;simp[e];cases m;have m:=Qb z
 try dsimp only at m
 have e:=j;apply wg 999;have⟨C,e,m⟩:=g_ e m;have n:=HC.gd e.2;have e:=Aj e.1 n;simp[e];refine mM m (J8 T (H:=H)) λ_ y m=>?_;refine Im e m λe m=>?_;have⟨D,e,m⟩:=g_ e m;have o:=HC.gd e.2;have e:=Aj e.1 o;simp[e];refine fQ m (E8 T (H:=H)) λ_ m=>?_;exact au
def OJ(T:fx)(a:w5 T){H:dM}{a0 a1:Tm}{a2 b:Int}(hm:jj a0 a1 a2=some b):fg prog T 231 [Tm.av a0,Tm.av a1,sI a2] H (sI b) H:=by
 rw[jj] at hm;have e:=a;refine wi aft func231 [] [] 999 ?_;simp[e];refine gj hm (F2 T a) λ_ m=>?_;refine Il e m λe m=>?_;simp[e];refine gj m (F2 T a) λ_ m=>?_;refine Il e m λe m=>?_;simp[e];refine gj m La λ_ m=>?_;refine Il e m λe m=>?_;simp[e];refine QA m (De T a) λ_ _ _ m=>?_;refine Il e m λe m=>?_;simp[e];refine QA m (De T a) λ_ _ _ m=>?_;refine Il e m λe m=>?_;simp[e];refine gj m La λ_ m=>?_;refine Il e m λe m=>?_;exact au
def MM(T:fx)(c:w5 T):∀(n:Nat),(∀{H:dM} {a0:Fm} {a1:Fm} {b:Int} (hm:ic n a0 a1=some b),fg prog T 169 [Fm.av a0,Fm.av a1] H (sI b) H):=by
  intro n
  induction n with
  |zero=>
    skip
    all_goals(intro _ _;intros;rename_i hm;cases hm)
  |succ n j=>
 intro H a0 a1 b hm;rw[ic] at hm;have e:=c;refine wi aft func169 [] [] 3 ?_;simp[e];refine Wj hm 999 999 (λd f h=>∃v2,(h=H/\f.1 23=sB v2/\bx f 2 (Fm.av a0).cells/\bx f 3 (Fm.av a1).cells)/\d v2=some b) (λd _ g m=>?_) ?_
 ·apply Iq e m<;>intro e m
  ·exact nP
  simp[e];refine gj m xq λ_ m=>?_;exact nP
 rintro _ _ ⟨v2,E,m⟩;have e:=Aj e E;refine Il e m λe m=>?_;simp[e];refine F7 e m 999 (λi _ f h=>h=H/\f.1 25=sL Tm.av a0.dy/\f.1 26=sI (dT a0.dy)/\f.1 27=sI i/\bx f 2 (Fm.av a0).cells/\bx f 3 (Fm.av a1).cells) aav (λi _ _ _ _ _ _ _ E e m z p=>?_) (λ_ _ _ _ E m=>?_)
 ·have e:=Aj e E;have⟨k,e,m⟩:=g_ e m;simp[e];refine fQ m (OJ T c) λ_ m=>?_;refine Il e m λe m=>?_;exact al
 have e:=Aj e E;dsimp only[cR]at m;simp[e];refine Wr e m 999 (λa _ f h=>h=H/\f.1 44=sL Fm.av a0.afp/\f.1 45=sI (dT a0.afp)/\f.1 46=sI a/\bx f 3 (Fm.av a1).cells) aav (λ_ _ _ _ E m=>?_) (λa _ _ _ _ _ _ _ E e m z p=>?_)
 ·have e:=Aj e E;dsimp only[cR]at m;exact au
 have e:=Aj e E;have⟨l,e,m⟩:=g_ e m;simp[e];refine fQ m j λ_ m=>?_;refine Il e m λe m=>?_;exact al
def NL(T:fx)(b:w5 T){H:dM}{a0 a1:Fm}{a:Int}{n:Nat}(hm:ic n a0 a1=some a):fg prog T 169 [Fm.av a0,Fm.av a1] H (sI a) H:=(MM T b n) hm
def Dl(T:fx)(a:w5 T){H:dM}{a0 a1:Fm}{b:Int}(hm:gZ a0 a1=some b):fg prog T 107 [Fm.av a0,Fm.av a1] H (sI b) H:=by
 rw[gZ] at hm;have e:=a;refine wi aft func107 [] [] 999 ?_;simp[e];refine gj hm (xl T a) λ_ m=>?_;refine Il e m λe m=>?_;simp[e];refine gj m (xl T a) λ_ m=>?_;refine Il e m λe m=>?_;simp[e];refine gj m (NL T a) λ_ m=>?_;exact au
def yf:C2 prog 194 en cS.av cS.av (sL Ty.av):=by
 refine v2 func194 λT H a0 a1 r m e=>?_;rw[en] at m;simp[e];refine gj m ub λ_ m=>?_;exact au
def BP:C3 prog 195 jH Fm.av sI Ty.av Fm.av:=by
 refine v3 func195 λT H a0 a1 a2 r m e=>?_;rw[jH] at m;have e:=Aj e (show AV.agg [sI a0,sI a1.afo,sL Ty.av a1.afp,AV.slice .pw [],AV.slice .pw [Fm.av a2]]=Fm.av (Fm.mk a0 a1 [] [a2]) by rw[Fm.jf];rfl);exact au
def wU:C2 prog 196 ea (λn=>AV.sc (Value.int .u32 n)) (λn=>AV.sc (Value.int .u32 n)) sI:=by
 intro T H a0 a1 r hm;rw[ea] at hm;have e:=trivial;refine wi aft func196 [] [] 999 ?_;have⟨e,m⟩:=Ck e hm;exact au
def NS(T:fx){H:dM}{a0 a1 a b:Int}{q0:Nat}(c:H[q0]?=some [AV.sc (.int .u32 a)])(hm:l5 a0 a1 a=some b):fg prog T 244 [sI a0,sI a1,AV.gS q0 0] H (AV.tuple []) (iE H q0 [AV.sc (.int .u32 b)]):=by
 rw[l5] at hm;have d:=ie c;refine gG.Qi c ?_;have e:=d;refine wi aft func244 [] [(1,false,[false,true,true,true,true,true,false])] 999 ?_;refine Im e hm λe m=>?_;have⟨e,m⟩:=Ck e m;exact au
def F4(T:fx){H:dM}{a0:Tm}{a:Int}(hm:iO a0=some a):fg prog T 198 [Tm.av a0] H (AV.sc (.int .u32 a)) H:=by
 rw[iO] at hm;refine gG.Dq (Post:=λx K=>x=AV.sc (.int .u32 a)/\∃X,K=H++X) ?_ (λ_ _ h=>⟨_,h.2.choose_spec,by rw[h.1];simp[AV.low,AV.nk],h.1,rfl⟩);have e:=trivial;refine wi aft func198 [3] [] 999 ?_;simp[e];refine gj hm (Iu T (st:=λs:Int=>H++[[AV.sc (.int .u32 s)]]) (KV.WU H (λs:Int=>[[AV.sc (.int .u32 s)]]) 1 (λ_=>rfl) (by simp[AV.low,AV.nk])) (λX s _ _ b h=>by have:=NS T (H:=H++[[AV.sc (.int .u32 s)]]++X) (q0:=(List.length H)) aav h;simpa using this)) λ_ m=>?_;exact au
def zm:C2 prog 199 gp sB cU.av Ty.av:=by
 refine v2 func199 λT H a0 a1 r m e=>?_;rw[gp] at m;simp[e];refine fQ m AT λ_ m=>?_;simp[e];refine fQ m zs λ_ m=>?_;exact au
def OO(T:fx){H:dM}{a0 a1 a b c:Int}{q0 q1:Nat}(d:H[q0]?=some [sI a])(f:H[q1]?=some [sI b])(h:q0≠q1)(hm:mV a0 a1 a b=some c):fg prog T 296 [sI a0,sI a1,AV.gS q0 0,AV.gS q1 0] H (AV.tuple []) (iE H q1 [sI c]):=by
 rw[mV] at hm;have i:=ie d;have j:=ie f;refine gG.Qi f ?_;have e:=Aj (Aj (Aj (Aj i d) j) h) h.symm;refine wi aft func296 [] [] 999 ?_;refine Il e hm λe m=>?_;exact au
def L1(T:fx){H:dM}{a0:Tm}{a1 a:Int}(hm:vm a0 a1=some a):fg prog T 277 [Tm.av a0,sI a1] H (sI a) H:=by
 rw[vm] at hm;refine gG.Dq (Post:=λx K=>x=sI a/\∃X,K=H++X) ?_ (λ_ _ h=>⟨_,h.2.choose_spec,by rw[h.1];simp[AV.low,AV.nk],h.1,rfl⟩);have e:=trivial;refine wi aft func277 [3,5] [] 999 ?_;simp[e];refine gj hm (Iu T (st:=λs:Int=>H++[[sI a1],[sI s]]) (KV.WU H (λs:Int=>[[sI a1],[sI s]]) 2 (λ_=>rfl) (by simp[AV.low,AV.nk])) (λX s _ _ b h=>by have:=OO T (H:=H++[[sI a1],[sI s]]++X) (q0:=(List.length H)) (q1:=(List.length H+1)) aav aav aav h;simpa using this)) λ_ m=>?_;exact au
def H6(T:fx){H:dM}{a0:Tm}{a1 a b c:Int}{q0 q1:Nat}(d:H[q0]?=some [sI a])(f:H[q1]?=some [sI b])(h:q0≠q1)(hm:iI a0 a1 a b=some c):fg prog T 276 [Tm.av a0,sI a1,AV.gS q0 0,AV.gS q1 0] H (AV.tuple []) (iE H q0 [sI c]):=by
 rw[iI] at hm;have i:=ie d;have j:=ie f;refine gG.Qi d ?_;have e:=Aj (Aj (Aj (Aj i j) f) h) h.symm;refine wi aft func276 [] [(1,true,[true,true,true,true,true,true,true,false])] 999 ?_;simp[e];refine fQ hm (L1 T) λ_ m=>?_;exact au
def MN(T:fx):∀(n:Nat),(∀{S:Type} {st:S->dM} {k:Nat} {a0:Fm} {a1:Int} {a2:(S->Tm->Int->Option (S))} {c:S} {b:S} {g2:Nat} {a:List AV} (hF:KV st k) (d:L0 T g2 a st a2) (hm:mI n a0 a1 a2 c=some b),fg prog T 275 [Fm.av a0,sI a1,AV.func (.func g2) [] a] (st c) (AV.tuple []) (st b)):=by
  intro n
  induction n with
  |zero=>
    skip
    all_goals(intro _ _;intros;rename_i hm;cases hm)
  |succ n q=>
 intro S st k a0 a1 a2 c b g2 a hF d hm;rw[mI] at hm;have e:=hF.len;refine wi aft func275 [] [] 999 ?_;simp[e];refine F7 e hm 0 (λo s2 f h=>h=st s2/\f.1 1=sI a1/\f.1 2=AV.func (.func g2) [] a/\f.1 11=sL Tm.av a0.dy/\f.1 12=sI (dT a0.dy)/\f.1 13=sI o/\bx f 3 (Fm.av a0).cells) aav (λo _ s2 _ _ _ _ _ E e m z p=>?_) (λs2 _ _ _ E m=>?_)
 ·have e:=Aj e E;apply wg 999;have⟨r,e,m⟩:=g_ e m;simp[e];refine sM.YA abG (L0.at0 d e.2) ?_;exact al
 have e:=Aj e E;apply wg 5;dsimp only[cR]at m;simp[e];refine Wj m 999 999 (λj f h=>∃v12,(h=st s2/\f.1 1=sI v12/\f.1 2=AV.func (.func g2) [] a/\f.1 3=AV.mD 3 (f.gen 3) 0/\f.box 3=some (Fm.av a0).cells)/\j v12=some b) (λj _ g m=>?_) ?_
 ·simp[e];refine gj m Fw λ_ m=>?_;apply Ir e m<;>intro e m
  ·exact nP
  exact nP
 rintro _ _ ⟨v12,E,m⟩;have e:=Aj e E;simp[e];refine Wr e m 999 (λl i f h=>h=st i/\f.1 1=sI v12/\f.1 2=AV.func (.func g2) [] a/\f.1 28=sL Fm.av a0.afp/\f.1 29=sI (dT a0.afp)/\f.1 30=sI l) aav (λi _ _ _ E m=>?_) (λl _ i _ _ _ _ _ E e m z p=>?_)
 ·have e:=Aj e E;dsimp only[cR]at m;exact au
 have e:=Aj e E;simp[e];refine gj m (q hF d) λ_ m=>?_;exact al
def Oc(T:fx){S:Type}{st:S->dM}{k:Nat}{a0:Fm}{a1:Int}{a2:(S->Tm->Int->Option (S))}{b c:S}{g2:Nat}{a:List AV}(hF:KV st k)(d:L0 T g2 a st a2){n:Nat}(hm:mI n a0 a1 a2 b=some c):fg prog T 275 [Fm.av a0,sI a1,AV.func (.func g2) [] a] (st b) (AV.tuple []) (st c):=(MN T n) hF d hm
def zr(T:fx){H:dM}{a0:Fm}{a1 a:Int}(hm:lJ a0 a1=some a):fg prog T 246 [Fm.av a0,sI a1] H (sI a) H:=by
 rw[lJ] at hm;refine gG.Dq (Post:=λx K=>x=sI a/\∃X,K=H++X) ?_ (λ_ _ h=>⟨_,h.2.choose_spec,by rw[h.1];simp[AV.low,AV.nk],h.1,rfl⟩);have e:=trivial;refine wi aft func246 [3,5] [] 999 ?_;simp[e];refine gj hm (Oc T (st:=λs:Int=>H++[[sI a1],[sI s]]) (KV.WU H (λs:Int=>[[sI a1],[sI s]]) 2 (λ_=>rfl) (by simp[AV.low,AV.nk])) (λX s _ _ b h=>by have:=H6 T (H:=H++[[sI a1],[sI s]]++X) (q0:=(List.length H+1)) (q1:=(List.length H)) aav aav aav h;simpa using this)) λ_ m=>?_;exact au
def Sa(T:fx){H:dM}{a0 a1 b:Int}{a i:Tm}{q0 q1:Nat}(c:H[q0]?=some [sI b])(d:H[q1]?=some [sI a.afo,sI a.afr,sI a.cW.afo,sL Ty.av a.cW.afp,sL Tm.av a.afp])(hm:l6 a0 a1 b a=some i):fg prog T 297 [sI a0,sI a1,AV.gS q0 0,AV.gS q1 0] H (Tm.av i) H:=by
 rw[l6] at hm;have f:=ie c;have h:=ie d;have e:=Aj (Aj (Aj f c) h) d;refine wi aft func297 [] [] 999 ?_;apply Iq e hm<;>intro e m
 ·simp[e];refine gj m (M9 T) λ_ m=>?_;exact au
 apply Iq e m<;>intro e m
 ·simp[e];refine gj m qu λ_ m=>?_;exact au
 simp[e];refine gj m qu λ_ m=>?_;exact au
def UD(T:fx){H:dM}{a0:Tm}{a1:Int}{a2 a:Tm}(hm:BM a0 a1 a2=some a):fg prog T 279 [Tm.av a0,sI a1,Tm.av a2] H (Tm.av a) H:=by
 rw[BM] at hm;refine gG.Dq (Post:=λx K=>x=Tm.av a/\∃X,K=H++X) ?_ (λ_ _ h=>⟨_,h.2.choose_spec,by rw[h.1];simp[AV.low,AV.nk],h.1,rfl⟩);have e:=trivial;refine wi aft func279 [4,5] [] 999 ?_;simp[e];refine mM hm (IV T (st:=λ_:Unit=>H++[[sI a1],[sI a2.afo,sI a2.afr,sI a2.cW.afo,sL Ty.av a2.cW.afp,sL Tm.av a2.afp]]) (KV.const _) (λX _ _ _ _ _ h=>by obtain⟨b,rfl⟩:=ES h;exact Sa T (q0:=(List.length H)) (q1:=(List.length H+1)) aav aav b)) λ_ _ m=>?_;exact au
def J3(T:fx){H:dM}{a0:Tm}{a1 b:Int}{a i:Tm}{q0 q1:Nat}(c:H[q0]?=some [sI b])(d:H[q1]?=some [sI a.afo,sI a.afr,sI a.cW.afo,sL Ty.av a.cW.afp,sL Tm.av a.afp])(hm:gM a0 a1 b a=some i):fg prog T 278 [Tm.av a0,sI a1,AV.gS q0 0,AV.gS q1 0] H (Tm.av i) H:=by
 rw[gM] at hm;have f:=ie c;have h:=ie d;have e:=Aj (Aj (Aj f c) h) d;refine wi aft func278 [] [] 999 ?_;simp[e];refine gj hm (UD T) λ_ m=>?_;exact au
def BN(T:fx){H:dM}{a0:Fm}{a1:Int}{a2:Tm}{a:Fm}(hm:k8 a0 a1 a2=some a):fg prog T 247 [Fm.av a0,sI a1,Tm.av a2] H (Fm.av a) H:=by
 rw[k8] at hm;refine gG.Dq (Post:=λx K=>x=Fm.av a/\∃X,K=H++X) ?_ (λ_ _ h=>⟨_,h.2.choose_spec,by rw[h.1];simp[AV.low,AV.nk],h.1,rfl⟩);have e:=trivial;refine wi aft func247 [4,5] [] 999 ?_;simp[e];refine mM hm (ud T (st:=λ_:Unit=>H++[[sI a1],[sI a2.afo,sI a2.afr,sI a2.cW.afo,sL Ty.av a2.cW.afp,sL Tm.av a2.afp]]) (KV.const _) (λX _ _ _ _ _ h=>by obtain⟨b,rfl⟩:=ES h;exact J3 T (q0:=(List.length H)) (q1:=(List.length H+1)) aav aav b)) λ_ _ m=>?_;exact au
def BS(T:fx)(a:w5 T){H:dM}{a0:Fm}{a1:Tm}{b:Fm}{c:Int}(hm:gP a0 a1=some (b,c)):fg prog T 200 [Fm.av a0,Tm.av a1] H (AV.tuple [Fm.av b,sI c]) H:=by
 rw[gP] at hm;have e:=a;refine wi aft func200 [] [] 999 ?_;simp[e];refine mM hm (zo T a) λ_ _ m=>?_;simp[e];refine mM m (BY T a) λ_ _ m=>?_;simp[e];refine gj m (zr T) λ_ m=>?_;refine Il e m λe m=>?_;simp[e];refine gj m (BN T) λ_ m=>?_;exact au
def HQ:C1 prog 201 yc (λn=>AV.sc (Value.int .u32 n)) Tm.av:=by
 intro T H a0 r hm;rw[yc] at hm;have e:=trivial;refine wi aft func201 [] [] 999 ?_;cases hm;simp[e]
def KU(T:fx)(f:w5 T){H:dM}{a0:Tm}{a1 a:Int}{h:Tm}{b:Int}{q0:Nat}(c:H[q0]?=some [sI a])(hm:iV a0 a1 a=some (h,b)):fg prog T 248 [Tm.av a0,sI a1,AV.gS q0 0] H (Tm.av h) (iE H q0 [sI b]):=by
 rw[iV] at hm;have d:=ie c;refine gG.Qi c ?_;have e:=Aj f d;refine wi aft func248 [] [] 999 ?_;refine Il e hm λe m=>?_;simp[e];refine QA m (De T f) λ_ _ _ m=>?_;exact au
def MR(T:fx)(c:w5 T){H:dM}{a0 a:Fm}{b:Int}(hm:la a0=some (a,b)):fg prog T 203 [Fm.av a0] H (AV.tuple [Fm.av a,sI b]) H:=by
 rw[la] at hm;refine gG.Dq (Post:=λx K=>x=AV.tuple [Fm.av a,sI b]/\∃X,K=H++X) ?_ (λ_ _ h=>⟨_,h.2.choose_spec,by rw[h.1];simp[AV.low,AV.nk],h.1,rfl⟩);have e:=c;refine wi aft func203 [4] [(6,true,[])] 999 ?_;simp[e];refine gj hm (zr T) λ_ m=>?_;apply Iq e m<;>intro e m
 ·simp[e];refine gj m (BN T) λ_ m=>?_;exact au
 simp[e];refine mM m (ud T (st:=λs:Int=>H++[[sI s]]) (KV.WU H (λs:Int=>[[sI s]]) 1 (λ_=>rfl) (by simp[AV.low,AV.nk])) (λX s _ _ _ d h=>by have:=KU T c (H:=H++[[sI s]]++X) (q0:=(List.length H)) aav h;simpa using this)) λ_ _ m=>?_;refine Il e m λe m=>?_;simp[e];refine gj m (zr T) λ_ m=>?_;refine Il e m λe m=>?_;simp[e];refine gj m (BN T) λ_ m=>?_;exact au
def AD:C2 prog 250 vA Tm.av sI (sL Tm.av):=by
 refine v2 func250 λT H a0 a1 r m e=>?_;rw[vA] at m;exact au
def Jy:C1 prog 204 Ah fJ.av sI:=by
 refine v1 func204 λT H a0 r m e=>?_;rw[Ah] at m;apply Iq e m<;>intro e m
 ·simp[e];refine gj m AD λb m=>?_;simp[e];refine gj m tT λf m=>?_;simp[e];refine gj m qu λ_ m=>?_;simp[e];refine gj m AD λc m=>?_;have e:=Aj e (show AV.agg [sI 1,sI b.afo,sI b.afr,sI b.cW.afo,sL Ty.av b.cW.afp,sL Tm.av b.afp,AV.slice .pw [Ty.av f],sI c.afo,sI c.afr,sI c.cW.afo,sL Ty.av c.cW.afp,sL Tm.av c.afp]=fJ.av (fJ.mk 1 b [f] c) by rw[fJ.jf];rfl);exact au
 simp[e];refine gj m AD λd m=>?_;simp[e];refine gj m tT λh m=>?_;simp[e];refine gj m Nx λi m=>?_;simp[e];refine gj m qu λ_ m=>?_;simp[e];refine gj m qu λ_ m=>?_;simp[e];refine gj m AD λa m=>?_;have e:=Aj e (show AV.agg [sI 2,sI d.afo,sI d.afr,sI d.cW.afo,sL Ty.av d.cW.afp,sL Tm.av d.afp,AV.slice .pw [Ty.av h,Ty.av i],sI a.afo,sI a.afr,sI a.cW.afo,sL Ty.av a.cW.afp,sL Tm.av a.afp]=fJ.av (fJ.mk 2 d [h,i] a) by rw[fJ.jf];rfl);exact au
def H5:C2 prog 207 vk Fm.av Tm.av Tm.av:=by
 refine v2 func207 λT H a0 a1 r m e=>?_;rw[vk] at m;have e:=Aj e (show AV.agg [sI 1,sI 0,AV.slice .pw [],AV.slice .pw [Tm.av a0,Tm.av a1],AV.slice .pw []]=Fm.av (Fm.mk 1 (Ty.mk 0 []) [a0,a1] []) by rw[Fm.jf];rfl);exact au
def H7(T:fx){H:dM}{a0:List Fm}{a1:Pf}{a2:cS}{b:cT}{c:Int}{d:Nat}(a:KC H d a0)(hm:qD a0 a1 a2=some (b,c)):fg prog T 150 [AV.gS d 0,Pf.av a1,cS.av a2] H (AV.tuple [cT.av b,sI c]) H:=by
 rw[qD] at hm;have e:=a;refine wi aft func150 [] [] 999 ?_;have⟨f,e,m⟩:=g_ e hm;simp[e];refine gj m AR λ_ m=>?_;refine Il e m λe m=>?_;simp[e];refine gj m H5 λ_ m=>?_;exact au
def Ks:C2 prog 210 rB Tm.av Tm.av (sL Tm.av):=by
 refine v2 func210 λT H a0 a1 r m e=>?_;rw[rB] at m;simp[e];refine Wr e m 999 (λc s2 f h=>h=H/\f.1 7=sL Tm.av a1/\f.1 8=sI (dT a1)/\f.1 9=sI c/\bx f 2 [sI s2.1,sI s2.2.1,sI s2.2.2.1,sL Ty.av s2.2.2.2.1,sL Tm.av s2.2.2.2.2]/\bx f 4 [sI 0,sI 0,sI 0,nL,nL]) aav (λs2 _ _ _ E m=>?_) (λc _ s2 _ _ _ _ _ E e m z p=>?_)
 ·have⟨v10,v11,v12,a,b⟩:=s2;have e:=Aj e E;dsimp only[cR,Kr]at m;exact au
 have⟨v10,v11,v12,a,b⟩:=s2;have e:=Aj e E;dsimp only[Kr]at m;simp[e];refine gj m AD λ_ m=>?_;exact al
def Qn:C1 prog 304 va (t2 sI sI) sB:=by
 refine v1 func304 λT H a0 r m e=>?_;rw[va] at m;refine Il e m λe m=>?_;exact au
def KB:C2 prog 319 yZ Tm.av Tm.av (sL Ty.av):=by
 refine v2 func319 λT H a0 a1 r m e=>?_;rw[yZ] at m;simp[e];refine Wn m 999 (λs1 f h=>∃a,h=H/\f.1 1=sL Ty.av a1/\f.1 5=sI s1.1/\bx f 2 [sI s1.2.1,sI s1.2.2.1,sI s1.2.2.2.1,sL Ty.av s1.2.2.2.2.1,sT a Tm.av s1.2.2.2.2.2]/\bx f 4 [sI 0,sI 0,sI 0,nL,nL]) ⟨.pw,aav⟩ (λs1 _ _ _ _ _ E m z p=>?_);have⟨d,v9,v10,v11,v12,b⟩:=s1;have⟨a,E⟩:=E;have e:=Aj e E;dsimp only[Bn]at m;apply Ir e m<;>intro e m
 ·cases m;have m:=Qb z;dsimp only[Bn]at m;exact au
 have⟨c,e,m⟩:=g_ e m;simp[e];cases m;exact p _ _ _ ⟨.full,aav⟩ z
def Ud:C5 prog 320 BH Tm.av sI Ty.av Tm.av Tm.av Tm.av:=by
 refine v5 func320 λT H a0 a1 a2 a3 a4 r m e=>?_;rw[BH] at m;have e:=Aj e (show AV.agg [sI a0,sI 0,sI a1.afo,sL Ty.av a1.afp,AV.slice .pw [Tm.av a2,Tm.av a3,Tm.av a4]]=Tm.av (Tm.mk a0 0 a1 [a2,a3,a4]) by rw[Tm.jf];rfl);exact au
def Fv:C3 prog 315 ov Tm.av Tm.av Tm.av Tm.av:=by
 refine v3 func315 λT H a0 a1 a2 r m e=>?_;rw[ov] at m;simp[e];refine fQ m tT λ_ m=>?_;simp[e];refine fQ m tT λ_ m=>?_;simp[e];refine fQ m tT λ_ m=>?_;simp[e];refine fQ m KB λ_ m=>?_;simp[e];refine fQ m Ud λ_ m=>?_;exact au
def RT:C0 prog 316 w7 Tm.av:=by
 refine v0 func316 λT H r m e=>?_;rw[w7] at m;simp[e];refine gj m AD λ_ m=>?_;simp[e];refine gj m qu λ_ m=>?_;simp[e];refine gj m qu λ_ m=>?_;simp[e];refine gj m Fv λ_ m=>?_;simp[e];refine gj m tT λ_ m=>?_;simp[e];refine gj m KB λ_ m=>?_;exact au
def SZ:C1 prog 314 DQ Tm.av Tm.av:=by
 refine v1 func314 λT H a0 r m e=>?_;rw[DQ] at m;simp[e];refine fQ m tT λ_ m=>?_;simp[e];refine fQ m tT λ_ m=>?_;simp[e];refine fQ m KB λ_ m=>?_;exact au
def Tp:C0 prog 310 y0 Tm.av:=by
 refine v0 func310 λT H r m e=>?_;rw[y0] at m;simp[e];refine gj m qu λ_ m=>?_;simp[e];refine gj m RT λ_ m=>?_;simp[e];refine gj m qu λ_ m=>?_;simp[e];refine gj m Ks λ_ m=>?_;simp[e];refine gj m qu λ_ m=>?_;simp[e];refine gj m Fv λ_ m=>?_;simp[e];refine gj m SZ λ_ m=>?_;exact au
def RN:C2 prog 306 w6 Fm.av Tm.av Tm.av:=by
 refine v2 func306 λT H a0 a1 r m e=>?_;rw[w6] at m;simp[e];refine fQ m Tp λ_ m=>?_;simp[e];refine fQ m AD λ_ m=>?_;simp[e];refine fQ m Ks λ_ m=>?_;simp[e];refine fQ m AD λ_ m=>?_;simp[e];refine fQ m H5 λ_ m=>?_;exact au
def KT{n:Nat}:C2 prog 305 (k4 n) sB Fm.av Fm.av:=by
 refine i2 λn d=>u2 3 func305 λT H a0 a1 r m e=>?_;rw[k4] at m;simp[e];refine Wj m 999 999 (λb f h=>∃v2,(h=H/\f.1 39=sB v2/\bx f 2 (Fm.av a0).cells/\bx f 3 (Fm.av a1).cells)/\b v2=some r) (λb _ g m=>?_) ?_
 ·apply Iq e m<;>intro e m
  ·exact nP
  simp[e];refine gj m xq λ_ m=>?_;apply Ir e m<;>intro e m
  ·exact nP
  apply Iq e m<;>intro e m
  ·exact nP
  exact nP
 rintro _ _ ⟨v2,E,m⟩;have e:=Aj e E;refine Il e m λe m=>?_;simp[e];refine F7 e m 999 (λc _ f h=>h=H/\f.1 41=sL Tm.av a0.dy/\f.1 42=sI (dT a0.dy)/\f.1 43=sI c/\bx f 2 (Fm.av a0).cells/\bx f 3 (Fm.av a1).cells) aav (λc _ _ _ _ _ _ _ E e m z p=>?_) (λ_ _ _ _ E m=>?_)
 ·have e:=Aj e E;have⟨i,e,m⟩:=g_ e m;simp[e];refine fQ m HZ λ_ m=>?_;refine Im e m λe m=>?_;exact al
 have e:=Aj e E;dsimp only[cR]at m;simp[e];refine Wr e m 999 (λa _ f h=>h=H/\f.1 58=sL Fm.av a0.afp/\f.1 59=sI (dT a0.afp)/\f.1 60=sI a/\bx f 3 (Fm.av a1).cells) aav (λ_ _ _ _ E m=>?_) (λa _ _ _ _ _ _ _ E e m z p=>?_)
 ·have e:=Aj e E;dsimp only[cR]at m;exact au
 have e:=Aj e E;have⟨j,e,m⟩:=g_ e m;simp[e];refine fQ m d λ_ m=>?_;refine Im e m λe m=>?_;exact al
def QE(T:fx){H:dM}{a0:Fm}{c:Bool}{d:Tm}{i:Fm}{j:Bool}(hm:uO a0=some (c,d,i,j)):fg prog T 287 [Fm.av a0] H (AV.tuple [sB c,Tm.av d,Fm.av i,sB j]) H:=by
 rw[uO] at hm;have e:=trivial;refine wi aft func287 [] [] 7 ?_;simp[e];refine mM hm Qn λ_ _ m=>?_;simp[e];refine Wj m 999 0 (λl f h=>∃v4,(h=H/\f.1 6=sB (dC a0.afo 4)/\f.1 48=sB v4/\bx f 1 (Fm.av a0).cells/\bx f 3 [sI 0,sI 0,sI 0,nL,nL]/\bx f 4 [sI 0,sI 0,nL,nL,nL])/\l v4=some (c,d,i,j)) (λl _ g m=>?_) ?_
 ·apply Iq e m<;>intro e m
  ·exact nP
  apply Iq e m<;>intro e m
  ·exact nP
  have⟨t,e,m⟩:=g_ e m;apply Iq e m<;>intro e m
  ·exact nP
  have⟨u,e,m⟩:=g_ e m;exact nP
 rintro _ _ ⟨v4,E,m⟩;have e:=Aj e E;apply Iq e m<;>intro e m
 ·apply wg 999;exact au
 apply wg 7;have⟨n,e,m⟩:=g_ e m;have⟨o,e,m⟩:=g_ e m;have⟨k,e,m⟩:=g_ e m;simp[e];refine Gc m 999 999 (λb f h=>∃a,(h=H/\f.1 6=sB (dC a0.afo 4)/\f.1 83=sB a/\bx f 1 (Fm.av a0).cells/\bx f 3 [sI 0,sI 0,sI 0,nL,nL]/\bx f 4 [sI 0,sI 0,nL,nL,nL]/\bx f 10 (Tm.av k).cells)/\b a=some (c,d,i,j)) ?_ (λb _ g m=>?_)
 ·rintro _ _ ⟨a,E,m⟩;have e:=Aj e E;refine Il e m λe m=>?_;have⟨q,e,m⟩:=g_ e m;have⟨r,e,m⟩:=g_ e m;exact au
 apply Iq e m<;>intro e m
 ·exact nP
 have⟨s,e,m⟩:=g_ e m;simp[e];refine fQ m (L1 T) λ_ m=>?_;apply Iq e m<;>intro e m
 ·exact nP
 simp[e];refine fQ m qu λ_ m=>?_;simp[e];refine fQ m RN λ_ m=>?_;simp[e];refine fQ m KT λ_ m=>?_;exact nP
def Tc:∀(n:Nat),C1 prog 255 (l_ n) (λn=>AV.sc (Value.int .u8 n)) Fm.av:=by
  intro n
  induction n with
  |zero=>
    skip
    all_goals(intro _ _;intros;rename_i hm;cases hm)
  |succ n c=>
 intro T H a0 r hm;rw[l_] at hm;have e:=trivial;refine wi aft func255 [] [] 5 ?_;simp[e];apply Iq e hm<;>intro e m
 ·apply wg 999;exact au
 apply wg 4;have⟨s,e,m⟩:=g_ e m;simp[e];refine gj m c λb m=>?_;simp[e];refine Gc m 3 2 (λd f h=>∃v4,(h=H/\f.1 3=AV.sc (.int .u8 v4)/\bx f 1 (Fm.av a0).cells)/\d v4=some r) ?_ (λd _ g m=>?_)
 ·rintro _ _ ⟨v4,E,m⟩;have e:=Aj e E;simp[e];refine Gc m 999 999 (λi f h=>∃v9,(h=H/\f.1 6=AV.sc (.int .u8 v9))/\i v9=some r) ?_ (λi _ g m=>?_)
  ·rintro _ _ ⟨v9,E,m⟩;have e:=Aj e E;exact au
  have⟨j,k,l,o,e,m⟩:=Bo4 e m;simp[e];refine Cf (QE T e.2) ?_;apply Ir e m<;>intro e m
  ·exact nP
  simp[e];refine gj m c λ_ m=>?_;exact nP
 simp[e];refine wj 999 0 (λf h=>h=H/\f.1 3=AV.sc (.int .u8 b)/\f.1 24=sI a0.afo/\f.1 25=sB (fp (dC a0.afo 2) true (dC a0.afo 3))/\bx f 1 (Fm.av a0).cells) (λ_ g=>?_) ?_
 ·rcases Pb (dC a0.afo 2) e with e|e
  ·exact aj
  exact aj
 rintro _ _ E;have e:=Aj e E;apply Ir e m<;>intro e m
 ·apply wg 999;apply Ir e m<;>intro e m
  ·exact nP
  exact nP
 apply wg 5;have⟨q,e,m⟩:=g_ e m;simp[e];refine gj m c λa m=>?_;simp[e];refine QY 2 999 (λf h=>h=H/\f.1 3=AV.sc (.int .u8 (fp (dC a0.afo 2) (vw .u8 b a) b))/\f.1 5=AV.sc (.int .u8 (pz .u8 (pz .u8 a b) 6))) ?_ (λ_ g=>?_)
 ·rintro _ _ E;have e:=Aj e E;exact au
 simp[e];rcases Pb (dC a0.afo 2) e with e|e
 ·apply wg 999;exact aj
 apply wg 999;exact aj
def UL{n:Nat}:C1 prog 255 (l_ n) (λn=>AV.sc (Value.int .u8 n)) Fm.av:=(Tc n)
def Tz(T:fx)(a:w5 T){H:dM}{a0:Fm}{a1:Int}{b:Bool}{c:Int}(hm:DP a0 a1=some (b,c)):fg prog T 212 [Fm.av a0,AV.sc (.int .u8 a1)] H (AV.tuple [sB b,sI c]) H:=by
 rw[DP] at hm;have e:=a;refine wi aft func212 [] [] 999 ?_;simp[e];refine gj hm (xl T a) λ_ m=>?_;refine Il e m λe m=>?_;simp[e];refine gj m UL λ_ m=>?_;exact au
def NP(T:fx)(a:w5 T){H:dM}{a0:Fm}{b:Bool}{c:Int}(hm:ot a0=some (b,c)):fg prog T 153 [Fm.av a0] H (AV.tuple [sB b,sI c]) H:=by
 rw[ot] at hm;have e:=a;refine wi aft func153 [] [] 999 ?_;simp[e];refine mM hm (Tz T a) λ_ _ m=>?_;exact au
def GR(T:fx)(l:w5 T):∀(n:Nat),(∀{H:dM} {a0:List Fm} {a1:Pf} {a2:cS} {c:cT} {d:Int} {i:Nat} (a:KC H i a0) (hm:dP n a0 a1 a2=some (c,d)),fg prog T 81 [AV.gS i 0,Pf.av a1,cS.av a2] H (AV.tuple [cT.av c,sI d]) H)/\(∀{H:dM} {a0:List Fm} {a1:Pf} {a2:cS} {c:cT} {d:Int} {i:Nat} (a:KC H i a0) (hm:j5 n a0 a1 a2=some (c,d)),fg prog T 141 [AV.gS i 0,Pf.av a1,cS.av a2] H (AV.tuple [cT.av c,sI d]) H)/\(∀{H:dM} {a0:List Fm} {a1:Pf} {a2:cS} {c:cT} {d:Int} {i:Nat} (a:KC H i a0) (hm:gk n a0 a1 a2=some (c,d)),fg prog T 142 [AV.gS i 0,Pf.av a1,cS.av a2] H (AV.tuple [cT.av c,sI d]) H)/\(∀{H:dM} {a0:List Fm} {a1:Pf} {a2:cS} {c:cT} {d:Int} {i:Nat} (a:KC H i a0) (hm:j3 n a0 a1 a2=some (c,d)),fg prog T 143 [AV.gS i 0,Pf.av a1,cS.av a2] H (AV.tuple [cT.av c,sI d]) H)/\(∀{H:dM} {a0:List Fm} {a1:Pf} {a2:cS} {c:cT} {d:Int} {i:Nat} (a:KC H i a0) (hm:j4 n a0 a1 a2=some (c,d)),fg prog T 144 [AV.gS i 0,Pf.av a1,cS.av a2] H (AV.tuple [cT.av c,sI d]) H)/\(∀{H:dM} {a0:List Fm} {a1:Pf} {a2:cS} {c:cT} {d:Int} {i:Nat} (a:KC H i a0) (hm:fV n a0 a1 a2=some (c,d)),fg prog T 145 [AV.gS i 0,Pf.av a1,cS.av a2] H (AV.tuple [cT.av c,sI d]) H)/\(∀{H:dM} {a0:List Fm} {a1:Pf} {a2:cS} {c:cT} {d:Int} {i:Nat} (a:KC H i a0) (hm:fT n a0 a1 a2=some (c,d)),fg prog T 146 [AV.gS i 0,Pf.av a1,cS.av a2] H (AV.tuple [cT.av c,sI d]) H)/\(∀{H:dM} {a0:List Fm} {a1:Pf} {a2:cS} {c:cT} {d:Int} {i:Nat} (a:KC H i a0) (hm:gl n a0 a1 a2=some (c,d)),fg prog T 147 [AV.gS i 0,Pf.av a1,cS.av a2] H (AV.tuple [cT.av c,sI d]) H)/\(∀{H:dM} {a0:List Fm} {a1:Pf} {a2:cS} {c:cT} {d:Int} {i:Nat} (a:KC H i a0) (hm:gm n a0 a1 a2=some (c,d)),fg prog T 148 [AV.gS i 0,Pf.av a1,cS.av a2] H (AV.tuple [cT.av c,sI d]) H)/\(∀{H:dM} {a0:List Fm} {a1:Pf} {a2:cS} {c:cT} {d:Int} {i:Nat} (a:KC H i a0) (hm:l7 n a0 a1 a2=some (c,d)),fg prog T 149 [AV.gS i 0,Pf.av a1,cS.av a2] H (AV.tuple [cT.av c,sI d]) H)/\(∀{H:dM} {a0:List Fm} {a1:Pf} {a2:cS} {c:cT} {d:Int} {i:Nat} (a:KC H i a0) (hm:jK n a0 a1 a2=some (c,d)),fg prog T 151 [AV.gS i 0,Pf.av a1,cS.av a2] H (AV.tuple [cT.av c,sI d]) H)/\(∀{H:dM} {a0:List Fm} {a1:Pf} {a2:cS} {c:cT} {d:Int} {i:Nat} (a:KC H i a0) (hm:ll n a0 a1 a2=some (c,d)),fg prog T 152 [AV.gS i 0,Pf.av a1,cS.av a2] H (AV.tuple [cT.av c,sI d]) H)/\(∀{H:dM} {a0:List Fm} {a1:Pf} {a2:cS} {a3:Int} {c:cT} {d:Int} {i:Nat} (a:KC H i a0) (hm:dG n a0 a1 a2 a3=some (c,d)),fg prog T 192 [AV.gS i 0,Pf.av a1,cS.av a2,sI a3] H (AV.tuple [cT.av c,sI d]) H)/\(∀{H:dM} {a0:List Fm} {a1:Pf} {a2:cS} {a3:Fm} {a4:Tm} {c:cT} {d:Int} {i:Nat} (a:KC H i a0) (hm:dJ n a0 a1 a2 a3 a4=some (c,d)),fg prog T 202 [AV.gS i 0,Pf.av a1,cS.av a2,Fm.av a3,Tm.av a4] H (AV.tuple [cT.av c,sI d]) H):=by
  intro n
  induction n with
  |zero=>
    refine⟨?_,?_,?_,?_,?_,?_,?_,?_,?_,?_,?_,?_,?_,?_⟩
    all_goals(intro _ _;intros;rename_i hm;cases hm)
  |succ n j=>
 refine⟨?_,?_,?_,?_,?_,?_,?_,?_,?_,?_,?_,?_,?_,?_⟩
 ·intro H a0 a1 a2 c d i a hm;rw[dP] at hm;have e:=Aj l a;refine wi aft func81 [] [(1,true,[])] 7 ?_;have L:Dz prog H 113 (AV.vu (i-1)) (sI a1.afo) false=some (RI a1.afo):=Uf a.2;have e:=Aj e L;have⟨v,X,e,m⟩:=Bo2 e hm;simp[e];refine vx.val (r:=AV.tuple [cT.av v,sI X]) (H':=H) ?_ aae ?_
  ·have b:=e.2;rcases GD (dC a1.afo 1=true)with hk|hk
   ·rw[cL hk] at b;rw[nD hk abG];exact wq (IF T a b)
   rw[cJ hk] at b;rcases GD (dC a1.afo 2=true)with hk|hk
   ·rw[cL hk] at b;rw[nD hk abG];exact wq (HT T a b)
   rw[cJ hk] at b;rcases GD (dC a1.afo 3=true)with hk|hk
   ·rw[cL hk] at b;rw[nD hk abG];exact wq (j.2.1 a b)
   rw[cJ hk] at b;rcases GD (dC a1.afo 4=true)with hk|hk
   ·rw[cL hk] at b;rw[nD hk abG];exact wq (j.2.2.1 a b)
   rw[cJ hk] at b;rcases GD (dC a1.afo 5=true)with hk|hk
   ·rw[cL hk] at b;rw[nD hk abG];exact wq (j.2.2.1 a b)
   rw[cJ hk] at b;rcases GD (dC a1.afo 6=true)with hk|hk
   ·rw[cL hk] at b;rw[nD hk abG];exact wq (j.2.2.2.1 a b)
   rw[cJ hk] at b;rcases GD (dC a1.afo 7=true)with hk|hk
   ·rw[cL hk] at b;rw[nD hk abG];exact wq (j.2.2.2.2.1 a b)
   rw[cJ hk] at b;rcases GD (dC a1.afo 8=true)with hk|hk
   ·rw[cL hk] at b;rw[nD hk abG];exact wq (j.2.2.2.2.2.1 a b)
   rw[cJ hk] at b;rcases GD (dC a1.afo 12=true)with hk|hk
   ·rw[cL hk] at b;rw[nD hk abG];exact wq (j.2.2.2.2.2.1 a b)
   rw[cJ hk] at b;rcases GD (dC a1.afo 9=true)with hk|hk
   ·rw[cL hk] at b;rw[nD hk abG];exact wq (j.2.2.2.2.2.2.1 a b)
   rw[cJ hk] at b;rcases GD (dC a1.afo 13=true)with hk|hk
   ·rw[cL hk] at b;rw[nD hk abG];exact wq (j.2.2.2.2.2.2.1 a b)
   rw[cJ hk] at b;rcases GD (dC a1.afo 10=true)with hk|hk
   ·rw[cL hk] at b;rw[nD hk abG];exact wq (j.2.2.2.2.2.2.2.1 a b)
   rw[cJ hk] at b;rcases GD (dC a1.afo 14=true)with hk|hk
   ·rw[cL hk] at b;rw[nD hk abG];exact wq (j.2.2.2.2.2.2.2.1 a b)
   rw[cJ hk] at b;rcases GD (dC a1.afo 11=true)with hk|hk
   ·rw[cL hk] at b;rw[nD hk abG];exact wq (j.2.2.2.2.2.2.2.2.1 a b)
   rw[cJ hk] at b;rcases GD (dC a1.afo 15=true)with hk|hk
   ·rw[cL hk] at b;rw[nD hk abG];exact wq (j.2.2.2.2.2.2.2.2.1 a b)
   rw[cJ hk] at b;rcases GD (dC a1.afo 16=true)with hk|hk
   ·rw[cL hk] at b;rw[nD hk abG];exact wq (j.2.2.2.2.2.2.2.2.2.1 a b)
   rw[cJ hk] at b;rcases GD (dC a1.afo 17=true)with hk|hk
   ·rw[cL hk] at b;rw[nD hk abG];exact wq (j.2.2.2.2.2.2.2.2.2.1 a b)
   rw[cJ hk] at b;rcases GD (dC a1.afo 18=true)with hk|hk
   ·rw[cL hk] at b;rw[nD hk abG];exact wq (H7 T a b)
   rw[cJ hk] at b;rcases GD (dC a1.afo 19=true)with hk|hk
   ·rw[cL hk] at b;rw[nD hk abG];exact wq (j.2.2.2.2.2.2.2.2.2.2.1 a b)
   rw[cJ hk] at b;rcases GD (dC a1.afo 20=true)with hk|hk
   ·rw[cL hk] at b;rw[nD hk abG];exact wq (j.2.2.2.2.2.2.2.2.2.2.2.1 a b)
   rw[cJ hk] at b;cases b
  simp[e];apply Iq e m<;>intro e m
  ·apply wg 999;exact au
  apply wg 5;simp[e];refine gj m (xl T l) λw m=>?_;simp[e];apply Iq e m<;>intro e m
  ·apply wg 999;exact au
  apply wg 2;simp[e];refine Gc m 999 999 (λV f h=>∃M,(h=H/\bx f 6 [sI 0,sI 0,nL,nL,nL,AV.sc (.int .u32 0)]/\bx f 8 [sI v.cZ.afo,sI v.cZ.cW.afo,sL Ty.av v.cZ.cW.afp,sL Tm.av v.cZ.dy,sL Fm.av v.cZ.afp,AV.sc (.int .u32 M)])/\V M=some (c,d)) ?_ (λV _ g m=>?_)
  ·rintro _ _ ⟨M,E,m⟩;have e:=Aj e E;exact au
  simp[e];refine mM m (NP T l) λ_ x m=>?_;apply Ir e m<;>intro e m
  ·exact nP
  exact nP
 ·intro H a0 a1 a2 c d i a hm;rw[j5] at hm;have e:=Aj l a;refine wi aft func141 [] [] 999 ?_;have⟨y,e,m⟩:=g_ e hm;simp[e];refine sa m (j.1 a) λk w m=>?_;refine Il e m λe m=>?_;have⟨x,e,m⟩:=g_ e m;simp[e];refine sa m (j.1 a) λ_ _ m=>?_;refine Il e m λe m=>?_;simp[e];refine fQ m Ny λ_ m=>?_;exact au
 ·intro H a0 a1 a2 c d i a hm;rw[gk] at hm;have e:=Aj l a;refine wi aft func142 [] [] 7 ?_;have⟨y,e,m⟩:=g_ e hm;simp[e];refine sa m (j.2.2.2.2.2.2.2.2.2.2.2.2.1 a) λk w m=>?_;simp[e];apply Iq e m<;>intro e m
  ·apply wg 999;exact au
  apply wg 4;simp[e];refine QY 999 999 (λf h=>h=H/\f.1 10=sI (fp (dC a1.afo 5) 1 0)/\bx f 6 [sI 0,sI 0,nL,nL,nL,AV.sc (.int .u32 0)]/\bx f 8 [sI k.cZ.afo,sI k.cZ.cW.afo,sL Ty.av k.cZ.cW.afp,sL Tm.av k.cZ.dy,sL Fm.av k.cZ.afp,AV.sc (.int .u32 k.fF)]) ?_ (λ_ g=>?_)
  ·rintro _ _ E;have e:=Aj e E;have⟨W,e,m⟩:=g_ e m;exact au
  rcases Pb (dC a1.afo 5) e with e|e
  ·exact aj
  exact aj
 ·intro H a0 a1 a2 c d i a hm;rw[j3] at hm;have e:=Aj l a;refine wi aft func143 [] [] 999 ?_;have⟨A,e,m⟩:=g_ e hm;simp[e];refine gj m na λv m=>?_;refine Il e m λe m=>?_;simp[e];refine gj m uD λw m=>?_;refine Il e m λe m=>?_;have⟨N,e,m⟩:=g_ e m;simp[e];refine fQ m vz λ_ m=>?_;simp[e];refine sa m (j.1 a) λ_ _ m=>?_;refine Il e m λe m=>?_;simp[e];refine fQ m Ny λ_ m=>?_;exact au
 ·intro H a0 a1 a2 c d i a hm;rw[j4] at hm;have e:=Aj l a;refine wi aft func144 [] [] 999 ?_;have⟨y,e,m⟩:=g_ e hm;simp[e];refine sa m (j.2.2.2.2.2.2.2.2.2.2.2.2.1 a) λk w m=>?_;refine Il e m λe m=>?_;have⟨x,e,m⟩:=g_ e m;simp[e];refine sa m (j.1 a) λ_ _ m=>?_;refine Il e m λe m=>?_;have⟨O,e,m⟩:=g_ e m;simp[e];refine fQ m (Dl T l) λ_ m=>?_;refine Il e m λe m=>?_;have⟨F,e,m⟩:=g_ e m;exact au
 ·intro H a0 a1 a2 c d i a hm;rw[fV] at hm;have e:=Aj l a;refine wi aft func145 [] [] 7 ?_;simp[e];refine gj hm uD λ_ m=>?_;simp[e];apply Iq e m<;>intro e m
  ·apply wg 999;exact au
  apply wg 7;have⟨W,e,m⟩:=g_ e m;simp[e];refine fQ m yf λ_ m=>?_;simp[e];refine sa m (j.1 a) λt _ m=>?_;simp[e];apply Iq e m<;>intro e m
  ·apply wg 999;exact au
  apply wg 4;simp[e];refine Wj m 999 999 (λG f h=>∃B,(h=H/\f.1 11=sI B/\bx f 4 (Pf.av a1).cells/\bx f 6 [sI 0,sI 0,nL,nL,nL,AV.sc (.int .u32 0)]/\bx f 9 [sI t.cZ.afo,sI t.cZ.cW.afo,sL Ty.av t.cZ.cW.afp,sL Tm.av t.cZ.dy,sL Fm.av t.cZ.afp,AV.sc (.int .u32 t.fF)])/\G B=some (c,d)) (λG _ g m=>?_) ?_
  ·apply Ir e m<;>intro e m
   ·exact nP
   refine Il e m λe m=>?_;exact nP
  rintro _ _ ⟨B,E,m⟩;have e:=Aj e E;simp[e];refine fQ m BP λ_ m=>?_;simp[e];refine fQ m wU λ_ m=>?_;exact au
 ·intro H a0 a1 a2 c d i a hm;rw[fT] at hm;have e:=Aj l a;refine wi aft func146 [] [] 9 ?_;have⟨A,e,m⟩:=g_ e hm;simp[e];refine mM m sG λC _ m=>?_;simp[e];apply Iq e m<;>intro e m
  ·apply wg 999;exact au
  apply wg 4;simp[e];refine gj m (F4 T) λI m=>?_;simp[e];refine wj 999 999 (λf h=>h=H/\f.1 0=AV.gS i 0/\f.1 11=sI (fp (dC a1.afo 13) 6 4)/\f.1 12=AV.sc (.int .u32 (fp (dC a1.afo 13) 0 I))/\bx f 4 (Pf.av a1).cells/\bx f 5 [sI a2.eI.vars,sI a2.eI.afv,sL cU.av a2.afs,sL de.av a2.known]/\bx f 6 [sI 0,sI 0,nL,nL,nL,AV.sc (.int .u32 0)]/\bx f 8 (Tm.av A).cells/\bx f 9 [sI C.cW.afo,sL Ty.av C.cW.afp,sI C.afq]) (λ_ g=>?_) ?_
  ·rcases Pb (dC a1.afo 13) e with e|e
   ·exact aj
   exact aj
  rintro _ _ E;have e:=Aj e E;have⟨Y,e,m⟩:=g_ e m;simp[e];refine sa m (j.2.2.2.2.2.2.2.2.2.2.2.2.1 a) λ_ x m=>?_;refine Il e m λe m=>?_;simp[e];refine gj m zm λ_ m=>?_;refine Im e m λe m=>?_;have⟨Z,e,m⟩:=g_ e m;simp[e];refine sa m (BS T l) λ_ _ m=>?_;exact au
 ·intro H a0 a1 a2 c d i a hm;rw[gl] at hm;have e:=Aj l a;refine wi aft func147 [] [] 999 ?_;have⟨I,e,m⟩:=g_ e hm;have⟨aa,e,m⟩:=g_ e m;apply Ir e m<;>intro e m
  ·simp[e];refine gj m na λ_ m=>?_;refine Il e m λe m=>?_;refine Il e m λe m=>?_;simp[e];refine mM m sG λ_ _ m=>?_;refine Il e m λe m=>?_;simp[e];refine gj m zm λ_ m=>?_;refine Im e m λe m=>?_;have⟨P,e,m⟩:=g_ e m;have⟨ab,e,m⟩:=g_ e m;simp[e];refine sa m (j.2.2.2.2.2.2.2.2.2.2.2.2.2 a) λ_ _ m=>?_;refine Il e m λe m=>?_;simp[e];refine fQ m (F4 T) λ_ m=>?_;exact au
  simp[e];refine gj m na λJ m=>?_;refine Il e m λe m=>?_;refine Il e m λe m=>?_;simp[e];refine mM m sG λ_ _ m=>?_;refine Il e m λe m=>?_;simp[e];refine gj m zm λ_ m=>?_;refine Im e m λe m=>?_;have⟨ad,e,m⟩:=g_ e m;have⟨ae,e,m⟩:=g_ e m;simp[e];refine sa m (j.2.2.2.2.2.2.2.2.2.2.2.2.2 a) λ_ Q m=>?_;refine Il e m λe m=>?_;simp[e];refine fQ m HQ λo m=>?_;exact au
 ·intro H a0 a1 a2 c d i a hm;rw[gm] at hm;have e:=Aj l a;refine wi aft func148 [] [] 6 ?_;simp[e];refine wj 999 5 (λf h=>h=H/\f.1 0=AV.gS i 0/\f.1 8=sB (dC a1.afo 15)/\f.1 9=sI (fp (dC a1.afo 15) 7 5)/\bx f 4 (Pf.av a1).cells/\bx f 5 [sI a2.eI.vars,sI a2.eI.afv,sL cU.av a2.afs,sL de.av a2.known]/\bx f 6 [sI 0,sI 0,nL,nL,nL,AV.sc (.int .u32 0)]) (λ_ g=>?_) ?_
  ·rcases Pb (dC a1.afo 15) e with e|e
   ·exact aj
   exact aj
  rintro _ _ E;have e:=Aj e E;have⟨w,e,m⟩:=g_ e hm;simp[e];refine sa m (j.2.2.2.2.2.2.2.2.2.2.2.2.1 a) λs _ m=>?_;simp[e];apply Iq e m<;>intro e m
  ·apply wg 999;exact au
  apply wg 7;simp[e];refine gj m uD λW m=>?_;simp[e];apply Iq e m<;>intro e m
  ·apply wg 999;exact au
  apply wg 7;have⟨Q,e,m⟩:=g_ e m;simp[e];refine fQ m yf λ_ m=>?_;have⟨O,e,m⟩:=g_ e m;simp[e];refine fQ m vz λ_ m=>?_;simp[e];refine sa m (j.1 a) λo _ m=>?_;simp[e];apply Iq e m<;>intro e m
  ·apply wg 999;exact au
  apply wg 7;simp[e];refine mM m (MR T l) λF R m=>?_;simp[e];apply Iq e m<;>intro e m
  ·apply wg 999;exact au
  apply wg 3;simp[e];refine wj 999 999 (λf h=>h=H/\f.1 82=sB (fp (dC a1.afo 15) (dI (pz .u32 o.fF 1) 0) false)/\bx f 6 [sI 0,sI 0,nL,nL,nL,AV.sc (.int .u32 0)]/\bx f 10 [sI s.cZ.afo,sI s.cZ.cW.afo,sL Ty.av s.cZ.cW.afp,sL Tm.av s.cZ.dy,sL Fm.av s.cZ.afp,AV.sc (.int .u32 s.fF)]/\bx f 13 [sI o.cZ.afo,sI o.cZ.cW.afo,sL Ty.av o.cZ.cW.afp,sL Tm.av o.cZ.dy,sL Fm.av o.cZ.afp,AV.sc (.int .u32 o.fF)]/\bx f 14 (Fm.av F).cells) (λ_ g=>?_) ?_
  ·rcases Pb (dC a1.afo 15) e with e|e
   ·exact aj
   exact aj
  rintro _ _ E;have e:=Aj e E;refine Il e m λe m=>?_;simp[e];refine fQ m wU λS m=>?_;exact au
 ·intro H a0 a1 a2 c d i a hm;rw[l7] at hm;have e:=Aj l a;refine wi aft func149 [] [] 999 ?_;have⟨w,e,m⟩:=g_ e hm;have⟨s,e,m⟩:=g_ e m;simp[e];refine fQ m Jy λJ m=>?_;simp[e];refine fQ m ub λ_ m=>?_;simp[e];refine fQ m na λ_ m=>?_;refine Il e m λe m=>?_;simp[e];refine gj m CW λ_ m=>?_;refine Il e m λe m=>?_;have⟨R,e,m⟩:=g_ e m;simp[e];refine sa m (j.2.2.2.2.2.2.2.2.2.2.2.2.2 a) λ_ _ m=>?_;refine Il e m λe m=>?_;simp[e];refine gj m uD λ_ m=>?_;refine Il e m λe m=>?_;simp[e];refine fQ m yf λ_ m=>?_;simp[e];refine fQ m (w4 T) λ_ m=>?_;simp[e];refine fQ m vz λ_ m=>?_;have⟨af,e,m⟩:=g_ e m;simp[e];refine fQ m (w4 T) λ_ m=>?_;simp[e];refine sa m (j.2.2.2.2.2.2.2.2.2.2.2.2.2 a) λ_ _ m=>?_;refine Il e m λe m=>?_;simp[e];refine mM m (BS T l) λ_ _ m=>?_;simp[e];refine fQ m (F4 T) λ_ m=>?_;simp[e];refine fQ m wU λ_ m=>?_;exact au
 ·intro H a0 a1 a2 c d i a hm;rw[jK] at hm;have e:=Aj l a;refine wi aft func151 [] [] 999 ?_;have⟨A,e,m⟩:=g_ e hm;simp[e];refine fQ m tT λ_ m=>?_;simp[e];refine fQ m ub λ_ m=>?_;simp[e];refine fQ m na λ_ m=>?_;refine Il e m λe m=>?_;have⟨ah,e,m⟩:=g_ e m;simp[e];refine sa m (j.2.2.2.2.2.2.2.2.2.2.2.2.1 a) λ_ _ m=>?_;refine Il e m λe m=>?_;have⟨S,e,m⟩:=g_ e m;have⟨ai,e,m⟩:=g_ e m;simp[e];refine sa m (j.2.2.2.2.2.2.2.2.2.2.2.2.2 a) λ_ _ m=>?_;refine Il e m λe m=>?_;have⟨ak,e,m⟩:=g_ e m;simp[e];refine sa m (BS T l) λP _ m=>?_;exact au
 ·intro H a0 a1 a2 c d i a hm;rw[ll] at hm;have e:=Aj l a;refine wi aft func152 [] [] 7 ?_;have⟨y,e,m⟩:=g_ e hm;simp[e];refine sa m (j.2.2.2.2.2.2.2.2.2.2.2.2.1 a) λk w m=>?_;simp[e];apply Iq e m<;>intro e m
  ·apply wg 999;exact au
  apply wg 9;have⟨J,e,m⟩:=g_ e m;simp[e];apply Iq e m<;>intro e m
  ·apply wg 999;exact au
  apply wg 7;simp[e];refine gj m KJ λx8 m=>?_;have⟨N,e,m⟩:=g_ e m;simp[e];refine gj m (w4 T) λ_ m=>?_;simp[e];refine gj m qu λ_ m=>?_;simp[e];refine gj m qu λ_ m=>?_;simp[e];refine gj m Ks λ_ m=>?_;simp[e];refine mM m (BS T l) λU _ m=>?_;simp[e];refine Wj m 999 999 (λK f h=>∃D,(h=H/\f.1 63=sB D/\bx f 6 [sI 0,sI 0,nL,nL,nL,AV.sc (.int .u32 0)]/\bx f 8 [sI k.cZ.afo,sI k.cZ.cW.afo,sL Ty.av k.cZ.cW.afp,sL Tm.av k.cZ.dy,sL Fm.av k.cZ.afp,AV.sc (.int .u32 k.fF)]/\bx f 10 (Fm.av k.cZ).cells/\bx f 12 (Ty.av x8).cells/\bx f 13 (Fm.av U).cells)/\K D=some (c,d)) (λK _ g m=>?_) ?_
  ·apply Iq e m<;>intro e m
   ·exact nP
   simp[e];refine gj m Kj λ_ m=>?_;exact nP
  rintro _ _ ⟨D,E,m⟩;have e:=Aj e E;refine Il e m λe m=>?_;simp[e];refine fQ m BP λ_ m=>?_;simp[e];refine fQ m BP λ_ m=>?_;exact au
 ·intro H a0 a1 a2 a3 c d i a hm;rw[dG] at hm;have e:=Aj l a;refine wi aft func192 [] [] 5 ?_;simp[e];refine mM hm (j.1 a) λq u m=>?_;simp[e];refine QY 999 999 (λf h=>h=H/\f.1 11=sI u/\f.1 27=sB (fp (dC u 0) (dI q.cZ.afo a3) false)/\bx f 8 [sI 0,sI 0,nL,nL,nL,AV.sc (.int .u32 0)]/\bx f 10 [sI q.cZ.afo,sI q.cZ.cW.afo,sL Ty.av q.cZ.cW.afp,sL Tm.av q.cZ.dy,sL Fm.av q.cZ.afp,AV.sc (.int .u32 q.fF)]) ?_ (λ_ g=>?_)
  ·rintro _ _ E;have e:=Aj e E;refine Il e m λe m=>?_;exact au
  rcases Pb (dC u 0) e with e|e
  ·exact aj
  exact aj
 ·intro H a0 a1 a2 a3 a4 c d i a hm;rw[dJ] at hm;have e:=Aj l a;refine wi aft func202 [] [] 999 ?_;simp[e];refine mM hm (j.1 a) λq u m=>?_;refine Il e m λe m=>?_;simp[e];refine mM m (BS T l) λ_ v m=>?_;refine Il e m λe m=>?_;simp[e];refine fQ m (Dl T l) λw m=>?_;exact au
def Hv(T:fx)(e:w5 T){H:dM}{a0:List Fm}{a1:Pf}{a2:cS}{b:cT}{c:Int}{d:Nat}(a:KC H d a0){n:Nat}(hm:dP n a0 a1 a2=some (b,c)):fg prog T 81 [AV.gS d 0,Pf.av a1,cS.av a2] H (AV.tuple [cT.av b,sI c]) H:=(GR T e n).1 a hm
def Uv{n:Nat}:C1 prog 157 (zP n) Tm.av Tm.av:=by
 refine i1 λn l=>v1 func157 λT H a0 r m e=>?_;rw[zP] at m;simp[e];refine fQ m BB λj m=>?_;simp[e];refine Wr e m 999 (λk c f h=>∃a,(h=H/\f.1 15=sL Tm.av a0.afp/\f.1 16=sI (dT a0.afp)/\f.1 17=sI k/\bx f 2 [sI 0,sI 0,sI 0,nL,nL]/\bx f 3 [sI a0.afo,sI a0.afr,sI j.afo,sL Ty.av j.afp,sT a Tm.av c])/\Ow f [26] a c) (by exact⟨.full,aav,kG.full⟩) (λc d _ _ E m=>?_) (λk _ c d _ _ _ _ E e m z p=>?_)
 ·have⟨a,E,b⟩:=E;have e:=Aj e E;dsimp only[cR]at m;exact au
 have⟨a,E,b⟩:=E;have e:=Aj e E;simp[e];refine fQ m l λi m=>?_;have⟨e,m⟩:=Ck e m;simp[e];refine Ad (f:=Tm.av) c [i] b JY e.2 ?_;simp[e];cases m;exact p _ _ _ ⟨(.loc 26 (d.gN 26+1)),aav,(On 26)⟩ z
def J1:C2 prog 156 ny Tm.av Tm.av sI:=by
 refine v2 func156 λT H a0 a1 r m e=>?_;rw[ny] at m;simp[e];refine gj m Uv λ_ m=>?_;exact au
def LG:C1 prog 83 pt Fm.av Fm.av:=by
 refine v1 func83 λT H a0 r m e=>?_;rw[pt] at m;simp[e];refine mM m (ud T (st:=λ_:Unit=>H) (KV.const _) (λX _ _ _ _ _ h=>by obtain⟨a,rfl⟩:=ES h;exact J1 a)) λ_ _ m=>?_;exact au
def VY:qx prog 158=true:=by kernel_rfl
set_option maxHeartbeats 4000000 in
def YL(x k idx:Nat)(w:World)(b:((x:Int)==0)=false)
  (key:bits BinOp.and IntKind.u32 (x:Int) (-(x:Int)%4294967296)*125613361%4294967296/134217728=(idx:Int))
  (hi:idx<32) (c:k<32) (a:w.cell? ⟨0,idx,none⟩=some (.int .u8 k)):Calls prog 158 #[.int .u32 x] w λe w'=>e=.returned (.int .i64 k)/\w'=w:=by
 go_enter func158,ntmps158
 go_wp2_with (simp only[key])
 go_ret
 exact⟨rfl,rfl⟩
set_option maxHeartbeats 4000000 in
def Yp(w:World):Calls prog 158 #[.int .u32 0] w λe w'=>e=.returned (.int .i64 32)/\w'=w:=by
 go_enter func158,ntmps158
 go_wp2
 go_ret
 exact⟨rfl,rfl⟩
def Yy(n:Int):IntKind.u32.wrap n=n%4294967296:=by simp[IntKind.wrap,IntKind.signed,IntKind.bits]
def aao(a b:Nat)(e:a<4294967296)(f:b<4294967296):bits .and .u32 (a:Int) (b:Int)=((a&&&b:Nat):Int):=by
 have g:a&&&b<2^32:=Yu _ Zb
 have c:(BitVec.ofInt 32 (a:Int)).toNat=a:=by
  rw[acv];omega
 have d:(BitVec.ofInt 32 (b:Int)).toNat=b:=by
  rw[acv];omega
 show IntKind.u32.wrap ((BitVec.ofInt 32 (a:Int)&&&BitVec.ofInt 32 (b:Int)).toNat:Int)=_;rw[Ya,c,d,Yy];omega
def aaa(x a:Nat)(c:x<4294967296)(d:x≠0)(b:x&&&(4294967296-x)=a):bits BinOp.and IntKind.u32 (x:Int) (-(x:Int)%4294967296)*125613361%4294967296/134217728=((a*125613361%4294967296/134217728:Nat):Int):=by
 have e:-(x:Int)%4294967296=((4294967296-x:Nat):Int):=Zb
 rw[e,aao x _ c Zb,b];omega
def aan:∀j,j<32->lu[j]?=some ((Lib.deBruijn32tab.getD j 0:Nat):Int):=by decide+kernel
def DI(T:fx)(n:w5 T){H:dM}{a0 g:Int}(hm:h7 a0=some g):fg prog T 158 [AV.sc (.int .u32 a0)] H (sI g) H:=by
 unfold h7 at hm
 split at hm
 case isFalse=>cases hm
 rename_i h;obtain⟨x,rfl⟩:∃x:Nat,a0=(x:Int):=⟨a0.toNat,Zb⟩;obtain rfl:=hZ hm
 have j:x<2^32:=Zb
 rw[AZ];refine fg.Yi VY λG F w vs hg o=>?_
 obtain⟨v1,rfl,a⟩:∃v,vs=[v]/\k5 F G H.length (AV.sc (.int .u32 (x:Int))) v:=by
  cases o with
  |cons a b=>cases b;exact⟨_,rfl,a⟩
 cases a;refine⟨_,.sc rfl,?_⟩
 by_cases c:x=0
 ·subst c;exact(Yp w).mono λe w' ⟨a,b⟩=>⟨a,by rw[b];exact acF _ _⟩
 ·have⟨d,k⟩:=Lib.lowest_bit 32 x c j;have⟨hi,f⟩:=Lib.deBruijn32_at _ k;have p:=hg.J4 0 _ n.2.2;cases p with
  |tB a b r=>
   have l:=aan _ hi;rw[f] at l;have⟨v,q,h⟩:=a.get (i:=2^Lib.ctz 32 x*125613361%4294967296/134217728) (x:=.sc (.int .u8 (Lib.ctz 32 x:Int))) (by simp[AV.cells,l]);cases h;have m:=hg.NK _ _ _ (b _ _ q);rw[sZ] at m;exact(YL x (Lib.ctz 32 x) _ w aaV (aaa x _ j c d) hi k m).mono λe w' ⟨a,b⟩=>⟨a,by rw[b];exact acF _ _⟩
def E6(T:fx)(d:w5 T){H:dM}{a0:Int}{i:List Int}(hm:kA a0=some i):fg prog T 84 [AV.sc (.int .u32 a0)] H (sL sI i) H:=by
 rw[kA] at hm;have e:=d;refine wi aft func84 [] [] 999 ?_;simp[e];refine Wn hm 999 (λs1 f h=>∃a,(h=H/\f.1 0=AV.sc (.int .u32 s1.1)/\f.1 3=sT a sI s1.2)/\Ow f [14] a s1.2) (by exact⟨.full,aav,kG.full⟩) (λs1 fr2 _ _ _ _ E m z p=>?_);have⟨j,v9⟩:=s1;have⟨a,E,b⟩:=E;have e:=Aj e E;dsimp only[mW]at m;apply Ir e m<;>intro e m
 ·cases m;have m:=Qb z;dsimp only[mW]at m;exact au
 simp[e];refine gj m (DI T d) λc m=>?_;have⟨e,m⟩:=Ck e m;simp[e];refine Ao (f:=sI) v9 [c] b Vs e.2 ?_;simp[e];cases m;exact p _ _ _ ⟨(.loc 14 (fr2.gN 14+1)),aav,(On 14)⟩ z
def Ez(T:fx)(a:w5 T){H:dM}{a0:List Fm}{a1:Sq}{a2:Pf}{b:xt}{c:Int}(hm:iK a0 a1 a2=some (b,c)):fg prog T 23 [sL Fm.av a0,Sq.av a1,Pf.av a2] H (AV.tuple [xt.av b,sI c]) H:=by
 rw[iK] at hm;refine gG.Dq (Post:=λx K=>x=AV.tuple [xt.av b,sI c]/\∃X,K=H++X) ?_ (λ_ _ h=>⟨_,h.2.choose_spec,by rw[h.1];simp[AV.low,AV.nk],h.1,rfl⟩);have e:=a;refine wi aft func23 [29] [] 999 ?_;simp[e];refine gj hm (MX T a) λ_ m=>?_;refine Il e m λe m=>?_;simp[e];refine gj m (QB T a) λ_ m=>?_;refine Il e m λe m=>?_;simp[e];refine gj m (P1 T) λ_ m=>?_;simp[e];refine fQ m OI λ_ m=>?_;simp[e];refine sa m (Hv T a ⟨aav,aav⟩) λ_ _ m=>?_;refine Il e m λe m=>?_;simp[e];refine fQ m LG λ_ m=>?_;simp[e];refine fQ m (E6 T a) λ_ m=>?_;exact au
def vq:C2 prog 51 np Fm.av Tm.av Tm.av:=by
 refine v2 func51 λT H a0 a1 r m e=>?_;rw[np] at m;simp[e];refine fQ m ti λa m=>?_;simp[e];refine fQ m ti λb m=>?_;have e:=Aj e (show AV.agg [sI 1,sI 0,AV.slice .pw [],AV.slice .pw [Tm.av a,Tm.av b],AV.slice .pw []]=Fm.av (Fm.mk 1 (Ty.mk 0 []) [a,b] []) by rw[Fm.jf];rfl);exact au
def uv:C3 prog 50 js Fm.av sI Ty.av Fm.av:=by
 refine v3 func50 λT H a0 a1 a2 r m e=>?_;rw[js] at m;simp[e];refine fQ m oE λa m=>?_;simp[e];refine fQ m qi λb m=>?_;have e:=Aj e (show AV.agg [sI a0,sI a.afo,sL Ty.av a.afp,AV.slice .pw [],AV.slice .pw [Fm.av b]]=Fm.av (Fm.mk a0 a [] [b]) by rw[Fm.jf];rfl);exact au
def lL{n:Nat}:C2 prog 61 (eG n) sB Ty.av Ty.av:=by
 refine i2 λn b=>u2 3 func61 λT H a0 a1 r m e=>?_;rw[eG] at m;simp[e];refine wj 999 999 (λf h=>h=H/\f.1 19=sB (fp (dI a0.afo a1.afo) true (dI (dT a0.afp) (dT a1.afp)))/\bx f 2 (Ty.av a0).cells/\bx f 3 (Ty.av a1).cells) (λ_ g=>?_) ?_
 ·rcases Pb (dI a0.afo a1.afo) e with e|e
  ·exact aj
  exact aj
 rintro _ _ E;have e:=Aj e E;refine Il e m λe m=>?_;simp[e];refine Wr e m 999 (λa _ f h=>h=H/\f.1 22=sI (dT a0.afp)/\f.1 23=sI a/\bx f 2 (Ty.av a0).cells/\bx f 3 (Ty.av a1).cells) aav (λ_ _ _ _ E m=>?_) (λa _ _ _ _ _ _ _ E e m z p=>?_)
 ·have e:=Aj e E;dsimp only[cR]at m;exact au
 have e:=Aj e E;have⟨c,e,m⟩:=g_ e m;simp[e];refine fQ m b λ_ m=>?_;refine Im e m λe m=>?_;exact al
def Hq{n:Nat}:C2 prog 168 (jk n) sB Tm.av Tm.av:=by
 refine i2 λn c=>u2 3 func168 λT H a0 a1 r m e=>?_;rw[jk] at m;simp[e];refine Wj m 999 999 (λa f h=>∃v2,(h=H/\f.1 34=sB v2/\bx f 2 (Tm.av a0).cells/\bx f 3 (Tm.av a1).cells)/\a v2=some r) (λa _ g m=>?_) ?_
 ·apply Iq e m<;>intro e m
  ·exact nP
  apply Iq e m<;>intro e m
  ·exact nP
  simp[e];refine gj m lL λ_ m=>?_;apply Ir e m<;>intro e m
  ·exact nP
  exact nP
 rintro _ _ ⟨v2,E,m⟩;have e:=Aj e E;refine Il e m λe m=>?_;simp[e];refine Wr e m 999 (λb _ f h=>h=H/\f.1 37=sI (dT a0.afp)/\f.1 38=sI b/\bx f 2 (Tm.av a0).cells/\bx f 3 (Tm.av a1).cells) aav (λ_ _ _ _ E m=>?_) (λb _ _ _ _ _ _ _ E e m z p=>?_)
 ·have e:=Aj e E;dsimp only[cR]at m;exact au
 have e:=Aj e E;have⟨d,e,m⟩:=g_ e m;simp[e];refine fQ m c λ_ m=>?_;refine Im e m λe m=>?_;exact al
def NZ:C2 prog 105 rp sB (sL Tm.av) (sL Tm.av):=by
 refine v2 func105 λT H a0 a1 r m e=>?_;rw[rp] at m;refine Il e m λe m=>?_;simp[e];refine Wr e m 999 (λa _ f h=>h=H/\f.1 0=sL Tm.av a0/\f.1 1=sL Tm.av a1/\f.1 12=sI (dT a0)/\f.1 13=sI a) aav (λ_ _ _ _ E m=>?_) (λa _ _ _ _ _ _ _ E e m z p=>?_)
 ·have e:=Aj e E;dsimp only[cR]at m;exact au
 have e:=Aj e E;have⟨b,e,m⟩:=g_ e m;simp[e];refine fQ m Hq λ_ m=>?_;refine Im e m λe m=>?_;exact al
def R_{n:Nat}:C2 prog 37 (qT n) sB Fm.av Fm.av:=by
 refine i2 λn c=>u2 3 func37 λT H a0 a1 r m e=>?_;rw[qT] at m;simp[e];refine Wj m 999 999 (λa f h=>∃v2,(h=H/\f.1 35=sB v2/\bx f 2 (Fm.av a0).cells/\bx f 3 (Fm.av a1).cells)/\a v2=some r) (λa _ g m=>?_) ?_
 ·apply Iq e m<;>intro e m
  ·exact nP
  simp[e];refine gj m lL λ_ m=>?_;apply Ir e m<;>intro e m
  ·exact nP
  simp[e];refine gj m NZ λ_ m=>?_;apply Ir e m<;>intro e m
  ·exact nP
  exact nP
 rintro _ _ ⟨v2,E,m⟩;have e:=Aj e E;refine Il e m λe m=>?_;simp[e];refine Wr e m 999 (λb _ f h=>h=H/\f.1 38=sI (dT a0.afp)/\f.1 39=sI b/\bx f 2 (Fm.av a0).cells/\bx f 3 (Fm.av a1).cells) aav (λ_ _ _ _ E m=>?_) (λb _ _ _ _ _ _ _ E e m z p=>?_)
 ·have e:=Aj e E;dsimp only[cR]at m;exact au
 have e:=Aj e E;have⟨d,e,m⟩:=g_ e m;simp[e];refine fQ m c λ_ m=>?_;refine Im e m λe m=>?_;exact al
def Hw(T:fx)(c:w5 T){H:dM}{a:Bool}(hm:tX=some a):fg prog T 12 [] H (sB a) H:=by
 rw[tX] at hm;have e:=c;refine wi aft func12 [] [] 6 ?_;simp[e];refine gj hm k0 λ_ m=>?_;simp[e];refine fQ m i_ λ_ m=>?_;simp[e];refine fQ m rf λ_ m=>?_;simp[e];refine fQ m Ap λ_ m=>?_;simp[e];refine sa m (Ez T c) λ_ _ m=>?_;simp[e];refine Gc m 999 999 (λd f h=>∃b,(h=H/\f.1 0=sB b)/\d b=some a) ?_ (λd _ g m=>?_)
 ·rintro _ _ ⟨b,E,m⟩;have e:=Aj e E;exact au
 apply Ir e m<;>intro e m
 ·exact nP
 apply Ir e m<;>intro e m
 ·exact nP
 simp[e];refine fQ m i_ λ_ m=>?_;simp[e];refine fQ m i_ λ_ m=>?_;simp[e];refine fQ m vq λ_ m=>?_;simp[e];refine fQ m uv λ_ m=>?_;simp[e];refine fQ m R_ λ_ m=>?_;exact nP
def P4:C1 prog 13 D8 sB (sL sI):=by
 refine v1 func13 λT H a0 r m e=>?_;rw[D8] at m;exact au
def W':qx prog 16=true:=by kernel_rfl
def PK(T:fx){a0:List Int}{b:db}(hm:KF a0=some b):fg prog T 16 [AV.slice .pw (List.map (λn=>AV.sc (Value.int .i64 n)) a0)] [] (AV.gS 0 0) (iE [[]] 0 [AV.slice .pw (List.map (λn=>AV.sc (Value.int .i64 n)) b.l),AV.sc (.int .i64 b.vr)]):=by
 obtain rfl:=hZ hm;refine gG.intro (fn:=f16) func16 rfl W' (Kz rfl) ?_;refine jF.Dh λc a=>?_;refine jF.region [] abn ?_;simp;refine a _ _ ?_;refine jF.Dh λc a=>?_;refine jF.region [5] abn ?_;simp;refine a _ _ ?_;refine jF.ret ?_;simp[DU,iE]
def XR:C2 prog 128 HL sI sI sI:=by
 refine v2 func128 λT H a0 a1 r m e=>?_;rw[HL] at m;have⟨e,m⟩:=Ck e m;have⟨e,m⟩:=Ck e m;exact au
def iq(T:fx){H:dM}{a0:db}{a1 i:Int}{a:db}{b:Nat}(c:H[b]?=some [sL sI a0.l,sI a0.vr])(hm:gW a0 a1=some (i,a)):fg prog T 55 [AV.gS b 0,sI a1] H (sI i) (iE H b [sL sI a.l,sI a.vr]):=by
 rw[gW] at hm;have d:=ie c;refine gG.Qi c ?_;have e:=d;refine wi aft func55 [] [(1,true,[]),(3,true,[])] 3 ?_;simp[e];refine wj 999 999 (λf h=>h=iE H b [sL sI a0.l,sI a0.vr]/\f.1 0=AV.gS b 0/\f.1 1=sI a1/\f.1 19=sB (fp (xT a1 1) true (sS a0.vr (dT a0.l)))) (λ_ g=>?_) ?_
 ·rcases Pb (xT a1 1) e with e|e
  ·exact aj
  exact aj
 rintro _ _ E;have e:=Aj e E;refine Il e hm λe m=>?_;have⟨j,e,m⟩:=g_ e m;simp[e];refine gj m XR λ_ m=>?_;exact au
def Fi:C3 prog 88 m7 Fm.av sI Fm.av Fm.av:=by
 refine v3 func88 λT H a0 a1 a2 r m e=>?_;rw[m7] at m;simp[e];refine fQ m qi λa m=>?_;simp[e];refine fQ m qi λb m=>?_;have e:=Aj e (show AV.agg [sI a0,sI 0,AV.slice .pw [],AV.slice .pw [],AV.slice .pw [Fm.av a,Fm.av b]]=Fm.av (Fm.mk a0 (Ty.mk 0 []) [] [a,b]) by rw[Fm.jf];rfl);exact au
def vi:C0 prog 71 q8 Ty.av:=by
 refine v0 func71 λT H r m e=>?_;rw[q8] at m;exact au
def Lg:C0 prog 96 Ae Ty.av:=by
 refine v0 func96 λT H r m e=>?_;rw[Ae] at m;exact au
def M_:C2 prog 97 xC Ty.av Ty.av Ty.av:=by
 refine v2 func97 λT H a0 a1 r m e=>?_;rw[xC] at m;simp[e];refine fQ m oE λa m=>?_;simp[e];refine fQ m oE λb m=>?_;have e:=Aj e (show AV.agg [sI 3,AV.slice .pw [Ty.av a,Ty.av b]]=Ty.av (Ty.mk 3 [a,b]) by rw[Ty.jf];rfl);exact au
def wC:C2 prog 60 lC Ty.av Ty.av Ty.av:=by
 refine v2 func60 λT H a0 a1 r m e=>?_;rw[lC] at m;simp[e];refine fQ m oE λa m=>?_;simp[e];refine fQ m oE λb m=>?_;have e:=Aj e (show AV.agg [sI 4,AV.slice .pw [Ty.av a,Ty.av b]]=Ty.av (Ty.mk 4 [a,b]) by rw[Ty.jf];rfl);exact au
def Ut(T:fx):∀(n:Nat),(∀{H:dM} {a0:db} {a1:Int} {i:Ty} {a:db} {b:Nat} (c:H[b]?=some [sL sI a0.l,sI a0.vr]) (hm:ja n a0 a1=some (i,a)),fg prog T 33 [AV.gS b 0,sI a1] H (Ty.av i) (iE H b [sL sI a.l,sI a.vr])):=by
  intro n
  induction n with
  |zero=>
    skip
    all_goals(intro _ _;intros;rename_i hm;cases hm)
  |succ n j=>
 intro H a0 a1 i a b c hm;rw[ja] at hm;have k:=ie c;refine gG.Qi c ?_;have e:=k;refine wi aft func33 [] [] 2 ?_;simp[e];refine Gc hm 3 999 (λo f h=>∃v2,(h=iE H b [sL sI v2.l,sI v2.vr]/\f.1 4=AV.mD 4 (f.gen 4) 0/\f.box 4=some [sI 0,nL])/\o v2=some (i,a)) ?_ (λo _ g m=>?_)
 ·rintro _ _ ⟨v2,E,m⟩;have e:=Aj e E;simp[e];refine gj m k0 λ_ m=>?_;exact au
 simp[e];refine mM m (iq T aav) λd d8 m=>?_;simp[e];refine wj 999 999 (λf h=>h=iE H b [sL sI d8.l,sI d8.vr]/\f.1 0=AV.gS b 0/\f.1 1=sI a1/\f.1 6=sI d/\f.1 7=sB (fp (dC d 0) true (fp (dC d 1) true (dC d 2)))/\bx f 4 [sI 0,nL]) (λ_ g=>?_) ?_
 ·rcases Pb (dC d 0) e with e|e
  ·exact aj
  rcases Pb (dC d 1) e with e|e
  ·exact aj
  exact aj
 rintro _ _ E;have e:=Aj e E;apply Iq e m<;>intro e m
 ·simp[e];refine gj m k0 λ_ m=>?_;exact au
 apply Iq e m<;>intro e m
 ·simp[e];refine gj m vi λ_ m=>?_;exact au
 apply Iq e m<;>intro e m
 ·simp[e];refine gj m Lg λ_ m=>?_;exact au
 apply Iq e m<;>intro e m
 ·apply Ir e m<;>intro e m
  ·exact nP
  simp[e];refine mM m (j aav) λ_ d16 m=>?_;simp[e];refine mM m (j aav) λ_ d18 m=>?_;simp[e];refine gj m M_ λ_ m=>?_;exact au
 apply Ir e m<;>intro e m
 ·exact nP
 apply Ir e m<;>intro e m
 ·exact nP
 simp[e];refine mM m (j aav) λ_ d21 m=>?_;simp[e];refine mM m (j aav) λ_ d23 m=>?_;simp[e];refine gj m wC λ_ m=>?_;exact au
def sq(T:fx){H:dM}{a0:db}{a1:Int}{d:Ty}{a:db}{b:Nat}(c:H[b]?=some [sL sI a0.l,sI a0.vr]){n:Nat}(hm:ja n a0 a1=some (d,a)):fg prog T 33 [AV.gS b 0,sI a1] H (Ty.av d) (iE H b [sL sI a.l,sI a.vr]):=(Ut T n) c hm
def wI:C2 prog 89 oB (sL Ty.av) (sL Ty.av) (sL Ty.av):=by
 refine v2 func89 λT H a0 a1 r m e=>?_;rw[oB] at m;have⟨e,m⟩:=Ck e m;simp[e];refine Ao (f:=Ty.av) [] a0 (kG.full (D:=[])) Lx e.2 ?_;have⟨e,m⟩:=Ck e m;simp[e];refine Ao (f:=Ty.av) (fK [] a0) a1 (kG.new (D:=[6]) (d:=6) Zk) Lx e.2 ?_;exact au
def V':C2 prog 99 Dt (sL sI) (sL Ty.av) Ty.av:=by
 refine v2 func99 λT H a0 a1 r m e=>?_;rw[Dt] at m;simp[e];refine Wr e m 0 (λi s2 f h=>∃b,(h=H/\f.1 0=sL Ty.av a0/\f.1 5=sT b sI s2/\f.1 8=sI (dT a0)/\f.1 9=sI i/\bx f 3 (Ty.av a1).cells)/\Ow f [25] b s2) (by exact⟨.full,aav,kG.full⟩) (λs2 j _ _ E m=>?_) (λi _ s2 j _ _ _ l E e m z p=>?_)
 ·have⟨b,E,c⟩:=E;have e:=Aj e E;apply wg 999;dsimp only[cR]at m;exact au
 have⟨b,E,c⟩:=E;have e:=Aj e E;apply wg 5;simp[e];refine Gc m 999 999 (λk f h=>∃v11 a,(h=H/\f.1 0=sL Ty.av a0/\f.1 5=sT a sI v11/\f.1 8=sI (dT a0)/\f.1 9=sI i/\bx f 3 (Ty.av a1).cells)/\Ow f [25] a v11/\k v11=some l) ?_ (λk _ g m=>?_)
 ·rintro _ _ ⟨v11,a,E,d,m⟩;have e:=Aj e E;simp[e];cases m;exact p _ _ _ ⟨a,aav,d⟩ z
 have⟨n,e,m⟩:=g_ e m;simp[e];refine fQ m lL λ_ m=>?_;apply Ir e m<;>intro e m
 ·simp[e];exact g _ _ ⟨s2,b,aav,c,m⟩
 have⟨e,m⟩:=Ck e m;simp[e];refine Ao (f:=sI) s2 [i] c Vs e.2 ?_;simp[e];exact g _ _ ⟨(fK s2 [i]),(.loc 25 (j.gN 25+1)),aav,(On 25),m⟩
def jE:C2 prog 100 fj Tm.av sI (sL Tm.av):=by
 refine v2 func100 λT H a0 a1 r m e=>?_;rw[fj] at m;simp[e];refine Wr e m 999 (λi s2 f h=>∃a,(h=H/\f.1 0=sI a0/\f.1 5=sT a Tm.av s2/\f.1 8=sL Tm.av a1/\f.1 9=sI (dT a1)/\f.1 10=sI i/\bx f 4 [sI 0,sI 0,sI 0,nL,nL])/\Ow f [18] a s2) (by exact⟨.full,aav,kG.full⟩) (λs2 c _ _ E m=>?_) (λi _ s2 c _ _ _ _ E e m z p=>?_)
 ·have⟨a,E,b⟩:=E;have e:=Aj e E;dsimp only[cR]at m;exact au
 have⟨a,E,b⟩:=E;have e:=Aj e E;simp[e];refine gj m ti λd m=>?_;have⟨e,m⟩:=Ck e m;simp[e];refine Ao (f:=Tm.av) s2 [d] b JY e.2 ?_;simp[e];cases m;exact p _ _ _ ⟨(.loc 18 (c.gN 18+1)),aav,(On 18)⟩ z
def sy:C3 prog 62 nQ Tm.av sI Ty.av (sL Tm.av):=by
 refine v3 func62 λT H a0 a1 a2 r m e=>?_;rw[nQ] at m;simp[e];refine gj m jE λ_ m=>?_;simp[e];refine gj m oE λ_ m=>?_;exact au
def N9:C1 prog 178 rm Tm.av sI:=by
 refine v1 func178 λT H a0 r m e=>?_;rw[rm] at m;simp[e];refine gj m jE λ_ m=>?_;simp[e];refine Wn m 999 (λs2 f h=>∃a b,h=H/\f.1 0=sI s2.1/\bx f 2 [sI 0,sI 0,sI 0,nL,nL]/\bx f 3 [sI s2.2.1,sI s2.2.2.1,sI s2.2.2.2.1,sT a Ty.av s2.2.2.2.2.1,sT b Tm.av s2.2.2.2.2.2]) ⟨.pw,.pw,aav⟩ (λs2 _ _ _ _ _ E m z p=>?_);have⟨v9,v10,v11,v12,c,d⟩:=s2;have⟨a,b,E⟩:=E;have e:=Aj e E;dsimp only[Bn]at m;apply Ir e m<;>intro e m
 ·cases m;have m:=Qb z;dsimp only[Bn]at m;exact au
 simp[e];cases m;exact p _ _ _ ⟨.full,.full,aav⟩ z
def OE:C1 prog 127 y9 (t2 Tm.av sI) sI:=by
 refine v1 func127 λT H a0 r m e=>?_;rw[y9] at m;refine Il e m λe m=>?_;refine Il e m λe m=>?_;simp[e];refine gj m N9 λ_ m=>?_;exact au
def Jl:C1 prog 54 B2 Tm.av sI:=by
 refine v1 func54 λT H a0 r m e=>?_;rw[B2] at m;simp[e];refine mM m OE λ_ _ m=>?_;exact au
def rX:C1 prog 165 oC Tm.av Tm.av:=by
 refine v1 func165 λT H a0 r m e=>?_;rw[oC] at m;simp[e];refine fQ m k0 λ_ m=>?_;simp[e];refine fQ m sy λ_ m=>?_;exact au
def Jv:C3 prog 166 vM Tm.av Tm.av Tm.av Tm.av:=by
 refine v3 func166 λT H a0 a1 a2 r m e=>?_;rw[vM] at m;simp[e];refine fQ m k0 λ_ m=>?_;simp[e];refine fQ m sy λ_ m=>?_;exact au
def KZ:C0 prog 102 vo Tm.av:=by
 refine v0 func102 λT H r m e=>?_;rw[vo] at m;simp[e];refine gj m i_ λ_ m=>?_;simp[e];refine gj m i_ λ_ m=>?_;simp[e];refine gj m jE λ_ m=>?_;simp[e];refine gj m rX λ_ m=>?_;simp[e];refine gj m rX λ_ m=>?_;simp[e];refine gj m i_ λ_ m=>?_;simp[e];refine gj m Jv λ_ m=>?_;simp[e];refine gj m rX λ_ m=>?_;simp[e];refine gj m rX λ_ m=>?_;exact au
def PY:C2 prog 101 EY Tm.av Tm.av (sL Tm.av):=by
 refine v2 func101 λT H a0 a1 r m e=>?_;rw[EY] at m;simp[e];refine Wr e m 999 (λc s2 f h=>h=H/\f.1 7=sL Tm.av a1/\f.1 8=sI (dT a1)/\f.1 9=sI c/\bx f 2 [sI s2.1,sI s2.2.1,sI s2.2.2.1,sL Ty.av s2.2.2.2.1,sL Tm.av s2.2.2.2.2]/\bx f 4 [sI 0,sI 0,sI 0,nL,nL]) aav (λs2 _ _ _ E m=>?_) (λc _ s2 _ _ _ _ _ E e m z p=>?_)
 ·have⟨v10,v11,v12,a,b⟩:=s2;have e:=Aj e E;dsimp only[cR,Kr]at m;exact au
 have⟨v10,v11,v12,a,b⟩:=s2;have e:=Aj e E;dsimp only[Kr]at m;simp[e];refine gj m jE λ_ m=>?_;exact al
def Sf:C0 prog 167 wS Tm.av:=by
 refine v0 func167 λT H r m e=>?_;rw[wS] at m;simp[e];refine gj m jE λ_ m=>?_;simp[e];refine gj m i_ λ_ m=>?_;simp[e];refine gj m rX λ_ m=>?_;simp[e];refine gj m rX λ_ m=>?_;simp[e];refine gj m i_ λ_ m=>?_;simp[e];refine gj m Jv λ_ m=>?_;simp[e];refine gj m rX λ_ m=>?_;exact au
def TI:C0 prog 103 y7 Tm.av:=by
 refine v0 func103 λT H r m e=>?_;rw[y7] at m;simp[e];refine gj m i_ λ_ m=>?_;simp[e];refine gj m Sf λ_ m=>?_;simp[e];refine gj m i_ λ_ m=>?_;simp[e];refine gj m jE λ_ m=>?_;simp[e];refine gj m rX λ_ m=>?_;simp[e];refine gj m rX λ_ m=>?_;simp[e];refine gj m i_ λ_ m=>?_;simp[e];refine gj m Jv λ_ m=>?_;simp[e];refine gj m rX λ_ m=>?_;simp[e];refine gj m rX λ_ m=>?_;exact au
def UI(T:fx):∀(n:Nat),(∀{H:dM} {a0:db} {a1:List Ty} {a2:Ty} {a3:Int} {q:Tm} {b:db} {c:Nat} (r:H[c]?=some [sL sI a0.l,sI a0.vr]) (hm:gL n a0 a1 a2 a3=some (q,b)),fg prog T 35 [AV.gS c 0,sL Ty.av a1,Ty.av a2,sI a3] H (Tm.av q) (iE H c [sL sI b.l,sI b.vr])):=by
  intro n
  induction n with
  |zero=>
    skip
    all_goals(intro _ _;intros;rename_i hm;cases hm)
  |succ n a=>
 intro H a0 a1 a2 a3 q b c r hm;rw[gL] at hm;have x:=ie r;refine gG.Qi r ?_;have e:=x;refine wi aft func35 [] [] 5 ?_;simp[e];refine gj hm V' λC m=>?_;simp[e];refine Wj m 999 0 (λy f h=>∃v3 v4,(h=iE H c [sL sI v4.l,sI v4.vr]/\f.1 0=AV.gS c 0/\f.1 1=sL Ty.av a1/\f.1 3=sI a3/\f.1 9=sL sI C/\f.1 27=sB v3/\bx f 6 (Ty.av a2).cells/\bx f 8 [sI 0,sI 0,sI 0,nL,nL])/\y v3 v4=some (q,b)) (λy _ g m=>?_) ?_
 ·apply Ir e m<;>intro e m
  ·exact ak2
  simp[e];refine mM m (iq T aav) λ_ d8 m=>?_;exact ak2
 rintro _ _ ⟨v3,v4,E,m⟩;have e:=Aj e E;apply Iq e m<;>intro e m
 ·apply wg 999;simp[e];refine mM m (iq T aav) λ_ d11 m=>?_;have⟨D,e,m⟩:=g_ e m;simp[e];refine gj m i_ λ_ m=>?_;exact au
 apply wg 2;simp[e];refine Gc m 999 6 (λs f h=>∃j,(h=iE H c [sL sI j.l,sI j.vr]/\f.1 0=AV.gS c 0/\f.1 1=sL Ty.av a1/\f.1 3=sI a3/\bx f 6 (Ty.av a2).cells/\bx f 8 [sI 0,sI 0,sI 0,nL,nL])/\s j=some (q,b)) ?_ (λs _ g m=>?_)
 ·rintro _ _ ⟨j,E,m⟩;have e:=Aj e E;simp[e];apply Iq e m<;>intro e m
  ·apply wg 1;simp[e];refine Gc m 999 999 (λt f h=>∃v20,(h=iE H c [sL sI v20.l,sI v20.vr]/\f.1 0=AV.gS c 0/\f.1 8=AV.mD 8 (f.gen 8) 0/\f.box 8=some [sI 0,sI 0,sI 0,nL,nL])/\t v20=some (q,b)) ?_ (λt _ g m=>?_)
   ·rintro _ _ ⟨v20,E,m⟩;have e:=Aj e E;simp[e];refine mM m (iq T aav) λ_ d25 m=>?_;simp[e];refine gj m Jl λ_ m=>?_;exact au
   apply Ir e m<;>intro e m
   ·exact nP
   simp[e];refine mM m (iq T aav) λ_ d28 m=>?_;apply Iq e m<;>intro e m
   ·simp[e];refine mM m (a aav) λ_ d30 m=>?_;simp[e];refine gj m jE λ_ m=>?_;exact au
   apply Iq e m<;>intro e m
   ·simp[e];refine fQ m KZ λ_ m=>?_;simp[e];refine sa m (a aav) λ_ d34 m=>?_;simp[e];refine sa m (a aav) λ_ d36 m=>?_;simp[e];refine fQ m PY λ_ m=>?_;exact au
   apply Ir e m<;>intro e m
   ·exact nP
   simp[e];refine fQ m TI λ_ m=>?_;simp[e];refine sa m (a aav) λ_ d40 m=>?_;simp[e];refine sa m (a aav) λ_ d42 m=>?_;simp[e];refine fQ m PY λ_ m=>?_;exact au
  apply wg 3;simp[e];apply Ir e m<;>intro e m
  ·apply wg 999;apply Iq e m<;>intro e m
   ·have⟨F,e,m⟩:=g_ e m;simp[e];refine sa m (a aav) λ_ d46 m=>?_;have⟨G,e,m⟩:=g_ e m;simp[e];refine sa m (a aav) λ_ d49 m=>?_;simp[e];refine fQ m jE λ_ m=>?_;exact au
   apply Ir e m<;>intro e m
   ·simp[e];refine gj m jE λ_ m=>?_;exact au
   have⟨I,e,m⟩:=g_ e m;simp[e];refine fQ m wI λ_ m=>?_;have⟨J,e,m⟩:=g_ e m;simp[e];refine sa m (a aav) λ_ d56 m=>?_;simp[e];refine fQ m sy λ_ m=>?_;exact au
  apply wg 2;simp[e];refine Wj m 999 999 (λu f h=>∃v59 k,(h=iE H c [sL sI k.l,sI k.vr]/\f.1 0=AV.gS c 0/\f.1 1=sL Ty.av a1/\f.1 3=sI a3/\f.1 276=sB v59/\bx f 6 (Ty.av a2).cells/\bx f 8 [sI 0,sI 0,sI 0,nL,nL])/\u v59 k=some (q,b)) (λu _ g m=>?_) ?_
  ·apply Ir e m<;>intro e m
   ·exact ak2
   simp[e];refine mM m (iq T aav) λ_ d64 m=>?_;exact ak2
  rintro _ _ ⟨v59,k,E,m⟩;have e:=Aj e E;apply Ir e m<;>intro e m
  ·simp[e];refine gj m jE λ_ m=>?_;exact au
  simp[e];refine fQ m k0 λ_ m=>?_;simp[e];refine sa m (a aav) λ_ d69 m=>?_;simp[e];refine sa m (a aav) λ_ d71 m=>?_;simp[e];refine fQ m jE λ_ m=>?_;exact au
 apply Ir e m<;>intro e m
 ·exact nP
 simp[e];refine mM m (iq T aav) λ_ d74 m=>?_;apply Iq e m<;>intro e m
 ·simp[e];refine mM m (sq T aav) λ_ d76 m=>?_;simp[e];refine fQ m wI λ_ m=>?_;simp[e];refine sa m (a aav) λ_ d79 m=>?_;simp[e];refine fQ m sy λ_ m=>?_;simp[e];refine sa m (a aav) λ_ d82 m=>?_;simp[e];refine fQ m jE λ_ m=>?_;exact au
 apply Iq e m<;>intro e m
 ·simp[e];refine mM m (sq T aav) λ_ d85 m=>?_;simp[e];refine sa m (a aav) λ_ d87 m=>?_;simp[e];refine sa m (a aav) λ_ d89 m=>?_;simp[e];refine fQ m jE λ_ m=>?_;simp[e];refine fQ m jE λ_ m=>?_;exact au
 apply Iq e m<;>intro e m
 ·simp[e];refine fQ m k0 λ_ m=>?_;simp[e];refine fQ m k0 λ_ m=>?_;simp[e];refine fQ m wI λ_ m=>?_;simp[e];refine sa m (a aav) λ_ d96 m=>?_;simp[e];refine fQ m sy λ_ m=>?_;simp[e];refine fQ m sy λ_ m=>?_;simp[e];refine sa m (a aav) λ_ d100 m=>?_;simp[e];refine sa m (iq T aav) λ_ d102 m=>?_;simp[e];refine fQ m Jl λ_ m=>?_;simp[e];refine fQ m sy λ_ m=>?_;exact au
 apply Iq e m<;>intro e m
 ·simp[e];refine fQ m k0 λ_ m=>?_;simp[e];refine fQ m vi λ_ m=>?_;simp[e];refine fQ m k0 λ_ m=>?_;simp[e];refine fQ m vi λ_ m=>?_;simp[e];refine fQ m wI λ_ m=>?_;simp[e];refine sa m (a aav) λ_ d111 m=>?_;simp[e];refine fQ m sy λ_ m=>?_;simp[e];refine fQ m sy λ_ m=>?_;simp[e];refine fQ m sy λ_ m=>?_;simp[e];refine sa m (a aav) λ_ d116 m=>?_;simp[e];refine fQ m vi λ_ m=>?_;simp[e];refine sa m (a aav) λ_ d119 m=>?_;simp[e];refine fQ m sy λ_ m=>?_;exact au
 apply Iq e m<;>intro e m
 ·simp[e];refine mM m (sq T aav) λ_ d122 m=>?_;simp[e];refine sa m (a aav) λ_ d124 m=>?_;simp[e];refine sa m (a aav) λ_ d126 m=>?_;simp[e];refine fQ m jE λ_ m=>?_;simp[e];refine fQ m jE λ_ m=>?_;exact au
 apply Ir e m<;>intro e m
 ·exact nP
 simp[e];refine Wr e m 0 (λd _ f h=>h=iE H c [sL sI d74.l,sI d74.vr]/\f.1 0=AV.gS c 0/\f.1 1=sL Ty.av a1/\f.1 3=sI a3/\f.1 176=sI (dT a1)/\f.1 177=sI d/\bx f 6 (Ty.av a2).cells/\bx f 8 [sI 0,sI 0,sI 0,nL,nL]) aav (λ_ _ _ _ E m=>?_) (λd _ _ _ _ _ _ v E e m z p=>?_)
 ·have e:=Aj e E;apply wg 999;dsimp only[cR]at m;exact nP
 have e:=Aj e E;apply wg 11;have⟨w,e,m⟩:=g_ e m;simp[e];refine Wj m 999 999 (λo f h=>∃i,(h=iE H c [sL sI d74.l,sI d74.vr]/\f.1 0=AV.gS c 0/\f.1 1=sL Ty.av a1/\f.1 3=sI a3/\f.1 15=sI d/\f.1 176=sI (dT a1)/\f.1 177=sI d/\f.1 198=sB i/\bx f 6 (Ty.av a2).cells/\bx f 8 [sI 0,sI 0,sI 0,nL,nL]/\bx f 16 (Ty.av w).cells)/\o i=some v) (λo _ g m=>?_) ?_
 ·apply Ir e m<;>intro e m
  ·exact nP
  have⟨A,e,m⟩:=g_ e m;simp[e];refine fQ m lL λ_ m=>?_;exact nP
 rintro _ _ ⟨i,E,m⟩;have e:=Aj e E;apply Ir e m<;>intro e m
 ·exact al
 simp[e];refine fQ m i_ λ_ m=>?_;have⟨B,e,m⟩:=g_ e m;simp[e];refine sa m (a aav) λ_ d149 m=>?_;simp[e];refine fQ m jE λ_ m=>?_;exact au
def qV(T:fx){H:dM}{a0:db}{a1:List Ty}{a2:Ty}{a3:Int}{d:Tm}{a:db}{b:Nat}(c:H[b]?=some [sL sI a0.l,sI a0.vr]){n:Nat}(hm:gL n a0 a1 a2 a3=some (d,a)):fg prog T 35 [AV.gS b 0,sL Ty.av a1,Ty.av a2,sI a3] H (Tm.av d) (iE H b [sL sI a.l,sI a.vr]):=(UI T n) c hm
def Qs(T:fx):∀(n:Nat),(∀{H:dM} {a0:db} {a1:List Ty} {a2:Int} {j:Fm} {b:db} {c:Nat} (d:H[c]?=some [sL sI a0.l,sI a0.vr]) (hm:gw n a0 a1 a2=some (j,b)),fg prog T 28 [AV.gS c 0,sL Ty.av a1,sI a2] H (Fm.av j) (iE H c [sL sI b.l,sI b.vr])):=by
  intro n
  induction n with
  |zero=>
    skip
    all_goals(intro _ _;intros;rename_i hm;cases hm)
  |succ n i=>
 intro H a0 a1 a2 j b c d hm;rw[gw] at hm;have k:=ie d;refine gG.Qi d ?_;have e:=k;refine wi aft func28 [] [] 2 ?_;simp[e];refine Gc hm 2 999 (λo f h=>∃v2,(h=iE H c [sL sI v2.l,sI v2.vr]/\f.1 0=AV.gS c 0/\f.1 1=sL Ty.av a1/\f.1 6=AV.mD 6 (f.gen 6) 0/\f.box 6=some [sI 0,sI 0,nL,nL,nL])/\o v2=some (j,b)) ?_ (λo _ g m=>?_)
 ·rintro _ _ ⟨v2,E,m⟩;have e:=Aj e E;simp[e];refine gj m k0 λ_ m=>?_;simp[e];refine sa m (qV T aav) λ_ d8 m=>?_;simp[e];refine sa m (qV T aav) λ_ d10 m=>?_;simp[e];refine fQ m vq λ_ m=>?_;exact au
 simp[e];apply Ir e m<;>intro e m
 ·apply wg 999;exact nP
 apply wg 6;simp[e];refine mM m (iq T aav) λa d13 m=>?_;simp[e];apply Iq e m<;>intro e m
 ·apply wg 999;simp[e];refine mM m (i aav) λ_ d15 m=>?_;simp[e];refine mM m (i aav) λ_ d17 m=>?_;simp[e];refine gj m Fi λ_ m=>?_;exact au
 apply wg 1;simp[e];refine wj 999 0 (λf h=>h=iE H c [sL sI d13.l,sI d13.vr]/\f.1 0=AV.gS c 0/\f.1 1=sL Ty.av a1/\f.1 2=sI a2/\f.1 14=sI a/\f.1 28=sB (fp (dC a 1) true (dC a 2))/\bx f 6 [sI 0,sI 0,nL,nL,nL]) (λ_ g=>?_) ?_
 ·rcases Pb (dC a 1) e with e|e
  ·exact aj
  exact aj
 rintro _ _ E;have e:=Aj e E;apply Iq e m<;>intro e m
 ·apply wg 999;simp[e];refine mM m (i aav) λ_ d23 m=>?_;simp[e];refine mM m (i aav) λ_ d25 m=>?_;simp[e];refine gj m Fi λ_ m=>?_;exact au
 apply wg 1;simp[e];refine wj 999 999 (λf h=>h=iE H c [sL sI d13.l,sI d13.vr]/\f.1 0=AV.gS c 0/\f.1 1=sL Ty.av a1/\f.1 2=sI a2/\f.1 14=sI a/\f.1 42=sB (fp (dC a 3) true (dC a 4))/\bx f 6 [sI 0,sI 0,nL,nL,nL]) (λ_ g=>?_) ?_
 ·rcases Pb (dC a 3) e with e|e
  ·exact aj
  exact aj
 rintro _ _ E;have e:=Aj e E;apply Iq e m<;>intro e m
 ·simp[e];refine mM m (sq T aav) λ_ d31 m=>?_;simp[e];refine fQ m wI λ_ m=>?_;simp[e];refine sa m (i aav) λ_ d34 m=>?_;simp[e];refine fQ m uv λ_ m=>?_;exact au
 apply Iq e m<;>intro e m
 ·simp[e];refine mM m (sq T aav) λ_ d37 m=>?_;simp[e];refine fQ m wI λ_ m=>?_;simp[e];refine sa m (i aav) λ_ d40 m=>?_;simp[e];refine fQ m uv λ_ m=>?_;exact au
 apply Ir e m<;>intro e m
 ·exact nP
 simp[e];refine mM m (sq T aav) λ_ d43 m=>?_;simp[e];refine sa m (iq T aav) λ_ d45 m=>?_;simp[e];refine fQ m wI λ_ m=>?_;simp[e];refine sa m (i aav) λ_ d48 m=>?_;simp[e];refine fQ m uv λ_ m=>?_;exact au
def A3(T:fx){H:dM}{a0:db}{a1:List Ty}{a2:Int}{d:Fm}{a:db}{b:Nat}(c:H[b]?=some [sL sI a0.l,sI a0.vr]){n:Nat}(hm:gw n a0 a1 a2=some (d,a)):fg prog T 28 [AV.gS b 0,sL Ty.av a1,sI a2] H (Fm.av d) (iE H b [sL sI a.l,sI a.vr]):=(Qs T n) c hm
def JD(T:fx){H:dM}{a0:db}{q:List Fm}{b:db}{d:Nat}(i:H[d]?=some [sL sI a0.l,sI a0.vr])(hm:sJ a0=some (q,b)):fg prog T 17 [AV.gS d 0] H (sL Fm.av q) (iE H d [sL sI b.l,sI b.vr]):=by
 rw[sJ] at hm;have k:=ie i;refine gG.Qi i ?_;have e:=k;refine wi aft func17 [] [] 999 ?_;simp[e];refine mM hm (iq T aav) λ_ d2 m=>?_;simp[e];refine Wn m 999 (λc f h=>∃a,(h=iE H d [sL sI c.2.2.l,sI c.2.2.vr]/\f.1 0=AV.gS d 0/\f.1 3=sT a Fm.av c.1/\f.1 4=sI c.2.1)/\Ow f [15] a c.1) (by exact⟨.full,aav,kG.full⟩) (λc n _ _ _ _ E m z p=>?_);have⟨v10,v11,v12⟩:=c;have⟨a,E,j⟩:=E;have e:=Aj e E;dsimp only[wh]at m;apply Ir e m<;>intro e m
 ·cases m;have m:=Qb z;dsimp only[wh]at m;exact au
 simp[e];refine mM m (A3 T aav) λo d14 m=>?_;have⟨e,m⟩:=Ck e m;simp[e];refine Ao (f:=Fm.av) v10 [o] j E5 e.2 ?_;simp[e];cases m;exact p _ _ _ ⟨(.loc 15 (n.gN 15+1)),aav,(On 15)⟩ z
def RW(T:fx){H:dM}{a0:db}{q:List Ty}{b:db}{d:Nat}(i:H[d]?=some [sL sI a0.l,sI a0.vr])(hm:wP a0=some (q,b)):fg prog T 64 [AV.gS d 0] H (sL Ty.av q) (iE H d [sL sI b.l,sI b.vr]):=by
 rw[wP] at hm;have k:=ie i;refine gG.Qi i ?_;have e:=k;refine wi aft func64 [] [] 999 ?_;simp[e];refine mM hm (iq T aav) λ_ d2 m=>?_;simp[e];refine Wn m 999 (λc f h=>∃a,(h=iE H d [sL sI c.2.2.l,sI c.2.2.vr]/\f.1 0=AV.gS d 0/\f.1 3=sT a Ty.av c.1/\f.1 4=sI c.2.1)/\Ow f [15] a c.1) (by exact⟨.full,aav,kG.full⟩) (λc n _ _ _ _ E m z p=>?_);have⟨v10,v11,v12⟩:=c;have⟨a,E,j⟩:=E;have e:=Aj e E;dsimp only[wh]at m;apply Ir e m<;>intro e m
 ·cases m;have m:=Qb z;dsimp only[wh]at m;exact au
 simp[e];refine mM m (sq T aav) λo d14 m=>?_;have⟨e,m⟩:=Ck e m;simp[e];refine Ao (f:=Ty.av) v10 [o] j Lx e.2 ?_;simp[e];cases m;exact p _ _ _ ⟨(.loc 15 (n.gN 15+1)),aav,(On 15)⟩ z
def HS(T:fx){H:dM}{a0:db}{r:Sq}{b:db}{d:Nat}(i:H[d]?=some [sL sI a0.l,sI a0.vr])(hm:qp a0=some (r,b)):fg prog T 18 [AV.gS d 0] H (Sq.av r) (iE H d [sL sI b.l,sI b.vr]):=by
 rw[qp] at hm;have k:=ie i;refine gG.Qi i ?_;have e:=k;refine wi aft func18 [] [] 999 ?_;simp[e];refine mM hm (RW T aav) λs d2 m=>?_;simp[e];refine mM m (iq T aav) λ_ d4 m=>?_;simp[e];refine Wn m 999 (λc f h=>∃a,(h=iE H d [sL sI c.2.2.l,sI c.2.2.vr]/\f.1 0=AV.gS d 0/\f.1 4=sI c.1/\bx f 2 [nL,nL]/\bx f 3 [sL Ty.av s,sT a Fm.av c.2.1])/\Ow f [21] a c.2.1) (by exact⟨.full,aav,kG.full⟩) (λc n _ _ _ _ E m z p=>?_);have⟨v12,o,t⟩:=c;have⟨a,E,j⟩:=E;have e:=Aj e E;dsimp only[wh]at m;apply Ir e m<;>intro e m
 ·cases m;have m:=Qb z;dsimp only[wh]at m;exact au
 simp[e];refine sa m (A3 T aav) λq d16 m=>?_;have⟨e,m⟩:=Ck e m;simp[e];refine Ad (f:=Fm.av) o [q] j E5 e.2 ?_;simp[e];cases m;exact p _ _ _ ⟨(.loc 21 (n.gN 21+1)),aav,(On 21)⟩ z
def MV:C2 prog 66 Bw Sq.av Sq.av Fm.av:=by
 refine v2 func66 λT H a0 a1 r m e=>?_;rw[Bw] at m;have⟨e,m⟩:=Ck e m;simp[e];refine Ad (f:=Fm.av) [] a0.afv (kG.full (D:=[])) E5 e.2 ?_;have⟨e,m⟩:=Ck e m;simp[e];refine Ad (f:=Fm.av) (fK [] a0.afv) [a1] (kG.new (D:=[9]) (d:=9) Zk) E5 e.2 ?_;exact au
def Nl:C2 prog 65 xu Pf.av Fm.av Pf.av:=by
 refine v2 func65 λT H a0 a1 r m e=>?_;rw[xu] at m;simp[e];refine gj m vJ λa m=>?_;simp[e];refine gj m qi λb m=>?_;have e:=Aj e (show AV.agg [sI a.afo,sI a.afr,sI a.cW.afo,sL Ty.av a.cW.afp,sL Tm.av a.dy,AV.slice .pw [Fm.av b],sL Pf.av a.afp]=Pf.av (Pf.mk a.afo a.afr a.cW a.dy [b] a.afp) by rw[Pf.jf];rfl);exact au
def Qt{n:Nat}:C1 prog 187 (pB n) sB Ty.av:=by
 refine i1 λn c=>u1 4 func187 λT H a0 r m e=>?_;rw[pB] at m;simp[e];refine Gc m 3 999 (λa f h=>∃v2,(h=H/\f.1 3=sI v2/\bx f 1 (Ty.av a0).cells)/\a v2=some r) ?_ (λa _ g m=>?_)
 ·rintro _ _ ⟨v2,E,m⟩;have e:=Aj e E;refine Il e m λe m=>?_;simp[e];refine Wr e m 999 (λb _ f h=>h=H/\f.1 21=sL Ty.av a0.afp/\f.1 22=sI (dT a0.afp)/\f.1 23=sI b) aav (λ_ _ _ _ E m=>?_) (λb _ _ _ _ _ _ _ E e m z p=>?_)
  ·have e:=Aj e E;dsimp only[cR]at m;exact au
  have e:=Aj e E;simp[e];refine gj m c λ_ m=>?_;refine Im e m λe m=>?_;exact al
 simp[e];refine wj 999 0 (λf h=>h=H/\f.1 3=sI 0/\f.1 7=sI a0.afo/\f.1 8=sB (fp (dC a0.afo 1) true (fp (dC a0.afo 2) true (dC a0.afo 5)))/\bx f 1 (Ty.av a0).cells) (λ_ g=>?_) ?_
 ·rcases Pb (dC a0.afo 1) e with e|e
  ·exact aj
  rcases Pb (dC a0.afo 2) e with e|e
  ·exact aj
  exact aj
 rintro _ _ E;have e:=Aj e E;apply Iq e m<;>intro e m
 ·apply wg 999;exact nP
 apply wg 1;simp[e];refine wj 999 999 (λf h=>h=H/\f.1 12=sB (fp (dC a0.afo 3) true (dC a0.afo 4))/\bx f 1 (Ty.av a0).cells) (λ_ g=>?_) ?_
 ·rcases Pb (dC a0.afo 3) e with e|e
  ·exact aj
  exact aj
 rintro _ _ E;have e:=Aj e E;refine Im e m λe m=>?_;exact nP
def Sg{n:Nat}:C1 prog 188 (qZ n) sI Ty.av:=by
 refine i1 λn b=>v1 func188 λT H a0 r m e=>?_;rw[qZ] at m;simp[e];refine Wr e m 999 (λa s2 f h=>h=H/\f.1 3=sI s2/\f.1 7=sL Ty.av a0.afp/\f.1 8=sI (dT a0.afp)/\f.1 9=sI a) aav (λs2 _ _ _ E m=>?_) (λa _ s2 _ _ _ _ _ E e m z p=>?_)
 ·have e:=Aj e E;dsimp only[cR]at m;exact au
 have e:=Aj e E;simp[e];refine gj m b λ_ m=>?_;exact al
def xx:C1 prog 137 iQ sI Ty.av:=by
 refine v1 func137 λT H a0 r m e=>?_;rw[iQ] at m;simp[e];refine gj m Qt λ_ m=>?_;refine Im e m λe m=>?_;simp[e];refine gj m Sg λ_ m=>?_;refine Il e m λe m=>?_;exact au
def Dj:C1 prog 78 mK sI (sL Ty.av):=by
 refine v1 func78 λT H a0 r m e=>?_;rw[mK] at m;refine Il e m λe m=>?_;simp[e];refine Wr e m 999 (λa _ f h=>h=H/\f.1 9=sL Ty.av a0/\f.1 10=sI (dT a0)/\f.1 11=sI a) aav (λ_ _ _ _ E m=>?_) (λa _ _ _ _ _ _ _ E e m z p=>?_)
 ·have e:=Aj e E;dsimp only[cR]at m;exact au
 have e:=Aj e E;simp[e];refine gj m xx λ_ m=>?_;refine Il e m λe m=>?_;exact al
def DB:C1 prog 216 sO sB Ty.av:=by
 refine u1 2 func216 λT H a0 r m e=>?_;rw[sO] at m;simp[e];refine QY 999 999 (λf h=>h=H/\f.1 2=sB (fp (dC a0.afo 0) (dC (dT a0.afp) 0) false)) ?_ (λ_ g=>?_)
 ·rintro _ _ E;have e:=Aj e E;exact au
 rcases Pb (dC a0.afo 0) e with e|e
 ·exact aj
 exact aj
def Sb:C1 prog 233 wY sI sI:=by
 refine u1 6 func233 λT H a0 r m e=>?_;rw[wY] at m;simp[e];refine wj 999 0 (λf h=>h=H/\f.1 3=sI a0/\f.1 4=sB (fp (dC a0 1) true (fp (dC a0 4) true (fp (dC a0 7) true (dC a0 13))))) (λ_ g=>?_) ?_
 ·rcases Pb (dC a0 1) e with e|e
  ·exact aj
  rcases Pb (dC a0 4) e with e|e
  ·exact aj
  rcases Pb (dC a0 7) e with e|e
  ·exact aj
  exact aj
 rintro _ _ E;have e:=Aj e E;apply Iq e m<;>intro e m
 ·apply wg 999;exact au
 apply wg 1;simp[e];refine wj 999 0 (λf h=>h=H/\f.1 3=sI a0/\f.1 9=sB (fp (dC a0 2) true (fp (dC a0 5) true (fp (dC a0 11) true (dC a0 12))))) (λ_ g=>?_) ?_
 ·rcases Pb (dC a0 2) e with e|e
  ·exact aj
  rcases Pb (dC a0 5) e with e|e
  ·exact aj
  rcases Pb (dC a0 11) e with e|e
  ·exact aj
  exact aj
 rintro _ _ E;have e:=Aj e E;apply Iq e m<;>intro e m
 ·apply wg 999;exact au
 apply wg 1;simp[e];refine wj 999 0 (λf h=>h=H/\f.1 3=sI a0/\f.1 14=sB (fp (dC a0 3) true (fp (dC a0 8) true (dC a0 10)))) (λ_ g=>?_) ?_
 ·rcases Pb (dC a0 3) e with e|e
  ·exact aj
  rcases Pb (dC a0 8) e with e|e
  ·exact aj
  exact aj
 rintro _ _ E;have e:=Aj e E;apply Iq e m<;>intro e m
 ·apply wg 999;exact au
 apply wg 1;simp[e];refine QY 999 999 (λf h=>h=H/\f.1 18=sB (fp (dC a0 6) true (dC a0 9))) ?_ (λ_ g=>?_)
 ·rintro _ _ E;have e:=Aj e E;refine Il e m λe m=>?_;exact au
 rcases Pb (dC a0 6) e with e|e
 ·exact aj
 exact aj
def Cc{n:Nat}:C1 prog 172 (kL n) sB Tm.av:=by
 refine i1 λn d=>u1 3 func172 λT H a0 r m e=>?_;rw[kL] at m;simp[e];refine Wj m 999 0 (λb f h=>∃v2,(h=H/\f.1 26=sB v2/\bx f 1 (Tm.av a0).cells)/\b v2=some r) (λb _ g m=>?_) ?_
 ·simp[e];refine fQ m Sb λ_ m=>?_;apply Iq e m<;>intro e m
  ·exact nP
  apply Iq e m<;>intro e m
  ·exact nP
  apply Ir e m<;>intro e m
  ·exact nP
  exact nP
 rintro _ _ ⟨v2,E,m⟩;have e:=Aj e E;apply Iq e m<;>intro e m
 ·apply wg 999;exact au
 apply wg 2;simp[e];refine Gc m 3 999 (λc f h=>(h=H/\f.1 1=AV.mD 1 (f.gen 1) 0/\f.box 1=some (Tm.av a0).cells)/\c=some r) ?_ (λc _ g m=>?_)
 ·rintro _ _ ⟨E,m⟩;have e:=Aj e E;simp[e];refine Wr e m 999 (λa _ f h=>h=H/\f.1 42=sL Tm.av a0.afp/\f.1 43=sI (dT a0.afp)/\f.1 44=sI a) aav (λ_ _ _ _ E m=>?_) (λa _ _ _ _ _ _ _ E e m z p=>?_)
  ·have e:=Aj e E;dsimp only[cR]at m;exact au
  have e:=Aj e E;simp[e];refine gj m d λ_ m=>?_;refine Im e m λe m=>?_;exact al
 simp[e];refine wj 999 999 (λf h=>h=H/\f.1 33=sB (fp (dC a0.afo 2) true (fp (dC a0.afo 6) true (dC a0.afo 9)))/\bx f 1 (Tm.av a0).cells) (λ_ g=>?_) ?_
 ·rcases Pb (dC a0.afo 2) e with e|e
  ·exact aj
  rcases Pb (dC a0.afo 6) e with e|e
  ·exact aj
  exact aj
 rintro _ _ E;have e:=Aj e E;apply Iq e m<;>intro e m
 ·simp[e];refine gj m xx λ_ m=>?_;refine Il e m λe m=>?_;exact YU
 simp[e];refine gj m DB λ_ m=>?_;refine Im e m λe m=>?_;exact YU
def Af:C1 prog 164 mm sB sI:=by
 refine u1 2 func164 λT H a0 r m e=>?_;rw[mm] at m;simp[e];refine QY 999 999 (λf h=>h=H/\f.1 2=sB (fp (dC a0 4) true (fp (dC a0 5) true (fp (dC a0 6) true (dC a0 7))))) ?_ (λ_ g=>?_)
 ·rintro _ _ E;have e:=Aj e E;exact au
 rcases Pb (dC a0 4) e with e|e
 ·exact aj
 rcases Pb (dC a0 5) e with e|e
 ·exact aj
 rcases Pb (dC a0 6) e with e|e
 ·exact aj
 exact aj
def Ke{n:Nat}:C1 prog 162 (nd n) sB Fm.av:=by
 refine i1 λn d=>u1 7 func162 λT H a0 r m e=>?_;rw[nd] at m;apply Iq e m<;>intro e m
 ·simp[e];refine Gc m 999 999 (λi f h=>∃v2,(h=H/\f.1 2=sB v2)/\i v2=some r) ?_ (λi _ g m=>?_)
  ·rintro _ _ ⟨v2,E,m⟩;have e:=Aj e E;exact au
  apply Ir e m<;>intro e m
  ·exact nP
  simp[e];refine gj m DB λ_ m=>?_;apply Ir e m<;>intro e m
  ·exact nP
  apply Ir e m<;>intro e m
  ·exact nP
  have⟨o,e,m⟩:=g_ e m;simp[e];refine gj m Cc λ_ m=>?_;apply Ir e m<;>intro e m
  ·exact nP
  have⟨q,e,m⟩:=g_ e m;simp[e];refine gj m Cc λ_ m=>?_;exact nP
 simp[e];refine wj 999 0 (λf h=>h=H/\f.1 36=sB (fp (dC a0.afo 2) true (dC a0.afo 3))/\bx f 1 (Fm.av a0).cells) (λ_ g=>?_) ?_
 ·rcases Pb (dC a0.afo 2) e with e|e
  ·exact aj
  exact aj
 rintro _ _ E;have e:=Aj e E;apply Ir e m<;>intro e m
 ·apply wg 3;simp[e];refine gj m Af λ_ m=>?_;simp[e];apply Ir e m<;>intro e m
  ·apply wg 999;exact au
  apply wg 1;simp[e];refine Gc m 999 999 (λb f h=>∃a,(h=H/\f.1 2=sB a)/\b a=some r) ?_ (λb _ g m=>?_)
  ·rintro _ _ ⟨a,E,m⟩;have e:=Aj e E;exact au
  apply Ir e m<;>intro e m
  ·exact nP
  simp[e];refine gj m xx λ_ m=>?_;apply Ir e m<;>intro e m
  ·exact nP
  apply Ir e m<;>intro e m
  ·exact nP
  have⟨j,e,m⟩:=g_ e m;simp[e];refine gj m d λ_ m=>?_;exact nP
 apply wg 1;simp[e];refine Gc m 999 999 (λc f h=>∃v24,(h=H/\f.1 2=sB v24)/\c v24=some r) ?_ (λc _ g m=>?_)
 ·rintro _ _ ⟨v24,E,m⟩;have e:=Aj e E;exact au
 apply Ir e m<;>intro e m
 ·exact nP
 simp[e];refine gj m DB λ_ m=>?_;apply Ir e m<;>intro e m
 ·exact nP
 apply Ir e m<;>intro e m
 ·exact nP
 have⟨k,e,m⟩:=g_ e m;simp[e];refine gj m d λ_ m=>?_;apply Ir e m<;>intro e m
 ·exact nP
 have⟨l,e,m⟩:=g_ e m;simp[e];refine gj m d λ_ m=>?_;exact nP
def jQ{n:Nat}:C1 prog 117 (fM n) sI Tm.av:=by
 refine i1 λn b=>v1 func117 λT H a0 r m e=>?_;rw[fM] at m;simp[e];refine Wr e m 999 (λa s2 f h=>h=H/\f.1 3=sI s2/\f.1 7=sL Tm.av a0.afp/\f.1 8=sI (dT a0.afp)/\f.1 9=sI a) aav (λs2 _ _ _ E m=>?_) (λa _ s2 _ _ _ _ _ E e m z p=>?_)
 ·have e:=Aj e E;dsimp only[cR]at m;exact au
 have e:=Aj e E;simp[e];refine gj m b λ_ m=>?_;exact al
def xz{n:Nat}:C1 prog 115 (lq n) sI Fm.av:=by
 refine i1 λn d=>v1 func115 λT H a0 r m e=>?_;rw[lq] at m;simp[e];refine F7 e m 999 (λc s2 f h=>h=H/\f.1 3=sI s2/\f.1 9=sL Tm.av a0.dy/\f.1 10=sI (dT a0.dy)/\f.1 11=sI c/\bx f 1 (Fm.av a0).cells) aav (λc _ s2 _ _ _ _ _ E e m z p=>?_) (λs2 _ _ _ E m=>?_)
 ·have e:=Aj e E;simp[e];refine gj m jQ λ_ m=>?_;exact al
 have e:=Aj e E;dsimp only[cR]at m;simp[e];refine Wr e m 999 (λb a f h=>h=H/\f.1 3=sI a/\f.1 21=sL Fm.av a0.afp/\f.1 22=sI (dT a0.afp)/\f.1 23=sI b) aav (λa _ _ _ E m=>?_) (λb _ a _ _ _ _ _ E e m z p=>?_)
 ·have e:=Aj e E;dsimp only[cR]at m;exact au
 have e:=Aj e E;simp[e];refine gj m d λ_ m=>?_;exact al
def vl:C1 prog 93 me sI Fm.av:=by
 refine v1 func93 λT H a0 r m e=>?_;rw[me] at m;simp[e];refine gj m Ke λ_ m=>?_;refine Im e m λe m=>?_;simp[e];refine gj m xz λ_ m=>?_;refine Il e m λe m=>?_;exact au
def tn:C1 prog 112 ng sI Tm.av:=by
 refine v1 func112 λT H a0 r m e=>?_;rw[ng] at m;simp[e];refine gj m Cc λ_ m=>?_;refine Im e m λe m=>?_;simp[e];refine gj m jQ λ_ m=>?_;refine Il e m λe m=>?_;exact au
def OG:C1 prog 293 s5 (t2 Ty.av sI) Ty.av:=by
 refine v1 func293 λT H a0 r m e=>?_;rw[s5] at m;simp[e];refine gj m xx λ_ m=>?_;refine Il e m λe m=>?_;exact au
def Qp{n:Nat}:C2 prog 268 (dU n) (t2 Ty.av sI) (sL Ty.av) Tm.av:=by
 refine i2 λn B=>v2 func268 λT H a0 a1 r m e=>?_;rw[dU] at m;apply Iq e m<;>intro e m
 ·refine Il e m λe m=>?_;have⟨x1,e,m⟩:=g_ e m;simp[e];refine gj m oE λ_ m=>?_;exact au
 apply Iq e m<;>intro e m
 ·have⟨e,m⟩:=Ck e m;simp[e];refine Ad (f:=Ty.av) a0 [a1.cW] (kG.full (D:=[])) Lx e.2 ?_;have⟨x3,e,m⟩:=g_ e m;simp[e];refine sa m B λ_ _ m=>?_;refine Il e m λe m=>?_;simp[e];refine gj m wC λ_ m=>?_;simp[e];refine mM m OG λ_ _ m=>?_;exact au
 simp[e];refine F7 e m 0 (λC c f h=>∃a,(h=H/\f.1 0=sL Ty.av a0/\f.1 8=sT a Ty.av c/\f.1 67=sL Tm.av a1.afp/\f.1 68=sI (dT a1.afp)/\f.1 69=sI C/\bx f 3 (Tm.av a1).cells/\bx f 4 [sI 0,nL])/\Ow f [86] a c) (by exact⟨.full,aav,kG.full⟩) (λC _ c j _ _ _ _ E e m z p=>?_) (λc j _ _ E m=>?_)
 ·have⟨a,E,b⟩:=E;have e:=Aj e E;apply wg 999;simp[e];refine mM m B λv _ m=>?_;refine Il e m λe m=>?_;have⟨e,m⟩:=Ck e m;simp[e];refine Ao (f:=Ty.av) c [v] b Lx e.2 ?_;simp[e];cases m;exact p _ _ _ ⟨(.loc 86 (j.gN 86+1)),aav,(On 86)⟩ z
 have⟨a,E,b⟩:=E;have e:=Aj e E;apply wg 13;dsimp only[cR]at m;simp[e];refine gj m k0 λ_ m=>?_;simp[e];refine gj m vi λw m=>?_;simp[e];apply Iq e m<;>intro e m
 ·apply wg 2;simp[e];refine Gc m 999 999 (λq f h=>∃k d,(h=H/\f.1 8=sT d Ty.av c/\f.1 111=sB k/\bx f 4 [sI 0,nL])/\Ow f [86] d c/\q k=some r) ?_ (λq _ g m=>?_)
  ·rintro _ _ ⟨k,d,E,x,m⟩;have e:=Aj e E;refine Il e m λe m=>?_;have⟨F,e,m⟩:=g_ e m;have⟨G,e,m⟩:=g_ e m;exact au
  have⟨I,e,m⟩:=g_ e m;apply Iq e m<;>intro e m
  ·simp[e];exact g _ _ ⟨true,a,aav,b,m⟩
  have⟨J,e,m⟩:=g_ e m;have⟨K,e,m⟩:=g_ e m;simp[e];refine fQ m lL λy m=>?_;simp[e];exact g _ _ ⟨(s_ y),a,aav,b,m⟩
 apply wg 3;simp[e];apply Iq e m<;>intro e m
 ·apply wg 999;exact au
 apply wg 3;simp[e];apply Iq e m<;>intro e m
 ·apply wg 999;have⟨L,e,m⟩:=g_ e m;simp[e];refine fQ m lL λ_ m=>?_;refine Il e m λe m=>?_;exact au
 apply wg 3;simp[e];apply Iq e m<;>intro e m
 ·apply wg 2;simp[e];refine Gc m 999 999 (λs f h=>∃l,(h=H/\f.1 162=sB l/\bx f 3 (Tm.av a1).cells/\bx f 4 [sI 0,nL])/\s l=some r) ?_ (λs _ g m=>?_)
  ·rintro _ _ ⟨l,E,m⟩;have e:=Aj e E;refine Il e m λe m=>?_;simp[e];refine gj m oE λ_ m=>?_;exact au
  have⟨M,e,m⟩:=g_ e m;simp[e];refine fQ m lL λ_ m=>?_;apply Ir e m<;>intro e m
  ·exact nP
  have⟨N,e,m⟩:=g_ e m;simp[e];refine fQ m wC λ_ m=>?_;simp[e];refine fQ m wC λ_ m=>?_;simp[e];refine fQ m lL λ_ m=>?_;apply Ir e m<;>intro e m
  ·exact nP
  have⟨O,e,m⟩:=g_ e m;simp[e];refine fQ m lL λ_ m=>?_;exact nP
 apply wg 3;simp[e];apply Iq e m<;>intro e m
 ·apply wg 999;exact au
 apply wg 3;simp[e];apply Iq e m<;>intro e m
 ·apply wg 2;simp[e];refine Gc m 999 999 (λt f h=>∃o,(h=H/\f.1 185=sB o/\bx f 4 [sI 0,nL]/\bx f 14 (Ty.av w).cells)/\t o=some r) ?_ (λt _ g m=>?_)
  ·rintro _ _ ⟨o,E,m⟩;have e:=Aj e E;refine Il e m λe m=>?_;exact au
  have⟨P,e,m⟩:=g_ e m;simp[e];refine fQ m lL λ_ m=>?_;apply Ir e m<;>intro e m
  ·exact nP
  have⟨Q,e,m⟩:=g_ e m;simp[e];refine fQ m lL λ_ m=>?_;exact nP
 apply wg 3;simp[e];apply Iq e m<;>intro e m
 ·apply wg 2;simp[e];refine Gc m 999 999 (λu f h=>∃v59,(h=H/\f.1 220=sB v59/\bx f 3 (Tm.av a1).cells/\bx f 4 [sI 0,nL])/\u v59=some r) ?_ (λu _ g m=>?_)
  ·rintro _ _ ⟨v59,E,m⟩;have e:=Aj e E;refine Il e m λe m=>?_;simp[e];refine gj m oE λ_ m=>?_;exact au
  have⟨R,e,m⟩:=g_ e m;simp[e];refine fQ m lL λ_ m=>?_;apply Ir e m<;>intro e m
  ·exact nP
  have⟨S,e,m⟩:=g_ e m;simp[e];refine fQ m wC λ_ m=>?_;simp[e];refine fQ m wC λ_ m=>?_;simp[e];refine fQ m wC λ_ m=>?_;simp[e];refine fQ m lL λ_ m=>?_;apply Ir e m<;>intro e m
  ·exact nP
  have⟨U,e,m⟩:=g_ e m;simp[e];refine fQ m lL λ_ m=>?_;exact nP
 apply wg 3;simp[e];apply Iq e m<;>intro e m
 ·apply wg 999;have⟨V,e,m⟩:=g_ e m;have⟨W,e,m⟩:=g_ e m;simp[e];refine fQ m M_ λ_ m=>?_;simp[e];refine sa m OG λ_ _ m=>?_;exact au
 apply wg 1;simp[e];refine wj 999 0 (λf h=>∃i,(h=H/\f.1 8=sT i Ty.av c/\f.1 237=sB (fp (dC a1.afo 11) true (dC a1.afo 12))/\bx f 3 (Tm.av a1).cells/\bx f 4 [sI 0,nL])/\Ow f [86] i c) (λ_ g=>?_) ?_
 ·rcases Pb (dC a1.afo 11) e with e|e
  ·simp[e];exact g _ _ ⟨a,aav,b⟩
  simp[e];exact g _ _ ⟨a,aav,b⟩
 rintro _ _ ⟨i,E,A⟩;have e:=Aj e E;apply Ir e m<;>intro e m
 ·apply wg 999;simp[e];refine gj m Lg λ_ m=>?_;exact au
 apply wg 4;have⟨X,e,m⟩:=g_ e m;simp[e];apply Iq e m<;>intro e m
 ·apply wg 999;exact au
 apply wg 5;simp[e];apply Iq e m<;>intro e m
 ·apply wg 999;have⟨Y,e,m⟩:=g_ e m;exact au
 apply wg 999;have⟨Z,e,m⟩:=g_ e m;exact au
def Kk:C2 prog 232 pQ (t2 Ty.av sI) (sL Ty.av) Tm.av:=by
 refine v2 func232 λT H a0 a1 r m e=>?_;rw[pQ] at m;simp[e];refine gj m tn λ_ m=>?_;refine Il e m λe m=>?_;simp[e];refine mM m Qp λ_ _ m=>?_;exact au
def QC{n:Nat}:C2 prog 171 (lD n) sI (sL Ty.av) Fm.av:=by
 refine i2 λn l=>v2 func171 λT H a0 a1 r m e=>?_;rw[lD] at m;simp[e];refine F7 e m 0 (λk _ f h=>h=H/\f.1 0=sL Ty.av a0/\f.1 13=sL Tm.av a1.dy/\f.1 14=sI (dT a1.dy)/\f.1 15=sI k/\bx f 3 (Fm.av a1).cells) aav (λk _ _ d _ _ _ _ E e m z p=>?_) (λ_ d _ _ E m=>?_)
 ·have e:=Aj e E;apply wg 999;simp[e];refine mM m Kk λ_ _ m=>?_;refine Il e m λe m=>?_;refine Il e m λe m=>?_;exact al
 have e:=Aj e E;apply wg 5;dsimp only[cR]at m;simp[e];refine Wj m 999 999 (λi f h=>∃c b,(h=H/\f.1 0=sT b Ty.av c/\f.1 3=AV.mD 3 (f.gen 3) 0/\f.box 3=some (Fm.av a1).cells)/\i c=some r) (λi _ g m=>?_) ?_
 ·simp[e];refine gj m Af λ_ m=>?_;apply Ir e m<;>intro e m
  ·simp[e];exact g _ _ ⟨_,.pw,aav,m⟩
  have⟨e,m⟩:=Ck e m;simp[e];refine Ad (f:=Ty.av) a0 [a1.cW] (kG.full (D:=[])) Lx e.2 ?_;simp[e];exact g _ _ ⟨_,(.loc 44 (d.gN 44+1)),aav,m⟩
 rintro _ _ ⟨c,b,E,m⟩;have e:=Aj e E;simp[e];refine Wr e m 999 (λj _ f h=>∃a,h=H/\f.1 0=sT a Ty.av c/\f.1 46=sL Fm.av a1.afp/\f.1 47=sI (dT a1.afp)/\f.1 48=sI j) ⟨b,aav⟩ (λ_ _ _ _ E m=>?_) (λj _ _ _ _ _ _ _ E e m z p=>?_)
 ·have⟨a,E⟩:=E;have e:=Aj e E;dsimp only[cR]at m;exact au
 have⟨a,E⟩:=E;have e:=Aj e E;simp[e];refine gj m l λ_ m=>?_;refine Il e m λe m=>?_;simp[e];cases m;exact p _ _ _ ⟨a,aav⟩ z
def Cd:C2 prog 111 jY sI (sL Ty.av) Fm.av:=by
 refine v2 func111 λT H a0 a1 r m e=>?_;rw[jY] at m;simp[e];refine gj m vl λ_ m=>?_;refine Il e m λe m=>?_;simp[e];refine gj m QC λ_ m=>?_;exact au
def B9:C2 prog 44 jg sI (sL Ty.av) Fm.av:=by
 refine v2 func44 λT H a0 a1 r m e=>?_;rw[jg] at m;simp[e];refine gj m Dj λ_ m=>?_;refine Il e m λe m=>?_;simp[e];refine gj m Cd λ_ m=>?_;exact au
def N2:C2 prog 22 xA sI (sL Fm.av) Sq.av:=by
 refine v2 func22 λT H a0 a1 r m e=>?_;rw[xA] at m;refine Il e m λe m=>?_;simp[e];refine F7 e m 999 (λb _ f h=>h=H/\f.1 15=sL Fm.av a0/\f.1 16=sI (dT a0)/\f.1 17=sI b/\bx f 3 (Sq.av a1).cells) aav (λb _ _ _ _ _ _ _ E e m z p=>?_) (λ_ _ _ _ E m=>?_)
 ·have e:=Aj e E;simp[e];refine gj m B9 λ_ m=>?_;refine Il e m λe m=>?_;exact al
 have e:=Aj e E;dsimp only[cR]at m;simp[e];refine gj m Dj λ_ m=>?_;refine Il e m λe m=>?_;refine Il e m λe m=>?_;simp[e];refine Wr e m 999 (λa _ f h=>h=H/\f.1 38=sL Fm.av a1.afv/\f.1 39=sI (dT a1.afv)/\f.1 40=sI a/\bx f 3 (Sq.av a1).cells) aav (λ_ _ _ _ E m=>?_) (λa _ _ _ _ _ _ _ E e m z p=>?_)
 ·have e:=Aj e E;dsimp only[cR]at m;exact au
 have e:=Aj e E;simp[e];refine gj m B9 λ_ m=>?_;refine Il e m λe m=>?_;exact al
def Qf:C1 prog 215 n_ (t2 gr.av sB) sI:=by
 refine u1 6 func215 λT H a0 r m e=>?_;rw[n_] at m;simp[e];refine wj 999 0 (λf h=>h=H/\f.1 4=sI a0/\f.1 5=sB (fp (dC a0 1) true (dC a0 2))/\bx f 2 [sI 0,sI 0,sI 0,sB false,sB false]) (λ_ g=>?_) ?_
 ·rcases Pb (dC a0 1) e with e|e
  ·exact aj
  exact aj
 rintro _ _ E;have e:=Aj e E;apply Iq e m<;>intro e m
 ·apply wg 999;exact au
 apply wg 1;simp[e];refine wj 999 0 (λf h=>h=H/\f.1 4=sI a0/\f.1 9=sB (fp (dC a0 3) true (dC a0 7))/\bx f 2 [sI 0,sI 0,sI 0,sB false,sB false]) (λ_ g=>?_) ?_
 ·rcases Pb (dC a0 3) e with e|e
  ·exact aj
  exact aj
 rintro _ _ E;have e:=Aj e E;apply Iq e m<;>intro e m
 ·apply wg 999;exact au
 apply wg 1;simp[e];refine wj 999 0 (λf h=>h=H/\f.1 4=sI a0/\f.1 13=sB (fp (dC a0 4) true (fp (dC a0 5) true (dC a0 20)))/\bx f 2 [sI 0,sI 0,sI 0,sB false,sB false]) (λ_ g=>?_) ?_
 ·rcases Pb (dC a0 4) e with e|e
  ·exact aj
  rcases Pb (dC a0 5) e with e|e
  ·exact aj
  exact aj
 rintro _ _ E;have e:=Aj e E;apply Iq e m<;>intro e m
 ·apply wg 999;exact au
 apply wg 3;simp[e];apply Iq e m<;>intro e m
 ·apply wg 999;exact au
 apply wg 1;simp[e];refine wj 999 0 (λf h=>h=H/\f.1 4=sI a0/\f.1 21=sB (fp (dC a0 8) true (dC a0 12))/\bx f 2 [sI 0,sI 0,sI 0,sB false,sB false]) (λ_ g=>?_) ?_
 ·rcases Pb (dC a0 8) e with e|e
  ·exact aj
  exact aj
 rintro _ _ E;have e:=Aj e E;apply Iq e m<;>intro e m
 ·apply wg 999;exact au
 apply wg 1;simp[e];refine wj 999 0 (λf h=>h=H/\f.1 4=sI a0/\f.1 25=sB (fp (dC a0 9) true (dC a0 13))/\bx f 2 [sI 0,sI 0,sI 0,sB false,sB false]) (λ_ g=>?_) ?_
 ·rcases Pb (dC a0 9) e with e|e
  ·exact aj
  exact aj
 rintro _ _ E;have e:=Aj e E;apply Iq e m<;>intro e m
 ·apply wg 999;exact au
 apply wg 1;simp[e];refine wj 999 0 (λf h=>h=H/\f.1 4=sI a0/\f.1 29=sB (fp (dC a0 10) true (dC a0 14))/\bx f 2 [sI 0,sI 0,sI 0,sB false,sB false]) (λ_ g=>?_) ?_
 ·rcases Pb (dC a0 10) e with e|e
  ·exact aj
  exact aj
 rintro _ _ E;have e:=Aj e E;apply Iq e m<;>intro e m
 ·apply wg 999;exact au
 apply wg 1;simp[e];refine wj 999 0 (λf h=>h=H/\f.1 4=sI a0/\f.1 33=sB (fp (dC a0 11) true (dC a0 15))/\bx f 2 [sI 0,sI 0,sI 0,sB false,sB false]) (λ_ g=>?_) ?_
 ·rcases Pb (dC a0 11) e with e|e
  ·exact aj
  exact aj
 rintro _ _ E;have e:=Aj e E;apply Iq e m<;>intro e m
 ·apply wg 999;exact au
 apply wg 1;simp[e];refine wj 999 999 (λf h=>h=H/\f.1 4=sI a0/\f.1 37=sB (fp (dC a0 16) true (dC a0 17))/\bx f 2 [sI 0,sI 0,sI 0,sB false,sB false]) (λ_ g=>?_) ?_
 ·rcases Pb (dC a0 16) e with e|e
  ·exact aj
  exact aj
 rintro _ _ E;have e:=Aj e E;refine Il e m λe m=>?_;refine Il e m λe m=>?_;refine Il e m λe m=>?_;exact au
def QQ{n:Nat}:C1 prog 159 (nb n) sB Pf.av:=by
 refine i1 λn l=>u1 5 func159 λT H a0 r m e=>?_;rw[nb] at m;simp[e];refine mM m Qf λa j m=>?_;simp[e];refine wj 999 0 (λf h=>h=H/\f.1 57=sB (fp j (fp (dI (dT a0.dy) a.dy) true (fp (dI (dT a0.fP) a.fP) true (fp (dI (dT a0.afp) a.afp) true (fp (xT a0.afr 0) true (fp a.afr false (dI a0.afr 0)))))) true)/\bx f 1 (Pf.av a0).cells/\bx f 3 (gr.av a).cells) (λ_ g=>?_) ?_
 ·rcases Pb j e with e|e;rotate_left
  ·exact aj
  rcases Pb (dI (dT a0.dy) a.dy) e with e|e
  ·exact aj
  rcases Pb (dI (dT a0.fP) a.fP) e with e|e
  ·exact aj
  rcases Pb (dI (dT a0.afp) a.afp) e with e|e
  ·exact aj
  rcases Pb (xT a0.afr 0) e with e|e
  ·exact aj
  rcases Pb a.afr e with e|e
  ·exact aj
  exact aj
 rintro _ _ E;have e:=Aj e E;apply Iq e m<;>intro e m
 ·apply wg 999;exact au
 apply wg 3;simp[e];refine Wj m 999 999 (λk f h=>∃i,(h=H/\f.1 76=sB i/\bx f 1 (Pf.av a0).cells)/\k i=some r) (λk _ g m=>?_) ?_
 ·apply Ir e m<;>intro e m
  ·simp[e];refine gj m DB λ_ m=>?_;exact nP
  simp[e];refine gj m xx λ_ m=>?_;apply Iq e m<;>intro e m
  ·exact nP
  exact nP
 rintro _ _ ⟨i,E,m⟩;have e:=Aj e E;refine Il e m λe m=>?_;simp[e];refine F7 e m 999 (λb _ f h=>h=H/\f.1 78=sL Tm.av a0.dy/\f.1 79=sI (dT a0.dy)/\f.1 80=sI b/\bx f 1 (Pf.av a0).cells) aav (λb _ _ _ _ _ _ _ E e m z p=>?_) (λ_ _ _ _ E m=>?_)
 ·have e:=Aj e E;simp[e];refine gj m Cc λ_ m=>?_;refine Im e m λe m=>?_;exact al
 have e:=Aj e E;dsimp only[cR]at m;simp[e];refine F7 e m 999 (λc _ f h=>h=H/\f.1 89=sL Fm.av a0.fP/\f.1 90=sI (dT a0.fP)/\f.1 91=sI c/\bx f 1 (Pf.av a0).cells) aav (λc _ _ _ _ _ _ _ E e m z p=>?_) (λ_ _ _ _ E m=>?_)
 ·have e:=Aj e E;simp[e];refine gj m Ke λ_ m=>?_;refine Im e m λe m=>?_;exact al
 have e:=Aj e E;dsimp only[cR]at m;simp[e];refine Wr e m 999 (λd _ f h=>h=H/\f.1 100=sL Pf.av a0.afp/\f.1 101=sI (dT a0.afp)/\f.1 102=sI d) aav (λ_ _ _ _ E m=>?_) (λd _ _ _ _ _ _ _ E e m z p=>?_)
 ·have e:=Aj e E;dsimp only[cR]at m;exact au
 have e:=Aj e E;simp[e];refine gj m l λ_ m=>?_;refine Im e m λe m=>?_;exact al
def Qv{n:Nat}:C1 prog 175 (tr n) sB Pf.av:=by
 refine i1 λn d=>v1 func175 λT H a0 r m e=>?_;rw[tr] at m;simp[e];refine F7 e m 999 (λc _ f h=>h=H/\f.1 10=sL Tm.av a0.dy/\f.1 11=sI (dT a0.dy)/\f.1 12=sI c/\bx f 1 (Pf.av a0).cells) aav (λc _ _ _ _ _ _ _ E e m z p=>?_) (λ_ _ _ _ E m=>?_)
 ·have e:=Aj e E;simp[e];refine gj m jQ λ_ m=>?_;refine Il e m λe m=>?_;exact al
 have e:=Aj e E;dsimp only[cR]at m;simp[e];refine F7 e m 999 (λa _ f h=>h=H/\f.1 21=sL Fm.av a0.fP/\f.1 22=sI (dT a0.fP)/\f.1 23=sI a/\bx f 1 (Pf.av a0).cells) aav (λa _ _ _ _ _ _ _ E e m z p=>?_) (λ_ _ _ _ E m=>?_)
 ·have e:=Aj e E;simp[e];refine gj m xz λ_ m=>?_;refine Il e m λe m=>?_;exact al
 have e:=Aj e E;dsimp only[cR]at m;simp[e];refine Wr e m 999 (λb _ f h=>h=H/\f.1 32=sL Pf.av a0.afp/\f.1 33=sI (dT a0.afp)/\f.1 34=sI b) aav (λ_ _ _ _ E m=>?_) (λb _ _ _ _ _ _ _ E e m z p=>?_)
 ·have e:=Aj e E;dsimp only[cR]at m;exact au
 have e:=Aj e E;simp[e];refine gj m d λ_ m=>?_;refine Im e m λe m=>?_;exact al
def B8{n:Nat}:C1 prog 120 (lH n) sI Pf.av:=by
 refine i1 λn j=>v1 func120 λT H a0 r m e=>?_;rw[lH] at m;simp[e];refine F7 e m 999 (λi s2 f h=>h=H/\f.1 3=sI s2/\f.1 11=sL Tm.av a0.dy/\f.1 12=sI (dT a0.dy)/\f.1 13=sI i/\bx f 1 (Pf.av a0).cells) aav (λi _ s2 _ _ _ _ _ E e m z p=>?_) (λs2 _ _ _ E m=>?_)
 ·have e:=Aj e E;simp[e];refine gj m jQ λ_ m=>?_;exact al
 have e:=Aj e E;dsimp only[cR]at m;simp[e];refine F7 e m 999 (λc a f h=>h=H/\f.1 3=sI a/\f.1 23=sL Fm.av a0.fP/\f.1 24=sI (dT a0.fP)/\f.1 25=sI c/\bx f 1 (Pf.av a0).cells) aav (λc _ a _ _ _ _ _ E e m z p=>?_) (λa _ _ _ E m=>?_)
 ·have e:=Aj e E;simp[e];refine gj m xz λ_ m=>?_;exact al
 have e:=Aj e E;dsimp only[cR]at m;simp[e];refine Wr e m 999 (λd b f h=>h=H/\f.1 3=sI b/\f.1 35=sL Pf.av a0.afp/\f.1 36=sI (dT a0.afp)/\f.1 37=sI d) aav (λb _ _ _ E m=>?_) (λd _ b _ _ _ _ _ E e m z p=>?_)
 ·have e:=Aj e E;dsimp only[cR]at m;exact au
 have e:=Aj e E;simp[e];refine gj m j λ_ m=>?_;exact al
end Go.Proofs.YtobcafblgapgfaaGreatDoor
