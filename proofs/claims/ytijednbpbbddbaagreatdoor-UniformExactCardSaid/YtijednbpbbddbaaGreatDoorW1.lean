/- Part of the proof of UniformExact, UniformAccepted: walks. -/
import Derived.Test.YtijednbpbbddbaaGreatDoorProg
import Derived.Test.YtijednbpbbddbaaGreatDoorChecked
import Derived.WalkKit
import Derived.Laws.Bits64b
import Derived.BigCall
import Derived.Test.YtijednbpbbddbaaGreatDoorG1
import Derived.Test.YtijednbpbbddbaaGreatDoorL18
set_option linter.all false
namespace Go.Proofs.YtijednbpbbddbaaGreatDoor
open Go Go.ns Go.ek Tryz
def ago:prog.follows .mixedOrders=true:=by kernel_rfl
instance:Nonempty (prog.follows .mixedOrders=true):=⟨ago⟩
end Go.Proofs.YtijednbpbbddbaaGreatDoor
namespace Go.ek
open Go Go.ns
mutual
def Ty.av:Ty->AV
 |.mk agj agk=>.agg [sI agj,AV.slice .jU (Ty.PA agk)]
def Ty.PA:List Ty->List AV
 |[]=>[]|x::l=>x.av::Ty.PA l
end
def Ty.Hh(l:List Ty):Ty.PA l=l.map Ty.av:=by
 induction l with
 |nil=>rfl|cons x l a=>simp[Ty.PA,a]
def Ty.fE(agj:Int)(agk:List Ty):(Ty.mk agj agk).av=.agg [sI agj,sL Ty.av agk]:=by rw[Ty.av];simp only[Ty.Hh]
mutual
@[simp] theorem Ty.Ei(k:Nat):∀x:Ty,x.av.low k=true
 |.mk agj agk=>by rw[Ty.fE];simp[AV.low,AV.kx,Ty.w8 k agk]
@[simp] theorem Ty.w8(k:Nat):∀l:List Ty,AV.kx k (l.map Ty.av)=true
 |[]=>rfl|x::l=>by simp[AV.kx,Ty.Ei k x,Ty.w8 k l]
end
def Ty.gx(x:Ty):x.av=.agg [sI x.agj,sL Ty.av x.agk]:=by cases x;exact Ty.fE _ _
@[simp] theorem Ty.gW(x:Ty):x.av.cells=[sI x.agj,sL Ty.av x.agk]:=by rw[Ty.gx];rfl
@[simp] theorem Ty.xl(x:Ty):e9 x.av=true:=by rw[Ty.gx];rfl
@[simp] theorem Ty.sx(x:Ty):x.av.norm=x.av:=by rw[Ty.gx];rfl
@[simp] theorem Ty.aeh(a:Int)(b:List Ty):AV.agg [sI a,sL Ty.av b]=Ty.av (Ty.mk a b):=by rw[Ty.fE]<;>rfl
@[simp] theorem Ty.aft(a:Int):AV.agg [sI a,AV.slice .jU []]=Ty.av (Ty.mk a []):=by rw[Ty.fE]<;>rfl
mutual
def Tm.av:Tm->AV
 |.mk agj agm cO agk=>.agg [sI agj,sI agm,sI cO.agj,sL Ty.av cO.agk,AV.slice .jU (Tm.PA agk)]
def Tm.PA:List Tm->List AV
 |[]=>[]|x::l=>x.av::Tm.PA l
end
def Tm.Hh(l:List Tm):Tm.PA l=l.map Tm.av:=by
 induction l with
 |nil=>rfl|cons x l a=>simp[Tm.PA,a]
def Tm.fE(agj agm:Int)(cO:Ty)(agk:List Tm):(Tm.mk agj agm cO agk).av=.agg [sI agj,sI agm,sI cO.agj,sL Ty.av cO.agk,sL Tm.av agk]:=by rw[Tm.av];simp only[Tm.Hh]
mutual
@[simp] theorem Tm.Ei(k:Nat):∀x:Tm,x.av.low k=true
 |.mk agj agm cO agk=>by rw[Tm.fE];simp[AV.low,AV.kx,Tm.w8 k agk]
@[simp] theorem Tm.w8(k:Nat):∀l:List Tm,AV.kx k (l.map Tm.av)=true
 |[]=>rfl|x::l=>by simp[AV.kx,Tm.Ei k x,Tm.w8 k l]
end
def Tm.gx(x:Tm):x.av=.agg [sI x.agj,sI x.agm,sI x.cO.agj,sL Ty.av x.cO.agk,sL Tm.av x.agk]:=by cases x;exact Tm.fE _ _ _ _
@[simp] theorem Tm.gW(x:Tm):x.av.cells=[sI x.agj,sI x.agm,sI x.cO.agj,sL Ty.av x.cO.agk,sL Tm.av x.agk]:=by rw[Tm.gx];rfl
@[simp] theorem Tm.xl(x:Tm):e9 x.av=true:=by rw[Tm.gx];rfl
@[simp] theorem Tm.sx(x:Tm):x.av.norm=x.av:=by rw[Tm.gx];rfl
@[simp] theorem Tm.Z0(a b c:Int)(c3:List Ty)(d:List Tm):AV.agg [sI a,sI b,sI c,sL Ty.av c3,sL Tm.av d]=Tm.av (Tm.mk a b (Ty.mk c c3) d):=by rw[Tm.fE]<;>rfl
@[simp] theorem Tm.af6(a b c:Int)(d:List Tm):AV.agg [sI a,sI b,sI c,AV.slice .jU [],sL Tm.av d]=Tm.av (Tm.mk a b (Ty.mk c []) d):=by rw[Tm.fE]<;>rfl
@[simp] theorem Tm.ad0(a b c:Int):AV.agg [sI a,sI b,sI c,AV.slice .jU [],AV.slice .jU []]=Tm.av (Tm.mk a b (Ty.mk c []) []):=by rw[Tm.fE]<;>rfl
mutual
def Fm.av:Fm->AV
 |.mk agj cO dc agk=>.agg [sI agj,sI cO.agj,sL Ty.av cO.agk,sL Tm.av dc,AV.slice .jU (Fm.PA agk)]
def Fm.PA:List Fm->List AV
 |[]=>[]|x::l=>x.av::Fm.PA l
end
def Fm.Hh(l:List Fm):Fm.PA l=l.map Fm.av:=by
 induction l with
 |nil=>rfl|cons x l a=>simp[Fm.PA,a]
def Fm.fE(agj:Int)(cO:Ty)(dc:List Tm)(agk:List Fm):(Fm.mk agj cO dc agk).av=.agg [sI agj,sI cO.agj,sL Ty.av cO.agk,sL Tm.av dc,sL Fm.av agk]:=by rw[Fm.av];simp only[Fm.Hh]
mutual
@[simp] theorem Fm.Ei(k:Nat):∀x:Fm,x.av.low k=true
 |.mk agj cO dc agk=>by rw[Fm.fE];simp[AV.low,AV.kx,Fm.w8 k agk]
@[simp] theorem Fm.w8(k:Nat):∀l:List Fm,AV.kx k (l.map Fm.av)=true
 |[]=>rfl|x::l=>by simp[AV.kx,Fm.Ei k x,Fm.w8 k l]
end
def Fm.gx(x:Fm):x.av=.agg [sI x.agj,sI x.cO.agj,sL Ty.av x.cO.agk,sL Tm.av x.dc,sL Fm.av x.agk]:=by cases x;exact Fm.fE _ _ _ _
@[simp] theorem Fm.gW(x:Fm):x.av.cells=[sI x.agj,sI x.cO.agj,sL Ty.av x.cO.agk,sL Tm.av x.dc,sL Fm.av x.agk]:=by rw[Fm.gx];rfl
@[simp] theorem Fm.xl(x:Fm):e9 x.av=true:=by rw[Fm.gx];rfl
@[simp] theorem Fm.sx(x:Fm):x.av.norm=x.av:=by rw[Fm.gx];rfl
@[simp] theorem Fm.S_(a b:Int)(c:List Ty)(c3:List Tm)(d:List Fm):AV.agg [sI a,sI b,sL Ty.av c,sL Tm.av c3,sL Fm.av d]=Fm.av (Fm.mk a (Ty.mk b c) c3 d):=by rw[Fm.fE]<;>rfl
@[simp] theorem Fm.afL(a b:Int)(c:List Fm):AV.agg [sI a,sI b,AV.slice .jU [],AV.slice .jU [],sL Fm.av c]=Fm.av (Fm.mk a (Ty.mk b []) [] c):=by rw[Fm.fE]<;>rfl
@[simp] theorem Fm.abB(a b:Int):AV.agg [sI a,sI b,AV.slice .jU [],AV.slice .jU [],AV.slice .jU []]=Fm.av (Fm.mk a (Ty.mk b []) [] []):=by rw[Fm.fE]<;>rfl
mutual
def Pf.av:Pf->AV
 |.mk agj agm cO dc eo agk=>.agg [sI agj,sI agm,sI cO.agj,sL Ty.av cO.agk,sL Tm.av dc,sL Fm.av eo,AV.slice .jU (Pf.PA agk)]
def Pf.PA:List Pf->List AV
 |[]=>[]|x::l=>x.av::Pf.PA l
end
def Pf.Hh(l:List Pf):Pf.PA l=l.map Pf.av:=by
 induction l with
 |nil=>rfl|cons x l a=>simp[Pf.PA,a]
def Pf.fE(agj agm:Int)(cO:Ty)(dc:List Tm)(eo:List Fm)(agk:List Pf):(Pf.mk agj agm cO dc eo agk).av=.agg [sI agj,sI agm,sI cO.agj,sL Ty.av cO.agk,sL Tm.av dc,sL Fm.av eo,sL Pf.av agk]:=by rw[Pf.av];simp only[Pf.Hh]
mutual
@[simp] theorem Pf.Ei(k:Nat):∀x:Pf,x.av.low k=true
 |.mk agj agm cO dc eo agk=>by rw[Pf.fE];simp[AV.low,AV.kx,Pf.w8 k agk]
@[simp] theorem Pf.w8(k:Nat):∀l:List Pf,AV.kx k (l.map Pf.av)=true
 |[]=>rfl|x::l=>by simp[AV.kx,Pf.Ei k x,Pf.w8 k l]
end
def Pf.gx(x:Pf):x.av=.agg [sI x.agj,sI x.agm,sI x.cO.agj,sL Ty.av x.cO.agk,sL Tm.av x.dc,sL Fm.av x.eo,sL Pf.av x.agk]:=by cases x;exact Pf.fE _ _ _ _ _ _
@[simp] theorem Pf.gW(x:Pf):x.av.cells=[sI x.agj,sI x.agm,sI x.cO.agj,sL Ty.av x.cO.agk,sL Tm.av x.dc,sL Fm.av x.eo,sL Pf.av x.agk]:=by rw[Pf.gx];rfl
@[simp] theorem Pf.xl(x:Pf):e9 x.av=true:=by rw[Pf.gx];rfl
@[simp] theorem Pf.sx(x:Pf):x.av.norm=x.av:=by rw[Pf.gx];rfl
@[simp] theorem Pf.Ux(a b c:Int)(c3:List Ty)(d:List Tm)(c5:List Fm)(e:List Pf):AV.agg [sI a,sI b,sI c,sL Ty.av c3,sL Tm.av d,sL Fm.av c5,sL Pf.av e]=Pf.av (Pf.mk a b (Ty.mk c c3) d c5 e):=by rw[Pf.fE]<;>rfl
@[simp] theorem Pf.ae6(a b c:Int)(d:List Pf):AV.agg [sI a,sI b,sI c,AV.slice .jU [],AV.slice .jU [],AV.slice .jU [],sL Pf.av d]=Pf.av (Pf.mk a b (Ty.mk c []) [] [] d):=by rw[Pf.fE]<;>rfl
@[simp] theorem Pf.YB(a b c:Int):AV.agg [sI a,sI b,sI c,AV.slice .jU [],AV.slice .jU [],AV.slice .jU [],AV.slice .jU []]=Pf.av (Pf.mk a b (Ty.mk c []) [] [] []):=by rw[Pf.fE]<;>rfl
def Sq.av(x:Sq):AV:=.agg [sL Ty.av x.agn,sL Fm.av x.agq]
def Sq.fE(agn:List Ty)(agq:List Fm):(Sq.mk agn agq).av=.agg [sL Ty.av agn,sL Fm.av agq]:=rfl
def Sq.gx(x:Sq):x.av=.agg [sL Ty.av x.agn,sL Fm.av x.agq]:=by cases x;exact Sq.fE _ _
@[simp] theorem Sq.gW(x:Sq):x.av.cells=[sL Ty.av x.agn,sL Fm.av x.agq]:=by rw[Sq.gx];rfl
@[simp] theorem Sq.xl(x:Sq):e9 x.av=true:=by rw[Sq.gx];rfl
@[simp] theorem Sq.sx(x:Sq):x.av.norm=x.av:=by rw[Sq.gx];rfl
@[simp] theorem Sq.Z0(a:List Ty)(b:List Fm):AV.agg [sL Ty.av a,sL Fm.av b]=Sq.av (Sq.mk a b):=by rw[Sq.fE]<;>rfl
@[simp] theorem Sq.af_(a:List Ty):AV.agg [sL Ty.av a,AV.slice .jU []]=Sq.av (Sq.mk a []):=by rw[Sq.fE]<;>rfl
@[simp] theorem Sq.ad0:AV.agg [AV.slice .jU [],AV.slice .jU []]=Sq.av (Sq.mk [] []):=by rw[Sq.fE]<;>rfl
def eE.av(x:eE):AV:=.agg [sI x.n]
def eE.fE(n:Int):(eE.mk n).av=.agg [sI n]:=rfl
def eE.gx(x:eE):x.av=.agg [sI x.n]:=by cases x;exact eE.fE _
@[simp] theorem eE.gW(x:eE):x.av.cells=[sI x.n]:=by rw[eE.gx];rfl
@[simp] theorem eE.xl(x:eE):e9 x.av=true:=by rw[eE.gx];rfl
@[simp] theorem eE.sx(x:eE):x.av.norm=x.av:=by rw[eE.gx];rfl
@[simp] theorem eE.agg(a:Int):AV.agg [sI a]=eE.av (eE.mk a):=by rw[eE.fE]<;>rfl
def ur.av(x:ur):AV:=.agg [sI x.cR.agj,sI x.cR.cO.agj,sL Ty.av x.cR.cO.agk,sL Tm.av x.cR.dc,sL Fm.av x.cR.agk,AV.slice .jU (List.map (λn=>AV.sc (Value.int .i64 n)) x.eX)]
def ur.fE(cR:Fm)(eX:List Int):(ur.mk cR eX).av=.agg [sI cR.agj,sI cR.cO.agj,sL Ty.av cR.cO.agk,sL Tm.av cR.dc,sL Fm.av cR.agk,AV.slice .jU (List.map (λn=>AV.sc (Value.int .i64 n)) eX)]:=rfl
@[simp] theorem ur.Ei(k:Nat)(x:ur):x.av.low k=true:=by
 cases x;rw[ur.fE];simp[AV.low,AV.kx]
def ur.gx(x:ur):x.av=.agg [sI x.cR.agj,sI x.cR.cO.agj,sL Ty.av x.cR.cO.agk,sL Tm.av x.cR.dc,sL Fm.av x.cR.agk,AV.slice .jU (List.map (λn=>AV.sc (Value.int .i64 n)) x.eX)]:=by cases x;exact ur.fE _ _
@[simp] theorem ur.gW(x:ur):x.av.cells=[sI x.cR.agj,sI x.cR.cO.agj,sL Ty.av x.cR.cO.agk,sL Tm.av x.cR.dc,sL Fm.av x.cR.agk,AV.slice .jU (List.map (λn=>AV.sc (Value.int .i64 n)) x.eX)]:=by rw[ur.gx];rfl
@[simp] theorem ur.xl(x:ur):e9 x.av=true:=by rw[ur.gx];rfl
@[simp] theorem ur.sx(x:ur):x.av.norm=x.av:=by rw[ur.gx];rfl
@[simp] theorem ur.Ux(a b:Int)(c:List Ty)(c3:List Tm)(d:List Fm)(c5:List Int):AV.agg [sI a,sI b,sL Ty.av c,sL Tm.av c3,sL Fm.av d,AV.slice .jU (List.map (λn=>AV.sc (Value.int .i64 n)) c5)]=ur.av (ur.mk (Fm.mk a (Ty.mk b c) c3 d) c5):=by rw[ur.fE]<;>rfl
@[simp] theorem ur.YB(a b:Int):AV.agg [sI a,sI b,AV.slice .jU [],AV.slice .jU [],AV.slice .jU [],AV.slice .jU []]=ur.av (ur.mk (Fm.mk a (Ty.mk b []) [] []) []):=by rw[ur.fE]<;>rfl
def c9.av(x:c9):AV:=.agg [AV.slice .jU (List.map (λn=>AV.sc (Value.int .i64 n)) x.l),sI x.rB]
def c9.fE(l:List Int)(rB:Int):(c9.mk l rB).av=.agg [AV.slice .jU (List.map (λn=>AV.sc (Value.int .i64 n)) l),sI rB]:=rfl
def c9.gx(x:c9):x.av=.agg [AV.slice .jU (List.map (λn=>AV.sc (Value.int .i64 n)) x.l),sI x.rB]:=by cases x;exact c9.fE _ _
@[simp] theorem c9.gW(x:c9):x.av.cells=[AV.slice .jU (List.map (λn=>AV.sc (Value.int .i64 n)) x.l),sI x.rB]:=by rw[c9.gx];rfl
@[simp] theorem c9.xl(x:c9):e9 x.av=true:=by rw[c9.gx];rfl
@[simp] theorem c9.aeh(a:List Int)(b:Int):AV.agg [AV.slice .jU (List.map (λn=>AV.sc (Value.int .i64 n)) a),sI b]=c9.av (c9.mk a b):=by rw[c9.fE]<;>rfl
def eK.av(x:eK):AV:=.agg [sL Ty.av x.mD.agn,sL Fm.av x.mD.agq,sL Tm.av x.vars,sL Tm.av x.agq]
def eK.fE(mD:Sq)(vars agq:List Tm):(eK.mk mD vars agq).av=.agg [sL Ty.av mD.agn,sL Fm.av mD.agq,sL Tm.av vars,sL Tm.av agq]:=rfl
def eK.gx(x:eK):x.av=.agg [sL Ty.av x.mD.agn,sL Fm.av x.mD.agq,sL Tm.av x.vars,sL Tm.av x.agq]:=by cases x;exact eK.fE _ _ _
@[simp] theorem eK.gW(x:eK):x.av.cells=[sL Ty.av x.mD.agn,sL Fm.av x.mD.agq,sL Tm.av x.vars,sL Tm.av x.agq]:=by rw[eK.gx];rfl
@[simp] theorem eK.xl(x:eK):e9 x.av=true:=by rw[eK.gx];rfl
@[simp] theorem eK.sx(x:eK):x.av.norm=x.av:=by rw[eK.gx];rfl
@[simp] theorem eK.Ux(a:List Ty)(b:List Fm)(c c3:List Tm):AV.agg [sL Ty.av a,sL Fm.av b,sL Tm.av c,sL Tm.av c3]=eK.av (eK.mk (Sq.mk a b) c c3):=by rw[eK.fE]<;>rfl
@[simp] theorem eK.ae'(a:List Ty)(b:List Fm):AV.agg [sL Ty.av a,sL Fm.av b,AV.slice .jU [],AV.slice .jU []]=eK.av (eK.mk (Sq.mk a b) [] []):=by rw[eK.fE]<;>rfl
def cW.av(x:cW):AV:=.agg [sL Fm.av x.lemmas,sL Ty.av x.agn,sL Fm.av x.agq]
def cW.fE(lemmas:List Fm)(agn:List Ty)(agq:List Fm):(cW.mk lemmas agn agq).av=.agg [sL Fm.av lemmas,sL Ty.av agn,sL Fm.av agq]:=rfl
def cW.gx(x:cW):x.av=.agg [sL Fm.av x.lemmas,sL Ty.av x.agn,sL Fm.av x.agq]:=by cases x;exact cW.fE _ _ _
@[simp] theorem cW.gW(x:cW):x.av.cells=[sL Fm.av x.lemmas,sL Ty.av x.agn,sL Fm.av x.agq]:=by rw[cW.gx];rfl
@[simp] theorem cW.xl(x:cW):e9 x.av=true:=by rw[cW.gx];rfl
@[simp] theorem cW.sx(x:cW):x.av.norm=x.av:=by rw[cW.gx];rfl
@[simp] theorem cW.S_(a:List Fm)(b:List Ty)(c:List Fm):AV.agg [sL Fm.av a,sL Ty.av b,sL Fm.av c]=cW.av (cW.mk a b c):=by rw[cW.fE]<;>rfl
def cM.av(x:cM):AV:=.agg [sI x.cR.agj,sI x.cR.cO.agj,sL Ty.av x.cR.cO.agk,sL Tm.av x.cR.dc,sL Fm.av x.cR.agk,AV.sc (.int .u32 x.eX)]
def cM.fE(cR:Fm)(eX:Int):(cM.mk cR eX).av=.agg [sI cR.agj,sI cR.cO.agj,sL Ty.av cR.cO.agk,sL Tm.av cR.dc,sL Fm.av cR.agk,AV.sc (.int .u32 eX)]:=rfl
def cM.gx(x:cM):x.av=.agg [sI x.cR.agj,sI x.cR.cO.agj,sL Ty.av x.cR.cO.agk,sL Tm.av x.cR.dc,sL Fm.av x.cR.agk,AV.sc (.int .u32 x.eX)]:=by cases x;exact cM.fE _ _
@[simp] theorem cM.gW(x:cM):x.av.cells=[sI x.cR.agj,sI x.cR.cO.agj,sL Ty.av x.cR.cO.agk,sL Tm.av x.cR.dc,sL Fm.av x.cR.agk,AV.sc (.int .u32 x.eX)]:=by rw[cM.gx];rfl
@[simp] theorem cM.xl(x:cM):e9 x.av=true:=by rw[cM.gx];rfl
@[simp] theorem cM.sx(x:cM):x.av.norm=x.av:=by rw[cM.gx];rfl
@[simp] theorem cM.S_(a b:Int)(c:List Ty)(c3:List Tm)(d:List Fm)(c5:Int):AV.agg [sI a,sI b,sL Ty.av c,sL Tm.av c3,sL Fm.av d,AV.sc (.int .u32 c5)]=cM.av (cM.mk (Fm.mk a (Ty.mk b c) c3 d) c5):=by rw[cM.fE]<;>rfl
@[simp] theorem cM.abB(a b c5:Int):AV.agg [sI a,sI b,AV.slice .jU [],AV.slice .jU [],AV.slice .jU [],AV.sc (.int .u32 c5)]=cM.av (cM.mk (Fm.mk a (Ty.mk b []) [] []) c5):=by rw[cM.fE]<;>rfl
def ef.av(x:ef):AV:=.agg [sI x.vars,sI x.agq]
def ef.fE(vars agq:Int):(ef.mk vars agq).av=.agg [sI vars,sI agq]:=rfl
def ef.gx(x:ef):x.av=.agg [sI x.vars,sI x.agq]:=by cases x;exact ef.fE _ _
@[simp] theorem ef.gW(x:ef):x.av.cells=[sI x.vars,sI x.agq]:=by rw[ef.gx];rfl
@[simp] theorem ef.xl(x:ef):e9 x.av=true:=by rw[ef.gx];rfl
@[simp] theorem ef.sx(x:ef):x.av.norm=x.av:=by rw[ef.gx];rfl
@[simp] theorem ef.agg(a b:Int):AV.agg [sI a,sI b]=ef.av (ef.mk a b):=by rw[ef.fE]<;>rfl
def cP.av(x:cP):AV:=.agg [sI x.cO.agj,sL Ty.av x.cO.agk,sI x.agl]
def cP.fE(cO:Ty)(agl:Int):(cP.mk cO agl).av=.agg [sI cO.agj,sL Ty.av cO.agk,sI agl]:=rfl
def cP.gx(x:cP):x.av=.agg [sI x.cO.agj,sL Ty.av x.cO.agk,sI x.agl]:=by cases x;exact cP.fE _ _
@[simp] theorem cP.gW(x:cP):x.av.cells=[sI x.cO.agj,sL Ty.av x.cO.agk,sI x.agl]:=by rw[cP.gx];rfl
@[simp] theorem cP.xl(x:cP):e9 x.av=true:=by rw[cP.gx];rfl
@[simp] theorem cP.sx(x:cP):x.av.norm=x.av:=by rw[cP.gx];rfl
@[simp] theorem cP.aeh(a:Int)(b:List Ty)(c:Int):AV.agg [sI a,sL Ty.av b,sI c]=cP.av (cP.mk (Ty.mk a b) c):=by rw[cP.fE]<;>rfl
@[simp] theorem cP.aft(a b:Int):AV.agg [sI a,AV.slice .jU [],sI b]=cP.av (cP.mk (Ty.mk a []) b):=by rw[cP.fE]<;>rfl
def c_.av(x:c_):AV:=.agg [sI x.cR.agj,sI x.cR.cO.agj,sL Ty.av x.cR.cO.agk,sL Tm.av x.cR.dc,sL Fm.av x.cR.agk,sI x.vars]
def c_.fE(cR:Fm)(vars:Int):(c_.mk cR vars).av=.agg [sI cR.agj,sI cR.cO.agj,sL Ty.av cR.cO.agk,sL Tm.av cR.dc,sL Fm.av cR.agk,sI vars]:=rfl
def c_.gx(x:c_):x.av=.agg [sI x.cR.agj,sI x.cR.cO.agj,sL Ty.av x.cR.cO.agk,sL Tm.av x.cR.dc,sL Fm.av x.cR.agk,sI x.vars]:=by cases x;exact c_.fE _ _
@[simp] theorem c_.gW(x:c_):x.av.cells=[sI x.cR.agj,sI x.cR.cO.agj,sL Ty.av x.cR.cO.agk,sL Tm.av x.cR.dc,sL Fm.av x.cR.agk,sI x.vars]:=by rw[c_.gx];rfl
@[simp] theorem c_.xl(x:c_):e9 x.av=true:=by rw[c_.gx];rfl
@[simp] theorem c_.sx(x:c_):x.av.norm=x.av:=by rw[c_.gx];rfl
@[simp] theorem c_.S_(a b:Int)(c:List Ty)(c3:List Tm)(d:List Fm)(c5:Int):AV.agg [sI a,sI b,sL Ty.av c,sL Tm.av c3,sL Fm.av d,sI c5]=c_.av (c_.mk (Fm.mk a (Ty.mk b c) c3 d) c5):=by rw[c_.fE]<;>rfl
def cQ.av(x:cQ):AV:=.agg [sI x.eB.vars,sI x.eB.agq,sL cP.av x.agn,sL c_.av x.known]
def cQ.fE(eB:ef)(agn:List cP)(known:List c_):(cQ.mk eB agn known).av=.agg [sI eB.vars,sI eB.agq,sL cP.av agn,sL c_.av known]:=rfl
def cQ.gx(x:cQ):x.av=.agg [sI x.eB.vars,sI x.eB.agq,sL cP.av x.agn,sL c_.av x.known]:=by cases x;exact cQ.fE _ _ _
@[simp] theorem cQ.gW(x:cQ):x.av.cells=[sI x.eB.vars,sI x.eB.agq,sL cP.av x.agn,sL c_.av x.known]:=by rw[cQ.gx];rfl
@[simp] theorem cQ.xl(x:cQ):e9 x.av=true:=by rw[cQ.gx];rfl
@[simp] theorem cQ.sx(x:cQ):x.av.norm=x.av:=by rw[cQ.gx];rfl
@[simp] theorem cQ.Z0(a b:Int)(c:List cP)(c3:List c_):AV.agg [sI a,sI b,sL cP.av c,sL c_.av c3]=cQ.av (cQ.mk (ef.mk a b) c c3):=by rw[cQ.fE]<;>rfl
def cY.av(x:cY):AV:=.agg [sI x.agl,sB x.hR]
def cY.fE(agl:Int)(hR:Bool):(cY.mk agl hR).av=.agg [sI agl,sB hR]:=rfl
def cY.gx(x:cY):x.av=.agg [sI x.agl,sB x.hR]:=by cases x;exact cY.fE _ _
@[simp] theorem cY.gW(x:cY):x.av.cells=[sI x.agl,sB x.hR]:=by rw[cY.gx];rfl
@[simp] theorem cY.xl(x:cY):e9 x.av=true:=by rw[cY.gx];rfl
@[simp] theorem cY.agg(a:Int)(b:Bool):AV.agg [sI a,sB b]=cY.av (cY.mk a b):=by rw[cY.fE]<;>rfl
def eW.av(x:eW):AV:=.agg [sI x.dc,sI x.eo,sI x.agk,sB x.agm,sB x.rf]
def eW.fE(dc eo agk:Int)(agm rf:Bool):(eW.mk dc eo agk agm rf).av=.agg [sI dc,sI eo,sI agk,sB agm,sB rf]:=rfl
def eW.gx(x:eW):x.av=.agg [sI x.dc,sI x.eo,sI x.agk,sB x.agm,sB x.rf]:=by cases x;exact eW.fE _ _ _ _ _
@[simp] theorem eW.gW(x:eW):x.av.cells=[sI x.dc,sI x.eo,sI x.agk,sB x.agm,sB x.rf]:=by rw[eW.gx];rfl
@[simp] theorem eW.xl(x:eW):e9 x.av=true:=by rw[eW.gx];rfl
@[simp] theorem eW.sx(x:eW):x.av.norm=x.av:=by rw[eW.gx];rfl
@[simp] theorem eW.agg(a b c:Int)(c3 d:Bool):AV.agg [sI a,sI b,sI c,sB c3,sB d]=eW.av (eW.mk a b c c3 d):=by rw[eW.fE]<;>rfl
def ey.av(x:ey):AV:=.agg [sI x.agj,sI x.base.agj,sI x.base.agm,sI x.base.cO.agj,sL Ty.av x.base.cO.agk,sL Tm.av x.base.agk,sL Ty.av x.vars,sI x.next.agj,sI x.next.agm,sI x.next.cO.agj,sL Ty.av x.next.cO.agk,sL Tm.av x.next.agk]
def ey.fE(agj:Int)(base:Tm)(vars:List Ty)(next:Tm):(ey.mk agj base vars next).av=.agg [sI agj,sI base.agj,sI base.agm,sI base.cO.agj,sL Ty.av base.cO.agk,sL Tm.av base.agk,sL Ty.av vars,sI next.agj,sI next.agm,sI next.cO.agj,sL Ty.av next.cO.agk,sL Tm.av next.agk]:=rfl
def ey.gx(x:ey):x.av=.agg [sI x.agj,sI x.base.agj,sI x.base.agm,sI x.base.cO.agj,sL Ty.av x.base.cO.agk,sL Tm.av x.base.agk,sL Ty.av x.vars,sI x.next.agj,sI x.next.agm,sI x.next.cO.agj,sL Ty.av x.next.cO.agk,sL Tm.av x.next.agk]:=by cases x;exact ey.fE _ _ _ _
@[simp] theorem ey.gW(x:ey):x.av.cells=[sI x.agj,sI x.base.agj,sI x.base.agm,sI x.base.cO.agj,sL Ty.av x.base.cO.agk,sL Tm.av x.base.agk,sL Ty.av x.vars,sI x.next.agj,sI x.next.agm,sI x.next.cO.agj,sL Ty.av x.next.cO.agk,sL Tm.av x.next.agk]:=by rw[ey.gx];rfl
@[simp] theorem ey.xl(x:ey):e9 x.av=true:=by rw[ey.gx];rfl
def fj.av(x:fj):AV:=.agg [sB x.agm,sB x.typed,sI x.dc,sI x.eo,sI x.agk,sI x.xe,sI x.vars,sI x.agq]
def fj.fE(agm typed:Bool)(dc eo agk xe vars agq:Int):(fj.mk agm typed dc eo agk xe vars agq).av=.agg [sB agm,sB typed,sI dc,sI eo,sI agk,sI xe,sI vars,sI agq]:=rfl
def fj.gx(x:fj):x.av=.agg [sB x.agm,sB x.typed,sI x.dc,sI x.eo,sI x.agk,sI x.xe,sI x.vars,sI x.agq]:=by cases x;exact fj.fE _ _ _ _ _ _ _ _
@[simp] theorem fj.gW(x:fj):x.av.cells=[sB x.agm,sB x.typed,sI x.dc,sI x.eo,sI x.agk,sI x.xe,sI x.vars,sI x.agq]:=by rw[fj.gx];rfl
@[simp] theorem fj.xl(x:fj):e9 x.av=true:=by rw[fj.gx];rfl
@[simp] theorem fj.sx(x:fj):x.av.norm=x.av:=by rw[fj.gx];rfl
@[simp] theorem fj.agg(a b:Bool)(c c3 d c5 e f:Int):AV.agg [sB a,sB b,sI c,sI c3,sI d,sI c5,sI e,sI f]=fj.av (fj.mk a b c c3 d c5 e f):=by rw[fj.fE]<;>rfl
def HC.cells(k:Nat):HC->List AV
 |.fo x=>[pX k x.term,sI x.steps]|.dH x=>[sI x.agj,sI x.agm,sI x.rf.agj,sL Ty.av x.rf.agk,AV.slice .jU (List.map (pX k) x.agk),sI x.size,sI x.free,sB x.normal]
@[simp] theorem HC.Sl(k:Nat)(x:fk):HC.cells k (.fo x)=[pX k x.term,sI x.steps]:=rfl
@[simp] theorem HC.UB(k:Nat)(x:dG):HC.cells k (.dH x)=[sI x.agj,sI x.agm,sI x.rf.agj,sL Ty.av x.rf.agk,AV.slice .jU (List.map (pX k) x.agk),sI x.size,sI x.free,sB x.normal]:=rfl
abbrev jN(k:Nat)(l:List HC):dd:=Bg HC.cells k l
end Go.ek
namespace Go.Proofs.YtijednbpbbddbaaGreatDoor
open Go Go.ns Go.ek Tryz
@[simp] theorem V4:fw prog 3=some (false,1):=by kernel_rfl
@[simp] theorem ZY:hE prog 3=some [.sc (.int .i64 0)]:=by kernel_rfl
@[simp] theorem zC:prog.underlying 3=some (.int .i64):=by kernel_rfl
@[simp] theorem afO:fw prog 4=some (false,1):=by kernel_rfl
@[simp] theorem af5:hE prog 4=some [.sc (.bool false)]/\prog.underlying 4=some .bool/\fw prog 5=some (false,1)/\hE prog 5=some [.sc (.int .u8 0)]/\prog.underlying 5=some (.int .u8)/\fw prog 22=some (false,1)/\hE prog 22=some [.slice .full []]/\fw prog 23=some (false,1)/\hE prog 23=some [.slice .full []]/\re prog 25=some [.sc (.int .i64 0),.slice .full []]:=by and_intros<;>kernel_rfl
@[simp] theorem Vh:rp prog 22=some (3,1):=by kernel_rfl
@[simp] theorem aez:prog.underlying 22=some (.slice 3):=by kernel_rfl
@[simp] theorem GR:rp prog 23=some (25,2):=by kernel_rfl
@[simp] theorem adz:prog.underlying 23=some (.slice 25):=by kernel_rfl
@[simp] theorem ZI:fw prog 25=some (true,2):=by kernel_rfl
@[simp] theorem af0:hE prog 25=some [.sc (.int .i64 0),.slice .full []]/\eP prog 25 0=some (0,3)/\fJ prog 25 0=some (0,1)/\eP prog 25 1=some (1,23)/\fJ prog 25 1=some (1,1)/\fw prog 26=some (false,1)/\hE prog 26=some [.slice .full []]/\prog.underlying 26=some (.slice 67)/\fw prog 27=some (false,1)/\hE prog 27=some [.slice .full []]:=by and_intros<;>kernel_rfl
@[simp] theorem Ty.acH(x:Ty):vX prog 25 x.av=true:=by rw[Ty.gx,yI,ZI];rfl
@[simp] theorem F1:rp prog 26=some (67,5):=by kernel_rfl
@[simp] theorem Jv:rp prog 27=some (34,5):=by kernel_rfl
@[simp] theorem aef:prog.underlying 27=some (.slice 34):=by kernel_rfl
@[simp] theorem af9:fw prog 28=some (false,1)/\hE prog 28=some [.slice .full []]/\prog.underlying 28=some (.slice 30)/\re prog 30=some [.sc (.int .i64 0),.sc (.int .i64 0),.sc (.int .i64 0),.slice .full [],.slice .full [],.slice .full [],.slice .full []]/\hE prog 30=some [.sc (.int .i64 0),.sc (.int .i64 0),.sc (.int .i64 0),.slice .full [],.slice .full [],.slice .full [],.slice .full []]/\eP prog 30 0=some (0,3)/\fJ prog 30 0=some (0,1)/\eP prog 30 1=some (1,3)/\fJ prog 30 1=some (1,1)/\eP prog 30 2=some (2,25):=by and_intros<;>kernel_rfl
@[simp] theorem adO:rp prog 28=some (30,7):=by kernel_rfl
@[simp] theorem aeb:fw prog 30=some (true,7):=by kernel_rfl
@[simp] theorem acF:fJ prog 30 2=some (2,2)/\eP prog 30 3=some (4,26)/\fJ prog 30 3=some (4,1)/\eP prog 30 4=some (5,27)/\fJ prog 30 4=some (5,1)/\eP prog 30 5=some (6,28)/\fJ prog 30 5=some (6,1)/\re prog 32=some [.slice .full [],.slice .full []]/\hE prog 32=some [.slice .full [],.slice .full []]/\eP prog 32 0=some (0,23):=by and_intros<;>kernel_rfl
@[simp] theorem Pf.acL(x:Pf):vX prog 30 x.av=true:=by rw[Pf.gx,yI,aeb];rfl
@[simp] theorem adV:fw prog 32=some (true,2):=by kernel_rfl
@[simp] theorem ace:fJ prog 32 0=some (0,1)/\eP prog 32 1=some (1,27)/\fJ prog 32 1=some (1,1)/\re prog 34=some [.sc (.int .i64 0),.sc (.int .i64 0),.slice .full [],.slice .full [],.slice .full []]/\hE prog 34=some [.sc (.int .i64 0),.sc (.int .i64 0),.slice .full [],.slice .full [],.slice .full []]/\eP prog 34 0=some (0,3)/\fJ prog 34 0=some (0,1)/\eP prog 34 1=some (1,25)/\fJ prog 34 1=some (1,2)/\eP prog 34 2=some (3,26):=by and_intros<;>kernel_rfl
@[simp] theorem Sq.acT(x:Sq):vX prog 32 x.av=true:=by rw[Sq.gx,yI,adV];rfl
@[simp] theorem Zn:fw prog 34=some (true,5):=by kernel_rfl
@[simp] theorem acO:fJ prog 34 2=some (3,1)/\eP prog 34 3=some (4,27)/\fJ prog 34 3=some (4,1)/\fw prog 35=some (false,1)/\hE prog 35=some [.slice .full []]/\fw prog 39=some (true,1)/\re prog 39=some [.sc (.int .i64 0)]/\hE prog 39=some [.sc (.int .i64 0)]/\eP prog 39 0=some (0,3)/\fJ prog 39 0=some (0,1):=by and_intros<;>kernel_rfl
@[simp] theorem Fm.acN(x:Fm):vX prog 34 x.av=true:=by rw[Fm.gx,yI,Zn];rfl
@[simp] theorem Ym:rp prog 35=some (4,1):=by kernel_rfl
@[simp] theorem adH:prog.underlying 35=some (.slice 4):=by kernel_rfl
@[simp] theorem af7:fw prog 49=some (false,1)/\hE prog 49=some [.slice .full []]/\rp prog 49=some (32,2)/\prog.underlying 49=some (.slice 32)/\fw prog 50=some (false,1)/\hE prog 50=some [.sc (.int .i64 0)]/\prog.underlying 50=some (.int .i64)/\fw prog 58=some (true,6)/\re prog 58=some [.sc (.int .i64 0),.sc (.int .i64 0),.slice .full [],.slice .full [],.slice .full [],.slice .full []]/\hE prog 58=some [.sc (.int .i64 0),.sc (.int .i64 0),.slice .full [],.slice .full [],.slice .full [],.slice .full []]:=by and_intros<;>kernel_rfl
@[simp] theorem acD:eP prog 58 0=some (0,34)/\fJ prog 58 0=some (0,5)/\eP prog 58 1=some (5,22)/\fJ prog 58 1=some (5,1)/\fw prog 61=some (false,1)/\hE prog 61=some [.slice .full []]/\rp prog 61=some (35,1)/\prog.underlying 61=some (.slice 35)/\re prog 67=some [.sc (.int .i64 0),.sc (.int .i64 0),.sc (.int .i64 0),.slice .full [],.slice .full []]/\eP prog 67 0=some (0,3):=by and_intros<;>kernel_rfl
@[simp] theorem ZW:fw prog 67=some (true,5):=by kernel_rfl
@[simp] theorem abQ:hE prog 67=some [.sc (.int .i64 0),.sc (.int .i64 0),.sc (.int .i64 0),.slice .full [],.slice .full []]:=by kernel_rfl
@[simp] theorem ac7:fJ prog 67 0=some (0,1)/\eP prog 67 1=some (1,3)/\fJ prog 67 1=some (1,1)/\eP prog 67 2=some (2,25)/\fJ prog 67 2=some (2,2)/\eP prog 67 3=some (4,26)/\fJ prog 67 3=some (4,1)/\fw prog 73=some (true,2)/\re prog 73=some [.slice .full [],.sc (.int .i64 0)]/\hE prog 73=some [.slice .full [],.sc (.int .i64 0)]:=by and_intros<;>kernel_rfl
@[simp] theorem Tm.ac0(x:Tm):vX prog 67 x.av=true:=by rw[Tm.gx,yI,ZW];rfl
@[simp] theorem acM:eP prog 73 0=some (0,22)/\fJ prog 73 0=some (0,1)/\eP prog 73 1=some (1,3)/\fJ prog 73 1=some (1,1)/\fw prog 74=some (false,1)/\hE prog 74=some [.sc .nilFunc]/\fw prog 84=some (true,4)/\re prog 84=some [.slice .full [],.slice .full [],.slice .full [],.slice .full []]/\hE prog 84=some [.slice .full [],.slice .full [],.slice .full [],.slice .full []]/\eP prog 84 0=some (0,32):=by and_intros<;>kernel_rfl
@[simp] theorem ac1:fJ prog 84 0=some (0,2)/\eP prog 84 1=some (2,26)/\fJ prog 84 1=some (2,1)/\eP prog 84 2=some (3,26)/\fJ prog 84 2=some (3,1)/\fw prog 92=some (true,3)/\re prog 92=some [.slice .full [],.slice .full [],.slice .full []]/\hE prog 92=some [.slice .full [],.slice .full [],.slice .full []]/\eP prog 92 0=some (0,27)/\fJ prog 92 0=some (0,1):=by and_intros<;>kernel_rfl
@[simp] theorem ach:eP prog 92 1=some (1,23)/\fJ prog 92 1=some (1,1)/\eP prog 92 2=some (2,27)/\fJ prog 92 2=some (2,1)/\fw prog 109=some (false,1)/\hE prog 109=some [.sc (.map none)]/\prog.underlying 109=some (.map 3 164)/\fw prog 112=some (true,2)/\re prog 112=some [.slice .full [],.sc (.map none)]/\hE prog 112=some [.slice .full [],.sc (.map none)]:=by and_intros<;>kernel_rfl
@[simp] theorem abp:eP prog 112 0=some (0,27)/\fJ prog 112 0=some (0,1)/\eP prog 112 1=some (1,109)/\fJ prog 112 1=some (1,1)/\fw prog 113=some (false,1)/\hE prog 113=some [.sc (.int .u32 0)]/\prog.underlying 113=some (.int .u32)/\fw prog 114=some (false,1)/\hE prog 114=some [.sc (.int .u32 0)]/\prog.underlying 114=some (.int .u32):=by and_intros<;>kernel_rfl
@[simp] theorem afG:fw prog 116=some (true,6)/\re prog 116=some [.sc (.int .i64 0),.sc (.int .i64 0),.slice .full [],.slice .full [],.slice .full [],.sc (.int .u32 0)]/\hE prog 116=some [.sc (.int .i64 0),.sc (.int .i64 0),.slice .full [],.slice .full [],.slice .full [],.sc (.int .u32 0)]/\eP prog 116 0=some (0,34)/\fJ prog 116 0=some (0,5)/\eP prog 116 1=some (5,114)/\fJ prog 116 1=some (5,1)/\fw prog 120=some (true,2)/\re prog 120=some [.sc (.int .i64 0),.sc (.int .i64 0)]/\hE prog 120=some [.sc (.int .i64 0),.sc (.int .i64 0)]:=by and_intros<;>kernel_rfl
@[simp] theorem abA:eP prog 120 0=some (0,3)/\fJ prog 120 0=some (0,1)/\eP prog 120 1=some (1,3)/\fJ prog 120 1=some (1,1)/\fw prog 122=some (false,1)/\hE prog 122=some [.slice .full []]/\fw prog 123=some (false,1)/\hE prog 123=some [.slice .full []]/\fw prog 125=some (true,4)/\re prog 125=some [.sc (.int .i64 0),.sc (.int .i64 0),.slice .full [],.slice .full []]:=by and_intros<;>kernel_rfl
@[simp] theorem VX:rp prog 122=some (205,3):=by kernel_rfl
@[simp] theorem aaY:prog.underlying 122=some (.slice 205):=by kernel_rfl
@[simp] theorem adY:rp prog 123=some (222,6):=by kernel_rfl
@[simp] theorem aau:prog.underlying 123=some (.slice 222):=by kernel_rfl
@[simp] theorem afn:hE prog 125=some [.sc (.int .i64 0),.sc (.int .i64 0),.slice .full [],.slice .full []]/\eP prog 125 0=some (0,120)/\fJ prog 125 0=some (0,2)/\eP prog 125 1=some (2,122)/\fJ prog 125 1=some (2,1)/\eP prog 125 2=some (3,123)/\fJ prog 125 2=some (3,1)/\fw prog 131=some (false,1)/\hE prog 131=some [.sc .nilFunc]/\fw prog 164=some (false,1):=by and_intros<;>kernel_rfl
@[simp] theorem afa:hE prog 164=some [.sc .nilFunc]/\fw prog 168=some (false,1)/\hE prog 168=some [.sc .nilFunc]/\fw prog 172=some (false,1)/\hE prog 172=some [.sc .nilFunc]/\fw prog 177=some (true,2)/\re prog 177=some [.sc (.int .i64 0),.sc (.bool false)]/\hE prog 177=some [.sc (.int .i64 0),.sc (.bool false)]/\eP prog 177 0=some (0,3)/\fJ prog 177 0=some (0,1):=by and_intros<;>kernel_rfl
@[simp] theorem abU:eP prog 177 1=some (1,4)/\fJ prog 177 1=some (1,1)/\fw prog 179=some (true,5)/\re prog 179=some [.sc (.int .i64 0),.sc (.int .i64 0),.sc (.int .i64 0),.sc (.bool false),.sc (.bool false)]/\hE prog 179=some [.sc (.int .i64 0),.sc (.int .i64 0),.sc (.int .i64 0),.sc (.bool false),.sc (.bool false)]/\eP prog 179 0=some (0,3)/\fJ prog 179 0=some (0,1)/\eP prog 179 1=some (1,3)/\fJ prog 179 1=some (1,1)/\eP prog 179 2=some (2,3):=by and_intros<;>kernel_rfl
@[simp] theorem aaj:fJ prog 179 2=some (2,1)/\eP prog 179 3=some (3,4)/\fJ prog 179 3=some (3,1)/\eP prog 179 4=some (4,4)/\fJ prog 179 4=some (4,1)/\re prog 205=some [.sc (.int .i64 0),.slice .full [],.sc (.int .i64 0)]/\hE prog 205=some [.sc (.int .i64 0),.slice .full [],.sc (.int .i64 0)]/\eP prog 205 0=some (0,25)/\fJ prog 205 0=some (0,2)/\eP prog 205 1=some (2,3):=by and_intros<;>kernel_rfl
@[simp] theorem Eu:fw prog 205=some (true,3):=by kernel_rfl
@[simp] theorem abv:fJ prog 205 1=some (2,1)/\fw prog 213=some (true,12)/\re prog 213=some [.sc (.int .i64 0),.sc (.int .i64 0),.sc (.int .i64 0),.sc (.int .i64 0),.slice .full [],.slice .full [],.slice .full [],.sc (.int .i64 0),.sc (.int .i64 0),.sc (.int .i64 0),.slice .full [],.slice .full []]/\hE prog 213=some [.sc (.int .i64 0),.sc (.int .i64 0),.sc (.int .i64 0),.sc (.int .i64 0),.slice .full [],.slice .full [],.slice .full [],.sc (.int .i64 0),.sc (.int .i64 0),.sc (.int .i64 0),.slice .full [],.slice .full []]/\eP prog 213 0=some (0,3)/\fJ prog 213 0=some (0,1)/\eP prog 213 1=some (1,67)/\fJ prog 213 1=some (1,5)/\eP prog 213 2=some (6,23)/\fJ prog 213 2=some (6,1):=by and_intros<;>kernel_rfl
@[simp] theorem cP.ab7(x:cP):vX prog 205 x.av=true:=by rw[cP.gx,yI,Eu];rfl
@[simp] theorem abS:eP prog 213 3=some (7,67)/\fJ prog 213 3=some (7,5)/\fw prog 219=some (false,1)/\hE prog 219=some [.sc (.int .u8 0)]/\prog.underlying 219=some (.int .u8)/\re prog 222=some [.sc (.int .i64 0),.sc (.int .i64 0),.slice .full [],.slice .full [],.slice .full [],.sc (.int .i64 0)]/\hE prog 222=some [.sc (.int .i64 0),.sc (.int .i64 0),.slice .full [],.slice .full [],.slice .full [],.sc (.int .i64 0)]/\eP prog 222 0=some (0,34)/\fJ prog 222 0=some (0,5)/\eP prog 222 1=some (5,3):=by and_intros<;>kernel_rfl
@[simp] theorem WB:fw prog 222=some (true,6):=by kernel_rfl
@[simp] theorem ab9:fJ prog 222 1=some (5,1)/\fw prog 223=some (true,32)/\re prog 223=some [.sc (.int .u8 0),.sc (.int .u8 0),.sc (.int .u8 0),.sc (.int .u8 0),.sc (.int .u8 0),.sc (.int .u8 0),.sc (.int .u8 0),.sc (.int .u8 0),.sc (.int .u8 0),.sc (.int .u8 0),.sc (.int .u8 0),.sc (.int .u8 0),.sc (.int .u8 0),.sc (.int .u8 0),.sc (.int .u8 0),.sc (.int .u8 0),.sc (.int .u8 0),.sc (.int .u8 0),.sc (.int .u8 0),.sc (.int .u8 0),.sc (.int .u8 0),.sc (.int .u8 0),.sc (.int .u8 0),.sc (.int .u8 0),.sc (.int .u8 0),.sc (.int .u8 0),.sc (.int .u8 0),.sc (.int .u8 0),.sc (.int .u8 0),.sc (.int .u8 0),.sc (.int .u8 0),.sc (.int .u8 0)]/\hE prog 223=some [.sc (.int .u8 0),.sc (.int .u8 0),.sc (.int .u8 0),.sc (.int .u8 0),.sc (.int .u8 0),.sc (.int .u8 0),.sc (.int .u8 0),.sc (.int .u8 0),.sc (.int .u8 0),.sc (.int .u8 0),.sc (.int .u8 0),.sc (.int .u8 0),.sc (.int .u8 0),.sc (.int .u8 0),.sc (.int .u8 0),.sc (.int .u8 0),.sc (.int .u8 0),.sc (.int .u8 0),.sc (.int .u8 0),.sc (.int .u8 0),.sc (.int .u8 0),.sc (.int .u8 0),.sc (.int .u8 0),.sc (.int .u8 0),.sc (.int .u8 0),.sc (.int .u8 0),.sc (.int .u8 0),.sc (.int .u8 0),.sc (.int .u8 0),.sc (.int .u8 0),.sc (.int .u8 0),.sc (.int .u8 0)]/\prog.underlying 223=some (.array 32 5)/\fw prog 224=some (false,1)/\hE prog 224=some [.sc (.int .u64 0)]/\prog.underlying 224=some (.int .u64)/\fw prog 226=some (false,1)/\hE prog 226=some [.sc .nilFunc]:=by and_intros<;>kernel_rfl
@[simp] theorem c_.aa5(x:c_):vX prog 222 x.av=true:=by rw[c_.gx,yI,WB];rfl
@[simp] theorem VN:fw prog 231=some (true,8):=by kernel_rfl
@[simp] theorem ae5:re prog 231=some [.sc (.bool false),.sc (.bool false),.sc (.int .i64 0),.sc (.int .i64 0),.sc (.int .i64 0),.sc (.int .i64 0),.sc (.int .i64 0),.sc (.int .i64 0)]/\hE prog 231=some [.sc (.bool false),.sc (.bool false),.sc (.int .i64 0),.sc (.int .i64 0),.sc (.int .i64 0),.sc (.int .i64 0),.sc (.int .i64 0),.sc (.int .i64 0)]/\eP prog 231 0=some (0,4)/\fJ prog 231 0=some (0,1)/\eP prog 231 1=some (1,4)/\fJ prog 231 1=some (1,1)/\eP prog 231 2=some (2,3)/\fJ prog 231 2=some (2,1)/\eP prog 231 3=some (3,3)/\fJ prog 231 3=some (3,1):=by and_intros<;>kernel_rfl
@[simp] theorem abo:eP prog 231 4=some (4,3)/\fJ prog 231 4=some (4,1)/\eP prog 231 5=some (5,3)/\fJ prog 231 5=some (5,1)/\eP prog 231 6=some (6,3)/\fJ prog 231 6=some (6,1)/\eP prog 231 7=some (7,3)/\fJ prog 231 7=some (7,1)/\fw prog 238=some (false,1)/\hE prog 238=some [.sc (.map none)]:=by and_intros<;>kernel_rfl
@[simp] theorem fj.abl(x:fj):vX prog 231 x.av=true:=by rw[fj.gx,yI,VN];rfl
@[simp] theorem Tp:prog.underlying 238=some (.map 3 4):=by kernel_rfl
@[simp] theorem afN:fw prog 253=some (true,9)/\re prog 253=some [.sc (.int .i64 0),.slice .full [],.sc (.int .i64 0),.sc (.int .i64 0),.slice .full [],.sc (.int .i64 0),.sc (.int .i64 0),.slice .full [],.sc (.int .i64 0)]/\hE prog 253=some [.sc (.int .i64 0),.slice .full [],.sc (.int .i64 0),.sc (.int .i64 0),.slice .full [],.sc (.int .i64 0),.sc (.int .i64 0),.slice .full [],.sc (.int .i64 0)]/\fw prog 260=some (false,1)/\hE prog 260=some [.sc .nilFunc]/\fw prog 262=some (true,168)/\re prog 262=some [.sc (.bool false),.sc (.bool false),.sc (.int .i64 0),.sc (.int .i64 0),.sc (.int .i64 0),.sc (.int .i64 0),.sc (.int .i64 0),.sc (.int .i64 0),.sc (.bool false),.sc (.bool false),.sc (.int .i64 0),.sc (.int .i64 0),.sc (.int .i64 0),.sc (.int .i64 0),.sc (.int .i64 0),.sc (.int .i64 0),.sc (.bool false),.sc (.bool false),.sc (.int .i64 0),.sc (.int .i64 0),.sc (.int .i64 0),.sc (.int .i64 0),.sc (.int .i64 0),.sc (.int .i64 0),.sc (.bool false),.sc (.bool false),.sc (.int .i64 0),.sc (.int .i64 0),.sc (.int .i64 0),.sc (.int .i64 0),.sc (.int .i64 0),.sc (.int .i64 0),.sc (.bool false),.sc (.bool false),.sc (.int .i64 0),.sc (.int .i64 0),.sc (.int .i64 0),.sc (.int .i64 0),.sc (.int .i64 0),.sc (.int .i64 0),.sc (.bool false),.sc (.bool false),.sc (.int .i64 0),.sc (.int .i64 0),.sc (.int .i64 0),.sc (.int .i64 0),.sc (.int .i64 0),.sc (.int .i64 0),.sc (.bool false),.sc (.bool false),.sc (.int .i64 0),.sc (.int .i64 0),.sc (.int .i64 0),.sc (.int .i64 0),.sc (.int .i64 0),.sc (.int .i64 0),.sc (.bool false),.sc (.bool false),.sc (.int .i64 0),.sc (.int .i64 0),.sc (.int .i64 0),.sc (.int .i64 0),.sc (.int .i64 0),.sc (.int .i64 0),.sc (.bool false),.sc (.bool false),.sc (.int .i64 0),.sc (.int .i64 0),.sc (.int .i64 0),.sc (.int .i64 0),.sc (.int .i64 0),.sc (.int .i64 0),.sc (.bool false),.sc (.bool false),.sc (.int .i64 0),.sc (.int .i64 0),.sc (.int .i64 0),.sc (.int .i64 0),.sc (.int .i64 0),.sc (.int .i64 0),.sc (.bool false),.sc (.bool false),.sc (.int .i64 0),.sc (.int .i64 0),.sc (.int .i64 0),.sc (.int .i64 0),.sc (.int .i64 0),.sc (.int .i64 0),.sc (.bool false),.sc (.bool false),.sc (.int .i64 0),.sc (.int .i64 0),.sc (.int .i64 0),.sc (.int .i64 0),.sc (.int .i64 0),.sc (.int .i64 0),.sc (.bool false),.sc (.bool false),.sc (.int .i64 0),.sc (.int .i64 0),.sc (.int .i64 0),.sc (.int .i64 0),.sc (.int .i64 0),.sc (.int .i64 0),.sc (.bool false),.sc (.bool false),.sc (.int .i64 0),.sc (.int .i64 0),.sc (.int .i64 0),.sc (.int .i64 0),.sc (.int .i64 0),.sc (.int .i64 0),.sc (.bool false),.sc (.bool false),.sc (.int .i64 0),.sc (.int .i64 0),.sc (.int .i64 0),.sc (.int .i64 0),.sc (.int .i64 0),.sc (.int .i64 0),.sc (.bool false),.sc (.bool false),.sc (.int .i64 0),.sc (.int .i64 0),.sc (.int .i64 0),.sc (.int .i64 0),.sc (.int .i64 0),.sc (.int .i64 0),.sc (.bool false),.sc (.bool false),.sc (.int .i64 0),.sc (.int .i64 0),.sc (.int .i64 0),.sc (.int .i64 0),.sc (.int .i64 0),.sc (.int .i64 0),.sc (.bool false),.sc (.bool false),.sc (.int .i64 0),.sc (.int .i64 0),.sc (.int .i64 0),.sc (.int .i64 0),.sc (.int .i64 0),.sc (.int .i64 0),.sc (.bool false),.sc (.bool false),.sc (.int .i64 0),.sc (.int .i64 0),.sc (.int .i64 0),.sc (.int .i64 0),.sc (.int .i64 0),.sc (.int .i64 0),.sc (.bool false),.sc (.bool false),.sc (.int .i64 0),.sc (.int .i64 0),.sc (.int .i64 0),.sc (.int .i64 0),.sc (.int .i64 0),.sc (.int .i64 0),.sc (.bool false),.sc (.bool false),.sc (.int .i64 0),.sc (.int .i64 0),.sc (.int .i64 0),.sc (.int .i64 0),.sc (.int .i64 0),.sc (.int .i64 0)]/\hE prog 262=some [.sc (.bool false),.sc (.bool false),.sc (.int .i64 0),.sc (.int .i64 0),.sc (.int .i64 0),.sc (.int .i64 0),.sc (.int .i64 0),.sc (.int .i64 0),.sc (.bool false),.sc (.bool false),.sc (.int .i64 0),.sc (.int .i64 0),.sc (.int .i64 0),.sc (.int .i64 0),.sc (.int .i64 0),.sc (.int .i64 0),.sc (.bool false),.sc (.bool false),.sc (.int .i64 0),.sc (.int .i64 0),.sc (.int .i64 0),.sc (.int .i64 0),.sc (.int .i64 0),.sc (.int .i64 0),.sc (.bool false),.sc (.bool false),.sc (.int .i64 0),.sc (.int .i64 0),.sc (.int .i64 0),.sc (.int .i64 0),.sc (.int .i64 0),.sc (.int .i64 0),.sc (.bool false),.sc (.bool false),.sc (.int .i64 0),.sc (.int .i64 0),.sc (.int .i64 0),.sc (.int .i64 0),.sc (.int .i64 0),.sc (.int .i64 0),.sc (.bool false),.sc (.bool false),.sc (.int .i64 0),.sc (.int .i64 0),.sc (.int .i64 0),.sc (.int .i64 0),.sc (.int .i64 0),.sc (.int .i64 0),.sc (.bool false),.sc (.bool false),.sc (.int .i64 0),.sc (.int .i64 0),.sc (.int .i64 0),.sc (.int .i64 0),.sc (.int .i64 0),.sc (.int .i64 0),.sc (.bool false),.sc (.bool false),.sc (.int .i64 0),.sc (.int .i64 0),.sc (.int .i64 0),.sc (.int .i64 0),.sc (.int .i64 0),.sc (.int .i64 0),.sc (.bool false),.sc (.bool false),.sc (.int .i64 0),.sc (.int .i64 0),.sc (.int .i64 0),.sc (.int .i64 0),.sc (.int .i64 0),.sc (.int .i64 0),.sc (.bool false),.sc (.bool false),.sc (.int .i64 0),.sc (.int .i64 0),.sc (.int .i64 0),.sc (.int .i64 0),.sc (.int .i64 0),.sc (.int .i64 0),.sc (.bool false),.sc (.bool false),.sc (.int .i64 0),.sc (.int .i64 0),.sc (.int .i64 0),.sc (.int .i64 0),.sc (.int .i64 0),.sc (.int .i64 0),.sc (.bool false),.sc (.bool false),.sc (.int .i64 0),.sc (.int .i64 0),.sc (.int .i64 0),.sc (.int .i64 0),.sc (.int .i64 0),.sc (.int .i64 0),.sc (.bool false),.sc (.bool false),.sc (.int .i64 0),.sc (.int .i64 0),.sc (.int .i64 0),.sc (.int .i64 0),.sc (.int .i64 0),.sc (.int .i64 0),.sc (.bool false),.sc (.bool false),.sc (.int .i64 0),.sc (.int .i64 0),.sc (.int .i64 0),.sc (.int .i64 0),.sc (.int .i64 0),.sc (.int .i64 0),.sc (.bool false),.sc (.bool false),.sc (.int .i64 0),.sc (.int .i64 0),.sc (.int .i64 0),.sc (.int .i64 0),.sc (.int .i64 0),.sc (.int .i64 0),.sc (.bool false),.sc (.bool false),.sc (.int .i64 0),.sc (.int .i64 0),.sc (.int .i64 0),.sc (.int .i64 0),.sc (.int .i64 0),.sc (.int .i64 0),.sc (.bool false),.sc (.bool false),.sc (.int .i64 0),.sc (.int .i64 0),.sc (.int .i64 0),.sc (.int .i64 0),.sc (.int .i64 0),.sc (.int .i64 0),.sc (.bool false),.sc (.bool false),.sc (.int .i64 0),.sc (.int .i64 0),.sc (.int .i64 0),.sc (.int .i64 0),.sc (.int .i64 0),.sc (.int .i64 0),.sc (.bool false),.sc (.bool false),.sc (.int .i64 0),.sc (.int .i64 0),.sc (.int .i64 0),.sc (.int .i64 0),.sc (.int .i64 0),.sc (.int .i64 0),.sc (.bool false),.sc (.bool false),.sc (.int .i64 0),.sc (.int .i64 0),.sc (.int .i64 0),.sc (.int .i64 0),.sc (.int .i64 0),.sc (.int .i64 0),.sc (.bool false),.sc (.bool false),.sc (.int .i64 0),.sc (.int .i64 0),.sc (.int .i64 0),.sc (.int .i64 0),.sc (.int .i64 0),.sc (.int .i64 0)]/\fw prog 276=some (true,2)/\re prog 276=some [.sc (.pointer none),.sc (.int .i64 0)]:=by and_intros<;>kernel_rfl
@[simp] theorem Kc:prog.underlying 253=some (.array 3 205):=by kernel_rfl
@[simp] theorem aey(b g o:Nat):gO prog 253 (.jo b g o) (.sc (.int .i64 0))=some (.jo b g (o+0)):=by kernel_rfl
@[simp] theorem aeH(b g o:Nat):gO prog 253 (.jo b g o) (.sc (.int .i64 1))=some (.jo b g (o+3)):=by kernel_rfl
@[simp] theorem ade(b g o:Nat):gO prog 253 (.jo b g o) (.sc (.int .i64 2))=some (.jo b g (o+6)):=by kernel_rfl
@[simp] theorem abH:prog.underlying 262=some (.array 21 231):=by kernel_rfl
@[simp] theorem abu:fw prog 273=some (false,1):=by kernel_rfl
@[simp] theorem Yf:hE prog 273=some [.sc (.pointer none)]:=by kernel_rfl
@[simp] theorem XE:prog.underlying 273=some (.pointer 291):=by kernel_rfl
@[simp] theorem afq(k:Nat)(x:Option Nat):p9 prog .eql 273 (pX k x) (.sc (.pointer none))=some (.sc (.bool x.isNone)):=Xy XE
@[simp] theorem afV(k:Nat)(x:Option Nat):p9 prog .neq 273 (pX k x) (.sc (.pointer none))=some (.sc (.bool x.isSome)):=Wz XE
@[simp] theorem ae2:hE prog 276=some [.sc (.pointer none),.sc (.int .i64 0)]/\eP prog 276 0=some (0,273)/\fJ prog 276 0=some (0,1)/\eP prog 276 1=some (1,3)/\fJ prog 276 1=some (1,1)/\fw prog 284=some (true,14)/\re prog 284=some [.sc (.int .i64 0),.sc (.int .i64 0),.sc (.int .i64 0),.sc (.int .i64 0),.sc (.int .i64 0),.sc (.int .i64 0),.sc (.int .i64 0),.sc (.int .i64 0),.sc (.int .i64 0),.sc (.int .i64 0),.sc (.int .i64 0),.sc (.int .i64 0),.sc (.int .i64 0),.sc (.int .i64 0)]/\hE prog 284=some [.sc (.int .i64 0),.sc (.int .i64 0),.sc (.int .i64 0),.sc (.int .i64 0),.sc (.int .i64 0),.sc (.int .i64 0),.sc (.int .i64 0),.sc (.int .i64 0),.sc (.int .i64 0),.sc (.int .i64 0),.sc (.int .i64 0),.sc (.int .i64 0),.sc (.int .i64 0),.sc (.int .i64 0)]/\fw prog 285=some (false,1)/\hE prog 285=some [.slice .full []]:=by and_intros<;>kernel_rfl
@[simp] theorem aaM:prog.underlying 284=some (.array 14 3):=by kernel_rfl
@[simp] theorem Uu:rp prog 285=some (273,1):=by kernel_rfl
@[simp] theorem afC:prog.underlying 285=some (.slice 273)/\fw prog 291=some (true,8)/\re prog 291=some [.sc (.int .i64 0),.sc (.int .i64 0),.sc (.int .i64 0),.slice .full [],.slice .full [],.sc (.int .i64 0),.sc (.int .i64 0),.sc (.bool false)]/\hE prog 291=some [.sc (.int .i64 0),.sc (.int .i64 0),.sc (.int .i64 0),.slice .full [],.slice .full [],.sc (.int .i64 0),.sc (.int .i64 0),.sc (.bool false)]/\eP prog 291 0=some (0,3)/\fJ prog 291 0=some (0,1)/\eP prog 291 1=some (1,3)/\fJ prog 291 1=some (1,1)/\eP prog 291 2=some (2,25)/\fJ prog 291 2=some (2,2):=by and_intros<;>kernel_rfl
@[simp] theorem aae:eP prog 291 3=some (4,285)/\fJ prog 291 3=some (4,1)/\eP prog 291 4=some (5,3)/\fJ prog 291 4=some (5,1)/\eP prog 291 5=some (6,3)/\fJ prog 291 5=some (6,1)/\eP prog 291 6=some (7,4)/\fJ prog 291 6=some (7,1):=by and_intros<;>kernel_rfl
@[simp] theorem afx(tag:Tag)(l:List Int)(a:Int):sq prog 22 (.slice tag (List.map sI l)) (some (.sc (.int .i64 a))) none none=(tu l a (dn l)).map λr=>.slice .jU (List.map sI r):=KW _ l aez V4 (λx=>by simp)
@[simp] theorem afj(tag:Tag)(l:List Ty):sq prog 23 (.slice tag (List.map Ty.av l)) none (some (.sc (.int .i64 (dn l)))) (some (.sc (.int .i64 (dn l))))=some (.slice .full (List.map Ty.av l)):=CX _ l adz ZI (λx=>by simp)
@[simp] theorem ae4(tag:Tag)(l:List Fm):sq prog 27 (.slice tag (List.map Fm.av l)) none (some (.sc (.int .i64 (dn l)))) (some (.sc (.int .i64 (dn l))))=some (.slice .full (List.map Fm.av l)):=CX _ l aef Zn (λx=>by simp)
@[simp] theorem afv(tag:Tag)(l:List Bool)(a:Int):sq prog 35 (.slice tag (List.map sB l)) (some (.sc (.int .i64 a))) none none=(tu l a (dn l)).map λr=>.slice .jU (List.map sB r):=KW _ l adH afO (λx=>by simp)
@[simp] theorem aed(tag:Tag)(l:List cP):sq prog 122 (.slice tag (List.map cP.av l)) none (some (.sc (.int .i64 (dn l)))) (some (.sc (.int .i64 (dn l))))=some (.slice .full (List.map cP.av l)):=CX _ l aaY Eu (λx=>by simp)
@[simp] theorem aeC(tag:Tag)(l:List c_):sq prog 123 (.slice tag (List.map c_.av l)) none (some (.sc (.int .i64 (dn l)))) (some (.sc (.int .i64 (dn l))))=some (.slice .full (List.map c_.av l)):=CX _ l aau WB (λx=>by simp)
def fj.cs(x:fj):List AV:=x.av.cells
@[simp] theorem agd(a:Int):gO prog 262 (.nt (.agg (List.flatMap (λx=>fj.cs x) mJ))) (.sc (.int .i64 a))=(df mJ a).map λx=>.nt x.av:=LA abH VN (λx=>rfl) (λx=>⟨_,fj.gx x⟩) (λx=>by simp) rfl
@[simp] theorem agb(a:Int):gO prog 284 (.nt (.agg (List.map (λn=>AV.sc (Value.int .i64 n)) qj))) (.sc (.int .i64 a))=(df qj a).map λx=>.nt (.sc (.int .i64 x)):=LU aaM V4 rfl
@[simp] theorem nY:prog.underlying 109=some (.map 3 164):=by kernel_rfl
def W7:Rx prog 164=some (.sc .nilFunc):=by kernel_rfl
def Te:List Value:=[.int .i64 1,.int .i64 2,.int .i64 3,.int .i64 4,.int .i64 5,.int .i64 6,.int .i64 7,.int .i64 8,.int .i64 12,.int .i64 9,.int .i64 13,.int .i64 10,.int .i64 14,.int .i64 11,.int .i64 15,.int .i64 16,.int .i64 17,.int .i64 18,.int .i64 19,.int .i64 20]
def TE:List AV:=[.func (.func 113) [] [],.func (.func 114) [] [],.func (.func 115) [] [],.func (.func 116) [] [],.func (.func 116) [] [],.func (.func 117) [] [],.func (.func 118) [] [],.func (.func 119) [] [],.func (.func 119) [] [],.func (.func 120) [] [],.func (.func 120) [] [],.func (.func 121) [] [],.func (.func 121) [] [],.func (.func 122) [] [],.func (.func 122) [] [],.func (.func 123) [] [],.func (.func 123) [] [],.func (.func 124) [] [],.func (.func 125) [] [],.func (.func 126) [] []]
def P3:AV:=.yM Te TE
def Pn(k:Int):AV:=match mapIdx Te (.int .i64 k)with|some j=>TE.getD j .undef|none=>.sc .nilFunc
abbrev KC(H:dd)(o:Nat)(l:List Fm):Prop:=H[o]?=some [sL Fm.av l,AV.qZ (o-1)]/\H[o-1]?=some [P3]
def TX{H:dd}{o:Nat}{k:Int}(h:H[o]?=some [P3]):zo prog H 109 (AV.qZ o) (sI k) false=some (Pn k):=Vq nY zC W7 h aa6 aa6
def kY{k key:Int}{x:AV}(h:dm k key=true)(a:Pn key=x):Pn k=x:=by rw[W8 h];exact a
def rm{T:ec}{g:Nat}{xs:List AV}{H H':dd}{r:AV}(h:dY prog T g xs H r H'):qC prog T (.func (.func g) [] []) xs H r H':=by
 unfold qC qs;simp only[kW,zk];exact h
abbrev rG(T:ec):Prop:=T 2=some (AV.agg (List.map (λn=>AV.sc (Value.int .i64 n)) qj))/\T 1=some (AV.agg (List.flatMap (λx=>fj.cs x) mJ))/\T 0=some (AV.agg (List.map (λn=>AV.sc (Value.int .u8 n)) kX))
def DP{S:Type}(T:ec)(g:Nat)(cap:List AV)(st:S->dd)(w:(S->Int->Option (Int×S))):Prop:=
 ∀(X:dd) (s:S) (a:Int) (b:Int) (c:S),w s a=some (b,c)->dY prog T g ([sI a]++cap) (st s++X) (sI b) (st c++X)
def DP.ext{S:Type}{T:ec}{g:Nat}{cap:List AV}{st:S->dd}{w:(S->Int->Option (Int×S))}(h:DP T g cap st w){Y:dd}:DP T g cap (λs=>st s++Y) w:=λX s a b c hw=>by
 have:=h (Y++X) s a b c hw
 rwa [<-ry,<-ry] at this
def DP.Yk{S:Type}{T:ec}{g:Nat}{cap:List AV}{st:S->dd}{w:(S->Int->Option (Int×S))}(h:DP T g cap st w){s:S}{a b:Int}{c:S}(hw:w s a=some (b,c)):dY prog T g ([sI a]++cap) (st s) (sI b) (st c):=by
 have:=h [] s a b c hw
 rwa [zk,zk] at this
def HX{S:Type}(T:ec)(g:Nat)(cap:List AV)(st:S->dd)(w:(S->Tm->Int->Option (Tm×S))):Prop:=
 ∀(X:dd) (s:S) (a:Tm) (b:Int) (c:Tm) (d:S),w s a b=some (c,d)->dY prog T g ([Tm.av a,sI b]++cap) (st s++X) (Tm.av c) (st d++X)
def HX.Yk{S:Type}{T:ec}{g:Nat}{cap:List AV}{st:S->dd}{w:(S->Tm->Int->Option (Tm×S))}(h:HX T g cap st w){s:S}{a:Tm}{b:Int}{c:Tm}{d:S}(hw:w s a b=some (c,d)):dY prog T g ([Tm.av a,sI b]++cap) (st s) (Tm.av c) (st d):=by
 have:=h [] s a b c d hw
 rwa [zk,zk] at this
def HP{S:Type}(T:ec)(g:Nat)(cap:List AV)(st:S->dd)(w:(S->Tm->Int->Option (S))):Prop:=
 ∀(X:dd) (s:S) (a:Tm) (b:Int) (c:S),w s a b=some c->dY prog T g ([Tm.av a,sI b]++cap) (st s++X) (AV.tuple []) (st c++X)
def HP.Yk{S:Type}{T:ec}{g:Nat}{cap:List AV}{st:S->dd}{w:(S->Tm->Int->Option (S))}(h:HP T g cap st w){s:S}{a:Tm}{b:Int}{c:S}(hw:w s a b=some c):dY prog T g ([Tm.av a,sI b]++cap) (st s) (AV.tuple []) (st c):=by
 have:=h [] s a b c hw
 rwa [zk,zk] at this
def yk{S:Type}(T:ec)(g:Nat)(cap:List AV)(st:S->dd)(w:(S->Int->Int->Option (S))):Prop:=
 ∀(X:dd) (s:S) (a:Int) (b:Int) (c:S),w s a b=some c->dY prog T g ([sI a,sI b]++cap) (st s++X) (AV.tuple []) (st c++X)
def yk.ext{S:Type}{T:ec}{g:Nat}{cap:List AV}{st:S->dd}{w:(S->Int->Int->Option (S))}(h:yk T g cap st w){Y:dd}:yk T g cap (λs=>st s++Y) w:=λX s a b c hw=>by
 have:=h (Y++X) s a b c hw
 rwa [<-ry,<-ry] at this
def yk.Yk{S:Type}{T:ec}{g:Nat}{cap:List AV}{st:S->dd}{w:(S->Int->Int->Option (S))}(h:yk T g cap st w){s:S}{a b:Int}{c:S}(hw:w s a b=some c):dY prog T g ([sI a,sI b]++cap) (st s) (AV.tuple []) (st c):=by
 have:=h [] s a b c hw
 rwa [zk,zk] at this
def yf{S:Type}(T:ec)(g:Nat)(cap:List AV)(st:S->dd)(w:(S->Int->Int->Option (Tm×S))):Prop:=
 ∀(X:dd) (s:S) (a:Int) (b:Int) (c:Tm) (d:S),w s a b=some (c,d)->dY prog T g ([sI a,sI b]++cap) (st s++X) (Tm.av c) (st d++X)
def yf.ext{S:Type}{T:ec}{g:Nat}{cap:List AV}{st:S->dd}{w:(S->Int->Int->Option (Tm×S))}(h:yf T g cap st w){Y:dd}:yf T g cap (λs=>st s++Y) w:=λX s a b c d hw=>by
 have:=h (Y++X) s a b c d hw
 rwa [<-ry,<-ry] at this
def yf.Yk{S:Type}{T:ec}{g:Nat}{cap:List AV}{st:S->dd}{w:(S->Int->Int->Option (Tm×S))}(h:yf T g cap st w){s:S}{a b:Int}{c:Tm}{d:S}(hw:w s a b=some (c,d)):dY prog T g ([sI a,sI b]++cap) (st s) (Tm.av c) (st d):=by
 have:=h [] s a b c d hw
 rwa [zk,zk] at this
end Go.Proofs.YtijednbpbbddbaaGreatDoor
set_option maxRecDepth 20000
set_option maxHeartbeats 4000000
namespace Go.Proofs.YtijednbpbbddbaaGreatDoor
open Go Go.ns Go.ek Tryz
def Jt{n:Nat}:C1 prog 258 (lR n) (t2 sI sB) Ty.av:=by
 refine i1 λn d=>u1 4 func258 λT H a0 r m e=>?_;rw[lR] at m;simp[e];refine yU m 3 999 (λb f h=>∃v2,(h=H/\f.1 4=sI v2/\bx f 1 (Ty.av a0).cells)/\b v2=some r) ?_ (λb _ g m=>?_)
 ·rintro _ _ ⟨v2,E,m⟩;have e:=Aj e E;refine Il e m λe m=>?_;simp[e];refine Wr e m 999 (λc a f h=>h=H/\f.1 5=sI a/\f.1 25=sL Ty.av a0.agk/\f.1 26=sI (dn a0.agk)/\f.1 27=sI c) aaN (λa _ _ _ E m=>?_) (λc _ a _ _ _ _ _ E e m z p=>?_)
  ·have e:=Aj e E;dsimp only[cS]at m;exact au
  have e:=Aj e E;simp[e];refine ke m d λ_ _ m=>?_;refine Im e m λe m=>?_;exact al
 simp[e];refine wj 999 0 (λf h=>h=H/\f.1 4=sI 0/\f.1 11=sI a0.agj/\f.1 12=sB (eH (dm a0.agj 1) true (eH (dm a0.agj 2) true (dm a0.agj 5)))/\bx f 1 (Ty.av a0).cells) (λ_ g=>?_) ?_
 ·rcases Pb (dm a0.agj 1) e with e|e
  ·exact aj
  rcases Pb (dm a0.agj 2) e with e|e
  ·exact aj
  exact aj
 rintro _ _ E;have e:=Aj e E;apply Iq e m<;>intro e m
 ·apply wg 999;exact iO
 apply wg 1;simp[e];refine wj 999 999 (λf h=>h=H/\f.1 16=sB (eH (dm a0.agj 3) true (dm a0.agj 4))/\bx f 1 (Ty.av a0).cells) (λ_ g=>?_) ?_
 ·rcases Pb (dm a0.agj 3) e with e|e
  ·exact aj
  exact aj
 rintro _ _ E;have e:=Aj e E;refine Im e m λe m=>?_;exact iO
def rI:C1 prog 214 je (t2 sI sI) Ty.av:=by
 refine v1 func214 λT H a0 r m e=>?_;rw[je] at m;simp[e];refine ke m Jt λ_ _ m=>?_;refine Im e m λe m=>?_;refine Il e m λe m=>?_;exact au
def Ge:C1 prog 179 kL sI Ty.av:=by
 refine v1 func179 λT H a0 r m e=>?_;rw[kL] at m;simp[e];refine ke m rI λ_ _ m=>?_;exact au
def DZ:C1 prog 112 mx sI (sL Ty.av):=by
 refine v1 func112 λT H a0 r m e=>?_;rw[mx] at m;refine Il e m λe m=>?_;simp[e];refine Wr e m 999 (λa _ f h=>h=H/\f.1 9=sL Ty.av a0/\f.1 10=sI (dn a0)/\f.1 11=sI a) aaN (λ_ _ _ _ E m=>?_) (λa _ _ _ _ _ _ _ E e m z p=>?_)
 ·have e:=Aj e E;dsimp only[cS]at m;exact au
 have e:=Aj e E;simp[e];refine eI m Ge λ_ m=>?_;refine Il e m λe m=>?_;exact al
def BH:C1 prog 215 og sB Ty.av:=by
 refine u1 2 func215 λT H a0 r m e=>?_;rw[og] at m;simp[e];refine OV 999 999 (λf h=>h=H/\f.1 2=sB (eH (dm a0.agj 0) (dm (dn a0.agk) 0) false)) ?_ (λ_ g=>?_)
 ·rintro _ _ E;have e:=Aj e E;exact au
 rcases Pb (dm a0.agj 0) e with e|e
 ·exact aj
 exact aj
def Ov:C1 prog 233 qo sB Fm.av:=by
 refine u1 4 func233 λT H a0 r m e=>?_;rw[qo] at m;simp[e];refine yU m 5 0 (λa f h=>∃v2 v3 v4,(h=H/\f.1 3=sI v2/\f.1 4=sI v3/\f.1 5=sB v4/\bx f 1 (Fm.av a0).cells)/\a v2 v3 v4=some r) ?_ (λa _ g m=>?_)
 ·rintro _ _ ⟨v2,v3,v4,E,m⟩;have e:=Aj e E;refine yU m 999 0 (λb f h=>(h=H/\f.1 3=sI v2/\f.1 4=sI v3/\bx f 1 (Fm.av a0).cells)/\b=some r) ?_ (λb _ g m=>?_)
  ·rintro _ _ ⟨E,m⟩;have e:=Aj e E;refine OV 999 999 (λf h=>h=H/\f.1 2=sB (eH (dm (dn a0.dc) v2) (dm (dn a0.agk) v3) false)) ?_ (λ_ g=>?_)
   ·rintro _ _ E;have e:=Aj e E;exact au
   rcases Pb (dm (dn a0.dc) v2) e with e|e
   ·exact aj
   exact aj
  apply Iq e m<;>intro e m
  ·simp[e];refine ke m rI λ_ _ m=>?_;refine Il e m λe m=>?_;exact ZF
  simp[e];refine eI m BH λ_ m=>?_;refine Im e m λe m=>?_;exact ZF
 simp[e];apply Iq e m<;>intro e m
 ·apply wg 999;exact ak3
 apply wg 1;simp[e];refine wj 999 0 (λf h=>h=H/\f.1 3=sI 0/\f.1 5=sB false/\f.1 9=sI a0.agj/\f.1 12=sB (eH (dm a0.agj 2) true (dm a0.agj 3))/\bx f 1 (Fm.av a0).cells) (λ_ g=>?_) ?_
 ·rcases Pb (dm a0.agj 2) e with e|e
  ·exact aj
  exact aj
 rintro _ _ E;have e:=Aj e E;apply Iq e m<;>intro e m
 ·apply wg 999;exact ak3
 apply wg 1;simp[e];refine OV 999 999 (λf h=>h=H/\f.1 3=sI 0/\f.1 15=sB (eH (dm a0.agj 4) true (eH (dm a0.agj 5) true (eH (dm a0.agj 6) true (dm a0.agj 7))))/\bx f 1 (Fm.av a0).cells) ?_ (λ_ g=>?_)
 ·rintro _ _ E;have e:=Aj e E;refine Im e m λe m=>?_;exact ak3
 rcases Pb (dm a0.agj 4) e with e|e
 ·exact aj
 rcases Pb (dm a0.agj 5) e with e|e
 ·exact aj
 rcases Pb (dm a0.agj 6) e with e|e
 ·exact aj
 exact aj
def PU(T:ec)(c:rG T){H:dd}{a0 a:Int}{b:Bool}(hm:vn a0=some (a,b)):dY prog T 265 [sI a0] H (AV.tuple [sI a,sB b]) H:=by
 rw[vn] at hm;have e:=c;refine wi ago func265 [] [] 3 ?_;simp[e];refine wj 999 999 (λf h=>h=H/\f.1 0=sI a0/\f.1 9=sB (eH (pP a0 1) true (rZ a0 14))) (λ_ g=>?_) ?_
 ·rcases Pb (pP a0 1) e with e|e
  ·exact aj
  exact aj
 rintro _ _ E;have e:=Aj e E;refine Il e hm λe m=>?_;have⟨d,e,m⟩:=fh e m;exact au
def Qr:C1 prog 266 vI sB sI:=by
 refine u1 2 func266 λT H a0 r m e=>?_;rw[vI] at m;simp[e];refine OV 999 999 (λf h=>h=H/\f.1 2=sB (eH (dm a0 2) true (eH (dm a0 6) true (dm a0 9)))) ?_ (λ_ g=>?_)
 ·rintro _ _ E;have e:=Aj e E;exact au
 rcases Pb (dm a0 2) e with e|e
 ·exact aj
 rcases Pb (dm a0 6) e with e|e
 ·exact aj
 exact aj
def IC(T:ec)(i:rG T):∀(n:Nat),(∀{H:dd} {a0:Tm} {c:Int} {d:Bool} (hm:jv n a0=some (c,d)),dY prog T 234 [Tm.av a0] H (AV.tuple [sI c,sB d]) H):=by
  intro n
  induction n with
  |zero=>
    skip
    all_goals(intro _ _;intros;rename_i hm;cases hm)
  |succ n o=>
 intro H a0 c d hm;rw[jv] at hm;have e:=i;refine wi ago func234 [] [] 5 ?_;simp[e];refine ke hm (PU T i) λj k m=>?_;simp[e];refine wj 999 0 (λf h=>h=H/\f.1 42=sB (eH k (eH (dw (dn a0.agk) j) true (eH (pP a0.agm 0) true (eH (dw a0.agm 0) (dw a0.agj 1) false))) true)/\bx f 1 (Tm.av a0).cells) (λ_ g=>?_) ?_
 ·rcases Pb k e with e|e;rotate_left
  ·exact aj
  rcases Pb (dw (dn a0.agk) j) e with e|e
  ·exact aj
  rcases Pb (pP a0.agm 0) e with e|e
  ·exact aj
  rcases Pb (dw a0.agm 0) e with e|e
  ·exact aj
  exact aj
 rintro _ _ E;have e:=Aj e E;apply Iq e m<;>intro e m
 ·apply wg 999;exact au
 apply wg 2;simp[e];refine Wj m 999 999 (λl f h=>(h=H/\f.1 1=AV.jo 1 (f.gen 1) 0/\f.box 1=some (Tm.av a0).cells)/\l=some (c,d)) (λl _ g m=>?_) ?_
 ·simp[e];refine eI m Qr λ_ m=>?_;apply Iq e m<;>intro e m
  ·simp[e];refine ke m rI λ_ _ m=>?_;refine Il e m λe m=>?_;exact ZF
  simp[e];refine eI m BH λ_ m=>?_;refine Im e m λe m=>?_;exact ZF
 rintro _ _ ⟨E,m⟩;have e:=Aj e E;simp[e];refine Wr e m 999 (λb a f h=>h=H/\f.1 8=sI a/\f.1 59=sL Tm.av a0.agk/\f.1 60=sI (dn a0.agk)/\f.1 61=sI b) aaN (λa _ _ _ E m=>?_) (λb _ a _ _ _ _ _ E e m z p=>?_)
 ·have e:=Aj e E;dsimp only[cS]at m;exact au
 have e:=Aj e E;simp[e];refine ke m o λ_ _ m=>?_;refine Im e m λe m=>?_;exact al
def BY(T:ec)(c:rG T){H:dd}{a0:Tm}{a:Int}{b:Bool}{n:Nat}(hm:jv n a0=some (a,b)):dY prog T 234 [Tm.av a0] H (AV.tuple [sI a,sB b]) H:=(IC T c n) hm
def FH(T:ec)(j:rG T):∀(n:Nat),(∀{H:dd} {a0:Fm} {c:Int} {d:Bool} (hm:ju n a0=some (c,d)),dY prog T 164 [Fm.av a0] H (AV.tuple [sI c,sB d]) H):=by
  intro n
  induction n with
  |zero=>
   skip
   all_goals(intro _ _;intros;rename_i hm;cases hm)
  |succ n l=>
 intro H a0 c d hm;rw[ju] at hm;have e:=j;refine wi ago func164 [] [] 999 ?_;simp[e];refine eI hm Ov λ_ m=>?_;refine Im e m λe m=>?_;simp[e];refine FC e m 999 (λk i f h=>h=H/\f.1 4=sI i/\f.1 17=sL Tm.av a0.dc/\f.1 18=sI (dn a0.dc)/\f.1 19=sI k/\bx f 1 (Fm.av a0).cells) aaN (λk _ i _ _ _ _ _ E e m z p=>?_) (λi _ _ _ E m=>?_)
 ·have e:=Aj e E;simp[e];refine ke m (BY T j) λ_ _ m=>?_;refine Im e m λe m=>?_;exact al
 have e:=Aj e E;dsimp only[cS]at m;simp[e];refine Wr e m 999 (λb a f h=>h=H/\f.1 4=sI a/\f.1 35=sL Fm.av a0.agk/\f.1 36=sI (dn a0.agk)/\f.1 37=sI b) aaN (λa _ _ _ E m=>?_) (λb _ a _ _ _ _ _ E e m z p=>?_)
 ·have e:=Aj e E;dsimp only[cS]at m;exact au
 have e:=Aj e E;simp[e];refine ke m l λ_ _ m=>?_;refine Im e m λe m=>?_;exact al
def FZ(T:ec)(c:rG T){H:dd}{a0:Fm}{a:Int}{b:Bool}{n:Nat}(hm:ju n a0=some (a,b)):dY prog T 164 [Fm.av a0] H (AV.tuple [sI a,sB b]) H:=(FH T c n) hm
def uP(T:ec)(a:rG T){H:dd}{a0:Fm}{b c:Int}(hm:ik a0=some (b,c)):dY prog T 88 [Fm.av a0] H (AV.tuple [sI b,sI c]) H:=by
 rw[ik] at hm;have e:=a;refine wi ago func88 [] [] 999 ?_;simp[e];refine ke hm (FZ T a) λ_ _ m=>?_;refine Im e m λe m=>?_;refine Il e m λe m=>?_;exact au
def oN(T:ec)(a:rG T){H:dd}{a0:Fm}{b:Int}(hm:jL a0=some b):dY prog T 50 [Fm.av a0] H (sI b) H:=by
 rw[jL] at hm;have e:=a;refine wi ago func50 [] [] 999 ?_;simp[e];refine ke hm (uP T a) λ_ _ m=>?_;exact au
def vU:C1 prog 205 m6 cP.av Ty.av:=by
 refine v1 func205 λT H a0 r m e=>?_;rw[m6] at m;simp[e];refine ke m rI λ_ _ m=>?_;exact au
def BK:C1 prog 128 od (sL cP.av) (sL Ty.av):=by
 refine v1 func128 λT H a0 r m e=>?_;rw[od] at m;simp[e];refine Wr e m 999 (λi s2 f h=>∃a,(h=H/\f.1 3=sT a cP.av s2/\f.1 6=sL Ty.av a0/\f.1 7=sI (dn a0)/\f.1 8=sI i)/\Ow f [16] a s2) (by exact⟨.full,aaN,jj.full⟩) (λs2 c _ _ E m=>?_) (λi _ s2 c _ _ _ _ E e m z p=>?_)
 ·have⟨a,E,b⟩:=E;have e:=Aj e E;dsimp only[cS]at m;exact au
 have⟨a,E,b⟩:=E;have e:=Aj e E;simp[e];refine eI m vU λd m=>?_;have⟨e,m⟩:=Ck e m;simp[e];refine Ao (f:=cP.av) s2 [d] b VX e.2 ?_;simp[e];cases m;exact p _ _ _ ⟨(.loc 16 (c.fu 16+1)),aaN,(On 16)⟩ z
def p7:C2 prog 196 eZ (sL cP.av) (sL cP.av) (sL Ty.av):=by
 refine v2 func196 λT H a0 a1 r m e=>?_;rw[eZ] at m;simp[e];refine eO m BK λa m=>?_;have⟨e,m⟩:=Ck e m;simp[e];refine Ad (f:=cP.av) a0 a (jj.full (D:=[])) VX e.2 ?_;exact au
def Gi:C3 prog 243 r7 (t2 cP.av sI) sI cP.av cP.av:=by
 refine v3 func243 λT H a0 a1 a2 r m e=>?_;rw[r7] at m;refine Il e m λe m=>?_;have e:=Aj e (show AV.agg [sI a0,AV.slice .jU [Ty.av a1.cO,Ty.av a2.cO],sI (dR .i64 (dR .i64 1 a1.agl) a2.agl)]=cP.av (cP.mk (Ty.mk a0 [a1.cO,a2.cO]) (dR .i64 (dR .i64 1 a1.agl) a2.agl)) by rw[cP.fE];rfl);exact au
def LV:C1 prog 271 hX (sL sI) sI:=by
 refine v1 func271 λT H a0 r m e=>?_;rw[hX] at m;refine Il e m λe m=>?_;refine Il e m λe m=>?_;refine Il e m λe m=>?_;refine Il e m λe m=>?_;refine Il e m λe m=>?_;exact au
def m0:C2 prog 253 ky sB cP.av sI:=by
 refine v2 func253 λT H a0 a1 r m e=>?_;rw[ky] at m;exact au
def ri:C2 prog 272 kc cP.av cP.av sI:=by
 refine v2 func272 λT H a0 a1 r m e=>?_;rw[kc] at m;have⟨a,e,m⟩:=fh e m;simp[e];refine eI m vU λ_ m=>?_;exact au
def sE{n:Nat}:C2 prog 269 (fN n) sB Ty.av Ty.av:=by
 refine i2 λn b=>u2 3 func269 λT H a0 a1 r m e=>?_;rw[fN] at m;simp[e];refine wj 999 999 (λf h=>h=H/\f.1 20=sB (eH (dw a0.agj a1.agj) true (dw (dn a0.agk) (dn a1.agk)))/\bx f 2 (Ty.av a0).cells/\bx f 3 (Ty.av a1).cells) (λ_ g=>?_) ?_
 ·rcases Pb (dw a0.agj a1.agj) e with e|e
  ·exact aj
  exact aj
 rintro _ _ E;have e:=Aj e E;refine Il e m λe m=>?_;simp[e];refine Wr e m 999 (λa _ f h=>h=H/\f.1 22=sL Ty.av a0.agk/\f.1 23=sI (dn a0.agk)/\f.1 24=sI a/\bx f 3 (Ty.av a1).cells) aaN (λ_ _ _ _ E m=>?_) (λa _ _ _ _ _ _ _ E e m z p=>?_)
 ·have e:=Aj e E;dsimp only[cS]at m;exact au
 have e:=Aj e E;have⟨c,e,m⟩:=fh e m;simp[e];refine eO m b λ_ m=>?_;refine Im e m λe m=>?_;exact al
def uM:C2 prog 246 kV sB cP.av cP.av:=by
 refine u2 2 func246 λT H a0 a1 r m e=>?_;rw[kV] at m;simp[e];refine yU m 999 999 (λa f h=>∃v2,(h=H/\f.1 4=sB v2)/\a v2=some r) ?_ (λa _ g m=>?_)
 ·rintro _ _ ⟨v2,E,m⟩;have e:=Aj e E;exact au
 apply Ir e m<;>intro e m
 ·exact iO
 simp[e];refine eI m sE λ_ m=>?_;exact iO
def pE:C0 prog 200 pJ Ty.av:=by
 refine v0 func200 λT H r m e=>?_;rw[pJ] at m;exact au
def KU:C0 prog 252 zK Ty.av:=by
 refine v0 func252 λT H r m e=>?_;rw[zK] at m;exact au
def Hx:C2 prog 201 mM Ty.av Ty.av (sL Ty.av):=by
 refine v2 func201 λT H a0 a1 r m e=>?_;rw[mM] at m;simp[e];refine Wn m 999 (λs1 f h=>∃a,h=H/\f.1 1=sL Ty.av a1/\f.1 5=sI s1.1/\bx f 2 [sI s1.2.1,sT a Ty.av s1.2.2]/\bx f 4 [sI 0,nL]) ⟨.jU,aaN⟩ (λs1 _ _ _ _ _ E m z p=>?_);have⟨c,v9,v10⟩:=s1;have⟨a,E⟩:=E;have e:=Aj e E;dsimp only[PT]at m;apply Ir e m<;>intro e m
 ·cases m;have m:=Qb z;dsimp only[PT]at m;exact au
 have⟨b,e,m⟩:=fh e m;simp[e];cases m;exact p _ _ _ ⟨.full,aaN⟩ z
def N8:C1 prog 273 ot Ty.av Tm.av:=by
 refine v1 func273 λT H a0 r m e=>?_;rw[ot] at m;apply Ir e m<;>intro e m
 ·simp[e];refine eO m pE λ_ m=>?_;simp[e];refine eO m Hx λ_ m=>?_;exact au
 simp[e];refine eO m pE λ_ m=>?_;simp[e];refine eO m KU λ_ m=>?_;simp[e];refine eO m Hx λ_ m=>?_;exact au
def N3:C2 prog 244 et (t2 cP.av sI) Tm.av (λp=>AV.agg [sI p.1.cO.agj,sL Ty.av p.1.cO.agk,sI p.1.agl,sI p.2.1.cO.agj,sL Ty.av p.2.1.cO.agk,sI p.2.1.agl,sI p.2.2.cO.agj,sL Ty.av p.2.2.cO.agk,sI p.2.2.agl]):=by
 intro T H a0 a1 r hm;rw[et] at hm;have e:=trivial;refine wi ago func244 [] [] 7 ?_;simp[e];refine eI hm LV λD m=>?_;simp[e];apply Iq e m<;>intro e m
 ·apply wg 999;have⟨x,e,m⟩:=fh e m;simp[e];refine Wr e m 0 (λq _ f h=>h=H/\f.1 6=sL sI D/\f.1 18=sL sI x/\f.1 19=sI (dn x)/\f.1 20=sI q/\bx f 3 [sI a1.1.cO.agj,sL Ty.av a1.1.cO.agk,sI a1.1.agl,sI a1.2.1.cO.agj,sL Ty.av a1.2.1.cO.agk,sI a1.2.1.agl,sI a1.2.2.cO.agj,sL Ty.av a1.2.2.cO.agk,sI a1.2.2.agl]/\bx f 4 [sI 0,nL,sI 0]) aaN (λ_ a _ _ E m=>?_) (λq _ _ a _ _ _ F E e m s t=>?_)
  ·have e:=Aj e E;apply wg 999;dsimp only[cS]at m;have⟨G,e,m⟩:=fh e m;simp[e];refine eI m vU λ_ m=>?_;cases m;simp[e]
  have e:=Aj e E;apply wg 9;simp[e];refine yU m 999 999 (λu f h=>∃l,(h=H/\f.1 6=sL sI D/\f.1 18=sL sI x/\f.1 19=sI (dn x)/\f.1 20=sI q/\f.1 30=sB l/\bx f 3 [sI a1.1.cO.agj,sL Ty.av a1.1.cO.agk,sI a1.1.agl,sI a1.2.1.cO.agj,sL Ty.av a1.2.1.cO.agk,sI a1.2.1.agl,sI a1.2.2.cO.agj,sL Ty.av a1.2.2.cO.agk,sI a1.2.2.agl]/\bx f 4 [sI 0,nL,sI 0])/\u l=some F) ?_ (λu _ c m=>?_)
  ·rintro _ _ ⟨l,E,m⟩;have e:=Aj e E;apply Iq e m<;>intro e m
   ·cases m;cases s;simp[e]
   simp[e];cases m;exact t _ _ _ aaN s
  apply Iq e m<;>intro e m
  ·have e:=Aj e (J6 (j:=0) Kc Eu aaN aaa:gO prog 253 (AV.jo 3 (a.gen 3) 0) (sI q)=some (AV.jo 3 (a.gen 3) 0));simp[e];refine eI m m0 λy m=>?_;simp[e];exact c _ _ ⟨(m9 y),aaN,m⟩
  apply Iq e m<;>intro e m
  ·have e:=Aj e (J6 (j:=1) Kc Eu aaN aaa:gO prog 253 (AV.jo 3 (a.gen 3) 0) (sI q)=some (AV.jo 3 (a.gen 3) 3));simp[e];refine eI m m0 λz m=>?_;simp[e];exact c _ _ ⟨(m9 z),aaN,m⟩
  have⟨e,m⟩:=Ck e m;have e:=Aj e (J6 (j:=2) Kc Eu aaN aaa:gO prog 253 (AV.jo 3 (a.gen 3) 0) (sI q)=some (AV.jo 3 (a.gen 3) 6));simp[e];refine eI m m0 λA m=>?_;simp[e];exact c _ _ ⟨(m9 A),aaN,m⟩
 apply wg 8;simp[e];apply Iq e m<;>intro e m
 ·apply wg 2;simp[e];refine yU m 999 999 (λv f h=>∃n,(h=H/\f.1 54=sB n/\bx f 3 [sI a1.1.cO.agj,sL Ty.av a1.1.cO.agk,sI a1.1.agl,sI a1.2.1.cO.agj,sL Ty.av a1.2.1.cO.agk,sI a1.2.1.agl,sI a1.2.2.cO.agj,sL Ty.av a1.2.2.cO.agk,sI a1.2.2.agl]/\bx f 4 [sI 0,nL,sI 0])/\v n=some r) ?_ (λv _ g m=>?_)
  ·rintro _ _ ⟨n,E,m⟩;have e:=Aj e E;apply Iq e m<;>intro e m
   ·cases m;simp[e]
   simp[e];refine eI m ri λ_ m=>?_;cases m;simp[e]
  simp[e];refine eO m m0 λ_ m=>?_;apply Ir e m<;>intro e m
  ·simp[e];exact g _ _ ⟨true,aaN,m⟩
  simp[e];refine eO m ri λ_ m=>?_;simp[e];refine eO m uM λB m=>?_;simp[e];exact g _ _ ⟨(m9 B),aaN,m⟩
 apply wg 1;simp[e];refine wj 999 0 (λf h=>h=H/\f.1 39=sI a0.agj/\f.1 59=sB (eH (dm a0.agj 6) true (dm a0.agj 9))/\bx f 2 (Tm.av a0).cells/\bx f 3 [sI a1.1.cO.agj,sL Ty.av a1.1.cO.agk,sI a1.1.agl,sI a1.2.1.cO.agj,sL Ty.av a1.2.1.cO.agk,sI a1.2.1.agl,sI a1.2.2.cO.agj,sL Ty.av a1.2.2.cO.agk,sI a1.2.2.agl]/\bx f 4 [sI 0,nL,sI 0]) (λ_ i=>?_) ?_
 ·rcases Pb (dm a0.agj 6) e with e|e
  ·simp[e];exact i _ _ aaN
  simp[e];exact i _ _ aaN
 rintro _ _ E;have e:=Aj e E;apply Ir e m<;>intro e m
 ·apply wg 999;apply Iq e m<;>intro e m
  ·simp[e];refine ke m Gi λ_ _ m=>?_;cases m;simp[e]
  simp[e];refine eI m m0 λ_ m=>?_;apply Ir e m<;>intro e m
  ·cases m;simp[e]
  apply Iq e m<;>intro e m
  ·simp[e];refine eI m ri λ_ m=>?_;cases m;simp[e]
  simp[e];refine eI m ri λ_ m=>?_;cases m;simp[e]
 apply wg 3;simp[e];refine eI m vU λb m=>?_;simp[e];refine wj 2 1 (λf h=>h=H/\f.1 10=sI (eH (dm a0.agj 9) 2 1)/\bx f 2 (Tm.av a0).cells/\bx f 3 [sI a1.1.cO.agj,sL Ty.av a1.1.cO.agk,sI a1.1.agl,sI a1.2.1.cO.agj,sL Ty.av a1.2.1.cO.agk,sI a1.2.1.agl,sI a1.2.2.cO.agj,sL Ty.av a1.2.2.cO.agk,sI a1.2.2.agl]/\bx f 4 [sI 0,nL,sI 0]/\bx f 9 [sI b.cO.agj,sL Ty.av b.cO.agk,sI b.agl]) (λ_ k=>?_) ?_
 ·simp[e];rcases Pb (dm a0.agj 9) e with e|e
  ·apply wg 999;simp[e];exact k _ _ aaN
  apply wg 999;simp[e];exact k _ _ aaN
 rintro _ _ E;have e:=Aj e E;simp[e];refine yU m 999 999 (λw f h=>∃o,(h=H/\f.1 88=sB o/\bx f 4 [sI 0,nL,sI 0]/\bx f 9 [sI b.cO.agj,sL Ty.av b.cO.agk,sI b.agl])/\w o=some r) ?_ (λw _ d m=>?_)
 ·rintro _ _ ⟨o,E,m⟩;have e:=Aj e E;apply Iq e m<;>intro e m
  ·cases m;simp[e]
  cases m;simp[e]
 simp[e];refine eO m uM λ_ m=>?_;apply Ir e m<;>intro e m
 ·simp[e];exact d _ _ ⟨true,aaN,m⟩
 simp[e];refine eO m N8 λ_ m=>?_;simp[e];refine eO m sE λ_ m=>?_;apply Ir e m<;>intro e m
 ·simp[e];exact d _ _ ⟨true,aaN,m⟩
 simp[e];refine eO m m0 λC m=>?_;simp[e];exact d _ _ ⟨(m9 C),aaN,m⟩
def oD{n:Nat}:C2 prog 188 (dx n) (t2 cP.av sI) (sL cP.av) Tm.av:=by
 refine i2 λn K=>v2 func188 λT H a0 a1 r m e=>?_;rw[dx] at m;apply Iq e m<;>intro e m
 ·refine Il e m λe m=>?_;have⟨M,e,m⟩:=fh e m;exact au
 apply Iq e m<;>intro e m
 ·simp[e];refine eI m vU λL m=>?_;have⟨e,m⟩:=Ck e m;simp[e];refine Ad (f:=cP.av) a0 [L] (jj.full (D:=[])) VX e.2 ?_;have⟨N,e,m⟩:=fh e m;simp[e];refine oA m K λ_ _ m=>?_;refine Il e m λe m=>?_;simp[e];refine ke m Gi λ_ _ m=>?_;exact au
 simp[e];refine Wr e m 0 (λx o f h=>∃a b c,h=H/\f.1 0=sL cP.av a0/\f.1 65=sL Tm.av a1.agk/\f.1 66=sI (dn a1.agk)/\f.1 67=sI x/\bx f 3 (Tm.av a1).cells/\bx f 4 [sI 0,nL,sI 0]/\bx f 9 [sI o.1,sT a Ty.av o.2.1,sI o.2.2.1,sI o.2.2.2.1,sT b Ty.av o.2.2.2.2.1,sI o.2.2.2.2.2.1,sI o.2.2.2.2.2.2.1,sT c Ty.av o.2.2.2.2.2.2.2.1,sI o.2.2.2.2.2.2.2.2]) ⟨.full,.full,.full,aaN⟩ (λo d _ _ E m=>?_) (λx _ o d _ _ _ A E e m z p=>?_)
 ·have⟨B,C,F,v20,v21,G,I,v24,J⟩:=o;have⟨a,b,c,E⟩:=E;have e:=Aj e E;apply wg 999;dsimp only[cS,QD]at m;simp[e];refine ke m N3 λ_ _ m=>?_;exact au
 have⟨B,C,F,v20,v21,G,I,v24,J⟩:=o;have⟨a,b,c,E⟩:=E;have e:=Aj e E;dsimp only[QD]at m;apply wg 5;simp[e];refine yU m 999 999 (λy f h=>∃q v30 v31 s t u v w v37 i k l,(h=H/\f.1 0=sL cP.av a0/\f.1 65=sL Tm.av a1.agk/\f.1 66=sI (dn a1.agk)/\f.1 67=sI x/\bx f 3 (Tm.av a1).cells/\bx f 4 [sI 0,nL,sI 0]/\bx f 9 [sI q,sT i Ty.av v30,sI v31,sI s,sT k Ty.av t,sI u,sI v,sT l Ty.av w,sI v37])/\y q v30 v31 s t u v w v37=some A) ?_ (λy _ g m=>?_)
 ·rintro _ _ ⟨q,v30,v31,s,t,u,v,w,v37,i,k,l,E,m⟩;have e:=Aj e E;simp[e];cases m;exact p _ _ _ ⟨i,k,l,aaN⟩ z
 simp[e];refine ke m K λ_ _ m=>?_;refine Il e m λe m=>?_;apply Iq e m<;>intro e m
 ·have e:=Aj e (J6 (j:=0) Kc Eu aaN aaa:gO prog 253 (AV.jo 9 (d.gen 9) 0) (sI x)=some (AV.jo 9 (d.gen 9) 0));simp[e];exact g _ _ ⟨_,_,_,_,_,_,_,_,_,.jU,b,c,aaN,m⟩
 apply Iq e m<;>intro e m
 ·have e:=Aj e (J6 (j:=1) Kc Eu aaN aaa:gO prog 253 (AV.jo 9 (d.gen 9) 0) (sI x)=some (AV.jo 9 (d.gen 9) 3));simp[e];exact g _ _ ⟨_,_,_,_,_,_,_,_,_,a,.jU,c,aaN,m⟩
 have⟨e,m⟩:=Ck e m;have e:=Aj e (J6 (j:=2) Kc Eu aaN aaa:gO prog 253 (AV.jo 9 (d.gen 9) 0) (sI x)=some (AV.jo 9 (d.gen 9) 6));simp[e];exact g _ _ ⟨_,_,_,_,_,_,_,_,_,a,b,.jU,aaN,m⟩
def yD:C3 prog 197 gR sI (sL cP.av) Tm.av sI:=by
 refine u3 5 func197 λT H a0 a1 a2 r m e=>?_;rw[gR] at m;simp[e];refine ke m oD λ_ b m=>?_;simp[e];refine yU m 999 999 (λa f h=>∃v4,(h=H/\f.1 8=sI b/\f.1 22=sB v4)/\a v4=some r) ?_ (λa _ g m=>?_)
 ·rintro _ _ ⟨v4,E,m⟩;have e:=Aj e E;refine Il e m λe m=>?_;exact au
 apply Ir e m<;>intro e m
 ·exact iO
 simp[e];refine eI m m0 λ_ m=>?_;exact iO
def vR:C2 prog 198 gJ sI (sL cP.av) Tm.av:=by
 refine v2 func198 λT H a0 a1 r m e=>?_;rw[gJ] at m;simp[e];refine eI m yD λ_ m=>?_;exact au
def kD{n:Nat}:C2 prog 178 (dy n) sI (sL cP.av) Fm.av:=by
 refine i2 λn k=>u2 6 func178 λT H a0 a1 r m e=>?_;rw[dy] at m;simp[e];refine yU m 1 999 (λi f h=>∃v2,(h=H/\f.1 0=sL cP.av v2/\f.1 3=AV.jo 3 (f.gen 3) 0/\f.box 3=some (Fm.av a1).cells)/\i v2=some r) ?_ (λi _ a m=>?_)
 ·rintro _ _ ⟨v2,E,m⟩;have e:=Aj e E;simp[e];refine Wr e m 999 (λj _ f h=>h=H/\f.1 0=sL cP.av v2/\f.1 28=sL Fm.av a1.agk/\f.1 29=sI (dn a1.agk)/\f.1 30=sI j) aaN (λ_ _ _ _ E m=>?_) (λj _ _ _ _ _ _ _ E e m z p=>?_)
  ·have e:=Aj e E;dsimp only[cS]at m;exact au
  have e:=Aj e E;simp[e];refine eI m k λ_ m=>?_;refine Il e m λe m=>?_;exact al
 simp[e];refine yU m 4 999 (λb f h=>(h=H/\f.1 0=sL cP.av a0/\f.1 3=AV.jo 3 (f.gen 3) 0/\f.box 3=some (Fm.av a1).cells)/\b=some r) ?_ (λb _ g m=>?_)
 ·rintro _ _ ⟨E,m⟩;have e:=Aj e E;simp[e];refine eI m p7 λd m=>?_;simp[e];exact a _ _ ⟨d,aaN,m⟩
 simp[e];refine wj 999 0 (λf h=>h=H/\f.1 0=sL cP.av a0/\f.1 12=sI a1.agj/\f.1 13=sB (eH (dm a1.agj 4) true (dm a1.agj 5))/\bx f 3 (Fm.av a1).cells) (λ_ g=>?_) ?_
 ·rcases Pb (dm a1.agj 4) e with e|e
  ·exact aj
  exact aj
 rintro _ _ E;have e:=Aj e E;apply Iq e m<;>intro e m
 ·apply wg 999;exact ZF
 apply wg 3;simp[e];refine wj 999 0 (λf h=>h=H/\f.1 0=sL cP.av a0/\f.1 12=sI a1.agj/\f.1 16=sB (eH (dm a1.agj 6) true (dm a1.agj 7))/\bx f 3 (Fm.av a1).cells) (λ_ g=>?_) ?_
 ·rcases Pb (dm a1.agj 6) e with e|e
  ·exact aj
  exact aj
 rintro _ _ E;have e:=Aj e E;apply Iq e m<;>intro e m
 ·apply wg 999;exact ZF
 apply wg 2;simp[e];refine wj 999 999 (λf h=>h=H/\f.1 0=sL cP.av a0/\f.1 19=sB (eH (dm a1.agj 2) true (dm a1.agj 3))/\bx f 3 (Fm.av a1).cells) (λ_ g=>?_) ?_
 ·rcases Pb (dm a1.agj 2) e with e|e
  ·exact aj
  exact aj
 rintro _ _ E;have e:=Aj e E;apply Iq e m<;>intro e m
 ·simp[e];exact a _ _ ⟨a0,aaN,m⟩
 simp[e];refine Wr e m 999 (λc _ f h=>h=H/\f.1 0=sL cP.av a0/\f.1 42=sL Tm.av a1.dc/\f.1 43=sI (dn a1.dc)/\f.1 44=sI c) aaN (λ_ _ _ _ E m=>?_) (λc _ _ _ _ _ _ _ E e m z p=>?_)
 ·have e:=Aj e E;dsimp only[cS]at m;exact au
 have e:=Aj e E;simp[e];refine eI m vR λ_ m=>?_;refine Il e m λe m=>?_;exact al
def DW(T:ec)(a:rG T){H:dd}{a0:List Ty}{a1:Fm}{b:Int}(hm:my a0 a1=some b):dY prog T 111 [sL Ty.av a0,Fm.av a1] H (sI b) H:=by
 rw[my] at hm;have e:=a;refine wi ago func111 [] [] 999 ?_;simp[e];refine eI hm DZ λ_ m=>?_;refine Il e m λe m=>?_;simp[e];refine eI m (oN T a) λ_ m=>?_;refine Il e m λe m=>?_;simp[e];refine eO m BK λ_ m=>?_;simp[e];refine eO m kD λ_ m=>?_;exact au
def JD(T:ec)(b:rG T){H:dd}{a0:List Fm}{a1:Sq}{c:Int}(hm:tR a0 a1=some c):dY prog T 66 [sL Fm.av a0,Sq.av a1] H (sI c) H:=by
 rw[tR] at hm;have e:=b;refine wi ago func66 [] [] 999 ?_;refine Il e hm λe m=>?_;simp[e];refine FC e m 999 (λd _ f h=>h=H/\f.1 15=sL Fm.av a0/\f.1 16=sI (dn a0)/\f.1 17=sI d/\bx f 3 (Sq.av a1).cells) aaN (λd _ _ _ _ _ _ _ E e m z p=>?_) (λ_ _ _ _ E m=>?_)
 ·have e:=Aj e E;simp[e];refine eI m (DW T b) λ_ m=>?_;refine Il e m λe m=>?_;exact al
 have e:=Aj e E;dsimp only[cS]at m;simp[e];refine eI m DZ λ_ m=>?_;refine Il e m λe m=>?_;refine Il e m λe m=>?_;simp[e];refine Wr e m 999 (λa _ f h=>h=H/\f.1 38=sL Fm.av a1.agq/\f.1 39=sI (dn a1.agq)/\f.1 40=sI a/\bx f 3 (Sq.av a1).cells) aaN (λ_ _ _ _ E m=>?_) (λa _ _ _ _ _ _ _ E e m z p=>?_)
 ·have e:=Aj e E;dsimp only[cS]at m;exact au
 have e:=Aj e E;simp[e];refine eI m (DW T b) λ_ m=>?_;refine Il e m λe m=>?_;exact al
def Oe(T:ec)(c:rG T){H:dd}{a0:Int}{a:fj}{b:Bool}(hm:oe a0=some (a,b)):dY prog T 213 [sI a0] H (AV.tuple [fj.av a,sB b]) H:=by
 rw[oe] at hm;have e:=c;refine wi ago func213 [] [] 3 ?_;simp[e];refine wj 999 999 (λf h=>h=H/\f.1 0=sI a0/\f.1 9=sB (eH (pP a0 1) true (rZ a0 21))/\bx f 2 [sB false,sB false,sI 0,sI 0,sI 0,sI 0,sI 0,sI 0]) (λ_ g=>?_) ?_
 ·rcases Pb (pP a0 1) e with e|e
  ·exact aj
  exact aj
 rintro _ _ E;have e:=Aj e E;refine Il e hm λe m=>?_;have⟨d,e,m⟩:=fh e m;exact au
def xI(T:ec)(a:rG T){H:dd}{a0:Tm}{b c:Int}(hm:jZ a0=some (b,c)):dY prog T 217 [Tm.av a0] H (AV.tuple [sI b,sI c]) H:=by
 rw[jZ] at hm;have e:=a;refine wi ago func217 [] [] 999 ?_;simp[e];refine ke hm (BY T a) λ_ _ m=>?_;refine Im e m λe m=>?_;refine Il e m λe m=>?_;exact au
def Am(T:ec){H:dd}{a0:cY}{a1 a2:Int}{i:Bool}{a:cY}{c:Nat}(b:H[c]?=some [sI a0.agl,sB a0.hR])(hm:fP a0 a1 a2=some (i,a)):dY prog T 216 [AV.eS c 0,sI a1,sI a2] H (sB i) (fH H c [sI a.agl,sB a.hR]):=by
 rw[fP] at hm;have d:=fI b;refine fl.Ph b ?_;have e:=d;refine wi ago func216 [] [] 4 ?_;simp[e];refine OV 999 999 (λf h=>h=fH H c [sI (eH a0.hR (cY.mk (dR .i64 a0.agl a1) true) (cY.mk (dR .i64 a0.agl a1) (dm a2 4))).agl,sB (eH a0.hR (cY.mk (dR .i64 a0.agl a1) true) (cY.mk (dR .i64 a0.agl a1) (dm a2 4))).hR]/\f.1 2=sI a2) ?_ (λ_ g=>?_)
 ·rintro _ _ E;have e:=Aj e E;cases hm;simp[e]
 rcases Pb a0.hR e with e|e
 ·exact aj
 exact aj
def F_(T:ec)(r:rG T):∀(n:Nat),(∀{H:dd} {a0:cY} {a1:Pf} {s:Bool} {c:cY} {a:Nat} (k:H[a]?=some [sI a0.agl,sB a0.hR]) (hm:hP n a0 a1=some (s,c)),dY prog T 141 [AV.eS a 0,Pf.av a1] H (sB s) (fH H a [sI c.agl,sB c.hR])):=by
  intro n
  induction n with
  |zero=>
    skip
    all_goals(intro _ _;intros;rename_i hm;cases hm)
  |succ n x=>
 intro H a0 a1 s c a k hm;rw[hP] at hm;have u:=fI k;refine fl.Ph k ?_;have e:=Aj r u;refine wi ago func141 [] [] 5 ?_;simp[e];refine ke hm (Oe T r) λb v m=>?_;simp[e];refine wj 999 0 (λf h=>h=fH H a [sI a0.agl,sB a0.hR]/\f.1 0=AV.eS a 0/\f.1 61=sB (eH v (eH (pP a1.agm 0) true (eH (dw a1.agm 0) (eH b.agm (eH (dw (dn a1.dc) b.dc) true (eH (dw (dn a1.eo) b.eo) true (dw (dn a1.agk) b.agk))) true) (eH (dw (dn a1.dc) b.dc) true (eH (dw (dn a1.eo) b.eo) true (dw (dn a1.agk) b.agk))))) true)/\bx f 3 (Pf.av a1).cells/\bx f 5 (fj.av b).cells) (λ_ g=>?_) ?_
 ·rcases Pb v e with e|e;rotate_left
  ·exact aj
  rcases Pb (pP a1.agm 0) e with e|e
  ·exact aj
  rcases Pb (dw a1.agm 0) e with e|e;rotate_left
  ·rcases Pb (dw (dn a1.dc) b.dc) e with e|e
   ·exact aj
   rcases Pb (dw (dn a1.eo) b.eo) e with e|e
   ·exact aj
   exact aj
  rcases Pb b.agm e with e|e;rotate_left
  ·exact aj
  rcases Pb (dw (dn a1.dc) b.dc) e with e|e
  ·exact aj
  rcases Pb (dw (dn a1.eo) b.eo) e with e|e
  ·exact aj
  exact aj
 rintro _ _ E;have e:=Aj e E;apply Iq e m<;>intro e m
 ·apply wg 999;exact au
 apply wg 4;simp[e];refine Wj m 999 999 (λw f h=>∃t,(h=fH H a [sI t.agl,sB t.hR]/\f.1 0=AV.eS a 0/\f.1 3=AV.jo 3 (f.gen 3) 0/\f.box 3=some (Pf.av a1).cells)/\w t=some (s,c)) (λw _ g m=>?_) ?_
 ·apply Iq e m<;>intro e m
  ·simp[e];refine ke m rI λ_ _ m=>?_;refine Il e m λe m=>?_;exact iO
  simp[e];refine eI m BH λ_ m=>?_;refine Im e m λe m=>?_;exact iO
 rintro _ _ ⟨t,E,m⟩;have e:=Aj e E;simp[e];refine FC e m 999 (λl d f h=>h=fH H a [sI d.agl,sB d.hR]/\f.1 0=AV.eS a 0/\f.1 84=sL Tm.av a1.dc/\f.1 85=sI (dn a1.dc)/\f.1 86=sI l/\bx f 3 (Pf.av a1).cells) aaN (λl _ d _ _ _ _ _ E e m z p=>?_) (λd _ _ _ E m=>?_)
 ·have e:=Aj e E;simp[e];refine ke m (xI T r) λ_ _ m=>?_;simp[e];refine ke m (Am T aaN) λ_ d26 m=>?_;refine Im e m λe m=>?_;exact al
 have e:=Aj e E;dsimp only[cS]at m;simp[e];refine FC e m 999 (λo i f h=>h=fH H a [sI i.agl,sB i.hR]/\f.1 0=AV.eS a 0/\f.1 99=sL Fm.av a1.eo/\f.1 100=sI (dn a1.eo)/\f.1 101=sI o/\bx f 3 (Pf.av a1).cells) aaN (λo _ i _ _ _ _ _ E e m z p=>?_) (λi _ _ _ E m=>?_)
 ·have e:=Aj e E;simp[e];refine ke m (uP T r) λ_ _ m=>?_;simp[e];refine ke m (Am T aaN) λ_ d39 m=>?_;refine Im e m λe m=>?_;exact al
 have e:=Aj e E;dsimp only[cS]at m;simp[e];refine Wr e m 999 (λq j f h=>h=fH H a [sI j.agl,sB j.hR]/\f.1 0=AV.eS a 0/\f.1 114=sL Pf.av a1.agk/\f.1 115=sI (dn a1.agk)/\f.1 116=sI q) aaN (λj _ _ _ E m=>?_) (λq _ j _ _ _ _ _ E e m z p=>?_)
 ·have e:=Aj e E;dsimp only[cS]at m;exact au
 have e:=Aj e E;simp[e];refine ke m (x aaN) λ_ d50 m=>?_;refine Im e m λe m=>?_;exact al
def Gv(T:ec)(e:rG T){H:dd}{a0:cY}{a1:Pf}{d:Bool}{a:cY}{b:Nat}(c:H[b]?=some [sI a0.agl,sB a0.hR]){n:Nat}(hm:hP n a0 a1=some (d,a)):dY prog T 141 [AV.eS b 0,Pf.av a1] H (sB d) (fH H b [sI a.agl,sB a.hR]):=(F_ T e n) c hm
def Iw(T:ec)(c:rG T){H:dd}{a0:Pf}{a b:Int}(hm:sH a0=some (a,b)):dY prog T 79 [Pf.av a0] H (AV.tuple [sI a,sI b]) H:=by
 rw[sH] at hm;refine fl.xm (Post:=λx K=>x=AV.tuple [sI a,sI b]/\∃X,K=H++X) ?_ (λ_ _ h=>⟨_,h.2.choose_spec,by rw[h.1];simp[AV.low,AV.kx],h.1,rfl⟩);have e:=c;refine wi ago func79 [6] [] 8 ?_;simp[e];refine ke hm (Gv T c aaN) λ_ d2 m=>?_;simp[e];apply Ir e m<;>intro e m
 ·apply wg 999;exact au
 apply wg 1;simp[e];refine OV 999 999 (λf h=>h=H++[[sI d2.agl,sB d2.hR]]/\f.1 4=AV.eS (List.length H) 0/\f.1 12=sB (eH d2.hR true (nW d2.agl 16384))) ?_ (λ_ g=>?_)
 ·rintro _ _ E;have e:=Aj e E;refine Il e m λe m=>?_;exact au
 rcases Pb d2.hR e with e|e
 ·exact aj
 exact aj
def Gh(T:ec)(a:rG T){H:dd}{a0:Pf}{b:Int}(hm:r6 a0=some b):dY prog T 43 [Pf.av a0] H (sI b) H:=by
 rw[r6] at hm;have e:=a;refine wi ago func43 [] [] 999 ?_;simp[e];refine ke hm (Iw T a) λ_ _ m=>?_;exact au
def Mn(T:ec){H:dd}{u:Unit}(hm:zy=some u):dY prog T 67 [] H (AV.qZ (List.length H)) (H++[[P3]]):=by
 refine wi ago func67 [] [] 999 ?_;simp;refine yo.Cr nY zC aa6 aa6 ?_;simp;refine yo.Cr nY zC aa6 aa6 ?_;simp;refine yo.Cr nY zC aa6 aa6 ?_;simp;refine yo.Cr nY zC aa6 aa6 ?_;simp;refine yo.Cr nY zC aa6 aa6 ?_;simp;refine yo.Cr nY zC aa6 aa6 ?_;simp;refine yo.Cr nY zC aa6 aa6 ?_;simp;refine yo.Cr nY zC aa6 aa6 ?_;simp;refine yo.Cr nY zC aa6 aa6 ?_;simp;refine yo.Cr nY zC aa6 aa6 ?_;simp;refine yo.Cr nY zC aa6 aa6 ?_;simp;refine yo.Cr nY zC aa6 aa6 ?_;simp;refine yo.Cr nY zC aa6 aa6 ?_;simp;refine yo.Cr nY zC aa6 aa6 ?_;simp;refine yo.Cr nY zC aa6 aa6 ?_;simp;refine yo.Cr nY zC aa6 aa6 ?_;simp;refine yo.Cr nY zC aa6 aa6 ?_;simp;refine yo.Cr nY zC aa6 aa6 ?_;simp;refine yo.Cr nY zC aa6 aa6 ?_;simp;refine yo.Cr nY zC aa6 aa6 ?_;simp;simp[P3,Te,TE]
def rh:C2 prog 129 ep cQ.av cQ.av Fm.av:=by
 refine v2 func129 λT H a0 a1 r m e=>?_;rw[ep] at m;have⟨e,m⟩:=Ck e m;simp[e];refine Ad (f:=c_.av) a0.known [(c_.mk a1 a0.eB.vars)] (jj.full (D:=[])) adY e.2 ?_;exact au
def MR:C1 prog 69 se cQ.av Sq.av:=by
 refine v1 func69 λT H a0 r m e=>?_;rw[se] at m;simp[e];refine eI m BK λ_ m=>?_;simp[e];refine Wr e m 999 (λi b f h=>∃a,h=H/\f.1 16=sL Fm.av a0.agq/\f.1 17=sI (dn a0.agq)/\f.1 18=sI i/\bx f 2 [sI 0,sI 0,nL,nL]/\bx f 3 [sI b.1,sI b.2.1,sL cP.av b.2.2.1,sT a c_.av b.2.2.2]) ⟨.full,aaN⟩ (λb _ _ _ E m=>?_) (λi _ b _ _ _ _ _ E e m z p=>?_)
 ·have⟨v11,v12,c,d⟩:=b;have⟨a,E⟩:=E;have e:=Aj e E;dsimp only[cS,VS]at m;exact au
 have⟨v11,v12,c,d⟩:=b;have⟨a,E⟩:=E;have e:=Aj e E;dsimp only[VS]at m;simp[e];refine eI m rh λ_ m=>?_;simp[e];cases m;exact p _ _ _ ⟨.jU,aaN⟩ z
def mH:C1 prog 203 gU Tm.av sI:=by
 refine v1 func203 λT H a0 r m e=>?_;rw[gU] at m;exact au
def OE(T:ec){H:dd}{a0 a1 a b:Int}{k:Tm}{q0 q1:Nat}(c:H[q0]?=some [sI a])(d:H[q1]?=some [sI b])(hm:ue a0 a1 a b=some k):dY prog T 211 [sI a0,sI a1,AV.eS q0 0,AV.eS q1 0] H (Tm.av k) H:=by
 rw[ue] at hm;have i:=fI c;have j:=fI d;have e:=Aj (Aj (Aj i c) j) d;refine wi ago func211 [] [] 2 ?_;simp[e];refine OV 999 999 (λf h=>h=H/\f.1 0=sI (eH (rZ (ea .i64 a0 a1) a) (dR .i64 a0 b) a0)/\f.1 6=AV.jo 6 (f.gen 6) 0/\f.box 6=some [sI 0,sI 0,sI 0,nL,nL]) ?_ (λ_ g=>?_)
 ·rintro _ _ E;have e:=Aj e E;simp[e];refine eI hm mH λ_ m=>?_;exact au
 rcases Pb (rZ (ea .i64 a0 a1) a) e with e|e
 ·exact aj
 exact aj
def xh{n:Nat}:C1 prog 206 (lz n) Ty.av Ty.av:=by
 refine i1 λn j=>v1 func206 λT H a0 r m e=>?_;rw[lz] at m;simp[e];refine Wr e m 999 (λi s2 f h=>∃a,(h=H/\f.1 10=sL Ty.av a0.agk/\f.1 11=sI (dn a0.agk)/\f.1 12=sI i/\bx f 2 [sI 0,nL]/\bx f 3 [sI a0.agj,sT a Ty.av s2])/\Ow f [21] a s2) (by exact⟨.full,aaN,jj.full⟩) (λs2 c _ _ E m=>?_) (λi _ s2 c _ _ _ _ E e m z p=>?_)
 ·have⟨a,E,b⟩:=E;have e:=Aj e E;dsimp only[cS]at m;exact au
 have⟨a,E,b⟩:=E;have e:=Aj e E;simp[e];refine eO m j λd m=>?_;have⟨e,m⟩:=Ck e m;simp[e];refine Ad (f:=Ty.av) s2 [d] b GR e.2 ?_;simp[e];cases m;exact p _ _ _ ⟨(.loc 21 (c.fu 21+1)),aaN,(On 21)⟩ z
def IG(T:ec):∀(n:Nat),(∀{S:Type} {st:S->dd} {k:Nat} {a0:Tm} {a1:Int} {l:(S->Int->Int->Option (Tm×S))} {c:S} {x:Tm} {o:S} {q0:Nat} {q1:Nat} {q:Nat} {r:List AV} (hF:Ee st k) (d:∀s,(st s)[q0]?=some [AV.func (.func q) [] r]) (b:yf T q r st l) (i:∀s,(st s)[q1]?=some [AV.func (.func 256) [] [AV.eS q0 0,AV.eS q1 0]]) (hm:fA n a0 a1 l c=some (x,o)),dY prog T 256 [Tm.av a0,sI a1,AV.eS q0 0,AV.eS q1 0] (st c) (Tm.av x) (st o)):=by
  intro n
  induction n with
  |zero=>
    skip
    all_goals(intro _ _;intros;rename_i hm;cases hm)
  |succ n F=>
 intro S st k a0 a1 l c x o q0 q1 q r hF d b i hm;rw[fA] at hm;have y:=λs=>fI (d s);have A:=λs=>fI (i s);have e:=Aj (Aj (Aj (Aj hF.len y) d) A) i;refine wi ago func256 [] [(9,false,[true,true,false,true,true,true,true,true,true,true])] 5 ?_;simp[e];apply Iq e hm<;>intro e m
 ·apply wg 999;have⟨H,I,e,m⟩:=Bo2 e m;simp[e];refine nM.VE aa7 (yf.Yk b e.2) ?_;exact au
 apply wg 4;simp[e];refine eO m xh λw m=>?_;simp[e];refine wj 999 999 (λf h=>h=st c/\f.1 1=sI (eH (dm a0.agj 2) (dR .i64 a1 1) a1)/\f.1 3=AV.eS q1 0/\bx f 4 (Tm.av a0).cells/\bx f 6 [sI 0,sI 0,sI 0,nL,nL]/\bx f 7 [sI a0.agj,sI a0.agm,sI w.agj,sL Ty.av w.agk,nL]) (λ_ g=>?_) ?_
 ·rcases Pb (dm a0.agj 2) e with e|e
  ·exact aj
  exact aj
 rintro _ _ E;have e:=Aj e E;simp[e];refine Wr e m 999 (λD t f h=>∃a,(h=st t.2/\f.1 1=sI (eH (dm a0.agj 2) (dR .i64 a1 1) a1)/\f.1 3=AV.eS q1 0/\f.1 32=sL Tm.av a0.agk/\f.1 33=sI (dn a0.agk)/\f.1 34=sI D/\bx f 6 [sI 0,sI 0,sI 0,nL,nL]/\bx f 7 [sI a0.agj,sI a0.agm,sI w.agj,sL Ty.av w.agk,sT a Tm.av t.1])/\Ow f [45] a t.1) (by exact⟨.full,aaN,jj.full⟩) (λt u _ _ E m=>?_) (λD _ t u _ _ _ _ E e m z p=>?_)
 ·have⟨v,B⟩:=t;have⟨a,E,j⟩:=E;have e:=Aj e E;dsimp only[cS,gD]at m;exact au
 have⟨v,B⟩:=t;have⟨a,E,j⟩:=E;have e:=Aj e E;dsimp only[gD]at m;have⟨C,G,e,m⟩:=Bo2 e m;simp[e];refine oa.VE aa7 (F hF d b i e.2) aaB ?_;have⟨e,m⟩:=Ck e m;simp[e];refine Ad (f:=Tm.av) v [C] j F1 e.2 ?_;simp[e];cases m;exact p _ _ _ ⟨(.loc 45 (u.fu 45+1)),aaN,(On 45)⟩ z
def Ju(T:ec){S:Type}{st:S->dd}{k:Nat}{a0:Tm}{a1:Int}{a:(S->Int->Int->Option (Tm×S))}{b:S}{i:Tm}{c:S}{q0 q1 d:Nat}{e:List AV}(hF:Ee st k)(g:∀s,(st s)[q0]?=some [AV.func (.func d) [] e])(f:yf T d e st a)(h:∀s,(st s)[q1]?=some [AV.func (.func 256) [] [AV.eS q0 0,AV.eS q1 0]]){n:Nat}(hm:fA n a0 a1 a b=some (i,c)):dY prog T 256 [Tm.av a0,sI a1,AV.eS q0 0,AV.eS q1 0] (st b) (Tm.av i) (st c):=(IG T n) hF g f h hm
def ER(T:ec){S:Type}{st:S->dd}{k:Nat}{a0:Tm}{a1:(S->Int->Int->Option (Tm×S))}{c:S}{d:Tm}{b:S}{g1:Nat}{a:List AV}(hF:Ee st k)(f:yf T g1 a st a1)(hm:n5 a0 a1 c=some (d,b)):dY prog T 210 [Tm.av a0,AV.func (.func g1) [] a] (st c) (Tm.av d) (st b):=by
 rw[n5] at hm;refine fl.WZ hF (Post:=λx K=>x=Tm.av d/\∃X,K=(st b)++X) ?_ (λ_ _ h=>⟨_,h.2.choose,h.2.choose_spec,by rw[h.1];simp[AV.low,AV.kx],h.1,rfl⟩);have e:=hF.len;refine wi ago func210 [3,5] [] 999 ?_;have⟨i,s2,e,m⟩:=Bo2 e hm;simp[e];refine nM.VE aa7 (Ju T (st:=λs=>st s++[[AV.func (.func g1) [] a],[AV.func (.func 256) [] [AV.eS k 0,AV.eS (k+1) 0]]]) (Ee.ext hF _ (n:=k+2) aaB) (λ_=>aaN) (yf.ext f) (λ_=>aaN) e.2) ?_;exact au
def KF(T:ec){H:dd}{a0:Tm}{a1 a2:Int}{a:Tm}(hm:qg a0 a1 a2=some a):dY prog T 138 [Tm.av a0,sI a1,sI a2] H (Tm.av a) H:=by
 rw[qg] at hm;refine fl.xm (Post:=λx K=>x=Tm.av a/\∃X,K=H++X) ?_ (λ_ _ h=>⟨_,h.2.choose_spec,by rw[h.1];simp[AV.low,AV.kx],h.1,rfl⟩);have e:=trivial;refine wi ago func138 [4,5] [] 999 ?_;simp[e];refine ke hm (ER T (st:=λ_:Unit=>H++[[sI a1],[sI a2]]) (Ee.const _) (λX _ _ _ _ _ h=>by obtain⟨b,rfl⟩:=vH h;exact OE T (q0:=(List.length H)) (q1:=(List.length H+1)) aaN aaN b)) λ_ _ m=>?_;exact au
def Ey(T:ec){H:dd}{a0:Tm}{a1 a b:Int}{i:Tm}{q0 q1:Nat}(c:H[q0]?=some [sI a])(d:H[q1]?=some [sI b])(hm:l7 a0 a1 a b=some i):dY prog T 137 [Tm.av a0,sI a1,AV.eS q0 0,AV.eS q1 0] H (Tm.av i) H:=by
 rw[l7] at hm;have f:=fI c;have h:=fI d;have e:=Aj (Aj (Aj f c) h) d;refine wi ago func137 [] [] 999 ?_;simp[e];refine eI hm (KF T) λ_ m=>?_;exact au
def Bl:C1 prog 207 nb sB sI:=by
 refine u1 2 func207 λT H a0 r m e=>?_;rw[nb] at m;simp[e];refine OV 999 999 (λf h=>h=H/\f.1 2=sB (eH (rZ a0 4) (A8 a0 7) false)) ?_ (λ_ g=>?_)
 ·rintro _ _ E;have e:=Aj e E;exact au
 rcases Pb (rZ a0 4) e with e|e
 ·exact aj
 exact aj
def Dh(T:ec):∀(n:Nat),(∀{S:Type} {st:S->dd} {k:Nat} {a0:Fm} {a1:Int} {a2:(S->Tm->Int->Option (Tm×S))} {u:S} {D:Fm} {r:S} {g2:Nat} {i:List AV} (hF:Ee st k) (v:HX T g2 i st a2) (hm:dM n a0 a1 a2 u=some (D,r)),dY prog T 130 [Fm.av a0,sI a1,AV.func (.func g2) [] i] (st u) (Fm.av D) (st r)):=by
  intro n
  induction n with
  |zero=>
    skip
    all_goals(intro _ _;intros;rename_i hm;cases hm)
  |succ n I=>
 intro S st k a0 a1 a2 u D r g2 i hF v hm;rw[dM] at hm;have e:=hF.len;refine wi ago func130 [] [] 999 ?_;simp[e];refine eO hm xh λy m=>?_;simp[e];refine FC e m 0 (λH w f h=>∃b,(h=st w.2/\f.1 1=sI a1/\f.1 2=AV.func (.func g2) [] i/\f.1 19=sL Tm.av a0.dc/\f.1 20=sI (dn a0.dc)/\f.1 21=sI H/\bx f 3 (Fm.av a0).cells/\bx f 6 [sI 0,sI 0,nL,nL,nL]/\bx f 7 [sI a0.agj,sI y.agj,sL Ty.av y.agk,sT b Tm.av w.1,nL])/\Ow f [32] b w.1) (by exact⟨.full,aaN,jj.full⟩) (λH _ w A _ _ _ _ E e m z p=>?_) (λw A _ _ E m=>?_)
 ·have⟨v11,v12⟩:=w;have⟨b,E,o⟩:=E;have e:=Aj e E;dsimp only[gD]at m;apply wg 999;have⟨F,J,e,m⟩:=Bo2 e m;simp[e];refine oa.VE aa7 (HX.Yk v e.2) aaB ?_;have⟨e,m⟩:=Ck e m;simp[e];refine Ad (f:=Tm.av) v11 [F] o F1 e.2 ?_;simp[e];cases m;exact p _ _ _ ⟨(.loc 32 (A.fu 32+1)),aaN,(On 32)⟩ z
 have⟨v11,v12⟩:=w;have⟨b,E,o⟩:=E;have e:=Aj e E;apply wg 5;dsimp only[cS,gD]at m;simp[e];refine Wj m 999 999 (λB f h=>∃s c,(h=st v12/\f.1 1=sI s/\f.1 2=AV.func (.func g2) [] i/\bx f 3 (Fm.av a0).cells/\bx f 6 [sI 0,sI 0,nL,nL,nL]/\bx f 7 [sI a0.agj,sI y.agj,sL Ty.av y.agk,sT c Tm.av v11,nL])/\Ow f [32] c v11/\B s=some (D,r)) (λB _ g m=>?_) ?_
 ·simp[e];refine eI m Bl λ_ m=>?_;apply Ir e m<;>intro e m
  ·simp[e];exact g _ _ ⟨a1,b,aaN,o,m⟩
  simp[e];exact g _ _ ⟨(dR .i64 a1 1),b,aaN,o,m⟩
 rintro _ _ ⟨s,c,E,x,m⟩;have e:=Aj e E;simp[e];refine Wr e m 999 (λC j f h=>∃a d,(h=st j.2/\f.1 1=sI s/\f.1 2=AV.func (.func g2) [] i/\f.1 41=sL Fm.av a0.agk/\f.1 42=sI (dn a0.agk)/\f.1 43=sI C/\bx f 6 [sI 0,sI 0,nL,nL,nL]/\bx f 7 [sI a0.agj,sI y.agj,sL Ty.av y.agk,sT a Tm.av v11,sT d Fm.av j.1])/\Ow f [32] a v11/\Ow f [54] d j.1) (by exact⟨c,.full,aaN,x,jj.full⟩) (λj t _ _ E m=>?_) (λC _ j t _ _ _ _ E e m z p=>?_)
 ·have⟨v30,v31⟩:=j;have⟨a,d,E,q,l⟩:=E;have e:=Aj e E;dsimp only[cS,gD]at m;exact au
 have⟨v30,v31⟩:=j;have⟨a,d,E,q,l⟩:=E;have e:=Aj e E;dsimp only[gD]at m;simp[e];refine oA m (I hF v) λG _ m=>?_;have⟨e,m⟩:=Ck e m;simp[e];refine Ad (f:=Fm.av) v30 [G] l Jv e.2 ?_;simp[e];cases m;exact p _ _ _ ⟨a,(.loc 54 (t.fu 54+1)),aaN,(jj.other q l aaa aaa),(On 54)⟩ z
def p5(T:ec){S:Type}{st:S->dd}{k:Nat}{a0:Fm}{a1:Int}{a2:(S->Tm->Int->Option (Tm×S))}{b:S}{e:Fm}{c:S}{g2:Nat}{a:List AV}(hF:Ee st k)(d:HX T g2 a st a2){n:Nat}(hm:dM n a0 a1 a2 b=some (e,c)):dY prog T 130 [Fm.av a0,sI a1,AV.func (.func g2) [] a] (st b) (Fm.av e) (st c):=(Dh T n) hF d hm
def pY(T:ec){H:dd}{a0:Fm}{a1 a2:Int}{a:Fm}(hm:dU a0 a1 a2=some a):dY prog T 74 [Fm.av a0,sI a1,sI a2] H (Fm.av a) H:=by
 rw[dU] at hm;refine fl.xm (Post:=λx K=>x=Fm.av a/\∃X,K=H++X) ?_ (λ_ _ h=>⟨_,h.2.choose_spec,by rw[h.1];simp[AV.low,AV.kx],h.1,rfl⟩);have e:=trivial;refine wi ago func74 [4,5] [] 999 ?_;simp[e];refine ke hm (p5 T (st:=λ_:Unit=>H++[[sI a1],[sI a2]]) (Ee.const _) (λX _ _ _ _ _ h=>by obtain⟨b,rfl⟩:=vH h;exact Ey T (q0:=(List.length H)) (q1:=(List.length H+1)) aaN aaN b)) λ_ _ m=>?_;exact au
def GH:C2 prog 180 j5 (t2 Fm.av sB) cQ.av sI:=by
 refine v2 func180 λT H a0 a1 r m e=>?_;rw[j5] at m;refine Il e m λe m=>?_;have⟨a,e,m⟩:=fh e m;simp[e];refine eI m (pY T) λ_ m=>?_;exact au
def EB(T:ec){H:dd}{a0:List Fm}{a1:Pf}{a2:cQ}{b:cM}{c:Int}{d:Nat}(a:KC H d a0)(hm:pO a0 a1 a2=some (b,c)):dY prog T 113 [AV.eS d 0,Pf.av a1,cQ.av a2] H (AV.tuple [cM.av b,sI c]) H:=by
 rw[pO] at hm;have e:=a;refine wi ago func113 [] [] 999 ?_;simp[e];refine ke hm GH λ_ _ m=>?_;refine Il e m λe m=>?_;exact au
def Dy(T:ec){H:dd}{a0:List Fm}{a1:Pf}{a2:cQ}{b:cM}{c:Int}{d:Nat}(a:KC H d a0)(hm:oy a0 a1 a2=some (b,c)):dY prog T 114 [AV.eS d 0,Pf.av a1,cQ.av a2] H (AV.tuple [cM.av b,sI c]) H:=by
 rw[oy] at hm;have e:=a;refine wi ago func114 [] [(1,true,[]),(3,true,[])] 999 ?_;refine Il e hm λe m=>?_;have⟨f,e,m⟩:=fh e m;exact au
def KZ:C2 prog 181 FM Fm.av sI (sL Fm.av):=by
 refine v2 func181 λT H a0 a1 r m e=>?_;rw[FM] at m;exact au
def qA:C3 prog 183 dk sI ef.av sI sI:=by
 refine u3 3 func183 λT H a0 a1 a2 r m e=>?_;rw[dk] at m;simp[e];refine OV 999 999 (λf h=>h=H/\f.1 18=sB (eH (nW (dR .i64 a0.vars a1) 16) true (nW (dR .i64 a0.agq a2) 16))) ?_ (λ_ g=>?_)
 ·rintro _ _ E;have e:=Aj e E;refine Il e m λe m=>?_;exact au
 rcases Pb (nW (dR .i64 a0.vars a1) 16) e with e|e
 ·exact aj
 exact aj
def BE(T:ec)(a:rG T){H:dd}{a0:Tm}{b:Int}(hm:qy a0=some b):dY prog T 278 [Tm.av a0] H (sI b) H:=by
 rw[qy] at hm;have e:=a;refine wi ago func278 [] [] 999 ?_;simp[e];refine ke hm (xI T a) λ_ _ m=>?_;exact au
def D3{n:Nat}:C2 prog 305 (hY n) sB Tm.av Tm.av:=by
 refine i2 λn c=>u2 3 func305 λT H a0 a1 r m e=>?_;rw[hY] at m;simp[e];refine Wj m 999 999 (λa f h=>∃v2,(h=H/\f.1 35=sB v2/\bx f 2 (Tm.av a0).cells/\bx f 3 (Tm.av a1).cells)/\a v2=some r) (λa _ g m=>?_) ?_
 ·apply Iq e m<;>intro e m
  ·exact iO
  apply Iq e m<;>intro e m
  ·exact iO
  simp[e];refine eI m sE λ_ m=>?_;apply Ir e m<;>intro e m
  ·exact iO
  exact iO
 rintro _ _ ⟨v2,E,m⟩;have e:=Aj e E;refine Il e m λe m=>?_;simp[e];refine Wr e m 999 (λb _ f h=>h=H/\f.1 37=sL Tm.av a0.agk/\f.1 38=sI (dn a0.agk)/\f.1 39=sI b/\bx f 3 (Tm.av a1).cells) aaN (λ_ _ _ _ E m=>?_) (λb _ _ _ _ _ _ _ E e m z p=>?_)
 ·have e:=Aj e E;dsimp only[cS]at m;exact au
 have e:=Aj e E;have⟨d,e,m⟩:=fh e m;simp[e];refine eO m c λ_ m=>?_;refine Im e m λe m=>?_;exact al
def IJ:C2 prog 289 qL sB Tm.av Tm.av:=by
 refine v2 func289 λT H a0 a1 r m e=>?_;rw[qL] at m;simp[e];refine eI m D3 λ_ m=>?_;exact au
def N6(T:ec){H:dd}{a0 a1:Int}{a b:Bool}{q0:Nat}(c:H[q0]?=some [sB a])(hm:kj a0 a1 a=some b):dY prog T 209 [sI a0,sI a1,AV.eS q0 0] H (AV.tuple []) (fH H q0 [sB b]):=by
 rw[kj] at hm;have d:=fI c;refine fl.Ph c ?_;have e:=d;refine wi ago func209 [] [] 999 ?_;refine Il e hm λe m=>?_;exact au
def Nj(T:ec):∀(n:Nat),(∀{S:Type} {st:S->dd} {k:Nat} {a0:Tm} {a1:Int} {i:(S->Int->Int->Option (S))} {j:S} {b:S} {q0:Nat} {q1:Nat} {l:Nat} {o:List AV} (hF:Ee st k) (c:∀s,(st s)[q0]?=some [AV.func (.func l) [] o]) (a:yk T l o st i) (d:∀s,(st s)[q1]?=some [AV.func (.func 255) [] [AV.eS q0 0,AV.eS q1 0]]) (hm:gn n a0 a1 i j=some b),dY prog T 255 [Tm.av a0,sI a1,AV.eS q0 0,AV.eS q1 0] (st j) (AV.tuple []) (st b)):=by
  intro n
  induction n with
  |zero=>
    skip
    all_goals(intro _ _;intros;rename_i hm;cases hm)
  |succ n w=>
 intro S st k a0 a1 i j b q0 q1 l o hF c a d hm;rw[gn] at hm;have t:=λs=>fI (c s);have u:=λs=>fI (d s);have e:=Aj (Aj (Aj (Aj hF.len t) c) u) d;refine wi ago func255 [] [] 2 ?_;simp[e];refine Wj hm 999 0 (λv f h=>∃v2,(h=st v2/\f.1 1=sI a1/\f.1 3=AV.eS q1 0/\f.1 4=AV.jo 4 (f.gen 4) 0/\f.box 4=some (Tm.av a0).cells)/\v v2=some b) (λv _ g m=>?_) ?_
 ·apply Ir e m<;>intro e m
  ·exact iO
  have⟨y,e,m⟩:=fh e m;simp[e];refine nM.VE aa7 (yk.Yk a e.2) ?_;exact iO
 rintro _ _ ⟨v2,E,m⟩;have e:=Aj e E;refine wj 999 999 (λf h=>h=st v2/\f.1 1=sI (eH (dm a0.agj 2) (dR .i64 a1 1) a1)/\f.1 3=AV.eS q1 0/\f.1 4=AV.jo 4 (f.gen 4) 0/\f.box 4=some (Tm.av a0).cells) (λ_ g=>?_) ?_
 ·rcases Pb (dm a0.agj 2) e with e|e
  ·exact aj
  exact aj
 rintro _ _ E;have e:=Aj e E;simp[e];refine Wr e m 999 (λr q f h=>h=st q/\f.1 1=sI (eH (dm a0.agj 2) (dR .i64 a1 1) a1)/\f.1 3=AV.eS q1 0/\f.1 22=sL Tm.av a0.agk/\f.1 23=sI (dn a0.agk)/\f.1 24=sI r) aaN (λq _ _ _ E m=>?_) (λr _ q _ _ _ _ _ E e m z p=>?_)
 ·have e:=Aj e E;dsimp only[cS]at m;exact au
 have e:=Aj e E;have⟨x,e,m⟩:=fh e m;simp[e];refine nM.VE aa7 (w hF c a d e.2) ?_;exact al
def OB(T:ec){S:Type}{st:S->dd}{k:Nat}{a0:Tm}{a1:Int}{a:(S->Int->Int->Option (S))}{b c:S}{q0 q1 d:Nat}{e:List AV}(hF:Ee st k)(g:∀s,(st s)[q0]?=some [AV.func (.func d) [] e])(f:yk T d e st a)(h:∀s,(st s)[q1]?=some [AV.func (.func 255) [] [AV.eS q0 0,AV.eS q1 0]]){n:Nat}(hm:gn n a0 a1 a b=some c):dY prog T 255 [Tm.av a0,sI a1,AV.eS q0 0,AV.eS q1 0] (st b) (AV.tuple []) (st c):=(Nj T n) hF g f h hm
def ED(T:ec){S:Type}{st:S->dd}{k:Nat}{a0:Tm}{a1:(S->Int->Int->Option (S))}{c b:S}{g1:Nat}{a:List AV}(hF:Ee st k)(d:yk T g1 a st a1)(hm:pq a0 a1 c=some b):dY prog T 208 [Tm.av a0,AV.func (.func g1) [] a] (st c) (AV.tuple []) (st b):=by
 rw[pq] at hm;refine fl.WZ hF (Post:=λx K=>x=AV.tuple []/\∃X,K=(st b)++X) ?_ (λ_ _ h=>⟨_,h.2.choose,h.2.choose_spec,by rw[h.1];simp[AV.low,AV.kx],h.1,rfl⟩);have e:=hF.len;refine wi ago func208 [3,4] [] 999 ?_;have⟨s1,e,m⟩:=fh e hm;simp[e];refine nM.VE aa7 (OB T (st:=λs=>st s++[[AV.func (.func g1) [] a],[AV.func (.func 255) [] [AV.eS k 0,AV.eS (k+1) 0]]]) (Ee.ext hF _ (n:=k+2) aaB) (λ_=>aaN) (yk.ext d) (λ_=>aaN) e.2) ?_;exact au
def KQ(T:ec){H:dd}{a0:Tm}{a:Bool}(hm:qf a0=some a):dY prog T 136 [Tm.av a0] H (sB a) H:=by
 rw[qf] at hm;refine fl.xm (Post:=λx K=>x=sB a/\∃X,K=H++X) ?_ (λ_ _ h=>⟨_,h.2.choose_spec,by rw[h.1];simp[AV.low,AV.kx],h.1,rfl⟩);have e:=trivial;refine wi ago func136 [3] [] 999 ?_;simp[e];refine eI hm (ED T (st:=λs:Bool=>H++[[sB s]]) (Ee.U3 H (λs:Bool=>[[sB s]]) 1 (λ_=>rfl) (by simp[AV.low,AV.kx])) (λX s _ _ b h=>by have:=N6 T (H:=H++[[sB s]]++X) (q0:=(List.length H)) aaN h;simpa using this)) λ_ m=>?_;exact au
def uS(T:ec){H:dd}{a0 a1:Int}{a2:Ty}{a3:(List (Option Nat))}{nh:List HC}{D:Option Nat}{q:List HC}(hm:kK a0 a1 a2 a3 nh=some (D,q)):dY prog T 292 [sI a0,sI a1,Ty.av a2,sL (pX (List.length H)) a3] (H++jN (List.length H) nh) (pX (List.length H) D) (H++jN (List.length H) q):=by
 rw[kK] at hm;have e:=trivial;refine wi ago func292 [17] [(5,false,[true,true,true,false,true,true,true,false,true,true,true,false]),(6,false,[true,true,true,true,false,true,true,true,false,true,true,true,false])] 999 ?_;have F:jN (List.length H) nh++[[sI a0,sI a1,sI a2.agj,sL Ty.av a2.agk,sL (pX (List.length H)) a3,sI 1,sI 0,sB false]]=jN (List.length H) (nh++[HC.dH (dG.mk a0 a1 a2 a3 1 0 false)]):=O3 rfl;have e:=Aj e F;have G:(nh++[HC.dH (dG.mk a0 a1 a2 a3 1 0 false)])[(List.length nh)]?=some (HC.dH (dG.mk a0 a1 a2 a3 1 0 false)):=Ug;have e:=Aj e G;simp[e];refine FC e hm 0 (λI i f h=>h=H++jN (List.length H) i/\f.1 0=sI a0/\f.1 1=sI a1/\f.1 9=AV.eS (List.length H+(List.length nh)) 0/\f.1 18=sL (pX (List.length H)) a3/\f.1 19=sI (dn a3)/\f.1 20=sI I) aaN (λI _ i _ _ _ _ _ E e m z p=>?_) (λi _ _ _ E m=>?_)
 ·have e:=Aj e E;have J:=e;apply wg 999;have⟨a,e,m⟩:=fh e m;have k:=HC.dh e.2;have e:=Aj e.1 k;have⟨K,e,m⟩:=fh e m;have⟨d,e,m⟩:=fh e m;have s:=HC.dh e.2;have e:=Aj e.1 s;have t:fH (jN (List.length H) i) (List.length nh) [sI a.agj,sI a.agm,sI a.rf.agj,sL Ty.av a.rf.agk,sL (pX (List.length H)) a.agk,sI (dR .i64 a.size d.size),sI a.free,sB a.normal]=jN (List.length H) (ki i (List.length nh) (HC.dH (dG.mk a.agj a.agm a.rf a.agk (dR .i64 a.size d.size) a.free a.normal))):=tJ rfl;have e:=Aj e t;have l:(ki i (List.length nh) (HC.dH (dG.mk a.agj a.agm a.rf a.agk (dR .i64 a.size d.size) a.free a.normal)))[(List.length nh)]?=some (HC.dH (dG.mk a.agj a.agm a.rf a.agk (dR .i64 a.size d.size) a.free a.normal)):=Bh k;have e:=Aj e l;have⟨j,e,m⟩:=fh e m;have u:=HC.dh e.2;have e:=Aj e.1 u;have v:fH (jN (List.length H) (ki i (List.length nh) (HC.dH (dG.mk a.agj a.agm a.rf a.agk (dR .i64 a.size d.size) a.free a.normal)))) (List.length nh) [sI a.agj,sI a.agm,sI a.rf.agj,sL Ty.av a.rf.agk,sL (pX (List.length H)) a.agk,sI (dR .i64 a.size d.size),sI (imax a.free j.free),sB a.normal]=jN (List.length H) (ki (ki i (List.length nh) (HC.dH (dG.mk a.agj a.agm a.rf a.agk (dR .i64 a.size d.size) a.free a.normal))) (List.length nh) (HC.dH (dG.mk a.agj a.agm a.rf a.agk (dR .i64 a.size d.size) (imax a.free j.free) a.normal))):=tJ rfl;have e:=Aj e v;have w:(ki (ki i (List.length nh) (HC.dH (dG.mk a.agj a.agm a.rf a.agk (dR .i64 a.size d.size) a.free a.normal))) (List.length nh) (HC.dH (dG.mk a.agj a.agm a.rf a.agk (dR .i64 a.size d.size) (imax a.free j.free) a.normal)))[(List.length nh)]?=some (HC.dH (dG.mk a.agj a.agm a.rf a.agk (dR .i64 a.size d.size) (imax a.free j.free) a.normal)):=Bh l;have e:=Aj e w;exact al
 have e:=Aj e E;apply wg 5;dsimp only[cS]at m;simp[e];refine yU m 999 999 (λx f h=>∃r,(h=H++jN (List.length H) r/\f.1 9=AV.eS (List.length H+(List.length nh)) 0)/\x r=some (D,q)) ?_ (λx _ g m=>?_)
 ·rintro _ _ ⟨r,E,m⟩;have e:=Aj e E;exact au
 apply Iq e m<;>intro e m
 ·have⟨c,e,m⟩:=fh e m;have n:=HC.dh e.2;have e:=Aj e.1 n;have y:fH (jN (List.length H) i) (List.length nh) [sI c.agj,sI c.agm,sI c.rf.agj,sL Ty.av c.rf.agk,sL (pX (List.length H)) c.agk,sI c.size,sI (dR .i64 a1 1),sB c.normal]=jN (List.length H) (ki i (List.length nh) (HC.dH (dG.mk c.agj c.agm c.rf c.agk c.size (dR .i64 a1 1) c.normal))):=tJ rfl;have e:=Aj e y;have A:(ki i (List.length nh) (HC.dH (dG.mk c.agj c.agm c.rf c.agk c.size (dR .i64 a1 1) c.normal)))[(List.length nh)]?=some (HC.dH (dG.mk c.agj c.agm c.rf c.agk c.size (dR .i64 a1 1) c.normal)):=Bh n;have e:=Aj e A;exact iO
 apply Ir e m<;>intro e m
 ·exact iO
 have⟨b,e,m⟩:=fh e m;have o:=HC.dh e.2;have e:=Aj e.1 o;have B:fH (jN (List.length H) i) (List.length nh) [sI b.agj,sI b.agm,sI b.rf.agj,sL Ty.av b.rf.agk,sL (pX (List.length H)) b.agk,sI b.size,sI (imax 0 (ea .i64 b.free 1)),sB b.normal]=jN (List.length H) (ki i (List.length nh) (HC.dH (dG.mk b.agj b.agm b.rf b.agk b.size (imax 0 (ea .i64 b.free 1)) b.normal))):=tJ rfl;have e:=Aj e B;have C:(ki i (List.length nh) (HC.dH (dG.mk b.agj b.agm b.rf b.agk b.size (imax 0 (ea .i64 b.free 1)) b.normal)))[(List.length nh)]?=some (HC.dH (dG.mk b.agj b.agm b.rf b.agk b.size (imax 0 (ea .i64 b.free 1)) b.normal)):=Bh o;have e:=Aj e C;exact iO
def OC(T:ec):∀(n:Nat),(∀{H:dd} {a0:Tm} {nh:List HC} {i:Option Nat} {c:List HC} (hm:pG n a0 nh=some (i,c)),dY prog T 279 [Tm.av a0] (H++jN (List.length H) nh) (pX (List.length H) i) (H++jN (List.length H) c)):=by
  intro n
  induction n with
  |zero=>
   skip
   all_goals(intro _ _;intros;rename_i hm;cases hm)
  |succ n r=>
 intro H a0 nh i c hm;rw[pG] at hm;have e:=trivial;refine wi ago func279 [] [] 999 ?_;simp[e];refine Wr e hm 999 (λk s2 f h=>∃a,(h=H++jN (List.length H) s2.2/\f.1 3=sT a (pX (List.length H)) s2.1/\f.1 7=sL Tm.av a0.agk/\f.1 8=sI (dn a0.agk)/\f.1 9=sI k/\bx f 1 (Tm.av a0).cells)/\Ow f [17] a s2.1) (by exact⟨.full,aaN,jj.full⟩) (λs2 d _ _ E m=>?_) (λk _ s2 d _ _ _ _ E e m z p=>?_)
 ·have⟨v10,v11⟩:=s2;have⟨a,E,b⟩:=E;have e:=Aj e E;dsimp only[cS,gD]at m;simp[e];refine ke m (uS T (H:=H)) λ_ l m=>?_;exact au
 have⟨v10,v11⟩:=s2;have⟨a,E,b⟩:=E;have e:=Aj e E;have o:=e;dsimp only[gD]at m;simp[e];refine ke m (r (H:=H)) λj q m=>?_;have⟨e,m⟩:=Ck e m;simp[e];refine Ao (f:=(pX (List.length H))) v10 [j] b Uu e.2 ?_;simp[e];cases m;exact p _ _ _ ⟨(.loc 17 (d.fu 17+1)),aaN,(On 17)⟩ z
def Qf(T:ec){H:dd}{a0:Tm}{nh:List HC}{b:Option Nat}{a:List HC}{n:Nat}(hm:pG n a0 nh=some (b,a)):dY prog T 279 [Tm.av a0] (H++jN (List.length H) nh) (pX (List.length H) b) (H++jN (List.length H) a):=(OC T n) hm
def Ii(T:ec){H:dd}{a0:Option Nat}{nh:List HC}{b:Int}(hm:sM a0 nh=some b):dY prog T 294 [pX (List.length H) a0] (H++jN (List.length H) nh) (sI b) (H++jN (List.length H) nh):=by
 rw[sM] at hm;have e:=trivial;refine wi ago func294 [] [] 999 ?_;have⟨c,e,m⟩:=fh e hm;have⟨d,e,m⟩:=fh e m;have a:=HC.dh e.2;have e:=Aj e.1 a;exact au
def AG(T:ec){H:dd}{a0:Option Nat}{nh:List HC}{j:Bool}(hm:mq a0 nh=some j):dY prog T 295 [pX (List.length H) a0] (H++jN (List.length H) nh) (sB j) (H++jN (List.length H) nh):=by
 rw[mq] at hm;have e:=trivial;refine wi ago func295 [] [] 8 ?_;have⟨A,e,m⟩:=fh e hm;have⟨k,e,m⟩:=fh e m;have l:=HC.dh e.2;have e:=Aj e.1 l;simp[e];apply Iq e m<;>intro e m
 ·apply wg 999;have⟨B,e,m⟩:=fh e m;have⟨C,e,m⟩:=fh e m;have⟨D,e,m⟩:=fh e m;have n:=HC.dh e.2;have e:=Aj e.1 n;exact au
 apply wg 3;simp[e];apply Iq e m<;>intro e m
 ·apply wg 1;simp[e];refine yU m 999 999 (λo f h=>∃v9,(h=H++jN (List.length H) nh/\f.1 2=sB v9)/\o v9=some j) ?_ (λo _ g m=>?_)
  ·rintro _ _ ⟨v9,E,m⟩;have e:=Aj e E;exact au
  have⟨q,e,m⟩:=fh e m;have⟨r,e,m⟩:=fh e m;have⟨s,e,m⟩:=fh e m;have b:=HC.dh e.2;have e:=Aj e.1 b;apply Iq e m<;>intro e m
  ·exact iO
  exact iO
 apply wg 4;apply Iq e m<;>intro e m
 ·simp[e];refine yU m 999 999 (λc f h=>∃a,(h=H++jN (List.length H) nh/\f.1 2=sB a)/\c a=some j) ?_ (λc _ g m=>?_)
  ·rintro _ _ ⟨a,E,m⟩;have e:=Aj e E;exact au
  have⟨t,e,m⟩:=fh e m;have⟨u,e,m⟩:=fh e m;have⟨v,e,m⟩:=fh e m;have d:=HC.dh e.2;have e:=Aj e.1 d;apply Iq e m<;>intro e m
  ·exact iO
  exact iO
 simp[e];refine wj 999 999 (λf h=>h=H++jN (List.length H) nh/\f.1 0=pX (List.length H) a0/\f.1 67=sB (eH (dm k.agj 11) true (dm k.agj 12))) (λ_ g=>?_) ?_
 ·rcases Pb (dm k.agj 11) e with e|e
  ·exact aj
  exact aj
 rintro _ _ E;have e:=Aj e E;refine Im e m λe m=>?_;have⟨w,e,m⟩:=fh e m;have⟨x,e,m⟩:=fh e m;have⟨y,e,m⟩:=fh e m;have i:=HC.dh e.2;have e:=Aj e.1 i;exact au
def vB(T:ec){H:dd}{a0:Option Nat}{nh:List HC}{b:Int}(hm:hJ a0 nh=some b):dY prog T 316 [pX (List.length H) a0] (H++jN (List.length H) nh) (sI b) (H++jN (List.length H) nh):=by
 rw[hJ] at hm;have e:=trivial;refine wi ago func316 [] [] 999 ?_;have⟨c,e,m⟩:=fh e hm;have⟨d,e,m⟩:=fh e m;have a:=HC.dh e.2;have e:=Aj e.1 a;refine Il e m λe m=>?_;exact au
def F6(T:ec):∀(n:Nat),(∀{H:dd} {a0:Option Nat} {a1:Int} {nh:List HC} {a:Int} (hm:jY n a0 a1 nh=some a),dY prog T 310 [pX (List.length H) a0,sI a1] (H++jN (List.length H) nh) (sI a) (H++jN (List.length H) nh)):=by
  intro n
  induction n with
  |zero=>
   skip
   all_goals(intro _ _;intros;rename_i hm;cases hm)
  |succ n k=>
 intro H a0 a1 nh a hm;rw[jY] at hm;have e:=trivial;refine wi ago func310 [] [] 999 ?_;have⟨l,e,m⟩:=fh e hm;have⟨d,e,m⟩:=fh e m;have b:=HC.dh e.2;have e:=Aj e.1 b;refine Il e m λe m=>?_;apply Iq e m<;>intro e m
 ·refine Il e m λe m=>?_;exact au
 simp[e];refine Wr e m 999 (λi c f h=>h=H++jN (List.length H) nh/\f.1 0=pX (List.length H) a0/\f.1 1=sI a1/\f.1 5=sI c/\f.1 28=sL (pX (List.length H)) d.agk/\f.1 29=sI (dn d.agk)/\f.1 30=sI i) aaN (λc _ _ _ E m=>?_) (λi _ c _ _ _ _ _ E e m z p=>?_)
 ·have e:=Aj e E;dsimp only[cS]at m;exact au
 have e:=Aj e E;have j:=e;simp[e];refine eI m (vB T (H:=H)) λ_ m=>?_;simp[e];refine eI m (k (H:=H)) λ_ m=>?_;exact al
def GI(T:ec){H:dd}{a0:Option Nat}{a1:Int}{nh:List HC}{a:Int}{n:Nat}(hm:jY n a0 a1 nh=some a):dY prog T 310 [pX (List.length H) a0,sI a1] (H++jN (List.length H) nh) (sI a) (H++jN (List.length H) nh):=(F6 T n) hm
def s6(T:ec){H:dd}{a0:Option Nat}{a1:(List (Option Nat))}{nh:List HC}{c:Option Nat}{a:List HC}(hm:ft a0 a1 nh=some (c,a)):dY prog T 308 [pX (List.length H) a0,sL (pX (List.length H)) a1] (H++jN (List.length H) nh) (pX (List.length H) c) (H++jN (List.length H) a):=by
 rw[ft] at hm;have e:=trivial;refine wi ago func308 [] [(1,false,[true,true,true,false,true,true,true,false,true,true,true,false,true,true,true])] 999 ?_;have⟨f,e,m⟩:=fh e hm;have⟨h,e,m⟩:=fh e m;have b:=HC.dh e.2;have e:=Aj e.1 b;simp[e];refine oA m (uS T (H:=H)) λ_ d m=>?_;exact au
def Hv(T:ec):∀(n:Nat),(∀{H:dd} {a0:Option Nat} {a1:Int} {a2:Int} {nh:List HC} {q:Option Nat} {d:List HC} (hm:js n a0 a1 a2 nh=some (q,d)),dY prog T 317 [pX (List.length H) a0,sI a1,sI a2] (H++jN (List.length H) nh) (pX (List.length H) q) (H++jN (List.length H) d)):=by
  intro n
  induction n with
  |zero=>
    skip
    all_goals(intro _ _;intros;rename_i hm;cases hm)
  |succ n y=>
 intro H a0 a1 a2 nh q d hm;rw[js] at hm;have e:=trivial;refine wi ago func317 [] [(4,false,[true,true,true,false,true,true,true,false,true,true,true,true,true,false,true,true])] 3 ?_;simp[e];refine Wj hm 999 999 (λt f h=>∃v2,(h=H++jN (List.length H) nh/\f.1 0=pX (List.length H) a0/\f.1 1=sI a1/\f.1 2=sI a2/\f.1 19=sB v2)/\t v2=some (q,d)) (λt _ g m=>?_) ?_
 ·have⟨A,e,m⟩:=fh e m;have⟨B,e,m⟩:=fh e m;have r:=HC.dh e.2;have e:=Aj e.1 r;apply Iq e m<;>intro e m
  ·exact iO
  exact iO
 rintro _ _ ⟨v2,E,m⟩;have e:=Aj e E;refine Il e m λe m=>?_;have⟨C,e,m⟩:=fh e m;have⟨j,e,m⟩:=fh e m;have k:=HC.dh e.2;have e:=Aj e.1 k;apply Iq e m<;>intro e m
 ·simp[e];refine oA m (uS T (H:=H)) λ_ u m=>?_;exact au
 simp[e];refine Wr e m 999 (λl b f h=>∃a,(h=H++jN (List.length H) b.2/\f.1 0=pX (List.length H) a0/\f.1 1=sI a1/\f.1 2=sI a2/\f.1 7=sT a (pX (List.length H)) b.1/\f.1 44=sL (pX (List.length H)) j.agk/\f.1 45=sI (dn j.agk)/\f.1 46=sI l)/\Ow f [59] a b.1) (by exact⟨.full,aaN,jj.full⟩) (λb i _ _ E m=>?_) (λl _ b i _ _ _ _ E e m z p=>?_)
 ·have⟨o,v24⟩:=b;have⟨a,E,c⟩:=E;have e:=Aj e E;dsimp only[cS,gD]at m;simp[e];refine ke m (s6 T (H:=H)) λ_ v m=>?_;exact au
 have⟨o,v24⟩:=b;have⟨a,E,c⟩:=E;have e:=Aj e E;have w:=e;dsimp only[gD]at m;simp[e];refine eI m (vB T (H:=H)) λ_ m=>?_;simp[e];refine ke m (y (H:=H)) λs x m=>?_;have⟨e,m⟩:=Ck e m;simp[e];refine Ao (f:=(pX (List.length H))) o [s] c Uu e.2 ?_;simp[e];cases m;exact p _ _ _ ⟨(.loc 59 (i.fu 59+1)),aaN,(On 59)⟩ z
def I6(T:ec){H:dd}{a0:Option Nat}{a1 a2:Int}{nh:List HC}{b:Option Nat}{a:List HC}{n:Nat}(hm:js n a0 a1 a2 nh=some (b,a)):dY prog T 317 [pX (List.length H) a0,sI a1,sI a2] (H++jN (List.length H) nh) (pX (List.length H) b) (H++jN (List.length H) a):=(Hv T n) hm
def HQ(T:ec):∀(n:Nat),(∀{H:dd} {a0:Option Nat} {a1:Int} {a2:Option Nat} {nh:List HC} {k:Option Nat} {d:List HC} (hm:jX n a0 a1 a2 nh=some (k,d)),dY prog T 311 [pX (List.length H) a0,sI a1,pX (List.length H) a2] (H++jN (List.length H) nh) (pX (List.length H) k) (H++jN (List.length H) d)):=by
  intro n
  induction n with
  |zero=>
    skip
    all_goals(intro _ _;intros;rename_i hm;cases hm)
  |succ n w=>
 intro H a0 a1 a2 nh k d hm;rw[jX] at hm;have e:=trivial;refine wi ago func311 [] [(6,false,[true,true,true,false,true,true,true,false,true,true,true,true,false,true,true])] 999 ?_;have⟨A,e,m⟩:=fh e hm;have⟨r,e,m⟩:=fh e m;have l:=HC.dh e.2;have e:=Aj e.1 l;refine Il e m λe m=>?_;apply Iq e m<;>intro e m
 ·apply Ir e m<;>intro e m
  ·simp[e];refine oA m (uS T (H:=H)) λ_ x m=>?_;exact au
  simp[e];refine ke m (I6 T (H:=H)) λ_ y m=>?_;exact au
 simp[e];refine Wr e m 999 (λs i f h=>∃a,(h=H++jN (List.length H) i.2/\f.1 0=pX (List.length H) a0/\f.1 1=sI a1/\f.1 2=pX (List.length H) a2/\f.1 7=sT a (pX (List.length H)) i.1/\f.1 48=sL (pX (List.length H)) r.agk/\f.1 49=sI (dn r.agk)/\f.1 50=sI s)/\Ow f [63] a i.1) (by exact⟨.full,aaN,jj.full⟩) (λi c _ _ E m=>?_) (λs _ i c _ _ _ _ E e m z p=>?_)
 ·have⟨j,o⟩:=i;have⟨a,E,b⟩:=E;have e:=Aj e E;dsimp only[cS,gD]at m;simp[e];refine ke m (s6 T (H:=H)) λ_ t m=>?_;exact au
 have⟨j,o⟩:=i;have⟨a,E,b⟩:=E;have e:=Aj e E;have u:=e;dsimp only[gD]at m;simp[e];refine eI m (vB T (H:=H)) λ_ m=>?_;simp[e];refine ke m (w (H:=H)) λq v m=>?_;have⟨e,m⟩:=Ck e m;simp[e];refine Ao (f:=(pX (List.length H))) j [q] b Uu e.2 ?_;simp[e];cases m;exact p _ _ _ ⟨(.loc 63 (c.fu 63+1)),aaN,(On 63)⟩ z
def Jz(T:ec){H:dd}{a0:Option Nat}{a1:Int}{a2:Option Nat}{nh:List HC}{b:Option Nat}{a:List HC}{n:Nat}(hm:jX n a0 a1 a2 nh=some (b,a)):dY prog T 311 [pX (List.length H) a0,sI a1,pX (List.length H) a2] (H++jN (List.length H) nh) (pX (List.length H) b) (H++jN (List.length H) a):=(HQ T n) hm
def Kz(T:ec){H:dd}{a0:Option Nat}{a1:(List (Option Nat))}{nh:List HC}{b:Option Nat}{a:List HC}(hm:sR a0 a1 nh=some (b,a)):dY prog T 312 [pX (List.length H) a0,sL (pX (List.length H)) a1] (H++jN (List.length H) nh) (pX (List.length H) b) (H++jN (List.length H) a):=by
 rw[sR] at hm;have e:=trivial;refine wi ago func312 [] [] 999 ?_;simp[e];refine Wr e hm 999 (λc s2 f h=>h=H++jN (List.length H) s2.2/\f.1 0=pX (List.length H) s2.1/\f.1 7=sL (pX (List.length H)) a1/\f.1 8=sI (dn a1)/\f.1 9=sI c) aaN (λs2 _ _ _ E m=>?_) (λc _ s2 _ _ _ _ _ E e m z p=>?_)
 ·have⟨v10,v11⟩:=s2;have e:=Aj e E;dsimp only[cS,gD]at m;exact au
 have⟨v10,v11⟩:=s2;have e:=Aj e E;have d:=e;dsimp only[gD]at m;simp[e];refine ke m (uS T (H:=H)) λ_ i m=>?_;exact al
def xn(T:ec){H:dd}{a0:Option Nat}{nh:List HC}{j:Option Nat}{a:List HC}(hm:jk a0 nh=some (j,a)):dY prog T 307 [pX (List.length H) a0] (H++jN (List.length H) nh) (pX (List.length H) j) (H++jN (List.length H) a):=by
 rw[jk] at hm;have e:=trivial;refine wi ago func307 [] [(3,false,[true,true,true,false,true,true,true,true,false,true,true,true,true,true,false,true,true,true,true]),(8,true,[]),(11,false,[true,true,true,true,true,true,false,true,true,true,false,true,true,true,true,true,true,true])] 999 ?_;have⟨G,e,m⟩:=fh e hm;have⟨I,e,m⟩:=fh e m;have h:=HC.dh e.2;have e:=Aj e.1 h;apply Iq e m<;>intro e m
 ·have⟨J,e,m⟩:=fh e m;have⟨K,e,m⟩:=fh e m;have⟨L,e,m⟩:=fh e m;have i:=HC.dh e.2;have e:=Aj e.1 i;have⟨M,e,m⟩:=fh e m;have⟨N,e,m⟩:=fh e m;simp-implicitDefEqProofs[e];refine oA m (Jz T (H:=H)) λ_ k m=>?_;exact au
 apply Iq e m<;>intro e m
 ·have⟨q,e,m⟩:=fh e m;have⟨r,e,m⟩:=fh e m;have⟨s,e,m⟩:=fh e m;have b:=HC.dh e.2;have e:=Aj e.1 b;have⟨t,e,m⟩:=fh e m;exact au
 apply Iq e m<;>intro e m
 ·have⟨u,e,m⟩:=fh e m;have⟨v,e,m⟩:=fh e m;have⟨w,e,m⟩:=fh e m;have c:=HC.dh e.2;have e:=Aj e.1 c;have⟨x,e,m⟩:=fh e m;exact au
 have⟨y,e,m⟩:=fh e m;have⟨A,e,m⟩:=fh e m;have⟨B,e,m⟩:=fh e m;have⟨C,e,m⟩:=fh e m;have⟨D,e,m⟩:=fh e m;have d:=HC.dh e.2;have e:=Aj e.1 d;refine Il e m λe m=>?_;have⟨E,e,m⟩:=fh e m;simp[e];refine oA m (s6 T (H:=H)) λ_ l m=>?_;have⟨F,e,m⟩:=fh e m;have f:=HC.dh e.2;have e:=Aj e.1 f;simp[e];refine ke m (Kz T (H:=H)) λ_ n m=>?_;simp[e];refine ke m (Kz T (H:=H)) λ_ o m=>?_;exact au
def Gu(T:ec){H:dd}{a0:Option Nat}{nh:List HC}{v:Int}{a:List HC}(hm:nJ a0 nh=some (v,a)):dY prog T 306 [pX (List.length H) a0] (H++jN (List.length H) nh) (sI v) (H++jN (List.length H) a):=by
 rw[nJ] at hm;have e:=trivial;refine wi ago func306 [] [(4,true,[]),(7,true,[]),(12,true,[])] 999 ?_;have⟨x1,e,m⟩:=fh e hm;have⟨x2,e,m⟩:=fh e m;have t:=HC.dh e.2;have e:=Aj e.1 t;apply Iq e m<;>intro e m
 ·have⟨x4,e,m⟩:=fh e m;have⟨x5,e,m⟩:=fh e m;have⟨x6,e,m⟩:=fh e m;have u:=HC.dh e.2;have e:=Aj e.1 u;have⟨x8,e,m⟩:=fh e m;have⟨x9,e,m⟩:=fh e m;have⟨x,e,m⟩:=fh e m;have b:=HC.dh e.2;have e:=Aj e.1 b;simp[e];refine eO m (GI T (H:=H)) λ_ m=>?_;have⟨y,e,m⟩:=fh e m;have⟨A,e,m⟩:=fh e m;have⟨B,e,m⟩:=fh e m;have c:=HC.dh e.2;have e:=Aj e.1 c;exact au
 apply Iq e m<;>intro e m
 ·have⟨C,e,m⟩:=fh e m;have⟨D,e,m⟩:=fh e m;have⟨E,e,m⟩:=fh e m;have d:=HC.dh e.2;have e:=Aj e.1 d;apply Ir e m<;>intro e m
  ·have⟨F,e,m⟩:=fh e m;have⟨G,e,m⟩:=fh e m;have⟨I,e,m⟩:=fh e m;have f:=HC.dh e.2;have e:=Aj e.1 f;exact au
  have⟨J,e,m⟩:=fh e m;have⟨K,e,m⟩:=fh e m;have⟨L,e,m⟩:=fh e m;have h:=HC.dh e.2;have e:=Aj e.1 h;have⟨M,e,m⟩:=fh e m;have⟨N,e,m⟩:=fh e m;have⟨O,e,m⟩:=fh e m;have i:=HC.dh e.2;have e:=Aj e.1 i;have⟨P,e,m⟩:=fh e m;have⟨Q,e,m⟩:=fh e m;have⟨R,e,m⟩:=fh e m;have j:=HC.dh e.2;have e:=Aj e.1 j;exact au
 apply Ir e m<;>intro e m
 ·simp[e];refine ke m (xn T (H:=H)) λ_ w m=>?_;have⟨S,e,m⟩:=fh e m;have⟨U,e,m⟩:=fh e m;have k:=HC.dh e.2;have e:=Aj e.1 k;exact au
 have⟨V,e,m⟩:=fh e m;have⟨W,e,m⟩:=fh e m;have⟨X,e,m⟩:=fh e m;have l:=HC.dh e.2;have e:=Aj e.1 l;apply Ir e m<;>intro e m
 ·have⟨Y,e,m⟩:=fh e m;have⟨Z,e,m⟩:=fh e m;have⟨aa,e,m⟩:=fh e m;have n:=HC.dh e.2;have e:=Aj e.1 n;exact au
 have⟨ab,e,m⟩:=fh e m;have⟨ad,e,m⟩:=fh e m;have⟨ae,e,m⟩:=fh e m;have o:=HC.dh e.2;have e:=Aj e.1 o;have⟨af,e,m⟩:=fh e m;have⟨ah,e,m⟩:=fh e m;have⟨ai,e,m⟩:=fh e m;have q:=HC.dh e.2;have e:=Aj e.1 q;have⟨ak,e,m⟩:=fh e m;have⟨an,e,m⟩:=fh e m;have⟨ao,e,m⟩:=fh e m;have r:=HC.dh e.2;have e:=Aj e.1 r;have⟨aq,e,m⟩:=fh e m;have⟨ar,e,m⟩:=fh e m;have⟨aw,e,m⟩:=fh e m;have s:=HC.dh e.2;have e:=Aj e.1 s;exact au
def F5(T:ec){H:dd}{a0:Option Nat}{nh:List HC}{a:Int}(hm:oF a0 nh=some a):dY prog T 306 [pX (List.length H) a0] (H++jN (List.length H) nh) (sI a) (H++jN (List.length H) nh):=by
 have⟨r,c,b,d⟩:=j9 hm;obtain rfl:=gB d;obtain⟨X,rfl⟩:=IK b;exact fl.xm (Gu T b) (λ_ _ h=>⟨jN (List.length H) X,by rw[h.2];simp[Bg],by rw[h.1];rfl,h.1,rfl⟩)
def Vm:mX prog 293=true:=by kernel_rfl
def GL(T:ec):∀(n:Nat),(∀{H:dd} {a0:Option Nat} {a1:Int} {nh:List HC} {r0:Option Nat} {r1:Int} {ao:List HC} (hm:iw n a0 a1 nh=some (r0,r1,ao)),dY prog T 293 [pX (List.length H) a0,sI a1] (H++jN (List.length H) nh) (AV.tuple [pX (List.length H) r0,sI r1]) (H++jN (List.length H) ao)):=by
  intro n
  induction n with
  |zero=>
    skip
    all_goals(intro _ _;intros;rename_i hm;cases hm)
  |succ n ih=>
 intro H a0 a1 nh r0 r1 ao hm;rw[iw] at hm;refine fl.intro (fn:=f293) func293 rfl Vm (G4 rfl) ?_;refine gM.sr [] λK1 bw=>?_;simp;apply bw;refine gM.yV λK3 bz=>?_;refine gM.sr [] λK5 bA=>?_;have⟨x7,j,aq⟩:=dJ hm;clear hm
 try dsimp only at aq
 have⟨C,a,K⟩:=dJ aq;replace a:=HC.dh a;clear aq
 try dsimp only at K
 simp[j,a];apply bA;refine gM.yE λb_ b' aX aY=>?_;rcases kU K with⟨b,aa⟩|⟨b,ab⟩
 ·clear K;simp[j,a,b];apply aX;refine gM.sr [] λca aZ=>?_;simp[j,a,b];apply aZ;refine gM.ret ?_;simp only[wh,M0] at aa;obtain⟨rfl,rfl,rfl⟩:=aa;simp[Ai,j,a,b]
 clear K;simp[j,a,b];apply aY;refine gM.skip ?_;apply bz;refine gM.yV λcb a6=>?_;refine gM.sr [] λcc a7=>?_;have⟨cd,a8,M⟩:=dJ ab;clear ab
 try dsimp only at M
 simp[j,a,b];refine nM.fn (AG T (H:=H) a8) ?_;simp[j,a,b];apply a7;refine gM.yE λcf cg a_ a'=>?_;rcases kU M with⟨c,ad⟩|⟨c,ae⟩
 ·clear M;simp[j,a,b,c];apply a_;refine gM.yV λch ba=>?_;refine gM.yV λcj bb=>?_;refine gM.Yo [] true ago aa6 aa6 ?_;have⟨ck,bc,N⟩:=dJ ad;clear ad
  try dsimp only at N
  simp[j,a,b,c];refine zE.fn (F5 T (H:=H) bc) aaB ?_;simp[j,a,b,c];apply bb;refine gM.yE λcm cn bd bf=>?_;rcases kU N with⟨w,af⟩|⟨w,ah⟩
  ·clear N;simp[j,a,b,c,w];apply bd;refine gM.sr [] λcp bg=>?_;simp[j,a,b,c,w];apply bg;refine gM.ret ?_;simp only[wh,M0] at af;obtain⟨rfl,rfl,rfl⟩:=af;simp[Ai,j,a,b,c,w]
  clear N;simp[j,a,b,c,w];apply bf;refine gM.skip ?_;apply ba;refine gM.sr [] λcq bh=>?_;have⟨cr,bG,bj,P⟩:=j9 ah;clear ah
  try dsimp only at P
  simp[j,a,b,c,w];refine nM.fn (xn T (H:=H) bj) ?_;simp[j,a,b,c,w];apply bh;refine gM.ret ?_;simp only[wh,M0] at P;obtain⟨rfl,rfl,rfl⟩:=P;simp[Ai,j,a,b,c,w]
 clear M;simp[j,a,b,c];apply a';refine gM.skip ?_;apply a6;refine gM.yV λcu bk=>?_;refine gM.sr [] λcw bl=>?_;simp[j,a,b,c];apply bl;have⟨ar,ai⟩:=oR ae;clear ae;have⟨bB,bm,Q⟩:=lK ai;clear ai
 try dsimp only at Q
 have⟨aw,y,s⟩:=dJ Q;clear Q;refine gM.FE λcx bH bn bI ak=>?_;refine gM.RB (λn75 fr h=>∃(i76:Nat) (R:Int) (O:List HC),H++jN (List.length H) O=h/\(fr.env 0=pX (List.length H) a0/\fr.env 1=sI a1/\fr.env 31=sL (pX (List.length H)) C.agk/\fr.env 32=sI (dn C.agk)/\fr.env 33=sI R)/\R=(i76:Int)/\i76+n75=List.length C.agk/\dP bB (List.drop i76 C.agk) i76 O=some aw) (List.length C.agk) ?_ ?_
 ·refine⟨0,0,nh,?_,⟨?_,?_,?_,?_,?_⟩,rfl,aaB,y⟩<;>first|rfl|simp[j,a,b,c]
 rintro n75 bo cy ⟨i76,R,O,rfl,p,D,bJ,y⟩ cz bp;rcases n75 with _|n75
 ·have e:=RG (l:=C.agk) D VW;refine gM.sr [] λcA bq=>?_;simp[p,j,a,e,b,c];apply bq;refine gM.yV λcB bK=>?_;refine gM.yE λcD cE bL br=>?_;simp[p,j,a,e,b,c];apply br;refine gM.exit ?_;apply bn;rw[H9 VW,lT] at y;obtain rfl:=gB y;rw[cS] at s
  try dsimp only at s
  apply bk;refine gM.sr [] λcF bs=>?_;have⟨t,z,S⟩:=dJ s;replace z:=HC.dh z;clear s
  try dsimp only at S
  have U:fH (jN (List.length H) O) x7 [sI t.agj,sI t.agm,sI t.rf.agj,sL Ty.av t.rf.agk,sL (pX (List.length H)) t.agk,sI t.size,sI t.free,sB true]=jN (List.length H) (ki O x7 (HC.dH (dG.mk t.agj t.agm t.rf t.agk t.size t.free true))):=tJ rfl;have V:(ki O x7 (HC.dH (dG.mk t.agj t.agm t.rf t.agk t.size t.free true)))[x7]?=some (HC.dH (dG.mk t.agj t.agm t.rf t.agk t.size t.free true)):=Bh z;simp[p,j,a,e,z,U,V,b,c];apply bs;refine gM.sr [] λbM ax=>?_;simp[p,j,a,e,z,U,V,b,c];apply ax;refine gM.ret ?_;simp only[wh,M0] at S;obtain⟨rfl,rfl,rfl⟩:=S;simp[Ai,p,j,a,e,z,U,V,b,c]
 have e:=Uk (l:=C.agk) D VW;have⟨bN,ay,i⟩:=Rb (l:=C.agk) D VW;rw[ay,dq] at y;have⟨bO,A,v⟩:=dJ y;clear y;rw[bm,<-D] at A
 try dsimp only at A
 refine gM.sr [] λbP az=>?_;simp[p,j,a,e,i,b,c];apply az;refine gM.yV λbQ aA=>?_;refine gM.yE λbR bS aB bC=>?_;simp[p,j,a,e,i,b,c];apply aB;refine gM.skip ?_;apply aA;refine gM.yV λbT aC=>?_;refine gM.FE λbU aD bD bE W=>?_;refine gM.sr [] λbV aE=>?_;simp[p,j,a,e,i,b,c];apply aE;refine gM.sr [] λbW aF=>?_;have⟨an,bX,aG,aH,B⟩:=AX A;clear A
 try dsimp only at B
 simp[p,j,a,e,i,b,c];refine nM.fn (ih (H:=H) aH) ?_;simp[p,j,a,e,i,b,c];apply aF;refine gM.yV λbY aI=>?_;refine gM.sr [] λbZ aJ=>?_;simp[p,j,a,e,i,b,c];apply aJ;refine gM.yE λb0 b1 aK aL=>?_;rcases kU B with⟨m,aM⟩|⟨m,F⟩
 ·clear B;simp[p,j,a,e,i,b,c,m];apply aK;refine gM.sr [] λb2 aN=>?_;simp[p,j,a,e,i,b,c,m];apply aN;refine gM.ret ?_;apply W;apply ak;obtain rfl:=gB aM;rw[EO] at v;obtain rfl:=gB v;rw[mV] at s
  try dsimp only at s
  simp only[wh,M0] at s;obtain⟨rfl,rfl,rfl⟩:=s;simp[Ai,p,j,a,e,i,b,c,m]
 clear B;simp[p,j,a,e,i,b,c,m];apply aL;refine gM.skip ?_;apply aI;refine gM.sr [] λb3 aO=>?_;simp[p,j,a,e,i,b,c,m];apply aO;refine gM.yE λb4 b5 aP aQ=>?_;rcases kU F with⟨o,X⟩|⟨o,aR⟩;rotate_left
 ·clear F;simp[p,j,a,e,i,b,c,m,o];apply aQ;refine gM.skip ?_;apply aD;apply aC;refine gM.region [] aa6 ?_;simp[p,j,a,e,i,b,c,m,o];obtain rfl:=gB aR;rw[dr] at v
  refine bp _ _ n75 (Oc _) ⟨(i76+1),(dR .i64 R 1),aG,?_,⟨?_,?_,?_,?_,?_⟩,(OW D VW ar),VW,v⟩<;>first|rfl|simp[p,j,a,e,i,b,c,m,o]
 clear F;simp[p,j,a,e,i,b,c,m,o];apply aP;refine gM.sr [] λb6 aS=>?_;have⟨E,q,G⟩:=dJ X;replace q:=HC.dh q;clear X
 try dsimp only at G
 have⟨aT,Y⟩:=oR G;clear G;simp[p,j,a,e,i,q,b,c,m,o];refine w_.aah (f:=(pX (List.length H))) E.agk Uu ⟨_,Yf⟩ (by intro x;simp) aT (by first|rfl|simp) (by first|rfl|simp) λI bt=>?_;simp[p,j,a,e,i,q,b,c,m,o];apply aS;refine gM.sr [] λb7 aU=>?_;have⟨bu,r,J⟩:=dJ Y;clear Y
 try dsimp only at J
 have u:=M_ r;simp[p,j,a,e,i,q,r,u,b,c,m,o];refine EC.arr (f:=(pX (List.length H))) (L:=E.agk) (k:=((I-List.length E.agk)*1)) an abu (by intro x;simp) (by simp[p,j,a,e,i,q,r,u,b,c,m,o]) (x:=bu) (by assumption) (by simp[p,j,a,e,i,q,r,u,b,c,m,o]) (by simp[p,j,a,e,i,q,r,u,b,c,m,o]) (by simp[p,j,a,e,i,q,r,u,b,c,m,o]) ?_;simp[p,j,a,e,i,q,r,u,b,c,m,o];apply aU;refine gM.yV λb8 aV=>?_;refine gM.adG 10 (f:=(pX (List.length H))) (L:=(xk E.agk R an)) (k:=((I-List.length E.agk)*1)) (sz:=1) (d:=53) (g:=(bo.gen 53+1)) (cap:=I) (by intro x;simp) (by intro x;simp) (by simp[p,j,a,e,i,q,r,u,b,c,m,o]) (by simp[p,j,a,e,i,q,r,u,b,c,m,o]) (by simp[p,j,a,e,i,q,r,u,b,c,m,o]) ?_;refine gM.region [] aa6 ?_;have⟨b9,bF,aW,Z⟩:=j9 J;clear J
 try dsimp only at Z
 simp[p,j,a,e,i,q,r,u,b,c,m,o];refine nM.fn (s6 T (H:=H) aW) ?_;simp[p,j,a,e,i,q,r,u,b,c,m,o];apply aV;refine gM.ret ?_;apply W;apply ak;obtain rfl:=gB Z;rw[EO] at v;obtain rfl:=gB v;rw[mV] at s
 try dsimp only at s
 simp only[wh,M0] at s;obtain⟨rfl,rfl,rfl⟩:=s;simp[Ai,p,j,a,e,i,q,r,u,b,c,m,o]
def H4(T:ec){H:dd}{a0:Option Nat}{a1:Int}{nh:List HC}{b:Option Nat}{c:Int}{a:List HC}{n:Nat}(hm:iw n a0 a1 nh=some (b,c,a)):dY prog T 293 [pX (List.length H) a0,sI a1] (H++jN (List.length H) nh) (AV.tuple [pX (List.length H) b,sI c]) (H++jN (List.length H) a):=(GL T n) hm
def F4(T:ec){H:dd}{a0:Option Nat}{nh:List HC}{s:Bool}{t:Int}{k:List HC}(hm:iq a0 nh=some (s,t,k)):dY prog T 280 [pX (List.length H) a0] (H++jN (List.length H) nh) (AV.tuple [sB s,sI t]) (H++jN (List.length H) k):=by
 rw[iq] at hm;have e:=trivial;refine wi ago func280 [] [(1,true,[true,true,true,true,true,true,true,true,true,true,false,true,true,true,true,true])] 5 ?_;have⟨d,e,m⟩:=fh e hm;have⟨u,e,m⟩:=fh e m;have q:=HC.fK e.2;have e:=Aj e.1 q;simp[e];refine eO m (Ii T (H:=H)) λ_ m=>?_;have⟨c,r,b,e,m⟩:=Bo3 e m;simp[e];refine zq.fn (H4 T (H:=H) e.2) ?_;simp[e];refine wj 999 999 (λf h=>h=H++jN (List.length H) b/\f.1 0=pX (List.length H) a0/\f.1 4=pX (List.length H) c/\f.1 5=sI r/\f.1 25=sB (eH (dw r 0) true (Option.isNone c))) (λ_ g=>?_) ?_
 ·rcases Pb (dw r 0) e with e|e
  ·exact aj
  exact aj
 rintro _ _ E;have e:=Aj e E;refine Il e m λe m=>?_;have⟨a,e,m⟩:=fh e m;have i:=HC.fK e.2;have e:=Aj e.1 i;have l:fH (jN (List.length H) b) d [pX (List.length H) c,sI a.steps]=jN (List.length H) (ki b d (HC.fo (fk.mk c a.steps))):=tJ rfl;have e:=Aj e l;have j:(ki b d (HC.fo (fk.mk c a.steps)))[d]?=some (HC.fo (fk.mk c a.steps)):=Bh i;have e:=Aj e j;have n:fH (jN (List.length H) (ki b d (HC.fo (fk.mk c a.steps)))) d [pX (List.length H) c,sI (dR .i64 a.steps 1)]=jN (List.length H) (ki (ki b d (HC.fo (fk.mk c a.steps))) d (HC.fo (fk.mk c (dR .i64 a.steps 1)))):=tJ rfl;have e:=Aj e n;have o:(ki (ki b d (HC.fo (fk.mk c a.steps))) d (HC.fo (fk.mk c (dR .i64 a.steps 1))))[d]?=some (HC.fo (fk.mk c (dR .i64 a.steps 1))):=Bh j;have e:=Aj e o;exact au
def Ho(T:ec):∀(n:Nat),(∀{H:dd} {a0:Option Nat} {nh:List HC} {j:Tm} (hm:hS n a0 nh=some j),dY prog T 281 [pX (List.length H) a0] (H++jN (List.length H) nh) (Tm.av j) (H++jN (List.length H) nh)):=by
  intro n
  induction n with
  |zero=>
   skip
   all_goals(intro _ _;intros;rename_i hm;cases hm)
  |succ n s=>
 intro H a0 nh j hm;rw[hS] at hm;have e:=trivial;refine wi ago func281 [] [(1,true,[])] 999 ?_;have⟨t,e,m⟩:=fh e hm;have⟨i,e,m⟩:=fh e m;have k:=HC.dh e.2;have e:=Aj e.1 k;simp[e];refine eO m xh λo m=>?_;simp[e];refine Wr e m 999 (λq c f h=>∃a,(h=H++jN (List.length H) nh/\f.1 23=sL (pX (List.length H)) i.agk/\f.1 24=sI (dn i.agk)/\f.1 25=sI q/\bx f 2 [sI 0,sI 0,sI 0,nL,nL]/\bx f 3 [sI i.agj,sI i.agm,sI o.agj,sL Ty.av o.agk,sT a Tm.av c])/\Ow f [34] a c) (by exact⟨.full,aaN,jj.full⟩) (λc d _ _ E m=>?_) (λq _ c d _ _ _ _ E e m z p=>?_)
 ·have⟨a,E,b⟩:=E;have e:=Aj e E;dsimp only[cS]at m;exact au
 have⟨a,E,b⟩:=E;have e:=Aj e E;have r:=e;simp[e];refine eO m (s (H:=H)) λl m=>?_;have⟨e,m⟩:=Ck e m;simp[e];refine Ad (f:=Tm.av) c [l] b F1 e.2 ?_;simp[e];cases m;exact p _ _ _ ⟨(.loc 34 (d.fu 34+1)),aaN,(On 34)⟩ z
def Ba(T:ec){H:dd}{a0:Option Nat}{nh:List HC}{a:Tm}{n:Nat}(hm:hS n a0 nh=some a):dY prog T 281 [pX (List.length H) a0] (H++jN (List.length H) nh) (Tm.av a) (H++jN (List.length H) nh):=(Ho T n) hm
def Fe(T:ec):∀(n:Nat),(∀{H:dd} {a0:Option Nat} {nh:List HC} {l:Bool} {c:List HC} (hm:il n a0 nh=some (l,c)),dY prog T 282 [pX (List.length H) a0] (H++jN (List.length H) nh) (sB l) (H++jN (List.length H) c)):=by
  intro n
  induction n with
  |zero=>
   skip
   all_goals(intro _ _;intros;rename_i hm;cases hm)
  |succ n u=>
 intro H a0 nh l c hm;rw[il] at hm;have e:=trivial;refine wi ago func282 [] [] 999 ?_;have⟨k,e,m⟩:=fh e hm;have⟨q,e,m⟩:=fh e m;have o:=HC.dh e.2;have e:=Aj e.1 o;refine Il e m λe m=>?_;simp[e];refine eI m (AG T (H:=H)) λ_ m=>?_;refine Il e m λe m=>?_;simp[e];refine FC e m 999 (λr d f h=>h=H++jN (List.length H) d/\f.1 0=pX (List.length H) a0/\f.1 14=sL (pX (List.length H)) q.agk/\f.1 15=sI (dn q.agk)/\f.1 16=sI r) aaN (λr _ d _ _ _ _ _ E e m z p=>?_) (λd _ _ _ E m=>?_)
 ·have e:=Aj e E;have s:=e;simp[e];refine ke m (u (H:=H)) λ_ t m=>?_;refine Im e m λe m=>?_;exact al
 have e:=Aj e E;dsimp only[cS]at m;have⟨a,e,m⟩:=fh e m;have b:=HC.dh e.2;have e:=Aj e.1 b;have i:fH (jN (List.length H) d) k [sI a.agj,sI a.agm,sI a.rf.agj,sL Ty.av a.rf.agk,sL (pX (List.length H)) a.agk,sI a.size,sI a.free,sB true]=jN (List.length H) (ki d k (HC.dH (dG.mk a.agj a.agm a.rf a.agk a.size a.free true))):=tJ rfl;have e:=Aj e i;have j:(ki d k (HC.dH (dG.mk a.agj a.agm a.rf a.agk a.size a.free true)))[k]?=some (HC.dH (dG.mk a.agj a.agm a.rf a.agk a.size a.free true)):=Bh b;have e:=Aj e j;exact au
def F3(T:ec){H:dd}{a0:Option Nat}{nh:List HC}{b:Bool}{a:List HC}{n:Nat}(hm:il n a0 nh=some (b,a)):dY prog T 282 [pX (List.length H) a0] (H++jN (List.length H) nh) (sB b) (H++jN (List.length H) a):=(Fe T n) hm
def y7(T:ec)(u:rG T){H:dd}{a0:Tm}{a1:Int}{q:Tm}{r s:Int}(hm:jK a0 a1=some (q,r,s)):dY prog T 250 [Tm.av a0,sI a1] H (AV.tuple [Tm.av q,sI r,sI s]) H:=by
 rw[jK] at hm;refine fl.xm (Post:=λx K=>x=AV.tuple [Tm.av q,sI r,sI s]/\∃X,K=H++X) ?_ (λ_ _ h=>⟨_,h.2.choose_spec,by rw[h.1];simp[AV.low,AV.kx],h.1,rfl⟩);refine fl.Ze (c:=HC.cells) ?_;have e:=u;refine wi ago func250 [32] [(12,true,[]),(15,true,[])] 7 ?_;simp[e];refine eI hm (BE T u) λ_ m=>?_;simp[e];apply Iq e m<;>intro e m
 ·apply wg 999;exact au
 apply wg 3;simp[e];refine Wj m 999 999 (λv f h=>∃v3,(h=H++jN (List.length H) ([]:List HC)/\f.1 1=sI a1/\f.1 27=sB v3/\bx f 2 (Tm.av a0).cells/\bx f 4 [sI 0,sI 0,sI 0,nL,nL])/\v v3=some (q,r,s)) (λv _ g m=>?_) ?_
 ·apply Iq e m<;>intro e m
  ·exact iO
  apply Iq e m<;>intro e m
  ·exact iO
  simp[e];refine eI m (KQ T) λ_ m=>?_;exact iO
 rintro _ _ ⟨v3,E,m⟩;have e:=Aj e E;refine Il e m λe m=>?_;simp[e];refine ke m (Qf T (H:=H)) λt a m=>?_;have b:jN (List.length H) a++[[pX (List.length H) t,sI 0]]=jN (List.length H) (a++[HC.fo (fk.mk t 0)]):=O3 rfl;have e:=Aj e b;have d:(a++[HC.fo (fk.mk t 0)])[(List.length a)]?=some (HC.fo (fk.mk t 0)):=Ug;have e:=Aj e d;simp[e];refine Wn m 3 (λi f h=>h=H++jN (List.length H) i/\f.1 1=sI a1/\f.1 8=AV.eS (List.length H+(List.length a)) 0/\bx f 4 [sI 0,sI 0,sI 0,nL,nL]) aaN (λi _ _ _ _ _ E m z p=>?_);have e:=Aj e E;have j:=e;have⟨A,e,m⟩:=fh e m;have k:=HC.fK e.2;have e:=Aj e.1 k;simp[e];apply Iq e m<;>intro e m
 ·apply wg 999;simp[e];refine KE m (F4 T (H:=H)) λ_ _ w m=>?_;refine Il e m λe m=>?_;apply Iq e m<;>intro e m
  ·exact al
  have⟨B,e,m⟩:=fh e m;have l:=HC.fK e.2;have e:=Aj e.1 l;simp[e];refine eO m (Ba T (H:=H)) λ_ m=>?_;exact au
 apply wg 2;simp[e];cases m;have m:=Qb z
 try dsimp only at m
 have e:=j;apply wg 999;have⟨C,e,m⟩:=fh e m;have n:=HC.fK e.2;have e:=Aj e.1 n;simp[e];refine ke m (F3 T (H:=H)) λ_ y m=>?_;refine Im e m λe m=>?_;have⟨D,e,m⟩:=fh e m;have o:=HC.fK e.2;have e:=Aj e.1 o;simp[e];refine eO m (Ba T (H:=H)) λ_ m=>?_;exact au
def NL(T:ec)(a:rG T){H:dd}{a0 a1:Tm}{a2 b:Int}(hm:oW a0 a1 a2=some b):dY prog T 270 [Tm.av a0,Tm.av a1,sI a2] H (sI b) H:=by
 rw[oW] at hm;have e:=a;refine wi ago func270 [] [] 999 ?_;simp[e];refine eI hm (BE T a) λ_ m=>?_;refine Il e m λe m=>?_;simp[e];refine eI m (BE T a) λ_ m=>?_;refine Il e m λe m=>?_;simp[e];refine eI m IJ λ_ m=>?_;refine Il e m λe m=>?_;simp[e];refine KE m (y7 T a) λ_ _ _ m=>?_;refine Il e m λe m=>?_;simp[e];refine KE m (y7 T a) λ_ _ _ m=>?_;refine Il e m λe m=>?_;simp[e];refine eI m IJ λ_ m=>?_;refine Il e m λe m=>?_;exact au
def JF(T:ec)(c:rG T):∀(n:Nat),(∀{H:dd} {a0:Fm} {a1:Fm} {b:Int} (hm:lQ n a0 a1=some b),dY prog T 242 [Fm.av a0,Fm.av a1] H (sI b) H):=by
  intro n
  induction n with
  |zero=>
    skip
    all_goals(intro _ _;intros;rename_i hm;cases hm)
  |succ n j=>
 intro H a0 a1 b hm;rw[lQ] at hm;have e:=c;refine wi ago func242 [] [] 3 ?_;simp[e];refine Wj hm 999 999 (λd f h=>∃v2,(h=H/\f.1 23=sB v2/\bx f 2 (Fm.av a0).cells/\bx f 3 (Fm.av a1).cells)/\d v2=some b) (λd _ g m=>?_) ?_
 ·apply Iq e m<;>intro e m
  ·exact iO
  simp[e];refine eI m sE λ_ m=>?_;exact iO
 rintro _ _ ⟨v2,E,m⟩;have e:=Aj e E;refine Il e m λe m=>?_;simp[e];refine FC e m 999 (λi _ f h=>h=H/\f.1 25=sL Tm.av a0.dc/\f.1 26=sI (dn a0.dc)/\f.1 27=sI i/\bx f 2 (Fm.av a0).cells/\bx f 3 (Fm.av a1).cells) aaN (λi _ _ _ _ _ _ _ E e m z p=>?_) (λ_ _ _ _ E m=>?_)
 ·have e:=Aj e E;have⟨k,e,m⟩:=fh e m;simp[e];refine eO m (NL T c) λ_ m=>?_;refine Il e m λe m=>?_;exact al
 have e:=Aj e E;dsimp only[cS]at m;simp[e];refine Wr e m 999 (λa _ f h=>h=H/\f.1 44=sL Fm.av a0.agk/\f.1 45=sI (dn a0.agk)/\f.1 46=sI a/\bx f 3 (Fm.av a1).cells) aaN (λ_ _ _ _ E m=>?_) (λa _ _ _ _ _ _ _ E e m z p=>?_)
 ·have e:=Aj e E;dsimp only[cS]at m;exact au
 have e:=Aj e E;have⟨l,e,m⟩:=fh e m;simp[e];refine eO m j λ_ m=>?_;refine Il e m λe m=>?_;exact al
def La(T:ec)(b:rG T){H:dd}{a0 a1:Fm}{a:Int}{n:Nat}(hm:lQ n a0 a1=some a):dY prog T 242 [Fm.av a0,Fm.av a1] H (sI a) H:=(JF T b n) hm
def DX(T:ec)(a:rG T){H:dd}{a0 a1:Fm}{b:Int}(hm:kb a0 a1=some b):dY prog T 184 [Fm.av a0,Fm.av a1] H (sI b) H:=by
 rw[kb] at hm;have e:=a;refine wi ago func184 [] [] 999 ?_;simp[e];refine eI hm (oN T a) λ_ m=>?_;refine Il e m λe m=>?_;simp[e];refine eI m (oN T a) λ_ m=>?_;refine Il e m λe m=>?_;simp[e];refine eI m (La T a) λ_ m=>?_;exact au
def tw:C2 prog 185 ee cQ.av cQ.av (sL Ty.av):=by
 refine v2 func185 λT H a0 a1 r m e=>?_;rw[ee] at m;simp[e];refine eI m p7 λ_ m=>?_;exact au
def wC:C3 prog 186 jt Fm.av sI Ty.av Fm.av:=by
 refine v3 func186 λT H a0 a1 a2 r m e=>?_;rw[jt] at m;have e:=Aj e (show AV.agg [sI a0,sI a1.agj,sL Ty.av a1.agk,AV.slice .jU [],AV.slice .jU [Fm.av a2]]=Fm.av (Fm.mk a0 a1 [] [a2]) by rw[Fm.fE];rfl);exact au
def sy:C2 prog 187 dS (λn=>AV.sc (Value.int .u32 n)) (λn=>AV.sc (Value.int .u32 n)) sI:=by
 intro T H a0 a1 r hm;rw[dS] at hm;have e:=trivial;refine wi ago func187 [] [] 999 ?_;have⟨e,m⟩:=Ck e hm;exact au
def Lz(T:ec){H:dd}{a0 a1 a b:Int}{q0:Nat}(c:H[q0]?=some [AV.sc (.int .u32 a)])(hm:lY a0 a1 a=some b):dY prog T 245 [sI a0,sI a1,AV.eS q0 0] H (AV.tuple []) (fH H q0 [AV.sc (.int .u32 b)]):=by
 rw[lY] at hm;have d:=fI c;refine fl.Ph c ?_;have e:=d;refine wi ago func245 [] [(1,false,[false,true,true,true,true,true,false])] 999 ?_;refine Im e hm λe m=>?_;have⟨e,m⟩:=Ck e m;exact au
def BL(T:ec){H:dd}{a0:Tm}{a:Int}(hm:iP a0=some a):dY prog T 189 [Tm.av a0] H (AV.sc (.int .u32 a)) H:=by
 rw[iP] at hm;refine fl.xm (Post:=λx K=>x=AV.sc (.int .u32 a)/\∃X,K=H++X) ?_ (λ_ _ h=>⟨_,h.2.choose_spec,by rw[h.1];simp[AV.low,AV.kx],h.1,rfl⟩);have e:=trivial;refine wi ago func189 [3] [] 999 ?_;simp[e];refine eI hm (ED T (st:=λs:Int=>H++[[AV.sc (.int .u32 s)]]) (Ee.U3 H (λs:Int=>[[AV.sc (.int .u32 s)]]) 1 (λ_=>rfl) (by simp[AV.low,AV.kx])) (λX s _ _ b h=>by have:=Lz T (H:=H++[[AV.sc (.int .u32 s)]]++X) (q0:=(List.length H)) aaN h;simpa using this)) λ_ m=>?_;exact au
def uI:C2 prog 190 gq sB cP.av Ty.av:=by
 refine v2 func190 λT H a0 a1 r m e=>?_;rw[gq] at m;simp[e];refine eO m vU λ_ m=>?_;simp[e];refine eO m uM λ_ m=>?_;exact au
def Na(T:ec){H:dd}{a0 a1 a b c:Int}{q0 q1:Nat}(d:H[q0]?=some [sI a])(f:H[q1]?=some [sI b])(h:q0≠q1)(hm:mU a0 a1 a b=some c):dY prog T 290 [sI a0,sI a1,AV.eS q0 0,AV.eS q1 0] H (AV.tuple []) (fH H q1 [sI c]):=by
 rw[mU] at hm;have i:=fI d;have j:=fI f;refine fl.Ph f ?_;have e:=Aj (Aj (Aj (Aj i d) j) h) h.symm;refine wi ago func290 [] [] 999 ?_;refine Il e hm λe m=>?_;exact au
def IU(T:ec){H:dd}{a0:Tm}{a1 a:Int}(hm:tV a0 a1=some a):dY prog T 275 [Tm.av a0,sI a1] H (sI a) H:=by
 rw[tV] at hm;refine fl.xm (Post:=λx K=>x=sI a/\∃X,K=H++X) ?_ (λ_ _ h=>⟨_,h.2.choose_spec,by rw[h.1];simp[AV.low,AV.kx],h.1,rfl⟩);have e:=trivial;refine wi ago func275 [3,5] [] 999 ?_;simp[e];refine eI hm (ED T (st:=λs:Int=>H++[[sI a1],[sI s]]) (Ee.U3 H (λs:Int=>[[sI a1],[sI s]]) 2 (λ_=>rfl) (by simp[AV.low,AV.kx])) (λX s _ _ b h=>by have:=Na T (H:=H++[[sI a1],[sI s]]++X) (q0:=(List.length H)) (q1:=(List.length H+1)) aaN aaN aaN h;simpa using this)) λ_ m=>?_;exact au
def D9(T:ec){H:dd}{a0:Tm}{a1 a b c:Int}{q0 q1:Nat}(d:H[q0]?=some [sI a])(f:H[q1]?=some [sI b])(h:q0≠q1)(hm:iH a0 a1 a b=some c):dY prog T 274 [Tm.av a0,sI a1,AV.eS q0 0,AV.eS q1 0] H (AV.tuple []) (fH H q0 [sI c]):=by
 rw[iH] at hm;have i:=fI d;have j:=fI f;refine fl.Ph d ?_;have e:=Aj (Aj (Aj (Aj i j) f) h) h.symm;refine wi ago func274 [] [(1,true,[true,true,true,true,true,true,true,false])] 999 ?_;simp[e];refine eO hm (IU T) λ_ m=>?_;exact au
def Jo(T:ec):∀(n:Nat),(∀{S:Type} {st:S->dd} {k:Nat} {a0:Fm} {a1:Int} {a2:(S->Tm->Int->Option (S))} {c:S} {b:S} {g2:Nat} {a:List AV} (hF:Ee st k) (d:HP T g2 a st a2) (hm:iu n a0 a1 a2 c=some b),dY prog T 134 [Fm.av a0,sI a1,AV.func (.func g2) [] a] (st c) (AV.tuple []) (st b)):=by
  intro n
  induction n with
  |zero=>
    skip
    all_goals(intro _ _;intros;rename_i hm;cases hm)
  |succ n q=>
 intro S st k a0 a1 a2 c b g2 a hF d hm;rw[iu] at hm;have e:=hF.len;refine wi ago func134 [] [] 999 ?_;simp[e];refine FC e hm 0 (λo s2 f h=>h=st s2/\f.1 1=sI a1/\f.1 2=AV.func (.func g2) [] a/\f.1 11=sL Tm.av a0.dc/\f.1 12=sI (dn a0.dc)/\f.1 13=sI o/\bx f 3 (Fm.av a0).cells) aaN (λo _ s2 _ _ _ _ _ E e m z p=>?_) (λs2 _ _ _ E m=>?_)
 ·have e:=Aj e E;apply wg 999;have⟨r,e,m⟩:=fh e m;simp[e];refine nM.VE aa7 (HP.Yk d e.2) ?_;exact al
 have e:=Aj e E;apply wg 5;dsimp only[cS]at m;simp[e];refine Wj m 999 999 (λj f h=>∃v12,(h=st s2/\f.1 1=sI v12/\f.1 2=AV.func (.func g2) [] a/\f.1 3=AV.jo 3 (f.gen 3) 0/\f.box 3=some (Fm.av a0).cells)/\j v12=some b) (λj _ g m=>?_) ?_
 ·simp[e];refine eI m Bl λ_ m=>?_;apply Ir e m<;>intro e m
  ·exact iO
  exact iO
 rintro _ _ ⟨v12,E,m⟩;have e:=Aj e E;simp[e];refine Wr e m 999 (λl i f h=>h=st i/\f.1 1=sI v12/\f.1 2=AV.func (.func g2) [] a/\f.1 28=sL Fm.av a0.agk/\f.1 29=sI (dn a0.agk)/\f.1 30=sI l) aaN (λi _ _ _ E m=>?_) (λl _ i _ _ _ _ _ E e m z p=>?_)
 ·have e:=Aj e E;dsimp only[cS]at m;exact au
 have e:=Aj e E;simp[e];refine eI m (q hF d) λ_ m=>?_;exact al
def D2(T:ec){S:Type}{st:S->dd}{k:Nat}{a0:Fm}{a1:Int}{a2:(S->Tm->Int->Option (S))}{b c:S}{g2:Nat}{a:List AV}(hF:Ee st k)(d:HP T g2 a st a2){n:Nat}(hm:iu n a0 a1 a2 b=some c):dY prog T 134 [Fm.av a0,sI a1,AV.func (.func g2) [] a] (st b) (AV.tuple []) (st c):=(Jo T n) hF d hm
def uK(T:ec){H:dd}{a0:Fm}{a1 a:Int}(hm:kR a0 a1=some a):dY prog T 247 [Fm.av a0,sI a1] H (sI a) H:=by
 rw[kR] at hm;refine fl.xm (Post:=λx K=>x=sI a/\∃X,K=H++X) ?_ (λ_ _ h=>⟨_,h.2.choose_spec,by rw[h.1];simp[AV.low,AV.kx],h.1,rfl⟩);have e:=trivial;refine wi ago func247 [3,5] [] 999 ?_;simp[e];refine eI hm (D2 T (st:=λs:Int=>H++[[sI a1],[sI s]]) (Ee.U3 H (λs:Int=>[[sI a1],[sI s]]) 2 (λ_=>rfl) (by simp[AV.low,AV.kx])) (λX s _ _ b h=>by have:=D9 T (H:=H++[[sI a1],[sI s]]++X) (q0:=(List.length H+1)) (q1:=(List.length H)) aaN aaN aaN h;simpa using this)) λ_ m=>?_;exact au
def Qa(T:ec){H:dd}{a0 a1 b:Int}{a i:Tm}{q0 q1:Nat}(c:H[q0]?=some [sI b])(d:H[q1]?=some [sI a.agj,sI a.agm,sI a.cO.agj,sL Ty.av a.cO.agk,sL Tm.av a.agk])(hm:l6 a0 a1 b a=some i):dY prog T 291 [sI a0,sI a1,AV.eS q0 0,AV.eS q1 0] H (Tm.av i) H:=by
 rw[l6] at hm;have f:=fI c;have h:=fI d;have e:=Aj (Aj (Aj f c) h) d;refine wi ago func291 [] [] 999 ?_;apply Iq e hm<;>intro e m
 ·simp[e];refine eI m (KF T) λ_ m=>?_;exact au
 apply Iq e m<;>intro e m
 ·simp[e];refine eI m mH λ_ m=>?_;exact au
 simp[e];refine eI m mH λ_ m=>?_;exact au
def S8(T:ec){H:dd}{a0:Tm}{a1:Int}{a2 a:Tm}(hm:AJ a0 a1 a2=some a):dY prog T 277 [Tm.av a0,sI a1,Tm.av a2] H (Tm.av a) H:=by
 rw[AJ] at hm;refine fl.xm (Post:=λx K=>x=Tm.av a/\∃X,K=H++X) ?_ (λ_ _ h=>⟨_,h.2.choose_spec,by rw[h.1];simp[AV.low,AV.kx],h.1,rfl⟩);have e:=trivial;refine wi ago func277 [4,5] [] 999 ?_;simp[e];refine ke hm (ER T (st:=λ_:Unit=>H++[[sI a1],[sI a2.agj,sI a2.agm,sI a2.cO.agj,sL Ty.av a2.cO.agk,sL Tm.av a2.agk]]) (Ee.const _) (λX _ _ _ _ _ h=>by obtain⟨b,rfl⟩:=vH h;exact Qa T (q0:=(List.length H)) (q1:=(List.length H+1)) aaN aaN b)) λ_ _ m=>?_;exact au
def F2(T:ec){H:dd}{a0:Tm}{a1 b:Int}{a i:Tm}{q0 q1:Nat}(c:H[q0]?=some [sI b])(d:H[q1]?=some [sI a.agj,sI a.agm,sI a.cO.agj,sL Ty.av a.cO.agk,sL Tm.av a.agk])(hm:gS a0 a1 b a=some i):dY prog T 276 [Tm.av a0,sI a1,AV.eS q0 0,AV.eS q1 0] H (Tm.av i) H:=by
 rw[gS] at hm;have f:=fI c;have h:=fI d;have e:=Aj (Aj (Aj f c) h) d;refine wi ago func276 [] [] 999 ?_;simp[e];refine eI hm (S8 T) λ_ m=>?_;exact au
def wF(T:ec){H:dd}{a0:Fm}{a1:Int}{a2:Tm}{a:Fm}(hm:kB a0 a1 a2=some a):dY prog T 248 [Fm.av a0,sI a1,Tm.av a2] H (Fm.av a) H:=by
 rw[kB] at hm;refine fl.xm (Post:=λx K=>x=Fm.av a/\∃X,K=H++X) ?_ (λ_ _ h=>⟨_,h.2.choose_spec,by rw[h.1];simp[AV.low,AV.kx],h.1,rfl⟩);have e:=trivial;refine wi ago func248 [4,5] [] 999 ?_;simp[e];refine ke hm (p5 T (st:=λ_:Unit=>H++[[sI a1],[sI a2.agj,sI a2.agm,sI a2.cO.agj,sL Ty.av a2.cO.agk,sL Tm.av a2.agk]]) (Ee.const _) (λX _ _ _ _ _ h=>by obtain⟨b,rfl⟩:=vH h;exact F2 T (q0:=(List.length H)) (q1:=(List.length H+1)) aaN aaN b)) λ_ _ m=>?_;exact au
def wK(T:ec)(a:rG T){H:dd}{a0:Fm}{a1:Tm}{b:Fm}{c:Int}(hm:gQ a0 a1=some (b,c)):dY prog T 191 [Fm.av a0,Tm.av a1] H (AV.tuple [Fm.av b,sI c]) H:=by
 rw[gQ] at hm;have e:=a;refine wi ago func191 [] [] 999 ?_;simp[e];refine ke hm (uP T a) λ_ _ m=>?_;simp[e];refine ke m (xI T a) λ_ _ m=>?_;simp[e];refine eI m (uK T) λ_ m=>?_;refine Il e m λe m=>?_;simp[e];refine eI m (wF T) λ_ m=>?_;exact au
def Da:C1 prog 192 tE (λn=>AV.sc (Value.int .u32 n)) Tm.av:=by
 intro T H a0 r hm;rw[tE] at hm;have e:=trivial;refine wi ago func192 [] [] 999 ?_;cases hm;simp[e]
def Gx(T:ec)(f:rG T){H:dd}{a0:Tm}{a1 a:Int}{h:Tm}{b:Int}{q0:Nat}(c:H[q0]?=some [sI a])(hm:iT a0 a1 a=some (h,b)):dY prog T 249 [Tm.av a0,sI a1,AV.eS q0 0] H (Tm.av h) (fH H q0 [sI b]):=by
 rw[iT] at hm;have d:=fI c;refine fl.Ph c ?_;have e:=Aj f d;refine wi ago func249 [] [] 999 ?_;refine Il e hm λe m=>?_;simp[e];refine KE m (y7 T f) λ_ _ _ m=>?_;exact au
def JA(T:ec)(c:rG T){H:dd}{a0 a:Fm}{b:Int}(hm:la a0=some (a,b)):dY prog T 194 [Fm.av a0] H (AV.tuple [Fm.av a,sI b]) H:=by
 rw[la] at hm;refine fl.xm (Post:=λx K=>x=AV.tuple [Fm.av a,sI b]/\∃X,K=H++X) ?_ (λ_ _ h=>⟨_,h.2.choose_spec,by rw[h.1];simp[AV.low,AV.kx],h.1,rfl⟩);have e:=c;refine wi ago func194 [4] [(6,true,[])] 999 ?_;simp[e];refine eI hm (uK T) λ_ m=>?_;apply Iq e m<;>intro e m
 ·simp[e];refine eI m (wF T) λ_ m=>?_;exact au
 simp[e];refine ke m (p5 T (st:=λs:Int=>H++[[sI s]]) (Ee.U3 H (λs:Int=>[[sI s]]) 1 (λ_=>rfl) (by simp[AV.low,AV.kx])) (λX s _ _ _ d h=>by have:=Gx T c (H:=H++[[sI s]]++X) (q0:=(List.length H)) aaN h;simpa using this)) λ_ _ m=>?_;refine Il e m λe m=>?_;simp[e];refine eI m (uK T) λ_ m=>?_;refine Il e m λe m=>?_;simp[e];refine eI m (wF T) λ_ m=>?_;exact au
def vW:C2 prog 251 sY Tm.av sI (sL Tm.av):=by
 refine v2 func251 λT H a0 a1 r m e=>?_;rw[sY] at m;exact au
def Ek:C1 prog 195 vy ey.av sI:=by
 refine v1 func195 λT H a0 r m e=>?_;rw[vy] at m;apply Iq e m<;>intro e m
 ·simp[e];refine eI m vW λb m=>?_;simp[e];refine eI m pE λf m=>?_;simp[e];refine eI m mH λ_ m=>?_;simp[e];refine eI m vW λc m=>?_;have e:=Aj e (show AV.agg [sI 1,sI b.agj,sI b.agm,sI b.cO.agj,sL Ty.av b.cO.agk,sL Tm.av b.agk,AV.slice .jU [Ty.av f],sI c.agj,sI c.agm,sI c.cO.agj,sL Ty.av c.cO.agk,sL Tm.av c.agk]=ey.av (ey.mk 1 b [f] c) by rw[ey.fE];rfl);exact au
 simp[e];refine eI m vW λd m=>?_;simp[e];refine eI m pE λh m=>?_;simp[e];refine eI m KU λi m=>?_;simp[e];refine eI m mH λ_ m=>?_;simp[e];refine eI m mH λ_ m=>?_;simp[e];refine eI m vW λa m=>?_;have e:=Aj e (show AV.agg [sI 2,sI d.agj,sI d.agm,sI d.cO.agj,sL Ty.av d.cO.agk,sL Tm.av d.agk,AV.slice .jU [Ty.av h,Ty.av i],sI a.agj,sI a.agm,sI a.cO.agj,sL Ty.av a.cO.agk,sL Tm.av a.agk]=ey.av (ey.mk 2 d [h,i] a) by rw[ey.fE];rfl);exact au
def DY:C2 prog 199 sU Fm.av Tm.av Tm.av:=by
 refine v2 func199 λT H a0 a1 r m e=>?_;rw[sU] at m;have e:=Aj e (show AV.agg [sI 1,sI 0,AV.slice .jU [],AV.slice .jU [Tm.av a0,Tm.av a1],AV.slice .jU []]=Fm.av (Fm.mk 1 (Ty.mk 0 []) [a0,a1] []) by rw[Fm.fE];rfl);exact au
def Ed(T:ec){H:dd}{a0:List Fm}{a1:Pf}{a2:cQ}{b:cM}{c:Int}{d:Nat}(a:KC H d a0)(hm:oQ a0 a1 a2=some (b,c)):dY prog T 124 [AV.eS d 0,Pf.av a1,cQ.av a2] H (AV.tuple [cM.av b,sI c]) H:=by
 rw[oQ] at hm;have e:=a;refine wi ago func124 [] [] 999 ?_;have⟨f,e,m⟩:=fh e hm;simp[e];refine eI m vR λ_ m=>?_;refine Il e m λe m=>?_;simp[e];refine eI m DY λ_ m=>?_;exact au
def GM:C2 prog 202 rC Tm.av Tm.av (sL Tm.av):=by
 refine v2 func202 λT H a0 a1 r m e=>?_;rw[rC] at m;simp[e];refine Wr e m 999 (λc s2 f h=>h=H/\f.1 7=sL Tm.av a1/\f.1 8=sI (dn a1)/\f.1 9=sI c/\bx f 2 [sI s2.1,sI s2.2.1,sI s2.2.2.1,sL Ty.av s2.2.2.2.1,sL Tm.av s2.2.2.2.2]/\bx f 4 [sI 0,sI 0,sI 0,nL,nL]) aaN (λs2 _ _ _ E m=>?_) (λc _ s2 _ _ _ _ _ E e m z p=>?_)
 ·have⟨v10,v11,v12,a,b⟩:=s2;have e:=Aj e E;dsimp only[cS,Kq]at m;exact au
 have⟨v10,v11,v12,a,b⟩:=s2;have e:=Aj e E;dsimp only[Kq]at m;simp[e];refine eI m vW λ_ m=>?_;exact al
def NW:C1 prog 296 tF (t2 sI sI) sB:=by
 refine v1 func296 λT H a0 r m e=>?_;rw[tF] at m;refine Il e m λe m=>?_;exact au
def G9:C2 prog 318 w5 Tm.av Tm.av (sL Ty.av):=by
 refine v2 func318 λT H a0 a1 r m e=>?_;rw[w5] at m;simp[e];refine Wn m 999 (λs1 f h=>∃a,h=H/\f.1 1=sL Ty.av a1/\f.1 5=sI s1.1/\bx f 2 [sI s1.2.1,sI s1.2.2.1,sI s1.2.2.2.1,sL Ty.av s1.2.2.2.2.1,sT a Tm.av s1.2.2.2.2.2]/\bx f 4 [sI 0,sI 0,sI 0,nL,nL]) ⟨.jU,aaN⟩ (λs1 _ _ _ _ _ E m z p=>?_);have⟨d,v9,v10,v11,v12,b⟩:=s1;have⟨a,E⟩:=E;have e:=Aj e E;dsimp only[Aw]at m;apply Ir e m<;>intro e m
 ·cases m;have m:=Qb z;dsimp only[Aw]at m;exact au
 have⟨c,e,m⟩:=fh e m;simp[e];cases m;exact p _ _ _ ⟨.full,aaN⟩ z
def Tx:C5 prog 319 Ah Tm.av sI Ty.av Tm.av Tm.av Tm.av:=by
 refine v5 func319 λT H a0 a1 a2 a3 a4 r m e=>?_;rw[Ah] at m;have e:=Aj e (show AV.agg [sI a0,sI 0,sI a1.agj,sL Ty.av a1.agk,AV.slice .jU [Tm.av a2,Tm.av a3,Tm.av a4]]=Tm.av (Tm.mk a0 0 a1 [a2,a3,a4]) by rw[Tm.fE];rfl);exact au
def A9:C3 prog 314 na Tm.av Tm.av Tm.av Tm.av:=by
 refine v3 func314 λT H a0 a1 a2 r m e=>?_;rw[na] at m;simp[e];refine eO m pE λ_ m=>?_;simp[e];refine eO m pE λ_ m=>?_;simp[e];refine eO m pE λ_ m=>?_;simp[e];refine eO m G9 λ_ m=>?_;simp[e];refine eO m Tx λ_ m=>?_;exact au
def Pz:C0 prog 315 vl Tm.av:=by
 refine v0 func315 λT H r m e=>?_;rw[vl] at m;simp[e];refine eI m vW λ_ m=>?_;simp[e];refine eI m mH λ_ m=>?_;simp[e];refine eI m mH λ_ m=>?_;simp[e];refine eI m A9 λ_ m=>?_;simp[e];refine eI m pE λ_ m=>?_;simp[e];refine eI m G9 λ_ m=>?_;exact au
def Sc:C1 prog 313 Ce Tm.av Tm.av:=by
 refine v1 func313 λT H a0 r m e=>?_;rw[Ce] at m;simp[e];refine eO m pE λ_ m=>?_;simp[e];refine eO m pE λ_ m=>?_;simp[e];refine eO m G9 λ_ m=>?_;exact au
def Ry:C0 prog 309 xL Tm.av:=by
 refine v0 func309 λT H r m e=>?_;rw[xL] at m;simp[e];refine eI m mH λ_ m=>?_;simp[e];refine eI m Pz λ_ m=>?_;simp[e];refine eI m mH λ_ m=>?_;simp[e];refine eI m GM λ_ m=>?_;simp[e];refine eI m mH λ_ m=>?_;simp[e];refine eI m A9 λ_ m=>?_;simp[e];refine eI m Sc λ_ m=>?_;exact au
def QC:C2 prog 298 vz Fm.av Tm.av Tm.av:=by
 refine v2 func298 λT H a0 a1 r m e=>?_;rw[vz] at m;simp[e];refine eO m Ry λ_ m=>?_;simp[e];refine eO m vW λ_ m=>?_;simp[e];refine eO m GM λ_ m=>?_;simp[e];refine eO m vW λ_ m=>?_;simp[e];refine eO m DY λ_ m=>?_;exact au
def Hn{n:Nat}:C2 prog 297 (kH n) sB Fm.av Fm.av:=by
 refine i2 λn d=>u2 3 func297 λT H a0 a1 r m e=>?_;rw[kH] at m;simp[e];refine Wj m 999 999 (λb f h=>∃v2,(h=H/\f.1 39=sB v2/\bx f 2 (Fm.av a0).cells/\bx f 3 (Fm.av a1).cells)/\b v2=some r) (λb _ g m=>?_) ?_
 ·apply Iq e m<;>intro e m
  ·exact iO
  simp[e];refine eI m sE λ_ m=>?_;apply Ir e m<;>intro e m
  ·exact iO
  apply Iq e m<;>intro e m
  ·exact iO
  exact iO
 rintro _ _ ⟨v2,E,m⟩;have e:=Aj e E;refine Il e m λe m=>?_;simp[e];refine FC e m 999 (λc _ f h=>h=H/\f.1 41=sL Tm.av a0.dc/\f.1 42=sI (dn a0.dc)/\f.1 43=sI c/\bx f 2 (Fm.av a0).cells/\bx f 3 (Fm.av a1).cells) aaN (λc _ _ _ _ _ _ _ E e m z p=>?_) (λ_ _ _ _ E m=>?_)
 ·have e:=Aj e E;have⟨i,e,m⟩:=fh e m;simp[e];refine eO m D3 λ_ m=>?_;refine Im e m λe m=>?_;exact al
 have e:=Aj e E;dsimp only[cS]at m;simp[e];refine Wr e m 999 (λa _ f h=>h=H/\f.1 58=sL Fm.av a0.agk/\f.1 59=sI (dn a0.agk)/\f.1 60=sI a/\bx f 3 (Fm.av a1).cells) aaN (λ_ _ _ _ E m=>?_) (λa _ _ _ _ _ _ _ E e m z p=>?_)
 ·have e:=Aj e E;dsimp only[cS]at m;exact au
 have e:=Aj e E;have⟨j,e,m⟩:=fh e m;simp[e];refine eO m d λ_ m=>?_;refine Im e m λe m=>?_;exact al
def NX(T:ec){H:dd}{a0:Fm}{c:Bool}{d:Tm}{i:Fm}{j:Bool}(hm:tK a0=some (c,d,i,j)):dY prog T 283 [Fm.av a0] H (AV.tuple [sB c,Tm.av d,Fm.av i,sB j]) H:=by
 rw[tK] at hm;have e:=trivial;refine wi ago func283 [] [] 7 ?_;simp[e];refine ke hm NW λ_ _ m=>?_;simp[e];refine Wj m 999 0 (λl f h=>∃v4,(h=H/\f.1 6=sB (dm a0.agj 4)/\f.1 48=sB v4/\bx f 1 (Fm.av a0).cells/\bx f 3 [sI 0,sI 0,sI 0,nL,nL]/\bx f 4 [sI 0,sI 0,nL,nL,nL])/\l v4=some (c,d,i,j)) (λl _ g m=>?_) ?_
 ·apply Iq e m<;>intro e m
  ·exact iO
  apply Iq e m<;>intro e m
  ·exact iO
  have⟨t,e,m⟩:=fh e m;apply Iq e m<;>intro e m
  ·exact iO
  have⟨u,e,m⟩:=fh e m;exact iO
 rintro _ _ ⟨v4,E,m⟩;have e:=Aj e E;apply Iq e m<;>intro e m
 ·apply wg 999;exact au
 apply wg 7;have⟨n,e,m⟩:=fh e m;have⟨o,e,m⟩:=fh e m;have⟨k,e,m⟩:=fh e m;simp[e];refine yU m 999 999 (λb f h=>∃a,(h=H/\f.1 6=sB (dm a0.agj 4)/\f.1 83=sB a/\bx f 1 (Fm.av a0).cells/\bx f 3 [sI 0,sI 0,sI 0,nL,nL]/\bx f 4 [sI 0,sI 0,nL,nL,nL]/\bx f 10 (Tm.av k).cells)/\b a=some (c,d,i,j)) ?_ (λb _ g m=>?_)
 ·rintro _ _ ⟨a,E,m⟩;have e:=Aj e E;refine Il e m λe m=>?_;have⟨q,e,m⟩:=fh e m;have⟨r,e,m⟩:=fh e m;exact au
 apply Iq e m<;>intro e m
 ·exact iO
 have⟨s,e,m⟩:=fh e m;simp[e];refine eO m (IU T) λ_ m=>?_;apply Iq e m<;>intro e m
 ·exact iO
 simp[e];refine eO m mH λ_ m=>?_;simp[e];refine eO m QC λ_ m=>?_;simp[e];refine eO m Hn λ_ m=>?_;exact iO
def Sa:∀(n:Nat),C1 prog 254 (lV n) (λn=>AV.sc (Value.int .u8 n)) Fm.av:=by
  intro n
  induction n with
  |zero=>
    skip
    all_goals(intro _ _;intros;rename_i hm;cases hm)
  |succ n c=>
 intro T H a0 r hm;rw[lV] at hm;have e:=trivial;refine wi ago func254 [] [] 5 ?_;simp[e];apply Iq e hm<;>intro e m
 ·apply wg 999;exact au
 apply wg 4;have⟨s,e,m⟩:=fh e m;simp[e];refine eI m c λb m=>?_;simp[e];refine yU m 3 2 (λd f h=>∃v4,(h=H/\f.1 3=AV.sc (.int .u8 v4)/\bx f 1 (Fm.av a0).cells)/\d v4=some r) ?_ (λd _ g m=>?_)
 ·rintro _ _ ⟨v4,E,m⟩;have e:=Aj e E;simp[e];refine yU m 999 999 (λi f h=>∃v9,(h=H/\f.1 6=AV.sc (.int .u8 v9))/\i v9=some r) ?_ (λi _ g m=>?_)
  ·rintro _ _ ⟨v9,E,m⟩;have e:=Aj e E;exact au
  have⟨j,k,l,o,e,m⟩:=Bo4 e m;simp[e];refine Cf (NX T e.2) ?_;apply Ir e m<;>intro e m
  ·exact iO
  simp[e];refine eI m c λ_ m=>?_;exact iO
 simp[e];refine wj 999 0 (λf h=>h=H/\f.1 3=AV.sc (.int .u8 b)/\f.1 24=sI a0.agj/\f.1 25=sB (eH (dm a0.agj 2) true (dm a0.agj 3))/\bx f 1 (Fm.av a0).cells) (λ_ g=>?_) ?_
 ·rcases Pb (dm a0.agj 2) e with e|e
  ·exact aj
  exact aj
 rintro _ _ E;have e:=Aj e E;apply Ir e m<;>intro e m
 ·apply wg 999;apply Ir e m<;>intro e m
  ·exact iO
  exact iO
 apply wg 5;have⟨q,e,m⟩:=fh e m;simp[e];refine eI m c λa m=>?_;simp[e];refine OV 2 999 (λf h=>h=H/\f.1 3=AV.sc (.int .u8 (eH (dm a0.agj 2) (vT .u8 b a) b))/\f.1 5=AV.sc (.int .u8 (pS .u8 (pS .u8 a b) 6))) ?_ (λ_ g=>?_)
 ·rintro _ _ E;have e:=Aj e E;exact au
 simp[e];rcases Pb (dm a0.agj 2) e with e|e
 ·apply wg 999;exact aj
 apply wg 999;exact aj
def SI{n:Nat}:C1 prog 254 (lV n) (λn=>AV.sc (Value.int .u8 n)) Fm.av:=(Sa n)
def QY(T:ec)(a:rG T){H:dd}{a0:Fm}{a1:Int}{b:Bool}{c:Int}(hm:BV a0 a1=some (b,c)):dY prog T 204 [Fm.av a0,AV.sc (.int .u8 a1)] H (AV.tuple [sB b,sI c]) H:=by
 rw[BV] at hm;have e:=a;refine wi ago func204 [] [] 999 ?_;simp[e];refine eI hm (oN T a) λ_ m=>?_;refine Il e m λe m=>?_;simp[e];refine eI m SI λ_ m=>?_;exact au
def Lk(T:ec)(a:rG T){H:dd}{a0:Fm}{b:Bool}{c:Int}(hm:n_ a0=some (b,c)):dY prog T 127 [Fm.av a0] H (AV.tuple [sB b,sI c]) H:=by
 rw[n_] at hm;have e:=a;refine wi ago func127 [] [] 999 ?_;simp[e];refine ke hm (QY T a) λ_ _ m=>?_;exact au
def CD(T:ec)(l:rG T):∀(n:Nat),(∀{H:dd} {a0:List Fm} {a1:Pf} {a2:cQ} {c:cM} {d:Int} {i:Nat} (a:KC H i a0) (hm:dB n a0 a1 a2=some (c,d)),dY prog T 68 [AV.eS i 0,Pf.av a1,cQ.av a2] H (AV.tuple [cM.av c,sI d]) H)/\(∀{H:dd} {a0:List Fm} {a1:Pf} {a2:cQ} {c:cM} {d:Int} {i:Nat} (a:KC H i a0) (hm:jW n a0 a1 a2=some (c,d)),dY prog T 115 [AV.eS i 0,Pf.av a1,cQ.av a2] H (AV.tuple [cM.av c,sI d]) H)/\(∀{H:dd} {a0:List Fm} {a1:Pf} {a2:cQ} {c:cM} {d:Int} {i:Nat} (a:KC H i a0) (hm:gj n a0 a1 a2=some (c,d)),dY prog T 116 [AV.eS i 0,Pf.av a1,cQ.av a2] H (AV.tuple [cM.av c,sI d]) H)/\(∀{H:dd} {a0:List Fm} {a1:Pf} {a2:cQ} {c:cM} {d:Int} {i:Nat} (a:KC H i a0) (hm:jV n a0 a1 a2=some (c,d)),dY prog T 117 [AV.eS i 0,Pf.av a1,cQ.av a2] H (AV.tuple [cM.av c,sI d]) H)/\(∀{H:dd} {a0:List Fm} {a1:Pf} {a2:cQ} {c:cM} {d:Int} {i:Nat} (a:KC H i a0) (hm:jT n a0 a1 a2=some (c,d)),dY prog T 118 [AV.eS i 0,Pf.av a1,cQ.av a2] H (AV.tuple [cM.av c,sI d]) H)/\(∀{H:dd} {a0:List Fm} {a1:Pf} {a2:cQ} {c:cM} {d:Int} {i:Nat} (a:KC H i a0) (hm:fS n a0 a1 a2=some (c,d)),dY prog T 119 [AV.eS i 0,Pf.av a1,cQ.av a2] H (AV.tuple [cM.av c,sI d]) H)/\(∀{H:dd} {a0:List Fm} {a1:Pf} {a2:cQ} {c:cM} {d:Int} {i:Nat} (a:KC H i a0) (hm:fT n a0 a1 a2=some (c,d)),dY prog T 120 [AV.eS i 0,Pf.av a1,cQ.av a2] H (AV.tuple [cM.av c,sI d]) H)/\(∀{H:dd} {a0:List Fm} {a1:Pf} {a2:cQ} {c:cM} {d:Int} {i:Nat} (a:KC H i a0) (hm:gk n a0 a1 a2=some (c,d)),dY prog T 121 [AV.eS i 0,Pf.av a1,cQ.av a2] H (AV.tuple [cM.av c,sI d]) H)/\(∀{H:dd} {a0:List Fm} {a1:Pf} {a2:cQ} {c:cM} {d:Int} {i:Nat} (a:KC H i a0) (hm:gh n a0 a1 a2=some (c,d)),dY prog T 122 [AV.eS i 0,Pf.av a1,cQ.av a2] H (AV.tuple [cM.av c,sI d]) H)/\(∀{H:dd} {a0:List Fm} {a1:Pf} {a2:cQ} {c:cM} {d:Int} {i:Nat} (a:KC H i a0) (hm:lh n a0 a1 a2=some (c,d)),dY prog T 123 [AV.eS i 0,Pf.av a1,cQ.av a2] H (AV.tuple [cM.av c,sI d]) H)/\(∀{H:dd} {a0:List Fm} {a1:Pf} {a2:cQ} {c:cM} {d:Int} {i:Nat} (a:KC H i a0) (hm:jE n a0 a1 a2=some (c,d)),dY prog T 125 [AV.eS i 0,Pf.av a1,cQ.av a2] H (AV.tuple [cM.av c,sI d]) H)/\(∀{H:dd} {a0:List Fm} {a1:Pf} {a2:cQ} {c:cM} {d:Int} {i:Nat} (a:KC H i a0) (hm:kQ n a0 a1 a2=some (c,d)),dY prog T 126 [AV.eS i 0,Pf.av a1,cQ.av a2] H (AV.tuple [cM.av c,sI d]) H)/\(∀{H:dd} {a0:List Fm} {a1:Pf} {a2:cQ} {a3:Int} {c:cM} {d:Int} {i:Nat} (a:KC H i a0) (hm:dA n a0 a1 a2 a3=some (c,d)),dY prog T 182 [AV.eS i 0,Pf.av a1,cQ.av a2,sI a3] H (AV.tuple [cM.av c,sI d]) H)/\(∀{H:dd} {a0:List Fm} {a1:Pf} {a2:cQ} {a3:Fm} {a4:Tm} {c:cM} {d:Int} {i:Nat} (a:KC H i a0) (hm:dD n a0 a1 a2 a3 a4=some (c,d)),dY prog T 193 [AV.eS i 0,Pf.av a1,cQ.av a2,Fm.av a3,Tm.av a4] H (AV.tuple [cM.av c,sI d]) H):=by
  intro n
  induction n with
  |zero=>
    refine⟨?_,?_,?_,?_,?_,?_,?_,?_,?_,?_,?_,?_,?_,?_⟩
    all_goals(intro _ _;intros;rename_i hm;cases hm)
  |succ n j=>
 refine⟨?_,?_,?_,?_,?_,?_,?_,?_,?_,?_,?_,?_,?_,?_⟩
 ·intro H a0 a1 a2 c d i a hm;rw[dB] at hm;have e:=Aj l a;refine wi ago func68 [] [(1,true,[])] 7 ?_;have L:zo prog H 109 (AV.qZ (i-1)) (sI a1.agj) false=some (Pn a1.agj):=TX a.2;have e:=Aj e L;have⟨v,X,e,m⟩:=Bo2 e hm;simp[e];refine oa.val (r:=AV.tuple [cM.av v,sI X]) (H':=H) ?_ aaB ?_
  ·have b:=e.2;rcases B6 (dm a1.agj 1=true)with hk|hk
   ·rw[cK hk] at b;rw[kY hk aa7];exact rm (EB T a b)
   rw[cI hk] at b;rcases B6 (dm a1.agj 2=true)with hk|hk
   ·rw[cK hk] at b;rw[kY hk aa7];exact rm (Dy T a b)
   rw[cI hk] at b;rcases B6 (dm a1.agj 3=true)with hk|hk
   ·rw[cK hk] at b;rw[kY hk aa7];exact rm (j.2.1 a b)
   rw[cI hk] at b;rcases B6 (dm a1.agj 4=true)with hk|hk
   ·rw[cK hk] at b;rw[kY hk aa7];exact rm (j.2.2.1 a b)
   rw[cI hk] at b;rcases B6 (dm a1.agj 5=true)with hk|hk
   ·rw[cK hk] at b;rw[kY hk aa7];exact rm (j.2.2.1 a b)
   rw[cI hk] at b;rcases B6 (dm a1.agj 6=true)with hk|hk
   ·rw[cK hk] at b;rw[kY hk aa7];exact rm (j.2.2.2.1 a b)
   rw[cI hk] at b;rcases B6 (dm a1.agj 7=true)with hk|hk
   ·rw[cK hk] at b;rw[kY hk aa7];exact rm (j.2.2.2.2.1 a b)
   rw[cI hk] at b;rcases B6 (dm a1.agj 8=true)with hk|hk
   ·rw[cK hk] at b;rw[kY hk aa7];exact rm (j.2.2.2.2.2.1 a b)
   rw[cI hk] at b;rcases B6 (dm a1.agj 12=true)with hk|hk
   ·rw[cK hk] at b;rw[kY hk aa7];exact rm (j.2.2.2.2.2.1 a b)
   rw[cI hk] at b;rcases B6 (dm a1.agj 9=true)with hk|hk
   ·rw[cK hk] at b;rw[kY hk aa7];exact rm (j.2.2.2.2.2.2.1 a b)
   rw[cI hk] at b;rcases B6 (dm a1.agj 13=true)with hk|hk
   ·rw[cK hk] at b;rw[kY hk aa7];exact rm (j.2.2.2.2.2.2.1 a b)
   rw[cI hk] at b;rcases B6 (dm a1.agj 10=true)with hk|hk
   ·rw[cK hk] at b;rw[kY hk aa7];exact rm (j.2.2.2.2.2.2.2.1 a b)
   rw[cI hk] at b;rcases B6 (dm a1.agj 14=true)with hk|hk
   ·rw[cK hk] at b;rw[kY hk aa7];exact rm (j.2.2.2.2.2.2.2.1 a b)
   rw[cI hk] at b;rcases B6 (dm a1.agj 11=true)with hk|hk
   ·rw[cK hk] at b;rw[kY hk aa7];exact rm (j.2.2.2.2.2.2.2.2.1 a b)
   rw[cI hk] at b;rcases B6 (dm a1.agj 15=true)with hk|hk
   ·rw[cK hk] at b;rw[kY hk aa7];exact rm (j.2.2.2.2.2.2.2.2.1 a b)
   rw[cI hk] at b;rcases B6 (dm a1.agj 16=true)with hk|hk
   ·rw[cK hk] at b;rw[kY hk aa7];exact rm (j.2.2.2.2.2.2.2.2.2.1 a b)
   rw[cI hk] at b;rcases B6 (dm a1.agj 17=true)with hk|hk
   ·rw[cK hk] at b;rw[kY hk aa7];exact rm (j.2.2.2.2.2.2.2.2.2.1 a b)
   rw[cI hk] at b;rcases B6 (dm a1.agj 18=true)with hk|hk
   ·rw[cK hk] at b;rw[kY hk aa7];exact rm (Ed T a b)
   rw[cI hk] at b;rcases B6 (dm a1.agj 19=true)with hk|hk
   ·rw[cK hk] at b;rw[kY hk aa7];exact rm (j.2.2.2.2.2.2.2.2.2.2.1 a b)
   rw[cI hk] at b;rcases B6 (dm a1.agj 20=true)with hk|hk
   ·rw[cK hk] at b;rw[kY hk aa7];exact rm (j.2.2.2.2.2.2.2.2.2.2.2.1 a b)
   rw[cI hk] at b;cases b
  simp[e];apply Iq e m<;>intro e m
  ·apply wg 999;exact au
  apply wg 5;simp[e];refine eI m (oN T l) λw m=>?_;simp[e];apply Iq e m<;>intro e m
  ·apply wg 999;exact au
  apply wg 2;simp[e];refine yU m 999 999 (λV f h=>∃M,(h=H/\bx f 6 [sI 0,sI 0,nL,nL,nL,AV.sc (.int .u32 0)]/\bx f 8 [sI v.cR.agj,sI v.cR.cO.agj,sL Ty.av v.cR.cO.agk,sL Tm.av v.cR.dc,sL Fm.av v.cR.agk,AV.sc (.int .u32 M)])/\V M=some (c,d)) ?_ (λV _ g m=>?_)
  ·rintro _ _ ⟨M,E,m⟩;have e:=Aj e E;exact au
  simp[e];refine ke m (Lk T l) λ_ x m=>?_;apply Ir e m<;>intro e m
  ·exact iO
  exact iO
 ·intro H a0 a1 a2 c d i a hm;rw[jW] at hm;have e:=Aj l a;refine wi ago func115 [] [] 999 ?_;have⟨y,e,m⟩:=fh e hm;simp[e];refine oA m (j.1 a) λk w m=>?_;refine Il e m λe m=>?_;have⟨x,e,m⟩:=fh e m;simp[e];refine oA m (j.1 a) λ_ _ m=>?_;refine Il e m λe m=>?_;simp[e];refine eO m KZ λ_ m=>?_;exact au
 ·intro H a0 a1 a2 c d i a hm;rw[gj] at hm;have e:=Aj l a;refine wi ago func116 [] [] 7 ?_;have⟨y,e,m⟩:=fh e hm;simp[e];refine oA m (j.2.2.2.2.2.2.2.2.2.2.2.2.1 a) λk w m=>?_;simp[e];apply Iq e m<;>intro e m
  ·apply wg 999;exact au
  apply wg 4;simp[e];refine OV 999 999 (λf h=>h=H/\f.1 10=sI (eH (dm a1.agj 5) 1 0)/\bx f 6 [sI 0,sI 0,nL,nL,nL,AV.sc (.int .u32 0)]/\bx f 8 [sI k.cR.agj,sI k.cR.cO.agj,sL Ty.av k.cR.cO.agk,sL Tm.av k.cR.dc,sL Fm.av k.cR.agk,AV.sc (.int .u32 k.eX)]) ?_ (λ_ g=>?_)
  ·rintro _ _ E;have e:=Aj e E;have⟨W,e,m⟩:=fh e m;exact au
  rcases Pb (dm a1.agj 5) e with e|e
  ·exact aj
  exact aj
 ·intro H a0 a1 a2 c d i a hm;rw[jV] at hm;have e:=Aj l a;refine wi ago func117 [] [] 999 ?_;have⟨A,e,m⟩:=fh e hm;simp[e];refine eI m kD λv m=>?_;refine Il e m λe m=>?_;simp[e];refine eI m qA λw m=>?_;refine Il e m λe m=>?_;have⟨N,e,m⟩:=fh e m;simp[e];refine eO m rh λ_ m=>?_;simp[e];refine oA m (j.1 a) λ_ _ m=>?_;refine Il e m λe m=>?_;simp[e];refine eO m KZ λ_ m=>?_;exact au
 ·intro H a0 a1 a2 c d i a hm;rw[jT] at hm;have e:=Aj l a;refine wi ago func118 [] [] 999 ?_;have⟨y,e,m⟩:=fh e hm;simp[e];refine oA m (j.2.2.2.2.2.2.2.2.2.2.2.2.1 a) λk w m=>?_;refine Il e m λe m=>?_;have⟨x,e,m⟩:=fh e m;simp[e];refine oA m (j.1 a) λ_ _ m=>?_;refine Il e m λe m=>?_;have⟨O,e,m⟩:=fh e m;simp[e];refine eO m (DX T l) λ_ m=>?_;refine Il e m λe m=>?_;have⟨F,e,m⟩:=fh e m;exact au
 ·intro H a0 a1 a2 c d i a hm;rw[fS] at hm;have e:=Aj l a;refine wi ago func119 [] [] 7 ?_;simp[e];refine eI hm qA λ_ m=>?_;simp[e];apply Iq e m<;>intro e m
  ·apply wg 999;exact au
  apply wg 7;have⟨W,e,m⟩:=fh e m;simp[e];refine eO m tw λ_ m=>?_;simp[e];refine oA m (j.1 a) λt _ m=>?_;simp[e];apply Iq e m<;>intro e m
  ·apply wg 999;exact au
  apply wg 4;simp[e];refine Wj m 999 999 (λG f h=>∃B,(h=H/\f.1 11=sI B/\bx f 4 (Pf.av a1).cells/\bx f 6 [sI 0,sI 0,nL,nL,nL,AV.sc (.int .u32 0)]/\bx f 9 [sI t.cR.agj,sI t.cR.cO.agj,sL Ty.av t.cR.cO.agk,sL Tm.av t.cR.dc,sL Fm.av t.cR.agk,AV.sc (.int .u32 t.eX)])/\G B=some (c,d)) (λG _ g m=>?_) ?_
  ·apply Ir e m<;>intro e m
   ·exact iO
   refine Il e m λe m=>?_;exact iO
  rintro _ _ ⟨B,E,m⟩;have e:=Aj e E;simp[e];refine eO m wC λ_ m=>?_;simp[e];refine eO m sy λ_ m=>?_;exact au
 ·intro H a0 a1 a2 c d i a hm;rw[fT] at hm;have e:=Aj l a;refine wi ago func120 [] [] 9 ?_;have⟨A,e,m⟩:=fh e hm;simp[e];refine ke m oD λC _ m=>?_;simp[e];apply Iq e m<;>intro e m
  ·apply wg 999;exact au
  apply wg 4;simp[e];refine eI m (BL T) λI m=>?_;simp[e];refine wj 999 999 (λf h=>h=H/\f.1 0=AV.eS i 0/\f.1 11=sI (eH (dm a1.agj 13) 6 4)/\f.1 12=AV.sc (.int .u32 (eH (dm a1.agj 13) 0 I))/\bx f 4 (Pf.av a1).cells/\bx f 5 [sI a2.eB.vars,sI a2.eB.agq,sL cP.av a2.agn,sL c_.av a2.known]/\bx f 6 [sI 0,sI 0,nL,nL,nL,AV.sc (.int .u32 0)]/\bx f 8 (Tm.av A).cells/\bx f 9 [sI C.cO.agj,sL Ty.av C.cO.agk,sI C.agl]) (λ_ g=>?_) ?_
  ·rcases Pb (dm a1.agj 13) e with e|e
   ·exact aj
   exact aj
  rintro _ _ E;have e:=Aj e E;have⟨Y,e,m⟩:=fh e m;simp[e];refine oA m (j.2.2.2.2.2.2.2.2.2.2.2.2.1 a) λ_ x m=>?_;refine Il e m λe m=>?_;simp[e];refine eI m uI λ_ m=>?_;refine Im e m λe m=>?_;have⟨Z,e,m⟩:=fh e m;simp[e];refine oA m (wK T l) λ_ _ m=>?_;exact au
 ·intro H a0 a1 a2 c d i a hm;rw[gk] at hm;have e:=Aj l a;refine wi ago func121 [] [] 999 ?_;have⟨I,e,m⟩:=fh e hm;have⟨aa,e,m⟩:=fh e m;apply Ir e m<;>intro e m
  ·simp[e];refine eI m kD λ_ m=>?_;refine Il e m λe m=>?_;refine Il e m λe m=>?_;simp[e];refine ke m oD λ_ _ m=>?_;refine Il e m λe m=>?_;simp[e];refine eI m uI λ_ m=>?_;refine Im e m λe m=>?_;have⟨P,e,m⟩:=fh e m;have⟨ab,e,m⟩:=fh e m;simp[e];refine oA m (j.2.2.2.2.2.2.2.2.2.2.2.2.2 a) λ_ _ m=>?_;refine Il e m λe m=>?_;simp[e];refine eO m (BL T) λ_ m=>?_;exact au
  simp[e];refine eI m kD λJ m=>?_;refine Il e m λe m=>?_;refine Il e m λe m=>?_;simp[e];refine ke m oD λ_ _ m=>?_;refine Il e m λe m=>?_;simp[e];refine eI m uI λ_ m=>?_;refine Im e m λe m=>?_;have⟨ad,e,m⟩:=fh e m;have⟨ae,e,m⟩:=fh e m;simp[e];refine oA m (j.2.2.2.2.2.2.2.2.2.2.2.2.2 a) λ_ Q m=>?_;refine Il e m λe m=>?_;simp[e];refine eO m Da λo m=>?_;exact au
 ·intro H a0 a1 a2 c d i a hm;rw[gh] at hm;have e:=Aj l a;refine wi ago func122 [] [] 6 ?_;simp[e];refine wj 999 5 (λf h=>h=H/\f.1 0=AV.eS i 0/\f.1 8=sB (dm a1.agj 15)/\f.1 9=sI (eH (dm a1.agj 15) 7 5)/\bx f 4 (Pf.av a1).cells/\bx f 5 [sI a2.eB.vars,sI a2.eB.agq,sL cP.av a2.agn,sL c_.av a2.known]/\bx f 6 [sI 0,sI 0,nL,nL,nL,AV.sc (.int .u32 0)]) (λ_ g=>?_) ?_
  ·rcases Pb (dm a1.agj 15) e with e|e
   ·exact aj
   exact aj
  rintro _ _ E;have e:=Aj e E;have⟨w,e,m⟩:=fh e hm;simp[e];refine oA m (j.2.2.2.2.2.2.2.2.2.2.2.2.1 a) λs _ m=>?_;simp[e];apply Iq e m<;>intro e m
  ·apply wg 999;exact au
  apply wg 7;simp[e];refine eI m qA λW m=>?_;simp[e];apply Iq e m<;>intro e m
  ·apply wg 999;exact au
  apply wg 7;have⟨Q,e,m⟩:=fh e m;simp[e];refine eO m tw λ_ m=>?_;have⟨O,e,m⟩:=fh e m;simp[e];refine eO m rh λ_ m=>?_;simp[e];refine oA m (j.1 a) λo _ m=>?_;simp[e];apply Iq e m<;>intro e m
  ·apply wg 999;exact au
  apply wg 7;simp[e];refine ke m (JA T l) λF R m=>?_;simp[e];apply Iq e m<;>intro e m
  ·apply wg 999;exact au
  apply wg 3;simp[e];refine wj 999 999 (λf h=>h=H/\f.1 82=sB (eH (dm a1.agj 15) (dw (pS .u32 o.eX 1) 0) false)/\bx f 6 [sI 0,sI 0,nL,nL,nL,AV.sc (.int .u32 0)]/\bx f 10 [sI s.cR.agj,sI s.cR.cO.agj,sL Ty.av s.cR.cO.agk,sL Tm.av s.cR.dc,sL Fm.av s.cR.agk,AV.sc (.int .u32 s.eX)]/\bx f 13 [sI o.cR.agj,sI o.cR.cO.agj,sL Ty.av o.cR.cO.agk,sL Tm.av o.cR.dc,sL Fm.av o.cR.agk,AV.sc (.int .u32 o.eX)]/\bx f 14 (Fm.av F).cells) (λ_ g=>?_) ?_
  ·rcases Pb (dm a1.agj 15) e with e|e
   ·exact aj
   exact aj
  rintro _ _ E;have e:=Aj e E;refine Il e m λe m=>?_;simp[e];refine eO m sy λS m=>?_;exact au
 ·intro H a0 a1 a2 c d i a hm;rw[lh] at hm;have e:=Aj l a;refine wi ago func123 [] [] 999 ?_;have⟨w,e,m⟩:=fh e hm;have⟨s,e,m⟩:=fh e m;simp[e];refine eO m Ek λJ m=>?_;simp[e];refine eO m p7 λ_ m=>?_;simp[e];refine eO m kD λ_ m=>?_;refine Il e m λe m=>?_;simp[e];refine eI m yD λ_ m=>?_;refine Il e m λe m=>?_;have⟨R,e,m⟩:=fh e m;simp[e];refine oA m (j.2.2.2.2.2.2.2.2.2.2.2.2.2 a) λ_ _ m=>?_;refine Il e m λe m=>?_;simp[e];refine eI m qA λ_ m=>?_;refine Il e m λe m=>?_;simp[e];refine eO m tw λ_ m=>?_;simp[e];refine eO m (pY T) λ_ m=>?_;simp[e];refine eO m rh λ_ m=>?_;have⟨af,e,m⟩:=fh e m;simp[e];refine eO m (pY T) λ_ m=>?_;simp[e];refine oA m (j.2.2.2.2.2.2.2.2.2.2.2.2.2 a) λ_ _ m=>?_;refine Il e m λe m=>?_;simp[e];refine ke m (wK T l) λ_ _ m=>?_;simp[e];refine eO m (BL T) λ_ m=>?_;simp[e];refine eO m sy λ_ m=>?_;exact au
 ·intro H a0 a1 a2 c d i a hm;rw[jE] at hm;have e:=Aj l a;refine wi ago func125 [] [] 999 ?_;have⟨A,e,m⟩:=fh e hm;simp[e];refine eO m pE λ_ m=>?_;simp[e];refine eO m p7 λ_ m=>?_;simp[e];refine eO m kD λ_ m=>?_;refine Il e m λe m=>?_;have⟨ah,e,m⟩:=fh e m;simp[e];refine oA m (j.2.2.2.2.2.2.2.2.2.2.2.2.1 a) λ_ _ m=>?_;refine Il e m λe m=>?_;have⟨S,e,m⟩:=fh e m;have⟨ai,e,m⟩:=fh e m;simp[e];refine oA m (j.2.2.2.2.2.2.2.2.2.2.2.2.2 a) λ_ _ m=>?_;refine Il e m λe m=>?_;have⟨ak,e,m⟩:=fh e m;simp[e];refine oA m (wK T l) λP _ m=>?_;exact au
 ·intro H a0 a1 a2 c d i a hm;rw[kQ] at hm;have e:=Aj l a;refine wi ago func126 [] [] 7 ?_;have⟨y,e,m⟩:=fh e hm;simp[e];refine oA m (j.2.2.2.2.2.2.2.2.2.2.2.2.1 a) λk w m=>?_;simp[e];apply Iq e m<;>intro e m
  ·apply wg 999;exact au
  apply wg 9;have⟨J,e,m⟩:=fh e m;simp[e];apply Iq e m<;>intro e m
  ·apply wg 999;exact au
  apply wg 7;simp[e];refine eI m Hx λx8 m=>?_;have⟨N,e,m⟩:=fh e m;simp[e];refine eI m (pY T) λ_ m=>?_;simp[e];refine eI m mH λ_ m=>?_;simp[e];refine eI m mH λ_ m=>?_;simp[e];refine eI m GM λ_ m=>?_;simp[e];refine ke m (wK T l) λU _ m=>?_;simp[e];refine Wj m 999 999 (λK f h=>∃D,(h=H/\f.1 63=sB D/\bx f 6 [sI 0,sI 0,nL,nL,nL,AV.sc (.int .u32 0)]/\bx f 8 [sI k.cR.agj,sI k.cR.cO.agj,sL Ty.av k.cR.cO.agk,sL Tm.av k.cR.dc,sL Fm.av k.cR.agk,AV.sc (.int .u32 k.eX)]/\bx f 10 (Fm.av k.cR).cells/\bx f 12 (Ty.av x8).cells/\bx f 13 (Fm.av U).cells)/\K D=some (c,d)) (λK _ g m=>?_) ?_
  ·apply Iq e m<;>intro e m
   ·exact iO
   simp[e];refine eI m Ge λ_ m=>?_;exact iO
  rintro _ _ ⟨D,E,m⟩;have e:=Aj e E;refine Il e m λe m=>?_;simp[e];refine eO m wC λ_ m=>?_;simp[e];refine eO m wC λ_ m=>?_;exact au
 ·intro H a0 a1 a2 a3 c d i a hm;rw[dA] at hm;have e:=Aj l a;refine wi ago func182 [] [] 5 ?_;simp[e];refine ke hm (j.1 a) λq u m=>?_;simp[e];refine OV 999 999 (λf h=>h=H/\f.1 11=sI u/\f.1 27=sB (eH (dm u 0) (dw q.cR.agj a3) false)/\bx f 8 [sI 0,sI 0,nL,nL,nL,AV.sc (.int .u32 0)]/\bx f 10 [sI q.cR.agj,sI q.cR.cO.agj,sL Ty.av q.cR.cO.agk,sL Tm.av q.cR.dc,sL Fm.av q.cR.agk,AV.sc (.int .u32 q.eX)]) ?_ (λ_ g=>?_)
  ·rintro _ _ E;have e:=Aj e E;refine Il e m λe m=>?_;exact au
  rcases Pb (dm u 0) e with e|e
  ·exact aj
  exact aj
 ·intro H a0 a1 a2 a3 a4 c d i a hm;rw[dD] at hm;have e:=Aj l a;refine wi ago func193 [] [] 999 ?_;simp[e];refine ke hm (j.1 a) λq u m=>?_;refine Il e m λe m=>?_;simp[e];refine ke m (wK T l) λ_ v m=>?_;refine Il e m λe m=>?_;simp[e];refine eO m (DX T l) λw m=>?_;exact au
def CW(T:ec)(e:rG T){H:dd}{a0:List Fm}{a1:Pf}{a2:cQ}{b:cM}{c:Int}{d:Nat}(a:KC H d a0){n:Nat}(hm:dB n a0 a1 a2=some (b,c)):dY prog T 68 [AV.eS d 0,Pf.av a1,cQ.av a2] H (AV.tuple [cM.av b,sI c]) H:=(CD T e n).1 a hm
def Tu{n:Nat}:C1 prog 132 (yx n) Tm.av Tm.av:=by
 refine i1 λn l=>v1 func132 λT H a0 r m e=>?_;rw[yx] at m;simp[e];refine eO m xh λj m=>?_;simp[e];refine Wr e m 999 (λk c f h=>∃a,(h=H/\f.1 15=sL Tm.av a0.agk/\f.1 16=sI (dn a0.agk)/\f.1 17=sI k/\bx f 2 [sI 0,sI 0,sI 0,nL,nL]/\bx f 3 [sI a0.agj,sI a0.agm,sI j.agj,sL Ty.av j.agk,sT a Tm.av c])/\Ow f [26] a c) (by exact⟨.full,aaN,jj.full⟩) (λc d _ _ E m=>?_) (λk _ c d _ _ _ _ E e m z p=>?_)
 ·have⟨a,E,b⟩:=E;have e:=Aj e E;dsimp only[cS]at m;exact au
 have⟨a,E,b⟩:=E;have e:=Aj e E;simp[e];refine eO m l λi m=>?_;have⟨e,m⟩:=Ck e m;simp[e];refine Ad (f:=Tm.av) c [i] b F1 e.2 ?_;simp[e];cases m;exact p _ _ _ ⟨(.loc 26 (d.fu 26+1)),aaN,(On 26)⟩ z
def FY:C2 prog 131 mB Tm.av Tm.av sI:=by
 refine v2 func131 λT H a0 a1 r m e=>?_;rw[mB] at m;simp[e];refine eI m Tu λ_ m=>?_;exact au
def I5:C1 prog 70 oJ Fm.av Fm.av:=by
 refine v1 func70 λT H a0 r m e=>?_;rw[oJ] at m;simp[e];refine ke m (p5 T (st:=λ_:Unit=>H) (Ee.const _) (λX _ _ _ _ _ h=>by obtain⟨a,rfl⟩:=vH h;exact FY a)) λ_ _ m=>?_;exact au
def Vj:mX prog 133=true:=by kernel_rfl
set_option maxHeartbeats 4000000 in
def Yn(x k idx:Nat)(w:World)(b:((x:Int)==0)=false)
  (key:bits BinOp.and IntKind.u32 (x:Int) (-(x:Int)%4294967296)*125613361%4294967296/134217728=(idx:Int))
  (hi:idx<32) (c:k<32) (a:w.cell? ⟨0,idx,none⟩=some (.int .u8 k)):Calls prog 133 #[.int .u32 x] w λe w'=>e=.returned (.int .i64 k)/\w'=w:=by
 go_enter func133,ntmps133
 go_wp2_with (simp only[key])
 go_ret
 exact⟨rfl,rfl⟩
set_option maxHeartbeats 4000000 in
def YA(w:World):Calls prog 133 #[.int .u32 0] w λe w'=>e=.returned (.int .i64 32)/\w'=w:=by
 go_enter func133,ntmps133
 go_wp2
 go_ret
 exact⟨rfl,rfl⟩
def Yh(n:Int):IntKind.u32.wrap n=n%4294967296:=by simp[IntKind.wrap,IntKind.signed,IntKind.bits]
def aaq(a b:Nat)(e:a<4294967296)(f:b<4294967296):bits .and .u32 (a:Int) (b:Int)=((a&&&b:Nat):Int):=by
 have g:a&&&b<2^32:=ab8 _ VW
 have c:(BitVec.ofInt 32 (a:Int)).toNat=a:=by
  rw[adB];omega
 have d:(BitVec.ofInt 32 (b:Int)).toNat=b:=by
  rw[adB];omega
 show IntKind.u32.wrap ((BitVec.ofInt 32 (a:Int)&&&BitVec.ofInt 32 (b:Int)).toNat:Int)=_;rw[abG,c,d,Yh];omega
def aaQ(x a:Nat)(c:x<4294967296)(d:x≠0)(b:x&&&(4294967296-x)=a):bits BinOp.and IntKind.u32 (x:Int) (-(x:Int)%4294967296)*125613361%4294967296/134217728=((a*125613361%4294967296/134217728:Nat):Int):=by
 have e:-(x:Int)%4294967296=((4294967296-x:Nat):Int):=VW
 rw[e,aaq x _ c VW,b];omega
def abw:∀j,j<32->kX[j]?=some ((Lib.deBruijn32tab.getD j 0:Nat):Int):=by decide+kernel
def ze(T:ec)(n:rG T){H:dd}{a0 g:Int}(hm:gY a0=some g):dY prog T 133 [AV.sc (.int .u32 a0)] H (sI g) H:=by
 unfold gY at hm
 split at hm
 case isFalse=>cases hm
 rename_i h;obtain⟨x,rfl⟩:∃x:Nat,a0=(x:Int):=⟨a0.toNat,VW⟩;obtain rfl:=gB hm
 have j:x<2^32:=VW
 rw[yz];refine dY.Ya Vj λG F w vs hg o=>?_
 obtain⟨v1,rfl,a⟩:∃v,vs=[v]/\ic F G H.length (AV.sc (.int .u32 (x:Int))) v:=by
  cases o with
  |cons a b=>cases b;exact⟨_,rfl,a⟩
 cases a;refine⟨_,.sc rfl,?_⟩
 by_cases c:x=0
 ·subst c;exact(YA w).mono λe w' ⟨a,b⟩=>⟨a,by rw[b];exact adw _ _⟩
 ·have⟨d,k⟩:=Lib.lowest_bit 32 x c j;have⟨hi,f⟩:=Lib.deBruijn32_at _ k;have p:=hg.F9 0 _ n.2.2;cases p with
  |nt a b r=>
   have l:=abw _ hi;rw[f] at l;have⟨v,q,h⟩:=a.get (i:=2^Lib.ctz 32 x*125613361%4294967296/134217728) (x:=.sc (.int .u8 (Lib.ctz 32 x:Int))) (by simp[AV.cells,l]);cases h;have m:=hg.JO _ _ _ (b _ _ q);rw[tG] at m;exact(Yn x (Lib.ctz 32 x) _ w aaP (aaQ x _ j c d) hi k m).mono λe w' ⟨a,b⟩=>⟨a,by rw[b];exact adw _ _⟩
def A6(T:ec)(d:rG T){H:dd}{a0:Int}{i:List Int}(hm:j6 a0=some i):dY prog T 71 [AV.sc (.int .u32 a0)] H (sL sI i) H:=by
 rw[j6] at hm;have e:=d;refine wi ago func71 [] [] 999 ?_;simp[e];refine Wn hm 999 (λs1 f h=>∃a,(h=H/\f.1 0=AV.sc (.int .u32 s1.1)/\f.1 3=sT a sI s1.2)/\Ow f [14] a s1.2) (by exact⟨.full,aaN,jj.full⟩) (λs1 fr2 _ _ _ _ E m z p=>?_);have⟨j,v9⟩:=s1;have⟨a,E,b⟩:=E;have e:=Aj e E;dsimp only[gD]at m;apply Ir e m<;>intro e m
 ·cases m;have m:=Qb z;dsimp only[gD]at m;exact au
 simp[e];refine eI m (ze T d) λc m=>?_;have⟨e,m⟩:=Ck e m;simp[e];refine Ao (f:=sI) v9 [c] b Vh e.2 ?_;simp[e];cases m;exact p _ _ _ ⟨(.loc 14 (fr2.fu 14+1)),aaN,(On 14)⟩ z
def Eg(T:ec)(a:rG T){H:dd}{a0:List Fm}{a1:Sq}{a2:Pf}{b:ur}{c:Int}(hm:jS a0 a1 a2=some (b,c)):dY prog T 35 [sL Fm.av a0,Sq.av a1,Pf.av a2] H (AV.tuple [ur.av b,sI c]) H:=by
 rw[jS] at hm;refine fl.xm (Post:=λx K=>x=AV.tuple [ur.av b,sI c]/\∃X,K=H++X) ?_ (λ_ _ h=>⟨_,h.2.choose_spec,by rw[h.1];simp[AV.low,AV.kx],h.1,rfl⟩);have e:=a;refine wi ago func35 [29] [] 999 ?_;simp[e];refine eI hm (JD T a) λ_ m=>?_;refine Il e m λe m=>?_;simp[e];refine eI m (Gh T a) λ_ m=>?_;refine Il e m λe m=>?_;simp[e];refine eI m (Mn T) λ_ m=>?_;simp[e];refine eO m MR λ_ m=>?_;simp[e];refine oA m (CW T a ⟨aaN,aaN⟩) λ_ _ m=>?_;refine Il e m λe m=>?_;simp[e];refine eO m I5 λ_ m=>?_;simp[e];refine eO m (A6 T a) λ_ m=>?_;exact au
def wq:C1 prog 33 eA sB Pf.av:=by
 refine u1 2 func33 λT H a0 r m e=>?_;rw[eA] at m;simp[e];refine OV 999 999 (λf h=>h=H/\f.1 2=sB (eH (dm a0.agj 8) (dm (dn a0.agk) 1) (eH (dm a0.agj 12) (dm (dn a0.agk) 1) false))) ?_ (λ_ g=>?_)
 ·rintro _ _ E;have e:=Aj e E;exact au
 rcases Pb (dm a0.agj 8) e with e|e
 ·exact aj
 rcases Pb (dm a0.agj 12) e with e|e
 ·exact aj
 exact aj
def Cg:C1 prog 72 oh sB sI:=by
 refine u1 2 func72 λT H a0 r m e=>?_;rw[oh] at m;simp[e];refine OV 999 999 (λf h=>h=H/\f.1 2=sB (eH (rZ a0 0) (A8 a0 4096) false)) ?_ (λ_ g=>?_)
 ·rintro _ _ E;have e:=Aj e E;exact au
 rcases Pb (rZ a0 0) e with e|e
 ·exact aj
 exact aj
def EU(T:ec){H:dd}{a0:Tm}{a1:Int}{a b:Bool}{q0:Nat}(c:H[q0]?=some [sB a])(hm:hO a0 a1 a=some b):dY prog T 135 [Tm.av a0,sI a1,AV.eS q0 0] H (AV.tuple []) (fH H q0 [sB b]):=by
 rw[hO] at hm;have d:=fI c;refine fl.Ph c ?_;have e:=d;refine wi ago func135 [] [] 999 ?_;refine Im e hm λe m=>?_;simp[e];refine eI m (KQ T) λ_ m=>?_;exact au
def G_(T:ec){H:dd}{a0:Fm}{a:Bool}(hm:nP a0=some a):dY prog T 73 [Fm.av a0] H (sB a) H:=by
 rw[nP] at hm;refine fl.xm (Post:=λx K=>x=sB a/\∃X,K=H++X) ?_ (λ_ _ h=>⟨_,h.2.choose_spec,by rw[h.1];simp[AV.low,AV.kx],h.1,rfl⟩);have e:=trivial;refine wi ago func73 [3] [] 999 ?_;simp[e];refine eI hm (D2 T (st:=λs:Bool=>H++[[sB s]]) (Ee.U3 H (λs:Bool=>[[sB s]]) 1 (λ_=>rfl) (by simp[AV.low,AV.kx])) (λX s _ _ b h=>by have:=EU T (H:=H++[[sB s]]++X) (q0:=(List.length H)) aaN h;simpa using this)) λ_ m=>?_;exact au
def MO(T:ec)(c:rG T){H:dd}{a0:Fm}{a1 a2:Int}{a:Fm}{b:Int}(hm:oV a0 a1 a2=some (a,b)):dY prog T 36 [Fm.av a0,sI a1,sI a2] H (AV.tuple [Fm.av a,sI b]) H:=by
 rw[oV] at hm;have e:=c;refine wi ago func36 [] [] 7 ?_;simp[e];refine eI hm (oN T c) λ_ m=>?_;simp[e];apply Iq e m<;>intro e m
 ·apply wg 999;exact au
 apply wg 3;simp[e];refine yU m 999 999 (λd f h=>∃v3,(h=H/\f.1 1=sI a1/\f.1 2=sI a2/\f.1 27=sB v3/\bx f 3 (Fm.av a0).cells/\bx f 6 [sI 0,sI 0,nL,nL,nL])/\d v3=some (a,b)) ?_ (λd _ g m=>?_)
 ·rintro _ _ ⟨v3,E,m⟩;have e:=Aj e E;refine Il e m λe m=>?_;simp[e];refine eI m (pY T) λ_ m=>?_;exact au
 simp[e];refine eI m Cg λ_ m=>?_;apply Ir e m<;>intro e m
 ·exact iO
 simp[e];refine eI m Cg λ_ m=>?_;apply Ir e m<;>intro e m
 ·exact iO
 simp[e];refine eI m (G_ T) λ_ m=>?_;exact iO
def JW(T:ec){H:dd}{a0:Int}{a:List Bool}{d:Int}{q0:Nat}(b:H[q0]?=some [sL sB a])(hm:mL a0 a=some d):dY prog T 38 [sI a0,AV.eS q0 0] H (sI d) H:=by
 rw[mL] at hm;have c:=fI b;have e:=Aj c b;refine wi ago func38 [] [] 999 ?_;have⟨f,e,m⟩:=fh e hm;refine Il e m λe m=>?_;exact au
def Ga(T:ec):∀(n:Nat),(∀{st:Unit->dd} {k:Nat} {a0:Pf} {a1:Int} {d:(Unit->Int->Option (Int×Unit))} {f:Unit} {j:Pf} {g:Unit} {q0:Nat} {q1:Nat} {h:Nat} {i:List AV} (hF:Ee st k) (b:∀s,(st s)[q0]?=some [AV.func (.func h) [] i]) (a:DP T h i st d) (c:∀s,(st s)[q1]?=some [AV.func (.func 75) [] [AV.eS q0 0,AV.eS q1 0]]) (hm:kG n a0 a1 d f=some (j,g)),dY prog T 75 [Pf.av a0,sI a1,AV.eS q0 0,AV.eS q1 0] (st f) (Pf.av j) (st g)):=by
 intro n
 induction n with
 |zero=>
  intro _ _ _ _ _ _ _ _ _ _ _ _ _ _ _ _ hm;cases hm
 |succ n p=>
  intro st k a0 a1 d f j g q0 q1 h i hF b a c hm;rw[kG] at hm;have l:=λs=>fI (b s);have o:=λs=>fI (c s);have e:=Aj (Aj (Aj (Aj hF.len l) b) o) c;refine wi ago func75 [] [(3,true,[])] 999 ?_;have⟨t,e,m⟩:=fh e hm;simp[e];refine Cf (wq e.2) ?_;rcases Io e m with⟨e,m⟩|⟨e,m⟩
  ·cases m;simp[e]
  have⟨u,v,e,m⟩:=Bo2 e m;have⟨w,e,m⟩:=fh e m;have⟨x,y,e,m⟩:=Bo2 e m;have q:=e.1.1.2;have r:=e.2;simp[e];refine oa.VE aa7 (DP.Yk a q) ⟨λ_=>rfl,λ_ _=>rfl⟩ ?_;simp[e];refine oa.VE aa7 (p hF b a c r) ⟨λ_=>rfl,λ_ _=>rfl⟩ ?_;cases m;simp[e];rw[Pf.fE];rfl
def Cu(T:ec){st:Unit->dd}{k:Nat}{a0:Pf}{a1:(Unit->Int->Option (Int×Unit))}{c:Unit}{d:Pf}{b:Unit}{g1:Nat}{a:List AV}(hF:Ee st k)(f:DP T g1 a st a1)(hm:lP a0 a1 c=some (d,b)):dY prog T 37 [Pf.av a0,AV.func (.func g1) [] a] (st c) (Pf.av d) (st b):=by
 rw[lP] at hm;refine fl.WZ hF (Post:=λx K=>x=Pf.av d/\∃X,K=(st b)++X) ?_ (λ_ _ h=>⟨_,h.2.choose,h.2.choose_spec,by rw[h.1];simp[AV.low,AV.kx],h.1,rfl⟩);have e:=hF.len;refine wi ago func37 [3,5] [] 999 ?_;simp[e];refine nM.VE aa7 (Ga T FU (st:=λs=>st s++[[AV.func (.func g1) [] a],[AV.func (.func 75) [] [AV.eS k 0,AV.eS (k+1) 0]]]) (Ee.ext hF _ (n:=k+2) aaB) (λ_=>aaN) (DP.ext f) (λ_=>aaN) hm) ?_;simp[e]
def wy(T:ec)(hT:rG T){H:dd}{a0:List Fm}{a1:Sq}{a2 r0:Pf}{r1:List Bool}{r2:Int}(hm:jR a0 a1 a2=some (r0,r1,r2)):dY prog T 16 [sL Fm.av a0,Sq.av a1,Pf.av a2] H (AV.tuple [Pf.av r0,sL sB r1,sI r2]) H:=by
 rw[jR] at hm;refine fl.xm (Post:=λx K=>x=AV.tuple [Pf.av r0,sL sB r1,sI r2]/\∃X,K=H++X) ?_ (λ_ _ h=>⟨_,h.2.choose_spec,by rw[h.1];simp[AV.low,AV.kx],h.1,rfl⟩);have e:=hT;refine wi ago func16 [] [(24,true,[])] 999 ?_;simp[e];refine ke hm (Eg T hT) λ_ _ m=>?_;refine Il e m λe m=>?_;simp[e];refine Wn m 3 (λI f h=>∃u G y,(h=H/\f.1 0=sL Fm.av a0/\bx f 5 (Pf.av a2).cells/\bx f 6 [sI 0,sI 0,sI 0,nL,nL,nL,nL]/\bx f 11 [sT u sB I.1]/\bx f 12 [sT G Ty.av I.2.1,sT y Fm.av I.2.2.1]/\bx f 13 [sI I.2.2.2.1,sI I.2.2.2.2.1,sI I.2.2.2.2.2.1,sL Ty.av I.2.2.2.2.2.2.1,sL Tm.av I.2.2.2.2.2.2.2.1,sL Fm.av I.2.2.2.2.2.2.2.2.1,sL Pf.av I.2.2.2.2.2.2.2.2.2])/\Ow f [109] u I.1) (by exact⟨.full,.jU,.jU,aaN,jj.full⟩) (λI ad _ _ _ c7 E m z p=>?_);have⟨v10,v11,v12,Q,R,v,w,S,U,V⟩:=I;have⟨u,G,y,E,Y⟩:=E;have e:=Aj e E;dsimp only[FQ]at m;simp[e];refine eI m wq λ_ m=>?_;simp[e];apply Ir e m<;>intro e m
 ·apply wg 3;cases m;have m:=Qb z;dsimp only[FQ]at m;simp[e];refine aaT 999 (d:=11) (cs:=[sT u sB v10]) aaN aaN ?_;simp[e];refine oA m (Cu T (st:=λ_:Unit=>H++[[sL sB v10]]) (Ee.const _) (λX _ _ _ _ h=>by obtain⟨ae,rfl⟩:=vH h;exact JW T (q0:=(List.length H)) aaN ae)) λ_ _ m=>?_;exact au
 apply wg 2;simp[e];refine yU m 999 999 (λZ f h=>∃M N n o q,(h=H/\f.1 0=sL Fm.av a0/\bx f 5 (Pf.av a2).cells/\bx f 6 [sI 0,sI 0,sI 0,nL,nL,nL,nL]/\bx f 11 [sT n sB M]/\bx f 12 [sT o Ty.av (eV v11 [(Ty.mk v w)]),sT q Fm.av N]/\bx f 13 [sI Q,sI R,sI v,sL Ty.av w,sL Tm.av S,sL Fm.av U,sL Pf.av V])/\Ow f [109] n M/\Ow f [53] o (eV v11 [(Ty.mk v w)])/\Ow f [71] q N/\Z M N=some c7) ?_ (λZ _ g m=>?_)
 ·rintro _ _ ⟨M,N,n,o,q,E,W,af,ah,m⟩;have e:=Aj e E;have⟨an,e,m⟩:=fh e m;simp[e];cases m;exact p _ _ _ ⟨n,o,q,aaN,W⟩ z
 have⟨e,m⟩:=Ck e m;simp[e];refine Ad (f:=Ty.av) v11 [(Ty.mk v w)] (jj.full (D:=[])) GR e.2 ?_;simp[e];refine FC e m 0 (λaa A f h=>∃r a s t b c,(h=H/\f.1 0=sL Fm.av a0/\f.1 56=sT r Fm.av v12/\f.1 57=sI (dn v12)/\f.1 58=sI aa/\bx f 5 (Pf.av a2).cells/\bx f 6 [sI 0,sI 0,sI 0,nL,nL,nL,nL]/\bx f 11 [sT a sB v10]/\bx f 12 [sT s Ty.av v11,sT t Fm.av v12]/\bx f 13 [sI Q,sI R,sI v,sL Ty.av w,sL Tm.av S,sL Fm.av U,sL Pf.av V]/\bx f 14 [sT b Ty.av (eV v11 [(Ty.mk v w)]),sT c Fm.av A])/\Ow f [109] a v10/\Ow f [53] b (eV v11 [(Ty.mk v w)])/\Ow f [71] c A) (by exact⟨y,u,G,y,(.loc 53 (ad.fu 53+1)),.full,aaN,(jj.other (D':=[]) (n':=0) Y jj.full aaa aaa),(On 53),jj.full⟩) (λaa _ A O _ _ _ _ E e m z p=>?_) (λA O _ _ E m=>?_)
 ·have⟨r,a,s,t,b,c,E,B,C,k⟩:=E;have e:=Aj e E;apply wg 999;simp[e];refine ke m (MO T hT) λai _ m=>?_;have⟨e,m⟩:=Ck e m;simp[e];refine Ao (f:=Fm.av) A [ai] k Jv e.2 ?_;simp[e];cases m;exact p _ _ _ ⟨r,a,s,t,b,(.loc 71 (O.fu 71+1)),aaN,(jj.other B k aaa aaa),(jj.other C k aaa aaa),(On 71)⟩ z
 have⟨r,a,s,t,b,c,E,B,C,k⟩:=E;have e:=Aj e E;apply wg 12;dsimp only[cS]at m;have⟨ao,e,m⟩:=fh e m;simp[e];refine oA m (Eg T hT) λ_ _ m=>?_;simp[e];apply Iq e m<;>intro e m
 ·apply wg 999;exact au
 apply wg 2;simp[e];refine Wj m 999 999 (λab f h=>∃v46 F i j,(h=H/\f.1 0=sL Fm.av a0/\f.1 21=sB v46/\bx f 5 (Pf.av a2).cells/\bx f 6 [sI 0,sI 0,sI 0,nL,nL,nL,nL]/\bx f 11 [sT F sB v10]/\bx f 12 [sT i Ty.av (eV v11 [(Ty.mk v w)]),sT j Fm.av A]/\bx f 13 [sI Q,sI R,sI v,sL Ty.av w,sL Tm.av S,sL Fm.av U,sL Pf.av V])/\Ow f [109] F v10/\Ow f [53] i (eV v11 [(Ty.mk v w)])/\Ow f [71] j A/\ab v46=some c7) (λab _ g m=>?_) ?_
 ·apply Ir e m<;>intro e m
  ·simp[e];exact g _ _ ⟨false,a,b,c,aaN,B,C,k,m⟩
  have⟨ak,e,m⟩:=fh e m;simp[e];exact g _ _ ⟨(dm ak 0),a,b,c,aaN,B,C,k,m⟩
 rintro P _ ⟨v46,F,i,j,E,l,J,L,m⟩;have e:=Aj e E;apply Iq e m<;>intro e m
 ·have⟨e,m⟩:=Ck e m;simp[e];refine Ao (f:=sB) v10 [true] l Ym e.2 ?_;simp[e];exact g _ _ ⟨(eV v10 [true]),A,(.loc 109 (P.fu 109+1)),i,j,aaN,(On 109),(jj.other J l aaa aaa),(jj.other L l aaa aaa),m⟩
 have⟨e,m⟩:=Ck e m;simp[e];refine Ao (f:=sB) v10 [(m9 v46)] l Ym e.2 ?_;simp[e];exact g _ _ ⟨(eV v10 [(m9 v46)]),A,(.loc 109 (P.fu 109+1)),i,j,aaN,(On 109),(jj.other J l aaa aaa),(jj.other L l aaa aaa),m⟩
def Jx:C1 prog 44 ti sI sI:=by
 refine v1 func44 λT H a0 r m e=>?_;rw[ti] at m;exact au
def Af(T:ec)(a:rG T){H:dd}{a0 b:Pf}{c:Int}(hm:mz a0=some (b,c)):dY prog T 20 [Pf.av a0] H (AV.tuple [Pf.av b,sI c]) H:=by
 rw[mz] at hm;have e:=a;refine wi ago func20 [] [] 999 ?_;simp[e];refine eI hm (Gh T a) λ_ m=>?_;refine Il e m λe m=>?_;simp[e];refine ke m (Cu T (st:=λ_:Unit=>H) (Ee.const _) (λX _ _ _ _ h=>by obtain⟨d,rfl⟩:=vH h;exact Jx d)) λ_ _ m=>?_;exact au
def lD{n:Nat}:C1 prog 86 (jq n) Ty.av Ty.av:=by
 refine i1 λn j=>v1 func86 λT H a0 r m e=>?_;rw[jq] at m;simp[e];refine Wr e m 999 (λi s2 f h=>∃a,(h=H/\f.1 3=sT a Ty.av s2/\f.1 7=sL Ty.av a0.agk/\f.1 8=sI (dn a0.agk)/\f.1 9=sI i/\bx f 1 (Ty.av a0).cells/\bx f 2 [sI 0,nL])/\Ow f [17] a s2) (by exact⟨.full,aaN,jj.full⟩) (λs2 c _ _ E m=>?_) (λi _ s2 c _ _ _ _ E e m z p=>?_)
 ·have⟨a,E,b⟩:=E;have e:=Aj e E;dsimp only[cS]at m;exact au
 have⟨a,E,b⟩:=E;have e:=Aj e E;simp[e];refine eI m j λd m=>?_;have⟨e,m⟩:=Ck e m;simp[e];refine Ao (f:=Ty.av) s2 [d] b GR e.2 ?_;simp[e];cases m;exact p _ _ _ ⟨(.loc 17 (c.fu 17+1)),aaN,(On 17)⟩ z
def oX{n:Nat}:C1 prog 87 (j8 n) Tm.av Tm.av:=by
 refine i1 λn j=>v1 func87 λT H a0 r m e=>?_;rw[j8] at m;simp[e];refine Wr e m 999 (λi s2 f h=>∃a,(h=H/\f.1 3=sT a Tm.av s2/\f.1 7=sL Tm.av a0.agk/\f.1 8=sI (dn a0.agk)/\f.1 9=sI i/\bx f 1 (Tm.av a0).cells/\bx f 2 [sI 0,sI 0,sI 0,nL,nL])/\Ow f [17] a s2) (by exact⟨.full,aaN,jj.full⟩) (λs2 c _ _ E m=>?_) (λi _ s2 c _ _ _ _ E e m z p=>?_)
 ·have⟨a,E,b⟩:=E;have e:=Aj e E;dsimp only[cS]at m;simp[e];refine eO m lD λ_ m=>?_;exact au
 have⟨a,E,b⟩:=E;have e:=Aj e E;simp[e];refine eI m j λd m=>?_;have⟨e,m⟩:=Ck e m;simp[e];refine Ao (f:=Tm.av) s2 [d] b F1 e.2 ?_;simp[e];cases m;exact p _ _ _ ⟨(.loc 17 (c.fu 17+1)),aaN,(On 17)⟩ z
def gL:C2 prog 54 eQ Tm.av sI (sL Tm.av):=by
 refine v2 func54 λT H a0 a1 r m e=>?_;rw[eQ] at m;simp[e];refine Wr e m 999 (λi s2 f h=>∃a,(h=H/\f.1 0=sI a0/\f.1 5=sT a Tm.av s2/\f.1 8=sL Tm.av a1/\f.1 9=sI (dn a1)/\f.1 10=sI i/\bx f 4 [sI 0,sI 0,sI 0,nL,nL])/\Ow f [18] a s2) (by exact⟨.full,aaN,jj.full⟩) (λs2 c _ _ E m=>?_) (λi _ s2 c _ _ _ _ E e m z p=>?_)
 ·have⟨a,E,b⟩:=E;have e:=Aj e E;dsimp only[cS]at m;exact au
 have⟨a,E,b⟩:=E;have e:=Aj e E;simp[e];refine eI m oX λd m=>?_;have⟨e,m⟩:=Ck e m;simp[e];refine Ao (f:=Tm.av) s2 [d] b F1 e.2 ?_;simp[e];cases m;exact p _ _ _ ⟨(.loc 18 (c.fu 18+1)),aaN,(On 18)⟩ z
def qQ:C2 prog 53 mf Fm.av Tm.av Tm.av:=by
 refine v2 func53 λT H a0 a1 r m e=>?_;rw[mf] at m;simp[e];refine eO m oX λa m=>?_;simp[e];refine eO m oX λb m=>?_;have e:=Aj e (show AV.agg [sI 1,sI 0,AV.slice .jU [],AV.slice .jU [Tm.av a,Tm.av b],AV.slice .jU []]=Fm.av (Fm.mk 1 (Ty.mk 0 []) [a,b] []) by rw[Fm.fE];rfl);exact au
def Ol:C0 prog 26 uf Fm.av:=by
 refine v0 func26 λT H r m e=>?_;rw[uf] at m;simp[e];refine eI m gL λ_ m=>?_;simp[e];refine eI m gL λ_ m=>?_;simp[e];refine eI m gL λ_ m=>?_;simp[e];refine eI m qQ λ_ m=>?_;exact au
def Hq(T:ec)(d:rG T):∀(n:Nat),(∀{H:dd} {a0:Fm} {a1:List Bool} {a:Fm} {b:Int} (hm:fW n a0 a1=some (a,b)),dY prog T 23 [Fm.av a0,sL sB a1] H (AV.tuple [Fm.av a,sI b]) H):=by
  intro n
  induction n with
  |zero=>
    skip
    all_goals(intro _ _;intros;rename_i hm;cases hm)
  |succ n j=>
 intro H a0 a1 a b hm;rw[fW] at hm;have e:=d;refine wi ago func23 [] [] 7 ?_;simp[e];refine eI hm (oN T d) λ_ m=>?_;simp[e];apply Iq e m<;>intro e m
 ·apply wg 999;exact au
 apply wg 5;simp[e];apply Iq e m<;>intro e m
 ·apply wg 999;exact au
 apply wg 3;simp[e];refine wj 999 0 (λf h=>h=H/\f.1 1=sL sB a1/\f.1 27=sB (eH (dw a0.agj 4) (dw a0.agj 6) false)/\bx f 2 (Fm.av a0).cells/\bx f 4 [sI 0,sI 0,nL,nL,nL]) (λ_ g=>?_) ?_
 ·rcases Pb (dw a0.agj 4) e with e|e
  ·exact aj
  exact aj
 rintro _ _ E;have e:=Aj e E;apply Iq e m<;>intro e m
 ·apply wg 999;exact au
 apply wg 7;have⟨l,e,m⟩:=fh e m;have⟨o,e,m⟩:=fh e m;simp[e];refine oA m j λc _ m=>?_;simp[e];apply Iq e m<;>intro e m
 ·apply wg 999;exact au
 apply wg 4;simp[e];refine Wj m 999 999 (λi f h=>∃v10,(h=H/\f.1 9=sI v10/\bx f 2 (Fm.av a0).cells/\bx f 4 [sI 0,sI 0,nL,nL,nL]/\bx f 7 (Fm.av c).cells)/\i v10=some (a,b)) (λi _ g m=>?_) ?_
 ·have⟨k,e,m⟩:=fh e m;apply Iq e m<;>intro e m
  ·exact iO
  exact iO
 rintro _ _ ⟨v10,E,m⟩;have e:=Aj e E;have e:=Aj e (show AV.agg [sI v10,sI a0.cO.agj,sL Ty.av a0.cO.agk,AV.slice .jU [],AV.slice .jU [Fm.av c]]=Fm.av (Fm.mk v10 a0.cO [] [c]) by rw[Fm.fE];rfl);exact au
def s9(T:ec)(c:rG T){H:dd}{a0:Fm}{a1:List Bool}{a:Fm}{b:Int}{n:Nat}(hm:fW n a0 a1=some (a,b)):dY prog T 23 [Fm.av a0,sL sB a1] H (AV.tuple [Fm.av a,sI b]) H:=(Hq T c n) hm
def vg:C1 prog 14 jJ sI Pf.av:=by
 refine v1 func14 λT H a0 r m e=>?_;rw[jJ] at m;simp[e];refine Wn m 999 (λs1 f h=>h=H/\f.1 3=sI s1.1/\bx f 1 [sI s1.2.1,sI s1.2.2.1,sI s1.2.2.2.1,sL Ty.av s1.2.2.2.2.1,sL Tm.av s1.2.2.2.2.2.1,sL Fm.av s1.2.2.2.2.2.2.1,sL Pf.av s1.2.2.2.2.2.2.2]) aaN (λs1 _ _ _ _ _ E m z p=>?_);have⟨i,v9,v10,v11,v12,a,b,c⟩:=s1;have e:=Aj e E;dsimp only[PQ]at m;simp[e];refine eI m wq λ_ m=>?_;apply Ir e m<;>intro e m
 ·cases m;have m:=Qb z;dsimp only[PQ]at m;exact au
 have⟨d,e,m⟩:=fh e m;exact al
def ym(T:ec)(a:rG T){H:dd}{b:Bool}(hm:pg=some b):dY prog T 5 [] H (sB b) H:=by
 rw[pg] at hm;have e:=a;refine wi ago func5 [] [] 12 ?_;have e:=Aj e (show AV.agg [sI 18,sI 0,sI 0,AV.slice .jU [],AV.slice .jU [Tm.av (Tm.mk 1 0 (Ty.mk 0 []) [])],AV.slice .jU [],AV.slice .jU []]=Pf.av (Pf.mk 18 0 (Ty.mk 0 []) [(Tm.mk 1 0 (Ty.mk 0 []) [])] [] []) by rw[Pf.fE];rfl);have e:=Aj e (show AV.agg [sI 8,sI 0,sI 1,AV.slice .jU [],AV.slice .jU [],AV.slice .jU [],AV.slice .jU [Pf.av (Pf.mk 18 0 (Ty.mk 0 []) [(Tm.mk 1 0 (Ty.mk 0 []) [])] [] [])]]=Pf.av (Pf.mk 8 0 (Ty.mk 1 []) [] [] [(Pf.mk 18 0 (Ty.mk 0 []) [(Tm.mk 1 0 (Ty.mk 0 []) [])] [] [])]) by rw[Pf.fE];rfl);simp[e];refine KE hm (wy T a) λ_ _ _ m=>?_;simp[e];refine ke m (Af T a) λ_ _ m=>?_;simp[e];refine eO m Ol λc m=>?_;have e:=Aj e (show AV.agg [sI 4,sI 1,AV.slice .jU [],AV.slice .jU [],AV.slice .jU [Fm.av c]]=Fm.av (Fm.mk 4 (Ty.mk 1 []) [] [c]) by rw[Fm.fE];rfl);simp[e];refine oA m (s9 T a) λ_ _ m=>?_;simp[e];refine yU m 999 999 (λd f h=>∃v10,(h=H/\f.1 0=sB v10)/\d v10=some b) ?_ (λd _ g m=>?_)
 ·rintro _ _ ⟨v10,E,m⟩;have e:=Aj e E;exact au
 apply Ir e m<;>intro e m
 ·exact iO
 apply Ir e m<;>intro e m
 ·exact iO
 apply Ir e m<;>intro e m
 ·exact iO
 apply Ir e m<;>intro e m
 ·exact iO
 have⟨i,e,m⟩:=fh e m;apply Ir e m<;>intro e m
 ·exact iO
 apply Ir e m<;>intro e m
 ·exact iO
 apply Ir e m<;>intro e m
 ·exact iO
 apply Ir e m<;>intro e m
 ·exact iO
 have e:=Aj e (show AV.agg [sI 8,sI 0,sI 1,AV.slice .jU [],AV.slice .jU [],AV.slice .jU [],AV.slice .jU [Pf.av (Pf.mk 18 0 (Ty.mk 0 []) [(Tm.mk 1 0 (Ty.mk 0 []) [])] [] [])]]=Pf.av (Pf.mk 8 0 (Ty.mk 1 []) [] [] [(Pf.mk 18 0 (Ty.mk 0 []) [(Tm.mk 1 0 (Ty.mk 0 []) [])] [] [])]) by rw[Pf.fE];rfl);simp[e];refine eI m vg λ_ m=>?_;exact iO
def RO:C1 prog 6 Ft sB (sL sI):=by
 refine v1 func6 λT H a0 r m e=>?_;rw[Ft] at m;exact au
def P8:C0 prog 7 DO eE.av:=by
 refine v0 func7 λT H r m e=>?_;rw[DO] at m;exact au
def wX:C1 prog 11 n9 sB eE.av:=by
 refine v1 func11 λT H a0 r m e=>?_;rw[n9] at m;exact au
def w9{n:Nat}:C2 prog 55 (mT n) sI Ty.av sI:=by
 refine i2 λn b=>v2 func55 λT H a0 a1 r m e=>?_;rw[mT] at m;simp[e];refine Wn m 1 (λs1 f h=>h=H/\f.1 1=sI a1/\f.1 5=sI s1.1/\f.1 6=sI s1.2/\bx f 2 (Ty.av a0).cells) aaN (λs1 _ _ _ _ _ E m z p=>?_);have⟨a,v9⟩:=s1;have e:=Aj e E;dsimp only[gD]at m;simp[e];refine wj 999 999 (λf h=>h=H/\f.1 1=sI a1/\f.1 5=sI a/\f.1 6=sI v9/\f.1 16=sB (eH (pP v9 (dn a0.agk)) (A8 a a1) false)/\bx f 2 (Ty.av a0).cells) (λ_ g=>?_) ?_
 ·rcases Pb (pP v9 (dn a0.agk)) e with e|e
  ·exact aj
  exact aj
 rintro _ _ E;have e:=Aj e E;apply Ir e m<;>intro e m
 ·cases m;have m:=Qb z;dsimp only[gD]at m;exact au
 have⟨c,e,m⟩:=fh e m;simp[e];refine eI m b λ_ m=>?_;exact al
def En{n:Nat}:C2 prog 56 (nX n) sI Tm.av sI:=by
 refine i2 λn a=>v2 func56 λT H a0 a1 r m e=>?_;rw[nX] at m;simp[e];refine eI m w9 λ_ m=>?_;simp[e];refine Wn m 1 (λs2 f h=>h=H/\f.1 1=sI a1/\f.1 5=sI s2.1/\f.1 6=sI s2.2/\bx f 2 (Tm.av a0).cells) aaN (λs2 _ _ _ _ _ E m z p=>?_);have⟨v9,v10⟩:=s2;have e:=Aj e E;dsimp only[gD]at m;simp[e];refine wj 999 999 (λf h=>h=H/\f.1 1=sI a1/\f.1 5=sI v9/\f.1 6=sI v10/\f.1 22=sB (eH (pP v10 (dn a0.agk)) (A8 v9 a1) false)/\bx f 2 (Tm.av a0).cells) (λ_ g=>?_) ?_
 ·rcases Pb (pP v10 (dn a0.agk)) e with e|e
  ·exact aj
  exact aj
 rintro _ _ E;have e:=Aj e E;apply Ir e m<;>intro e m
 ·cases m;have m:=Qb z;dsimp only[gD]at m;exact au
 have⟨b,e,m⟩:=fh e m;simp[e];refine eI m a λ_ m=>?_;exact al
def Bc{n:Nat}:C2 prog 29 (lu n) sI Fm.av sI:=by
 refine i2 λn c=>v2 func29 λT H a0 a1 r m e=>?_;rw[lu] at m;simp[e];refine eI m w9 λ_ m=>?_;simp[e];refine Wn m 1 (λs2 f h=>h=H/\f.1 1=sI a1/\f.1 5=sI s2.1/\f.1 6=sI s2.2/\bx f 2 (Fm.av a0).cells) aaN (λs2 _ _ _ _ _ E m z p=>?_);have⟨v9,v10⟩:=s2;have e:=Aj e E;dsimp only[gD]at m;simp[e];refine wj 999 999 (λf h=>h=H/\f.1 1=sI a1/\f.1 5=sI v9/\f.1 6=sI v10/\f.1 23=sB (eH (pP v10 (dn a0.dc)) (A8 v9 a1) false)/\bx f 2 (Fm.av a0).cells) (λ_ g=>?_) ?_
 ·rcases Pb (pP v10 (dn a0.dc)) e with e|e
  ·exact aj
  exact aj
 rintro _ _ E;have e:=Aj e E;apply Iq e m<;>intro e m
 ·have⟨d,e,m⟩:=fh e m;simp[e];refine eI m En λ_ m=>?_;exact al
 cases m;have m:=Qb z;dsimp only[gD]at m;simp[e];refine Wn m 1 (λa f h=>h=H/\f.1 1=sI a1/\f.1 5=sI a.1/\f.1 7=sI a.2/\bx f 2 (Fm.av a0).cells) aaN (λa _ _ _ _ _ E m z p=>?_);have⟨b,v24⟩:=a;have e:=Aj e E;dsimp only[gD]at m;simp[e];refine wj 999 999 (λf h=>h=H/\f.1 1=sI a1/\f.1 5=sI b/\f.1 7=sI v24/\f.1 46=sB (eH (pP v24 (dn a0.agk)) (A8 b a1) false)/\bx f 2 (Fm.av a0).cells) (λ_ g=>?_) ?_
 ·rcases Pb (pP v24 (dn a0.agk)) e with e|e
  ·exact aj
  exact aj
 rintro _ _ E;have e:=Aj e E;apply Ir e m<;>intro e m
 ·cases m;have m:=Qb z;dsimp only[gD]at m;exact au
 have⟨i,e,m⟩:=fh e m;simp[e];refine eI m c λ_ m=>?_;exact al
def Li{n:Nat}:C2 prog 27 (o9 n) sI Pf.av sI:=by
 refine i2 λn i=>v2 func27 λT H a0 a1 r m e=>?_;rw[o9] at m;simp[e];refine eI m w9 λ_ m=>?_;simp[e];refine Wn m 1 (λs2 f h=>h=H/\f.1 1=sI a1/\f.1 5=sI s2.1/\f.1 6=sI s2.2/\bx f 2 (Pf.av a0).cells) aaN (λs2 _ _ _ _ _ E m z p=>?_);have⟨v9,v10⟩:=s2;have e:=Aj e E;dsimp only[gD]at m;simp[e];refine wj 999 999 (λf h=>h=H/\f.1 1=sI a1/\f.1 5=sI v9/\f.1 6=sI v10/\f.1 24=sB (eH (pP v10 (dn a0.dc)) (A8 v9 a1) false)/\bx f 2 (Pf.av a0).cells) (λ_ g=>?_) ?_
 ·rcases Pb (pP v10 (dn a0.dc)) e with e|e
  ·exact aj
  exact aj
 rintro _ _ E;have e:=Aj e E;apply Iq e m<;>intro e m
 ·have⟨j,e,m⟩:=fh e m;simp[e];refine eI m En λ_ m=>?_;exact al
 cases m;have m:=Qb z;dsimp only[gD]at m;simp[e];refine Wn m 1 (λa f h=>h=H/\f.1 1=sI a1/\f.1 5=sI a.1/\f.1 7=sI a.2/\bx f 2 (Pf.av a0).cells) aaN (λa _ _ _ _ _ E m z p=>?_);have⟨d,v24⟩:=a;have e:=Aj e E;dsimp only[gD]at m;simp[e];refine wj 999 999 (λf h=>h=H/\f.1 1=sI a1/\f.1 5=sI d/\f.1 7=sI v24/\f.1 47=sB (eH (pP v24 (dn a0.eo)) (A8 d a1) false)/\bx f 2 (Pf.av a0).cells) (λ_ g=>?_) ?_
 ·rcases Pb (pP v24 (dn a0.eo)) e with e|e
  ·exact aj
  exact aj
 rintro _ _ E;have e:=Aj e E;apply Iq e m<;>intro e m
 ·have⟨k,e,m⟩:=fh e m;simp[e];refine eI m Bc λ_ m=>?_;exact al
 cases m;have m:=Qb z;dsimp only[gD]at m;simp[e];refine Wn m 1 (λb f h=>h=H/\f.1 1=sI a1/\f.1 5=sI b.1/\f.1 8=sI b.2/\bx f 2 (Pf.av a0).cells) aaN (λb _ _ _ _ _ E m z p=>?_);have⟨v37,c⟩:=b;have e:=Aj e E;dsimp only[gD]at m;simp[e];refine wj 999 999 (λf h=>h=H/\f.1 1=sI a1/\f.1 5=sI v37/\f.1 8=sI c/\f.1 70=sB (eH (pP c (dn a0.agk)) (A8 v37 a1) false)/\bx f 2 (Pf.av a0).cells) (λ_ g=>?_) ?_
 ·rcases Pb (pP c (dn a0.agk)) e with e|e
  ·exact aj
  exact aj
 rintro _ _ E;have e:=Aj e E;apply Ir e m<;>intro e m
 ·cases m;have m:=Qb z;dsimp only[gD]at m;exact au
 have⟨l,e,m⟩:=fh e m;simp[e];refine eI m i λ_ m=>?_;exact al
def Ji:C2 prog 8 tL eE.av eE.av (sL Pf.av):=by
 refine v2 func8 λT H a0 a1 r m e=>?_;rw[tL] at m;simp[e];refine Wn m 1 (λs1 f h=>h=H/\f.1 1=sL Pf.av a1/\f.1 5=sI s1.1/\bx f 2 [sI s1.2]/\bx f 4 [sI 0]) aaN (λs1 _ _ _ _ c5 E m z p=>?_);have⟨b,v9⟩:=s1;have e:=Aj e E;dsimp only[gD]at m;simp[e];refine Wj m 999 999 (λa f h=>∃v11,(h=H/\f.1 1=sL Pf.av a1/\f.1 5=sI b/\f.1 13=sB v11/\bx f 2 [sI v9]/\bx f 4 [sI 0])/\a v11=some c5) (λa _ g m=>?_) ?_
 ·apply Ir e m<;>intro e m
  ·exact iO
  simp[e];refine eI m wX λ_ m=>?_;exact iO
 rintro _ _ ⟨v11,E,m⟩;have e:=Aj e E;apply Ir e m<;>intro e m
 ·cases m;have m:=Qb z;dsimp only[gD]at m;exact au
 have⟨c,e,m⟩:=fh e m;simp[e];refine eO m Li λ_ m=>?_;exact al
def Ll:C2 prog 28 u9 eE.av eE.av (sL Ty.av):=by
 refine v2 func28 λT H a0 a1 r m e=>?_;rw[u9] at m;simp[e];refine Wn m 1 (λs1 f h=>h=H/\f.1 1=sL Ty.av a1/\f.1 5=sI s1.1/\bx f 2 [sI s1.2]/\bx f 4 [sI 0]) aaN (λs1 _ _ _ _ c5 E m z p=>?_);have⟨b,v9⟩:=s1;have e:=Aj e E;dsimp only[gD]at m;simp[e];refine Wj m 999 999 (λa f h=>∃v11,(h=H/\f.1 1=sL Ty.av a1/\f.1 5=sI b/\f.1 13=sB v11/\bx f 2 [sI v9]/\bx f 4 [sI 0])/\a v11=some c5) (λa _ g m=>?_) ?_
 ·apply Ir e m<;>intro e m
  ·exact iO
  simp[e];refine eI m wX λ_ m=>?_;exact iO
 rintro _ _ ⟨v11,E,m⟩;have e:=Aj e E;apply Ir e m<;>intro e m
 ·cases m;have m:=Qb z;dsimp only[gD]at m;exact au
 have⟨c,e,m⟩:=fh e m;simp[e];refine eO m w9 λ_ m=>?_;exact al
def z_:C2 prog 10 pB eE.av eE.av (sL Fm.av):=by
 refine v2 func10 λT H a0 a1 r m e=>?_;rw[pB] at m;simp[e];refine Wn m 1 (λs1 f h=>h=H/\f.1 1=sL Fm.av a1/\f.1 5=sI s1.1/\bx f 2 [sI s1.2]/\bx f 4 [sI 0]) aaN (λs1 _ _ _ _ c5 E m z p=>?_);have⟨b,v9⟩:=s1;have e:=Aj e E;dsimp only[gD]at m;simp[e];refine Wj m 999 999 (λa f h=>∃v11,(h=H/\f.1 1=sL Fm.av a1/\f.1 5=sI b/\f.1 13=sB v11/\bx f 2 [sI v9]/\bx f 4 [sI 0])/\a v11=some c5) (λa _ g m=>?_) ?_
 ·apply Ir e m<;>intro e m
  ·exact iO
  simp[e];refine eI m wX λ_ m=>?_;exact iO
 rintro _ _ ⟨v11,E,m⟩;have e:=Aj e E;apply Ir e m<;>intro e m
 ·cases m;have m:=Qb z;dsimp only[gD]at m;exact au
 have⟨c,e,m⟩:=fh e m;simp[e];refine eO m Bc λ_ m=>?_;exact al
def HE:C2 prog 9 um eE.av eE.av Sq.av:=by
 refine v2 func9 λT H a0 a1 r m e=>?_;rw[um] at m;simp[e];refine eO m Ll λ_ m=>?_;simp[e];refine eO m z_ λ_ m=>?_;exact au
def VT:mX prog 12=true:=by kernel_rfl
def QR(T:ec){a0:List Int}{b:c9}(hm:Ml a0=some b):dY prog T 12 [AV.slice .jU (List.map (λn=>AV.sc (Value.int .i64 n)) a0)] [] (AV.eS 0 0) (fH [[]] 0 [AV.slice .jU (List.map (λn=>AV.sc (Value.int .i64 n)) b.l),AV.sc (.int .i64 b.rB)]):=by
 obtain rfl:=gB hm;refine fl.intro (fn:=f12) func12 rfl VT (G4 rfl) ?_;refine gM.yV λc a=>?_;refine gM.region [] aa6 ?_;simp;refine a _ _ ?_;refine gM.yV λc a=>?_;refine gM.region [5] aa6 ?_;simp;refine a _ _ ?_;refine gM.ret ?_;simp[Ai,fH]
def W3:C2 prog 57 Hs sI sI sI:=by
 refine v2 func57 λT H a0 a1 r m e=>?_;rw[Hs] at m;have⟨e,m⟩:=Ck e m;have⟨e,m⟩:=Ck e m;exact au
def gf(T:ec){H:dd}{a0:c9}{a1 i:Int}{a:c9}{b:Nat}(c:H[b]?=some [sL sI a0.l,sI a0.rB])(hm:fB a0 a1=some (i,a)):dY prog T 30 [AV.eS b 0,sI a1] H (sI i) (fH H b [sL sI a.l,sI a.rB]):=by
 rw[fB] at hm;have d:=fI c;refine fl.Ph c ?_;have e:=d;refine wi ago func30 [] [(1,true,[]),(3,true,[])] 3 ?_;simp[e];refine wj 999 999 (λf h=>h=fH H b [sL sI a0.l,sI a0.rB]/\f.1 0=AV.eS b 0/\f.1 1=sI a1/\f.1 19=sB (eH (pP a1 1) true (rZ a0.rB (dn a0.l)))) (λ_ g=>?_) ?_
 ·rcases Pb (pP a1 1) e with e|e
  ·exact aj
  exact aj
 rintro _ _ E;have e:=Aj e E;refine Il e hm λe m=>?_;have⟨j,e,m⟩:=fh e m;simp[e];refine eI m W3 λ_ m=>?_;exact au
def ji:C0 prog 58 jM Ty.av:=by
 refine v0 func58 λT H r m e=>?_;rw[jM] at m;exact au
def qD:C0 prog 59 oH Ty.av:=by
 refine v0 func59 λT H r m e=>?_;rw[oH] at m;exact au
def IQ:C0 prog 60 xH Ty.av:=by
 refine v0 func60 λT H r m e=>?_;rw[xH] at m;exact au
def KY:C2 prog 61 wb Ty.av Ty.av Ty.av:=by
 refine v2 func61 λT H a0 a1 r m e=>?_;rw[wb] at m;simp[e];refine eO m lD λa m=>?_;simp[e];refine eO m lD λb m=>?_;have e:=Aj e (show AV.agg [sI 3,AV.slice .jU [Ty.av a,Ty.av b]]=Ty.av (Ty.mk 3 [a,b]) by rw[Ty.fE];rfl);exact au
def r8:C2 prog 62 kZ Ty.av Ty.av Ty.av:=by
 refine v2 func62 λT H a0 a1 r m e=>?_;rw[kZ] at m;simp[e];refine eO m lD λa m=>?_;simp[e];refine eO m lD λb m=>?_;have e:=Aj e (show AV.agg [sI 4,AV.slice .jU [Ty.av a,Ty.av b]]=Ty.av (Ty.mk 4 [a,b]) by rw[Ty.fE];rfl);exact au
def T1(T:ec):∀(n:Nat),(∀{H:dd} {a0:c9} {a1:Int} {i:Ty} {a:c9} {b:Nat} (c:H[b]?=some [sL sI a0.l,sI a0.rB]) (hm:iE n a0 a1=some (i,a)),dY prog T 31 [AV.eS b 0,sI a1] H (Ty.av i) (fH H b [sL sI a.l,sI a.rB])):=by
  intro n
  induction n with
  |zero=>
    skip
    all_goals(intro _ _;intros;rename_i hm;cases hm)
  |succ n j=>
 intro H a0 a1 i a b c hm;rw[iE] at hm;have k:=fI c;refine fl.Ph c ?_;have e:=k;refine wi ago func31 [] [] 2 ?_;simp[e];refine yU hm 3 999 (λo f h=>∃v2,(h=fH H b [sL sI v2.l,sI v2.rB]/\f.1 4=AV.jo 4 (f.gen 4) 0/\f.box 4=some [sI 0,nL])/\o v2=some (i,a)) ?_ (λo _ g m=>?_)
 ·rintro _ _ ⟨v2,E,m⟩;have e:=Aj e E;simp[e];refine eI m ji λ_ m=>?_;exact au
 simp[e];refine ke m (gf T aaN) λd d8 m=>?_;simp[e];refine wj 999 999 (λf h=>h=fH H b [sL sI d8.l,sI d8.rB]/\f.1 0=AV.eS b 0/\f.1 1=sI a1/\f.1 6=sI d/\f.1 7=sB (eH (dm d 0) true (eH (dm d 1) true (dm d 2)))/\bx f 4 [sI 0,nL]) (λ_ g=>?_) ?_
 ·rcases Pb (dm d 0) e with e|e
  ·exact aj
  rcases Pb (dm d 1) e with e|e
  ·exact aj
  exact aj
 rintro _ _ E;have e:=Aj e E;apply Iq e m<;>intro e m
 ·simp[e];refine eI m ji λ_ m=>?_;exact au
 apply Iq e m<;>intro e m
 ·simp[e];refine eI m qD λ_ m=>?_;exact au
 apply Iq e m<;>intro e m
 ·simp[e];refine eI m IQ λ_ m=>?_;exact au
 apply Iq e m<;>intro e m
 ·apply Ir e m<;>intro e m
  ·exact iO
  simp[e];refine ke m (j aaN) λ_ d16 m=>?_;simp[e];refine ke m (j aaN) λ_ d18 m=>?_;simp[e];refine eI m KY λ_ m=>?_;exact au
 apply Ir e m<;>intro e m
 ·exact iO
 apply Ir e m<;>intro e m
 ·exact iO
 simp[e];refine ke m (j aaN) λ_ d21 m=>?_;simp[e];refine ke m (j aaN) λ_ d23 m=>?_;simp[e];refine eI m r8 λ_ m=>?_;exact au
def pA(T:ec){H:dd}{a0:c9}{a1:Int}{d:Ty}{a:c9}{b:Nat}(c:H[b]?=some [sL sI a0.l,sI a0.rB]){n:Nat}(hm:iE n a0 a1=some (d,a)):dY prog T 31 [AV.eS b 0,sI a1] H (Ty.av d) (fH H b [sL sI a.l,sI a.rB]):=(T1 T n) c hm
def lZ{n:Nat}:C1 prog 49 (jG n) Fm.av Fm.av:=by
 refine i1 λn x=>v1 func49 λT H a0 r m e=>?_;rw[jG] at m;simp[e];refine eO m lD λt m=>?_;simp[e];refine FC e m 999 (λw o f h=>∃c,(h=H/\f.1 15=sL Tm.av a0.dc/\f.1 16=sI (dn a0.dc)/\f.1 17=sI w/\bx f 1 (Fm.av a0).cells/\bx f 2 [sI 0,sI 0,nL,nL,nL]/\bx f 3 [sI a0.agj,sI t.agj,sL Ty.av t.agk,sT c Tm.av o,nL])/\Ow f [26] c o) (by exact⟨.full,aaN,jj.full⟩) (λw _ o q _ _ _ _ E e m z p=>?_) (λo q _ _ E m=>?_)
 ·have⟨c,E,i⟩:=E;have e:=Aj e E;simp[e];refine eO m oX λu m=>?_;have⟨e,m⟩:=Ck e m;simp[e];refine Ad (f:=Tm.av) o [u] i F1 e.2 ?_;simp[e];cases m;exact p _ _ _ ⟨(.loc 26 (q.fu 26+1)),aaN,(On 26)⟩ z
 have⟨c,E,i⟩:=E;have e:=Aj e E;dsimp only[cS]at m;simp[e];refine Wr e m 999 (λs j f h=>∃a b,(h=H/\f.1 30=sL Fm.av a0.agk/\f.1 31=sI (dn a0.agk)/\f.1 32=sI s/\bx f 2 [sI 0,sI 0,nL,nL,nL]/\bx f 3 [sI a0.agj,sI t.agj,sL Ty.av t.agk,sT a Tm.av o,sT b Fm.av j])/\Ow f [26] a o/\Ow f [41] b j) (by exact⟨c,.full,aaN,i,jj.full⟩) (λj l _ _ E m=>?_) (λs _ j l _ _ _ _ E e m z p=>?_)
 ·have⟨a,b,E,k,d⟩:=E;have e:=Aj e E;dsimp only[cS]at m;exact au
 have⟨a,b,E,k,d⟩:=E;have e:=Aj e E;simp[e];refine eO m x λv m=>?_;have⟨e,m⟩:=Ck e m;simp[e];refine Ad (f:=Fm.av) j [v] d Jv e.2 ?_;simp[e];cases m;exact p _ _ _ ⟨a,(.loc 41 (l.fu 41+1)),aaN,(jj.other k d aaa aaa),(On 41)⟩ z
def H8{n:Nat}:C1 prog 167 (sa n) Pf.av Pf.av:=by
 refine i1 λn K=>v1 func167 λT H a0 r m e=>?_;rw[sa] at m;simp[e];refine eO m lD λA m=>?_;simp[e];refine FC e m 999 (λJ w f h=>∃j,(h=H/\f.1 19=sL Tm.av a0.dc/\f.1 20=sI (dn a0.dc)/\f.1 21=sI J/\bx f 1 (Pf.av a0).cells/\bx f 2 [sI 0,sI 0,sI 0,nL,nL,nL,nL]/\bx f 3 [sI a0.agj,sI a0.agm,sI A.agj,sL Ty.av A.agk,sT j Tm.av w,nL,nL])/\Ow f [30] j w) (by exact⟨.full,aaN,jj.full⟩) (λJ _ w B _ _ _ _ E e m z p=>?_) (λw B _ _ E m=>?_)
 ·have⟨j,E,s⟩:=E;have e:=Aj e E;simp[e];refine eO m oX λF m=>?_;have⟨e,m⟩:=Ck e m;simp[e];refine Ad (f:=Tm.av) w [F] s F1 e.2 ?_;simp[e];cases m;exact p _ _ _ ⟨(.loc 30 (B.fu 30+1)),aaN,(On 30)⟩ z
 have⟨j,E,s⟩:=E;have e:=Aj e E;dsimp only[cS]at m;simp[e];refine FC e m 999 (λC o f h=>∃a b,(h=H/\f.1 34=sL Fm.av a0.eo/\f.1 35=sI (dn a0.eo)/\f.1 36=sI C/\bx f 1 (Pf.av a0).cells/\bx f 2 [sI 0,sI 0,sI 0,nL,nL,nL,nL]/\bx f 3 [sI a0.agj,sI a0.agm,sI A.agj,sL Ty.av A.agk,sT a Tm.av w,sT b Fm.av o,nL])/\Ow f [30] a w/\Ow f [45] b o) (by exact⟨j,.full,aaN,s,jj.full⟩) (λC _ o x _ _ _ _ E e m z p=>?_) (λo x _ _ E m=>?_)
 ·have⟨a,b,E,q,k⟩:=E;have e:=Aj e E;simp[e];refine eO m lZ λG m=>?_;have⟨e,m⟩:=Ck e m;simp[e];refine Ad (f:=Fm.av) o [G] k Jv e.2 ?_;simp[e];cases m;exact p _ _ _ ⟨a,(.loc 45 (x.fu 45+1)),aaN,(jj.other q k aaa aaa),(On 45)⟩ z
 have⟨a,b,E,q,k⟩:=E;have e:=Aj e E;dsimp only[cS]at m;simp[e];refine Wr e m 999 (λD t f h=>∃c d i,(h=H/\f.1 49=sL Pf.av a0.agk/\f.1 50=sI (dn a0.agk)/\f.1 51=sI D/\bx f 2 [sI 0,sI 0,sI 0,nL,nL,nL,nL]/\bx f 3 [sI a0.agj,sI a0.agm,sI A.agj,sL Ty.av A.agk,sT c Tm.av w,sT d Fm.av o,sT i Pf.av t])/\Ow f [30] c w/\Ow f [45] d o/\Ow f [60] i t) (by exact⟨a,b,.full,aaN,q,k,jj.full⟩) (λt y _ _ E m=>?_) (λD _ t y _ _ _ _ E e m z p=>?_)
 ·have⟨c,d,i,E,u,v,l⟩:=E;have e:=Aj e E;dsimp only[cS]at m;exact au
 have⟨c,d,i,E,u,v,l⟩:=E;have e:=Aj e E;simp[e];refine eO m K λI m=>?_;have⟨e,m⟩:=Ck e m;simp[e];refine Ad (f:=Pf.av) t [I] l adO e.2 ?_;simp[e];cases m;exact p _ _ _ ⟨c,d,(.loc 60 (y.fu 60+1)),aaN,(jj.other u l aaa aaa),(jj.other v l aaa aaa),(On 60)⟩ z
def rL:C2 prog 91 mC Pf.av sI (sL Pf.av):=by
 refine v2 func91 λT H a0 a1 r m e=>?_;rw[mC] at m;simp[e];refine Wr e m 999 (λi s2 f h=>∃a,(h=H/\f.1 10=sL Pf.av a1/\f.1 11=sI (dn a1)/\f.1 12=sI i/\bx f 4 [sI 0,sI 0,sI 0,nL,nL,nL,nL]/\bx f 5 [sI a0,sI 0,sI 0,nL,nL,nL,sT a Pf.av s2])/\Ow f [21] a s2) (by exact⟨.full,aaN,jj.full⟩) (λs2 c _ _ E m=>?_) (λi _ s2 c _ _ _ _ E e m z p=>?_)
 ·have⟨a,E,b⟩:=E;have e:=Aj e E;dsimp only[cS]at m;exact au
 have⟨a,E,b⟩:=E;have e:=Aj e E;simp[e];refine eO m H8 λd m=>?_;have⟨e,m⟩:=Ck e m;simp[e];refine Ad (f:=Pf.av) s2 [d] b adO e.2 ?_;simp[e];cases m;exact p _ _ _ ⟨(.loc 21 (c.fu 21+1)),aaN,(On 21)⟩ z
def A_:C3 prog 149 m7 Fm.av sI Fm.av Fm.av:=by
 refine v3 func149 λT H a0 a1 a2 r m e=>?_;rw[m7] at m;simp[e];refine eO m lZ λa m=>?_;simp[e];refine eO m lZ λb m=>?_;have e:=Aj e (show AV.agg [sI a0,sI 0,AV.slice .jU [],AV.slice .jU [],AV.slice .jU [Fm.av a,Fm.av b]]=Fm.av (Fm.mk a0 (Ty.mk 0 []) [] [a,b]) by rw[Fm.fE];rfl);exact au
def r5:C2 prog 168 m5 (sL Ty.av) (sL Ty.av) (sL Ty.av):=by
 refine v2 func168 λT H a0 a1 r m e=>?_;rw[m5] at m;have⟨e,m⟩:=Ck e m;simp[e];refine Ao (f:=Ty.av) [] a0 (jj.full (D:=[])) GR e.2 ?_;have⟨e,m⟩:=Ck e m;simp[e];refine Ao (f:=Ty.av) (eV [] a0) a1 (jj.new (D:=[6]) (d:=6) aaa) GR e.2 ?_;exact au
def rz:C3 prog 99 jA Fm.av sI Ty.av Fm.av:=by
 refine v3 func99 λT H a0 a1 a2 r m e=>?_;rw[jA] at m;simp[e];refine eO m lD λa m=>?_;simp[e];refine eO m lZ λb m=>?_;have e:=Aj e (show AV.agg [sI a0,sI a.agj,sL Ty.av a.agk,AV.slice .jU [],AV.slice .jU [Fm.av b]]=Fm.av (Fm.mk a0 a [] [b]) by rw[Fm.fE];rfl);exact au
def jg{n:Nat}:C2 prog 40 (eh n) sB Ty.av Ty.av:=by
 refine i2 λn b=>u2 3 func40 λT H a0 a1 r m e=>?_;rw[eh] at m;simp[e];refine wj 999 999 (λf h=>h=H/\f.1 19=sB (eH (dw a0.agj a1.agj) true (dw (dn a0.agk) (dn a1.agk)))/\bx f 2 (Ty.av a0).cells/\bx f 3 (Ty.av a1).cells) (λ_ g=>?_) ?_
 ·rcases Pb (dw a0.agj a1.agj) e with e|e
  ·exact aj
  exact aj
 rintro _ _ E;have e:=Aj e E;refine Il e m λe m=>?_;simp[e];refine Wr e m 999 (λa _ f h=>h=H/\f.1 22=sI (dn a0.agk)/\f.1 23=sI a/\bx f 2 (Ty.av a0).cells/\bx f 3 (Ty.av a1).cells) aaN (λ_ _ _ _ E m=>?_) (λa _ _ _ _ _ _ _ E e m z p=>?_)
 ·have e:=Aj e E;dsimp only[cS]at m;exact au
 have e:=Aj e E;have⟨c,e,m⟩:=fh e m;simp[e];refine eO m b λ_ m=>?_;refine Im e m λe m=>?_;exact al
def UI:C2 prog 169 CR (sL sI) (sL Ty.av) Ty.av:=by
 refine v2 func169 λT H a0 a1 r m e=>?_;rw[CR] at m;simp[e];refine Wr e m 0 (λi s2 f h=>∃b,(h=H/\f.1 0=sL Ty.av a0/\f.1 5=sT b sI s2/\f.1 8=sI (dn a0)/\f.1 9=sI i/\bx f 3 (Ty.av a1).cells)/\Ow f [25] b s2) (by exact⟨.full,aaN,jj.full⟩) (λs2 j _ _ E m=>?_) (λi _ s2 j _ _ _ l E e m z p=>?_)
 ·have⟨b,E,c⟩:=E;have e:=Aj e E;apply wg 999;dsimp only[cS]at m;exact au
 have⟨b,E,c⟩:=E;have e:=Aj e E;apply wg 5;simp[e];refine yU m 999 999 (λk f h=>∃v11 a,(h=H/\f.1 0=sL Ty.av a0/\f.1 5=sT a sI v11/\f.1 8=sI (dn a0)/\f.1 9=sI i/\bx f 3 (Ty.av a1).cells)/\Ow f [25] a v11/\k v11=some l) ?_ (λk _ g m=>?_)
 ·rintro _ _ ⟨v11,a,E,d,m⟩;have e:=Aj e E;simp[e];cases m;exact p _ _ _ ⟨a,aaN,d⟩ z
 have⟨n,e,m⟩:=fh e m;simp[e];refine eO m jg λ_ m=>?_;apply Ir e m<;>intro e m
 ·simp[e];exact g _ _ ⟨s2,b,aaN,c,m⟩
 have⟨e,m⟩:=Ck e m;simp[e];refine Ao (f:=sI) s2 [i] c Vh e.2 ?_;simp[e];exact g _ _ ⟨(eV s2 [i]),(.loc 25 (j.fu 25+1)),aaN,(On 25),m⟩
def gV:C1 prog 101 fg Tm.av sI:=by
 refine v1 func101 λT H a0 r m e=>?_;rw[fg] at m;exact au
def oG:C3 prog 170 mv Tm.av sI Ty.av (sL Tm.av):=by
 refine v3 func170 λT H a0 a1 a2 r m e=>?_;rw[mv] at m;simp[e];refine eI m gL λ_ m=>?_;simp[e];refine eI m lD λ_ m=>?_;exact au
def Ls:C1 prog 177 qT Tm.av sI:=by
 refine v1 func177 λT H a0 r m e=>?_;rw[qT] at m;simp[e];refine eI m gL λ_ m=>?_;simp[e];refine Wn m 999 (λs2 f h=>∃a b,h=H/\f.1 0=sI s2.1/\bx f 2 [sI 0,sI 0,sI 0,nL,nL]/\bx f 3 [sI s2.2.1,sI s2.2.2.1,sI s2.2.2.2.1,sT a Ty.av s2.2.2.2.2.1,sT b Tm.av s2.2.2.2.2.2]) ⟨.jU,.jU,aaN⟩ (λs2 _ _ _ _ _ E m z p=>?_);have⟨v9,v10,v11,v12,c,d⟩:=s2;have⟨a,b,E⟩:=E;have e:=Aj e E;dsimp only[Aw]at m;apply Ir e m<;>intro e m
 ·cases m;have m:=Qb z;dsimp only[Aw]at m;exact au
 simp[e];cases m;exact p _ _ _ ⟨.full,.full,aaN⟩ z
def L9:C1 prog 110 wM (t2 Tm.av sI) sI:=by
 refine v1 func110 λT H a0 r m e=>?_;rw[wM] at m;refine Il e m λe m=>?_;refine Il e m λe m=>?_;simp[e];refine eI m Ls λ_ m=>?_;exact au
def EP:C1 prog 65 z' Tm.av sI:=by
 refine v1 func65 λT H a0 r m e=>?_;rw[z'] at m;simp[e];refine ke m L9 λ_ _ m=>?_;exact au
def ox:C1 prog 235 mu Tm.av Tm.av:=by
 refine v1 func235 λT H a0 r m e=>?_;rw[mu] at m;simp[e];refine eO m ji λ_ m=>?_;simp[e];refine eO m oG λ_ m=>?_;exact au
def Eh:C3 prog 236 uD Tm.av Tm.av Tm.av Tm.av:=by
 refine v3 func236 λT H a0 a1 a2 r m e=>?_;rw[uD] at m;simp[e];refine eO m ji λ_ m=>?_;simp[e];refine eO m oG λ_ m=>?_;exact au
def I4:C0 prog 172 tH Tm.av:=by
 refine v0 func172 λT H r m e=>?_;rw[tH] at m;simp[e];refine eI m gV λ_ m=>?_;simp[e];refine eI m gV λ_ m=>?_;simp[e];refine eI m gL λ_ m=>?_;simp[e];refine eI m ox λ_ m=>?_;simp[e];refine eI m ox λ_ m=>?_;simp[e];refine eI m gV λ_ m=>?_;simp[e];refine eI m Eh λ_ m=>?_;simp[e];refine eI m ox λ_ m=>?_;simp[e];refine eI m ox λ_ m=>?_;exact au
def Ni:C2 prog 171 CZ Tm.av Tm.av (sL Tm.av):=by
 refine v2 func171 λT H a0 a1 r m e=>?_;rw[CZ] at m;simp[e];refine Wr e m 999 (λc s2 f h=>h=H/\f.1 7=sL Tm.av a1/\f.1 8=sI (dn a1)/\f.1 9=sI c/\bx f 2 [sI s2.1,sI s2.2.1,sI s2.2.2.1,sL Ty.av s2.2.2.2.1,sL Tm.av s2.2.2.2.2]/\bx f 4 [sI 0,sI 0,sI 0,nL,nL]) aaN (λs2 _ _ _ E m=>?_) (λc _ s2 _ _ _ _ _ E e m z p=>?_)
 ·have⟨v10,v11,v12,a,b⟩:=s2;have e:=Aj e E;dsimp only[cS,Kq]at m;exact au
 have⟨v10,v11,v12,a,b⟩:=s2;have e:=Aj e E;dsimp only[Kq]at m;simp[e];refine eI m gL λ_ m=>?_;exact al
def Qg:C0 prog 237 vG Tm.av:=by
 refine v0 func237 λT H r m e=>?_;rw[vG] at m;simp[e];refine eI m gL λ_ m=>?_;simp[e];refine eI m gV λ_ m=>?_;simp[e];refine eI m ox λ_ m=>?_;simp[e];refine eI m ox λ_ m=>?_;simp[e];refine eI m gV λ_ m=>?_;simp[e];refine eI m Eh λ_ m=>?_;simp[e];refine eI m ox λ_ m=>?_;exact au
def QS:C0 prog 173 xF Tm.av:=by
 refine v0 func173 λT H r m e=>?_;rw[xF] at m;simp[e];refine eI m gV λ_ m=>?_;simp[e];refine eI m Qg λ_ m=>?_;simp[e];refine eI m gV λ_ m=>?_;simp[e];refine eI m gL λ_ m=>?_;simp[e];refine eI m ox λ_ m=>?_;simp[e];refine eI m ox λ_ m=>?_;simp[e];refine eI m gV λ_ m=>?_;simp[e];refine eI m Eh λ_ m=>?_;simp[e];refine eI m ox λ_ m=>?_;simp[e];refine eI m ox λ_ m=>?_;exact au
def Sr(T:ec):∀(n:Nat),(∀{H:dd} {a0:c9} {a1:List Ty} {a2:Ty} {a3:Int} {q:Tm} {b:c9} {c:Nat} (r:H[c]?=some [sL sI a0.l,sI a0.rB]) (hm:f_ n a0 a1 a2 a3=some (q,b)),dY prog T 98 [AV.eS c 0,sL Ty.av a1,Ty.av a2,sI a3] H (Tm.av q) (fH H c [sL sI b.l,sI b.rB])):=by
  intro n
  induction n with
  |zero=>
    skip
    all_goals(intro _ _;intros;rename_i hm;cases hm)
  |succ n a=>
 intro H a0 a1 a2 a3 q b c r hm;rw[f_] at hm;have x:=fI r;refine fl.Ph r ?_;have e:=x;refine wi ago func98 [] [] 5 ?_;simp[e];refine eI hm UI λC m=>?_;simp[e];refine Wj m 999 0 (λy f h=>∃v3 v4,(h=fH H c [sL sI v4.l,sI v4.rB]/\f.1 0=AV.eS c 0/\f.1 1=sL Ty.av a1/\f.1 3=sI a3/\f.1 9=sL sI C/\f.1 27=sB v3/\bx f 6 (Ty.av a2).cells/\bx f 8 [sI 0,sI 0,sI 0,nL,nL])/\y v3 v4=some (q,b)) (λy _ g m=>?_) ?_
 ·apply Ir e m<;>intro e m
  ·exact ak2
  simp[e];refine ke m (gf T aaN) λ_ d8 m=>?_;exact ak2
 rintro _ _ ⟨v3,v4,E,m⟩;have e:=Aj e E;apply Iq e m<;>intro e m
 ·apply wg 999;simp[e];refine ke m (gf T aaN) λ_ d11 m=>?_;have⟨D,e,m⟩:=fh e m;simp[e];refine eI m gV λ_ m=>?_;exact au
 apply wg 2;simp[e];refine yU m 999 6 (λs f h=>∃j,(h=fH H c [sL sI j.l,sI j.rB]/\f.1 0=AV.eS c 0/\f.1 1=sL Ty.av a1/\f.1 3=sI a3/\bx f 6 (Ty.av a2).cells/\bx f 8 [sI 0,sI 0,sI 0,nL,nL])/\s j=some (q,b)) ?_ (λs _ g m=>?_)
 ·rintro _ _ ⟨j,E,m⟩;have e:=Aj e E;simp[e];apply Iq e m<;>intro e m
  ·apply wg 1;simp[e];refine yU m 999 999 (λt f h=>∃v20,(h=fH H c [sL sI v20.l,sI v20.rB]/\f.1 0=AV.eS c 0/\f.1 8=AV.jo 8 (f.gen 8) 0/\f.box 8=some [sI 0,sI 0,sI 0,nL,nL])/\t v20=some (q,b)) ?_ (λt _ g m=>?_)
   ·rintro _ _ ⟨v20,E,m⟩;have e:=Aj e E;simp[e];refine ke m (gf T aaN) λ_ d25 m=>?_;simp[e];refine eI m EP λ_ m=>?_;exact au
   apply Ir e m<;>intro e m
   ·exact iO
   simp[e];refine ke m (gf T aaN) λ_ d28 m=>?_;apply Iq e m<;>intro e m
   ·simp[e];refine ke m (a aaN) λ_ d30 m=>?_;simp[e];refine eI m gL λ_ m=>?_;exact au
   apply Iq e m<;>intro e m
   ·simp[e];refine eO m I4 λ_ m=>?_;simp[e];refine oA m (a aaN) λ_ d34 m=>?_;simp[e];refine oA m (a aaN) λ_ d36 m=>?_;simp[e];refine eO m Ni λ_ m=>?_;exact au
   apply Ir e m<;>intro e m
   ·exact iO
   simp[e];refine eO m QS λ_ m=>?_;simp[e];refine oA m (a aaN) λ_ d40 m=>?_;simp[e];refine oA m (a aaN) λ_ d42 m=>?_;simp[e];refine eO m Ni λ_ m=>?_;exact au
  apply wg 3;simp[e];apply Ir e m<;>intro e m
  ·apply wg 999;apply Iq e m<;>intro e m
   ·have⟨F,e,m⟩:=fh e m;simp[e];refine oA m (a aaN) λ_ d46 m=>?_;have⟨G,e,m⟩:=fh e m;simp[e];refine oA m (a aaN) λ_ d49 m=>?_;simp[e];refine eO m gL λ_ m=>?_;exact au
   apply Ir e m<;>intro e m
   ·simp[e];refine eI m gL λ_ m=>?_;exact au
   have⟨I,e,m⟩:=fh e m;simp[e];refine eO m r5 λ_ m=>?_;have⟨J,e,m⟩:=fh e m;simp[e];refine oA m (a aaN) λ_ d56 m=>?_;simp[e];refine eO m oG λ_ m=>?_;exact au
  apply wg 2;simp[e];refine Wj m 999 999 (λu f h=>∃v59 k,(h=fH H c [sL sI k.l,sI k.rB]/\f.1 0=AV.eS c 0/\f.1 1=sL Ty.av a1/\f.1 3=sI a3/\f.1 276=sB v59/\bx f 6 (Ty.av a2).cells/\bx f 8 [sI 0,sI 0,sI 0,nL,nL])/\u v59 k=some (q,b)) (λu _ g m=>?_) ?_
  ·apply Ir e m<;>intro e m
   ·exact ak2
   simp[e];refine ke m (gf T aaN) λ_ d64 m=>?_;exact ak2
  rintro _ _ ⟨v59,k,E,m⟩;have e:=Aj e E;apply Ir e m<;>intro e m
  ·simp[e];refine eI m gL λ_ m=>?_;exact au
  simp[e];refine eO m ji λ_ m=>?_;simp[e];refine oA m (a aaN) λ_ d69 m=>?_;simp[e];refine oA m (a aaN) λ_ d71 m=>?_;simp[e];refine eO m gL λ_ m=>?_;exact au
 apply Ir e m<;>intro e m
 ·exact iO
 simp[e];refine ke m (gf T aaN) λ_ d74 m=>?_;apply Iq e m<;>intro e m
 ·simp[e];refine ke m (pA T aaN) λ_ d76 m=>?_;simp[e];refine eO m r5 λ_ m=>?_;simp[e];refine oA m (a aaN) λ_ d79 m=>?_;simp[e];refine eO m oG λ_ m=>?_;simp[e];refine oA m (a aaN) λ_ d82 m=>?_;simp[e];refine eO m gL λ_ m=>?_;exact au
 apply Iq e m<;>intro e m
 ·simp[e];refine ke m (pA T aaN) λ_ d85 m=>?_;simp[e];refine oA m (a aaN) λ_ d87 m=>?_;simp[e];refine oA m (a aaN) λ_ d89 m=>?_;simp[e];refine eO m gL λ_ m=>?_;simp[e];refine eO m gL λ_ m=>?_;exact au
 apply Iq e m<;>intro e m
 ·simp[e];refine eO m ji λ_ m=>?_;simp[e];refine eO m ji λ_ m=>?_;simp[e];refine eO m r5 λ_ m=>?_;simp[e];refine oA m (a aaN) λ_ d96 m=>?_;simp[e];refine eO m oG λ_ m=>?_;simp[e];refine eO m oG λ_ m=>?_;simp[e];refine oA m (a aaN) λ_ d100 m=>?_;simp[e];refine oA m (gf T aaN) λ_ d102 m=>?_;simp[e];refine eO m EP λ_ m=>?_;simp[e];refine eO m oG λ_ m=>?_;exact au
 apply Iq e m<;>intro e m
 ·simp[e];refine eO m ji λ_ m=>?_;simp[e];refine eO m qD λ_ m=>?_;simp[e];refine eO m ji λ_ m=>?_;simp[e];refine eO m qD λ_ m=>?_;simp[e];refine eO m r5 λ_ m=>?_;simp[e];refine oA m (a aaN) λ_ d111 m=>?_;simp[e];refine eO m oG λ_ m=>?_;simp[e];refine eO m oG λ_ m=>?_;simp[e];refine eO m oG λ_ m=>?_;simp[e];refine oA m (a aaN) λ_ d116 m=>?_;simp[e];refine eO m qD λ_ m=>?_;simp[e];refine oA m (a aaN) λ_ d119 m=>?_;simp[e];refine eO m oG λ_ m=>?_;exact au
 apply Iq e m<;>intro e m
 ·simp[e];refine ke m (pA T aaN) λ_ d122 m=>?_;simp[e];refine oA m (a aaN) λ_ d124 m=>?_;simp[e];refine oA m (a aaN) λ_ d126 m=>?_;simp[e];refine eO m gL λ_ m=>?_;simp[e];refine eO m gL λ_ m=>?_;exact au
 apply Ir e m<;>intro e m
 ·exact iO
 simp[e];refine Wr e m 0 (λd _ f h=>h=fH H c [sL sI d74.l,sI d74.rB]/\f.1 0=AV.eS c 0/\f.1 1=sL Ty.av a1/\f.1 3=sI a3/\f.1 176=sI (dn a1)/\f.1 177=sI d/\bx f 6 (Ty.av a2).cells/\bx f 8 [sI 0,sI 0,sI 0,nL,nL]) aaN (λ_ _ _ _ E m=>?_) (λd _ _ _ _ _ _ v E e m z p=>?_)
 ·have e:=Aj e E;apply wg 999;dsimp only[cS]at m;exact iO
 have e:=Aj e E;apply wg 11;have⟨w,e,m⟩:=fh e m;simp[e];refine Wj m 999 999 (λo f h=>∃i,(h=fH H c [sL sI d74.l,sI d74.rB]/\f.1 0=AV.eS c 0/\f.1 1=sL Ty.av a1/\f.1 3=sI a3/\f.1 15=sI d/\f.1 176=sI (dn a1)/\f.1 177=sI d/\f.1 198=sB i/\bx f 6 (Ty.av a2).cells/\bx f 8 [sI 0,sI 0,sI 0,nL,nL]/\bx f 16 (Ty.av w).cells)/\o i=some v) (λo _ g m=>?_) ?_
 ·apply Ir e m<;>intro e m
  ·exact iO
  have⟨A,e,m⟩:=fh e m;simp[e];refine eO m jg λ_ m=>?_;exact iO
 rintro _ _ ⟨i,E,m⟩;have e:=Aj e E;apply Ir e m<;>intro e m
 ·exact al
 simp[e];refine eO m gV λ_ m=>?_;have⟨B,e,m⟩:=fh e m;simp[e];refine oA m (a aaN) λ_ d149 m=>?_;simp[e];refine eO m gL λ_ m=>?_;exact au
def oC(T:ec){H:dd}{a0:c9}{a1:List Ty}{a2:Ty}{a3:Int}{d:Tm}{a:c9}{b:Nat}(c:H[b]?=some [sL sI a0.l,sI a0.rB]){n:Nat}(hm:f_ n a0 a1 a2 a3=some (d,a)):dY prog T 98 [AV.eS b 0,sL Ty.av a1,Ty.av a2,sI a3] H (Tm.av d) (fH H b [sL sI a.l,sI a.rB]):=(Sr T n) c hm
def NV(T:ec):∀(n:Nat),(∀{H:dd} {a0:c9} {a1:List Ty} {a2:Int} {j:Fm} {b:c9} {c:Nat} (d:H[c]?=some [sL sI a0.l,sI a0.rB]) (hm:iv n a0 a1 a2=some (j,b)),dY prog T 92 [AV.eS c 0,sL Ty.av a1,sI a2] H (Fm.av j) (fH H c [sL sI b.l,sI b.rB])):=by
  intro n
  induction n with
  |zero=>
    skip
    all_goals(intro _ _;intros;rename_i hm;cases hm)
  |succ n i=>
 intro H a0 a1 a2 j b c d hm;rw[iv] at hm;have k:=fI d;refine fl.Ph d ?_;have e:=k;refine wi ago func92 [] [] 2 ?_;simp[e];refine yU hm 2 999 (λo f h=>∃v2,(h=fH H c [sL sI v2.l,sI v2.rB]/\f.1 0=AV.eS c 0/\f.1 1=sL Ty.av a1/\f.1 6=AV.jo 6 (f.gen 6) 0/\f.box 6=some [sI 0,sI 0,nL,nL,nL])/\o v2=some (j,b)) ?_ (λo _ g m=>?_)
 ·rintro _ _ ⟨v2,E,m⟩;have e:=Aj e E;simp[e];refine eI m ji λ_ m=>?_;simp[e];refine oA m (oC T aaN) λ_ d8 m=>?_;simp[e];refine oA m (oC T aaN) λ_ d10 m=>?_;simp[e];refine eO m qQ λ_ m=>?_;exact au
 simp[e];apply Ir e m<;>intro e m
 ·apply wg 999;exact iO
 apply wg 6;simp[e];refine ke m (gf T aaN) λa d13 m=>?_;simp[e];apply Iq e m<;>intro e m
 ·apply wg 999;simp[e];refine ke m (i aaN) λ_ d15 m=>?_;simp[e];refine ke m (i aaN) λ_ d17 m=>?_;simp[e];refine eI m A_ λ_ m=>?_;exact au
 apply wg 1;simp[e];refine wj 999 0 (λf h=>h=fH H c [sL sI d13.l,sI d13.rB]/\f.1 0=AV.eS c 0/\f.1 1=sL Ty.av a1/\f.1 2=sI a2/\f.1 14=sI a/\f.1 28=sB (eH (dm a 1) true (dm a 2))/\bx f 6 [sI 0,sI 0,nL,nL,nL]) (λ_ g=>?_) ?_
 ·rcases Pb (dm a 1) e with e|e
  ·exact aj
  exact aj
 rintro _ _ E;have e:=Aj e E;apply Iq e m<;>intro e m
 ·apply wg 999;simp[e];refine ke m (i aaN) λ_ d23 m=>?_;simp[e];refine ke m (i aaN) λ_ d25 m=>?_;simp[e];refine eI m A_ λ_ m=>?_;exact au
 apply wg 1;simp[e];refine wj 999 999 (λf h=>h=fH H c [sL sI d13.l,sI d13.rB]/\f.1 0=AV.eS c 0/\f.1 1=sL Ty.av a1/\f.1 2=sI a2/\f.1 14=sI a/\f.1 42=sB (eH (dm a 3) true (dm a 4))/\bx f 6 [sI 0,sI 0,nL,nL,nL]) (λ_ g=>?_) ?_
 ·rcases Pb (dm a 3) e with e|e
  ·exact aj
  exact aj
 rintro _ _ E;have e:=Aj e E;apply Iq e m<;>intro e m
 ·simp[e];refine ke m (pA T aaN) λ_ d31 m=>?_;simp[e];refine eO m r5 λ_ m=>?_;simp[e];refine oA m (i aaN) λ_ d34 m=>?_;simp[e];refine eO m rz λ_ m=>?_;exact au
 apply Iq e m<;>intro e m
 ·simp[e];refine ke m (pA T aaN) λ_ d37 m=>?_;simp[e];refine eO m r5 λ_ m=>?_;simp[e];refine oA m (i aaN) λ_ d40 m=>?_;simp[e];refine eO m rz λ_ m=>?_;exact au
 apply Ir e m<;>intro e m
 ·exact iO
 simp[e];refine ke m (pA T aaN) λ_ d43 m=>?_;simp[e];refine oA m (gf T aaN) λ_ d45 m=>?_;simp[e];refine eO m r5 λ_ m=>?_;simp[e];refine oA m (i aaN) λ_ d48 m=>?_;simp[e];refine eO m rz λ_ m=>?_;exact au
def Pr(T:ec){H:dd}{a0:c9}{a1:List Ty}{a2:Int}{d:Fm}{a:c9}{b:Nat}(c:H[b]?=some [sL sI a0.l,sI a0.rB]){n:Nat}(hm:iv n a0 a1 a2=some (d,a)):dY prog T 92 [AV.eS b 0,sL Ty.av a1,sI a2] H (Fm.av d) (fH H b [sL sI a.l,sI a.rB]):=(NV T n) c hm
def Ka:C2 prog 94 zr Sq.av Sq.av Fm.av:=by
 refine v2 func94 λT H a0 a1 r m e=>?_;rw[zr] at m;have⟨e,m⟩:=Ck e m;simp[e];refine Ad (f:=Fm.av) [] a0.agq (jj.full (D:=[])) Jv e.2 ?_;have⟨e,m⟩:=Ck e m;simp[e];refine Ad (f:=Fm.av) (eV [] a0.agq) [a1] (jj.new (D:=[9]) (d:=9) aaa) Jv e.2 ?_;exact au
def KB:C2 prog 93 vQ Pf.av Fm.av Pf.av:=by
 refine v2 func93 λT H a0 a1 r m e=>?_;rw[vQ] at m;simp[e];refine eI m rL λa m=>?_;simp[e];refine eI m lZ λb m=>?_;have e:=Aj e (show AV.agg [sI a.agj,sI a.agm,sI a.cO.agj,sL Ty.av a.cO.agk,sL Tm.av a.dc,AV.slice .jU [Fm.av b],sL Pf.av a.agk]=Pf.av (Pf.mk a.agj a.agm a.cO a.dc [b] a.agk) by rw[Pf.fE];rfl);exact au
def N4{n:Nat}:C1 prog 218 (pc n) sB Ty.av:=by
 refine i1 λn c=>u1 4 func218 λT H a0 r m e=>?_;rw[pc] at m;simp[e];refine yU m 3 999 (λa f h=>∃v2,(h=H/\f.1 3=sI v2/\bx f 1 (Ty.av a0).cells)/\a v2=some r) ?_ (λa _ g m=>?_)
 ·rintro _ _ ⟨v2,E,m⟩;have e:=Aj e E;refine Il e m λe m=>?_;simp[e];refine Wr e m 999 (λb _ f h=>h=H/\f.1 21=sL Ty.av a0.agk/\f.1 22=sI (dn a0.agk)/\f.1 23=sI b) aaN (λ_ _ _ _ E m=>?_) (λb _ _ _ _ _ _ _ E e m z p=>?_)
  ·have e:=Aj e E;dsimp only[cS]at m;exact au
  have e:=Aj e E;simp[e];refine eI m c λ_ m=>?_;refine Im e m λe m=>?_;exact al
 simp[e];refine wj 999 0 (λf h=>h=H/\f.1 3=sI 0/\f.1 7=sI a0.agj/\f.1 8=sB (eH (dm a0.agj 1) true (eH (dm a0.agj 2) true (dm a0.agj 5)))/\bx f 1 (Ty.av a0).cells) (λ_ g=>?_) ?_
 ·rcases Pb (dm a0.agj 1) e with e|e
  ·exact aj
  rcases Pb (dm a0.agj 2) e with e|e
  ·exact aj
  exact aj
 rintro _ _ E;have e:=Aj e E;apply Iq e m<;>intro e m
 ·apply wg 999;exact iO
 apply wg 1;simp[e];refine wj 999 999 (λf h=>h=H/\f.1 12=sB (eH (dm a0.agj 3) true (dm a0.agj 4))/\bx f 1 (Ty.av a0).cells) (λ_ g=>?_) ?_
 ·rcases Pb (dm a0.agj 3) e with e|e
  ·exact aj
  exact aj
 rintro _ _ E;have e:=Aj e E;refine Im e m λe m=>?_;exact iO
def P9{n:Nat}:C1 prog 219 (q5 n) sI Ty.av:=by
 refine i1 λn b=>v1 func219 λT H a0 r m e=>?_;rw[q5] at m;simp[e];refine Wr e m 999 (λa s2 f h=>h=H/\f.1 3=sI s2/\f.1 7=sL Ty.av a0.agk/\f.1 8=sI (dn a0.agk)/\f.1 9=sI a) aaN (λs2 _ _ _ E m=>?_) (λa _ s2 _ _ _ _ _ E e m z p=>?_)
 ·have e:=Aj e E;dsimp only[cS]at m;exact au
 have e:=Aj e E;simp[e];refine eI m b λ_ m=>?_;exact al
def sS:C1 prog 143 iA sI Ty.av:=by
 refine v1 func143 λT H a0 r m e=>?_;rw[iA] at m;simp[e];refine eI m N4 λ_ m=>?_;refine Im e m λe m=>?_;simp[e];refine eI m P9 λ_ m=>?_;refine Il e m λe m=>?_;exact au
def y0:C1 prog 83 lW sI (sL Ty.av):=by
 refine v1 func83 λT H a0 r m e=>?_;rw[lW] at m;refine Il e m λe m=>?_;simp[e];refine Wr e m 999 (λa _ f h=>h=H/\f.1 9=sL Ty.av a0/\f.1 10=sI (dn a0)/\f.1 11=sI a) aaN (λ_ _ _ _ E m=>?_) (λa _ _ _ _ _ _ _ E e m z p=>?_)
 ·have e:=Aj e E;dsimp only[cS]at m;exact au
 have e:=Aj e E;simp[e];refine eI m sS λ_ m=>?_;refine Il e m λe m=>?_;exact al
end Go.Proofs.YtijednbpbbddbaaGreatDoor
