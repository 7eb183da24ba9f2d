/- Part of the proof of KernelAccepts, KernelDoes: walks. -/
import Derived.Test.YtobcafblgapgfaaGreatDoorProg
import Derived.Test.YtobcafblgapgfaaGreatDoorChecked
import Derived.WalkKit
import Derived.Laws.Bits64b
import Derived.BigCall
import Derived.Test.YtobcafblgapgfaaGreatDoorG1
set_option linter.all false
namespace Go.Proofs.YtobcafblgapgfaaGreatDoor
open Go Go.ke Go.fB Tryz
def acX:prog.follows .mixedOrders=true:=by kernel_rfl
instance:Nonempty (prog.follows .mixedOrders=true):=⟨acX⟩
end Go.Proofs.YtobcafblgapgfaaGreatDoor
namespace Go.fB
open Go Go.ke
mutual
def Ty.av:Ty->AV
 |.mk acS acT=>.agg [sI acS,AV.slice .hY (Ty.Ju acT)]
def Ty.Ju:List Ty->List AV
 |[]=>[]|x::l=>x.av::Ty.Ju l
end
def Ty.Bi(l:List Ty):Ty.Ju l=l.map Ty.av:=by
 induction l with
 |nil=>rfl|cons x l a=>simp[Ty.Ju,a]
def Ty.eT(acS:Int)(acT:List Ty):(Ty.mk acS acT).av=.agg [sI acS,sL Ty.av acT]:=by rw[Ty.av];simp only[Ty.Bi]
mutual
@[simp] theorem Ty.zs(k:Nat):∀x:Ty,x.av.low k=true
 |.mk acS acT=>by rw[Ty.eT];simp[AV.low,AV.gA,Ty.nU k acT]
@[simp] theorem Ty.nU(k:Nat):∀l:List Ty,AV.gA k (l.map Ty.av)=true
 |[]=>rfl|x::l=>by simp[AV.gA,Ty.zs k x,Ty.nU k l]
end
def Ty.fp(x:Ty):x.av=.agg [sI x.acS,sL Ty.av x.acT]:=by cases x;exact Ty.eT _ _
@[simp] theorem Ty.fo(x:Ty):x.av.cells=[sI x.acS,sL Ty.av x.acT]:=by rw[Ty.fp];rfl
@[simp] theorem Ty.tH(x:Ty):dY x.av=true:=by rw[Ty.fp];rfl
@[simp] theorem Ty.pW(x:Ty):x.av.norm=x.av:=by rw[Ty.fp];rfl
@[simp] theorem Ty.Y8(a:Int)(b:List Ty):AV.agg [sI a,sL Ty.av b]=Ty.av (Ty.mk a b):=by rw[Ty.eT]<;>rfl
@[simp] theorem Ty.abY(a:Int):AV.agg [sI a,AV.slice .hY []]=Ty.av (Ty.mk a []):=by rw[Ty.eT]<;>rfl
mutual
def Tm.av:Tm->AV
 |.mk acS acV cP acT=>.agg [sI acS,sI acV,sI cP.acS,sL Ty.av cP.acT,AV.slice .hY (Tm.Ju acT)]
def Tm.Ju:List Tm->List AV
 |[]=>[]|x::l=>x.av::Tm.Ju l
end
def Tm.Bi(l:List Tm):Tm.Ju l=l.map Tm.av:=by
 induction l with
 |nil=>rfl|cons x l a=>simp[Tm.Ju,a]
def Tm.eT(acS acV:Int)(cP:Ty)(acT:List Tm):(Tm.mk acS acV cP acT).av=.agg [sI acS,sI acV,sI cP.acS,sL Ty.av cP.acT,sL Tm.av acT]:=by rw[Tm.av];simp only[Tm.Bi]
mutual
@[simp] theorem Tm.zs(k:Nat):∀x:Tm,x.av.low k=true
 |.mk acS acV cP acT=>by rw[Tm.eT];simp[AV.low,AV.gA,Tm.nU k acT]
@[simp] theorem Tm.nU(k:Nat):∀l:List Tm,AV.gA k (l.map Tm.av)=true
 |[]=>rfl|x::l=>by simp[AV.gA,Tm.zs k x,Tm.nU k l]
end
def Tm.fp(x:Tm):x.av=.agg [sI x.acS,sI x.acV,sI x.cP.acS,sL Ty.av x.cP.acT,sL Tm.av x.acT]:=by cases x;exact Tm.eT _ _ _ _
@[simp] theorem Tm.fo(x:Tm):x.av.cells=[sI x.acS,sI x.acV,sI x.cP.acS,sL Ty.av x.cP.acT,sL Tm.av x.acT]:=by rw[Tm.fp];rfl
@[simp] theorem Tm.tH(x:Tm):dY x.av=true:=by rw[Tm.fp];rfl
@[simp] theorem Tm.pW(x:Tm):x.av.norm=x.av:=by rw[Tm.fp];rfl
@[simp] theorem Tm.U8(a b c:Int)(c3:List Ty)(d:List Tm):AV.agg [sI a,sI b,sI c,sL Ty.av c3,sL Tm.av d]=Tm.av (Tm.mk a b (Ty.mk c c3) d):=by rw[Tm.eT]<;>rfl
@[simp] theorem Tm.aci(a b c:Int)(d:List Tm):AV.agg [sI a,sI b,sI c,AV.slice .hY [],sL Tm.av d]=Tm.av (Tm.mk a b (Ty.mk c []) d):=by rw[Tm.eT]<;>rfl
@[simp] theorem Tm.aae(a b c:Int):AV.agg [sI a,sI b,sI c,AV.slice .hY [],AV.slice .hY []]=Tm.av (Tm.mk a b (Ty.mk c []) []):=by rw[Tm.eT]<;>rfl
mutual
def Fm.av:Fm->AV
 |.mk acS cP c9 acT=>.agg [sI acS,sI cP.acS,sL Ty.av cP.acT,sL Tm.av c9,AV.slice .hY (Fm.Ju acT)]
def Fm.Ju:List Fm->List AV
 |[]=>[]|x::l=>x.av::Fm.Ju l
end
def Fm.Bi(l:List Fm):Fm.Ju l=l.map Fm.av:=by
 induction l with
 |nil=>rfl|cons x l a=>simp[Fm.Ju,a]
def Fm.eT(acS:Int)(cP:Ty)(c9:List Tm)(acT:List Fm):(Fm.mk acS cP c9 acT).av=.agg [sI acS,sI cP.acS,sL Ty.av cP.acT,sL Tm.av c9,sL Fm.av acT]:=by rw[Fm.av];simp only[Fm.Bi]
mutual
@[simp] theorem Fm.zs(k:Nat):∀x:Fm,x.av.low k=true
 |.mk acS cP c9 acT=>by rw[Fm.eT];simp[AV.low,AV.gA,Fm.nU k acT]
@[simp] theorem Fm.nU(k:Nat):∀l:List Fm,AV.gA k (l.map Fm.av)=true
 |[]=>rfl|x::l=>by simp[AV.gA,Fm.zs k x,Fm.nU k l]
end
def Fm.fp(x:Fm):x.av=.agg [sI x.acS,sI x.cP.acS,sL Ty.av x.cP.acT,sL Tm.av x.c9,sL Fm.av x.acT]:=by cases x;exact Fm.eT _ _ _ _
@[simp] theorem Fm.fo(x:Fm):x.av.cells=[sI x.acS,sI x.cP.acS,sL Ty.av x.cP.acT,sL Tm.av x.c9,sL Fm.av x.acT]:=by rw[Fm.fp];rfl
@[simp] theorem Fm.tH(x:Fm):dY x.av=true:=by rw[Fm.fp];rfl
@[simp] theorem Fm.pW(x:Fm):x.av.norm=x.av:=by rw[Fm.fp];rfl
@[simp] theorem Fm.NH(a b:Int)(c:List Ty)(c3:List Tm)(d:List Fm):AV.agg [sI a,sI b,sL Ty.av c,sL Tm.av c3,sL Fm.av d]=Fm.av (Fm.mk a (Ty.mk b c) c3 d):=by rw[Fm.eT]<;>rfl
@[simp] theorem Fm.ab3(a b:Int)(c:List Fm):AV.agg [sI a,sI b,AV.slice .hY [],AV.slice .hY [],sL Fm.av c]=Fm.av (Fm.mk a (Ty.mk b []) [] c):=by rw[Fm.eT]<;>rfl
@[simp] theorem Fm.XP(a b:Int):AV.agg [sI a,sI b,AV.slice .hY [],AV.slice .hY [],AV.slice .hY []]=Fm.av (Fm.mk a (Ty.mk b []) [] []):=by rw[Fm.eT]<;>rfl
def Sq.av(x:Sq):AV:=.agg [sL Ty.av x.acW,sL Fm.av x.acZ]
def Sq.eT(acW:List Ty)(acZ:List Fm):(Sq.mk acW acZ).av=.agg [sL Ty.av acW,sL Fm.av acZ]:=rfl
def Sq.fp(x:Sq):x.av=.agg [sL Ty.av x.acW,sL Fm.av x.acZ]:=by cases x;exact Sq.eT _ _
@[simp] theorem Sq.fo(x:Sq):x.av.cells=[sL Ty.av x.acW,sL Fm.av x.acZ]:=by rw[Sq.fp];rfl
@[simp] theorem Sq.tH(x:Sq):dY x.av=true:=by rw[Sq.fp];rfl
@[simp] theorem Sq.pW(x:Sq):x.av.norm=x.av:=by rw[Sq.fp];rfl
@[simp] theorem Sq.U8(a:List Ty)(b:List Fm):AV.agg [sL Ty.av a,sL Fm.av b]=Sq.av (Sq.mk a b):=by rw[Sq.eT]<;>rfl
@[simp] theorem Sq.aae:AV.agg [AV.slice .hY [],AV.slice .hY []]=Sq.av (Sq.mk [] []):=by rw[Sq.eT]<;>rfl
mutual
def Pf.av:Pf->AV
 |.mk acS acV cP c9 dV acT=>.agg [sI acS,sI acV,sI cP.acS,sL Ty.av cP.acT,sL Tm.av c9,sL Fm.av dV,AV.slice .hY (Pf.Ju acT)]
def Pf.Ju:List Pf->List AV
 |[]=>[]|x::l=>x.av::Pf.Ju l
end
def Pf.Bi(l:List Pf):Pf.Ju l=l.map Pf.av:=by
 induction l with
 |nil=>rfl|cons x l a=>simp[Pf.Ju,a]
def Pf.eT(acS acV:Int)(cP:Ty)(c9:List Tm)(dV:List Fm)(acT:List Pf):(Pf.mk acS acV cP c9 dV acT).av=.agg [sI acS,sI acV,sI cP.acS,sL Ty.av cP.acT,sL Tm.av c9,sL Fm.av dV,sL Pf.av acT]:=by rw[Pf.av];simp only[Pf.Bi]
mutual
@[simp] theorem Pf.zs(k:Nat):∀x:Pf,x.av.low k=true
 |.mk acS acV cP c9 dV acT=>by rw[Pf.eT];simp[AV.low,AV.gA,Pf.nU k acT]
@[simp] theorem Pf.nU(k:Nat):∀l:List Pf,AV.gA k (l.map Pf.av)=true
 |[]=>rfl|x::l=>by simp[AV.gA,Pf.zs k x,Pf.nU k l]
end
def Pf.fp(x:Pf):x.av=.agg [sI x.acS,sI x.acV,sI x.cP.acS,sL Ty.av x.cP.acT,sL Tm.av x.c9,sL Fm.av x.dV,sL Pf.av x.acT]:=by cases x;exact Pf.eT _ _ _ _ _ _
@[simp] theorem Pf.fo(x:Pf):x.av.cells=[sI x.acS,sI x.acV,sI x.cP.acS,sL Ty.av x.cP.acT,sL Tm.av x.c9,sL Fm.av x.dV,sL Pf.av x.acT]:=by rw[Pf.fp];rfl
@[simp] theorem Pf.tH(x:Pf):dY x.av=true:=by rw[Pf.fp];rfl
@[simp] theorem Pf.pW(x:Pf):x.av.norm=x.av:=by rw[Pf.fp];rfl
@[simp] theorem Pf.UL(a b c:Int)(c3:List Ty)(d:List Tm)(c5:List Fm)(e:List Pf):AV.agg [sI a,sI b,sI c,sL Ty.av c3,sL Tm.av d,sL Fm.av c5,sL Pf.av e]=Pf.av (Pf.mk a b (Ty.mk c c3) d c5 e):=by rw[Pf.eT]<;>rfl
@[simp] theorem Pf.abk(a b c:Int)(d:List Pf):AV.agg [sI a,sI b,sI c,AV.slice .hY [],AV.slice .hY [],AV.slice .hY [],sL Pf.av d]=Pf.av (Pf.mk a b (Ty.mk c []) [] [] d):=by rw[Pf.eT]<;>rfl
@[simp] theorem Pf.UJ(a b c:Int):AV.agg [sI a,sI b,sI c,AV.slice .hY [],AV.slice .hY [],AV.slice .hY [],AV.slice .hY []]=Pf.av (Pf.mk a b (Ty.mk c []) [] [] []):=by rw[Pf.eT]<;>rfl
def p_.av(x:p_):AV:=.agg [sI x.cR.acS,sI x.cR.cP.acS,sL Ty.av x.cR.cP.acT,sL Tm.av x.cR.c9,sL Fm.av x.cR.acT,AV.slice .hY (List.map (λn=>AV.sc (Value.int .i64 n)) x.fk)]
def p_.eT(cR:Fm)(fk:List Int):(p_.mk cR fk).av=.agg [sI cR.acS,sI cR.cP.acS,sL Ty.av cR.cP.acT,sL Tm.av cR.c9,sL Fm.av cR.acT,AV.slice .hY (List.map (λn=>AV.sc (Value.int .i64 n)) fk)]:=rfl
@[simp] theorem p_.zs(k:Nat)(x:p_):x.av.low k=true:=by
 cases x;rw[p_.eT];simp[AV.low,AV.gA]
def p_.fp(x:p_):x.av=.agg [sI x.cR.acS,sI x.cR.cP.acS,sL Ty.av x.cR.cP.acT,sL Tm.av x.cR.c9,sL Fm.av x.cR.acT,AV.slice .hY (List.map (λn=>AV.sc (Value.int .i64 n)) x.fk)]:=by cases x;exact p_.eT _ _
@[simp] theorem p_.fo(x:p_):x.av.cells=[sI x.cR.acS,sI x.cR.cP.acS,sL Ty.av x.cR.cP.acT,sL Tm.av x.cR.c9,sL Fm.av x.cR.acT,AV.slice .hY (List.map (λn=>AV.sc (Value.int .i64 n)) x.fk)]:=by rw[p_.fp];rfl
@[simp] theorem p_.tH(x:p_):dY x.av=true:=by rw[p_.fp];rfl
@[simp] theorem p_.pW(x:p_):x.av.norm=x.av:=by rw[p_.fp];rfl
@[simp] theorem p_.UL(a b:Int)(c:List Ty)(c3:List Tm)(d:List Fm)(c5:List Int):AV.agg [sI a,sI b,sL Ty.av c,sL Tm.av c3,sL Fm.av d,AV.slice .hY (List.map (λn=>AV.sc (Value.int .i64 n)) c5)]=p_.av (p_.mk (Fm.mk a (Ty.mk b c) c3 d) c5):=by rw[p_.eT]<;>rfl
@[simp] theorem p_.UJ(a b:Int):AV.agg [sI a,sI b,AV.slice .hY [],AV.slice .hY [],AV.slice .hY [],AV.slice .hY []]=p_.av (p_.mk (Fm.mk a (Ty.mk b []) [] []) []):=by rw[p_.eT]<;>rfl
def cV.av(x:cV):AV:=.agg [AV.slice .hY (List.map (λn=>AV.sc (Value.int .i64 n)) x.l),sI x.oU]
def cV.eT(l:List Int)(oU:Int):(cV.mk l oU).av=.agg [AV.slice .hY (List.map (λn=>AV.sc (Value.int .i64 n)) l),sI oU]:=rfl
def cV.fp(x:cV):x.av=.agg [AV.slice .hY (List.map (λn=>AV.sc (Value.int .i64 n)) x.l),sI x.oU]:=by cases x;exact cV.eT _ _
@[simp] theorem cV.fo(x:cV):x.av.cells=[AV.slice .hY (List.map (λn=>AV.sc (Value.int .i64 n)) x.l),sI x.oU]:=by rw[cV.fp];rfl
@[simp] theorem cV.tH(x:cV):dY x.av=true:=by rw[cV.fp];rfl
@[simp] theorem cV.Y8(a:List Int)(b:Int):AV.agg [AV.slice .hY (List.map (λn=>AV.sc (Value.int .i64 n)) a),sI b]=cV.av (cV.mk a b):=by rw[cV.eT]<;>rfl
def cL.av(x:cL):AV:=.agg [sI x.cR.acS,sI x.cR.cP.acS,sL Ty.av x.cR.cP.acT,sL Tm.av x.cR.c9,sL Fm.av x.cR.acT,AV.sc (.int .u32 x.fk)]
def cL.eT(cR:Fm)(fk:Int):(cL.mk cR fk).av=.agg [sI cR.acS,sI cR.cP.acS,sL Ty.av cR.cP.acT,sL Tm.av cR.c9,sL Fm.av cR.acT,AV.sc (.int .u32 fk)]:=rfl
def cL.fp(x:cL):x.av=.agg [sI x.cR.acS,sI x.cR.cP.acS,sL Ty.av x.cR.cP.acT,sL Tm.av x.cR.c9,sL Fm.av x.cR.acT,AV.sc (.int .u32 x.fk)]:=by cases x;exact cL.eT _ _
@[simp] theorem cL.fo(x:cL):x.av.cells=[sI x.cR.acS,sI x.cR.cP.acS,sL Ty.av x.cR.cP.acT,sL Tm.av x.cR.c9,sL Fm.av x.cR.acT,AV.sc (.int .u32 x.fk)]:=by rw[cL.fp];rfl
@[simp] theorem cL.tH(x:cL):dY x.av=true:=by rw[cL.fp];rfl
@[simp] theorem cL.pW(x:cL):x.av.norm=x.av:=by rw[cL.fp];rfl
@[simp] theorem cL.NH(a b:Int)(c:List Ty)(c3:List Tm)(d:List Fm)(c5:Int):AV.agg [sI a,sI b,sL Ty.av c,sL Tm.av c3,sL Fm.av d,AV.sc (.int .u32 c5)]=cL.av (cL.mk (Fm.mk a (Ty.mk b c) c3 d) c5):=by rw[cL.eT]<;>rfl
@[simp] theorem cL.XP(a b c5:Int):AV.agg [sI a,sI b,AV.slice .hY [],AV.slice .hY [],AV.slice .hY [],AV.sc (.int .u32 c5)]=cL.av (cL.mk (Fm.mk a (Ty.mk b []) [] []) c5):=by rw[cL.eT]<;>rfl
def dA.av(x:dA):AV:=.agg [sI x.vars,sI x.acZ]
def dA.eT(vars acZ:Int):(dA.mk vars acZ).av=.agg [sI vars,sI acZ]:=rfl
def dA.fp(x:dA):x.av=.agg [sI x.vars,sI x.acZ]:=by cases x;exact dA.eT _ _
@[simp] theorem dA.fo(x:dA):x.av.cells=[sI x.vars,sI x.acZ]:=by rw[dA.fp];rfl
@[simp] theorem dA.tH(x:dA):dY x.av=true:=by rw[dA.fp];rfl
@[simp] theorem dA.pW(x:dA):x.av.norm=x.av:=by rw[dA.fp];rfl
@[simp] theorem dA.agg(a b:Int):AV.agg [sI a,sI b]=dA.av (dA.mk a b):=by rw[dA.eT]<;>rfl
def cM.av(x:cM):AV:=.agg [sI x.cP.acS,sL Ty.av x.cP.acT,sI x.acU]
def cM.eT(cP:Ty)(acU:Int):(cM.mk cP acU).av=.agg [sI cP.acS,sL Ty.av cP.acT,sI acU]:=rfl
def cM.fp(x:cM):x.av=.agg [sI x.cP.acS,sL Ty.av x.cP.acT,sI x.acU]:=by cases x;exact cM.eT _ _
@[simp] theorem cM.fo(x:cM):x.av.cells=[sI x.cP.acS,sL Ty.av x.cP.acT,sI x.acU]:=by rw[cM.fp];rfl
@[simp] theorem cM.tH(x:cM):dY x.av=true:=by rw[cM.fp];rfl
@[simp] theorem cM.pW(x:cM):x.av.norm=x.av:=by rw[cM.fp];rfl
@[simp] theorem cM.Y8(a:Int)(b:List Ty)(c:Int):AV.agg [sI a,sL Ty.av b,sI c]=cM.av (cM.mk (Ty.mk a b) c):=by rw[cM.eT]<;>rfl
@[simp] theorem cM.abY(a b:Int):AV.agg [sI a,AV.slice .hY [],sI b]=cM.av (cM.mk (Ty.mk a []) b):=by rw[cM.eT]<;>rfl
def cZ.av(x:cZ):AV:=.agg [sI x.cR.acS,sI x.cR.cP.acS,sL Ty.av x.cR.cP.acT,sL Tm.av x.cR.c9,sL Fm.av x.cR.acT,sI x.vars]
def cZ.eT(cR:Fm)(vars:Int):(cZ.mk cR vars).av=.agg [sI cR.acS,sI cR.cP.acS,sL Ty.av cR.cP.acT,sL Tm.av cR.c9,sL Fm.av cR.acT,sI vars]:=rfl
def cZ.fp(x:cZ):x.av=.agg [sI x.cR.acS,sI x.cR.cP.acS,sL Ty.av x.cR.cP.acT,sL Tm.av x.cR.c9,sL Fm.av x.cR.acT,sI x.vars]:=by cases x;exact cZ.eT _ _
@[simp] theorem cZ.fo(x:cZ):x.av.cells=[sI x.cR.acS,sI x.cR.cP.acS,sL Ty.av x.cR.cP.acT,sL Tm.av x.cR.c9,sL Fm.av x.cR.acT,sI x.vars]:=by rw[cZ.fp];rfl
@[simp] theorem cZ.tH(x:cZ):dY x.av=true:=by rw[cZ.fp];rfl
@[simp] theorem cZ.pW(x:cZ):x.av.norm=x.av:=by rw[cZ.fp];rfl
@[simp] theorem cZ.NH(a b:Int)(c:List Ty)(c3:List Tm)(d:List Fm)(c5:Int):AV.agg [sI a,sI b,sL Ty.av c,sL Tm.av c3,sL Fm.av d,sI c5]=cZ.av (cZ.mk (Fm.mk a (Ty.mk b c) c3 d) c5):=by rw[cZ.eT]<;>rfl
def cQ.av(x:cQ):AV:=.agg [sI x.eK.vars,sI x.eK.acZ,sL cM.av x.acW,sL cZ.av x.known]
def cQ.eT(eK:dA)(acW:List cM)(known:List cZ):(cQ.mk eK acW known).av=.agg [sI eK.vars,sI eK.acZ,sL cM.av acW,sL cZ.av known]:=rfl
def cQ.fp(x:cQ):x.av=.agg [sI x.eK.vars,sI x.eK.acZ,sL cM.av x.acW,sL cZ.av x.known]:=by cases x;exact cQ.eT _ _ _
@[simp] theorem cQ.fo(x:cQ):x.av.cells=[sI x.eK.vars,sI x.eK.acZ,sL cM.av x.acW,sL cZ.av x.known]:=by rw[cQ.fp];rfl
@[simp] theorem cQ.tH(x:cQ):dY x.av=true:=by rw[cQ.fp];rfl
@[simp] theorem cQ.pW(x:cQ):x.av.norm=x.av:=by rw[cQ.fp];rfl
@[simp] theorem cQ.U8(a b:Int)(c:List cM)(c3:List cZ):AV.agg [sI a,sI b,sL cM.av c,sL cZ.av c3]=cQ.av (cQ.mk (dA.mk a b) c c3):=by rw[cQ.eT]<;>rfl
def cS.av(x:cS):AV:=.agg [sL Fm.av x.lemmas,sL Ty.av x.acW,sL Fm.av x.acZ]
def cS.eT(lemmas:List Fm)(acW:List Ty)(acZ:List Fm):(cS.mk lemmas acW acZ).av=.agg [sL Fm.av lemmas,sL Ty.av acW,sL Fm.av acZ]:=rfl
def cS.fp(x:cS):x.av=.agg [sL Fm.av x.lemmas,sL Ty.av x.acW,sL Fm.av x.acZ]:=by cases x;exact cS.eT _ _ _
@[simp] theorem cS.fo(x:cS):x.av.cells=[sL Fm.av x.lemmas,sL Ty.av x.acW,sL Fm.av x.acZ]:=by rw[cS.fp];rfl
@[simp] theorem cS.tH(x:cS):dY x.av=true:=by rw[cS.fp];rfl
@[simp] theorem cS.pW(x:cS):x.av.norm=x.av:=by rw[cS.fp];rfl
@[simp] theorem cS.NH(a:List Fm)(b:List Ty)(c:List Fm):AV.agg [sL Fm.av a,sL Ty.av b,sL Fm.av c]=cS.av (cS.mk a b c):=by rw[cS.eT]<;>rfl
def c0.av(x:c0):AV:=.agg [sI x.acU,sB x.gJ]
def c0.eT(acU:Int)(gJ:Bool):(c0.mk acU gJ).av=.agg [sI acU,sB gJ]:=rfl
def c0.fp(x:c0):x.av=.agg [sI x.acU,sB x.gJ]:=by cases x;exact c0.eT _ _
@[simp] theorem c0.fo(x:c0):x.av.cells=[sI x.acU,sB x.gJ]:=by rw[c0.fp];rfl
@[simp] theorem c0.tH(x:c0):dY x.av=true:=by rw[c0.fp];rfl
@[simp] theorem c0.agg(a:Int)(b:Bool):AV.agg [sI a,sB b]=c0.av (c0.mk a b):=by rw[c0.eT]<;>rfl
def dE.av(x:dE):AV:=.agg [sI x.acS,sI x.base.acS,sI x.base.acV,sI x.base.cP.acS,sL Ty.av x.base.cP.acT,sL Tm.av x.base.acT,sL Ty.av x.vars,sI x.next.acS,sI x.next.acV,sI x.next.cP.acS,sL Ty.av x.next.cP.acT,sL Tm.av x.next.acT]
def dE.eT(acS:Int)(base:Tm)(vars:List Ty)(next:Tm):(dE.mk acS base vars next).av=.agg [sI acS,sI base.acS,sI base.acV,sI base.cP.acS,sL Ty.av base.cP.acT,sL Tm.av base.acT,sL Ty.av vars,sI next.acS,sI next.acV,sI next.cP.acS,sL Ty.av next.cP.acT,sL Tm.av next.acT]:=rfl
def dE.fp(x:dE):x.av=.agg [sI x.acS,sI x.base.acS,sI x.base.acV,sI x.base.cP.acS,sL Ty.av x.base.cP.acT,sL Tm.av x.base.acT,sL Ty.av x.vars,sI x.next.acS,sI x.next.acV,sI x.next.cP.acS,sL Ty.av x.next.cP.acT,sL Tm.av x.next.acT]:=by cases x;exact dE.eT _ _ _ _
@[simp] theorem dE.fo(x:dE):x.av.cells=[sI x.acS,sI x.base.acS,sI x.base.acV,sI x.base.cP.acS,sL Ty.av x.base.cP.acT,sL Tm.av x.base.acT,sL Ty.av x.vars,sI x.next.acS,sI x.next.acV,sI x.next.cP.acS,sL Ty.av x.next.cP.acT,sL Tm.av x.next.acT]:=by rw[dE.fp];rfl
@[simp] theorem dE.tH(x:dE):dY x.av=true:=by rw[dE.fp];rfl
def dU.av(x:dU):AV:=.agg [sI x.c9,sI x.dV,sI x.acT,sB x.acV,sB x.o0]
def dU.eT(c9 dV acT:Int)(acV o0:Bool):(dU.mk c9 dV acT acV o0).av=.agg [sI c9,sI dV,sI acT,sB acV,sB o0]:=rfl
def dU.fp(x:dU):x.av=.agg [sI x.c9,sI x.dV,sI x.acT,sB x.acV,sB x.o0]:=by cases x;exact dU.eT _ _ _ _ _
@[simp] theorem dU.fo(x:dU):x.av.cells=[sI x.c9,sI x.dV,sI x.acT,sB x.acV,sB x.o0]:=by rw[dU.fp];rfl
@[simp] theorem dU.tH(x:dU):dY x.av=true:=by rw[dU.fp];rfl
@[simp] theorem dU.pW(x:dU):x.av.norm=x.av:=by rw[dU.fp];rfl
@[simp] theorem dU.agg(a b c:Int)(c3 d:Bool):AV.agg [sI a,sI b,sI c,sB c3,sB d]=dU.av (dU.mk a b c c3 d):=by rw[dU.eT]<;>rfl
def ef.av(x:ef):AV:=.agg [sB x.acV,sB x.typed,sI x.c9,sI x.dV,sI x.acT,sI x.s8,sI x.vars,sI x.acZ]
def ef.eT(acV typed:Bool)(c9 dV acT s8 vars acZ:Int):(ef.mk acV typed c9 dV acT s8 vars acZ).av=.agg [sB acV,sB typed,sI c9,sI dV,sI acT,sI s8,sI vars,sI acZ]:=rfl
def ef.fp(x:ef):x.av=.agg [sB x.acV,sB x.typed,sI x.c9,sI x.dV,sI x.acT,sI x.s8,sI x.vars,sI x.acZ]:=by cases x;exact ef.eT _ _ _ _ _ _ _ _
@[simp] theorem ef.fo(x:ef):x.av.cells=[sB x.acV,sB x.typed,sI x.c9,sI x.dV,sI x.acT,sI x.s8,sI x.vars,sI x.acZ]:=by rw[ef.fp];rfl
@[simp] theorem ef.tH(x:ef):dY x.av=true:=by rw[ef.fp];rfl
@[simp] theorem ef.pW(x:ef):x.av.norm=x.av:=by rw[ef.fp];rfl
@[simp] theorem ef.agg(a b:Bool)(c c3 d c5 e f:Int):AV.agg [sB a,sB b,sI c,sI c3,sI d,sI c5,sI e,sI f]=ef.av (ef.mk a b c c3 d c5 e f):=by rw[ef.eT]<;>rfl
def HC.cells(k:Nat):HC->List AV
 |.eH x=>[lP k x.term,sI x.steps]|.dt x=>[sI x.acS,sI x.acV,sI x.o0.acS,sL Ty.av x.o0.acT,AV.slice .hY (List.map (lP k) x.acT),sI x.size,sI x.free,sB x.normal]
@[simp] theorem HC.MJ(k:Nat)(x:ew):HC.cells k (.eH x)=[lP k x.term,sI x.steps]:=rfl
@[simp] theorem HC.OP(k:Nat)(x:dr):HC.cells k (.dt x)=[sI x.acS,sI x.acV,sI x.o0.acS,sL Ty.av x.o0.acT,AV.slice .hY (List.map (lP k) x.acT),sI x.size,sI x.free,sB x.normal]:=rfl
abbrev gv(k:Nat)(l:List HC):cW:=vw HC.cells k l
end Go.fB
namespace Go.Proofs.YtobcafblgapgfaaGreatDoor
open Go Go.ke Go.fB Tryz
@[simp] theorem Rh:eO prog 3=some (false,1):=by kernel_rfl
@[simp] theorem Vg:js prog 3=some [.sc (.int .i64 0)]:=by kernel_rfl
@[simp] theorem tZ:prog.underlying 3=some (.int .i64):=by kernel_rfl
@[simp] theorem acQ:eO prog 4=some (false,1)/\js prog 4=some [.sc (.bool false)]/\eO prog 22=some (false,1)/\eO prog 23=some (false,1)/\eO prog 24=some (false,1)/\eO prog 26=some (true,2)/\qE prog 26=some [.slice .full [],.slice .full []]/\js prog 26=some [.slice .full [],.slice .full []]/\eb prog 26 0=some (0,24)/\fM prog 26 0=some (0,1):=by and_intros<;>kernel_rfl
@[simp] theorem Pc:nT prog 22=some (3,1):=by kernel_rfl
@[simp] theorem Y0:prog.underlying 22=some (.slice 3):=by kernel_rfl
@[simp] theorem BW:nT prog 23=some (46,5):=by kernel_rfl
@[simp] theorem Zy:prog.underlying 23=some (.slice 46):=by kernel_rfl
@[simp] theorem EV:nT prog 24=some (28,2):=by kernel_rfl
@[simp] theorem Y6:prog.underlying 24=some (.slice 28):=by kernel_rfl
@[simp] theorem YM:eb prog 26 1=some (1,23)/\fM prog 26 1=some (1,1)/\qE prog 28=some [.sc (.int .i64 0),.slice .full []]/\js prog 28=some [.sc (.int .i64 0),.slice .full []]/\eb prog 28 0=some (0,3)/\fM prog 28 0=some (0,1)/\eb prog 28 1=some (1,24)/\fM prog 28 1=some (1,1)/\eO prog 29=some (false,1)/\eO prog 30=some (false,1):=by and_intros<;>kernel_rfl
@[simp] theorem Vm:eO prog 28=some (true,2):=by kernel_rfl
@[simp] theorem Ty.YK(x:Ty):rD prog 28 x.av=true:=by rw[Ty.fp,vg,Vm];rfl
@[simp] theorem A1:nT prog 29=some (64,5):=by kernel_rfl
@[simp] theorem Xv:nT prog 30=some (32,7):=by kernel_rfl
@[simp] theorem Z5:eO prog 32=some (true,7):=by kernel_rfl
@[simp] theorem ab9:qE prog 32=some [.sc (.int .i64 0),.sc (.int .i64 0),.sc (.int .i64 0),.slice .full [],.slice .full [],.slice .full [],.slice .full []]/\eb prog 32 0=some (0,3)/\fM prog 32 0=some (0,1)/\eb prog 32 1=some (1,3)/\fM prog 32 1=some (1,1)/\eb prog 32 2=some (2,28)/\fM prog 32 2=some (2,2)/\eb prog 32 3=some (4,29)/\fM prog 32 3=some (4,1)/\eb prog 32 4=some (5,23):=by and_intros<;>kernel_rfl
@[simp] theorem X6:js prog 32=some [.sc (.int .i64 0),.sc (.int .i64 0),.sc (.int .i64 0),.slice .full [],.slice .full [],.slice .full [],.slice .full []]:=by kernel_rfl
@[simp] theorem Yx:eb prog 32 5=some (6,30)/\eO prog 43=some (false,1)/\js prog 43=some [.sc (.int .i64 0)]/\qE prog 46=some [.sc (.int .i64 0),.sc (.int .i64 0),.slice .full [],.slice .full [],.slice .full []]/\eb prog 46 0=some (0,3)/\fM prog 46 0=some (0,1)/\eb prog 46 1=some (1,28)/\fM prog 46 1=some (1,2)/\eb prog 46 2=some (3,29)/\fM prog 46 2=some (3,1):=by and_intros<;>kernel_rfl
@[simp] theorem Pf.YQ(x:Pf):rD prog 32 x.av=true:=by rw[Pf.fp,vg,Z5];rfl
@[simp] theorem VF:eO prog 46=some (true,5):=by kernel_rfl
@[simp] theorem XO:js prog 46=some [.sc (.int .i64 0),.sc (.int .i64 0),.slice .full [],.slice .full [],.slice .full []]:=by kernel_rfl
@[simp] theorem YT:eb prog 46 3=some (4,23)/\fM prog 46 3=some (4,1)/\eO prog 48=some (true,6)/\qE prog 48=some [.sc (.int .i64 0),.sc (.int .i64 0),.slice .full [],.slice .full [],.slice .full [],.slice .full []]/\js prog 48=some [.sc (.int .i64 0),.sc (.int .i64 0),.slice .full [],.slice .full [],.slice .full [],.slice .full []]/\eb prog 48 0=some (0,46)/\fM prog 48 0=some (0,5)/\eb prog 48 1=some (5,22)/\fM prog 48 1=some (5,1)/\qE prog 64=some [.sc (.int .i64 0),.sc (.int .i64 0),.sc (.int .i64 0),.slice .full [],.slice .full []]:=by and_intros<;>kernel_rfl
@[simp] theorem Fm.YL(x:Fm):rD prog 46 x.av=true:=by rw[Fm.fp,vg,VF];rfl
@[simp] theorem VO:eO prog 64=some (true,5):=by kernel_rfl
@[simp] theorem Se:js prog 64=some [.sc (.int .i64 0),.sc (.int .i64 0),.sc (.int .i64 0),.slice .full [],.slice .full []]:=by kernel_rfl
@[simp] theorem YS:eb prog 64 0=some (0,3)/\fM prog 64 0=some (0,1)/\eb prog 64 1=some (1,3)/\fM prog 64 1=some (1,1)/\eb prog 64 2=some (2,28)/\fM prog 64 2=some (2,2)/\eb prog 64 3=some (4,29)/\fM prog 64 3=some (4,1)/\qE prog 99=some [.slice .full [],.sc (.int .i64 0)]/\eb prog 99 0=some (0,22):=by and_intros<;>kernel_rfl
@[simp] theorem Tm.YN(x:Tm):rD prog 64 x.av=true:=by rw[Tm.fp,vg,VO];rfl
@[simp] theorem YE:fM prog 99 0=some (0,1)/\eb prog 99 1=some (1,3)/\eO prog 113=some (false,1)/\qE prog 116=some [.slice .full [],.sc (.map none)]/\eb prog 116 0=some (0,23)/\fM prog 116 0=some (0,1)/\eb prog 116 1=some (1,113)/\fM prog 116 1=some (1,1)/\eO prog 118=some (false,1)/\js prog 118=some [.sc (.int .u32 0)]:=by and_intros<;>kernel_rfl
@[simp] theorem abC:eO prog 120=some (true,6)/\qE prog 120=some [.sc (.int .i64 0),.sc (.int .i64 0),.slice .full [],.slice .full [],.slice .full [],.sc (.int .u32 0)]/\js prog 120=some [.sc (.int .i64 0),.sc (.int .i64 0),.slice .full [],.slice .full [],.slice .full [],.sc (.int .u32 0)]/\eb prog 120 0=some (0,46)/\fM prog 120 0=some (0,5)/\eb prog 120 1=some (5,118)/\fM prog 120 1=some (5,1)/\eO prog 124=some (true,2)/\eb prog 124 0=some (0,3)/\eb prog 124 1=some (1,3):=by and_intros<;>kernel_rfl
@[simp] theorem abz:eO prog 126=some (false,1)/\eO prog 127=some (false,1)/\eO prog 129=some (true,4)/\qE prog 129=some [.sc (.int .i64 0),.sc (.int .i64 0),.slice .full [],.slice .full []]/\js prog 129=some [.sc (.int .i64 0),.sc (.int .i64 0),.slice .full [],.slice .full []]/\eb prog 129 0=some (0,124)/\eb prog 129 1=some (2,126)/\fM prog 129 1=some (2,1)/\eb prog 129 2=some (3,127)/\eO prog 134=some (true,3):=by and_intros<;>kernel_rfl
@[simp] theorem S8:nT prog 126=some (191,3):=by kernel_rfl
@[simp] theorem X9:prog.underlying 126=some (.slice 191):=by kernel_rfl
@[simp] theorem aag:nT prog 127=some (221,6):=by kernel_rfl
@[simp] theorem WW:prog.underlying 127=some (.slice 221):=by kernel_rfl
@[simp] theorem abn:qE prog 134=some [.slice .full [],.slice .full [],.slice .full []]/\js prog 134=some [.slice .full [],.slice .full [],.slice .full []]/\eb prog 134 0=some (0,23)/\fM prog 134 0=some (0,1)/\eb prog 134 1=some (1,24)/\fM prog 134 1=some (1,1)/\eb prog 134 2=some (2,23)/\fM prog 134 2=some (2,1)/\eO prog 175=some (false,1)/\js prog 175=some [.sc .nilFunc]:=by and_intros<;>kernel_rfl
@[simp] theorem N6:prog.underlying 148=some (.map 3 4):=by kernel_rfl
@[simp] theorem yU:eO prog 191=some (true,3):=by kernel_rfl
@[simp] theorem aa0:qE prog 191=some [.sc (.int .i64 0),.slice .full [],.sc (.int .i64 0)]/\js prog 191=some [.sc (.int .i64 0),.slice .full [],.sc (.int .i64 0)]/\eb prog 191 0=some (0,28)/\fM prog 191 0=some (0,2)/\eb prog 191 1=some (2,3)/\fM prog 191 1=some (2,1)/\qE prog 199=some [.sc (.int .i64 0),.sc (.bool false)]/\eb prog 199 0=some (0,3)/\eb prog 199 1=some (1,4)/\eO prog 214=some (true,12):=by and_intros<;>kernel_rfl
@[simp] theorem cM.X8(x:cM):rD prog 191 x.av=true:=by rw[cM.fp,vg,yU];rfl
@[simp] theorem abp:qE prog 214=some [.sc (.int .i64 0),.sc (.int .i64 0),.sc (.int .i64 0),.sc (.int .i64 0),.slice .full [],.slice .full [],.slice .full [],.sc (.int .i64 0),.sc (.int .i64 0),.sc (.int .i64 0),.slice .full [],.slice .full []]/\js prog 214=some [.sc (.int .i64 0),.sc (.int .i64 0),.sc (.int .i64 0),.sc (.int .i64 0),.slice .full [],.slice .full [],.slice .full [],.sc (.int .i64 0),.sc (.int .i64 0),.sc (.int .i64 0),.slice .full [],.slice .full []]/\eb prog 214 0=some (0,3)/\fM prog 214 0=some (0,1)/\eb prog 214 1=some (1,64)/\fM prog 214 1=some (1,5)/\eb prog 214 2=some (6,24)/\fM prog 214 2=some (6,1)/\eb prog 214 3=some (7,64)/\fM prog 214 3=some (7,5):=by and_intros<;>kernel_rfl
@[simp] theorem RZ:eO prog 221=some (true,6):=by kernel_rfl
@[simp] theorem aa5:qE prog 221=some [.sc (.int .i64 0),.sc (.int .i64 0),.slice .full [],.slice .full [],.slice .full [],.sc (.int .i64 0)]/\js prog 221=some [.sc (.int .i64 0),.sc (.int .i64 0),.slice .full [],.slice .full [],.slice .full [],.sc (.int .i64 0)]/\eb prog 221 0=some (0,46)/\fM prog 221 0=some (0,5)/\eb prog 221 1=some (5,3)/\fM prog 221 1=some (5,1)/\eO prog 225=some (true,5)/\qE prog 225=some [.sc (.int .i64 0),.sc (.int .i64 0),.sc (.int .i64 0),.sc (.bool false),.sc (.bool false)]/\js prog 225=some [.sc (.int .i64 0),.sc (.int .i64 0),.sc (.int .i64 0),.sc (.bool false),.sc (.bool false)]/\eb prog 225 0=some (0,3):=by and_intros<;>kernel_rfl
@[simp] theorem cZ.Wb(x:cZ):rD prog 221 x.av=true:=by rw[cZ.fp,vg,RZ];rfl
@[simp] theorem XW:fM prog 225 0=some (0,1)/\eb prog 225 1=some (1,3)/\fM prog 225 1=some (1,1)/\eb prog 225 2=some (2,3)/\fM prog 225 2=some (2,1)/\eb prog 225 3=some (3,4)/\fM prog 225 3=some (3,1)/\eb prog 225 4=some (4,4)/\fM prog 225 4=some (4,1)/\qE prog 238=some [.sc (.bool false),.sc (.bool false),.sc (.int .i64 0),.sc (.int .i64 0),.sc (.int .i64 0),.sc (.int .i64 0),.sc (.int .i64 0),.sc (.int .i64 0)]:=by and_intros<;>kernel_rfl
@[simp] theorem QF:eO prog 238=some (true,8):=by kernel_rfl
@[simp] theorem abi:js prog 238=some [.sc (.bool false),.sc (.bool false),.sc (.int .i64 0),.sc (.int .i64 0),.sc (.int .i64 0),.sc (.int .i64 0),.sc (.int .i64 0),.sc (.int .i64 0)]/\eb prog 238 0=some (0,4)/\eb prog 238 1=some (1,4)/\eb prog 238 2=some (2,3)/\eb prog 238 3=some (3,3)/\eb prog 238 4=some (4,3)/\eO prog 244=some (true,9)/\js prog 244=some [.sc (.int .i64 0),.slice .full [],.sc (.int .i64 0),.sc (.int .i64 0),.slice .full [],.sc (.int .i64 0),.sc (.int .i64 0),.slice .full [],.sc (.int .i64 0)]/\eO prog 247=some (false,1)/\eO prog 262=some (false,1):=by and_intros<;>kernel_rfl
@[simp] theorem ef.VU(x:ef):rD prog 238 x.av=true:=by rw[ef.fp,vg,QF];rfl
@[simp] theorem Dx:prog.underlying 244=some (.array 3 191):=by kernel_rfl
@[simp] theorem aam(b g o:Nat):fl prog 244 (.fC b g o) (.sc (.int .i64 0))=some (.fC b g (o+0)):=by kernel_rfl
@[simp] theorem Z3(b g o:Nat):fl prog 244 (.fC b g o) (.sc (.int .i64 1))=some (.fC b g (o+3)):=by kernel_rfl
@[simp] theorem Zv(b g o:Nat):fl prog 244 (.fC b g o) (.sc (.int .i64 2))=some (.fC b g (o+6)):=by kernel_rfl
@[simp] theorem XY:prog.underlying 258=some (.array 21 238):=by kernel_rfl
@[simp] theorem aa9:js prog 262=some [.sc .nilFunc]/\qE prog 269=some [.sc (.pointer none),.sc (.int .i64 0)]/\eb prog 269 0=some (0,266)/\fM prog 269 0=some (0,1)/\eb prog 269 1=some (1,3)/\eO prog 277=some (false,1)/\qE prog 283=some [.sc (.int .i64 0),.sc (.int .i64 0),.sc (.int .i64 0),.slice .full [],.slice .full [],.sc (.int .i64 0),.sc (.int .i64 0),.sc (.bool false)]/\eb prog 283 0=some (0,3)/\fM prog 283 0=some (0,1)/\eb prog 283 1=some (1,3):=by and_intros<;>kernel_rfl
@[simp] theorem XS:eO prog 266=some (false,1):=by kernel_rfl
@[simp] theorem UD:js prog 266=some [.sc (.pointer none)]:=by kernel_rfl
@[simp] theorem Sd:prog.underlying 266=some (.pointer 283):=by kernel_rfl
@[simp] theorem abM(k:Nat)(x:Option Nat):nH prog .eql 266 (lP k x) (.sc (.pointer none))=some (.sc (.bool x.isNone)):=SX Sd
@[simp] theorem abH(k:Nat)(x:Option Nat):nH prog .neq 266 (lP k x) (.sc (.pointer none))=some (.sc (.bool x.isSome)):=SU Sd
@[simp] theorem OA:nT prog 277=some (266,1):=by kernel_rfl
@[simp] theorem Xj:fM prog 283 1=some (1,1)/\eb prog 283 2=some (2,28)/\fM prog 283 2=some (2,2)/\eb prog 283 3=some (4,277)/\fM prog 283 3=some (4,1)/\eb prog 283 4=some (5,3)/\fM prog 283 4=some (5,1)/\eb prog 283 5=some (6,3)/\eb prog 283 6=some (7,4)/\eO prog 284=some (false,1):=by and_intros<;>kernel_rfl
@[simp] theorem Wa:prog.underlying 287=some (.array 14 3):=by kernel_rfl
@[simp] theorem ab0(tag:Tag)(l:List Int)(a:Int):o8 prog 22 (.slice tag (List.map sI l)) (some (.sc (.int .i64 a))) none none=(AT l a (di l)).map λr=>.slice .hY (List.map sI r):=KK _ l Y0 Rh (λx=>by simp)
@[simp] theorem abc(tag:Tag)(l:List Fm):o8 prog 23 (.slice tag (List.map Fm.av l)) none (some (.sc (.int .i64 (di l)))) (some (.sc (.int .i64 (di l))))=some (.slice .full (List.map Fm.av l)):=xM _ l Zy VF (λx=>by simp)
@[simp] theorem abb(tag:Tag)(l:List Ty):o8 prog 24 (.slice tag (List.map Ty.av l)) none (some (.sc (.int .i64 (di l)))) (some (.sc (.int .i64 (di l))))=some (.slice .full (List.map Ty.av l)):=xM _ l Y6 Vm (λx=>by simp)
@[simp] theorem Y7(tag:Tag)(l:List cM):o8 prog 126 (.slice tag (List.map cM.av l)) none (some (.sc (.int .i64 (di l)))) (some (.sc (.int .i64 (di l))))=some (.slice .full (List.map cM.av l)):=xM _ l X9 yU (λx=>by simp)
@[simp] theorem ZS(tag:Tag)(l:List cZ):o8 prog 127 (.slice tag (List.map cZ.av l)) none (some (.sc (.int .i64 (di l)))) (some (.sc (.int .i64 (di l))))=some (.slice .full (List.map cZ.av l)):=xM _ l WW RZ (λx=>by simp)
def ef.cs(x:ef):List AV:=x.av.cells
@[simp] theorem acr(a:Int):fl prog 258 (.lG (.agg (List.flatMap (λx=>ef.cs x) oh))) (.sc (.int .i64 a))=(de oh a).map λx=>.lG x.av:=EO XY QF (λx=>rfl) (λx=>⟨_,ef.fp x⟩) (λx=>by simp) rfl
@[simp] theorem acF(a:Int):fl prog 287 (.lG (.agg (List.map (λn=>AV.sc (Value.int .i64 n)) pZ))) (.sc (.int .i64 a))=(de pZ a).map λx=>.lG (.sc (.int .i64 x)):=GI Wa Rh rfl
@[simp] theorem kg:prog.underlying 113=some (.map 3 172):=by kernel_rfl
def R_:L8 prog 172=some (.sc .nilFunc):=by kernel_rfl
def Oc:List Value:=[.int .i64 1,.int .i64 2,.int .i64 3,.int .i64 4,.int .i64 5,.int .i64 6,.int .i64 7,.int .i64 8,.int .i64 12,.int .i64 9,.int .i64 13,.int .i64 10,.int .i64 14,.int .i64 11,.int .i64 15,.int .i64 16,.int .i64 17,.int .i64 18,.int .i64 19,.int .i64 20]
def MS:List AV:=[.func (.func 139) [] [],.func (.func 140) [] [],.func (.func 141) [] [],.func (.func 142) [] [],.func (.func 142) [] [],.func (.func 143) [] [],.func (.func 144) [] [],.func (.func 145) [] [],.func (.func 145) [] [],.func (.func 146) [] [],.func (.func 146) [] [],.func (.func 147) [] [],.func (.func 147) [] [],.func (.func 148) [] [],.func (.func 148) [] [],.func (.func 149) [] [],.func (.func 149) [] [],.func (.func 150) [] [],.func (.func 151) [] [],.func (.func 152) [] []]
def Kg:AV:=.td Oc MS
def JU(k:Int):AV:=match mapIdx Oc (.int .i64 k)with|some j=>MS.getD j .undef|none=>.sc .nilFunc
abbrev KC(H:cW)(o:Nat)(l:List Fm):Prop:=H[o]?=some [sL Fm.av l,AV.mU (o-1)]/\H[o-1]?=some [Kg]
def M'{H:cW}{o:Nat}{k:Int}(h:H[o]?=some [Kg]):tT prog H 113 (AV.mU o) (sI k) false=some (JU k):=Qa kg tZ R_ h abl abl
def ia{k key:Int}{x:AV}(h:dg k key=true)(a:JU key=x):JU k=x:=by rw[R7 h];exact a
def nD{T:dx}{g:Nat}{xs:List AV}{H H':cW}{r:AV}(h:du prog T g xs H r H'):mI prog T (.func (.func g) [] []) xs H r H':=by
 unfold mI k0;simp only[mR,wT];exact h
abbrev pE(T:dx):Prop:=T 2=some (AV.agg (List.map (λn=>AV.sc (Value.int .i64 n)) pZ))/\T 1=some (AV.agg (List.flatMap (λx=>ef.cs x) oh))/\T 0=some (AV.agg (List.map (λn=>AV.sc (Value.int .u8 n)) kK))
def BC{S:Type}(T:dx)(g:Nat)(cap:List AV)(st:S->cW)(w:(S->Tm->Int->Option (Tm×S))):Prop:=
 ∀(X:cW) (s:S) (a:Tm) (b:Int) (c:Tm) (d:S),w s a b=some (c,d)->du prog T g ([Tm.av a,sI b]++cap) (st s++X) (Tm.av c) (st d++X)
def BC.XF{S:Type}{T:dx}{g:Nat}{cap:List AV}{st:S->cW}{w:(S->Tm->Int->Option (Tm×S))}(h:BC T g cap st w){s:S}{a:Tm}{b:Int}{c:Tm}{d:S}(hw:w s a b=some (c,d)):du prog T g ([Tm.av a,sI b]++cap) (st s) (Tm.av c) (st d):=by
 have:=h [] s a b c d hw
 rwa [wT,wT] at this
def sP{S:Type}(T:dx)(g:Nat)(cap:List AV)(st:S->cW)(w:(S->Int->Int->Option (S))):Prop:=
 ∀(X:cW) (s:S) (a:Int) (b:Int) (c:S),w s a b=some c->du prog T g ([sI a,sI b]++cap) (st s++X) (AV.tuple []) (st c++X)
def sP.ext{S:Type}{T:dx}{g:Nat}{cap:List AV}{st:S->cW}{w:(S->Int->Int->Option (S))}(h:sP T g cap st w){Y:cW}:sP T g cap (λs=>st s++Y) w:=λX s a b c hw=>by
 have:=h (Y++X) s a b c hw
 rwa [<-tE,<-tE] at this
def sP.XF{S:Type}{T:dx}{g:Nat}{cap:List AV}{st:S->cW}{w:(S->Int->Int->Option (S))}(h:sP T g cap st w){s:S}{a b:Int}{c:S}(hw:w s a b=some c):du prog T g ([sI a,sI b]++cap) (st s) (AV.tuple []) (st c):=by
 have:=h [] s a b c hw
 rwa [wT,wT] at this
def CI{S:Type}(T:dx)(g:Nat)(cap:List AV)(st:S->cW)(w:(S->Tm->Int->Option (S))):Prop:=
 ∀(X:cW) (s:S) (a:Tm) (b:Int) (c:S),w s a b=some c->du prog T g ([Tm.av a,sI b]++cap) (st s++X) (AV.tuple []) (st c++X)
def CI.XF{S:Type}{T:dx}{g:Nat}{cap:List AV}{st:S->cW}{w:(S->Tm->Int->Option (S))}(h:CI T g cap st w){s:S}{a:Tm}{b:Int}{c:S}(hw:w s a b=some c):du prog T g ([Tm.av a,sI b]++cap) (st s) (AV.tuple []) (st c):=by
 have:=h [] s a b c hw
 rwa [wT,wT] at this
def sU{S:Type}(T:dx)(g:Nat)(cap:List AV)(st:S->cW)(w:(S->Int->Int->Option (Tm×S))):Prop:=
 ∀(X:cW) (s:S) (a:Int) (b:Int) (c:Tm) (d:S),w s a b=some (c,d)->du prog T g ([sI a,sI b]++cap) (st s++X) (Tm.av c) (st d++X)
def sU.ext{S:Type}{T:dx}{g:Nat}{cap:List AV}{st:S->cW}{w:(S->Int->Int->Option (Tm×S))}(h:sU T g cap st w){Y:cW}:sU T g cap (λs=>st s++Y) w:=λX s a b c d hw=>by
 have:=h (Y++X) s a b c d hw
 rwa [<-tE,<-tE] at this
def sU.XF{S:Type}{T:dx}{g:Nat}{cap:List AV}{st:S->cW}{w:(S->Int->Int->Option (Tm×S))}(h:sU T g cap st w){s:S}{a b:Int}{c:Tm}{d:S}(hw:w s a b=some (c,d)):du prog T g ([sI a,sI b]++cap) (st s) (Tm.av c) (st d):=by
 have:=h [] s a b c d hw
 rwa [wT,wT] at this
end Go.Proofs.YtobcafblgapgfaaGreatDoor
set_option maxRecDepth 20000
set_option maxHeartbeats 4000000
namespace Go.Proofs.YtobcafblgapgfaaGreatDoor
open Go Go.ke Go.fB Tryz
def fQ:C0 prog 48 gr Ty.av:=by
 refine v0 func48 λT H r m e=>?_;rw[gr] at m;exact au
def eN:C1 prog 52 ez Tm.av sI:=by
 refine v1 func52 λT H a0 r m e=>?_;rw[ez] at m;exact au
def hV{n:Nat}:C1 prog 98 (gE n) Ty.av Ty.av:=by
 refine i1 λn j=>v1 func98 λT H a0 r m e=>?_;rw[gE] at m;simp[e];refine Wr e m 999 (λi s2 f h=>∃a,(h=H/\f.1 3=sT a Ty.av s2/\f.1 7=sL Ty.av a0.acT/\f.1 8=sI (di a0.acT)/\f.1 9=sI i/\bx f 1 (Ty.av a0).cells/\bx f 2 [sI 0,nL])/\Ow f [17] a s2) (by exact⟨.full,aa8,gM.full⟩) (λs2 c _ _ E m=>?_) (λi _ s2 c _ _ _ _ E e m z p=>?_)
 ·have⟨a,E,b⟩:=E;have e:=Aj e E;dsimp only[cU]at m;exact au
 have⟨a,E,b⟩:=E;have e:=Aj e E;simp[e];refine dX m j λd m=>?_;have⟨e,m⟩:=Ck e m;simp[e];refine Ao (f:=Ty.av) s2 [d] b EV e.2 ?_;simp[e];cases m;exact p _ _ _ ⟨(.loc 17 (c.ei 17+1)),aa8,(On 17)⟩ z
def kr{n:Nat}:C1 prog 104 (iF n) Tm.av Tm.av:=by
 refine i1 λn j=>v1 func104 λT H a0 r m e=>?_;rw[iF] at m;simp[e];refine Wr e m 999 (λi s2 f h=>∃a,(h=H/\f.1 3=sT a Tm.av s2/\f.1 7=sL Tm.av a0.acT/\f.1 8=sI (di a0.acT)/\f.1 9=sI i/\bx f 1 (Tm.av a0).cells/\bx f 2 [sI 0,sI 0,sI 0,nL,nL])/\Ow f [17] a s2) (by exact⟨.full,aa8,gM.full⟩) (λs2 c _ _ E m=>?_) (λi _ s2 c _ _ _ _ E e m z p=>?_)
 ·have⟨a,E,b⟩:=E;have e:=Aj e E;dsimp only[cU]at m;simp[e];refine dT m hV λ_ m=>?_;exact au
 have⟨a,E,b⟩:=E;have e:=Aj e E;simp[e];refine dX m j λd m=>?_;have⟨e,m⟩:=Ck e m;simp[e];refine Ao (f:=Tm.av) s2 [d] b A1 e.2 ?_;simp[e];cases m;exact p _ _ _ ⟨(.loc 17 (c.ei 17+1)),aa8,(On 17)⟩ z
def kn:C1 prog 53 jE Pf.av Tm.av:=by
 refine v1 func53 λT H a0 r m e=>?_;rw[jE] at m;simp[e];refine dX m kr λa m=>?_;have e:=Aj e (show AV.agg [sI 18,sI 0,sI 0,AV.slice .hY [],AV.slice .hY [Tm.av a],AV.slice .hY [],AV.slice .hY []]=Pf.av (Pf.mk 18 0 (Ty.mk 0 []) [a] [] []) by rw[Pf.eT];rfl);exact au
def i_{n:Nat}:C1 prog 87 (iq n) Fm.av Fm.av:=by
 refine i1 λn x=>v1 func87 λT H a0 r m e=>?_;rw[iq] at m;simp[e];refine dT m hV λt m=>?_;simp[e];refine Ap e m 999 (λw o f h=>∃c,(h=H/\f.1 15=sL Tm.av a0.c9/\f.1 16=sI (di a0.c9)/\f.1 17=sI w/\bx f 1 (Fm.av a0).cells/\bx f 2 [sI 0,sI 0,nL,nL,nL]/\bx f 3 [sI a0.acS,sI t.acS,sL Ty.av t.acT,sT c Tm.av o,nL])/\Ow f [26] c o) (by exact⟨.full,aa8,gM.full⟩) (λw _ o q _ _ _ _ E e m z p=>?_) (λo q _ _ E m=>?_)
 ·have⟨c,E,i⟩:=E;have e:=Aj e E;simp[e];refine dT m kr λu m=>?_;have⟨e,m⟩:=Ck e m;simp[e];refine Ad (f:=Tm.av) o [u] i A1 e.2 ?_;simp[e];cases m;exact p _ _ _ ⟨(.loc 26 (q.ei 26+1)),aa8,(On 26)⟩ z
 have⟨c,E,i⟩:=E;have e:=Aj e E;dsimp only[cU]at m;simp[e];refine Wr e m 999 (λs j f h=>∃a b,(h=H/\f.1 30=sL Fm.av a0.acT/\f.1 31=sI (di a0.acT)/\f.1 32=sI s/\bx f 2 [sI 0,sI 0,nL,nL,nL]/\bx f 3 [sI a0.acS,sI t.acS,sL Ty.av t.acT,sT a Tm.av o,sT b Fm.av j])/\Ow f [26] a o/\Ow f [41] b j) (by exact⟨c,.full,aa8,i,gM.full⟩) (λj l _ _ E m=>?_) (λs _ j l _ _ _ _ E e m z p=>?_)
 ·have⟨a,b,E,k,d⟩:=E;have e:=Aj e E;dsimp only[cU]at m;exact au
 have⟨a,b,E,k,d⟩:=E;have e:=Aj e E;simp[e];refine dT m x λv m=>?_;have⟨e,m⟩:=Ck e m;simp[e];refine Ad (f:=Fm.av) j [v] d BW e.2 ?_;simp[e];cases m;exact p _ _ _ ⟨a,(.loc 41 (l.ei 41+1)),aa8,(gM.other k d aaK aaK),(On 41)⟩ z
def Cb{n:Nat}:C1 prog 75 (kS n) Pf.av Pf.av:=by
 refine i1 λn K=>v1 func75 λT H a0 r m e=>?_;rw[kS] at m;simp[e];refine dT m hV λA m=>?_;simp[e];refine Ap e m 999 (λJ w f h=>∃j,(h=H/\f.1 19=sL Tm.av a0.c9/\f.1 20=sI (di a0.c9)/\f.1 21=sI J/\bx f 1 (Pf.av a0).cells/\bx f 2 [sI 0,sI 0,sI 0,nL,nL,nL,nL]/\bx f 3 [sI a0.acS,sI a0.acV,sI A.acS,sL Ty.av A.acT,sT j Tm.av w,nL,nL])/\Ow f [30] j w) (by exact⟨.full,aa8,gM.full⟩) (λJ _ w B _ _ _ _ E e m z p=>?_) (λw B _ _ E m=>?_)
 ·have⟨j,E,s⟩:=E;have e:=Aj e E;simp[e];refine dT m kr λF m=>?_;have⟨e,m⟩:=Ck e m;simp[e];refine Ad (f:=Tm.av) w [F] s A1 e.2 ?_;simp[e];cases m;exact p _ _ _ ⟨(.loc 30 (B.ei 30+1)),aa8,(On 30)⟩ z
 have⟨j,E,s⟩:=E;have e:=Aj e E;dsimp only[cU]at m;simp[e];refine Ap e m 999 (λC o f h=>∃a b,(h=H/\f.1 34=sL Fm.av a0.dV/\f.1 35=sI (di a0.dV)/\f.1 36=sI C/\bx f 1 (Pf.av a0).cells/\bx f 2 [sI 0,sI 0,sI 0,nL,nL,nL,nL]/\bx f 3 [sI a0.acS,sI a0.acV,sI A.acS,sL Ty.av A.acT,sT a Tm.av w,sT b Fm.av o,nL])/\Ow f [30] a w/\Ow f [45] b o) (by exact⟨j,.full,aa8,s,gM.full⟩) (λC _ o x _ _ _ _ E e m z p=>?_) (λo x _ _ E m=>?_)
 ·have⟨a,b,E,q,k⟩:=E;have e:=Aj e E;simp[e];refine dT m i_ λG m=>?_;have⟨e,m⟩:=Ck e m;simp[e];refine Ad (f:=Fm.av) o [G] k BW e.2 ?_;simp[e];cases m;exact p _ _ _ ⟨a,(.loc 45 (x.ei 45+1)),aa8,(gM.other q k aaK aaK),(On 45)⟩ z
 have⟨a,b,E,q,k⟩:=E;have e:=Aj e E;dsimp only[cU]at m;simp[e];refine Wr e m 999 (λD t f h=>∃c d i,(h=H/\f.1 49=sL Pf.av a0.acT/\f.1 50=sI (di a0.acT)/\f.1 51=sI D/\bx f 2 [sI 0,sI 0,sI 0,nL,nL,nL,nL]/\bx f 3 [sI a0.acS,sI a0.acV,sI A.acS,sL Ty.av A.acT,sT c Tm.av w,sT d Fm.av o,sT i Pf.av t])/\Ow f [30] c w/\Ow f [45] d o/\Ow f [60] i t) (by exact⟨a,b,.full,aa8,q,k,gM.full⟩) (λt y _ _ E m=>?_) (λD _ t y _ _ _ _ E e m z p=>?_)
 ·have⟨c,d,i,E,u,v,l⟩:=E;have e:=Aj e E;dsimp only[cU]at m;exact au
 have⟨c,d,i,E,u,v,l⟩:=E;have e:=Aj e E;simp[e];refine dT m K λI m=>?_;have⟨e,m⟩:=Ck e m;simp[e];refine Ad (f:=Pf.av) t [I] l Xv e.2 ?_;simp[e];cases m;exact p _ _ _ ⟨c,d,(.loc 60 (y.ei 60+1)),aa8,(gM.other u l aaK aaK),(gM.other v l aaK aaK),(On 60)⟩ z
def nk:C2 prog 56 lZ Pf.av sI (sL Pf.av):=by
 refine v2 func56 λT H a0 a1 r m e=>?_;rw[lZ] at m;simp[e];refine Wr e m 999 (λi s2 f h=>∃a,(h=H/\f.1 10=sL Pf.av a1/\f.1 11=sI (di a1)/\f.1 12=sI i/\bx f 4 [sI 0,sI 0,sI 0,nL,nL,nL,nL]/\bx f 5 [sI a0,sI 0,sI 0,nL,nL,nL,sT a Pf.av s2])/\Ow f [21] a s2) (by exact⟨.full,aa8,gM.full⟩) (λs2 c _ _ E m=>?_) (λi _ s2 c _ _ _ _ E e m z p=>?_)
 ·have⟨a,E,b⟩:=E;have e:=Aj e E;dsimp only[cU]at m;exact au
 have⟨a,E,b⟩:=E;have e:=Aj e E;simp[e];refine dT m Cb λd m=>?_;have⟨e,m⟩:=Ck e m;simp[e];refine Ad (f:=Pf.av) s2 [d] b Xv e.2 ?_;simp[e];cases m;exact p _ _ _ ⟨(.loc 21 (c.ei 21+1)),aa8,(On 21)⟩ z
def ru:C3 prog 34 oG Pf.av sI Ty.av Pf.av:=by
 refine v3 func34 λT H a0 a1 a2 r m e=>?_;rw[oG] at m;simp[e];refine dX m nk λ_ m=>?_;simp[e];refine dX m hV λ_ m=>?_;exact au
def Dg{n:Nat}:C1 prog 236 (lS n) (t2 sI sB) Ty.av:=by
 refine i1 λn d=>u1 4 func236 λT H a0 r m e=>?_;rw[lS] at m;simp[e];refine wm m 3 999 (λb f h=>∃v2,(h=H/\f.1 4=sI v2/\bx f 1 (Ty.av a0).cells)/\b v2=some r) ?_ (λb _ g m=>?_)
 ·rintro _ _ ⟨v2,E,m⟩;have e:=Aj e E;refine Il e m λe m=>?_;simp[e];refine Wr e m 999 (λc a f h=>h=H/\f.1 5=sI a/\f.1 25=sL Ty.av a0.acT/\f.1 26=sI (di a0.acT)/\f.1 27=sI c) aa8 (λa _ _ _ E m=>?_) (λc _ a _ _ _ _ _ E e m z p=>?_)
  ·have e:=Aj e E;dsimp only[cU]at m;exact au
  have e:=Aj e E;simp[e];refine g_ m d λ_ _ m=>?_;refine Im e m λe m=>?_;exact al
 simp[e];refine wj 999 0 (λf h=>h=H/\f.1 4=sI 0/\f.1 11=sI a0.acS/\f.1 12=sB (eu (dg a0.acS 1) true (eu (dg a0.acS 2) true (dg a0.acS 5)))/\bx f 1 (Ty.av a0).cells) (λ_ g=>?_) ?_
 ·rcases Pb (dg a0.acS 1) e with e|e
  ·exact aj
  rcases Pb (dg a0.acS 2) e with e|e
  ·exact aj
  exact aj
 rintro _ _ E;have e:=Aj e E;apply Iq e m<;>intro e m
 ·apply wg 999;exact iC
 apply wg 1;simp[e];refine wj 999 999 (λf h=>h=H/\f.1 16=sB (eu (dg a0.acS 3) true (dg a0.acS 4))/\bx f 1 (Ty.av a0).cells) (λ_ g=>?_) ?_
 ·rcases Pb (dg a0.acS 3) e with e|e
  ·exact aj
  exact aj
 rintro _ _ E;have e:=Aj e E;refine Im e m λe m=>?_;exact iC
def nx:C1 prog 186 ir (t2 sI sI) Ty.av:=by
 refine v1 func186 λT H a0 r m e=>?_;rw[ir] at m;simp[e];refine g_ m Dg λ_ _ m=>?_;refine Im e m λe m=>?_;refine Il e m λe m=>?_;exact au
def AE:C1 prog 136 ll sI Ty.av:=by
 refine v1 func136 λT H a0 r m e=>?_;rw[ll] at m;simp[e];refine g_ m nx λ_ _ m=>?_;exact au
def yj:C1 prog 77 m0 sI (sL Ty.av):=by
 refine v1 func77 λT H a0 r m e=>?_;rw[m0] at m;refine Il e m λe m=>?_;simp[e];refine Wr e m 999 (λa _ f h=>h=H/\f.1 9=sL Ty.av a0/\f.1 10=sI (di a0)/\f.1 11=sI a) aa8 (λ_ _ _ _ E m=>?_) (λa _ _ _ _ _ _ _ E e m z p=>?_)
 ·have e:=Aj e E;dsimp only[cU]at m;exact au
 have e:=Aj e E;simp[e];refine dX m AE λ_ m=>?_;refine Il e m λe m=>?_;exact al
def wa:C1 prog 238 nN sB Ty.av:=by
 refine u1 2 func238 λT H a0 r m e=>?_;rw[nN] at m;simp[e];refine Ke 999 999 (λf h=>h=H/\f.1 2=sB (eu (dg a0.acS 0) (dg (di a0.acT) 0) false)) ?_ (λ_ g=>?_)
 ·rintro _ _ E;have e:=Aj e E;exact au
 rcases Pb (dg a0.acS 0) e with e|e
 ·exact aj
 exact aj
def Hm:C1 prog 269 qZ sB Fm.av:=by
 refine u1 4 func269 λT H a0 r m e=>?_;rw[qZ] at m;simp[e];refine wm m 5 0 (λa f h=>∃v2 v3 v4,(h=H/\f.1 3=sI v2/\f.1 4=sI v3/\f.1 5=sB v4/\bx f 1 (Fm.av a0).cells)/\a v2 v3 v4=some r) ?_ (λa _ g m=>?_)
 ·rintro _ _ ⟨v2,v3,v4,E,m⟩;have e:=Aj e E;refine wm m 999 0 (λb f h=>(h=H/\f.1 3=sI v2/\f.1 4=sI v3/\bx f 1 (Fm.av a0).cells)/\b=some r) ?_ (λb _ g m=>?_)
  ·rintro _ _ ⟨E,m⟩;have e:=Aj e E;refine Ke 999 999 (λf h=>h=H/\f.1 2=sB (eu (dg (di a0.c9) v2) (dg (di a0.acT) v3) false)) ?_ (λ_ g=>?_)
   ·rintro _ _ E;have e:=Aj e E;exact au
   rcases Pb (dg (di a0.c9) v2) e with e|e
   ·exact aj
   exact aj
  apply Iq e m<;>intro e m
  ·simp[e];refine g_ m nx λ_ _ m=>?_;refine Il e m λe m=>?_;exact VG
  simp[e];refine dX m wa λ_ m=>?_;refine Im e m λe m=>?_;exact VG
 simp[e];apply Iq e m<;>intro e m
 ·apply wg 999;exact ak3
 apply wg 1;simp[e];refine wj 999 0 (λf h=>h=H/\f.1 3=sI 0/\f.1 5=sB false/\f.1 9=sI a0.acS/\f.1 12=sB (eu (dg a0.acS 2) true (dg a0.acS 3))/\bx f 1 (Fm.av a0).cells) (λ_ g=>?_) ?_
 ·rcases Pb (dg a0.acS 2) e with e|e
  ·exact aj
  exact aj
 rintro _ _ E;have e:=Aj e E;apply Iq e m<;>intro e m
 ·apply wg 999;exact ak3
 apply wg 1;simp[e];refine Ke 999 999 (λf h=>h=H/\f.1 3=sI 0/\f.1 15=sB (eu (dg a0.acS 4) true (eu (dg a0.acS 5) true (eu (dg a0.acS 6) true (dg a0.acS 7))))/\bx f 1 (Fm.av a0).cells) ?_ (λ_ g=>?_)
 ·rintro _ _ E;have e:=Aj e E;refine Im e m λe m=>?_;exact ak3
 rcases Pb (dg a0.acS 4) e with e|e
 ·exact aj
 rcases Pb (dg a0.acS 5) e with e|e
 ·exact aj
 rcases Pb (dg a0.acS 6) e with e|e
 ·exact aj
 exact aj
def Kf(T:dx)(c:pE T){H:cW}{a0 a:Int}{b:Bool}(hm:uG a0=some (a,b)):du prog T 294 [sI a0] H (AV.tuple [sI a,sB b]) H:=by
 rw[uG] at hm;have e:=c;refine wi acX func294 [] [] 3 ?_;simp[e];refine wj 999 999 (λf h=>h=H/\f.1 0=sI a0/\f.1 9=sB (eu (qj a0 1) true (sM a0 14))) (λ_ g=>?_) ?_
 ·rcases Pb (qj a0 1) e with e|e
  ·exact aj
  exact aj
 rintro _ _ E;have e:=Aj e E;refine Il e hm λe m=>?_;have⟨d,e,m⟩:=ee e m;exact au
def Kx:C1 prog 295 uO sB sI:=by
 refine u1 2 func295 λT H a0 r m e=>?_;rw[uO] at m;simp[e];refine Ke 999 999 (λf h=>h=H/\f.1 2=sB (eu (dg a0 2) true (eu (dg a0 6) true (dg a0 9)))) ?_ (λ_ g=>?_)
 ·rintro _ _ E;have e:=Aj e E;exact au
 rcases Pb (dg a0 2) e with e|e
 ·exact aj
 rcases Pb (dg a0 6) e with e|e
 ·exact aj
 exact aj
def BM(T:dx)(i:pE T):∀(n:Nat),(∀{H:cW} {a0:Tm} {c:Int} {d:Bool} (hm:iW n a0=some (c,d)),du prog T 270 [Tm.av a0] H (AV.tuple [sI c,sB d]) H):=by
  intro n
  induction n with
  |zero=>
    skip
    all_goals(intro _ _;intros;rename_i hm;cases hm)
  |succ n o=>
 intro H a0 c d hm;rw[iW] at hm;have e:=i;refine wi acX func270 [] [] 5 ?_;simp[e];refine g_ hm (Kf T i) λj k m=>?_;simp[e];refine wj 999 0 (λf h=>h=H/\f.1 42=sB (eu k (eu (dw (di a0.acT) j) true (eu (qj a0.acV 0) true (eu (dw a0.acV 0) (dw a0.acS 1) false))) true)/\bx f 1 (Tm.av a0).cells) (λ_ g=>?_) ?_
 ·rcases Pb k e with e|e;rotate_left
  ·exact aj
  rcases Pb (dw (di a0.acT) j) e with e|e
  ·exact aj
  rcases Pb (qj a0.acV 0) e with e|e
  ·exact aj
  rcases Pb (dw a0.acV 0) e with e|e
  ·exact aj
  exact aj
 rintro _ _ E;have e:=Aj e E;apply Iq e m<;>intro e m
 ·apply wg 999;exact au
 apply wg 2;simp[e];refine Wj m 999 999 (λl f h=>(h=H/\f.1 1=AV.fC 1 (f.gen 1) 0/\f.box 1=some (Tm.av a0).cells)/\l=some (c,d)) (λl _ g m=>?_) ?_
 ·simp[e];refine dX m Kx λ_ m=>?_;apply Iq e m<;>intro e m
  ·simp[e];refine g_ m nx λ_ _ m=>?_;refine Il e m λe m=>?_;exact VG
  simp[e];refine dX m wa λ_ m=>?_;refine Im e m λe m=>?_;exact VG
 rintro _ _ ⟨E,m⟩;have e:=Aj e E;simp[e];refine Wr e m 999 (λb a f h=>h=H/\f.1 8=sI a/\f.1 59=sL Tm.av a0.acT/\f.1 60=sI (di a0.acT)/\f.1 61=sI b) aa8 (λa _ _ _ E m=>?_) (λb _ a _ _ _ _ _ E e m z p=>?_)
 ·have e:=Aj e E;dsimp only[cU]at m;exact au
 have e:=Aj e E;simp[e];refine g_ m o λ_ _ m=>?_;refine Im e m λe m=>?_;exact al
def wZ(T:dx)(c:pE T){H:cW}{a0:Tm}{a:Int}{b:Bool}{n:Nat}(hm:iW n a0=some (a,b)):du prog T 270 [Tm.av a0] H (AV.tuple [sI a,sB b]) H:=(BM T c n) hm
def yZ(T:dx)(j:pE T):∀(n:Nat),(∀{H:cW} {a0:Fm} {c:Int} {d:Bool} (hm:iP n a0=some (c,d)),du prog T 235 [Fm.av a0] H (AV.tuple [sI c,sB d]) H):=by
  intro n
  induction n with
  |zero=>
   skip
   all_goals(intro _ _;intros;rename_i hm;cases hm)
  |succ n l=>
 intro H a0 c d hm;rw[iP] at hm;have e:=j;refine wi acX func235 [] [] 999 ?_;simp[e];refine dX hm Hm λ_ m=>?_;refine Im e m λe m=>?_;simp[e];refine Ap e m 999 (λk i f h=>h=H/\f.1 4=sI i/\f.1 17=sL Tm.av a0.c9/\f.1 18=sI (di a0.c9)/\f.1 19=sI k/\bx f 1 (Fm.av a0).cells) aa8 (λk _ i _ _ _ _ _ E e m z p=>?_) (λi _ _ _ E m=>?_)
 ·have e:=Aj e E;simp[e];refine g_ m (wZ T j) λ_ _ m=>?_;refine Im e m λe m=>?_;exact al
 have e:=Aj e E;dsimp only[cU]at m;simp[e];refine Wr e m 999 (λb a f h=>h=H/\f.1 4=sI a/\f.1 35=sL Fm.av a0.acT/\f.1 36=sI (di a0.acT)/\f.1 37=sI b) aa8 (λa _ _ _ E m=>?_) (λb _ a _ _ _ _ _ E e m z p=>?_)
 ·have e:=Aj e E;dsimp only[cU]at m;exact au
 have e:=Aj e E;simp[e];refine g_ m l λ_ _ m=>?_;refine Im e m λe m=>?_;exact al
def Ae(T:dx)(c:pE T){H:cW}{a0:Fm}{a:Int}{b:Bool}{n:Nat}(hm:iP n a0=some (a,b)):du prog T 235 [Fm.av a0] H (AV.tuple [sI a,sB b]) H:=(yZ T c n) hm
def qe(T:dx)(a:pE T){H:cW}{a0:Fm}{b c:Int}(hm:hB a0=some (b,c)):du prog T 182 [Fm.av a0] H (AV.tuple [sI b,sI c]) H:=by
 rw[hB] at hm;have e:=a;refine wi acX func182 [] [] 999 ?_;simp[e];refine g_ hm (Ae T a) λ_ _ m=>?_;refine Im e m λe m=>?_;refine Il e m λe m=>?_;exact au
def ot(T:dx)(a:pE T){H:cW}{a0:Fm}{b:Int}(hm:ju a0=some b):du prog T 133 [Fm.av a0] H (sI b) H:=by
 rw[ju] at hm;have e:=a;refine wi acX func133 [] [] 999 ?_;simp[e];refine g_ hm (qe T a) λ_ _ m=>?_;exact au
def ry:C1 prog 183 mg cM.av Ty.av:=by
 refine v1 func183 λT H a0 r m e=>?_;rw[mg] at m;simp[e];refine g_ m nx λ_ _ m=>?_;exact au
def we:C1 prog 134 nK (sL cM.av) (sL Ty.av):=by
 refine v1 func134 λT H a0 r m e=>?_;rw[nK] at m;simp[e];refine Wr e m 999 (λi s2 f h=>∃a,(h=H/\f.1 3=sT a cM.av s2/\f.1 6=sL Ty.av a0/\f.1 7=sI (di a0)/\f.1 8=sI i)/\Ow f [16] a s2) (by exact⟨.full,aa8,gM.full⟩) (λs2 c _ _ E m=>?_) (λi _ s2 c _ _ _ _ E e m z p=>?_)
 ·have⟨a,E,b⟩:=E;have e:=Aj e E;dsimp only[cU]at m;exact au
 have⟨a,E,b⟩:=E;have e:=Aj e E;simp[e];refine dX m ry λd m=>?_;have⟨e,m⟩:=Ck e m;simp[e];refine Ao (f:=cM.av) s2 [d] b S8 e.2 ?_;simp[e];cases m;exact p _ _ _ ⟨(.loc 16 (c.ei 16+1)),aa8,(On 16)⟩ z
def l5:C2 prog 184 e_ (sL cM.av) (sL cM.av) (sL Ty.av):=by
 refine v2 func184 λT H a0 a1 r m e=>?_;rw[e_] at m;simp[e];refine dT m we λa m=>?_;have⟨e,m⟩:=Ck e m;simp[e];refine Ad (f:=cM.av) a0 a (gM.full (D:=[])) S8 e.2 ?_;exact au
def AA:C3 prog 241 qY (t2 cM.av sI) sI cM.av cM.av:=by
 refine v3 func241 λT H a0 a1 a2 r m e=>?_;rw[qY] at m;refine Il e m λe m=>?_;have e:=Aj e (show AV.agg [sI a0,AV.slice .hY [Ty.av a1.cP,Ty.av a2.cP],sI (dF .i64 (dF .i64 1 a1.acU) a2.acU)]=cM.av (cM.mk (Ty.mk a0 [a1.cP,a2.cP]) (dF .i64 (dF .i64 1 a1.acU) a2.acU)) by rw[cM.eT];rfl);exact au
def Gu:C1 prog 271 jb (sL sI) sI:=by
 refine v1 func271 λT H a0 r m e=>?_;rw[jb] at m;refine Il e m λe m=>?_;refine Il e m λe m=>?_;refine Il e m λe m=>?_;refine Il e m λe m=>?_;refine Il e m λe m=>?_;exact au
def jJ:C2 prog 252 iw sB cM.av sI:=by
 refine v2 func252 λT H a0 a1 r m e=>?_;rw[iw] at m;exact au
def m9:C2 prog 272 iM cM.av cM.av sI:=by
 refine v2 func272 λT H a0 a1 r m e=>?_;rw[iM] at m;have⟨a,e,m⟩:=ee e m;simp[e];refine dX m ry λ_ m=>?_;exact au
def oy{n:Nat}:C2 prog 230 (fP n) sB Ty.av Ty.av:=by
 refine i2 λn b=>u2 3 func230 λT H a0 a1 r m e=>?_;rw[fP] at m;simp[e];refine wj 999 999 (λf h=>h=H/\f.1 20=sB (eu (dw a0.acS a1.acS) true (dw (di a0.acT) (di a1.acT)))/\bx f 2 (Ty.av a0).cells/\bx f 3 (Ty.av a1).cells) (λ_ g=>?_) ?_
 ·rcases Pb (dw a0.acS a1.acS) e with e|e
  ·exact aj
  exact aj
 rintro _ _ E;have e:=Aj e E;refine Il e m λe m=>?_;simp[e];refine Wr e m 999 (λa _ f h=>h=H/\f.1 22=sL Ty.av a0.acT/\f.1 23=sI (di a0.acT)/\f.1 24=sI a/\bx f 3 (Ty.av a1).cells) aa8 (λ_ _ _ _ E m=>?_) (λa _ _ _ _ _ _ _ E e m z p=>?_)
 ·have e:=Aj e E;dsimp only[cU]at m;exact au
 have e:=Aj e E;have⟨c,e,m⟩:=ee e m;simp[e];refine dT m b λ_ m=>?_;refine Im e m λe m=>?_;exact al
def qc:C2 prog 245 jx sB cM.av cM.av:=by
 refine u2 2 func245 λT H a0 a1 r m e=>?_;rw[jx] at m;simp[e];refine wm m 999 999 (λa f h=>∃v2,(h=H/\f.1 4=sB v2)/\a v2=some r) ?_ (λa _ g m=>?_)
 ·rintro _ _ ⟨v2,E,m⟩;have e:=Aj e E;exact au
 apply Ir e m<;>intro e m
 ·exact iC
 simp[e];refine dX m oy λ_ m=>?_;exact iC
def lW:C0 prog 208 mo Ty.av:=by
 refine v0 func208 λT H r m e=>?_;rw[mo] at m;exact au
def Eg:C0 prog 251 xe Ty.av:=by
 refine v0 func251 λT H r m e=>?_;rw[xe] at m;exact au
def AK:C2 prog 209 oo Ty.av Ty.av (sL Ty.av):=by
 refine v2 func209 λT H a0 a1 r m e=>?_;rw[oo] at m;simp[e];refine Wn m 999 (λs1 f h=>∃a,h=H/\f.1 1=sL Ty.av a1/\f.1 5=sI s1.1/\bx f 2 [sI s1.2.1,sT a Ty.av s1.2.2]/\bx f 4 [sI 0,nL]) ⟨.hY,aa8⟩ (λs1 _ _ _ _ _ E m z p=>?_);have⟨c,v9,v10⟩:=s1;have⟨a,E⟩:=E;have e:=Aj e E;dsimp only[tv]at m;apply Ir e m<;>intro e m
 ·cases m;have m:=Qb z;dsimp only[tv]at m;exact au
 have⟨b,e,m⟩:=ee e m;simp[e];cases m;exact p _ _ _ ⟨.full,aa8⟩ z
def Ib:C1 prog 273 pF Ty.av Tm.av:=by
 refine v1 func273 λT H a0 r m e=>?_;rw[pF] at m;apply Ir e m<;>intro e m
 ·simp[e];refine dT m lW λ_ m=>?_;simp[e];refine dT m AK λ_ m=>?_;exact au
 simp[e];refine dT m lW λ_ m=>?_;simp[e];refine dT m Eg λ_ m=>?_;simp[e];refine dT m AK λ_ m=>?_;exact au
def Ho:C2 prog 242 fi (t2 cM.av sI) Tm.av (λp=>AV.agg [sI p.1.cP.acS,sL Ty.av p.1.cP.acT,sI p.1.acU,sI p.2.1.cP.acS,sL Ty.av p.2.1.cP.acT,sI p.2.1.acU,sI p.2.2.cP.acS,sL Ty.av p.2.2.cP.acT,sI p.2.2.acU]):=by
 intro T H a0 a1 r hm;rw[fi] at hm;have e:=trivial;refine wi acX func242 [] [] 7 ?_;simp[e];refine dX hm Gu λD m=>?_;simp[e];apply Iq e m<;>intro e m
 ·apply wg 999;have⟨x,e,m⟩:=ee e m;simp[e];refine Wr e m 0 (λq _ f h=>h=H/\f.1 6=sL sI D/\f.1 18=sL sI x/\f.1 19=sI (di x)/\f.1 20=sI q/\bx f 3 [sI a1.1.cP.acS,sL Ty.av a1.1.cP.acT,sI a1.1.acU,sI a1.2.1.cP.acS,sL Ty.av a1.2.1.cP.acT,sI a1.2.1.acU,sI a1.2.2.cP.acS,sL Ty.av a1.2.2.cP.acT,sI a1.2.2.acU]/\bx f 4 [sI 0,nL,sI 0]) aa8 (λ_ a _ _ E m=>?_) (λq _ _ a _ _ _ F E e m s t=>?_)
  ·have e:=Aj e E;apply wg 999;dsimp only[cU]at m;have⟨G,e,m⟩:=ee e m;simp[e];refine dX m ry λ_ m=>?_;cases m;simp[e]
  have e:=Aj e E;apply wg 9;simp[e];refine wm m 999 999 (λu f h=>∃l,(h=H/\f.1 6=sL sI D/\f.1 18=sL sI x/\f.1 19=sI (di x)/\f.1 20=sI q/\f.1 30=sB l/\bx f 3 [sI a1.1.cP.acS,sL Ty.av a1.1.cP.acT,sI a1.1.acU,sI a1.2.1.cP.acS,sL Ty.av a1.2.1.cP.acT,sI a1.2.1.acU,sI a1.2.2.cP.acS,sL Ty.av a1.2.2.cP.acT,sI a1.2.2.acU]/\bx f 4 [sI 0,nL,sI 0])/\u l=some F) ?_ (λu _ c m=>?_)
  ·rintro _ _ ⟨l,E,m⟩;have e:=Aj e E;apply Iq e m<;>intro e m
   ·cases m;cases s;simp[e]
   simp[e];cases m;exact t _ _ _ aa8 s
  apply Iq e m<;>intro e m
  ·have e:=Aj e (DA (j:=0) Dx yU aa8 aaK:fl prog 244 (AV.fC 3 (a.gen 3) 0) (sI q)=some (AV.fC 3 (a.gen 3) 0));simp[e];refine dX m jJ λy m=>?_;simp[e];exact c _ _ ⟨(qf y),aa8,m⟩
  apply Iq e m<;>intro e m
  ·have e:=Aj e (DA (j:=1) Dx yU aa8 aaK:fl prog 244 (AV.fC 3 (a.gen 3) 0) (sI q)=some (AV.fC 3 (a.gen 3) 3));simp[e];refine dX m jJ λz m=>?_;simp[e];exact c _ _ ⟨(qf z),aa8,m⟩
  have⟨e,m⟩:=Ck e m;have e:=Aj e (DA (j:=2) Dx yU aa8 aaK:fl prog 244 (AV.fC 3 (a.gen 3) 0) (sI q)=some (AV.fC 3 (a.gen 3) 6));simp[e];refine dX m jJ λA m=>?_;simp[e];exact c _ _ ⟨(qf A),aa8,m⟩
 apply wg 8;simp[e];apply Iq e m<;>intro e m
 ·apply wg 2;simp[e];refine wm m 999 999 (λv f h=>∃n,(h=H/\f.1 54=sB n/\bx f 3 [sI a1.1.cP.acS,sL Ty.av a1.1.cP.acT,sI a1.1.acU,sI a1.2.1.cP.acS,sL Ty.av a1.2.1.cP.acT,sI a1.2.1.acU,sI a1.2.2.cP.acS,sL Ty.av a1.2.2.cP.acT,sI a1.2.2.acU]/\bx f 4 [sI 0,nL,sI 0])/\v n=some r) ?_ (λv _ g m=>?_)
  ·rintro _ _ ⟨n,E,m⟩;have e:=Aj e E;apply Iq e m<;>intro e m
   ·cases m;simp[e]
   simp[e];refine dX m m9 λ_ m=>?_;cases m;simp[e]
  simp[e];refine dT m jJ λ_ m=>?_;apply Ir e m<;>intro e m
  ·simp[e];exact g _ _ ⟨true,aa8,m⟩
  simp[e];refine dT m m9 λ_ m=>?_;simp[e];refine dT m qc λB m=>?_;simp[e];exact g _ _ ⟨(qf B),aa8,m⟩
 apply wg 1;simp[e];refine wj 999 0 (λf h=>h=H/\f.1 39=sI a0.acS/\f.1 59=sB (eu (dg a0.acS 6) true (dg a0.acS 9))/\bx f 2 (Tm.av a0).cells/\bx f 3 [sI a1.1.cP.acS,sL Ty.av a1.1.cP.acT,sI a1.1.acU,sI a1.2.1.cP.acS,sL Ty.av a1.2.1.cP.acT,sI a1.2.1.acU,sI a1.2.2.cP.acS,sL Ty.av a1.2.2.cP.acT,sI a1.2.2.acU]/\bx f 4 [sI 0,nL,sI 0]) (λ_ i=>?_) ?_
 ·rcases Pb (dg a0.acS 6) e with e|e
  ·simp[e];exact i _ _ aa8
  simp[e];exact i _ _ aa8
 rintro _ _ E;have e:=Aj e E;apply Ir e m<;>intro e m
 ·apply wg 999;apply Iq e m<;>intro e m
  ·simp[e];refine g_ m AA λ_ _ m=>?_;cases m;simp[e]
  simp[e];refine dX m jJ λ_ m=>?_;apply Ir e m<;>intro e m
  ·cases m;simp[e]
  apply Iq e m<;>intro e m
  ·simp[e];refine dX m m9 λ_ m=>?_;cases m;simp[e]
  simp[e];refine dX m m9 λ_ m=>?_;cases m;simp[e]
 apply wg 3;simp[e];refine dX m ry λb m=>?_;simp[e];refine wj 2 1 (λf h=>h=H/\f.1 10=sI (eu (dg a0.acS 9) 2 1)/\bx f 2 (Tm.av a0).cells/\bx f 3 [sI a1.1.cP.acS,sL Ty.av a1.1.cP.acT,sI a1.1.acU,sI a1.2.1.cP.acS,sL Ty.av a1.2.1.cP.acT,sI a1.2.1.acU,sI a1.2.2.cP.acS,sL Ty.av a1.2.2.cP.acT,sI a1.2.2.acU]/\bx f 4 [sI 0,nL,sI 0]/\bx f 9 [sI b.cP.acS,sL Ty.av b.cP.acT,sI b.acU]) (λ_ k=>?_) ?_
 ·simp[e];rcases Pb (dg a0.acS 9) e with e|e
  ·apply wg 999;simp[e];exact k _ _ aa8
  apply wg 999;simp[e];exact k _ _ aa8
 rintro _ _ E;have e:=Aj e E;simp[e];refine wm m 999 999 (λw f h=>∃o,(h=H/\f.1 88=sB o/\bx f 4 [sI 0,nL,sI 0]/\bx f 9 [sI b.cP.acS,sL Ty.av b.cP.acT,sI b.acU])/\w o=some r) ?_ (λw _ d m=>?_)
 ·rintro _ _ ⟨o,E,m⟩;have e:=Aj e E;apply Iq e m<;>intro e m
  ·cases m;simp[e]
  cases m;simp[e]
 simp[e];refine dT m qc λ_ m=>?_;apply Ir e m<;>intro e m
 ·simp[e];exact d _ _ ⟨true,aa8,m⟩
 simp[e];refine dT m Ib λ_ m=>?_;simp[e];refine dT m oy λ_ m=>?_;apply Ir e m<;>intro e m
 ·simp[e];exact d _ _ ⟨true,aa8,m⟩
 simp[e];refine dT m jJ λC m=>?_;simp[e];exact d _ _ ⟨(qf C),aa8,m⟩
def kE{n:Nat}:C2 prog 197 (dz n) (t2 cM.av sI) (sL cM.av) Tm.av:=by
 refine i2 λn K=>v2 func197 λT H a0 a1 r m e=>?_;rw[dz] at m;apply Iq e m<;>intro e m
 ·refine Il e m λe m=>?_;have⟨M,e,m⟩:=ee e m;exact au
 apply Iq e m<;>intro e m
 ·simp[e];refine dX m ry λL m=>?_;have⟨e,m⟩:=Ck e m;simp[e];refine Ad (f:=cM.av) a0 [L] (gM.full (D:=[])) S8 e.2 ?_;have⟨N,e,m⟩:=ee e m;simp[e];refine kU m K λ_ _ m=>?_;refine Il e m λe m=>?_;simp[e];refine g_ m AA λ_ _ m=>?_;exact au
 simp[e];refine Wr e m 0 (λx o f h=>∃a b c,h=H/\f.1 0=sL cM.av a0/\f.1 65=sL Tm.av a1.acT/\f.1 66=sI (di a1.acT)/\f.1 67=sI x/\bx f 3 (Tm.av a1).cells/\bx f 4 [sI 0,nL,sI 0]/\bx f 9 [sI o.1,sT a Ty.av o.2.1,sI o.2.2.1,sI o.2.2.2.1,sT b Ty.av o.2.2.2.2.1,sI o.2.2.2.2.2.1,sI o.2.2.2.2.2.2.1,sT c Ty.av o.2.2.2.2.2.2.2.1,sI o.2.2.2.2.2.2.2.2]) ⟨.full,.full,.full,aa8⟩ (λo d _ _ E m=>?_) (λx _ o d _ _ _ A E e m z p=>?_)
 ·have⟨B,C,F,v20,v21,G,I,v24,J⟩:=o;have⟨a,b,c,E⟩:=E;have e:=Aj e E;apply wg 999;dsimp only[cU,Rg]at m;simp[e];refine g_ m Ho λ_ _ m=>?_;exact au
 have⟨B,C,F,v20,v21,G,I,v24,J⟩:=o;have⟨a,b,c,E⟩:=E;have e:=Aj e E;dsimp only[Rg]at m;apply wg 5;simp[e];refine wm m 999 999 (λy f h=>∃q v30 v31 s t u v w v37 i k l,(h=H/\f.1 0=sL cM.av a0/\f.1 65=sL Tm.av a1.acT/\f.1 66=sI (di a1.acT)/\f.1 67=sI x/\bx f 3 (Tm.av a1).cells/\bx f 4 [sI 0,nL,sI 0]/\bx f 9 [sI q,sT i Ty.av v30,sI v31,sI s,sT k Ty.av t,sI u,sI v,sT l Ty.av w,sI v37])/\y q v30 v31 s t u v w v37=some A) ?_ (λy _ g m=>?_)
 ·rintro _ _ ⟨q,v30,v31,s,t,u,v,w,v37,i,k,l,E,m⟩;have e:=Aj e E;simp[e];cases m;exact p _ _ _ ⟨i,k,l,aa8⟩ z
 simp[e];refine g_ m K λ_ _ m=>?_;refine Il e m λe m=>?_;apply Iq e m<;>intro e m
 ·have e:=Aj e (DA (j:=0) Dx yU aa8 aaK:fl prog 244 (AV.fC 9 (d.gen 9) 0) (sI x)=some (AV.fC 9 (d.gen 9) 0));simp[e];exact g _ _ ⟨_,_,_,_,_,_,_,_,_,.hY,b,c,aa8,m⟩
 apply Iq e m<;>intro e m
 ·have e:=Aj e (DA (j:=1) Dx yU aa8 aaK:fl prog 244 (AV.fC 9 (d.gen 9) 0) (sI x)=some (AV.fC 9 (d.gen 9) 3));simp[e];exact g _ _ ⟨_,_,_,_,_,_,_,_,_,a,.hY,c,aa8,m⟩
 have⟨e,m⟩:=Ck e m;have e:=Aj e (DA (j:=2) Dx yU aa8 aaK:fl prog 244 (AV.fC 9 (d.gen 9) 0) (sI x)=some (AV.fC 9 (d.gen 9) 6));simp[e];exact g _ _ ⟨_,_,_,_,_,_,_,_,_,a,b,.hY,aa8,m⟩
def tl:C3 prog 205 gG sI (sL cM.av) Tm.av sI:=by
 refine u3 5 func205 λT H a0 a1 a2 r m e=>?_;rw[gG] at m;simp[e];refine g_ m kE λ_ b m=>?_;simp[e];refine wm m 999 999 (λa f h=>∃v4,(h=H/\f.1 8=sI b/\f.1 22=sB v4)/\a v4=some r) ?_ (λa _ g m=>?_)
 ·rintro _ _ ⟨v4,E,m⟩;have e:=Aj e E;refine Il e m λe m=>?_;exact au
 apply Ir e m<;>intro e m
 ·exact iC
 simp[e];refine dX m jJ λ_ m=>?_;exact iC
def q8:C2 prog 185 gw sI (sL cM.av) Tm.av:=by
 refine v2 func185 λT H a0 a1 r m e=>?_;rw[gw] at m;simp[e];refine dX m tl λ_ m=>?_;exact au
def gS{n:Nat}:C2 prog 135 (dy n) sI (sL cM.av) Fm.av:=by
 refine i2 λn k=>u2 6 func135 λT H a0 a1 r m e=>?_;rw[dy] at m;simp[e];refine wm m 1 999 (λi f h=>∃v2,(h=H/\f.1 0=sL cM.av v2/\f.1 3=AV.fC 3 (f.gen 3) 0/\f.box 3=some (Fm.av a1).cells)/\i v2=some r) ?_ (λi _ a m=>?_)
 ·rintro _ _ ⟨v2,E,m⟩;have e:=Aj e E;simp[e];refine Wr e m 999 (λj _ f h=>h=H/\f.1 0=sL cM.av v2/\f.1 28=sL Fm.av a1.acT/\f.1 29=sI (di a1.acT)/\f.1 30=sI j) aa8 (λ_ _ _ _ E m=>?_) (λj _ _ _ _ _ _ _ E e m z p=>?_)
  ·have e:=Aj e E;dsimp only[cU]at m;exact au
  have e:=Aj e E;simp[e];refine dX m k λ_ m=>?_;refine Il e m λe m=>?_;exact al
 simp[e];refine wm m 4 999 (λb f h=>(h=H/\f.1 0=sL cM.av a0/\f.1 3=AV.fC 3 (f.gen 3) 0/\f.box 3=some (Fm.av a1).cells)/\b=some r) ?_ (λb _ g m=>?_)
 ·rintro _ _ ⟨E,m⟩;have e:=Aj e E;simp[e];refine dX m l5 λd m=>?_;simp[e];exact a _ _ ⟨d,aa8,m⟩
 simp[e];refine wj 999 0 (λf h=>h=H/\f.1 0=sL cM.av a0/\f.1 12=sI a1.acS/\f.1 13=sB (eu (dg a1.acS 4) true (dg a1.acS 5))/\bx f 3 (Fm.av a1).cells) (λ_ g=>?_) ?_
 ·rcases Pb (dg a1.acS 4) e with e|e
  ·exact aj
  exact aj
 rintro _ _ E;have e:=Aj e E;apply Iq e m<;>intro e m
 ·apply wg 999;exact VG
 apply wg 3;simp[e];refine wj 999 0 (λf h=>h=H/\f.1 0=sL cM.av a0/\f.1 12=sI a1.acS/\f.1 16=sB (eu (dg a1.acS 6) true (dg a1.acS 7))/\bx f 3 (Fm.av a1).cells) (λ_ g=>?_) ?_
 ·rcases Pb (dg a1.acS 6) e with e|e
  ·exact aj
  exact aj
 rintro _ _ E;have e:=Aj e E;apply Iq e m<;>intro e m
 ·apply wg 999;exact VG
 apply wg 2;simp[e];refine wj 999 999 (λf h=>h=H/\f.1 0=sL cM.av a0/\f.1 19=sB (eu (dg a1.acS 2) true (dg a1.acS 3))/\bx f 3 (Fm.av a1).cells) (λ_ g=>?_) ?_
 ·rcases Pb (dg a1.acS 2) e with e|e
  ·exact aj
  exact aj
 rintro _ _ E;have e:=Aj e E;apply Iq e m<;>intro e m
 ·simp[e];exact a _ _ ⟨a0,aa8,m⟩
 simp[e];refine Wr e m 999 (λc _ f h=>h=H/\f.1 0=sL cM.av a0/\f.1 42=sL Tm.av a1.c9/\f.1 43=sI (di a1.c9)/\f.1 44=sI c) aa8 (λ_ _ _ _ E m=>?_) (λc _ _ _ _ _ _ _ E e m z p=>?_)
 ·have e:=Aj e E;dsimp only[cU]at m;exact au
 have e:=Aj e E;simp[e];refine dX m q8 λ_ m=>?_;refine Il e m λe m=>?_;exact al
def tA(T:dx)(a:pE T){H:cW}{a0:List Ty}{a1:Fm}{b:Int}(hm:lz a0 a1=some b):du prog T 76 [sL Ty.av a0,Fm.av a1] H (sI b) H:=by
 rw[lz] at hm;have e:=a;refine wi acX func76 [] [] 999 ?_;simp[e];refine dX hm yj λ_ m=>?_;refine Il e m λe m=>?_;simp[e];refine dX m (ot T a) λ_ m=>?_;refine Il e m λe m=>?_;simp[e];refine dT m we λ_ m=>?_;simp[e];refine dT m gS λ_ m=>?_;exact au
def Db(T:dx)(b:pE T){H:cW}{a0:List Fm}{a1:Sq}{c:Int}(hm:rM a0 a1=some c):du prog T 21 [sL Fm.av a0,Sq.av a1] H (sI c) H:=by
 rw[rM] at hm;have e:=b;refine wi acX func21 [] [] 999 ?_;refine Il e hm λe m=>?_;simp[e];refine Ap e m 999 (λd _ f h=>h=H/\f.1 15=sL Fm.av a0/\f.1 16=sI (di a0)/\f.1 17=sI d/\bx f 3 (Sq.av a1).cells) aa8 (λd _ _ _ _ _ _ _ E e m z p=>?_) (λ_ _ _ _ E m=>?_)
 ·have e:=Aj e E;simp[e];refine dX m (tA T b) λ_ m=>?_;refine Il e m λe m=>?_;exact al
 have e:=Aj e E;dsimp only[cU]at m;simp[e];refine dX m yj λ_ m=>?_;refine Il e m λe m=>?_;refine Il e m λe m=>?_;simp[e];refine Wr e m 999 (λa _ f h=>h=H/\f.1 38=sL Fm.av a1.acZ/\f.1 39=sI (di a1.acZ)/\f.1 40=sI a/\bx f 3 (Sq.av a1).cells) aa8 (λ_ _ _ _ E m=>?_) (λa _ _ _ _ _ _ _ E e m z p=>?_)
 ·have e:=Aj e E;dsimp only[cU]at m;exact au
 have e:=Aj e E;simp[e];refine dX m (tA T b) λ_ m=>?_;refine Il e m λe m=>?_;exact al
def HA(T:dx)(c:pE T){H:cW}{a0:Int}{a:ef}{b:Bool}(hm:o9 a0=some (a,b)):du prog T 237 [sI a0] H (AV.tuple [ef.av a,sB b]) H:=by
 rw[o9] at hm;have e:=c;refine wi acX func237 [] [] 3 ?_;simp[e];refine wj 999 999 (λf h=>h=H/\f.1 0=sI a0/\f.1 9=sB (eu (qj a0 1) true (sM a0 21))/\bx f 2 [sB false,sB false,sI 0,sI 0,sI 0,sI 0,sI 0,sI 0]) (λ_ g=>?_) ?_
 ·rcases Pb (qj a0 1) e with e|e
  ·exact aj
  exact aj
 rintro _ _ E;have e:=Aj e E;refine Il e hm λe m=>?_;have⟨d,e,m⟩:=ee e m;exact au
def sm(T:dx)(a:pE T){H:cW}{a0:Tm}{b c:Int}(hm:jB a0=some (b,c)):du prog T 240 [Tm.av a0] H (AV.tuple [sI b,sI c]) H:=by
 rw[jB] at hm;have e:=a;refine wi acX func240 [] [] 999 ?_;simp[e];refine g_ hm (wZ T a) λ_ _ m=>?_;refine Im e m λe m=>?_;refine Il e m λe m=>?_;exact au
def um(T:dx){H:cW}{a0:c0}{a1 a2:Int}{i:Bool}{a:c0}{c:Nat}(b:H[c]?=some [sI a0.acU,sB a0.gJ])(hm:gf a0 a1 a2=some (i,a)):du prog T 239 [AV.dM c 0,sI a1,sI a2] H (sB i) (dH H c [sI a.acU,sB a.gJ]):=by
 rw[gf] at hm;have d:=eB b;refine dL.Je b ?_;have e:=d;refine wi acX func239 [] [] 4 ?_;simp[e];refine Ke 999 999 (λf h=>h=dH H c [sI (eu a0.gJ (c0.mk (dF .i64 a0.acU a1) true) (c0.mk (dF .i64 a0.acU a1) (dg a2 4))).acU,sB (eu a0.gJ (c0.mk (dF .i64 a0.acU a1) true) (c0.mk (dF .i64 a0.acU a1) (dg a2 4))).gJ]/\f.1 2=sI a2) ?_ (λ_ g=>?_)
 ·rintro _ _ E;have e:=Aj e E;cases hm;simp[e]
 rcases Pb a0.gJ e with e|e
 ·exact aj
 exact aj
def Am(T:dx)(r:pE T):∀(n:Nat),(∀{H:cW} {a0:c0} {a1:Pf} {s:Bool} {c:c0} {a:Nat} (k:H[a]?=some [sI a0.acU,sB a0.gJ]) (hm:gR n a0 a1=some (s,c)),du prog T 189 [AV.dM a 0,Pf.av a1] H (sB s) (dH H a [sI c.acU,sB c.gJ])):=by
  intro n
  induction n with
  |zero=>
    skip
    all_goals(intro _ _;intros;rename_i hm;cases hm)
  |succ n x=>
 intro H a0 a1 s c a k hm;rw[gR] at hm;have u:=eB k;refine dL.Je k ?_;have e:=Aj r u;refine wi acX func189 [] [] 5 ?_;simp[e];refine g_ hm (HA T r) λb v m=>?_;simp[e];refine wj 999 0 (λf h=>h=dH H a [sI a0.acU,sB a0.gJ]/\f.1 0=AV.dM a 0/\f.1 61=sB (eu v (eu (qj a1.acV 0) true (eu (dw a1.acV 0) (eu b.acV (eu (dw (di a1.c9) b.c9) true (eu (dw (di a1.dV) b.dV) true (dw (di a1.acT) b.acT))) true) (eu (dw (di a1.c9) b.c9) true (eu (dw (di a1.dV) b.dV) true (dw (di a1.acT) b.acT))))) true)/\bx f 3 (Pf.av a1).cells/\bx f 5 (ef.av b).cells) (λ_ g=>?_) ?_
 ·rcases Pb v e with e|e;rotate_left
  ·exact aj
  rcases Pb (qj a1.acV 0) e with e|e
  ·exact aj
  rcases Pb (dw a1.acV 0) e with e|e;rotate_left
  ·rcases Pb (dw (di a1.c9) b.c9) e with e|e
   ·exact aj
   rcases Pb (dw (di a1.dV) b.dV) e with e|e
   ·exact aj
   exact aj
  rcases Pb b.acV e with e|e;rotate_left
  ·exact aj
  rcases Pb (dw (di a1.c9) b.c9) e with e|e
  ·exact aj
  rcases Pb (dw (di a1.dV) b.dV) e with e|e
  ·exact aj
  exact aj
 rintro _ _ E;have e:=Aj e E;apply Iq e m<;>intro e m
 ·apply wg 999;exact au
 apply wg 4;simp[e];refine Wj m 999 999 (λw f h=>∃t,(h=dH H a [sI t.acU,sB t.gJ]/\f.1 0=AV.dM a 0/\f.1 3=AV.fC 3 (f.gen 3) 0/\f.box 3=some (Pf.av a1).cells)/\w t=some (s,c)) (λw _ g m=>?_) ?_
 ·apply Iq e m<;>intro e m
  ·simp[e];refine g_ m nx λ_ _ m=>?_;refine Il e m λe m=>?_;exact iC
  simp[e];refine dX m wa λ_ m=>?_;refine Im e m λe m=>?_;exact iC
 rintro _ _ ⟨t,E,m⟩;have e:=Aj e E;simp[e];refine Ap e m 999 (λl d f h=>h=dH H a [sI d.acU,sB d.gJ]/\f.1 0=AV.dM a 0/\f.1 84=sL Tm.av a1.c9/\f.1 85=sI (di a1.c9)/\f.1 86=sI l/\bx f 3 (Pf.av a1).cells) aa8 (λl _ d _ _ _ _ _ E e m z p=>?_) (λd _ _ _ E m=>?_)
 ·have e:=Aj e E;simp[e];refine g_ m (sm T r) λ_ _ m=>?_;simp[e];refine g_ m (um T aa8) λ_ d26 m=>?_;refine Im e m λe m=>?_;exact al
 have e:=Aj e E;dsimp only[cU]at m;simp[e];refine Ap e m 999 (λo i f h=>h=dH H a [sI i.acU,sB i.gJ]/\f.1 0=AV.dM a 0/\f.1 99=sL Fm.av a1.dV/\f.1 100=sI (di a1.dV)/\f.1 101=sI o/\bx f 3 (Pf.av a1).cells) aa8 (λo _ i _ _ _ _ _ E e m z p=>?_) (λi _ _ _ E m=>?_)
 ·have e:=Aj e E;simp[e];refine g_ m (qe T r) λ_ _ m=>?_;simp[e];refine g_ m (um T aa8) λ_ d39 m=>?_;refine Im e m λe m=>?_;exact al
 have e:=Aj e E;dsimp only[cU]at m;simp[e];refine Wr e m 999 (λq j f h=>h=dH H a [sI j.acU,sB j.gJ]/\f.1 0=AV.dM a 0/\f.1 114=sL Pf.av a1.acT/\f.1 115=sI (di a1.acT)/\f.1 116=sI q) aa8 (λj _ _ _ E m=>?_) (λq _ j _ _ _ _ _ E e m z p=>?_)
 ·have e:=Aj e E;dsimp only[cU]at m;exact au
 have e:=Aj e E;simp[e];refine g_ m (x aa8) λ_ d50 m=>?_;refine Im e m λe m=>?_;exact al
def Bn(T:dx)(e:pE T){H:cW}{a0:c0}{a1:Pf}{d:Bool}{a:c0}{b:Nat}(c:H[b]?=some [sI a0.acU,sB a0.gJ]){n:Nat}(hm:gR n a0 a1=some (d,a)):du prog T 189 [AV.dM b 0,Pf.av a1] H (sB d) (dH H b [sI a.acU,sB a.gJ]):=(Am T e n) c hm
def Cd(T:dx)(c:pE T){H:cW}{a0:Pf}{a b:Int}(hm:qG a0=some (a,b)):du prog T 138 [Pf.av a0] H (AV.tuple [sI a,sI b]) H:=by
 rw[qG] at hm;refine dL.tJ (Post:=λx K=>x=AV.tuple [sI a,sI b]/\∃X,K=H++X) ?_ (λ_ _ h=>⟨_,h.2.choose_spec,by rw[h.1];simp[AV.low,AV.gA],h.1,rfl⟩);have e:=c;refine wi acX func138 [6] [] 8 ?_;simp[e];refine g_ hm (Bn T c aa8) λ_ d2 m=>?_;simp[e];apply Ir e m<;>intro e m
 ·apply wg 999;exact au
 apply wg 1;simp[e];refine Ke 999 999 (λf h=>h=H++[[sI d2.acU,sB d2.gJ]]/\f.1 4=AV.dM (List.length H) 0/\f.1 12=sB (eu d2.gJ true (kZ d2.acU 16384))) ?_ (λ_ g=>?_)
 ·rintro _ _ E;have e:=Aj e E;refine Il e m λe m=>?_;exact au
 rcases Pb d2.gJ e with e|e
 ·exact aj
 exact aj
def H7(T:dx)(a:pE T){H:cW}{a0:Pf}{b:Int}(hm:ta a0=some b):du prog T 79 [Pf.av a0] H (sI b) H:=by
 rw[ta] at hm;have e:=a;refine wi acX func79 [] [] 999 ?_;simp[e];refine g_ hm (Cd T a) λ_ _ m=>?_;exact au
def FD(T:dx){H:cW}{u:Unit}(hm:xx=some u):du prog T 80 [] H (AV.mU (List.length H)) (H++[[Kg]]):=by
 refine wi acX func80 [] [] 999 ?_;simp;refine th.wY kg tZ abl abl ?_;simp;refine th.wY kg tZ abl abl ?_;simp;refine th.wY kg tZ abl abl ?_;simp;refine th.wY kg tZ abl abl ?_;simp;refine th.wY kg tZ abl abl ?_;simp;refine th.wY kg tZ abl abl ?_;simp;refine th.wY kg tZ abl abl ?_;simp;refine th.wY kg tZ abl abl ?_;simp;refine th.wY kg tZ abl abl ?_;simp;refine th.wY kg tZ abl abl ?_;simp;refine th.wY kg tZ abl abl ?_;simp;refine th.wY kg tZ abl abl ?_;simp;refine th.wY kg tZ abl abl ?_;simp;refine th.wY kg tZ abl abl ?_;simp;refine th.wY kg tZ abl abl ?_;simp;refine th.wY kg tZ abl abl ?_;simp;refine th.wY kg tZ abl abl ?_;simp;refine th.wY kg tZ abl abl ?_;simp;refine th.wY kg tZ abl abl ?_;simp;refine th.wY kg tZ abl abl ?_;simp;simp[Kg,Oc,MS]
def m_:C2 prog 154 eI cQ.av cQ.av Fm.av:=by
 refine v2 func154 λT H a0 a1 r m e=>?_;rw[eI] at m;have⟨e,m⟩:=Ck e m;simp[e];refine Ad (f:=cZ.av) a0.known [(cZ.mk a1 a0.eK.vars)] (gM.full (D:=[])) aag e.2 ?_;exact au
def Gq:C1 prog 82 rO cQ.av Sq.av:=by
 refine v1 func82 λT H a0 r m e=>?_;rw[rO] at m;simp[e];refine dX m we λ_ m=>?_;simp[e];refine Wr e m 999 (λi b f h=>∃a,h=H/\f.1 16=sL Fm.av a0.acZ/\f.1 17=sI (di a0.acZ)/\f.1 18=sI i/\bx f 2 [sI 0,sI 0,nL,nL]/\bx f 3 [sI b.1,sI b.2.1,sL cM.av b.2.2.1,sT a cZ.av b.2.2.2]) ⟨.full,aa8⟩ (λb _ _ _ E m=>?_) (λi _ b _ _ _ _ _ E e m z p=>?_)
 ·have⟨v11,v12,c,d⟩:=b;have⟨a,E⟩:=E;have e:=Aj e E;dsimp only[cU,QU]at m;exact au
 have⟨v11,v12,c,d⟩:=b;have⟨a,E⟩:=E;have e:=Aj e E;dsimp only[QU]at m;simp[e];refine dX m m_ λ_ m=>?_;simp[e];cases m;exact p _ _ _ ⟨.hY,aa8⟩ z
def jF:C1 prog 211 gy Tm.av sI:=by
 refine v1 func211 λT H a0 r m e=>?_;rw[gy] at m;exact au
def HO(T:dx){H:cW}{a0 a1 a b:Int}{k:Tm}{q0 q1:Nat}(c:H[q0]?=some [sI a])(d:H[q1]?=some [sI b])(hm:tk a0 a1 a b=some k):du prog T 286 [sI a0,sI a1,AV.dM q0 0,AV.dM q1 0] H (Tm.av k) H:=by
 rw[tk] at hm;have i:=eB c;have j:=eB d;have e:=Aj (Aj (Aj i c) j) d;refine wi acX func286 [] [] 2 ?_;simp[e];refine Ke 999 999 (λf h=>h=H/\f.1 0=sI (eu (sM (dZ .i64 a0 a1) a) (dF .i64 a0 b) a0)/\f.1 6=AV.fC 6 (f.gen 6) 0/\f.box 6=some [sI 0,sI 0,sI 0,nL,nL]) ?_ (λ_ g=>?_)
 ·rintro _ _ E;have e:=Aj e E;simp[e];refine dX hm jF λ_ m=>?_;exact au
 rcases Pb (sM (dZ .i64 a0 a1) a) e with e|e
 ·exact aj
 exact aj
def rG{n:Nat}:C1 prog 213 (kl n) Ty.av Ty.av:=by
 refine i1 λn j=>v1 func213 λT H a0 r m e=>?_;rw[kl] at m;simp[e];refine Wr e m 999 (λi s2 f h=>∃a,(h=H/\f.1 10=sL Ty.av a0.acT/\f.1 11=sI (di a0.acT)/\f.1 12=sI i/\bx f 2 [sI 0,nL]/\bx f 3 [sI a0.acS,sT a Ty.av s2])/\Ow f [21] a s2) (by exact⟨.full,aa8,gM.full⟩) (λs2 c _ _ E m=>?_) (λi _ s2 c _ _ _ _ E e m z p=>?_)
 ·have⟨a,E,b⟩:=E;have e:=Aj e E;dsimp only[cU]at m;exact au
 have⟨a,E,b⟩:=E;have e:=Aj e E;simp[e];refine dT m j λd m=>?_;have⟨e,m⟩:=Ck e m;simp[e];refine Ad (f:=Ty.av) s2 [d] b EV e.2 ?_;simp[e];cases m;exact p _ _ _ ⟨(.loc 21 (c.ei 21+1)),aa8,(On 21)⟩ z
def BO(T:dx):∀(n:Nat),(∀{S:Type} {st:S->cW} {k:Nat} {a0:Tm} {a1:Int} {l:(S->Int->Int->Option (Tm×S))} {c:S} {x:Tm} {o:S} {q0:Nat} {q1:Nat} {q:Nat} {r:List AV} (hF:Bo st k) (d:∀s,(st s)[q0]?=some [AV.func (.func q) [] r]) (b:sU T q r st l) (i:∀s,(st s)[q1]?=some [AV.func (.func 303) [] [AV.dM q0 0,AV.dM q1 0]]) (hm:fT n a0 a1 l c=some (x,o)),du prog T 303 [Tm.av a0,sI a1,AV.dM q0 0,AV.dM q1 0] (st c) (Tm.av x) (st o)):=by
  intro n
  induction n with
  |zero=>
    skip
    all_goals(intro _ _;intros;rename_i hm;cases hm)
  |succ n F=>
 intro S st k a0 a1 l c x o q0 q1 q r hF d b i hm;rw[fT] at hm;have y:=λs=>eB (d s);have A:=λs=>eB (i s);have e:=Aj (Aj (Aj (Aj hF.len y) d) A) i;refine wi acX func303 [] [(9,false,[true,true,false,true,true,true,true,true,true,true])] 5 ?_;simp[e];apply Iq e hm<;>intro e m
 ·apply wg 999;have⟨H,I,e,m⟩:=VB e m;simp[e];refine h9.Uf abq (sU.XF b e.2) ?_;exact au
 apply wg 4;simp[e];refine dT m rG λw m=>?_;simp[e];refine wj 999 999 (λf h=>h=st c/\f.1 1=sI (eu (dg a0.acS 2) (dF .i64 a1 1) a1)/\f.1 3=AV.dM q1 0/\bx f 4 (Tm.av a0).cells/\bx f 6 [sI 0,sI 0,sI 0,nL,nL]/\bx f 7 [sI a0.acS,sI a0.acV,sI w.acS,sL Ty.av w.acT,nL]) (λ_ g=>?_) ?_
 ·rcases Pb (dg a0.acS 2) e with e|e
  ·exact aj
  exact aj
 rintro _ _ E;have e:=Aj e E;simp[e];refine Wr e m 999 (λD t f h=>∃a,(h=st t.2/\f.1 1=sI (eu (dg a0.acS 2) (dF .i64 a1 1) a1)/\f.1 3=AV.dM q1 0/\f.1 32=sL Tm.av a0.acT/\f.1 33=sI (di a0.acT)/\f.1 34=sI D/\bx f 6 [sI 0,sI 0,sI 0,nL,nL]/\bx f 7 [sI a0.acS,sI a0.acV,sI w.acS,sL Ty.av w.acT,sT a Tm.av t.1])/\Ow f [45] a t.1) (by exact⟨.full,aa8,gM.full⟩) (λt u _ _ E m=>?_) (λD _ t u _ _ _ _ E e m z p=>?_)
 ·have⟨v,B⟩:=t;have⟨a,E,j⟩:=E;have e:=Aj e E;dsimp only[cU,h7]at m;exact au
 have⟨v,B⟩:=t;have⟨a,E,j⟩:=E;have e:=Aj e E;dsimp only[h7]at m;have⟨C,G,e,m⟩:=VB e m;simp[e];refine jD.Uf abq (F hF d b i e.2) aa4 ?_;have⟨e,m⟩:=Ck e m;simp[e];refine Ad (f:=Tm.av) v [C] j A1 e.2 ?_;simp[e];cases m;exact p _ _ _ ⟨(.loc 45 (u.ei 45+1)),aa8,(On 45)⟩ z
def DM(T:dx){S:Type}{st:S->cW}{k:Nat}{a0:Tm}{a1:Int}{a:(S->Int->Int->Option (Tm×S))}{b:S}{i:Tm}{c:S}{q0 q1 d:Nat}{e:List AV}(hF:Bo st k)(g:∀s,(st s)[q0]?=some [AV.func (.func d) [] e])(f:sU T d e st a)(h:∀s,(st s)[q1]?=some [AV.func (.func 303) [] [AV.dM q0 0,AV.dM q1 0]]){n:Nat}(hm:fT n a0 a1 a b=some (i,c)):du prog T 303 [Tm.av a0,sI a1,AV.dM q0 0,AV.dM q1 0] (st b) (Tm.av i) (st c):=(BO T n) hF g f h hm
def yS(T:dx){S:Type}{st:S->cW}{k:Nat}{a0:Tm}{a1:(S->Int->Int->Option (Tm×S))}{c:S}{d:Tm}{b:S}{g1:Nat}{a:List AV}(hF:Bo st k)(f:sU T g1 a st a1)(hm:n8 a0 a1 c=some (d,b)):du prog T 285 [Tm.av a0,AV.func (.func g1) [] a] (st c) (Tm.av d) (st b):=by
 rw[n8] at hm;refine dL.VR hF (Post:=λx K=>x=Tm.av d/\∃X,K=(st b)++X) ?_ (λ_ _ h=>⟨_,h.2.choose,h.2.choose_spec,by rw[h.1];simp[AV.low,AV.gA],h.1,rfl⟩);have e:=hF.len;refine wi acX func285 [3,5] [] 999 ?_;have⟨i,s2,e,m⟩:=VB e hm;simp[e];refine h9.Uf abq (DM T (st:=λs=>st s++[[AV.func (.func g1) [] a],[AV.func (.func 303) [] [AV.dM k 0,AV.dM (k+1) 0]]]) (Bo.ext hF _ (n:=k+2) aa4) (λ_=>aa8) (sU.ext f) (λ_=>aa8) e.2) ?_;exact au
def DV(T:dx){H:cW}{a0:Tm}{a1 a2:Int}{a:Tm}(hm:q4 a0 a1 a2=some a):du prog T 254 [Tm.av a0,sI a1,sI a2] H (Tm.av a) H:=by
 rw[q4] at hm;refine dL.tJ (Post:=λx K=>x=Tm.av a/\∃X,K=H++X) ?_ (λ_ _ h=>⟨_,h.2.choose_spec,by rw[h.1];simp[AV.low,AV.gA],h.1,rfl⟩);have e:=trivial;refine wi acX func254 [4,5] [] 999 ?_;simp[e];refine g_ hm (yS T (st:=λ_:Unit=>H++[[sI a1],[sI a2]]) (Bo.const _) (λX _ _ _ _ _ h=>by obtain⟨b,rfl⟩:=uH h;exact HO T (q0:=(List.length H)) (q1:=(List.length H+1)) aa8 aa8 b)) λ_ _ m=>?_;exact au
def yF(T:dx){H:cW}{a0:Tm}{a1 a b:Int}{i:Tm}{q0 q1:Nat}(c:H[q0]?=some [sI a])(d:H[q1]?=some [sI b])(hm:lX a0 a1 a b=some i):du prog T 253 [Tm.av a0,sI a1,AV.dM q0 0,AV.dM q1 0] H (Tm.av i) H:=by
 rw[lX] at hm;have f:=eB c;have h:=eB d;have e:=Aj (Aj (Aj f c) h) d;refine wi acX func253 [] [] 999 ?_;simp[e];refine dX hm (DV T) λ_ m=>?_;exact au
def vr:C1 prog 214 mf sB sI:=by
 refine u1 2 func214 λT H a0 r m e=>?_;rw[mf] at m;simp[e];refine Ke 999 999 (λf h=>h=H/\f.1 2=sB (eu (sM a0 4) (Em a0 7) false)) ?_ (λ_ g=>?_)
 ·rintro _ _ E;have e:=Aj e E;exact au
 rcases Pb (sM a0 4) e with e|e
 ·exact aj
 exact aj
def xm(T:dx):∀(n:Nat),(∀{S:Type} {st:S->cW} {k:Nat} {a0:Fm} {a1:Int} {a2:(S->Tm->Int->Option (Tm×S))} {u:S} {D:Fm} {r:S} {g2:Nat} {i:List AV} (hF:Bo st k) (v:BC T g2 i st a2) (hm:dQ n a0 a1 a2 u=some (D,r)),du prog T 155 [Fm.av a0,sI a1,AV.func (.func g2) [] i] (st u) (Fm.av D) (st r)):=by
  intro n
  induction n with
  |zero=>
    skip
    all_goals(intro _ _;intros;rename_i hm;cases hm)
  |succ n I=>
 intro S st k a0 a1 a2 u D r g2 i hF v hm;rw[dQ] at hm;have e:=hF.len;refine wi acX func155 [] [] 999 ?_;simp[e];refine dT hm rG λy m=>?_;simp[e];refine Ap e m 0 (λH w f h=>∃b,(h=st w.2/\f.1 1=sI a1/\f.1 2=AV.func (.func g2) [] i/\f.1 19=sL Tm.av a0.c9/\f.1 20=sI (di a0.c9)/\f.1 21=sI H/\bx f 3 (Fm.av a0).cells/\bx f 6 [sI 0,sI 0,nL,nL,nL]/\bx f 7 [sI a0.acS,sI y.acS,sL Ty.av y.acT,sT b Tm.av w.1,nL])/\Ow f [32] b w.1) (by exact⟨.full,aa8,gM.full⟩) (λH _ w A _ _ _ _ E e m z p=>?_) (λw A _ _ E m=>?_)
 ·have⟨v11,v12⟩:=w;have⟨b,E,o⟩:=E;have e:=Aj e E;dsimp only[h7]at m;apply wg 999;have⟨F,J,e,m⟩:=VB e m;simp[e];refine jD.Uf abq (BC.XF v e.2) aa4 ?_;have⟨e,m⟩:=Ck e m;simp[e];refine Ad (f:=Tm.av) v11 [F] o A1 e.2 ?_;simp[e];cases m;exact p _ _ _ ⟨(.loc 32 (A.ei 32+1)),aa8,(On 32)⟩ z
 have⟨v11,v12⟩:=w;have⟨b,E,o⟩:=E;have e:=Aj e E;apply wg 5;dsimp only[cU,h7]at m;simp[e];refine Wj m 999 999 (λB f h=>∃s c,(h=st v12/\f.1 1=sI s/\f.1 2=AV.func (.func g2) [] i/\bx f 3 (Fm.av a0).cells/\bx f 6 [sI 0,sI 0,nL,nL,nL]/\bx f 7 [sI a0.acS,sI y.acS,sL Ty.av y.acT,sT c Tm.av v11,nL])/\Ow f [32] c v11/\B s=some (D,r)) (λB _ g m=>?_) ?_
 ·simp[e];refine dX m vr λ_ m=>?_;apply Ir e m<;>intro e m
  ·simp[e];exact g _ _ ⟨a1,b,aa8,o,m⟩
  simp[e];exact g _ _ ⟨(dF .i64 a1 1),b,aa8,o,m⟩
 rintro _ _ ⟨s,c,E,x,m⟩;have e:=Aj e E;simp[e];refine Wr e m 999 (λC j f h=>∃a d,(h=st j.2/\f.1 1=sI s/\f.1 2=AV.func (.func g2) [] i/\f.1 41=sL Fm.av a0.acT/\f.1 42=sI (di a0.acT)/\f.1 43=sI C/\bx f 6 [sI 0,sI 0,nL,nL,nL]/\bx f 7 [sI a0.acS,sI y.acS,sL Ty.av y.acT,sT a Tm.av v11,sT d Fm.av j.1])/\Ow f [32] a v11/\Ow f [54] d j.1) (by exact⟨c,.full,aa8,x,gM.full⟩) (λj t _ _ E m=>?_) (λC _ j t _ _ _ _ E e m z p=>?_)
 ·have⟨v30,v31⟩:=j;have⟨a,d,E,q,l⟩:=E;have e:=Aj e E;dsimp only[cU,h7]at m;exact au
 have⟨v30,v31⟩:=j;have⟨a,d,E,q,l⟩:=E;have e:=Aj e E;dsimp only[h7]at m;simp[e];refine kU m (I hF v) λG _ m=>?_;have⟨e,m⟩:=Ck e m;simp[e];refine Ad (f:=Fm.av) v30 [G] l BW e.2 ?_;simp[e];cases m;exact p _ _ _ ⟨a,(.loc 54 (t.ei 54+1)),aa8,(gM.other q l aaK aaK),(On 54)⟩ z
def l0(T:dx){S:Type}{st:S->cW}{k:Nat}{a0:Fm}{a1:Int}{a2:(S->Tm->Int->Option (Tm×S))}{b:S}{e:Fm}{c:S}{g2:Nat}{a:List AV}(hF:Bo st k)(d:BC T g2 a st a2){n:Nat}(hm:dQ n a0 a1 a2 b=some (e,c)):du prog T 155 [Fm.av a0,sI a1,AV.func (.func g2) [] a] (st b) (Fm.av e) (st c):=(xm T n) hF d hm
def nV(T:dx){H:cW}{a0:Fm}{a1 a2:Int}{a:Fm}(hm:en a0 a1 a2=some a):du prog T 206 [Fm.av a0,sI a1,sI a2] H (Fm.av a) H:=by
 rw[en] at hm;refine dL.tJ (Post:=λx K=>x=Fm.av a/\∃X,K=H++X) ?_ (λ_ _ h=>⟨_,h.2.choose_spec,by rw[h.1];simp[AV.low,AV.gA],h.1,rfl⟩);have e:=trivial;refine wi acX func206 [4,5] [] 999 ?_;simp[e];refine g_ hm (l0 T (st:=λ_:Unit=>H++[[sI a1],[sI a2]]) (Bo.const _) (λX _ _ _ _ _ h=>by obtain⟨b,rfl⟩:=uH h;exact yF T (q0:=(List.length H)) (q1:=(List.length H+1)) aa8 aa8 b)) λ_ _ m=>?_;exact au
def A6:C2 prog 190 j8 (t2 Fm.av sB) cQ.av sI:=by
 refine v2 func190 λT H a0 a1 r m e=>?_;rw[j8] at m;refine Il e m λe m=>?_;have⟨a,e,m⟩:=ee e m;simp[e];refine dX m (nV T) λ_ m=>?_;exact au
def zm(T:dx){H:cW}{a0:List Fm}{a1:Pf}{a2:cQ}{b:cL}{c:Int}{d:Nat}(a:KC H d a0)(hm:n_ a0 a1 a2=some (b,c)):du prog T 139 [AV.dM d 0,Pf.av a1,cQ.av a2] H (AV.tuple [cL.av b,sI c]) H:=by
 rw[n_] at hm;have e:=a;refine wi acX func139 [] [] 999 ?_;simp[e];refine g_ hm A6 λ_ _ m=>?_;refine Il e m λe m=>?_;exact au
def xO(T:dx){H:cW}{a0:List Fm}{a1:Pf}{a2:cQ}{b:cL}{c:Int}{d:Nat}(a:KC H d a0)(hm:mN a0 a1 a2=some (b,c)):du prog T 140 [AV.dM d 0,Pf.av a1,cQ.av a2] H (AV.tuple [cL.av b,sI c]) H:=by
 rw[mN] at hm;have e:=a;refine wi acX func140 [] [(1,true,[]),(3,true,[])] 999 ?_;refine Il e hm λe m=>?_;have⟨f,e,m⟩:=ee e m;exact au
def D1:C2 prog 191 zH Fm.av sI (sL Fm.av):=by
 refine v2 func191 λT H a0 a1 r m e=>?_;rw[zH] at m;exact au
def mL:C3 prog 193 ds sI dA.av sI sI:=by
 refine u3 3 func193 λT H a0 a1 a2 r m e=>?_;rw[ds] at m;simp[e];refine Ke 999 999 (λf h=>h=H/\f.1 18=sB (eu (kZ (dF .i64 a0.vars a1) 16) true (kZ (dF .i64 a0.acZ a2) 16))) ?_ (λ_ g=>?_)
 ·rintro _ _ E;have e:=Aj e E;refine Il e m λe m=>?_;exact au
 rcases Pb (kZ (dF .i64 a0.vars a1) 16) e with e|e
 ·exact aj
 exact aj
def v_(T:dx)(a:pE T){H:cW}{a0:Tm}{b:Int}(hm:pH a0=some b):du prog T 266 [Tm.av a0] H (sI b) H:=by
 rw[pH] at hm;have e:=a;refine wi acX func266 [] [] 999 ?_;simp[e];refine g_ hm (sm T a) λ_ _ m=>?_;exact au
def yc{n:Nat}:C2 prog 292 (iz n) sB Tm.av Tm.av:=by
 refine i2 λn c=>u2 3 func292 λT H a0 a1 r m e=>?_;rw[iz] at m;simp[e];refine Wj m 999 999 (λa f h=>∃v2,(h=H/\f.1 35=sB v2/\bx f 2 (Tm.av a0).cells/\bx f 3 (Tm.av a1).cells)/\a v2=some r) (λa _ g m=>?_) ?_
 ·apply Iq e m<;>intro e m
  ·exact iC
  apply Iq e m<;>intro e m
  ·exact iC
  simp[e];refine dX m oy λ_ m=>?_;apply Ir e m<;>intro e m
  ·exact iC
  exact iC
 rintro _ _ ⟨v2,E,m⟩;have e:=Aj e E;refine Il e m λe m=>?_;simp[e];refine Wr e m 999 (λb _ f h=>h=H/\f.1 37=sL Tm.av a0.acT/\f.1 38=sI (di a0.acT)/\f.1 39=sI b/\bx f 3 (Tm.av a1).cells) aa8 (λ_ _ _ _ E m=>?_) (λb _ _ _ _ _ _ _ E e m z p=>?_)
 ·have e:=Aj e E;dsimp only[cU]at m;exact au
 have e:=Aj e E;have⟨d,e,m⟩:=ee e m;simp[e];refine dT m c λ_ m=>?_;refine Im e m λe m=>?_;exact al
def Cp:C2 prog 267 qU sB Tm.av Tm.av:=by
 refine v2 func267 λT H a0 a1 r m e=>?_;rw[qU] at m;simp[e];refine dX m yc λ_ m=>?_;exact au
def Ic(T:dx){H:cW}{a0 a1:Int}{a b:Bool}{q0:Nat}(c:H[q0]?=some [sB a])(hm:rh a0 a1 a=some b):du prog T 298 [sI a0,sI a1,AV.dM q0 0] H (AV.tuple []) (dH H q0 [sB b]):=by
 rw[rh] at hm;have d:=eB c;refine dL.Je c ?_;have e:=d;refine wi acX func298 [] [] 999 ?_;refine Il e hm λe m=>?_;exact au
def Gs(T:dx):∀(n:Nat),(∀{S:Type} {st:S->cW} {k:Nat} {a0:Tm} {a1:Int} {i:(S->Int->Int->Option (S))} {j:S} {b:S} {q0:Nat} {q1:Nat} {l:Nat} {o:List AV} (hF:Bo st k) (c:∀s,(st s)[q0]?=some [AV.func (.func l) [] o]) (a:sP T l o st i) (d:∀s,(st s)[q1]?=some [AV.func (.func 274) [] [AV.dM q0 0,AV.dM q1 0]]) (hm:iO n a0 a1 i j=some b),du prog T 274 [Tm.av a0,sI a1,AV.dM q0 0,AV.dM q1 0] (st j) (AV.tuple []) (st b)):=by
  intro n
  induction n with
  |zero=>
    skip
    all_goals(intro _ _;intros;rename_i hm;cases hm)
  |succ n w=>
 intro S st k a0 a1 i j b q0 q1 l o hF c a d hm;rw[iO] at hm;have t:=λs=>eB (c s);have u:=λs=>eB (d s);have e:=Aj (Aj (Aj (Aj hF.len t) c) u) d;refine wi acX func274 [] [] 2 ?_;simp[e];refine Wj hm 999 0 (λv f h=>∃v2,(h=st v2/\f.1 1=sI a1/\f.1 3=AV.dM q1 0/\f.1 4=AV.fC 4 (f.gen 4) 0/\f.box 4=some (Tm.av a0).cells)/\v v2=some b) (λv _ g m=>?_) ?_
 ·apply Ir e m<;>intro e m
  ·exact iC
  have⟨y,e,m⟩:=ee e m;simp[e];refine h9.Uf abq (sP.XF a e.2) ?_;exact iC
 rintro _ _ ⟨v2,E,m⟩;have e:=Aj e E;refine wj 999 999 (λf h=>h=st v2/\f.1 1=sI (eu (dg a0.acS 2) (dF .i64 a1 1) a1)/\f.1 3=AV.dM q1 0/\f.1 4=AV.fC 4 (f.gen 4) 0/\f.box 4=some (Tm.av a0).cells) (λ_ g=>?_) ?_
 ·rcases Pb (dg a0.acS 2) e with e|e
  ·exact aj
  exact aj
 rintro _ _ E;have e:=Aj e E;simp[e];refine Wr e m 999 (λr q f h=>h=st q/\f.1 1=sI (eu (dg a0.acS 2) (dF .i64 a1 1) a1)/\f.1 3=AV.dM q1 0/\f.1 22=sL Tm.av a0.acT/\f.1 23=sI (di a0.acT)/\f.1 24=sI r) aa8 (λq _ _ _ E m=>?_) (λr _ q _ _ _ _ _ E e m z p=>?_)
 ·have e:=Aj e E;dsimp only[cU]at m;exact au
 have e:=Aj e E;have⟨x,e,m⟩:=ee e m;simp[e];refine h9.Uf abq (w hF c a d e.2) ?_;exact al
def Is(T:dx){S:Type}{st:S->cW}{k:Nat}{a0:Tm}{a1:Int}{a:(S->Int->Int->Option (S))}{b c:S}{q0 q1 d:Nat}{e:List AV}(hF:Bo st k)(g:∀s,(st s)[q0]?=some [AV.func (.func d) [] e])(f:sP T d e st a)(h:∀s,(st s)[q1]?=some [AV.func (.func 274) [] [AV.dM q0 0,AV.dM q1 0]]){n:Nat}(hm:iO n a0 a1 a b=some c):du prog T 274 [Tm.av a0,sI a1,AV.dM q0 0,AV.dM q1 0] (st b) (AV.tuple []) (st c):=(Gs T n) hF g f h hm
def yD(T:dx){S:Type}{st:S->cW}{k:Nat}{a0:Tm}{a1:(S->Int->Int->Option (S))}{c b:S}{g1:Nat}{a:List AV}(hF:Bo st k)(d:sP T g1 a st a1)(hm:re a0 a1 c=some b):du prog T 243 [Tm.av a0,AV.func (.func g1) [] a] (st c) (AV.tuple []) (st b):=by
 rw[re] at hm;refine dL.VR hF (Post:=λx K=>x=AV.tuple []/\∃X,K=(st b)++X) ?_ (λ_ _ h=>⟨_,h.2.choose,h.2.choose_spec,by rw[h.1];simp[AV.low,AV.gA],h.1,rfl⟩);have e:=hF.len;refine wi acX func243 [3,4] [] 999 ?_;have⟨s1,e,m⟩:=ee e hm;simp[e];refine h9.Uf abq (Is T (st:=λs=>st s++[[AV.func (.func g1) [] a],[AV.func (.func 274) [] [AV.dM k 0,AV.dM (k+1) 0]]]) (Bo.ext hF _ (n:=k+2) aa4) (λ_=>aa8) (sP.ext d) (λ_=>aa8) e.2) ?_;exact au
def L0(T:dx){H:cW}{a0:Tm}{a:Bool}(hm:wD a0=some a):du prog T 280 [Tm.av a0] H (sB a) H:=by
 rw[wD] at hm;refine dL.tJ (Post:=λx K=>x=sB a/\∃X,K=H++X) ?_ (λ_ _ h=>⟨_,h.2.choose_spec,by rw[h.1];simp[AV.low,AV.gA],h.1,rfl⟩);have e:=trivial;refine wi acX func280 [3] [] 999 ?_;simp[e];refine dX hm (yD T (st:=λs:Bool=>H++[[sB s]]) (Bo.R4 H (λs:Bool=>[[sB s]]) 1 (λ_=>rfl) (by simp[AV.low,AV.gA])) (λX s _ _ b h=>by have:=Ic T (H:=H++[[sB s]]++X) (q0:=(List.length H)) aa8 h;simpa using this)) λ_ m=>?_;exact au
def qD(T:dx){H:cW}{a0 a1:Int}{a2:Ty}{a3:(List (Option Nat))}{nh:List HC}{D:Option Nat}{q:List HC}(hm:jf a0 a1 a2 a3 nh=some (D,q)):du prog T 299 [sI a0,sI a1,Ty.av a2,sL (lP (List.length H)) a3] (H++gv (List.length H) nh) (lP (List.length H) D) (H++gv (List.length H) q):=by
 rw[jf] at hm;have e:=trivial;refine wi acX func299 [17] [(5,false,[true,true,true,false,true,true,true,false,true,true,true,false]),(6,false,[true,true,true,true,false,true,true,true,false,true,true,true,false])] 999 ?_;have F:gv (List.length H) nh++[[sI a0,sI a1,sI a2.acS,sL Ty.av a2.acT,sL (lP (List.length H)) a3,sI 1,sI 0,sB false]]=gv (List.length H) (nh++[HC.dt (dr.mk a0 a1 a2 a3 1 0 false)]):=I_ rfl;have e:=Aj e F;have G:(nh++[HC.dt (dr.mk a0 a1 a2 a3 1 0 false)])[(List.length nh)]?=some (HC.dt (dr.mk a0 a1 a2 a3 1 0 false)):=O0;have e:=Aj e G;simp[e];refine Ap e hm 0 (λI i f h=>h=H++gv (List.length H) i/\f.1 0=sI a0/\f.1 1=sI a1/\f.1 9=AV.dM (List.length H+(List.length nh)) 0/\f.1 18=sL (lP (List.length H)) a3/\f.1 19=sI (di a3)/\f.1 20=sI I) aa8 (λI _ i _ _ _ _ _ E e m z p=>?_) (λi _ _ _ E m=>?_)
 ·have e:=Aj e E;have J:=e;apply wg 999;have⟨a,e,m⟩:=ee e m;have k:=HC.c7 e.2;have e:=Aj e.1 k;have⟨K,e,m⟩:=ee e m;have⟨d,e,m⟩:=ee e m;have s:=HC.c7 e.2;have e:=Aj e.1 s;have t:dH (gv (List.length H) i) (List.length nh) [sI a.acS,sI a.acV,sI a.o0.acS,sL Ty.av a.o0.acT,sL (lP (List.length H)) a.acT,sI (dF .i64 a.size d.size),sI a.free,sB a.normal]=gv (List.length H) (jt i (List.length nh) (HC.dt (dr.mk a.acS a.acV a.o0 a.acT (dF .i64 a.size d.size) a.free a.normal))):=pj rfl;have e:=Aj e t;have l:(jt i (List.length nh) (HC.dt (dr.mk a.acS a.acV a.o0 a.acT (dF .i64 a.size d.size) a.free a.normal)))[(List.length nh)]?=some (HC.dt (dr.mk a.acS a.acV a.o0 a.acT (dF .i64 a.size d.size) a.free a.normal)):=vH k;have e:=Aj e l;have⟨j,e,m⟩:=ee e m;have u:=HC.c7 e.2;have e:=Aj e.1 u;have v:dH (gv (List.length H) (jt i (List.length nh) (HC.dt (dr.mk a.acS a.acV a.o0 a.acT (dF .i64 a.size d.size) a.free a.normal)))) (List.length nh) [sI a.acS,sI a.acV,sI a.o0.acS,sL Ty.av a.o0.acT,sL (lP (List.length H)) a.acT,sI (dF .i64 a.size d.size),sI (imax a.free j.free),sB a.normal]=gv (List.length H) (jt (jt i (List.length nh) (HC.dt (dr.mk a.acS a.acV a.o0 a.acT (dF .i64 a.size d.size) a.free a.normal))) (List.length nh) (HC.dt (dr.mk a.acS a.acV a.o0 a.acT (dF .i64 a.size d.size) (imax a.free j.free) a.normal))):=pj rfl;have e:=Aj e v;have w:(jt (jt i (List.length nh) (HC.dt (dr.mk a.acS a.acV a.o0 a.acT (dF .i64 a.size d.size) a.free a.normal))) (List.length nh) (HC.dt (dr.mk a.acS a.acV a.o0 a.acT (dF .i64 a.size d.size) (imax a.free j.free) a.normal)))[(List.length nh)]?=some (HC.dt (dr.mk a.acS a.acV a.o0 a.acT (dF .i64 a.size d.size) (imax a.free j.free) a.normal)):=vH l;have e:=Aj e w;exact al
 have e:=Aj e E;apply wg 5;dsimp only[cU]at m;simp[e];refine wm m 999 999 (λx f h=>∃r,(h=H++gv (List.length H) r/\f.1 9=AV.dM (List.length H+(List.length nh)) 0)/\x r=some (D,q)) ?_ (λx _ g m=>?_)
 ·rintro _ _ ⟨r,E,m⟩;have e:=Aj e E;exact au
 apply Iq e m<;>intro e m
 ·have⟨c,e,m⟩:=ee e m;have n:=HC.c7 e.2;have e:=Aj e.1 n;have y:dH (gv (List.length H) i) (List.length nh) [sI c.acS,sI c.acV,sI c.o0.acS,sL Ty.av c.o0.acT,sL (lP (List.length H)) c.acT,sI c.size,sI (dF .i64 a1 1),sB c.normal]=gv (List.length H) (jt i (List.length nh) (HC.dt (dr.mk c.acS c.acV c.o0 c.acT c.size (dF .i64 a1 1) c.normal))):=pj rfl;have e:=Aj e y;have A:(jt i (List.length nh) (HC.dt (dr.mk c.acS c.acV c.o0 c.acT c.size (dF .i64 a1 1) c.normal)))[(List.length nh)]?=some (HC.dt (dr.mk c.acS c.acV c.o0 c.acT c.size (dF .i64 a1 1) c.normal)):=vH n;have e:=Aj e A;exact iC
 apply Ir e m<;>intro e m
 ·exact iC
 have⟨b,e,m⟩:=ee e m;have o:=HC.c7 e.2;have e:=Aj e.1 o;have B:dH (gv (List.length H) i) (List.length nh) [sI b.acS,sI b.acV,sI b.o0.acS,sL Ty.av b.o0.acT,sL (lP (List.length H)) b.acT,sI b.size,sI (imax 0 (dZ .i64 b.free 1)),sB b.normal]=gv (List.length H) (jt i (List.length nh) (HC.dt (dr.mk b.acS b.acV b.o0 b.acT b.size (imax 0 (dZ .i64 b.free 1)) b.normal))):=pj rfl;have e:=Aj e B;have C:(jt i (List.length nh) (HC.dt (dr.mk b.acS b.acV b.o0 b.acT b.size (imax 0 (dZ .i64 b.free 1)) b.normal)))[(List.length nh)]?=some (HC.dt (dr.mk b.acS b.acV b.o0 b.acT b.size (imax 0 (dZ .i64 b.free 1)) b.normal)):=vH o;have e:=Aj e C;exact iC
def Ij(T:dx):∀(n:Nat),(∀{H:cW} {a0:Tm} {nh:List HC} {i:Option Nat} {c:List HC} (hm:pd n a0 nh=some (i,c)),du prog T 281 [Tm.av a0] (H++gv (List.length H) nh) (lP (List.length H) i) (H++gv (List.length H) c)):=by
  intro n
  induction n with
  |zero=>
   skip
   all_goals(intro _ _;intros;rename_i hm;cases hm)
  |succ n r=>
 intro H a0 nh i c hm;rw[pd] at hm;have e:=trivial;refine wi acX func281 [] [] 999 ?_;simp[e];refine Wr e hm 999 (λk s2 f h=>∃a,(h=H++gv (List.length H) s2.2/\f.1 3=sT a (lP (List.length H)) s2.1/\f.1 7=sL Tm.av a0.acT/\f.1 8=sI (di a0.acT)/\f.1 9=sI k/\bx f 1 (Tm.av a0).cells)/\Ow f [17] a s2.1) (by exact⟨.full,aa8,gM.full⟩) (λs2 d _ _ E m=>?_) (λk _ s2 d _ _ _ _ E e m z p=>?_)
 ·have⟨v10,v11⟩:=s2;have⟨a,E,b⟩:=E;have e:=Aj e E;dsimp only[cU,h7]at m;simp[e];refine g_ m (qD T (H:=H)) λ_ l m=>?_;exact au
 have⟨v10,v11⟩:=s2;have⟨a,E,b⟩:=E;have e:=Aj e E;have o:=e;dsimp only[h7]at m;simp[e];refine g_ m (r (H:=H)) λj q m=>?_;have⟨e,m⟩:=Ck e m;simp[e];refine Ao (f:=(lP (List.length H))) v10 [j] b OA e.2 ?_;simp[e];cases m;exact p _ _ _ ⟨(.loc 17 (d.ei 17+1)),aa8,(On 17)⟩ z
def Kt(T:dx){H:cW}{a0:Tm}{nh:List HC}{b:Option Nat}{a:List HC}{n:Nat}(hm:pd n a0 nh=some (b,a)):du prog T 281 [Tm.av a0] (H++gv (List.length H) nh) (lP (List.length H) b) (H++gv (List.length H) a):=(Ij T n) hm
def B4(T:dx){H:cW}{a0:Option Nat}{nh:List HC}{b:Int}(hm:qH a0 nh=some b):du prog T 301 [lP (List.length H) a0] (H++gv (List.length H) nh) (sI b) (H++gv (List.length H) nh):=by
 rw[qH] at hm;have e:=trivial;refine wi acX func301 [] [] 999 ?_;have⟨c,e,m⟩:=ee e hm;have⟨d,e,m⟩:=ee e m;have a:=HC.c7 e.2;have e:=Aj e.1 a;exact au
def uy(T:dx){H:cW}{a0:Option Nat}{nh:List HC}{j:Bool}(hm:lF a0 nh=some j):du prog T 302 [lP (List.length H) a0] (H++gv (List.length H) nh) (sB j) (H++gv (List.length H) nh):=by
 rw[lF] at hm;have e:=trivial;refine wi acX func302 [] [] 8 ?_;have⟨A,e,m⟩:=ee e hm;have⟨k,e,m⟩:=ee e m;have l:=HC.c7 e.2;have e:=Aj e.1 l;simp[e];apply Iq e m<;>intro e m
 ·apply wg 999;have⟨B,e,m⟩:=ee e m;have⟨C,e,m⟩:=ee e m;have⟨D,e,m⟩:=ee e m;have n:=HC.c7 e.2;have e:=Aj e.1 n;exact au
 apply wg 3;simp[e];apply Iq e m<;>intro e m
 ·apply wg 1;simp[e];refine wm m 999 999 (λo f h=>∃v9,(h=H++gv (List.length H) nh/\f.1 2=sB v9)/\o v9=some j) ?_ (λo _ g m=>?_)
  ·rintro _ _ ⟨v9,E,m⟩;have e:=Aj e E;exact au
  have⟨q,e,m⟩:=ee e m;have⟨r,e,m⟩:=ee e m;have⟨s,e,m⟩:=ee e m;have b:=HC.c7 e.2;have e:=Aj e.1 b;apply Iq e m<;>intro e m
  ·exact iC
  exact iC
 apply wg 4;apply Iq e m<;>intro e m
 ·simp[e];refine wm m 999 999 (λc f h=>∃a,(h=H++gv (List.length H) nh/\f.1 2=sB a)/\c a=some j) ?_ (λc _ g m=>?_)
  ·rintro _ _ ⟨a,E,m⟩;have e:=Aj e E;exact au
  have⟨t,e,m⟩:=ee e m;have⟨u,e,m⟩:=ee e m;have⟨v,e,m⟩:=ee e m;have d:=HC.c7 e.2;have e:=Aj e.1 d;apply Iq e m<;>intro e m
  ·exact iC
  exact iC
 simp[e];refine wj 999 999 (λf h=>h=H++gv (List.length H) nh/\f.1 0=lP (List.length H) a0/\f.1 67=sB (eu (dg k.acS 11) true (dg k.acS 12))) (λ_ g=>?_) ?_
 ·rcases Pb (dg k.acS 11) e with e|e
  ·exact aj
  exact aj
 rintro _ _ E;have e:=Aj e E;refine Im e m λe m=>?_;have⟨w,e,m⟩:=ee e m;have⟨x,e,m⟩:=ee e m;have⟨y,e,m⟩:=ee e m;have i:=HC.c7 e.2;have e:=Aj e.1 i;exact au
def qW(T:dx){H:cW}{a0:Option Nat}{nh:List HC}{b:Int}(hm:gQ a0 nh=some b):du prog T 317 [lP (List.length H) a0] (H++gv (List.length H) nh) (sI b) (H++gv (List.length H) nh):=by
 rw[gQ] at hm;have e:=trivial;refine wi acX func317 [] [] 999 ?_;have⟨c,e,m⟩:=ee e hm;have⟨d,e,m⟩:=ee e m;have a:=HC.c7 e.2;have e:=Aj e.1 a;refine Il e m λe m=>?_;exact au
def zZ(T:dx):∀(n:Nat),(∀{H:cW} {a0:Option Nat} {a1:Int} {nh:List HC} {a:Int} (hm:jh n a0 a1 nh=some a),du prog T 311 [lP (List.length H) a0,sI a1] (H++gv (List.length H) nh) (sI a) (H++gv (List.length H) nh)):=by
  intro n
  induction n with
  |zero=>
   skip
   all_goals(intro _ _;intros;rename_i hm;cases hm)
  |succ n k=>
 intro H a0 a1 nh a hm;rw[jh] at hm;have e:=trivial;refine wi acX func311 [] [] 999 ?_;have⟨l,e,m⟩:=ee e hm;have⟨d,e,m⟩:=ee e m;have b:=HC.c7 e.2;have e:=Aj e.1 b;refine Il e m λe m=>?_;apply Iq e m<;>intro e m
 ·refine Il e m λe m=>?_;exact au
 simp[e];refine Wr e m 999 (λi c f h=>h=H++gv (List.length H) nh/\f.1 0=lP (List.length H) a0/\f.1 1=sI a1/\f.1 5=sI c/\f.1 28=sL (lP (List.length H)) d.acT/\f.1 29=sI (di d.acT)/\f.1 30=sI i) aa8 (λc _ _ _ E m=>?_) (λi _ c _ _ _ _ _ E e m z p=>?_)
 ·have e:=Aj e E;dsimp only[cU]at m;exact au
 have e:=Aj e E;have j:=e;simp[e];refine dX m (qW T (H:=H)) λ_ m=>?_;simp[e];refine dX m (k (H:=H)) λ_ m=>?_;exact al
def Bk(T:dx){H:cW}{a0:Option Nat}{a1:Int}{nh:List HC}{a:Int}{n:Nat}(hm:jh n a0 a1 nh=some a):du prog T 311 [lP (List.length H) a0,sI a1] (H++gv (List.length H) nh) (sI a) (H++gv (List.length H) nh):=(zZ T n) hm
def oQ(T:dx){H:cW}{a0:Option Nat}{a1:(List (Option Nat))}{nh:List HC}{c:Option Nat}{a:List HC}(hm:fv a0 a1 nh=some (c,a)):du prog T 309 [lP (List.length H) a0,sL (lP (List.length H)) a1] (H++gv (List.length H) nh) (lP (List.length H) c) (H++gv (List.length H) a):=by
 rw[fv] at hm;have e:=trivial;refine wi acX func309 [] [(1,false,[true,true,true,false,true,true,true,false,true,true,true,false,true,true,true])] 999 ?_;have⟨f,e,m⟩:=ee e hm;have⟨h,e,m⟩:=ee e m;have b:=HC.c7 e.2;have e:=Aj e.1 b;simp[e];refine kU m (qD T (H:=H)) λ_ d m=>?_;exact au
def A4(T:dx):∀(n:Nat),(∀{H:cW} {a0:Option Nat} {a1:Int} {a2:Int} {nh:List HC} {q:Option Nat} {d:List HC} (hm:iy n a0 a1 a2 nh=some (q,d)),du prog T 318 [lP (List.length H) a0,sI a1,sI a2] (H++gv (List.length H) nh) (lP (List.length H) q) (H++gv (List.length H) d)):=by
  intro n
  induction n with
  |zero=>
    skip
    all_goals(intro _ _;intros;rename_i hm;cases hm)
  |succ n y=>
 intro H a0 a1 a2 nh q d hm;rw[iy] at hm;have e:=trivial;refine wi acX func318 [] [(4,false,[true,true,true,false,true,true,true,false,true,true,true,true,true,false,true,true])] 3 ?_;simp[e];refine Wj hm 999 999 (λt f h=>∃v2,(h=H++gv (List.length H) nh/\f.1 0=lP (List.length H) a0/\f.1 1=sI a1/\f.1 2=sI a2/\f.1 19=sB v2)/\t v2=some (q,d)) (λt _ g m=>?_) ?_
 ·have⟨A,e,m⟩:=ee e m;have⟨B,e,m⟩:=ee e m;have r:=HC.c7 e.2;have e:=Aj e.1 r;apply Iq e m<;>intro e m
  ·exact iC
  exact iC
 rintro _ _ ⟨v2,E,m⟩;have e:=Aj e E;refine Il e m λe m=>?_;have⟨C,e,m⟩:=ee e m;have⟨j,e,m⟩:=ee e m;have k:=HC.c7 e.2;have e:=Aj e.1 k;apply Iq e m<;>intro e m
 ·simp[e];refine kU m (qD T (H:=H)) λ_ u m=>?_;exact au
 simp[e];refine Wr e m 999 (λl b f h=>∃a,(h=H++gv (List.length H) b.2/\f.1 0=lP (List.length H) a0/\f.1 1=sI a1/\f.1 2=sI a2/\f.1 7=sT a (lP (List.length H)) b.1/\f.1 44=sL (lP (List.length H)) j.acT/\f.1 45=sI (di j.acT)/\f.1 46=sI l)/\Ow f [59] a b.1) (by exact⟨.full,aa8,gM.full⟩) (λb i _ _ E m=>?_) (λl _ b i _ _ _ _ E e m z p=>?_)
 ·have⟨o,v24⟩:=b;have⟨a,E,c⟩:=E;have e:=Aj e E;dsimp only[cU,h7]at m;simp[e];refine g_ m (oQ T (H:=H)) λ_ v m=>?_;exact au
 have⟨o,v24⟩:=b;have⟨a,E,c⟩:=E;have e:=Aj e E;have w:=e;dsimp only[h7]at m;simp[e];refine dX m (qW T (H:=H)) λ_ m=>?_;simp[e];refine g_ m (y (H:=H)) λs x m=>?_;have⟨e,m⟩:=Ck e m;simp[e];refine Ao (f:=(lP (List.length H))) o [s] c OA e.2 ?_;simp[e];cases m;exact p _ _ _ ⟨(.loc 59 (i.ei 59+1)),aa8,(On 59)⟩ z
def B7(T:dx){H:cW}{a0:Option Nat}{a1 a2:Int}{nh:List HC}{b:Option Nat}{a:List HC}{n:Nat}(hm:iy n a0 a1 a2 nh=some (b,a)):du prog T 318 [lP (List.length H) a0,sI a1,sI a2] (H++gv (List.length H) nh) (lP (List.length H) b) (H++gv (List.length H) a):=(A4 T n) hm
def Cq(T:dx):∀(n:Nat),(∀{H:cW} {a0:Option Nat} {a1:Int} {a2:Option Nat} {nh:List HC} {k:Option Nat} {d:List HC} (hm:iR n a0 a1 a2 nh=some (k,d)),du prog T 312 [lP (List.length H) a0,sI a1,lP (List.length H) a2] (H++gv (List.length H) nh) (lP (List.length H) k) (H++gv (List.length H) d)):=by
  intro n
  induction n with
  |zero=>
    skip
    all_goals(intro _ _;intros;rename_i hm;cases hm)
  |succ n w=>
 intro H a0 a1 a2 nh k d hm;rw[iR] at hm;have e:=trivial;refine wi acX func312 [] [(6,false,[true,true,true,false,true,true,true,false,true,true,true,true,false,true,true])] 999 ?_;have⟨A,e,m⟩:=ee e hm;have⟨r,e,m⟩:=ee e m;have l:=HC.c7 e.2;have e:=Aj e.1 l;refine Il e m λe m=>?_;apply Iq e m<;>intro e m
 ·apply Ir e m<;>intro e m
  ·simp[e];refine kU m (qD T (H:=H)) λ_ x m=>?_;exact au
  simp[e];refine g_ m (B7 T (H:=H)) λ_ y m=>?_;exact au
 simp[e];refine Wr e m 999 (λs i f h=>∃a,(h=H++gv (List.length H) i.2/\f.1 0=lP (List.length H) a0/\f.1 1=sI a1/\f.1 2=lP (List.length H) a2/\f.1 7=sT a (lP (List.length H)) i.1/\f.1 48=sL (lP (List.length H)) r.acT/\f.1 49=sI (di r.acT)/\f.1 50=sI s)/\Ow f [63] a i.1) (by exact⟨.full,aa8,gM.full⟩) (λi c _ _ E m=>?_) (λs _ i c _ _ _ _ E e m z p=>?_)
 ·have⟨j,o⟩:=i;have⟨a,E,b⟩:=E;have e:=Aj e E;dsimp only[cU,h7]at m;simp[e];refine g_ m (oQ T (H:=H)) λ_ t m=>?_;exact au
 have⟨j,o⟩:=i;have⟨a,E,b⟩:=E;have e:=Aj e E;have u:=e;dsimp only[h7]at m;simp[e];refine dX m (qW T (H:=H)) λ_ m=>?_;simp[e];refine g_ m (w (H:=H)) λq v m=>?_;have⟨e,m⟩:=Ck e m;simp[e];refine Ao (f:=(lP (List.length H))) j [q] b OA e.2 ?_;simp[e];cases m;exact p _ _ _ ⟨(.loc 63 (c.ei 63+1)),aa8,(On 63)⟩ z
def Du(T:dx){H:cW}{a0:Option Nat}{a1:Int}{a2:Option Nat}{nh:List HC}{b:Option Nat}{a:List HC}{n:Nat}(hm:iR n a0 a1 a2 nh=some (b,a)):du prog T 312 [lP (List.length H) a0,sI a1,lP (List.length H) a2] (H++gv (List.length H) nh) (lP (List.length H) b) (H++gv (List.length H) a):=(Cq T n) hm
def D6(T:dx){H:cW}{a0:Option Nat}{a1:(List (Option Nat))}{nh:List HC}{b:Option Nat}{a:List HC}(hm:rv a0 a1 nh=some (b,a)):du prog T 313 [lP (List.length H) a0,sL (lP (List.length H)) a1] (H++gv (List.length H) nh) (lP (List.length H) b) (H++gv (List.length H) a):=by
 rw[rv] at hm;have e:=trivial;refine wi acX func313 [] [] 999 ?_;simp[e];refine Wr e hm 999 (λc s2 f h=>h=H++gv (List.length H) s2.2/\f.1 0=lP (List.length H) s2.1/\f.1 7=sL (lP (List.length H)) a1/\f.1 8=sI (di a1)/\f.1 9=sI c) aa8 (λs2 _ _ _ E m=>?_) (λc _ s2 _ _ _ _ _ E e m z p=>?_)
 ·have⟨v10,v11⟩:=s2;have e:=Aj e E;dsimp only[cU,h7]at m;exact au
 have⟨v10,v11⟩:=s2;have e:=Aj e E;have d:=e;dsimp only[h7]at m;simp[e];refine g_ m (qD T (H:=H)) λ_ i m=>?_;exact al
def r'(T:dx){H:cW}{a0:Option Nat}{nh:List HC}{j:Option Nat}{a:List HC}(hm:gV a0 nh=some (j,a)):du prog T 308 [lP (List.length H) a0] (H++gv (List.length H) nh) (lP (List.length H) j) (H++gv (List.length H) a):=by
 rw[gV] at hm;have e:=trivial;refine wi acX func308 [] [(3,false,[true,true,true,false,true,true,true,true,false,true,true,true,true,true,false,true,true,true,true]),(8,true,[]),(11,false,[true,true,true,true,true,true,false,true,true,true,false,true,true,true,true,true,true,true])] 999 ?_;have⟨G,e,m⟩:=ee e hm;have⟨I,e,m⟩:=ee e m;have h:=HC.c7 e.2;have e:=Aj e.1 h;apply Iq e m<;>intro e m
 ·have⟨J,e,m⟩:=ee e m;have⟨K,e,m⟩:=ee e m;have⟨L,e,m⟩:=ee e m;have i:=HC.c7 e.2;have e:=Aj e.1 i;have⟨M,e,m⟩:=ee e m;have⟨N,e,m⟩:=ee e m;simp-implicitDefEqProofs[e];refine kU m (Du T (H:=H)) λ_ k m=>?_;exact au
 apply Iq e m<;>intro e m
 ·have⟨q,e,m⟩:=ee e m;have⟨r,e,m⟩:=ee e m;have⟨s,e,m⟩:=ee e m;have b:=HC.c7 e.2;have e:=Aj e.1 b;have⟨t,e,m⟩:=ee e m;exact au
 apply Iq e m<;>intro e m
 ·have⟨u,e,m⟩:=ee e m;have⟨v,e,m⟩:=ee e m;have⟨w,e,m⟩:=ee e m;have c:=HC.c7 e.2;have e:=Aj e.1 c;have⟨x,e,m⟩:=ee e m;exact au
 have⟨y,e,m⟩:=ee e m;have⟨A,e,m⟩:=ee e m;have⟨B,e,m⟩:=ee e m;have⟨C,e,m⟩:=ee e m;have⟨D,e,m⟩:=ee e m;have d:=HC.c7 e.2;have e:=Aj e.1 d;refine Il e m λe m=>?_;have⟨E,e,m⟩:=ee e m;simp[e];refine kU m (oQ T (H:=H)) λ_ l m=>?_;have⟨F,e,m⟩:=ee e m;have f:=HC.c7 e.2;have e:=Aj e.1 f;simp[e];refine g_ m (D6 T (H:=H)) λ_ n m=>?_;simp[e];refine g_ m (D6 T (H:=H)) λ_ o m=>?_;exact au
def AO(T:dx){H:cW}{a0:Option Nat}{nh:List HC}{v:Int}{a:List HC}(hm:lE a0 nh=some (v,a)):du prog T 307 [lP (List.length H) a0] (H++gv (List.length H) nh) (sI v) (H++gv (List.length H) a):=by
 rw[lE] at hm;have e:=trivial;refine wi acX func307 [] [(4,true,[]),(7,true,[]),(12,true,[])] 999 ?_;have⟨x1,e,m⟩:=ee e hm;have⟨x2,e,m⟩:=ee e m;have t:=HC.c7 e.2;have e:=Aj e.1 t;apply Iq e m<;>intro e m
 ·have⟨x4,e,m⟩:=ee e m;have⟨x5,e,m⟩:=ee e m;have⟨x6,e,m⟩:=ee e m;have u:=HC.c7 e.2;have e:=Aj e.1 u;have⟨x8,e,m⟩:=ee e m;have⟨x9,e,m⟩:=ee e m;have⟨x,e,m⟩:=ee e m;have b:=HC.c7 e.2;have e:=Aj e.1 b;simp[e];refine dT m (Bk T (H:=H)) λ_ m=>?_;have⟨y,e,m⟩:=ee e m;have⟨A,e,m⟩:=ee e m;have⟨B,e,m⟩:=ee e m;have c:=HC.c7 e.2;have e:=Aj e.1 c;exact au
 apply Iq e m<;>intro e m
 ·have⟨C,e,m⟩:=ee e m;have⟨D,e,m⟩:=ee e m;have⟨E,e,m⟩:=ee e m;have d:=HC.c7 e.2;have e:=Aj e.1 d;apply Ir e m<;>intro e m
  ·have⟨F,e,m⟩:=ee e m;have⟨G,e,m⟩:=ee e m;have⟨I,e,m⟩:=ee e m;have f:=HC.c7 e.2;have e:=Aj e.1 f;exact au
  have⟨J,e,m⟩:=ee e m;have⟨K,e,m⟩:=ee e m;have⟨L,e,m⟩:=ee e m;have h:=HC.c7 e.2;have e:=Aj e.1 h;have⟨M,e,m⟩:=ee e m;have⟨N,e,m⟩:=ee e m;have⟨O,e,m⟩:=ee e m;have i:=HC.c7 e.2;have e:=Aj e.1 i;have⟨P,e,m⟩:=ee e m;have⟨Q,e,m⟩:=ee e m;have⟨R,e,m⟩:=ee e m;have j:=HC.c7 e.2;have e:=Aj e.1 j;exact au
 apply Ir e m<;>intro e m
 ·simp[e];refine g_ m (r' T (H:=H)) λ_ w m=>?_;have⟨S,e,m⟩:=ee e m;have⟨U,e,m⟩:=ee e m;have k:=HC.c7 e.2;have e:=Aj e.1 k;exact au
 have⟨V,e,m⟩:=ee e m;have⟨W,e,m⟩:=ee e m;have⟨X,e,m⟩:=ee e m;have l:=HC.c7 e.2;have e:=Aj e.1 l;apply Ir e m<;>intro e m
 ·have⟨Y,e,m⟩:=ee e m;have⟨Z,e,m⟩:=ee e m;have⟨aa,e,m⟩:=ee e m;have n:=HC.c7 e.2;have e:=Aj e.1 n;exact au
 have⟨ab,e,m⟩:=ee e m;have⟨ad,e,m⟩:=ee e m;have⟨ae,e,m⟩:=ee e m;have o:=HC.c7 e.2;have e:=Aj e.1 o;have⟨af,e,m⟩:=ee e m;have⟨ah,e,m⟩:=ee e m;have⟨ai,e,m⟩:=ee e m;have q:=HC.c7 e.2;have e:=Aj e.1 q;have⟨ak,e,m⟩:=ee e m;have⟨an,e,m⟩:=ee e m;have⟨aq,e,m⟩:=ee e m;have r:=HC.c7 e.2;have e:=Aj e.1 r;have⟨ar,e,m⟩:=ee e m;have⟨aw,e,m⟩:=ee e m;have⟨ax,e,m⟩:=ee e m;have s:=HC.c7 e.2;have e:=Aj e.1 s;exact au
def zY(T:dx){H:cW}{a0:Option Nat}{nh:List HC}{a:Int}(hm:oW a0 nh=some a):du prog T 307 [lP (List.length H) a0] (H++gv (List.length H) nh) (sI a) (H++gv (List.length H) nh):=by
 have⟨r,b,h1,c⟩:=gz hm;obtain rfl:=gh c;obtain⟨X,rfl⟩:=Ca h1;exact dL.tJ (AO T h1) (λ_ _ h=>⟨gv (List.length H) X,by rw[h.2];simp[vw],by rw[h.1];rfl,h.1,rfl⟩)
def O3:jm prog 300=true:=by kernel_rfl
def AQ(T:dx):∀(n:Nat),(∀{H:cW} {a0:Option Nat} {a1:Int} {nh:List HC} {r0:Option Nat} {r1:Int} {aq:List HC} (hm:iv n a0 a1 nh=some (r0,r1,aq)),du prog T 300 [lP (List.length H) a0,sI a1] (H++gv (List.length H) nh) (AV.tuple [lP (List.length H) r0,sI r1]) (H++gv (List.length H) aq)):=by
  intro n
  induction n with
  |zero=>
    skip
    all_goals(intro _ _;intros;rename_i hm;cases hm)
  |succ n ih=>
 intro H a0 a1 nh r0 r1 aq hm;rw[iv] at hm;refine dL.intro (fn:=f300) func300 rfl O3 (Tb rfl) ?_;refine fg.sr [] λK1 bz=>?_;simp;apply bz;refine fg.tx λK3 bA=>?_;refine fg.sr [] λK5 bB=>?_;have⟨x7,j,ar⟩:=dm hm;clear hm
 try dsimp only at ar
 have⟨C,a,K⟩:=dm ar;replace a:=HC.c7 a;clear ar
 try dsimp only at K
 simp[j,a];apply bB;refine fg.s9 λb' ca aY aZ=>?_;rcases hZ K with⟨b,aa⟩|⟨b,ab⟩
 ·clear K;simp[j,a,b];apply aY;refine fg.sr [] λcb a6=>?_;simp[j,a,b];apply a6;refine fg.ret ?_;simp only[sy,GQ] at aa;obtain⟨rfl,rfl,rfl⟩:=aa;simp[uL,j,a,b]
 clear K;simp[j,a,b];apply aZ;refine fg.skip ?_;apply bA;refine fg.tx λcc a7=>?_;refine fg.sr [] λcd a8=>?_;have⟨cf,a_,M⟩:=dm ab;clear ab
 try dsimp only at M
 simp[j,a,b];refine h9.fn (uy T (H:=H) a_) ?_;simp[j,a,b];apply a8;refine fg.s9 λcg ch a' ba=>?_;rcases hZ M with⟨c,ad⟩|⟨c,ae⟩
 ·clear M;simp[j,a,b,c];apply a';refine fg.tx λcj bb=>?_;refine fg.tx λck bc=>?_;refine fg.UE [] true acX abl abl ?_;have⟨cm,bd,N⟩:=dm ad;clear ad
  try dsimp only at N
  simp[j,a,b,c];refine tV.fn (zY T (H:=H) bd) aa4 ?_;simp[j,a,b,c];apply bc;refine fg.s9 λcn cq bf bg=>?_;rcases hZ N with⟨w,af⟩|⟨w,ah⟩
  ·clear N;simp[j,a,b,c,w];apply bf;refine fg.sr [] λcr bh=>?_;simp[j,a,b,c,w];apply bh;refine fg.ret ?_;simp only[sy,GQ] at af;obtain⟨rfl,rfl,rfl⟩:=af;simp[uL,j,a,b,c,w]
  clear N;simp[j,a,b,c,w];apply bg;refine fg.skip ?_;apply bb;refine fg.sr [] λcu bj=>?_;have⟨cv,bH,bk,P⟩:=gz ah;clear ah
  try dsimp only at P
  simp[j,a,b,c,w];refine h9.fn (r' T (H:=H) bk) ?_;simp[j,a,b,c,w];apply bj;refine fg.ret ?_;simp only[sy,GQ] at P;obtain⟨rfl,rfl,rfl⟩:=P;simp[uL,j,a,b,c,w]
 clear M;simp[j,a,b,c];apply ba;refine fg.skip ?_;apply a7;refine fg.tx λcw bl=>?_;refine fg.sr [] λcx bm=>?_;simp[j,a,b,c];apply bm;have⟨aw,ai⟩:=lK ae;clear ae;have⟨bC,bn,Q⟩:=jw ai;clear ai
 try dsimp only at Q
 have⟨ax,y,s⟩:=dm Q;clear Q;refine fg.zx λcy bI bo bJ ak=>?_;refine fg.Ma (λn75 fr h=>∃(i76:Nat) (R:Int) (O:List HC),H++gv (List.length H) O=h/\(fr.env 0=lP (List.length H) a0/\fr.env 1=sI a1/\fr.env 31=sL (lP (List.length H)) C.acT/\fr.env 32=sI (di C.acT)/\fr.env 33=sI R)/\R=(i76:Int)/\i76+n75=List.length C.acT/\dN bC (List.drop i76 C.acT) i76 O=some ax) (List.length C.acT) ?_ ?_
 ·refine⟨0,0,nh,?_,⟨?_,?_,?_,?_,?_⟩,rfl,aa4,y⟩<;>first|rfl|simp[j,a,b,c]
 rintro n75 bp cz ⟨i76,R,O,rfl,p,D,bK,y⟩ cA bq;rcases n75 with _|n75
 ·have e:=Li (l:=C.acT) D VW;refine fg.sr [] λcB br=>?_;simp[p,j,a,e,b,c];apply br;refine fg.tx λcD bL=>?_;refine fg.s9 λcE cF bM bs=>?_;simp[p,j,a,e,b,c];apply bs;refine fg.exit ?_;apply bo;rw[Da VW,om] at y;obtain rfl:=gh y;rw[cU] at s
  try dsimp only at s
  apply bl;refine fg.sr [] λcG bt=>?_;have⟨t,z,S⟩:=dm s;replace z:=HC.c7 z;clear s
  try dsimp only at S
  have U:dH (gv (List.length H) O) x7 [sI t.acS,sI t.acV,sI t.o0.acS,sL Ty.av t.o0.acT,sL (lP (List.length H)) t.acT,sI t.size,sI t.free,sB true]=gv (List.length H) (jt O x7 (HC.dt (dr.mk t.acS t.acV t.o0 t.acT t.size t.free true))):=pj rfl;have V:(jt O x7 (HC.dt (dr.mk t.acS t.acV t.o0 t.acT t.size t.free true)))[x7]?=some (HC.dt (dr.mk t.acS t.acV t.o0 t.acT t.size t.free true)):=vH z;simp[p,j,a,e,z,U,V,b,c];apply bt;refine fg.sr [] λbN ay=>?_;simp[p,j,a,e,z,U,V,b,c];apply ay;refine fg.ret ?_;simp only[sy,GQ] at S;obtain⟨rfl,rfl,rfl⟩:=S;simp[uL,p,j,a,e,z,U,V,b,c]
 have e:=OD (l:=C.acT) D VW;have⟨bO,az,i⟩:=L' (l:=C.acT) D VW;rw[az,dJ] at y;have⟨bP,A,v⟩:=dm y;clear y;rw[bn,<-D] at A
 try dsimp only at A
 refine fg.sr [] λbQ aA=>?_;simp[p,j,a,e,i,b,c];apply aA;refine fg.tx λbR aB=>?_;refine fg.s9 λbS bT aC bD=>?_;simp[p,j,a,e,i,b,c];apply aC;refine fg.skip ?_;apply aB;refine fg.tx λbU aD=>?_;refine fg.zx λbV aE bE bF W=>?_;refine fg.sr [] λbW aF=>?_;simp[p,j,a,e,i,b,c];apply aF;refine fg.sr [] λbX aG=>?_;have⟨an,bY,aH,aI,B⟩:=vh A;clear A
 try dsimp only at B
 simp[p,j,a,e,i,b,c];refine h9.fn (ih (H:=H) aI) ?_;simp[p,j,a,e,i,b,c];apply aG;refine fg.tx λbZ aJ=>?_;refine fg.sr [] λb0 aK=>?_;simp[p,j,a,e,i,b,c];apply aK;refine fg.s9 λb1 b2 aL aM=>?_;rcases hZ B with⟨m,aN⟩|⟨m,F⟩
 ·clear B;simp[p,j,a,e,i,b,c,m];apply aL;refine fg.sr [] λb3 aO=>?_;simp[p,j,a,e,i,b,c,m];apply aO;refine fg.ret ?_;apply W;apply ak;obtain rfl:=gh aN;rw[BB] at v;obtain rfl:=gh v;rw[pK] at s
  try dsimp only at s
  simp only[sy,GQ] at s;obtain⟨rfl,rfl,rfl⟩:=s;simp[uL,p,j,a,e,i,b,c,m]
 clear B;simp[p,j,a,e,i,b,c,m];apply aM;refine fg.skip ?_;apply aJ;refine fg.sr [] λb4 aP=>?_;simp[p,j,a,e,i,b,c,m];apply aP;refine fg.s9 λb5 b6 aQ aR=>?_;rcases hZ F with⟨o,X⟩|⟨o,aS⟩;rotate_left
 ·clear F;simp[p,j,a,e,i,b,c,m,o];apply aR;refine fg.skip ?_;apply aE;apply aD;refine fg.region [] abl ?_;simp[p,j,a,e,i,b,c,m,o];obtain rfl:=gh aS;rw[dW] at v
  refine bq _ _ n75 (QI _) ⟨(i76+1),(dF .i64 R 1),aH,?_,⟨?_,?_,?_,?_,?_⟩,(Iu D VW aw),VW,v⟩<;>first|rfl|simp[p,j,a,e,i,b,c,m,o]
 clear F;simp[p,j,a,e,i,b,c,m,o];apply aQ;refine fg.sr [] λb7 aT=>?_;have⟨E,q,G⟩:=dm X;replace q:=HC.c7 q;clear X
 try dsimp only at G
 have⟨aU,Y⟩:=lK G;clear G;simp[p,j,a,e,i,q,b,c,m,o];refine rC.X_ (f:=(lP (List.length H))) E.acT OA ⟨_,UD⟩ (by intro x;simp) aU (by first|rfl|simp) (by first|rfl|simp) λI bu=>?_;simp[p,j,a,e,i,q,b,c,m,o];apply aT;refine fg.sr [] λb8 aV=>?_;have⟨bw,r,J⟩:=dm Y;clear Y
 try dsimp only at J
 have u:=G2 r;simp[p,j,a,e,i,q,r,u,b,c,m,o];refine yN.arr (f:=(lP (List.length H))) (L:=E.acT) (k:=((I-List.length E.acT)*1)) an XS (by intro x;simp) (by simp[p,j,a,e,i,q,r,u,b,c,m,o]) (x:=bw) (by assumption) (by simp[p,j,a,e,i,q,r,u,b,c,m,o]) (by simp[p,j,a,e,i,q,r,u,b,c,m,o]) (by simp[p,j,a,e,i,q,r,u,b,c,m,o]) ?_;simp[p,j,a,e,i,q,r,u,b,c,m,o];apply aV;refine fg.tx λb9 aW=>?_;refine fg.Zp 10 (f:=(lP (List.length H))) (L:=(wy E.acT R an)) (k:=((I-List.length E.acT)*1)) (sz:=1) (d:=53) (g:=(bp.gen 53+1)) (cap:=I) (by intro x;simp) (by intro x;simp) (by simp[p,j,a,e,i,q,r,u,b,c,m,o]) (by simp[p,j,a,e,i,q,r,u,b,c,m,o]) (by simp[p,j,a,e,i,q,r,u,b,c,m,o]) ?_;refine fg.region [] abl ?_;have⟨b_,bG,aX,Z⟩:=gz J;clear J
 try dsimp only at Z
 simp[p,j,a,e,i,q,r,u,b,c,m,o];refine h9.fn (oQ T (H:=H) aX) ?_;simp[p,j,a,e,i,q,r,u,b,c,m,o];apply aW;refine fg.ret ?_;apply W;apply ak;obtain rfl:=gh Z;rw[BB] at v;obtain rfl:=gh v;rw[pK] at s
 try dsimp only at s
 simp only[sy,GQ] at s;obtain⟨rfl,rfl,rfl⟩:=s;simp[uL,p,j,a,e,i,q,r,u,b,c,m,o]
def Ct(T:dx){H:cW}{a0:Option Nat}{a1:Int}{nh:List HC}{b:Option Nat}{c:Int}{a:List HC}{n:Nat}(hm:iv n a0 a1 nh=some (b,c,a)):du prog T 300 [lP (List.length H) a0,sI a1] (H++gv (List.length H) nh) (AV.tuple [lP (List.length H) b,sI c]) (H++gv (List.length H) a):=(AQ T n) hm
def Af(T:dx){H:cW}{a0:Option Nat}{nh:List HC}{s:Bool}{t:Int}{k:List HC}(hm:iJ a0 nh=some (s,t,k)):du prog T 282 [lP (List.length H) a0] (H++gv (List.length H) nh) (AV.tuple [sB s,sI t]) (H++gv (List.length H) k):=by
 rw[iJ] at hm;have e:=trivial;refine wi acX func282 [] [(1,true,[true,true,true,true,true,true,true,true,true,true,false,true,true,true,true,true])] 5 ?_;have⟨d,e,m⟩:=ee e hm;have⟨u,e,m⟩:=ee e m;have q:=HC.fw e.2;have e:=Aj e.1 q;simp[e];refine dT m (B4 T (H:=H)) λ_ m=>?_;have⟨c,r,b,e,m⟩:=Bo3 e m;simp[e];refine tS.fn (Ct T (H:=H) e.2) ?_;simp[e];refine wj 999 999 (λf h=>h=H++gv (List.length H) b/\f.1 0=lP (List.length H) a0/\f.1 4=lP (List.length H) c/\f.1 5=sI r/\f.1 25=sB (eu (dw r 0) true (Option.isNone c))) (λ_ g=>?_) ?_
 ·rcases Pb (dw r 0) e with e|e
  ·exact aj
  exact aj
 rintro _ _ E;have e:=Aj e E;refine Il e m λe m=>?_;have⟨a,e,m⟩:=ee e m;have i:=HC.fw e.2;have e:=Aj e.1 i;have l:dH (gv (List.length H) b) d [lP (List.length H) c,sI a.steps]=gv (List.length H) (jt b d (HC.eH (ew.mk c a.steps))):=pj rfl;have e:=Aj e l;have j:(jt b d (HC.eH (ew.mk c a.steps)))[d]?=some (HC.eH (ew.mk c a.steps)):=vH i;have e:=Aj e j;have n:dH (gv (List.length H) (jt b d (HC.eH (ew.mk c a.steps)))) d [lP (List.length H) c,sI (dF .i64 a.steps 1)]=gv (List.length H) (jt (jt b d (HC.eH (ew.mk c a.steps))) d (HC.eH (ew.mk c (dF .i64 a.steps 1)))):=pj rfl;have e:=Aj e n;have o:(jt (jt b d (HC.eH (ew.mk c a.steps))) d (HC.eH (ew.mk c (dF .i64 a.steps 1))))[d]?=some (HC.eH (ew.mk c (dF .i64 a.steps 1))):=vH j;have e:=Aj e o;exact au
def A'(T:dx):∀(n:Nat),(∀{H:cW} {a0:Option Nat} {nh:List HC} {j:Tm} (hm:gL n a0 nh=some j),du prog T 283 [lP (List.length H) a0] (H++gv (List.length H) nh) (Tm.av j) (H++gv (List.length H) nh)):=by
  intro n
  induction n with
  |zero=>
   skip
   all_goals(intro _ _;intros;rename_i hm;cases hm)
  |succ n s=>
 intro H a0 nh j hm;rw[gL] at hm;have e:=trivial;refine wi acX func283 [] [(1,true,[])] 999 ?_;have⟨t,e,m⟩:=ee e hm;have⟨i,e,m⟩:=ee e m;have k:=HC.c7 e.2;have e:=Aj e.1 k;simp[e];refine dT m rG λo m=>?_;simp[e];refine Wr e m 999 (λq c f h=>∃a,(h=H++gv (List.length H) nh/\f.1 23=sL (lP (List.length H)) i.acT/\f.1 24=sI (di i.acT)/\f.1 25=sI q/\bx f 2 [sI 0,sI 0,sI 0,nL,nL]/\bx f 3 [sI i.acS,sI i.acV,sI o.acS,sL Ty.av o.acT,sT a Tm.av c])/\Ow f [34] a c) (by exact⟨.full,aa8,gM.full⟩) (λc d _ _ E m=>?_) (λq _ c d _ _ _ _ E e m z p=>?_)
 ·have⟨a,E,b⟩:=E;have e:=Aj e E;dsimp only[cU]at m;exact au
 have⟨a,E,b⟩:=E;have e:=Aj e E;have r:=e;simp[e];refine dT m (s (H:=H)) λl m=>?_;have⟨e,m⟩:=Ck e m;simp[e];refine Ad (f:=Tm.av) c [l] b A1 e.2 ?_;simp[e];cases m;exact p _ _ _ ⟨(.loc 34 (d.ei 34+1)),aa8,(On 34)⟩ z
def vI(T:dx){H:cW}{a0:Option Nat}{nh:List HC}{a:Tm}{n:Nat}(hm:gL n a0 nh=some a):du prog T 283 [lP (List.length H) a0] (H++gv (List.length H) nh) (Tm.av a) (H++gv (List.length H) nh):=(A' T n) hm
def zk(T:dx):∀(n:Nat),(∀{H:cW} {a0:Option Nat} {nh:List HC} {l:Bool} {c:List HC} (hm:hU n a0 nh=some (l,c)),du prog T 284 [lP (List.length H) a0] (H++gv (List.length H) nh) (sB l) (H++gv (List.length H) c)):=by
  intro n
  induction n with
  |zero=>
   skip
   all_goals(intro _ _;intros;rename_i hm;cases hm)
  |succ n u=>
 intro H a0 nh l c hm;rw[hU] at hm;have e:=trivial;refine wi acX func284 [] [] 999 ?_;have⟨k,e,m⟩:=ee e hm;have⟨q,e,m⟩:=ee e m;have o:=HC.c7 e.2;have e:=Aj e.1 o;refine Il e m λe m=>?_;simp[e];refine dX m (uy T (H:=H)) λ_ m=>?_;refine Il e m λe m=>?_;simp[e];refine Ap e m 999 (λr d f h=>h=H++gv (List.length H) d/\f.1 0=lP (List.length H) a0/\f.1 14=sL (lP (List.length H)) q.acT/\f.1 15=sI (di q.acT)/\f.1 16=sI r) aa8 (λr _ d _ _ _ _ _ E e m z p=>?_) (λd _ _ _ E m=>?_)
 ·have e:=Aj e E;have s:=e;simp[e];refine g_ m (u (H:=H)) λ_ t m=>?_;refine Im e m λe m=>?_;exact al
 have e:=Aj e E;dsimp only[cU]at m;have⟨a,e,m⟩:=ee e m;have b:=HC.c7 e.2;have e:=Aj e.1 b;have i:dH (gv (List.length H) d) k [sI a.acS,sI a.acV,sI a.o0.acS,sL Ty.av a.o0.acT,sL (lP (List.length H)) a.acT,sI a.size,sI a.free,sB true]=gv (List.length H) (jt d k (HC.dt (dr.mk a.acS a.acV a.o0 a.acT a.size a.free true))):=pj rfl;have e:=Aj e i;have j:(jt d k (HC.dt (dr.mk a.acS a.acV a.o0 a.acT a.size a.free true)))[k]?=some (HC.dt (dr.mk a.acS a.acV a.o0 a.acT a.size a.free true)):=vH b;have e:=Aj e j;exact au
def Ak(T:dx){H:cW}{a0:Option Nat}{nh:List HC}{b:Bool}{a:List HC}{n:Nat}(hm:hU n a0 nh=some (b,a)):du prog T 284 [lP (List.length H) a0] (H++gv (List.length H) nh) (sB b) (H++gv (List.length H) a):=(zk T n) hm
def tD(T:dx)(u:pE T){H:cW}{a0:Tm}{a1:Int}{q:Tm}{r s:Int}(hm:jv a0 a1=some (q,r,s)):du prog T 249 [Tm.av a0,sI a1] H (AV.tuple [Tm.av q,sI r,sI s]) H:=by
 rw[jv] at hm;refine dL.tJ (Post:=λx K=>x=AV.tuple [Tm.av q,sI r,sI s]/\∃X,K=H++X) ?_ (λ_ _ h=>⟨_,h.2.choose_spec,by rw[h.1];simp[AV.low,AV.gA],h.1,rfl⟩);refine dL.Zo (c:=HC.cells) ?_;have e:=u;refine wi acX func249 [32] [(12,true,[]),(15,true,[])] 7 ?_;simp[e];refine dX hm (v_ T u) λ_ m=>?_;simp[e];apply Iq e m<;>intro e m
 ·apply wg 999;exact au
 apply wg 3;simp[e];refine Wj m 999 999 (λv f h=>∃v3,(h=H++gv (List.length H) ([]:List HC)/\f.1 1=sI a1/\f.1 27=sB v3/\bx f 2 (Tm.av a0).cells/\bx f 4 [sI 0,sI 0,sI 0,nL,nL])/\v v3=some (q,r,s)) (λv _ g m=>?_) ?_
 ·apply Iq e m<;>intro e m
  ·exact iC
  apply Iq e m<;>intro e m
  ·exact iC
  simp[e];refine dX m (L0 T) λ_ m=>?_;exact iC
 rintro _ _ ⟨v3,E,m⟩;have e:=Aj e E;refine Il e m λe m=>?_;simp[e];refine g_ m (Kt T (H:=H)) λt a m=>?_;have b:gv (List.length H) a++[[lP (List.length H) t,sI 0]]=gv (List.length H) (a++[HC.eH (ew.mk t 0)]):=I_ rfl;have e:=Aj e b;have d:(a++[HC.eH (ew.mk t 0)])[(List.length a)]?=some (HC.eH (ew.mk t 0)):=O0;have e:=Aj e d;simp[e];refine Wn m 3 (λi f h=>h=H++gv (List.length H) i/\f.1 1=sI a1/\f.1 8=AV.dM (List.length H+(List.length a)) 0/\bx f 4 [sI 0,sI 0,sI 0,nL,nL]) aa8 (λi _ _ _ _ _ E m z p=>?_);have e:=Aj e E;have j:=e;have⟨A,e,m⟩:=ee e m;have k:=HC.fw e.2;have e:=Aj e.1 k;simp[e];apply Iq e m<;>intro e m
 ·apply wg 999;simp[e];refine MI m (Af T (H:=H)) λ_ _ w m=>?_;refine Il e m λe m=>?_;apply Iq e m<;>intro e m
  ·exact al
  have⟨B,e,m⟩:=ee e m;have l:=HC.fw e.2;have e:=Aj e.1 l;simp[e];refine dT m (vI T (H:=H)) λ_ m=>?_;exact au
 apply wg 2;simp[e];cases m;have m:=Qb z
 try dsimp only at m
 have e:=j;apply wg 999;have⟨C,e,m⟩:=ee e m;have n:=HC.fw e.2;have e:=Aj e.1 n;simp[e];refine g_ m (Ak T (H:=H)) λ_ y m=>?_;refine Im e m λe m=>?_;have⟨D,e,m⟩:=ee e m;have o:=HC.fw e.2;have e:=Aj e.1 o;simp[e];refine dT m (vI T (H:=H)) λ_ m=>?_;exact au
def F7(T:dx)(a:pE T){H:cW}{a0 a1:Tm}{a2 b:Int}(hm:pX a0 a1 a2=some b):du prog T 231 [Tm.av a0,Tm.av a1,sI a2] H (sI b) H:=by
 rw[pX] at hm;have e:=a;refine wi acX func231 [] [] 999 ?_;simp[e];refine dX hm (v_ T a) λ_ m=>?_;refine Il e m λe m=>?_;simp[e];refine dX m (v_ T a) λ_ m=>?_;refine Il e m λe m=>?_;simp[e];refine dX m Cp λ_ m=>?_;refine Il e m λe m=>?_;simp[e];refine MI m (tD T a) λ_ _ _ m=>?_;refine Il e m λe m=>?_;simp[e];refine MI m (tD T a) λ_ _ _ m=>?_;refine Il e m λe m=>?_;simp[e];refine dX m Cp λ_ m=>?_;refine Il e m λe m=>?_;exact au
def C_(T:dx)(c:pE T):∀(n:Nat),(∀{H:cW} {a0:Fm} {a1:Fm} {b:Int} (hm:lu n a0 a1=some b),du prog T 169 [Fm.av a0,Fm.av a1] H (sI b) H):=by
  intro n
  induction n with
  |zero=>
    skip
    all_goals(intro _ _;intros;rename_i hm;cases hm)
  |succ n j=>
 intro H a0 a1 b hm;rw[lu] at hm;have e:=c;refine wi acX func169 [] [] 3 ?_;simp[e];refine Wj hm 999 999 (λd f h=>∃v2,(h=H/\f.1 23=sB v2/\bx f 2 (Fm.av a0).cells/\bx f 3 (Fm.av a1).cells)/\d v2=some b) (λd _ g m=>?_) ?_
 ·apply Iq e m<;>intro e m
  ·exact iC
  simp[e];refine dX m oy λ_ m=>?_;exact iC
 rintro _ _ ⟨v2,E,m⟩;have e:=Aj e E;refine Il e m λe m=>?_;simp[e];refine Ap e m 999 (λi _ f h=>h=H/\f.1 25=sL Tm.av a0.c9/\f.1 26=sI (di a0.c9)/\f.1 27=sI i/\bx f 2 (Fm.av a0).cells/\bx f 3 (Fm.av a1).cells) aa8 (λi _ _ _ _ _ _ _ E e m z p=>?_) (λ_ _ _ _ E m=>?_)
 ·have e:=Aj e E;have⟨k,e,m⟩:=ee e m;simp[e];refine dT m (F7 T c) λ_ m=>?_;refine Il e m λe m=>?_;exact al
 have e:=Aj e E;dsimp only[cU]at m;simp[e];refine Wr e m 999 (λa _ f h=>h=H/\f.1 44=sL Fm.av a0.acT/\f.1 45=sI (di a0.acT)/\f.1 46=sI a/\bx f 3 (Fm.av a1).cells) aa8 (λ_ _ _ _ E m=>?_) (λa _ _ _ _ _ _ _ E e m z p=>?_)
 ·have e:=Aj e E;dsimp only[cU]at m;exact au
 have e:=Aj e E;have⟨l,e,m⟩:=ee e m;simp[e];refine dT m j λ_ m=>?_;refine Il e m λe m=>?_;exact al
def EB(T:dx)(b:pE T){H:cW}{a0 a1:Fm}{a:Int}{n:Nat}(hm:lu n a0 a1=some a):du prog T 169 [Fm.av a0,Fm.av a1] H (sI a) H:=(C_ T b n) hm
def tr(T:dx)(a:pE T){H:cW}{a0 a1:Fm}{b:Int}(hm:iV a0 a1=some b):du prog T 107 [Fm.av a0,Fm.av a1] H (sI b) H:=by
 rw[iV] at hm;have e:=a;refine wi acX func107 [] [] 999 ?_;simp[e];refine dX hm (ot T a) λ_ m=>?_;refine Il e m λe m=>?_;simp[e];refine dX m (ot T a) λ_ m=>?_;refine Il e m λe m=>?_;simp[e];refine dX m (EB T a) λ_ m=>?_;exact au
def pk:C2 prog 194 eC cQ.av cQ.av (sL Ty.av):=by
 refine v2 func194 λT H a0 a1 r m e=>?_;rw[eC] at m;simp[e];refine dX m l5 λ_ m=>?_;exact au
def r8:C3 prog 195 ja Fm.av sI Ty.av Fm.av:=by
 refine v3 func195 λT H a0 a1 a2 r m e=>?_;rw[ja] at m;have e:=Aj e (show AV.agg [sI a0,sI a1.acS,sL Ty.av a1.acT,AV.slice .hY [],AV.slice .hY [Fm.av a2]]=Fm.av (Fm.mk a0 a1 [] [a2]) by rw[Fm.eT];rfl);exact au
def n5:C2 prog 196 eg (λn=>AV.sc (Value.int .u32 n)) (λn=>AV.sc (Value.int .u32 n)) sI:=by
 intro T H a0 a1 r hm;rw[eg] at hm;have e:=trivial;refine wi acX func196 [] [] 999 ?_;have⟨e,m⟩:=Ck e hm;exact au
def EF(T:dx){H:cW}{a0 a1 a b:Int}{q0:Nat}(c:H[q0]?=some [AV.sc (.int .u32 a)])(hm:mX a0 a1 a=some b):du prog T 244 [sI a0,sI a1,AV.dM q0 0] H (AV.tuple []) (dH H q0 [AV.sc (.int .u32 b)]):=by
 rw[mX] at hm;have d:=eB c;refine dL.Je c ?_;have e:=d;refine wi acX func244 [] [(1,false,[false,true,true,true,true,true,false])] 999 ?_;refine Im e hm λe m=>?_;have⟨e,m⟩:=Ck e m;exact au
def vT(T:dx){H:cW}{a0:Tm}{a:Int}(hm:jj a0=some a):du prog T 198 [Tm.av a0] H (AV.sc (.int .u32 a)) H:=by
 rw[jj] at hm;refine dL.tJ (Post:=λx K=>x=AV.sc (.int .u32 a)/\∃X,K=H++X) ?_ (λ_ _ h=>⟨_,h.2.choose_spec,by rw[h.1];simp[AV.low,AV.gA],h.1,rfl⟩);have e:=trivial;refine wi acX func198 [3] [] 999 ?_;simp[e];refine dX hm (yD T (st:=λs:Int=>H++[[AV.sc (.int .u32 s)]]) (Bo.R4 H (λs:Int=>[[AV.sc (.int .u32 s)]]) 1 (λ_=>rfl) (by simp[AV.low,AV.gA])) (λX s _ _ b h=>by have:=EF T (H:=H++[[AV.sc (.int .u32 s)]]++X) (q0:=(List.length H)) aa8 h;simpa using this)) λ_ m=>?_;exact au
def qd:C2 prog 199 gj sB cM.av Ty.av:=by
 refine v2 func199 λT H a0 a1 r m e=>?_;rw[gj] at m;simp[e];refine dT m ry λ_ m=>?_;simp[e];refine dT m qc λ_ m=>?_;exact au
def Gg(T:dx){H:cW}{a0 a1 a b c:Int}{q0 q1:Nat}(d:H[q0]?=some [sI a])(f:H[q1]?=some [sI b])(h:q0≠q1)(hm:nX a0 a1 a b=some c):du prog T 296 [sI a0,sI a1,AV.dM q0 0,AV.dM q1 0] H (AV.tuple []) (dH H q1 [sI c]):=by
 rw[nX] at hm;have i:=eB d;have j:=eB f;refine dL.Je f ?_;have e:=Aj (Aj (Aj (Aj i d) j) h) h.symm;refine wi acX func296 [] [] 999 ?_;refine Il e hm λe m=>?_;exact au
def BP(T:dx){H:cW}{a0:Tm}{a1 a:Int}(hm:sA a0 a1=some a):du prog T 277 [Tm.av a0,sI a1] H (sI a) H:=by
 rw[sA] at hm;refine dL.tJ (Post:=λx K=>x=sI a/\∃X,K=H++X) ?_ (λ_ _ h=>⟨_,h.2.choose_spec,by rw[h.1];simp[AV.low,AV.gA],h.1,rfl⟩);have e:=trivial;refine wi acX func277 [3,5] [] 999 ?_;simp[e];refine dX hm (yD T (st:=λs:Int=>H++[[sI a1],[sI s]]) (Bo.R4 H (λs:Int=>[[sI a1],[sI s]]) 2 (λ_=>rfl) (by simp[AV.low,AV.gA])) (λX s _ _ b h=>by have:=Gg T (H:=H++[[sI a1],[sI s]]++X) (q0:=(List.length H)) (q1:=(List.length H+1)) aa8 aa8 aa8 h;simpa using this)) λ_ m=>?_;exact au
def yq(T:dx){H:cW}{a0:Tm}{a1 a b c:Int}{q0 q1:Nat}(d:H[q0]?=some [sI a])(f:H[q1]?=some [sI b])(h:q0≠q1)(hm:iG a0 a1 a b=some c):du prog T 276 [Tm.av a0,sI a1,AV.dM q0 0,AV.dM q1 0] H (AV.tuple []) (dH H q0 [sI c]):=by
 rw[iG] at hm;have i:=eB d;have j:=eB f;refine dL.Je d ?_;have e:=Aj (Aj (Aj (Aj i j) f) h) h.symm;refine wi acX func276 [] [(1,true,[true,true,true,true,true,true,true,false])] 999 ?_;simp[e];refine dT hm (BP T) λ_ m=>?_;exact au
def DJ(T:dx):∀(n:Nat),(∀{S:Type} {st:S->cW} {k:Nat} {a0:Fm} {a1:Int} {a2:(S->Tm->Int->Option (S))} {c:S} {b:S} {g2:Nat} {a:List AV} (hF:Bo st k) (d:CI T g2 a st a2) (hm:ly n a0 a1 a2 c=some b),du prog T 275 [Fm.av a0,sI a1,AV.func (.func g2) [] a] (st c) (AV.tuple []) (st b)):=by
  intro n
  induction n with
  |zero=>
    skip
    all_goals(intro _ _;intros;rename_i hm;cases hm)
  |succ n q=>
 intro S st k a0 a1 a2 c b g2 a hF d hm;rw[ly] at hm;have e:=hF.len;refine wi acX func275 [] [] 999 ?_;simp[e];refine Ap e hm 0 (λo s2 f h=>h=st s2/\f.1 1=sI a1/\f.1 2=AV.func (.func g2) [] a/\f.1 11=sL Tm.av a0.c9/\f.1 12=sI (di a0.c9)/\f.1 13=sI o/\bx f 3 (Fm.av a0).cells) aa8 (λo _ s2 _ _ _ _ _ E e m z p=>?_) (λs2 _ _ _ E m=>?_)
 ·have e:=Aj e E;apply wg 999;have⟨r,e,m⟩:=ee e m;simp[e];refine h9.Uf abq (CI.XF d e.2) ?_;exact al
 have e:=Aj e E;apply wg 5;dsimp only[cU]at m;simp[e];refine Wj m 999 999 (λj f h=>∃v12,(h=st s2/\f.1 1=sI v12/\f.1 2=AV.func (.func g2) [] a/\f.1 3=AV.fC 3 (f.gen 3) 0/\f.box 3=some (Fm.av a0).cells)/\j v12=some b) (λj _ g m=>?_) ?_
 ·simp[e];refine dX m vr λ_ m=>?_;apply Ir e m<;>intro e m
  ·exact iC
  exact iC
 rintro _ _ ⟨v12,E,m⟩;have e:=Aj e E;simp[e];refine Wr e m 999 (λl i f h=>h=st i/\f.1 1=sI v12/\f.1 2=AV.func (.func g2) [] a/\f.1 28=sL Fm.av a0.acT/\f.1 29=sI (di a0.acT)/\f.1 30=sI l) aa8 (λi _ _ _ E m=>?_) (λl _ i _ _ _ _ _ E e m z p=>?_)
 ·have e:=Aj e E;dsimp only[cU]at m;exact au
 have e:=Aj e E;simp[e];refine dX m (q hF d) λ_ m=>?_;exact al
def EJ(T:dx){S:Type}{st:S->cW}{k:Nat}{a0:Fm}{a1:Int}{a2:(S->Tm->Int->Option (S))}{b c:S}{g2:Nat}{a:List AV}(hF:Bo st k)(d:CI T g2 a st a2){n:Nat}(hm:ly n a0 a1 a2 b=some c):du prog T 275 [Fm.av a0,sI a1,AV.func (.func g2) [] a] (st b) (AV.tuple []) (st c):=(DJ T n) hF d hm
def qg(T:dx){H:cW}{a0:Fm}{a1 a:Int}(hm:jH a0 a1=some a):du prog T 246 [Fm.av a0,sI a1] H (sI a) H:=by
 rw[jH] at hm;refine dL.tJ (Post:=λx K=>x=sI a/\∃X,K=H++X) ?_ (λ_ _ h=>⟨_,h.2.choose_spec,by rw[h.1];simp[AV.low,AV.gA],h.1,rfl⟩);have e:=trivial;refine wi acX func246 [3,5] [] 999 ?_;simp[e];refine dX hm (EJ T (st:=λs:Int=>H++[[sI a1],[sI s]]) (Bo.R4 H (λs:Int=>[[sI a1],[sI s]]) 2 (λ_=>rfl) (by simp[AV.low,AV.gA])) (λX s _ _ b h=>by have:=yq T (H:=H++[[sI a1],[sI s]]++X) (q0:=(List.length H+1)) (q1:=(List.length H)) aa8 aa8 aa8 h;simpa using this)) λ_ m=>?_;exact au
def Jp(T:dx){H:cW}{a0 a1 b:Int}{a i:Tm}{q0 q1:Nat}(c:H[q0]?=some [sI b])(d:H[q1]?=some [sI a.acS,sI a.acV,sI a.cP.acS,sL Ty.av a.cP.acT,sL Tm.av a.acT])(hm:oa a0 a1 b a=some i):du prog T 297 [sI a0,sI a1,AV.dM q0 0,AV.dM q1 0] H (Tm.av i) H:=by
 rw[oa] at hm;have f:=eB c;have h:=eB d;have e:=Aj (Aj (Aj f c) h) d;refine wi acX func297 [] [] 999 ?_;apply Iq e hm<;>intro e m
 ·simp[e];refine dX m (DV T) λ_ m=>?_;exact au
 apply Iq e m<;>intro e m
 ·simp[e];refine dX m jF λ_ m=>?_;exact au
 simp[e];refine dX m jF λ_ m=>?_;exact au
def Od(T:dx){H:cW}{a0:Tm}{a1:Int}{a2 a:Tm}(hm:zd a0 a1 a2=some a):du prog T 279 [Tm.av a0,sI a1,Tm.av a2] H (Tm.av a) H:=by
 rw[zd] at hm;refine dL.tJ (Post:=λx K=>x=Tm.av a/\∃X,K=H++X) ?_ (λ_ _ h=>⟨_,h.2.choose_spec,by rw[h.1];simp[AV.low,AV.gA],h.1,rfl⟩);have e:=trivial;refine wi acX func279 [4,5] [] 999 ?_;simp[e];refine g_ hm (yS T (st:=λ_:Unit=>H++[[sI a1],[sI a2.acS,sI a2.acV,sI a2.cP.acS,sL Ty.av a2.cP.acT,sL Tm.av a2.acT]]) (Bo.const _) (λX _ _ _ _ _ h=>by obtain⟨b,rfl⟩:=uH h;exact Jp T (q0:=(List.length H)) (q1:=(List.length H+1)) aa8 aa8 b)) λ_ _ m=>?_;exact au
def An(T:dx){H:cW}{a0:Tm}{a1 b:Int}{a i:Tm}{q0 q1:Nat}(c:H[q0]?=some [sI b])(d:H[q1]?=some [sI a.acS,sI a.acV,sI a.cP.acS,sL Ty.av a.cP.acT,sL Tm.av a.acT])(hm:hO a0 a1 b a=some i):du prog T 278 [Tm.av a0,sI a1,AV.dM q0 0,AV.dM q1 0] H (Tm.av i) H:=by
 rw[hO] at hm;have f:=eB c;have h:=eB d;have e:=Aj (Aj (Aj f c) h) d;refine wi acX func278 [] [] 999 ?_;simp[e];refine dX hm (Od T) λ_ m=>?_;exact au
def rB(T:dx){H:cW}{a0:Fm}{a1:Int}{a2:Tm}{a:Fm}(hm:jU a0 a1 a2=some a):du prog T 247 [Fm.av a0,sI a1,Tm.av a2] H (Fm.av a) H:=by
 rw[jU] at hm;refine dL.tJ (Post:=λx K=>x=Fm.av a/\∃X,K=H++X) ?_ (λ_ _ h=>⟨_,h.2.choose_spec,by rw[h.1];simp[AV.low,AV.gA],h.1,rfl⟩);have e:=trivial;refine wi acX func247 [4,5] [] 999 ?_;simp[e];refine g_ hm (l0 T (st:=λ_:Unit=>H++[[sI a1],[sI a2.acS,sI a2.acV,sI a2.cP.acS,sL Ty.av a2.cP.acT,sL Tm.av a2.acT]]) (Bo.const _) (λX _ _ _ _ _ h=>by obtain⟨b,rfl⟩:=uH h;exact An T (q0:=(List.length H)) (q1:=(List.length H+1)) aa8 aa8 b)) λ_ _ m=>?_;exact au
def rE(T:dx)(a:pE T){H:cW}{a0:Fm}{a1:Tm}{b:Fm}{c:Int}(hm:gZ a0 a1=some (b,c)):du prog T 200 [Fm.av a0,Tm.av a1] H (AV.tuple [Fm.av b,sI c]) H:=by
 rw[gZ] at hm;have e:=a;refine wi acX func200 [] [] 999 ?_;simp[e];refine g_ hm (qe T a) λ_ _ m=>?_;simp[e];refine g_ m (sm T a) λ_ _ m=>?_;simp[e];refine dX m (qg T) λ_ m=>?_;refine Il e m λe m=>?_;simp[e];refine dX m (rB T) λ_ m=>?_;exact au
def xB:C1 prog 201 pt (λn=>AV.sc (Value.int .u32 n)) Tm.av:=by
 intro T H a0 r hm;rw[pt] at hm;have e:=trivial;refine wi acX func201 [] [] 999 ?_;cases hm;simp[e]
def A5(T:dx)(f:pE T){H:cW}{a0:Tm}{a1 a:Int}{h:Tm}{b:Int}{q0:Nat}(c:H[q0]?=some [sI a])(hm:jg a0 a1 a=some (h,b)):du prog T 248 [Tm.av a0,sI a1,AV.dM q0 0] H (Tm.av h) (dH H q0 [sI b]):=by
 rw[jg] at hm;have d:=eB c;refine dL.Je c ?_;have e:=Aj f d;refine wi acX func248 [] [] 999 ?_;refine Il e hm λe m=>?_;simp[e];refine MI m (tD T f) λ_ _ _ m=>?_;exact au
def Di(T:dx)(c:pE T){H:cW}{a0 a:Fm}{b:Int}(hm:lV a0=some (a,b)):du prog T 203 [Fm.av a0] H (AV.tuple [Fm.av a,sI b]) H:=by
 rw[lV] at hm;refine dL.tJ (Post:=λx K=>x=AV.tuple [Fm.av a,sI b]/\∃X,K=H++X) ?_ (λ_ _ h=>⟨_,h.2.choose_spec,by rw[h.1];simp[AV.low,AV.gA],h.1,rfl⟩);have e:=c;refine wi acX func203 [4] [(6,true,[])] 999 ?_;simp[e];refine dX hm (qg T) λ_ m=>?_;apply Iq e m<;>intro e m
 ·simp[e];refine dX m (rB T) λ_ m=>?_;exact au
 simp[e];refine g_ m (l0 T (st:=λs:Int=>H++[[sI s]]) (Bo.R4 H (λs:Int=>[[sI s]]) 1 (λ_=>rfl) (by simp[AV.low,AV.gA])) (λX s _ _ _ d h=>by have:=A5 T c (H:=H++[[sI s]]++X) (q0:=(List.length H)) aa8 h;simpa using this)) λ_ _ m=>?_;refine Il e m λe m=>?_;simp[e];refine dX m (qg T) λ_ m=>?_;refine Il e m λe m=>?_;simp[e];refine dX m (rB T) λ_ m=>?_;exact au
def q3:C2 prog 250 qJ Tm.av sI (sL Tm.av):=by
 refine v2 func250 λT H a0 a1 r m e=>?_;rw[qJ] at m;exact au
def yQ:C1 prog 204 qL dE.av sI:=by
 refine v1 func204 λT H a0 r m e=>?_;rw[qL] at m;apply Iq e m<;>intro e m
 ·simp[e];refine dX m q3 λb m=>?_;simp[e];refine dX m lW λf m=>?_;simp[e];refine dX m jF λ_ m=>?_;simp[e];refine dX m q3 λc m=>?_;have e:=Aj e (show AV.agg [sI 1,sI b.acS,sI b.acV,sI b.cP.acS,sL Ty.av b.cP.acT,sL Tm.av b.acT,AV.slice .hY [Ty.av f],sI c.acS,sI c.acV,sI c.cP.acS,sL Ty.av c.cP.acT,sL Tm.av c.acT]=dE.av (dE.mk 1 b [f] c) by rw[dE.eT];rfl);exact au
 simp[e];refine dX m q3 λd m=>?_;simp[e];refine dX m lW λh m=>?_;simp[e];refine dX m Eg λi m=>?_;simp[e];refine dX m jF λ_ m=>?_;simp[e];refine dX m jF λ_ m=>?_;simp[e];refine dX m q3 λa m=>?_;have e:=Aj e (show AV.agg [sI 2,sI d.acS,sI d.acV,sI d.cP.acS,sL Ty.av d.cP.acT,sL Tm.av d.acT,AV.slice .hY [Ty.av h,Ty.av i],sI a.acS,sI a.acV,sI a.cP.acS,sL Ty.av a.cP.acT,sL Tm.av a.acT]=dE.av (dE.mk 2 d [h,i] a) by rw[dE.eT];rfl);exact au
def x_:C2 prog 207 qz Fm.av Tm.av Tm.av:=by
 refine v2 func207 λT H a0 a1 r m e=>?_;rw[qz] at m;have e:=Aj e (show AV.agg [sI 1,sI 0,AV.slice .hY [],AV.slice .hY [Tm.av a0,Tm.av a1],AV.slice .hY []]=Fm.av (Fm.mk 1 (Ty.mk 0 []) [a0,a1] []) by rw[Fm.eT];rfl);exact au
def yr(T:dx){H:cW}{a0:List Fm}{a1:Pf}{a2:cQ}{b:cL}{c:Int}{d:Nat}(a:KC H d a0)(hm:m7 a0 a1 a2=some (b,c)):du prog T 150 [AV.dM d 0,Pf.av a1,cQ.av a2] H (AV.tuple [cL.av b,sI c]) H:=by
 rw[m7] at hm;have e:=a;refine wi acX func150 [] [] 999 ?_;have⟨f,e,m⟩:=ee e hm;simp[e];refine dX m q8 λ_ m=>?_;refine Il e m λe m=>?_;simp[e];refine dX m x_ λ_ m=>?_;exact au
def AW:C2 prog 210 rU Tm.av Tm.av (sL Tm.av):=by
 refine v2 func210 λT H a0 a1 r m e=>?_;rw[rU] at m;simp[e];refine Wr e m 999 (λc s2 f h=>h=H/\f.1 7=sL Tm.av a1/\f.1 8=sI (di a1)/\f.1 9=sI c/\bx f 2 [sI s2.1,sI s2.2.1,sI s2.2.2.1,sL Ty.av s2.2.2.2.1,sL Tm.av s2.2.2.2.2]/\bx f 4 [sI 0,sI 0,sI 0,nL,nL]) aa8 (λs2 _ _ _ E m=>?_) (λc _ s2 _ _ _ _ _ E e m z p=>?_)
 ·have⟨v10,v11,v12,a,b⟩:=s2;have e:=Aj e E;dsimp only[cU,GU]at m;exact au
 have⟨v10,v11,v12,a,b⟩:=s2;have e:=Aj e E;dsimp only[GU]at m;simp[e];refine dX m q3 λ_ m=>?_;exact al
def Ha:C1 prog 304 tg (t2 sI sI) sB:=by
 refine v1 func304 λT H a0 r m e=>?_;rw[tg] at m;refine Il e m λe m=>?_;exact au
def Bb:C2 prog 319 uA Tm.av Tm.av (sL Ty.av):=by
 refine v2 func319 λT H a0 a1 r m e=>?_;rw[uA] at m;simp[e];refine Wn m 999 (λs1 f h=>∃a,h=H/\f.1 1=sL Ty.av a1/\f.1 5=sI s1.1/\bx f 2 [sI s1.2.1,sI s1.2.2.1,sI s1.2.2.2.1,sL Ty.av s1.2.2.2.2.1,sT a Tm.av s1.2.2.2.2.2]/\bx f 4 [sI 0,sI 0,sI 0,nL,nL]) ⟨.hY,aa8⟩ (λs1 _ _ _ _ _ E m z p=>?_);have⟨d,v9,v10,v11,v12,b⟩:=s1;have⟨a,E⟩:=E;have e:=Aj e E;dsimp only[y9]at m;apply Ir e m<;>intro e m
 ·cases m;have m:=Qb z;dsimp only[y9]at m;exact au
 have⟨c,e,m⟩:=ee e m;simp[e];cases m;exact p _ _ _ ⟨.full,aa8⟩ z
def Nk:C5 prog 320 yL Tm.av sI Ty.av Tm.av Tm.av Tm.av:=by
 refine v5 func320 λT H a0 a1 a2 a3 a4 r m e=>?_;rw[yL] at m;have e:=Aj e (show AV.agg [sI a0,sI 0,sI a1.acS,sL Ty.av a1.acT,AV.slice .hY [Tm.av a2,Tm.av a3,Tm.av a4]]=Tm.av (Tm.mk a0 0 a1 [a2,a3,a4]) by rw[Tm.eT];rfl);exact au
def vA:C3 prog 315 mj Tm.av Tm.av Tm.av Tm.av:=by
 refine v3 func315 λT H a0 a1 a2 r m e=>?_;rw[mj] at m;simp[e];refine dT m lW λ_ m=>?_;simp[e];refine dT m lW λ_ m=>?_;simp[e];refine dT m lW λ_ m=>?_;simp[e];refine dT m Bb λ_ m=>?_;simp[e];refine dT m Nk λ_ m=>?_;exact au
def Jw:C0 prog 316 uv Tm.av:=by
 refine v0 func316 λT H r m e=>?_;rw[uv] at m;simp[e];refine dX m q3 λ_ m=>?_;simp[e];refine dX m jF λ_ m=>?_;simp[e];refine dX m jF λ_ m=>?_;simp[e];refine dX m vA λ_ m=>?_;simp[e];refine dX m lW λ_ m=>?_;simp[e];refine dX m Bb λ_ m=>?_;exact au
def Lm:C1 prog 314 zC Tm.av Tm.av:=by
 refine v1 func314 λT H a0 r m e=>?_;rw[zC] at m;simp[e];refine dT m lW λ_ m=>?_;simp[e];refine dT m lW λ_ m=>?_;simp[e];refine dT m Bb λ_ m=>?_;exact au
def L6:C0 prog 310 xc Tm.av:=by
 refine v0 func310 λT H r m e=>?_;rw[xc] at m;simp[e];refine dX m jF λ_ m=>?_;simp[e];refine dX m Jw λ_ m=>?_;simp[e];refine dX m jF λ_ m=>?_;simp[e];refine dX m AW λ_ m=>?_;simp[e];refine dX m jF λ_ m=>?_;simp[e];refine dX m vA λ_ m=>?_;simp[e];refine dX m Lm λ_ m=>?_;exact au
def JH:C2 prog 306 uM Fm.av Tm.av Tm.av:=by
 refine v2 func306 λT H a0 a1 r m e=>?_;rw[uM] at m;simp[e];refine dT m L6 λ_ m=>?_;simp[e];refine dT m q3 λ_ m=>?_;simp[e];refine dT m AW λ_ m=>?_;simp[e];refine dT m q3 λ_ m=>?_;simp[e];refine dT m x_ λ_ m=>?_;exact au
def A7{n:Nat}:C2 prog 305 (j4 n) sB Fm.av Fm.av:=by
 refine i2 λn d=>u2 3 func305 λT H a0 a1 r m e=>?_;rw[j4] at m;simp[e];refine Wj m 999 999 (λb f h=>∃v2,(h=H/\f.1 39=sB v2/\bx f 2 (Fm.av a0).cells/\bx f 3 (Fm.av a1).cells)/\b v2=some r) (λb _ g m=>?_) ?_
 ·apply Iq e m<;>intro e m
  ·exact iC
  simp[e];refine dX m oy λ_ m=>?_;apply Ir e m<;>intro e m
  ·exact iC
  apply Iq e m<;>intro e m
  ·exact iC
  exact iC
 rintro _ _ ⟨v2,E,m⟩;have e:=Aj e E;refine Il e m λe m=>?_;simp[e];refine Ap e m 999 (λc _ f h=>h=H/\f.1 41=sL Tm.av a0.c9/\f.1 42=sI (di a0.c9)/\f.1 43=sI c/\bx f 2 (Fm.av a0).cells/\bx f 3 (Fm.av a1).cells) aa8 (λc _ _ _ _ _ _ _ E e m z p=>?_) (λ_ _ _ _ E m=>?_)
 ·have e:=Aj e E;have⟨i,e,m⟩:=ee e m;simp[e];refine dT m yc λ_ m=>?_;refine Im e m λe m=>?_;exact al
 have e:=Aj e E;dsimp only[cU]at m;simp[e];refine Wr e m 999 (λa _ f h=>h=H/\f.1 58=sL Fm.av a0.acT/\f.1 59=sI (di a0.acT)/\f.1 60=sI a/\bx f 3 (Fm.av a1).cells) aa8 (λ_ _ _ _ E m=>?_) (λa _ _ _ _ _ _ _ E e m z p=>?_)
 ·have e:=Aj e E;dsimp only[cU]at m;exact au
 have e:=Aj e E;have⟨j,e,m⟩:=ee e m;simp[e];refine dT m d λ_ m=>?_;refine Im e m λe m=>?_;exact al
def Hc(T:dx){H:cW}{a0:Fm}{c:Bool}{d:Tm}{i:Fm}{j:Bool}(hm:tn a0=some (c,d,i,j)):du prog T 287 [Fm.av a0] H (AV.tuple [sB c,Tm.av d,Fm.av i,sB j]) H:=by
 rw[tn] at hm;have e:=trivial;refine wi acX func287 [] [] 7 ?_;simp[e];refine g_ hm Ha λ_ _ m=>?_;simp[e];refine Wj m 999 0 (λl f h=>∃v4,(h=H/\f.1 6=sB (dg a0.acS 4)/\f.1 48=sB v4/\bx f 1 (Fm.av a0).cells/\bx f 3 [sI 0,sI 0,sI 0,nL,nL]/\bx f 4 [sI 0,sI 0,nL,nL,nL])/\l v4=some (c,d,i,j)) (λl _ g m=>?_) ?_
 ·apply Iq e m<;>intro e m
  ·exact iC
  apply Iq e m<;>intro e m
  ·exact iC
  have⟨t,e,m⟩:=ee e m;apply Iq e m<;>intro e m
  ·exact iC
  have⟨u,e,m⟩:=ee e m;exact iC
 rintro _ _ ⟨v4,E,m⟩;have e:=Aj e E;apply Iq e m<;>intro e m
 ·apply wg 999;exact au
 apply wg 7;have⟨n,e,m⟩:=ee e m;have⟨o,e,m⟩:=ee e m;have⟨k,e,m⟩:=ee e m;simp[e];refine wm m 999 999 (λb f h=>∃a,(h=H/\f.1 6=sB (dg a0.acS 4)/\f.1 83=sB a/\bx f 1 (Fm.av a0).cells/\bx f 3 [sI 0,sI 0,sI 0,nL,nL]/\bx f 4 [sI 0,sI 0,nL,nL,nL]/\bx f 10 (Tm.av k).cells)/\b a=some (c,d,i,j)) ?_ (λb _ g m=>?_)
 ·rintro _ _ ⟨a,E,m⟩;have e:=Aj e E;refine Il e m λe m=>?_;have⟨q,e,m⟩:=ee e m;have⟨r,e,m⟩:=ee e m;exact au
 apply Iq e m<;>intro e m
 ·exact iC
 have⟨s,e,m⟩:=ee e m;simp[e];refine dT m (BP T) λ_ m=>?_;apply Iq e m<;>intro e m
 ·exact iC
 simp[e];refine dT m jF λ_ m=>?_;simp[e];refine dT m JH λ_ m=>?_;simp[e];refine dT m A7 λ_ m=>?_;exact iC
def Mw:∀(n:Nat),C1 prog 255 (ml n) (λn=>AV.sc (Value.int .u8 n)) Fm.av:=by
  intro n
  induction n with
  |zero=>
    skip
    all_goals(intro _ _;intros;rename_i hm;cases hm)
  |succ n c=>
 intro T H a0 r hm;rw[ml] at hm;have e:=trivial;refine wi acX func255 [] [] 5 ?_;simp[e];apply Iq e hm<;>intro e m
 ·apply wg 999;exact au
 apply wg 4;have⟨s,e,m⟩:=ee e m;simp[e];refine dX m c λb m=>?_;simp[e];refine wm m 3 2 (λd f h=>∃v4,(h=H/\f.1 3=AV.sc (.int .u8 v4)/\bx f 1 (Fm.av a0).cells)/\d v4=some r) ?_ (λd _ g m=>?_)
 ·rintro _ _ ⟨v4,E,m⟩;have e:=Aj e E;simp[e];refine wm m 999 999 (λi f h=>∃v9,(h=H/\f.1 6=AV.sc (.int .u8 v9))/\i v9=some r) ?_ (λi _ g m=>?_)
  ·rintro _ _ ⟨v9,E,m⟩;have e:=Aj e E;exact au
  have⟨j,k,l,o,e,m⟩:=Bo4 e m;simp[e];refine Cf (Hc T e.2) ?_;apply Ir e m<;>intro e m
  ·exact iC
  simp[e];refine dX m c λ_ m=>?_;exact iC
 simp[e];refine wj 999 0 (λf h=>h=H/\f.1 3=AV.sc (.int .u8 b)/\f.1 24=sI a0.acS/\f.1 25=sB (eu (dg a0.acS 2) true (dg a0.acS 3))/\bx f 1 (Fm.av a0).cells) (λ_ g=>?_) ?_
 ·rcases Pb (dg a0.acS 2) e with e|e
  ·exact aj
  exact aj
 rintro _ _ E;have e:=Aj e E;apply Ir e m<;>intro e m
 ·apply wg 999;apply Ir e m<;>intro e m
  ·exact iC
  exact iC
 apply wg 5;have⟨q,e,m⟩:=ee e m;simp[e];refine dX m c λa m=>?_;simp[e];refine Ke 2 999 (λf h=>h=H/\f.1 3=AV.sc (.int .u8 (eu (dg a0.acS 2) (x0 .u8 b a) b))/\f.1 5=AV.sc (.int .u8 (qP .u8 (qP .u8 a b) 6))) ?_ (λ_ g=>?_)
 ·rintro _ _ E;have e:=Aj e E;exact au
 simp[e];rcases Pb (dg a0.acS 2) e with e|e
 ·apply wg 999;exact aj
 apply wg 999;exact aj
def Nj{n:Nat}:C1 prog 255 (ml n) (λn=>AV.sc (Value.int .u8 n)) Fm.av:=(Mw n)
def Me(T:dx)(a:pE T){H:cW}{a0:Fm}{a1:Int}{b:Bool}{c:Int}(hm:zO a0 a1=some (b,c)):du prog T 212 [Fm.av a0,AV.sc (.int .u8 a1)] H (AV.tuple [sB b,sI c]) H:=by
 rw[zO] at hm;have e:=a;refine wi acX func212 [] [] 999 ?_;simp[e];refine dX hm (ot T a) λ_ m=>?_;refine Il e m λe m=>?_;simp[e];refine dX m Nj λ_ m=>?_;exact au
def EA(T:dx)(a:pE T){H:cW}{a0:Fm}{b:Bool}{c:Int}(hm:oz a0=some (b,c)):du prog T 153 [Fm.av a0] H (AV.tuple [sB b,sI c]) H:=by
 rw[oz] at hm;have e:=a;refine wi acX func153 [] [] 999 ?_;simp[e];refine g_ hm (Me T a) λ_ _ m=>?_;exact au
def wP(T:dx)(l:pE T):∀(n:Nat),(∀{H:cW} {a0:List Fm} {a1:Pf} {a2:cQ} {c:cL} {d:Int} {i:Nat} (a:KC H i a0) (hm:dC n a0 a1 a2=some (c,d)),du prog T 81 [AV.dM i 0,Pf.av a1,cQ.av a2] H (AV.tuple [cL.av c,sI d]) H)/\(∀{H:cW} {a0:List Fm} {a1:Pf} {a2:cQ} {c:cL} {d:Int} {i:Nat} (a:KC H i a0) (hm:jN n a0 a1 a2=some (c,d)),du prog T 141 [AV.dM i 0,Pf.av a1,cQ.av a2] H (AV.tuple [cL.av c,sI d]) H)/\(∀{H:cW} {a0:List Fm} {a1:Pf} {a2:cQ} {c:cL} {d:Int} {i:Nat} (a:KC H i a0) (hm:gq n a0 a1 a2=some (c,d)),du prog T 142 [AV.dM i 0,Pf.av a1,cQ.av a2] H (AV.tuple [cL.av c,sI d]) H)/\(∀{H:cW} {a0:List Fm} {a1:Pf} {a2:cQ} {c:cL} {d:Int} {i:Nat} (a:KC H i a0) (hm:jP n a0 a1 a2=some (c,d)),du prog T 143 [AV.dM i 0,Pf.av a1,cQ.av a2] H (AV.tuple [cL.av c,sI d]) H)/\(∀{H:cW} {a0:List Fm} {a1:Pf} {a2:cQ} {c:cL} {d:Int} {i:Nat} (a:KC H i a0) (hm:jM n a0 a1 a2=some (c,d)),du prog T 144 [AV.dM i 0,Pf.av a1,cQ.av a2] H (AV.tuple [cL.av c,sI d]) H)/\(∀{H:cW} {a0:List Fm} {a1:Pf} {a2:cQ} {c:cL} {d:Int} {i:Nat} (a:KC H i a0) (hm:fW n a0 a1 a2=some (c,d)),du prog T 145 [AV.dM i 0,Pf.av a1,cQ.av a2] H (AV.tuple [cL.av c,sI d]) H)/\(∀{H:cW} {a0:List Fm} {a1:Pf} {a2:cQ} {c:cL} {d:Int} {i:Nat} (a:KC H i a0) (hm:fY n a0 a1 a2=some (c,d)),du prog T 146 [AV.dM i 0,Pf.av a1,cQ.av a2] H (AV.tuple [cL.av c,sI d]) H)/\(∀{H:cW} {a0:List Fm} {a1:Pf} {a2:cQ} {c:cL} {d:Int} {i:Nat} (a:KC H i a0) (hm:gm n a0 a1 a2=some (c,d)),du prog T 147 [AV.dM i 0,Pf.av a1,cQ.av a2] H (AV.tuple [cL.av c,sI d]) H)/\(∀{H:cW} {a0:List Fm} {a1:Pf} {a2:cQ} {c:cL} {d:Int} {i:Nat} (a:KC H i a0) (hm:gn n a0 a1 a2=some (c,d)),du prog T 148 [AV.dM i 0,Pf.av a1,cQ.av a2] H (AV.tuple [cL.av c,sI d]) H)/\(∀{H:cW} {a0:List Fm} {a1:Pf} {a2:cQ} {c:cL} {d:Int} {i:Nat} (a:KC H i a0) (hm:j9 n a0 a1 a2=some (c,d)),du prog T 149 [AV.dM i 0,Pf.av a1,cQ.av a2] H (AV.tuple [cL.av c,sI d]) H)/\(∀{H:cW} {a0:List Fm} {a1:Pf} {a2:cQ} {c:cL} {d:Int} {i:Nat} (a:KC H i a0) (hm:jl n a0 a1 a2=some (c,d)),du prog T 151 [AV.dM i 0,Pf.av a1,cQ.av a2] H (AV.tuple [cL.av c,sI d]) H)/\(∀{H:cW} {a0:List Fm} {a1:Pf} {a2:cQ} {c:cL} {d:Int} {i:Nat} (a:KC H i a0) (hm:jZ n a0 a1 a2=some (c,d)),du prog T 152 [AV.dM i 0,Pf.av a1,cQ.av a2] H (AV.tuple [cL.av c,sI d]) H)/\(∀{H:cW} {a0:List Fm} {a1:Pf} {a2:cQ} {a3:Int} {c:cL} {d:Int} {i:Nat} (a:KC H i a0) (hm:dB n a0 a1 a2 a3=some (c,d)),du prog T 192 [AV.dM i 0,Pf.av a1,cQ.av a2,sI a3] H (AV.tuple [cL.av c,sI d]) H)/\(∀{H:cW} {a0:List Fm} {a1:Pf} {a2:cQ} {a3:Fm} {a4:Tm} {c:cL} {d:Int} {i:Nat} (a:KC H i a0) (hm:dD n a0 a1 a2 a3 a4=some (c,d)),du prog T 202 [AV.dM i 0,Pf.av a1,cQ.av a2,Fm.av a3,Tm.av a4] H (AV.tuple [cL.av c,sI d]) H):=by
  intro n
  induction n with
  |zero=>
    refine⟨?_,?_,?_,?_,?_,?_,?_,?_,?_,?_,?_,?_,?_,?_⟩
    all_goals(intro _ _;intros;rename_i hm;cases hm)
  |succ n j=>
 refine⟨?_,?_,?_,?_,?_,?_,?_,?_,?_,?_,?_,?_,?_,?_⟩
 ·intro H a0 a1 a2 c d i a hm;rw[dC] at hm;have e:=Aj l a;refine wi acX func81 [] [(1,true,[])] 7 ?_;have L:tT prog H 113 (AV.mU (i-1)) (sI a1.acS) false=some (JU a1.acS):=M' a.2;have e:=Aj e L;have⟨v,X,e,m⟩:=VB e hm;simp[e];refine jD.val (r:=AV.tuple [cL.av v,sI X]) (H':=H) ?_ aa4 ?_
  ·have b:=e.2;rcases wv (dg a1.acS 1=true)with hk|hk
   ·rw[cO hk] at b;rw[ia hk abq];exact nD (zm T a b)
   rw[cK hk] at b;rcases wv (dg a1.acS 2=true)with hk|hk
   ·rw[cO hk] at b;rw[ia hk abq];exact nD (xO T a b)
   rw[cK hk] at b;rcases wv (dg a1.acS 3=true)with hk|hk
   ·rw[cO hk] at b;rw[ia hk abq];exact nD (j.2.1 a b)
   rw[cK hk] at b;rcases wv (dg a1.acS 4=true)with hk|hk
   ·rw[cO hk] at b;rw[ia hk abq];exact nD (j.2.2.1 a b)
   rw[cK hk] at b;rcases wv (dg a1.acS 5=true)with hk|hk
   ·rw[cO hk] at b;rw[ia hk abq];exact nD (j.2.2.1 a b)
   rw[cK hk] at b;rcases wv (dg a1.acS 6=true)with hk|hk
   ·rw[cO hk] at b;rw[ia hk abq];exact nD (j.2.2.2.1 a b)
   rw[cK hk] at b;rcases wv (dg a1.acS 7=true)with hk|hk
   ·rw[cO hk] at b;rw[ia hk abq];exact nD (j.2.2.2.2.1 a b)
   rw[cK hk] at b;rcases wv (dg a1.acS 8=true)with hk|hk
   ·rw[cO hk] at b;rw[ia hk abq];exact nD (j.2.2.2.2.2.1 a b)
   rw[cK hk] at b;rcases wv (dg a1.acS 12=true)with hk|hk
   ·rw[cO hk] at b;rw[ia hk abq];exact nD (j.2.2.2.2.2.1 a b)
   rw[cK hk] at b;rcases wv (dg a1.acS 9=true)with hk|hk
   ·rw[cO hk] at b;rw[ia hk abq];exact nD (j.2.2.2.2.2.2.1 a b)
   rw[cK hk] at b;rcases wv (dg a1.acS 13=true)with hk|hk
   ·rw[cO hk] at b;rw[ia hk abq];exact nD (j.2.2.2.2.2.2.1 a b)
   rw[cK hk] at b;rcases wv (dg a1.acS 10=true)with hk|hk
   ·rw[cO hk] at b;rw[ia hk abq];exact nD (j.2.2.2.2.2.2.2.1 a b)
   rw[cK hk] at b;rcases wv (dg a1.acS 14=true)with hk|hk
   ·rw[cO hk] at b;rw[ia hk abq];exact nD (j.2.2.2.2.2.2.2.1 a b)
   rw[cK hk] at b;rcases wv (dg a1.acS 11=true)with hk|hk
   ·rw[cO hk] at b;rw[ia hk abq];exact nD (j.2.2.2.2.2.2.2.2.1 a b)
   rw[cK hk] at b;rcases wv (dg a1.acS 15=true)with hk|hk
   ·rw[cO hk] at b;rw[ia hk abq];exact nD (j.2.2.2.2.2.2.2.2.1 a b)
   rw[cK hk] at b;rcases wv (dg a1.acS 16=true)with hk|hk
   ·rw[cO hk] at b;rw[ia hk abq];exact nD (j.2.2.2.2.2.2.2.2.2.1 a b)
   rw[cK hk] at b;rcases wv (dg a1.acS 17=true)with hk|hk
   ·rw[cO hk] at b;rw[ia hk abq];exact nD (j.2.2.2.2.2.2.2.2.2.1 a b)
   rw[cK hk] at b;rcases wv (dg a1.acS 18=true)with hk|hk
   ·rw[cO hk] at b;rw[ia hk abq];exact nD (yr T a b)
   rw[cK hk] at b;rcases wv (dg a1.acS 19=true)with hk|hk
   ·rw[cO hk] at b;rw[ia hk abq];exact nD (j.2.2.2.2.2.2.2.2.2.2.1 a b)
   rw[cK hk] at b;rcases wv (dg a1.acS 20=true)with hk|hk
   ·rw[cO hk] at b;rw[ia hk abq];exact nD (j.2.2.2.2.2.2.2.2.2.2.2.1 a b)
   rw[cK hk] at b;cases b
  simp[e];apply Iq e m<;>intro e m
  ·apply wg 999;exact au
  apply wg 5;simp[e];refine dX m (ot T l) λw m=>?_;simp[e];apply Iq e m<;>intro e m
  ·apply wg 999;exact au
  apply wg 2;simp[e];refine wm m 999 999 (λV f h=>∃M,(h=H/\bx f 6 [sI 0,sI 0,nL,nL,nL,AV.sc (.int .u32 0)]/\bx f 8 [sI v.cR.acS,sI v.cR.cP.acS,sL Ty.av v.cR.cP.acT,sL Tm.av v.cR.c9,sL Fm.av v.cR.acT,AV.sc (.int .u32 M)])/\V M=some (c,d)) ?_ (λV _ g m=>?_)
  ·rintro _ _ ⟨M,E,m⟩;have e:=Aj e E;exact au
  simp[e];refine g_ m (EA T l) λ_ x m=>?_;apply Ir e m<;>intro e m
  ·exact iC
  exact iC
 ·intro H a0 a1 a2 c d i a hm;rw[jN] at hm;have e:=Aj l a;refine wi acX func141 [] [] 999 ?_;have⟨y,e,m⟩:=ee e hm;simp[e];refine kU m (j.1 a) λk w m=>?_;refine Il e m λe m=>?_;have⟨x,e,m⟩:=ee e m;simp[e];refine kU m (j.1 a) λ_ _ m=>?_;refine Il e m λe m=>?_;simp[e];refine dT m D1 λ_ m=>?_;exact au
 ·intro H a0 a1 a2 c d i a hm;rw[gq] at hm;have e:=Aj l a;refine wi acX func142 [] [] 7 ?_;have⟨y,e,m⟩:=ee e hm;simp[e];refine kU m (j.2.2.2.2.2.2.2.2.2.2.2.2.1 a) λk w m=>?_;simp[e];apply Iq e m<;>intro e m
  ·apply wg 999;exact au
  apply wg 4;simp[e];refine Ke 999 999 (λf h=>h=H/\f.1 10=sI (eu (dg a1.acS 5) 1 0)/\bx f 6 [sI 0,sI 0,nL,nL,nL,AV.sc (.int .u32 0)]/\bx f 8 [sI k.cR.acS,sI k.cR.cP.acS,sL Ty.av k.cR.cP.acT,sL Tm.av k.cR.c9,sL Fm.av k.cR.acT,AV.sc (.int .u32 k.fk)]) ?_ (λ_ g=>?_)
  ·rintro _ _ E;have e:=Aj e E;have⟨W,e,m⟩:=ee e m;exact au
  rcases Pb (dg a1.acS 5) e with e|e
  ·exact aj
  exact aj
 ·intro H a0 a1 a2 c d i a hm;rw[jP] at hm;have e:=Aj l a;refine wi acX func143 [] [] 999 ?_;have⟨A,e,m⟩:=ee e hm;simp[e];refine dX m gS λv m=>?_;refine Il e m λe m=>?_;simp[e];refine dX m mL λw m=>?_;refine Il e m λe m=>?_;have⟨N,e,m⟩:=ee e m;simp[e];refine dT m m_ λ_ m=>?_;simp[e];refine kU m (j.1 a) λ_ _ m=>?_;refine Il e m λe m=>?_;simp[e];refine dT m D1 λ_ m=>?_;exact au
 ·intro H a0 a1 a2 c d i a hm;rw[jM] at hm;have e:=Aj l a;refine wi acX func144 [] [] 999 ?_;have⟨y,e,m⟩:=ee e hm;simp[e];refine kU m (j.2.2.2.2.2.2.2.2.2.2.2.2.1 a) λk w m=>?_;refine Il e m λe m=>?_;have⟨x,e,m⟩:=ee e m;simp[e];refine kU m (j.1 a) λ_ _ m=>?_;refine Il e m λe m=>?_;have⟨O,e,m⟩:=ee e m;simp[e];refine dT m (tr T l) λ_ m=>?_;refine Il e m λe m=>?_;have⟨F,e,m⟩:=ee e m;exact au
 ·intro H a0 a1 a2 c d i a hm;rw[fW] at hm;have e:=Aj l a;refine wi acX func145 [] [] 7 ?_;simp[e];refine dX hm mL λ_ m=>?_;simp[e];apply Iq e m<;>intro e m
  ·apply wg 999;exact au
  apply wg 7;have⟨W,e,m⟩:=ee e m;simp[e];refine dT m pk λ_ m=>?_;simp[e];refine kU m (j.1 a) λt _ m=>?_;simp[e];apply Iq e m<;>intro e m
  ·apply wg 999;exact au
  apply wg 4;simp[e];refine Wj m 999 999 (λG f h=>∃B,(h=H/\f.1 11=sI B/\bx f 4 (Pf.av a1).cells/\bx f 6 [sI 0,sI 0,nL,nL,nL,AV.sc (.int .u32 0)]/\bx f 9 [sI t.cR.acS,sI t.cR.cP.acS,sL Ty.av t.cR.cP.acT,sL Tm.av t.cR.c9,sL Fm.av t.cR.acT,AV.sc (.int .u32 t.fk)])/\G B=some (c,d)) (λG _ g m=>?_) ?_
  ·apply Ir e m<;>intro e m
   ·exact iC
   refine Il e m λe m=>?_;exact iC
  rintro _ _ ⟨B,E,m⟩;have e:=Aj e E;simp[e];refine dT m r8 λ_ m=>?_;simp[e];refine dT m n5 λ_ m=>?_;exact au
 ·intro H a0 a1 a2 c d i a hm;rw[fY] at hm;have e:=Aj l a;refine wi acX func146 [] [] 9 ?_;have⟨A,e,m⟩:=ee e hm;simp[e];refine g_ m kE λC _ m=>?_;simp[e];apply Iq e m<;>intro e m
  ·apply wg 999;exact au
  apply wg 4;simp[e];refine dX m (vT T) λI m=>?_;simp[e];refine wj 999 999 (λf h=>h=H/\f.1 0=AV.dM i 0/\f.1 11=sI (eu (dg a1.acS 13) 6 4)/\f.1 12=AV.sc (.int .u32 (eu (dg a1.acS 13) 0 I))/\bx f 4 (Pf.av a1).cells/\bx f 5 [sI a2.eK.vars,sI a2.eK.acZ,sL cM.av a2.acW,sL cZ.av a2.known]/\bx f 6 [sI 0,sI 0,nL,nL,nL,AV.sc (.int .u32 0)]/\bx f 8 (Tm.av A).cells/\bx f 9 [sI C.cP.acS,sL Ty.av C.cP.acT,sI C.acU]) (λ_ g=>?_) ?_
  ·rcases Pb (dg a1.acS 13) e with e|e
   ·exact aj
   exact aj
  rintro _ _ E;have e:=Aj e E;have⟨Y,e,m⟩:=ee e m;simp[e];refine kU m (j.2.2.2.2.2.2.2.2.2.2.2.2.1 a) λ_ x m=>?_;refine Il e m λe m=>?_;simp[e];refine dX m qd λ_ m=>?_;refine Im e m λe m=>?_;have⟨Z,e,m⟩:=ee e m;simp[e];refine kU m (rE T l) λ_ _ m=>?_;exact au
 ·intro H a0 a1 a2 c d i a hm;rw[gm] at hm;have e:=Aj l a;refine wi acX func147 [] [] 999 ?_;have⟨I,e,m⟩:=ee e hm;have⟨aa,e,m⟩:=ee e m;apply Ir e m<;>intro e m
  ·simp[e];refine dX m gS λ_ m=>?_;refine Il e m λe m=>?_;refine Il e m λe m=>?_;simp[e];refine g_ m kE λ_ _ m=>?_;refine Il e m λe m=>?_;simp[e];refine dX m qd λ_ m=>?_;refine Im e m λe m=>?_;have⟨P,e,m⟩:=ee e m;have⟨ab,e,m⟩:=ee e m;simp[e];refine kU m (j.2.2.2.2.2.2.2.2.2.2.2.2.2 a) λ_ _ m=>?_;refine Il e m λe m=>?_;simp[e];refine dT m (vT T) λ_ m=>?_;exact au
  simp[e];refine dX m gS λJ m=>?_;refine Il e m λe m=>?_;refine Il e m λe m=>?_;simp[e];refine g_ m kE λ_ _ m=>?_;refine Il e m λe m=>?_;simp[e];refine dX m qd λ_ m=>?_;refine Im e m λe m=>?_;have⟨ad,e,m⟩:=ee e m;have⟨ae,e,m⟩:=ee e m;simp[e];refine kU m (j.2.2.2.2.2.2.2.2.2.2.2.2.2 a) λ_ Q m=>?_;refine Il e m λe m=>?_;simp[e];refine dT m xB λo m=>?_;exact au
 ·intro H a0 a1 a2 c d i a hm;rw[gn] at hm;have e:=Aj l a;refine wi acX func148 [] [] 6 ?_;simp[e];refine wj 999 5 (λf h=>h=H/\f.1 0=AV.dM i 0/\f.1 8=sB (dg a1.acS 15)/\f.1 9=sI (eu (dg a1.acS 15) 7 5)/\bx f 4 (Pf.av a1).cells/\bx f 5 [sI a2.eK.vars,sI a2.eK.acZ,sL cM.av a2.acW,sL cZ.av a2.known]/\bx f 6 [sI 0,sI 0,nL,nL,nL,AV.sc (.int .u32 0)]) (λ_ g=>?_) ?_
  ·rcases Pb (dg a1.acS 15) e with e|e
   ·exact aj
   exact aj
  rintro _ _ E;have e:=Aj e E;have⟨w,e,m⟩:=ee e hm;simp[e];refine kU m (j.2.2.2.2.2.2.2.2.2.2.2.2.1 a) λs _ m=>?_;simp[e];apply Iq e m<;>intro e m
  ·apply wg 999;exact au
  apply wg 7;simp[e];refine dX m mL λW m=>?_;simp[e];apply Iq e m<;>intro e m
  ·apply wg 999;exact au
  apply wg 7;have⟨Q,e,m⟩:=ee e m;simp[e];refine dT m pk λ_ m=>?_;have⟨O,e,m⟩:=ee e m;simp[e];refine dT m m_ λ_ m=>?_;simp[e];refine kU m (j.1 a) λo _ m=>?_;simp[e];apply Iq e m<;>intro e m
  ·apply wg 999;exact au
  apply wg 7;simp[e];refine g_ m (Di T l) λF R m=>?_;simp[e];apply Iq e m<;>intro e m
  ·apply wg 999;exact au
  apply wg 3;simp[e];refine wj 999 999 (λf h=>h=H/\f.1 82=sB (eu (dg a1.acS 15) (dw (qP .u32 o.fk 1) 0) false)/\bx f 6 [sI 0,sI 0,nL,nL,nL,AV.sc (.int .u32 0)]/\bx f 10 [sI s.cR.acS,sI s.cR.cP.acS,sL Ty.av s.cR.cP.acT,sL Tm.av s.cR.c9,sL Fm.av s.cR.acT,AV.sc (.int .u32 s.fk)]/\bx f 13 [sI o.cR.acS,sI o.cR.cP.acS,sL Ty.av o.cR.cP.acT,sL Tm.av o.cR.c9,sL Fm.av o.cR.acT,AV.sc (.int .u32 o.fk)]/\bx f 14 (Fm.av F).cells) (λ_ g=>?_) ?_
  ·rcases Pb (dg a1.acS 15) e with e|e
   ·exact aj
   exact aj
  rintro _ _ E;have e:=Aj e E;refine Il e m λe m=>?_;simp[e];refine dT m n5 λS m=>?_;exact au
 ·intro H a0 a1 a2 c d i a hm;rw[j9] at hm;have e:=Aj l a;refine wi acX func149 [] [] 999 ?_;have⟨w,e,m⟩:=ee e hm;have⟨s,e,m⟩:=ee e m;simp[e];refine dT m yQ λJ m=>?_;simp[e];refine dT m l5 λ_ m=>?_;simp[e];refine dT m gS λ_ m=>?_;refine Il e m λe m=>?_;simp[e];refine dX m tl λ_ m=>?_;refine Il e m λe m=>?_;have⟨R,e,m⟩:=ee e m;simp[e];refine kU m (j.2.2.2.2.2.2.2.2.2.2.2.2.2 a) λ_ _ m=>?_;refine Il e m λe m=>?_;simp[e];refine dX m mL λ_ m=>?_;refine Il e m λe m=>?_;simp[e];refine dT m pk λ_ m=>?_;simp[e];refine dT m (nV T) λ_ m=>?_;simp[e];refine dT m m_ λ_ m=>?_;have⟨af,e,m⟩:=ee e m;simp[e];refine dT m (nV T) λ_ m=>?_;simp[e];refine kU m (j.2.2.2.2.2.2.2.2.2.2.2.2.2 a) λ_ _ m=>?_;refine Il e m λe m=>?_;simp[e];refine g_ m (rE T l) λ_ _ m=>?_;simp[e];refine dT m (vT T) λ_ m=>?_;simp[e];refine dT m n5 λ_ m=>?_;exact au
 ·intro H a0 a1 a2 c d i a hm;rw[jl] at hm;have e:=Aj l a;refine wi acX func151 [] [] 999 ?_;have⟨A,e,m⟩:=ee e hm;simp[e];refine dT m lW λ_ m=>?_;simp[e];refine dT m l5 λ_ m=>?_;simp[e];refine dT m gS λ_ m=>?_;refine Il e m λe m=>?_;have⟨ah,e,m⟩:=ee e m;simp[e];refine kU m (j.2.2.2.2.2.2.2.2.2.2.2.2.1 a) λ_ _ m=>?_;refine Il e m λe m=>?_;have⟨S,e,m⟩:=ee e m;have⟨ai,e,m⟩:=ee e m;simp[e];refine kU m (j.2.2.2.2.2.2.2.2.2.2.2.2.2 a) λ_ _ m=>?_;refine Il e m λe m=>?_;have⟨ak,e,m⟩:=ee e m;simp[e];refine kU m (rE T l) λP _ m=>?_;exact au
 ·intro H a0 a1 a2 c d i a hm;rw[jZ] at hm;have e:=Aj l a;refine wi acX func152 [] [] 7 ?_;have⟨y,e,m⟩:=ee e hm;simp[e];refine kU m (j.2.2.2.2.2.2.2.2.2.2.2.2.1 a) λk w m=>?_;simp[e];apply Iq e m<;>intro e m
  ·apply wg 999;exact au
  apply wg 9;have⟨J,e,m⟩:=ee e m;simp[e];apply Iq e m<;>intro e m
  ·apply wg 999;exact au
  apply wg 7;simp[e];refine dX m AK λx8 m=>?_;have⟨N,e,m⟩:=ee e m;simp[e];refine dX m (nV T) λ_ m=>?_;simp[e];refine dX m jF λ_ m=>?_;simp[e];refine dX m jF λ_ m=>?_;simp[e];refine dX m AW λ_ m=>?_;simp[e];refine g_ m (rE T l) λU _ m=>?_;simp[e];refine Wj m 999 999 (λK f h=>∃D,(h=H/\f.1 63=sB D/\bx f 6 [sI 0,sI 0,nL,nL,nL,AV.sc (.int .u32 0)]/\bx f 8 [sI k.cR.acS,sI k.cR.cP.acS,sL Ty.av k.cR.cP.acT,sL Tm.av k.cR.c9,sL Fm.av k.cR.acT,AV.sc (.int .u32 k.fk)]/\bx f 10 (Fm.av k.cR).cells/\bx f 12 (Ty.av x8).cells/\bx f 13 (Fm.av U).cells)/\K D=some (c,d)) (λK _ g m=>?_) ?_
  ·apply Iq e m<;>intro e m
   ·exact iC
   simp[e];refine dX m AE λ_ m=>?_;exact iC
  rintro _ _ ⟨D,E,m⟩;have e:=Aj e E;refine Il e m λe m=>?_;simp[e];refine dT m r8 λ_ m=>?_;simp[e];refine dT m r8 λ_ m=>?_;exact au
 ·intro H a0 a1 a2 a3 c d i a hm;rw[dB] at hm;have e:=Aj l a;refine wi acX func192 [] [] 5 ?_;simp[e];refine g_ hm (j.1 a) λq u m=>?_;simp[e];refine Ke 999 999 (λf h=>h=H/\f.1 11=sI u/\f.1 27=sB (eu (dg u 0) (dw q.cR.acS a3) false)/\bx f 8 [sI 0,sI 0,nL,nL,nL,AV.sc (.int .u32 0)]/\bx f 10 [sI q.cR.acS,sI q.cR.cP.acS,sL Ty.av q.cR.cP.acT,sL Tm.av q.cR.c9,sL Fm.av q.cR.acT,AV.sc (.int .u32 q.fk)]) ?_ (λ_ g=>?_)
  ·rintro _ _ E;have e:=Aj e E;refine Il e m λe m=>?_;exact au
  rcases Pb (dg u 0) e with e|e
  ·exact aj
  exact aj
 ·intro H a0 a1 a2 a3 a4 c d i a hm;rw[dD] at hm;have e:=Aj l a;refine wi acX func202 [] [] 999 ?_;simp[e];refine g_ hm (j.1 a) λq u m=>?_;refine Il e m λe m=>?_;simp[e];refine g_ m (rE T l) λ_ v m=>?_;refine Il e m λe m=>?_;simp[e];refine dT m (tr T l) λw m=>?_;exact au
def xo(T:dx)(e:pE T){H:cW}{a0:List Fm}{a1:Pf}{a2:cQ}{b:cL}{c:Int}{d:Nat}(a:KC H d a0){n:Nat}(hm:dC n a0 a1 a2=some (b,c)):du prog T 81 [AV.dM d 0,Pf.av a1,cQ.av a2] H (AV.tuple [cL.av b,sI c]) H:=(wP T e n).1 a hm
def NK{n:Nat}:C1 prog 157 (w6 n) Tm.av Tm.av:=by
 refine i1 λn l=>v1 func157 λT H a0 r m e=>?_;rw[w6] at m;simp[e];refine dT m rG λj m=>?_;simp[e];refine Wr e m 999 (λk c f h=>∃a,(h=H/\f.1 15=sL Tm.av a0.acT/\f.1 16=sI (di a0.acT)/\f.1 17=sI k/\bx f 2 [sI 0,sI 0,sI 0,nL,nL]/\bx f 3 [sI a0.acS,sI a0.acV,sI j.acS,sL Ty.av j.acT,sT a Tm.av c])/\Ow f [26] a c) (by exact⟨.full,aa8,gM.full⟩) (λc d _ _ E m=>?_) (λk _ c d _ _ _ _ E e m z p=>?_)
 ·have⟨a,E,b⟩:=E;have e:=Aj e E;dsimp only[cU]at m;exact au
 have⟨a,E,b⟩:=E;have e:=Aj e E;simp[e];refine dT m l λi m=>?_;have⟨e,m⟩:=Ck e m;simp[e];refine Ad (f:=Tm.av) c [i] b A1 e.2 ?_;simp[e];cases m;exact p _ _ _ ⟨(.loc 26 (d.ei 26+1)),aa8,(On 26)⟩ z
def z':C2 prog 156 mw Tm.av Tm.av sI:=by
 refine v2 func156 λT H a0 a1 r m e=>?_;rw[mw] at m;simp[e];refine dX m NK λ_ m=>?_;exact au
def Bv:C1 prog 83 ox Fm.av Fm.av:=by
 refine v1 func83 λT H a0 r m e=>?_;rw[ox] at m;simp[e];refine g_ m (l0 T (st:=λ_:Unit=>H) (Bo.const _) (λX _ _ _ _ _ h=>by obtain⟨a,rfl⟩:=uH h;exact z' a)) λ_ _ m=>?_;exact au
def Pp:jm prog 158=true:=by kernel_rfl
set_option maxHeartbeats 4000000 in
def Uu(x k idx:Nat)(w:World)(b:((x:Int)==0)=false)
  (key:bits BinOp.and IntKind.u32 (x:Int) (-(x:Int)%4294967296)*125613361%4294967296/134217728=(idx:Int))
  (hi:idx<32) (c:k<32) (a:w.cell? ⟨0,idx,none⟩=some (.int .u8 k)):Calls prog 158 #[.int .u32 x] w λe w'=>e=.returned (.int .i64 k)/\w'=w:=by
 go_enter func158,ntmps158
 go_wp2_with (simp only[key])
 go_ret
 exact⟨rfl,rfl⟩
set_option maxHeartbeats 4000000 in
def U2(w:World):Calls prog 158 #[.int .u32 0] w λe w'=>e=.returned (.int .i64 32)/\w'=w:=by
 go_enter func158,ntmps158
 go_wp2
 go_ret
 exact⟨rfl,rfl⟩
def US(n:Int):IntKind.u32.wrap n=n%4294967296:=by simp[IntKind.wrap,IntKind.signed,IntKind.bits]
def X'(a b:Nat)(d:a<4294967296)(e:b<4294967296):bits .and .u32 (a:Int) (b:Int)=((a&&&b:Nat):Int):=by
 have f:a&&&b<2^32:=W3 _ VW
 have h1:(BitVec.ofInt 32 (a:Int)).toNat=a:=by
  rw[ZJ];omega
 have c:(BitVec.ofInt 32 (b:Int)).toNat=b:=by
  rw[ZJ];omega
 show IntKind.u32.wrap ((BitVec.ofInt 32 (a:Int)&&&BitVec.ofInt 32 (b:Int)).toNat:Int)=_;rw[UN,h1,c,US];omega
def W4(x a:Nat)(c:x<4294967296)(d:x≠0)(b:x&&&(4294967296-x)=a):bits BinOp.and IntKind.u32 (x:Int) (-(x:Int)%4294967296)*125613361%4294967296/134217728=((a*125613361%4294967296/134217728:Nat):Int):=by
 have e:-(x:Int)%4294967296=((4294967296-x:Nat):Int):=VW
 rw[e,X' x _ c VW,b];omega
def Wp:∀j,j<32->kK[j]?=some ((Lib.deBruijn32tab.getD j 0:Nat):Int):=by decide+kernel
def tW(T:dx)(m:pE T){H:cW}{a0 f:Int}(hm:gD a0=some f):du prog T 158 [AV.sc (.int .u32 a0)] H (sI f) H:=by
 unfold gD at hm
 split at hm
 case isFalse=>cases hm
 rename_i g;obtain⟨x,rfl⟩:∃x:Nat,a0=(x:Int):=⟨a0.toNat,VW⟩;obtain rfl:=gh hm
 have h:x<2^32:=VW
 rw[AN];refine du.TF Pp λG F w vs hg n=>?_
 obtain⟨v1,rfl,h1⟩:∃v,vs=[v]/\fF F G H.length (AV.sc (.int .u32 (x:Int))) v:=by
  cases n with
  |cons h1 a=>cases a;exact⟨_,rfl,h1⟩
 cases h1;refine⟨_,.sc rfl,?_⟩
 by_cases b:x=0
 ·subst b;exact(U2 w).mono λe w' ⟨h1,a⟩=>⟨h1,by rw[a];exact XU _ _⟩
 ·have⟨c,j⟩:=Lib.lowest_bit 32 x b h;have⟨hi,d⟩:=Lib.deBruijn32_at _ j;have o:=hg.yI 0 _ m.2.2;cases o with
  |lG h1 a q=>
   have k:=Wp _ hi;rw[d] at k;have⟨v,p,g⟩:=h1.get (i:=2^Lib.ctz 32 x*125613361%4294967296/134217728) (x:=.sc (.int .u8 (Lib.ctz 32 x:Int))) (by simp[AV.cells,k]);cases g;have l:=hg.BF _ _ _ (a _ _ p);rw[r_] at l;exact(Uu x (Lib.ctz 32 x) _ w aa_ (W4 x _ h b c) hi j l).mono λe w' ⟨h1,a⟩=>⟨h1,by rw[a];exact XU _ _⟩
def vp(T:dx)(d:pE T){H:cW}{a0:Int}{i:List Int}(hm:je a0=some i):du prog T 84 [AV.sc (.int .u32 a0)] H (sL sI i) H:=by
 rw[je] at hm;have e:=d;refine wi acX func84 [] [] 999 ?_;simp[e];refine Wn hm 999 (λs1 f h=>∃a,(h=H/\f.1 0=AV.sc (.int .u32 s1.1)/\f.1 3=sT a sI s1.2)/\Ow f [14] a s1.2) (by exact⟨.full,aa8,gM.full⟩) (λs1 fr2 _ _ _ _ E m z p=>?_);have⟨j,v9⟩:=s1;have⟨a,E,b⟩:=E;have e:=Aj e E;dsimp only[h7]at m;apply Ir e m<;>intro e m
 ·cases m;have m:=Qb z;dsimp only[h7]at m;exact au
 simp[e];refine dX m (tW T d) λc m=>?_;have⟨e,m⟩:=Ck e m;simp[e];refine Ao (f:=sI) v9 [c] b Pc e.2 ?_;simp[e];cases m;exact p _ _ _ ⟨(.loc 14 (fr2.ei 14+1)),aa8,(On 14)⟩ z
def yR(T:dx)(a:pE T){H:cW}{a0:List Fm}{a1:Sq}{a2:Pf}{b:p_}{c:Int}(hm:n9 a0 a1 a2=some (b,c)):du prog T 23 [sL Fm.av a0,Sq.av a1,Pf.av a2] H (AV.tuple [p_.av b,sI c]) H:=by
 rw[n9] at hm;refine dL.tJ (Post:=λx K=>x=AV.tuple [p_.av b,sI c]/\∃X,K=H++X) ?_ (λ_ _ h=>⟨_,h.2.choose_spec,by rw[h.1];simp[AV.low,AV.gA],h.1,rfl⟩);have e:=a;refine wi acX func23 [29] [] 999 ?_;simp[e];refine dX hm (Db T a) λ_ m=>?_;refine Il e m λe m=>?_;simp[e];refine dX m (H7 T a) λ_ m=>?_;refine Il e m λe m=>?_;simp[e];refine dX m (FD T) λ_ m=>?_;simp[e];refine dT m Gq λ_ m=>?_;simp[e];refine kU m (xo T a ⟨aa8,aa8⟩) λ_ _ m=>?_;refine Il e m λe m=>?_;simp[e];refine dT m Bv λ_ m=>?_;simp[e];refine dT m (vp T a) λ_ m=>?_;exact au
def lY:C2 prog 51 kv Fm.av Tm.av Tm.av:=by
 refine v2 func51 λT H a0 a1 r m e=>?_;rw[kv] at m;simp[e];refine dT m kr λa m=>?_;simp[e];refine dT m kr λb m=>?_;have e:=Aj e (show AV.agg [sI 1,sI 0,AV.slice .hY [],AV.slice .hY [Tm.av a,Tm.av b],AV.slice .hY []]=Fm.av (Fm.mk 1 (Ty.mk 0 []) [a,b] []) by rw[Fm.eT];rfl);exact au
def mh:C3 prog 50 iZ Fm.av sI Ty.av Fm.av:=by
 refine v3 func50 λT H a0 a1 a2 r m e=>?_;rw[iZ] at m;simp[e];refine dT m hV λa m=>?_;simp[e];refine dT m i_ λb m=>?_;have e:=Aj e (show AV.agg [sI a0,sI a.acS,sL Ty.av a.acT,AV.slice .hY [],AV.slice .hY [Fm.av b]]=Fm.av (Fm.mk a0 a [] [b]) by rw[Fm.eT];rfl);exact au
def gl{n:Nat}:C2 prog 61 (eo n) sB Ty.av Ty.av:=by
 refine i2 λn b=>u2 3 func61 λT H a0 a1 r m e=>?_;rw[eo] at m;simp[e];refine wj 999 999 (λf h=>h=H/\f.1 19=sB (eu (dw a0.acS a1.acS) true (dw (di a0.acT) (di a1.acT)))/\bx f 2 (Ty.av a0).cells/\bx f 3 (Ty.av a1).cells) (λ_ g=>?_) ?_
 ·rcases Pb (dw a0.acS a1.acS) e with e|e
  ·exact aj
  exact aj
 rintro _ _ E;have e:=Aj e E;refine Il e m λe m=>?_;simp[e];refine Wr e m 999 (λa _ f h=>h=H/\f.1 22=sI (di a0.acT)/\f.1 23=sI a/\bx f 2 (Ty.av a0).cells/\bx f 3 (Ty.av a1).cells) aa8 (λ_ _ _ _ E m=>?_) (λa _ _ _ _ _ _ _ E e m z p=>?_)
 ·have e:=Aj e E;dsimp only[cU]at m;exact au
 have e:=Aj e E;have⟨c,e,m⟩:=ee e m;simp[e];refine dT m b λ_ m=>?_;refine Im e m λe m=>?_;exact al
def xq{n:Nat}:C2 prog 168 (jy n) sB Tm.av Tm.av:=by
 refine i2 λn c=>u2 3 func168 λT H a0 a1 r m e=>?_;rw[jy] at m;simp[e];refine Wj m 999 999 (λa f h=>∃v2,(h=H/\f.1 34=sB v2/\bx f 2 (Tm.av a0).cells/\bx f 3 (Tm.av a1).cells)/\a v2=some r) (λa _ g m=>?_) ?_
 ·apply Iq e m<;>intro e m
  ·exact iC
  apply Iq e m<;>intro e m
  ·exact iC
  simp[e];refine dX m gl λ_ m=>?_;apply Ir e m<;>intro e m
  ·exact iC
  exact iC
 rintro _ _ ⟨v2,E,m⟩;have e:=Aj e E;refine Il e m λe m=>?_;simp[e];refine Wr e m 999 (λb _ f h=>h=H/\f.1 37=sI (di a0.acT)/\f.1 38=sI b/\bx f 2 (Tm.av a0).cells/\bx f 3 (Tm.av a1).cells) aa8 (λ_ _ _ _ E m=>?_) (λb _ _ _ _ _ _ _ E e m z p=>?_)
 ·have e:=Aj e E;dsimp only[cU]at m;exact au
 have e:=Aj e E;have⟨d,e,m⟩:=ee e m;simp[e];refine dT m c λ_ m=>?_;refine Im e m λe m=>?_;exact al
def E3:C2 prog 105 qy sB (sL Tm.av) (sL Tm.av):=by
 refine v2 func105 λT H a0 a1 r m e=>?_;rw[qy] at m;refine Il e m λe m=>?_;simp[e];refine Wr e m 999 (λa _ f h=>h=H/\f.1 0=sL Tm.av a0/\f.1 1=sL Tm.av a1/\f.1 12=sI (di a0)/\f.1 13=sI a) aa8 (λ_ _ _ _ E m=>?_) (λa _ _ _ _ _ _ _ E e m z p=>?_)
 ·have e:=Aj e E;dsimp only[cU]at m;exact au
 have e:=Aj e E;have⟨b,e,m⟩:=ee e m;simp[e];refine dT m xq λ_ m=>?_;refine Im e m λe m=>?_;exact al
def Kw{n:Nat}:C2 prog 37 (qX n) sB Fm.av Fm.av:=by
 refine i2 λn c=>u2 3 func37 λT H a0 a1 r m e=>?_;rw[qX] at m;simp[e];refine Wj m 999 999 (λa f h=>∃v2,(h=H/\f.1 35=sB v2/\bx f 2 (Fm.av a0).cells/\bx f 3 (Fm.av a1).cells)/\a v2=some r) (λa _ g m=>?_) ?_
 ·apply Iq e m<;>intro e m
  ·exact iC
  simp[e];refine dX m gl λ_ m=>?_;apply Ir e m<;>intro e m
  ·exact iC
  simp[e];refine dX m E3 λ_ m=>?_;apply Ir e m<;>intro e m
  ·exact iC
  exact iC
 rintro _ _ ⟨v2,E,m⟩;have e:=Aj e E;refine Il e m λe m=>?_;simp[e];refine Wr e m 999 (λb _ f h=>h=H/\f.1 38=sI (di a0.acT)/\f.1 39=sI b/\bx f 2 (Fm.av a0).cells/\bx f 3 (Fm.av a1).cells) aa8 (λ_ _ _ _ E m=>?_) (λb _ _ _ _ _ _ _ E e m z p=>?_)
 ·have e:=Aj e E;dsimp only[cU]at m;exact au
 have e:=Aj e E;have⟨d,e,m⟩:=ee e m;simp[e];refine dT m c λ_ m=>?_;refine Im e m λe m=>?_;exact al
def JS(T:dx)(c:pE T){H:cW}{a:Bool}(hm:uu=some a):du prog T 12 [] H (sB a) H:=by
 rw[uu] at hm;have e:=c;refine wi acX func12 [] [] 6 ?_;simp[e];refine dX hm fQ λ_ m=>?_;simp[e];refine dT m eN λ_ m=>?_;simp[e];refine dT m kn λ_ m=>?_;simp[e];refine dT m ru λ_ m=>?_;simp[e];refine kU m (yR T c) λ_ _ m=>?_;simp[e];refine wm m 999 999 (λd f h=>∃b,(h=H/\f.1 0=sB b)/\d b=some a) ?_ (λd _ g m=>?_)
 ·rintro _ _ ⟨b,E,m⟩;have e:=Aj e E;exact au
 apply Ir e m<;>intro e m
 ·exact iC
 apply Ir e m<;>intro e m
 ·exact iC
 simp[e];refine dT m eN λ_ m=>?_;simp[e];refine dT m eN λ_ m=>?_;simp[e];refine dT m lY λ_ m=>?_;simp[e];refine dT m mh λ_ m=>?_;simp[e];refine dT m Kw λ_ m=>?_;exact iC
def Sa:C1 prog 13 GO sB (sL sI):=by
 refine v1 func13 λT H a0 r m e=>?_;rw[GO] at m;exact au
def yC{n:Nat}:C2 prog 130 (mq n) sI Ty.av sI:=by
 refine i2 λn b=>v2 func130 λT H a0 a1 r m e=>?_;rw[mq] at m;simp[e];refine Wn m 1 (λs1 f h=>h=H/\f.1 1=sI a1/\f.1 5=sI s1.1/\f.1 6=sI s1.2/\bx f 2 (Ty.av a0).cells) aa8 (λs1 _ _ _ _ _ E m z p=>?_);have⟨a,v9⟩:=s1;have e:=Aj e E;dsimp only[h7]at m;simp[e];refine wj 999 999 (λf h=>h=H/\f.1 1=sI a1/\f.1 5=sI a/\f.1 6=sI v9/\f.1 16=sB (eu (qj v9 (di a0.acT)) (Em a a1) false)/\bx f 2 (Ty.av a0).cells) (λ_ g=>?_) ?_
 ·rcases Pb (qj v9 (di a0.acT)) e with e|e
  ·exact aj
  exact aj
 rintro _ _ E;have e:=Aj e E;apply Ir e m<;>intro e m
 ·cases m;have m:=Qb z;dsimp only[h7]at m;exact au
 have⟨c,e,m⟩:=ee e m;simp[e];refine dX m b λ_ m=>?_;exact al
def FG{n:Nat}:C2 prog 131 (mB n) sI Tm.av sI:=by
 refine i2 λn a=>v2 func131 λT H a0 a1 r m e=>?_;rw[mB] at m;simp[e];refine dX m yC λ_ m=>?_;simp[e];refine Wn m 1 (λs2 f h=>h=H/\f.1 1=sI a1/\f.1 5=sI s2.1/\f.1 6=sI s2.2/\bx f 2 (Tm.av a0).cells) aa8 (λs2 _ _ _ _ _ E m z p=>?_);have⟨v9,v10⟩:=s2;have e:=Aj e E;dsimp only[h7]at m;simp[e];refine wj 999 999 (λf h=>h=H/\f.1 1=sI a1/\f.1 5=sI v9/\f.1 6=sI v10/\f.1 22=sB (eu (qj v10 (di a0.acT)) (Em v9 a1) false)/\bx f 2 (Tm.av a0).cells) (λ_ g=>?_) ?_
 ·rcases Pb (qj v10 (di a0.acT)) e with e|e
  ·exact aj
  exact aj
 rintro _ _ E;have e:=Aj e E;apply Ir e m<;>intro e m
 ·cases m;have m:=Qb z;dsimp only[h7]at m;exact au
 have⟨b,e,m⟩:=ee e m;simp[e];refine dX m a λ_ m=>?_;exact al
def BS{n:Nat}:C2 prog 106 (kR n) sI Fm.av sI:=by
 refine i2 λn c=>v2 func106 λT H a0 a1 r m e=>?_;rw[kR] at m;simp[e];refine dX m yC λ_ m=>?_;simp[e];refine Wn m 1 (λs2 f h=>h=H/\f.1 1=sI a1/\f.1 5=sI s2.1/\f.1 6=sI s2.2/\bx f 2 (Fm.av a0).cells) aa8 (λs2 _ _ _ _ _ E m z p=>?_);have⟨v9,v10⟩:=s2;have e:=Aj e E;dsimp only[h7]at m;simp[e];refine wj 999 999 (λf h=>h=H/\f.1 1=sI a1/\f.1 5=sI v9/\f.1 6=sI v10/\f.1 23=sB (eu (qj v10 (di a0.c9)) (Em v9 a1) false)/\bx f 2 (Fm.av a0).cells) (λ_ g=>?_) ?_
 ·rcases Pb (qj v10 (di a0.c9)) e with e|e
  ·exact aj
  exact aj
 rintro _ _ E;have e:=Aj e E;apply Iq e m<;>intro e m
 ·have⟨d,e,m⟩:=ee e m;simp[e];refine dX m FG λ_ m=>?_;exact al
 cases m;have m:=Qb z;dsimp only[h7]at m;simp[e];refine Wn m 1 (λa f h=>h=H/\f.1 1=sI a1/\f.1 5=sI a.1/\f.1 7=sI a.2/\bx f 2 (Fm.av a0).cells) aa8 (λa _ _ _ _ _ E m z p=>?_);have⟨b,v24⟩:=a;have e:=Aj e E;dsimp only[h7]at m;simp[e];refine wj 999 999 (λf h=>h=H/\f.1 1=sI a1/\f.1 5=sI b/\f.1 7=sI v24/\f.1 46=sB (eu (qj v24 (di a0.acT)) (Em b a1) false)/\bx f 2 (Fm.av a0).cells) (λ_ g=>?_) ?_
 ·rcases Pb (qj v24 (di a0.acT)) e with e|e
  ·exact aj
  exact aj
 rintro _ _ E;have e:=Aj e E;apply Ir e m<;>intro e m
 ·cases m;have m:=Qb z;dsimp only[h7]at m;exact au
 have⟨i,e,m⟩:=ee e m;simp[e];refine dX m c λ_ m=>?_;exact al
def adi{n:Nat}:C2 prog 63 (ac2 n) sI Pf.av sI:=by
 refine i2 λn i=>v2 func63 λT H a0 a1 r m e=>?_;rw[ac2] at m;simp[e];refine dX m yC λ_ m=>?_;simp[e];refine Wn m 1 (λs2 f h=>h=H/\f.1 1=sI a1/\f.1 5=sI s2.1/\f.1 6=sI s2.2/\bx f 2 (Pf.av a0).cells) aa8 (λs2 _ _ _ _ _ E m z p=>?_);have⟨v9,v10⟩:=s2;have e:=Aj e E;dsimp only[h7]at m;simp[e];refine wj 999 999 (λf h=>h=H/\f.1 1=sI a1/\f.1 5=sI v9/\f.1 6=sI v10/\f.1 24=sB (eu (qj v10 (di a0.c9)) (Em v9 a1) false)/\bx f 2 (Pf.av a0).cells) (λ_ g=>?_) ?_
 ·rcases Pb (qj v10 (di a0.c9)) e with e|e
  ·exact aj
  exact aj
 rintro _ _ E;have e:=Aj e E;apply Iq e m<;>intro e m
 ·have⟨j,e,m⟩:=ee e m;simp[e];refine dX m FG λ_ m=>?_;exact al
 cases m;have m:=Qb z;dsimp only[h7]at m;simp[e];refine Wn m 1 (λa f h=>h=H/\f.1 1=sI a1/\f.1 5=sI a.1/\f.1 7=sI a.2/\bx f 2 (Pf.av a0).cells) aa8 (λa _ _ _ _ _ E m z p=>?_);have⟨d,v24⟩:=a;have e:=Aj e E;dsimp only[h7]at m;simp[e];refine wj 999 999 (λf h=>h=H/\f.1 1=sI a1/\f.1 5=sI d/\f.1 7=sI v24/\f.1 47=sB (eu (qj v24 (di a0.dV)) (Em d a1) false)/\bx f 2 (Pf.av a0).cells) (λ_ g=>?_) ?_
 ·rcases Pb (qj v24 (di a0.dV)) e with e|e
  ·exact aj
  exact aj
 rintro _ _ E;have e:=Aj e E;apply Iq e m<;>intro e m
 ·have⟨k,e,m⟩:=ee e m;simp[e];refine dX m BS λ_ m=>?_;exact al
 cases m;have m:=Qb z;dsimp only[h7]at m;simp[e];refine Wn m 1 (λb f h=>h=H/\f.1 1=sI a1/\f.1 5=sI b.1/\f.1 8=sI b.2/\bx f 2 (Pf.av a0).cells) aa8 (λb _ _ _ _ _ E m z p=>?_);have⟨v37,c⟩:=b;have e:=Aj e E;dsimp only[h7]at m;simp[e];refine wj 999 999 (λf h=>h=H/\f.1 1=sI a1/\f.1 5=sI v37/\f.1 8=sI c/\f.1 70=sB (eu (qj c (di a0.acT)) (Em v37 a1) false)/\bx f 2 (Pf.av a0).cells) (λ_ g=>?_) ?_
 ·rcases Pb (qj c (di a0.acT)) e with e|e
  ·exact aj
  exact aj
 rintro _ _ E;have e:=Aj e E;apply Ir e m<;>intro e m
 ·cases m;have m:=Qb z;dsimp only[h7]at m;exact au
 have⟨l,e,m⟩:=ee e m;simp[e];refine dX m i λ_ m=>?_;exact al
def adp:C1 prog 14 ac4 sI Pf.av:=by
 refine v1 func14 λT H a0 r m e=>?_;rw[ac4] at m;simp[e];refine dX m adi λ_ m=>?_;exact au
def H5:C1 prog 38 tj sI Fm.av:=by
 refine v1 func38 λT H a0 r m e=>?_;rw[tj] at m;simp[e];refine dX m BS λ_ m=>?_;exact au
def adq:C2 prog 15 ac5 sB (sL Fm.av) Sq.av:=by
 refine v2 func15 λT H a0 a1 r m e=>?_;rw[ac5] at m;have⟨e,m⟩:=Ck e m;simp[e];refine Ad (f:=Fm.av) a0 a1.acZ (gM.full (D:=[])) BW e.2 ?_;simp[e];refine Wr e m 999 (λc s2 f h=>∃a,(h=H/\f.1 5=sI s2/\f.1 19=sT a Fm.av (fa a0 a1.acZ)/\f.1 20=sI (di (fa a0 a1.acZ))/\f.1 21=sI c)/\Ow f [19] a (fa a0 a1.acZ)) (by exact⟨(.loc 19 1),aa8,(On 19)⟩) (λs2 _ _ _ E m=>?_) (λc _ s2 _ _ _ _ _ E e m z p=>?_)
 ·have⟨a,E,b⟩:=E;have e:=Aj e E;dsimp only[cU]at m;exact au
 have⟨a,E,b⟩:=E;have e:=Aj e E;simp[e];refine dX m H5 λ_ m=>?_;simp[e];cases m;exact p _ _ _ ⟨a,aa8,b⟩ z
def QR:jm prog 16=true:=by kernel_rfl
def SF(T:dx){a0:List Int}{b:cV}(hm:M0 a0=some b):du prog T 16 [AV.slice .hY (List.map (λn=>AV.sc (Value.int .i64 n)) a0)] [] (AV.dM 0 0) (dH [[]] 0 [AV.slice .hY (List.map (λn=>AV.sc (Value.int .i64 n)) b.l),AV.sc (.int .i64 b.oU)]):=by
 obtain rfl:=gh hm;refine dL.intro (fn:=f16) func16 rfl QR (Tb rfl) ?_;refine fg.tx λc a=>?_;refine fg.region [] abl ?_;simp;refine a _ _ ?_;refine fg.tx λc a=>?_;refine fg.region [5] abl ?_;simp;refine a _ _ ?_;refine fg.ret ?_;simp[uL,dH]
def SP:C2 prog 128 Gl sI sI sI:=by
 refine v2 func128 λT H a0 a1 r m e=>?_;rw[Gl] at m;have⟨e,m⟩:=Ck e m;have⟨e,m⟩:=Ck e m;exact au
def et(T:dx){H:cW}{a0:cV}{a1 i:Int}{a:cV}{b:Nat}(c:H[b]?=some [sL sI a0.l,sI a0.oU])(hm:eA a0 a1=some (i,a)):du prog T 55 [AV.dM b 0,sI a1] H (sI i) (dH H b [sL sI a.l,sI a.oU]):=by
 rw[eA] at hm;have d:=eB c;refine dL.Je c ?_;have e:=d;refine wi acX func55 [] [(1,true,[]),(3,true,[])] 3 ?_;simp[e];refine wj 999 999 (λf h=>h=dH H b [sL sI a0.l,sI a0.oU]/\f.1 0=AV.dM b 0/\f.1 1=sI a1/\f.1 19=sB (eu (qj a1 1) true (sM a0.oU (di a0.l)))) (λ_ g=>?_) ?_
 ·rcases Pb (qj a1 1) e with e|e
  ·exact aj
  exact aj
 rintro _ _ E;have e:=Aj e E;refine Il e hm λe m=>?_;have⟨j,e,m⟩:=ee e m;simp[e];refine dX m SP λ_ m=>?_;exact au
def vE:C3 prog 88 nq Fm.av sI Fm.av Fm.av:=by
 refine v3 func88 λT H a0 a1 a2 r m e=>?_;rw[nq] at m;simp[e];refine dT m i_ λa m=>?_;simp[e];refine dT m i_ λb m=>?_;have e:=Aj e (show AV.agg [sI a0,sI 0,AV.slice .hY [],AV.slice .hY [],AV.slice .hY [Fm.av a,Fm.av b]]=Fm.av (Fm.mk a0 (Ty.mk 0 []) [] [a,b]) by rw[Fm.eT];rfl);exact au
def mK:C0 prog 71 lM Ty.av:=by
 refine v0 func71 λT H r m e=>?_;rw[lM] at m;exact au
def Ch:C0 prog 96 uQ Ty.av:=by
 refine v0 func96 λT H r m e=>?_;rw[uQ] at m;exact au
def Ec:C2 prog 97 ua Ty.av Ty.av Ty.av:=by
 refine v2 func97 λT H a0 a1 r m e=>?_;rw[ua] at m;simp[e];refine dT m hV λa m=>?_;simp[e];refine dT m hV λb m=>?_;have e:=Aj e (show AV.agg [sI 3,AV.slice .hY [Ty.av a,Ty.av b]]=Ty.av (Ty.mk 3 [a,b]) by rw[Ty.eT];rfl);exact au
def nM:C2 prog 60 j5 Ty.av Ty.av Ty.av:=by
 refine v2 func60 λT H a0 a1 r m e=>?_;rw[j5] at m;simp[e];refine dT m hV λa m=>?_;simp[e];refine dT m hV λb m=>?_;have e:=Aj e (show AV.agg [sI 4,AV.slice .hY [Ty.av a,Ty.av b]]=Ty.av (Ty.mk 4 [a,b]) by rw[Ty.eT];rfl);exact au
def Ng(T:dx):∀(n:Nat),(∀{H:cW} {a0:cV} {a1:Int} {i:Ty} {a:cV} {b:Nat} (c:H[b]?=some [sL sI a0.l,sI a0.oU]) (hm:gI n a0 a1=some (i,a)),du prog T 33 [AV.dM b 0,sI a1] H (Ty.av i) (dH H b [sL sI a.l,sI a.oU])):=by
  intro n
  induction n with
  |zero=>
    skip
    all_goals(intro _ _;intros;rename_i hm;cases hm)
  |succ n j=>
 intro H a0 a1 i a b c hm;rw[gI] at hm;have k:=eB c;refine dL.Je c ?_;have e:=k;refine wi acX func33 [] [] 2 ?_;simp[e];refine wm hm 3 999 (λo f h=>∃v2,(h=dH H b [sL sI v2.l,sI v2.oU]/\f.1 4=AV.fC 4 (f.gen 4) 0/\f.box 4=some [sI 0,nL])/\o v2=some (i,a)) ?_ (λo _ g m=>?_)
 ·rintro _ _ ⟨v2,E,m⟩;have e:=Aj e E;simp[e];refine dX m fQ λ_ m=>?_;exact au
 simp[e];refine g_ m (et T aa8) λd d8 m=>?_;simp[e];refine wj 999 999 (λf h=>h=dH H b [sL sI d8.l,sI d8.oU]/\f.1 0=AV.dM b 0/\f.1 1=sI a1/\f.1 6=sI d/\f.1 7=sB (eu (dg d 0) true (eu (dg d 1) true (dg d 2)))/\bx f 4 [sI 0,nL]) (λ_ g=>?_) ?_
 ·rcases Pb (dg d 0) e with e|e
  ·exact aj
  rcases Pb (dg d 1) e with e|e
  ·exact aj
  exact aj
 rintro _ _ E;have e:=Aj e E;apply Iq e m<;>intro e m
 ·simp[e];refine dX m fQ λ_ m=>?_;exact au
 apply Iq e m<;>intro e m
 ·simp[e];refine dX m mK λ_ m=>?_;exact au
 apply Iq e m<;>intro e m
 ·simp[e];refine dX m Ch λ_ m=>?_;exact au
 apply Iq e m<;>intro e m
 ·apply Ir e m<;>intro e m
  ·exact iC
  simp[e];refine g_ m (j aa8) λ_ d16 m=>?_;simp[e];refine g_ m (j aa8) λ_ d18 m=>?_;simp[e];refine dX m Ec λ_ m=>?_;exact au
 apply Ir e m<;>intro e m
 ·exact iC
 apply Ir e m<;>intro e m
 ·exact iC
 simp[e];refine g_ m (j aa8) λ_ d21 m=>?_;simp[e];refine g_ m (j aa8) λ_ d23 m=>?_;simp[e];refine dX m nM λ_ m=>?_;exact au
def kF(T:dx){H:cW}{a0:cV}{a1:Int}{d:Ty}{a:cV}{b:Nat}(c:H[b]?=some [sL sI a0.l,sI a0.oU]){n:Nat}(hm:gI n a0 a1=some (d,a)):du prog T 33 [AV.dM b 0,sI a1] H (Ty.av d) (dH H b [sL sI a.l,sI a.oU]):=(Ng T n) c hm
def nP:C2 prog 89 lC (sL Ty.av) (sL Ty.av) (sL Ty.av):=by
 refine v2 func89 λT H a0 a1 r m e=>?_;rw[lC] at m;have⟨e,m⟩:=Ck e m;simp[e];refine Ao (f:=Ty.av) [] a0 (gM.full (D:=[])) EV e.2 ?_;have⟨e,m⟩:=Ck e m;simp[e];refine Ao (f:=Ty.av) (fa [] a0) a1 (gM.new (D:=[6]) (d:=6) aaK) EV e.2 ?_;exact au
def P6:C2 prog 99 B8 (sL sI) (sL Ty.av) Ty.av:=by
 refine v2 func99 λT H a0 a1 r m e=>?_;rw[B8] at m;simp[e];refine Wr e m 0 (λi s2 f h=>∃b,(h=H/\f.1 0=sL Ty.av a0/\f.1 5=sT b sI s2/\f.1 8=sI (di a0)/\f.1 9=sI i/\bx f 3 (Ty.av a1).cells)/\Ow f [25] b s2) (by exact⟨.full,aa8,gM.full⟩) (λs2 j _ _ E m=>?_) (λi _ s2 j _ _ _ l E e m z p=>?_)
 ·have⟨b,E,c⟩:=E;have e:=Aj e E;apply wg 999;dsimp only[cU]at m;exact au
 have⟨b,E,c⟩:=E;have e:=Aj e E;apply wg 5;simp[e];refine wm m 999 999 (λk f h=>∃v11 a,(h=H/\f.1 0=sL Ty.av a0/\f.1 5=sT a sI v11/\f.1 8=sI (di a0)/\f.1 9=sI i/\bx f 3 (Ty.av a1).cells)/\Ow f [25] a v11/\k v11=some l) ?_ (λk _ g m=>?_)
 ·rintro _ _ ⟨v11,a,E,d,m⟩;have e:=Aj e E;simp[e];cases m;exact p _ _ _ ⟨a,aa8,d⟩ z
 have⟨n,e,m⟩:=ee e m;simp[e];refine dT m gl λ_ m=>?_;apply Ir e m<;>intro e m
 ·simp[e];exact g _ _ ⟨s2,b,aa8,c,m⟩
 have⟨e,m⟩:=Ck e m;simp[e];refine Ao (f:=sI) s2 [i] c Pc e.2 ?_;simp[e];exact g _ _ ⟨(fa s2 [i]),(.loc 25 (j.ei 25+1)),aa8,(On 25),m⟩
def eX:C2 prog 100 eF Tm.av sI (sL Tm.av):=by
 refine v2 func100 λT H a0 a1 r m e=>?_;rw[eF] at m;simp[e];refine Wr e m 999 (λi s2 f h=>∃a,(h=H/\f.1 0=sI a0/\f.1 5=sT a Tm.av s2/\f.1 8=sL Tm.av a1/\f.1 9=sI (di a1)/\f.1 10=sI i/\bx f 4 [sI 0,sI 0,sI 0,nL,nL])/\Ow f [18] a s2) (by exact⟨.full,aa8,gM.full⟩) (λs2 c _ _ E m=>?_) (λi _ s2 c _ _ _ _ E e m z p=>?_)
 ·have⟨a,E,b⟩:=E;have e:=Aj e E;dsimp only[cU]at m;exact au
 have⟨a,E,b⟩:=E;have e:=Aj e E;simp[e];refine dX m kr λd m=>?_;have⟨e,m⟩:=Ck e m;simp[e];refine Ao (f:=Tm.av) s2 [d] b A1 e.2 ?_;simp[e];cases m;exact p _ _ _ ⟨(.loc 18 (c.ei 18+1)),aa8,(On 18)⟩ z
def kH:C3 prog 62 kL Tm.av sI Ty.av (sL Tm.av):=by
 refine v3 func62 λT H a0 a1 a2 r m e=>?_;rw[kL] at m;simp[e];refine dX m eX λ_ m=>?_;simp[e];refine dX m hV λ_ m=>?_;exact au
def EK:C1 prog 178 ql Tm.av sI:=by
 refine v1 func178 λT H a0 r m e=>?_;rw[ql] at m;simp[e];refine dX m eX λ_ m=>?_;simp[e];refine Wn m 999 (λs2 f h=>∃a b,h=H/\f.1 0=sI s2.1/\bx f 2 [sI 0,sI 0,sI 0,nL,nL]/\bx f 3 [sI s2.2.1,sI s2.2.2.1,sI s2.2.2.2.1,sT a Ty.av s2.2.2.2.2.1,sT b Tm.av s2.2.2.2.2.2]) ⟨.hY,.hY,aa8⟩ (λs2 _ _ _ _ _ E m z p=>?_);have⟨v9,v10,v11,v12,c,d⟩:=s2;have⟨a,b,E⟩:=E;have e:=Aj e E;dsimp only[y9]at m;apply Ir e m<;>intro e m
 ·cases m;have m:=Qb z;dsimp only[y9]at m;exact au
 simp[e];cases m;exact p _ _ _ ⟨.full,.full,aa8⟩ z
def G3:C1 prog 127 tP (t2 Tm.av sI) sI:=by
 refine v1 func127 λT H a0 r m e=>?_;rw[tP] at m;refine Il e m λe m=>?_;refine Il e m λe m=>?_;simp[e];refine dX m EK λ_ m=>?_;exact au
def yE:C1 prog 54 xD Tm.av sI:=by
 refine v1 func54 λT H a0 r m e=>?_;rw[xD] at m;simp[e];refine g_ m G3 λ_ _ m=>?_;exact au
def kz:C1 prog 165 kb Tm.av Tm.av:=by
 refine v1 func165 λT H a0 r m e=>?_;rw[kb] at m;simp[e];refine dT m fQ λ_ m=>?_;simp[e];refine dT m kH λ_ m=>?_;exact au
def zo:C3 prog 166 sj Tm.av Tm.av Tm.av Tm.av:=by
 refine v3 func166 λT H a0 a1 a2 r m e=>?_;rw[sj] at m;simp[e];refine dT m fQ λ_ m=>?_;simp[e];refine dT m kH λ_ m=>?_;exact au
def BD:C0 prog 102 si Tm.av:=by
 refine v0 func102 λT H r m e=>?_;rw[si] at m;simp[e];refine dX m eN λ_ m=>?_;simp[e];refine dX m eN λ_ m=>?_;simp[e];refine dX m eX λ_ m=>?_;simp[e];refine dX m kz λ_ m=>?_;simp[e];refine dX m kz λ_ m=>?_;simp[e];refine dX m eN λ_ m=>?_;simp[e];refine dX m zo λ_ m=>?_;simp[e];refine dX m kz λ_ m=>?_;simp[e];refine dX m kz λ_ m=>?_;exact au
def GR:C2 prog 101 AZ Tm.av Tm.av (sL Tm.av):=by
 refine v2 func101 λT H a0 a1 r m e=>?_;rw[AZ] at m;simp[e];refine Wr e m 999 (λc s2 f h=>h=H/\f.1 7=sL Tm.av a1/\f.1 8=sI (di a1)/\f.1 9=sI c/\bx f 2 [sI s2.1,sI s2.2.1,sI s2.2.2.1,sL Ty.av s2.2.2.2.1,sL Tm.av s2.2.2.2.2]/\bx f 4 [sI 0,sI 0,sI 0,nL,nL]) aa8 (λs2 _ _ _ E m=>?_) (λc _ s2 _ _ _ _ _ E e m z p=>?_)
 ·have⟨v10,v11,v12,a,b⟩:=s2;have e:=Aj e E;dsimp only[cU,GU]at m;exact au
 have⟨v10,v11,v12,a,b⟩:=s2;have e:=Aj e E;dsimp only[GU]at m;simp[e];refine dX m eX λ_ m=>?_;exact al
def KE:C0 prog 167 uV Tm.av:=by
 refine v0 func167 λT H r m e=>?_;rw[uV] at m;simp[e];refine dX m eX λ_ m=>?_;simp[e];refine dX m eN λ_ m=>?_;simp[e];refine dX m kz λ_ m=>?_;simp[e];refine dX m kz λ_ m=>?_;simp[e];refine dX m eN λ_ m=>?_;simp[e];refine dX m zo λ_ m=>?_;simp[e];refine dX m kz λ_ m=>?_;exact au
def LM:C0 prog 103 wH Tm.av:=by
 refine v0 func103 λT H r m e=>?_;rw[wH] at m;simp[e];refine dX m eN λ_ m=>?_;simp[e];refine dX m KE λ_ m=>?_;simp[e];refine dX m eN λ_ m=>?_;simp[e];refine dX m eX λ_ m=>?_;simp[e];refine dX m kz λ_ m=>?_;simp[e];refine dX m kz λ_ m=>?_;simp[e];refine dX m eN λ_ m=>?_;simp[e];refine dX m zo λ_ m=>?_;simp[e];refine dX m kz λ_ m=>?_;simp[e];refine dX m kz λ_ m=>?_;exact au
def N_(T:dx):∀(n:Nat),(∀{H:cW} {a0:cV} {a1:List Ty} {a2:Ty} {a3:Int} {q:Tm} {b:cV} {c:Nat} (r:H[c]?=some [sL sI a0.l,sI a0.oU]) (hm:eY n a0 a1 a2 a3=some (q,b)),du prog T 35 [AV.dM c 0,sL Ty.av a1,Ty.av a2,sI a3] H (Tm.av q) (dH H c [sL sI b.l,sI b.oU])):=by
  intro n
  induction n with
  |zero=>
    skip
    all_goals(intro _ _;intros;rename_i hm;cases hm)
  |succ n a=>
 intro H a0 a1 a2 a3 q b c r hm;rw[eY] at hm;have x:=eB r;refine dL.Je r ?_;have e:=x;refine wi acX func35 [] [] 5 ?_;simp[e];refine dX hm P6 λC m=>?_;simp[e];refine Wj m 999 0 (λy f h=>∃v3 v4,(h=dH H c [sL sI v4.l,sI v4.oU]/\f.1 0=AV.dM c 0/\f.1 1=sL Ty.av a1/\f.1 3=sI a3/\f.1 9=sL sI C/\f.1 27=sB v3/\bx f 6 (Ty.av a2).cells/\bx f 8 [sI 0,sI 0,sI 0,nL,nL])/\y v3 v4=some (q,b)) (λy _ g m=>?_) ?_
 ·apply Ir e m<;>intro e m
  ·exact ak2
  simp[e];refine g_ m (et T aa8) λ_ d8 m=>?_;exact ak2
 rintro _ _ ⟨v3,v4,E,m⟩;have e:=Aj e E;apply Iq e m<;>intro e m
 ·apply wg 999;simp[e];refine g_ m (et T aa8) λ_ d11 m=>?_;have⟨D,e,m⟩:=ee e m;simp[e];refine dX m eN λ_ m=>?_;exact au
 apply wg 2;simp[e];refine wm m 999 6 (λs f h=>∃j,(h=dH H c [sL sI j.l,sI j.oU]/\f.1 0=AV.dM c 0/\f.1 1=sL Ty.av a1/\f.1 3=sI a3/\bx f 6 (Ty.av a2).cells/\bx f 8 [sI 0,sI 0,sI 0,nL,nL])/\s j=some (q,b)) ?_ (λs _ g m=>?_)
 ·rintro _ _ ⟨j,E,m⟩;have e:=Aj e E;simp[e];apply Iq e m<;>intro e m
  ·apply wg 1;simp[e];refine wm m 999 999 (λt f h=>∃v20,(h=dH H c [sL sI v20.l,sI v20.oU]/\f.1 0=AV.dM c 0/\f.1 8=AV.fC 8 (f.gen 8) 0/\f.box 8=some [sI 0,sI 0,sI 0,nL,nL])/\t v20=some (q,b)) ?_ (λt _ g m=>?_)
   ·rintro _ _ ⟨v20,E,m⟩;have e:=Aj e E;simp[e];refine g_ m (et T aa8) λ_ d25 m=>?_;simp[e];refine dX m yE λ_ m=>?_;exact au
   apply Ir e m<;>intro e m
   ·exact iC
   simp[e];refine g_ m (et T aa8) λ_ d28 m=>?_;apply Iq e m<;>intro e m
   ·simp[e];refine g_ m (a aa8) λ_ d30 m=>?_;simp[e];refine dX m eX λ_ m=>?_;exact au
   apply Iq e m<;>intro e m
   ·simp[e];refine dT m BD λ_ m=>?_;simp[e];refine kU m (a aa8) λ_ d34 m=>?_;simp[e];refine kU m (a aa8) λ_ d36 m=>?_;simp[e];refine dT m GR λ_ m=>?_;exact au
   apply Ir e m<;>intro e m
   ·exact iC
   simp[e];refine dT m LM λ_ m=>?_;simp[e];refine kU m (a aa8) λ_ d40 m=>?_;simp[e];refine kU m (a aa8) λ_ d42 m=>?_;simp[e];refine dT m GR λ_ m=>?_;exact au
  apply wg 3;simp[e];apply Ir e m<;>intro e m
  ·apply wg 999;apply Iq e m<;>intro e m
   ·have⟨F,e,m⟩:=ee e m;simp[e];refine kU m (a aa8) λ_ d46 m=>?_;have⟨G,e,m⟩:=ee e m;simp[e];refine kU m (a aa8) λ_ d49 m=>?_;simp[e];refine dT m eX λ_ m=>?_;exact au
   apply Ir e m<;>intro e m
   ·simp[e];refine dX m eX λ_ m=>?_;exact au
   have⟨I,e,m⟩:=ee e m;simp[e];refine dT m nP λ_ m=>?_;have⟨J,e,m⟩:=ee e m;simp[e];refine kU m (a aa8) λ_ d56 m=>?_;simp[e];refine dT m kH λ_ m=>?_;exact au
  apply wg 2;simp[e];refine Wj m 999 999 (λu f h=>∃v59 k,(h=dH H c [sL sI k.l,sI k.oU]/\f.1 0=AV.dM c 0/\f.1 1=sL Ty.av a1/\f.1 3=sI a3/\f.1 276=sB v59/\bx f 6 (Ty.av a2).cells/\bx f 8 [sI 0,sI 0,sI 0,nL,nL])/\u v59 k=some (q,b)) (λu _ g m=>?_) ?_
  ·apply Ir e m<;>intro e m
   ·exact ak2
   simp[e];refine g_ m (et T aa8) λ_ d64 m=>?_;exact ak2
  rintro _ _ ⟨v59,k,E,m⟩;have e:=Aj e E;apply Ir e m<;>intro e m
  ·simp[e];refine dX m eX λ_ m=>?_;exact au
  simp[e];refine dT m fQ λ_ m=>?_;simp[e];refine kU m (a aa8) λ_ d69 m=>?_;simp[e];refine kU m (a aa8) λ_ d71 m=>?_;simp[e];refine dT m eX λ_ m=>?_;exact au
 apply Ir e m<;>intro e m
 ·exact iC
 simp[e];refine g_ m (et T aa8) λ_ d74 m=>?_;apply Iq e m<;>intro e m
 ·simp[e];refine g_ m (kF T aa8) λ_ d76 m=>?_;simp[e];refine dT m nP λ_ m=>?_;simp[e];refine kU m (a aa8) λ_ d79 m=>?_;simp[e];refine dT m kH λ_ m=>?_;simp[e];refine kU m (a aa8) λ_ d82 m=>?_;simp[e];refine dT m eX λ_ m=>?_;exact au
 apply Iq e m<;>intro e m
 ·simp[e];refine g_ m (kF T aa8) λ_ d85 m=>?_;simp[e];refine kU m (a aa8) λ_ d87 m=>?_;simp[e];refine kU m (a aa8) λ_ d89 m=>?_;simp[e];refine dT m eX λ_ m=>?_;simp[e];refine dT m eX λ_ m=>?_;exact au
 apply Iq e m<;>intro e m
 ·simp[e];refine dT m fQ λ_ m=>?_;simp[e];refine dT m fQ λ_ m=>?_;simp[e];refine dT m nP λ_ m=>?_;simp[e];refine kU m (a aa8) λ_ d96 m=>?_;simp[e];refine dT m kH λ_ m=>?_;simp[e];refine dT m kH λ_ m=>?_;simp[e];refine kU m (a aa8) λ_ d100 m=>?_;simp[e];refine kU m (et T aa8) λ_ d102 m=>?_;simp[e];refine dT m yE λ_ m=>?_;simp[e];refine dT m kH λ_ m=>?_;exact au
 apply Iq e m<;>intro e m
 ·simp[e];refine dT m fQ λ_ m=>?_;simp[e];refine dT m mK λ_ m=>?_;simp[e];refine dT m fQ λ_ m=>?_;simp[e];refine dT m mK λ_ m=>?_;simp[e];refine dT m nP λ_ m=>?_;simp[e];refine kU m (a aa8) λ_ d111 m=>?_;simp[e];refine dT m kH λ_ m=>?_;simp[e];refine dT m kH λ_ m=>?_;simp[e];refine dT m kH λ_ m=>?_;simp[e];refine kU m (a aa8) λ_ d116 m=>?_;simp[e];refine dT m mK λ_ m=>?_;simp[e];refine kU m (a aa8) λ_ d119 m=>?_;simp[e];refine dT m kH λ_ m=>?_;exact au
 apply Iq e m<;>intro e m
 ·simp[e];refine g_ m (kF T aa8) λ_ d122 m=>?_;simp[e];refine kU m (a aa8) λ_ d124 m=>?_;simp[e];refine kU m (a aa8) λ_ d126 m=>?_;simp[e];refine dT m eX λ_ m=>?_;simp[e];refine dT m eX λ_ m=>?_;exact au
 apply Ir e m<;>intro e m
 ·exact iC
 simp[e];refine Wr e m 0 (λd _ f h=>h=dH H c [sL sI d74.l,sI d74.oU]/\f.1 0=AV.dM c 0/\f.1 1=sL Ty.av a1/\f.1 3=sI a3/\f.1 176=sI (di a1)/\f.1 177=sI d/\bx f 6 (Ty.av a2).cells/\bx f 8 [sI 0,sI 0,sI 0,nL,nL]) aa8 (λ_ _ _ _ E m=>?_) (λd _ _ _ _ _ _ v E e m z p=>?_)
 ·have e:=Aj e E;apply wg 999;dsimp only[cU]at m;exact iC
 have e:=Aj e E;apply wg 11;have⟨w,e,m⟩:=ee e m;simp[e];refine Wj m 999 999 (λo f h=>∃i,(h=dH H c [sL sI d74.l,sI d74.oU]/\f.1 0=AV.dM c 0/\f.1 1=sL Ty.av a1/\f.1 3=sI a3/\f.1 15=sI d/\f.1 176=sI (di a1)/\f.1 177=sI d/\f.1 198=sB i/\bx f 6 (Ty.av a2).cells/\bx f 8 [sI 0,sI 0,sI 0,nL,nL]/\bx f 16 (Ty.av w).cells)/\o i=some v) (λo _ g m=>?_) ?_
 ·apply Ir e m<;>intro e m
  ·exact iC
  have⟨A,e,m⟩:=ee e m;simp[e];refine dT m gl λ_ m=>?_;exact iC
 rintro _ _ ⟨i,E,m⟩;have e:=Aj e E;apply Ir e m<;>intro e m
 ·exact al
 simp[e];refine dT m eN λ_ m=>?_;have⟨B,e,m⟩:=ee e m;simp[e];refine kU m (a aa8) λ_ d149 m=>?_;simp[e];refine dT m eX λ_ m=>?_;exact au
def j6(T:dx){H:cW}{a0:cV}{a1:List Ty}{a2:Ty}{a3:Int}{d:Tm}{a:cV}{b:Nat}(c:H[b]?=some [sL sI a0.l,sI a0.oU]){n:Nat}(hm:eY n a0 a1 a2 a3=some (d,a)):du prog T 35 [AV.dM b 0,sL Ty.av a1,Ty.av a2,sI a3] H (Tm.av d) (dH H b [sL sI a.l,sI a.oU]):=(N_ T n) c hm
def Hr(T:dx):∀(n:Nat),(∀{H:cW} {a0:cV} {a1:List Ty} {a2:Int} {j:Fm} {b:cV} {c:Nat} (d:H[c]?=some [sL sI a0.l,sI a0.oU]) (hm:fJ n a0 a1 a2=some (j,b)),du prog T 28 [AV.dM c 0,sL Ty.av a1,sI a2] H (Fm.av j) (dH H c [sL sI b.l,sI b.oU])):=by
  intro n
  induction n with
  |zero=>
    skip
    all_goals(intro _ _;intros;rename_i hm;cases hm)
  |succ n i=>
 intro H a0 a1 a2 j b c d hm;rw[fJ] at hm;have k:=eB d;refine dL.Je d ?_;have e:=k;refine wi acX func28 [] [] 2 ?_;simp[e];refine wm hm 2 999 (λo f h=>∃v2,(h=dH H c [sL sI v2.l,sI v2.oU]/\f.1 0=AV.dM c 0/\f.1 1=sL Ty.av a1/\f.1 6=AV.fC 6 (f.gen 6) 0/\f.box 6=some [sI 0,sI 0,nL,nL,nL])/\o v2=some (j,b)) ?_ (λo _ g m=>?_)
 ·rintro _ _ ⟨v2,E,m⟩;have e:=Aj e E;simp[e];refine dX m fQ λ_ m=>?_;simp[e];refine kU m (j6 T aa8) λ_ d8 m=>?_;simp[e];refine kU m (j6 T aa8) λ_ d10 m=>?_;simp[e];refine dT m lY λ_ m=>?_;exact au
 simp[e];apply Ir e m<;>intro e m
 ·apply wg 999;exact iC
 apply wg 6;simp[e];refine g_ m (et T aa8) λa d13 m=>?_;simp[e];apply Iq e m<;>intro e m
 ·apply wg 999;simp[e];refine g_ m (i aa8) λ_ d15 m=>?_;simp[e];refine g_ m (i aa8) λ_ d17 m=>?_;simp[e];refine dX m vE λ_ m=>?_;exact au
 apply wg 1;simp[e];refine wj 999 0 (λf h=>h=dH H c [sL sI d13.l,sI d13.oU]/\f.1 0=AV.dM c 0/\f.1 1=sL Ty.av a1/\f.1 2=sI a2/\f.1 14=sI a/\f.1 28=sB (eu (dg a 1) true (dg a 2))/\bx f 6 [sI 0,sI 0,nL,nL,nL]) (λ_ g=>?_) ?_
 ·rcases Pb (dg a 1) e with e|e
  ·exact aj
  exact aj
 rintro _ _ E;have e:=Aj e E;apply Iq e m<;>intro e m
 ·apply wg 999;simp[e];refine g_ m (i aa8) λ_ d23 m=>?_;simp[e];refine g_ m (i aa8) λ_ d25 m=>?_;simp[e];refine dX m vE λ_ m=>?_;exact au
 apply wg 1;simp[e];refine wj 999 999 (λf h=>h=dH H c [sL sI d13.l,sI d13.oU]/\f.1 0=AV.dM c 0/\f.1 1=sL Ty.av a1/\f.1 2=sI a2/\f.1 14=sI a/\f.1 42=sB (eu (dg a 3) true (dg a 4))/\bx f 6 [sI 0,sI 0,nL,nL,nL]) (λ_ g=>?_) ?_
 ·rcases Pb (dg a 3) e with e|e
  ·exact aj
  exact aj
 rintro _ _ E;have e:=Aj e E;apply Iq e m<;>intro e m
 ·simp[e];refine g_ m (kF T aa8) λ_ d31 m=>?_;simp[e];refine dT m nP λ_ m=>?_;simp[e];refine kU m (i aa8) λ_ d34 m=>?_;simp[e];refine dT m mh λ_ m=>?_;exact au
 apply Iq e m<;>intro e m
 ·simp[e];refine g_ m (kF T aa8) λ_ d37 m=>?_;simp[e];refine dT m nP λ_ m=>?_;simp[e];refine kU m (i aa8) λ_ d40 m=>?_;simp[e];refine dT m mh λ_ m=>?_;exact au
 apply Ir e m<;>intro e m
 ·exact iC
 simp[e];refine g_ m (kF T aa8) λ_ d43 m=>?_;simp[e];refine kU m (et T aa8) λ_ d45 m=>?_;simp[e];refine dT m nP λ_ m=>?_;simp[e];refine kU m (i aa8) λ_ d48 m=>?_;simp[e];refine dT m mh λ_ m=>?_;exact au
def rY(T:dx){H:cW}{a0:cV}{a1:List Ty}{a2:Int}{d:Fm}{a:cV}{b:Nat}(c:H[b]?=some [sL sI a0.l,sI a0.oU]){n:Nat}(hm:fJ n a0 a1 a2=some (d,a)):du prog T 28 [AV.dM b 0,sL Ty.av a1,sI a2] H (Fm.av d) (dH H b [sL sI a.l,sI a.oU]):=(Hr T n) c hm
def Mb(T:dx){H:cW}{a0:cV}{q:List Fm}{b:cV}{d:Nat}(i:H[d]?=some [sL sI a0.l,sI a0.oU])(hm:uh a0=some (q,b)):du prog T 17 [AV.dM d 0] H (sL Fm.av q) (dH H d [sL sI b.l,sI b.oU]):=by
 rw[uh] at hm;have k:=eB i;refine dL.Je i ?_;have e:=k;refine wi acX func17 [] [] 999 ?_;simp[e];refine g_ hm (et T aa8) λ_ d2 m=>?_;simp[e];refine Wn m 999 (λc f h=>∃a,(h=dH H d [sL sI c.2.2.l,sI c.2.2.oU]/\f.1 0=AV.dM d 0/\f.1 3=sT a Fm.av c.1/\f.1 4=sI c.2.1)/\Ow f [15] a c.1) (by exact⟨.full,aa8,gM.full⟩) (λc n _ _ _ _ E m z p=>?_);have⟨v10,v11,v12⟩:=c;have⟨a,E,j⟩:=E;have e:=Aj e E;dsimp only[tv]at m;apply Ir e m<;>intro e m
 ·cases m;have m:=Qb z;dsimp only[tv]at m;exact au
 simp[e];refine g_ m (rY T aa8) λo d14 m=>?_;have⟨e,m⟩:=Ck e m;simp[e];refine Ao (f:=Fm.av) v10 [o] j BW e.2 ?_;simp[e];cases m;exact p _ _ _ ⟨(.loc 15 (n.ei 15+1)),aa8,(On 15)⟩ z
def Ku(T:dx){H:cW}{a0:cV}{q:List Ty}{b:cV}{d:Nat}(i:H[d]?=some [sL sI a0.l,sI a0.oU])(hm:vl a0=some (q,b)):du prog T 64 [AV.dM d 0] H (sL Ty.av q) (dH H d [sL sI b.l,sI b.oU]):=by
 rw[vl] at hm;have k:=eB i;refine dL.Je i ?_;have e:=k;refine wi acX func64 [] [] 999 ?_;simp[e];refine g_ hm (et T aa8) λ_ d2 m=>?_;simp[e];refine Wn m 999 (λc f h=>∃a,(h=dH H d [sL sI c.2.2.l,sI c.2.2.oU]/\f.1 0=AV.dM d 0/\f.1 3=sT a Ty.av c.1/\f.1 4=sI c.2.1)/\Ow f [15] a c.1) (by exact⟨.full,aa8,gM.full⟩) (λc n _ _ _ _ E m z p=>?_);have⟨v10,v11,v12⟩:=c;have⟨a,E,j⟩:=E;have e:=Aj e E;dsimp only[tv]at m;apply Ir e m<;>intro e m
 ·cases m;have m:=Qb z;dsimp only[tv]at m;exact au
 simp[e];refine g_ m (kF T aa8) λo d14 m=>?_;have⟨e,m⟩:=Ck e m;simp[e];refine Ao (f:=Ty.av) v10 [o] j EV e.2 ?_;simp[e];cases m;exact p _ _ _ ⟨(.loc 15 (n.ei 15+1)),aa8,(On 15)⟩ z
def Kq(T:dx){H:cW}{a0:cV}{r:Sq}{b:cV}{d:Nat}(i:H[d]?=some [sL sI a0.l,sI a0.oU])(hm:sC a0=some (r,b)):du prog T 18 [AV.dM d 0] H (Sq.av r) (dH H d [sL sI b.l,sI b.oU]):=by
 rw[sC] at hm;have k:=eB i;refine dL.Je i ?_;have e:=k;refine wi acX func18 [] [] 999 ?_;simp[e];refine g_ hm (Ku T aa8) λs d2 m=>?_;simp[e];refine g_ m (et T aa8) λ_ d4 m=>?_;simp[e];refine Wn m 999 (λc f h=>∃a,(h=dH H d [sL sI c.2.2.l,sI c.2.2.oU]/\f.1 0=AV.dM d 0/\f.1 4=sI c.1/\bx f 2 [nL,nL]/\bx f 3 [sL Ty.av s,sT a Fm.av c.2.1])/\Ow f [21] a c.2.1) (by exact⟨.full,aa8,gM.full⟩) (λc n _ _ _ _ E m z p=>?_);have⟨v12,o,t⟩:=c;have⟨a,E,j⟩:=E;have e:=Aj e E;dsimp only[tv]at m;apply Ir e m<;>intro e m
 ·cases m;have m:=Qb z;dsimp only[tv]at m;exact au
 simp[e];refine kU m (rY T aa8) λq d16 m=>?_;have⟨e,m⟩:=Ck e m;simp[e];refine Ad (f:=Fm.av) o [q] j BW e.2 ?_;simp[e];cases m;exact p _ _ _ ⟨(.loc 21 (n.ei 21+1)),aa8,(On 21)⟩ z
def Dt:C2 prog 66 xT Sq.av Sq.av Fm.av:=by
 refine v2 func66 λT H a0 a1 r m e=>?_;rw[xT] at m;have⟨e,m⟩:=Ck e m;simp[e];refine Ad (f:=Fm.av) [] a0.acZ (gM.full (D:=[])) BW e.2 ?_;have⟨e,m⟩:=Ck e m;simp[e];refine Ad (f:=Fm.av) (fa [] a0.acZ) [a1] (gM.new (D:=[9]) (d:=9) aaK) BW e.2 ?_;exact au
def El:C2 prog 65 uf Pf.av Fm.av Pf.av:=by
 refine v2 func65 λT H a0 a1 r m e=>?_;rw[uf] at m;simp[e];refine dX m nk λa m=>?_;simp[e];refine dX m i_ λb m=>?_;have e:=Aj e (show AV.agg [sI a.acS,sI a.acV,sI a.cP.acS,sL Ty.av a.cP.acT,sL Tm.av a.c9,AV.slice .hY [Fm.av b],sL Pf.av a.acT]=Pf.av (Pf.mk a.acS a.acV a.cP a.c9 [b] a.acT) by rw[Pf.eT];rfl);exact au
def HW{n:Nat}:C1 prog 187 (pI n) sB Ty.av:=by
 refine i1 λn c=>u1 4 func187 λT H a0 r m e=>?_;rw[pI] at m;simp[e];refine wm m 3 999 (λa f h=>∃v2,(h=H/\f.1 3=sI v2/\bx f 1 (Ty.av a0).cells)/\a v2=some r) ?_ (λa _ g m=>?_)
 ·rintro _ _ ⟨v2,E,m⟩;have e:=Aj e E;refine Il e m λe m=>?_;simp[e];refine Wr e m 999 (λb _ f h=>h=H/\f.1 21=sL Ty.av a0.acT/\f.1 22=sI (di a0.acT)/\f.1 23=sI b) aa8 (λ_ _ _ _ E m=>?_) (λb _ _ _ _ _ _ _ E e m z p=>?_)
  ·have e:=Aj e E;dsimp only[cU]at m;exact au
  have e:=Aj e E;simp[e];refine dX m c λ_ m=>?_;refine Im e m λe m=>?_;exact al
 simp[e];refine wj 999 0 (λf h=>h=H/\f.1 3=sI 0/\f.1 7=sI a0.acS/\f.1 8=sB (eu (dg a0.acS 1) true (eu (dg a0.acS 2) true (dg a0.acS 5)))/\bx f 1 (Ty.av a0).cells) (λ_ g=>?_) ?_
 ·rcases Pb (dg a0.acS 1) e with e|e
  ·exact aj
  rcases Pb (dg a0.acS 2) e with e|e
  ·exact aj
  exact aj
 rintro _ _ E;have e:=Aj e E;apply Iq e m<;>intro e m
 ·apply wg 999;exact iC
 apply wg 1;simp[e];refine wj 999 999 (λf h=>h=H/\f.1 12=sB (eu (dg a0.acS 3) true (dg a0.acS 4))/\bx f 1 (Ty.av a0).cells) (λ_ g=>?_) ?_
 ·rcases Pb (dg a0.acS 3) e with e|e
  ·exact aj
  exact aj
 rintro _ _ E;have e:=Aj e E;refine Im e m λe m=>?_;exact iC
def JF{n:Nat}:C1 prog 188 (qK n) sI Ty.av:=by
 refine i1 λn b=>v1 func188 λT H a0 r m e=>?_;rw[qK] at m;simp[e];refine Wr e m 999 (λa s2 f h=>h=H/\f.1 3=sI s2/\f.1 7=sL Ty.av a0.acT/\f.1 8=sI (di a0.acT)/\f.1 9=sI a) aa8 (λs2 _ _ _ E m=>?_) (λa _ s2 _ _ _ _ _ E e m z p=>?_)
 ·have e:=Aj e E;dsimp only[cU]at m;exact au
 have e:=Aj e E;simp[e];refine dX m b λ_ m=>?_;exact al
def oD:C1 prog 137 ig sI Ty.av:=by
 refine v1 func137 λT H a0 r m e=>?_;rw[ig] at m;simp[e];refine dX m HW λ_ m=>?_;refine Im e m λe m=>?_;simp[e];refine dX m JF λ_ m=>?_;refine Il e m λe m=>?_;exact au
def tC:C1 prog 78 lh sI (sL Ty.av):=by
 refine v1 func78 λT H a0 r m e=>?_;rw[lh] at m;refine Il e m λe m=>?_;simp[e];refine Wr e m 999 (λa _ f h=>h=H/\f.1 9=sL Ty.av a0/\f.1 10=sI (di a0)/\f.1 11=sI a) aa8 (λ_ _ _ _ E m=>?_) (λa _ _ _ _ _ _ _ E e m z p=>?_)
 ·have e:=Aj e E;dsimp only[cU]at m;exact au
 have e:=Aj e E;simp[e];refine dX m oD λ_ m=>?_;refine Il e m λe m=>?_;exact al
def tQ:C1 prog 216 pg sB Ty.av:=by
 refine u1 2 func216 λT H a0 r m e=>?_;rw[pg] at m;simp[e];refine Ke 999 999 (λf h=>h=H/\f.1 2=sB (eu (dg a0.acS 0) (dg (di a0.acT) 0) false)) ?_ (λ_ g=>?_)
 ·rintro _ _ E;have e:=Aj e E;exact au
 rcases Pb (dg a0.acS 0) e with e|e
 ·exact aj
 exact aj
def KD:C1 prog 233 u9 sI sI:=by
 refine u1 6 func233 λT H a0 r m e=>?_;rw[u9] at m;simp[e];refine wj 999 0 (λf h=>h=H/\f.1 3=sI a0/\f.1 4=sB (eu (dg a0 1) true (eu (dg a0 4) true (eu (dg a0 7) true (dg a0 13))))) (λ_ g=>?_) ?_
 ·rcases Pb (dg a0 1) e with e|e
  ·exact aj
  rcases Pb (dg a0 4) e with e|e
  ·exact aj
  rcases Pb (dg a0 7) e with e|e
  ·exact aj
  exact aj
 rintro _ _ E;have e:=Aj e E;apply Iq e m<;>intro e m
 ·apply wg 999;exact au
 apply wg 1;simp[e];refine wj 999 0 (λf h=>h=H/\f.1 3=sI a0/\f.1 9=sB (eu (dg a0 2) true (eu (dg a0 5) true (eu (dg a0 11) true (dg a0 12))))) (λ_ g=>?_) ?_
 ·rcases Pb (dg a0 2) e with e|e
  ·exact aj
  rcases Pb (dg a0 5) e with e|e
  ·exact aj
  rcases Pb (dg a0 11) e with e|e
  ·exact aj
  exact aj
 rintro _ _ E;have e:=Aj e E;apply Iq e m<;>intro e m
 ·apply wg 999;exact au
 apply wg 1;simp[e];refine wj 999 0 (λf h=>h=H/\f.1 3=sI a0/\f.1 14=sB (eu (dg a0 3) true (eu (dg a0 8) true (dg a0 10)))) (λ_ g=>?_) ?_
 ·rcases Pb (dg a0 3) e with e|e
  ·exact aj
  rcases Pb (dg a0 8) e with e|e
  ·exact aj
  exact aj
 rintro _ _ E;have e:=Aj e E;apply Iq e m<;>intro e m
 ·apply wg 999;exact au
 apply wg 1;simp[e];refine Ke 999 999 (λf h=>h=H/\f.1 18=sB (eu (dg a0 6) true (dg a0 9))) ?_ (λ_ g=>?_)
 ·rintro _ _ E;have e:=Aj e E;refine Il e m λe m=>?_;exact au
 rcases Pb (dg a0 6) e with e|e
 ·exact aj
 exact aj
def sW{n:Nat}:C1 prog 172 (jR n) sB Tm.av:=by
 refine i1 λn d=>u1 3 func172 λT H a0 r m e=>?_;rw[jR] at m;simp[e];refine Wj m 999 0 (λb f h=>∃v2,(h=H/\f.1 26=sB v2/\bx f 1 (Tm.av a0).cells)/\b v2=some r) (λb _ g m=>?_) ?_
 ·simp[e];refine dT m KD λ_ m=>?_;apply Iq e m<;>intro e m
  ·exact iC
  apply Iq e m<;>intro e m
  ·exact iC
  apply Ir e m<;>intro e m
  ·exact iC
  exact iC
 rintro _ _ ⟨v2,E,m⟩;have e:=Aj e E;apply Iq e m<;>intro e m
 ·apply wg 999;exact au
 apply wg 2;simp[e];refine wm m 3 999 (λc f h=>(h=H/\f.1 1=AV.fC 1 (f.gen 1) 0/\f.box 1=some (Tm.av a0).cells)/\c=some r) ?_ (λc _ g m=>?_)
 ·rintro _ _ ⟨E,m⟩;have e:=Aj e E;simp[e];refine Wr e m 999 (λa _ f h=>h=H/\f.1 42=sL Tm.av a0.acT/\f.1 43=sI (di a0.acT)/\f.1 44=sI a) aa8 (λ_ _ _ _ E m=>?_) (λa _ _ _ _ _ _ _ E e m z p=>?_)
  ·have e:=Aj e E;dsimp only[cU]at m;exact au
  have e:=Aj e E;simp[e];refine dX m d λ_ m=>?_;refine Im e m λe m=>?_;exact al
 simp[e];refine wj 999 999 (λf h=>h=H/\f.1 33=sB (eu (dg a0.acS 2) true (eu (dg a0.acS 6) true (dg a0.acS 9)))/\bx f 1 (Tm.av a0).cells) (λ_ g=>?_) ?_
 ·rcases Pb (dg a0.acS 2) e with e|e
  ·exact aj
  rcases Pb (dg a0.acS 6) e with e|e
  ·exact aj
  exact aj
 rintro _ _ E;have e:=Aj e E;apply Iq e m<;>intro e m
 ·simp[e];refine dX m oD λ_ m=>?_;refine Il e m λe m=>?_;exact VG
 simp[e];refine dX m tQ λ_ m=>?_;refine Im e m λe m=>?_;exact VG
def qO:C1 prog 164 j3 sB sI:=by
 refine u1 2 func164 λT H a0 r m e=>?_;rw[j3] at m;simp[e];refine Ke 999 999 (λf h=>h=H/\f.1 2=sB (eu (dg a0 4) true (eu (dg a0 5) true (eu (dg a0 6) true (dg a0 7))))) ?_ (λ_ g=>?_)
 ·rintro _ _ E;have e:=Aj e E;exact au
 rcases Pb (dg a0 4) e with e|e
 ·exact aj
 rcases Pb (dg a0 5) e with e|e
 ·exact aj
 rcases Pb (dg a0 6) e with e|e
 ·exact aj
 exact aj
def AH{n:Nat}:C1 prog 162 (lv n) sB Fm.av:=by
 refine i1 λn d=>u1 7 func162 λT H a0 r m e=>?_;rw[lv] at m;apply Iq e m<;>intro e m
 ·simp[e];refine wm m 999 999 (λi f h=>∃v2,(h=H/\f.1 2=sB v2)/\i v2=some r) ?_ (λi _ g m=>?_)
  ·rintro _ _ ⟨v2,E,m⟩;have e:=Aj e E;exact au
  apply Ir e m<;>intro e m
  ·exact iC
  simp[e];refine dX m tQ λ_ m=>?_;apply Ir e m<;>intro e m
  ·exact iC
  apply Ir e m<;>intro e m
  ·exact iC
  have⟨o,e,m⟩:=ee e m;simp[e];refine dX m sW λ_ m=>?_;apply Ir e m<;>intro e m
  ·exact iC
  have⟨q,e,m⟩:=ee e m;simp[e];refine dX m sW λ_ m=>?_;exact iC
 simp[e];refine wj 999 0 (λf h=>h=H/\f.1 36=sB (eu (dg a0.acS 2) true (dg a0.acS 3))/\bx f 1 (Fm.av a0).cells) (λ_ g=>?_) ?_
 ·rcases Pb (dg a0.acS 2) e with e|e
  ·exact aj
  exact aj
 rintro _ _ E;have e:=Aj e E;apply Ir e m<;>intro e m
 ·apply wg 3;simp[e];refine dX m qO λ_ m=>?_;simp[e];apply Ir e m<;>intro e m
  ·apply wg 999;exact au
  apply wg 1;simp[e];refine wm m 999 999 (λb f h=>∃a,(h=H/\f.1 2=sB a)/\b a=some r) ?_ (λb _ g m=>?_)
  ·rintro _ _ ⟨a,E,m⟩;have e:=Aj e E;exact au
  apply Ir e m<;>intro e m
  ·exact iC
  simp[e];refine dX m oD λ_ m=>?_;apply Ir e m<;>intro e m
  ·exact iC
  apply Ir e m<;>intro e m
  ·exact iC
  have⟨j,e,m⟩:=ee e m;simp[e];refine dX m d λ_ m=>?_;exact iC
 apply wg 1;simp[e];refine wm m 999 999 (λc f h=>∃v24,(h=H/\f.1 2=sB v24)/\c v24=some r) ?_ (λc _ g m=>?_)
 ·rintro _ _ ⟨v24,E,m⟩;have e:=Aj e E;exact au
 apply Ir e m<;>intro e m
 ·exact iC
 simp[e];refine dX m tQ λ_ m=>?_;apply Ir e m<;>intro e m
 ·exact iC
 apply Ir e m<;>intro e m
 ·exact iC
 have⟨k,e,m⟩:=ee e m;simp[e];refine dX m d λ_ m=>?_;apply Ir e m<;>intro e m
 ·exact iC
 have⟨l,e,m⟩:=ee e m;simp[e];refine dX m d λ_ m=>?_;exact iC
def fy{n:Nat}:C1 prog 117 (eM n) sI Tm.av:=by
 refine i1 λn b=>v1 func117 λT H a0 r m e=>?_;rw[eM] at m;simp[e];refine Wr e m 999 (λa s2 f h=>h=H/\f.1 3=sI s2/\f.1 7=sL Tm.av a0.acT/\f.1 8=sI (di a0.acT)/\f.1 9=sI a) aa8 (λs2 _ _ _ E m=>?_) (λa _ s2 _ _ _ _ _ E e m z p=>?_)
 ·have e:=Aj e E;dsimp only[cU]at m;exact au
 have e:=Aj e E;simp[e];refine dX m b λ_ m=>?_;exact al
def sR{n:Nat}:C1 prog 115 (lk n) sI Fm.av:=by
 refine i1 λn d=>v1 func115 λT H a0 r m e=>?_;rw[lk] at m;simp[e];refine Ap e m 999 (λc s2 f h=>h=H/\f.1 3=sI s2/\f.1 9=sL Tm.av a0.c9/\f.1 10=sI (di a0.c9)/\f.1 11=sI c/\bx f 1 (Fm.av a0).cells) aa8 (λc _ s2 _ _ _ _ _ E e m z p=>?_) (λs2 _ _ _ E m=>?_)
 ·have e:=Aj e E;simp[e];refine dX m fy λ_ m=>?_;exact al
 have e:=Aj e E;dsimp only[cU]at m;simp[e];refine Wr e m 999 (λb a f h=>h=H/\f.1 3=sI a/\f.1 21=sL Fm.av a0.acT/\f.1 22=sI (di a0.acT)/\f.1 23=sI b) aa8 (λa _ _ _ E m=>?_) (λb _ a _ _ _ _ _ E e m z p=>?_)
 ·have e:=Aj e E;dsimp only[cU]at m;exact au
 have e:=Aj e E;simp[e];refine dX m d λ_ m=>?_;exact al
def mT:C1 prog 93 jS sI Fm.av:=by
 refine v1 func93 λT H a0 r m e=>?_;rw[jS] at m;simp[e];refine dX m AH λ_ m=>?_;refine Im e m λe m=>?_;simp[e];refine dX m sR λ_ m=>?_;refine Il e m λe m=>?_;exact au
def mZ:C1 prog 112 kx sI Tm.av:=by
 refine v1 func112 λT H a0 r m e=>?_;rw[kx] at m;simp[e];refine dX m sW λ_ m=>?_;refine Im e m λe m=>?_;simp[e];refine dX m fy λ_ m=>?_;refine Il e m λe m=>?_;exact au
def Fs:C1 prog 293 s7 (t2 Ty.av sI) Ty.av:=by
 refine v1 func293 λT H a0 r m e=>?_;rw[s7] at m;simp[e];refine dX m oD λ_ m=>?_;refine Il e m λe m=>?_;exact au
def Hf{n:Nat}:C2 prog 268 (ey n) (t2 Ty.av sI) (sL Ty.av) Tm.av:=by
 refine i2 λn B=>v2 func268 λT H a0 a1 r m e=>?_;rw[ey] at m;apply Iq e m<;>intro e m
 ·refine Il e m λe m=>?_;have⟨x1,e,m⟩:=ee e m;simp[e];refine dX m hV λ_ m=>?_;exact au
 apply Iq e m<;>intro e m
 ·have⟨e,m⟩:=Ck e m;simp[e];refine Ad (f:=Ty.av) a0 [a1.cP] (gM.full (D:=[])) EV e.2 ?_;have⟨x3,e,m⟩:=ee e m;simp[e];refine kU m B λ_ _ m=>?_;refine Il e m λe m=>?_;simp[e];refine dX m nM λ_ m=>?_;simp[e];refine g_ m Fs λ_ _ m=>?_;exact au
 simp[e];refine Ap e m 0 (λC c f h=>∃a,(h=H/\f.1 0=sL Ty.av a0/\f.1 8=sT a Ty.av c/\f.1 67=sL Tm.av a1.acT/\f.1 68=sI (di a1.acT)/\f.1 69=sI C/\bx f 3 (Tm.av a1).cells/\bx f 4 [sI 0,nL])/\Ow f [86] a c) (by exact⟨.full,aa8,gM.full⟩) (λC _ c j _ _ _ _ E e m z p=>?_) (λc j _ _ E m=>?_)
 ·have⟨a,E,b⟩:=E;have e:=Aj e E;apply wg 999;simp[e];refine g_ m B λv _ m=>?_;refine Il e m λe m=>?_;have⟨e,m⟩:=Ck e m;simp[e];refine Ao (f:=Ty.av) c [v] b EV e.2 ?_;simp[e];cases m;exact p _ _ _ ⟨(.loc 86 (j.ei 86+1)),aa8,(On 86)⟩ z
 have⟨a,E,b⟩:=E;have e:=Aj e E;apply wg 13;dsimp only[cU]at m;simp[e];refine dX m fQ λ_ m=>?_;simp[e];refine dX m mK λw m=>?_;simp[e];apply Iq e m<;>intro e m
 ·apply wg 2;simp[e];refine wm m 999 999 (λq f h=>∃k d,(h=H/\f.1 8=sT d Ty.av c/\f.1 111=sB k/\bx f 4 [sI 0,nL])/\Ow f [86] d c/\q k=some r) ?_ (λq _ g m=>?_)
  ·rintro _ _ ⟨k,d,E,x,m⟩;have e:=Aj e E;refine Il e m λe m=>?_;have⟨F,e,m⟩:=ee e m;have⟨G,e,m⟩:=ee e m;exact au
  have⟨I,e,m⟩:=ee e m;apply Iq e m<;>intro e m
  ·simp[e];exact g _ _ ⟨true,a,aa8,b,m⟩
  have⟨J,e,m⟩:=ee e m;have⟨K,e,m⟩:=ee e m;simp[e];refine dT m gl λy m=>?_;simp[e];exact g _ _ ⟨(qf y),a,aa8,b,m⟩
 apply wg 3;simp[e];apply Iq e m<;>intro e m
 ·apply wg 999;exact au
 apply wg 3;simp[e];apply Iq e m<;>intro e m
 ·apply wg 999;have⟨L,e,m⟩:=ee e m;simp[e];refine dT m gl λ_ m=>?_;refine Il e m λe m=>?_;exact au
 apply wg 3;simp[e];apply Iq e m<;>intro e m
 ·apply wg 2;simp[e];refine wm m 999 999 (λs f h=>∃l,(h=H/\f.1 162=sB l/\bx f 3 (Tm.av a1).cells/\bx f 4 [sI 0,nL])/\s l=some r) ?_ (λs _ g m=>?_)
  ·rintro _ _ ⟨l,E,m⟩;have e:=Aj e E;refine Il e m λe m=>?_;simp[e];refine dX m hV λ_ m=>?_;exact au
  have⟨M,e,m⟩:=ee e m;simp[e];refine dT m gl λ_ m=>?_;apply Ir e m<;>intro e m
  ·exact iC
  have⟨N,e,m⟩:=ee e m;simp[e];refine dT m nM λ_ m=>?_;simp[e];refine dT m nM λ_ m=>?_;simp[e];refine dT m gl λ_ m=>?_;apply Ir e m<;>intro e m
  ·exact iC
  have⟨O,e,m⟩:=ee e m;simp[e];refine dT m gl λ_ m=>?_;exact iC
 apply wg 3;simp[e];apply Iq e m<;>intro e m
 ·apply wg 999;exact au
 apply wg 3;simp[e];apply Iq e m<;>intro e m
 ·apply wg 2;simp[e];refine wm m 999 999 (λt f h=>∃o,(h=H/\f.1 185=sB o/\bx f 4 [sI 0,nL]/\bx f 14 (Ty.av w).cells)/\t o=some r) ?_ (λt _ g m=>?_)
  ·rintro _ _ ⟨o,E,m⟩;have e:=Aj e E;refine Il e m λe m=>?_;exact au
  have⟨P,e,m⟩:=ee e m;simp[e];refine dT m gl λ_ m=>?_;apply Ir e m<;>intro e m
  ·exact iC
  have⟨Q,e,m⟩:=ee e m;simp[e];refine dT m gl λ_ m=>?_;exact iC
 apply wg 3;simp[e];apply Iq e m<;>intro e m
 ·apply wg 2;simp[e];refine wm m 999 999 (λu f h=>∃v59,(h=H/\f.1 220=sB v59/\bx f 3 (Tm.av a1).cells/\bx f 4 [sI 0,nL])/\u v59=some r) ?_ (λu _ g m=>?_)
  ·rintro _ _ ⟨v59,E,m⟩;have e:=Aj e E;refine Il e m λe m=>?_;simp[e];refine dX m hV λ_ m=>?_;exact au
  have⟨R,e,m⟩:=ee e m;simp[e];refine dT m gl λ_ m=>?_;apply Ir e m<;>intro e m
  ·exact iC
  have⟨S,e,m⟩:=ee e m;simp[e];refine dT m nM λ_ m=>?_;simp[e];refine dT m nM λ_ m=>?_;simp[e];refine dT m nM λ_ m=>?_;simp[e];refine dT m gl λ_ m=>?_;apply Ir e m<;>intro e m
  ·exact iC
  have⟨U,e,m⟩:=ee e m;simp[e];refine dT m gl λ_ m=>?_;exact iC
 apply wg 3;simp[e];apply Iq e m<;>intro e m
 ·apply wg 999;have⟨V,e,m⟩:=ee e m;have⟨W,e,m⟩:=ee e m;simp[e];refine dT m Ec λ_ m=>?_;simp[e];refine kU m Fs λ_ _ m=>?_;exact au
 apply wg 1;simp[e];refine wj 999 0 (λf h=>∃i,(h=H/\f.1 8=sT i Ty.av c/\f.1 237=sB (eu (dg a1.acS 11) true (dg a1.acS 12))/\bx f 3 (Tm.av a1).cells/\bx f 4 [sI 0,nL])/\Ow f [86] i c) (λ_ g=>?_) ?_
 ·rcases Pb (dg a1.acS 11) e with e|e
  ·simp[e];exact g _ _ ⟨a,aa8,b⟩
  simp[e];exact g _ _ ⟨a,aa8,b⟩
 rintro _ _ ⟨i,E,A⟩;have e:=Aj e E;apply Ir e m<;>intro e m
 ·apply wg 999;simp[e];refine dX m Ch λ_ m=>?_;exact au
 apply wg 4;have⟨X,e,m⟩:=ee e m;simp[e];apply Iq e m<;>intro e m
 ·apply wg 999;exact au
 apply wg 5;simp[e];apply Iq e m<;>intro e m
 ·apply wg 999;have⟨Y,e,m⟩:=ee e m;exact au
 apply wg 999;have⟨Z,e,m⟩:=ee e m;exact au
def AF:C2 prog 232 pD (t2 Ty.av sI) (sL Ty.av) Tm.av:=by
 refine v2 func232 λT H a0 a1 r m e=>?_;rw[pD] at m;simp[e];refine dX m mZ λ_ m=>?_;refine Il e m λe m=>?_;simp[e];refine g_ m Hf λ_ _ m=>?_;exact au
def Hi{n:Nat}:C2 prog 171 (mP n) sI (sL Ty.av) Fm.av:=by
 refine i2 λn l=>v2 func171 λT H a0 a1 r m e=>?_;rw[mP] at m;simp[e];refine Ap e m 0 (λk _ f h=>h=H/\f.1 0=sL Ty.av a0/\f.1 13=sL Tm.av a1.c9/\f.1 14=sI (di a1.c9)/\f.1 15=sI k/\bx f 3 (Fm.av a1).cells) aa8 (λk _ _ d _ _ _ _ E e m z p=>?_) (λ_ d _ _ E m=>?_)
 ·have e:=Aj e E;apply wg 999;simp[e];refine g_ m AF λ_ _ m=>?_;refine Il e m λe m=>?_;refine Il e m λe m=>?_;exact al
 have e:=Aj e E;apply wg 5;dsimp only[cU]at m;simp[e];refine Wj m 999 999 (λi f h=>∃c b,(h=H/\f.1 0=sT b Ty.av c/\f.1 3=AV.fC 3 (f.gen 3) 0/\f.box 3=some (Fm.av a1).cells)/\i c=some r) (λi _ g m=>?_) ?_
 ·simp[e];refine dX m qO λ_ m=>?_;apply Ir e m<;>intro e m
  ·simp[e];exact g _ _ ⟨_,.hY,aa8,m⟩
  have⟨e,m⟩:=Ck e m;simp[e];refine Ad (f:=Ty.av) a0 [a1.cP] (gM.full (D:=[])) EV e.2 ?_;simp[e];exact g _ _ ⟨_,(.loc 44 (d.ei 44+1)),aa8,m⟩
 rintro _ _ ⟨c,b,E,m⟩;have e:=Aj e E;simp[e];refine Wr e m 999 (λj _ f h=>∃a,h=H/\f.1 0=sT a Ty.av c/\f.1 46=sL Fm.av a1.acT/\f.1 47=sI (di a1.acT)/\f.1 48=sI j) ⟨b,aa8⟩ (λ_ _ _ _ E m=>?_) (λj _ _ _ _ _ _ _ E e m z p=>?_)
 ·have⟨a,E⟩:=E;have e:=Aj e E;dsimp only[cU]at m;exact au
 have⟨a,E⟩:=E;have e:=Aj e E;simp[e];refine dX m l λ_ m=>?_;refine Il e m λe m=>?_;simp[e];cases m;exact p _ _ _ ⟨a,aa8⟩ z
def sS:C2 prog 111 jV sI (sL Ty.av) Fm.av:=by
 refine v2 func111 λT H a0 a1 r m e=>?_;rw[jV] at m;simp[e];refine dX m mT λ_ m=>?_;refine Il e m λe m=>?_;simp[e];refine dX m Hi λ_ m=>?_;exact au
def qm:C2 prog 44 iH sI (sL Ty.av) Fm.av:=by
 refine v2 func44 λT H a0 a1 r m e=>?_;rw[iH] at m;simp[e];refine dX m tC λ_ m=>?_;refine Il e m λe m=>?_;simp[e];refine dX m sS λ_ m=>?_;exact au
def EH:C2 prog 22 sN sI (sL Fm.av) Sq.av:=by
 refine v2 func22 λT H a0 a1 r m e=>?_;rw[sN] at m;refine Il e m λe m=>?_;simp[e];refine Ap e m 999 (λb _ f h=>h=H/\f.1 15=sL Fm.av a0/\f.1 16=sI (di a0)/\f.1 17=sI b/\bx f 3 (Sq.av a1).cells) aa8 (λb _ _ _ _ _ _ _ E e m z p=>?_) (λ_ _ _ _ E m=>?_)
 ·have e:=Aj e E;simp[e];refine dX m qm λ_ m=>?_;refine Il e m λe m=>?_;exact al
 have e:=Aj e E;dsimp only[cU]at m;simp[e];refine dX m tC λ_ m=>?_;refine Il e m λe m=>?_;refine Il e m λe m=>?_;simp[e];refine Wr e m 999 (λa _ f h=>h=H/\f.1 38=sL Fm.av a1.acZ/\f.1 39=sI (di a1.acZ)/\f.1 40=sI a/\bx f 3 (Sq.av a1).cells) aa8 (λ_ _ _ _ E m=>?_) (λa _ _ _ _ _ _ _ E e m z p=>?_)
 ·have e:=Aj e E;dsimp only[cU]at m;exact au
 have e:=Aj e E;simp[e];refine dX m qm λ_ m=>?_;refine Il e m λe m=>?_;exact al
def Hd:C1 prog 215 px (t2 dU.av sB) sI:=by
 refine u1 6 func215 λT H a0 r m e=>?_;rw[px] at m;simp[e];refine wj 999 0 (λf h=>h=H/\f.1 4=sI a0/\f.1 5=sB (eu (dg a0 1) true (dg a0 2))/\bx f 2 [sI 0,sI 0,sI 0,sB false,sB false]) (λ_ g=>?_) ?_
 ·rcases Pb (dg a0 1) e with e|e
  ·exact aj
  exact aj
 rintro _ _ E;have e:=Aj e E;apply Iq e m<;>intro e m
 ·apply wg 999;exact au
 apply wg 1;simp[e];refine wj 999 0 (λf h=>h=H/\f.1 4=sI a0/\f.1 9=sB (eu (dg a0 3) true (dg a0 7))/\bx f 2 [sI 0,sI 0,sI 0,sB false,sB false]) (λ_ g=>?_) ?_
 ·rcases Pb (dg a0 3) e with e|e
  ·exact aj
  exact aj
 rintro _ _ E;have e:=Aj e E;apply Iq e m<;>intro e m
 ·apply wg 999;exact au
 apply wg 1;simp[e];refine wj 999 0 (λf h=>h=H/\f.1 4=sI a0/\f.1 13=sB (eu (dg a0 4) true (eu (dg a0 5) true (dg a0 20)))/\bx f 2 [sI 0,sI 0,sI 0,sB false,sB false]) (λ_ g=>?_) ?_
 ·rcases Pb (dg a0 4) e with e|e
  ·exact aj
  rcases Pb (dg a0 5) e with e|e
  ·exact aj
  exact aj
 rintro _ _ E;have e:=Aj e E;apply Iq e m<;>intro e m
 ·apply wg 999;exact au
 apply wg 3;simp[e];apply Iq e m<;>intro e m
 ·apply wg 999;exact au
 apply wg 1;simp[e];refine wj 999 0 (λf h=>h=H/\f.1 4=sI a0/\f.1 21=sB (eu (dg a0 8) true (dg a0 12))/\bx f 2 [sI 0,sI 0,sI 0,sB false,sB false]) (λ_ g=>?_) ?_
 ·rcases Pb (dg a0 8) e with e|e
  ·exact aj
  exact aj
 rintro _ _ E;have e:=Aj e E;apply Iq e m<;>intro e m
 ·apply wg 999;exact au
 apply wg 1;simp[e];refine wj 999 0 (λf h=>h=H/\f.1 4=sI a0/\f.1 25=sB (eu (dg a0 9) true (dg a0 13))/\bx f 2 [sI 0,sI 0,sI 0,sB false,sB false]) (λ_ g=>?_) ?_
 ·rcases Pb (dg a0 9) e with e|e
  ·exact aj
  exact aj
 rintro _ _ E;have e:=Aj e E;apply Iq e m<;>intro e m
 ·apply wg 999;exact au
 apply wg 1;simp[e];refine wj 999 0 (λf h=>h=H/\f.1 4=sI a0/\f.1 29=sB (eu (dg a0 10) true (dg a0 14))/\bx f 2 [sI 0,sI 0,sI 0,sB false,sB false]) (λ_ g=>?_) ?_
 ·rcases Pb (dg a0 10) e with e|e
  ·exact aj
  exact aj
 rintro _ _ E;have e:=Aj e E;apply Iq e m<;>intro e m
 ·apply wg 999;exact au
 apply wg 1;simp[e];refine wj 999 0 (λf h=>h=H/\f.1 4=sI a0/\f.1 33=sB (eu (dg a0 11) true (dg a0 15))/\bx f 2 [sI 0,sI 0,sI 0,sB false,sB false]) (λ_ g=>?_) ?_
 ·rcases Pb (dg a0 11) e with e|e
  ·exact aj
  exact aj
 rintro _ _ E;have e:=Aj e E;apply Iq e m<;>intro e m
 ·apply wg 999;exact au
 apply wg 1;simp[e];refine wj 999 999 (λf h=>h=H/\f.1 4=sI a0/\f.1 37=sB (eu (dg a0 16) true (dg a0 17))/\bx f 2 [sI 0,sI 0,sI 0,sB false,sB false]) (λ_ g=>?_) ?_
 ·rcases Pb (dg a0 16) e with e|e
  ·exact aj
  exact aj
 rintro _ _ E;have e:=Aj e E;refine Il e m λe m=>?_;refine Il e m λe m=>?_;refine Il e m λe m=>?_;exact au
def H_{n:Nat}:C1 prog 159 (nO n) sB Pf.av:=by
 refine i1 λn l=>u1 5 func159 λT H a0 r m e=>?_;rw[nO] at m;simp[e];refine g_ m Hd λa j m=>?_;simp[e];refine wj 999 0 (λf h=>h=H/\f.1 57=sB (eu j (eu (dw (di a0.c9) a.c9) true (eu (dw (di a0.dV) a.dV) true (eu (dw (di a0.acT) a.acT) true (eu (qj a0.acV 0) true (eu a.acV false (dw a0.acV 0)))))) true)/\bx f 1 (Pf.av a0).cells/\bx f 3 (dU.av a).cells) (λ_ g=>?_) ?_
 ·rcases Pb j e with e|e;rotate_left
  ·exact aj
  rcases Pb (dw (di a0.c9) a.c9) e with e|e
  ·exact aj
  rcases Pb (dw (di a0.dV) a.dV) e with e|e
  ·exact aj
  rcases Pb (dw (di a0.acT) a.acT) e with e|e
  ·exact aj
  rcases Pb (qj a0.acV 0) e with e|e
  ·exact aj
  rcases Pb a.acV e with e|e
  ·exact aj
  exact aj
 rintro _ _ E;have e:=Aj e E;apply Iq e m<;>intro e m
 ·apply wg 999;exact au
 apply wg 3;simp[e];refine Wj m 999 999 (λk f h=>∃i,(h=H/\f.1 76=sB i/\bx f 1 (Pf.av a0).cells)/\k i=some r) (λk _ g m=>?_) ?_
 ·apply Ir e m<;>intro e m
  ·simp[e];refine dX m tQ λ_ m=>?_;exact iC
  simp[e];refine dX m oD λ_ m=>?_;apply Iq e m<;>intro e m
  ·exact iC
  exact iC
 rintro _ _ ⟨i,E,m⟩;have e:=Aj e E;refine Il e m λe m=>?_;simp[e];refine Ap e m 999 (λb _ f h=>h=H/\f.1 78=sL Tm.av a0.c9/\f.1 79=sI (di a0.c9)/\f.1 80=sI b/\bx f 1 (Pf.av a0).cells) aa8 (λb _ _ _ _ _ _ _ E e m z p=>?_) (λ_ _ _ _ E m=>?_)
 ·have e:=Aj e E;simp[e];refine dX m sW λ_ m=>?_;refine Im e m λe m=>?_;exact al
 have e:=Aj e E;dsimp only[cU]at m;simp[e];refine Ap e m 999 (λc _ f h=>h=H/\f.1 89=sL Fm.av a0.dV/\f.1 90=sI (di a0.dV)/\f.1 91=sI c/\bx f 1 (Pf.av a0).cells) aa8 (λc _ _ _ _ _ _ _ E e m z p=>?_) (λ_ _ _ _ E m=>?_)
 ·have e:=Aj e E;simp[e];refine dX m AH λ_ m=>?_;refine Im e m λe m=>?_;exact al
 have e:=Aj e E;dsimp only[cU]at m;simp[e];refine Wr e m 999 (λd _ f h=>h=H/\f.1 100=sL Pf.av a0.acT/\f.1 101=sI (di a0.acT)/\f.1 102=sI d) aa8 (λ_ _ _ _ E m=>?_) (λd _ _ _ _ _ _ _ E e m z p=>?_)
 ·have e:=Aj e E;dsimp only[cU]at m;exact au
 have e:=Aj e E;simp[e];refine dX m l λ_ m=>?_;refine Im e m λe m=>?_;exact al
def HY{n:Nat}:C1 prog 175 (ra n) sB Pf.av:=by
 refine i1 λn d=>v1 func175 λT H a0 r m e=>?_;rw[ra] at m;simp[e];refine Ap e m 999 (λc _ f h=>h=H/\f.1 10=sL Tm.av a0.c9/\f.1 11=sI (di a0.c9)/\f.1 12=sI c/\bx f 1 (Pf.av a0).cells) aa8 (λc _ _ _ _ _ _ _ E e m z p=>?_) (λ_ _ _ _ E m=>?_)
 ·have e:=Aj e E;simp[e];refine dX m fy λ_ m=>?_;refine Il e m λe m=>?_;exact al
 have e:=Aj e E;dsimp only[cU]at m;simp[e];refine Ap e m 999 (λa _ f h=>h=H/\f.1 21=sL Fm.av a0.dV/\f.1 22=sI (di a0.dV)/\f.1 23=sI a/\bx f 1 (Pf.av a0).cells) aa8 (λa _ _ _ _ _ _ _ E e m z p=>?_) (λ_ _ _ _ E m=>?_)
 ·have e:=Aj e E;simp[e];refine dX m sR λ_ m=>?_;refine Il e m λe m=>?_;exact al
 have e:=Aj e E;dsimp only[cU]at m;simp[e];refine Wr e m 999 (λb _ f h=>h=H/\f.1 32=sL Pf.av a0.acT/\f.1 33=sI (di a0.acT)/\f.1 34=sI b) aa8 (λ_ _ _ _ E m=>?_) (λb _ _ _ _ _ _ _ E e m z p=>?_)
 ·have e:=Aj e E;dsimp only[cU]at m;exact au
 have e:=Aj e E;simp[e];refine dX m d λ_ m=>?_;refine Im e m λe m=>?_;exact al
def HB{n:Nat}:C1 prog 120 (rb n) sI Pf.av:=by
 refine i1 λn j=>v1 func120 λT H a0 r m e=>?_;rw[rb] at m;simp[e];refine Ap e m 999 (λi s2 f h=>h=H/\f.1 3=sI s2/\f.1 11=sL Tm.av a0.c9/\f.1 12=sI (di a0.c9)/\f.1 13=sI i/\bx f 1 (Pf.av a0).cells) aa8 (λi _ s2 _ _ _ _ _ E e m z p=>?_) (λs2 _ _ _ E m=>?_)
 ·have e:=Aj e E;simp[e];refine dX m fy λ_ m=>?_;exact al
 have e:=Aj e E;dsimp only[cU]at m;simp[e];refine Ap e m 999 (λc a f h=>h=H/\f.1 3=sI a/\f.1 23=sL Fm.av a0.dV/\f.1 24=sI (di a0.dV)/\f.1 25=sI c/\bx f 1 (Pf.av a0).cells) aa8 (λc _ a _ _ _ _ _ E e m z p=>?_) (λa _ _ _ E m=>?_)
 ·have e:=Aj e E;simp[e];refine dX m sR λ_ m=>?_;exact al
 have e:=Aj e E;dsimp only[cU]at m;simp[e];refine Wr e m 999 (λd b f h=>h=H/\f.1 3=sI b/\f.1 35=sL Pf.av a0.acT/\f.1 36=sI (di a0.acT)/\f.1 37=sI d) aa8 (λb _ _ _ E m=>?_) (λd _ b _ _ _ _ _ E e m z p=>?_)
 ·have e:=Aj e E;dsimp only[cU]at m;exact au
 have e:=Aj e E;simp[e];refine dX m j λ_ m=>?_;exact al
end Go.Proofs.YtobcafblgapgfaaGreatDoor
