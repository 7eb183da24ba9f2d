/- Part of the proof of TranslateStable: walks. -/
import Derived.Test.YtffcgfpaakhbjaaGreatDoorProg
import Derived.Test.YtffcgfpaakhbjaaGreatDoorChecked
import Derived.WalkKit
import Derived.Laws.Bits64b
import Derived.BigCall
import Derived.Test.YtffcgfpaakhbjaaGreatDoorG1
import Derived.Test.YtffcgfpaakhbjaaGreatDoorL18
set_option linter.all false
namespace Go.Proofs.YtffcgfpaakhbjaaGreatDoor
open Go Go.jN Go.dG Tryz
def aee:prog.follows .mixedOrders=true:=by kernel_rfl
instance:Nonempty (prog.follows .mixedOrders=true):=⟨aee⟩
end Go.Proofs.YtffcgfpaakhbjaaGreatDoor
namespace Go.dG
open Go Go.jN
mutual
def Ty.av:Ty->AV
 |.mk ad' aea=>.agg [sI ad',AV.slice .gY (Ty.Jo aea)]
def Ty.Jo:List Ty->List AV
 |[]=>[]|x::l=>x.av::Ty.Jo l
end
def Ty.AJ(l:List Ty):Ty.Jo l=l.map Ty.av:=by
 induction l with
 |nil=>rfl|cons x l a=>simp[Ty.Jo,a]
def Ty.eH(ad':Int)(aea:List Ty):(Ty.mk ad' aea).av=.agg [sI ad',sL Ty.av aea]:=by rw[Ty.av];simp only[Ty.AJ]
mutual
@[simp] theorem Ty.wG(k:Nat):∀x:Ty,x.av.low k=true
 |.mk ad' aea=>by rw[Ty.eH];simp[AV.low,AV.gw,Ty.pG k aea]
@[simp] theorem Ty.pG(k:Nat):∀l:List Ty,AV.gw k (l.map Ty.av)=true
 |[]=>rfl|x::l=>by simp[AV.gw,Ty.wG k x,Ty.pG k l]
end
def Ty.fv(x:Ty):x.av=.agg [sI x.ad',sL Ty.av x.aea]:=by cases x;exact Ty.eH _ _
@[simp] theorem Ty.km(x:Ty):x.av.cells=[sI x.ad',sL Ty.av x.aea]:=by rw[Ty.fv];rfl
@[simp] theorem Ty.vX(x:Ty):dn x.av=true:=by rw[Ty.fv];rfl
@[simp] theorem Ty.sV(x:Ty):x.av.norm=x.av:=by rw[Ty.fv];rfl
@[simp] theorem Ty.Z5(a:Int)(b:List Ty):AV.agg [sI a,sL Ty.av b]=Ty.av (Ty.mk a b):=by rw[Ty.eH]<;>rfl
@[simp] theorem Ty.acf(a:Int):AV.agg [sI a,AV.slice .gY []]=Ty.av (Ty.mk a []):=by rw[Ty.eH]<;>rfl
mutual
def Tm.av:Tm->AV
 |.mk ad' aec b8 aea=>.agg [sI ad',sI aec,sI b8.ad',sL Ty.av b8.aea,AV.slice .gY (Tm.Jo aea)]
def Tm.Jo:List Tm->List AV
 |[]=>[]|x::l=>x.av::Tm.Jo l
end
def Tm.AJ(l:List Tm):Tm.Jo l=l.map Tm.av:=by
 induction l with
 |nil=>rfl|cons x l a=>simp[Tm.Jo,a]
def Tm.eH(ad' aec:Int)(b8:Ty)(aea:List Tm):(Tm.mk ad' aec b8 aea).av=.agg [sI ad',sI aec,sI b8.ad',sL Ty.av b8.aea,sL Tm.av aea]:=by rw[Tm.av];simp only[Tm.AJ]
mutual
@[simp] theorem Tm.wG(k:Nat):∀x:Tm,x.av.low k=true
 |.mk ad' aec b8 aea=>by rw[Tm.eH];simp[AV.low,AV.gw,Tm.pG k aea]
@[simp] theorem Tm.pG(k:Nat):∀l:List Tm,AV.gw k (l.map Tm.av)=true
 |[]=>rfl|x::l=>by simp[AV.gw,Tm.wG k x,Tm.pG k l]
end
def Tm.fv(x:Tm):x.av=.agg [sI x.ad',sI x.aec,sI x.b8.ad',sL Ty.av x.b8.aea,sL Tm.av x.aea]:=by cases x;exact Tm.eH _ _ _ _
@[simp] theorem Tm.km(x:Tm):x.av.cells=[sI x.ad',sI x.aec,sI x.b8.ad',sL Ty.av x.b8.aea,sL Tm.av x.aea]:=by rw[Tm.fv];rfl
@[simp] theorem Tm.vX(x:Tm):dn x.av=true:=by rw[Tm.fv];rfl
@[simp] theorem Tm.sV(x:Tm):x.av.norm=x.av:=by rw[Tm.fv];rfl
@[simp] theorem Tm.aae(a b c:Int)(c3:List Ty)(d:List Tm):AV.agg [sI a,sI b,sI c,sL Ty.av c3,sL Tm.av d]=Tm.av (Tm.mk a b (Ty.mk c c3) d):=by rw[Tm.eH]<;>rfl
@[simp] theorem Tm.adm(a b c:Int)(d:List Tm):AV.agg [sI a,sI b,sI c,AV.slice .gY [],sL Tm.av d]=Tm.av (Tm.mk a b (Ty.mk c []) d):=by rw[Tm.eH]<;>rfl
@[simp] theorem Tm.adj(a b c:Int):AV.agg [sI a,sI b,sI c,AV.slice .gY [],AV.slice .gY []]=Tm.av (Tm.mk a b (Ty.mk c []) []):=by rw[Tm.eH]<;>rfl
mutual
def Fm.av:Fm->AV
 |.mk ad' b8 cx aea=>.agg [sI ad',sI b8.ad',sL Ty.av b8.aea,sL Tm.av cx,AV.slice .gY (Fm.Jo aea)]
def Fm.Jo:List Fm->List AV
 |[]=>[]|x::l=>x.av::Fm.Jo l
end
def Fm.AJ(l:List Fm):Fm.Jo l=l.map Fm.av:=by
 induction l with
 |nil=>rfl|cons x l a=>simp[Fm.Jo,a]
def Fm.eH(ad':Int)(b8:Ty)(cx:List Tm)(aea:List Fm):(Fm.mk ad' b8 cx aea).av=.agg [sI ad',sI b8.ad',sL Ty.av b8.aea,sL Tm.av cx,sL Fm.av aea]:=by rw[Fm.av];simp only[Fm.AJ]
mutual
@[simp] theorem Fm.wG(k:Nat):∀x:Fm,x.av.low k=true
 |.mk ad' b8 cx aea=>by rw[Fm.eH];simp[AV.low,AV.gw,Fm.pG k aea]
@[simp] theorem Fm.pG(k:Nat):∀l:List Fm,AV.gw k (l.map Fm.av)=true
 |[]=>rfl|x::l=>by simp[AV.gw,Fm.wG k x,Fm.pG k l]
end
def Fm.fv(x:Fm):x.av=.agg [sI x.ad',sI x.b8.ad',sL Ty.av x.b8.aea,sL Tm.av x.cx,sL Fm.av x.aea]:=by cases x;exact Fm.eH _ _ _ _
@[simp] theorem Fm.km(x:Fm):x.av.cells=[sI x.ad',sI x.b8.ad',sL Ty.av x.b8.aea,sL Tm.av x.cx,sL Fm.av x.aea]:=by rw[Fm.fv];rfl
@[simp] theorem Fm.vX(x:Fm):dn x.av=true:=by rw[Fm.fv];rfl
@[simp] theorem Fm.sV(x:Fm):x.av.norm=x.av:=by rw[Fm.fv];rfl
@[simp] theorem Fm.Xr(a b:Int)(c:List Ty)(c3:List Tm)(d:List Fm):AV.agg [sI a,sI b,sL Ty.av c,sL Tm.av c3,sL Fm.av d]=Fm.av (Fm.mk a (Ty.mk b c) c3 d):=by rw[Fm.eH]<;>rfl
@[simp] theorem Fm.ab3(a b:Int)(c:List Fm):AV.agg [sI a,sI b,AV.slice .gY [],AV.slice .gY [],sL Fm.av c]=Fm.av (Fm.mk a (Ty.mk b []) [] c):=by rw[Fm.eH]<;>rfl
@[simp] theorem Fm.acw(a b:Int):AV.agg [sI a,sI b,AV.slice .gY [],AV.slice .gY [],AV.slice .gY []]=Fm.av (Fm.mk a (Ty.mk b []) [] []):=by rw[Fm.eH]<;>rfl
mutual
def Pf.av:Pf->AV
 |.mk ad' aec b8 cx dy aea=>.agg [sI ad',sI aec,sI b8.ad',sL Ty.av b8.aea,sL Tm.av cx,sL Fm.av dy,AV.slice .gY (Pf.Jo aea)]
def Pf.Jo:List Pf->List AV
 |[]=>[]|x::l=>x.av::Pf.Jo l
end
def Pf.AJ(l:List Pf):Pf.Jo l=l.map Pf.av:=by
 induction l with
 |nil=>rfl|cons x l a=>simp[Pf.Jo,a]
def Pf.eH(ad' aec:Int)(b8:Ty)(cx:List Tm)(dy:List Fm)(aea:List Pf):(Pf.mk ad' aec b8 cx dy aea).av=.agg [sI ad',sI aec,sI b8.ad',sL Ty.av b8.aea,sL Tm.av cx,sL Fm.av dy,sL Pf.av aea]:=by rw[Pf.av];simp only[Pf.AJ]
mutual
@[simp] theorem Pf.wG(k:Nat):∀x:Pf,x.av.low k=true
 |.mk ad' aec b8 cx dy aea=>by rw[Pf.eH];simp[AV.low,AV.gw,Pf.pG k aea]
@[simp] theorem Pf.pG(k:Nat):∀l:List Pf,AV.gw k (l.map Pf.av)=true
 |[]=>rfl|x::l=>by simp[AV.gw,Pf.wG k x,Pf.pG k l]
end
def Pf.fv(x:Pf):x.av=.agg [sI x.ad',sI x.aec,sI x.b8.ad',sL Ty.av x.b8.aea,sL Tm.av x.cx,sL Fm.av x.dy,sL Pf.av x.aea]:=by cases x;exact Pf.eH _ _ _ _ _ _
@[simp] theorem Pf.km(x:Pf):x.av.cells=[sI x.ad',sI x.aec,sI x.b8.ad',sL Ty.av x.b8.aea,sL Tm.av x.cx,sL Fm.av x.dy,sL Pf.av x.aea]:=by rw[Pf.fv];rfl
@[simp] theorem Pf.vX(x:Pf):dn x.av=true:=by rw[Pf.fv];rfl
@[simp] theorem Pf.sV(x:Pf):x.av.norm=x.av:=by rw[Pf.fv];rfl
@[simp] theorem Pf.UF(a b c:Int)(c3:List Ty)(d:List Tm)(c5:List Fm)(e:List Pf):AV.agg [sI a,sI b,sI c,sL Ty.av c3,sL Tm.av d,sL Fm.av c5,sL Pf.av e]=Pf.av (Pf.mk a b (Ty.mk c c3) d c5 e):=by rw[Pf.eH]<;>rfl
@[simp] theorem Pf.abH(a b c:Int)(d:List Pf):AV.agg [sI a,sI b,sI c,AV.slice .gY [],AV.slice .gY [],AV.slice .gY [],sL Pf.av d]=Pf.av (Pf.mk a b (Ty.mk c []) [] [] d):=by rw[Pf.eH]<;>rfl
@[simp] theorem Pf.Uj(a b c:Int):AV.agg [sI a,sI b,sI c,AV.slice .gY [],AV.slice .gY [],AV.slice .gY [],AV.slice .gY []]=Pf.av (Pf.mk a b (Ty.mk c []) [] [] []):=by rw[Pf.eH]<;>rfl
def Sq.av(x:Sq):AV:=.agg [sL Ty.av x.aed,sL Fm.av x.aeg]
def Sq.eH(aed:List Ty)(aeg:List Fm):(Sq.mk aed aeg).av=.agg [sL Ty.av aed,sL Fm.av aeg]:=rfl
def Sq.fv(x:Sq):x.av=.agg [sL Ty.av x.aed,sL Fm.av x.aeg]:=by cases x;exact Sq.eH _ _
@[simp] theorem Sq.km(x:Sq):x.av.cells=[sL Ty.av x.aed,sL Fm.av x.aeg]:=by rw[Sq.fv];rfl
@[simp] theorem Sq.vX(x:Sq):dn x.av=true:=by rw[Sq.fv];rfl
@[simp] theorem Sq.sV(x:Sq):x.av.norm=x.av:=by rw[Sq.fv];rfl
@[simp] theorem Sq.aae(a:List Ty)(b:List Fm):AV.agg [sL Ty.av a,sL Fm.av b]=Sq.av (Sq.mk a b):=by rw[Sq.eH]<;>rfl
@[simp] theorem Sq.adi(a:List Ty):AV.agg [sL Ty.av a,AV.slice .gY []]=Sq.av (Sq.mk a []):=by rw[Sq.eH]<;>rfl
def cH.av(x:cH):AV:=.agg [AV.slice .gY (List.map (λn=>AV.sc (Value.int .i64 n)) x.l),sI x.sE]
def cH.eH(l:List Int)(sE:Int):(cH.mk l sE).av=.agg [AV.slice .gY (List.map (λn=>AV.sc (Value.int .i64 n)) l),sI sE]:=rfl
def cH.fv(x:cH):x.av=.agg [AV.slice .gY (List.map (λn=>AV.sc (Value.int .i64 n)) x.l),sI x.sE]:=by cases x;exact cH.eH _ _
@[simp] theorem cH.km(x:cH):x.av.cells=[AV.slice .gY (List.map (λn=>AV.sc (Value.int .i64 n)) x.l),sI x.sE]:=by rw[cH.fv];rfl
@[simp] theorem cH.vX(x:cH):dn x.av=true:=by rw[cH.fv];rfl
@[simp] theorem cH.Z5(a:List Int)(b:Int):AV.agg [AV.slice .gY (List.map (λn=>AV.sc (Value.int .i64 n)) a),sI b]=cH.av (cH.mk a b):=by rw[cH.eH]<;>rfl
def cz.av(x:cz):AV:=.agg [sL Fm.av x.answers,sI x.room]
def cz.eH(answers:List Fm)(room:Int):(cz.mk answers room).av=.agg [sL Fm.av answers,sI room]:=rfl
@[simp] theorem cz.wG(k:Nat)(x:cz):x.av.low k=true:=by
 cases x;rw[cz.eH];simp[AV.low,AV.gw]
@[simp] theorem cz.pG(k:Nat)(l:List cz):AV.gw k (l.map cz.av)=true:=by
 rw[AV.tq];intro x a;obtain⟨y,_,rfl⟩:=ll.1 a;exact cz.wG k y
def cz.fv(x:cz):x.av=.agg [sL Fm.av x.answers,sI x.room]:=by cases x;exact cz.eH _ _
@[simp] theorem cz.km(x:cz):x.av.cells=[sL Fm.av x.answers,sI x.room]:=by rw[cz.fv];rfl
@[simp] theorem cz.vX(x:cz):dn x.av=true:=by rw[cz.fv];rfl
@[simp] theorem cz.sV(x:cz):x.av.norm=x.av:=by rw[cz.fv];rfl
@[simp] theorem cz.Z5(a:List Fm)(b:Int):AV.agg [sL Fm.av a,sI b]=cz.av (cz.mk a b):=by rw[cz.eH]<;>rfl
@[simp] theorem cz.acf(a:Int):AV.agg [AV.slice .gY [],sI a]=cz.av (cz.mk [] a):=by rw[cz.eH]<;>rfl
def s9.av(x:s9):AV:=.agg [sI x.cd.ad',sI x.cd.b8.ad',sL Ty.av x.cd.b8.aea,sL Tm.av x.cd.cx,sL Fm.av x.cd.aea,AV.slice .gY (List.map (λn=>AV.sc (Value.int .i64 n)) x.eX)]
def s9.eH(cd:Fm)(eX:List Int):(s9.mk cd eX).av=.agg [sI cd.ad',sI cd.b8.ad',sL Ty.av cd.b8.aea,sL Tm.av cd.cx,sL Fm.av cd.aea,AV.slice .gY (List.map (λn=>AV.sc (Value.int .i64 n)) eX)]:=rfl
def s9.fv(x:s9):x.av=.agg [sI x.cd.ad',sI x.cd.b8.ad',sL Ty.av x.cd.b8.aea,sL Tm.av x.cd.cx,sL Fm.av x.cd.aea,AV.slice .gY (List.map (λn=>AV.sc (Value.int .i64 n)) x.eX)]:=by cases x;exact s9.eH _ _
@[simp] theorem s9.km(x:s9):x.av.cells=[sI x.cd.ad',sI x.cd.b8.ad',sL Ty.av x.cd.b8.aea,sL Tm.av x.cd.cx,sL Fm.av x.cd.aea,AV.slice .gY (List.map (λn=>AV.sc (Value.int .i64 n)) x.eX)]:=by rw[s9.fv];rfl
@[simp] theorem s9.vX(x:s9):dn x.av=true:=by rw[s9.fv];rfl
@[simp] theorem s9.UF(a b:Int)(c:List Ty)(c3:List Tm)(d:List Fm)(c5:List Int):AV.agg [sI a,sI b,sL Ty.av c,sL Tm.av c3,sL Fm.av d,AV.slice .gY (List.map (λn=>AV.sc (Value.int .i64 n)) c5)]=s9.av (s9.mk (Fm.mk a (Ty.mk b c) c3 d) c5):=by rw[s9.eH]<;>rfl
@[simp] theorem s9.Uj(a b:Int):AV.agg [sI a,sI b,AV.slice .gY [],AV.slice .gY [],AV.slice .gY [],AV.slice .gY []]=s9.av (s9.mk (Fm.mk a (Ty.mk b []) [] []) []):=by rw[s9.eH]<;>rfl
def cb.av(x:cb):AV:=.agg [sI x.aeb,sB x.gb]
def cb.eH(aeb:Int)(gb:Bool):(cb.mk aeb gb).av=.agg [sI aeb,sB gb]:=rfl
def cb.fv(x:cb):x.av=.agg [sI x.aeb,sB x.gb]:=by cases x;exact cb.eH _ _
@[simp] theorem cb.km(x:cb):x.av.cells=[sI x.aeb,sB x.gb]:=by rw[cb.fv];rfl
@[simp] theorem cb.vX(x:cb):dn x.av=true:=by rw[cb.fv];rfl
@[simp] theorem cb.agg(a:Int)(b:Bool):AV.agg [sI a,sB b]=cb.av (cb.mk a b):=by rw[cb.eH]<;>rfl
def c9.av(x:c9):AV:=.agg [sI x.vars,sI x.aeg]
def c9.eH(vars aeg:Int):(c9.mk vars aeg).av=.agg [sI vars,sI aeg]:=rfl
def c9.fv(x:c9):x.av=.agg [sI x.vars,sI x.aeg]:=by cases x;exact c9.eH _ _
@[simp] theorem c9.km(x:c9):x.av.cells=[sI x.vars,sI x.aeg]:=by rw[c9.fv];rfl
@[simp] theorem c9.vX(x:c9):dn x.av=true:=by rw[c9.fv];rfl
@[simp] theorem c9.sV(x:c9):x.av.norm=x.av:=by rw[c9.fv];rfl
@[simp] theorem c9.agg(a b:Int):AV.agg [sI a,sI b]=c9.av (c9.mk a b):=by rw[c9.eH]<;>rfl
def bZ.av(x:bZ):AV:=.agg [sL Fm.av x.lemmas,sL Ty.av x.aed,sL Fm.av x.aeg]
def bZ.eH(lemmas:List Fm)(aed:List Ty)(aeg:List Fm):(bZ.mk lemmas aed aeg).av=.agg [sL Fm.av lemmas,sL Ty.av aed,sL Fm.av aeg]:=rfl
def bZ.fv(x:bZ):x.av=.agg [sL Fm.av x.lemmas,sL Ty.av x.aed,sL Fm.av x.aeg]:=by cases x;exact bZ.eH _ _ _
@[simp] theorem bZ.km(x:bZ):x.av.cells=[sL Fm.av x.lemmas,sL Ty.av x.aed,sL Fm.av x.aeg]:=by rw[bZ.fv];rfl
@[simp] theorem bZ.vX(x:bZ):dn x.av=true:=by rw[bZ.fv];rfl
@[simp] theorem bZ.sV(x:bZ):x.av.norm=x.av:=by rw[bZ.fv];rfl
@[simp] theorem bZ.Xr(a:List Fm)(b:List Ty)(c:List Fm):AV.agg [sL Fm.av a,sL Ty.av b,sL Fm.av c]=bZ.av (bZ.mk a b c):=by rw[bZ.eH]<;>rfl
def cL.av(x:cL):AV:=.agg [sI x.room]
def cL.eH(room:Int):(cL.mk room).av=.agg [sI room]:=rfl
def cL.fv(x:cL):x.av=.agg [sI x.room]:=by cases x;exact cL.eH _
@[simp] theorem cL.km(x:cL):x.av.cells=[sI x.room]:=by rw[cL.fv];rfl
@[simp] theorem cL.vX(x:cL):dn x.av=true:=by rw[cL.fv];rfl
@[simp] theorem cL.agg(a:Int):AV.agg [sI a]=cL.av (cL.mk a):=by rw[cL.eH]<;>rfl
def c_.av(x:c_):AV:=.agg [sB x.aec,sB x.typed,sI x.cx,sI x.dy,sI x.aea,sI x.r7,sI x.vars,sI x.aeg]
def c_.eH(aec typed:Bool)(cx dy aea r7 vars aeg:Int):(c_.mk aec typed cx dy aea r7 vars aeg).av=.agg [sB aec,sB typed,sI cx,sI dy,sI aea,sI r7,sI vars,sI aeg]:=rfl
def c_.fv(x:c_):x.av=.agg [sB x.aec,sB x.typed,sI x.cx,sI x.dy,sI x.aea,sI x.r7,sI x.vars,sI x.aeg]:=by cases x;exact c_.eH _ _ _ _ _ _ _ _
@[simp] theorem c_.km(x:c_):x.av.cells=[sB x.aec,sB x.typed,sI x.cx,sI x.dy,sI x.aea,sI x.r7,sI x.vars,sI x.aeg]:=by rw[c_.fv];rfl
@[simp] theorem c_.vX(x:c_):dn x.av=true:=by rw[c_.fv];rfl
@[simp] theorem c_.sV(x:c_):x.av.norm=x.av:=by rw[c_.fv];rfl
@[simp] theorem c_.agg(a b:Bool)(c c3 d c5 e f:Int):AV.agg [sB a,sB b,sI c,sI c3,sI d,sI c5,sI e,sI f]=c_.av (c_.mk a b c c3 d c5 e f):=by rw[c_.eH]<;>rfl
def db.av(x:db):AV:=.agg [sI x.cx,sI x.dy,sI x.aea,sB x.aec,sB x.yn]
def db.eH(cx dy aea:Int)(aec yn:Bool):(db.mk cx dy aea aec yn).av=.agg [sI cx,sI dy,sI aea,sB aec,sB yn]:=rfl
def db.fv(x:db):x.av=.agg [sI x.cx,sI x.dy,sI x.aea,sB x.aec,sB x.yn]:=by cases x;exact db.eH _ _ _ _ _
@[simp] theorem db.km(x:db):x.av.cells=[sI x.cx,sI x.dy,sI x.aea,sB x.aec,sB x.yn]:=by rw[db.fv];rfl
@[simp] theorem db.vX(x:db):dn x.av=true:=by rw[db.fv];rfl
@[simp] theorem db.sV(x:db):x.av.norm=x.av:=by rw[db.fv];rfl
@[simp] theorem db.agg(a b c:Int)(c3 d:Bool):AV.agg [sI a,sI b,sI c,sB c3,sB d]=db.av (db.mk a b c c3 d):=by rw[db.eH]<;>rfl
end Go.dG
namespace Go.Proofs.YtffcgfpaakhbjaaGreatDoor
open Go Go.jN Go.dG Tryz
@[simp] theorem Ul:dE prog 3=some (false,1):=by kernel_rfl
@[simp] theorem VN:fY prog 3=some [.sc (.int .i64 0)]:=by kernel_rfl
@[simp] theorem Yd:prog.underlying 3=some (.int .i64):=by kernel_rfl
@[simp] theorem adJ:dE prog 4=some (false,1)/\fY prog 4=some [.sc (.bool false)]/\prog.underlying 4=some .bool/\dE prog 22=some (false,1)/\fY prog 22=some [.slice .full []]/\prog.underlying 22=some (.slice 3)/\dE prog 27=some (false,1)/\fY prog 27=some [.slice .full []]/\p7 prog 30=some [.sc (.int .i64 0),.slice .full []]/\fY prog 30=some [.sc (.int .i64 0),.slice .full []]:=by and_intros<;>kernel_rfl
@[simp] theorem QW:nS prog 22=some (3,1):=by kernel_rfl
@[simp] theorem Ev:nS prog 27=some (30,2):=by kernel_rfl
@[simp] theorem aa':prog.underlying 27=some (.slice 30):=by kernel_rfl
@[simp] theorem Vv:dE prog 30=some (true,2):=by kernel_rfl
@[simp] theorem Zp:dD prog 30 0=some (0,3)/\eR prog 30 0=some (0,1)/\dD prog 30 1=some (1,27)/\eR prog 30 1=some (1,1)/\dE prog 32=some (false,1)/\fY prog 32=some [.slice .full []]/\prog.underlying 32=some (.slice 38)/\dE prog 33=some (false,1)/\fY prog 33=some [.slice .full []]/\p7 prog 35=some [.sc (.int .i64 0),.sc (.int .i64 0),.slice .full [],.slice .full [],.slice .full []]:=by and_intros<;>kernel_rfl
@[simp] theorem Ty.Y4(x:Ty):sG prog 30 x.av=true:=by rw[Ty.fv,yG,Vv];rfl
@[simp] theorem CM:nS prog 32=some (38,5):=by kernel_rfl
@[simp] theorem JN:nS prog 33=some (35,5):=by kernel_rfl
@[simp] theorem aav:prog.underlying 33=some (.slice 35):=by kernel_rfl
@[simp] theorem VE:dE prog 35=some (true,5):=by kernel_rfl
@[simp] theorem WW:fY prog 35=some [.sc (.int .i64 0),.sc (.int .i64 0),.slice .full [],.slice .full [],.slice .full []]:=by kernel_rfl
@[simp] theorem YE:dD prog 35 0=some (0,3)/\eR prog 35 0=some (0,1)/\dD prog 35 1=some (1,30)/\eR prog 35 1=some (1,2)/\dD prog 35 2=some (3,32)/\eR prog 35 2=some (3,1)/\dD prog 35 3=some (4,33)/\eR prog 35 3=some (4,1)/\p7 prog 38=some [.sc (.int .i64 0),.sc (.int .i64 0),.sc (.int .i64 0),.slice .full [],.slice .full []]/\dD prog 38 0=some (0,3):=by and_intros<;>kernel_rfl
@[simp] theorem Fm.Y5(x:Fm):sG prog 35 x.av=true:=by rw[Fm.fv,yG,VE];rfl
@[simp] theorem Vz:dE prog 38=some (true,5):=by kernel_rfl
@[simp] theorem Xf:fY prog 38=some [.sc (.int .i64 0),.sc (.int .i64 0),.sc (.int .i64 0),.slice .full [],.slice .full []]:=by kernel_rfl
@[simp] theorem Zd:eR prog 38 0=some (0,1)/\dD prog 38 1=some (1,3)/\eR prog 38 1=some (1,1)/\dD prog 38 2=some (2,30)/\eR prog 38 2=some (2,2)/\dD prog 38 3=some (4,32)/\eR prog 38 3=some (4,1)/\dE prog 44=some (false,1)/\fY prog 44=some [.sc (.int .i64 0)]/\prog.underlying 44=some (.int .i64):=by and_intros<;>kernel_rfl
@[simp] theorem Tm.Zg(x:Tm):sG prog 38 x.av=true:=by rw[Tm.fv,yG,Vz];rfl
@[simp] theorem adh:dE prog 47=some (false,1)/\fY prog 47=some [.slice .full []]/\prog.underlying 47=some (.slice 49)/\p7 prog 49=some [.sc (.int .i64 0),.sc (.int .i64 0),.sc (.int .i64 0),.slice .full [],.slice .full [],.slice .full [],.slice .full []]/\fY prog 49=some [.sc (.int .i64 0),.sc (.int .i64 0),.sc (.int .i64 0),.slice .full [],.slice .full [],.slice .full [],.slice .full []]/\dD prog 49 0=some (0,3)/\eR prog 49 0=some (0,1)/\dD prog 49 1=some (1,3)/\eR prog 49 1=some (1,1)/\dD prog 49 2=some (2,30):=by and_intros<;>kernel_rfl
@[simp] theorem acZ:nS prog 47=some (49,7):=by kernel_rfl
@[simp] theorem Z7:dE prog 49=some (true,7):=by kernel_rfl
@[simp] theorem Yy:eR prog 49 2=some (2,2)/\dD prog 49 3=some (4,32)/\eR prog 49 3=some (4,1)/\dD prog 49 4=some (5,33)/\eR prog 49 4=some (5,1)/\dD prog 49 5=some (6,47)/\eR prog 49 5=some (6,1)/\dE prog 55=some (true,2)/\p7 prog 55=some [.slice .full [],.slice .full []]/\fY prog 55=some [.slice .full [],.slice .full []]:=by and_intros<;>kernel_rfl
@[simp] theorem Pf.Y6(x:Pf):sG prog 49 x.av=true:=by rw[Pf.fv,yG,Z7];rfl
@[simp] theorem Zh:dD prog 55 0=some (0,27)/\eR prog 55 0=some (0,1)/\dD prog 55 1=some (1,33)/\eR prog 55 1=some (1,1)/\dE prog 61=some (true,2)/\p7 prog 61=some [.slice .full [],.sc (.int .i64 0)]/\fY prog 61=some [.slice .full [],.sc (.int .i64 0)]/\dD prog 61 0=some (0,22)/\eR prog 61 0=some (0,1)/\dD prog 61 1=some (1,3):=by and_intros<;>kernel_rfl
@[simp] theorem Y3:eR prog 61 1=some (1,1)/\dE prog 86=some (false,1)/\fY prog 86=some [.sc (.pointer none)]/\prog.underlying 86=some (.pointer 114)/\dE prog 89=some (true,6)/\p7 prog 89=some [.sc (.pointer none),.sc (.int .i64 0),.sc (.int .i64 0),.slice .full [],.slice .full [],.slice .full []]/\fY prog 89=some [.sc (.pointer none),.sc (.int .i64 0),.sc (.int .i64 0),.slice .full [],.slice .full [],.slice .full []]/\dD prog 89 0=some (0,86)/\eR prog 89 0=some (0,1)/\dD prog 89 1=some (1,35):=by and_intros<;>kernel_rfl
@[simp] theorem YU:eR prog 89 1=some (1,5)/\dE prog 108=some (false,1)/\fY prog 108=some [.sc (.int .u8 0)]/\prog.underlying 108=some (.int .u8)/\dE prog 112=some (false,1)/\fY prog 112=some [.sc .nilFunc]/\dE prog 114=some (true,2)/\p7 prog 114=some [.slice .full [],.sc (.int .i64 0)]/\fY prog 114=some [.slice .full [],.sc (.int .i64 0)]/\dD prog 114 0=some (0,33):=by and_intros<;>kernel_rfl
@[simp] theorem WS:eR prog 114 0=some (0,1)/\dD prog 114 1=some (1,3)/\eR prog 114 1=some (1,1)/\dE prog 121=some (true,6)/\p7 prog 121=some [.sc (.int .i64 0),.sc (.int .i64 0),.slice .full [],.slice .full [],.slice .full [],.slice .full []]/\fY prog 121=some [.sc (.int .i64 0),.sc (.int .i64 0),.slice .full [],.slice .full [],.slice .full [],.slice .full []]/\dD prog 121 0=some (0,35)/\eR prog 121 0=some (0,5)/\dD prog 121 1=some (5,22)/\eR prog 121 1=some (5,1):=by and_intros<;>kernel_rfl
@[simp] theorem ab':dE prog 139=some (true,2)/\p7 prog 139=some [.sc (.int .i64 0),.sc (.bool false)]/\fY prog 139=some [.sc (.int .i64 0),.sc (.bool false)]/\dD prog 139 0=some (0,3)/\eR prog 139 0=some (0,1)/\dD prog 139 1=some (1,4)/\eR prog 139 1=some (1,1)/\dE prog 146=some (true,2)/\p7 prog 146=some [.sc (.int .i64 0),.sc (.int .i64 0)]/\fY prog 146=some [.sc (.int .i64 0),.sc (.int .i64 0)]:=by and_intros<;>kernel_rfl
@[simp] theorem Wv:dD prog 146 0=some (0,3)/\eR prog 146 0=some (0,1)/\dD prog 146 1=some (1,3)/\eR prog 146 1=some (1,1)/\dE prog 152=some (true,3)/\p7 prog 152=some [.slice .full [],.slice .full [],.slice .full []]/\fY prog 152=some [.slice .full [],.slice .full [],.slice .full []]/\dD prog 152 0=some (0,33)/\eR prog 152 0=some (0,1)/\dD prog 152 1=some (1,27):=by and_intros<;>kernel_rfl
@[simp] theorem Yc:eR prog 152 1=some (1,1)/\dD prog 152 2=some (2,33)/\eR prog 152 2=some (2,1)/\dE prog 159=some (true,1)/\p7 prog 159=some [.sc (.int .i64 0)]/\fY prog 159=some [.sc (.int .i64 0)]/\dD prog 159 0=some (0,3)/\eR prog 159 0=some (0,1)/\p7 prog 167=some [.sc (.bool false),.sc (.bool false),.sc (.int .i64 0),.sc (.int .i64 0),.sc (.int .i64 0),.sc (.int .i64 0),.sc (.int .i64 0),.sc (.int .i64 0)]/\fY prog 167=some [.sc (.bool false),.sc (.bool false),.sc (.int .i64 0),.sc (.int .i64 0),.sc (.int .i64 0),.sc (.int .i64 0),.sc (.int .i64 0),.sc (.int .i64 0)]:=by and_intros<;>kernel_rfl
@[simp] theorem QV:dE prog 167=some (true,8):=by kernel_rfl
@[simp] theorem XH:dD prog 167 0=some (0,4)/\eR prog 167 0=some (0,1)/\dD prog 167 1=some (1,4)/\eR prog 167 1=some (1,1)/\dD prog 167 2=some (2,3)/\eR prog 167 2=some (2,1)/\dD prog 167 3=some (3,3)/\eR prog 167 3=some (3,1)/\dD prog 167 4=some (4,3)/\eR prog 167 4=some (4,1):=by and_intros<;>kernel_rfl
@[simp] theorem WA:dD prog 167 5=some (5,3)/\eR prog 167 5=some (5,1)/\dD prog 167 6=some (6,3)/\eR prog 167 6=some (6,1)/\dD prog 167 7=some (7,3)/\eR prog 167 7=some (7,1)/\dE prog 173=some (false,1)/\fY prog 173=some [.sc .nilFunc]/\dE prog 179=some (false,1)/\fY prog 179=some [.sc .nilFunc]:=by and_intros<;>kernel_rfl
@[simp] theorem c_.XW(x:c_):sG prog 167 x.av=true:=by rw[c_.fv,yG,QV];rfl
@[simp] theorem ac0:dE prog 190=some (true,168)/\p7 prog 190=some [.sc (.bool false),.sc (.bool false),.sc (.int .i64 0),.sc (.int .i64 0),.sc (.int .i64 0),.sc (.int .i64 0),.sc (.int .i64 0),.sc (.int .i64 0),.sc (.bool false),.sc (.bool false),.sc (.int .i64 0),.sc (.int .i64 0),.sc (.int .i64 0),.sc (.int .i64 0),.sc (.int .i64 0),.sc (.int .i64 0),.sc (.bool false),.sc (.bool false),.sc (.int .i64 0),.sc (.int .i64 0),.sc (.int .i64 0),.sc (.int .i64 0),.sc (.int .i64 0),.sc (.int .i64 0),.sc (.bool false),.sc (.bool false),.sc (.int .i64 0),.sc (.int .i64 0),.sc (.int .i64 0),.sc (.int .i64 0),.sc (.int .i64 0),.sc (.int .i64 0),.sc (.bool false),.sc (.bool false),.sc (.int .i64 0),.sc (.int .i64 0),.sc (.int .i64 0),.sc (.int .i64 0),.sc (.int .i64 0),.sc (.int .i64 0),.sc (.bool false),.sc (.bool false),.sc (.int .i64 0),.sc (.int .i64 0),.sc (.int .i64 0),.sc (.int .i64 0),.sc (.int .i64 0),.sc (.int .i64 0),.sc (.bool false),.sc (.bool false),.sc (.int .i64 0),.sc (.int .i64 0),.sc (.int .i64 0),.sc (.int .i64 0),.sc (.int .i64 0),.sc (.int .i64 0),.sc (.bool false),.sc (.bool false),.sc (.int .i64 0),.sc (.int .i64 0),.sc (.int .i64 0),.sc (.int .i64 0),.sc (.int .i64 0),.sc (.int .i64 0),.sc (.bool false),.sc (.bool false),.sc (.int .i64 0),.sc (.int .i64 0),.sc (.int .i64 0),.sc (.int .i64 0),.sc (.int .i64 0),.sc (.int .i64 0),.sc (.bool false),.sc (.bool false),.sc (.int .i64 0),.sc (.int .i64 0),.sc (.int .i64 0),.sc (.int .i64 0),.sc (.int .i64 0),.sc (.int .i64 0),.sc (.bool false),.sc (.bool false),.sc (.int .i64 0),.sc (.int .i64 0),.sc (.int .i64 0),.sc (.int .i64 0),.sc (.int .i64 0),.sc (.int .i64 0),.sc (.bool false),.sc (.bool false),.sc (.int .i64 0),.sc (.int .i64 0),.sc (.int .i64 0),.sc (.int .i64 0),.sc (.int .i64 0),.sc (.int .i64 0),.sc (.bool false),.sc (.bool false),.sc (.int .i64 0),.sc (.int .i64 0),.sc (.int .i64 0),.sc (.int .i64 0),.sc (.int .i64 0),.sc (.int .i64 0),.sc (.bool false),.sc (.bool false),.sc (.int .i64 0),.sc (.int .i64 0),.sc (.int .i64 0),.sc (.int .i64 0),.sc (.int .i64 0),.sc (.int .i64 0),.sc (.bool false),.sc (.bool false),.sc (.int .i64 0),.sc (.int .i64 0),.sc (.int .i64 0),.sc (.int .i64 0),.sc (.int .i64 0),.sc (.int .i64 0),.sc (.bool false),.sc (.bool false),.sc (.int .i64 0),.sc (.int .i64 0),.sc (.int .i64 0),.sc (.int .i64 0),.sc (.int .i64 0),.sc (.int .i64 0),.sc (.bool false),.sc (.bool false),.sc (.int .i64 0),.sc (.int .i64 0),.sc (.int .i64 0),.sc (.int .i64 0),.sc (.int .i64 0),.sc (.int .i64 0),.sc (.bool false),.sc (.bool false),.sc (.int .i64 0),.sc (.int .i64 0),.sc (.int .i64 0),.sc (.int .i64 0),.sc (.int .i64 0),.sc (.int .i64 0),.sc (.bool false),.sc (.bool false),.sc (.int .i64 0),.sc (.int .i64 0),.sc (.int .i64 0),.sc (.int .i64 0),.sc (.int .i64 0),.sc (.int .i64 0),.sc (.bool false),.sc (.bool false),.sc (.int .i64 0),.sc (.int .i64 0),.sc (.int .i64 0),.sc (.int .i64 0),.sc (.int .i64 0),.sc (.int .i64 0),.sc (.bool false),.sc (.bool false),.sc (.int .i64 0),.sc (.int .i64 0),.sc (.int .i64 0),.sc (.int .i64 0),.sc (.int .i64 0),.sc (.int .i64 0)]/\fY prog 190=some [.sc (.bool false),.sc (.bool false),.sc (.int .i64 0),.sc (.int .i64 0),.sc (.int .i64 0),.sc (.int .i64 0),.sc (.int .i64 0),.sc (.int .i64 0),.sc (.bool false),.sc (.bool false),.sc (.int .i64 0),.sc (.int .i64 0),.sc (.int .i64 0),.sc (.int .i64 0),.sc (.int .i64 0),.sc (.int .i64 0),.sc (.bool false),.sc (.bool false),.sc (.int .i64 0),.sc (.int .i64 0),.sc (.int .i64 0),.sc (.int .i64 0),.sc (.int .i64 0),.sc (.int .i64 0),.sc (.bool false),.sc (.bool false),.sc (.int .i64 0),.sc (.int .i64 0),.sc (.int .i64 0),.sc (.int .i64 0),.sc (.int .i64 0),.sc (.int .i64 0),.sc (.bool false),.sc (.bool false),.sc (.int .i64 0),.sc (.int .i64 0),.sc (.int .i64 0),.sc (.int .i64 0),.sc (.int .i64 0),.sc (.int .i64 0),.sc (.bool false),.sc (.bool false),.sc (.int .i64 0),.sc (.int .i64 0),.sc (.int .i64 0),.sc (.int .i64 0),.sc (.int .i64 0),.sc (.int .i64 0),.sc (.bool false),.sc (.bool false),.sc (.int .i64 0),.sc (.int .i64 0),.sc (.int .i64 0),.sc (.int .i64 0),.sc (.int .i64 0),.sc (.int .i64 0),.sc (.bool false),.sc (.bool false),.sc (.int .i64 0),.sc (.int .i64 0),.sc (.int .i64 0),.sc (.int .i64 0),.sc (.int .i64 0),.sc (.int .i64 0),.sc (.bool false),.sc (.bool false),.sc (.int .i64 0),.sc (.int .i64 0),.sc (.int .i64 0),.sc (.int .i64 0),.sc (.int .i64 0),.sc (.int .i64 0),.sc (.bool false),.sc (.bool false),.sc (.int .i64 0),.sc (.int .i64 0),.sc (.int .i64 0),.sc (.int .i64 0),.sc (.int .i64 0),.sc (.int .i64 0),.sc (.bool false),.sc (.bool false),.sc (.int .i64 0),.sc (.int .i64 0),.sc (.int .i64 0),.sc (.int .i64 0),.sc (.int .i64 0),.sc (.int .i64 0),.sc (.bool false),.sc (.bool false),.sc (.int .i64 0),.sc (.int .i64 0),.sc (.int .i64 0),.sc (.int .i64 0),.sc (.int .i64 0),.sc (.int .i64 0),.sc (.bool false),.sc (.bool false),.sc (.int .i64 0),.sc (.int .i64 0),.sc (.int .i64 0),.sc (.int .i64 0),.sc (.int .i64 0),.sc (.int .i64 0),.sc (.bool false),.sc (.bool false),.sc (.int .i64 0),.sc (.int .i64 0),.sc (.int .i64 0),.sc (.int .i64 0),.sc (.int .i64 0),.sc (.int .i64 0),.sc (.bool false),.sc (.bool false),.sc (.int .i64 0),.sc (.int .i64 0),.sc (.int .i64 0),.sc (.int .i64 0),.sc (.int .i64 0),.sc (.int .i64 0),.sc (.bool false),.sc (.bool false),.sc (.int .i64 0),.sc (.int .i64 0),.sc (.int .i64 0),.sc (.int .i64 0),.sc (.int .i64 0),.sc (.int .i64 0),.sc (.bool false),.sc (.bool false),.sc (.int .i64 0),.sc (.int .i64 0),.sc (.int .i64 0),.sc (.int .i64 0),.sc (.int .i64 0),.sc (.int .i64 0),.sc (.bool false),.sc (.bool false),.sc (.int .i64 0),.sc (.int .i64 0),.sc (.int .i64 0),.sc (.int .i64 0),.sc (.int .i64 0),.sc (.int .i64 0),.sc (.bool false),.sc (.bool false),.sc (.int .i64 0),.sc (.int .i64 0),.sc (.int .i64 0),.sc (.int .i64 0),.sc (.int .i64 0),.sc (.int .i64 0),.sc (.bool false),.sc (.bool false),.sc (.int .i64 0),.sc (.int .i64 0),.sc (.int .i64 0),.sc (.int .i64 0),.sc (.int .i64 0),.sc (.int .i64 0),.sc (.bool false),.sc (.bool false),.sc (.int .i64 0),.sc (.int .i64 0),.sc (.int .i64 0),.sc (.int .i64 0),.sc (.int .i64 0),.sc (.int .i64 0)]/\dE prog 193=some (true,5)/\p7 prog 193=some [.sc (.int .i64 0),.sc (.int .i64 0),.sc (.int .i64 0),.sc (.bool false),.sc (.bool false)]/\fY prog 193=some [.sc (.int .i64 0),.sc (.int .i64 0),.sc (.int .i64 0),.sc (.bool false),.sc (.bool false)]/\dD prog 193 0=some (0,3)/\eR prog 193 0=some (0,1)/\dD prog 193 1=some (1,3)/\eR prog 193 1=some (1,1):=by and_intros<;>kernel_rfl
@[simp] theorem W8:prog.underlying 190=some (.array 21 167):=by kernel_rfl
@[simp] theorem XV:dD prog 193 2=some (2,3)/\eR prog 193 2=some (2,1)/\dD prog 193 3=some (3,4)/\eR prog 193 3=some (3,1)/\dD prog 193 4=some (4,4)/\eR prog 193 4=some (4,1)/\dE prog 206=some (false,1)/\fY prog 206=some [.sc .nilFunc]/\dE prog 211=some (true,14)/\p7 prog 211=some [.sc (.int .i64 0),.sc (.int .i64 0),.sc (.int .i64 0),.sc (.int .i64 0),.sc (.int .i64 0),.sc (.int .i64 0),.sc (.int .i64 0),.sc (.int .i64 0),.sc (.int .i64 0),.sc (.int .i64 0),.sc (.int .i64 0),.sc (.int .i64 0),.sc (.int .i64 0),.sc (.int .i64 0)]:=by and_intros<;>kernel_rfl
@[simp] theorem abM:fY prog 211=some [.sc (.int .i64 0),.sc (.int .i64 0),.sc (.int .i64 0),.sc (.int .i64 0),.sc (.int .i64 0),.sc (.int .i64 0),.sc (.int .i64 0),.sc (.int .i64 0),.sc (.int .i64 0),.sc (.int .i64 0),.sc (.int .i64 0),.sc (.int .i64 0),.sc (.int .i64 0),.sc (.int .i64 0)]/\dE prog 212=some (false,1)/\fY prog 212=some [.sc (.map none)]:=by and_intros<;>kernel_rfl
@[simp] theorem Wt:prog.underlying 211=some (.array 14 3):=by kernel_rfl
@[simp] theorem MT:prog.underlying 212=some (.map 3 4):=by kernel_rfl
@[simp] theorem ab1(tag:Tag)(l:List Ty):xl prog 27 (.slice tag (List.map Ty.av l)) none (some (.sc (.int .i64 (cI l)))) (some (.sc (.int .i64 (cI l))))=some (.slice .full (List.map Ty.av l)):=Ft _ l aa' Vv (λx=>by simp)
@[simp] theorem abX(tag:Tag)(l:List Fm):xl prog 33 (.slice tag (List.map Fm.av l)) none (some (.sc (.int .i64 (cI l)))) (some (.sc (.int .i64 (cI l))))=some (.slice .full (List.map Fm.av l)):=Ft _ l aav VE (λx=>by simp)
def c_.cs(x:c_):List AV:=x.av.cells
@[simp] theorem adI(a:Int):f_ prog 190 (.ju (.agg (List.flatMap (λx=>c_.cs x) lY))) (.sc (.int .i64 a))=(cr lY a).map λx=>.ju x.av:=Ej W8 QV (λx=>rfl) (λx=>⟨_,c_.fv x⟩) (λx=>by simp) rfl
@[simp] theorem adW(a:Int):f_ prog 211 (.ju (.agg (List.map (λn=>AV.sc (Value.int .i64 n)) oM))) (.sc (.int .i64 a))=(cr oM a).map λx=>.ju (.sc (.int .i64 x)):=Fh Wt Ul rfl
abbrev mA(T:cV):Prop:=T 1=some (AV.agg (List.map (λn=>AV.sc (Value.int .i64 n)) oM))/\T 0=some (AV.agg (List.flatMap (λx=>c_.cs x) lY))
def BW{S:Type}(T:cV)(g:Nat)(cap:List AV)(st:S->cc)(w:(S->Tm->Int->Option (Tm×S))):Prop:=
 ∀(X:cc) (s:S) (a:Tm) (b:Int) (c:Tm) (d:S),w s a b=some (c,d)->dr prog T g ([Tm.av a,sI b]++cap) (st s++X) (Tm.av c) (st d++X)
def BW.Wg{S:Type}{T:cV}{g:Nat}{cap:List AV}{st:S->cc}{w:(S->Tm->Int->Option (Tm×S))}(h:BW T g cap st w){s:S}{a:Tm}{b:Int}{c:Tm}{d:S}(hw:w s a b=some (c,d)):dr prog T g ([Tm.av a,sI b]++cap) (st s) (Tm.av c) (st d):=by
 have:=h [] s a b c d hw
 rwa [zG,zG] at this
def rR{S:Type}(T:cV)(g:Nat)(cap:List AV)(st:S->cc)(w:(S->Int->Int->Option (Tm×S))):Prop:=
 ∀(X:cc) (s:S) (a:Int) (b:Int) (c:Tm) (d:S),w s a b=some (c,d)->dr prog T g ([sI a,sI b]++cap) (st s++X) (Tm.av c) (st d++X)
def rR.ext{S:Type}{T:cV}{g:Nat}{cap:List AV}{st:S->cc}{w:(S->Int->Int->Option (Tm×S))}(h:rR T g cap st w){Y:cc}:rR T g cap (λs=>st s++Y) w:=λX s a b c d hw=>by
 have:=h (Y++X) s a b c d hw
 rwa [<-pQ,<-pQ] at this
def rR.Wg{S:Type}{T:cV}{g:Nat}{cap:List AV}{st:S->cc}{w:(S->Int->Int->Option (Tm×S))}(h:rR T g cap st w){s:S}{a b:Int}{c:Tm}{d:S}(hw:w s a b=some (c,d)):dr prog T g ([sI a,sI b]++cap) (st s) (Tm.av c) (st d):=by
 have:=h [] s a b c d hw
 rwa [zG,zG] at this
def Bx{S:Type}(T:cV)(g:Nat)(cap:List AV)(st:S->cc)(w:(S->Tm->Int->Option (S))):Prop:=
 ∀(X:cc) (s:S) (a:Tm) (b:Int) (c:S),w s a b=some c->dr prog T g ([Tm.av a,sI b]++cap) (st s++X) (AV.tuple []) (st c++X)
def Bx.Wg{S:Type}{T:cV}{g:Nat}{cap:List AV}{st:S->cc}{w:(S->Tm->Int->Option (S))}(h:Bx T g cap st w){s:S}{a:Tm}{b:Int}{c:S}(hw:w s a b=some c):dr prog T g ([Tm.av a,sI b]++cap) (st s) (AV.tuple []) (st c):=by
 have:=h [] s a b c hw
 rwa [zG,zG] at this
def rT{S:Type}(T:cV)(g:Nat)(cap:List AV)(st:S->cc)(w:(S->Int->Int->Option (S))):Prop:=
 ∀(X:cc) (s:S) (a:Int) (b:Int) (c:S),w s a b=some c->dr prog T g ([sI a,sI b]++cap) (st s++X) (AV.tuple []) (st c++X)
def rT.ext{S:Type}{T:cV}{g:Nat}{cap:List AV}{st:S->cc}{w:(S->Int->Int->Option (S))}(h:rT T g cap st w){Y:cc}:rT T g cap (λs=>st s++Y) w:=λX s a b c hw=>by
 have:=h (Y++X) s a b c hw
 rwa [<-pQ,<-pQ] at this
def rT.Wg{S:Type}{T:cV}{g:Nat}{cap:List AV}{st:S->cc}{w:(S->Int->Int->Option (S))}(h:rT T g cap st w){s:S}{a b:Int}{c:S}(hw:w s a b=some c):dr prog T g ([sI a,sI b]++cap) (st s) (AV.tuple []) (st c):=by
 have:=h [] s a b c hw
 rwa [zG,zG] at this
end Go.Proofs.YtffcgfpaakhbjaaGreatDoor
set_option maxRecDepth 20000
set_option maxHeartbeats 4000000
namespace Go.Proofs.YtffcgfpaakhbjaaGreatDoor
open Go Go.jN Go.dG Tryz
def iL{n:Nat}:C1 prog 44 (gJ n) Ty.av Ty.av:=by
 refine i1 λn j=>v1 func44 λT H a0 r m e=>?_;rw[gJ] at m;simp[e];refine Wr e m 999 (λi s2 f h=>∃a,(h=H/\f.1 3=sT a Ty.av s2/\f.1 7=sL Ty.av a0.aea/\f.1 8=sI (cI a0.aea)/\f.1 9=sI i/\bx f 1 (Ty.av a0).cells/\bx f 2 [sI 0,nL])/\Ow f [17] a s2) (by exact⟨.full,aau,iz.full⟩) (λs2 c _ _ E m=>?_) (λi _ s2 c _ _ _ _ E e m z p=>?_)
 ·have⟨a,E,b⟩:=E;have e:=Aj e E;dsimp only[ca]at m;exact au
 have⟨a,E,b⟩:=E;have e:=Aj e E;simp[e];refine dL m j λd m=>?_;have⟨e,m⟩:=Ck e m;simp[e];refine Ao (f:=Ty.av) s2 [d] b Ev e.2 ?_;simp[e];cases m;exact p _ _ _ ⟨(.loc 17 (c.dv 17+1)),aau,(On 17)⟩ z
def qI{n:Nat}:C1 prog 31 (kf n) Tm.av Tm.av:=by
 refine i1 λn j=>v1 func31 λT H a0 r m e=>?_;rw[kf] at m;simp[e];refine Wr e m 999 (λi s2 f h=>∃a,(h=H/\f.1 3=sT a Tm.av s2/\f.1 7=sL Tm.av a0.aea/\f.1 8=sI (cI a0.aea)/\f.1 9=sI i/\bx f 1 (Tm.av a0).cells/\bx f 2 [sI 0,sI 0,sI 0,nL,nL])/\Ow f [17] a s2) (by exact⟨.full,aau,iz.full⟩) (λs2 c _ _ E m=>?_) (λi _ s2 c _ _ _ _ E e m z p=>?_)
 ·have⟨a,E,b⟩:=E;have e:=Aj e E;dsimp only[ca]at m;simp[e];refine dY m iL λ_ m=>?_;exact au
 have⟨a,E,b⟩:=E;have e:=Aj e E;simp[e];refine dL m j λd m=>?_;have⟨e,m⟩:=Ck e m;simp[e];refine Ao (f:=Tm.av) s2 [d] b CM e.2 ?_;simp[e];cases m;exact p _ _ _ ⟨(.loc 17 (c.dv 17+1)),aau,(On 17)⟩ z
def eK:C2 prog 34 dO Tm.av sI (sL Tm.av):=by
 refine v2 func34 λT H a0 a1 r m e=>?_;rw[dO] at m;simp[e];refine Wr e m 999 (λi s2 f h=>∃a,(h=H/\f.1 0=sI a0/\f.1 5=sT a Tm.av s2/\f.1 8=sL Tm.av a1/\f.1 9=sI (cI a1)/\f.1 10=sI i/\bx f 4 [sI 0,sI 0,sI 0,nL,nL])/\Ow f [18] a s2) (by exact⟨.full,aau,iz.full⟩) (λs2 c _ _ E m=>?_) (λi _ s2 c _ _ _ _ E e m z p=>?_)
 ·have⟨a,E,b⟩:=E;have e:=Aj e E;dsimp only[ca]at m;exact au
 have⟨a,E,b⟩:=E;have e:=Aj e E;simp[e];refine dL m qI λd m=>?_;have⟨e,m⟩:=Ck e m;simp[e];refine Ao (f:=Tm.av) s2 [d] b CM e.2 ?_;simp[e];cases m;exact p _ _ _ ⟨(.loc 18 (c.dv 18+1)),aau,(On 18)⟩ z
def Ea:C1 prog 75 o8 Tm.av sI:=by
 refine v1 func75 λT H a0 r m e=>?_;rw[o8] at m;simp[e];refine dL m eK λ_ m=>?_;simp[e];refine Wn m 999 (λs2 f h=>∃a b,h=H/\f.1 0=sI s2.1/\bx f 2 [sI 0,sI 0,sI 0,nL,nL]/\bx f 3 [sI s2.2.1,sI s2.2.2.1,sI s2.2.2.2.1,sT a Ty.av s2.2.2.2.2.1,sT b Tm.av s2.2.2.2.2.2]) ⟨.gY,.gY,aau⟩ (λs2 _ _ _ _ _ E m z p=>?_);have⟨v9,v10,v11,v12,c,d⟩:=s2;have⟨a,b,E⟩:=E;have e:=Aj e E;dsimp only[yO]at m;apply Ir e m<;>intro e m
 ·cases m;have m:=Qb z;dsimp only[yO]at m;exact au
 simp[e];cases m;exact p _ _ _ ⟨.full,.full,aau⟩ z
def FO:C1 prog 42 sP (t2 Tm.av sI) sI:=by
 refine v1 func42 λT H a0 r m e=>?_;rw[sP] at m;refine Il e m λe m=>?_;refine Il e m λe m=>?_;simp[e];refine dL m Ea λ_ m=>?_;exact au
def vY:C1 prog 13 vg Tm.av sI:=by
 refine v1 func13 λT H a0 r m e=>?_;rw[vg] at m;simp[e];refine k5 m FO λ_ _ m=>?_;exact au
def t_:C2 prog 10 o_ Fm.av Tm.av Tm.av:=by
 refine v2 func10 λT H a0 a1 r m e=>?_;rw[o_] at m;simp[e];refine dY m qI λa m=>?_;simp[e];refine dY m qI λb m=>?_;have e:=Aj e (show AV.agg [sI 1,sI 0,AV.slice .gY [],AV.slice .gY [Tm.av a,Tm.av b],AV.slice .gY []]=Fm.av (Fm.mk 1 (Ty.mk 0 []) [a,b] []) by rw[Fm.eH];rfl);exact au
def Da{n:Nat}:C1 prog 187 (kY n) (t2 sI sB) Ty.av:=by
 refine i1 λn d=>u1 4 func187 λT H a0 r m e=>?_;rw[kY] at m;simp[e];refine B6 m 3 999 (λb f h=>∃v2,(h=H/\f.1 4=sI v2/\bx f 1 (Ty.av a0).cells)/\b v2=some r) ?_ (λb _ g m=>?_)
 ·rintro _ _ ⟨v2,E,m⟩;have e:=Aj e E;refine Il e m λe m=>?_;simp[e];refine Wr e m 999 (λc a f h=>h=H/\f.1 5=sI a/\f.1 25=sL Ty.av a0.aea/\f.1 26=sI (cI a0.aea)/\f.1 27=sI c) aau (λa _ _ _ E m=>?_) (λc _ a _ _ _ _ _ E e m z p=>?_)
  ·have e:=Aj e E;dsimp only[ca]at m;exact au
  have e:=Aj e E;simp[e];refine k5 m d λ_ _ m=>?_;refine Im e m λe m=>?_;exact al
 simp[e];refine wj 999 0 (λf h=>h=H/\f.1 4=sI 0/\f.1 11=sI a0.ad'/\f.1 12=sB (df (cn a0.ad' 1) true (df (cn a0.ad' 2) true (cn a0.ad' 5)))/\bx f 1 (Ty.av a0).cells) (λ_ g=>?_) ?_
 ·rcases Pb (cn a0.ad' 1) e with e|e
  ·exact aj
  rcases Pb (cn a0.ad' 2) e with e|e
  ·exact aj
  exact aj
 rintro _ _ E;have e:=Aj e E;apply Iq e m<;>intro e m
 ·apply wg 999;exact k8
 apply wg 1;simp[e];refine wj 999 999 (λf h=>h=H/\f.1 16=sB (df (cn a0.ad' 3) true (cn a0.ad' 4))/\bx f 1 (Ty.av a0).cells) (λ_ g=>?_) ?_
 ·rcases Pb (cn a0.ad' 3) e with e|e
  ·exact aj
  exact aj
 rintro _ _ E;have e:=Aj e E;refine Im e m λe m=>?_;exact k8
def oT:C1 prog 153 gH (t2 sI sI) Ty.av:=by
 refine v1 func153 λT H a0 r m e=>?_;rw[gH] at m;simp[e];refine k5 m Da λ_ _ m=>?_;refine Im e m λe m=>?_;refine Il e m λe m=>?_;exact au
def vn:C1 prog 154 mC sB Ty.av:=by
 refine u1 2 func154 λT H a0 r m e=>?_;rw[mC] at m;simp[e];refine IV 999 999 (λf h=>h=H/\f.1 2=sB (df (cn a0.ad' 0) (cn (cI a0.aea) 0) false)) ?_ (λ_ g=>?_)
 ·rintro _ _ E;have e:=Aj e E;exact au
 rcases Pb (cn a0.ad' 0) e with e|e
 ·exact aj
 exact aj
def GJ:C1 prog 149 p0 sB Fm.av:=by
 refine u1 4 func149 λT H a0 r m e=>?_;rw[p0] at m;simp[e];refine B6 m 5 0 (λa f h=>∃v2 v3 v4,(h=H/\f.1 3=sI v2/\f.1 4=sI v3/\f.1 5=sB v4/\bx f 1 (Fm.av a0).cells)/\a v2 v3 v4=some r) ?_ (λa _ g m=>?_)
 ·rintro _ _ ⟨v2,v3,v4,E,m⟩;have e:=Aj e E;refine B6 m 999 0 (λb f h=>(h=H/\f.1 3=sI v2/\f.1 4=sI v3/\bx f 1 (Fm.av a0).cells)/\b=some r) ?_ (λb _ g m=>?_)
  ·rintro _ _ ⟨E,m⟩;have e:=Aj e E;refine IV 999 999 (λf h=>h=H/\f.1 2=sB (df (cn (cI a0.cx) v2) (cn (cI a0.aea) v3) false)) ?_ (λ_ g=>?_)
   ·rintro _ _ E;have e:=Aj e E;exact au
   rcases Pb (cn (cI a0.cx) v2) e with e|e
   ·exact aj
   exact aj
  apply Iq e m<;>intro e m
  ·simp[e];refine k5 m oT λ_ _ m=>?_;refine Il e m λe m=>?_;exact Zj
  simp[e];refine dL m vn λ_ m=>?_;refine Im e m λe m=>?_;exact Zj
 simp[e];apply Iq e m<;>intro e m
 ·apply wg 999;exact ak3
 apply wg 1;simp[e];refine wj 999 0 (λf h=>h=H/\f.1 3=sI 0/\f.1 5=sB false/\f.1 9=sI a0.ad'/\f.1 12=sB (df (cn a0.ad' 2) true (cn a0.ad' 3))/\bx f 1 (Fm.av a0).cells) (λ_ g=>?_) ?_
 ·rcases Pb (cn a0.ad' 2) e with e|e
  ·exact aj
  exact aj
 rintro _ _ E;have e:=Aj e E;apply Iq e m<;>intro e m
 ·apply wg 999;exact ak3
 apply wg 1;simp[e];refine IV 999 999 (λf h=>h=H/\f.1 3=sI 0/\f.1 15=sB (df (cn a0.ad' 4) true (df (cn a0.ad' 5) true (df (cn a0.ad' 6) true (cn a0.ad' 7))))/\bx f 1 (Fm.av a0).cells) ?_ (λ_ g=>?_)
 ·rintro _ _ E;have e:=Aj e E;refine Im e m λe m=>?_;exact ak3
 rcases Pb (cn a0.ad' 4) e with e|e
 ·exact aj
 rcases Pb (cn a0.ad' 5) e with e|e
 ·exact aj
 rcases Pb (cn a0.ad' 6) e with e|e
 ·exact aj
 exact aj
def Jw(T:cV)(c:mA T){H:cc}{a0 a:Int}{b:Bool}(hm:tT a0=some (a,b)):dr prog T 181 [sI a0] H (AV.tuple [sI a,sB b]) H:=by
 rw[tT] at hm;have e:=c;refine wi aee func181 [] [] 3 ?_;simp[e];refine wj 999 999 (λf h=>h=H/\f.1 0=sI a0/\f.1 9=sB (df (sg a0 1) true (qJ a0 14))) (λ_ g=>?_) ?_
 ·rcases Pb (sg a0 1) e with e|e
  ·exact aj
  exact aj
 rintro _ _ E;have e:=Aj e E;refine Il e hm λe m=>?_;have⟨d,e,m⟩:=gu e m;exact au
def I0:C1 prog 182 tU sB sI:=by
 refine u1 2 func182 λT H a0 r m e=>?_;rw[tU] at m;simp[e];refine IV 999 999 (λf h=>h=H/\f.1 2=sB (df (cn a0 2) true (df (cn a0 6) true (cn a0 9)))) ?_ (λ_ g=>?_)
 ·rintro _ _ E;have e:=Aj e E;exact au
 rcases Pb (cn a0 2) e with e|e
 ·exact aj
 rcases Pb (cn a0 6) e with e|e
 ·exact aj
 exact aj
def Bl(T:cV)(i:mA T):∀(n:Nat),(∀{H:cc} {a0:Tm} {c:Int} {d:Bool} (hm:ij n a0=some (c,d)),dr prog T 150 [Tm.av a0] H (AV.tuple [sI c,sB d]) H):=by
  intro n
  induction n with
  |zero=>
    skip
    all_goals(intro _ _;intros;rename_i hm;cases hm)
  |succ n o=>
 intro H a0 c d hm;rw[ij] at hm;have e:=i;refine wi aee func150 [] [] 5 ?_;simp[e];refine k5 hm (Jw T i) λj k m=>?_;simp[e];refine wj 999 0 (λf h=>h=H/\f.1 42=sB (df k (df (cF (cI a0.aea) j) true (df (sg a0.aec 0) true (df (cF a0.aec 0) (cF a0.ad' 1) false))) true)/\bx f 1 (Tm.av a0).cells) (λ_ g=>?_) ?_
 ·rcases Pb k e with e|e;rotate_left
  ·exact aj
  rcases Pb (cF (cI a0.aea) j) e with e|e
  ·exact aj
  rcases Pb (sg a0.aec 0) e with e|e
  ·exact aj
  rcases Pb (cF a0.aec 0) e with e|e
  ·exact aj
  exact aj
 rintro _ _ E;have e:=Aj e E;apply Iq e m<;>intro e m
 ·apply wg 999;exact au
 apply wg 2;simp[e];refine Wj m 999 999 (λl f h=>(h=H/\f.1 1=AV.gx 1 (f.gen 1) 0/\f.box 1=some (Tm.av a0).cells)/\l=some (c,d)) (λl _ g m=>?_) ?_
 ·simp[e];refine dL m I0 λ_ m=>?_;apply Iq e m<;>intro e m
  ·simp[e];refine k5 m oT λ_ _ m=>?_;refine Il e m λe m=>?_;exact Zj
  simp[e];refine dL m vn λ_ m=>?_;refine Im e m λe m=>?_;exact Zj
 rintro _ _ ⟨E,m⟩;have e:=Aj e E;simp[e];refine Wr e m 999 (λb a f h=>h=H/\f.1 8=sI a/\f.1 59=sL Tm.av a0.aea/\f.1 60=sI (cI a0.aea)/\f.1 61=sI b) aau (λa _ _ _ E m=>?_) (λb _ a _ _ _ _ _ E e m z p=>?_)
 ·have e:=Aj e E;dsimp only[ca]at m;exact au
 have e:=Aj e E;simp[e];refine k5 m o λ_ _ m=>?_;refine Im e m λe m=>?_;exact al
def vT(T:cV)(c:mA T){H:cc}{a0:Tm}{a:Int}{b:Bool}{n:Nat}(hm:ij n a0=some (a,b)):dr prog T 150 [Tm.av a0] H (AV.tuple [sI a,sB b]) H:=(Bl T c n) hm
def yK(T:cV)(j:mA T):∀(n:Nat),(∀{H:cc} {a0:Fm} {c:Int} {d:Bool} (hm:hX n a0=some (c,d)),dr prog T 123 [Fm.av a0] H (AV.tuple [sI c,sB d]) H):=by
  intro n
  induction n with
  |zero=>
   skip
   all_goals(intro _ _;intros;rename_i hm;cases hm)
  |succ n l=>
 intro H a0 c d hm;rw[hX] at hm;have e:=j;refine wi aee func123 [] [] 999 ?_;simp[e];refine dL hm GJ λ_ m=>?_;refine Im e m λe m=>?_;simp[e];refine DH e m 999 (λk i f h=>h=H/\f.1 4=sI i/\f.1 17=sL Tm.av a0.cx/\f.1 18=sI (cI a0.cx)/\f.1 19=sI k/\bx f 1 (Fm.av a0).cells) aau (λk _ i _ _ _ _ _ E e m z p=>?_) (λi _ _ _ E m=>?_)
 ·have e:=Aj e E;simp[e];refine k5 m (vT T j) λ_ _ m=>?_;refine Im e m λe m=>?_;exact al
 have e:=Aj e E;dsimp only[ca]at m;simp[e];refine Wr e m 999 (λb a f h=>h=H/\f.1 4=sI a/\f.1 35=sL Fm.av a0.aea/\f.1 36=sI (cI a0.aea)/\f.1 37=sI b) aau (λa _ _ _ E m=>?_) (λb _ a _ _ _ _ _ E e m z p=>?_)
 ·have e:=Aj e E;dsimp only[ca]at m;exact au
 have e:=Aj e E;simp[e];refine k5 m l λ_ _ m=>?_;refine Im e m λe m=>?_;exact al
def zy(T:cV)(c:mA T){H:cc}{a0:Fm}{a:Int}{b:Bool}{n:Nat}(hm:hX n a0=some (a,b)):dr prog T 123 [Fm.av a0] H (AV.tuple [sI a,sB b]) H:=(yK T c n) hm
def hH(T:cV)(a:mA T){H:cc}{a0:Fm}{b c:Int}(hm:ez a0=some (b,c)):dr prog T 84 [Fm.av a0] H (AV.tuple [sI b,sI c]) H:=by
 rw[ez] at hm;have e:=a;refine wi aee func84 [] [] 999 ?_;simp[e];refine k5 hm (zy T a) λ_ _ m=>?_;refine Im e m λe m=>?_;refine Il e m λe m=>?_;exact au
def lq(T:cV)(a:mA T){H:cc}{a0:Fm}{b:Int}(hm:e9 a0=some b):dr prog T 47 [Fm.av a0] H (sI b) H:=by
 rw[e9] at hm;have e:=a;refine wi aee func47 [] [] 999 ?_;simp[e];refine k5 hm (hH T a) λ_ _ m=>?_;exact au
def zM{n:Nat}:C1 prog 107 (j9 n) sB Fm.av:=by
 refine i1 λn b=>u1 3 func107 λT H a0 r m e=>?_;rw[j9] at m;simp[e];refine wj 999 999 (λf h=>h=H/\f.1 12=sB (df (cn a0.ad' 6) true (cn a0.ad' 7))/\bx f 1 (Fm.av a0).cells) (λ_ g=>?_) ?_
 ·rcases Pb (cn a0.ad' 6) e with e|e
  ·exact aj
  exact aj
 rintro _ _ E;have e:=Aj e E;refine Il e m λe m=>?_;simp[e];refine Wr e m 999 (λa _ f h=>h=H/\f.1 14=sL Fm.av a0.aea/\f.1 15=sI (cI a0.aea)/\f.1 16=sI a) aau (λ_ _ _ _ E m=>?_) (λa _ _ _ _ _ _ _ E e m z p=>?_)
 ·have e:=Aj e E;dsimp only[ca]at m;exact au
 have e:=Aj e E;simp[e];refine dL m b λ_ m=>?_;refine Il e m λe m=>?_;exact al
def rC:C1 prog 137 jZ sB sI:=by
 refine u1 2 func137 λT H a0 r m e=>?_;rw[jZ] at m;simp[e];refine IV 999 999 (λf h=>h=H/\f.1 2=sB (df (qJ a0 0) (DU a0 4096) false)) ?_ (λ_ g=>?_)
 ·rintro _ _ E;have e:=Aj e E;exact au
 rcases Pb (qJ a0 0) e with e|e
 ·exact aj
 exact aj
def HH(T:cV){H:cc}{a0 a1:Int}{a b:Bool}{q0:Nat}(c:H[q0]?=some [sB a])(hm:kH a0 a1 a=some b):dr prog T 208 [sI a0,sI a1,AV.di q0 0] H (AV.tuple []) (dx H q0 [sB b]):=by
 rw[kH] at hm;have d:=eo c;refine dj.PS c ?_;have e:=d;refine wi aee func208 [] [] 999 ?_;refine Il e hm λe m=>?_;exact au
def F3(T:cV):∀(n:Nat),(∀{S:Type} {st:S->cc} {k:Nat} {a0:Tm} {a1:Int} {i:(S->Int->Int->Option (S))} {j:S} {b:S} {q0:Nat} {q1:Nat} {l:Nat} {o:List AV} (hF:Bn st k) (c:∀s,(st s)[q0]?=some [AV.func (.func l) [] o]) (a:rT T l o st i) (d:∀s,(st s)[q1]?=some [AV.func (.func 235) [] [AV.di q0 0,AV.di q1 0]]) (hm:fU n a0 a1 i j=some b),dr prog T 235 [Tm.av a0,sI a1,AV.di q0 0,AV.di q1 0] (st j) (AV.tuple []) (st b)):=by
  intro n
  induction n with
  |zero=>
    skip
    all_goals(intro _ _;intros;rename_i hm;cases hm)
  |succ n w=>
 intro S st k a0 a1 i j b q0 q1 l o hF c a d hm;rw[fU] at hm;have t:=λs=>eo (c s);have u:=λs=>eo (d s);have e:=Aj (Aj (Aj (Aj hF.len t) c) u) d;refine wi aee func235 [] [] 2 ?_;simp[e];refine Wj hm 999 0 (λv f h=>∃v2,(h=st v2/\f.1 1=sI a1/\f.1 3=AV.di q1 0/\f.1 4=AV.gx 4 (f.gen 4) 0/\f.box 4=some (Tm.av a0).cells)/\v v2=some b) (λv _ g m=>?_) ?_
 ·apply Ir e m<;>intro e m
  ·exact k8
  have⟨y,e,m⟩:=gu e m;simp[e];refine ic.TT abC (rT.Wg a e.2) ?_;exact k8
 rintro _ _ ⟨v2,E,m⟩;have e:=Aj e E;refine wj 999 999 (λf h=>h=st v2/\f.1 1=sI (df (cn a0.ad' 2) (c8 .i64 a1 1) a1)/\f.1 3=AV.di q1 0/\f.1 4=AV.gx 4 (f.gen 4) 0/\f.box 4=some (Tm.av a0).cells) (λ_ g=>?_) ?_
 ·rcases Pb (cn a0.ad' 2) e with e|e
  ·exact aj
  exact aj
 rintro _ _ E;have e:=Aj e E;simp[e];refine Wr e m 999 (λr q f h=>h=st q/\f.1 1=sI (df (cn a0.ad' 2) (c8 .i64 a1 1) a1)/\f.1 3=AV.di q1 0/\f.1 22=sL Tm.av a0.aea/\f.1 23=sI (cI a0.aea)/\f.1 24=sI r) aau (λq _ _ _ E m=>?_) (λr _ q _ _ _ _ _ E e m z p=>?_)
 ·have e:=Aj e E;dsimp only[ca]at m;exact au
 have e:=Aj e E;have⟨x,e,m⟩:=gu e m;simp[e];refine ic.TT abC (w hF c a d e.2) ?_;exact al
def GG(T:cV){S:Type}{st:S->cc}{k:Nat}{a0:Tm}{a1:Int}{a:(S->Int->Int->Option (S))}{b c:S}{q0 q1 d:Nat}{e:List AV}(hF:Bn st k)(g:∀s,(st s)[q0]?=some [AV.func (.func d) [] e])(f:rT T d e st a)(h:∀s,(st s)[q1]?=some [AV.func (.func 235) [] [AV.di q0 0,AV.di q1 0]]){n:Nat}(hm:fU n a0 a1 a b=some c):dr prog T 235 [Tm.av a0,sI a1,AV.di q0 0,AV.di q1 0] (st b) (AV.tuple []) (st c):=(F3 T n) hF g f h hm
def Dg(T:cV){S:Type}{st:S->cc}{k:Nat}{a0:Tm}{a1:(S->Int->Int->Option (S))}{c b:S}{g1:Nat}{a:List AV}(hF:Bn st k)(d:rT T g1 a st a1)(hm:oI a0 a1 c=some b):dr prog T 207 [Tm.av a0,AV.func (.func g1) [] a] (st c) (AV.tuple []) (st b):=by
 rw[oI] at hm;refine dj.U7 hF (Post:=λx K=>x=AV.tuple []/\∃X,K=(st b)++X) ?_ (λ_ _ h=>⟨_,h.2.choose,h.2.choose_spec,by rw[h.1];simp[AV.low,AV.gw],h.1,rfl⟩);have e:=hF.len;refine wi aee func207 [3,4] [] 999 ?_;have⟨s1,e,m⟩:=gu e hm;simp[e];refine ic.TT abC (GG T (st:=λs=>st s++[[AV.func (.func g1) [] a],[AV.func (.func 235) [] [AV.di k 0,AV.di (k+1) 0]]]) (Bn.ext hF _ (n:=k+2) aas) (λ_=>aau) (rT.ext d) (λ_=>aau) e.2) ?_;exact au
def DT(T:cV){H:cc}{a0:Tm}{a:Bool}(hm:oC a0=some a):dr prog T 167 [Tm.av a0] H (sB a) H:=by
 rw[oC] at hm;refine dj.sH (Post:=λx K=>x=sB a/\∃X,K=H++X) ?_ (λ_ _ h=>⟨_,h.2.choose_spec,by rw[h.1];simp[AV.low,AV.gw],h.1,rfl⟩);have e:=trivial;refine wi aee func167 [3] [] 999 ?_;simp[e];refine dL hm (Dg T (st:=λs:Bool=>H++[[sB s]]) (Bn.UP H (λs:Bool=>[[sB s]]) 1 (λ_=>rfl) (by simp[AV.low,AV.gw])) (λX s _ _ b h=>by have:=HH T (H:=H++[[sB s]]++X) (q0:=(List.length H)) aau h;simpa using this)) λ_ m=>?_;exact au
def ye(T:cV){H:cc}{a0:Tm}{a1:Int}{a b:Bool}{q0:Nat}(c:H[q0]?=some [sB a])(hm:gM a0 a1 a=some b):dr prog T 166 [Tm.av a0,sI a1,AV.di q0 0] H (AV.tuple []) (dx H q0 [sB b]):=by
 rw[gM] at hm;have d:=eo c;refine dj.PS c ?_;have e:=d;refine wi aee func166 [] [] 999 ?_;refine Im e hm λe m=>?_;simp[e];refine dL m (DT T) λ_ m=>?_;exact au
def uv:C1 prog 127 lr sB sI:=by
 refine u1 2 func127 λT H a0 r m e=>?_;rw[lr] at m;simp[e];refine IV 999 999 (λf h=>h=H/\f.1 2=sB (df (qJ a0 4) (DU a0 7) false)) ?_ (λ_ g=>?_)
 ·rintro _ _ E;have e:=Aj e E;exact au
 rcases Pb (qJ a0 4) e with e|e
 ·exact aj
 exact aj
def CI(T:cV):∀(n:Nat),(∀{S:Type} {st:S->cc} {k:Nat} {a0:Fm} {a1:Int} {a2:(S->Tm->Int->Option (S))} {c:S} {b:S} {g2:Nat} {a:List AV} (hF:Bn st k) (d:Bx T g2 a st a2) (hm:gU n a0 a1 a2 c=some b),dr prog T 165 [Fm.av a0,sI a1,AV.func (.func g2) [] a] (st c) (AV.tuple []) (st b)):=by
  intro n
  induction n with
  |zero=>
    skip
    all_goals(intro _ _;intros;rename_i hm;cases hm)
  |succ n q=>
 intro S st k a0 a1 a2 c b g2 a hF d hm;rw[gU] at hm;have e:=hF.len;refine wi aee func165 [] [] 999 ?_;simp[e];refine DH e hm 0 (λo s2 f h=>h=st s2/\f.1 1=sI a1/\f.1 2=AV.func (.func g2) [] a/\f.1 11=sL Tm.av a0.cx/\f.1 12=sI (cI a0.cx)/\f.1 13=sI o/\bx f 3 (Fm.av a0).cells) aau (λo _ s2 _ _ _ _ _ E e m z p=>?_) (λs2 _ _ _ E m=>?_)
 ·have e:=Aj e E;apply wg 999;have⟨r,e,m⟩:=gu e m;simp[e];refine ic.TT abC (Bx.Wg d e.2) ?_;exact al
 have e:=Aj e E;apply wg 5;dsimp only[ca]at m;simp[e];refine Wj m 999 999 (λj f h=>∃v12,(h=st s2/\f.1 1=sI v12/\f.1 2=AV.func (.func g2) [] a/\f.1 3=AV.gx 3 (f.gen 3) 0/\f.box 3=some (Fm.av a0).cells)/\j v12=some b) (λj _ g m=>?_) ?_
 ·simp[e];refine dL m uv λ_ m=>?_;apply Ir e m<;>intro e m
  ·exact k8
  exact k8
 rintro _ _ ⟨v12,E,m⟩;have e:=Aj e E;simp[e];refine Wr e m 999 (λl i f h=>h=st i/\f.1 1=sI v12/\f.1 2=AV.func (.func g2) [] a/\f.1 28=sL Fm.av a0.aea/\f.1 29=sI (cI a0.aea)/\f.1 30=sI l) aau (λi _ _ _ E m=>?_) (λl _ i _ _ _ _ _ E e m z p=>?_)
 ·have e:=Aj e E;dsimp only[ca]at m;exact au
 have e:=Aj e E;simp[e];refine dL m (q hF d) λ_ m=>?_;exact al
def xG(T:cV){S:Type}{st:S->cc}{k:Nat}{a0:Fm}{a1:Int}{a2:(S->Tm->Int->Option (S))}{b c:S}{g2:Nat}{a:List AV}(hF:Bn st k)(d:Bx T g2 a st a2){n:Nat}(hm:gU n a0 a1 a2 b=some c):dr prog T 165 [Fm.av a0,sI a1,AV.func (.func g2) [] a] (st b) (AV.tuple []) (st c):=(CI T n) hF d hm
def tQ(T:cV){H:cc}{a0:Fm}{a:Bool}(hm:kR a0=some a):dr prog T 138 [Fm.av a0] H (sB a) H:=by
 rw[kR] at hm;refine dj.sH (Post:=λx K=>x=sB a/\∃X,K=H++X) ?_ (λ_ _ h=>⟨_,h.2.choose_spec,by rw[h.1];simp[AV.low,AV.gw],h.1,rfl⟩);have e:=trivial;refine wi aee func138 [3] [] 999 ?_;simp[e];refine dL hm (xG T (st:=λs:Bool=>H++[[sB s]]) (Bn.UP H (λs:Bool=>[[sB s]]) 1 (λ_=>rfl) (by simp[AV.low,AV.gw])) (λX s _ _ b h=>by have:=ye T (H:=H++[[sB s]]++X) (q0:=(List.length H)) aau h;simpa using this)) λ_ m=>?_;exact au
def ud:C1 prog 58 fu Tm.av sI:=by
 refine v1 func58 λT H a0 r m e=>?_;rw[fu] at m;exact au
def Hr(T:cV){H:cc}{a0 a1 a b:Int}{k:Tm}{q0 q1:Nat}(c:H[q0]?=some [sI a])(d:H[q1]?=some [sI b])(hm:r8 a0 a1 a b=some k):dr prog T 129 [sI a0,sI a1,AV.di q0 0,AV.di q1 0] H (Tm.av k) H:=by
 rw[r8] at hm;have i:=eo c;have j:=eo d;have e:=Aj (Aj (Aj i c) j) d;refine wi aee func129 [] [] 2 ?_;simp[e];refine IV 999 999 (λf h=>h=H/\f.1 0=sI (df (qJ (dh .i64 a0 a1) a) (c8 .i64 a0 b) a0)/\f.1 6=AV.gx 6 (f.gen 6) 0/\f.box 6=some [sI 0,sI 0,sI 0,nL,nL]) ?_ (λ_ g=>?_)
 ·rintro _ _ E;have e:=Aj e E;simp[e];refine dL hm ud λ_ m=>?_;exact au
 rcases Pb (qJ (dh .i64 a0 a1) a) e with e|e
 ·exact aj
 exact aj
def n7{n:Nat}:C1 prog 126 (ik n) Ty.av Ty.av:=by
 refine i1 λn j=>v1 func126 λT H a0 r m e=>?_;rw[ik] at m;simp[e];refine Wr e m 999 (λi s2 f h=>∃a,(h=H/\f.1 10=sL Ty.av a0.aea/\f.1 11=sI (cI a0.aea)/\f.1 12=sI i/\bx f 2 [sI 0,nL]/\bx f 3 [sI a0.ad',sT a Ty.av s2])/\Ow f [21] a s2) (by exact⟨.full,aau,iz.full⟩) (λs2 c _ _ E m=>?_) (λi _ s2 c _ _ _ _ E e m z p=>?_)
 ·have⟨a,E,b⟩:=E;have e:=Aj e E;dsimp only[ca]at m;exact au
 have⟨a,E,b⟩:=E;have e:=Aj e E;simp[e];refine dY m j λd m=>?_;have⟨e,m⟩:=Ck e m;simp[e];refine Ad (f:=Ty.av) s2 [d] b Ev e.2 ?_;simp[e];cases m;exact p _ _ _ ⟨(.loc 21 (c.dv 21+1)),aau,(On 21)⟩ z
def Bb(T:cV):∀(n:Nat),(∀{S:Type} {st:S->cc} {k:Nat} {a0:Tm} {a1:Int} {l:(S->Int->Int->Option (Tm×S))} {c:S} {x:Tm} {o:S} {q0:Nat} {q1:Nat} {q:Nat} {r:List AV} (hF:Bn st k) (d:∀s,(st s)[q0]?=some [AV.func (.func q) [] r]) (b:rR T q r st l) (i:∀s,(st s)[q1]?=some [AV.func (.func 157) [] [AV.di q0 0,AV.di q1 0]]) (hm:fl n a0 a1 l c=some (x,o)),dr prog T 157 [Tm.av a0,sI a1,AV.di q0 0,AV.di q1 0] (st c) (Tm.av x) (st o)):=by
  intro n
  induction n with
  |zero=>
    skip
    all_goals(intro _ _;intros;rename_i hm;cases hm)
  |succ n F=>
 intro S st k a0 a1 l c x o q0 q1 q r hF d b i hm;rw[fl] at hm;have y:=λs=>eo (d s);have A:=λs=>eo (i s);have e:=Aj (Aj (Aj (Aj hF.len y) d) A) i;refine wi aee func157 [] [(9,false,[true,true,false,true,true,true,true,true,true,true])] 5 ?_;simp[e];apply Iq e hm<;>intro e m
 ·apply wg 999;have⟨H,I,e,m⟩:=Bo2 e m;simp[e];refine ic.TT abC (rR.Wg b e.2) ?_;exact au
 apply wg 4;simp[e];refine dY m n7 λw m=>?_;simp[e];refine wj 999 999 (λf h=>h=st c/\f.1 1=sI (df (cn a0.ad' 2) (c8 .i64 a1 1) a1)/\f.1 3=AV.di q1 0/\bx f 4 (Tm.av a0).cells/\bx f 6 [sI 0,sI 0,sI 0,nL,nL]/\bx f 7 [sI a0.ad',sI a0.aec,sI w.ad',sL Ty.av w.aea,nL]) (λ_ g=>?_) ?_
 ·rcases Pb (cn a0.ad' 2) e with e|e
  ·exact aj
  exact aj
 rintro _ _ E;have e:=Aj e E;simp[e];refine Wr e m 999 (λD t f h=>∃a,(h=st t.2/\f.1 1=sI (df (cn a0.ad' 2) (c8 .i64 a1 1) a1)/\f.1 3=AV.di q1 0/\f.1 32=sL Tm.av a0.aea/\f.1 33=sI (cI a0.aea)/\f.1 34=sI D/\bx f 6 [sI 0,sI 0,sI 0,nL,nL]/\bx f 7 [sI a0.ad',sI a0.aec,sI w.ad',sL Ty.av w.aea,sT a Tm.av t.1])/\Ow f [45] a t.1) (by exact⟨.full,aau,iz.full⟩) (λt u _ _ E m=>?_) (λD _ t u _ _ _ _ E e m z p=>?_)
 ·have⟨v,B⟩:=t;have⟨a,E,j⟩:=E;have e:=Aj e E;dsimp only[ca,ru]at m;exact au
 have⟨v,B⟩:=t;have⟨a,E,j⟩:=E;have e:=Aj e E;dsimp only[ru]at m;have⟨C,G,e,m⟩:=Bo2 e m;simp[e];refine dX.TT abC (F hF d b i e.2) aas ?_;have⟨e,m⟩:=Ck e m;simp[e];refine Ad (f:=Tm.av) v [C] j CM e.2 ?_;simp[e];cases m;exact p _ _ _ ⟨(.loc 45 (u.dv 45+1)),aau,(On 45)⟩ z
def CG(T:cV){S:Type}{st:S->cc}{k:Nat}{a0:Tm}{a1:Int}{a:(S->Int->Int->Option (Tm×S))}{b:S}{i:Tm}{c:S}{q0 q1 d:Nat}{e:List AV}(hF:Bn st k)(g:∀s,(st s)[q0]?=some [AV.func (.func d) [] e])(f:rR T d e st a)(h:∀s,(st s)[q1]?=some [AV.func (.func 157) [] [AV.di q0 0,AV.di q1 0]]){n:Nat}(hm:fl n a0 a1 a b=some (i,c)):dr prog T 157 [Tm.av a0,sI a1,AV.di q0 0,AV.di q1 0] (st b) (Tm.av i) (st c):=(Bb T n) hF g f h hm
def x5(T:cV){S:Type}{st:S->cc}{k:Nat}{a0:Tm}{a1:(S->Int->Int->Option (Tm×S))}{c:S}{d:Tm}{b:S}{g1:Nat}{a:List AV}(hF:Bn st k)(f:rR T g1 a st a1)(hm:mY a0 a1 c=some (d,b)):dr prog T 128 [Tm.av a0,AV.func (.func g1) [] a] (st c) (Tm.av d) (st b):=by
 rw[mY] at hm;refine dj.U7 hF (Post:=λx K=>x=Tm.av d/\∃X,K=(st b)++X) ?_ (λ_ _ h=>⟨_,h.2.choose,h.2.choose_spec,by rw[h.1];simp[AV.low,AV.gw],h.1,rfl⟩);have e:=hF.len;refine wi aee func128 [3,5] [] 999 ?_;have⟨i,s2,e,m⟩:=Bo2 e hm;simp[e];refine ic.TT abC (CG T (st:=λs=>st s++[[AV.func (.func g1) [] a],[AV.func (.func 157) [] [AV.di k 0,AV.di (k+1) 0]]]) (Bn.ext hF _ (n:=k+2) aas) (λ_=>aau) (rR.ext f) (λ_=>aau) e.2) ?_;exact au
def yQ(T:cV){H:cc}{a0:Tm}{a1 a2:Int}{a:Tm}(hm:oP a0 a1 a2=some a):dr prog T 89 [Tm.av a0,sI a1,sI a2] H (Tm.av a) H:=by
 rw[oP] at hm;refine dj.sH (Post:=λx K=>x=Tm.av a/\∃X,K=H++X) ?_ (λ_ _ h=>⟨_,h.2.choose_spec,by rw[h.1];simp[AV.low,AV.gw],h.1,rfl⟩);have e:=trivial;refine wi aee func89 [4,5] [] 999 ?_;simp[e];refine k5 hm (x5 T (st:=λ_:Unit=>H++[[sI a1],[sI a2]]) (Bn.const _) (λX _ _ _ _ _ h=>by obtain⟨b,rfl⟩:=tC h;exact Hr T (q0:=(List.length H)) (q1:=(List.length H+1)) aau aau b)) λ_ _ m=>?_;exact au
def ya(T:cV){H:cc}{a0:Tm}{a1 a b:Int}{i:Tm}{q0 q1:Nat}(c:H[q0]?=some [sI a])(d:H[q1]?=some [sI b])(hm:kX a0 a1 a b=some i):dr prog T 88 [Tm.av a0,sI a1,AV.di q0 0,AV.di q1 0] H (Tm.av i) H:=by
 rw[kX] at hm;have f:=eo c;have h:=eo d;have e:=Aj (Aj (Aj f c) h) d;refine wi aee func88 [] [] 999 ?_;simp[e];refine dL hm (yQ T) λ_ m=>?_;exact au
def wF(T:cV):∀(n:Nat),(∀{S:Type} {st:S->cc} {k:Nat} {a0:Fm} {a1:Int} {a2:(S->Tm->Int->Option (Tm×S))} {u:S} {D:Fm} {r:S} {g2:Nat} {i:List AV} (hF:Bn st k) (v:BW T g2 i st a2) (hm:cN n a0 a1 a2 u=some (D,r)),dr prog T 87 [Fm.av a0,sI a1,AV.func (.func g2) [] i] (st u) (Fm.av D) (st r)):=by
  intro n
  induction n with
  |zero=>
    skip
    all_goals(intro _ _;intros;rename_i hm;cases hm)
  |succ n I=>
 intro S st k a0 a1 a2 u D r g2 i hF v hm;rw[cN] at hm;have e:=hF.len;refine wi aee func87 [] [] 999 ?_;simp[e];refine dY hm n7 λy m=>?_;simp[e];refine DH e m 0 (λH w f h=>∃b,(h=st w.2/\f.1 1=sI a1/\f.1 2=AV.func (.func g2) [] i/\f.1 19=sL Tm.av a0.cx/\f.1 20=sI (cI a0.cx)/\f.1 21=sI H/\bx f 3 (Fm.av a0).cells/\bx f 6 [sI 0,sI 0,nL,nL,nL]/\bx f 7 [sI a0.ad',sI y.ad',sL Ty.av y.aea,sT b Tm.av w.1,nL])/\Ow f [32] b w.1) (by exact⟨.full,aau,iz.full⟩) (λH _ w A _ _ _ _ E e m z p=>?_) (λw A _ _ E m=>?_)
 ·have⟨v11,v12⟩:=w;have⟨b,E,o⟩:=E;have e:=Aj e E;dsimp only[ru]at m;apply wg 999;have⟨F,J,e,m⟩:=Bo2 e m;simp[e];refine dX.TT abC (BW.Wg v e.2) aas ?_;have⟨e,m⟩:=Ck e m;simp[e];refine Ad (f:=Tm.av) v11 [F] o CM e.2 ?_;simp[e];cases m;exact p _ _ _ ⟨(.loc 32 (A.dv 32+1)),aau,(On 32)⟩ z
 have⟨v11,v12⟩:=w;have⟨b,E,o⟩:=E;have e:=Aj e E;apply wg 5;dsimp only[ca,ru]at m;simp[e];refine Wj m 999 999 (λB f h=>∃s c,(h=st v12/\f.1 1=sI s/\f.1 2=AV.func (.func g2) [] i/\bx f 3 (Fm.av a0).cells/\bx f 6 [sI 0,sI 0,nL,nL,nL]/\bx f 7 [sI a0.ad',sI y.ad',sL Ty.av y.aea,sT c Tm.av v11,nL])/\Ow f [32] c v11/\B s=some (D,r)) (λB _ g m=>?_) ?_
 ·simp[e];refine dL m uv λ_ m=>?_;apply Ir e m<;>intro e m
  ·simp[e];exact g _ _ ⟨a1,b,aau,o,m⟩
  simp[e];exact g _ _ ⟨(c8 .i64 a1 1),b,aau,o,m⟩
 rintro _ _ ⟨s,c,E,x,m⟩;have e:=Aj e E;simp[e];refine Wr e m 999 (λC j f h=>∃a d,(h=st j.2/\f.1 1=sI s/\f.1 2=AV.func (.func g2) [] i/\f.1 41=sL Fm.av a0.aea/\f.1 42=sI (cI a0.aea)/\f.1 43=sI C/\bx f 6 [sI 0,sI 0,nL,nL,nL]/\bx f 7 [sI a0.ad',sI y.ad',sL Ty.av y.aea,sT a Tm.av v11,sT d Fm.av j.1])/\Ow f [32] a v11/\Ow f [54] d j.1) (by exact⟨c,.full,aau,x,iz.full⟩) (λj t _ _ E m=>?_) (λC _ j t _ _ _ _ E e m z p=>?_)
 ·have⟨v30,v31⟩:=j;have⟨a,d,E,q,l⟩:=E;have e:=Aj e E;dsimp only[ca,ru]at m;exact au
 have⟨v30,v31⟩:=j;have⟨a,d,E,q,l⟩:=E;have e:=Aj e E;dsimp only[ru]at m;simp[e];refine qX m (I hF v) λG _ m=>?_;have⟨e,m⟩:=Ck e m;simp[e];refine Ad (f:=Fm.av) v30 [G] l JN e.2 ?_;simp[e];cases m;exact p _ _ _ ⟨a,(.loc 54 (t.dv 54+1)),aau,(iz.other q l aaq aaq),(On 54)⟩ z
def nB(T:cV){S:Type}{st:S->cc}{k:Nat}{a0:Fm}{a1:Int}{a2:(S->Tm->Int->Option (Tm×S))}{b:S}{e:Fm}{c:S}{g2:Nat}{a:List AV}(hF:Bn st k)(d:BW T g2 a st a2){n:Nat}(hm:cN n a0 a1 a2 b=some (e,c)):dr prog T 87 [Fm.av a0,sI a1,AV.func (.func g2) [] a] (st b) (Fm.av e) (st c):=(wF T n) hF d hm
def pM(T:cV){H:cc}{a0:Fm}{a1 a2:Int}{a:Fm}(hm:da a0 a1 a2=some a):dr prog T 51 [Fm.av a0,sI a1,sI a2] H (Fm.av a) H:=by
 rw[da] at hm;refine dj.sH (Post:=λx K=>x=Fm.av a/\∃X,K=H++X) ?_ (λ_ _ h=>⟨_,h.2.choose_spec,by rw[h.1];simp[AV.low,AV.gw],h.1,rfl⟩);have e:=trivial;refine wi aee func51 [4,5] [] 999 ?_;simp[e];refine k5 hm (nB T (st:=λ_:Unit=>H++[[sI a1],[sI a2]]) (Bn.const _) (λX _ _ _ _ _ h=>by obtain⟨b,rfl⟩:=tC h;exact ya T (q0:=(List.length H)) (q1:=(List.length H+1)) aau aau b)) λ_ _ m=>?_;exact au
def Gf(T:cV)(c:mA T){H:cc}{a0:Fm}{a1 a2:Int}{a:Fm}{b:Int}(hm:qt a0 a1 a2=some (a,b)):dr prog T 108 [Fm.av a0,sI a1,sI a2] H (AV.tuple [Fm.av a,sI b]) H:=by
 rw[qt] at hm;have e:=c;refine wi aee func108 [] [] 7 ?_;simp[e];refine dL hm (lq T c) λ_ m=>?_;simp[e];apply Iq e m<;>intro e m
 ·apply wg 999;exact au
 apply wg 3;simp[e];refine B6 m 999 999 (λd f h=>∃v3,(h=H/\f.1 1=sI a1/\f.1 2=sI a2/\f.1 27=sB v3/\bx f 3 (Fm.av a0).cells/\bx f 6 [sI 0,sI 0,nL,nL,nL])/\d v3=some (a,b)) ?_ (λd _ g m=>?_)
 ·rintro _ _ ⟨v3,E,m⟩;have e:=Aj e E;refine Il e m λe m=>?_;simp[e];refine dL m (pM T) λ_ m=>?_;exact au
 simp[e];refine dL m rC λ_ m=>?_;apply Ir e m<;>intro e m
 ·exact k8
 simp[e];refine dL m rC λ_ m=>?_;apply Ir e m<;>intro e m
 ·exact k8
 simp[e];refine dL m (tQ T) λ_ m=>?_;exact k8
def BX(T:cV)(c:mA T):∀(n:Nat),(∀{H:cc} {a0:Fm} {a1:Int} {a:Int} (hm:gh n a0 a1=some a),dr prog T 90 [Fm.av a0,sI a1] H (sI a) H):=by
  intro n
  induction n with
  |zero=>
   skip
   all_goals(intro _ _;intros;rename_i hm;cases hm)
  |succ n d=>
 intro H a0 a1 a hm;rw[gh] at hm;have e:=c;refine wi aee func90 [] [] 999 ?_;simp[e];refine k5 hm (hH T c) λ_ _ m=>?_;refine Il e m λe m=>?_;apply Iq e m<;>intro e m
 ·have⟨j,e,m⟩:=gu e m;simp[e];refine dL m d λ_ m=>?_;exact au
 simp[e];refine Wr e m 999 (λi b f h=>h=H/\f.1 1=sI a1/\f.1 5=sI b/\f.1 36=sL Fm.av a0.aea/\f.1 37=sI (cI a0.aea)/\f.1 38=sI i) aau (λb _ _ _ E m=>?_) (λi _ b _ _ _ _ _ E e m z p=>?_)
 ·have e:=Aj e E;dsimp only[ca]at m;exact au
 have e:=Aj e E;simp[e];refine dL m d λ_ m=>?_;exact al
def vE(T:cV)(b:mA T){H:cc}{a0:Fm}{a1 a:Int}{n:Nat}(hm:gh n a0 a1=some a):dr prog T 90 [Fm.av a0,sI a1] H (sI a) H:=(BX T b n) hm
def rG(T:cV)(a:mA T){H:cc}{a0 a1:Fm}{b:Int}(hm:jY a0 a1=some b):dr prog T 65 [Fm.av a0,Fm.av a1] H (sI b) H:=by
 rw[jY] at hm;have e:=a;refine wi aee func65 [] [] 999 ?_;simp[e];refine dL hm (lq T a) λ_ m=>?_;refine Il e m λe m=>?_;simp[e];refine dL m (lq T a) λ_ m=>?_;refine Il e m λe m=>?_;simp[e];refine dL m zM λ_ m=>?_;refine Il e m λe m=>?_;simp[e];refine k5 m (Gf T a) λ_ _ m=>?_;refine Il e m λe m=>?_;simp[e];refine k5 m (hH T a) λ_ _ m=>?_;simp[e];refine dL m (vE T a) λ_ m=>?_;refine Il e m λe m=>?_;exact au
def x9:C2 prog 101 rv Fm.av sI (sL Fm.av):=by
 refine v2 func101 λT H a0 a1 r m e=>?_;rw[rv] at m;exact au
def ea:C2 prog 67 dJ Fm.av Fm.av Fm.av:=by
 refine v2 func67 λT H a0 a1 r m e=>?_;rw[dJ] at m;simp[e];refine dL m x9 λ_ m=>?_;exact au
def Fq{n:Nat}:C1 prog 117 (tf n) Tm.av Tm.av:=by
 refine i1 λn l=>v1 func117 λT H a0 r m e=>?_;rw[tf] at m;simp[e];refine dY m n7 λj m=>?_;simp[e];refine Wr e m 999 (λk c f h=>∃a,(h=H/\f.1 15=sL Tm.av a0.aea/\f.1 16=sI (cI a0.aea)/\f.1 17=sI k/\bx f 2 [sI 0,sI 0,sI 0,nL,nL]/\bx f 3 [sI a0.ad',sI a0.aec,sI j.ad',sL Ty.av j.aea,sT a Tm.av c])/\Ow f [26] a c) (by exact⟨.full,aau,iz.full⟩) (λc d _ _ E m=>?_) (λk _ c d _ _ _ _ E e m z p=>?_)
 ·have⟨a,E,b⟩:=E;have e:=Aj e E;dsimp only[ca]at m;exact au
 have⟨a,E,b⟩:=E;have e:=Aj e E;simp[e];refine dY m l λi m=>?_;have⟨e,m⟩:=Ck e m;simp[e];refine Ad (f:=Tm.av) c [i] b CM e.2 ?_;simp[e];cases m;exact p _ _ _ ⟨(.loc 26 (d.dv 26+1)),aau,(On 26)⟩ z
def zA:C2 prog 116 iS Tm.av Tm.av sI:=by
 refine v2 func116 λT H a0 a1 r m e=>?_;rw[iS] at m;simp[e];refine dL m Fq λ_ m=>?_;exact au
def uw:C1 prog 70 iq Fm.av Fm.av:=by
 refine v1 func70 λT H a0 r m e=>?_;rw[iq] at m;simp[e];refine k5 m (nB T (st:=λ_:Unit=>H) (Bn.const _) (λX _ _ _ _ _ h=>by obtain⟨a,rfl⟩:=tC h;exact zA a)) λ_ _ m=>?_;exact au
def uF:C3 prog 102 fx Fm.av sI Ty.av Fm.av:=by
 refine v3 func102 λT H a0 a1 a2 r m e=>?_;rw[fx] at m;have e:=Aj e (show AV.agg [sI a0,sI a1.ad',sL Ty.av a1.aea,AV.slice .gY [],AV.slice .gY [Fm.av a2]]=Fm.av (Fm.mk a0 a1 [] [a2]) by rw[Fm.eH];rfl);exact au
def dX.aa4{P:Program}{T:cV}{E:List Nat}{ops:Array Oper}{q:Qt}{bs:List Bool}{rest:List Oper}{K:Fr->cc->Prop}{fr:Fr}{H:cc}{d:Option Nat}{a:AV}{aa:List AV}{Post:AV->cc->Prop}(h:kA P T a aa H Post)(hex:∃r h,Post r h)(e:d.any E.contains=true)(b:∀r h,Post r h->QK q H h/\dF P T E ops q bs rest K (fr.put d r) h):dX P T E ops q bs a aa d rest K fr H:=by
 unfold dX;rw[bX e];exact⟨Post,h,hex,λr h c=>⟨λ_=>(b r h c).1,(b r h c).2⟩⟩
def Bi(B i j:Nat)(a:Fm)(rm:Int)(X:cc)(L:List Fm):Prop:=∃(cap k:Nat),i≠j/\X[i]?=some [.oZ (B+j) 0 L.length cap,sI rm]/\X[j]?=some (iu Fm.av L k)/\cap*5=L.length*5+k/\0<L.length/\L.length<=2000000001/\∀m x,L[m]?=some x->lj m a=some x
def Kp(a:cc)(i b:Nat)(X:cc)(j:Nat):Prop:=a.length<=X.length/\(j=b\/a.length<=j)/\∀o,o<a.length->o≠i->o≠b->X[o]?=a[o]?
def Kp.refl{X:cc}{i j:Nat}:Kp X i j X j:=⟨fT _,.inl rfl,λ_ _ _ _=>rfl⟩
def Kp.trans{a b c:cc}{i d e f:Nat}(h:Kp a i d b e)(j:Kp b i e c f):Kp a i d c f:=by
 have⟨a1,a2,a3⟩:=h;have⟨n,p,k⟩:=j;exact⟨VW,VW,λo l g m=>by rw[k o VW g VW,a3 o l g m]⟩
def Kp.acm{X:cc}{i j:Nat}{c d:List AV}:Kp X i j (dx (dx X j c) i d) j:=by
 refine⟨by unfold dx;simp,.inl rfl,λo e a b=>?_⟩;unfold dx;rw[yZ (λh=>a h.symm),yZ (λh=>b h.symm)]
def Kp.Zz{X:cc}{i j:Nat}{d:List AV}:Kp X i j (dx X i d) j:=by
 refine⟨by unfold dx;simp,.inl rfl,λo b a c=>?_⟩;unfold dx;rw[yZ (λh=>a h.symm)]
def Kp.acJ{X:cc}{i j:Nat}{c d:List AV}:Kp X i j (dx (X++[c]) i d) X.length:=by
 refine⟨by unfold dx;simp,.inr (fT _),λo a b e=>?_⟩;unfold dx;rw[yZ (λh=>b h.symm),oy a]
def Kp.app{X Y:cc}{i j:Nat}:Kp X i j (X++Y) j:=⟨aas,.inl rfl,λo a _ _=>oy a⟩
def Kp.get{a X:cc}{i e j o:Nat}{c:List AV}(h:Kp a i e X j)(f:a[o]?=some c)(g:o≠i)(k:o≠e):X[o]?=some c/\o≠j:=by
 have l:=(jj.1 f).1;have⟨_,b,d⟩:=h;exact⟨by rw[d o l g k,f],VW⟩
def UW(H0:cc)(i j:Nat)(a:Fm)(rm:Int)(c:cc)(r v:AV)(H':cc):Prop:=∃X L b,H'=H0++X/\Bi H0.length i b a rm X L/\Kp c i j X b/\v=r
def Bi.app{B i j:Nat}{a:Fm}{rm:Int}{X Y:cc}{L:List Fm}(h:Bi B i j a rm X L):Bi B i j a rm (X++Y) L:=by
 have⟨cap,k,d,b,c,e⟩:=h;exact⟨cap,k,d,by rw[oy (jj.1 b).1,b],by rw[oy (jj.1 c).1,c],e⟩
def Bi.lt{B i j:Nat}{a:Fm}{rm:Int}{X:cc}{L:List Fm}(h:Bi B i j a rm X L):i<X.length/\j<X.length:=by
 have⟨cap,k,d,b,c,e⟩:=h;exact⟨(jj.1 b).1,(jj.1 c).1⟩
def Bi.room{B i j:Nat}{a:Fm}{rm rm':Int}{X:cc}{L:List Fm}(h:Bi B i j a rm X L):∃c,Bi B i j a rm' (dx X i c) L:=by
 have⟨cap,k,b,d,e,f⟩:=h;have hi:=(jj.1 d).1;refine⟨[.oZ (B+j) 0 L.length cap,sI rm'],cap,k,b,?_,?_,f⟩
 ·unfold dx;rw[J2 hi]
 ·unfold dx;rw[yZ b,e]
def Bi.hex{H0:cc}{i j:Nat}{a:Fm}{rm rm':Int}{X:cc}{L:List Fm}{v:AV}(h:Bi H0.length i j a rm X L):∃r h,UW H0 i j a rm' X v r h:=by
 have⟨c,b⟩:=h.room (rm':=rm');exact⟨_,_,_,L,j,rfl,b,.Zz,rfl⟩
def AnI(H0:cc)(i:Nat)(a:Fm)(rm:Int)(b:cc)(c k m:Nat)(f:Fr)(h:cc):Prop:=∃X L j,Bi H0.length i j a rm X L/\Kp b i c X j/\k+1-L.length=m/\(h=H0++X/\f.1 0=AV.di (H0.length+i) 0/\f.1 1=sI k/\f.1 4=AV.gx 4 (f.gen 4) 0/\f.box 4=some [sI 0,sI 0,AV.slice .full [],AV.slice .full [],AV.slice .full []])
def Iv{a:Fm}:∀{k:Nat} {x:Fm},lj k a=some x->∀j,j<=k->∃y,lj j a=some y
 |0,x,h,j,c=>by
  obtain rfl:j=0:=VW
  exact⟨x,h⟩
 |k+1,x,h,j,c=>by
  by_cases b:j=k+1
  ·subst b;exact⟨x,h⟩
  ·rw[lj] at h;have⟨y,d,_⟩:=cE h;exact Iv d j VW
def Bi.next{B i:Nat}{a:Fm}{L:List Fm}{k:Nat}{x:Fm}(c:∀m x,L[m]?=some x->lj m a=some x)(g:0<L.length)(e:lj k a=some x)(f:L.length<=k){y:Fm}(hy:L[L.length-1]?=some y):∃z,da y 0 1=some z/\∀m x,(L++[z])[m]?=some x->lj m a=some x:=by
 have⟨z,d⟩:=Iv e L.length f;have b:=d;rw[show L.length=(L.length-1)+1 by omega,lj,c _ _ hy] at b;refine⟨z,b,λm w hw=>?_⟩;rcases sA m L.length with hm|hm
 ·rw[oy hm] at hw;exact c m w hw
 ·have:m=L.length:=by
   have:=(jj.1 hw).1;simp at this;omega
  subst this;simp at hw;subst hw;exact d
def od{T:cV}{H0 D:cc}{i F:Nat}{a:Fm}{rm:Int}{M:List Fm}(w:Bi H0.length i F a rm D M){k:Nat}{x:Fm}(S:lj k a=some x)(hk:k<=2000000000):dj prog T 100 [AV.di (H0.length+i) 0,sI k] (H0++D) (UW H0 i F a rm D x.av):=by
 have e:=trivial;refine wiS (λ_=>true) (λ_=>0) aee func100 [31,999999] [(2,false,[true,true,true,true,true,true,true,true,true,true,true,true,true,true,true,true,true,true,true,true,true,false,true,true,false])] 999 ?_;simp[e];refine wlb 6 999 (AnI H0 i a rm D F k) (k+1-M.length) (AnI H0 i a rm D F k 0) ?_ ?_ ?_
 ·exact⟨D,M,F,w,.refl,rfl,aau⟩
 ·rintro m f h ⟨X,L,j,w,r,hm,E⟩ K K2 U N;have⟨cap,t,u,hi,G,V,A,W,O⟩:=id w;have e:=Aj trivial E
  have g1:(H0++X)[H0.length+i]?=some [AV.oZ (H0.length+j) 0 L.length cap,sI rm]:=by rw[qU VW,IY,hi]
  have g2:(H0++X)[H0.length+j]?=some (iu Fm.av L t):=by rw[qU VW,IY,G]
  have e:=Aj (Aj e g1) g2;simp[e]
  by_cases hle:L.length<=k
  ·have e:=Aj e (show DU (L.length:Int) (k:Int)=true by unfold DU;exact tB VW);simp[e];obtain⟨y,hy⟩:∃y,L[L.length-1]?=some y:=⟨_,mi VW⟩
   have q:mg (iu Fm.av L t)=true:=by
    cases L with
    |nil=>simp at A
    |cons p l=>simp[iu,mg]
   have H:dh .i64 (L.length:Int) 1=((L.length-1:Nat):Int):=by unfold dh;rw[IntKind.wrap_i64];omega
   have n:∀z:Fm,z.av.cells.length=5:=λz=>by simp
   have C:AV.agg (List.take 5 (List.drop ((L.length-1)*5) (iu Fm.av L t)))=y.av:=by rw[I6 n hy,Fm.km,<-Fm.fv]
   have s:(L.length-1)*5+5<=(iu Fm.av L t).length:=by rw[kO n];omega
   have P:(L.length-1<L.length)=True:=eq_true VW;have e:=Aj (Aj (Aj (Aj (Aj e q) H) C) s) P;refine aaN 999 ⟨true,λ_=>false,λx=>if x=H0.length+i then 34 else 32⟩ ?_;simp[e]
   have⟨z,Y,I⟩:=Bi.next (B:=0) (i:=0) O A S hle hy
   refine Cs (pM T Y) ?_;simp[e];refine KO.V' (f:=Fm.av) (c:=(Fm.mk 0 (Ty.mk 0 []) [] []).av) (tag':=.full) (L:=L) (k:=t) JN ⟨_,WW⟩ n (n _) VW rfl rfl g2 V A q (by simp only[hS];omega) (λk' Z=>?_) (λb yd=>?_)
   ·obtain⟨g,o⟩:∃g,(L.map Fm.av).flatMap AV.cells++((Fm.mk 0 (Ty.mk 0 []) [] []).av.cells++qj k')=g:=⟨_,rfl⟩;have Q:=(jj.1 g2).1;rw[o]
    have f1:(dx (H0++X) (H0.length+j) g)[H0.length+j]?=some g:=by unfold dx;rw[J2 Q]
    have d:((L.map Fm.av).flatMap AV.cells).length=L.length*5:=by
     have:=kO (L:=L) (k:=0) n;unfold iu at this;simpa[qj] using this
    have f2:mg g=true:=by
     rw[<-o];cases L with
     |nil=>simp at A
     |cons p l=>simp[mg]
    have f3:L.length*5+5<=g.length:=by rw[<-o];simp[d]
    have f4:List.take (L.length*5) g++sI z.ad'::sI z.b8.ad'::sL Ty.av z.b8.aea::sL Tm.av z.cx::sL Fm.av z.aea::List.drop (L.length*5+5) g=iu Fm.av (L++[z]) k':=by
     rw[<-o,Ly (by rw[d];omega),LO (by rw[d];omega),PE,d,F_ (by rw[d];omega),show L.length*5+5-L.length*5=5 by omega];simp[iu]
    have aa:=(jj.1 g1).1
    have f5:(dx (H0++X) (H0.length+j) (iu Fm.av (L++[z]) k'))[H0.length+i]?=some [AV.oZ (H0.length+j) 0 L.length cap,sI rm]:=by unfold dx;rw[yZ VW];exact g1
    have J:=(jj.1 G).1
    have f6:(dx X j g)[j]?=some g:=by unfold dx;rw[J2 J]
    have e:=Aj (Aj e f6) hi;have e:=Aj (Aj (Aj (Aj (Aj (Aj (Aj e f1) f2) f3) f4) f5) (show((L.length:Int)<(L.length:Int)+1)=True from eq_true VW)) (show(j=i)=False from eq_false (λh=>u h.symm));simp[e];refine U _ _ (k+1-(L++[z]).length) aaQ ⟨dx (dx X j (iu Fm.av (L++[z]) k')) i [AV.oZ (H0.length+j) 0 (L.length+1) cap,sI rm],L++[z],j,⟨cap,k',u,?_,?_,?_,aas,aaQ,I⟩,r.trans .acm,rfl,aau⟩
    ·have v:=(jj.1 hi).1;unfold dx;rw[J2 (by simpa using v)];simp
    ·unfold dx;rw[yZ u,J2 J]
    ·simp;omega
   ·have hlen:(H0++X).length=H0.length+X.length:=aas
    rw[hlen,pQ];obtain⟨g,o⟩:∃g,(L.map Fm.av).flatMap AV.cells++((Fm.mk 0 (Ty.mk 0 []) [] []).av.cells++qj ((b-(L.length+1))*5))=g:=⟨_,rfl⟩;rw[o]
    have d:((L.map Fm.av).flatMap AV.cells).length=L.length*5:=by
     have:=kO (L:=L) (k:=0) n;unfold iu at this;simpa[qj] using this
    have f2:mg g=true:=by
     rw[<-o];cases L with
     |nil=>simp at A
     |cons p l=>simp[mg]
    have f3:L.length*5+5<=g.length:=by rw[<-o];simp[d]
    have f4:List.take (L.length*5) g++sI z.ad'::sI z.b8.ad'::sL Ty.av z.b8.aea::sL Tm.av z.cx::sL Fm.av z.aea::List.drop (L.length*5+5) g=iu Fm.av (L++[z]) ((b-(L.length+1))*5):=by
     rw[<-o,Ly (by rw[d];omega),LO (by rw[d];omega),PE,d,F_ (by rw[d];omega),show L.length*5+5-L.length*5=5 by omega];simp[iu]
    have v:=(jj.1 hi).1
    have f6:(X++[g])[X.length]?=some g:=aas
    have f7:(X++[g])[i]?=some [AV.oZ (H0.length+j) 0 L.length cap,sI rm]:=by rw[oy v];exact hi
    have f8:(X++[iu Fm.av (L++[z]) ((b-(L.length+1))*5)])[i]?=some [AV.oZ (H0.length+j) 0 L.length cap,sI rm]:=by rw[oy v];exact hi
    have e:=Aj e f8;have e:=Aj (Aj (Aj (Aj (Aj (Aj (Aj (Aj e f2) f3) f4) f6) f7) hi) (show((L.length:Int)<(L.length:Int)+1)=True from eq_true VW)) (show(X.length=i)=False from eq_false VW);simp[e];refine U _ _ (k+1-(L++[z]).length) aaQ ⟨dx (X++[iu Fm.av (L++[z]) ((b-(L.length+1))*5)]) i [AV.oZ (H0.length+X.length) 0 (L.length+1) b,sI rm],L++[z],X.length,⟨b,(b-(L.length+1))*5,VW,?_,?_,?_,aas,aaQ,I⟩,r.trans .acJ,rfl,aau⟩
    ·unfold dx;rw[J2 aaQ];simp
    ·unfold dx;rw[yZ VW];simp
    ·simp;omega
  ·have e:=Aj e (show DU (L.length:Int) (k:Int)=false by unfold DU;exact Bo VW);simp[e];exact N _ _ ⟨X,L,j,w,r,VW,aau⟩
 ·rintro f h ⟨X,L,j,w,r,hm,E⟩;have⟨cap,t,u,hi,G,V,A,W,O⟩:=id w;have e:=Aj trivial E;obtain⟨y,hy⟩:∃y,L[k]?=some y:=⟨_,mi VW⟩
  have R:y=x:=by have:=O k y hy;rw[S] at this;exact(fS this).symm
  subst R
  have g1:(H0++X)[H0.length+i]?=some [AV.oZ (H0.length+j) 0 L.length cap,sI rm]:=by rw[qU VW,IY,hi]
  have g2:(H0++X)[H0.length+j]?=some (iu Fm.av L t):=by rw[qU VW,IY,G]
  have n:∀z:Fm,z.av.cells.length=5:=λz=>by simp
  have q:mg (iu Fm.av L t)=true:=by
   cases L with
   |nil=>simp at A
   |cons p l=>simp[iu,mg]
  have C:AV.agg (List.take 5 (List.drop (k*5) (iu Fm.av L t)))=y.av:=by rw[I6 n hy,Fm.km,<-Fm.fv]
  have s:k*5+5<=(iu Fm.av L t).length:=by rw[kO n];omega
  have e:=Aj (Aj (Aj (Aj (Aj (Aj (Aj e g1) g2) hi) G) q) C) s;have e:=Aj e (show(k<L.length)=True from eq_true VW);simp[e];exact⟨X,L,j,rfl,w,r,rfl⟩
def JD{T:cV}{H:cc}{a:Fm}:dr prog T 52 [a.av] H (AV.di (H.length+1) 0) (H++[iu Fm.av [a] 0,[AV.oZ H.length 0 1 1,sI 1048576]]):=by
 have e:=trivial;refine wi aee func52 [4,6] [] 999 ?_;simp[e,iu,qj]
def OD(n:Nat):Prop:=∀{T:cV} {H0 X:cc} {i j:Nat} {a:Fm} {rm:Int} {L:List Fm} {f:Fm} {k:Nat} {r:Fm},Bi H0.length i j a rm X L->ep n a f k=some r->k+n<=2000000000->dj prog T 63 [AV.di (H0.length+i) 0,f.av,sI k] (H0++X) (UW H0 i j a rm X r.av)
def NS{k:Nat}(h:k<=2000000000):c8 .i64 (k:Int) 1=((k+1:Nat):Int):=by unfold c8;rw[IntKind.wrap_i64];omega
def JF(n:Nat)(g:OD n){T:cV}{H0 X:cc}{i j:Nat}{a:Fm}{rm:Int}{L:List Fm}{f:Fm}{k:Nat}{x y u v w:Fm}(d:Bi H0.length i j a rm X L)(h:cr f.aea 0=some x)(hy:ep n a x (k+1)=some y)(hu:lj (k+1) a=some u)
  (l:dJ y u=some v) (hw:fx 4 f.b8 v=some w) (r:k+1+n<=2000000000):dj prog T 103 [AV.di (H0.length+i) 0,f.av,sI k] (H0++X) (UW H0 i j a rm X w.av):=by
 have e:=Aj (Aj trivial h) (NS (k:=k) VW);refine wi aee func103 [16,20] [] 999 ?_;simp[e];refine dX.rel (g (k:=k+1) d hy VW) d.hex abC ?_;rintro _ _ ⟨s,t,z,rfl,b,m,rfl⟩;refine⟨by simp[QK],?_⟩;simp[e];refine dX.rel (od (k:=k+1) b hu VW) b.hex abC ?_;rintro _ _ ⟨o,p,q,rfl,c,k2,rfl⟩;refine⟨by simp[QK],?_⟩;simp[e];refine Cs (ea l) ?_;simp[e];refine Cs (uF hw) ?_;simp[e];exact⟨o,p,q,rfl,c,m.trans k2,rfl⟩
def JH(n:Nat)(C:OD n):OD (n+1):=by
 intro T H0 X i j a rm L f k r g hm K;have e:=trivial;rw[ep] at hm;refine wi aee func63 [14,18,31,38,52] [] 999 ?_;rcases Io e hm with⟨e,m⟩|⟨e,m⟩
 ·have⟨x,p,m⟩:=cE m;have⟨y,hy,m⟩:=cE m;have⟨z,s,m⟩:=cE m;cases m;simp[e];refine dX.rel (od g p VW) g.hex abC ?_;rintro _ _ ⟨D,E,F,rfl,b,l,rfl⟩;refine⟨by simp[QK],?_⟩;simp[e];refine Cs (ea hy) ?_;simp[e];refine dX.rel (od b p VW) b.hex abC ?_;rintro _ _ ⟨t,A,B,rfl,c,k2,rfl⟩;refine⟨by simp[QK],?_⟩;simp[e];refine Cs (ea s) ?_;simp[e];exact⟨t,A,B,rfl,c,l.trans k2,rfl⟩
 ·by_cases o:cn f.ad' 2=true\/cn f.ad' 3=true
  ·have d:df (cn f.ad' 2) true (cn f.ad' 3)=true:=by rcases o with h|h<;>simp[df,h]
   rw[d] at m;simp only[if_true] at m;have⟨x,p,m⟩:=cE m;have⟨y,hy,m⟩:=cE m;have⟨u,hu,m⟩:=cE m;have⟨v,H,m⟩:=cE m;have⟨z,s,m⟩:=cE m;cases m;have e:=Aj (Aj e p) hu;cases G:cn f.ad' 2 with
   |true=>
    have e:=Aj e G;simp[e];refine dX.rel (C g hy VW) g.hex abC ?_;rintro _ _ ⟨D,E,F,rfl,b,l,rfl⟩;refine⟨by simp[QK],?_⟩;simp[e];refine dX.rel (C b H VW) b.hex abC ?_;rintro _ _ ⟨t,A,B,rfl,c,k2,rfl⟩;refine⟨by simp[QK],?_⟩;simp[e];refine Cs (x9 s) ?_;simp[e];exact⟨t,A,B,rfl,c,l.trans k2,rfl⟩
   |false=>
    have I:cn f.ad' 3=true:=by rcases o with h|h<;>simp_all
    have e:=Aj (Aj e G) I;simp[e];refine dX.rel (C g hy VW) g.hex abC ?_;rintro _ _ ⟨D,E,F,rfl,b,l,rfl⟩;refine⟨by simp[QK],?_⟩;simp[e];refine dX.rel (C b H VW) b.hex abC ?_;rintro _ _ ⟨t,A,B,rfl,c,k2,rfl⟩;refine⟨by simp[QK],?_⟩;simp[e];refine Cs (x9 s) ?_;simp[e];exact⟨t,A,B,rfl,c,l.trans k2,rfl⟩
  ·have G:cn f.ad' 2=false:=by simpa usingλh=>o (.inl h)
   have I:cn f.ad' 3=false:=by simpa usingλh=>o (.inr h)
   have d:df (cn f.ad' 2) true (cn f.ad' 3)=false:=by simp[df,G,I]
   rw[d] at m;simp only[gX,fL] at m;have e:=Aj (Aj (Aj e G) I) (NS (k:=k) VW);rcases Io e m with⟨e,m⟩|⟨e,m⟩
   ·have⟨x,p,m⟩:=cE m;have⟨y,hy,m⟩:=cE m;have⟨z,s,m⟩:=cE m;cases m;have e:=Aj e p;simp[e];refine dX.rel (C (k:=k+1) g hy VW) g.hex abC ?_;rintro _ _ ⟨D,E,F,rfl,b,l,rfl⟩;refine⟨by simp[QK],?_⟩;simp[e];refine Cs (uF s) ?_;simp[e];exact⟨D,E,F,rfl,b,l,rfl⟩
   ·have⟨x,p,m⟩:=cE m;have⟨y,hy,m⟩:=cE m;have⟨u,hu,m⟩:=cE m;have⟨v,H,m⟩:=cE m;have⟨w,hw,m⟩:=cE m;have⟨q,J,m⟩:=cE m;have⟨z,s,m⟩:=cE m;cases m;simp[e];refine ic.Wx (JF n C g p hy hu H hw VW) ?_;rintro _ _ ⟨D,E,F,rfl,b,l,rfl⟩;simp[e];refine ic.Wx (od b J VW) ?_;rintro _ _ ⟨t,A,B,rfl,c,k2,rfl⟩;simp[e];refine Cf (ea s) ?_;simp[e];exact⟨t,A,B,rfl,c,l.trans k2,rfl⟩
def kN:∀n,OD n
 |0=>λ_ hm _=>by cases hm
 |n+1=>JH n (kN n)
def Bi.start{B:Nat}{a:Fm}:Bi B 1 0 a 1048576 [iu Fm.av [a] 0,[AV.oZ B 0 1 1,sI 1048576]] [a]:=by
 refine⟨1,0,VW,aas,aas,aas,aas,aas,λm x hm=>?_⟩;cases m with
 |zero=>simp at hm;subst hm;rfl
 |succ m=>simp at hm
def zF(T:cV)(d:mA T){H:cc}{a0 a1 a:Fm}{b:Int}(hm:iV a0 a1=some (a,b)):dr prog T 24 [Fm.av a0,Fm.av a1] H (AV.tuple [Fm.av a,sI b]) H:=by
 rw[iV] at hm;refine dj.sH (Post:=λx K=>x=AV.tuple [Fm.av a,sI b]/\∃X,K=H++X) ?_ (λ_ _ h=>⟨_,h.2.choose_spec,by rw[h.1];simp[AV.low,AV.gw],h.1,rfl⟩);have e:=d;refine wi aee func24 [17] [] 999 ?_;have⟨c,f,m⟩:=cE hm;simp[e];refine Cf (rG T d f) ?_;rcases Io e m with⟨e,m⟩|⟨e,m⟩
 ·cases m;simp[e]
 ·have⟨x,g,m⟩:=cE m;have⟨y,hy,m⟩:=cE m;cases m;simp[e];refine Cs JD ?_ (by simp[QK]);simp[e];refine dX.rel (kN FU (k:=0) Bi.start g (by rw[cP];omega)) Bi.start.hex abC ?_;rintro _ _ ⟨j,l,n,rfl,i,o,rfl⟩;refine⟨by simp[QK],?_⟩;simp[e];refine Cs (uw hy) ?_;simp[e]
def oG{n:Nat}:C1 prog 43 (kj n) Fm.av Fm.av:=by
 refine i1 λn x=>v1 func43 λT H a0 r m e=>?_;rw[kj] at m;simp[e];refine dY m iL λt m=>?_;simp[e];refine DH e m 999 (λw o f h=>∃c,(h=H/\f.1 15=sL Tm.av a0.cx/\f.1 16=sI (cI a0.cx)/\f.1 17=sI w/\bx f 1 (Fm.av a0).cells/\bx f 2 [sI 0,sI 0,nL,nL,nL]/\bx f 3 [sI a0.ad',sI t.ad',sL Ty.av t.aea,sT c Tm.av o,nL])/\Ow f [26] c o) (by exact⟨.full,aau,iz.full⟩) (λw _ o q _ _ _ _ E e m z p=>?_) (λo q _ _ E m=>?_)
 ·have⟨c,E,i⟩:=E;have e:=Aj e E;simp[e];refine dY m qI λu m=>?_;have⟨e,m⟩:=Ck e m;simp[e];refine Ad (f:=Tm.av) o [u] i CM e.2 ?_;simp[e];cases m;exact p _ _ _ ⟨(.loc 26 (q.dv 26+1)),aau,(On 26)⟩ z
 have⟨c,E,i⟩:=E;have e:=Aj e E;dsimp only[ca]at m;simp[e];refine Wr e m 999 (λs j f h=>∃a b,(h=H/\f.1 30=sL Fm.av a0.aea/\f.1 31=sI (cI a0.aea)/\f.1 32=sI s/\bx f 2 [sI 0,sI 0,nL,nL,nL]/\bx f 3 [sI a0.ad',sI t.ad',sL Ty.av t.aea,sT a Tm.av o,sT b Fm.av j])/\Ow f [26] a o/\Ow f [41] b j) (by exact⟨c,.full,aau,i,iz.full⟩) (λj l _ _ E m=>?_) (λs _ j l _ _ _ _ E e m z p=>?_)
 ·have⟨a,b,E,k,d⟩:=E;have e:=Aj e E;dsimp only[ca]at m;exact au
 have⟨a,b,E,k,d⟩:=E;have e:=Aj e E;simp[e];refine dY m x λv m=>?_;have⟨e,m⟩:=Ck e m;simp[e];refine Ad (f:=Fm.av) j [v] d JN e.2 ?_;simp[e];cases m;exact p _ _ _ ⟨a,(.loc 41 (l.dv 41+1)),aau,(iz.other k d aaq aaq),(On 41)⟩ z
def hR:C3 prog 14 fZ Fm.av sI Fm.av Fm.av:=by
 refine v3 func14 λT H a0 a1 a2 r m e=>?_;rw[fZ] at m;simp[e];refine dY m oG λa m=>?_;simp[e];refine dY m oG λb m=>?_;have e:=Aj e (show AV.agg [sI a0,sI 0,AV.slice .gY [],AV.slice .gY [],AV.slice .gY [Fm.av a,Fm.av b]]=Fm.av (Fm.mk a0 (Ty.mk 0 []) [] [a,b]) by rw[Fm.eH];rfl);exact au
def fB{n:Nat}:C2 prog 37 (du n) sB Ty.av Ty.av:=by
 refine i2 λn b=>u2 3 func37 λT H a0 a1 r m e=>?_;rw[du] at m;simp[e];refine wj 999 999 (λf h=>h=H/\f.1 19=sB (df (cF a0.ad' a1.ad') true (cF (cI a0.aea) (cI a1.aea)))/\bx f 2 (Ty.av a0).cells/\bx f 3 (Ty.av a1).cells) (λ_ g=>?_) ?_
 ·rcases Pb (cF a0.ad' a1.ad') e with e|e
  ·exact aj
  exact aj
 rintro _ _ E;have e:=Aj e E;refine Il e m λe m=>?_;simp[e];refine Wr e m 999 (λa _ f h=>h=H/\f.1 22=sI (cI a0.aea)/\f.1 23=sI a/\bx f 2 (Ty.av a0).cells/\bx f 3 (Ty.av a1).cells) aau (λ_ _ _ _ E m=>?_) (λa _ _ _ _ _ _ _ E e m z p=>?_)
 ·have e:=Aj e E;dsimp only[ca]at m;exact au
 have e:=Aj e E;have⟨c,e,m⟩:=gu e m;simp[e];refine dY m b λ_ m=>?_;refine Im e m λe m=>?_;exact al
def xg{n:Nat}:C2 prog 118 (iY n) sB Tm.av Tm.av:=by
 refine i2 λn c=>u2 3 func118 λT H a0 a1 r m e=>?_;rw[iY] at m;simp[e];refine Wj m 999 999 (λa f h=>∃v2,(h=H/\f.1 34=sB v2/\bx f 2 (Tm.av a0).cells/\bx f 3 (Tm.av a1).cells)/\a v2=some r) (λa _ g m=>?_) ?_
 ·apply Iq e m<;>intro e m
  ·exact k8
  apply Iq e m<;>intro e m
  ·exact k8
  simp[e];refine dL m fB λ_ m=>?_;apply Ir e m<;>intro e m
  ·exact k8
  exact k8
 rintro _ _ ⟨v2,E,m⟩;have e:=Aj e E;refine Il e m λe m=>?_;simp[e];refine Wr e m 999 (λb _ f h=>h=H/\f.1 37=sI (cI a0.aea)/\f.1 38=sI b/\bx f 2 (Tm.av a0).cells/\bx f 3 (Tm.av a1).cells) aau (λ_ _ _ _ E m=>?_) (λb _ _ _ _ _ _ _ E e m z p=>?_)
 ·have e:=Aj e E;dsimp only[ca]at m;exact au
 have e:=Aj e E;have⟨d,e,m⟩:=gu e m;simp[e];refine dY m c λ_ m=>?_;refine Im e m λe m=>?_;exact al
def DX:C2 prog 71 px sB (sL Tm.av) (sL Tm.av):=by
 refine v2 func71 λT H a0 a1 r m e=>?_;rw[px] at m;refine Il e m λe m=>?_;simp[e];refine Wr e m 999 (λa _ f h=>h=H/\f.1 0=sL Tm.av a0/\f.1 1=sL Tm.av a1/\f.1 12=sI (cI a0)/\f.1 13=sI a) aau (λ_ _ _ _ E m=>?_) (λa _ _ _ _ _ _ _ E e m z p=>?_)
 ·have e:=Aj e E;dsimp only[ca]at m;exact au
 have e:=Aj e E;have⟨b,e,m⟩:=gu e m;simp[e];refine dY m xg λ_ m=>?_;refine Im e m λe m=>?_;exact al
def J9{n:Nat}:C2 prog 25 (n8 n) sB Fm.av Fm.av:=by
 refine i2 λn c=>u2 3 func25 λT H a0 a1 r m e=>?_;rw[n8] at m;simp[e];refine Wj m 999 999 (λa f h=>∃v2,(h=H/\f.1 35=sB v2/\bx f 2 (Fm.av a0).cells/\bx f 3 (Fm.av a1).cells)/\a v2=some r) (λa _ g m=>?_) ?_
 ·apply Iq e m<;>intro e m
  ·exact k8
  simp[e];refine dL m fB λ_ m=>?_;apply Ir e m<;>intro e m
  ·exact k8
  simp[e];refine dL m DX λ_ m=>?_;apply Ir e m<;>intro e m
  ·exact k8
  exact k8
 rintro _ _ ⟨v2,E,m⟩;have e:=Aj e E;refine Il e m λe m=>?_;simp[e];refine Wr e m 999 (λb _ f h=>h=H/\f.1 38=sI (cI a0.aea)/\f.1 39=sI b/\bx f 2 (Fm.av a0).cells/\bx f 3 (Fm.av a1).cells) aau (λ_ _ _ _ E m=>?_) (λb _ _ _ _ _ _ _ E e m z p=>?_)
 ·have e:=Aj e E;dsimp only[ca]at m;exact au
 have e:=Aj e E;have⟨d,e,m⟩:=gu e m;simp[e];refine dY m c λ_ m=>?_;refine Im e m λe m=>?_;exact al
def I'(T:cV)(b:mA T){H:cc}{a:Bool}(hm:tY=some a):dr prog T 5 [] H (sB a) H:=by
 rw[tY] at hm;have e:=b;refine wi aee func5 [] [] 6 ?_;simp[e];refine dL hm vY λ_ m=>?_;simp[e];refine dL m vY λ_ m=>?_;simp[e];refine dL m t_ λ_ m=>?_;simp[e];refine dL m vY λ_ m=>?_;simp[e];refine dL m vY λ_ m=>?_;simp[e];refine dL m t_ λ_ m=>?_;simp[e];refine k5 m (zF T b) λ_ _ m=>?_;simp[e];refine B6 m 999 999 (λc f h=>∃v10,(h=H/\f.1 0=sB v10)/\c v10=some a) ?_ (λc _ g m=>?_)
 ·rintro _ _ ⟨v10,E,m⟩;have e:=Aj e E;exact au
 apply Ir e m<;>intro e m
 ·exact k8
 simp[e];refine dY m hR λ_ m=>?_;simp[e];refine dY m hR λ_ m=>?_;simp[e];refine dY m J9 λ_ m=>?_;exact k8
def Sa:C1 prog 6 Fy sB (sL sI):=by
 refine v1 func6 λT H a0 r m e=>?_;rw[Fy] at m;exact au
def Uf:jK prog 7=true:=by kernel_rfl
def S8(T:cV){a0:List Int}{b:cH}(hm:MI a0=some b):dr prog T 7 [AV.slice .gY (List.map (λn=>AV.sc (Value.int .i64 n)) a0)] [] (AV.di 0 0) (dx [[]] 0 [AV.slice .gY (List.map (λn=>AV.sc (Value.int .i64 n)) b.l),AV.sc (.int .i64 b.sE)]):=by
 obtain rfl:=fS hm;refine dj.intro (fn:=f7) func7 rfl Uf (Ax rfl) ?_;refine fA.Ah λc a=>?_;refine fA.region [] abz ?_;simp;refine a _ _ ?_;refine fA.Ah λc a=>?_;refine fA.region [5] abz ?_;simp;refine a _ _ ?_;refine fA.ret ?_;simp[xW,dx]
def S3:C2 prog 41 F8 sI sI sI:=by
 refine v2 func41 λT H a0 a1 r m e=>?_;rw[F8] at m;have⟨e,m⟩:=Ck e m;have⟨e,m⟩:=Ck e m;exact au
def ig(T:cV){H:cc}{a0:cH}{a1 i:Int}{a:cH}{b:Nat}(c:H[b]?=some [sL sI a0.l,sI a0.sE])(hm:gz a0 a1=some (i,a)):dr prog T 12 [AV.di b 0,sI a1] H (sI i) (dx H b [sL sI a.l,sI a.sE]):=by
 rw[gz] at hm;have d:=eo c;refine dj.PS c ?_;have e:=d;refine wi aee func12 [] [(1,true,[]),(3,true,[])] 3 ?_;simp[e];refine wj 999 999 (λf h=>h=dx H b [sL sI a0.l,sI a0.sE]/\f.1 0=AV.di b 0/\f.1 1=sI a1/\f.1 19=sB (df (sg a1 1) true (qJ a0.sE (cI a0.l)))) (λ_ g=>?_) ?_
 ·rcases Pb (sg a1 1) e with e|e
  ·exact aj
  exact aj
 rintro _ _ E;have e:=Aj e E;refine Il e hm λe m=>?_;have⟨j,e,m⟩:=gu e m;simp[e];refine dL m S3 λ_ m=>?_;exact au
def gS:C0 prog 26 h7 Ty.av:=by
 refine v0 func26 λT H r m e=>?_;rw[h7] at m;exact au
def mZ:C0 prog 27 lW Ty.av:=by
 refine v0 func27 λT H r m e=>?_;rw[lW] at m;exact au
def B2:C0 prog 28 tA Ty.av:=by
 refine v0 func28 λT H r m e=>?_;rw[tA] at m;exact au
def Dx:C2 prog 29 ta Ty.av Ty.av Ty.av:=by
 refine v2 func29 λT H a0 a1 r m e=>?_;rw[ta] at m;simp[e];refine dY m iL λa m=>?_;simp[e];refine dY m iL λb m=>?_;have e:=Aj e (show AV.agg [sI 3,AV.slice .gY [Ty.av a,Ty.av b]]=Ty.av (Ty.mk 3 [a,b]) by rw[Ty.eH];rfl);exact au
def mJ:C2 prog 30 jv Ty.av Ty.av Ty.av:=by
 refine v2 func30 λT H a0 a1 r m e=>?_;rw[jv] at m;simp[e];refine dY m iL λa m=>?_;simp[e];refine dY m iL λb m=>?_;have e:=Aj e (show AV.agg [sI 4,AV.slice .gY [Ty.av a,Ty.av b]]=Ty.av (Ty.mk 4 [a,b]) by rw[Ty.eH];rfl);exact au
def Ms(T:cV):∀(n:Nat),(∀{H:cc} {a0:cH} {a1:Int} {i:Ty} {a:cH} {b:Nat} (c:H[b]?=some [sL sI a0.l,sI a0.sE]) (hm:jM n a0 a1=some (i,a)),dr prog T 9 [AV.di b 0,sI a1] H (Ty.av i) (dx H b [sL sI a.l,sI a.sE])):=by
  intro n
  induction n with
  |zero=>
    skip
    all_goals(intro _ _;intros;rename_i hm;cases hm)
  |succ n j=>
 intro H a0 a1 i a b c hm;rw[jM] at hm;have k:=eo c;refine dj.PS c ?_;have e:=k;refine wi aee func9 [] [] 2 ?_;simp[e];refine B6 hm 3 999 (λo f h=>∃v2,(h=dx H b [sL sI v2.l,sI v2.sE]/\f.1 4=AV.gx 4 (f.gen 4) 0/\f.box 4=some [sI 0,nL])/\o v2=some (i,a)) ?_ (λo _ g m=>?_)
 ·rintro _ _ ⟨v2,E,m⟩;have e:=Aj e E;simp[e];refine dL m gS λ_ m=>?_;exact au
 simp[e];refine k5 m (ig T aau) λd d8 m=>?_;simp[e];refine wj 999 999 (λf h=>h=dx H b [sL sI d8.l,sI d8.sE]/\f.1 0=AV.di b 0/\f.1 1=sI a1/\f.1 6=sI d/\f.1 7=sB (df (cn d 0) true (df (cn d 1) true (cn d 2)))/\bx f 4 [sI 0,nL]) (λ_ g=>?_) ?_
 ·rcases Pb (cn d 0) e with e|e
  ·exact aj
  rcases Pb (cn d 1) e with e|e
  ·exact aj
  exact aj
 rintro _ _ E;have e:=Aj e E;apply Iq e m<;>intro e m
 ·simp[e];refine dL m gS λ_ m=>?_;exact au
 apply Iq e m<;>intro e m
 ·simp[e];refine dL m mZ λ_ m=>?_;exact au
 apply Iq e m<;>intro e m
 ·simp[e];refine dL m B2 λ_ m=>?_;exact au
 apply Iq e m<;>intro e m
 ·apply Ir e m<;>intro e m
  ·exact k8
  simp[e];refine k5 m (j aau) λ_ d16 m=>?_;simp[e];refine k5 m (j aau) λ_ d18 m=>?_;simp[e];refine dL m Dx λ_ m=>?_;exact au
 apply Ir e m<;>intro e m
 ·exact k8
 apply Ir e m<;>intro e m
 ·exact k8
 simp[e];refine k5 m (j aau) λ_ d21 m=>?_;simp[e];refine k5 m (j aau) λ_ d23 m=>?_;simp[e];refine dL m mJ λ_ m=>?_;exact au
def s6(T:cV){H:cc}{a0:cH}{a1:Int}{d:Ty}{a:cH}{b:Nat}(c:H[b]?=some [sL sI a0.l,sI a0.sE]){n:Nat}(hm:jM n a0 a1=some (d,a)):dr prog T 9 [AV.di b 0,sI a1] H (Ty.av d) (dx H b [sL sI a.l,sI a.sE]):=(Ms T n) c hm
def Jr(T:cV){H:cc}{a0:cH}{q:List Ty}{b:cH}{d:Nat}(i:H[d]?=some [sL sI a0.l,sI a0.sE])(hm:tk a0=some (q,b)):dr prog T 8 [AV.di d 0] H (sL Ty.av q) (dx H d [sL sI b.l,sI b.sE]):=by
 rw[tk] at hm;have k:=eo i;refine dj.PS i ?_;have e:=k;refine wi aee func8 [] [] 999 ?_;simp[e];refine k5 hm (ig T aau) λ_ d2 m=>?_;simp[e];refine Wn m 999 (λc f h=>∃a,(h=dx H d [sL sI c.2.2.l,sI c.2.2.sE]/\f.1 0=AV.di d 0/\f.1 3=sT a Ty.av c.1/\f.1 4=sI c.2.1)/\Ow f [15] a c.1) (by exact⟨.full,aau,iz.full⟩) (λc n _ _ _ _ E m z p=>?_);have⟨v10,v11,v12⟩:=c;have⟨a,E,j⟩:=E;have e:=Aj e E;dsimp only[Kd]at m;apply Ir e m<;>intro e m
 ·cases m;have m:=Qb z;dsimp only[Kd]at m;exact au
 simp[e];refine k5 m (s6 T aau) λo d14 m=>?_;have⟨e,m⟩:=Ck e m;simp[e];refine Ao (f:=Ty.av) v10 [o] j Ev e.2 ?_;simp[e];cases m;exact p _ _ _ ⟨(.loc 15 (n.dv 15+1)),aau,(On 15)⟩ z
def Pm:C2 prog 32 A9 (sL sI) (sL Ty.av) Ty.av:=by
 refine v2 func32 λT H a0 a1 r m e=>?_;rw[A9] at m;simp[e];refine Wr e m 0 (λi s2 f h=>∃b,(h=H/\f.1 0=sL Ty.av a0/\f.1 5=sT b sI s2/\f.1 8=sI (cI a0)/\f.1 9=sI i/\bx f 3 (Ty.av a1).cells)/\Ow f [25] b s2) (by exact⟨.full,aau,iz.full⟩) (λs2 j _ _ E m=>?_) (λi _ s2 j _ _ _ l E e m z p=>?_)
 ·have⟨b,E,c⟩:=E;have e:=Aj e E;apply wg 999;dsimp only[ca]at m;exact au
 have⟨b,E,c⟩:=E;have e:=Aj e E;apply wg 5;simp[e];refine B6 m 999 999 (λk f h=>∃v11 a,(h=H/\f.1 0=sL Ty.av a0/\f.1 5=sT a sI v11/\f.1 8=sI (cI a0)/\f.1 9=sI i/\bx f 3 (Ty.av a1).cells)/\Ow f [25] a v11/\k v11=some l) ?_ (λk _ g m=>?_)
 ·rintro _ _ ⟨v11,a,E,d,m⟩;have e:=Aj e E;simp[e];cases m;exact p _ _ _ ⟨a,aau,d⟩ z
 have⟨n,e,m⟩:=gu e m;simp[e];refine dY m fB λ_ m=>?_;apply Ir e m<;>intro e m
 ·simp[e];exact g _ _ ⟨s2,b,aau,c,m⟩
 have⟨e,m⟩:=Ck e m;simp[e];refine Ao (f:=sI) s2 [i] c QW e.2 ?_;simp[e];exact g _ _ ⟨(eA s2 [i]),(.loc 25 (j.dv 25+1)),aau,(On 25),m⟩
def gq:C1 prog 33 fa Tm.av sI:=by
 refine v1 func33 λT H a0 r m e=>?_;rw[fa] at m;exact au
def pS:C2 prog 36 ml (sL Ty.av) (sL Ty.av) (sL Ty.av):=by
 refine v2 func36 λT H a0 a1 r m e=>?_;rw[ml] at m;have⟨e,m⟩:=Ck e m;simp[e];refine Ao (f:=Ty.av) [] a0 (iz.full (D:=[])) Ev e.2 ?_;have⟨e,m⟩:=Ck e m;simp[e];refine Ao (f:=Ty.av) (eA [] a0) a1 (iz.new (D:=[6]) (d:=6) aaq) Ev e.2 ?_;exact au
def kT:C3 prog 35 kv Tm.av sI Ty.av (sL Tm.av):=by
 refine v3 func35 λT H a0 a1 a2 r m e=>?_;rw[kv] at m;simp[e];refine dL m eK λ_ m=>?_;simp[e];refine dL m iL λ_ m=>?_;exact au
def jR:C1 prog 72 jA Tm.av Tm.av:=by
 refine v1 func72 λT H a0 r m e=>?_;rw[jA] at m;simp[e];refine dY m gS λ_ m=>?_;simp[e];refine dY m kT λ_ m=>?_;exact au
def yA:C3 prog 73 rB Tm.av Tm.av Tm.av Tm.av:=by
 refine v3 func73 λT H a0 a1 a2 r m e=>?_;rw[rB] at m;simp[e];refine dY m gS λ_ m=>?_;simp[e];refine dY m kT λ_ m=>?_;exact au
def I3:C0 prog 39 tR Tm.av:=by
 refine v0 func39 λT H r m e=>?_;rw[tR] at m;simp[e];refine dL m gq λ_ m=>?_;simp[e];refine dL m gq λ_ m=>?_;simp[e];refine dL m eK λ_ m=>?_;simp[e];refine dL m jR λ_ m=>?_;simp[e];refine dL m jR λ_ m=>?_;simp[e];refine dL m gq λ_ m=>?_;simp[e];refine dL m yA λ_ m=>?_;simp[e];refine dL m jR λ_ m=>?_;simp[e];refine dL m jR λ_ m=>?_;exact au
def L8:C2 prog 38 C' Tm.av Tm.av (sL Tm.av):=by
 refine v2 func38 λT H a0 a1 r m e=>?_;rw[C'] at m;simp[e];refine Wr e m 999 (λc s2 f h=>h=H/\f.1 7=sL Tm.av a1/\f.1 8=sI (cI a1)/\f.1 9=sI c/\bx f 2 [sI s2.1,sI s2.2.1,sI s2.2.2.1,sL Ty.av s2.2.2.2.1,sL Tm.av s2.2.2.2.2]/\bx f 4 [sI 0,sI 0,sI 0,nL,nL]) aau (λs2 _ _ _ E m=>?_) (λc _ s2 _ _ _ _ _ E e m z p=>?_)
 ·have⟨v10,v11,v12,a,b⟩:=s2;have e:=Aj e E;dsimp only[ca,NF]at m;exact au
 have⟨v10,v11,v12,a,b⟩:=s2;have e:=Aj e E;dsimp only[NF]at m;simp[e];refine dL m eK λ_ m=>?_;exact al
def JK:C0 prog 74 tw Tm.av:=by
 refine v0 func74 λT H r m e=>?_;rw[tw] at m;simp[e];refine dL m eK λ_ m=>?_;simp[e];refine dL m gq λ_ m=>?_;simp[e];refine dL m jR λ_ m=>?_;simp[e];refine dL m jR λ_ m=>?_;simp[e];refine dL m gq λ_ m=>?_;simp[e];refine dL m yA λ_ m=>?_;simp[e];refine dL m jR λ_ m=>?_;exact au
def LL:C0 prog 40 vA Tm.av:=by
 refine v0 func40 λT H r m e=>?_;rw[vA] at m;simp[e];refine dL m gq λ_ m=>?_;simp[e];refine dL m JK λ_ m=>?_;simp[e];refine dL m gq λ_ m=>?_;simp[e];refine dL m eK λ_ m=>?_;simp[e];refine dL m jR λ_ m=>?_;simp[e];refine dL m jR λ_ m=>?_;simp[e];refine dL m gq λ_ m=>?_;simp[e];refine dL m yA λ_ m=>?_;simp[e];refine dL m jR λ_ m=>?_;simp[e];refine dL m jR λ_ m=>?_;exact au
def Nr(T:cV):∀(n:Nat),(∀{H:cc} {a0:cH} {a1:List Ty} {a2:Ty} {a3:Int} {q:Tm} {b:cH} {c:Nat} (r:H[c]?=some [sL sI a0.l,sI a0.sE]) (hm:fH n a0 a1 a2 a3=some (q,b)),dr prog T 11 [AV.di c 0,sL Ty.av a1,Ty.av a2,sI a3] H (Tm.av q) (dx H c [sL sI b.l,sI b.sE])):=by
  intro n
  induction n with
  |zero=>
    skip
    all_goals(intro _ _;intros;rename_i hm;cases hm)
  |succ n a=>
 intro H a0 a1 a2 a3 q b c r hm;rw[fH] at hm;have x:=eo r;refine dj.PS r ?_;have e:=x;refine wi aee func11 [] [] 5 ?_;simp[e];refine dL hm Pm λC m=>?_;simp[e];refine Wj m 999 0 (λy f h=>∃v3 v4,(h=dx H c [sL sI v4.l,sI v4.sE]/\f.1 0=AV.di c 0/\f.1 1=sL Ty.av a1/\f.1 3=sI a3/\f.1 9=sL sI C/\f.1 27=sB v3/\bx f 6 (Ty.av a2).cells/\bx f 8 [sI 0,sI 0,sI 0,nL,nL])/\y v3 v4=some (q,b)) (λy _ g m=>?_) ?_
 ·apply Ir e m<;>intro e m
  ·exact ak2
  simp[e];refine k5 m (ig T aau) λ_ d8 m=>?_;exact ak2
 rintro _ _ ⟨v3,v4,E,m⟩;have e:=Aj e E;apply Iq e m<;>intro e m
 ·apply wg 999;simp[e];refine k5 m (ig T aau) λ_ d11 m=>?_;have⟨D,e,m⟩:=gu e m;simp[e];refine dL m gq λ_ m=>?_;exact au
 apply wg 2;simp[e];refine B6 m 999 6 (λs f h=>∃j,(h=dx H c [sL sI j.l,sI j.sE]/\f.1 0=AV.di c 0/\f.1 1=sL Ty.av a1/\f.1 3=sI a3/\bx f 6 (Ty.av a2).cells/\bx f 8 [sI 0,sI 0,sI 0,nL,nL])/\s j=some (q,b)) ?_ (λs _ g m=>?_)
 ·rintro _ _ ⟨j,E,m⟩;have e:=Aj e E;simp[e];apply Iq e m<;>intro e m
  ·apply wg 1;simp[e];refine B6 m 999 999 (λt f h=>∃v20,(h=dx H c [sL sI v20.l,sI v20.sE]/\f.1 0=AV.di c 0/\f.1 8=AV.gx 8 (f.gen 8) 0/\f.box 8=some [sI 0,sI 0,sI 0,nL,nL])/\t v20=some (q,b)) ?_ (λt _ g m=>?_)
   ·rintro _ _ ⟨v20,E,m⟩;have e:=Aj e E;simp[e];refine k5 m (ig T aau) λ_ d25 m=>?_;simp[e];refine dL m vY λ_ m=>?_;exact au
   apply Ir e m<;>intro e m
   ·exact k8
   simp[e];refine k5 m (ig T aau) λ_ d28 m=>?_;apply Iq e m<;>intro e m
   ·simp[e];refine k5 m (a aau) λ_ d30 m=>?_;simp[e];refine dL m eK λ_ m=>?_;exact au
   apply Iq e m<;>intro e m
   ·simp[e];refine dY m I3 λ_ m=>?_;simp[e];refine qX m (a aau) λ_ d34 m=>?_;simp[e];refine qX m (a aau) λ_ d36 m=>?_;simp[e];refine dY m L8 λ_ m=>?_;exact au
   apply Ir e m<;>intro e m
   ·exact k8
   simp[e];refine dY m LL λ_ m=>?_;simp[e];refine qX m (a aau) λ_ d40 m=>?_;simp[e];refine qX m (a aau) λ_ d42 m=>?_;simp[e];refine dY m L8 λ_ m=>?_;exact au
  apply wg 3;simp[e];apply Ir e m<;>intro e m
  ·apply wg 999;apply Iq e m<;>intro e m
   ·have⟨F,e,m⟩:=gu e m;simp[e];refine qX m (a aau) λ_ d46 m=>?_;have⟨G,e,m⟩:=gu e m;simp[e];refine qX m (a aau) λ_ d49 m=>?_;simp[e];refine dY m eK λ_ m=>?_;exact au
   apply Ir e m<;>intro e m
   ·simp[e];refine dL m eK λ_ m=>?_;exact au
   have⟨I,e,m⟩:=gu e m;simp[e];refine dY m pS λ_ m=>?_;have⟨J,e,m⟩:=gu e m;simp[e];refine qX m (a aau) λ_ d56 m=>?_;simp[e];refine dY m kT λ_ m=>?_;exact au
  apply wg 2;simp[e];refine Wj m 999 999 (λu f h=>∃v59 k,(h=dx H c [sL sI k.l,sI k.sE]/\f.1 0=AV.di c 0/\f.1 1=sL Ty.av a1/\f.1 3=sI a3/\f.1 276=sB v59/\bx f 6 (Ty.av a2).cells/\bx f 8 [sI 0,sI 0,sI 0,nL,nL])/\u v59 k=some (q,b)) (λu _ g m=>?_) ?_
  ·apply Ir e m<;>intro e m
   ·exact ak2
   simp[e];refine k5 m (ig T aau) λ_ d64 m=>?_;exact ak2
  rintro _ _ ⟨v59,k,E,m⟩;have e:=Aj e E;apply Ir e m<;>intro e m
  ·simp[e];refine dL m eK λ_ m=>?_;exact au
  simp[e];refine dY m gS λ_ m=>?_;simp[e];refine qX m (a aau) λ_ d69 m=>?_;simp[e];refine qX m (a aau) λ_ d71 m=>?_;simp[e];refine dY m eK λ_ m=>?_;exact au
 apply Ir e m<;>intro e m
 ·exact k8
 simp[e];refine k5 m (ig T aau) λ_ d74 m=>?_;apply Iq e m<;>intro e m
 ·simp[e];refine k5 m (s6 T aau) λ_ d76 m=>?_;simp[e];refine dY m pS λ_ m=>?_;simp[e];refine qX m (a aau) λ_ d79 m=>?_;simp[e];refine dY m kT λ_ m=>?_;simp[e];refine qX m (a aau) λ_ d82 m=>?_;simp[e];refine dY m eK λ_ m=>?_;exact au
 apply Iq e m<;>intro e m
 ·simp[e];refine k5 m (s6 T aau) λ_ d85 m=>?_;simp[e];refine qX m (a aau) λ_ d87 m=>?_;simp[e];refine qX m (a aau) λ_ d89 m=>?_;simp[e];refine dY m eK λ_ m=>?_;simp[e];refine dY m eK λ_ m=>?_;exact au
 apply Iq e m<;>intro e m
 ·simp[e];refine dY m gS λ_ m=>?_;simp[e];refine dY m gS λ_ m=>?_;simp[e];refine dY m pS λ_ m=>?_;simp[e];refine qX m (a aau) λ_ d96 m=>?_;simp[e];refine dY m kT λ_ m=>?_;simp[e];refine dY m kT λ_ m=>?_;simp[e];refine qX m (a aau) λ_ d100 m=>?_;simp[e];refine qX m (ig T aau) λ_ d102 m=>?_;simp[e];refine dY m vY λ_ m=>?_;simp[e];refine dY m kT λ_ m=>?_;exact au
 apply Iq e m<;>intro e m
 ·simp[e];refine dY m gS λ_ m=>?_;simp[e];refine dY m mZ λ_ m=>?_;simp[e];refine dY m gS λ_ m=>?_;simp[e];refine dY m mZ λ_ m=>?_;simp[e];refine dY m pS λ_ m=>?_;simp[e];refine qX m (a aau) λ_ d111 m=>?_;simp[e];refine dY m kT λ_ m=>?_;simp[e];refine dY m kT λ_ m=>?_;simp[e];refine dY m kT λ_ m=>?_;simp[e];refine qX m (a aau) λ_ d116 m=>?_;simp[e];refine dY m mZ λ_ m=>?_;simp[e];refine qX m (a aau) λ_ d119 m=>?_;simp[e];refine dY m kT λ_ m=>?_;exact au
 apply Iq e m<;>intro e m
 ·simp[e];refine k5 m (s6 T aau) λ_ d122 m=>?_;simp[e];refine qX m (a aau) λ_ d124 m=>?_;simp[e];refine qX m (a aau) λ_ d126 m=>?_;simp[e];refine dY m eK λ_ m=>?_;simp[e];refine dY m eK λ_ m=>?_;exact au
 apply Ir e m<;>intro e m
 ·exact k8
 simp[e];refine Wr e m 0 (λd _ f h=>h=dx H c [sL sI d74.l,sI d74.sE]/\f.1 0=AV.di c 0/\f.1 1=sL Ty.av a1/\f.1 3=sI a3/\f.1 176=sI (cI a1)/\f.1 177=sI d/\bx f 6 (Ty.av a2).cells/\bx f 8 [sI 0,sI 0,sI 0,nL,nL]) aau (λ_ _ _ _ E m=>?_) (λd _ _ _ _ _ _ v E e m z p=>?_)
 ·have e:=Aj e E;apply wg 999;dsimp only[ca]at m;exact k8
 have e:=Aj e E;apply wg 11;have⟨w,e,m⟩:=gu e m;simp[e];refine Wj m 999 999 (λo f h=>∃i,(h=dx H c [sL sI d74.l,sI d74.sE]/\f.1 0=AV.di c 0/\f.1 1=sL Ty.av a1/\f.1 3=sI a3/\f.1 15=sI d/\f.1 176=sI (cI a1)/\f.1 177=sI d/\f.1 198=sB i/\bx f 6 (Ty.av a2).cells/\bx f 8 [sI 0,sI 0,sI 0,nL,nL]/\bx f 16 (Ty.av w).cells)/\o i=some v) (λo _ g m=>?_) ?_
 ·apply Ir e m<;>intro e m
  ·exact k8
  have⟨A,e,m⟩:=gu e m;simp[e];refine dY m fB λ_ m=>?_;exact k8
 rintro _ _ ⟨i,E,m⟩;have e:=Aj e E;apply Ir e m<;>intro e m
 ·exact al
 simp[e];refine dY m gq λ_ m=>?_;have⟨B,e,m⟩:=gu e m;simp[e];refine qX m (a aau) λ_ d149 m=>?_;simp[e];refine dY m eK λ_ m=>?_;exact au
def ID(T:cV){H:cc}{a0:cH}{a1:List Ty}{a2:Ty}{a3:Int}{d:Tm}{a:cH}{b:Nat}(c:H[b]?=some [sL sI a0.l,sI a0.sE]){n:Nat}(hm:fH n a0 a1 a2 a3=some (d,a)):dr prog T 11 [AV.di b 0,sL Ty.av a1,Ty.av a2,sI a3] H (Tm.av d) (dx H b [sL sI a.l,sI a.sE]):=(Nr T n) c hm
def pT:C3 prog 15 iW Fm.av sI Ty.av Fm.av:=by
 refine v3 func15 λT H a0 a1 a2 r m e=>?_;rw[iW] at m;simp[e];refine dY m iL λa m=>?_;simp[e];refine dY m oG λb m=>?_;have e:=Aj e (show AV.agg [sI a0,sI a.ad',sL Ty.av a.aea,AV.slice .gY [],AV.slice .gY [Fm.av b]]=Fm.av (Fm.mk a0 a [] [b]) by rw[Fm.eH];rfl);exact au
def sM:C1 prog 143 oq sB Ty.av:=by
 refine u1 2 func143 λT H a0 r m e=>?_;rw[oq] at m;simp[e];refine IV 999 999 (λf h=>h=H/\f.1 2=sB (df (cn a0.ad' 0) (cn (cI a0.aea) 0) false)) ?_ (λ_ g=>?_)
 ·rintro _ _ E;have e:=Aj e E;exact au
 rcases Pb (cn a0.ad' 0) e with e|e
 ·exact aj
 exact aj
def I9:C1 prog 177 tv sI sI:=by
 refine u1 6 func177 λT H a0 r m e=>?_;rw[tv] at m;simp[e];refine wj 999 0 (λf h=>h=H/\f.1 3=sI a0/\f.1 4=sB (df (cn a0 1) true (df (cn a0 4) true (df (cn a0 7) true (cn a0 13))))) (λ_ g=>?_) ?_
 ·rcases Pb (cn a0 1) e with e|e
  ·exact aj
  rcases Pb (cn a0 4) e with e|e
  ·exact aj
  rcases Pb (cn a0 7) e with e|e
  ·exact aj
  exact aj
 rintro _ _ E;have e:=Aj e E;apply Iq e m<;>intro e m
 ·apply wg 999;exact au
 apply wg 1;simp[e];refine wj 999 0 (λf h=>h=H/\f.1 3=sI a0/\f.1 9=sB (df (cn a0 2) true (df (cn a0 5) true (df (cn a0 11) true (cn a0 12))))) (λ_ g=>?_) ?_
 ·rcases Pb (cn a0 2) e with e|e
  ·exact aj
  rcases Pb (cn a0 5) e with e|e
  ·exact aj
  rcases Pb (cn a0 11) e with e|e
  ·exact aj
  exact aj
 rintro _ _ E;have e:=Aj e E;apply Iq e m<;>intro e m
 ·apply wg 999;exact au
 apply wg 1;simp[e];refine wj 999 0 (λf h=>h=H/\f.1 3=sI a0/\f.1 14=sB (df (cn a0 3) true (df (cn a0 8) true (cn a0 10)))) (λ_ g=>?_) ?_
 ·rcases Pb (cn a0 3) e with e|e
  ·exact aj
  rcases Pb (cn a0 8) e with e|e
  ·exact aj
  exact aj
 rintro _ _ E;have e:=Aj e E;apply Iq e m<;>intro e m
 ·apply wg 999;exact au
 apply wg 1;simp[e];refine IV 999 999 (λf h=>h=H/\f.1 18=sB (df (cn a0 6) true (cn a0 9))) ?_ (λ_ g=>?_)
 ·rintro _ _ E;have e:=Aj e E;refine Il e m λe m=>?_;exact au
 rcases Pb (cn a0 6) e with e|e
 ·exact aj
 exact aj
def GY{n:Nat}:C1 prog 178 (oa n) sB Ty.av:=by
 refine i1 λn c=>u1 4 func178 λT H a0 r m e=>?_;rw[oa] at m;simp[e];refine B6 m 3 999 (λa f h=>∃v2,(h=H/\f.1 3=sI v2/\bx f 1 (Ty.av a0).cells)/\a v2=some r) ?_ (λa _ g m=>?_)
 ·rintro _ _ ⟨v2,E,m⟩;have e:=Aj e E;refine Il e m λe m=>?_;simp[e];refine Wr e m 999 (λb _ f h=>h=H/\f.1 21=sL Ty.av a0.aea/\f.1 22=sI (cI a0.aea)/\f.1 23=sI b) aau (λ_ _ _ _ E m=>?_) (λb _ _ _ _ _ _ _ E e m z p=>?_)
  ·have e:=Aj e E;dsimp only[ca]at m;exact au
  have e:=Aj e E;simp[e];refine dL m c λ_ m=>?_;refine Im e m λe m=>?_;exact al
 simp[e];refine wj 999 0 (λf h=>h=H/\f.1 3=sI 0/\f.1 7=sI a0.ad'/\f.1 8=sB (df (cn a0.ad' 1) true (df (cn a0.ad' 2) true (cn a0.ad' 5)))/\bx f 1 (Ty.av a0).cells) (λ_ g=>?_) ?_
 ·rcases Pb (cn a0.ad' 1) e with e|e
  ·exact aj
  rcases Pb (cn a0.ad' 2) e with e|e
  ·exact aj
  exact aj
 rintro _ _ E;have e:=Aj e E;apply Iq e m<;>intro e m
 ·apply wg 999;exact k8
 apply wg 1;simp[e];refine wj 999 999 (λf h=>h=H/\f.1 12=sB (df (cn a0.ad' 3) true (cn a0.ad' 4))/\bx f 1 (Ty.av a0).cells) (λ_ g=>?_) ?_
 ·rcases Pb (cn a0.ad' 3) e with e|e
  ·exact aj
  exact aj
 rintro _ _ E;have e:=Aj e E;refine Im e m λe m=>?_;exact k8
def JV{n:Nat}:C1 prog 179 (pL n) sI Ty.av:=by
 refine i1 λn b=>v1 func179 λT H a0 r m e=>?_;rw[pL] at m;simp[e];refine Wr e m 999 (λa s2 f h=>h=H/\f.1 3=sI s2/\f.1 7=sL Ty.av a0.aea/\f.1 8=sI (cI a0.aea)/\f.1 9=sI a) aau (λs2 _ _ _ E m=>?_) (λa _ s2 _ _ _ _ _ E e m z p=>?_)
 ·have e:=Aj e E;dsimp only[ca]at m;exact au
 have e:=Aj e E;simp[e];refine dL m b λ_ m=>?_;exact al
def nk:C1 prog 146 gO sI Ty.av:=by
 refine v1 func146 λT H a0 r m e=>?_;rw[gO] at m;simp[e];refine dL m GY λ_ m=>?_;refine Im e m λe m=>?_;simp[e];refine dL m JV λ_ m=>?_;refine Il e m λe m=>?_;exact au
def rW{n:Nat}:C1 prog 144 (je n) sB Tm.av:=by
 refine i1 λn d=>u1 3 func144 λT H a0 r m e=>?_;rw[je] at m;simp[e];refine Wj m 999 0 (λb f h=>∃v2,(h=H/\f.1 26=sB v2/\bx f 1 (Tm.av a0).cells)/\b v2=some r) (λb _ g m=>?_) ?_
 ·simp[e];refine dY m I9 λ_ m=>?_;apply Iq e m<;>intro e m
  ·exact k8
  apply Iq e m<;>intro e m
  ·exact k8
  apply Ir e m<;>intro e m
  ·exact k8
  exact k8
 rintro _ _ ⟨v2,E,m⟩;have e:=Aj e E;apply Iq e m<;>intro e m
 ·apply wg 999;exact au
 apply wg 2;simp[e];refine B6 m 3 999 (λc f h=>(h=H/\f.1 1=AV.gx 1 (f.gen 1) 0/\f.box 1=some (Tm.av a0).cells)/\c=some r) ?_ (λc _ g m=>?_)
 ·rintro _ _ ⟨E,m⟩;have e:=Aj e E;simp[e];refine Wr e m 999 (λa _ f h=>h=H/\f.1 42=sL Tm.av a0.aea/\f.1 43=sI (cI a0.aea)/\f.1 44=sI a) aau (λ_ _ _ _ E m=>?_) (λa _ _ _ _ _ _ _ E e m z p=>?_)
  ·have e:=Aj e E;dsimp only[ca]at m;exact au
  have e:=Aj e E;simp[e];refine dL m d λ_ m=>?_;refine Im e m λe m=>?_;exact al
 simp[e];refine wj 999 999 (λf h=>h=H/\f.1 33=sB (df (cn a0.ad' 2) true (df (cn a0.ad' 6) true (cn a0.ad' 9)))/\bx f 1 (Tm.av a0).cells) (λ_ g=>?_) ?_
 ·rcases Pb (cn a0.ad' 2) e with e|e
  ·exact aj
  rcases Pb (cn a0.ad' 6) e with e|e
  ·exact aj
  exact aj
 rintro _ _ E;have e:=Aj e E;apply Iq e m<;>intro e m
 ·simp[e];refine dL m nk λ_ m=>?_;refine Il e m λe m=>?_;exact Zj
 simp[e];refine dL m sM λ_ m=>?_;refine Im e m λe m=>?_;exact Zj
def pI:C1 prog 145 jx sB sI:=by
 refine u1 2 func145 λT H a0 r m e=>?_;rw[jx] at m;simp[e];refine IV 999 999 (λf h=>h=H/\f.1 2=sB (df (cn a0 4) true (df (cn a0 5) true (df (cn a0 6) true (cn a0 7))))) ?_ (λ_ g=>?_)
 ·rintro _ _ E;have e:=Aj e E;exact au
 rcases Pb (cn a0 4) e with e|e
 ·exact aj
 rcases Pb (cn a0 5) e with e|e
 ·exact aj
 rcases Pb (cn a0 6) e with e|e
 ·exact aj
 exact aj
def z7{n:Nat}:C1 prog 119 (kE n) sB Fm.av:=by
 refine i1 λn d=>u1 7 func119 λT H a0 r m e=>?_;rw[kE] at m;apply Iq e m<;>intro e m
 ·simp[e];refine B6 m 999 999 (λi f h=>∃v2,(h=H/\f.1 2=sB v2)/\i v2=some r) ?_ (λi _ g m=>?_)
  ·rintro _ _ ⟨v2,E,m⟩;have e:=Aj e E;exact au
  apply Ir e m<;>intro e m
  ·exact k8
  simp[e];refine dL m sM λ_ m=>?_;apply Ir e m<;>intro e m
  ·exact k8
  apply Ir e m<;>intro e m
  ·exact k8
  have⟨o,e,m⟩:=gu e m;simp[e];refine dL m rW λ_ m=>?_;apply Ir e m<;>intro e m
  ·exact k8
  have⟨q,e,m⟩:=gu e m;simp[e];refine dL m rW λ_ m=>?_;exact k8
 simp[e];refine wj 999 0 (λf h=>h=H/\f.1 36=sB (df (cn a0.ad' 2) true (cn a0.ad' 3))/\bx f 1 (Fm.av a0).cells) (λ_ g=>?_) ?_
 ·rcases Pb (cn a0.ad' 2) e with e|e
  ·exact aj
  exact aj
 rintro _ _ E;have e:=Aj e E;apply Ir e m<;>intro e m
 ·apply wg 3;simp[e];refine dL m pI λ_ m=>?_;simp[e];apply Ir e m<;>intro e m
  ·apply wg 999;exact au
  apply wg 1;simp[e];refine B6 m 999 999 (λb f h=>∃a,(h=H/\f.1 2=sB a)/\b a=some r) ?_ (λb _ g m=>?_)
  ·rintro _ _ ⟨a,E,m⟩;have e:=Aj e E;exact au
  apply Ir e m<;>intro e m
  ·exact k8
  simp[e];refine dL m nk λ_ m=>?_;apply Ir e m<;>intro e m
  ·exact k8
  apply Ir e m<;>intro e m
  ·exact k8
  have⟨j,e,m⟩:=gu e m;simp[e];refine dL m d λ_ m=>?_;exact k8
 apply wg 1;simp[e];refine B6 m 999 999 (λc f h=>∃v24,(h=H/\f.1 2=sB v24)/\c v24=some r) ?_ (λc _ g m=>?_)
 ·rintro _ _ ⟨v24,E,m⟩;have e:=Aj e E;exact au
 apply Ir e m<;>intro e m
 ·exact k8
 simp[e];refine dL m sM λ_ m=>?_;apply Ir e m<;>intro e m
 ·exact k8
 apply Ir e m<;>intro e m
 ·exact k8
 have⟨k,e,m⟩:=gu e m;simp[e];refine dL m d λ_ m=>?_;apply Ir e m<;>intro e m
 ·exact k8
 have⟨l,e,m⟩:=gu e m;simp[e];refine dL m d λ_ m=>?_;exact k8
def eD{n:Nat}:C1 prog 121 (dM n) sI Tm.av:=by
 refine i1 λn b=>v1 func121 λT H a0 r m e=>?_;rw[dM] at m;simp[e];refine Wr e m 999 (λa s2 f h=>h=H/\f.1 3=sI s2/\f.1 7=sL Tm.av a0.aea/\f.1 8=sI (cI a0.aea)/\f.1 9=sI a) aau (λs2 _ _ _ E m=>?_) (λa _ s2 _ _ _ _ _ E e m z p=>?_)
 ·have e:=Aj e E;dsimp only[ca]at m;exact au
 have e:=Aj e E;simp[e];refine dL m b λ_ m=>?_;exact al
def nq{n:Nat}:C1 prog 80 (jf n) sI Fm.av:=by
 refine i1 λn d=>v1 func80 λT H a0 r m e=>?_;rw[jf] at m;simp[e];refine DH e m 999 (λc s2 f h=>h=H/\f.1 3=sI s2/\f.1 9=sL Tm.av a0.cx/\f.1 10=sI (cI a0.cx)/\f.1 11=sI c/\bx f 1 (Fm.av a0).cells) aau (λc _ s2 _ _ _ _ _ E e m z p=>?_) (λs2 _ _ _ E m=>?_)
 ·have e:=Aj e E;simp[e];refine dL m eD λ_ m=>?_;exact al
 have e:=Aj e E;dsimp only[ca]at m;simp[e];refine Wr e m 999 (λb a f h=>h=H/\f.1 3=sI a/\f.1 21=sL Fm.av a0.aea/\f.1 22=sI (cI a0.aea)/\f.1 23=sI b) aau (λa _ _ _ E m=>?_) (λb _ a _ _ _ _ _ E e m z p=>?_)
 ·have e:=Aj e E;dsimp only[ca]at m;exact au
 have e:=Aj e E;simp[e];refine dL m d λ_ m=>?_;exact al
def kP:C1 prog 76 iA sI Fm.av:=by
 refine v1 func76 λT H a0 r m e=>?_;rw[iA] at m;simp[e];refine dL m z7 λ_ m=>?_;refine Im e m λe m=>?_;simp[e];refine dL m nq λ_ m=>?_;refine Il e m λe m=>?_;exact au
def El{n:Nat}:C1 prog 77 (jD n) sB Fm.av:=by
 refine i1 λn b=>u1 3 func77 λT H a0 r m e=>?_;rw[jD] at m;simp[e];refine wj 999 999 (λf h=>h=H/\f.1 12=sB (df (cn a0.ad' 6) true (cn a0.ad' 7))/\bx f 1 (Fm.av a0).cells) (λ_ g=>?_) ?_
 ·rcases Pb (cn a0.ad' 6) e with e|e
  ·exact aj
  exact aj
 rintro _ _ E;have e:=Aj e E;refine Il e m λe m=>?_;simp[e];refine Wr e m 999 (λa _ f h=>h=H/\f.1 14=sL Fm.av a0.aea/\f.1 15=sI (cI a0.aea)/\f.1 16=sI a) aau (λ_ _ _ _ E m=>?_) (λa _ _ _ _ _ _ _ E e m z p=>?_)
 ·have e:=Aj e E;dsimp only[ca]at m;exact au
 have e:=Aj e E;simp[e];refine dL m b λ_ m=>?_;refine Il e m λe m=>?_;exact al
def vi{n:Nat}:C2 prog 120 (jX n) sB Tm.av sI:=by
 refine i2 λn b=>v2 func120 λT H a0 a1 r m e=>?_;rw[jX] at m;refine Il e m λe m=>?_;simp[e];refine Wr e m 999 (λa _ f h=>h=H/\f.1 1=sI a1/\f.1 12=sL Tm.av a0.aea/\f.1 13=sI (cI a0.aea)/\f.1 14=sI a) aau (λ_ _ _ _ E m=>?_) (λa _ _ _ _ _ _ _ E e m z p=>?_)
 ·have e:=Aj e E;dsimp only[ca]at m;exact au
 have e:=Aj e E;simp[e];refine dL m b λ_ m=>?_;refine Im e m λe m=>?_;exact al
def zV{n:Nat}:C2 prog 78 (mK n) sB Fm.av sI:=by
 refine i2 λn c=>v2 func78 λT H a0 a1 r m e=>?_;rw[mK] at m;simp[e];refine DH e m 999 (λb _ f h=>h=H/\f.1 1=sI a1/\f.1 10=sL Tm.av a0.cx/\f.1 11=sI (cI a0.cx)/\f.1 12=sI b/\bx f 2 (Fm.av a0).cells) aau (λb _ _ _ _ _ _ _ E e m z p=>?_) (λ_ _ _ _ E m=>?_)
 ·have e:=Aj e E;simp[e];refine dL m vi λ_ m=>?_;refine Im e m λe m=>?_;exact al
 have e:=Aj e E;dsimp only[ca]at m;simp[e];refine Wr e m 999 (λa _ f h=>h=H/\f.1 1=sI a1/\f.1 22=sL Fm.av a0.aea/\f.1 23=sI (cI a0.aea)/\f.1 24=sI a) aau (λ_ _ _ _ E m=>?_) (λa _ _ _ _ _ _ _ E e m z p=>?_)
 ·have e:=Aj e E;dsimp only[ca]at m;exact au
 have e:=Aj e E;simp[e];refine dL m c λ_ m=>?_;refine Im e m λe m=>?_;exact al
def Hi{n:Nat}:C2 prog 79 (kG n) sI Fm.av sI:=by
 refine i2 λn b=>u2 4 func79 λT H a0 a1 r m e=>?_;rw[kG] at m;simp[e];refine B6 m 999 999 (λc f h=>∃v2,(h=H/\f.1 5=sI v2)/\c v2=some r) ?_ (λc _ g m=>?_)
 ·rintro _ _ ⟨v2,E,m⟩;have e:=Aj e E;exact au
 apply Iq e m<;>intro e m
 ·simp[e];refine dL m nq λ_ m=>?_;exact k8
 apply Iq e m<;>intro e m
 ·have⟨i,e,m⟩:=gu e m;simp[e];refine dL m b λ_ m=>?_;exact k8
 simp[e];refine Wr e m 999 (λd a f h=>h=H/\f.1 1=sI a1/\f.1 5=sI a/\f.1 11=sL Fm.av a0.aea/\f.1 12=sI (cI a0.aea)/\f.1 13=sI d) aau (λa _ _ _ E m=>?_) (λd _ a _ _ _ _ _ E e m z p=>?_)
 ·have e:=Aj e E;dsimp only[ca]at m;exact k8
 have e:=Aj e E;simp[e];refine dL m b λ_ m=>?_;exact al
def D9:C2 prog 45 pk sI Fm.av Fm.av:=by
 refine v2 func45 λT H a0 a1 r m e=>?_;rw[pk] at m;simp[e];refine dL m kP λ_ m=>?_;refine Il e m λe m=>?_;simp[e];refine dL m kP λ_ m=>?_;refine Il e m λe m=>?_;simp[e];refine dL m El λ_ m=>?_;refine Il e m λe m=>?_;simp[e];refine dL m zV λ_ m=>?_;refine Im e m λe m=>?_;simp[e];refine dY m nq λ_ m=>?_;simp[e];refine dY m Hi λ_ m=>?_;refine Il e m λe m=>?_;exact au
def uJ:C2 prog 81 pZ Fm.av Fm.av Fm.av:=by
 refine v2 func81 λT H a0 a1 r m e=>?_;rw[pZ] at m;simp[e];refine dL m hR λ_ m=>?_;exact au
def pc:C1 prog 180 jO sI Tm.av:=by
 refine v1 func180 λT H a0 r m e=>?_;rw[jO] at m;refine Il e m λe m=>?_;exact au
def Fe{n:Nat}:C3 prog 147 (qC n) Tm.av Tm.av sI sI:=by
 refine i3 λn k=>u3 4 func147 λT H a0 a1 a2 r m e=>?_;rw[qC] at m;simp[e];refine wj 0 999 (λf h=>h=H/\f.1 1=sI a1/\f.1 2=sI a2/\bx f 3 (Tm.av a0).cells/\bx f 6 [sI 0,sI 0,sI 0,nL,nL]/\bx f 7 [sI a0.ad',sI (df (df (cn a0.ad' 1) (qJ a0.aec a1) false) (c8 .i64 a0.aec a2) a0.aec),sI a0.b8.ad',sL Ty.av a0.b8.aea,nL]) (λ_ g=>?_) ?_
 ·refine wj 999 999 (λf h=>h=H/\f.1 1=sI a1/\f.1 2=sI a2/\f.1 25=sB (df (cn a0.ad' 1) (qJ a0.aec a1) false)/\bx f 3 (Tm.av a0).cells/\bx f 6 [sI 0,sI 0,sI 0,nL,nL]/\bx f 7 [sI a0.ad',sI a0.aec,sI a0.b8.ad',sL Ty.av a0.b8.aea,nL]) (λ_ g=>?_) ?_
  ·rcases Pb (cn a0.ad' 1) e with e|e
   ·exact aj
   exact aj
  rintro _ _ E;have e:=Aj e E;rcases Pb (df (cn a0.ad' 1) (qJ a0.aec a1) false) e with e|e
  ·exact aj
  exact aj
 rintro _ _ E;have e:=Aj e E;simp[e];refine Wr e m 999 (λj c f h=>∃a,(h=H/\f.1 1=sI a1/\f.1 2=sI a2/\f.1 32=sL Tm.av a0.aea/\f.1 33=sI (cI a0.aea)/\f.1 34=sI j/\bx f 3 (Tm.av a0).cells/\bx f 6 [sI 0,sI 0,sI 0,nL,nL]/\bx f 7 [sI a0.ad',sI (df (df (cn a0.ad' 1) (qJ a0.aec a1) false) (c8 .i64 a0.aec a2) a0.aec),sI a0.b8.ad',sL Ty.av a0.b8.aea,sT a Tm.av c])/\Ow f [48] a c) (by exact⟨.full,aau,iz.full⟩) (λc d _ _ E m=>?_) (λj _ c d _ _ _ _ E e m z p=>?_)
 ·have⟨a,E,b⟩:=E;have e:=Aj e E;dsimp only[ca]at m;exact au
 have⟨a,E,b⟩:=E;have e:=Aj e E;simp[e];refine dY m pc λ_ m=>?_;simp[e];refine dY m k λi m=>?_;have⟨e,m⟩:=Ck e m;simp[e];refine Ad (f:=Tm.av) c [i] b CM e.2 ?_;simp[e];cases m;exact p _ _ _ ⟨(.loc 48 (d.dv 48+1)),aau,(On 48)⟩ z
def rV:C1 prog 148 lU sI Fm.av:=by
 refine v1 func148 λT H a0 r m e=>?_;rw[lU] at m;simp[e];refine dL m pI λ_ m=>?_;refine Il e m λe m=>?_;exact au
def pJ{n:Nat}:C3 prog 122 (fQ n) Fm.av Fm.av sI sI:=by
 refine i3 λn v=>v3 func122 λT H a0 a1 a2 r m e=>?_;rw[fQ] at m;simp[e];refine DH e m 999 (λu s2 f h=>∃c,(h=H/\f.1 1=sI a1/\f.1 2=sI a2/\f.1 18=sL Tm.av a0.cx/\f.1 19=sI (cI a0.cx)/\f.1 20=sI u/\bx f 3 (Fm.av a0).cells/\bx f 6 [sI 0,sI 0,nL,nL,nL]/\bx f 7 [sI a0.ad',sI a0.b8.ad',sL Ty.av a0.b8.aea,sT c Tm.av s2,nL])/\Ow f [31] c s2) (by exact⟨.full,aau,iz.full⟩) (λu _ s2 o _ _ _ _ E e m z p=>?_) (λs2 o _ _ E m=>?_)
 ·have⟨c,E,i⟩:=E;have e:=Aj e E;simp[e];refine dY m Fe λs m=>?_;have⟨e,m⟩:=Ck e m;simp[e];refine Ad (f:=Tm.av) s2 [s] i CM e.2 ?_;simp[e];cases m;exact p _ _ _ ⟨(.loc 31 (o.dv 31+1)),aau,(On 31)⟩ z
 have⟨c,E,i⟩:=E;have e:=Aj e E;dsimp only[ca]at m;simp[e];refine Wr e m 999 (λq j f h=>∃a b,(h=H/\f.1 1=sI a1/\f.1 2=sI a2/\f.1 35=sL Fm.av a0.aea/\f.1 36=sI (cI a0.aea)/\f.1 37=sI q/\bx f 3 (Fm.av a0).cells/\bx f 6 [sI 0,sI 0,nL,nL,nL]/\bx f 7 [sI a0.ad',sI a0.b8.ad',sL Ty.av a0.b8.aea,sT a Tm.av s2,sT b Fm.av j])/\Ow f [31] a s2/\Ow f [51] b j) (by exact⟨c,.full,aau,i,iz.full⟩) (λj l _ _ E m=>?_) (λq _ j l _ _ _ _ E e m z p=>?_)
 ·have⟨a,b,E,k,d⟩:=E;have e:=Aj e E;dsimp only[ca]at m;exact au
 have⟨a,b,E,k,d⟩:=E;have e:=Aj e E;simp[e];refine dY m rV λ_ m=>?_;simp[e];refine dY m v λt m=>?_;have⟨e,m⟩:=Ck e m;simp[e];refine Ad (f:=Fm.av) j [t] d JN e.2 ?_;simp[e];cases m;exact p _ _ _ ⟨a,(.loc 51 (l.dv 51+1)),aau,(iz.other k d aaq aaq),(On 51)⟩ z
def Av:C1 prog 82 tz Fm.av Fm.av:=by
 refine v1 func82 λT H a0 r m e=>?_;rw[tz] at m;simp[e];refine dL m pJ λ_ m=>?_;exact au
def Mt:∀(n:Nat),C2 prog 46 (nM n) Fm.av Fm.av Fm.av/\C2 prog 83 (rI n) Fm.av Fm.av Fm.av:=by
  intro n
  induction n with
  |zero=>
    refine⟨?_,?_⟩
    all_goals(intro _ _;intros;rename_i hm;cases hm)
  |succ n a=>
 refine⟨?_,?_⟩
 ·intro T H a0 a1 r hm;rw[nM] at hm;have e:=trivial;refine wi aee func46 [] [] 8 ?_;simp[e];apply Iq e hm<;>intro e m
  ·apply wg 999;simp[e];refine dY m uJ λ_ m=>?_;simp[e];refine dY m uJ λ_ m=>?_;exact au
  apply wg 1;simp[e];refine wj 999 999 (λf h=>h=H/\f.1 6=sI a1.ad'/\f.1 14=sB (df (cn a1.ad' 2) true (cn a1.ad' 3))/\bx f 2 (Fm.av a0).cells/\bx f 3 (Fm.av a1).cells/\bx f 4 [sI 0,sI 0,nL,nL,nL]) (λ_ g=>?_) ?_
  ·rcases Pb (cn a1.ad' 2) e with e|e
   ·exact aj
   exact aj
  rintro _ _ E;have e:=Aj e E;apply Iq e m<;>intro e m
  ·have⟨d,e,m⟩:=gu e m;simp[e];refine dY m a.1 λ_ m=>?_;have⟨i,e,m⟩:=gu e m;simp[e];refine dY m a.1 λ_ m=>?_;simp[e];refine dY m hR λ_ m=>?_;exact au
  apply Ir e m<;>intro e m
  ·simp[e];refine dY m a.2 λ_ m=>?_;simp[e];refine dY m uJ λ_ m=>?_;exact au
  simp[e];refine dY m Av λ_ m=>?_;have⟨b,e,m⟩:=gu e m;simp[e];refine dY m a.1 λ_ m=>?_;simp[e];refine dY m pT λ_ m=>?_;exact au
 ·intro T H a0 a1 r hm;rw[rI] at hm;have e:=trivial;refine wi aee func83 [] [] 999 ?_;simp[e];refine dY hm Av λ_ m=>?_;have⟨c,e,m⟩:=gu e m;simp[e];refine dY m a.1 λ_ m=>?_;simp[e];refine dY m Av λ_ m=>?_;simp[e];refine dY m uJ λ_ m=>?_;simp[e];refine dY m pT λ_ m=>?_;exact au
def P2{n:Nat}:C2 prog 46 (nM n) Fm.av Fm.av Fm.av:=(Mt n).1
def xx:C2 prog 16 jI (t2 Fm.av sI) Fm.av Fm.av:=by
 refine v2 func16 λT H a0 a1 r m e=>?_;rw[jI] at m;simp[e];refine dL m D9 λ_ m=>?_;refine Il e m λe m=>?_;simp[e];refine dL m P2 λ_ m=>?_;simp[e];refine dL m oG λ_ m=>?_;exact au
def zT(T:cV)(c:mA T){H:cc}{a0:Int}{a:c_}{b:Bool}(hm:kJ a0=some (a,b)):dr prog T 152 [sI a0] H (AV.tuple [c_.av a,sB b]) H:=by
 rw[kJ] at hm;have e:=c;refine wi aee func152 [] [] 3 ?_;simp[e];refine wj 999 999 (λf h=>h=H/\f.1 0=sI a0/\f.1 9=sB (df (sg a0 1) true (qJ a0 21))/\bx f 2 [sB false,sB false,sI 0,sI 0,sI 0,sI 0,sI 0,sI 0]) (λ_ g=>?_) ?_
 ·rcases Pb (sg a0 1) e with e|e
  ·exact aj
  exact aj
 rintro _ _ E;have e:=Aj e E;refine Il e hm λe m=>?_;have⟨d,e,m⟩:=gu e m;exact au
def As:C3 prog 158 oR c9.av c9.av c_.av sI:=by
 refine u3 2 func158 λT H a0 a1 a2 r m e=>?_;rw[oR] at m;simp[e];refine IV 999 999 (λf h=>h=H/\bx f 3 [sI (df (cn a2 (dh .i64 a1.aea 1)) (c8 .i64 a0.vars a1.vars) a0.vars),sI (df (cn a2 (dh .i64 a1.aea 1)) (c8 .i64 a0.aeg a1.aeg) a0.aeg)]/\bx f 6 [sI 0,sI 0]) ?_ (λ_ g=>?_)
 ·rintro _ _ E;have e:=Aj e E;exact au
 rcases Pb (cn a2 (dh .i64 a1.aea 1)) e with e|e
 ·exact aj
 exact aj
@[simp] theorem ac4:dE prog 149=some (true,3):=by kernel_rfl
@[simp] theorem abI:p7 prog 149=some [.sc .nilFunc,.sc .nilFunc,.sc .nilFunc]:=by kernel_rfl
@[simp] theorem X7:dD prog 149 0=some (0,112):=by kernel_rfl
@[simp] theorem abJ:oW prog .neq 112 (.sc .nilFunc) (.sc .nilFunc)=some (.sc (.bool false)):=by kernel_rfl
@[simp] theorem Yf:dD prog 149 1=some (1,97):=by kernel_rfl
@[simp] theorem adt:dE prog 97=some (false,1):=by kernel_rfl
@[simp] theorem acn:oW prog .neq 97 (.sc .nilFunc) (.sc .nilFunc)=some (.sc (.bool false)):=by kernel_rfl
@[simp] theorem XB:dD prog 149 2=some (2,147):=by kernel_rfl
@[simp] theorem ac6:dE prog 147=some (false,1):=by kernel_rfl
@[simp] theorem abS:oW prog .neq 147 (.sc .nilFunc) (.sc .nilFunc)=some (.sc (.bool false)):=by kernel_rfl
def yH(T:cV)(K:mA T):∀(n:Nat),(∀{H:cc} {a0:Pf} {a1:c9} {a2:Int} {D:Pf} (hm:iM n a0 a1 a2=some D),dr prog T 130 [Pf.av a0,c9.av a1,AV.agg [AV.sc .nilFunc,AV.sc .nilFunc,AV.sc .nilFunc]] H (Pf.av D) H):=by
  intro n
  induction n with
  |zero=>
    skip
    all_goals(intro _ _;intros;rename_i hm;cases hm)
  |succ n M=>
 intro H a0 a1 a2 D hm;rw[iM] at hm;have e:=K;refine wi aee func130 [] [] 2 ?_;simp[e];refine wj 999 999 (λf h=>h=H/\bx f 3 (Pf.av a0).cells/\bx f 4 (c9.av a1).cells/\bx f 5 [AV.sc .nilFunc,AV.sc .nilFunc,AV.sc .nilFunc]/\bx f 6 [sI 0,sI 0,sI 0,nL,nL,nL,nL]) (λ_ g=>?_) ?_
 ·rcases Pb (cn a0.ad' 1) e with e|e
  ·exact aj
  exact aj
 rintro _ _ E;have e:=Aj e E;simp[e];refine k5 hm (zT T K) λF _ m=>?_;simp[e];refine dY m n7 λy m=>?_;simp[e];refine DH e m 999 (λL v f h=>∃j,(h=H/\f.1 44=sL Tm.av a0.cx/\f.1 45=sI (cI a0.cx)/\f.1 46=sI L/\bx f 3 (Pf.av a0).cells/\bx f 4 (c9.av a1).cells/\bx f 5 [AV.sc .nilFunc,AV.sc .nilFunc,AV.sc .nilFunc]/\bx f 6 [sI 0,sI 0,sI 0,nL,nL,nL,nL]/\bx f 7 (c_.av F).cells/\bx f 9 [sI a0.ad',sI a0.aec,sI y.ad',sL Ty.av y.aea,sT j Tm.av v,nL,nL])/\Ow f [69] j v) (by exact⟨.full,aau,iz.full⟩) (λL _ v A _ _ _ _ E e m z p=>?_) (λv A _ _ E m=>?_)
 ·have⟨j,E,r⟩:=E;have e:=Aj e E;simp[e];refine dY m Fq λG m=>?_;have⟨e,m⟩:=Ck e m;simp[e];refine Ad (f:=Tm.av) v [G] r CM e.2 ?_;simp[e];cases m;exact p _ _ _ ⟨(.loc 69 (A.dv 69+1)),aau,(On 69)⟩ z
 have⟨j,E,r⟩:=E;have e:=Aj e E;dsimp only[ca]at m;simp[e];refine DH e m 999 (λB o f h=>∃a b,(h=H/\f.1 73=sL Fm.av a0.dy/\f.1 74=sI (cI a0.dy)/\f.1 75=sI B/\bx f 3 (Pf.av a0).cells/\bx f 4 (c9.av a1).cells/\bx f 5 [AV.sc .nilFunc,AV.sc .nilFunc,AV.sc .nilFunc]/\bx f 6 [sI 0,sI 0,sI 0,nL,nL,nL,nL]/\bx f 7 (c_.av F).cells/\bx f 9 [sI a0.ad',sI a0.aec,sI y.ad',sL Ty.av y.aea,sT a Tm.av v,sT b Fm.av o,nL])/\Ow f [69] a v/\Ow f [101] b o) (by exact⟨j,.full,aau,r,iz.full⟩) (λB _ o w _ _ _ _ E e m z p=>?_) (λo w _ _ E m=>?_)
 ·have⟨a,b,E,q,k⟩:=E;have e:=Aj e E;simp[e];refine dY m uw λI m=>?_;have⟨e,m⟩:=Ck e m;simp[e];refine Ad (f:=Fm.av) o [I] k JN e.2 ?_;simp[e];cases m;exact p _ _ _ ⟨a,(.loc 101 (w.dv 101+1)),aau,(iz.other q k aaq aaq),(On 101)⟩ z
 have⟨a,b,E,q,k⟩:=E;have e:=Aj e E;dsimp only[ca]at m;simp[e];refine Wr e m 999 (λC s f h=>∃c d i,(h=H/\f.1 105=sL Pf.av a0.aea/\f.1 106=sI (cI a0.aea)/\f.1 107=sI C/\bx f 4 (c9.av a1).cells/\bx f 5 [AV.sc .nilFunc,AV.sc .nilFunc,AV.sc .nilFunc]/\bx f 6 [sI 0,sI 0,sI 0,nL,nL,nL,nL]/\bx f 7 (c_.av F).cells/\bx f 9 [sI a0.ad',sI a0.aec,sI y.ad',sL Ty.av y.aea,sT c Tm.av v,sT d Fm.av o,sT i Pf.av s])/\Ow f [69] c v/\Ow f [101] d o/\Ow f [122] i s) (by exact⟨a,b,.full,aau,q,k,iz.full⟩) (λs x _ _ E m=>?_) (λC _ s x _ _ _ _ E e m z p=>?_)
 ·have⟨c,d,i,E,t,u,l⟩:=E;have e:=Aj e E;dsimp only[ca]at m;exact au
 have⟨c,d,i,E,t,u,l⟩:=E;have e:=Aj e E;simp[e];refine dY m As λ_ m=>?_;simp[e];refine dY m M λJ m=>?_;have⟨e,m⟩:=Ck e m;simp[e];refine Ad (f:=Pf.av) s [J] l acZ e.2 ?_;simp[e];cases m;exact p _ _ _ ⟨c,d,(.loc 122 (x.dv 122+1)),aau,(iz.other t l aaq aaq),(iz.other u l aaq aaq),(On 122)⟩ z
def zH(T:cV)(b:mA T){H:cc}{a0:Pf}{a1:c9}{a2:Int}{a:Pf}{n:Nat}(hm:iM n a0 a1 a2=some a):dr prog T 130 [Pf.av a0,c9.av a1,AV.agg [AV.sc .nilFunc,AV.sc .nilFunc,AV.sc .nilFunc]] H (Pf.av a) H:=(yH T b n) hm
def xD(T:cV)(a:mA T){H:cc}{a0 b:Pf}(hm:ns a0=some b):dr prog T 99 [Pf.av a0] H (Pf.av b) H:=by
 rw[ns] at hm;have e:=a;refine wi aee func99 [] [] 999 ?_;simp[e];refine dL hm (zH T a) λ_ m=>?_;exact au
def v7(T:cV)(a:mA T){H:cc}{a0:Tm}{b c:Int}(hm:ib a0=some (b,c)):dr prog T 156 [Tm.av a0] H (AV.tuple [sI b,sI c]) H:=by
 rw[ib] at hm;have e:=a;refine wi aee func156 [] [] 999 ?_;simp[e];refine k5 hm (vT T a) λ_ _ m=>?_;refine Im e m λe m=>?_;refine Il e m λe m=>?_;exact au
def tI(T:cV){H:cc}{a0:cb}{a1 a2:Int}{i:Bool}{a:cb}{c:Nat}(b:H[c]?=some [sI a0.aeb,sB a0.gb])(hm:fy a0 a1 a2=some (i,a)):dr prog T 155 [AV.di c 0,sI a1,sI a2] H (sB i) (dx H c [sI a.aeb,sB a.gb]):=by
 rw[fy] at hm;have d:=eo b;refine dj.PS b ?_;have e:=d;refine wi aee func155 [] [] 4 ?_;simp[e];refine IV 999 999 (λf h=>h=dx H c [sI (df a0.gb (cb.mk (c8 .i64 a0.aeb a1) true) (cb.mk (c8 .i64 a0.aeb a1) (cn a2 4))).aeb,sB (df a0.gb (cb.mk (c8 .i64 a0.aeb a1) true) (cb.mk (c8 .i64 a0.aeb a1) (cn a2 4))).gb]/\f.1 2=sI a2) ?_ (λ_ g=>?_)
 ·rintro _ _ E;have e:=Aj e E;cases hm;simp[e]
 rcases Pb a0.gb e with e|e
 ·exact aj
 exact aj
def zv(T:cV)(r:mA T):∀(n:Nat),(∀{H:cc} {a0:cb} {a1:Pf} {s:Bool} {c:cb} {a:Nat} (k:H[a]?=some [sI a0.aeb,sB a0.gb]) (hm:gi n a0 a1=some (s,c)),dr prog T 125 [AV.di a 0,Pf.av a1] H (sB s) (dx H a [sI c.aeb,sB c.gb])):=by
  intro n
  induction n with
  |zero=>
    skip
    all_goals(intro _ _;intros;rename_i hm;cases hm)
  |succ n x=>
 intro H a0 a1 s c a k hm;rw[gi] at hm;have u:=eo k;refine dj.PS k ?_;have e:=Aj r u;refine wi aee func125 [] [] 5 ?_;simp[e];refine k5 hm (zT T r) λb v m=>?_;simp[e];refine wj 999 0 (λf h=>h=dx H a [sI a0.aeb,sB a0.gb]/\f.1 0=AV.di a 0/\f.1 61=sB (df v (df (sg a1.aec 0) true (df (cF a1.aec 0) (df b.aec (df (cF (cI a1.cx) b.cx) true (df (cF (cI a1.dy) b.dy) true (cF (cI a1.aea) b.aea))) true) (df (cF (cI a1.cx) b.cx) true (df (cF (cI a1.dy) b.dy) true (cF (cI a1.aea) b.aea))))) true)/\bx f 3 (Pf.av a1).cells/\bx f 5 (c_.av b).cells) (λ_ g=>?_) ?_
 ·rcases Pb v e with e|e;rotate_left
  ·exact aj
  rcases Pb (sg a1.aec 0) e with e|e
  ·exact aj
  rcases Pb (cF a1.aec 0) e with e|e;rotate_left
  ·rcases Pb (cF (cI a1.cx) b.cx) e with e|e
   ·exact aj
   rcases Pb (cF (cI a1.dy) b.dy) e with e|e
   ·exact aj
   exact aj
  rcases Pb b.aec e with e|e;rotate_left
  ·exact aj
  rcases Pb (cF (cI a1.cx) b.cx) e with e|e
  ·exact aj
  rcases Pb (cF (cI a1.dy) b.dy) e with e|e
  ·exact aj
  exact aj
 rintro _ _ E;have e:=Aj e E;apply Iq e m<;>intro e m
 ·apply wg 999;exact au
 apply wg 4;simp[e];refine Wj m 999 999 (λw f h=>∃t,(h=dx H a [sI t.aeb,sB t.gb]/\f.1 0=AV.di a 0/\f.1 3=AV.gx 3 (f.gen 3) 0/\f.box 3=some (Pf.av a1).cells)/\w t=some (s,c)) (λw _ g m=>?_) ?_
 ·apply Iq e m<;>intro e m
  ·simp[e];refine k5 m oT λ_ _ m=>?_;refine Il e m λe m=>?_;exact k8
  simp[e];refine dL m vn λ_ m=>?_;refine Im e m λe m=>?_;exact k8
 rintro _ _ ⟨t,E,m⟩;have e:=Aj e E;simp[e];refine DH e m 999 (λl d f h=>h=dx H a [sI d.aeb,sB d.gb]/\f.1 0=AV.di a 0/\f.1 84=sL Tm.av a1.cx/\f.1 85=sI (cI a1.cx)/\f.1 86=sI l/\bx f 3 (Pf.av a1).cells) aau (λl _ d _ _ _ _ _ E e m z p=>?_) (λd _ _ _ E m=>?_)
 ·have e:=Aj e E;simp[e];refine k5 m (v7 T r) λ_ _ m=>?_;simp[e];refine k5 m (tI T aau) λ_ d26 m=>?_;refine Im e m λe m=>?_;exact al
 have e:=Aj e E;dsimp only[ca]at m;simp[e];refine DH e m 999 (λo i f h=>h=dx H a [sI i.aeb,sB i.gb]/\f.1 0=AV.di a 0/\f.1 99=sL Fm.av a1.dy/\f.1 100=sI (cI a1.dy)/\f.1 101=sI o/\bx f 3 (Pf.av a1).cells) aau (λo _ i _ _ _ _ _ E e m z p=>?_) (λi _ _ _ E m=>?_)
 ·have e:=Aj e E;simp[e];refine k5 m (hH T r) λ_ _ m=>?_;simp[e];refine k5 m (tI T aau) λ_ d39 m=>?_;refine Im e m λe m=>?_;exact al
 have e:=Aj e E;dsimp only[ca]at m;simp[e];refine Wr e m 999 (λq j f h=>h=dx H a [sI j.aeb,sB j.gb]/\f.1 0=AV.di a 0/\f.1 114=sL Pf.av a1.aea/\f.1 115=sI (cI a1.aea)/\f.1 116=sI q) aau (λj _ _ _ E m=>?_) (λq _ j _ _ _ _ _ E e m z p=>?_)
 ·have e:=Aj e E;dsimp only[ca]at m;exact au
 have e:=Aj e E;simp[e];refine k5 m (x aau) λ_ d50 m=>?_;refine Im e m λe m=>?_;exact al
def Au(T:cV)(e:mA T){H:cc}{a0:cb}{a1:Pf}{d:Bool}{a:cb}{b:Nat}(c:H[b]?=some [sI a0.aeb,sB a0.gb]){n:Nat}(hm:gi n a0 a1=some (d,a)):dr prog T 125 [AV.di b 0,Pf.av a1] H (sB d) (dx H b [sI a.aeb,sB a.gb]):=(zv T e n) c hm
def Bs(T:cV)(c:mA T){H:cc}{a0:Pf}{a b:Int}(hm:pB a0=some (a,b)):dr prog T 86 [Pf.av a0] H (AV.tuple [sI a,sI b]) H:=by
 rw[pB] at hm;refine dj.sH (Post:=λx K=>x=AV.tuple [sI a,sI b]/\∃X,K=H++X) ?_ (λ_ _ h=>⟨_,h.2.choose_spec,by rw[h.1];simp[AV.low,AV.gw],h.1,rfl⟩);have e:=c;refine wi aee func86 [6] [] 8 ?_;simp[e];refine k5 hm (Au T c aau) λ_ d2 m=>?_;simp[e];apply Ir e m<;>intro e m
 ·apply wg 999;exact au
 apply wg 1;simp[e];refine IV 999 999 (λf h=>h=H++[[sI d2.aeb,sB d2.gb]]/\f.1 4=AV.di (List.length H) 0/\f.1 12=sB (df d2.gb true (nG d2.aeb 16384))) ?_ (λ_ g=>?_)
 ·rintro _ _ E;have e:=Aj e E;refine Il e m λe m=>?_;exact au
 rcases Pb d2.gb e with e|e
 ·exact aj
 exact aj
def ve(T:cV)(a:mA T){H:cc}{a0:Pf}{b:Int}(hm:mD a0=some b):dr prog T 50 [Pf.av a0] H (sI b) H:=by
 rw[mD] at hm;have e:=a;refine wi aee func50 [] [] 999 ?_;simp[e];refine k5 hm (Bs T a) λ_ _ m=>?_;exact au
def wS:C1 prog 91 vL Pf.av sI:=by
 refine v1 func91 λT H a0 r m e=>?_;rw[vL] at m;exact au
def dN:C1 prog 55 ec Pf.av sI:=by
 refine v1 func55 λT H a0 r m e=>?_;rw[ec] at m;simp[e];refine dL m wS λ_ m=>?_;exact au
def dH:C2 prog 62 dW Pf.av Fm.av Pf.av:=by
 refine v2 func62 λT H a0 a1 r m e=>?_;rw[dW] at m;have e:=Aj e (show AV.agg [sI 6,sI 0,sI 0,AV.slice .gY [],AV.slice .gY [],AV.slice .gY [Fm.av a0],AV.slice .gY [Pf.av a1]]=Pf.av (Pf.mk 6 0 (Ty.mk 0 []) [] [a0] [a1]) by rw[Pf.eH];rfl);exact au
def rj:C2 prog 95 nU Pf.av sI (sL Pf.av):=by
 refine v2 func95 λT H a0 a1 r m e=>?_;rw[nU] at m;exact au
def eh:C2 prog 60 ew Pf.av Pf.av Pf.av:=by
 refine v2 func60 λT H a0 a1 r m e=>?_;rw[ew] at m;simp[e];refine dL m rj λ_ m=>?_;exact au
def Co:C2 prog 61 uf Pf.av Ty.av Pf.av:=by
 refine v2 func61 λT H a0 a1 r m e=>?_;rw[uf] at m;have e:=Aj e (show AV.agg [sI 8,sI 0,sI a0.ad',sL Ty.av a0.aea,AV.slice .gY [],AV.slice .gY [],AV.slice .gY [Pf.av a1]]=Pf.av (Pf.mk 8 0 a0 [] [] [a1]) by rw[Pf.eH];rfl);exact au
def CU:C2 prog 110 tD Pf.av Tm.av Pf.av:=by
 refine v2 func110 λT H a0 a1 r m e=>?_;rw[tD] at m;have e:=Aj e (show AV.agg [sI 9,sI 0,sI 0,AV.slice .gY [],AV.slice .gY [Tm.av a0],AV.slice .gY [],AV.slice .gY [Pf.av a1]]=Pf.av (Pf.mk 9 0 (Ty.mk 0 []) [a0] [] [a1]) by rw[Pf.eH];rfl);exact au
def IK(T:cV)(t:mA T){H0 X:cc}{i j:Nat}{a:Fm}{rm rm':Int}{L:List Fm}(C:Bi H0.length i j a rm X L){f:Fm}{b:Bool}(hm:zk a f rm=some (b,rm')):dj prog T 53 [AV.di (H0.length+i) 0,f.av] (H0++X) (UW H0 i j a rm' X (sB b)):=by
 have⟨cap,d,g,hi,u,D,s,E,A⟩:=id C;obtain⟨y,hy⟩:∃y,L[0]?=some y:=⟨_,mi s⟩
 have v:y=a:=by have:=A 0 y hy;rw[lj] at this;exact(fS this).symm
 subst v;have w:=(jj.1 hi).1
 have g1:(H0++X)[H0.length+i]?=some [AV.oZ (H0.length+j) 0 L.length cap,sI rm]:=by rw[qU VW,IY,hi]
 have g2:(H0++X)[H0.length+j]?=some (iu Fm.av L d):=by rw[qU VW,IY,u]
 have h:∀z:Fm,z.av.cells.length=5:=λz=>by simp
 have o:mg (iu Fm.av L d)=true:=by
  cases L with
  |nil=>simp at s
  |cons p l=>simp[iu,mg]
 have x:AV.agg (List.take 5 (iu Fm.av L d))=y.av:=by
  have:=I6 h hy (k:=d);simp only[Nat.zero_mul,Rw] at this;rw[this,Fm.km,<-Fm.fv]
 have q:5<=(iu Fm.av L d).length:=by rw[kO h];omega
 have r:(dx X i [AV.oZ (H0.length+j) 0 L.length cap,sI rm'])[i]?=some [AV.oZ (H0.length+j) 0 L.length cap,sI rm']:=by unfold dx;rw[J2 w]
 have fin:∀{c:Bool},c=b->UW H0 i j y rm' X (sB b) (sB c) (H0++dx X i [AV.oZ (H0.length+j) 0 L.length cap,sI rm']):=by
  rintro c rfl;refine⟨_,L,j,rfl,⟨cap,d,g,r,?_,D,s,E,A⟩,.Zz,rfl⟩;unfold dx;rw[yZ g,u]
 rw[zk] at hm;have e:=Aj (Aj (Aj (Aj (Aj (Aj (Aj t g1) g2) hi) u) o) x) q;have e:=Aj e (show(0<L.length)=True from eq_true s);refine wi aee func53 [] [] 999 ?_;have⟨n,F,e,m⟩:=Bo2 e hm;simp[e];refine Cf (hH T t e.2) ?_;have⟨k,e,m⟩:=gu e m;simp[e];refine Cf (vE T t e.2) ?_;obtain⟨B,rfl⟩:=fI (fS m);have e:=Aj e r;rcases Pb (DU k 4096) e with e|e
 ·simp[e];refine fin ?_;rw[<-B,e.2];rfl
 ·simp[e];refine fin ?_;rw[<-B,e.2];rfl
def o6{H0 X:cc}{o:Nat}{c:List AV}(h:X[o]?=some c):(H0++X)[H0.length+o]?=some c:=by rw[qU VW,IY,h]
def Kp.at{b X:cc}{i d j o:Nat}{c:List AV}(h:Kp b i d X j)(a:b[o]?=some c/\o≠i/\o≠d):X[o]?=some c/\o≠i/\o≠j:=by
 have⟨e,f⟩:=h.get a.1 a.2.1 a.2.2;exact⟨e,a.2.1,f⟩
def Kp.qk{H0 a X:cc}{i c j:Nat}{st:Nat->Bool}{cl:Nat->Nat}(h:Kp a i c X j)(b:∀o,st o=true->∃o',o=H0.length+o'/\o'<a.length/\o'≠i/\o'≠c):QK ⟨false,st,cl⟩ (H0++a) (H0++X):=by
 refine⟨(λh=>by cases h),λo d=>?_⟩;obtain⟨o',rfl,e,f,g⟩:=b o d;rw[qU VW,qU VW,IY];exact h.2.2 o' e f g
def HX(T:cV)(b:mA T){H0 X:cc}{i j:Nat}{a:Fm}{rm:Int}{L:List Fm}(d:Bi H0.length i j a rm X L){p r:Pf}{c:Int}(hm:xw p rm=some (r,c)):dr prog T 59 [AV.di (H0.length+i) 0,p.av] (H0++X) (AV.tuple [r.av,sI c]) (H0++X):=by
 have⟨cap,k,f,hi,l,n,o,s,t⟩:=id d;have e:=Aj b (o6 (H0:=H0) hi);rw[xw] at hm;refine wi aee func59 [] [] 999 ?_;rcases Io e hm with⟨e,m⟩|⟨e,m⟩
 ·cases m;simp[e,xO]
 ·have⟨x,g,m⟩:=cE m;simp[e];refine Cf (ve T b g) ?_;rcases Io e m with⟨e,m⟩|⟨e,m⟩
  ·cases m;simp[e,xO]
  ·have⟨q,h,m⟩:=cE m;cases m;simp[e];refine Cf (xD T b h) ?_;simp[e]
def FJ(T:cV){H:cc}{a0 a1 a b c:Int}{q0 q1:Nat}(d:H[q0]?=some [sI a])(f:H[q1]?=some [sI b])(h:q0≠q1)(hm:mM a0 a1 a b=some c):dr prog T 218 [sI a0,sI a1,AV.di q0 0,AV.di q1 0] H (AV.tuple []) (dx H q1 [sI c]):=by
 rw[mM] at hm;have i:=eo d;have j:=eo f;refine dj.PS f ?_;have e:=Aj (Aj (Aj (Aj i d) j) h) h.symm;refine wi aee func218 [] [] 999 ?_;refine Il e hm λe m=>?_;exact au
def I1(T:cV){H:cc}{a0:Tm}{a1 a:Int}(hm:rH a0 a1=some a):dr prog T 184 [Tm.av a0,sI a1] H (sI a) H:=by
 rw[rH] at hm;refine dj.sH (Post:=λx K=>x=sI a/\∃X,K=H++X) ?_ (λ_ _ h=>⟨_,h.2.choose_spec,by rw[h.1];simp[AV.low,AV.gw],h.1,rfl⟩);have e:=trivial;refine wi aee func184 [3,5] [] 999 ?_;simp[e];refine dL hm (Dg T (st:=λs:Int=>H++[[sI a1],[sI s]]) (Bn.UP H (λs:Int=>[[sI a1],[sI s]]) 2 (λ_=>rfl) (by simp[AV.low,AV.gw])) (λX s _ _ b h=>by have:=FJ T (H:=H++[[sI a1],[sI s]]++X) (q0:=(List.length H)) (q1:=(List.length H+1)) aau aau aau h;simpa using this)) λ_ m=>?_;exact au
def q_:C2 prog 112 kx Tm.av sI (sL Tm.av):=by
 refine v2 func112 λT H a0 a1 r m e=>?_;rw[kx] at m;exact au
def AP:C0 prog 216 jT Ty.av:=by
 refine v0 func216 λT H r m e=>?_;rw[jT] at m;exact au
def Gd:C2 prog 217 qP Tm.av Tm.av (sL Ty.av):=by
 refine v2 func217 λT H a0 a1 r m e=>?_;rw[qP] at m;simp[e];refine Wn m 999 (λs1 f h=>∃a,h=H/\f.1 1=sL Ty.av a1/\f.1 5=sI s1.1/\bx f 2 [sI s1.2.1,sI s1.2.2.1,sI s1.2.2.2.1,sL Ty.av s1.2.2.2.2.1,sT a Tm.av s1.2.2.2.2.2]/\bx f 4 [sI 0,sI 0,sI 0,nL,nL]) ⟨.gY,aau⟩ (λs1 _ _ _ _ _ E m z p=>?_);have⟨d,v9,v10,v11,v12,b⟩:=s1;have⟨a,E⟩:=E;have e:=Aj e E;dsimp only[yO]at m;apply Ir e m<;>intro e m
 ·cases m;have m:=Qb z;dsimp only[yO]at m;exact au
 have⟨c,e,m⟩:=gu e m;simp[e];cases m;exact p _ _ _ ⟨.full,aau⟩ z
def MO:C5 prog 215 vG Tm.av sI Ty.av Tm.av Tm.av Tm.av:=by
 refine v5 func215 λT H a0 a1 a2 a3 a4 r m e=>?_;rw[vG] at m;have e:=Aj e (show AV.agg [sI a0,sI 0,sI a1.ad',sL Ty.av a1.aea,AV.slice .gY [Tm.av a2,Tm.av a3,Tm.av a4]]=Tm.av (Tm.mk a0 0 a1 [a2,a3,a4]) by rw[Tm.eH];rfl);exact au
def xF:C2 prog 111 l0 Fm.av Tm.av Tm.av:=by
 refine v2 func111 λT H a0 a1 r m e=>?_;rw[l0] at m;have e:=Aj e (show AV.agg [sI 1,sI 0,AV.slice .gY [],AV.slice .gY [Tm.av a0,Tm.av a1],AV.slice .gY []]=Fm.av (Fm.mk 1 (Ty.mk 0 []) [a0,a1] []) by rw[Fm.eH];rfl);exact au
end Go.Proofs.YtffcgfpaakhbjaaGreatDoor
set_option maxRecDepth 20000
set_option maxHeartbeats 4000000
namespace Go.Proofs.YtffcgfpaakhbjaaGreatDoor
open Go Go.jN Go.dG Tryz
@[simp] theorem adk:dE prog 85=some (false,1):=by kernel_rfl
@[simp] theorem ado:dE prog 91=some (false,1):=by kernel_rfl
@[simp] theorem adu:dE prog 92=some (false,1):=by kernel_rfl
@[simp] theorem ab2:fY prog 116=some [.sc .nilFunc]:=by kernel_rfl
@[simp] theorem ab6:dE prog 116=some (false,1):=by kernel_rfl
@[simp] theorem ac8:dE prog 52=some (false,1):=by kernel_rfl
def SY{P:Program}{T:cV}{g:FuncId}{cap aa:List AV}{H:cc}{Post:AV->cc->Prop}(h:dj P T g (aa++cap) H Post):kA P T (.func (.func g) [] cap) aa H Post:=by unfold kA;simpa using h
def Bq{H X:cc}{o:Nat}{c:List AV}(h:H[o]?=some c):(H++X)[o]?=some c:=by rw[oy (jj.1 h).1,h]
section
variable{P:Program} {T:cV} {E:List Nat} {ops:Array Oper} {q:Qt} {bs:List Bool} {rest:List Oper} {K:Fr->cc->Prop} {fr:Fr} {H:cc} {d:Option Nat} {ty:TypeId} {pos:String} {after:Array Edge}
end
end Go.Proofs.YtffcgfpaakhbjaaGreatDoor
set_option maxRecDepth 20000
set_option maxHeartbeats 4000000
namespace Go.Proofs.YtffcgfpaakhbjaaGreatDoor
open Go Go.jN Go.dG Tryz
def sx:C1 prog 134 kF sI (sL Ty.av):=by
 refine v1 func134 λT H a0 r m e=>?_;rw[kF] at m;refine Il e m λe m=>?_;simp[e];refine Wr e m 999 (λa _ f h=>h=H/\f.1 9=sL Ty.av a0/\f.1 10=sI (cI a0)/\f.1 11=sI a) aau (λ_ _ _ _ E m=>?_) (λa _ _ _ _ _ _ _ E e m z p=>?_)
 ·have e:=Aj e E;dsimp only[ca]at m;exact au
 have e:=Aj e E;simp[e];refine dL m nk λ_ m=>?_;refine Il e m λe m=>?_;exact al
def nx:C1 prog 205 kC sI Tm.av:=by
 refine v1 func205 λT H a0 r m e=>?_;rw[kC] at m;simp[e];refine dL m rW λ_ m=>?_;refine Im e m λe m=>?_;simp[e];refine dL m eD λ_ m=>?_;refine Il e m λe m=>?_;exact au
def E8:C1 prog 245 r5 (t2 Ty.av sI) Ty.av:=by
 refine v1 func245 λT H a0 r m e=>?_;rw[r5] at m;simp[e];refine dL m nk λ_ m=>?_;refine Il e m λe m=>?_;exact au
def Hh{n:Nat}:C2 prog 233 (dw n) (t2 Ty.av sI) (sL Ty.av) Tm.av:=by
 refine i2 λn B=>v2 func233 λT H a0 a1 r m e=>?_;rw[dw] at m;apply Iq e m<;>intro e m
 ·refine Il e m λe m=>?_;have⟨x1,e,m⟩:=gu e m;simp[e];refine dL m iL λ_ m=>?_;exact au
 apply Iq e m<;>intro e m
 ·have⟨e,m⟩:=Ck e m;simp[e];refine Ad (f:=Ty.av) a0 [a1.b8] (iz.full (D:=[])) Ev e.2 ?_;have⟨x3,e,m⟩:=gu e m;simp[e];refine qX m B λ_ _ m=>?_;refine Il e m λe m=>?_;simp[e];refine dL m mJ λ_ m=>?_;simp[e];refine k5 m E8 λ_ _ m=>?_;exact au
 simp[e];refine DH e m 0 (λC c f h=>∃a,(h=H/\f.1 0=sL Ty.av a0/\f.1 8=sT a Ty.av c/\f.1 67=sL Tm.av a1.aea/\f.1 68=sI (cI a1.aea)/\f.1 69=sI C/\bx f 3 (Tm.av a1).cells/\bx f 4 [sI 0,nL])/\Ow f [86] a c) (by exact⟨.full,aau,iz.full⟩) (λC _ c j _ _ _ _ E e m z p=>?_) (λc j _ _ E m=>?_)
 ·have⟨a,E,b⟩:=E;have e:=Aj e E;apply wg 999;simp[e];refine k5 m B λv _ m=>?_;refine Il e m λe m=>?_;have⟨e,m⟩:=Ck e m;simp[e];refine Ao (f:=Ty.av) c [v] b Ev e.2 ?_;simp[e];cases m;exact p _ _ _ ⟨(.loc 86 (j.dv 86+1)),aau,(On 86)⟩ z
 have⟨a,E,b⟩:=E;have e:=Aj e E;apply wg 13;dsimp only[ca]at m;simp[e];refine dL m gS λ_ m=>?_;simp[e];refine dL m mZ λw m=>?_;simp[e];apply Iq e m<;>intro e m
 ·apply wg 2;simp[e];refine B6 m 999 999 (λq f h=>∃k d,(h=H/\f.1 8=sT d Ty.av c/\f.1 111=sB k/\bx f 4 [sI 0,nL])/\Ow f [86] d c/\q k=some r) ?_ (λq _ g m=>?_)
  ·rintro _ _ ⟨k,d,E,x,m⟩;have e:=Aj e E;refine Il e m λe m=>?_;have⟨F,e,m⟩:=gu e m;have⟨G,e,m⟩:=gu e m;exact au
  have⟨I,e,m⟩:=gu e m;apply Iq e m<;>intro e m
  ·simp[e];exact g _ _ ⟨true,a,aau,b,m⟩
  have⟨J,e,m⟩:=gu e m;have⟨K,e,m⟩:=gu e m;simp[e];refine dY m fB λy m=>?_;simp[e];exact g _ _ ⟨(nT y),a,aau,b,m⟩
 apply wg 3;simp[e];apply Iq e m<;>intro e m
 ·apply wg 999;exact au
 apply wg 3;simp[e];apply Iq e m<;>intro e m
 ·apply wg 999;have⟨L,e,m⟩:=gu e m;simp[e];refine dY m fB λ_ m=>?_;refine Il e m λe m=>?_;exact au
 apply wg 3;simp[e];apply Iq e m<;>intro e m
 ·apply wg 2;simp[e];refine B6 m 999 999 (λs f h=>∃l,(h=H/\f.1 162=sB l/\bx f 3 (Tm.av a1).cells/\bx f 4 [sI 0,nL])/\s l=some r) ?_ (λs _ g m=>?_)
  ·rintro _ _ ⟨l,E,m⟩;have e:=Aj e E;refine Il e m λe m=>?_;simp[e];refine dL m iL λ_ m=>?_;exact au
  have⟨M,e,m⟩:=gu e m;simp[e];refine dY m fB λ_ m=>?_;apply Ir e m<;>intro e m
  ·exact k8
  have⟨N,e,m⟩:=gu e m;simp[e];refine dY m mJ λ_ m=>?_;simp[e];refine dY m mJ λ_ m=>?_;simp[e];refine dY m fB λ_ m=>?_;apply Ir e m<;>intro e m
  ·exact k8
  have⟨O,e,m⟩:=gu e m;simp[e];refine dY m fB λ_ m=>?_;exact k8
 apply wg 3;simp[e];apply Iq e m<;>intro e m
 ·apply wg 999;exact au
 apply wg 3;simp[e];apply Iq e m<;>intro e m
 ·apply wg 2;simp[e];refine B6 m 999 999 (λt f h=>∃o,(h=H/\f.1 185=sB o/\bx f 4 [sI 0,nL]/\bx f 14 (Ty.av w).cells)/\t o=some r) ?_ (λt _ g m=>?_)
  ·rintro _ _ ⟨o,E,m⟩;have e:=Aj e E;refine Il e m λe m=>?_;exact au
  have⟨P,e,m⟩:=gu e m;simp[e];refine dY m fB λ_ m=>?_;apply Ir e m<;>intro e m
  ·exact k8
  have⟨Q,e,m⟩:=gu e m;simp[e];refine dY m fB λ_ m=>?_;exact k8
 apply wg 3;simp[e];apply Iq e m<;>intro e m
 ·apply wg 2;simp[e];refine B6 m 999 999 (λu f h=>∃v59,(h=H/\f.1 220=sB v59/\bx f 3 (Tm.av a1).cells/\bx f 4 [sI 0,nL])/\u v59=some r) ?_ (λu _ g m=>?_)
  ·rintro _ _ ⟨v59,E,m⟩;have e:=Aj e E;refine Il e m λe m=>?_;simp[e];refine dL m iL λ_ m=>?_;exact au
  have⟨R,e,m⟩:=gu e m;simp[e];refine dY m fB λ_ m=>?_;apply Ir e m<;>intro e m
  ·exact k8
  have⟨S,e,m⟩:=gu e m;simp[e];refine dY m mJ λ_ m=>?_;simp[e];refine dY m mJ λ_ m=>?_;simp[e];refine dY m mJ λ_ m=>?_;simp[e];refine dY m fB λ_ m=>?_;apply Ir e m<;>intro e m
  ·exact k8
  have⟨U,e,m⟩:=gu e m;simp[e];refine dY m fB λ_ m=>?_;exact k8
 apply wg 3;simp[e];apply Iq e m<;>intro e m
 ·apply wg 999;have⟨V,e,m⟩:=gu e m;have⟨W,e,m⟩:=gu e m;simp[e];refine dY m Dx λ_ m=>?_;simp[e];refine qX m E8 λ_ _ m=>?_;exact au
 apply wg 1;simp[e];refine wj 999 0 (λf h=>∃i,(h=H/\f.1 8=sT i Ty.av c/\f.1 237=sB (df (cn a1.ad' 11) true (cn a1.ad' 12))/\bx f 3 (Tm.av a1).cells/\bx f 4 [sI 0,nL])/\Ow f [86] i c) (λ_ g=>?_) ?_
 ·rcases Pb (cn a1.ad' 11) e with e|e
  ·simp[e];exact g _ _ ⟨a,aau,b⟩
  simp[e];exact g _ _ ⟨a,aau,b⟩
 rintro _ _ ⟨i,E,A⟩;have e:=Aj e E;apply Ir e m<;>intro e m
 ·apply wg 999;simp[e];refine dL m B2 λ_ m=>?_;exact au
 apply wg 4;have⟨X,e,m⟩:=gu e m;simp[e];apply Iq e m<;>intro e m
 ·apply wg 999;exact au
 apply wg 5;simp[e];apply Iq e m<;>intro e m
 ·apply wg 999;have⟨Y,e,m⟩:=gu e m;exact au
 apply wg 999;have⟨Z,e,m⟩:=gu e m;exact au
def zW:C2 prog 204 nX (t2 Ty.av sI) (sL Ty.av) Tm.av:=by
 refine v2 func204 λT H a0 a1 r m e=>?_;rw[nX] at m;simp[e];refine dL m nx λ_ m=>?_;refine Il e m λe m=>?_;simp[e];refine k5 m Hh λ_ _ m=>?_;exact au
def Hb{n:Nat}:C2 prog 163 (lI n) sI (sL Ty.av) Fm.av:=by
 refine i2 λn l=>v2 func163 λT H a0 a1 r m e=>?_;rw[lI] at m;simp[e];refine DH e m 0 (λk _ f h=>h=H/\f.1 0=sL Ty.av a0/\f.1 13=sL Tm.av a1.cx/\f.1 14=sI (cI a1.cx)/\f.1 15=sI k/\bx f 3 (Fm.av a1).cells) aau (λk _ _ d _ _ _ _ E e m z p=>?_) (λ_ d _ _ E m=>?_)
 ·have e:=Aj e E;apply wg 999;simp[e];refine k5 m zW λ_ _ m=>?_;refine Il e m λe m=>?_;refine Il e m λe m=>?_;exact al
 have e:=Aj e E;apply wg 5;dsimp only[ca]at m;simp[e];refine Wj m 999 999 (λi f h=>∃c b,(h=H/\f.1 0=sT b Ty.av c/\f.1 3=AV.gx 3 (f.gen 3) 0/\f.box 3=some (Fm.av a1).cells)/\i c=some r) (λi _ g m=>?_) ?_
 ·simp[e];refine dL m pI λ_ m=>?_;apply Ir e m<;>intro e m
  ·simp[e];exact g _ _ ⟨_,.gY,aau,m⟩
  have⟨e,m⟩:=Ck e m;simp[e];refine Ad (f:=Ty.av) a0 [a1.b8] (iz.full (D:=[])) Ev e.2 ?_;simp[e];exact g _ _ ⟨_,(.loc 44 (d.dv 44+1)),aau,m⟩
 rintro _ _ ⟨c,b,E,m⟩;have e:=Aj e E;simp[e];refine Wr e m 999 (λj _ f h=>∃a,h=H/\f.1 0=sT a Ty.av c/\f.1 46=sL Fm.av a1.aea/\f.1 47=sI (cI a1.aea)/\f.1 48=sI j) ⟨b,aau⟩ (λ_ _ _ _ E m=>?_) (λj _ _ _ _ _ _ _ E e m z p=>?_)
 ·have⟨a,E⟩:=E;have e:=Aj e E;dsimp only[ca]at m;exact au
 have⟨a,E⟩:=E;have e:=Aj e E;simp[e];refine dL m l λ_ m=>?_;refine Il e m λe m=>?_;simp[e];cases m;exact p _ _ _ ⟨a,aau⟩ z
def rU:C2 prog 135 jd sI (sL Ty.av) Fm.av:=by
 refine v2 func135 λT H a0 a1 r m e=>?_;rw[jd] at m;simp[e];refine dL m kP λ_ m=>?_;refine Il e m λe m=>?_;simp[e];refine dL m Hb λ_ m=>?_;exact au
def pt:C2 prog 105 hW sI (sL Ty.av) Fm.av:=by
 refine v2 func105 λT H a0 a1 r m e=>?_;rw[hW] at m;simp[e];refine dL m sx λ_ m=>?_;refine Il e m λe m=>?_;simp[e];refine dL m rU λ_ m=>?_;exact au
def Eu:C2 prog 131 rM sI (sL Fm.av) Sq.av:=by
 refine v2 func131 λT H a0 a1 r m e=>?_;rw[rM] at m;refine Il e m λe m=>?_;simp[e];refine DH e m 999 (λb _ f h=>h=H/\f.1 15=sL Fm.av a0/\f.1 16=sI (cI a0)/\f.1 17=sI b/\bx f 3 (Sq.av a1).cells) aau (λb _ _ _ _ _ _ _ E e m z p=>?_) (λ_ _ _ _ E m=>?_)
 ·have e:=Aj e E;simp[e];refine dL m pt λ_ m=>?_;refine Il e m λe m=>?_;exact al
 have e:=Aj e E;dsimp only[ca]at m;simp[e];refine dL m sx λ_ m=>?_;refine Il e m λe m=>?_;refine Il e m λe m=>?_;simp[e];refine Wr e m 999 (λa _ f h=>h=H/\f.1 38=sL Fm.av a1.aeg/\f.1 39=sI (cI a1.aeg)/\f.1 40=sI a/\bx f 3 (Sq.av a1).cells) aau (λ_ _ _ _ E m=>?_) (λa _ _ _ _ _ _ _ E e m z p=>?_)
 ·have e:=Aj e E;dsimp only[ca]at m;exact au
 have e:=Aj e E;simp[e];refine dL m pt λ_ m=>?_;refine Il e m λe m=>?_;exact al
def GZ:C1 prog 188 nW (t2 db.av sB) sI:=by
 refine u1 6 func188 λT H a0 r m e=>?_;rw[nW] at m;simp[e];refine wj 999 0 (λf h=>h=H/\f.1 4=sI a0/\f.1 5=sB (df (cn a0 1) true (cn a0 2))/\bx f 2 [sI 0,sI 0,sI 0,sB false,sB false]) (λ_ g=>?_) ?_
 ·rcases Pb (cn a0 1) e with e|e
  ·exact aj
  exact aj
 rintro _ _ E;have e:=Aj e E;apply Iq e m<;>intro e m
 ·apply wg 999;exact au
 apply wg 1;simp[e];refine wj 999 0 (λf h=>h=H/\f.1 4=sI a0/\f.1 9=sB (df (cn a0 3) true (cn a0 7))/\bx f 2 [sI 0,sI 0,sI 0,sB false,sB false]) (λ_ g=>?_) ?_
 ·rcases Pb (cn a0 3) e with e|e
  ·exact aj
  exact aj
 rintro _ _ E;have e:=Aj e E;apply Iq e m<;>intro e m
 ·apply wg 999;exact au
 apply wg 1;simp[e];refine wj 999 0 (λf h=>h=H/\f.1 4=sI a0/\f.1 13=sB (df (cn a0 4) true (df (cn a0 5) true (cn a0 20)))/\bx f 2 [sI 0,sI 0,sI 0,sB false,sB false]) (λ_ g=>?_) ?_
 ·rcases Pb (cn a0 4) e with e|e
  ·exact aj
  rcases Pb (cn a0 5) e with e|e
  ·exact aj
  exact aj
 rintro _ _ E;have e:=Aj e E;apply Iq e m<;>intro e m
 ·apply wg 999;exact au
 apply wg 3;simp[e];apply Iq e m<;>intro e m
 ·apply wg 999;exact au
 apply wg 1;simp[e];refine wj 999 0 (λf h=>h=H/\f.1 4=sI a0/\f.1 21=sB (df (cn a0 8) true (cn a0 12))/\bx f 2 [sI 0,sI 0,sI 0,sB false,sB false]) (λ_ g=>?_) ?_
 ·rcases Pb (cn a0 8) e with e|e
  ·exact aj
  exact aj
 rintro _ _ E;have e:=Aj e E;apply Iq e m<;>intro e m
 ·apply wg 999;exact au
 apply wg 1;simp[e];refine wj 999 0 (λf h=>h=H/\f.1 4=sI a0/\f.1 25=sB (df (cn a0 9) true (cn a0 13))/\bx f 2 [sI 0,sI 0,sI 0,sB false,sB false]) (λ_ g=>?_) ?_
 ·rcases Pb (cn a0 9) e with e|e
  ·exact aj
  exact aj
 rintro _ _ E;have e:=Aj e E;apply Iq e m<;>intro e m
 ·apply wg 999;exact au
 apply wg 1;simp[e];refine wj 999 0 (λf h=>h=H/\f.1 4=sI a0/\f.1 29=sB (df (cn a0 10) true (cn a0 14))/\bx f 2 [sI 0,sI 0,sI 0,sB false,sB false]) (λ_ g=>?_) ?_
 ·rcases Pb (cn a0 10) e with e|e
  ·exact aj
  exact aj
 rintro _ _ E;have e:=Aj e E;apply Iq e m<;>intro e m
 ·apply wg 999;exact au
 apply wg 1;simp[e];refine wj 999 0 (λf h=>h=H/\f.1 4=sI a0/\f.1 33=sB (df (cn a0 11) true (cn a0 15))/\bx f 2 [sI 0,sI 0,sI 0,sB false,sB false]) (λ_ g=>?_) ?_
 ·rcases Pb (cn a0 11) e with e|e
  ·exact aj
  exact aj
 rintro _ _ E;have e:=Aj e E;apply Iq e m<;>intro e m
 ·apply wg 999;exact au
 apply wg 1;simp[e];refine wj 999 999 (λf h=>h=H/\f.1 4=sI a0/\f.1 37=sB (df (cn a0 16) true (cn a0 17))/\bx f 2 [sI 0,sI 0,sI 0,sB false,sB false]) (λ_ g=>?_) ?_
 ·rcases Pb (cn a0 16) e with e|e
  ·exact aj
  exact aj
 rintro _ _ E;have e:=Aj e E;refine Il e m λe m=>?_;refine Il e m λe m=>?_;refine Il e m λe m=>?_;exact au
def Hz{n:Nat}:C1 prog 159 (mH n) sB Pf.av:=by
 refine i1 λn l=>u1 5 func159 λT H a0 r m e=>?_;rw[mH] at m;simp[e];refine k5 m GZ λa j m=>?_;simp[e];refine wj 999 0 (λf h=>h=H/\f.1 57=sB (df j (df (cF (cI a0.cx) a.cx) true (df (cF (cI a0.dy) a.dy) true (df (cF (cI a0.aea) a.aea) true (df (sg a0.aec 0) true (df a.aec false (cF a0.aec 0)))))) true)/\bx f 1 (Pf.av a0).cells/\bx f 3 (db.av a).cells) (λ_ g=>?_) ?_
 ·rcases Pb j e with e|e;rotate_left
  ·exact aj
  rcases Pb (cF (cI a0.cx) a.cx) e with e|e
  ·exact aj
  rcases Pb (cF (cI a0.dy) a.dy) e with e|e
  ·exact aj
  rcases Pb (cF (cI a0.aea) a.aea) e with e|e
  ·exact aj
  rcases Pb (sg a0.aec 0) e with e|e
  ·exact aj
  rcases Pb a.aec e with e|e
  ·exact aj
  exact aj
 rintro _ _ E;have e:=Aj e E;apply Iq e m<;>intro e m
 ·apply wg 999;exact au
 apply wg 3;simp[e];refine Wj m 999 999 (λk f h=>∃i,(h=H/\f.1 76=sB i/\bx f 1 (Pf.av a0).cells)/\k i=some r) (λk _ g m=>?_) ?_
 ·apply Ir e m<;>intro e m
  ·simp[e];refine dL m sM λ_ m=>?_;exact k8
  simp[e];refine dL m nk λ_ m=>?_;apply Iq e m<;>intro e m
  ·exact k8
  exact k8
 rintro _ _ ⟨i,E,m⟩;have e:=Aj e E;refine Il e m λe m=>?_;simp[e];refine DH e m 999 (λb _ f h=>h=H/\f.1 78=sL Tm.av a0.cx/\f.1 79=sI (cI a0.cx)/\f.1 80=sI b/\bx f 1 (Pf.av a0).cells) aau (λb _ _ _ _ _ _ _ E e m z p=>?_) (λ_ _ _ _ E m=>?_)
 ·have e:=Aj e E;simp[e];refine dL m rW λ_ m=>?_;refine Im e m λe m=>?_;exact al
 have e:=Aj e E;dsimp only[ca]at m;simp[e];refine DH e m 999 (λc _ f h=>h=H/\f.1 89=sL Fm.av a0.dy/\f.1 90=sI (cI a0.dy)/\f.1 91=sI c/\bx f 1 (Pf.av a0).cells) aau (λc _ _ _ _ _ _ _ E e m z p=>?_) (λ_ _ _ _ E m=>?_)
 ·have e:=Aj e E;simp[e];refine dL m z7 λ_ m=>?_;refine Im e m λe m=>?_;exact al
 have e:=Aj e E;dsimp only[ca]at m;simp[e];refine Wr e m 999 (λd _ f h=>h=H/\f.1 100=sL Pf.av a0.aea/\f.1 101=sI (cI a0.aea)/\f.1 102=sI d) aau (λ_ _ _ _ E m=>?_) (λd _ _ _ _ _ _ _ E e m z p=>?_)
 ·have e:=Aj e E;dsimp only[ca]at m;exact au
 have e:=Aj e E;simp[e];refine dL m l λ_ m=>?_;refine Im e m λe m=>?_;exact al
def Hp{n:Nat}:C1 prog 189 (pW n) sB Pf.av:=by
 refine i1 λn d=>v1 func189 λT H a0 r m e=>?_;rw[pW] at m;simp[e];refine DH e m 999 (λc _ f h=>h=H/\f.1 10=sL Tm.av a0.cx/\f.1 11=sI (cI a0.cx)/\f.1 12=sI c/\bx f 1 (Pf.av a0).cells) aau (λc _ _ _ _ _ _ _ E e m z p=>?_) (λ_ _ _ _ E m=>?_)
 ·have e:=Aj e E;simp[e];refine dL m eD λ_ m=>?_;refine Il e m λe m=>?_;exact al
 have e:=Aj e E;dsimp only[ca]at m;simp[e];refine DH e m 999 (λa _ f h=>h=H/\f.1 21=sL Fm.av a0.dy/\f.1 22=sI (cI a0.dy)/\f.1 23=sI a/\bx f 1 (Pf.av a0).cells) aau (λa _ _ _ _ _ _ _ E e m z p=>?_) (λ_ _ _ _ E m=>?_)
 ·have e:=Aj e E;simp[e];refine dL m nq λ_ m=>?_;refine Il e m λe m=>?_;exact al
 have e:=Aj e E;dsimp only[ca]at m;simp[e];refine Wr e m 999 (λb _ f h=>h=H/\f.1 32=sL Pf.av a0.aea/\f.1 33=sI (cI a0.aea)/\f.1 34=sI b) aau (λ_ _ _ _ E m=>?_) (λb _ _ _ _ _ _ _ E e m z p=>?_)
 ·have e:=Aj e E;dsimp only[ca]at m;exact au
 have e:=Aj e E;simp[e];refine dL m d λ_ m=>?_;refine Im e m λe m=>?_;exact al
def Hf{n:Nat}:C1 prog 190 (p_ n) sI Pf.av:=by
 refine i1 λn j=>v1 func190 λT H a0 r m e=>?_;rw[p_] at m;simp[e];refine DH e m 999 (λi s2 f h=>h=H/\f.1 3=sI s2/\f.1 11=sL Tm.av a0.cx/\f.1 12=sI (cI a0.cx)/\f.1 13=sI i/\bx f 1 (Pf.av a0).cells) aau (λi _ s2 _ _ _ _ _ E e m z p=>?_) (λs2 _ _ _ E m=>?_)
 ·have e:=Aj e E;simp[e];refine dL m eD λ_ m=>?_;exact al
 have e:=Aj e E;dsimp only[ca]at m;simp[e];refine DH e m 999 (λc a f h=>h=H/\f.1 3=sI a/\f.1 23=sL Fm.av a0.dy/\f.1 24=sI (cI a0.dy)/\f.1 25=sI c/\bx f 1 (Pf.av a0).cells) aau (λc _ a _ _ _ _ _ E e m z p=>?_) (λa _ _ _ E m=>?_)
 ·have e:=Aj e E;simp[e];refine dL m nq λ_ m=>?_;exact al
 have e:=Aj e E;dsimp only[ca]at m;simp[e];refine Wr e m 999 (λd b f h=>h=H/\f.1 3=sI b/\f.1 35=sL Pf.av a0.aea/\f.1 36=sI (cI a0.aea)/\f.1 37=sI d) aau (λb _ _ _ E m=>?_) (λd _ b _ _ _ _ _ E e m z p=>?_)
 ·have e:=Aj e E;dsimp only[ca]at m;exact au
 have e:=Aj e E;simp[e];refine dL m j λ_ m=>?_;exact al
def Jh:C1 prog 160 w_ sB Pf.av:=by
 refine u1 2 func160 λT H a0 r m e=>?_;rw[w_] at m;simp[e];refine B6 m 999 999 (λa f h=>∃v2,(h=H/\f.1 2=sB v2)/\a v2=some r) ?_ (λa _ g m=>?_)
 ·rintro _ _ ⟨v2,E,m⟩;have e:=Aj e E;exact au
 simp[e];refine dL m Hp λ_ m=>?_;apply Ir e m<;>intro e m
 ·exact k8
 simp[e];refine dL m Hf λ_ m=>?_;exact k8
def GI:C1 prog 132 rZ sI Pf.av:=by
 refine v1 func132 λT H a0 r m e=>?_;rw[rZ] at m;simp[e];refine dL m Hz λ_ m=>?_;refine Im e m λe m=>?_;simp[e];refine dL m Jh λ_ m=>?_;refine Il e m λe m=>?_;exact au
def O':jK prog 223=true:=by kernel_rfl
def ab_(fr:Fr)(L:List Int):Prop:=
 (L=[]/\fr.env 3=.slice .full [])\/∃cap,fr.env 3=.um 17 (fr.gen 17) L.length cap/\fr.box 17=some (iu (λn=>AV.sc (Value.int .i64 n)) L ((cap-L.length)*1))/\L.length<=cap
def yt(T:cV){H:cc}{a0:List (Int×Bool)}{r0:List Int}{af:List (Int×Bool)}{s:Nat}(E:H[s]?=some [rz (λb=>AV.sc (Value.bool b)) a0])(hm:oN a0=some (r0,af)):dr prog T 223 [AV.nR s] H (AV.slice .gY (List.map (λn=>AV.sc (Value.int .i64 n)) r0)) (dx H s [rz (λb=>AV.sc (Value.bool b)) af]):=by
 unfold oN at hm;have⟨aC,hm⟩:=qA hm;have⟨S,hm⟩:=qA hm;have ah:=eo E;simp only[uq,Pl] at hm;have⟨e1,e2⟩:=hm;subst e2;rw[IH E]
 have S:(a0.map (·.1)).Nodup:=by simpa[vI] using S
 refine dj.sH (Post:=λx K=>x=AV.slice .gY (List.map (λn=>AV.sc (Value.int .i64 n)) r0)/\∃X,K=H++X) ?_ (λ_ _ h=>⟨_,h.2.choose_spec,by rw[h.1];simp[AV.low,AV.gw],h.1,rfl⟩);refine dj.intro (fn:=f223) func223 rfl O' (Ax rfl) ?_;refine fA.sr [] λK1 F=>?_;simp;apply F;refine fA.sr [] λK1 F=>?_;simp;apply F;refine fA.Ah λK1 F=>?_;refine fA.sr [] λK2 aD=>?_;simp[ES,E,rz];apply aD;refine fA.Cy λQ nn ex x r=>?_
 refine fA.OP (λm fr h=>∃(seen:List Nat) (L:List Int),m=FG a0.length seen/\L.length+m<=a0.length/\EK L/\(∀x,x∈L↔∃j∈seen,∃p,a0[j]?=some p/\p.1=x)/\H++[[.lb s a0.length seen]]=h/\fr.env 7=.di H.length 0/\ab_ fr L) a0.length ?_ ?_
 ·exact⟨[],[],(NN _).symm,aas,.nil,aas,aas,rfl,.inl ⟨rfl,rfl⟩⟩
 rintro m fr h ⟨seen,L,aE,aS,hA,hL,rfl,G,hs⟩ K3 aF
 have hi:(H++[[AV.lb s a0.length seen]])[H.length]?=some [AV.lb s a0.length seen]:=aas
 have ho:(H++[[AV.lb s a0.length seen]])[s]?=some [rz (λb=>AV.sc (Value.bool b)) a0]:=by simp[ah,E]
 refine fA.sr [] λK4 ai=>?_;simp only[Qq,ev,G];refine Nn a0 hi ho (λak=>?_) (λj p U hj=>?_)
 ·--aT end
  simp;apply ai;refine fA.Ah λK5 an=>?_;refine fA.zQ λA B ga V=>?_;simp;apply V;refine fA.exit ?_;apply ex;apply F
  have hr:xJ [] (a0.map (·.1))=L:=by
   refine EK.eq (zl _ [] .nil S aas) hA λx=>?_;rw[y7,hL];simp only[uo,false_or,ll];constructor
   ·rintro⟨p,U,rfl⟩;have⟨j,hj⟩:=TA.1 U;exact⟨j,ak j (jj.1 hj).1,p,hj,rfl⟩
   ·rintro⟨j,_,p,U,rfl⟩;exact⟨p,Bh U,rfl⟩
  rw[hr] at e1;subst e1;rcases hs with⟨rfl,l⟩|⟨cap,l,e,hle⟩
  ·refine fA.sr [] λK6 q=>?_;simp[l];apply q;refine fA.ret ?_;simp[xW,l]
  ·refine fA.acO 3 (f:=λn=>AV.sc (Value.int .i64 n)) (L:=L) (k:=(cap-L.length)*1) (sz:=1) (d:=17) (g:=fr.gen 17) (cap:=cap) (by intro x;simp) (by intro x;simp) (by simp[l]) aas aau ?_;refine fA.sr [] λK6 q=>?_;simp;apply q;refine fA.ret ?_;simp[xW]
 have ao:j<a0.length:=(jj.1 U).1;have aG:=Qf ao hj
 have aH:(H++[[AV.lb s a0.length (seen++[j])]])[H.length]?=some [AV.lb s a0.length (seen++[j])]:=aas
 have aI:(H++[[AV.lb s a0.length (seen++[j])]])[s]?=some [rz (λb=>AV.sc (Value.bool b)) a0]:=by simp[ah,E]
 have dx:dx (H++[[AV.lb s a0.length seen]]) H.length [AV.lb s a0.length (seen++[j])]=H++[[AV.lb s a0.length (seen++[j])]]:=aas
 rw[dx];have aq:=Kj (f:=λb=>AV.sc (Value.bool b)) a0 aH aI U
 have ab:p.1∉L:=by
  rw[hL];rintro⟨j',aJ,p',aK,he⟩
  have h1:(a0.map (·.1))[j]?=some p.1:=by rw[sw,U];rfl
  have h2:(a0.map (·.1))[j']?=some p.1:=by rw[sw,aK];simp[he]
  have:j=j':=by
   have aL:j<(a0.map (·.1)).length:=by simpa using ao
   exact(List.getElem?_inj aL S).1 (h1.trans h2.symm)
  subst this;exact hj aJ
 have aR:a0.length<=xy:=Lz aC;simp;apply ai;refine fA.Ah λK5 an=>?_;refine fA.zQ λA B ga V=>?_;simp;apply ga;refine fA.skip ?_;apply an;refine fA.Cy λQ1 aM aU x1 r1=>?_;refine fA.sr [] λK6 q=>?_;simp[G,aq];apply q;refine fA.sr [] λK6 q=>?_
 have hlen:∃y,fr.env 3=y/\BE prog 22 y=some (.sc (.int .i64 L.length)):=by
  rcases hs with⟨rfl,l⟩|⟨cap,l,e,hle⟩
  ·exact⟨_,l,aas⟩
  ·exact⟨_,l,aas⟩
 have⟨y,hy,ar⟩:=hlen;simp[hy,ar];apply q
 refine fA.Zy (λfr h=>H++[[.lb s a0.length (seen++[j])]]=h/\fr.env 7=.di H.length 0/\fr.env 4=.sc (.int .i64 p.1)/\fr.env 5=.sc (.int .i64 (L.length:Int))/\∃cap,fr.env 3=.um 17 (fr.gen 17) (L.length+1) cap/\fr.box 17=some (iu (λn=>AV.sc (Value.int .i64 n)) (L.take L.length++p.1::L.drop L.length) ((cap-(L.length+1))*1))/\L.length+1<=cap) (λK6 q=>?_) ?_
 ·refine fA.region [] abz ?_
  have aw:eA L [p.1]=L.take L.length++p.1::L.drop L.length:=by simp[eA]
  have aV:(eA L [p.1]).length=L.length+1:=by simp[eA]
  rcases hs with⟨rfl,l⟩|⟨cap,l,e,hle⟩
  ·simp[l];refine q9.ZM (f:=λn=>AV.sc (Value.int .i64 n)) [p.1] QW ⟨_,VN⟩ (by intro x;simp) (by simp[xH,xy]) rfl (by first|rfl|simp) λcap yd=>?_;simp;apply q;refine⟨rfl,?_,?_,?_,cap,?_,?_,by simpa using yd⟩<;>simp[G]
  ·simp[l];refine q9.iH (f:=λn=>AV.sc (Value.int .i64 n)) L [p.1] (cap:=cap) QW ⟨_,VN⟩ (by intro x;simp) (by simp[dZ];omega) aas rfl (by first|rfl|simp) aau hle λg' ax yd=>?_;rw[aw] at yd;simp only[aw];simp;apply q;refine⟨rfl,?_,?_,?_,ax,?_,?_,by simpa using yd⟩<;>simp[G]
 rintro aW h6 ⟨rfl,f7,f4,f5,cap,f3,f17,ay⟩
 refine fA.Zy (λfr h=>H++[[.lb s a0.length (seen++[j])]]=h/\fr.env 7=.di H.length 0/\fr.env 4=.sc (.int .i64 p.1)/\∃(i:Nat) (z:Int),fr.env 5=.sc (.int .i64 (i:Int))/\i<=L.length/\(∀a∈L.drop i,a>p.1)/\(i=0\/∃a,L[i-1]?=some a/\¬a>p.1)/\∃cap,fr.env 3=.um 17 (fr.gen 17) (L.length+1) cap/\fr.box 17=some (iu (λn=>AV.sc (Value.int .i64 n)) (L.take i++z::L.drop i) ((cap-(L.length+1))*1))/\L.length+1<=cap) (λK7 aN=>?_) ?_
 ·refine fA.Cy λQ2 aX az x2 r2=>?_
  refine fA.OP (λi fr h=>H++[[.lb s a0.length (seen++[j])]]=h/\fr.env 7=.di H.length 0/\fr.env 4=.sc (.int .i64 p.1)/\∃(z:Int),fr.env 5=.sc (.int .i64 (i:Int))/\i<=L.length/\(∀a∈L.drop i,a>p.1)/\∃cap,fr.env 3=.um 17 (fr.gen 17) (L.length+1) cap/\fr.box 17=some (iu (λn=>AV.sc (Value.int .i64 n)) (L.take i++z::L.drop i) ((cap-(L.length+1))*1))/\L.length+1<=cap) L.length ?_ ?_
  ·exact⟨rfl,f7,f4,p.1,f5,fT _,aas,cap,f3,f17,ay⟩
  clear f7 f4 f5 f3 f17 ay hy ar G hs;rintro i fr h ⟨rfl,G,e4,z,R,w,I,cap,l,e,hle⟩ K8 aO
  have stop:∀fr':Fr,fr'.env 7=.di H.length 0->fr'.env 4=.sc (.int .i64 p.1)->fr'.env 5=.sc (.int .i64 (i:Int))->fr'.env 3=fr.env 3->fr'.gen=fr.gen->fr'.box=fr.box->(i=0\/∃a,L[i-1]?=some a/\¬a>p.1)->K7 fr' (H++[[.lb s a0.length (seen++[j])]]):=by
   intro fr' g7 g4 g5 g3 gg V W;exact aN _ _ ⟨rfl,g7,g4,i,z,g5,w,I,W,cap,by rw[g3,l,gg],by rw[V,e],hle⟩
  refine fA.Ah λK9 aP=>?_;refine fA.sr [] λaY Y=>?_;obtain⟨c,D⟩:∃c:Int,c=(i:Int):=⟨_,rfl⟩;rw[<-D] at R;cases i with
  |zero=>
   have W:nG c 0=false:=by rw[D];decide
   simp[R,W];apply Y;refine fA.zQ λA B ga V=>?_;simp;apply V;refine fA.exit ?_;apply az;refine stop _ ?_ ?_ ?_ ?_ ?_ ?_ (.inl rfl)<;>simp[G,e4,R,D]
  |succ i=>
   have W:nG c 0=true:=by rw[D];simp[nG]
   obtain⟨Z,ad⟩:∃Z:Int,Z=(i:Int):=⟨_,rfl⟩
   have J:dh .i64 c 1=Z:=by rw[D,ad];exact SZ VW
   obtain⟨x,hx⟩:∃x,L[i]?=some x:=⟨_,mi VW⟩
   have C:(L.take (i+1)++z::L.drop (i+1)).length=L.length+1:=aaQ
   have aa:cr (L.take (i+1)++z::L.drop (i+1)) Z=some x:=by
    unfold cr;rw[bX VW,ad,AM,oy (by rw[xn];omega),E6,bX VW,hx]
   have O:0<=Z/\Z<((L.length+1:Nat):Int):=VW
   have o:0<=c/\c<((L.length+1:Nat):Int):=VW
   have ae:=KM (P:=prog) (t:=3) (f:=λn=>AV.sc (Value.int .i64 n)) (k:=(cap-(L.length+1))*1) Ul (by intro x;simp) aa;generalize hM:L.take (i+1)++z::L.drop (i+1)=M at e C aa ae;generalize hN:L.length+1=N at l e hle C O o ae
   have aA:∀fr':Fr,fr'.gen 17=fr.gen 17->fr'.box 17=fr.box 17->sD prog fr' (H++[[AV.lb s a0.length (seen++[j])]]) 3 (.gx 17 (fr.gen 17) (KE Z.toNat 1))=some (.sc (.int .i64 x)):=by
    intro fr' g1 g2;show(if fr.gen 17=fr'.gen 17 then(match fr'.box 17 with|some cs=>k0 prog 3 cs (KE Z.toNat 1)|none=>none)else none)=_;rw[bX g1.symm,g2,e];exact ae
   simp[R,l,W,J,O,aA,e4,-sD];apply Y;have aZ:M.length=N:=C
   have u:cr M c=some z:=by
    unfold cr;rw[bX VW,D,AM,<-hM,qU aaQ];simp[xn,show min (i+1) L.length=i+1 from by omega]
   have v:xu M c x=L.take i++x::L.drop i:=by
    have hd:L.drop i=x::L.drop (i+1):=by
     rw[Ma (by omega:i<L.length)]
     congr 1
     exact(jj.1 hx).2
    have ht:L.take (i+1)=L.take i++[x]:=by rw[V6,hx];rfl
    unfold xu;rw[D,AM,<-hM,hd,aa_ _ _ aaQ];rw[xn,show min (i+1) L.length=i+1 from by omega,QU,aak,ht,pQ];rfl
   refine fA.zQ λA B ga V=>?_;rcases Bool.eq_false_or_eq_true (nG x p.1)with hgx|hgx
   ·simp[hgx];apply ga;refine fA.skip ?_;apply aP;refine fA.Cy λQ3 aQ a1 x3 r3=>?_;refine fA.sr [] λa6 aB=>?_;simp[R,l,J,O,o,aA,e4,-sD];refine Al.arr (f:=λn=>AV.sc (Value.int .i64 n)) (L:=M) (k:=(cap-N)*1) x Ul (by intro x;simp) aas (x:=z) u aas aau aas ?_;simp;apply aB;refine fA.region [] abz ?_;simp[R,J];apply aQ;rw[v];refine aO _ _ i (Uw _) ⟨rfl,?_,?_,x,?_,VW,?_,cap,?_,?_,by rw[hN];exact hle⟩
    ·simp[G]
    ·simp[e4]
    ·simp[ad]
    ·intro a ha
     have hd:L.drop i=x::L.drop (i+1):=by
      rw[Ma (by omega:i<L.length)]
      congr 1
      exact(jj.1 hx).2
     rw[hd] at ha;rcases jW.1 ha with rfl|ha
     ·simpa[nG] using hgx
     ·exact I a ha
    ·simp[l,hN]
    ·simp[hN]
   ·simp[hgx];apply V;refine fA.exit ?_;apply az;refine stop _ ?_ ?_ ?_ ?_ ?_ ?_ (.inr ⟨x,by simpa using hx,by simpa[nG] using hgx⟩)<;>simp[G,e4,R,l,D]
 rintro fr h ⟨rfl,G,e4,i,z,R,w,I,W,cap,l,e,hle⟩;refine fA.region [] abz ?_;obtain⟨c,D⟩:∃c:Int,c=(i:Int):=⟨_,rfl⟩;rw[<-D] at R
 have C:(L.take i++z::L.drop i).length=L.length+1:=aaQ
 have u:cr (L.take i++z::L.drop i) c=some z:=by
  unfold cr;rw[bX VW,D,AM,qU aaQ];simp[xn,RW w]
 have v:xu (L.take i++z::L.drop i) c p.1=AN p.1 L:=by
  rw[NA L i hA ab w I W];unfold xu;rw[D,AM,aa_ _ _ aaQ,xn,RW w,QU,aak]
 have o:0<=c/\c<((L.length+1:Nat):Int):=VW
 have hlen:(AN p.1 L).length=L.length+1:=by rw[NA L i hA ab w I W];simp;omega
 generalize hM:L.take i++z::L.drop i=M at e C u v;generalize hN:L.length+1=N at l e hle C o hlen;simp[R,l,e4,o];refine Al.arr (f:=λn=>AV.sc (Value.int .i64 n)) (L:=M) (k:=(cap-N)*1) p.1 Ul (by intro x;simp) aas (x:=z) u aas aau aas ?_;simp;apply aM;rw[v];refine aF _ _ _ (by rw[aE];exact aG) ⟨seen++[j],AN p.1 L,rfl,VW,E_ p.1 L ab hA,?_,rfl,?_,.inr ⟨cap,?_,?_,by rw[hlen];exact hle⟩⟩
 ·intro x;rw[yM,hL];constructor
  ·rintro(rfl|⟨j',h1,p',h2,h3⟩)
   ·exact⟨j,aas,p,U,rfl⟩
   ·exact⟨j',by simp[h1],p',h2,h3⟩
  ·rintro⟨j',h1,p',h2,h3⟩;rcases qO.1 h1 with h1|h1
   ·exact .inr ⟨j',h1,p',h2,h3⟩
   ·simp only[AL] at h1;subst h1;rw[U] at h2;obtain rfl:=fS h2;exact .inl h3.symm
 ·simp[G]
 ·simp[l,hlen]
 ·simp[hlen]
def jH(T:cV){H:cc}{a0 a1 c:List Int}(hm:en a0 a1=some c):dr prog T 191 [sL sI a0,sL sI a1] H (sL sI c) H:=by
 rw[en] at hm;refine dj.sH (Post:=λx K=>x=sL sI c/\∃X,K=H++X) ?_ (λ_ _ h=>⟨_,h.2.choose_spec,by rw[h.1];simp[AV.low,AV.gw],h.1,rfl⟩);have e:=trivial;refine wi aee func191 [] [] 999 ?_;simp[e];refine DH e hm 999 (λd s2 f h=>h=H++[[rz sB s2]]/\f.1 1=sL sI a1/\f.1 5=AV.nR (List.length H)/\f.1 11=sL sI a0/\f.1 12=sI (cI a0)/\f.1 13=sI d) aau (λd _ s2 _ _ _ _ _ E e m z p=>?_) (λs2 _ _ _ E m=>?_)
 ·have e:=Aj e E;simp[e];refine Yt.i64 (f:=sB) s2 true MT Yd aau aau ?_;exact al
 have e:=Aj e E;dsimp only[ca]at m;simp[e];refine Wr e m 999 (λb a f h=>h=H++[[rz sB a]]/\f.1 5=AV.nR (List.length H)/\f.1 20=sL sI a1/\f.1 21=sI (cI a1)/\f.1 22=sI b) aau (λa _ _ _ E m=>?_) (λb _ a _ _ _ _ _ E e m z p=>?_)
 ·have e:=Aj e E;dsimp only[ca]at m;simp[e];refine k5 m (yt T aau) λ_ d20 m=>?_;exact au
 have e:=Aj e E;simp[e];refine Yt.i64 (f:=sB) a true MT Yd aau aau ?_;exact al
def jP:C3 prog 192 cG sI bZ.av sI sI:=by
 refine u3 3 func192 λT H a0 a1 a2 r m e=>?_;rw[cG] at m;simp[e];refine IV 999 999 (λf h=>h=H/\f.1 20=sB (df (nG (c8 .i64 (cI a0.aed) a1) 16) true (nG (c8 .i64 (cI a0.aeg) a2) 16))) ?_ (λ_ g=>?_)
 ·rintro _ _ E;have e:=Aj e E;refine Il e m λe m=>?_;exact au
 rcases Pb (nG (c8 .i64 (cI a0.aed) a1) 16) e with e|e
 ·exact aj
 exact aj
def lF:C2 prog 193 ee bZ.av bZ.av Fm.av:=by
 refine v2 func193 λT H a0 a1 r m e=>?_;rw[ee] at m;have⟨e,m⟩:=Ck e m;simp[e];refine Ad (f:=Fm.av) a0.aeg [a1] (iz.full (D:=[])) JN e.2 ?_;exact au
def IP:C1 prog 246 tZ sB Tm.av:=by
 refine u1 8 func246 λT H a0 r m e=>?_;rw[tZ] at m;simp[e];apply Iq e m<;>intro e m
 ·apply wg 999;have⟨i,e,m⟩:=gu e m;exact au
 apply wg 3;simp[e];apply Iq e m<;>intro e m
 ·apply wg 1;simp[e];refine B6 m 999 999 (λa f h=>∃v3,(h=H/\f.1 2=sB v3)/\a v3=some r) ?_ (λa _ g m=>?_)
  ·rintro _ _ ⟨v3,E,m⟩;have e:=Aj e E;exact au
  have⟨j,e,m⟩:=gu e m;apply Iq e m<;>intro e m
  ·exact k8
  exact k8
 apply wg 4;apply Iq e m<;>intro e m
 ·simp[e];refine B6 m 999 999 (λb f h=>∃v9,(h=H/\f.1 2=sB v9)/\b v9=some r) ?_ (λb _ g m=>?_)
  ·rintro _ _ ⟨v9,E,m⟩;have e:=Aj e E;exact au
  have⟨c,e,m⟩:=gu e m;apply Iq e m<;>intro e m
  ·exact k8
  exact k8
 simp[e];refine wj 999 999 (λf h=>h=H/\f.1 45=sB (df (cn a0.ad' 11) true (cn a0.ad' 12))/\bx f 1 (Tm.av a0).cells) (λ_ g=>?_) ?_
 ·rcases Pb (cn a0.ad' 11) e with e|e
  ·exact aj
  exact aj
 rintro _ _ E;have e:=Aj e E;refine Im e m λe m=>?_;have⟨d,e,m⟩:=gu e m;exact au
def z_{n:Nat}:C2 prog 253 (lM n) sI Tm.av sI:=by
 refine i2 λn c=>u2 4 func253 λT H a0 a1 r m e=>?_;rw[lM] at m;simp[e];refine wj 0 999 (λf h=>h=H/\f.1 1=sI a1/\f.1 5=sI (df (df (cn a0.ad' 1) (cn a0.aec a1) false) (c8 .i64 0 1) 0)/\bx f 2 (Tm.av a0).cells) (λ_ g=>?_) ?_
 ·refine wj 999 999 (λf h=>h=H/\f.1 1=sI a1/\f.1 5=sI 0/\f.1 16=sB (df (cn a0.ad' 1) (cn a0.aec a1) false)/\bx f 2 (Tm.av a0).cells) (λ_ g=>?_) ?_
  ·rcases Pb (cn a0.ad' 1) e with e|e
   ·exact aj
   exact aj
  rintro _ _ E;have e:=Aj e E;rcases Pb (df (cn a0.ad' 1) (cn a0.aec a1) false) e with e|e
  ·exact aj
  exact aj
 rintro _ _ E;have e:=Aj e E;simp[e];refine Wr e m 999 (λb a f h=>h=H/\f.1 1=sI a1/\f.1 5=sI a/\f.1 20=sL Tm.av a0.aea/\f.1 21=sI (cI a0.aea)/\f.1 22=sI b/\bx f 2 (Tm.av a0).cells) aau (λa _ _ _ E m=>?_) (λb _ a _ _ _ _ _ E e m z p=>?_)
 ·have e:=Aj e E;dsimp only[ca]at m;exact au
 have e:=Aj e E;simp[e];refine dY m pc λ_ m=>?_;simp[e];refine dY m c λ_ m=>?_;exact al
def Gj:C1 prog 247 qv sI Tm.av:=by
 refine v1 func247 λT H a0 r m e=>?_;rw[qv] at m;simp[e];refine dL m eD λ_ m=>?_;apply Iq e m<;>intro e m
 ·have⟨o,e,m⟩:=gu e m;have⟨q,e,m⟩:=gu e m;have⟨s,e,m⟩:=gu e m;simp[e];refine dY m eD λ_ m=>?_;simp[e];refine dY m z_ λ_ m=>?_;simp[e];refine dY m eD λ_ m=>?_;exact au
 apply Iq e m<;>intro e m
 ·have⟨t,e,m⟩:=gu e m;apply Iq e m<;>intro e m
  ·have⟨u,e,m⟩:=gu e m;simp[e];refine dL m eD λ_ m=>?_;exact au
  have⟨a,e,m⟩:=gu e m;simp[e];refine dY m eD λ_ m=>?_;have⟨b,e,m⟩:=gu e m;simp[e];refine dY m eD λ_ m=>?_;exact au
 apply Ir e m<;>intro e m
 ·apply Iq e m<;>intro e m
  ·have⟨c,e,m⟩:=gu e m;have⟨d,e,m⟩:=gu e m;simp[e];refine dL m eD λ_ m=>?_;exact au
  have⟨f,e,m⟩:=gu e m;have⟨h,e,m⟩:=gu e m;simp[e];refine dL m eD λ_ m=>?_;exact au
 have⟨i,e,m⟩:=gu e m;apply Iq e m<;>intro e m
 ·have⟨j,e,m⟩:=gu e m;simp[e];refine dL m eD λ_ m=>?_;exact au
 have⟨k,e,m⟩:=gu e m;have⟨l,e,m⟩:=gu e m;have⟨n,e,m⟩:=gu e m;simp[e];refine dY m eD λ_ m=>?_;simp[e];refine dY m eD λ_ m=>?_;simp[e];refine dY m eD λ_ m=>?_;simp[e];refine dY m eD λ_ m=>?_;exact au
def FD{n:Nat}:C4 prog 254 (uh n) Tm.av Tm.av sI sI Tm.av:=by
 refine i4 λn k=>v4 func254 λT H a0 a1 a2 a3 r m e=>?_;rw[uh] at m;apply Iq e m<;>intro e m
 ·apply Iq e m<;>intro e m
  ·simp[e];refine dL m Fe λ_ m=>?_;exact au
  refine Im e m λe m=>?_;simp[e];refine dL m gq λ_ m=>?_;exact au
 simp[e];refine Wr e m 999 (λj c f h=>∃a,(h=H/\f.1 1=sI a1/\f.1 2=sI a2/\f.1 45=sL Tm.av a0.aea/\f.1 46=sI (cI a0.aea)/\f.1 47=sI j/\bx f 4 (Tm.av a0).cells/\bx f 7 (Tm.av a3).cells/\bx f 8 [sI 0,sI 0,sI 0,nL,nL]/\bx f 9 [sI a0.ad',sI a0.aec,sI a0.b8.ad',sL Ty.av a0.b8.aea,sT a Tm.av c])/\Ow f [62] a c) (by exact⟨.full,aau,iz.full⟩) (λc d _ _ E m=>?_) (λj _ c d _ _ _ _ E e m z p=>?_)
 ·have⟨a,E,b⟩:=E;have e:=Aj e E;dsimp only[ca]at m;exact au
 have⟨a,E,b⟩:=E;have e:=Aj e E;simp[e];refine dY m pc λ_ m=>?_;simp[e];refine dY m k λi m=>?_;have⟨e,m⟩:=Ck e m;simp[e];refine Ad (f:=Tm.av) c [i] b CM e.2 ?_;simp[e];cases m;exact p _ _ _ ⟨(.loc 62 (d.dv 62+1)),aau,(On 62)⟩ z
def Eg:C1 prog 248 o7 Tm.av Tm.av:=by
 refine v1 func248 λT H a0 r m e=>?_;rw[o7] at m;apply Iq e m<;>intro e m
 ·have⟨o,e,m⟩:=gu e m;have⟨q,e,m⟩:=gu e m;have⟨s,e,m⟩:=gu e m;simp[e];refine dY m FD λ_ m=>?_;exact au
 apply Iq e m<;>intro e m
 ·have⟨t,e,m⟩:=gu e m;apply Iq e m<;>intro e m
  ·have⟨u,e,m⟩:=gu e m;exact au
  have⟨v,e,m⟩:=gu e m;have⟨w,e,m⟩:=gu e m;simp[e];refine dY m eK λ_ m=>?_;have⟨a,e,m⟩:=gu e m;simp[e];refine dY m kT λ_ m=>?_;simp[e];refine dY m eK λ_ m=>?_;exact au
 apply Ir e m<;>intro e m
 ·apply Iq e m<;>intro e m
  ·have⟨b,e,m⟩:=gu e m;have⟨c,e,m⟩:=gu e m;exact au
  have⟨d,e,m⟩:=gu e m;have⟨f,e,m⟩:=gu e m;exact au
 have⟨h,e,m⟩:=gu e m;apply Iq e m<;>intro e m
 ·have⟨i,e,m⟩:=gu e m;exact au
 have⟨j,e,m⟩:=gu e m;have⟨k,e,m⟩:=gu e m;have⟨l,e,m⟩:=gu e m;simp[e];refine dY m eK λ_ m=>?_;simp[e];refine dY m eK λ_ m=>?_;have⟨n,e,m⟩:=gu e m;simp[e];refine dY m kT λ_ m=>?_;simp[e];refine dY m eK λ_ m=>?_;exact au
def PU:jK prog 234=true:=by kernel_rfl
def Hj:∀(n:Nat),C2 prog 234 (mX n) (t3 Tm.av sB sB) Tm.av sI:=by
  intro n
  induction n with
  |zero=>
    skip
    all_goals(intro _ _;intros;rename_i hm;cases hm)
  |succ n ih=>
 rintro T H a0 a1 ⟨r0,r1,r2⟩ hm;rw[mX] at hm;refine dj.intro (fn:=f234) func234 rfl PU (Ax rfl) ?_;refine fA.sr [] λK1 aS=>?_;simp;apply aS;refine fA.Ah λK3 aT=>?_;refine fA.sr [] λK5 aU=>?_;have⟨x7,aV,G⟩:=cE hm;clear hm
 try dsimp only at G
 simp;refine ic.fn (IP aV) ?_;simp;apply aU;refine fA.zQ λbl bm ah ai=>?_;rcases Be G with⟨a,I⟩|⟨a,J⟩
 ·clear G;simp[a];apply ah;refine fA.Ah λbn ak=>?_;refine fA.sr [] λbo an=>?_;have⟨bp,ao,w⟩:=cE I;clear I
  try dsimp only at w
  simp[a];refine ic.fn (Gj ao) ?_;simp[a];apply an;refine fA.zQ λbq br aq ar=>?_;rcases Be w with⟨p,K⟩|⟨p,M⟩
  ·clear w;simp[a,p];apply aq;refine fA.sr [] λbs aw=>?_;simp[a,p];apply aw;refine fA.ret ?_;simp only[uq,Pl] at K;obtain⟨rfl,rfl,rfl⟩:=K;simp[xW,a,p]
  clear w;simp[a,p];apply ar;refine fA.skip ?_;apply ak;refine fA.sr [] λbt ax=>?_;have⟨bu,ay,B⟩:=cE M;clear M
  try dsimp only at B
  simp[a,p];refine ic.fn (Eg ay) ?_;simp[a,p];apply ax;refine fA.ret ?_;simp only[uq,Pl] at B;obtain⟨rfl,rfl,rfl⟩:=B;simp[xW,a,p]
 clear G;simp[a];apply ai;refine fA.skip ?_;apply aT;refine fA.Ah λbw az=>?_;refine fA.sr [] λbz aA=>?_;simp[a];apply aA;have⟨P,N⟩:=qA J;clear J;have⟨aW,aB,C⟩:=xc N;clear N
 try dsimp only at C
 have⟨Q,q,o⟩:=cE C;clear C;refine fA.Cy λbA aX aC aY aD=>?_;refine fA.OP (λn55 fr h=>∃(i56:Nat) (A:Int) (r:Nat) (s:Nat),H=h/\(fr.env 1=sI a1/\fr.env 2=AV.gx 2 r 0/\fr.env 4=AV.gx 4 s 0/\fr.env 23=sL Tm.av a0.aea/\fr.env 24=sI (cI a0.aea)/\fr.env 25=sI A/\fr.gen 2=r/\fr.box 2=some [sI a0.ad',sI a0.aec,sI a0.b8.ad',sL Ty.av a0.b8.aea,sL Tm.av a0.aea]/\fr.gen 4=s/\fr.box 4=some [sI 0,sI 0,sI 0,nL,nL])/\A=(i56:Int)/\i56+n55=List.length a0.aea/\cY aW (List.drop i56 a0.aea) i56 ()=some Q) (List.length a0.aea) ?_ ?_
 ·refine⟨0,0,1,1,?_,⟨?_,?_,?_,?_,?_,?_,?_,?_,?_,?_⟩,rfl,aas,q⟩<;>first|rfl|simp[a]
 rintro n55 O bB ⟨i56,A,r,s,rfl,i,v,aZ,q⟩ bC aE;rcases n55 with _|n55
 ·have b:=RJ (l:=a0.aea) v VW;refine fA.sr [] λbD aF=>?_;simp[i,b,a];apply aF;refine fA.Ah λbE a6=>?_;refine fA.zQ λbF bG a7 aG=>?_;simp[i,b,a];apply aG;refine fA.exit ?_;apply aC;rw[F_ VW,lx] at q;obtain rfl:=fS q;rw[ca] at o
  try dsimp only at o
  apply az;refine fA.sr [] λbH aH=>?_;simp[i,b,a];apply aH;refine fA.ret ?_;simp only[uq,Pl] at o;obtain⟨rfl,rfl,rfl⟩:=o;simp[xW,i,b,a]
 have b:=Uq (l:=a0.aea) v VW;have⟨bI,R,e⟩:=Q_ (l:=a0.aea) v VW;rw[R,cO] at q;have⟨bJ,y,z⟩:=cE q;clear q;rw[aB,<-v] at y
 try dsimp only at y
 refine fA.sr [] λbK aI=>?_;simp[i,b,e,a];apply aI;refine fA.Ah λbL aJ=>?_;refine fA.zQ λbM bN aK a8=>?_;simp[i,b,e,a];apply aK;refine fA.skip ?_;apply aJ;refine fA.Ah λbO aL=>?_;refine fA.Cy λbP a_ aM a' aN=>?_;refine fA.sr [] λbQ aO=>?_;simp[i,b,e,a];apply aO;refine fA.sr [] λbR aP=>?_;have⟨S,bS,ba,U,t⟩:=AE y;clear y
 try dsimp only at t
 simp[i,b,e,a];refine ic.fn (ih U) ?_;simp[i,b,e,a];apply aP;refine fA.Ah λbb V=>?_;refine fA.sr [] λbc W=>?_;simp[i,b,e,a];apply W;refine fA.zQ λbd bf X Y=>?_;rcases Be t with⟨c,D⟩|⟨c,Z⟩;rotate_left
 ·clear t;simp[i,b,e,a,c];apply X;refine fA.exit ?_;apply aM;apply aL;refine fA.region [] abz ?_;simp[i,b,e,a,c];obtain rfl:=fS Z;rw[cU] at z
  refine aE _ _ n55 (Uw _) ⟨(i56+1),(c8 .i64 A 1),r,s,?_,⟨?_,?_,?_,?_,?_,?_,?_,?_,?_,?_⟩,(PF v VW P),VW,z⟩<;>first|rfl|simp[i,b,e,a,c]
 clear t;simp[i,b,e,a,c];apply Y;refine fA.skip ?_;apply V;refine fA.sr [] λbg aa=>?_;simp[i,b,e,a,c];apply aa;refine fA.sr [] λbh ab=>?_;have⟨ad,E⟩:=qA D;clear D;simp[i,b,e,a,c];refine q9.ZM (f:=Tm.av) a0.aea CM ⟨_,Xf⟩ (by intro x;simp) ad (by first|rfl|simp) (by first|rfl|simp) λu aQ=>?_;simp[i,b,e,a,c];apply ab;refine fA.sr [] λbj ae=>?_;have⟨aR,j,F⟩:=cE E;clear E
 try dsimp only at F
 have m:=N3 j;simp[i,b,e,j,m,a,c];refine Al.arr (f:=Tm.av) (L:=a0.aea) (k:=((u-List.length a0.aea)*5)) S Vz (by intro x;simp) (by simp[i,b,e,j,m,a,c]) (x:=aR) (by assumption) (by simp[i,b,e,j,m,a,c]) (by simp[i,b,e,j,m,a,c]) (by simp[i,b,e,j,m,a,c]) ?_;simp[i,b,e,j,m,a,c];apply ae;refine fA.Ah λbk af=>?_;refine fA.ab4 12 4 (cs2:=[sI a0.ad',sI a0.aec,sI a0.b8.ad',sL Ty.av a0.b8.aea,AV.um 42 (O.gen 42+1) (List.length (xu a0.aea A S)) u]) (f:=Tm.av) (L:=(xu a0.aea A S)) (k:=((u-List.length a0.aea)*5)) (sz:=5) (d:=42) (g:=(O.gen 42+1)) (cap:=u) (by intro x;simp) (by intro x;simp) aaq (by simp[i,b,e,j,m,a,c]) (by simp[i,b,e,j,m,a,c]) (by simp[i,b,e,j,m,a,c]) (by simp[i,b,e,j,m,a,c]) ?_;refine fA.region [] abz ?_;simp[i,b,e,j,m,a,c];apply af;refine fA.ret ?_;apply aN;apply aD;obtain rfl:=fS F;rw[Gi] at z;obtain rfl:=fS z;rw[qm] at o
 try dsimp only at o
 simp only[uq,Pl] at o;obtain⟨rfl,rfl,rfl⟩:=o;simp[xW,i,b,e,j,m,a,c]
def Jp{n:Nat}:C2 prog 234 (mX n) (t3 Tm.av sB sB) Tm.av sI:=(Hj n)
def ug:C2 prog 206 kz (t3 Tm.av sI sI) Tm.av sI:=by
 refine u2 7 func206 λT H a0 a1 r m e=>?_;rw[kz] at m;simp[e];refine dL m nx λ_ m=>?_;simp[e];apply Iq e m<;>intro e m
 ·apply wg 999;exact au
 apply wg 3;simp[e];refine Wj m 999 999 (λb f h=>∃v3,(h=H/\f.1 1=sI a1/\f.1 28=sB v3/\bx f 2 (Tm.av a0).cells/\bx f 4 [sI 0,sI 0,sI 0,nL,nL])/\b v3=some r) (λb _ g m=>?_) ?_
 ·apply Iq e m<;>intro e m
  ·exact k8
  apply Iq e m<;>intro e m
  ·exact k8
  simp[e];refine dL m vi λ_ m=>?_;exact k8
 rintro _ _ ⟨v3,E,m⟩;have e:=Aj e E;refine Il e m λe m=>?_;simp[e];refine Wn m 999 (λa f h=>h=H/\f.1 1=sI a1/\f.1 8=sI a.1/\bx f 2 [sI a.2.1,sI a.2.2.1,sI a.2.2.2.1,sL Ty.av a.2.2.2.2.1,sL Tm.av a.2.2.2.2.2]/\bx f 4 [sI 0,sI 0,sI 0,nL,nL]) aau (λa _ _ _ _ _ E m z p=>?_);have⟨c,d,i,j,k,v20⟩:=a;have e:=Aj e E;dsimp only[yO]at m;simp[e];refine dY m eD λ_ m=>?_;simp[e];refine Cs3 m Jp λ_ _ _ m=>?_;apply Ir e m<;>intro e m
 ·simp[e];refine dL m qI λ_ m=>?_;exact au
 refine Il e m λe m=>?_;refine Im e m λe m=>?_;exact al
def G5:C3 prog 164 qb sI Tm.av Tm.av sI:=by
 refine v3 func164 λT H a0 a1 a2 r m e=>?_;rw[qb] at m;simp[e];refine dL m nx λ_ m=>?_;refine Il e m λe m=>?_;simp[e];refine dL m nx λ_ m=>?_;refine Il e m λe m=>?_;simp[e];refine dL m xg λ_ m=>?_;refine Il e m λe m=>?_;simp[e];refine QL m ug λ_ _ _ m=>?_;refine Il e m λe m=>?_;simp[e];refine QL m ug λ_ _ _ m=>?_;refine Il e m λe m=>?_;simp[e];refine dL m xg λ_ m=>?_;refine Il e m λe m=>?_;exact au
def Hc{n:Nat}:C2 prog 136 (n5 n) sI Fm.av Fm.av:=by
 refine i2 λn d=>u2 3 func136 λT H a0 a1 r m e=>?_;rw[n5] at m;simp[e];refine Wj m 999 999 (λb f h=>∃v2,(h=H/\f.1 21=sB v2/\bx f 2 (Fm.av a0).cells/\bx f 3 (Fm.av a1).cells)/\b v2=some r) (λb _ g m=>?_) ?_
 ·apply Iq e m<;>intro e m
  ·exact k8
  simp[e];refine dL m fB λ_ m=>?_;exact k8
 rintro _ _ ⟨v2,E,m⟩;have e:=Aj e E;refine Il e m λe m=>?_;simp[e];refine DH e m 999 (λc _ f h=>h=H/\f.1 24=sI (cI a0.cx)/\f.1 25=sI c/\bx f 2 (Fm.av a0).cells/\bx f 3 (Fm.av a1).cells) aau (λc _ _ _ _ _ _ _ E e m z p=>?_) (λ_ _ _ _ E m=>?_)
 ·have e:=Aj e E;have⟨i,e,m⟩:=gu e m;simp[e];refine dY m G5 λ_ m=>?_;refine Il e m λe m=>?_;exact al
 have e:=Aj e E;dsimp only[ca]at m;simp[e];refine Wr e m 999 (λa _ f h=>h=H/\f.1 45=sI (cI a0.aea)/\f.1 46=sI a/\bx f 2 (Fm.av a0).cells/\bx f 3 (Fm.av a1).cells) aau (λ_ _ _ _ E m=>?_) (λa _ _ _ _ _ _ _ E e m z p=>?_)
 ·have e:=Aj e E;dsimp only[ca]at m;exact au
 have e:=Aj e E;have⟨j,e,m⟩:=gu e m;simp[e];refine dY m d λ_ m=>?_;refine Il e m λe m=>?_;exact al
def vl:C2 prog 106 kI sI Fm.av Fm.av:=by
 refine v2 func106 λT H a0 a1 r m e=>?_;rw[kI] at m;simp[e];refine dL m kP λ_ m=>?_;refine Il e m λe m=>?_;simp[e];refine dL m kP λ_ m=>?_;refine Il e m λe m=>?_;simp[e];refine dL m Hc λ_ m=>?_;exact au
def k7:C2 prog 224 dk bZ.av bZ.av (sL Ty.av):=by
 refine v2 func224 λT H a0 a1 r m e=>?_;rw[dk] at m;have⟨e,m⟩:=Ck e m;simp[e];refine Ad (f:=Ty.av) a0.aed a1 (iz.full (D:=[])) Ev e.2 ?_;simp[e];refine Wr e m 999 (λk s2 f h=>∃a b,(h=H/\f.1 1=sL Ty.av a1/\f.1 23=sL Fm.av a0.aeg/\f.1 24=sI (cI a0.aeg)/\f.1 25=sI k/\bx f 4 [nL,nL,nL]/\bx f 5 [sL Fm.av a0.lemmas,sT a Ty.av (eA a0.aed a1),sT b Fm.av s2])/\Ow f [20] a (eA a0.aed a1)/\Ow f [36] b s2) (by exact⟨(.loc 20 1),.full,aau,(On 20),iz.full⟩) (λs2 i _ _ E m=>?_) (λk _ s2 i _ _ _ _ E e m z p=>?_)
 ·have⟨a,b,E,d,c⟩:=E;have e:=Aj e E;dsimp only[ca]at m;exact au
 have⟨a,b,E,d,c⟩:=E;have e:=Aj e E;simp[e];refine dY m pJ λj m=>?_;have⟨e,m⟩:=Ck e m;simp[e];refine Ad (f:=Fm.av) s2 [j] c JN e.2 ?_;simp[e];cases m;exact p _ _ _ ⟨a,(.loc 36 (i.dv 36+1)),aau,(iz.other d c aaq aaq),(On 36)⟩ z
def m9:C2 prog 225 et (sL sI) (sL sI) sI:=by
 refine v2 func225 λT H a0 a1 r m e=>?_;rw[et] at m;simp[e];refine Wr e m 0 (λk s2 f h=>∃b,(h=H/\f.1 1=sI a1/\f.1 5=sT b sI s2/\f.1 8=sL sI a0/\f.1 9=sI (cI a0)/\f.1 10=sI k)/\Ow f [22] b s2) (by exact⟨.full,aau,iz.full⟩) (λs2 i _ _ E m=>?_) (λk l s2 i _ _ _ n E e m z p=>?_)
 ·have⟨b,E,c⟩:=E;have e:=Aj e E;apply wg 999;dsimp only[ca]at m;exact au
 have⟨b,E,c⟩:=E;have e:=Aj e E;apply wg 5;simp[e];refine B6 m 999 999 (λj f h=>∃v11 a,(h=H/\f.1 1=sI a1/\f.1 5=sT a sI v11/\f.1 8=sL sI a0/\f.1 9=sI (cI a0)/\f.1 10=sI k)/\Ow f [22] a v11/\j v11=some n) ?_ (λj _ g m=>?_)
 ·rintro _ _ ⟨v11,a,E,d,m⟩;have e:=Aj e E;simp[e];cases m;exact p _ _ _ ⟨a,aau,d⟩ z
 apply Ir e m<;>intro e m
 ·simp[e];exact g _ _ ⟨s2,b,aau,c,m⟩
 have⟨e,m⟩:=Ck e m;simp[e];refine Ao (f:=sI) s2 [(dh .i64 l a1)] c QW e.2 ?_;simp[e];exact g _ _ ⟨(eA s2 [(dh .i64 l a1)]),(.loc 22 (i.dv 22+1)),aau,(On 22),m⟩
def Dj:C1 prog 226 pV sB (sL sI):=by
 refine u1 2 func226 λT H a0 r m e=>?_;rw[pV] at m;simp[e];refine B6 m 999 999 (λa f h=>∃v2,(h=H/\f.1 2=sB v2)/\a v2=some r) ?_ (λa _ g m=>?_)
 ·rintro _ _ ⟨v2,E,m⟩;have e:=Aj e E;exact au
 apply Ir e m<;>intro e m
 ·exact k8
 have⟨b,e,m⟩:=gu e m;exact k8
def tX:C2 prog 227 iK (t2 Ty.av sI) (sL Ty.av) Tm.av:=by
 refine v2 func227 λT H a0 a1 r m e=>?_;rw[iK] at m;simp[e];refine dL m sx λ_ m=>?_;refine Il e m λe m=>?_;simp[e];refine k5 m zW λ_ _ m=>?_;exact au
def HG(T:cV):∀(n:Nat),(∀{H:cc} {a0:Tm} {a1:Int} {a2:(List (Int×Bool))} {a:(List (Int×Bool))} {o2:Nat} (b:H[o2]?=some [rz sB a2]) (hm:n9 n a0 a1 a2=some a),dr prog T 250 [Tm.av a0,sI a1,AV.nR o2] H (AV.tuple []) (dx H o2 [rz sB a])):=by
  intro n
  induction n with
  |zero=>
    skip
    all_goals(intro _ _;intros;rename_i hm;cases hm)
  |succ n k=>
 intro H a0 a1 a2 a o2 b hm;rw[n9] at hm;have d:=eo b;refine dj.PS b ?_;have e:=d;refine wi aee func250 [] [] 2 ?_;simp[e];refine Wj hm 0 999 (λi f h=>∃(v2:(List (Int×Bool))),(h=dx H o2 [rz sB v2]/\f.1 1=sI a1/\f.1 2=AV.nR o2/\f.1 3=AV.gx 3 (f.gen 3) 0/\f.box 3=some (Tm.av a0).cells)/\i v2=some a) (λi _ g m=>?_) ?_
 ·refine wj 999 999 (λf h=>h=dx H o2 [rz sB a2]/\f.1 1=sI a1/\f.1 2=AV.nR o2/\f.1 16=sB (df (cn a0.ad' 1) (qJ a0.aec a1) false)/\bx f 3 (Tm.av a0).cells) (λ_ g=>?_) ?_
  ·rcases Pb (cn a0.ad' 1) e with e|e
   ·exact aj
   exact aj
  rintro _ _ E;have e:=Aj e E;apply Ir e m<;>intro e m
  ·exact k8
  simp[e];refine Yt.i64 (f:=sB) a2 true MT Yd aau aau ?_;exact k8
 rintro _ _ ⟨v2,E,m⟩;have e:=Aj e E;simp[e];refine Wr e m 999 (λj c f h=>h=dx H o2 [rz sB c]/\f.1 1=sI a1/\f.1 2=AV.nR o2/\f.1 23=sL Tm.av a0.aea/\f.1 24=sI (cI a0.aea)/\f.1 25=sI j/\bx f 3 (Tm.av a0).cells) aau (λc _ _ _ E m=>?_) (λj _ c _ _ _ _ _ E e m z p=>?_)
 ·have e:=Aj e E;dsimp only[ca]at m;exact au
 have e:=Aj e E;simp[e];refine dY m pc λ_ m=>?_;simp[e];refine dY m (k aau) λd19 m=>?_;exact al
def Js(T:cV){H:cc}{a0:Tm}{a1:Int}{a2:(List (Int×Bool))}{a:(List (Int×Bool))}{o2:Nat}(b:H[o2]?=some [rz sB a2]){n:Nat}(hm:n9 n a0 a1 a2=some a):dr prog T 250 [Tm.av a0,sI a1,AV.nR o2] H (AV.tuple []) (dx H o2 [rz sB a]):=(HG T n) b hm
def JA(T:cV){H:cc}{a0:Tm}{a:List Int}{b:Int}(hm:tj a0=some (a,b)):dr prog T 242 [Tm.av a0] H (AV.tuple [sL sI a,sI b]) H:=by
 rw[tj] at hm;refine dj.sH (Post:=λx K=>x=AV.tuple [sL sI a,sI b]/\∃X,K=H++X) ?_ (λ_ _ h=>⟨_,h.2.choose_spec,by rw[h.1];simp[AV.low,AV.gw],h.1,rfl⟩);have e:=trivial;refine wi aee func242 [] [] 999 ?_;simp[e];refine dL hm nx λ_ m=>?_;refine Il e m λe m=>?_;simp[e];refine dL m (Js T aau) λd2 m=>?_;simp[e];refine k5 m (yt T aau) λ_ d4 m=>?_;exact au
def sU:C1 prog 228 iQ (sL sI) Tm.av:=by
 refine v1 func228 λT H a0 r m e=>?_;rw[iQ] at m;simp[e];refine k5 m (JA T) λ_ _ m=>?_;exact au
def Hw{n:Nat}:C2 prog 251 (og n) sI Fm.av sI:=by
 refine i2 λn d=>v2 func251 λT H a0 a1 r m e=>?_;rw[og] at m;simp[e];refine DH e m 999 (λc s2 f h=>h=H/\f.1 1=sI a1/\f.1 5=sI s2/\f.1 11=sL Tm.av a0.cx/\f.1 12=sI (cI a0.cx)/\f.1 13=sI c/\bx f 2 (Fm.av a0).cells) aau (λc _ s2 _ _ _ _ _ E e m z p=>?_) (λs2 _ _ _ E m=>?_)
 ·have e:=Aj e E;simp[e];refine dL m z_ λ_ m=>?_;exact al
 have e:=Aj e E;dsimp only[ca]at m;simp[e];refine Wr e m 999 (λb a f h=>h=H/\f.1 1=sI a1/\f.1 5=sI a/\f.1 24=sL Fm.av a0.aea/\f.1 25=sI (cI a0.aea)/\f.1 26=sI b/\bx f 2 (Fm.av a0).cells) aau (λa _ _ _ E m=>?_) (λb _ a _ _ _ _ _ E e m z p=>?_)
 ·have e:=Aj e E;dsimp only[ca]at m;exact au
 have e:=Aj e E;simp[e];refine dY m rV λ_ m=>?_;simp[e];refine dY m d λ_ m=>?_;exact al
def N1{n:Nat}:C4 prog 252 (vM n) Fm.av Fm.av sI sI Tm.av:=by
 refine i4 λn v=>v4 func252 λT H a0 a1 a2 a3 r m e=>?_;rw[vM] at m;simp[e];refine DH e m 999 (λu s2 f h=>∃c,(h=H/\f.1 1=sI a1/\f.1 2=sI a2/\f.1 20=sL Tm.av a0.cx/\f.1 21=sI (cI a0.cx)/\f.1 22=sI u/\bx f 4 (Fm.av a0).cells/\bx f 7 (Tm.av a3).cells/\bx f 8 [sI 0,sI 0,nL,nL,nL]/\bx f 9 [sI a0.ad',sI a0.b8.ad',sL Ty.av a0.b8.aea,sT c Tm.av s2,nL])/\Ow f [34] c s2) (by exact⟨.full,aau,iz.full⟩) (λu _ s2 o _ _ _ _ E e m z p=>?_) (λs2 o _ _ E m=>?_)
 ·have⟨c,E,i⟩:=E;have e:=Aj e E;simp[e];refine dY m FD λs m=>?_;have⟨e,m⟩:=Ck e m;simp[e];refine Ad (f:=Tm.av) s2 [s] i CM e.2 ?_;simp[e];cases m;exact p _ _ _ ⟨(.loc 34 (o.dv 34+1)),aau,(On 34)⟩ z
 have⟨c,E,i⟩:=E;have e:=Aj e E;dsimp only[ca]at m;simp[e];refine Wr e m 999 (λq j f h=>∃a b,(h=H/\f.1 1=sI a1/\f.1 2=sI a2/\f.1 38=sL Fm.av a0.aea/\f.1 39=sI (cI a0.aea)/\f.1 40=sI q/\bx f 4 (Fm.av a0).cells/\bx f 7 (Tm.av a3).cells/\bx f 8 [sI 0,sI 0,nL,nL,nL]/\bx f 9 [sI a0.ad',sI a0.b8.ad',sL Ty.av a0.b8.aea,sT a Tm.av s2,sT b Fm.av j])/\Ow f [34] a s2/\Ow f [55] b j) (by exact⟨c,.full,aau,i,iz.full⟩) (λj l _ _ E m=>?_) (λq _ j l _ _ _ _ E e m z p=>?_)
 ·have⟨a,b,E,k,d⟩:=E;have e:=Aj e E;dsimp only[ca]at m;exact au
 have⟨a,b,E,k,d⟩:=E;have e:=Aj e E;simp[e];refine dY m rV λ_ m=>?_;simp[e];refine dY m v λt m=>?_;have⟨e,m⟩:=Ck e m;simp[e];refine Ad (f:=Fm.av) j [t] d JN e.2 ?_;simp[e];cases m;exact p _ _ _ ⟨a,(.loc 55 (l.dv 55+1)),aau,(iz.other k d aaq aaq),(On 55)⟩ z
def Kf:C3 prog 243 vH (t2 Fm.av sI) Fm.av sI Tm.av:=by
 refine u3 7 func243 λT H a0 a1 a2 r m e=>?_;rw[vH] at m;simp[e];refine dL m kP λ_ m=>?_;simp[e];apply Iq e m<;>intro e m
 ·apply wg 999;exact au
 apply wg 3;simp[e];refine wj 999 0 (λf h=>h=H/\f.1 1=sI a1/\f.1 21=sB (df (sg a1 0) true (nG a1 4096))/\bx f 3 (Fm.av a0).cells/\bx f 5 (Tm.av a2).cells/\bx f 6 [sI 0,sI 0,nL,nL,nL]) (λ_ g=>?_) ?_
 ·rcases Pb (sg a1 0) e with e|e
  ·exact aj
  exact aj
 rintro _ _ E;have e:=Aj e E;apply Iq e m<;>intro e m
 ·apply wg 999;exact au
 apply wg 7;simp[e];refine dL m nx λ_ m=>?_;simp[e];apply Iq e m<;>intro e m
 ·apply wg 999;exact au
 apply wg 3;simp[e];refine Wj m 999 999 (λb f h=>∃a,(h=H/\f.1 1=sI a1/\f.1 36=sB a/\bx f 3 (Fm.av a0).cells/\bx f 5 (Tm.av a2).cells/\bx f 6 [sI 0,sI 0,nL,nL,nL])/\b a=some r) (λb _ g m=>?_) ?_
 ·simp[e];refine dL m zV λ_ m=>?_;apply Ir e m<;>intro e m
  ·exact k8
  simp[e];refine dL m vi λ_ m=>?_;exact k8
 rintro _ _ ⟨a,E,m⟩;have e:=Aj e E;refine Il e m λe m=>?_;simp[e];refine dY m nq λ_ m=>?_;simp[e];refine dY m Hw λ_ m=>?_;simp[e];refine dY m eD λ_ m=>?_;refine Il e m λe m=>?_;simp[e];refine dL m N1 λ_ m=>?_;simp[e];refine dL m oG λ_ m=>?_;exact au
def qc:C2 prog 229 hZ (t2 Fm.av sI) Fm.av Tm.av:=by
 refine v2 func229 λT H a0 a1 r m e=>?_;rw[hZ] at m;simp[e];refine k5 m Kf λ_ _ m=>?_;exact au
def KX{n:Nat}:C2 prog 244 (s8 n) sB Tm.av sI:=by
 refine i2 λn b=>u2 3 func244 λT H a0 a1 r m e=>?_;rw[s8] at m;simp[e];refine wj 999 999 (λf h=>h=H/\f.1 1=sI a1/\f.1 15=sB (df (cn a0.ad' 1) (cn a0.aec a1) false)/\bx f 2 (Tm.av a0).cells) (λ_ g=>?_) ?_
 ·rcases Pb (cn a0.ad' 1) e with e|e
  ·exact aj
  exact aj
 rintro _ _ E;have e:=Aj e E;refine Il e m λe m=>?_;simp[e];refine Wr e m 999 (λa _ f h=>h=H/\f.1 1=sI a1/\f.1 17=sL Tm.av a0.aea/\f.1 18=sI (cI a0.aea)/\f.1 19=sI a/\bx f 2 (Tm.av a0).cells) aau (λ_ _ _ _ E m=>?_) (λa _ _ _ _ _ _ _ E e m z p=>?_)
 ·have e:=Aj e E;dsimp only[ca]at m;exact au
 have e:=Aj e E;simp[e];refine dY m pc λ_ m=>?_;simp[e];refine dY m b λ_ m=>?_;refine Il e m λe m=>?_;exact al
def Ds{n:Nat}:C2 prog 231 (oJ n) sB Fm.av sI:=by
 refine i2 λn c=>v2 func231 λT H a0 a1 r m e=>?_;rw[oJ] at m;simp[e];refine DH e m 999 (λb _ f h=>h=H/\f.1 1=sI a1/\f.1 10=sL Tm.av a0.cx/\f.1 11=sI (cI a0.cx)/\f.1 12=sI b/\bx f 2 (Fm.av a0).cells) aau (λb _ _ _ _ _ _ _ E e m z p=>?_) (λ_ _ _ _ E m=>?_)
 ·have e:=Aj e E;simp[e];refine dL m KX λ_ m=>?_;refine Il e m λe m=>?_;exact al
 have e:=Aj e E;dsimp only[ca]at m;simp[e];refine Wr e m 999 (λa _ f h=>h=H/\f.1 1=sI a1/\f.1 21=sL Fm.av a0.aea/\f.1 22=sI (cI a0.aea)/\f.1 23=sI a/\bx f 2 (Fm.av a0).cells) aau (λ_ _ _ _ E m=>?_) (λa _ _ _ _ _ _ _ E e m z p=>?_)
 ·have e:=Aj e E;dsimp only[ca]at m;exact au
 have e:=Aj e E;simp[e];refine dY m rV λ_ m=>?_;simp[e];refine dY m c λ_ m=>?_;refine Il e m λe m=>?_;exact al
def Gl{n:Nat}:C1 prog 232 (lB n) (t2 Fm.av sI) Fm.av:=by
 refine i1 λn v=>v1 func232 λT H a0 r m e=>?_;rw[lB] at m;simp[e];refine DH e m 999 (λu s2 f h=>∃c,(h=H/\f.1 20=sL Tm.av a0.cx/\f.1 21=sI (cI a0.cx)/\f.1 22=sI u/\bx f 1 (Fm.av a0).cells/\bx f 2 [sI 0,sI 0,nL,nL,nL]/\bx f 4 [sI a0.ad',sI a0.b8.ad',sL Ty.av a0.b8.aea,sT c Tm.av s2,nL])/\Ow f [40] c s2) (by exact⟨.full,aau,iz.full⟩) (λu _ s2 o _ _ _ _ E e m z p=>?_) (λs2 o _ _ E m=>?_)
 ·have⟨c,E,i⟩:=E;have e:=Aj e E;simp[e];refine QL m ug λs _ _ m=>?_;refine Il e m λe m=>?_;have⟨e,m⟩:=Ck e m;simp[e];refine Ao (f:=Tm.av) s2 [s] i CM e.2 ?_;simp[e];cases m;exact p _ _ _ ⟨(.loc 40 (o.dv 40+1)),aau,(On 40)⟩ z
 have⟨c,E,i⟩:=E;have e:=Aj e E;dsimp only[ca]at m;simp[e];refine Wr e m 999 (λq j f h=>∃a b,(h=H/\f.1 44=sL Fm.av a0.aea/\f.1 45=sI (cI a0.aea)/\f.1 46=sI q/\bx f 2 [sI 0,sI 0,nL,nL,nL]/\bx f 4 [sI a0.ad',sI a0.b8.ad',sL Ty.av a0.b8.aea,sT a Tm.av s2,sT b Fm.av j])/\Ow f [40] a s2/\Ow f [63] b j) (by exact⟨c,.full,aau,i,iz.full⟩) (λj l _ _ E m=>?_) (λq _ j l _ _ _ _ E e m z p=>?_)
 ·have⟨a,b,E,k,d⟩:=E;have e:=Aj e E;dsimp only[ca]at m;exact au
 have⟨a,b,E,k,d⟩:=E;have e:=Aj e E;simp[e];refine k5 m v λt _ m=>?_;refine Il e m λe m=>?_;have⟨e,m⟩:=Ck e m;simp[e];refine Ao (f:=Fm.av) j [t] d JN e.2 ?_;simp[e];cases m;exact p _ _ _ ⟨a,(.loc 63 (l.dv 63+1)),aau,(iz.other k d aaq aaq),(On 63)⟩ z
def nC:C3 prog 200 fp sI bZ.av Tm.av sI:=by
 refine v3 func200 λT H a0 a1 a2 r m e=>?_;rw[fp] at m;simp[e];refine k5 m tX λ_ _ m=>?_;refine Il e m λe m=>?_;refine Il e m λe m=>?_;exact au
def DY{n:Nat}:C1 prog 203 (h9 n) sB Fm.av:=by
 refine i1 λn a=>u1 8 func203 λT H a0 r m e=>?_;rw[h9] at m;simp[e];apply Iq e m<;>intro e m
 ·apply wg 999;exact au
 apply wg 3;simp[e];apply Ir e m<;>intro e m
 ·apply wg 999;refine Il e m λe m=>?_;have⟨d,e,m⟩:=gu e m;simp[e];refine dL m a λ_ m=>?_;exact au
 apply wg 1;simp[e];refine B6 m 999 999 (λb f h=>∃v4,(h=H/\f.1 2=sB v4)/\b v4=some r) ?_ (λb _ g m=>?_)
 ·rintro _ _ ⟨v4,E,m⟩;have e:=Aj e E;exact au
 have⟨i,e,m⟩:=gu e m;simp[e];refine dL m a λ_ m=>?_;apply Iq e m<;>intro e m
 ·exact k8
 have⟨c,e,m⟩:=gu e m;simp[e];refine dL m a λ_ m=>?_;exact k8
def Eh:C1 prog 162 ny (t2 sB sI) Fm.av:=by
 refine v1 func162 λT H a0 r m e=>?_;rw[ny] at m;simp[e];refine dL m kP λ_ m=>?_;refine Il e m λe m=>?_;simp[e];refine dL m DY λ_ m=>?_;exact au
def xe:∀(n:Nat),C2 prog 133 (cA n) (t2 s9.av sI) bZ.av Pf.av/\C2 prog 161 (cu n) (t3 Fm.av (sL sI) sI) bZ.av Pf.av/\C2 prog 194 (lO n) (t3 Fm.av (sL sI) sI) bZ.av Pf.av/\C2 prog 195 (mq n) (t3 Fm.av (sL sI) sI) bZ.av Pf.av/\C2 prog 196 (mv n) (t3 Fm.av (sL sI) sI) bZ.av Pf.av/\C2 prog 197 (k1 n) (t3 Fm.av (sL sI) sI) bZ.av Pf.av/\C2 prog 198 (nQ n) (t3 Fm.av (sL sI) sI) bZ.av Pf.av/\C2 prog 199 (l8 n) (t3 Fm.av (sL sI) sI) bZ.av Pf.av/\C2 prog 201 (ma n) (t3 Fm.av (sL sI) sI) bZ.av Pf.av/\C2 prog 202 (lT n) (t3 Fm.av (sL sI) sI) bZ.av Pf.av/\C4 prog 230 (dc n) (t2 (sL sI) sI) bZ.av Pf.av Fm.av Tm.av:=by
  intro n
  induction n with
  |zero=>
    refine⟨?_,?_,?_,?_,?_,?_,?_,?_,?_,?_,?_⟩
    all_goals(intro _ _;intros;rename_i hm;cases hm)
  |succ n c=>
 refine⟨?_,?_,?_,?_,?_,?_,?_,?_,?_,?_,?_⟩
 ·intro T H a0 a1 r hm;rw[cA] at hm;have e:=trivial;refine wi aee func133 [] [] 7 ?_;simp[e];refine QL hm c.2.1 λQ _ _ m=>?_;simp[e];apply Iq e m<;>intro e m
  ·apply wg 999;exact au
  apply wg 5;simp[e];refine dL m kP λO m=>?_;simp[e];apply Iq e m<;>intro e m
  ·apply wg 999;exact au
  apply wg 2;simp[e];refine B6 m 999 999 (λR f h=>∃v6 o,(h=H/\f.1 7=sT o sI v6/\bx f 4 [sI 0,sI 0,nL,nL,nL,nL]/\bx f 6 (Fm.av Q).cells)/\R v6=some r) ?_ (λR _ g m=>?_)
  ·rintro _ _ ⟨v6,o,E,m⟩;have e:=Aj e E;exact au
  simp[e];refine k5 m Eh λ_ I m=>?_;apply Iq e m<;>intro e m
  ·simp[e];exact g _ _ ⟨_,.gY,aau,m⟩
  simp[e];exact g _ _ ⟨_,.full,aau,m⟩
 ·intro T H a0 a1 r hm;rw[cu] at hm;have e:=trivial;refine wi aee func161 [] [] 10 ?_;simp[e];apply Iq e hm<;>intro e m
  ·apply wg 999;refine Il e m λe m=>?_;have⟨aa,e,m⟩:=gu e m;exact au
  apply wg 3;simp[e];apply Iq e m<;>intro e m
  ·apply wg 999;refine Il e m λe m=>?_;have⟨ab,e,m⟩:=gu e m;exact au
  apply wg 3;simp[e];apply Iq e m<;>intro e m
  ·apply wg 999;have⟨ad,e,m⟩:=gu e m;simp[e];refine qX m c.1 λ_ _ m=>?_;refine Il e m λe m=>?_;have⟨ae,e,m⟩:=gu e m;simp[e];refine qX m c.1 λ_ _ m=>?_;simp[e];refine dY m hR λ_ m=>?_;simp[e];refine dY m (jH T) λ_ m=>?_;exact au
  apply wg 1;simp[e];refine wj 999 0 (λf h=>h=H/\f.1 22=sI a1.ad'/\f.1 93=sB (df (cn a1.ad' 4) true (cn a1.ad' 5))/\bx f 2 (bZ.av a0).cells/\bx f 3 (Pf.av a1).cells/\bx f 4 [sI 0,sI 0,nL,nL,nL]/\bx f 7 [sI 0,sI 0,nL,nL,nL]) (λ_ g=>?_) ?_
  ·rcases Pb (cn a1.ad' 4) e with e|e
   ·exact aj
   exact aj
  rintro _ _ E;have e:=Aj e E;apply Iq e m<;>intro e m
  ·apply wg 999;have⟨af,e,m⟩:=gu e m;simp[e];refine qX m c.1 λ_ _ m=>?_;refine Il e m λe m=>?_;refine Il e m λe m=>?_;have⟨ah,e,m⟩:=gu e m;exact au
  apply wg 3;simp[e];apply Iq e m<;>intro e m
  ·apply wg 999;have⟨ai,e,m⟩:=gu e m;simp[e];refine dY m pt λ_ m=>?_;refine Il e m λe m=>?_;simp[e];refine dL m jP λ_ m=>?_;refine Il e m λe m=>?_;simp[e];refine dY m lF λ_ m=>?_;have⟨ak,e,m⟩:=gu e m;simp[e];refine qX m c.1 λ_ _ m=>?_;simp[e];refine dY m hR λ_ m=>?_;exact au
  apply wg 3;simp[e];apply Iq e m<;>intro e m
  ·apply wg 999;have⟨an,e,m⟩:=gu e m;simp[e];refine qX m c.1 λ_ _ m=>?_;refine Il e m λe m=>?_;refine Il e m λe m=>?_;have⟨ao,e,m⟩:=gu e m;simp[e];refine qX m c.1 λ_ _ m=>?_;refine Il e m λe m=>?_;have⟨aq,e,m⟩:=gu e m;simp[e];refine dY m (jH T) λ_ m=>?_;have⟨ar,e,m⟩:=gu e m;simp[e];refine dY m vl λ_ m=>?_;exact au
  apply wg 1;simp[e];refine wj 999 0 (λf h=>h=H/\f.1 22=sI a1.ad'/\f.1 218=sB (df (cn a1.ad' 8) true (cn a1.ad' 12))/\bx f 2 (bZ.av a0).cells/\bx f 3 (Pf.av a1).cells/\bx f 4 [sI 0,sI 0,nL,nL,nL]) (λ_ g=>?_) ?_
  ·rcases Pb (cn a1.ad' 8) e with e|e
   ·exact aj
   exact aj
  rintro _ _ E;have e:=Aj e E;apply Iq e m<;>intro e m
  ·apply wg 999;simp[e];refine QL m c.2.2.1 λ_ _ _ m=>?_;exact au
  apply wg 1;simp[e];refine wj 999 0 (λf h=>h=H/\f.1 22=sI a1.ad'/\f.1 227=sB (df (cn a1.ad' 9) true (cn a1.ad' 13))/\bx f 2 (bZ.av a0).cells/\bx f 3 (Pf.av a1).cells/\bx f 4 [sI 0,sI 0,nL,nL,nL]) (λ_ g=>?_) ?_
  ·rcases Pb (cn a1.ad' 9) e with e|e
   ·exact aj
   exact aj
  rintro _ _ E;have e:=Aj e E;apply Iq e m<;>intro e m
  ·apply wg 999;simp[e];refine QL m c.2.2.2.1 λ_ _ _ m=>?_;exact au
  apply wg 1;simp[e];refine wj 999 0 (λf h=>h=H/\f.1 22=sI a1.ad'/\f.1 236=sB (df (cn a1.ad' 10) true (cn a1.ad' 14))/\bx f 2 (bZ.av a0).cells/\bx f 3 (Pf.av a1).cells/\bx f 4 [sI 0,sI 0,nL,nL,nL]) (λ_ g=>?_) ?_
  ·rcases Pb (cn a1.ad' 10) e with e|e
   ·exact aj
   exact aj
  rintro _ _ E;have e:=Aj e E;apply Iq e m<;>intro e m
  ·apply wg 999;simp[e];refine QL m c.2.2.2.2.1 λ_ _ _ m=>?_;exact au
  apply wg 1;simp[e];refine wj 999 999 (λf h=>h=H/\f.1 22=sI a1.ad'/\f.1 245=sB (df (cn a1.ad' 11) true (cn a1.ad' 15))/\bx f 2 (bZ.av a0).cells/\bx f 3 (Pf.av a1).cells/\bx f 4 [sI 0,sI 0,nL,nL,nL]) (λ_ g=>?_) ?_
  ·rcases Pb (cn a1.ad' 11) e with e|e
   ·exact aj
   exact aj
  rintro _ _ E;have e:=Aj e E;apply Iq e m<;>intro e m
  ·simp[e];refine QL m c.2.2.2.2.2.1 λ_ _ _ m=>?_;exact au
  apply Iq e m<;>intro e m
  ·simp[e];refine QL m c.2.2.2.2.2.2.1 λ_ _ _ m=>?_;exact au
  apply Iq e m<;>intro e m
  ·simp[e];refine QL m c.2.2.2.2.2.2.2.1 λ_ _ _ m=>?_;exact au
  apply Iq e m<;>intro e m
  ·have⟨aw,e,m⟩:=gu e m;simp[e];refine dY m t_ λ_ m=>?_;simp[e];refine dY m nC λ_ m=>?_;exact au
  apply Iq e m<;>intro e m
  ·simp[e];refine QL m c.2.2.2.2.2.2.2.2.1 λ_ _ _ m=>?_;exact au
  simp[e];refine QL m c.2.2.2.2.2.2.2.2.2.1 λ_ _ _ m=>?_;exact au
 ·intro T H a0 a1 r hm;rw[lO] at hm;have e:=trivial;refine wi aee func194 [] [] 999 ?_;simp[e];refine dL hm jP λ_ m=>?_;refine Il e m λe m=>?_;simp[e];refine dY m k7 λ_ m=>?_;have⟨I,e,m⟩:=gu e m;simp[e];refine qX m c.1 λ_ _ m=>?_;refine Il e m λe m=>?_;apply Iq e m<;>intro e m
  ·simp[e];refine dY m pT λJ m=>?_;simp[e];refine dY m m9 λK m=>?_;exact au
  simp[e];refine dL m Dj λ_ m=>?_;refine Il e m λe m=>?_;simp[e];refine dY m pT λ_ m=>?_;simp[e];refine dY m m9 λ_ m=>?_;exact au
 ·intro T H a0 a1 r hm;rw[mq] at hm;have e:=trivial;refine wi aee func195 [] [] 9 ?_;have⟨L,e,m⟩:=gu e hm;simp[e];refine k5 m tX λP _ m=>?_;simp[e];apply Iq e m<;>intro e m
  ·apply wg 999;exact au
  apply wg 7;have⟨x6,e,m⟩:=gu e m;simp[e];refine qX m c.1 λd _ m=>?_;simp[e];apply Iq e m<;>intro e m
  ·apply wg 999;exact au
  apply wg 4;simp[e];refine dY m sU λ_ m=>?_;simp[e];refine dY m (jH T) λv m=>?_;simp[e];refine wj 999 999 (λf h=>h=H/\f.1 11=sI (df (cn a1.ad' 13) 6 4)/\f.1 12=sL sI (df (cn a1.ad' 13) d.eX v)/\bx f 4 [sI 0,sI 0,nL,nL,nL]/\bx f 7 (Tm.av L).cells/\bx f 8 (Ty.av P).cells/\bx f 10 [sI d.cd.ad',sI d.cd.b8.ad',sL Ty.av d.cd.b8.aea,sL Tm.av d.cd.cx,sL Fm.av d.cd.aea,sL sI d.eX]) (λ_ g=>?_) ?_
  ·rcases Pb (cn a1.ad' 13) e with e|e
   ·exact aj
   exact aj
  rintro _ _ E;have e:=Aj e E;refine Il e m λe m=>?_;simp[e];refine dL m fB λ_ m=>?_;refine Im e m λe m=>?_;have⟨b,e,m⟩:=gu e m;simp[e];refine qX m qc λ_ _ m=>?_;exact au
 ·intro T H a0 a1 r hm;rw[mv] at hm;have e:=trivial;refine wi aee func196 [] [] 9 ?_;have⟨i,e,m⟩:=gu e hm;have⟨O,e,m⟩:=gu e m;simp[e];refine dL m pt λ_ m=>?_;simp[e];apply Iq e m<;>intro e m
  ·apply wg 999;exact au
  apply wg 4;simp[e];refine wj 999 3 (λf h=>h=H/\f.1 10=sI (df (cn a1.ad' 14) 7 5)/\bx f 2 (bZ.av a0).cells/\bx f 3 (Pf.av a1).cells/\bx f 4 [sI 0,sI 0,nL,nL,nL]/\bx f 7 (Fm.av i).cells/\bx f 8 (Tm.av O).cells) (λ_ g=>?_) ?_
  ·rcases Pb (cn a1.ad' 14) e with e|e
   ·exact aj
   exact aj
  rintro _ _ E;have e:=Aj e E;simp[e];apply Iq e m<;>intro e m
  ·apply wg 999;exact au
  apply wg 7;simp[e];refine k5 m tX λ_ I m=>?_;simp[e];apply Iq e m<;>intro e m
  ·apply wg 999;exact au
  apply wg 5;simp[e];refine dL m fB λw m=>?_;simp[e];apply Ir e m<;>intro e m
  ·apply wg 999;exact au
  apply wg 4;have⟨q,e,m⟩:=gu e m;have⟨J,e,m⟩:=gu e m;simp[e];refine qX m c.2.2.2.2.2.2.2.2.2.2 λK M m=>?_;simp[e];refine B6 m 999 999 (λx f h=>∃s,(h=H/\f.1 12=sI M/\f.1 13=sL sI s/\bx f 4 [sI 0,sI 0,nL,nL,nL]/\bx f 7 (Fm.av i).cells)/\x s=some r) ?_ (λx _ g m=>?_)
  ·rintro _ _ ⟨s,E,m⟩;have e:=Aj e E;exact au
  apply Ir e m<;>intro e m
  ·exact k8
  simp[e];refine dL m sU λ_ m=>?_;simp[e];refine dL m (jH T) λ_ m=>?_;exact k8
 ·intro T H a0 a1 r hm;rw[k1] at hm;have e:=trivial;refine wi aee func197 [] [] 7 ?_;have⟨N,e,m⟩:=gu e hm;simp[e];refine qX m c.1 λa _ m=>?_;simp[e];apply Iq e m<;>intro e m
  ·apply wg 999;exact au
  apply wg 4;simp[e];refine wj 999 3 (λf h=>h=H/\f.1 9=sI (df (cn a1.ad' 15) 7 5)/\bx f 2 (bZ.av a0).cells/\bx f 3 (Pf.av a1).cells/\bx f 4 [sI 0,sI 0,nL,nL,nL]/\bx f 7 [sI a.cd.ad',sI a.cd.b8.ad',sL Ty.av a.cd.b8.aea,sL Tm.av a.cd.cx,sL Fm.av a.cd.aea,sL sI a.eX]) (λ_ g=>?_) ?_
  ·rcases Pb (cn a1.ad' 15) e with e|e
   ·exact aj
   exact aj
  rintro _ _ E;have e:=Aj e E;simp[e];apply Iq e m<;>intro e m
  ·apply wg 999;exact au
  apply wg 7;simp[e];refine dL m jP λ_ m=>?_;simp[e];apply Iq e m<;>intro e m
  ·apply wg 999;exact au
  apply wg 7;simp[e];refine dY m k7 λJ m=>?_;have⟨K,e,m⟩:=gu e m;simp[e];refine dY m lF λ_ m=>?_;have⟨S,e,m⟩:=gu e m;simp[e];refine qX m c.1 λb _ m=>?_;simp[e];apply Iq e m<;>intro e m
  ·apply wg 999;exact au
  apply wg 4;simp[e];refine Wj m 999 1 (λy f h=>∃v124 j k v127 l,(h=H/\f.1 9=sI (df (cn a1.ad' 15) 7 5)/\bx f 4 [sI 0,sI 0,nL,nL,nL]/\bx f 7 [sI a.cd.ad',sI a.cd.b8.ad',sL Ty.av a.cd.b8.aea,sL Tm.av a.cd.cx,sL Fm.av a.cd.aea,sL sI a.eX]/\bx f 11 [sI b.cd.ad',sI b.cd.b8.ad',sL Ty.av b.cd.b8.aea,sL Tm.av b.cd.cx,sL Fm.av b.cd.aea,sL sI b.eX]/\bx f 12 [sI v124,sI j,sL Ty.av k,sL Tm.av v127,sL Fm.av l])/\y v124 j k v127 l=some r) (λy _ g m=>?_) ?_
  ·simp[e];refine dL m Ds λ_ m=>?_;apply Ir e m<;>intro e m
   ·simp[e];exact g _ _ ⟨_,_,_,_,_,aau,m⟩
   simp[e];refine k5 m Gl λ_ _ m=>?_;refine Il e m λe m=>?_;simp[e];refine dL m Ds λ_ m=>?_;refine Il e m λe m=>?_;simp[e];exact g _ _ ⟨_,_,_,_,_,aau,m⟩
  rintro _ _ ⟨v124,j,k,v127,l,E,m⟩;have e:=Aj e E;simp[e];refine Wj m 999 999 (λA f h=>∃t,(h=H/\f.1 87=sB t/\bx f 4 [sI 0,sI 0,nL,nL,nL]/\bx f 7 [sI a.cd.ad',sI a.cd.b8.ad',sL Ty.av a.cd.b8.aea,sL Tm.av a.cd.cx,sL Fm.av a.cd.aea,sL sI a.eX]/\bx f 11 [sI b.cd.ad',sI b.cd.b8.ad',sL Ty.av b.cd.b8.aea,sL Tm.av b.cd.cx,sL Fm.av b.cd.aea,sL sI b.eX]/\bx f 12 [sI v124,sI j,sL Ty.av k,sL Tm.av v127,sL Fm.av l])/\A t=some r) (λA _ g m=>?_) ?_
  ·apply Ir e m<;>intro e m
   ·exact k8
   simp[e];refine dL m Dj λ_ m=>?_;exact k8
  rintro _ _ ⟨t,E,m⟩;have e:=Aj e E;refine Il e m λe m=>?_;simp[e];refine dY m pJ λ_ m=>?_;simp[e];refine dY m m9 λ_ m=>?_;simp[e];refine dY m (jH T) λ_ m=>?_;exact au
 ·intro T H a0 a1 r hm;rw[nQ] at hm;have e:=trivial;refine wi aee func198 [] [] 999 ?_;have⟨i,e,m⟩:=gu e hm;have⟨O,e,m⟩:=gu e m;simp[e];refine dY m gS λu m=>?_;have⟨e,m⟩:=Ck e m;simp[e];refine Ad (f:=Ty.av) a0.aed [u] (iz.full (D:=[])) Ev e.2 ?_;simp[e];refine dY m rU λ_ m=>?_;refine Il e m λe m=>?_;simp[e];refine dL m nC λq m=>?_;refine Il e m λe m=>?_;have⟨B,e,m⟩:=gu e m;simp[e];refine dY m eK λC m=>?_;simp[e];refine qX m c.2.2.2.2.2.2.2.2.2.2 λ_ _ m=>?_;refine Il e m λe m=>?_;simp[e];refine dL m jP λ_ m=>?_;refine Il e m λe m=>?_;simp[e];refine dY m gS λ_ m=>?_;simp[e];refine dY m k7 λ_ m=>?_;simp[e];refine dY m lF λ_ m=>?_;have⟨U,e,m⟩:=gu e m;simp[e];refine dY m pJ λ_ m=>?_;simp[e];refine dY m gq λ_ m=>?_;simp[e];refine dY m eK λ_ m=>?_;simp[e];refine qX m c.2.2.2.2.2.2.2.2.2.2 λ_ _ m=>?_;refine Il e m λe m=>?_;simp[e];refine k5 m qc λ_ _ m=>?_;simp[e];refine dY m sU λ_ m=>?_;simp[e];refine dY m (jH T) λ_ m=>?_;simp[e];refine dY m m9 λ_ m=>?_;simp[e];refine dY m (jH T) λ_ m=>?_;exact au
 ·intro T H a0 a1 r hm;rw[l8] at hm;have e:=trivial;refine wi aee func199 [] [] 999 ?_;have⟨i,e,m⟩:=gu e hm;have⟨O,e,m⟩:=gu e m;simp[e];refine dY m mZ λu m=>?_;have⟨e,m⟩:=Ck e m;simp[e];refine Ad (f:=Ty.av) a0.aed [u] (iz.full (D:=[])) Ev e.2 ?_;simp[e];refine dY m rU λ_ m=>?_;refine Il e m λe m=>?_;simp[e];refine dL m nC λq m=>?_;refine Il e m λe m=>?_;have⟨B,e,m⟩:=gu e m;simp[e];refine dY m eK λC m=>?_;simp[e];refine qX m c.2.2.2.2.2.2.2.2.2.2 λ_ _ m=>?_;refine Il e m λe m=>?_;simp[e];refine dL m jP λ_ m=>?_;refine Il e m λe m=>?_;simp[e];refine dY m gS λ_ m=>?_;simp[e];refine dY m mZ λ_ m=>?_;simp[e];refine dY m k7 λ_ m=>?_;simp[e];refine dY m pJ λ_ m=>?_;simp[e];refine dY m lF λ_ m=>?_;have⟨V,e,m⟩:=gu e m;simp[e];refine dY m pJ λ_ m=>?_;simp[e];refine dY m gq λ_ m=>?_;simp[e];refine dY m gq λ_ m=>?_;simp[e];refine dY m eK λ_ m=>?_;simp[e];refine qX m c.2.2.2.2.2.2.2.2.2.2 λ_ _ m=>?_;refine Il e m λe m=>?_;simp[e];refine k5 m qc λ_ _ m=>?_;simp[e];refine dY m sU λ_ m=>?_;simp[e];refine dY m (jH T) λ_ m=>?_;simp[e];refine dY m m9 λ_ m=>?_;simp[e];refine dY m (jH T) λ_ m=>?_;exact au
 ·intro T H a0 a1 r hm;rw[ma] at hm;have e:=trivial;refine wi aee func201 [] [] 999 ?_;have⟨L,e,m⟩:=gu e hm;simp[e];refine dY m gS λw m=>?_;have⟨e,m⟩:=Ck e m;simp[e];refine Ad (f:=Ty.av) a0.aed [w] (iz.full (D:=[])) Ev e.2 ?_;simp[e];refine dY m rU λ_ m=>?_;refine Il e m λe m=>?_;have⟨W,e,m⟩:=gu e m;simp[e];refine qX m c.1 λ_ q m=>?_;refine Il e m λe m=>?_;refine Il e m λe m=>?_;have⟨B,e,m⟩:=gu e m;have⟨C,e,m⟩:=gu e m;simp[e];refine qX m c.2.2.2.2.2.2.2.2.2.2 λ_ _ m=>?_;refine Il e m λe m=>?_;have⟨X,e,m⟩:=gu e m;simp[e];refine qX m qc λ_ _ m=>?_;exact au
 ·intro T H a0 a1 r hm;rw[lT] at hm;have e:=trivial;refine wi aee func202 [] [] 7 ?_;have⟨N,e,m⟩:=gu e hm;simp[e];refine qX m c.1 λa _ m=>?_;simp[e];apply Iq e m<;>intro e m
  ·apply wg 999;exact au
  apply wg 3;simp[e];refine Wj m 999 999 (λF f h=>∃G,(h=H/\f.1 38=sB G/\bx f 4 [sI 0,sI 0,nL,nL,nL]/\bx f 7 [sI a.cd.ad',sI a.cd.b8.ad',sL Ty.av a.cd.b8.aea,sL Tm.av a.cd.cx,sL Fm.av a.cd.aea,sL sI a.eX])/\F G=some r) (λF _ g m=>?_) ?_
  ·apply Iq e m<;>intro e m
   ·exact k8
   have⟨Y,e,m⟩:=gu e m;exact k8
  rintro _ _ ⟨G,E,m⟩;have e:=Aj e E;refine Il e m λe m=>?_;have⟨v,e,m⟩:=gu e m;simp[e];refine dL m mJ λ_ m=>?_;simp[e];refine dL m nk λ_ m=>?_;refine Il e m λe m=>?_;have⟨Z,e,m⟩:=gu e m;simp[e];refine dL m pJ λ_ m=>?_;simp[e];refine dL m gq λ_ m=>?_;simp[e];refine dL m gq λ_ m=>?_;simp[e];refine dL m eK λ_ m=>?_;simp[e];refine k5 m qc λ_ _ m=>?_;simp[e];refine dY m pT λ_ m=>?_;simp[e];refine dY m pT λ_ m=>?_;exact au
 ·intro T H a0 a1 a2 a3 r hm;rw[dc] at hm;have e:=trivial;refine wi aee func230 [] [] 999 ?_;simp[e];refine k5 hm c.1 λ_ Q m=>?_;refine Il e m λe m=>?_;simp[e];refine k5 m qc λ_ _ m=>?_;refine Il e m λe m=>?_;simp[e];refine dY m vl λ_ m=>?_;exact au
def xT{n:Nat}:C2 prog 133 (cA n) (t2 s9.av sI) bZ.av Pf.av:=(xe n).1
def GO:C3 prog 104 kK (t2 s9.av sI) (sL Fm.av) Sq.av Pf.av:=by
 refine v3 func104 λT H a0 a1 a2 r m e=>?_;rw[kK] at m;simp[e];refine dL m Eu λ_ m=>?_;refine Il e m λe m=>?_;simp[e];refine dL m GI λ_ m=>?_;refine Il e m λe m=>?_;simp[e];refine k5 m xT λa _ m=>?_;refine Il e m λe m=>?_;simp[e];refine dY m oG λ_ m=>?_;have⟨e,m⟩:=Ck e m;simp[e];refine Ad (f:=sI) [] a.eX (iz.full (D:=[])) QW e.2 ?_;exact au
def Ep:C4 prog 64 lZ sI (sL Fm.av) Sq.av Pf.av Fm.av:=by
 refine v4 func64 λT H a0 a1 a2 a3 r m e=>?_;rw[lZ] at m;simp[e];refine k5 m GO λ_ _ m=>?_;refine Il e m λe m=>?_;simp[e];refine dL m pt λ_ m=>?_;refine Il e m λe m=>?_;simp[e];refine dL m vl λ_ m=>?_;exact au
def zO:C4 prog 19 qa sB (sL Fm.av) Sq.av Pf.av Fm.av:=by
 refine u4 4 func19 λT H a0 a1 a2 a3 r m e=>?_;rw[qa] at m;simp[e];refine dL m Ep λa m=>?_;simp[e];refine IV 999 999 (λf h=>h=H/\f.1 8=sB (df (cn a 0) true (df (cn a 4) true (df (cn a 5) true (cn a 3))))) ?_ (λ_ g=>?_)
 ·rintro _ _ E;have e:=Aj e E;exact au
 rcases Pb (cn a 0) e with e|e
 ·exact aj
 rcases Pb (cn a 4) e with e|e
 ·exact aj
 rcases Pb (cn a 5) e with e|e
 ·exact aj
 exact aj
def Mn(T:cV):∀(n:Nat),(∀{H:cc} {a0:cH} {a1:List Ty} {a2:Int} {j:Fm} {b:cH} {c:Nat} (d:H[c]?=some [sL sI a0.l,sI a0.sE]) (hm:lL n a0 a1 a2=some (j,b)),dr prog T 20 [AV.di c 0,sL Ty.av a1,sI a2] H (Fm.av j) (dx H c [sL sI b.l,sI b.sE])):=by
  intro n
  induction n with
  |zero=>
    skip
    all_goals(intro _ _;intros;rename_i hm;cases hm)
  |succ n i=>
 intro H a0 a1 a2 j b c d hm;rw[lL] at hm;have k:=eo d;refine dj.PS d ?_;have e:=k;refine wi aee func20 [] [] 2 ?_;simp[e];refine B6 hm 2 999 (λo f h=>∃v2,(h=dx H c [sL sI v2.l,sI v2.sE]/\f.1 0=AV.di c 0/\f.1 1=sL Ty.av a1/\f.1 6=AV.gx 6 (f.gen 6) 0/\f.box 6=some [sI 0,sI 0,nL,nL,nL])/\o v2=some (j,b)) ?_ (λo _ g m=>?_)
 ·rintro _ _ ⟨v2,E,m⟩;have e:=Aj e E;simp[e];refine dL m gS λ_ m=>?_;simp[e];refine qX m (ID T aau) λ_ d8 m=>?_;simp[e];refine qX m (ID T aau) λ_ d10 m=>?_;simp[e];refine dY m t_ λ_ m=>?_;exact au
 simp[e];apply Ir e m<;>intro e m
 ·apply wg 999;exact k8
 apply wg 6;simp[e];refine k5 m (ig T aau) λa d13 m=>?_;simp[e];apply Iq e m<;>intro e m
 ·apply wg 999;simp[e];refine k5 m (i aau) λ_ d15 m=>?_;simp[e];refine k5 m (i aau) λ_ d17 m=>?_;simp[e];refine dL m hR λ_ m=>?_;exact au
 apply wg 1;simp[e];refine wj 999 0 (λf h=>h=dx H c [sL sI d13.l,sI d13.sE]/\f.1 0=AV.di c 0/\f.1 1=sL Ty.av a1/\f.1 2=sI a2/\f.1 13=sI a/\f.1 27=sB (df (cn a 1) true (cn a 2))/\bx f 6 [sI 0,sI 0,nL,nL,nL]) (λ_ g=>?_) ?_
 ·rcases Pb (cn a 1) e with e|e
  ·exact aj
  exact aj
 rintro _ _ E;have e:=Aj e E;apply Iq e m<;>intro e m
 ·apply wg 999;simp[e];refine k5 m (i aau) λ_ d23 m=>?_;simp[e];refine k5 m (i aau) λ_ d25 m=>?_;simp[e];refine dL m hR λ_ m=>?_;exact au
 apply wg 1;simp[e];refine wj 999 999 (λf h=>h=dx H c [sL sI d13.l,sI d13.sE]/\f.1 0=AV.di c 0/\f.1 1=sL Ty.av a1/\f.1 2=sI a2/\f.1 13=sI a/\f.1 41=sB (df (cn a 3) true (cn a 4))/\bx f 6 [sI 0,sI 0,nL,nL,nL]) (λ_ g=>?_) ?_
 ·rcases Pb (cn a 3) e with e|e
  ·exact aj
  exact aj
 rintro _ _ E;have e:=Aj e E;apply Iq e m<;>intro e m
 ·simp[e];refine k5 m (s6 T aau) λ_ d31 m=>?_;simp[e];refine dY m pS λ_ m=>?_;simp[e];refine qX m (i aau) λ_ d34 m=>?_;simp[e];refine dY m pT λ_ m=>?_;exact au
 apply Ir e m<;>intro e m
 ·exact k8
 simp[e];refine k5 m (s6 T aau) λ_ d37 m=>?_;simp[e];refine dY m pS λ_ m=>?_;simp[e];refine qX m (i aau) λ_ d40 m=>?_;simp[e];refine dY m pT λ_ m=>?_;exact au
def Is(T:cV){H:cc}{a0:cH}{a1:List Ty}{a2:Int}{d:Fm}{a:cH}{b:Nat}(c:H[b]?=some [sL sI a0.l,sI a0.sE]){n:Nat}(hm:lL n a0 a1 a2=some (d,a)):dr prog T 20 [AV.di b 0,sL Ty.av a1,sI a2] H (Fm.av d) (dx H b [sL sI a.l,sI a.sE]):=(Mn T n) c hm
def zU:C0 prog 22 ot Fm.av:=by
 refine v0 func22 λT H r m e=>?_;rw[ot] at m;simp[e];refine dL m eK λ_ m=>?_;simp[e];refine dL m eK λ_ m=>?_;simp[e];refine dL m eK λ_ m=>?_;simp[e];refine dL m t_ λ_ m=>?_;exact au
@[simp] theorem adx:dE prog 20=some (false,1):=by kernel_rfl
def P9(v:AV):∃a,nN prog 38 (.iface 35 v)=some (.tuple [a,.sc (.bool false)]):=by
 have b:zeroOf prog 38=some (.agg #[.int .i64 0,.int .i64 0,.int .i64 0,.slice none 0 0,.slice none 0 0]):=by kernel_rfl
 unfold nN;rw[underlying38];refine⟨ofValue (.agg #[.int .i64 0,.int .i64 0,.int .i64 0,.slice none 0 0,.slice none 0 0]),?_⟩;show(if(35:Nat)=38 then _ else match zeroOf prog 38 with|some z=>if rL z then _ else none|none=>none)=_;rw[bV aaq,b];simp only;rw[bX (by kernel_rfl)]
def MB(v:AV):∃a,nN prog 38 (.iface 49 v)=some (.tuple [a,.sc (.bool false)]):=by
 have b:zeroOf prog 38=some (.agg #[.int .i64 0,.int .i64 0,.int .i64 0,.slice none 0 0,.slice none 0 0]):=by kernel_rfl
 unfold nN;rw[underlying38];refine⟨ofValue (.agg #[.int .i64 0,.int .i64 0,.int .i64 0,.slice none 0 0,.slice none 0 0]),?_⟩;show(if(49:Nat)=38 then _ else match zeroOf prog 38 with|some z=>if rL z then _ else none|none=>none)=_;rw[bV aaq,b];simp only;rw[bX (by kernel_rfl)]
def MX(v:AV):∃a,nN prog 35 (.iface 49 v)=some (.tuple [a,.sc (.bool false)]):=by
 have b:zeroOf prog 35=some (.agg #[.int .i64 0,.int .i64 0,.slice none 0 0,.slice none 0 0,.slice none 0 0]):=by kernel_rfl
 unfold nN;rw[underlying35];refine⟨ofValue (.agg #[.int .i64 0,.int .i64 0,.slice none 0 0,.slice none 0 0,.slice none 0 0]),?_⟩;show(if(49:Nat)=35 then _ else match zeroOf prog 35 with|some z=>if rL z then _ else none|none=>none)=_;rw[bV aaq,b];simp only;rw[bX (by kernel_rfl)]
def NW(v:AV):nN prog 35 (.iface 35 v)=some (.tuple [v,.sc (.bool true)]):=by
 unfold nN;rw[underlying35];rfl
def Kw(v:AV):nN prog 49 (.iface 49 v)=some (.tuple [v,.sc (.bool true)]):=by
 unfold nN;rw[underlying49];rfl
def DV(T:cV)(b:mA T){H:cc}{a0:Fm}{a1:Pf}{r:Int}(hm:rJ a0 a1=some r):dr prog T 113 [AV.slice .gY [AV.iface 35 (Fm.av a0),AV.iface 49 (Pf.av a1)]] H (sI r) H:=by
 rw[rJ] at hm;have⟨x,s,m⟩:=cE hm;have⟨t,c⟩:=P9 (Fm.av a0);have⟨z2,d⟩:=MB (Pf.av a1);have⟨z3,g⟩:=MX (Pf.av a1);have e:=Aj (Aj (Aj (Aj (Aj (Aj b c) d) g) (NW (Fm.av a0))) (Kw (Pf.av a1))) (show sg (0:Int) 2=true/\sg (1:Int) 2=true/\c8 .i64 0 1=1/\c8 .i64 1 1=2 from⟨rfl,rfl,by kernel_rfl,by kernel_rfl⟩);refine wi aee func113 [] [] 999 ?_;simp[e];refine wl 999 (λn f h=>h=H/\f.1 9=AV.slice .gY [AV.iface 35 (Fm.av a0),AV.iface 49 (Pf.av a1)]/\f.1 10=sI 2/\(n=2/\f.1 11=sI 0\/n=1/\f.1 11=sI 1/\x=0\/n=0/\f.1 11=sI 2/\r=0)) 2 aau ?_;rintro n f h ⟨i,j,k,⟨rfl,a⟩|⟨rfl,a,rfl⟩|⟨rfl,a,rfl⟩⟩ K q
 ·have e:=Aj (Aj (Aj (Aj e i) j) k) a;simp[e];refine Cf (lq T b s) ?_;rcases Io e m with⟨e,m⟩|⟨e,m⟩
  ·cases m;simp[e]
  ·have l:x=0:=by simpa[cF] using e.2
   subst l;simp[e];exact q _ _ 1 VW ⟨aau,aau,aau,.inr (.inl ⟨rfl,aau,rfl⟩)⟩
 ·have e:=Aj (Aj (Aj (Aj e i) j) k) a;rw[bV aaq] at m;have⟨y,hy,m⟩:=cE m;cases m;simp[e];refine Cf (ve T b hy) ?_;cases o:cF r 0 with
  |true=>
   have e:=Aj e o;simp[e]
  |false=>
   have p:r=0:=by simpa[cF] using o
   subst p;have e:=Aj e o;simp[e];exact q _ _ 0 VW ⟨aau,aau,aau,.inr (.inr ⟨rfl,aau,rfl⟩)⟩
 ·have e:=Aj (Aj (Aj (Aj e i) j) k) a;simp[e]
def z6:C2 prog 168 uA Pf.av sI (sL Pf.av):=by
 refine v2 func168 λT H a0 a1 r m e=>?_;rw[uA] at m;exact au
def zS:C2 prog 142 sl Pf.av Fm.av Pf.av:=by
 refine v2 func142 λT H a0 a1 r m e=>?_;rw[sl] at m;have e:=Aj e (show AV.agg [sI 6,sI 0,sI 0,AV.slice .gY [],AV.slice .gY [],AV.slice .gY [Fm.av a0],AV.slice .gY [Pf.av a1]]=Pf.av (Pf.mk 6 0 (Ty.mk 0 []) [] [a0] [a1]) by rw[Pf.eH];rfl);exact au
def HK:C2 prog 169 yw Pf.av Ty.av Pf.av:=by
 refine v2 func169 λT H a0 a1 r m e=>?_;rw[yw] at m;have e:=Aj e (show AV.agg [sI 8,sI 0,sI a0.ad',sL Ty.av a0.aea,AV.slice .gY [],AV.slice .gY [],AV.slice .gY [Pf.av a1]]=Pf.av (Pf.mk 8 0 a0 [] [] [a1]) by rw[Pf.eH];rfl);exact au
def HE:C1 prog 209 jV sI Ty.av:=by
 refine v1 func209 λT H a0 r m e=>?_;rw[jV] at m;simp[e];refine k5 m oT λ_ _ m=>?_;exact au
def Ag{n:Nat}:C1 prog 210 (e_ n) Tm.av Ty.av:=by
 refine i1 λn a=>v1 func210 λT H a0 r m e=>?_;rw[e_] at m;apply Iq e m<;>intro e m
 ·simp[e];refine dL m q_ λ_ m=>?_;exact au
 apply Iq e m<;>intro e m
 ·simp[e];refine dL m q_ λ_ m=>?_;exact au
 apply Iq e m<;>intro e m
 ·have⟨c,e,m⟩:=gu e m;simp[e];refine dY m a λ_ m=>?_;have⟨d,e,m⟩:=gu e m;simp[e];refine dY m a λ_ m=>?_;simp[e];refine dY m q_ λ_ m=>?_;exact au
 apply Ir e m<;>intro e m
 ·simp[e];refine dL m q_ λ_ m=>?_;exact au
 have⟨f,e,m⟩:=gu e m;simp[e];refine dY m a λ_ m=>?_;have⟨b,e,m⟩:=gu e m;simp[e];refine dY m n7 λ_ m=>?_;simp[e];refine dY m Gd λ_ m=>?_;exact au
def D8:C1 prog 170 pA (t2 Tm.av sI) Ty.av:=by
 refine v1 func170 λT H a0 r m e=>?_;rw[pA] at m;simp[e];refine dL m HE λ_ m=>?_;refine Il e m λe m=>?_;simp[e];refine dL m Ag λ_ m=>?_;exact au
def E1(T:cV)(a:mA T){H:cc}{a0:Fm}{b c:Int}(hm:sQ a0=some (b,c)):dr prog T 211 [Fm.av a0] H (AV.tuple [sI b,sI c]) H:=by
 rw[sQ] at hm;have e:=a;refine wi aee func211 [] [] 999 ?_;simp[e];refine k5 hm (hH T a) λ_ _ m=>?_;exact au
def JE(T:cV)(a:mA T){H:cc}{a0:Tm}{b c:Int}(hm:wU a0=some (b,c)):dr prog T 212 [Tm.av a0] H (AV.tuple [sI b,sI c]) H:=by
 rw[wU] at hm;have e:=a;refine wi aee func212 [] [] 999 ?_;simp[e];refine k5 hm (v7 T a) λ_ _ m=>?_;exact au
def xR(T:cV){H:cc}{a0:Tm}{a1 a b c:Int}{q0 q1:Nat}(d:H[q0]?=some [sI a])(f:H[q1]?=some [sI b])(h:q0≠q1)(hm:g_ a0 a1 a b=some c):dr prog T 236 [Tm.av a0,sI a1,AV.di q0 0,AV.di q1 0] H (AV.tuple []) (dx H q0 [sI c]):=by
 rw[g_] at hm;have i:=eo d;have j:=eo f;refine dj.PS d ?_;have e:=Aj (Aj (Aj (Aj i j) f) h) h.symm;refine wi aee func236 [] [(1,true,[true,true,true,true,true,true,true,false])] 999 ?_;simp[e];refine dY hm (I1 T) λ_ m=>?_;exact au
end Go.Proofs.YtffcgfpaakhbjaaGreatDoor
