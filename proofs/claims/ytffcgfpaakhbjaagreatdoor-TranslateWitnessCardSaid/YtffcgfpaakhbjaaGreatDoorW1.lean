/- Part of the proof of TranslateWitness: walks. -/
import Derived.Test.YtffcgfpaakhbjaaGreatDoorProg
import Derived.Test.YtffcgfpaakhbjaaGreatDoorChecked
import Derived.WalkKit
import Derived.Laws.Bits64b
import Derived.BigCall
import Derived.Test.YtffcgfpaakhbjaaGreatDoorG1
import Derived.Test.YtffcgfpaakhbjaaGreatDoorL18
set_option linter.all false
namespace Go.Proofs.YtffcgfpaakhbjaaGreatDoor
open Go Go.jX Go.dF Tryz
def acM:prog.follows .mixedOrders=true:=by kernel_rfl
instance:Nonempty (prog.follows .mixedOrders=true):=⟨acM⟩
end Go.Proofs.YtffcgfpaakhbjaaGreatDoor
namespace Go.dF
open Go Go.jX
mutual
def Ty.av:Ty->AV
 |.mk acH acI=>.agg [sI acH,AV.slice .ja (Ty.Is acI)]
def Ty.Is:List Ty->List AV
 |[]=>[]|x::l=>x.av::Ty.Is l
end
def Ty.zI(l:List Ty):Ty.Is l=l.map Ty.av:=by
 induction l with
 |nil=>rfl|cons x l a=>simp[Ty.Is,a]
def Ty.ez(acH:Int)(acI:List Ty):(Ty.mk acH acI).av=.agg [sI acH,sL Ty.av acI]:=by rw[Ty.av];simp only[Ty.zI]
mutual
@[simp] theorem Ty.sV(k:Nat):∀x:Ty,x.av.low k=true
 |.mk acH acI=>by rw[Ty.ez];simp[AV.low,AV.gD,Ty.n5 k acI]
@[simp] theorem Ty.n5(k:Nat):∀l:List Ty,AV.gD k (l.map Ty.av)=true
 |[]=>rfl|x::l=>by simp[AV.gD,Ty.sV k x,Ty.n5 k l]
end
def Ty.eU(x:Ty):x.av=.agg [sI x.acH,sL Ty.av x.acI]:=by cases x;exact Ty.ez _ _
@[simp] theorem Ty.iX(x:Ty):x.av.cells=[sI x.acH,sL Ty.av x.acI]:=by rw[Ty.eU];rfl
@[simp] theorem Ty.uW(x:Ty):dj x.av=true:=by rw[Ty.eU];rfl
@[simp] theorem Ty.ra(x:Ty):x.av.norm=x.av:=by rw[Ty.eU];rfl
@[simp] theorem Ty.ZE(a:Int)(b:List Ty):AV.agg [sI a,sL Ty.av b]=Ty.av (Ty.mk a b):=by rw[Ty.ez]<;>rfl
@[simp] theorem Ty.abd(a:Int):AV.agg [sI a,AV.slice .ja []]=Ty.av (Ty.mk a []):=by rw[Ty.ez]<;>rfl
mutual
def Tm.av:Tm->AV
 |.mk acH acK b7 acI=>.agg [sI acH,sI acK,sI b7.acH,sL Ty.av b7.acI,AV.slice .ja (Tm.Is acI)]
def Tm.Is:List Tm->List AV
 |[]=>[]|x::l=>x.av::Tm.Is l
end
def Tm.zI(l:List Tm):Tm.Is l=l.map Tm.av:=by
 induction l with
 |nil=>rfl|cons x l a=>simp[Tm.Is,a]
def Tm.ez(acH acK:Int)(b7:Ty)(acI:List Tm):(Tm.mk acH acK b7 acI).av=.agg [sI acH,sI acK,sI b7.acH,sL Ty.av b7.acI,sL Tm.av acI]:=by rw[Tm.av];simp only[Tm.zI]
mutual
@[simp] theorem Tm.sV(k:Nat):∀x:Tm,x.av.low k=true
 |.mk acH acK b7 acI=>by rw[Tm.ez];simp[AV.low,AV.gD,Tm.n5 k acI]
@[simp] theorem Tm.n5(k:Nat):∀l:List Tm,AV.gD k (l.map Tm.av)=true
 |[]=>rfl|x::l=>by simp[AV.gD,Tm.sV k x,Tm.n5 k l]
end
def Tm.eU(x:Tm):x.av=.agg [sI x.acH,sI x.acK,sI x.b7.acH,sL Ty.av x.b7.acI,sL Tm.av x.acI]:=by cases x;exact Tm.ez _ _ _ _
@[simp] theorem Tm.iX(x:Tm):x.av.cells=[sI x.acH,sI x.acK,sI x.b7.acH,sL Ty.av x.b7.acI,sL Tm.av x.acI]:=by rw[Tm.eU];rfl
@[simp] theorem Tm.uW(x:Tm):dj x.av=true:=by rw[Tm.eU];rfl
@[simp] theorem Tm.ra(x:Tm):x.av.norm=x.av:=by rw[Tm.eU];rfl
@[simp] theorem Tm.Yh(a b c:Int)(c3:List Ty)(d:List Tm):AV.agg [sI a,sI b,sI c,sL Ty.av c3,sL Tm.av d]=Tm.av (Tm.mk a b (Ty.mk c c3) d):=by rw[Tm.ez]<;>rfl
@[simp] theorem Tm.abX(a b c:Int)(d:List Tm):AV.agg [sI a,sI b,sI c,AV.slice .ja [],sL Tm.av d]=Tm.av (Tm.mk a b (Ty.mk c []) d):=by rw[Tm.ez]<;>rfl
@[simp] theorem Tm.abI(a b c:Int):AV.agg [sI a,sI b,sI c,AV.slice .ja [],AV.slice .ja []]=Tm.av (Tm.mk a b (Ty.mk c []) []):=by rw[Tm.ez]<;>rfl
mutual
def Fm.av:Fm->AV
 |.mk acH b7 cv acI=>.agg [sI acH,sI b7.acH,sL Ty.av b7.acI,sL Tm.av cv,AV.slice .ja (Fm.Is acI)]
def Fm.Is:List Fm->List AV
 |[]=>[]|x::l=>x.av::Fm.Is l
end
def Fm.zI(l:List Fm):Fm.Is l=l.map Fm.av:=by
 induction l with
 |nil=>rfl|cons x l a=>simp[Fm.Is,a]
def Fm.ez(acH:Int)(b7:Ty)(cv:List Tm)(acI:List Fm):(Fm.mk acH b7 cv acI).av=.agg [sI acH,sI b7.acH,sL Ty.av b7.acI,sL Tm.av cv,sL Fm.av acI]:=by rw[Fm.av];simp only[Fm.zI]
mutual
@[simp] theorem Fm.sV(k:Nat):∀x:Fm,x.av.low k=true
 |.mk acH b7 cv acI=>by rw[Fm.ez];simp[AV.low,AV.gD,Fm.n5 k acI]
@[simp] theorem Fm.n5(k:Nat):∀l:List Fm,AV.gD k (l.map Fm.av)=true
 |[]=>rfl|x::l=>by simp[AV.gD,Fm.sV k x,Fm.n5 k l]
end
def Fm.eU(x:Fm):x.av=.agg [sI x.acH,sI x.b7.acH,sL Ty.av x.b7.acI,sL Tm.av x.cv,sL Fm.av x.acI]:=by cases x;exact Fm.ez _ _ _ _
@[simp] theorem Fm.iX(x:Fm):x.av.cells=[sI x.acH,sI x.b7.acH,sL Ty.av x.b7.acI,sL Tm.av x.cv,sL Fm.av x.acI]:=by rw[Fm.eU];rfl
@[simp] theorem Fm.uW(x:Fm):dj x.av=true:=by rw[Fm.eU];rfl
@[simp] theorem Fm.ra(x:Fm):x.av.norm=x.av:=by rw[Fm.eU];rfl
@[simp] theorem Fm.Wp(a b:Int)(c:List Ty)(c3:List Tm)(d:List Fm):AV.agg [sI a,sI b,sL Ty.av c,sL Tm.av c3,sL Fm.av d]=Fm.av (Fm.mk a (Ty.mk b c) c3 d):=by rw[Fm.ez]<;>rfl
@[simp] theorem Fm.abu(a b:Int)(c:List Fm):AV.agg [sI a,sI b,AV.slice .ja [],AV.slice .ja [],sL Fm.av c]=Fm.av (Fm.mk a (Ty.mk b []) [] c):=by rw[Fm.ez]<;>rfl
@[simp] theorem Fm.aby(a b:Int):AV.agg [sI a,sI b,AV.slice .ja [],AV.slice .ja [],AV.slice .ja []]=Fm.av (Fm.mk a (Ty.mk b []) [] []):=by rw[Fm.ez]<;>rfl
mutual
def Pf.av:Pf->AV
 |.mk acH acK b7 cv dw acI=>.agg [sI acH,sI acK,sI b7.acH,sL Ty.av b7.acI,sL Tm.av cv,sL Fm.av dw,AV.slice .ja (Pf.Is acI)]
def Pf.Is:List Pf->List AV
 |[]=>[]|x::l=>x.av::Pf.Is l
end
def Pf.zI(l:List Pf):Pf.Is l=l.map Pf.av:=by
 induction l with
 |nil=>rfl|cons x l a=>simp[Pf.Is,a]
def Pf.ez(acH acK:Int)(b7:Ty)(cv:List Tm)(dw:List Fm)(acI:List Pf):(Pf.mk acH acK b7 cv dw acI).av=.agg [sI acH,sI acK,sI b7.acH,sL Ty.av b7.acI,sL Tm.av cv,sL Fm.av dw,sL Pf.av acI]:=by rw[Pf.av];simp only[Pf.zI]
mutual
@[simp] theorem Pf.sV(k:Nat):∀x:Pf,x.av.low k=true
 |.mk acH acK b7 cv dw acI=>by rw[Pf.ez];simp[AV.low,AV.gD,Pf.n5 k acI]
@[simp] theorem Pf.n5(k:Nat):∀l:List Pf,AV.gD k (l.map Pf.av)=true
 |[]=>rfl|x::l=>by simp[AV.gD,Pf.sV k x,Pf.n5 k l]
end
def Pf.eU(x:Pf):x.av=.agg [sI x.acH,sI x.acK,sI x.b7.acH,sL Ty.av x.b7.acI,sL Tm.av x.cv,sL Fm.av x.dw,sL Pf.av x.acI]:=by cases x;exact Pf.ez _ _ _ _ _ _
@[simp] theorem Pf.iX(x:Pf):x.av.cells=[sI x.acH,sI x.acK,sI x.b7.acH,sL Ty.av x.b7.acI,sL Tm.av x.cv,sL Fm.av x.dw,sL Pf.av x.acI]:=by rw[Pf.eU];rfl
@[simp] theorem Pf.uW(x:Pf):dj x.av=true:=by rw[Pf.eU];rfl
@[simp] theorem Pf.ra(x:Pf):x.av.norm=x.av:=by rw[Pf.eU];rfl
@[simp] theorem Pf.SV(a b c:Int)(c3:List Ty)(d:List Tm)(c5:List Fm)(e:List Pf):AV.agg [sI a,sI b,sI c,sL Ty.av c3,sL Tm.av d,sL Fm.av c5,sL Pf.av e]=Pf.av (Pf.mk a b (Ty.mk c c3) d c5 e):=by rw[Pf.ez]<;>rfl
@[simp] theorem Pf.aas(a b c:Int)(d:List Pf):AV.agg [sI a,sI b,sI c,AV.slice .ja [],AV.slice .ja [],AV.slice .ja [],sL Pf.av d]=Pf.av (Pf.mk a b (Ty.mk c []) [] [] d):=by rw[Pf.ez]<;>rfl
@[simp] theorem Pf.Tl(a b c:Int):AV.agg [sI a,sI b,sI c,AV.slice .ja [],AV.slice .ja [],AV.slice .ja [],AV.slice .ja []]=Pf.av (Pf.mk a b (Ty.mk c []) [] [] []):=by rw[Pf.ez]<;>rfl
def Sq.av(x:Sq):AV:=.agg [sL Ty.av x.acL,sL Fm.av x.acO]
def Sq.ez(acL:List Ty)(acO:List Fm):(Sq.mk acL acO).av=.agg [sL Ty.av acL,sL Fm.av acO]:=rfl
def Sq.eU(x:Sq):x.av=.agg [sL Ty.av x.acL,sL Fm.av x.acO]:=by cases x;exact Sq.ez _ _
@[simp] theorem Sq.iX(x:Sq):x.av.cells=[sL Ty.av x.acL,sL Fm.av x.acO]:=by rw[Sq.eU];rfl
@[simp] theorem Sq.uW(x:Sq):dj x.av=true:=by rw[Sq.eU];rfl
@[simp] theorem Sq.ra(x:Sq):x.av.norm=x.av:=by rw[Sq.eU];rfl
@[simp] theorem Sq.Yh(a:List Ty)(b:List Fm):AV.agg [sL Ty.av a,sL Fm.av b]=Sq.av (Sq.mk a b):=by rw[Sq.ez]<;>rfl
def cH.av(x:cH):AV:=.agg [AV.slice .ja (List.map (λn=>AV.sc (Value.int .i64 n)) x.l),sI x.ua]
def cH.ez(l:List Int)(ua:Int):(cH.mk l ua).av=.agg [AV.slice .ja (List.map (λn=>AV.sc (Value.int .i64 n)) l),sI ua]:=rfl
def cH.eU(x:cH):x.av=.agg [AV.slice .ja (List.map (λn=>AV.sc (Value.int .i64 n)) x.l),sI x.ua]:=by cases x;exact cH.ez _ _
@[simp] theorem cH.iX(x:cH):x.av.cells=[AV.slice .ja (List.map (λn=>AV.sc (Value.int .i64 n)) x.l),sI x.ua]:=by rw[cH.eU];rfl
@[simp] theorem cH.uW(x:cH):dj x.av=true:=by rw[cH.eU];rfl
@[simp] theorem cH.ZE(a:List Int)(b:Int):AV.agg [AV.slice .ja (List.map (λn=>AV.sc (Value.int .i64 n)) a),sI b]=cH.av (cH.mk a b):=by rw[cH.ez]<;>rfl
def cz.av(x:cz):AV:=.agg [sL Fm.av x.answers,sI x.room]
def cz.ez(answers:List Fm)(room:Int):(cz.mk answers room).av=.agg [sL Fm.av answers,sI room]:=rfl
@[simp] theorem cz.sV(k:Nat)(x:cz):x.av.low k=true:=by
 cases x;rw[cz.ez];simp[AV.low,AV.gD]
@[simp] theorem cz.n5(k:Nat)(l:List cz):AV.gD k (l.map cz.av)=true:=by
 rw[AV.rA];intro x a;obtain⟨y,_,rfl⟩:=kI.1 a;exact cz.sV k y
def cz.eU(x:cz):x.av=.agg [sL Fm.av x.answers,sI x.room]:=by cases x;exact cz.ez _ _
@[simp] theorem cz.iX(x:cz):x.av.cells=[sL Fm.av x.answers,sI x.room]:=by rw[cz.eU];rfl
@[simp] theorem cz.uW(x:cz):dj x.av=true:=by rw[cz.eU];rfl
@[simp] theorem cz.ra(x:cz):x.av.norm=x.av:=by rw[cz.eU];rfl
@[simp] theorem cz.ZE(a:List Fm)(b:Int):AV.agg [sL Fm.av a,sI b]=cz.av (cz.mk a b):=by rw[cz.ez]<;>rfl
@[simp] theorem cz.abd(a:Int):AV.agg [AV.slice .ja [],sI a]=cz.av (cz.mk [] a):=by rw[cz.ez]<;>rfl
def sh.av(x:sh):AV:=.agg [sI x.cf.acH,sI x.cf.b7.acH,sL Ty.av x.cf.b7.acI,sL Tm.av x.cf.cv,sL Fm.av x.cf.acI,AV.slice .ja (List.map (λn=>AV.sc (Value.int .i64 n)) x.eD)]
def sh.ez(cf:Fm)(eD:List Int):(sh.mk cf eD).av=.agg [sI cf.acH,sI cf.b7.acH,sL Ty.av cf.b7.acI,sL Tm.av cf.cv,sL Fm.av cf.acI,AV.slice .ja (List.map (λn=>AV.sc (Value.int .i64 n)) eD)]:=rfl
def sh.eU(x:sh):x.av=.agg [sI x.cf.acH,sI x.cf.b7.acH,sL Ty.av x.cf.b7.acI,sL Tm.av x.cf.cv,sL Fm.av x.cf.acI,AV.slice .ja (List.map (λn=>AV.sc (Value.int .i64 n)) x.eD)]:=by cases x;exact sh.ez _ _
@[simp] theorem sh.iX(x:sh):x.av.cells=[sI x.cf.acH,sI x.cf.b7.acH,sL Ty.av x.cf.b7.acI,sL Tm.av x.cf.cv,sL Fm.av x.cf.acI,AV.slice .ja (List.map (λn=>AV.sc (Value.int .i64 n)) x.eD)]:=by rw[sh.eU];rfl
@[simp] theorem sh.uW(x:sh):dj x.av=true:=by rw[sh.eU];rfl
@[simp] theorem sh.SV(a b:Int)(c:List Ty)(c3:List Tm)(d:List Fm)(c5:List Int):AV.agg [sI a,sI b,sL Ty.av c,sL Tm.av c3,sL Fm.av d,AV.slice .ja (List.map (λn=>AV.sc (Value.int .i64 n)) c5)]=sh.av (sh.mk (Fm.mk a (Ty.mk b c) c3 d) c5):=by rw[sh.ez]<;>rfl
@[simp] theorem sh.Tl(a b:Int):AV.agg [sI a,sI b,AV.slice .ja [],AV.slice .ja [],AV.slice .ja [],AV.slice .ja []]=sh.av (sh.mk (Fm.mk a (Ty.mk b []) [] []) []):=by rw[sh.ez]<;>rfl
def cb.av(x:cb):AV:=.agg [sI x.acJ,sB x.fI]
def cb.ez(acJ:Int)(fI:Bool):(cb.mk acJ fI).av=.agg [sI acJ,sB fI]:=rfl
def cb.eU(x:cb):x.av=.agg [sI x.acJ,sB x.fI]:=by cases x;exact cb.ez _ _
@[simp] theorem cb.iX(x:cb):x.av.cells=[sI x.acJ,sB x.fI]:=by rw[cb.eU];rfl
@[simp] theorem cb.uW(x:cb):dj x.av=true:=by rw[cb.eU];rfl
@[simp] theorem cb.agg(a:Int)(b:Bool):AV.agg [sI a,sB b]=cb.av (cb.mk a b):=by rw[cb.ez]<;>rfl
def c8.av(x:c8):AV:=.agg [sI x.vars,sI x.acO]
def c8.ez(vars acO:Int):(c8.mk vars acO).av=.agg [sI vars,sI acO]:=rfl
def c8.eU(x:c8):x.av=.agg [sI x.vars,sI x.acO]:=by cases x;exact c8.ez _ _
@[simp] theorem c8.iX(x:c8):x.av.cells=[sI x.vars,sI x.acO]:=by rw[c8.eU];rfl
@[simp] theorem c8.uW(x:c8):dj x.av=true:=by rw[c8.eU];rfl
@[simp] theorem c8.ra(x:c8):x.av.norm=x.av:=by rw[c8.eU];rfl
@[simp] theorem c8.agg(a b:Int):AV.agg [sI a,sI b]=c8.av (c8.mk a b):=by rw[c8.ez]<;>rfl
def bZ.av(x:bZ):AV:=.agg [sL Fm.av x.lemmas,sL Ty.av x.acL,sL Fm.av x.acO]
def bZ.ez(lemmas:List Fm)(acL:List Ty)(acO:List Fm):(bZ.mk lemmas acL acO).av=.agg [sL Fm.av lemmas,sL Ty.av acL,sL Fm.av acO]:=rfl
def bZ.eU(x:bZ):x.av=.agg [sL Fm.av x.lemmas,sL Ty.av x.acL,sL Fm.av x.acO]:=by cases x;exact bZ.ez _ _ _
@[simp] theorem bZ.iX(x:bZ):x.av.cells=[sL Fm.av x.lemmas,sL Ty.av x.acL,sL Fm.av x.acO]:=by rw[bZ.eU];rfl
@[simp] theorem bZ.uW(x:bZ):dj x.av=true:=by rw[bZ.eU];rfl
@[simp] theorem bZ.ra(x:bZ):x.av.norm=x.av:=by rw[bZ.eU];rfl
@[simp] theorem bZ.Wp(a:List Fm)(b:List Ty)(c:List Fm):AV.agg [sL Fm.av a,sL Ty.av b,sL Fm.av c]=bZ.av (bZ.mk a b c):=by rw[bZ.ez]<;>rfl
def cP.av(x:cP):AV:=.agg [sI x.room]
def cP.ez(room:Int):(cP.mk room).av=.agg [sI room]:=rfl
@[simp] theorem cP.sV(k:Nat)(x:cP):x.av.low k=true:=by
 cases x;rw[cP.ez];simp[AV.low,AV.gD]
@[simp] theorem cP.n5(k:Nat)(l:List cP):AV.gD k (l.map cP.av)=true:=by
 rw[AV.rA];intro x a;obtain⟨y,_,rfl⟩:=kI.1 a;exact cP.sV k y
def cP.eU(x:cP):x.av=.agg [sI x.room]:=by cases x;exact cP.ez _
@[simp] theorem cP.iX(x:cP):x.av.cells=[sI x.room]:=by rw[cP.eU];rfl
@[simp] theorem cP.uW(x:cP):dj x.av=true:=by rw[cP.eU];rfl
@[simp] theorem cP.ra(x:cP):x.av.norm=x.av:=by rw[cP.eU];rfl
@[simp] theorem cP.agg(a:Int):AV.agg [sI a]=cP.av (cP.mk a):=by rw[cP.ez]<;>rfl
def c9.av(x:c9):AV:=.agg [sB x.acK,sB x.typed,sI x.cv,sI x.dw,sI x.acI,sI x.ri,sI x.vars,sI x.acO]
def c9.ez(acK typed:Bool)(cv dw acI ri vars acO:Int):(c9.mk acK typed cv dw acI ri vars acO).av=.agg [sB acK,sB typed,sI cv,sI dw,sI acI,sI ri,sI vars,sI acO]:=rfl
def c9.eU(x:c9):x.av=.agg [sB x.acK,sB x.typed,sI x.cv,sI x.dw,sI x.acI,sI x.ri,sI x.vars,sI x.acO]:=by cases x;exact c9.ez _ _ _ _ _ _ _ _
@[simp] theorem c9.iX(x:c9):x.av.cells=[sB x.acK,sB x.typed,sI x.cv,sI x.dw,sI x.acI,sI x.ri,sI x.vars,sI x.acO]:=by rw[c9.eU];rfl
@[simp] theorem c9.uW(x:c9):dj x.av=true:=by rw[c9.eU];rfl
@[simp] theorem c9.ra(x:c9):x.av.norm=x.av:=by rw[c9.eU];rfl
@[simp] theorem c9.agg(a b:Bool)(c c3 d c5 e f:Int):AV.agg [sB a,sB b,sI c,sI c3,sI d,sI c5,sI e,sI f]=c9.av (c9.mk a b c c3 d c5 e f):=by rw[c9.ez]<;>rfl
def db.av(x:db):AV:=.agg [sI x.cv,sI x.dw,sI x.acI,sB x.acK,sB x.xX]
def db.ez(cv dw acI:Int)(acK xX:Bool):(db.mk cv dw acI acK xX).av=.agg [sI cv,sI dw,sI acI,sB acK,sB xX]:=rfl
def db.eU(x:db):x.av=.agg [sI x.cv,sI x.dw,sI x.acI,sB x.acK,sB x.xX]:=by cases x;exact db.ez _ _ _ _ _
@[simp] theorem db.iX(x:db):x.av.cells=[sI x.cv,sI x.dw,sI x.acI,sB x.acK,sB x.xX]:=by rw[db.eU];rfl
@[simp] theorem db.uW(x:db):dj x.av=true:=by rw[db.eU];rfl
@[simp] theorem db.ra(x:db):x.av.norm=x.av:=by rw[db.eU];rfl
@[simp] theorem db.agg(a b c:Int)(c3 d:Bool):AV.agg [sI a,sI b,sI c,sB c3,sB d]=db.av (db.mk a b c c3 d):=by rw[db.ez]<;>rfl
end Go.dF
namespace Go.Proofs.YtffcgfpaakhbjaaGreatDoor
open Go Go.jX Go.dF Tryz
@[simp] theorem Te:dL prog 3=some (false,1):=by kernel_rfl
@[simp] theorem Ua:fV prog 3=some [.sc (.int .i64 0)]:=by kernel_rfl
@[simp] theorem U9:prog.underlying 3=some (.int .i64):=by kernel_rfl
@[simp] theorem acn:dL prog 4=some (false,1)/\fV prog 4=some [.sc (.bool false)]/\prog.underlying 4=some .bool/\dL prog 22=some (false,1)/\fV prog 22=some [.slice .full []]/\prog.underlying 22=some (.slice 3)/\dL prog 27=some (false,1)/\fV prog 27=some [.slice .full []]/\o0 prog 30=some [.sc (.int .i64 0),.slice .full []]/\fV prog 30=some [.sc (.int .i64 0),.slice .full []]:=by and_intros<;>kernel_rfl
@[simp] theorem Ry:ng prog 22=some (3,1):=by kernel_rfl
@[simp] theorem AO:ng prog 27=some (30,2):=by kernel_rfl
@[simp] theorem YR:prog.underlying 27=some (.slice 30):=by kernel_rfl
@[simp] theorem T3:dL prog 30=some (true,2):=by kernel_rfl
@[simp] theorem XE:dA prog 30 0=some (0,3)/\ew prog 30 0=some (0,1)/\dA prog 30 1=some (1,27)/\ew prog 30 1=some (1,1)/\dL prog 32=some (false,1)/\fV prog 32=some [.slice .full []]/\prog.underlying 32=some (.slice 38)/\dL prog 33=some (false,1)/\fV prog 33=some [.slice .full []]/\o0 prog 35=some [.sc (.int .i64 0),.sc (.int .i64 0),.slice .full [],.slice .full [],.slice .full []]:=by and_intros<;>kernel_rfl
@[simp] theorem Ty.XM(x:Ty):tM prog 30 x.av=true:=by rw[Ty.eU,wY,T3];rfl
@[simp] theorem Bl:ng prog 32=some (38,5):=by kernel_rfl
@[simp] theorem Ix:ng prog 33=some (35,5):=by kernel_rfl
@[simp] theorem YA:prog.underlying 33=some (.slice 35):=by kernel_rfl
@[simp] theorem Uf:dL prog 35=some (true,5):=by kernel_rfl
@[simp] theorem W9:fV prog 35=some [.sc (.int .i64 0),.sc (.int .i64 0),.slice .full [],.slice .full [],.slice .full []]:=by kernel_rfl
@[simp] theorem Xy:dA prog 35 0=some (0,3)/\ew prog 35 0=some (0,1)/\dA prog 35 1=some (1,30)/\ew prog 35 1=some (1,2)/\dA prog 35 2=some (3,32)/\ew prog 35 2=some (3,1)/\dA prog 35 3=some (4,33)/\ew prog 35 3=some (4,1)/\o0 prog 38=some [.sc (.int .i64 0),.sc (.int .i64 0),.sc (.int .i64 0),.slice .full [],.slice .full []]/\dA prog 38 0=some (0,3):=by and_intros<;>kernel_rfl
@[simp] theorem Fm.Xn(x:Fm):tM prog 35 x.av=true:=by rw[Fm.eU,wY,Uf];rfl
@[simp] theorem Uz:dL prog 38=some (true,5):=by kernel_rfl
@[simp] theorem Wm:fV prog 38=some [.sc (.int .i64 0),.sc (.int .i64 0),.sc (.int .i64 0),.slice .full [],.slice .full []]:=by kernel_rfl
@[simp] theorem X3:ew prog 38 0=some (0,1)/\dA prog 38 1=some (1,3)/\ew prog 38 1=some (1,1)/\dA prog 38 2=some (2,30)/\ew prog 38 2=some (2,2)/\dA prog 38 3=some (4,32)/\ew prog 38 3=some (4,1)/\dL prog 44=some (false,1)/\fV prog 44=some [.sc (.int .i64 0)]/\prog.underlying 44=some (.int .i64):=by and_intros<;>kernel_rfl
@[simp] theorem Tm.XS(x:Tm):tM prog 38 x.av=true:=by rw[Tm.eU,wY,Uz];rfl
@[simp] theorem abL:dL prog 47=some (false,1)/\fV prog 47=some [.slice .full []]/\prog.underlying 47=some (.slice 49)/\o0 prog 49=some [.sc (.int .i64 0),.sc (.int .i64 0),.sc (.int .i64 0),.slice .full [],.slice .full [],.slice .full [],.slice .full []]/\fV prog 49=some [.sc (.int .i64 0),.sc (.int .i64 0),.sc (.int .i64 0),.slice .full [],.slice .full [],.slice .full [],.slice .full []]/\dA prog 49 0=some (0,3)/\ew prog 49 0=some (0,1)/\dA prog 49 1=some (1,3)/\ew prog 49 1=some (1,1)/\dA prog 49 2=some (2,30):=by and_intros<;>kernel_rfl
@[simp] theorem aba:ng prog 47=some (49,7):=by kernel_rfl
@[simp] theorem ZP:dL prog 49=some (true,7):=by kernel_rfl
@[simp] theorem Xa:ew prog 49 2=some (2,2)/\dA prog 49 3=some (4,32)/\ew prog 49 3=some (4,1)/\dA prog 49 4=some (5,33)/\ew prog 49 4=some (5,1)/\dA prog 49 5=some (6,47)/\ew prog 49 5=some (6,1)/\dL prog 55=some (true,2)/\o0 prog 55=some [.slice .full [],.slice .full []]/\fV prog 55=some [.slice .full [],.slice .full []]:=by and_intros<;>kernel_rfl
@[simp] theorem Pf.Xb(x:Pf):tM prog 49 x.av=true:=by rw[Pf.eU,wY,ZP];rfl
@[simp] theorem Xk:dA prog 55 0=some (0,27)/\ew prog 55 0=some (0,1)/\dA prog 55 1=some (1,33)/\ew prog 55 1=some (1,1)/\dL prog 61=some (true,2)/\o0 prog 61=some [.slice .full [],.sc (.int .i64 0)]/\fV prog 61=some [.slice .full [],.sc (.int .i64 0)]/\dA prog 61 0=some (0,22)/\ew prog 61 0=some (0,1)/\dA prog 61 1=some (1,3):=by and_intros<;>kernel_rfl
@[simp] theorem Xq:ew prog 61 1=some (1,1)/\dL prog 86=some (false,1)/\fV prog 86=some [.sc (.pointer none)]/\prog.underlying 86=some (.pointer 114)/\dL prog 89=some (true,6)/\o0 prog 89=some [.sc (.pointer none),.sc (.int .i64 0),.sc (.int .i64 0),.slice .full [],.slice .full [],.slice .full []]/\fV prog 89=some [.sc (.pointer none),.sc (.int .i64 0),.sc (.int .i64 0),.slice .full [],.slice .full [],.slice .full []]/\dA prog 89 0=some (0,86)/\ew prog 89 0=some (0,1)/\dA prog 89 1=some (1,35):=by and_intros<;>kernel_rfl
@[simp] theorem XA:ew prog 89 1=some (1,5)/\dL prog 108=some (false,1)/\fV prog 108=some [.sc (.int .u8 0)]/\prog.underlying 108=some (.int .u8)/\dL prog 112=some (false,1)/\fV prog 112=some [.sc .nilFunc]/\dL prog 114=some (true,2)/\o0 prog 114=some [.slice .full [],.sc (.int .i64 0)]/\fV prog 114=some [.slice .full [],.sc (.int .i64 0)]/\dA prog 114 0=some (0,33):=by and_intros<;>kernel_rfl
@[simp] theorem V7:ew prog 114 0=some (0,1)/\dA prog 114 1=some (1,3)/\ew prog 114 1=some (1,1)/\dL prog 121=some (true,6)/\o0 prog 121=some [.sc (.int .i64 0),.sc (.int .i64 0),.slice .full [],.slice .full [],.slice .full [],.slice .full []]/\fV prog 121=some [.sc (.int .i64 0),.sc (.int .i64 0),.slice .full [],.slice .full [],.slice .full [],.slice .full []]/\dA prog 121 0=some (0,35)/\ew prog 121 0=some (0,5)/\dA prog 121 1=some (5,22)/\ew prog 121 1=some (5,1):=by and_intros<;>kernel_rfl
@[simp] theorem aaI:dL prog 139=some (true,2)/\o0 prog 139=some [.sc (.int .i64 0),.sc (.bool false)]/\fV prog 139=some [.sc (.int .i64 0),.sc (.bool false)]/\dA prog 139 0=some (0,3)/\ew prog 139 0=some (0,1)/\dA prog 139 1=some (1,4)/\ew prog 139 1=some (1,1)/\dL prog 146=some (true,2)/\o0 prog 146=some [.sc (.int .i64 0),.sc (.int .i64 0)]/\fV prog 146=some [.sc (.int .i64 0),.sc (.int .i64 0)]:=by and_intros<;>kernel_rfl
@[simp] theorem WV:dA prog 146 0=some (0,3)/\ew prog 146 0=some (0,1)/\dA prog 146 1=some (1,3)/\ew prog 146 1=some (1,1)/\dL prog 152=some (true,3)/\o0 prog 152=some [.slice .full [],.slice .full [],.slice .full []]/\fV prog 152=some [.slice .full [],.slice .full [],.slice .full []]/\dA prog 152 0=some (0,33)/\ew prog 152 0=some (0,1)/\dA prog 152 1=some (1,27):=by and_intros<;>kernel_rfl
@[simp] theorem Vz:ew prog 152 1=some (1,1)/\dA prog 152 2=some (2,33)/\ew prog 152 2=some (2,1)/\dL prog 159=some (true,1)/\o0 prog 159=some [.sc (.int .i64 0)]/\fV prog 159=some [.sc (.int .i64 0)]/\dA prog 159 0=some (0,3)/\ew prog 159 0=some (0,1)/\o0 prog 167=some [.sc (.bool false),.sc (.bool false),.sc (.int .i64 0),.sc (.int .i64 0),.sc (.int .i64 0),.sc (.int .i64 0),.sc (.int .i64 0),.sc (.int .i64 0)]/\fV prog 167=some [.sc (.bool false),.sc (.bool false),.sc (.int .i64 0),.sc (.int .i64 0),.sc (.int .i64 0),.sc (.int .i64 0),.sc (.int .i64 0),.sc (.int .i64 0)]:=by and_intros<;>kernel_rfl
@[simp] theorem P3:dL prog 167=some (true,8):=by kernel_rfl
@[simp] theorem WI:dA prog 167 0=some (0,4)/\ew prog 167 0=some (0,1)/\dA prog 167 1=some (1,4)/\ew prog 167 1=some (1,1)/\dA prog 167 2=some (2,3)/\ew prog 167 2=some (2,1)/\dA prog 167 3=some (3,3)/\ew prog 167 3=some (3,1)/\dA prog 167 4=some (4,3)/\ew prog 167 4=some (4,1):=by and_intros<;>kernel_rfl
@[simp] theorem VN:dA prog 167 5=some (5,3)/\ew prog 167 5=some (5,1)/\dA prog 167 6=some (6,3)/\ew prog 167 6=some (6,1)/\dA prog 167 7=some (7,3)/\ew prog 167 7=some (7,1)/\dL prog 173=some (false,1)/\fV prog 173=some [.sc .nilFunc]/\dL prog 179=some (false,1)/\fV prog 179=some [.sc .nilFunc]:=by and_intros<;>kernel_rfl
@[simp] theorem c9.Vk(x:c9):tM prog 167 x.av=true:=by rw[c9.eU,wY,P3];rfl
@[simp] theorem abw:dL prog 190=some (true,168)/\o0 prog 190=some [.sc (.bool false),.sc (.bool false),.sc (.int .i64 0),.sc (.int .i64 0),.sc (.int .i64 0),.sc (.int .i64 0),.sc (.int .i64 0),.sc (.int .i64 0),.sc (.bool false),.sc (.bool false),.sc (.int .i64 0),.sc (.int .i64 0),.sc (.int .i64 0),.sc (.int .i64 0),.sc (.int .i64 0),.sc (.int .i64 0),.sc (.bool false),.sc (.bool false),.sc (.int .i64 0),.sc (.int .i64 0),.sc (.int .i64 0),.sc (.int .i64 0),.sc (.int .i64 0),.sc (.int .i64 0),.sc (.bool false),.sc (.bool false),.sc (.int .i64 0),.sc (.int .i64 0),.sc (.int .i64 0),.sc (.int .i64 0),.sc (.int .i64 0),.sc (.int .i64 0),.sc (.bool false),.sc (.bool false),.sc (.int .i64 0),.sc (.int .i64 0),.sc (.int .i64 0),.sc (.int .i64 0),.sc (.int .i64 0),.sc (.int .i64 0),.sc (.bool false),.sc (.bool false),.sc (.int .i64 0),.sc (.int .i64 0),.sc (.int .i64 0),.sc (.int .i64 0),.sc (.int .i64 0),.sc (.int .i64 0),.sc (.bool false),.sc (.bool false),.sc (.int .i64 0),.sc (.int .i64 0),.sc (.int .i64 0),.sc (.int .i64 0),.sc (.int .i64 0),.sc (.int .i64 0),.sc (.bool false),.sc (.bool false),.sc (.int .i64 0),.sc (.int .i64 0),.sc (.int .i64 0),.sc (.int .i64 0),.sc (.int .i64 0),.sc (.int .i64 0),.sc (.bool false),.sc (.bool false),.sc (.int .i64 0),.sc (.int .i64 0),.sc (.int .i64 0),.sc (.int .i64 0),.sc (.int .i64 0),.sc (.int .i64 0),.sc (.bool false),.sc (.bool false),.sc (.int .i64 0),.sc (.int .i64 0),.sc (.int .i64 0),.sc (.int .i64 0),.sc (.int .i64 0),.sc (.int .i64 0),.sc (.bool false),.sc (.bool false),.sc (.int .i64 0),.sc (.int .i64 0),.sc (.int .i64 0),.sc (.int .i64 0),.sc (.int .i64 0),.sc (.int .i64 0),.sc (.bool false),.sc (.bool false),.sc (.int .i64 0),.sc (.int .i64 0),.sc (.int .i64 0),.sc (.int .i64 0),.sc (.int .i64 0),.sc (.int .i64 0),.sc (.bool false),.sc (.bool false),.sc (.int .i64 0),.sc (.int .i64 0),.sc (.int .i64 0),.sc (.int .i64 0),.sc (.int .i64 0),.sc (.int .i64 0),.sc (.bool false),.sc (.bool false),.sc (.int .i64 0),.sc (.int .i64 0),.sc (.int .i64 0),.sc (.int .i64 0),.sc (.int .i64 0),.sc (.int .i64 0),.sc (.bool false),.sc (.bool false),.sc (.int .i64 0),.sc (.int .i64 0),.sc (.int .i64 0),.sc (.int .i64 0),.sc (.int .i64 0),.sc (.int .i64 0),.sc (.bool false),.sc (.bool false),.sc (.int .i64 0),.sc (.int .i64 0),.sc (.int .i64 0),.sc (.int .i64 0),.sc (.int .i64 0),.sc (.int .i64 0),.sc (.bool false),.sc (.bool false),.sc (.int .i64 0),.sc (.int .i64 0),.sc (.int .i64 0),.sc (.int .i64 0),.sc (.int .i64 0),.sc (.int .i64 0),.sc (.bool false),.sc (.bool false),.sc (.int .i64 0),.sc (.int .i64 0),.sc (.int .i64 0),.sc (.int .i64 0),.sc (.int .i64 0),.sc (.int .i64 0),.sc (.bool false),.sc (.bool false),.sc (.int .i64 0),.sc (.int .i64 0),.sc (.int .i64 0),.sc (.int .i64 0),.sc (.int .i64 0),.sc (.int .i64 0),.sc (.bool false),.sc (.bool false),.sc (.int .i64 0),.sc (.int .i64 0),.sc (.int .i64 0),.sc (.int .i64 0),.sc (.int .i64 0),.sc (.int .i64 0),.sc (.bool false),.sc (.bool false),.sc (.int .i64 0),.sc (.int .i64 0),.sc (.int .i64 0),.sc (.int .i64 0),.sc (.int .i64 0),.sc (.int .i64 0)]/\fV prog 190=some [.sc (.bool false),.sc (.bool false),.sc (.int .i64 0),.sc (.int .i64 0),.sc (.int .i64 0),.sc (.int .i64 0),.sc (.int .i64 0),.sc (.int .i64 0),.sc (.bool false),.sc (.bool false),.sc (.int .i64 0),.sc (.int .i64 0),.sc (.int .i64 0),.sc (.int .i64 0),.sc (.int .i64 0),.sc (.int .i64 0),.sc (.bool false),.sc (.bool false),.sc (.int .i64 0),.sc (.int .i64 0),.sc (.int .i64 0),.sc (.int .i64 0),.sc (.int .i64 0),.sc (.int .i64 0),.sc (.bool false),.sc (.bool false),.sc (.int .i64 0),.sc (.int .i64 0),.sc (.int .i64 0),.sc (.int .i64 0),.sc (.int .i64 0),.sc (.int .i64 0),.sc (.bool false),.sc (.bool false),.sc (.int .i64 0),.sc (.int .i64 0),.sc (.int .i64 0),.sc (.int .i64 0),.sc (.int .i64 0),.sc (.int .i64 0),.sc (.bool false),.sc (.bool false),.sc (.int .i64 0),.sc (.int .i64 0),.sc (.int .i64 0),.sc (.int .i64 0),.sc (.int .i64 0),.sc (.int .i64 0),.sc (.bool false),.sc (.bool false),.sc (.int .i64 0),.sc (.int .i64 0),.sc (.int .i64 0),.sc (.int .i64 0),.sc (.int .i64 0),.sc (.int .i64 0),.sc (.bool false),.sc (.bool false),.sc (.int .i64 0),.sc (.int .i64 0),.sc (.int .i64 0),.sc (.int .i64 0),.sc (.int .i64 0),.sc (.int .i64 0),.sc (.bool false),.sc (.bool false),.sc (.int .i64 0),.sc (.int .i64 0),.sc (.int .i64 0),.sc (.int .i64 0),.sc (.int .i64 0),.sc (.int .i64 0),.sc (.bool false),.sc (.bool false),.sc (.int .i64 0),.sc (.int .i64 0),.sc (.int .i64 0),.sc (.int .i64 0),.sc (.int .i64 0),.sc (.int .i64 0),.sc (.bool false),.sc (.bool false),.sc (.int .i64 0),.sc (.int .i64 0),.sc (.int .i64 0),.sc (.int .i64 0),.sc (.int .i64 0),.sc (.int .i64 0),.sc (.bool false),.sc (.bool false),.sc (.int .i64 0),.sc (.int .i64 0),.sc (.int .i64 0),.sc (.int .i64 0),.sc (.int .i64 0),.sc (.int .i64 0),.sc (.bool false),.sc (.bool false),.sc (.int .i64 0),.sc (.int .i64 0),.sc (.int .i64 0),.sc (.int .i64 0),.sc (.int .i64 0),.sc (.int .i64 0),.sc (.bool false),.sc (.bool false),.sc (.int .i64 0),.sc (.int .i64 0),.sc (.int .i64 0),.sc (.int .i64 0),.sc (.int .i64 0),.sc (.int .i64 0),.sc (.bool false),.sc (.bool false),.sc (.int .i64 0),.sc (.int .i64 0),.sc (.int .i64 0),.sc (.int .i64 0),.sc (.int .i64 0),.sc (.int .i64 0),.sc (.bool false),.sc (.bool false),.sc (.int .i64 0),.sc (.int .i64 0),.sc (.int .i64 0),.sc (.int .i64 0),.sc (.int .i64 0),.sc (.int .i64 0),.sc (.bool false),.sc (.bool false),.sc (.int .i64 0),.sc (.int .i64 0),.sc (.int .i64 0),.sc (.int .i64 0),.sc (.int .i64 0),.sc (.int .i64 0),.sc (.bool false),.sc (.bool false),.sc (.int .i64 0),.sc (.int .i64 0),.sc (.int .i64 0),.sc (.int .i64 0),.sc (.int .i64 0),.sc (.int .i64 0),.sc (.bool false),.sc (.bool false),.sc (.int .i64 0),.sc (.int .i64 0),.sc (.int .i64 0),.sc (.int .i64 0),.sc (.int .i64 0),.sc (.int .i64 0),.sc (.bool false),.sc (.bool false),.sc (.int .i64 0),.sc (.int .i64 0),.sc (.int .i64 0),.sc (.int .i64 0),.sc (.int .i64 0),.sc (.int .i64 0),.sc (.bool false),.sc (.bool false),.sc (.int .i64 0),.sc (.int .i64 0),.sc (.int .i64 0),.sc (.int .i64 0),.sc (.int .i64 0),.sc (.int .i64 0)]/\dL prog 193=some (true,5)/\o0 prog 193=some [.sc (.int .i64 0),.sc (.int .i64 0),.sc (.int .i64 0),.sc (.bool false),.sc (.bool false)]/\fV prog 193=some [.sc (.int .i64 0),.sc (.int .i64 0),.sc (.int .i64 0),.sc (.bool false),.sc (.bool false)]/\dA prog 193 0=some (0,3)/\ew prog 193 0=some (0,1)/\dA prog 193 1=some (1,3)/\ew prog 193 1=some (1,1):=by and_intros<;>kernel_rfl
@[simp] theorem US:prog.underlying 190=some (.array 21 167):=by kernel_rfl
@[simp] theorem VA:dA prog 193 2=some (2,3)/\ew prog 193 2=some (2,1)/\dA prog 193 3=some (3,4)/\ew prog 193 3=some (3,1)/\dA prog 193 4=some (4,4)/\ew prog 193 4=some (4,1)/\dL prog 206=some (false,1)/\fV prog 206=some [.sc .nilFunc]/\dL prog 211=some (true,14)/\o0 prog 211=some [.sc (.int .i64 0),.sc (.int .i64 0),.sc (.int .i64 0),.sc (.int .i64 0),.sc (.int .i64 0),.sc (.int .i64 0),.sc (.int .i64 0),.sc (.int .i64 0),.sc (.int .i64 0),.sc (.int .i64 0),.sc (.int .i64 0),.sc (.int .i64 0),.sc (.int .i64 0),.sc (.int .i64 0)]:=by and_intros<;>kernel_rfl
@[simp] theorem aad:fV prog 211=some [.sc (.int .i64 0),.sc (.int .i64 0),.sc (.int .i64 0),.sc (.int .i64 0),.sc (.int .i64 0),.sc (.int .i64 0),.sc (.int .i64 0),.sc (.int .i64 0),.sc (.int .i64 0),.sc (.int .i64 0),.sc (.int .i64 0),.sc (.int .i64 0),.sc (.int .i64 0),.sc (.int .i64 0)]/\dL prog 212=some (false,1)/\fV prog 212=some [.sc (.map none)]:=by and_intros<;>kernel_rfl
@[simp] theorem Wi:prog.underlying 211=some (.array 14 3):=by kernel_rfl
@[simp] theorem LW:prog.underlying 212=some (.map 3 4):=by kernel_rfl
@[simp] theorem Z8(tag:Tag)(l:List Ty):vV prog 27 (.slice tag (List.map Ty.av l)) none (some (.sc (.int .i64 (cE l)))) (some (.sc (.int .i64 (cE l))))=some (.slice .full (List.map Ty.av l)):=DN _ l YR T3 (λx=>by simp)
@[simp] theorem aag(tag:Tag)(l:List Fm):vV prog 33 (.slice tag (List.map Fm.av l)) none (some (.sc (.int .i64 (cE l)))) (some (.sc (.int .i64 (cE l))))=some (.slice .full (List.map Fm.av l)):=DN _ l YA Uf (λx=>by simp)
def c9.cs(x:c9):List AV:=x.av.cells
@[simp] theorem ab7(a:Int):gl prog 190 (.ji (.agg (List.flatMap (λx=>c9.cs x) ll))) (.sc (.int .i64 a))=(cq ll a).map λx=>.ji x.av:=Dg US P3 (λx=>rfl) (λx=>⟨_,c9.eU x⟩) (λx=>by simp) rfl
@[simp] theorem acx(a:Int):gl prog 211 (.ji (.agg (List.map (λn=>AV.sc (Value.int .i64 n)) oc))) (.sc (.int .i64 a))=(cq oc a).map λx=>.ji (.sc (.int .i64 x)):=Ex Wi Te rfl
abbrev qc(T:cW):Prop:=T 1=some (AV.agg (List.map (λn=>AV.sc (Value.int .i64 n)) oc))/\T 0=some (AV.agg (List.flatMap (λx=>c9.cs x) ll))
def A2{S:Type}(T:cW)(g:Nat)(cap:List AV)(st:S->cd)(w:(S->Tm->Int->Option (Tm×S))):Prop:=
 ∀(X:cd) (s:S) (a:Tm) (b:Int) (c:Tm) (d:S),w s a b=some (c,d)->dB prog T g ([Tm.av a,sI b]++cap) (st s++X) (Tm.av c) (st d++X)
def A2.VE{S:Type}{T:cW}{g:Nat}{cap:List AV}{st:S->cd}{w:(S->Tm->Int->Option (Tm×S))}(h:A2 T g cap st w){s:S}{a:Tm}{b:Int}{c:Tm}{d:S}(hw:w s a b=some (c,d)):dB prog T g ([Tm.av a,sI b]++cap) (st s) (Tm.av c) (st d):=by
 have:=h [] s a b c d hw
 rwa [wB,wB] at this
def qW{S:Type}(T:cW)(g:Nat)(cap:List AV)(st:S->cd)(w:(S->Int->Int->Option (Tm×S))):Prop:=
 ∀(X:cd) (s:S) (a:Int) (b:Int) (c:Tm) (d:S),w s a b=some (c,d)->dB prog T g ([sI a,sI b]++cap) (st s++X) (Tm.av c) (st d++X)
def qW.ext{S:Type}{T:cW}{g:Nat}{cap:List AV}{st:S->cd}{w:(S->Int->Int->Option (Tm×S))}(h:qW T g cap st w){Y:cd}:qW T g cap (λs=>st s++Y) w:=λX s a b c d hw=>by
 have:=h (Y++X) s a b c d hw
 rwa [<-mI,<-mI] at this
def qW.VE{S:Type}{T:cW}{g:Nat}{cap:List AV}{st:S->cd}{w:(S->Int->Int->Option (Tm×S))}(h:qW T g cap st w){s:S}{a b:Int}{c:Tm}{d:S}(hw:w s a b=some (c,d)):dB prog T g ([sI a,sI b]++cap) (st s) (Tm.av c) (st d):=by
 have:=h [] s a b c d hw
 rwa [wB,wB] at this
def A1{S:Type}(T:cW)(g:Nat)(cap:List AV)(st:S->cd)(w:(S->Tm->Int->Option (S))):Prop:=
 ∀(X:cd) (s:S) (a:Tm) (b:Int) (c:S),w s a b=some c->dB prog T g ([Tm.av a,sI b]++cap) (st s++X) (AV.tuple []) (st c++X)
def A1.VE{S:Type}{T:cW}{g:Nat}{cap:List AV}{st:S->cd}{w:(S->Tm->Int->Option (S))}(h:A1 T g cap st w){s:S}{a:Tm}{b:Int}{c:S}(hw:w s a b=some c):dB prog T g ([Tm.av a,sI b]++cap) (st s) (AV.tuple []) (st c):=by
 have:=h [] s a b c hw
 rwa [wB,wB] at this
def qU{S:Type}(T:cW)(g:Nat)(cap:List AV)(st:S->cd)(w:(S->Int->Int->Option (S))):Prop:=
 ∀(X:cd) (s:S) (a:Int) (b:Int) (c:S),w s a b=some c->dB prog T g ([sI a,sI b]++cap) (st s++X) (AV.tuple []) (st c++X)
def qU.ext{S:Type}{T:cW}{g:Nat}{cap:List AV}{st:S->cd}{w:(S->Int->Int->Option (S))}(h:qU T g cap st w){Y:cd}:qU T g cap (λs=>st s++Y) w:=λX s a b c hw=>by
 have:=h (Y++X) s a b c hw
 rwa [<-mI,<-mI] at this
def qU.VE{S:Type}{T:cW}{g:Nat}{cap:List AV}{st:S->cd}{w:(S->Int->Int->Option (S))}(h:qU T g cap st w){s:S}{a b:Int}{c:S}(hw:w s a b=some c):dB prog T g ([sI a,sI b]++cap) (st s) (AV.tuple []) (st c):=by
 have:=h [] s a b c hw
 rwa [wB,wB] at this
end Go.Proofs.YtffcgfpaakhbjaaGreatDoor
set_option maxRecDepth 20000
set_option maxHeartbeats 4000000
namespace Go.Proofs.YtffcgfpaakhbjaaGreatDoor
open Go Go.jX Go.dF Tryz
def iz{n:Nat}:C1 prog 44 (gr n) Ty.av Ty.av:=by
 refine i1 λn j=>v1 func44 λT H a0 r m e=>?_;rw[gr] at m;simp[e];refine Wr e m 999 (λi s2 f h=>∃a,(h=H/\f.1 3=sT a Ty.av s2/\f.1 7=sL Ty.av a0.acI/\f.1 8=sI (cE a0.acI)/\f.1 9=sI i/\bx f 1 (Ty.av a0).cells/\bx f 2 [sI 0,nL])/\Ow f [17] a s2) (by exact⟨.full,VW,hD.full⟩) (λs2 c _ _ E m=>?_) (λi _ s2 c _ _ _ _ E e m z p=>?_)
 ·have⟨a,E,b⟩:=E;have e:=Aj e E;dsimp only[b9]at m;exact au
 have⟨a,E,b⟩:=E;have e:=Aj e E;simp[e];refine dM m j λd m=>?_;have⟨e,m⟩:=Ck e m;simp[e];refine Ao (f:=Ty.av) s2 [d] b AO e.2 ?_;simp[e];cases m;exact p _ _ _ ⟨(.loc 17 (c.ds 17+1)),VW,(On 17)⟩ z
def p4{n:Nat}:C1 prog 31 (jQ n) Tm.av Tm.av:=by
 refine i1 λn j=>v1 func31 λT H a0 r m e=>?_;rw[jQ] at m;simp[e];refine Wr e m 999 (λi s2 f h=>∃a,(h=H/\f.1 3=sT a Tm.av s2/\f.1 7=sL Tm.av a0.acI/\f.1 8=sI (cE a0.acI)/\f.1 9=sI i/\bx f 1 (Tm.av a0).cells/\bx f 2 [sI 0,sI 0,sI 0,nL,nL])/\Ow f [17] a s2) (by exact⟨.full,VW,hD.full⟩) (λs2 c _ _ E m=>?_) (λi _ s2 c _ _ _ _ E e m z p=>?_)
 ·have⟨a,E,b⟩:=E;have e:=Aj e E;dsimp only[b9]at m;simp[e];refine d_ m iz λ_ m=>?_;exact au
 have⟨a,E,b⟩:=E;have e:=Aj e E;simp[e];refine dM m j λd m=>?_;have⟨e,m⟩:=Ck e m;simp[e];refine Ao (f:=Tm.av) s2 [d] b Bl e.2 ?_;simp[e];cases m;exact p _ _ _ ⟨(.loc 17 (c.ds 17+1)),VW,(On 17)⟩ z
def eK:C2 prog 34 dR Tm.av sI (sL Tm.av):=by
 refine v2 func34 λT H a0 a1 r m e=>?_;rw[dR] at m;simp[e];refine Wr e m 999 (λi s2 f h=>∃a,(h=H/\f.1 0=sI a0/\f.1 5=sT a Tm.av s2/\f.1 8=sL Tm.av a1/\f.1 9=sI (cE a1)/\f.1 10=sI i/\bx f 4 [sI 0,sI 0,sI 0,nL,nL])/\Ow f [18] a s2) (by exact⟨.full,VW,hD.full⟩) (λs2 c _ _ E m=>?_) (λi _ s2 c _ _ _ _ E e m z p=>?_)
 ·have⟨a,E,b⟩:=E;have e:=Aj e E;dsimp only[b9]at m;exact au
 have⟨a,E,b⟩:=E;have e:=Aj e E;simp[e];refine dM m p4 λd m=>?_;have⟨e,m⟩:=Ck e m;simp[e];refine Ao (f:=Tm.av) s2 [d] b Bl e.2 ?_;simp[e];cases m;exact p _ _ _ ⟨(.loc 18 (c.ds 18+1)),VW,(On 18)⟩ z
def C7:C1 prog 75 oD Tm.av sI:=by
 refine v1 func75 λT H a0 r m e=>?_;rw[oD] at m;simp[e];refine dM m eK λ_ m=>?_;simp[e];refine Wn m 999 (λs2 f h=>∃a b,h=H/\f.1 0=sI s2.1/\bx f 2 [sI 0,sI 0,sI 0,nL,nL]/\bx f 3 [sI s2.2.1,sI s2.2.2.1,sI s2.2.2.2.1,sT a Ty.av s2.2.2.2.2.1,sT b Tm.av s2.2.2.2.2.2]) ⟨.ja,.ja,VW⟩ (λs2 _ _ _ _ _ E m z p=>?_);have⟨v9,v10,v11,v12,c,d⟩:=s2;have⟨a,b,E⟩:=E;have e:=Aj e E;dsimp only[xC]at m;apply Ir e m<;>intro e m
 ·cases m;have m:=Qb z;dsimp only[xC]at m;exact au
 simp[e];cases m;exact p _ _ _ ⟨.full,.full,VW⟩ z
def Fo:C1 prog 42 rR (t2 Tm.av sI) sI:=by
 refine v1 func42 λT H a0 r m e=>?_;rw[rR] at m;refine Il e m λe m=>?_;refine Il e m λe m=>?_;simp[e];refine dM m C7 λ_ m=>?_;exact au
def sZ:C1 prog 13 rJ Tm.av sI:=by
 refine v1 func13 λT H a0 r m e=>?_;rw[rJ] at m;simp[e];refine lZ m Fo λ_ _ m=>?_;exact au
def s6:C2 prog 10 nS Fm.av Tm.av Tm.av:=by
 refine v2 func10 λT H a0 a1 r m e=>?_;rw[nS] at m;simp[e];refine d_ m p4 λa m=>?_;simp[e];refine d_ m p4 λb m=>?_;have e:=Aj e (show AV.agg [sI 1,sI 0,AV.slice .ja [],AV.slice .ja [Tm.av a,Tm.av b],AV.slice .ja []]=Fm.av (Fm.mk 1 (Ty.mk 0 []) [a,b] []) by rw[Fm.ez];rfl);exact au
def BP{n:Nat}:C1 prog 187 (ky n) (t2 sI sB) Ty.av:=by
 refine i1 λn d=>u1 4 func187 λT H a0 r m e=>?_;rw[ky] at m;simp[e];refine yJ m 3 999 (λb f h=>∃v2,(h=H/\f.1 4=sI v2/\bx f 1 (Ty.av a0).cells)/\b v2=some r) ?_ (λb _ g m=>?_)
 ·rintro _ _ ⟨v2,E,m⟩;have e:=Aj e E;refine Il e m λe m=>?_;simp[e];refine Wr e m 999 (λc a f h=>h=H/\f.1 5=sI a/\f.1 25=sL Ty.av a0.acI/\f.1 26=sI (cE a0.acI)/\f.1 27=sI c) VW (λa _ _ _ E m=>?_) (λc _ a _ _ _ _ _ E e m z p=>?_)
  ·have e:=Aj e E;dsimp only[b9]at m;exact au
  have e:=Aj e E;simp[e];refine lZ m d λ_ _ m=>?_;refine Im e m λe m=>?_;exact al
 simp[e];refine wj 999 0 (λf h=>h=H/\f.1 4=sI 0/\f.1 11=sI a0.acH/\f.1 12=sB (dq (cr a0.acH 1) true (dq (cr a0.acH 2) true (cr a0.acH 5)))/\bx f 1 (Ty.av a0).cells) (λ_ g=>?_) ?_
 ·rcases Pb (cr a0.acH 1) e with e|e
  ·exact aj
  rcases Pb (cr a0.acH 2) e with e|e
  ·exact aj
  exact aj
 rintro _ _ E;have e:=Aj e E;apply Iq e m<;>intro e m
 ·apply wg 999;exact iO
 apply wg 1;simp[e];refine wj 999 999 (λf h=>h=H/\f.1 16=sB (dq (cr a0.acH 3) true (cr a0.acH 4))/\bx f 1 (Ty.av a0).cells) (λ_ g=>?_) ?_
 ·rcases Pb (cr a0.acH 3) e with e|e
  ·exact aj
  exact aj
 rintro _ _ E;have e:=Aj e E;refine Im e m λe m=>?_;exact iO
def qu:C1 prog 153 gp (t2 sI sI) Ty.av:=by
 refine v1 func153 λT H a0 r m e=>?_;rw[gp] at m;simp[e];refine lZ m BP λ_ _ m=>?_;refine Im e m λe m=>?_;refine Il e m λe m=>?_;exact au
def uk:C1 prog 154 l_ sB Ty.av:=by
 refine u1 2 func154 λT H a0 r m e=>?_;rw[l_] at m;simp[e];refine I5 999 999 (λf h=>h=H/\f.1 2=sB (dq (cr a0.acH 0) (cr (cE a0.acI) 0) false)) ?_ (λ_ g=>?_)
 ·rintro _ _ E;have e:=Aj e E;exact au
 rcases Pb (cr a0.acH 0) e with e|e
 ·exact aj
 exact aj
def FG:C1 prog 149 pD sB Fm.av:=by
 refine u1 4 func149 λT H a0 r m e=>?_;rw[pD] at m;simp[e];refine yJ m 5 0 (λa f h=>∃v2 v3 v4,(h=H/\f.1 3=sI v2/\f.1 4=sI v3/\f.1 5=sB v4/\bx f 1 (Fm.av a0).cells)/\a v2 v3 v4=some r) ?_ (λa _ g m=>?_)
 ·rintro _ _ ⟨v2,v3,v4,E,m⟩;have e:=Aj e E;refine yJ m 999 0 (λb f h=>(h=H/\f.1 3=sI v2/\f.1 4=sI v3/\bx f 1 (Fm.av a0).cells)/\b=some r) ?_ (λb _ g m=>?_)
  ·rintro _ _ ⟨E,m⟩;have e:=Aj e E;refine I5 999 999 (λf h=>h=H/\f.1 2=sB (dq (cr (cE a0.cv) v2) (cr (cE a0.acI) v3) false)) ?_ (λ_ g=>?_)
   ·rintro _ _ E;have e:=Aj e E;exact au
   rcases Pb (cr (cE a0.cv) v2) e with e|e
   ·exact aj
   exact aj
  apply Iq e m<;>intro e m
  ·simp[e];refine lZ m qu λ_ _ m=>?_;refine Il e m λe m=>?_;exact Xj
  simp[e];refine dM m uk λ_ m=>?_;refine Im e m λe m=>?_;exact Xj
 simp[e];apply Iq e m<;>intro e m
 ·apply wg 999;exact ak3
 apply wg 1;simp[e];refine wj 999 0 (λf h=>h=H/\f.1 3=sI 0/\f.1 5=sB false/\f.1 9=sI a0.acH/\f.1 12=sB (dq (cr a0.acH 2) true (cr a0.acH 3))/\bx f 1 (Fm.av a0).cells) (λ_ g=>?_) ?_
 ·rcases Pb (cr a0.acH 2) e with e|e
  ·exact aj
  exact aj
 rintro _ _ E;have e:=Aj e E;apply Iq e m<;>intro e m
 ·apply wg 999;exact ak3
 apply wg 1;simp[e];refine I5 999 999 (λf h=>h=H/\f.1 3=sI 0/\f.1 15=sB (dq (cr a0.acH 4) true (dq (cr a0.acH 5) true (dq (cr a0.acH 6) true (cr a0.acH 7))))/\bx f 1 (Fm.av a0).cells) ?_ (λ_ g=>?_)
 ·rintro _ _ E;have e:=Aj e E;refine Im e m λe m=>?_;exact ak3
 rcases Pb (cr a0.acH 4) e with e|e
 ·exact aj
 rcases Pb (cr a0.acH 5) e with e|e
 ·exact aj
 rcases Pb (cr a0.acH 6) e with e|e
 ·exact aj
 exact aj
def Ig(T:cW)(c:qc T){H:cd}{a0 a:Int}{b:Bool}(hm:sy a0=some (a,b)):dB prog T 181 [sI a0] H (AV.tuple [sI a,sB b]) H:=by
 rw[sy] at hm;have e:=c;refine wi acM func181 [] [] 3 ?_;simp[e];refine wj 999 999 (λf h=>h=H/\f.1 0=sI a0/\f.1 9=sB (dq (tD a0 1) true (qf a0 14))) (λ_ g=>?_) ?_
 ·rcases Pb (tD a0 1) e with e|e
  ·exact aj
  exact aj
 rintro _ _ E;have e:=Aj e E;refine Il e hm λe m=>?_;have⟨d,e,m⟩:=fJ e m;exact au
def Ih:C1 prog 182 s_ sB sI:=by
 refine u1 2 func182 λT H a0 r m e=>?_;rw[s_] at m;simp[e];refine I5 999 999 (λf h=>h=H/\f.1 2=sB (dq (cr a0 2) true (dq (cr a0 6) true (cr a0 9)))) ?_ (λ_ g=>?_)
 ·rintro _ _ E;have e:=Aj e E;exact au
 rcases Pb (cr a0 2) e with e|e
 ·exact aj
 rcases Pb (cr a0 6) e with e|e
 ·exact aj
 exact aj
def Ab(T:cW)(i:qc T):∀(n:Nat),(∀{H:cd} {a0:Tm} {c:Int} {d:Bool} (hm:gW n a0=some (c,d)),dB prog T 150 [Tm.av a0] H (AV.tuple [sI c,sB d]) H):=by
  intro n
  induction n with
  |zero=>
    skip
    all_goals(intro _ _;intros;rename_i hm;cases hm)
  |succ n o=>
 intro H a0 c d hm;rw[gW] at hm;have e:=i;refine wi acM func150 [] [] 5 ?_;simp[e];refine lZ hm (Ig T i) λj k m=>?_;simp[e];refine wj 999 0 (λf h=>h=H/\f.1 42=sB (dq k (dq (cG (cE a0.acI) j) true (dq (tD a0.acK 0) true (dq (cG a0.acK 0) (cG a0.acH 1) false))) true)/\bx f 1 (Tm.av a0).cells) (λ_ g=>?_) ?_
 ·rcases Pb k e with e|e;rotate_left
  ·exact aj
  rcases Pb (cG (cE a0.acI) j) e with e|e
  ·exact aj
  rcases Pb (tD a0.acK 0) e with e|e
  ·exact aj
  rcases Pb (cG a0.acK 0) e with e|e
  ·exact aj
  exact aj
 rintro _ _ E;have e:=Aj e E;apply Iq e m<;>intro e m
 ·apply wg 999;exact au
 apply wg 2;simp[e];refine Wj m 999 999 (λl f h=>(h=H/\f.1 1=AV.gJ 1 (f.gen 1) 0/\f.box 1=some (Tm.av a0).cells)/\l=some (c,d)) (λl _ g m=>?_) ?_
 ·simp[e];refine dM m Ih λ_ m=>?_;apply Iq e m<;>intro e m
  ·simp[e];refine lZ m qu λ_ _ m=>?_;refine Il e m λe m=>?_;exact Xj
  simp[e];refine dM m uk λ_ m=>?_;refine Im e m λe m=>?_;exact Xj
 rintro _ _ ⟨E,m⟩;have e:=Aj e E;simp[e];refine Wr e m 999 (λb a f h=>h=H/\f.1 8=sI a/\f.1 59=sL Tm.av a0.acI/\f.1 60=sI (cE a0.acI)/\f.1 61=sI b) VW (λa _ _ _ E m=>?_) (λb _ a _ _ _ _ _ E e m z p=>?_)
 ·have e:=Aj e E;dsimp only[b9]at m;exact au
 have e:=Aj e E;simp[e];refine lZ m o λ_ _ m=>?_;refine Im e m λe m=>?_;exact al
def vy(T:cW)(c:qc T){H:cd}{a0:Tm}{a:Int}{b:Bool}{n:Nat}(hm:gW n a0=some (a,b)):dB prog T 150 [Tm.av a0] H (AV.tuple [sI a,sB b]) H:=(Ab T c n) hm
def xp(T:cW)(j:qc T):∀(n:Nat),(∀{H:cd} {a0:Fm} {c:Int} {d:Bool} (hm:gO n a0=some (c,d)),dB prog T 123 [Fm.av a0] H (AV.tuple [sI c,sB d]) H):=by
  intro n
  induction n with
  |zero=>
   skip
   all_goals(intro _ _;intros;rename_i hm;cases hm)
  |succ n l=>
 intro H a0 c d hm;rw[gO] at hm;have e:=j;refine wi acM func123 [] [] 999 ?_;simp[e];refine dM hm FG λ_ m=>?_;refine Im e m λe m=>?_;simp[e];refine Bu e m 999 (λk i f h=>h=H/\f.1 4=sI i/\f.1 17=sL Tm.av a0.cv/\f.1 18=sI (cE a0.cv)/\f.1 19=sI k/\bx f 1 (Fm.av a0).cells) VW (λk _ i _ _ _ _ _ E e m z p=>?_) (λi _ _ _ E m=>?_)
 ·have e:=Aj e E;simp[e];refine lZ m (vy T j) λ_ _ m=>?_;refine Im e m λe m=>?_;exact al
 have e:=Aj e E;dsimp only[b9]at m;simp[e];refine Wr e m 999 (λb a f h=>h=H/\f.1 4=sI a/\f.1 35=sL Fm.av a0.acI/\f.1 36=sI (cE a0.acI)/\f.1 37=sI b) VW (λa _ _ _ E m=>?_) (λb _ a _ _ _ _ _ E e m z p=>?_)
 ·have e:=Aj e E;dsimp only[b9]at m;exact au
 have e:=Aj e E;simp[e];refine lZ m l λ_ _ m=>?_;refine Im e m λe m=>?_;exact al
def yE(T:cW)(c:qc T){H:cd}{a0:Fm}{a:Int}{b:Bool}{n:Nat}(hm:gO n a0=some (a,b)):dB prog T 123 [Fm.av a0] H (AV.tuple [sI a,sB b]) H:=(xp T c n) hm
def jW(T:cW)(a:qc T){H:cd}{a0:Fm}{b c:Int}(hm:eL a0=some (b,c)):dB prog T 84 [Fm.av a0] H (AV.tuple [sI b,sI c]) H:=by
 rw[eL] at hm;have e:=a;refine wi acM func84 [] [] 999 ?_;simp[e];refine lZ hm (yE T a) λ_ _ m=>?_;refine Im e m λe m=>?_;refine Il e m λe m=>?_;exact au
def my(T:cW)(a:qc T){H:cd}{a0:Fm}{b:Int}(hm:fA a0=some b):dB prog T 47 [Fm.av a0] H (sI b) H:=by
 rw[fA] at hm;have e:=a;refine wi acM func47 [] [] 999 ?_;simp[e];refine lZ hm (jW T a) λ_ _ m=>?_;exact au
def yB{n:Nat}:C1 prog 107 (jF n) sB Fm.av:=by
 refine i1 λn b=>u1 3 func107 λT H a0 r m e=>?_;rw[jF] at m;simp[e];refine wj 999 999 (λf h=>h=H/\f.1 12=sB (dq (cr a0.acH 6) true (cr a0.acH 7))/\bx f 1 (Fm.av a0).cells) (λ_ g=>?_) ?_
 ·rcases Pb (cr a0.acH 6) e with e|e
  ·exact aj
  exact aj
 rintro _ _ E;have e:=Aj e E;refine Il e m λe m=>?_;simp[e];refine Wr e m 999 (λa _ f h=>h=H/\f.1 14=sL Fm.av a0.acI/\f.1 15=sI (cE a0.acI)/\f.1 16=sI a) VW (λ_ _ _ _ E m=>?_) (λa _ _ _ _ _ _ _ E e m z p=>?_)
 ·have e:=Aj e E;dsimp only[b9]at m;exact au
 have e:=Aj e E;simp[e];refine dM m b λ_ m=>?_;refine Il e m λe m=>?_;exact al
def uO:C1 prog 137 lS sB sI:=by
 refine u1 2 func137 λT H a0 r m e=>?_;rw[lS] at m;simp[e];refine I5 999 999 (λf h=>h=H/\f.1 2=sB (dq (qf a0 0) (Dh a0 4096) false)) ?_ (λ_ g=>?_)
 ·rintro _ _ E;have e:=Aj e E;exact au
 rcases Pb (qf a0 0) e with e|e
 ·exact aj
 exact aj
def F2(T:cW){H:cd}{a0 a1:Int}{a b:Bool}{q0:Nat}(c:H[q0]?=some [sB a])(hm:ke a0 a1 a=some b):dB prog T 208 [sI a0,sI a1,AV.de q0 0] H (AV.tuple []) (dC H q0 [sB b]):=by
 rw[ke] at hm;have d:=fu c;refine du.RP c ?_;have e:=d;refine wi acM func208 [] [] 999 ?_;refine Il e hm λe m=>?_;exact au
def Fw(T:cW):∀(n:Nat),(∀{S:Type} {st:S->cd} {k:Nat} {a0:Tm} {a1:Int} {i:(S->Int->Int->Option (S))} {j:S} {b:S} {q0:Nat} {q1:Nat} {l:Nat} {o:List AV} (hF:Cr st k) (c:∀s,(st s)[q0]?=some [AV.func (.func l) [] o]) (a:qU T l o st i) (d:∀s,(st s)[q1]?=some [AV.func (.func 235) [] [AV.de q0 0,AV.de q1 0]]) (hm:fD n a0 a1 i j=some b),dB prog T 235 [Tm.av a0,sI a1,AV.de q0 0,AV.de q1 0] (st j) (AV.tuple []) (st b)):=by
  intro n
  induction n with
  |zero=>
    skip
    all_goals(intro _ _;intros;rename_i hm;cases hm)
  |succ n w=>
 intro S st k a0 a1 i j b q0 q1 l o hF c a d hm;rw[fD] at hm;have t:=λs=>fu (c s);have u:=λs=>fu (d s);have e:=Aj (Aj (Aj (Aj hF.len t) c) u) d;refine wi acM func235 [] [] 2 ?_;simp[e];refine Wj hm 999 0 (λv f h=>∃v2,(h=st v2/\f.1 1=sI a1/\f.1 3=AV.de q1 0/\f.1 4=AV.gJ 4 (f.gen 4) 0/\f.box 4=some (Tm.av a0).cells)/\v v2=some b) (λv _ g m=>?_) ?_
 ·apply Ir e m<;>intro e m
  ·exact iO
  have⟨y,e,m⟩:=fJ e m;simp[e];refine gZ.QU aal (qU.VE a e.2) ?_;exact iO
 rintro _ _ ⟨v2,E,m⟩;have e:=Aj e E;refine wj 999 999 (λf h=>h=st v2/\f.1 1=sI (dq (cr a0.acH 2) (da .i64 a1 1) a1)/\f.1 3=AV.de q1 0/\f.1 4=AV.gJ 4 (f.gen 4) 0/\f.box 4=some (Tm.av a0).cells) (λ_ g=>?_) ?_
 ·rcases Pb (cr a0.acH 2) e with e|e
  ·exact aj
  exact aj
 rintro _ _ E;have e:=Aj e E;simp[e];refine Wr e m 999 (λr q f h=>h=st q/\f.1 1=sI (dq (cr a0.acH 2) (da .i64 a1 1) a1)/\f.1 3=AV.de q1 0/\f.1 22=sL Tm.av a0.acI/\f.1 23=sI (cE a0.acI)/\f.1 24=sI r) VW (λq _ _ _ E m=>?_) (λr _ q _ _ _ _ _ E e m z p=>?_)
 ·have e:=Aj e E;dsimp only[b9]at m;exact au
 have e:=Aj e E;have⟨x,e,m⟩:=fJ e m;simp[e];refine gZ.QU aal (w hF c a d e.2) ?_;exact al
def Gv(T:cW){S:Type}{st:S->cd}{k:Nat}{a0:Tm}{a1:Int}{a:(S->Int->Int->Option (S))}{b c:S}{q0 q1 d:Nat}{e:List AV}(hF:Cr st k)(g:∀s,(st s)[q0]?=some [AV.func (.func d) [] e])(f:qU T d e st a)(h:∀s,(st s)[q1]?=some [AV.func (.func 235) [] [AV.de q0 0,AV.de q1 0]]){n:Nat}(hm:fD n a0 a1 a b=some c):dB prog T 235 [Tm.av a0,sI a1,AV.de q0 0,AV.de q1 0] (st b) (AV.tuple []) (st c):=(Fw T n) hF g f h hm
def Ca(T:cW){S:Type}{st:S->cd}{k:Nat}{a0:Tm}{a1:(S->Int->Int->Option (S))}{c b:S}{g1:Nat}{a:List AV}(hF:Cr st k)(d:qU T g1 a st a1)(hm:og a0 a1 c=some b):dB prog T 207 [Tm.av a0,AV.func (.func g1) [] a] (st c) (AV.tuple []) (st b):=by
 rw[og] at hm;refine du.Ug hF (Post:=λx K=>x=AV.tuple []/\∃X,K=(st b)++X) ?_ (λ_ _ h=>⟨_,h.2.choose,h.2.choose_spec,by rw[h.1];simp[AV.low,AV.gD],h.1,rfl⟩);have e:=hF.len;refine wi acM func207 [3,4] [] 999 ?_;have⟨s1,e,m⟩:=fJ e hm;simp[e];refine gZ.QU aal (Gv T (st:=λs=>st s++[[AV.func (.func g1) [] a],[AV.func (.func 235) [] [AV.de k 0,AV.de (k+1) 0]]]) (Cr.ext hF _ (n:=k+2) th) (λ_=>VW) (qU.ext d) (λ_=>VW) e.2) ?_;exact au
def Jz(T:cW){H:cd}{a0:Tm}{a:Bool}(hm:py a0=some a):dB prog T 167 [Tm.av a0] H (sB a) H:=by
 rw[py] at hm;refine du.xF (Post:=λx K=>x=sB a/\∃X,K=H++X) ?_ (λ_ _ h=>⟨_,h.2.choose_spec,by rw[h.1];simp[AV.low,AV.gD],h.1,rfl⟩);have e:=trivial;refine wi acM func167 [3] [] 999 ?_;simp[e];refine dM hm (Ca T (st:=λs:Bool=>H++[[sB s]]) (Cr.WO H (λs:Bool=>[[sB s]]) 1 (λ_=>rfl) (by simp[AV.low,AV.gD])) (λX s _ _ b h=>by have:=F2 T (H:=H++[[sB s]]++X) (q0:=(List.length H)) VW h;simpa using this)) λ_ m=>?_;exact au
def xd(T:cW){H:cd}{a0:Tm}{a1:Int}{a b:Bool}{q0:Nat}(c:H[q0]?=some [sB a])(hm:gy a0 a1 a=some b):dB prog T 166 [Tm.av a0,sI a1,AV.de q0 0] H (AV.tuple []) (dC H q0 [sB b]):=by
 rw[gy] at hm;have d:=fu c;refine du.RP c ?_;have e:=d;refine wi acM func166 [] [] 999 ?_;refine Im e hm λe m=>?_;simp[e];refine dM m (Jz T) λ_ m=>?_;exact au
def tX:C1 prog 127 kL sB sI:=by
 refine u1 2 func127 λT H a0 r m e=>?_;rw[kL] at m;simp[e];refine I5 999 999 (λf h=>h=H/\f.1 2=sB (dq (qf a0 4) (Dh a0 7) false)) ?_ (λ_ g=>?_)
 ·rintro _ _ E;have e:=Aj e E;exact au
 rcases Pb (qf a0 4) e with e|e
 ·exact aj
 exact aj
def Bs(T:cW):∀(n:Nat),(∀{S:Type} {st:S->cd} {k:Nat} {a0:Fm} {a1:Int} {a2:(S->Tm->Int->Option (S))} {c:S} {b:S} {g2:Nat} {a:List AV} (hF:Cr st k) (d:A1 T g2 a st a2) (hm:gA n a0 a1 a2 c=some b),dB prog T 165 [Fm.av a0,sI a1,AV.func (.func g2) [] a] (st c) (AV.tuple []) (st b)):=by
  intro n
  induction n with
  |zero=>
    skip
    all_goals(intro _ _;intros;rename_i hm;cases hm)
  |succ n q=>
 intro S st k a0 a1 a2 c b g2 a hF d hm;rw[gA] at hm;have e:=hF.len;refine wi acM func165 [] [] 999 ?_;simp[e];refine Bu e hm 0 (λo s2 f h=>h=st s2/\f.1 1=sI a1/\f.1 2=AV.func (.func g2) [] a/\f.1 11=sL Tm.av a0.cv/\f.1 12=sI (cE a0.cv)/\f.1 13=sI o/\bx f 3 (Fm.av a0).cells) VW (λo _ s2 _ _ _ _ _ E e m z p=>?_) (λs2 _ _ _ E m=>?_)
 ·have e:=Aj e E;apply wg 999;have⟨r,e,m⟩:=fJ e m;simp[e];refine gZ.QU aal (A1.VE d e.2) ?_;exact al
 have e:=Aj e E;apply wg 5;dsimp only[b9]at m;simp[e];refine Wj m 999 999 (λj f h=>∃v12,(h=st s2/\f.1 1=sI v12/\f.1 2=AV.func (.func g2) [] a/\f.1 3=AV.gJ 3 (f.gen 3) 0/\f.box 3=some (Fm.av a0).cells)/\j v12=some b) (λj _ g m=>?_) ?_
 ·simp[e];refine dM m tX λ_ m=>?_;apply Ir e m<;>intro e m
  ·exact iO
  exact iO
 rintro _ _ ⟨v12,E,m⟩;have e:=Aj e E;simp[e];refine Wr e m 999 (λl i f h=>h=st i/\f.1 1=sI v12/\f.1 2=AV.func (.func g2) [] a/\f.1 28=sL Fm.av a0.acI/\f.1 29=sI (cE a0.acI)/\f.1 30=sI l) VW (λi _ _ _ E m=>?_) (λl _ i _ _ _ _ _ E e m z p=>?_)
 ·have e:=Aj e E;dsimp only[b9]at m;exact au
 have e:=Aj e E;simp[e];refine dM m (q hF d) λ_ m=>?_;exact al
def CU(T:cW){S:Type}{st:S->cd}{k:Nat}{a0:Fm}{a1:Int}{a2:(S->Tm->Int->Option (S))}{b c:S}{g2:Nat}{a:List AV}(hF:Cr st k)(d:A1 T g2 a st a2){n:Nat}(hm:gA n a0 a1 a2 b=some c):dB prog T 165 [Fm.av a0,sI a1,AV.func (.func g2) [] a] (st b) (AV.tuple []) (st c):=(Bs T n) hF d hm
def zB(T:cW){H:cd}{a0:Fm}{a:Bool}(hm:lU a0=some a):dB prog T 138 [Fm.av a0] H (sB a) H:=by
 rw[lU] at hm;refine du.xF (Post:=λx K=>x=sB a/\∃X,K=H++X) ?_ (λ_ _ h=>⟨_,h.2.choose_spec,by rw[h.1];simp[AV.low,AV.gD],h.1,rfl⟩);have e:=trivial;refine wi acM func138 [3] [] 999 ?_;simp[e];refine dM hm (CU T (st:=λs:Bool=>H++[[sB s]]) (Cr.WO H (λs:Bool=>[[sB s]]) 1 (λ_=>rfl) (by simp[AV.low,AV.gD])) (λX s _ _ b h=>by have:=xd T (H:=H++[[sB s]]++X) (q0:=(List.length H)) VW h;simpa using this)) λ_ m=>?_;exact au
def nM:C1 prog 58 fk Tm.av sI:=by
 refine v1 func58 λT H a0 r m e=>?_;rw[fk] at m;exact au
def F6(T:cW){H:cd}{a0 a1 a b:Int}{k:Tm}{q0 q1:Nat}(c:H[q0]?=some [sI a])(d:H[q1]?=some [sI b])(hm:rn a0 a1 a b=some k):dB prog T 129 [sI a0,sI a1,AV.de q0 0,AV.de q1 0] H (Tm.av k) H:=by
 rw[rn] at hm;have i:=fu c;have j:=fu d;have e:=Aj (Aj (Aj i c) j) d;refine wi acM func129 [] [] 2 ?_;simp[e];refine I5 999 999 (λf h=>h=H/\f.1 0=sI (dq (qf (di .i64 a0 a1) a) (da .i64 a0 b) a0)/\f.1 6=AV.gJ 6 (f.gen 6) 0/\f.box 6=some [sI 0,sI 0,sI 0,nL,nL]) ?_ (λ_ g=>?_)
 ·rintro _ _ E;have e:=Aj e E;simp[e];refine dM hm nM λ_ m=>?_;exact au
 rcases Pb (qf (di .i64 a0 a1) a) e with e|e
 ·exact aj
 exact aj
def pG{n:Nat}:C1 prog 126 (iq n) Ty.av Ty.av:=by
 refine i1 λn j=>v1 func126 λT H a0 r m e=>?_;rw[iq] at m;simp[e];refine Wr e m 999 (λi s2 f h=>∃a,(h=H/\f.1 10=sL Ty.av a0.acI/\f.1 11=sI (cE a0.acI)/\f.1 12=sI i/\bx f 2 [sI 0,nL]/\bx f 3 [sI a0.acH,sT a Ty.av s2])/\Ow f [21] a s2) (by exact⟨.full,VW,hD.full⟩) (λs2 c _ _ E m=>?_) (λi _ s2 c _ _ _ _ E e m z p=>?_)
 ·have⟨a,E,b⟩:=E;have e:=Aj e E;dsimp only[b9]at m;exact au
 have⟨a,E,b⟩:=E;have e:=Aj e E;simp[e];refine d_ m j λd m=>?_;have⟨e,m⟩:=Ck e m;simp[e];refine Ad (f:=Ty.av) s2 [d] b AO e.2 ?_;simp[e];cases m;exact p _ _ _ ⟨(.loc 21 (c.ds 21+1)),VW,(On 21)⟩ z
def Az(T:cW):∀(n:Nat),(∀{S:Type} {st:S->cd} {k:Nat} {a0:Tm} {a1:Int} {l:(S->Int->Int->Option (Tm×S))} {c:S} {x:Tm} {o:S} {q0:Nat} {q1:Nat} {q:Nat} {r:List AV} (hF:Cr st k) (d:∀s,(st s)[q0]?=some [AV.func (.func q) [] r]) (b:qW T q r st l) (i:∀s,(st s)[q1]?=some [AV.func (.func 157) [] [AV.de q0 0,AV.de q1 0]]) (hm:eP n a0 a1 l c=some (x,o)),dB prog T 157 [Tm.av a0,sI a1,AV.de q0 0,AV.de q1 0] (st c) (Tm.av x) (st o)):=by
  intro n
  induction n with
  |zero=>
    skip
    all_goals(intro _ _;intros;rename_i hm;cases hm)
  |succ n F=>
 intro S st k a0 a1 l c x o q0 q1 q r hF d b i hm;rw[eP] at hm;have y:=λs=>fu (d s);have A:=λs=>fu (i s);have e:=Aj (Aj (Aj (Aj hF.len y) d) A) i;refine wi acM func157 [] [(9,false,[true,true,false,true,true,true,true,true,true,true])] 5 ?_;simp[e];apply Iq e hm<;>intro e m
 ·apply wg 999;have⟨H,I,e,m⟩:=YP e m;simp[e];refine gZ.QU aal (qW.VE b e.2) ?_;exact au
 apply wg 4;simp[e];refine d_ m pG λw m=>?_;simp[e];refine wj 999 999 (λf h=>h=st c/\f.1 1=sI (dq (cr a0.acH 2) (da .i64 a1 1) a1)/\f.1 3=AV.de q1 0/\bx f 4 (Tm.av a0).cells/\bx f 6 [sI 0,sI 0,sI 0,nL,nL]/\bx f 7 [sI a0.acH,sI a0.acK,sI w.acH,sL Ty.av w.acI,nL]) (λ_ g=>?_) ?_
 ·rcases Pb (cr a0.acH 2) e with e|e
  ·exact aj
  exact aj
 rintro _ _ E;have e:=Aj e E;simp[e];refine Wr e m 999 (λD t f h=>∃a,(h=st t.2/\f.1 1=sI (dq (cr a0.acH 2) (da .i64 a1 1) a1)/\f.1 3=AV.de q1 0/\f.1 32=sL Tm.av a0.acI/\f.1 33=sI (cE a0.acI)/\f.1 34=sI D/\bx f 6 [sI 0,sI 0,sI 0,nL,nL]/\bx f 7 [sI a0.acH,sI a0.acK,sI w.acH,sL Ty.av w.acI,sT a Tm.av t.1])/\Ow f [45] a t.1) (by exact⟨.full,VW,hD.full⟩) (λt u _ _ E m=>?_) (λD _ t u _ _ _ _ E e m z p=>?_)
 ·have⟨v,B⟩:=t;have⟨a,E,j⟩:=E;have e:=Aj e E;dsimp only[b9,qN]at m;exact au
 have⟨v,B⟩:=t;have⟨a,E,j⟩:=E;have e:=Aj e E;dsimp only[qN]at m;have⟨C,G,e,m⟩:=YP e m;simp[e];refine dY.QU aal (F hF d b i e.2) th ?_;have⟨e,m⟩:=Ck e m;simp[e];refine Ad (f:=Tm.av) v [C] j Bl e.2 ?_;simp[e];cases m;exact p _ _ _ ⟨(.loc 45 (u.ds 45+1)),VW,(On 45)⟩ z
def BF(T:cW){S:Type}{st:S->cd}{k:Nat}{a0:Tm}{a1:Int}{a:(S->Int->Int->Option (Tm×S))}{b:S}{i:Tm}{c:S}{q0 q1 d:Nat}{e:List AV}(hF:Cr st k)(g:∀s,(st s)[q0]?=some [AV.func (.func d) [] e])(f:qW T d e st a)(h:∀s,(st s)[q1]?=some [AV.func (.func 157) [] [AV.de q0 0,AV.de q1 0]]){n:Nat}(hm:eP n a0 a1 a b=some (i,c)):dB prog T 157 [Tm.av a0,sI a1,AV.de q0 0,AV.de q1 0] (st b) (Tm.av i) (st c):=(Az T n) hF g f h hm
def Fu(T:cW){S:Type}{st:S->cd}{k:Nat}{a0:Tm}{a1:(S->Int->Int->Option (Tm×S))}{c:S}{d:Tm}{b:S}{g1:Nat}{a:List AV}(hF:Cr st k)(f:qW T g1 a st a1)(hm:mg a0 a1 c=some (d,b)):dB prog T 128 [Tm.av a0,AV.func (.func g1) [] a] (st c) (Tm.av d) (st b):=by
 rw[mg] at hm;refine du.Ug hF (Post:=λx K=>x=Tm.av d/\∃X,K=(st b)++X) ?_ (λ_ _ h=>⟨_,h.2.choose,h.2.choose_spec,by rw[h.1];simp[AV.low,AV.gD],h.1,rfl⟩);have e:=hF.len;refine wi acM func128 [3,5] [] 999 ?_;have⟨i,s2,e,m⟩:=YP e hm;simp[e];refine gZ.QU aal (BF T (st:=λs=>st s++[[AV.func (.func g1) [] a],[AV.func (.func 157) [] [AV.de k 0,AV.de (k+1) 0]]]) (Cr.ext hF _ (n:=k+2) th) (λ_=>VW) (qW.ext f) (λ_=>VW) e.2) ?_;exact au
def KJ(T:cW){H:cd}{a0:Tm}{a1 a2:Int}{a:Tm}(hm:pe a0 a1 a2=some a):dB prog T 89 [Tm.av a0,sI a1,sI a2] H (Tm.av a) H:=by
 rw[pe] at hm;refine du.xF (Post:=λx K=>x=Tm.av a/\∃X,K=H++X) ?_ (λ_ _ h=>⟨_,h.2.choose_spec,by rw[h.1];simp[AV.low,AV.gD],h.1,rfl⟩);have e:=trivial;refine wi acM func89 [4,5] [] 999 ?_;simp[e];refine lZ hm (Fu T (st:=λ_:Unit=>H++[[sI a1],[sI a2]]) (Cr.const _) (λX _ _ _ _ _ h=>by obtain⟨b,rfl⟩:=zu h;exact F6 T (q0:=(List.length H)) (q1:=(List.length H+1)) VW VW b)) λ_ _ m=>?_;exact au
def xa(T:cW){H:cd}{a0:Tm}{a1 a b:Int}{i:Tm}{q0 q1:Nat}(c:H[q0]?=some [sI a])(d:H[q1]?=some [sI b])(hm:kA a0 a1 a b=some i):dB prog T 88 [Tm.av a0,sI a1,AV.de q0 0,AV.de q1 0] H (Tm.av i) H:=by
 rw[kA] at hm;have f:=fu c;have h:=fu d;have e:=Aj (Aj (Aj f c) h) d;refine wi acM func88 [] [] 999 ?_;simp[e];refine dM hm (KJ T) λ_ m=>?_;exact au
def vE(T:cW):∀(n:Nat),(∀{S:Type} {st:S->cd} {k:Nat} {a0:Fm} {a1:Int} {a2:(S->Tm->Int->Option (Tm×S))} {u:S} {D:Fm} {r:S} {g2:Nat} {i:List AV} (hF:Cr st k) (v:A2 T g2 i st a2) (hm:cL n a0 a1 a2 u=some (D,r)),dB prog T 87 [Fm.av a0,sI a1,AV.func (.func g2) [] i] (st u) (Fm.av D) (st r)):=by
  intro n
  induction n with
  |zero=>
    skip
    all_goals(intro _ _;intros;rename_i hm;cases hm)
  |succ n I=>
 intro S st k a0 a1 a2 u D r g2 i hF v hm;rw[cL] at hm;have e:=hF.len;refine wi acM func87 [] [] 999 ?_;simp[e];refine d_ hm pG λy m=>?_;simp[e];refine Bu e m 0 (λH w f h=>∃b,(h=st w.2/\f.1 1=sI a1/\f.1 2=AV.func (.func g2) [] i/\f.1 19=sL Tm.av a0.cv/\f.1 20=sI (cE a0.cv)/\f.1 21=sI H/\bx f 3 (Fm.av a0).cells/\bx f 6 [sI 0,sI 0,nL,nL,nL]/\bx f 7 [sI a0.acH,sI y.acH,sL Ty.av y.acI,sT b Tm.av w.1,nL])/\Ow f [32] b w.1) (by exact⟨.full,VW,hD.full⟩) (λH _ w A _ _ _ _ E e m z p=>?_) (λw A _ _ E m=>?_)
 ·have⟨v11,v12⟩:=w;have⟨b,E,o⟩:=E;have e:=Aj e E;dsimp only[qN]at m;apply wg 999;have⟨F,J,e,m⟩:=YP e m;simp[e];refine dY.QU aal (A2.VE v e.2) th ?_;have⟨e,m⟩:=Ck e m;simp[e];refine Ad (f:=Tm.av) v11 [F] o Bl e.2 ?_;simp[e];cases m;exact p _ _ _ ⟨(.loc 32 (A.ds 32+1)),VW,(On 32)⟩ z
 have⟨v11,v12⟩:=w;have⟨b,E,o⟩:=E;have e:=Aj e E;apply wg 5;dsimp only[b9,qN]at m;simp[e];refine Wj m 999 999 (λB f h=>∃s c,(h=st v12/\f.1 1=sI s/\f.1 2=AV.func (.func g2) [] i/\bx f 3 (Fm.av a0).cells/\bx f 6 [sI 0,sI 0,nL,nL,nL]/\bx f 7 [sI a0.acH,sI y.acH,sL Ty.av y.acI,sT c Tm.av v11,nL])/\Ow f [32] c v11/\B s=some (D,r)) (λB _ g m=>?_) ?_
 ·simp[e];refine dM m tX λ_ m=>?_;apply Ir e m<;>intro e m
  ·simp[e];exact g _ _ ⟨a1,b,VW,o,m⟩
  simp[e];exact g _ _ ⟨(da .i64 a1 1),b,VW,o,m⟩
 rintro _ _ ⟨s,c,E,x,m⟩;have e:=Aj e E;simp[e];refine Wr e m 999 (λC j f h=>∃a d,(h=st j.2/\f.1 1=sI s/\f.1 2=AV.func (.func g2) [] i/\f.1 41=sL Fm.av a0.acI/\f.1 42=sI (cE a0.acI)/\f.1 43=sI C/\bx f 6 [sI 0,sI 0,nL,nL,nL]/\bx f 7 [sI a0.acH,sI y.acH,sL Ty.av y.acI,sT a Tm.av v11,sT d Fm.av j.1])/\Ow f [32] a v11/\Ow f [54] d j.1) (by exact⟨c,.full,VW,x,hD.full⟩) (λj t _ _ E m=>?_) (λC _ j t _ _ _ _ E e m z p=>?_)
 ·have⟨v30,v31⟩:=j;have⟨a,d,E,q,l⟩:=E;have e:=Aj e E;dsimp only[b9,qN]at m;exact au
 have⟨v30,v31⟩:=j;have⟨a,d,E,q,l⟩:=E;have e:=Aj e E;dsimp only[qN]at m;simp[e];refine sm m (I hF v) λG _ m=>?_;have⟨e,m⟩:=Ck e m;simp[e];refine Ad (f:=Fm.av) v30 [G] l Ix e.2 ?_;simp[e];cases m;exact p _ _ _ ⟨a,(.loc 54 (t.ds 54+1)),VW,(hD.other q l gw gw),(On 54)⟩ z
def qh(T:cW){S:Type}{st:S->cd}{k:Nat}{a0:Fm}{a1:Int}{a2:(S->Tm->Int->Option (Tm×S))}{b:S}{e:Fm}{c:S}{g2:Nat}{a:List AV}(hF:Cr st k)(d:A2 T g2 a st a2){n:Nat}(hm:cL n a0 a1 a2 b=some (e,c)):dB prog T 87 [Fm.av a0,sI a1,AV.func (.func g2) [] a] (st b) (Fm.av e) (st c):=(vE T n) hF d hm
def oZ(T:cW){H:cd}{a0:Fm}{a1 a2:Int}{a:Fm}(hm:c_ a0 a1 a2=some a):dB prog T 51 [Fm.av a0,sI a1,sI a2] H (Fm.av a) H:=by
 rw[c_] at hm;refine du.xF (Post:=λx K=>x=Fm.av a/\∃X,K=H++X) ?_ (λ_ _ h=>⟨_,h.2.choose_spec,by rw[h.1];simp[AV.low,AV.gD],h.1,rfl⟩);have e:=trivial;refine wi acM func51 [4,5] [] 999 ?_;simp[e];refine lZ hm (qh T (st:=λ_:Unit=>H++[[sI a1],[sI a2]]) (Cr.const _) (λX _ _ _ _ _ h=>by obtain⟨b,rfl⟩:=zu h;exact xa T (q0:=(List.length H)) (q1:=(List.length H+1)) VW VW b)) λ_ _ m=>?_;exact au
def Ej(T:cW)(c:qc T){H:cd}{a0:Fm}{a1 a2:Int}{a:Fm}{b:Int}(hm:pZ a0 a1 a2=some (a,b)):dB prog T 108 [Fm.av a0,sI a1,sI a2] H (AV.tuple [Fm.av a,sI b]) H:=by
 rw[pZ] at hm;have e:=c;refine wi acM func108 [] [] 7 ?_;simp[e];refine dM hm (my T c) λ_ m=>?_;simp[e];apply Iq e m<;>intro e m
 ·apply wg 999;exact au
 apply wg 3;simp[e];refine yJ m 999 999 (λd f h=>∃v3,(h=H/\f.1 1=sI a1/\f.1 2=sI a2/\f.1 27=sB v3/\bx f 3 (Fm.av a0).cells/\bx f 6 [sI 0,sI 0,nL,nL,nL])/\d v3=some (a,b)) ?_ (λd _ g m=>?_)
 ·rintro _ _ ⟨v3,E,m⟩;have e:=Aj e E;refine Il e m λe m=>?_;simp[e];refine dM m (oZ T) λ_ m=>?_;exact au
 simp[e];refine dM m uO λ_ m=>?_;apply Ir e m<;>intro e m
 ·exact iO
 simp[e];refine dM m uO λ_ m=>?_;apply Ir e m<;>intro e m
 ·exact iO
 simp[e];refine dM m (zB T) λ_ m=>?_;exact iO
def zY(T:cW)(c:qc T):∀(n:Nat),(∀{H:cd} {a0:Fm} {a1:Int} {a:Int} (hm:fL n a0 a1=some a),dB prog T 90 [Fm.av a0,sI a1] H (sI a) H):=by
  intro n
  induction n with
  |zero=>
   skip
   all_goals(intro _ _;intros;rename_i hm;cases hm)
  |succ n d=>
 intro H a0 a1 a hm;rw[fL] at hm;have e:=c;refine wi acM func90 [] [] 999 ?_;simp[e];refine lZ hm (jW T c) λ_ _ m=>?_;refine Il e m λe m=>?_;apply Iq e m<;>intro e m
 ·have⟨j,e,m⟩:=fJ e m;simp[e];refine dM m d λ_ m=>?_;exact au
 simp[e];refine Wr e m 999 (λi b f h=>h=H/\f.1 1=sI a1/\f.1 5=sI b/\f.1 36=sL Fm.av a0.acI/\f.1 37=sI (cE a0.acI)/\f.1 38=sI i) VW (λb _ _ _ E m=>?_) (λi _ b _ _ _ _ _ E e m z p=>?_)
 ·have e:=Aj e E;dsimp only[b9]at m;exact au
 have e:=Aj e E;simp[e];refine dM m d λ_ m=>?_;exact al
def vt(T:cW)(b:qc T){H:cd}{a0:Fm}{a1 a:Int}{n:Nat}(hm:fL n a0 a1=some a):dB prog T 90 [Fm.av a0,sI a1] H (sI a) H:=(zY T b n) hm
def BH(T:cW)(a:qc T){H:cd}{a0 a1:Fm}{b:Int}(hm:nG a0 a1=some b):dB prog T 65 [Fm.av a0,Fm.av a1] H (sI b) H:=by
 rw[nG] at hm;have e:=a;refine wi acM func65 [] [] 999 ?_;simp[e];refine dM hm (my T a) λ_ m=>?_;refine Il e m λe m=>?_;simp[e];refine dM m (my T a) λ_ m=>?_;refine Il e m λe m=>?_;simp[e];refine dM m yB λ_ m=>?_;refine Il e m λe m=>?_;simp[e];refine lZ m (Ej T a) λ_ _ m=>?_;refine Il e m λe m=>?_;simp[e];refine lZ m (jW T a) λ_ _ m=>?_;simp[e];refine dM m (vt T a) λ_ m=>?_;refine Il e m λe m=>?_;exact au
def w_:C2 prog 101 qL Fm.av sI (sL Fm.av):=by
 refine v2 func101 λT H a0 a1 r m e=>?_;rw[qL] at m;exact au
def oM:C2 prog 67 jr Fm.av Fm.av Fm.av:=by
 refine v2 func67 λT H a0 a1 r m e=>?_;rw[jr] at m;simp[e];refine dM m w_ λ_ m=>?_;exact au
def Fk{n:Nat}:C1 prog 117 (sC n) Tm.av Tm.av:=by
 refine i1 λn l=>v1 func117 λT H a0 r m e=>?_;rw[sC] at m;simp[e];refine d_ m pG λj m=>?_;simp[e];refine Wr e m 999 (λk c f h=>∃a,(h=H/\f.1 15=sL Tm.av a0.acI/\f.1 16=sI (cE a0.acI)/\f.1 17=sI k/\bx f 2 [sI 0,sI 0,sI 0,nL,nL]/\bx f 3 [sI a0.acH,sI a0.acK,sI j.acH,sL Ty.av j.acI,sT a Tm.av c])/\Ow f [26] a c) (by exact⟨.full,VW,hD.full⟩) (λc d _ _ E m=>?_) (λk _ c d _ _ _ _ E e m z p=>?_)
 ·have⟨a,E,b⟩:=E;have e:=Aj e E;dsimp only[b9]at m;exact au
 have⟨a,E,b⟩:=E;have e:=Aj e E;simp[e];refine d_ m l λi m=>?_;have⟨e,m⟩:=Ck e m;simp[e];refine Ad (f:=Tm.av) c [i] b Bl e.2 ?_;simp[e];cases m;exact p _ _ _ ⟨(.loc 26 (d.ds 26+1)),VW,(On 26)⟩ z
def yI:C2 prog 116 iD Tm.av Tm.av sI:=by
 refine v2 func116 λT H a0 a1 r m e=>?_;rw[iD] at m;simp[e];refine dM m Fk λ_ m=>?_;exact au
def uc:C1 prog 70 hH Fm.av Fm.av:=by
 refine v1 func70 λT H a0 r m e=>?_;rw[hH] at m;simp[e];refine lZ m (qh T (st:=λ_:Unit=>H) (Cr.const _) (λX _ _ _ _ _ h=>by obtain⟨a,rfl⟩:=zu h;exact yI a)) λ_ _ m=>?_;exact au
def tI:C3 prog 102 eW Fm.av sI Ty.av Fm.av:=by
 refine v3 func102 λT H a0 a1 a2 r m e=>?_;rw[eW] at m;have e:=Aj e (show AV.agg [sI a0,sI a1.acH,sL Ty.av a1.acI,AV.slice .ja [],AV.slice .ja [Fm.av a2]]=Fm.av (Fm.mk a0 a1 [] [a2]) by rw[Fm.ez];rfl);exact au
def dY.Oj{P:Program}{T:cW}{E:List Nat}{ops:Array Oper}{q:Qt}{bs:List Bool}{rest:List Oper}{K:Fr->cd->Prop}{fr:Fr}{H:cd}{d:Option Nat}{a:AV}{aa:List AV}{Post:AV->cd->Prop}(h:jo P T a aa H Post)(hex:∃r h,Post r h)(e:d.any E.contains=true)(b:∀r h,Post r h->QK q H h/\dy P T E ops q bs rest K (fr.put d r) h):dY P T E ops q bs a aa d rest K fr H:=by
 unfold dY;rw[bX e];exact⟨Post,h,hex,λr h c=>⟨λ_=>(b r h c).1,(b r h c).2⟩⟩
def E0(B i j:Nat)(a:Fm)(rm:Int)(X:cd)(L:List Fm):Prop:=∃(cap k:Nat),i≠j/\X[i]?=some [.nU (B+j) 0 L.length cap,sI rm]/\X[j]?=some (gT Fm.av L k)/\cap*5=L.length*5+k/\0<L.length/\L.length<=2000000001/\∀m x,L[m]?=some x->mi m a=some x
def Kp(a:cd)(i b:Nat)(X:cd)(j:Nat):Prop:=a.length<=X.length/\(j=b\/a.length<=j)/\∀o,o<a.length->o≠i->o≠b->X[o]?=a[o]?
def Kp.refl{X:cd}{i j:Nat}:Kp X i j X j:=⟨fC _,.inl rfl,λ_ _ _ _=>rfl⟩
def Kp.trans{a b c:cd}{i d e f:Nat}(h:Kp a i d b e)(j:Kp b i e c f):Kp a i d c f:=by
 have⟨a1,a2,a3⟩:=h;have⟨n,p,k⟩:=j;exact⟨cw,cw,λo l g m=>by rw[k o cw g cw,a3 o l g m]⟩
def Kp.abi{X:cd}{i j:Nat}{c d:List AV}:Kp X i j (dC (dC X j c) i d) j:=by
 refine⟨by unfold dC;simp,.inl rfl,λo e a b=>?_⟩;unfold dC;rw[w4 (λh=>a h.symm),w4 (λh=>b h.symm)]
def Kp.Zt{X:cd}{i j:Nat}{d:List AV}:Kp X i j (dC X i d) j:=by
 refine⟨by unfold dC;simp,.inl rfl,λo b a c=>?_⟩;unfold dC;rw[w4 (λh=>a h.symm)]
def Kp.abj{X:cd}{i j:Nat}{c d:List AV}:Kp X i j (dC (X++[c]) i d) X.length:=by
 refine⟨by unfold dC;simp,.inr (fC _),λo a b e=>?_⟩;unfold dC;rw[w4 (λh=>b h.symm),ni a]
def Kp.app{X Y:cd}{i j:Nat}:Kp X i j (X++Y) j:=⟨th,.inl rfl,λo a _ _=>ni a⟩
def Kp.get{a X:cd}{i e j o:Nat}{c:List AV}(h:Kp a i e X j)(f:a[o]?=some c)(g:o≠i)(k:o≠e):X[o]?=some c/\o≠j:=by
 have l:=(jL.1 f).1;have⟨_,b,d⟩:=h;exact⟨by rw[d o l g k,f],cw⟩
def Xl(H0:cd)(i j:Nat)(a:Fm)(rm:Int)(c:cd)(r v:AV)(H':cd):Prop:=∃X L b,H'=H0++X/\E0 H0.length i b a rm X L/\Kp c i j X b/\v=r
def E0.app{B i j:Nat}{a:Fm}{rm:Int}{X Y:cd}{L:List Fm}(h:E0 B i j a rm X L):E0 B i j a rm (X++Y) L:=by
 have⟨cap,k,d,b,c,e⟩:=h;exact⟨cap,k,d,by rw[ni (jL.1 b).1,b],by rw[ni (jL.1 c).1,c],e⟩
def E0.room{B i j:Nat}{a:Fm}{rm rm':Int}{X:cd}{L:List Fm}(h:E0 B i j a rm X L):∃c,E0 B i j a rm' (dC X i c) L:=by
 have⟨cap,k,b,d,e,f⟩:=h;have hi:=(jL.1 d).1;refine⟨[.nU (B+j) 0 L.length cap,sI rm'],cap,k,b,?_,?_,f⟩
 ·unfold dC;rw[HQ hi]
 ·unfold dC;rw[w4 b,e]
def E0.hex{H0:cd}{i j:Nat}{a:Fm}{rm rm':Int}{X:cd}{L:List Fm}{v:AV}(h:E0 H0.length i j a rm X L):∃r h,Xl H0 i j a rm' X v r h:=by
 have⟨c,b⟩:=h.room (rm':=rm');exact⟨_,_,_,L,j,rfl,b,.Zt,rfl⟩
def AnI(H0:cd)(i:Nat)(a:Fm)(rm:Int)(b:cd)(c k m:Nat)(f:Fr)(h:cd):Prop:=∃X L j,E0 H0.length i j a rm X L/\Kp b i c X j/\k+1-L.length=m/\(h=H0++X/\f.1 0=AV.de (H0.length+i) 0/\f.1 1=sI k/\f.1 4=AV.gJ 4 (f.gen 4) 0/\f.box 4=some [sI 0,sI 0,AV.slice .full [],AV.slice .full [],AV.slice .full []])
def G4{a:Fm}:∀{k:Nat} {x:Fm},mi k a=some x->∀j,j<=k->∃y,mi j a=some y
 |0,x,h,j,c=>by
  obtain rfl:j=0:=by omega
  exact⟨x,h⟩
 |k+1,x,h,j,c=>by
  by_cases b:j=k+1
  ·subst b;exact⟨x,h⟩
  ·rw[mi] at h;have⟨y,d,_⟩:=cJ h;exact G4 d j cw
def E0.next{B i:Nat}{a:Fm}{L:List Fm}{k:Nat}{x:Fm}(c:∀m x,L[m]?=some x->mi m a=some x)(g:0<L.length)(e:mi k a=some x)(f:L.length<=k){y:Fm}(hy:L[L.length-1]?=some y):∃z,c_ y 0 1=some z/\∀m x,(L++[z])[m]?=some x->mi m a=some x:=by
 have⟨z,d⟩:=G4 e L.length f;have b:=d;rw[show L.length=(L.length-1)+1 by omega,mi,c _ _ hy] at b;refine⟨z,b,λm w hw=>?_⟩;rcases rI m L.length with hm|hm
 ·rw[ni hm] at hw;exact c m w hw
 ·have:m=L.length:=by
   have:=(jL.1 hw).1;simp at this;omega
  subst this;simp at hw;subst hw;exact d
def tQ{T:cW}{H0 D:cd}{i F:Nat}{a:Fm}{rm:Int}{M:List Fm}(w:E0 H0.length i F a rm D M){k:Nat}{x:Fm}(S:mi k a=some x)(hk:k<=2000000000):du prog T 100 [AV.de (H0.length+i) 0,sI k] (H0++D) (Xl H0 i F a rm D x.av):=by
 have e:=trivial;refine TH (λ_=>true) (λ_=>0) acM func100 [31,999999] [(2,false,[true,true,true,true,true,true,true,true,true,true,true,true,true,true,true,true,true,true,true,true,true,false,true,true,false])] 999 ?_;simp[e];refine wlb 6 999 (AnI H0 i a rm D F k) (k+1-M.length) (AnI H0 i a rm D F k 0) ?_ ?_ ?_
 ·exact⟨D,M,F,w,.refl,rfl,VW⟩
 ·rintro m f h ⟨X,L,j,w,r,hm,E⟩ K K2 U N;have⟨cap,t,u,hi,G,V,A,W,O⟩:=id w;have e:=Aj trivial E
  have g1:(H0++X)[H0.length+i]?=some [AV.nU (H0.length+j) 0 L.length cap,sI rm]:=by rw[n7 cw,FF,hi]
  have g2:(H0++X)[H0.length+j]?=some (gT Fm.av L t):=by rw[n7 cw,FF,G]
  have e:=Aj (Aj e g1) g2;simp[e]
  by_cases hle:L.length<=k
  ·have e:=Aj e (show Dh (L.length:Int) (k:Int)=true by unfold Dh;exact r9 cw);simp[e];obtain⟨y,hy⟩:∃y,L[L.length-1]?=some y:=⟨_,lV cw⟩
   have q:lT (gT Fm.av L t)=true:=by
    cases L with
    |nil=>simp at A
    |cons p l=>simp[gT,lT]
   have H:di .i64 (L.length:Int) 1=((L.length-1:Nat):Int):=by unfold di;rw[IntKind.wrap_i64];omega
   have n:∀z:Fm,z.av.cells.length=5:=λz=>by simp
   have C:AV.agg (List.take 5 (List.drop ((L.length-1)*5) (gT Fm.av L t)))=y.av:=by rw[HN n hy,Fm.iX,<-Fm.eU]
   have s:(L.length-1)*5+5<=(gT Fm.av L t).length:=by rw[kl n];omega
   have P:(L.length-1<L.length)=True:=eq_true cw;have e:=Aj (Aj (Aj (Aj (Aj e q) H) C) s) P;refine Zi 999 ⟨true,λ_=>false,λx=>if x=H0.length+i then 34 else 32⟩ ?_;simp[e]
   have⟨z,Y,I⟩:=E0.next (B:=0) (i:=0) O A S hle hy
   refine Cs (oZ T Y) ?_;simp[e];refine Ji.WD (f:=Fm.av) (c:=(Fm.mk 0 (Ty.mk 0 []) [] []).av) (tag':=.full) (L:=L) (k:=t) Ix ⟨_,W9⟩ n (n _) cw rfl rfl g2 V A q (by simp only[gN];omega) (λk' Z=>?_) (λb xM=>?_)
   ·obtain⟨g,o⟩:∃g,(L.map Fm.av).flatMap AV.cells++((Fm.mk 0 (Ty.mk 0 []) [] []).av.cells++pR k')=g:=⟨_,rfl⟩;have Q:=(jL.1 g2).1;rw[o]
    have f1:(dC (H0++X) (H0.length+j) g)[H0.length+j]?=some g:=by unfold dC;rw[HQ Q]
    have d:((L.map Fm.av).flatMap AV.cells).length=L.length*5:=by
     have:=kl (L:=L) (k:=0) n;unfold gT at this;simpa[pR] using this
    have f2:lT g=true:=by
     rw[<-o];cases L with
     |nil=>simp at A
     |cons p l=>simp[lT]
    have f3:L.length*5+5<=g.length:=by rw[<-o];simp[d]
    have f4:List.take (L.length*5) g++sI z.acH::sI z.b7.acH::sL Ty.av z.b7.acI::sL Tm.av z.cv::sL Fm.av z.acI::List.drop (L.length*5+5) g=gT Fm.av (L++[z]) k':=by
     rw[<-o,Jv (by rw[d];omega),Kw (by rw[d];omega),O1,d,Ep (by rw[d];omega),show L.length*5+5-L.length*5=5 by omega];simp[gT]
    have aa:=(jL.1 g1).1
    have f5:(dC (H0++X) (H0.length+j) (gT Fm.av (L++[z]) k'))[H0.length+i]?=some [AV.nU (H0.length+j) 0 L.length cap,sI rm]:=by unfold dC;rw[w4 cw];exact g1
    have J:=(jL.1 G).1
    have f6:(dC X j g)[j]?=some g:=by unfold dC;rw[HQ J]
    have e:=Aj (Aj e f6) hi;have e:=Aj (Aj (Aj (Aj (Aj (Aj (Aj e f1) f2) f3) f4) f5) (show((L.length:Int)<(L.length:Int)+1)=True from eq_true cw)) (show(j=i)=False from eq_false (λh=>u h.symm));simp[e];refine U _ _ (k+1-(L++[z]).length) aae ⟨dC (dC X j (gT Fm.av (L++[z]) k')) i [AV.nU (H0.length+j) 0 (L.length+1) cap,sI rm],L++[z],j,⟨cap,k',u,?_,?_,?_,th,aae,I⟩,r.trans .abi,rfl,VW⟩
    ·have v:=(jL.1 hi).1;unfold dC;rw[HQ (by simpa using v)];simp
    ·unfold dC;rw[w4 u,HQ J]
    ·simp;omega
   ·have hlen:(H0++X).length=H0.length+X.length:=th
    rw[hlen,mI];obtain⟨g,o⟩:∃g,(L.map Fm.av).flatMap AV.cells++((Fm.mk 0 (Ty.mk 0 []) [] []).av.cells++pR ((b-(L.length+1))*5))=g:=⟨_,rfl⟩;rw[o]
    have d:((L.map Fm.av).flatMap AV.cells).length=L.length*5:=by
     have:=kl (L:=L) (k:=0) n;unfold gT at this;simpa[pR] using this
    have f2:lT g=true:=by
     rw[<-o];cases L with
     |nil=>simp at A
     |cons p l=>simp[lT]
    have f3:L.length*5+5<=g.length:=by rw[<-o];simp[d]
    have f4:List.take (L.length*5) g++sI z.acH::sI z.b7.acH::sL Ty.av z.b7.acI::sL Tm.av z.cv::sL Fm.av z.acI::List.drop (L.length*5+5) g=gT Fm.av (L++[z]) ((b-(L.length+1))*5):=by
     rw[<-o,Jv (by rw[d];omega),Kw (by rw[d];omega),O1,d,Ep (by rw[d];omega),show L.length*5+5-L.length*5=5 by omega];simp[gT]
    have v:=(jL.1 hi).1
    have f6:(X++[g])[X.length]?=some g:=th
    have f7:(X++[g])[i]?=some [AV.nU (H0.length+j) 0 L.length cap,sI rm]:=by rw[ni v];exact hi
    have f8:(X++[gT Fm.av (L++[z]) ((b-(L.length+1))*5)])[i]?=some [AV.nU (H0.length+j) 0 L.length cap,sI rm]:=by rw[ni v];exact hi
    have e:=Aj e f8;have e:=Aj (Aj (Aj (Aj (Aj (Aj (Aj (Aj e f2) f3) f4) f6) f7) hi) (show((L.length:Int)<(L.length:Int)+1)=True from eq_true cw)) (show(X.length=i)=False from eq_false cw);simp[e];refine U _ _ (k+1-(L++[z]).length) aae ⟨dC (X++[gT Fm.av (L++[z]) ((b-(L.length+1))*5)]) i [AV.nU (H0.length+X.length) 0 (L.length+1) b,sI rm],L++[z],X.length,⟨b,(b-(L.length+1))*5,cw,?_,?_,?_,th,aae,I⟩,r.trans .abj,rfl,VW⟩
    ·unfold dC;rw[HQ aae];simp
    ·unfold dC;rw[w4 cw];simp
    ·simp;omega
  ·have e:=Aj e (show Dh (L.length:Int) (k:Int)=false by unfold Dh;exact AN cw);simp[e];exact N _ _ ⟨X,L,j,w,r,cw,VW⟩
 ·rintro f h ⟨X,L,j,w,r,hm,E⟩;have⟨cap,t,u,hi,G,V,A,W,O⟩:=id w;have e:=Aj trivial E;obtain⟨y,hy⟩:∃y,L[k]?=some y:=⟨_,lV cw⟩
  have R:y=x:=by have:=O k y hy;rw[S] at this;exact(gv this).symm
  subst R
  have g1:(H0++X)[H0.length+i]?=some [AV.nU (H0.length+j) 0 L.length cap,sI rm]:=by rw[n7 cw,FF,hi]
  have g2:(H0++X)[H0.length+j]?=some (gT Fm.av L t):=by rw[n7 cw,FF,G]
  have n:∀z:Fm,z.av.cells.length=5:=λz=>by simp
  have q:lT (gT Fm.av L t)=true:=by
   cases L with
   |nil=>simp at A
   |cons p l=>simp[gT,lT]
  have C:AV.agg (List.take 5 (List.drop (k*5) (gT Fm.av L t)))=y.av:=by rw[HN n hy,Fm.iX,<-Fm.eU]
  have s:k*5+5<=(gT Fm.av L t).length:=by rw[kl n];omega
  have e:=Aj (Aj (Aj (Aj (Aj (Aj (Aj e g1) g2) hi) G) q) C) s;have e:=Aj e (show(k<L.length)=True from eq_true cw);simp[e];exact⟨X,L,j,rfl,w,r,rfl⟩
def NA{T:cW}{H:cd}{a:Fm}:dB prog T 52 [a.av] H (AV.de (H.length+1) 0) (H++[gT Fm.av [a] 0,[AV.nU H.length 0 1 1,sI 1048576]]):=by
 have e:=trivial;refine wi acM func52 [4,6] [] 999 ?_;simp[e,gT,pR]
def Nb(n:Nat):Prop:=∀{T:cW} {H0 X:cd} {i j:Nat} {a:Fm} {rm:Int} {L:List Fm} {f:Fm} {k:Nat} {r:Fm},E0 H0.length i j a rm X L->fg n a f k=some r->k+n<=2000000000->du prog T 63 [AV.de (H0.length+i) 0,f.av,sI k] (H0++X) (Xl H0 i j a rm X r.av)
def PA{k:Nat}(h:k<=2000000000):da .i64 (k:Int) 1=((k+1:Nat):Int):=by unfold da;rw[IntKind.wrap_i64];omega
def Ia(n:Nat)(g:Nb n){T:cW}{H0 X:cd}{i j:Nat}{a:Fm}{rm:Int}{L:List Fm}{f:Fm}{k:Nat}{x y u v w:Fm}(d:E0 H0.length i j a rm X L)(h:cq f.acI 0=some x)(hy:fg n a x (k+1)=some y)(hu:mi (k+1) a=some u)
  (l:jr y u=some v) (hw:eW 4 f.b7 v=some w) (r:k+1+n<=2000000000):du prog T 103 [AV.de (H0.length+i) 0,f.av,sI k] (H0++X) (Xl H0 i j a rm X w.av):=by
 have e:=Aj (Aj trivial h) (PA (k:=k) cw);refine wi acM func103 [16,20] [] 999 ?_;simp[e];refine dY.rel (g (k:=k+1) d hy cw) d.hex aal ?_;rintro _ _ ⟨s,t,z,rfl,b,m,rfl⟩;refine⟨by simp[QK],?_⟩;simp[e];refine dY.rel (tQ (k:=k+1) b hu cw) b.hex aal ?_;rintro _ _ ⟨o,p,q,rfl,c,k2,rfl⟩;refine⟨by simp[QK],?_⟩;simp[e];refine Cs (oM l) ?_;simp[e];refine Cs (tI hw) ?_;simp[e];exact⟨o,p,q,rfl,c,m.trans k2,rfl⟩
def HM(n:Nat)(C:Nb n):Nb (n+1):=by
 intro T H0 X i j a rm L f k r g hm K;have e:=trivial;rw[fg] at hm;refine wi acM func63 [14,18,31,38,52] [] 999 ?_;rcases Io e hm with⟨e,m⟩|⟨e,m⟩
 ·have⟨x,p,m⟩:=cJ m;have⟨y,hy,m⟩:=cJ m;have⟨z,s,m⟩:=cJ m;cases m;simp[e];refine dY.rel (tQ g p cw) g.hex aal ?_;rintro _ _ ⟨D,E,F,rfl,b,l,rfl⟩;refine⟨by simp[QK],?_⟩;simp[e];refine Cs (oM hy) ?_;simp[e];refine dY.rel (tQ b p cw) b.hex aal ?_;rintro _ _ ⟨t,A,B,rfl,c,k2,rfl⟩;refine⟨by simp[QK],?_⟩;simp[e];refine Cs (oM s) ?_;simp[e];exact⟨t,A,B,rfl,c,l.trans k2,rfl⟩
 ·by_cases o:cr f.acH 2=true\/cr f.acH 3=true
  ·have d:dq (cr f.acH 2) true (cr f.acH 3)=true:=by rcases o with h|h<;>simp[dq,h]
   rw[d] at m;simp only[if_true] at m;have⟨x,p,m⟩:=cJ m;have⟨y,hy,m⟩:=cJ m;have⟨u,hu,m⟩:=cJ m;have⟨v,H,m⟩:=cJ m;have⟨z,s,m⟩:=cJ m;cases m;have e:=Aj (Aj e p) hu;cases G:cr f.acH 2 with
   |true=>
    have e:=Aj e G;simp[e];refine dY.rel (C g hy cw) g.hex aal ?_;rintro _ _ ⟨D,E,F,rfl,b,l,rfl⟩;refine⟨by simp[QK],?_⟩;simp[e];refine dY.rel (C b H cw) b.hex aal ?_;rintro _ _ ⟨t,A,B,rfl,c,k2,rfl⟩;refine⟨by simp[QK],?_⟩;simp[e];refine Cs (w_ s) ?_;simp[e];exact⟨t,A,B,rfl,c,l.trans k2,rfl⟩
   |false=>
    have I:cr f.acH 3=true:=by rcases o with h|h<;>simp_all
    have e:=Aj (Aj e G) I;simp[e];refine dY.rel (C g hy cw) g.hex aal ?_;rintro _ _ ⟨D,E,F,rfl,b,l,rfl⟩;refine⟨by simp[QK],?_⟩;simp[e];refine dY.rel (C b H cw) b.hex aal ?_;rintro _ _ ⟨t,A,B,rfl,c,k2,rfl⟩;refine⟨by simp[QK],?_⟩;simp[e];refine Cs (w_ s) ?_;simp[e];exact⟨t,A,B,rfl,c,l.trans k2,rfl⟩
  ·have G:cr f.acH 2=false:=by simpa usingλh=>o (.inl h)
   have I:cr f.acH 3=false:=by simpa usingλh=>o (.inr h)
   have d:dq (cr f.acH 2) true (cr f.acH 3)=false:=by simp[dq,G,I]
   rw[d] at m;simp only[hZ,fG] at m;have e:=Aj (Aj (Aj e G) I) (PA (k:=k) cw);rcases Io e m with⟨e,m⟩|⟨e,m⟩
   ·have⟨x,p,m⟩:=cJ m;have⟨y,hy,m⟩:=cJ m;have⟨z,s,m⟩:=cJ m;cases m;have e:=Aj e p;simp[e];refine dY.rel (C (k:=k+1) g hy cw) g.hex aal ?_;rintro _ _ ⟨D,E,F,rfl,b,l,rfl⟩;refine⟨by simp[QK],?_⟩;simp[e];refine Cs (tI s) ?_;simp[e];exact⟨D,E,F,rfl,b,l,rfl⟩
   ·have⟨x,p,m⟩:=cJ m;have⟨y,hy,m⟩:=cJ m;have⟨u,hu,m⟩:=cJ m;have⟨v,H,m⟩:=cJ m;have⟨w,hw,m⟩:=cJ m;have⟨q,J,m⟩:=cJ m;have⟨z,s,m⟩:=cJ m;cases m;simp[e];refine gZ.fnP (Ia n C g p hy hu H hw cw) ?_;rintro _ _ ⟨D,E,F,rfl,b,l,rfl⟩;simp[e];refine gZ.fnP (tQ b J cw) ?_;rintro _ _ ⟨t,A,B,rfl,c,k2,rfl⟩;simp[e];refine Cf (oM s) ?_;simp[e];exact⟨t,A,B,rfl,c,l.trans k2,rfl⟩
def xY:∀n,Nb n
 |0=>λ_ hm _=>by cases hm
 |n+1=>HM n (xY n)
def E0.start{B:Nat}{a:Fm}:E0 B 1 0 a 1048576 [gT Fm.av [a] 0,[AV.nU B 0 1 1,sI 1048576]] [a]:=by
 refine⟨1,0,cw,th,th,th,th,th,λm x hm=>?_⟩;cases m with
 |zero=>simp at hm;subst hm;rfl
 |succ m=>simp at hm
def yG(T:cW)(d:qc T){H:cd}{a0 a1 a:Fm}{b:Int}(hm:iF a0 a1=some (a,b)):dB prog T 24 [Fm.av a0,Fm.av a1] H (AV.tuple [Fm.av a,sI b]) H:=by
 rw[iF] at hm;refine du.xF (Post:=λx K=>x=AV.tuple [Fm.av a,sI b]/\∃X,K=H++X) ?_ (λ_ _ h=>⟨_,h.2.choose_spec,by rw[h.1];simp[AV.low,AV.gD],h.1,rfl⟩);have e:=d;refine wi acM func24 [17] [] 999 ?_;have⟨c,f,m⟩:=cJ hm;simp[e];refine Cf (BH T d f) ?_;rcases Io e m with⟨e,m⟩|⟨e,m⟩
 ·cases m;simp[e]
 ·have⟨x,g,m⟩:=cJ m;have⟨y,hy,m⟩:=cJ m;cases m;simp[e];refine Cs NA ?_ (by simp[QK]);simp[e];refine dY.rel (xY FU (k:=0) E0.start g (by rw[cV];omega)) E0.start.hex aal ?_;rintro _ _ ⟨j,l,n,rfl,i,o,rfl⟩;refine⟨by simp[QK],?_⟩;simp[e];refine Cs (uc hy) ?_;simp[e]
def n_{n:Nat}:C1 prog 43 (jN n) Fm.av Fm.av:=by
 refine i1 λn x=>v1 func43 λT H a0 r m e=>?_;rw[jN] at m;simp[e];refine d_ m iz λt m=>?_;simp[e];refine Bu e m 999 (λw o f h=>∃c,(h=H/\f.1 15=sL Tm.av a0.cv/\f.1 16=sI (cE a0.cv)/\f.1 17=sI w/\bx f 1 (Fm.av a0).cells/\bx f 2 [sI 0,sI 0,nL,nL,nL]/\bx f 3 [sI a0.acH,sI t.acH,sL Ty.av t.acI,sT c Tm.av o,nL])/\Ow f [26] c o) (by exact⟨.full,VW,hD.full⟩) (λw _ o q _ _ _ _ E e m z p=>?_) (λo q _ _ E m=>?_)
 ·have⟨c,E,i⟩:=E;have e:=Aj e E;simp[e];refine d_ m p4 λu m=>?_;have⟨e,m⟩:=Ck e m;simp[e];refine Ad (f:=Tm.av) o [u] i Bl e.2 ?_;simp[e];cases m;exact p _ _ _ ⟨(.loc 26 (q.ds 26+1)),VW,(On 26)⟩ z
 have⟨c,E,i⟩:=E;have e:=Aj e E;dsimp only[b9]at m;simp[e];refine Wr e m 999 (λs j f h=>∃a b,(h=H/\f.1 30=sL Fm.av a0.acI/\f.1 31=sI (cE a0.acI)/\f.1 32=sI s/\bx f 2 [sI 0,sI 0,nL,nL,nL]/\bx f 3 [sI a0.acH,sI t.acH,sL Ty.av t.acI,sT a Tm.av o,sT b Fm.av j])/\Ow f [26] a o/\Ow f [41] b j) (by exact⟨c,.full,VW,i,hD.full⟩) (λj l _ _ E m=>?_) (λs _ j l _ _ _ _ E e m z p=>?_)
 ·have⟨a,b,E,k,d⟩:=E;have e:=Aj e E;dsimp only[b9]at m;exact au
 have⟨a,b,E,k,d⟩:=E;have e:=Aj e E;simp[e];refine d_ m x λv m=>?_;have⟨e,m⟩:=Ck e m;simp[e];refine Ad (f:=Fm.av) j [v] d Ix e.2 ?_;simp[e];cases m;exact p _ _ _ ⟨a,(.loc 41 (l.ds 41+1)),VW,(hD.other k d gw gw),(On 41)⟩ z
def lj:C3 prog 14 gf Fm.av sI Fm.av Fm.av:=by
 refine v3 func14 λT H a0 a1 a2 r m e=>?_;rw[gf] at m;simp[e];refine d_ m n_ λa m=>?_;simp[e];refine d_ m n_ λb m=>?_;have e:=Aj e (show AV.agg [sI a0,sI 0,AV.slice .ja [],AV.slice .ja [],AV.slice .ja [Fm.av a,Fm.av b]]=Fm.av (Fm.mk a0 (Ty.mk 0 []) [] [a,b]) by rw[Fm.ez];rfl);exact au
def eZ{n:Nat}:C2 prog 37 (dr n) sB Ty.av Ty.av:=by
 refine i2 λn b=>u2 3 func37 λT H a0 a1 r m e=>?_;rw[dr] at m;simp[e];refine wj 999 999 (λf h=>h=H/\f.1 19=sB (dq (cG a0.acH a1.acH) true (cG (cE a0.acI) (cE a1.acI)))/\bx f 2 (Ty.av a0).cells/\bx f 3 (Ty.av a1).cells) (λ_ g=>?_) ?_
 ·rcases Pb (cG a0.acH a1.acH) e with e|e
  ·exact aj
  exact aj
 rintro _ _ E;have e:=Aj e E;refine Il e m λe m=>?_;simp[e];refine Wr e m 999 (λa _ f h=>h=H/\f.1 22=sI (cE a0.acI)/\f.1 23=sI a/\bx f 2 (Ty.av a0).cells/\bx f 3 (Ty.av a1).cells) VW (λ_ _ _ _ E m=>?_) (λa _ _ _ _ _ _ _ E e m z p=>?_)
 ·have e:=Aj e E;dsimp only[b9]at m;exact au
 have e:=Aj e E;have⟨c,e,m⟩:=fJ e m;simp[e];refine d_ m b λ_ m=>?_;refine Im e m λe m=>?_;exact al
def wA{n:Nat}:C2 prog 118 (ir n) sB Tm.av Tm.av:=by
 refine i2 λn c=>u2 3 func118 λT H a0 a1 r m e=>?_;rw[ir] at m;simp[e];refine Wj m 999 999 (λa f h=>∃v2,(h=H/\f.1 34=sB v2/\bx f 2 (Tm.av a0).cells/\bx f 3 (Tm.av a1).cells)/\a v2=some r) (λa _ g m=>?_) ?_
 ·apply Iq e m<;>intro e m
  ·exact iO
  apply Iq e m<;>intro e m
  ·exact iO
  simp[e];refine dM m eZ λ_ m=>?_;apply Ir e m<;>intro e m
  ·exact iO
  exact iO
 rintro _ _ ⟨v2,E,m⟩;have e:=Aj e E;refine Il e m λe m=>?_;simp[e];refine Wr e m 999 (λb _ f h=>h=H/\f.1 37=sI (cE a0.acI)/\f.1 38=sI b/\bx f 2 (Tm.av a0).cells/\bx f 3 (Tm.av a1).cells) VW (λ_ _ _ _ E m=>?_) (λb _ _ _ _ _ _ _ E e m z p=>?_)
 ·have e:=Aj e E;dsimp only[b9]at m;exact au
 have e:=Aj e E;have⟨d,e,m⟩:=fJ e m;simp[e];refine d_ m c λ_ m=>?_;refine Im e m λe m=>?_;exact al
def Dj:C2 prog 71 oI sB (sL Tm.av) (sL Tm.av):=by
 refine v2 func71 λT H a0 a1 r m e=>?_;rw[oI] at m;refine Il e m λe m=>?_;simp[e];refine Wr e m 999 (λa _ f h=>h=H/\f.1 0=sL Tm.av a0/\f.1 1=sL Tm.av a1/\f.1 12=sI (cE a0)/\f.1 13=sI a) VW (λ_ _ _ _ E m=>?_) (λa _ _ _ _ _ _ _ E e m z p=>?_)
 ·have e:=Aj e E;dsimp only[b9]at m;exact au
 have e:=Aj e E;have⟨b,e,m⟩:=fJ e m;simp[e];refine d_ m wA λ_ m=>?_;refine Im e m λe m=>?_;exact al
def IC{n:Nat}:C2 prog 25 (nF n) sB Fm.av Fm.av:=by
 refine i2 λn c=>u2 3 func25 λT H a0 a1 r m e=>?_;rw[nF] at m;simp[e];refine Wj m 999 999 (λa f h=>∃v2,(h=H/\f.1 35=sB v2/\bx f 2 (Fm.av a0).cells/\bx f 3 (Fm.av a1).cells)/\a v2=some r) (λa _ g m=>?_) ?_
 ·apply Iq e m<;>intro e m
  ·exact iO
  simp[e];refine dM m eZ λ_ m=>?_;apply Ir e m<;>intro e m
  ·exact iO
  simp[e];refine dM m Dj λ_ m=>?_;apply Ir e m<;>intro e m
  ·exact iO
  exact iO
 rintro _ _ ⟨v2,E,m⟩;have e:=Aj e E;refine Il e m λe m=>?_;simp[e];refine Wr e m 999 (λb _ f h=>h=H/\f.1 38=sI (cE a0.acI)/\f.1 39=sI b/\bx f 2 (Fm.av a0).cells/\bx f 3 (Fm.av a1).cells) VW (λ_ _ _ _ E m=>?_) (λb _ _ _ _ _ _ _ E e m z p=>?_)
 ·have e:=Aj e E;dsimp only[b9]at m;exact au
 have e:=Aj e E;have⟨d,e,m⟩:=fJ e m;simp[e];refine d_ m c λ_ m=>?_;refine Im e m λe m=>?_;exact al
def Iw(T:cW)(b:qc T){H:cd}{a:Bool}(hm:sR=some a):dB prog T 5 [] H (sB a) H:=by
 rw[sR] at hm;have e:=b;refine wi acM func5 [] [] 6 ?_;simp[e];refine dM hm sZ λ_ m=>?_;simp[e];refine dM m sZ λ_ m=>?_;simp[e];refine dM m s6 λ_ m=>?_;simp[e];refine dM m sZ λ_ m=>?_;simp[e];refine dM m sZ λ_ m=>?_;simp[e];refine dM m s6 λ_ m=>?_;simp[e];refine lZ m (yG T b) λ_ _ m=>?_;simp[e];refine yJ m 999 999 (λc f h=>∃v10,(h=H/\f.1 0=sB v10)/\c v10=some a) ?_ (λc _ g m=>?_)
 ·rintro _ _ ⟨v10,E,m⟩;have e:=Aj e E;exact au
 apply Ir e m<;>intro e m
 ·exact iO
 simp[e];refine d_ m lj λ_ m=>?_;simp[e];refine d_ m lj λ_ m=>?_;simp[e];refine d_ m IC λ_ m=>?_;exact iO
def Po:C1 prog 6 Es sB (sL sI):=by
 refine v1 func6 λT H a0 r m e=>?_;rw[Es] at m;exact au
def Sr:jl prog 7=true:=by kernel_rfl
def P_(T:cW){a0:List Int}{b:cH}(hm:La a0=some b):dB prog T 7 [AV.slice .ja (List.map (λn=>AV.sc (Value.int .i64 n)) a0)] [] (AV.de 0 0) (dC [[]] 0 [AV.slice .ja (List.map (λn=>AV.sc (Value.int .i64 n)) b.l),AV.sc (.int .i64 b.ua)]):=by
 obtain rfl:=gv hm;refine du.intro (fn:=f7) func7 rfl Sr (zC rfl) ?_;refine fb.zJ λc a=>?_;refine fb.region [] aah ?_;simp;refine a _ _ ?_;refine fb.zJ λc a=>?_;refine fb.region [5] aah ?_;simp;refine a _ _ ?_;refine fb.ret ?_;simp[xT,dC]
def Q_:C2 prog 41 E7 sI sI sI:=by
 refine v2 func41 λT H a0 a1 r m e=>?_;rw[E7] at m;have⟨e,m⟩:=Ck e m;have⟨e,m⟩:=Ck e m;exact au
def fK(T:cW){H:cd}{a0:cH}{a1 i:Int}{a:cH}{b:Nat}(c:H[b]?=some [sL sI a0.l,sI a0.ua])(hm:eQ a0 a1=some (i,a)):dB prog T 12 [AV.de b 0,sI a1] H (sI i) (dC H b [sL sI a.l,sI a.ua]):=by
 rw[eQ] at hm;have d:=fu c;refine du.RP c ?_;have e:=d;refine wi acM func12 [] [(1,true,[]),(3,true,[])] 3 ?_;simp[e];refine wj 999 999 (λf h=>h=dC H b [sL sI a0.l,sI a0.ua]/\f.1 0=AV.de b 0/\f.1 1=sI a1/\f.1 19=sB (dq (tD a1 1) true (qf a0.ua (cE a0.l)))) (λ_ g=>?_) ?_
 ·rcases Pb (tD a1 1) e with e|e
  ·exact aj
  exact aj
 rintro _ _ E;have e:=Aj e E;refine Il e hm λe m=>?_;have⟨j,e,m⟩:=fJ e m;simp[e];refine dM m Q_ λ_ m=>?_;exact au
def gR:C0 prog 26 ib Ty.av:=by
 refine v0 func26 λT H r m e=>?_;rw[ib] at m;exact au
def mv:C0 prog 27 lu Ty.av:=by
 refine v0 func27 λT H r m e=>?_;rw[lu] at m;exact au
def zU:C0 prog 28 sG Ty.av:=by
 refine v0 func28 λT H r m e=>?_;rw[sG] at m;exact au
def CJ:C2 prog 29 sb Ty.av Ty.av Ty.av:=by
 refine v2 func29 λT H a0 a1 r m e=>?_;rw[sb] at m;simp[e];refine d_ m iz λa m=>?_;simp[e];refine d_ m iz λb m=>?_;have e:=Aj e (show AV.agg [sI 3,AV.slice .ja [Ty.av a,Ty.av b]]=Ty.av (Ty.mk 3 [a,b]) by rw[Ty.ez];rfl);exact au
def l7:C2 prog 30 i_ Ty.av Ty.av Ty.av:=by
 refine v2 func30 λT H a0 a1 r m e=>?_;rw[i_] at m;simp[e];refine d_ m iz λa m=>?_;simp[e];refine d_ m iz λb m=>?_;have e:=Aj e (show AV.agg [sI 4,AV.slice .ja [Ty.av a,Ty.av b]]=Ty.av (Ty.mk 4 [a,b]) by rw[Ty.ez];rfl);exact au
def Mg(T:cW):∀(n:Nat),(∀{H:cd} {a0:cH} {a1:Int} {i:Ty} {a:cH} {b:Nat} (c:H[b]?=some [sL sI a0.l,sI a0.ua]) (hm:j7 n a0 a1=some (i,a)),dB prog T 9 [AV.de b 0,sI a1] H (Ty.av i) (dC H b [sL sI a.l,sI a.ua])):=by
  intro n
  induction n with
  |zero=>
    skip
    all_goals(intro _ _;intros;rename_i hm;cases hm)
  |succ n j=>
 intro H a0 a1 i a b c hm;rw[j7] at hm;have k:=fu c;refine du.RP c ?_;have e:=k;refine wi acM func9 [] [] 2 ?_;simp[e];refine yJ hm 3 999 (λo f h=>∃v2,(h=dC H b [sL sI v2.l,sI v2.ua]/\f.1 4=AV.gJ 4 (f.gen 4) 0/\f.box 4=some [sI 0,nL])/\o v2=some (i,a)) ?_ (λo _ g m=>?_)
 ·rintro _ _ ⟨v2,E,m⟩;have e:=Aj e E;simp[e];refine dM m gR λ_ m=>?_;exact au
 simp[e];refine lZ m (fK T VW) λd d8 m=>?_;simp[e];refine wj 999 999 (λf h=>h=dC H b [sL sI d8.l,sI d8.ua]/\f.1 0=AV.de b 0/\f.1 1=sI a1/\f.1 6=sI d/\f.1 7=sB (dq (cr d 0) true (dq (cr d 1) true (cr d 2)))/\bx f 4 [sI 0,nL]) (λ_ g=>?_) ?_
 ·rcases Pb (cr d 0) e with e|e
  ·exact aj
  rcases Pb (cr d 1) e with e|e
  ·exact aj
  exact aj
 rintro _ _ E;have e:=Aj e E;apply Iq e m<;>intro e m
 ·simp[e];refine dM m gR λ_ m=>?_;exact au
 apply Iq e m<;>intro e m
 ·simp[e];refine dM m mv λ_ m=>?_;exact au
 apply Iq e m<;>intro e m
 ·simp[e];refine dM m zU λ_ m=>?_;exact au
 apply Iq e m<;>intro e m
 ·apply Ir e m<;>intro e m
  ·exact iO
  simp[e];refine lZ m (j VW) λ_ d16 m=>?_;simp[e];refine lZ m (j VW) λ_ d18 m=>?_;simp[e];refine dM m CJ λ_ m=>?_;exact au
 apply Ir e m<;>intro e m
 ·exact iO
 apply Ir e m<;>intro e m
 ·exact iO
 simp[e];refine lZ m (j VW) λ_ d21 m=>?_;simp[e];refine lZ m (j VW) λ_ d23 m=>?_;simp[e];refine dM m l7 λ_ m=>?_;exact au
def vm(T:cW){H:cd}{a0:cH}{a1:Int}{d:Ty}{a:cH}{b:Nat}(c:H[b]?=some [sL sI a0.l,sI a0.ua]){n:Nat}(hm:j7 n a0 a1=some (d,a)):dB prog T 9 [AV.de b 0,sI a1] H (Ty.av d) (dC H b [sL sI a.l,sI a.ua]):=(Mg T n) c hm
def HD(T:cW){H:cd}{a0:cH}{q:List Ty}{b:cH}{d:Nat}(i:H[d]?=some [sL sI a0.l,sI a0.ua])(hm:su a0=some (q,b)):dB prog T 8 [AV.de d 0] H (sL Ty.av q) (dC H d [sL sI b.l,sI b.ua]):=by
 rw[su] at hm;have k:=fu i;refine du.RP i ?_;have e:=k;refine wi acM func8 [] [] 999 ?_;simp[e];refine lZ hm (fK T VW) λ_ d2 m=>?_;simp[e];refine Wn m 999 (λc f h=>∃a,(h=dC H d [sL sI c.2.2.l,sI c.2.2.ua]/\f.1 0=AV.de d 0/\f.1 3=sT a Ty.av c.1/\f.1 4=sI c.2.1)/\Ow f [15] a c.1) (by exact⟨.full,VW,hD.full⟩) (λc n _ _ _ _ E m z p=>?_);have⟨v10,v11,v12⟩:=c;have⟨a,E,j⟩:=E;have e:=Aj e E;dsimp only[HO]at m;apply Ir e m<;>intro e m
 ·cases m;have m:=Qb z;dsimp only[HO]at m;exact au
 simp[e];refine lZ m (vm T VW) λo d14 m=>?_;have⟨e,m⟩:=Ck e m;simp[e];refine Ao (f:=Ty.av) v10 [o] j AO e.2 ?_;simp[e];cases m;exact p _ _ _ ⟨(.loc 15 (n.ds 15+1)),VW,(On 15)⟩ z
def Ox:C2 prog 32 Ah (sL sI) (sL Ty.av) Ty.av:=by
 refine v2 func32 λT H a0 a1 r m e=>?_;rw[Ah] at m;simp[e];refine Wr e m 0 (λi s2 f h=>∃b,(h=H/\f.1 0=sL Ty.av a0/\f.1 5=sT b sI s2/\f.1 8=sI (cE a0)/\f.1 9=sI i/\bx f 3 (Ty.av a1).cells)/\Ow f [25] b s2) (by exact⟨.full,VW,hD.full⟩) (λs2 j _ _ E m=>?_) (λi _ s2 j _ _ _ l E e m z p=>?_)
 ·have⟨b,E,c⟩:=E;have e:=Aj e E;apply wg 999;dsimp only[b9]at m;exact au
 have⟨b,E,c⟩:=E;have e:=Aj e E;apply wg 5;simp[e];refine yJ m 999 999 (λk f h=>∃v11 a,(h=H/\f.1 0=sL Ty.av a0/\f.1 5=sT a sI v11/\f.1 8=sI (cE a0)/\f.1 9=sI i/\bx f 3 (Ty.av a1).cells)/\Ow f [25] a v11/\k v11=some l) ?_ (λk _ g m=>?_)
 ·rintro _ _ ⟨v11,a,E,d,m⟩;have e:=Aj e E;simp[e];cases m;exact p _ _ _ ⟨a,VW,d⟩ z
 have⟨n,e,m⟩:=fJ e m;simp[e];refine d_ m eZ λ_ m=>?_;apply Ir e m<;>intro e m
 ·simp[e];exact g _ _ ⟨s2,b,VW,c,m⟩
 have⟨e,m⟩:=Ck e m;simp[e];refine Ao (f:=sI) s2 [i] c Ry e.2 ?_;simp[e];exact g _ _ ⟨(dN s2 [i]),(.loc 25 (j.ds 25+1)),VW,(On 25),m⟩
def fX:C1 prog 33 eJ Tm.av sI:=by
 refine v1 func33 λT H a0 r m e=>?_;rw[eJ] at m;exact au
def tO:C2 prog 36 o8 (sL Ty.av) (sL Ty.av) (sL Ty.av):=by
 refine v2 func36 λT H a0 a1 r m e=>?_;rw[o8] at m;have⟨e,m⟩:=Ck e m;simp[e];refine Ao (f:=Ty.av) [] a0 (hD.full (D:=[])) AO e.2 ?_;have⟨e,m⟩:=Ck e m;simp[e];refine Ao (f:=Ty.av) (dN [] a0) a1 (hD.new (D:=[6]) (d:=6) gw) AO e.2 ?_;exact au
def ku:C3 prog 35 j5 Tm.av sI Ty.av (sL Tm.av):=by
 refine v3 func35 λT H a0 a1 a2 r m e=>?_;rw[j5] at m;simp[e];refine dM m eK λ_ m=>?_;simp[e];refine dM m iz λ_ m=>?_;exact au
def jx:C1 prog 72 jb Tm.av Tm.av:=by
 refine v1 func72 λT H a0 r m e=>?_;rw[jb] at m;simp[e];refine d_ m gR λ_ m=>?_;simp[e];refine d_ m ku λ_ m=>?_;exact au
def xS:C3 prog 73 qm Tm.av Tm.av Tm.av Tm.av:=by
 refine v3 func73 λT H a0 a1 a2 r m e=>?_;rw[qm] at m;simp[e];refine d_ m gR λ_ m=>?_;simp[e];refine d_ m ku λ_ m=>?_;exact au
def HZ:C0 prog 39 s5 Tm.av:=by
 refine v0 func39 λT H r m e=>?_;rw[s5] at m;simp[e];refine dM m fX λ_ m=>?_;simp[e];refine dM m fX λ_ m=>?_;simp[e];refine dM m eK λ_ m=>?_;simp[e];refine dM m jx λ_ m=>?_;simp[e];refine dM m jx λ_ m=>?_;simp[e];refine dM m fX λ_ m=>?_;simp[e];refine dM m xS λ_ m=>?_;simp[e];refine dM m jx λ_ m=>?_;simp[e];refine dM m jx λ_ m=>?_;exact au
def KK:C2 prog 38 BN Tm.av Tm.av (sL Tm.av):=by
 refine v2 func38 λT H a0 a1 r m e=>?_;rw[BN] at m;simp[e];refine Wr e m 999 (λc s2 f h=>h=H/\f.1 7=sL Tm.av a1/\f.1 8=sI (cE a1)/\f.1 9=sI c/\bx f 2 [sI s2.1,sI s2.2.1,sI s2.2.2.1,sL Ty.av s2.2.2.2.1,sL Tm.av s2.2.2.2.2]/\bx f 4 [sI 0,sI 0,sI 0,nL,nL]) VW (λs2 _ _ _ E m=>?_) (λc _ s2 _ _ _ _ _ E e m z p=>?_)
 ·have⟨v10,v11,v12,a,b⟩:=s2;have e:=Aj e E;dsimp only[b9,Ef]at m;exact au
 have⟨v10,v11,v12,a,b⟩:=s2;have e:=Aj e E;dsimp only[Ef]at m;simp[e];refine dM m eK λ_ m=>?_;exact al
def HR:C0 prog 74 sK Tm.av:=by
 refine v0 func74 λT H r m e=>?_;rw[sK] at m;simp[e];refine dM m eK λ_ m=>?_;simp[e];refine dM m fX λ_ m=>?_;simp[e];refine dM m jx λ_ m=>?_;simp[e];refine dM m jx λ_ m=>?_;simp[e];refine dM m fX λ_ m=>?_;simp[e];refine dM m xS λ_ m=>?_;simp[e];refine dM m jx λ_ m=>?_;exact au
def Kn:C0 prog 40 uM Tm.av:=by
 refine v0 func40 λT H r m e=>?_;rw[uM] at m;simp[e];refine dM m fX λ_ m=>?_;simp[e];refine dM m HR λ_ m=>?_;simp[e];refine dM m fX λ_ m=>?_;simp[e];refine dM m eK λ_ m=>?_;simp[e];refine dM m jx λ_ m=>?_;simp[e];refine dM m jx λ_ m=>?_;simp[e];refine dM m fX λ_ m=>?_;simp[e];refine dM m xS λ_ m=>?_;simp[e];refine dM m jx λ_ m=>?_;simp[e];refine dM m jx λ_ m=>?_;exact au
def LM(T:cW):∀(n:Nat),(∀{H:cd} {a0:cH} {a1:List Ty} {a2:Ty} {a3:Int} {q:Tm} {b:cH} {c:Nat} (r:H[c]?=some [sL sI a0.l,sI a0.ua]) (hm:eA n a0 a1 a2 a3=some (q,b)),dB prog T 11 [AV.de c 0,sL Ty.av a1,Ty.av a2,sI a3] H (Tm.av q) (dC H c [sL sI b.l,sI b.ua])):=by
  intro n
  induction n with
  |zero=>
    skip
    all_goals(intro _ _;intros;rename_i hm;cases hm)
  |succ n a=>
 intro H a0 a1 a2 a3 q b c r hm;rw[eA] at hm;have x:=fu r;refine du.RP r ?_;have e:=x;refine wi acM func11 [] [] 5 ?_;simp[e];refine dM hm Ox λC m=>?_;simp[e];refine Wj m 999 0 (λy f h=>∃v3 v4,(h=dC H c [sL sI v4.l,sI v4.ua]/\f.1 0=AV.de c 0/\f.1 1=sL Ty.av a1/\f.1 3=sI a3/\f.1 9=sL sI C/\f.1 27=sB v3/\bx f 6 (Ty.av a2).cells/\bx f 8 [sI 0,sI 0,sI 0,nL,nL])/\y v3 v4=some (q,b)) (λy _ g m=>?_) ?_
 ·apply Ir e m<;>intro e m
  ·exact ak2
  simp[e];refine lZ m (fK T VW) λ_ d8 m=>?_;exact ak2
 rintro _ _ ⟨v3,v4,E,m⟩;have e:=Aj e E;apply Iq e m<;>intro e m
 ·apply wg 999;simp[e];refine lZ m (fK T VW) λ_ d11 m=>?_;have⟨D,e,m⟩:=fJ e m;simp[e];refine dM m fX λ_ m=>?_;exact au
 apply wg 2;simp[e];refine yJ m 999 6 (λs f h=>∃j,(h=dC H c [sL sI j.l,sI j.ua]/\f.1 0=AV.de c 0/\f.1 1=sL Ty.av a1/\f.1 3=sI a3/\bx f 6 (Ty.av a2).cells/\bx f 8 [sI 0,sI 0,sI 0,nL,nL])/\s j=some (q,b)) ?_ (λs _ g m=>?_)
 ·rintro _ _ ⟨j,E,m⟩;have e:=Aj e E;simp[e];apply Iq e m<;>intro e m
  ·apply wg 1;simp[e];refine yJ m 999 999 (λt f h=>∃v20,(h=dC H c [sL sI v20.l,sI v20.ua]/\f.1 0=AV.de c 0/\f.1 8=AV.gJ 8 (f.gen 8) 0/\f.box 8=some [sI 0,sI 0,sI 0,nL,nL])/\t v20=some (q,b)) ?_ (λt _ g m=>?_)
   ·rintro _ _ ⟨v20,E,m⟩;have e:=Aj e E;simp[e];refine lZ m (fK T VW) λ_ d25 m=>?_;simp[e];refine dM m sZ λ_ m=>?_;exact au
   apply Ir e m<;>intro e m
   ·exact iO
   simp[e];refine lZ m (fK T VW) λ_ d28 m=>?_;apply Iq e m<;>intro e m
   ·simp[e];refine lZ m (a VW) λ_ d30 m=>?_;simp[e];refine dM m eK λ_ m=>?_;exact au
   apply Iq e m<;>intro e m
   ·simp[e];refine d_ m HZ λ_ m=>?_;simp[e];refine sm m (a VW) λ_ d34 m=>?_;simp[e];refine sm m (a VW) λ_ d36 m=>?_;simp[e];refine d_ m KK λ_ m=>?_;exact au
   apply Ir e m<;>intro e m
   ·exact iO
   simp[e];refine d_ m Kn λ_ m=>?_;simp[e];refine sm m (a VW) λ_ d40 m=>?_;simp[e];refine sm m (a VW) λ_ d42 m=>?_;simp[e];refine d_ m KK λ_ m=>?_;exact au
  apply wg 3;simp[e];apply Ir e m<;>intro e m
  ·apply wg 999;apply Iq e m<;>intro e m
   ·have⟨F,e,m⟩:=fJ e m;simp[e];refine sm m (a VW) λ_ d46 m=>?_;have⟨G,e,m⟩:=fJ e m;simp[e];refine sm m (a VW) λ_ d49 m=>?_;simp[e];refine d_ m eK λ_ m=>?_;exact au
   apply Ir e m<;>intro e m
   ·simp[e];refine dM m eK λ_ m=>?_;exact au
   have⟨I,e,m⟩:=fJ e m;simp[e];refine d_ m tO λ_ m=>?_;have⟨J,e,m⟩:=fJ e m;simp[e];refine sm m (a VW) λ_ d56 m=>?_;simp[e];refine d_ m ku λ_ m=>?_;exact au
  apply wg 2;simp[e];refine Wj m 999 999 (λu f h=>∃v59 k,(h=dC H c [sL sI k.l,sI k.ua]/\f.1 0=AV.de c 0/\f.1 1=sL Ty.av a1/\f.1 3=sI a3/\f.1 276=sB v59/\bx f 6 (Ty.av a2).cells/\bx f 8 [sI 0,sI 0,sI 0,nL,nL])/\u v59 k=some (q,b)) (λu _ g m=>?_) ?_
  ·apply Ir e m<;>intro e m
   ·exact ak2
   simp[e];refine lZ m (fK T VW) λ_ d64 m=>?_;exact ak2
  rintro _ _ ⟨v59,k,E,m⟩;have e:=Aj e E;apply Ir e m<;>intro e m
  ·simp[e];refine dM m eK λ_ m=>?_;exact au
  simp[e];refine d_ m gR λ_ m=>?_;simp[e];refine sm m (a VW) λ_ d69 m=>?_;simp[e];refine sm m (a VW) λ_ d71 m=>?_;simp[e];refine d_ m eK λ_ m=>?_;exact au
 apply Ir e m<;>intro e m
 ·exact iO
 simp[e];refine lZ m (fK T VW) λ_ d74 m=>?_;apply Iq e m<;>intro e m
 ·simp[e];refine lZ m (vm T VW) λ_ d76 m=>?_;simp[e];refine d_ m tO λ_ m=>?_;simp[e];refine sm m (a VW) λ_ d79 m=>?_;simp[e];refine d_ m ku λ_ m=>?_;simp[e];refine sm m (a VW) λ_ d82 m=>?_;simp[e];refine d_ m eK λ_ m=>?_;exact au
 apply Iq e m<;>intro e m
 ·simp[e];refine lZ m (vm T VW) λ_ d85 m=>?_;simp[e];refine sm m (a VW) λ_ d87 m=>?_;simp[e];refine sm m (a VW) λ_ d89 m=>?_;simp[e];refine d_ m eK λ_ m=>?_;simp[e];refine d_ m eK λ_ m=>?_;exact au
 apply Iq e m<;>intro e m
 ·simp[e];refine d_ m gR λ_ m=>?_;simp[e];refine d_ m gR λ_ m=>?_;simp[e];refine d_ m tO λ_ m=>?_;simp[e];refine sm m (a VW) λ_ d96 m=>?_;simp[e];refine d_ m ku λ_ m=>?_;simp[e];refine d_ m ku λ_ m=>?_;simp[e];refine sm m (a VW) λ_ d100 m=>?_;simp[e];refine sm m (fK T VW) λ_ d102 m=>?_;simp[e];refine d_ m sZ λ_ m=>?_;simp[e];refine d_ m ku λ_ m=>?_;exact au
 apply Iq e m<;>intro e m
 ·simp[e];refine d_ m gR λ_ m=>?_;simp[e];refine d_ m mv λ_ m=>?_;simp[e];refine d_ m gR λ_ m=>?_;simp[e];refine d_ m mv λ_ m=>?_;simp[e];refine d_ m tO λ_ m=>?_;simp[e];refine sm m (a VW) λ_ d111 m=>?_;simp[e];refine d_ m ku λ_ m=>?_;simp[e];refine d_ m ku λ_ m=>?_;simp[e];refine d_ m ku λ_ m=>?_;simp[e];refine sm m (a VW) λ_ d116 m=>?_;simp[e];refine d_ m mv λ_ m=>?_;simp[e];refine sm m (a VW) λ_ d119 m=>?_;simp[e];refine d_ m ku λ_ m=>?_;exact au
 apply Iq e m<;>intro e m
 ·simp[e];refine lZ m (vm T VW) λ_ d122 m=>?_;simp[e];refine sm m (a VW) λ_ d124 m=>?_;simp[e];refine sm m (a VW) λ_ d126 m=>?_;simp[e];refine d_ m eK λ_ m=>?_;simp[e];refine d_ m eK λ_ m=>?_;exact au
 apply Ir e m<;>intro e m
 ·exact iO
 simp[e];refine Wr e m 0 (λd _ f h=>h=dC H c [sL sI d74.l,sI d74.ua]/\f.1 0=AV.de c 0/\f.1 1=sL Ty.av a1/\f.1 3=sI a3/\f.1 176=sI (cE a1)/\f.1 177=sI d/\bx f 6 (Ty.av a2).cells/\bx f 8 [sI 0,sI 0,sI 0,nL,nL]) VW (λ_ _ _ _ E m=>?_) (λd _ _ _ _ _ _ v E e m z p=>?_)
 ·have e:=Aj e E;apply wg 999;dsimp only[b9]at m;exact iO
 have e:=Aj e E;apply wg 11;have⟨w,e,m⟩:=fJ e m;simp[e];refine Wj m 999 999 (λo f h=>∃i,(h=dC H c [sL sI d74.l,sI d74.ua]/\f.1 0=AV.de c 0/\f.1 1=sL Ty.av a1/\f.1 3=sI a3/\f.1 15=sI d/\f.1 176=sI (cE a1)/\f.1 177=sI d/\f.1 198=sB i/\bx f 6 (Ty.av a2).cells/\bx f 8 [sI 0,sI 0,sI 0,nL,nL]/\bx f 16 (Ty.av w).cells)/\o i=some v) (λo _ g m=>?_) ?_
 ·apply Ir e m<;>intro e m
  ·exact iO
  have⟨A,e,m⟩:=fJ e m;simp[e];refine d_ m eZ λ_ m=>?_;exact iO
 rintro _ _ ⟨i,E,m⟩;have e:=Aj e E;apply Ir e m<;>intro e m
 ·exact al
 simp[e];refine d_ m fX λ_ m=>?_;have⟨B,e,m⟩:=fJ e m;simp[e];refine sm m (a VW) λ_ d149 m=>?_;simp[e];refine d_ m eK λ_ m=>?_;exact au
def BV(T:cW){H:cd}{a0:cH}{a1:List Ty}{a2:Ty}{a3:Int}{d:Tm}{a:cH}{b:Nat}(c:H[b]?=some [sL sI a0.l,sI a0.ua]){n:Nat}(hm:eA n a0 a1 a2 a3=some (d,a)):dB prog T 11 [AV.de b 0,sL Ty.av a1,Ty.av a2,sI a3] H (Tm.av d) (dC H b [sL sI a.l,sI a.ua]):=(LM T n) c hm
def pz:C3 prog 15 ic Fm.av sI Ty.av Fm.av:=by
 refine v3 func15 λT H a0 a1 a2 r m e=>?_;rw[ic] at m;simp[e];refine d_ m iz λa m=>?_;simp[e];refine d_ m n_ λb m=>?_;have e:=Aj e (show AV.agg [sI a0,sI a.acH,sL Ty.av a.acI,AV.slice .ja [],AV.slice .ja [Fm.av b]]=Fm.av (Fm.mk a0 a [] [b]) by rw[Fm.ez];rfl);exact au
def rY:C1 prog 143 nq sB Ty.av:=by
 refine u1 2 func143 λT H a0 r m e=>?_;rw[nq] at m;simp[e];refine I5 999 999 (λf h=>h=H/\f.1 2=sB (dq (cr a0.acH 0) (cr (cE a0.acI) 0) false)) ?_ (λ_ g=>?_)
 ·rintro _ _ E;have e:=Aj e E;exact au
 rcases Pb (cr a0.acH 0) e with e|e
 ·exact aj
 exact aj
def IE:C1 prog 177 sJ sI sI:=by
 refine u1 6 func177 λT H a0 r m e=>?_;rw[sJ] at m;simp[e];refine wj 999 0 (λf h=>h=H/\f.1 3=sI a0/\f.1 4=sB (dq (cr a0 1) true (dq (cr a0 4) true (dq (cr a0 7) true (cr a0 13))))) (λ_ g=>?_) ?_
 ·rcases Pb (cr a0 1) e with e|e
  ·exact aj
  rcases Pb (cr a0 4) e with e|e
  ·exact aj
  rcases Pb (cr a0 7) e with e|e
  ·exact aj
  exact aj
 rintro _ _ E;have e:=Aj e E;apply Iq e m<;>intro e m
 ·apply wg 999;exact au
 apply wg 1;simp[e];refine wj 999 0 (λf h=>h=H/\f.1 3=sI a0/\f.1 9=sB (dq (cr a0 2) true (dq (cr a0 5) true (dq (cr a0 11) true (cr a0 12))))) (λ_ g=>?_) ?_
 ·rcases Pb (cr a0 2) e with e|e
  ·exact aj
  rcases Pb (cr a0 5) e with e|e
  ·exact aj
  rcases Pb (cr a0 11) e with e|e
  ·exact aj
  exact aj
 rintro _ _ E;have e:=Aj e E;apply Iq e m<;>intro e m
 ·apply wg 999;exact au
 apply wg 1;simp[e];refine wj 999 0 (λf h=>h=H/\f.1 3=sI a0/\f.1 14=sB (dq (cr a0 3) true (dq (cr a0 8) true (cr a0 10)))) (λ_ g=>?_) ?_
 ·rcases Pb (cr a0 3) e with e|e
  ·exact aj
  rcases Pb (cr a0 8) e with e|e
  ·exact aj
  exact aj
 rintro _ _ E;have e:=Aj e E;apply Iq e m<;>intro e m
 ·apply wg 999;exact au
 apply wg 1;simp[e];refine I5 999 999 (λf h=>h=H/\f.1 18=sB (dq (cr a0 6) true (cr a0 9))) ?_ (λ_ g=>?_)
 ·rintro _ _ E;have e:=Aj e E;refine Il e m λe m=>?_;exact au
 rcases Pb (cr a0 6) e with e|e
 ·exact aj
 exact aj
def FH{n:Nat}:C1 prog 178 (nT n) sB Ty.av:=by
 refine i1 λn c=>u1 4 func178 λT H a0 r m e=>?_;rw[nT] at m;simp[e];refine yJ m 3 999 (λa f h=>∃v2,(h=H/\f.1 3=sI v2/\bx f 1 (Ty.av a0).cells)/\a v2=some r) ?_ (λa _ g m=>?_)
 ·rintro _ _ ⟨v2,E,m⟩;have e:=Aj e E;refine Il e m λe m=>?_;simp[e];refine Wr e m 999 (λb _ f h=>h=H/\f.1 21=sL Ty.av a0.acI/\f.1 22=sI (cE a0.acI)/\f.1 23=sI b) VW (λ_ _ _ _ E m=>?_) (λb _ _ _ _ _ _ _ E e m z p=>?_)
  ·have e:=Aj e E;dsimp only[b9]at m;exact au
  have e:=Aj e E;simp[e];refine dM m c λ_ m=>?_;refine Im e m λe m=>?_;exact al
 simp[e];refine wj 999 0 (λf h=>h=H/\f.1 3=sI 0/\f.1 7=sI a0.acH/\f.1 8=sB (dq (cr a0.acH 1) true (dq (cr a0.acH 2) true (cr a0.acH 5)))/\bx f 1 (Ty.av a0).cells) (λ_ g=>?_) ?_
 ·rcases Pb (cr a0.acH 1) e with e|e
  ·exact aj
  rcases Pb (cr a0.acH 2) e with e|e
  ·exact aj
  exact aj
 rintro _ _ E;have e:=Aj e E;apply Iq e m<;>intro e m
 ·apply wg 999;exact iO
 apply wg 1;simp[e];refine wj 999 999 (λf h=>h=H/\f.1 12=sB (dq (cr a0.acH 3) true (cr a0.acH 4))/\bx f 1 (Ty.av a0).cells) (λ_ g=>?_) ?_
 ·rcases Pb (cr a0.acH 3) e with e|e
  ·exact aj
  exact aj
 rintro _ _ E;have e:=Aj e E;refine Im e m λe m=>?_;exact iO
def IU{n:Nat}:C1 prog 179 (oT n) sI Ty.av:=by
 refine i1 λn b=>v1 func179 λT H a0 r m e=>?_;rw[oT] at m;simp[e];refine Wr e m 999 (λa s2 f h=>h=H/\f.1 3=sI s2/\f.1 7=sL Ty.av a0.acI/\f.1 8=sI (cE a0.acI)/\f.1 9=sI a) VW (λs2 _ _ _ E m=>?_) (λa _ s2 _ _ _ _ _ E e m z p=>?_)
 ·have e:=Aj e E;dsimp only[b9]at m;exact au
 have e:=Aj e E;simp[e];refine dM m b λ_ m=>?_;exact al
def mO:C1 prog 146 gk sI Ty.av:=by
 refine v1 func146 λT H a0 r m e=>?_;rw[gk] at m;simp[e];refine dM m FH λ_ m=>?_;refine Im e m λe m=>?_;simp[e];refine dM m IU λ_ m=>?_;refine Il e m λe m=>?_;exact au
def qS{n:Nat}:C1 prog 144 (iN n) sB Tm.av:=by
 refine i1 λn d=>u1 3 func144 λT H a0 r m e=>?_;rw[iN] at m;simp[e];refine Wj m 999 0 (λb f h=>∃v2,(h=H/\f.1 26=sB v2/\bx f 1 (Tm.av a0).cells)/\b v2=some r) (λb _ g m=>?_) ?_
 ·simp[e];refine d_ m IE λ_ m=>?_;apply Iq e m<;>intro e m
  ·exact iO
  apply Iq e m<;>intro e m
  ·exact iO
  apply Ir e m<;>intro e m
  ·exact iO
  exact iO
 rintro _ _ ⟨v2,E,m⟩;have e:=Aj e E;apply Iq e m<;>intro e m
 ·apply wg 999;exact au
 apply wg 2;simp[e];refine yJ m 3 999 (λc f h=>(h=H/\f.1 1=AV.gJ 1 (f.gen 1) 0/\f.box 1=some (Tm.av a0).cells)/\c=some r) ?_ (λc _ g m=>?_)
 ·rintro _ _ ⟨E,m⟩;have e:=Aj e E;simp[e];refine Wr e m 999 (λa _ f h=>h=H/\f.1 42=sL Tm.av a0.acI/\f.1 43=sI (cE a0.acI)/\f.1 44=sI a) VW (λ_ _ _ _ E m=>?_) (λa _ _ _ _ _ _ _ E e m z p=>?_)
  ·have e:=Aj e E;dsimp only[b9]at m;exact au
  have e:=Aj e E;simp[e];refine dM m d λ_ m=>?_;refine Im e m λe m=>?_;exact al
 simp[e];refine wj 999 999 (λf h=>h=H/\f.1 33=sB (dq (cr a0.acH 2) true (dq (cr a0.acH 6) true (cr a0.acH 9)))/\bx f 1 (Tm.av a0).cells) (λ_ g=>?_) ?_
 ·rcases Pb (cr a0.acH 2) e with e|e
  ·exact aj
  rcases Pb (cr a0.acH 6) e with e|e
  ·exact aj
  exact aj
 rintro _ _ E;have e:=Aj e E;apply Iq e m<;>intro e m
 ·simp[e];refine dM m mO λ_ m=>?_;refine Il e m λe m=>?_;exact Xj
 simp[e];refine dM m rY λ_ m=>?_;refine Im e m λe m=>?_;exact Xj
def oR:C1 prog 145 je sB sI:=by
 refine u1 2 func145 λT H a0 r m e=>?_;rw[je] at m;simp[e];refine I5 999 999 (λf h=>h=H/\f.1 2=sB (dq (cr a0 4) true (dq (cr a0 5) true (dq (cr a0 6) true (cr a0 7))))) ?_ (λ_ g=>?_)
 ·rintro _ _ E;have e:=Aj e E;exact au
 rcases Pb (cr a0 4) e with e|e
 ·exact aj
 rcases Pb (cr a0 5) e with e|e
 ·exact aj
 rcases Pb (cr a0 6) e with e|e
 ·exact aj
 exact aj
def yU{n:Nat}:C1 prog 119 (km n) sB Fm.av:=by
 refine i1 λn d=>u1 7 func119 λT H a0 r m e=>?_;rw[km] at m;apply Iq e m<;>intro e m
 ·simp[e];refine yJ m 999 999 (λi f h=>∃v2,(h=H/\f.1 2=sB v2)/\i v2=some r) ?_ (λi _ g m=>?_)
  ·rintro _ _ ⟨v2,E,m⟩;have e:=Aj e E;exact au
  apply Ir e m<;>intro e m
  ·exact iO
  simp[e];refine dM m rY λ_ m=>?_;apply Ir e m<;>intro e m
  ·exact iO
  apply Ir e m<;>intro e m
  ·exact iO
  have⟨o,e,m⟩:=fJ e m;simp[e];refine dM m qS λ_ m=>?_;apply Ir e m<;>intro e m
  ·exact iO
  have⟨q,e,m⟩:=fJ e m;simp[e];refine dM m qS λ_ m=>?_;exact iO
 simp[e];refine wj 999 0 (λf h=>h=H/\f.1 36=sB (dq (cr a0.acH 2) true (cr a0.acH 3))/\bx f 1 (Fm.av a0).cells) (λ_ g=>?_) ?_
 ·rcases Pb (cr a0.acH 2) e with e|e
  ·exact aj
  exact aj
 rintro _ _ E;have e:=Aj e E;apply Ir e m<;>intro e m
 ·apply wg 3;simp[e];refine dM m oR λ_ m=>?_;simp[e];apply Ir e m<;>intro e m
  ·apply wg 999;exact au
  apply wg 1;simp[e];refine yJ m 999 999 (λb f h=>∃a,(h=H/\f.1 2=sB a)/\b a=some r) ?_ (λb _ g m=>?_)
  ·rintro _ _ ⟨a,E,m⟩;have e:=Aj e E;exact au
  apply Ir e m<;>intro e m
  ·exact iO
  simp[e];refine dM m mO λ_ m=>?_;apply Ir e m<;>intro e m
  ·exact iO
  apply Ir e m<;>intro e m
  ·exact iO
  have⟨j,e,m⟩:=fJ e m;simp[e];refine dM m d λ_ m=>?_;exact iO
 apply wg 1;simp[e];refine yJ m 999 999 (λc f h=>∃v24,(h=H/\f.1 2=sB v24)/\c v24=some r) ?_ (λc _ g m=>?_)
 ·rintro _ _ ⟨v24,E,m⟩;have e:=Aj e E;exact au
 apply Ir e m<;>intro e m
 ·exact iO
 simp[e];refine dM m rY λ_ m=>?_;apply Ir e m<;>intro e m
 ·exact iO
 apply Ir e m<;>intro e m
 ·exact iO
 have⟨k,e,m⟩:=fJ e m;simp[e];refine dM m d λ_ m=>?_;apply Ir e m<;>intro e m
 ·exact iO
 have⟨l,e,m⟩:=fJ e m;simp[e];refine dM m d λ_ m=>?_;exact iO
def eh{n:Nat}:C1 prog 121 (dG n) sI Tm.av:=by
 refine i1 λn b=>v1 func121 λT H a0 r m e=>?_;rw[dG] at m;simp[e];refine Wr e m 999 (λa s2 f h=>h=H/\f.1 3=sI s2/\f.1 7=sL Tm.av a0.acI/\f.1 8=sI (cE a0.acI)/\f.1 9=sI a) VW (λs2 _ _ _ E m=>?_) (λa _ s2 _ _ _ _ _ E e m z p=>?_)
 ·have e:=Aj e E;dsimp only[b9]at m;exact au
 have e:=Aj e E;simp[e];refine dM m b λ_ m=>?_;exact al
def mM{n:Nat}:C1 prog 80 (iR n) sI Fm.av:=by
 refine i1 λn d=>v1 func80 λT H a0 r m e=>?_;rw[iR] at m;simp[e];refine Bu e m 999 (λc s2 f h=>h=H/\f.1 3=sI s2/\f.1 9=sL Tm.av a0.cv/\f.1 10=sI (cE a0.cv)/\f.1 11=sI c/\bx f 1 (Fm.av a0).cells) VW (λc _ s2 _ _ _ _ _ E e m z p=>?_) (λs2 _ _ _ E m=>?_)
 ·have e:=Aj e E;simp[e];refine dM m eh λ_ m=>?_;exact al
 have e:=Aj e E;dsimp only[b9]at m;simp[e];refine Wr e m 999 (λb a f h=>h=H/\f.1 3=sI a/\f.1 21=sL Fm.av a0.acI/\f.1 22=sI (cE a0.acI)/\f.1 23=sI b) VW (λa _ _ _ E m=>?_) (λb _ a _ _ _ _ _ E e m z p=>?_)
 ·have e:=Aj e E;dsimp only[b9]at m;exact au
 have e:=Aj e E;simp[e];refine dM m d λ_ m=>?_;exact al
def j9:C1 prog 76 hY sI Fm.av:=by
 refine v1 func76 λT H a0 r m e=>?_;rw[hY] at m;simp[e];refine dM m yU λ_ m=>?_;refine Im e m λe m=>?_;simp[e];refine dM m mM λ_ m=>?_;refine Il e m λe m=>?_;exact au
def Dk{n:Nat}:C1 prog 77 (jm n) sB Fm.av:=by
 refine i1 λn b=>u1 3 func77 λT H a0 r m e=>?_;rw[jm] at m;simp[e];refine wj 999 999 (λf h=>h=H/\f.1 12=sB (dq (cr a0.acH 6) true (cr a0.acH 7))/\bx f 1 (Fm.av a0).cells) (λ_ g=>?_) ?_
 ·rcases Pb (cr a0.acH 6) e with e|e
  ·exact aj
  exact aj
 rintro _ _ E;have e:=Aj e E;refine Il e m λe m=>?_;simp[e];refine Wr e m 999 (λa _ f h=>h=H/\f.1 14=sL Fm.av a0.acI/\f.1 15=sI (cE a0.acI)/\f.1 16=sI a) VW (λ_ _ _ _ E m=>?_) (λa _ _ _ _ _ _ _ E e m z p=>?_)
 ·have e:=Aj e E;dsimp only[b9]at m;exact au
 have e:=Aj e E;simp[e];refine dM m b λ_ m=>?_;refine Il e m λe m=>?_;exact al
def uz{n:Nat}:C2 prog 120 (jC n) sB Tm.av sI:=by
 refine i2 λn b=>v2 func120 λT H a0 a1 r m e=>?_;rw[jC] at m;refine Il e m λe m=>?_;simp[e];refine Wr e m 999 (λa _ f h=>h=H/\f.1 1=sI a1/\f.1 12=sL Tm.av a0.acI/\f.1 13=sI (cE a0.acI)/\f.1 14=sI a) VW (λ_ _ _ _ E m=>?_) (λa _ _ _ _ _ _ _ E e m z p=>?_)
 ·have e:=Aj e E;dsimp only[b9]at m;exact au
 have e:=Aj e E;simp[e];refine dM m b λ_ m=>?_;refine Im e m λe m=>?_;exact al
def yV{n:Nat}:C2 prog 78 (l0 n) sB Fm.av sI:=by
 refine i2 λn c=>v2 func78 λT H a0 a1 r m e=>?_;rw[l0] at m;simp[e];refine Bu e m 999 (λb _ f h=>h=H/\f.1 1=sI a1/\f.1 10=sL Tm.av a0.cv/\f.1 11=sI (cE a0.cv)/\f.1 12=sI b/\bx f 2 (Fm.av a0).cells) VW (λb _ _ _ _ _ _ _ E e m z p=>?_) (λ_ _ _ _ E m=>?_)
 ·have e:=Aj e E;simp[e];refine dM m uz λ_ m=>?_;refine Im e m λe m=>?_;exact al
 have e:=Aj e E;dsimp only[b9]at m;simp[e];refine Wr e m 999 (λa _ f h=>h=H/\f.1 1=sI a1/\f.1 22=sL Fm.av a0.acI/\f.1 23=sI (cE a0.acI)/\f.1 24=sI a) VW (λ_ _ _ _ E m=>?_) (λa _ _ _ _ _ _ _ E e m z p=>?_)
 ·have e:=Aj e E;dsimp only[b9]at m;exact au
 have e:=Aj e E;simp[e];refine dM m c λ_ m=>?_;refine Im e m λe m=>?_;exact al
def Gh{n:Nat}:C2 prog 79 (kf n) sI Fm.av sI:=by
 refine i2 λn b=>u2 4 func79 λT H a0 a1 r m e=>?_;rw[kf] at m;simp[e];refine yJ m 999 999 (λc f h=>∃v2,(h=H/\f.1 5=sI v2)/\c v2=some r) ?_ (λc _ g m=>?_)
 ·rintro _ _ ⟨v2,E,m⟩;have e:=Aj e E;exact au
 apply Iq e m<;>intro e m
 ·simp[e];refine dM m mM λ_ m=>?_;exact iO
 apply Iq e m<;>intro e m
 ·have⟨i,e,m⟩:=fJ e m;simp[e];refine dM m b λ_ m=>?_;exact iO
 simp[e];refine Wr e m 999 (λd a f h=>h=H/\f.1 1=sI a1/\f.1 5=sI a/\f.1 11=sL Fm.av a0.acI/\f.1 12=sI (cE a0.acI)/\f.1 13=sI d) VW (λa _ _ _ E m=>?_) (λd _ a _ _ _ _ _ E e m z p=>?_)
 ·have e:=Aj e E;dsimp only[b9]at m;exact iO
 have e:=Aj e E;simp[e];refine dM m b λ_ m=>?_;exact al
def CX:C2 prog 45 oA sI Fm.av Fm.av:=by
 refine v2 func45 λT H a0 a1 r m e=>?_;rw[oA] at m;simp[e];refine dM m j9 λ_ m=>?_;refine Il e m λe m=>?_;simp[e];refine dM m j9 λ_ m=>?_;refine Il e m λe m=>?_;simp[e];refine dM m Dk λ_ m=>?_;refine Il e m λe m=>?_;simp[e];refine dM m yV λ_ m=>?_;refine Im e m λe m=>?_;simp[e];refine d_ m mM λ_ m=>?_;simp[e];refine d_ m Gh λ_ m=>?_;refine Il e m λe m=>?_;exact au
def ui:C2 prog 81 pc Fm.av Fm.av Fm.av:=by
 refine v2 func81 λT H a0 a1 r m e=>?_;rw[pc] at m;simp[e];refine dM m lj λ_ m=>?_;exact au
def oB:C1 prog 180 jz sI Tm.av:=by
 refine v1 func180 λT H a0 r m e=>?_;rw[jz] at m;refine Il e m λe m=>?_;exact au
def Fs{n:Nat}:C3 prog 147 (pO n) Tm.av Tm.av sI sI:=by
 refine i3 λn k=>u3 4 func147 λT H a0 a1 a2 r m e=>?_;rw[pO] at m;simp[e];refine wj 0 999 (λf h=>h=H/\f.1 1=sI a1/\f.1 2=sI a2/\bx f 3 (Tm.av a0).cells/\bx f 6 [sI 0,sI 0,sI 0,nL,nL]/\bx f 7 [sI a0.acH,sI (dq (dq (cr a0.acH 1) (qf a0.acK a1) false) (da .i64 a0.acK a2) a0.acK),sI a0.b7.acH,sL Ty.av a0.b7.acI,nL]) (λ_ g=>?_) ?_
 ·refine wj 999 999 (λf h=>h=H/\f.1 1=sI a1/\f.1 2=sI a2/\f.1 25=sB (dq (cr a0.acH 1) (qf a0.acK a1) false)/\bx f 3 (Tm.av a0).cells/\bx f 6 [sI 0,sI 0,sI 0,nL,nL]/\bx f 7 [sI a0.acH,sI a0.acK,sI a0.b7.acH,sL Ty.av a0.b7.acI,nL]) (λ_ g=>?_) ?_
  ·rcases Pb (cr a0.acH 1) e with e|e
   ·exact aj
   exact aj
  rintro _ _ E;have e:=Aj e E;rcases Pb (dq (cr a0.acH 1) (qf a0.acK a1) false) e with e|e
  ·exact aj
  exact aj
 rintro _ _ E;have e:=Aj e E;simp[e];refine Wr e m 999 (λj c f h=>∃a,(h=H/\f.1 1=sI a1/\f.1 2=sI a2/\f.1 32=sL Tm.av a0.acI/\f.1 33=sI (cE a0.acI)/\f.1 34=sI j/\bx f 3 (Tm.av a0).cells/\bx f 6 [sI 0,sI 0,sI 0,nL,nL]/\bx f 7 [sI a0.acH,sI (dq (dq (cr a0.acH 1) (qf a0.acK a1) false) (da .i64 a0.acK a2) a0.acK),sI a0.b7.acH,sL Ty.av a0.b7.acI,sT a Tm.av c])/\Ow f [48] a c) (by exact⟨.full,VW,hD.full⟩) (λc d _ _ E m=>?_) (λj _ c d _ _ _ _ E e m z p=>?_)
 ·have⟨a,E,b⟩:=E;have e:=Aj e E;dsimp only[b9]at m;exact au
 have⟨a,E,b⟩:=E;have e:=Aj e E;simp[e];refine d_ m oB λ_ m=>?_;simp[e];refine d_ m k λi m=>?_;have⟨e,m⟩:=Ck e m;simp[e];refine Ad (f:=Tm.av) c [i] b Bl e.2 ?_;simp[e];cases m;exact p _ _ _ ⟨(.loc 48 (d.ds 48+1)),VW,(On 48)⟩ z
def qR:C1 prog 148 kO sI Fm.av:=by
 refine v1 func148 λT H a0 r m e=>?_;rw[kO] at m;simp[e];refine dM m oR λ_ m=>?_;refine Il e m λe m=>?_;exact au
def oQ{n:Nat}:C3 prog 122 (ft n) Fm.av Fm.av sI sI:=by
 refine i3 λn v=>v3 func122 λT H a0 a1 a2 r m e=>?_;rw[ft] at m;simp[e];refine Bu e m 999 (λu s2 f h=>∃c,(h=H/\f.1 1=sI a1/\f.1 2=sI a2/\f.1 18=sL Tm.av a0.cv/\f.1 19=sI (cE a0.cv)/\f.1 20=sI u/\bx f 3 (Fm.av a0).cells/\bx f 6 [sI 0,sI 0,nL,nL,nL]/\bx f 7 [sI a0.acH,sI a0.b7.acH,sL Ty.av a0.b7.acI,sT c Tm.av s2,nL])/\Ow f [31] c s2) (by exact⟨.full,VW,hD.full⟩) (λu _ s2 o _ _ _ _ E e m z p=>?_) (λs2 o _ _ E m=>?_)
 ·have⟨c,E,i⟩:=E;have e:=Aj e E;simp[e];refine d_ m Fs λs m=>?_;have⟨e,m⟩:=Ck e m;simp[e];refine Ad (f:=Tm.av) s2 [s] i Bl e.2 ?_;simp[e];cases m;exact p _ _ _ ⟨(.loc 31 (o.ds 31+1)),VW,(On 31)⟩ z
 have⟨c,E,i⟩:=E;have e:=Aj e E;dsimp only[b9]at m;simp[e];refine Wr e m 999 (λq j f h=>∃a b,(h=H/\f.1 1=sI a1/\f.1 2=sI a2/\f.1 35=sL Fm.av a0.acI/\f.1 36=sI (cE a0.acI)/\f.1 37=sI q/\bx f 3 (Fm.av a0).cells/\bx f 6 [sI 0,sI 0,nL,nL,nL]/\bx f 7 [sI a0.acH,sI a0.b7.acH,sL Ty.av a0.b7.acI,sT a Tm.av s2,sT b Fm.av j])/\Ow f [31] a s2/\Ow f [51] b j) (by exact⟨c,.full,VW,i,hD.full⟩) (λj l _ _ E m=>?_) (λq _ j l _ _ _ _ E e m z p=>?_)
 ·have⟨a,b,E,k,d⟩:=E;have e:=Aj e E;dsimp only[b9]at m;exact au
 have⟨a,b,E,k,d⟩:=E;have e:=Aj e E;simp[e];refine d_ m qR λ_ m=>?_;simp[e];refine d_ m v λt m=>?_;have⟨e,m⟩:=Ck e m;simp[e];refine Ad (f:=Fm.av) j [t] d Ix e.2 ?_;simp[e];cases m;exact p _ _ _ ⟨a,(.loc 51 (l.ds 51+1)),VW,(hD.other k d gw gw),(On 51)⟩ z
def zA:C1 prog 82 sS Fm.av Fm.av:=by
 refine v1 func82 λT H a0 r m e=>?_;rw[sS] at m;simp[e];refine dM m oQ λ_ m=>?_;exact au
def Mo:∀(n:Nat),C2 prog 46 (m5 n) Fm.av Fm.av Fm.av/\C2 prog 83 (qQ n) Fm.av Fm.av Fm.av:=by
  intro n
  induction n with
  |zero=>
    refine⟨?_,?_⟩
    all_goals(intro _ _;intros;rename_i hm;cases hm)
  |succ n a=>
 refine⟨?_,?_⟩
 ·intro T H a0 a1 r hm;rw[m5] at hm;have e:=trivial;refine wi acM func46 [] [] 8 ?_;simp[e];apply Iq e hm<;>intro e m
  ·apply wg 999;simp[e];refine d_ m ui λ_ m=>?_;simp[e];refine d_ m ui λ_ m=>?_;exact au
  apply wg 1;simp[e];refine wj 999 999 (λf h=>h=H/\f.1 6=sI a1.acH/\f.1 14=sB (dq (cr a1.acH 2) true (cr a1.acH 3))/\bx f 2 (Fm.av a0).cells/\bx f 3 (Fm.av a1).cells/\bx f 4 [sI 0,sI 0,nL,nL,nL]) (λ_ g=>?_) ?_
  ·rcases Pb (cr a1.acH 2) e with e|e
   ·exact aj
   exact aj
  rintro _ _ E;have e:=Aj e E;apply Iq e m<;>intro e m
  ·have⟨d,e,m⟩:=fJ e m;simp[e];refine d_ m a.1 λ_ m=>?_;have⟨i,e,m⟩:=fJ e m;simp[e];refine d_ m a.1 λ_ m=>?_;simp[e];refine d_ m lj λ_ m=>?_;exact au
  apply Ir e m<;>intro e m
  ·simp[e];refine d_ m a.2 λ_ m=>?_;simp[e];refine d_ m ui λ_ m=>?_;exact au
  simp[e];refine d_ m zA λ_ m=>?_;have⟨b,e,m⟩:=fJ e m;simp[e];refine d_ m a.1 λ_ m=>?_;simp[e];refine d_ m pz λ_ m=>?_;exact au
 ·intro T H a0 a1 r hm;rw[qQ] at hm;have e:=trivial;refine wi acM func83 [] [] 999 ?_;simp[e];refine d_ hm zA λ_ m=>?_;have⟨c,e,m⟩:=fJ e m;simp[e];refine d_ m a.1 λ_ m=>?_;simp[e];refine d_ m zA λ_ m=>?_;simp[e];refine d_ m ui λ_ m=>?_;simp[e];refine d_ m pz λ_ m=>?_;exact au
def Oq{n:Nat}:C2 prog 46 (m5 n) Fm.av Fm.av Fm.av:=(Mo n).1
def C_:C2 prog 16 kb (t2 Fm.av sI) Fm.av Fm.av:=by
 refine v2 func16 λT H a0 a1 r m e=>?_;rw[kb] at m;simp[e];refine dM m CX λ_ m=>?_;refine Il e m λe m=>?_;simp[e];refine dM m Oq λ_ m=>?_;simp[e];refine dM m n_ λ_ m=>?_;exact au
def xW:C1 prog 18 so Pf.av sI:=by
 refine v1 func18 λT H a0 r m e=>?_;rw[so] at m;exact au
def y7(T:cW)(c:qc T){H:cd}{a0:Int}{a:c9}{b:Bool}(hm:kh a0=some (a,b)):dB prog T 152 [sI a0] H (AV.tuple [c9.av a,sB b]) H:=by
 rw[kh] at hm;have e:=c;refine wi acM func152 [] [] 3 ?_;simp[e];refine wj 999 999 (λf h=>h=H/\f.1 0=sI a0/\f.1 9=sB (dq (tD a0 1) true (qf a0 21))/\bx f 2 [sB false,sB false,sI 0,sI 0,sI 0,sI 0,sI 0,sI 0]) (λ_ g=>?_) ?_
 ·rcases Pb (tD a0 1) e with e|e
  ·exact aj
  exact aj
 rintro _ _ E;have e:=Aj e E;refine Il e hm λe m=>?_;have⟨d,e,m⟩:=fJ e m;exact au
def y8:C3 prog 158 nV c8.av c8.av c9.av sI:=by
 refine u3 2 func158 λT H a0 a1 a2 r m e=>?_;rw[nV] at m;simp[e];refine I5 999 999 (λf h=>h=H/\bx f 3 [sI (dq (cr a2 (di .i64 a1.acI 1)) (da .i64 a0.vars a1.vars) a0.vars),sI (dq (cr a2 (di .i64 a1.acI 1)) (da .i64 a0.acO a1.acO) a0.acO)]/\bx f 6 [sI 0,sI 0]) ?_ (λ_ g=>?_)
 ·rintro _ _ E;have e:=Aj e E;exact au
 rcases Pb (cr a2 (di .i64 a1.acI 1)) e with e|e
 ·exact aj
 exact aj
@[simp] theorem aaN:dL prog 149=some (true,3):=by kernel_rfl
@[simp] theorem aaq:o0 prog 149=some [.sc .nilFunc,.sc .nilFunc,.sc .nilFunc]:=by kernel_rfl
@[simp] theorem WW:dA prog 149 0=some (0,112):=by kernel_rfl
@[simp] theorem aav:mV prog .neq 112 (.sc .nilFunc) (.sc .nilFunc)=some (.sc (.bool false)):=by kernel_rfl
@[simp] theorem V':dA prog 149 1=some (1,97):=by kernel_rfl
@[simp] theorem abM:dL prog 97=some (false,1):=by kernel_rfl
@[simp] theorem aa3:mV prog .neq 97 (.sc .nilFunc) (.sc .nilFunc)=some (.sc (.bool false)):=by kernel_rfl
@[simp] theorem V0:dA prog 149 2=some (2,147):=by kernel_rfl
@[simp] theorem abk:dL prog 147=some (false,1):=by kernel_rfl
@[simp] theorem aay:mV prog .neq 147 (.sc .nilFunc) (.sc .nilFunc)=some (.sc (.bool false)):=by kernel_rfl
def xj(T:cW)(K:qc T):∀(n:Nat),(∀{H:cd} {a0:Pf} {a1:c8} {a2:Int} {D:Pf} (hm:im n a0 a1 a2=some D),dB prog T 130 [Pf.av a0,c8.av a1,AV.agg [AV.sc .nilFunc,AV.sc .nilFunc,AV.sc .nilFunc]] H (Pf.av D) H):=by
  intro n
  induction n with
  |zero=>
    skip
    all_goals(intro _ _;intros;rename_i hm;cases hm)
  |succ n M=>
 intro H a0 a1 a2 D hm;rw[im] at hm;have e:=K;refine wi acM func130 [] [] 2 ?_;simp[e];refine wj 999 999 (λf h=>h=H/\bx f 3 (Pf.av a0).cells/\bx f 4 (c8.av a1).cells/\bx f 5 [AV.sc .nilFunc,AV.sc .nilFunc,AV.sc .nilFunc]/\bx f 6 [sI 0,sI 0,sI 0,nL,nL,nL,nL]) (λ_ g=>?_) ?_
 ·rcases Pb (cr a0.acH 1) e with e|e
  ·exact aj
  exact aj
 rintro _ _ E;have e:=Aj e E;simp[e];refine lZ hm (y7 T K) λF _ m=>?_;simp[e];refine d_ m pG λy m=>?_;simp[e];refine Bu e m 999 (λL v f h=>∃j,(h=H/\f.1 44=sL Tm.av a0.cv/\f.1 45=sI (cE a0.cv)/\f.1 46=sI L/\bx f 3 (Pf.av a0).cells/\bx f 4 (c8.av a1).cells/\bx f 5 [AV.sc .nilFunc,AV.sc .nilFunc,AV.sc .nilFunc]/\bx f 6 [sI 0,sI 0,sI 0,nL,nL,nL,nL]/\bx f 7 (c9.av F).cells/\bx f 9 [sI a0.acH,sI a0.acK,sI y.acH,sL Ty.av y.acI,sT j Tm.av v,nL,nL])/\Ow f [69] j v) (by exact⟨.full,VW,hD.full⟩) (λL _ v A _ _ _ _ E e m z p=>?_) (λv A _ _ E m=>?_)
 ·have⟨j,E,r⟩:=E;have e:=Aj e E;simp[e];refine d_ m Fk λG m=>?_;have⟨e,m⟩:=Ck e m;simp[e];refine Ad (f:=Tm.av) v [G] r Bl e.2 ?_;simp[e];cases m;exact p _ _ _ ⟨(.loc 69 (A.ds 69+1)),VW,(On 69)⟩ z
 have⟨j,E,r⟩:=E;have e:=Aj e E;dsimp only[b9]at m;simp[e];refine Bu e m 999 (λB o f h=>∃a b,(h=H/\f.1 73=sL Fm.av a0.dw/\f.1 74=sI (cE a0.dw)/\f.1 75=sI B/\bx f 3 (Pf.av a0).cells/\bx f 4 (c8.av a1).cells/\bx f 5 [AV.sc .nilFunc,AV.sc .nilFunc,AV.sc .nilFunc]/\bx f 6 [sI 0,sI 0,sI 0,nL,nL,nL,nL]/\bx f 7 (c9.av F).cells/\bx f 9 [sI a0.acH,sI a0.acK,sI y.acH,sL Ty.av y.acI,sT a Tm.av v,sT b Fm.av o,nL])/\Ow f [69] a v/\Ow f [101] b o) (by exact⟨j,.full,VW,r,hD.full⟩) (λB _ o w _ _ _ _ E e m z p=>?_) (λo w _ _ E m=>?_)
 ·have⟨a,b,E,q,k⟩:=E;have e:=Aj e E;simp[e];refine d_ m uc λI m=>?_;have⟨e,m⟩:=Ck e m;simp[e];refine Ad (f:=Fm.av) o [I] k Ix e.2 ?_;simp[e];cases m;exact p _ _ _ ⟨a,(.loc 101 (w.ds 101+1)),VW,(hD.other q k gw gw),(On 101)⟩ z
 have⟨a,b,E,q,k⟩:=E;have e:=Aj e E;dsimp only[b9]at m;simp[e];refine Wr e m 999 (λC s f h=>∃c d i,(h=H/\f.1 105=sL Pf.av a0.acI/\f.1 106=sI (cE a0.acI)/\f.1 107=sI C/\bx f 4 (c8.av a1).cells/\bx f 5 [AV.sc .nilFunc,AV.sc .nilFunc,AV.sc .nilFunc]/\bx f 6 [sI 0,sI 0,sI 0,nL,nL,nL,nL]/\bx f 7 (c9.av F).cells/\bx f 9 [sI a0.acH,sI a0.acK,sI y.acH,sL Ty.av y.acI,sT c Tm.av v,sT d Fm.av o,sT i Pf.av s])/\Ow f [69] c v/\Ow f [101] d o/\Ow f [122] i s) (by exact⟨a,b,.full,VW,q,k,hD.full⟩) (λs x _ _ E m=>?_) (λC _ s x _ _ _ _ E e m z p=>?_)
 ·have⟨c,d,i,E,t,u,l⟩:=E;have e:=Aj e E;dsimp only[b9]at m;exact au
 have⟨c,d,i,E,t,u,l⟩:=E;have e:=Aj e E;simp[e];refine d_ m y8 λ_ m=>?_;simp[e];refine d_ m M λJ m=>?_;have⟨e,m⟩:=Ck e m;simp[e];refine Ad (f:=Pf.av) s [J] l aba e.2 ?_;simp[e];cases m;exact p _ _ _ ⟨c,d,(.loc 122 (x.ds 122+1)),VW,(hD.other t l gw gw),(hD.other u l gw gw),(On 122)⟩ z
def yF(T:cW)(b:qc T){H:cd}{a0:Pf}{a1:c8}{a2:Int}{a:Pf}{n:Nat}(hm:im n a0 a1 a2=some a):dB prog T 130 [Pf.av a0,c8.av a1,AV.agg [AV.sc .nilFunc,AV.sc .nilFunc,AV.sc .nilFunc]] H (Pf.av a) H:=(xj T b n) hm
def Dd(T:cW)(a:qc T){H:cd}{a0 b:Pf}(hm:q8 a0=some b):dB prog T 99 [Pf.av a0] H (Pf.av b) H:=by
 rw[q8] at hm;have e:=a;refine wi acM func99 [] [] 999 ?_;simp[e];refine dM hm (yF T a) λ_ m=>?_;exact au
def Bi(T:cW)(a:qc T){H:cd}{a0:Tm}{b c:Int}(hm:iC a0=some (b,c)):dB prog T 156 [Tm.av a0] H (AV.tuple [sI b,sI c]) H:=by
 rw[iC] at hm;have e:=a;refine wi acM func156 [] [] 999 ?_;simp[e];refine lZ hm (vy T a) λ_ _ m=>?_;refine Im e m λe m=>?_;refine Il e m λe m=>?_;exact au
def sD(T:cW){H:cd}{a0:cb}{a1 a2:Int}{i:Bool}{a:cb}{c:Nat}(b:H[c]?=some [sI a0.acJ,sB a0.fI])(hm:eV a0 a1 a2=some (i,a)):dB prog T 155 [AV.de c 0,sI a1,sI a2] H (sB i) (dC H c [sI a.acJ,sB a.fI]):=by
 rw[eV] at hm;have d:=fu b;refine du.RP b ?_;have e:=d;refine wi acM func155 [] [] 4 ?_;simp[e];refine I5 999 999 (λf h=>h=dC H c [sI (dq a0.fI (cb.mk (da .i64 a0.acJ a1) true) (cb.mk (da .i64 a0.acJ a1) (cr a2 4))).acJ,sB (dq a0.fI (cb.mk (da .i64 a0.acJ a1) true) (cb.mk (da .i64 a0.acJ a1) (cr a2 4))).fI]/\f.1 2=sI a2) ?_ (λ_ g=>?_)
 ·rintro _ _ E;have e:=Aj e E;cases hm;simp[e]
 rcases Pb a0.fI e with e|e
 ·exact aj
 exact aj
def yz(T:cW)(r:qc T):∀(n:Nat),(∀{H:cd} {a0:cb} {a1:Pf} {s:Bool} {c:cb} {a:Nat} (k:H[a]?=some [sI a0.acJ,sB a0.fI]) (hm:fP n a0 a1=some (s,c)),dB prog T 125 [AV.de a 0,Pf.av a1] H (sB s) (dC H a [sI c.acJ,sB c.fI])):=by
  intro n
  induction n with
  |zero=>
    skip
    all_goals(intro _ _;intros;rename_i hm;cases hm)
  |succ n x=>
 intro H a0 a1 s c a k hm;rw[fP] at hm;have u:=fu k;refine du.RP k ?_;have e:=Aj r u;refine wi acM func125 [] [] 5 ?_;simp[e];refine lZ hm (y7 T r) λb v m=>?_;simp[e];refine wj 999 0 (λf h=>h=dC H a [sI a0.acJ,sB a0.fI]/\f.1 0=AV.de a 0/\f.1 61=sB (dq v (dq (tD a1.acK 0) true (dq (cG a1.acK 0) (dq b.acK (dq (cG (cE a1.cv) b.cv) true (dq (cG (cE a1.dw) b.dw) true (cG (cE a1.acI) b.acI))) true) (dq (cG (cE a1.cv) b.cv) true (dq (cG (cE a1.dw) b.dw) true (cG (cE a1.acI) b.acI))))) true)/\bx f 3 (Pf.av a1).cells/\bx f 5 (c9.av b).cells) (λ_ g=>?_) ?_
 ·rcases Pb v e with e|e;rotate_left
  ·exact aj
  rcases Pb (tD a1.acK 0) e with e|e
  ·exact aj
  rcases Pb (cG a1.acK 0) e with e|e;rotate_left
  ·rcases Pb (cG (cE a1.cv) b.cv) e with e|e
   ·exact aj
   rcases Pb (cG (cE a1.dw) b.dw) e with e|e
   ·exact aj
   exact aj
  rcases Pb b.acK e with e|e;rotate_left
  ·exact aj
  rcases Pb (cG (cE a1.cv) b.cv) e with e|e
  ·exact aj
  rcases Pb (cG (cE a1.dw) b.dw) e with e|e
  ·exact aj
  exact aj
 rintro _ _ E;have e:=Aj e E;apply Iq e m<;>intro e m
 ·apply wg 999;exact au
 apply wg 4;simp[e];refine Wj m 999 999 (λw f h=>∃t,(h=dC H a [sI t.acJ,sB t.fI]/\f.1 0=AV.de a 0/\f.1 3=AV.gJ 3 (f.gen 3) 0/\f.box 3=some (Pf.av a1).cells)/\w t=some (s,c)) (λw _ g m=>?_) ?_
 ·apply Iq e m<;>intro e m
  ·simp[e];refine lZ m qu λ_ _ m=>?_;refine Il e m λe m=>?_;exact iO
  simp[e];refine dM m uk λ_ m=>?_;refine Im e m λe m=>?_;exact iO
 rintro _ _ ⟨t,E,m⟩;have e:=Aj e E;simp[e];refine Bu e m 999 (λl d f h=>h=dC H a [sI d.acJ,sB d.fI]/\f.1 0=AV.de a 0/\f.1 84=sL Tm.av a1.cv/\f.1 85=sI (cE a1.cv)/\f.1 86=sI l/\bx f 3 (Pf.av a1).cells) VW (λl _ d _ _ _ _ _ E e m z p=>?_) (λd _ _ _ E m=>?_)
 ·have e:=Aj e E;simp[e];refine lZ m (Bi T r) λ_ _ m=>?_;simp[e];refine lZ m (sD T VW) λ_ d26 m=>?_;refine Im e m λe m=>?_;exact al
 have e:=Aj e E;dsimp only[b9]at m;simp[e];refine Bu e m 999 (λo i f h=>h=dC H a [sI i.acJ,sB i.fI]/\f.1 0=AV.de a 0/\f.1 99=sL Fm.av a1.dw/\f.1 100=sI (cE a1.dw)/\f.1 101=sI o/\bx f 3 (Pf.av a1).cells) VW (λo _ i _ _ _ _ _ E e m z p=>?_) (λi _ _ _ E m=>?_)
 ·have e:=Aj e E;simp[e];refine lZ m (jW T r) λ_ _ m=>?_;simp[e];refine lZ m (sD T VW) λ_ d39 m=>?_;refine Im e m λe m=>?_;exact al
 have e:=Aj e E;dsimp only[b9]at m;simp[e];refine Wr e m 999 (λq j f h=>h=dC H a [sI j.acJ,sB j.fI]/\f.1 0=AV.de a 0/\f.1 114=sL Pf.av a1.acI/\f.1 115=sI (cE a1.acI)/\f.1 116=sI q) VW (λj _ _ _ E m=>?_) (λq _ j _ _ _ _ _ E e m z p=>?_)
 ·have e:=Aj e E;dsimp only[b9]at m;exact au
 have e:=Aj e E;simp[e];refine lZ m (x VW) λ_ d50 m=>?_;refine Im e m λe m=>?_;exact al
def zs(T:cW)(e:qc T){H:cd}{a0:cb}{a1:Pf}{d:Bool}{a:cb}{b:Nat}(c:H[b]?=some [sI a0.acJ,sB a0.fI]){n:Nat}(hm:fP n a0 a1=some (d,a)):dB prog T 125 [AV.de b 0,Pf.av a1] H (sB d) (dC H b [sI a.acJ,sB a.fI]):=(yz T e n) c hm
def A4(T:cW)(c:qc T){H:cd}{a0:Pf}{a b:Int}(hm:oO a0=some (a,b)):dB prog T 86 [Pf.av a0] H (AV.tuple [sI a,sI b]) H:=by
 rw[oO] at hm;refine du.xF (Post:=λx K=>x=AV.tuple [sI a,sI b]/\∃X,K=H++X) ?_ (λ_ _ h=>⟨_,h.2.choose_spec,by rw[h.1];simp[AV.low,AV.gD],h.1,rfl⟩);have e:=c;refine wi acM func86 [6] [] 8 ?_;simp[e];refine lZ hm (zs T c VW) λ_ d2 m=>?_;simp[e];apply Ir e m<;>intro e m
 ·apply wg 999;exact au
 apply wg 1;simp[e];refine I5 999 999 (λf h=>h=H++[[sI d2.acJ,sB d2.fI]]/\f.1 4=AV.de (List.length H) 0/\f.1 12=sB (dq d2.fI true (m8 d2.acJ 16384))) ?_ (λ_ g=>?_)
 ·rintro _ _ E;have e:=Aj e E;refine Il e m λe m=>?_;exact au
 rcases Pb d2.fI e with e|e
 ·exact aj
 exact aj
def yL(T:cW)(a:qc T){H:cd}{a0:Pf}{b:Int}(hm:nw a0=some b):dB prog T 50 [Pf.av a0] H (sI b) H:=by
 rw[nw] at hm;have e:=a;refine wi acM func50 [] [] 999 ?_;simp[e];refine lZ hm (A4 T a) λ_ _ m=>?_;exact au
def L3:C1 prog 91 Ff Pf.av sI:=by
 refine v1 func91 λT H a0 r m e=>?_;rw[Ff] at m;exact au
def wR:C1 prog 55 q9 Pf.av sI:=by
 refine v1 func55 λT H a0 r m e=>?_;rw[q9] at m;simp[e];refine dM m L3 λ_ m=>?_;exact au
def uV:C2 prog 62 pH Pf.av Fm.av Pf.av:=by
 refine v2 func62 λT H a0 a1 r m e=>?_;rw[pH] at m;have e:=Aj e (show AV.agg [sI 6,sI 0,sI 0,AV.slice .ja [],AV.slice .ja [],AV.slice .ja [Fm.av a0],AV.slice .ja [Pf.av a1]]=Pf.av (Pf.mk 6 0 (Ty.mk 0 []) [] [a0] [a1]) by rw[Pf.ez];rfl);exact au
def qI:C2 prog 95 nI Pf.av sI (sL Pf.av):=by
 refine v2 func95 λT H a0 a1 r m e=>?_;rw[nI] at m;exact au
def vj:C2 prog 60 pN Pf.av Pf.av Pf.av:=by
 refine v2 func60 λT H a0 a1 r m e=>?_;rw[pN] at m;simp[e];refine dM m qI λ_ m=>?_;exact au
def BI:C2 prog 61 tu Pf.av Ty.av Pf.av:=by
 refine v2 func61 λT H a0 a1 r m e=>?_;rw[tu] at m;have e:=Aj e (show AV.agg [sI 8,sI 0,sI a0.acH,sL Ty.av a0.acI,AV.slice .ja [],AV.slice .ja [],AV.slice .ja [Pf.av a1]]=Pf.av (Pf.mk 8 0 a0 [] [] [a1]) by rw[Pf.ez];rfl);exact au
def NN(T:cW)(t:qc T){H0 X:cd}{i j:Nat}{a:Fm}{rm rm':Int}{L:List Fm}(C:E0 H0.length i j a rm X L){f:Fm}{b:Bool}(hm:AL a f rm=some (b,rm')):du prog T 53 [AV.de (H0.length+i) 0,f.av] (H0++X) (Xl H0 i j a rm' X (sB b)):=by
 have⟨cap,d,g,hi,u,D,s,E,A⟩:=id C;obtain⟨y,hy⟩:∃y,L[0]?=some y:=⟨_,lV s⟩
 have v:y=a:=by have:=A 0 y hy;rw[mi] at this;exact(gv this).symm
 subst v;have w:=(jL.1 hi).1
 have g1:(H0++X)[H0.length+i]?=some [AV.nU (H0.length+j) 0 L.length cap,sI rm]:=by rw[n7 cw,FF,hi]
 have g2:(H0++X)[H0.length+j]?=some (gT Fm.av L d):=by rw[n7 cw,FF,u]
 have h:∀z:Fm,z.av.cells.length=5:=λz=>by simp
 have o:lT (gT Fm.av L d)=true:=by
  cases L with
  |nil=>simp at s
  |cons p l=>simp[gT,lT]
 have x:AV.agg (List.take 5 (gT Fm.av L d))=y.av:=by
  have:=HN h hy (k:=d);simp only[Nat.zero_mul,Pr] at this;rw[this,Fm.iX,<-Fm.eU]
 have q:5<=(gT Fm.av L d).length:=by rw[kl h];omega
 have r:(dC X i [AV.nU (H0.length+j) 0 L.length cap,sI rm'])[i]?=some [AV.nU (H0.length+j) 0 L.length cap,sI rm']:=by unfold dC;rw[HQ w]
 have fin:∀{c:Bool},c=b->Xl H0 i j y rm' X (sB b) (sB c) (H0++dC X i [AV.nU (H0.length+j) 0 L.length cap,sI rm']):=by
  rintro c rfl;refine⟨_,L,j,rfl,⟨cap,d,g,r,?_,D,s,E,A⟩,.Zt,rfl⟩;unfold dC;rw[w4 g,u]
 rw[AL] at hm;have e:=Aj (Aj (Aj (Aj (Aj (Aj (Aj t g1) g2) hi) u) o) x) q;have e:=Aj e (show(0<L.length)=True from eq_true s);refine wi acM func53 [] [] 999 ?_;have⟨n,F,e,m⟩:=YP e hm;simp[e];refine Cf (jW T t e.2) ?_;have⟨k,e,m⟩:=fJ e m;simp[e];refine Cf (vt T t e.2) ?_;obtain⟨B,rfl⟩:=fH (gv m);have e:=Aj e r;rcases Pb (Dh k 4096) e with e|e
 ·simp[e];refine fin ?_;rw[<-B,e.2];rfl
 ·simp[e];refine fin ?_;rw[<-B,e.2];rfl
def W2{H0 X:cd}{o:Nat}{c:List AV}(h:X[o]?=some c):(H0++X)[H0.length+o]?=some c:=by rw[n7 cw,FF,h]
def Kp.at{b X:cd}{i d j o:Nat}{c:List AV}(h:Kp b i d X j)(a:b[o]?=some c/\o≠i/\o≠d):X[o]?=some c/\o≠i/\o≠j:=by
 have⟨e,f⟩:=h.get a.1 a.2.1 a.2.2;exact⟨e,a.2.1,f⟩
def O0(T:cW)(b:qc T){H0 X:cd}{i j:Nat}{a:Fm}{rm:Int}{L:List Fm}(d:E0 H0.length i j a rm X L){p r:Pf}{c:Int}(hm:yp p rm=some (r,c)):dB prog T 59 [AV.de (H0.length+i) 0,p.av] (H0++X) (AV.tuple [r.av,sI c]) (H0++X):=by
 have⟨cap,k,f,hi,l,n,o,s,t⟩:=id d;have e:=Aj b (W2 (H0:=H0) hi);rw[yp] at hm;refine wi acM func59 [] [] 999 ?_;rcases Io e hm with⟨e,m⟩|⟨e,m⟩
 ·cases m;simp[e,yK]
 ·have⟨x,g,m⟩:=cJ m;simp[e];refine Cf (yL T b g) ?_;rcases Io e m with⟨e,m⟩|⟨e,m⟩
  ·cases m;simp[e,yK]
  ·have⟨q,h,m⟩:=cJ m;cases m;simp[e];refine Cf (Dd T b h) ?_;simp[e]
def FY:C1 prog 183 rv (t2 sI sI) sB:=by
 refine v1 func183 λT H a0 r m e=>?_;rw[rv] at m;refine Il e m λe m=>?_;exact au
def D1(T:cW){H:cd}{a0 a1 a b c:Int}{q0 q1:Nat}(d:H[q0]?=some [sI a])(f:H[q1]?=some [sI b])(h:q0≠q1)(hm:mr a0 a1 a b=some c):dB prog T 218 [sI a0,sI a1,AV.de q0 0,AV.de q1 0] H (AV.tuple []) (dC H q1 [sI c]):=by
 rw[mr] at hm;have i:=fu d;have j:=fu f;refine du.RP f ?_;have e:=Aj (Aj (Aj (Aj i d) j) h) h.symm;refine wi acM func218 [] [] 999 ?_;refine Il e hm λe m=>?_;exact au
def HT(T:cW){H:cd}{a0:Tm}{a1 a:Int}(hm:qt a0 a1=some a):dB prog T 184 [Tm.av a0,sI a1] H (sI a) H:=by
 rw[qt] at hm;refine du.xF (Post:=λx K=>x=sI a/\∃X,K=H++X) ?_ (λ_ _ h=>⟨_,h.2.choose_spec,by rw[h.1];simp[AV.low,AV.gD],h.1,rfl⟩);have e:=trivial;refine wi acM func184 [3,5] [] 999 ?_;simp[e];refine dM hm (Ca T (st:=λs:Int=>H++[[sI a1],[sI s]]) (Cr.WO H (λs:Int=>[[sI a1],[sI s]]) 2 (λ_=>rfl) (by simp[AV.low,AV.gD])) (λX s _ _ b h=>by have:=D1 T (H:=H++[[sI a1],[sI s]]++X) (q0:=(List.length H)) (q1:=(List.length H+1)) VW VW VW h;simpa using this)) λ_ m=>?_;exact au
def yg:C2 prog 112 oL Tm.av sI (sL Tm.av):=by
 refine v2 func112 λT H a0 a1 r m e=>?_;rw[oL] at m;exact au
def qo:C0 prog 216 kS Ty.av:=by
 refine v0 func216 λT H r m e=>?_;rw[kS] at m;exact au
def zb:C2 prog 217 sF Tm.av Tm.av (sL Ty.av):=by
 refine v2 func217 λT H a0 a1 r m e=>?_;rw[sF] at m;simp[e];refine Wn m 999 (λs1 f h=>∃a,h=H/\f.1 1=sL Ty.av a1/\f.1 5=sI s1.1/\bx f 2 [sI s1.2.1,sI s1.2.2.1,sI s1.2.2.2.1,sL Ty.av s1.2.2.2.2.1,sT a Tm.av s1.2.2.2.2.2]/\bx f 4 [sI 0,sI 0,sI 0,nL,nL]) ⟨.ja,VW⟩ (λs1 _ _ _ _ _ E m z p=>?_);have⟨d,v9,v10,v11,v12,b⟩:=s1;have⟨a,E⟩:=E;have e:=Aj e E;dsimp only[xC]at m;apply Ir e m<;>intro e m
 ·cases m;have m:=Qb z;dsimp only[xC]at m;exact au
 have⟨c,e,m⟩:=fJ e m;simp[e];cases m;exact p _ _ _ ⟨.full,VW⟩ z
def Lw:C5 prog 215 xB Tm.av sI Ty.av Tm.av Tm.av Tm.av:=by
 refine v5 func215 λT H a0 a1 a2 a3 a4 r m e=>?_;rw[xB] at m;have e:=Aj e (show AV.agg [sI a0,sI 0,sI a1.acH,sL Ty.av a1.acI,AV.slice .ja [Tm.av a2,Tm.av a3,Tm.av a4]]=Tm.av (Tm.mk a0 0 a1 [a2,a3,a4]) by rw[Tm.ez];rfl);exact au
def tN:C3 prog 240 kM Tm.av Tm.av Tm.av Tm.av:=by
 refine v3 func240 λT H a0 a1 a2 r m e=>?_;rw[kM] at m;simp[e];refine d_ m qo λ_ m=>?_;simp[e];refine d_ m qo λ_ m=>?_;simp[e];refine d_ m qo λ_ m=>?_;simp[e];refine d_ m zb λ_ m=>?_;simp[e];refine d_ m Lw λ_ m=>?_;exact au
def Hs:C0 prog 241 ss Tm.av:=by
 refine v0 func241 λT H r m e=>?_;rw[ss] at m;simp[e];refine dM m yg λ_ m=>?_;simp[e];refine dM m nM λ_ m=>?_;simp[e];refine dM m nM λ_ m=>?_;simp[e];refine dM m tN λ_ m=>?_;simp[e];refine dM m qo λ_ m=>?_;simp[e];refine dM m zb λ_ m=>?_;exact au
def EF:C2 prog 221 qe Tm.av Tm.av (sL Tm.av):=by
 refine v2 func221 λT H a0 a1 r m e=>?_;rw[qe] at m;simp[e];refine Wr e m 999 (λc s2 f h=>h=H/\f.1 7=sL Tm.av a1/\f.1 8=sI (cE a1)/\f.1 9=sI c/\bx f 2 [sI s2.1,sI s2.2.1,sI s2.2.2.1,sL Ty.av s2.2.2.2.1,sL Tm.av s2.2.2.2.2]/\bx f 4 [sI 0,sI 0,sI 0,nL,nL]) VW (λs2 _ _ _ E m=>?_) (λc _ s2 _ _ _ _ _ E e m z p=>?_)
 ·have⟨v10,v11,v12,a,b⟩:=s2;have e:=Aj e E;dsimp only[b9,Ef]at m;exact au
 have⟨v10,v11,v12,a,b⟩:=s2;have e:=Aj e E;dsimp only[Ef]at m;simp[e];refine dM m yg λ_ m=>?_;exact al
def JU:C1 prog 239 x' Tm.av Tm.av:=by
 refine v1 func239 λT H a0 r m e=>?_;rw[x'] at m;simp[e];refine d_ m qo λ_ m=>?_;simp[e];refine d_ m qo λ_ m=>?_;simp[e];refine d_ m zb λ_ m=>?_;exact au
def Kk:C0 prog 222 uT Tm.av:=by
 refine v0 func222 λT H r m e=>?_;rw[uT] at m;simp[e];refine dM m nM λ_ m=>?_;simp[e];refine dM m Hs λ_ m=>?_;simp[e];refine dM m nM λ_ m=>?_;simp[e];refine dM m EF λ_ m=>?_;simp[e];refine dM m nM λ_ m=>?_;simp[e];refine dM m tN λ_ m=>?_;simp[e];refine dM m JU λ_ m=>?_;exact au
def C6:C2 prog 111 ox Fm.av Tm.av Tm.av:=by
 refine v2 func111 λT H a0 a1 r m e=>?_;rw[ox] at m;have e:=Aj e (show AV.agg [sI 1,sI 0,AV.slice .ja [],AV.slice .ja [Tm.av a0,Tm.av a1],AV.slice .ja []]=Fm.av (Fm.mk 1 (Ty.mk 0 []) [a0,a1] []) by rw[Fm.ez];rfl);exact au
def HF:C2 prog 186 sw Fm.av Tm.av Tm.av:=by
 refine v2 func186 λT H a0 a1 r m e=>?_;rw[sw] at m;simp[e];refine d_ m Kk λ_ m=>?_;simp[e];refine d_ m yg λ_ m=>?_;simp[e];refine d_ m EF λ_ m=>?_;simp[e];refine d_ m yg λ_ m=>?_;simp[e];refine d_ m C6 λ_ m=>?_;exact au
def wK{n:Nat}:C2 prog 219 (eu n) sB Ty.av Ty.av:=by
 refine i2 λn b=>u2 3 func219 λT H a0 a1 r m e=>?_;rw[eu] at m;simp[e];refine wj 999 999 (λf h=>h=H/\f.1 20=sB (dq (cG a0.acH a1.acH) true (cG (cE a0.acI) (cE a1.acI)))/\bx f 2 (Ty.av a0).cells/\bx f 3 (Ty.av a1).cells) (λ_ g=>?_) ?_
 ·rcases Pb (cG a0.acH a1.acH) e with e|e
  ·exact aj
  exact aj
 rintro _ _ E;have e:=Aj e E;refine Il e m λe m=>?_;simp[e];refine Wr e m 999 (λa _ f h=>h=H/\f.1 22=sL Ty.av a0.acI/\f.1 23=sI (cE a0.acI)/\f.1 24=sI a/\bx f 3 (Ty.av a1).cells) VW (λ_ _ _ _ E m=>?_) (λa _ _ _ _ _ _ _ E e m z p=>?_)
 ·have e:=Aj e E;dsimp only[b9]at m;exact au
 have e:=Aj e E;have⟨c,e,m⟩:=fJ e m;simp[e];refine d_ m b λ_ m=>?_;refine Im e m λe m=>?_;exact al
def CY{n:Nat}:C2 prog 220 (gB n) sB Tm.av Tm.av:=by
 refine i2 λn c=>u2 3 func220 λT H a0 a1 r m e=>?_;rw[gB] at m;simp[e];refine Wj m 999 999 (λa f h=>∃v2,(h=H/\f.1 35=sB v2/\bx f 2 (Tm.av a0).cells/\bx f 3 (Tm.av a1).cells)/\a v2=some r) (λa _ g m=>?_) ?_
 ·apply Iq e m<;>intro e m
  ·exact iO
  apply Iq e m<;>intro e m
  ·exact iO
  simp[e];refine dM m wK λ_ m=>?_;apply Ir e m<;>intro e m
  ·exact iO
  exact iO
 rintro _ _ ⟨v2,E,m⟩;have e:=Aj e E;refine Il e m λe m=>?_;simp[e];refine Wr e m 999 (λb _ f h=>h=H/\f.1 37=sL Tm.av a0.acI/\f.1 38=sI (cE a0.acI)/\f.1 39=sI b/\bx f 3 (Tm.av a1).cells) VW (λ_ _ _ _ E m=>?_) (λb _ _ _ _ _ _ _ E e m z p=>?_)
 ·have e:=Aj e E;dsimp only[b9]at m;exact au
 have e:=Aj e E;have⟨d,e,m⟩:=fJ e m;simp[e];refine d_ m c λ_ m=>?_;refine Im e m λe m=>?_;exact al
def zf{n:Nat}:C2 prog 185 (iZ n) sB Fm.av Fm.av:=by
 refine i2 λn d=>u2 3 func185 λT H a0 a1 r m e=>?_;rw[iZ] at m;simp[e];refine Wj m 999 999 (λb f h=>∃v2,(h=H/\f.1 39=sB v2/\bx f 2 (Fm.av a0).cells/\bx f 3 (Fm.av a1).cells)/\b v2=some r) (λb _ g m=>?_) ?_
 ·apply Iq e m<;>intro e m
  ·exact iO
  simp[e];refine dM m wK λ_ m=>?_;apply Ir e m<;>intro e m
  ·exact iO
  apply Iq e m<;>intro e m
  ·exact iO
  exact iO
 rintro _ _ ⟨v2,E,m⟩;have e:=Aj e E;refine Il e m λe m=>?_;simp[e];refine Bu e m 999 (λc _ f h=>h=H/\f.1 41=sL Tm.av a0.cv/\f.1 42=sI (cE a0.cv)/\f.1 43=sI c/\bx f 2 (Fm.av a0).cells/\bx f 3 (Fm.av a1).cells) VW (λc _ _ _ _ _ _ _ E e m z p=>?_) (λ_ _ _ _ E m=>?_)
 ·have e:=Aj e E;have⟨i,e,m⟩:=fJ e m;simp[e];refine d_ m CY λ_ m=>?_;refine Im e m λe m=>?_;exact al
 have e:=Aj e E;dsimp only[b9]at m;simp[e];refine Wr e m 999 (λa _ f h=>h=H/\f.1 58=sL Fm.av a0.acI/\f.1 59=sI (cE a0.acI)/\f.1 60=sI a/\bx f 3 (Fm.av a1).cells) VW (λ_ _ _ _ E m=>?_) (λa _ _ _ _ _ _ _ E e m z p=>?_)
 ·have e:=Aj e E;dsimp only[b9]at m;exact au
 have e:=Aj e E;have⟨j,e,m⟩:=fJ e m;simp[e];refine d_ m d λ_ m=>?_;refine Im e m λe m=>?_;exact al
def F9(T:cW){H:cd}{a0:Fm}{c:Bool}{d:Tm}{i:Fm}{j:Bool}(hm:rB a0=some (c,d,i,j)):dB prog T 151 [Fm.av a0] H (AV.tuple [sB c,Tm.av d,Fm.av i,sB j]) H:=by
 rw[rB] at hm;have e:=trivial;refine wi acM func151 [] [] 7 ?_;simp[e];refine lZ hm FY λ_ _ m=>?_;simp[e];refine Wj m 999 0 (λl f h=>∃v4,(h=H/\f.1 6=sB (cr a0.acH 4)/\f.1 48=sB v4/\bx f 1 (Fm.av a0).cells/\bx f 3 [sI 0,sI 0,sI 0,nL,nL]/\bx f 4 [sI 0,sI 0,nL,nL,nL])/\l v4=some (c,d,i,j)) (λl _ g m=>?_) ?_
 ·apply Iq e m<;>intro e m
  ·exact iO
  apply Iq e m<;>intro e m
  ·exact iO
  have⟨t,e,m⟩:=fJ e m;apply Iq e m<;>intro e m
  ·exact iO
  have⟨u,e,m⟩:=fJ e m;exact iO
 rintro _ _ ⟨v4,E,m⟩;have e:=Aj e E;apply Iq e m<;>intro e m
 ·apply wg 999;exact au
 apply wg 7;have⟨n,e,m⟩:=fJ e m;have⟨o,e,m⟩:=fJ e m;have⟨k,e,m⟩:=fJ e m;simp[e];refine yJ m 999 999 (λb f h=>∃a,(h=H/\f.1 6=sB (cr a0.acH 4)/\f.1 83=sB a/\bx f 1 (Fm.av a0).cells/\bx f 3 [sI 0,sI 0,sI 0,nL,nL]/\bx f 4 [sI 0,sI 0,nL,nL,nL]/\bx f 10 (Tm.av k).cells)/\b a=some (c,d,i,j)) ?_ (λb _ g m=>?_)
 ·rintro _ _ ⟨a,E,m⟩;have e:=Aj e E;refine Il e m λe m=>?_;have⟨q,e,m⟩:=fJ e m;have⟨r,e,m⟩:=fJ e m;exact au
 apply Iq e m<;>intro e m
 ·exact iO
 have⟨s,e,m⟩:=fJ e m;simp[e];refine d_ m (HT T) λ_ m=>?_;apply Iq e m<;>intro e m
 ·exact iO
 simp[e];refine d_ m nM λ_ m=>?_;simp[e];refine d_ m HF λ_ m=>?_;simp[e];refine d_ m zf λ_ m=>?_;exact iO
def KG:∀(n:Nat),C1 prog 124 (jt n) (λn=>AV.sc (Value.int .u8 n)) Fm.av:=by
  intro n
  induction n with
  |zero=>
    skip
    all_goals(intro _ _;intros;rename_i hm;cases hm)
  |succ n c=>
 intro T H a0 r hm;rw[jt] at hm;have e:=trivial;refine wi acM func124 [] [] 5 ?_;simp[e];apply Iq e hm<;>intro e m
 ·apply wg 999;exact au
 apply wg 4;have⟨s,e,m⟩:=fJ e m;simp[e];refine dM m c λb m=>?_;simp[e];refine yJ m 3 2 (λd f h=>∃v4,(h=H/\f.1 3=AV.sc (.int .u8 v4)/\bx f 1 (Fm.av a0).cells)/\d v4=some r) ?_ (λd _ g m=>?_)
 ·rintro _ _ ⟨v4,E,m⟩;have e:=Aj e E;simp[e];refine yJ m 999 999 (λi f h=>∃v9,(h=H/\f.1 6=AV.sc (.int .u8 v9))/\i v9=some r) ?_ (λi _ g m=>?_)
  ·rintro _ _ ⟨v9,E,m⟩;have e:=Aj e E;exact au
  have⟨j,k,l,o,e,m⟩:=Bo4 e m;simp[e];refine Cf (F9 T e.2) ?_;apply Ir e m<;>intro e m
  ·exact iO
  simp[e];refine dM m c λ_ m=>?_;exact iO
 simp[e];refine wj 999 0 (λf h=>h=H/\f.1 3=AV.sc (.int .u8 b)/\f.1 24=sI a0.acH/\f.1 25=sB (dq (cr a0.acH 2) true (cr a0.acH 3))/\bx f 1 (Fm.av a0).cells) (λ_ g=>?_) ?_
 ·rcases Pb (cr a0.acH 2) e with e|e
  ·exact aj
  exact aj
 rintro _ _ E;have e:=Aj e E;apply Ir e m<;>intro e m
 ·apply wg 999;apply Ir e m<;>intro e m
  ·exact iO
  exact iO
 apply wg 5;have⟨q,e,m⟩:=fJ e m;simp[e];refine dM m c λa m=>?_;simp[e];refine I5 2 999 (λf h=>h=H/\f.1 3=AV.sc (.int .u8 (dq (cr a0.acH 2) (tZ .u8 b a) b))/\f.1 5=AV.sc (.int .u8 (lX .u8 (lX .u8 a b) 6))) ?_ (λ_ g=>?_)
 ·rintro _ _ E;have e:=Aj e E;exact au
 simp[e];rcases Pb (cr a0.acH 2) e with e|e
 ·apply wg 999;exact aj
 apply wg 999;exact aj
def L8{n:Nat}:C1 prog 124 (jt n) (λn=>AV.sc (Value.int .u8 n)) Fm.av:=(KG n)
def Kz(T:cW)(a:qc T){H:cd}{a0:Fm}{a1:Int}{b:Bool}{c:Int}(hm:qq a0 a1=some (b,c)):dB prog T 85 [Fm.av a0,AV.sc (.int .u8 a1)] H (AV.tuple [sB b,sI c]) H:=by
 rw[qq] at hm;have e:=a;refine wi acM func85 [] [] 999 ?_;simp[e];refine dM hm (my T a) λ_ m=>?_;refine Il e m λe m=>?_;simp[e];refine dM m L8 λ_ m=>?_;exact au
def H3(T:cW)(a:qc T){H:cd}{a0:Fm}{b:Bool}{c:Int}(hm:oW a0=some (b,c)):dB prog T 48 [Fm.av a0] H (AV.tuple [sB b,sI c]) H:=by
 rw[oW] at hm;have e:=a;refine wi acM func48 [] [] 999 ?_;simp[e];refine lZ hm (Kz T a) λ_ _ m=>?_;exact au
def zS{n:Nat}:C1 prog 49 (fN n) sB Fm.av:=by
 refine i1 λn a=>u1 2 func49 λT H a0 r m e=>?_;rw[fN] at m;simp[e];refine yJ m 999 999 (λb f h=>∃v2,(h=H/\f.1 2=sB v2)/\b v2=some r) ?_ (λb _ g m=>?_)
 ·rintro _ _ ⟨v2,E,m⟩;have e:=Aj e E;exact au
 apply Iq e m<;>intro e m
 ·exact iO
 apply Ir e m<;>intro e m
 ·exact iO
 have⟨c,e,m⟩:=fJ e m;simp[e];refine dM m a λ_ m=>?_;apply Ir e m<;>intro e m
 ·exact iO
 have⟨d,e,m⟩:=fJ e m;simp[e];refine dM m a λ_ m=>?_;exact iO
end Go.Proofs.YtffcgfpaakhbjaaGreatDoor
set_option maxRecDepth 20000
set_option maxHeartbeats 4000000
namespace Go.Proofs.YtffcgfpaakhbjaaGreatDoor
open Go Go.jX Go.dF Tryz
@[simp] theorem abS:dL prog 85=some (false,1):=by kernel_rfl
@[simp] theorem ab4:dL prog 91=some (false,1):=by kernel_rfl
@[simp] theorem abJ:dL prog 92=some (false,1):=by kernel_rfl
@[simp] theorem aab:fV prog 116=some [.sc .nilFunc]:=by kernel_rfl
@[simp] theorem abE:dL prog 116=some (false,1):=by kernel_rfl
@[simp] theorem abP:dL prog 52=some (false,1):=by kernel_rfl
def Gr(H:cd)(r v:AV)(K:cd):Prop:=v=r/\∃Y,K=H++Y
def Gr.hex{H:cd}{r:AV}:∃v K,Gr H r v K:=⟨r,H,rfl,[],th⟩
def zd{P:Program}{T:cW}{g:FuncId}{cap aa:List AV}{H:cd}{Post:AV->cd->Prop}(h:du P T g (aa++cap) H Post):jo P T (.func (.func g) [] cap) aa H Post:=by unfold jo;simpa using h
def PV(T:cW)(H:cd)(v:AV)(p:Int->Option Pf):Prop:=∃g cap,v=AV.func (.func g) [] cap/\∀X m r,p m=some r->du prog T g (sI m::cap) (H++X) (Gr (H++X) r.av)
def TV(T:cW)(H:cd)(v:AV)(a:(Int->Option Pf)->Int->Option Pf):Prop:=∃g cap,v=AV.func (.func g) [] cap/\∀X w q m r,PV T (H++X) w q->a q m=some r->du prog T g (w::sI m::cap) (H++X) (Gr (H++X) r.av)
def PV.app{T:cW}{H Z:cd}{v:AV}{p:Int->Option Pf}(h:PV T H v p):PV T (H++Z) v p:=by
 obtain⟨g,cap,rfl,h⟩:=h;exact⟨g,cap,rfl,λX m r hm=>by have:=h (Z++X) m r hm;rwa [<-mI] at this⟩
def TV.app{T:cW}{H Z:cd}{v:AV}{a:(Int->Option Pf)->Int->Option Pf}(h:TV T H v a):TV T (H++Z) v a:=by
 obtain⟨g,cap,rfl,h⟩:=h;exact⟨g,cap,rfl,λX w q m r hw hm=>by have:=h (Z++X) w q m r (by rwa [<-mI]) hm;rwa [<-mI] at this⟩
def fh{H X:cd}{o:Nat}{c:List AV}(h:H[o]?=some c):(H++X)[o]?=some c:=by rw[ni (jL.1 h).1,h]
def Wh(n o:Nat):Bool:=decide (o<n)
def uE{n o:Nat}(h:Wh n o=true):o<n:=UQ h
def rZ{H X:cd}{o:Nat}{c:List AV}(h:H[o]?=some c):Wh (H.length+X.length) o=true:=by have:=(jL.1 h).1;unfold Wh;exact r9 cw
def uy{H Y:cd}{st:Nat->Bool}{cl:Nat->Nat}(h:∀o,st o=true->o<H.length):QK ⟨false,st,cl⟩ H (H++Y):=⟨(λh=>by cases h),λo a=>ni (h o a)⟩
def MW{T:cW}{H:cd}{v:AV}{p:Int->Option Pf}(b:PV T H v p){ok op:Nat}{k:Int}(c:H[ok]?=some [sI k])(a:H[op]?=some [v]):PV T H (AV.func (.func 94) [] [AV.de ok 0,AV.de op 0]) (λm=>bU (p m) λy=>some (DD k [y])):=by
 refine⟨_,_,rfl,λX m r hm=>?_⟩;have⟨y,hy,d⟩:=cJ hm;cases d;obtain⟨g,cap,rfl,b⟩:=b;have f:=rZ (X:=X) c;have h:=rZ (X:=X) a;have e:=Aj (Aj trivial (fh (X:=X) c)) (fh (X:=X) a);refine TH (λo=>Wh (H++X).length o) (λ_=>0) acM func94 [8] [(1,false,[])] 999 ?_;simp[e,f,h];refine dY.Oj (zd (aa:=[sI m]) (b X m y hy)) Gr.hex aal ?_;rintro _ _ ⟨rfl,Y,rfl⟩;refine⟨uy λo a=>by first|(have:=uE a;simp at this|-;omega)|(simp at a|-;omega),?_⟩;have e:=Aj (Aj trivial (fh (X:=X++Y) c)) (fh (X:=X++Y) a);simp[e];refine Cs (qI (show nI k [y]=some (DD k [y])from rfl)) ?_;simp[e];exact⟨rfl,Y,th⟩
def Wq{T:cW}{H:cd}{ol:Nat}{h:Int}(a:H[ol]?=some [sI h]):PV T H (AV.func (.func 92) [] [AV.de ol 0]) (λm=>some (Mf (di .i64 (di .i64 m 1) h))):=by
 refine⟨_,_,rfl,λX m r hm=>?_⟩;cases hm;have e:=Aj trivial (fh (X:=X) a);refine wi acM func92 [] [] 999 ?_;simp[e];refine Cf (wR (show q9 (di .i64 (di .i64 m 1) h)=some (Mf (di .i64 (di .i64 m 1) h))from rfl)) ?_;simp[e];exact⟨rfl,[],th⟩
def R_{T:cW}{H:cd}{v w:AV}{p q:Int->Option Pf}(c:PV T H v p)(b:PV T H w q){o1 o2:Nat}(d:H[o1]?=some [v])(f:H[o2]?=some [w]):PV T H (AV.func (.func 98) [] [AV.de o1 0,AV.de o2 0]) (λm=>bU (p m) λu=>bU (q m) λv=>some (DD 3 [u,v])):=by
 refine⟨_,_,rfl,λX m r hm=>?_⟩;have⟨x,k,h⟩:=cJ hm;have⟨y,hy,h⟩:=cJ h;cases h;have l:=b;obtain⟨g,cap,rfl,c⟩:=c;obtain⟨t,i,rfl,b⟩:=b;have n:=rZ (X:=X) d;have j:=rZ (X:=X) f;have e:=Aj (Aj trivial (fh (X:=X) d)) (fh (X:=X) f);refine TH (λo=>Wh (H++X).length o) (λ_=>0) acM func98 [7,10] [(1,false,[])] 999 ?_;simp[e,n,j];refine dY.Oj (zd (aa:=[sI m]) (c X m x k)) Gr.hex aal ?_;rintro _ _ ⟨rfl,Y,rfl⟩;refine⟨uy λo a=>by first|(have:=uE a;simp at this|-;omega)|(simp at a|-;omega),?_⟩;have e:=Aj (Aj (Aj trivial (fh (X:=X++Y) d)) (fh (X:=X++Y) f)) j;simp[e];refine dY.Oj (zd (aa:=[sI m]) (b (X++Y) m y hy)) Gr.hex aal ?_;rintro _ _ ⟨rfl,s,rfl⟩;refine⟨uy λo a=>by first|(have:=uE a;simp at this|-;omega)|(simp at a|-;omega),?_⟩;simp[e];refine Cs (qI (show nI 3 [x,y]=some (DD 3 [x,y])from rfl)) ?_;simp[e];exact⟨rfl,Y++s,th⟩
def gZ.abA{P:Program}{T:cW}{E:List Nat}{ops:Array Oper}{rest:List Oper}{K:Fr->cd->Prop}{fr:Fr}{H:cd}{d:Option Nat}{a:AV}{aa:List AV}{Post:AV->cd->Prop}(h:jo P T a aa H Post)(b:∀r H',Post r H'->fl P T E ops rest K (fr.put d r) H'):gZ P T E ops a aa d rest K fr H:=by
 unfold gZ;unfold jo at h|-
 split at h
 ·exact h.mono b
 ·exact h.elim
def S7{T:cW}{H:cd}{u v:AV}{h:(Int->Option Pf)->Int->Option Pf}{q:Int->Option Pf}(d:TV T H u h)(k:PV T H v q){o1 o2:Nat}(i:H[o1]?=some [u])(c:H[o2]?=some [v]):TV T H (AV.func (.func 97) [] [AV.de o1 0,AV.de o2 0]) (λr c=>h (λm=>bU (q m) λu=>bU (r m) λv=>some (DD 3 [u,v])) c):=by
 refine⟨_,_,rfl,λX w r m s j hm=>?_⟩;have f:=j;obtain⟨a,b,rfl,_⟩:=f;obtain⟨g,cap,rfl,d⟩:=d;have e:=Aj (Aj trivial (fh (X:=X) i)) (fh (X:=X) c);have l:=R_ (H:=H++(X++[[AV.func (.func a) [] b]])) (o1:=o2) (o2:=H.length+X.length) k.app (by have:=j.app (Z:=[[AV.func (.func a) [] b]]);rwa [mI] at this) (fh c) (by rw[<-mI,n7 th];simp);have n:=d (X++[[AV.func (.func a) [] b]]) _ _ m s l hm;have e:=Aj (Aj e (fh (X:=X++[[AV.func (.func a) [] b]]) i)) (fh (X:=X++[[AV.func (.func a) [] b]]) c);refine wi acM func97 [4] [] 999 ?_;simp[e];refine gZ.abA (zd (aa:=[_,sI m]) n) ?_;rintro _ _ ⟨rfl,Y,rfl⟩;simp[e];exact⟨rfl,[[AV.func (.func a) [] b]]++Y,th⟩
def Re{T:cW}{H:cd}{k:Int}{op:Nat}:dB prog T 93 [sI k,AV.de op 0] H (AV.func (.func 94) [] [AV.de H.length 0,AV.de op 0]) (H++[[sI k]]):=by
 have e:=trivial;refine wi acM func93 [2] [] 999 ?_;simp[e]
def Na(T:cW)(n:Nat):Prop:=∀{H:cd} {wo:Nat} {f:Fm} {v u:AV} {p:Int->Option Pf} {h:Int} {a:(Int->Option Pf)->Int->Option Pf} {r:Pf},PV T H v p->TV T H u a->p8 n f p h a=some r->du prog T 56 [AV.de wo 0,f.av,v,sI h,u] H (Gr H r.av)
def NQ{T:cW}{n:Nat}(G:Na T n){H:cd}{wo:Nat}{f:Fm}{v u:AV}{p:Int->Option Pf}{B:(Int->Option Pf)->Int->Option Pf}(I:PV T H v p)(hu:TV T H u B){C D i E d:Nat}(j:H[C]?=some [AV.de wo 0])(l:H[D]?=some f.av.cells)(J:H[i]?=some [v])(g:H[E]?=some [u])
  (c:H[d]?=some [AV.func (.func 93) [] [AV.de i 0]]):TV T H (AV.func (.func 96) [] [AV.de C 0,AV.de D 0,AV.de d 0,AV.de E 0]) (λq K=>bU (cq f.acI 1) λy=>p8 n y (λm=>bU (p m) λz=>some (DD 5 [z])) K λr L=>B (λm=>bU (q m) λu=>bU (r m) λv=>some (DD 3 [u,v])) L):=by
 refine⟨_,_,rfl,λX w q m s F hm=>?_⟩;have⟨y,hy,M⟩:=cJ hm;have t:=F;obtain⟨a,b,rfl,_⟩:=t;have N:=rZ (X:=X) j;have O:=rZ (X:=X) l;have P:=rZ (X:=X) g;have x:=rZ (X:=X) c;have e:=Aj (Aj (Aj (Aj (Aj trivial hy) (fh (X:=X) j)) (fh (X:=X) l)) (fh (X:=X) g)) (fh (X:=X) c);have e:=Aj (Aj (Aj (Aj e (fh (X:=X++[[AV.func (.func a) [] b]]) j)) (fh (X:=X++[[AV.func (.func a) [] b]]) l)) (fh (X:=X++[[AV.func (.func a) [] b]]) g)) (fh (X:=X++[[AV.func (.func a) [] b]]) c);refine TH (λo=>Wh (H++X).length o) (λ_=>0) acM func96 [6,18] [(1,false,[])] 999 ?_;simp[e,N,O,P,x];refine dY.QU (fi:=[]) («as»:=[sI 5]) (ca:=[AV.de i 0]) rfl (Re (H:=H++(X++[[AV.func (.func a) [] b]])) (k:=5) (op:=i)) (uy ?_) ?_
 ·intro o h;first|(have:=uE h;simp at this|-;omega)|(simp at h|-;omega)
 have g1:(H++(X++[[AV.func (.func a) [] b],[sI 5]]))[H.length+X.length]?=some [AV.func (.func a) [] b]:=by rw[n7 cw,n7 cw];simp
 have g2:(H++(X++[[AV.func (.func a) [] b],[sI 5]]))[H.length+(X.length+1)]?=some [sI 5]:=by rw[n7 cw,n7 cw];simp
 have e:=Aj (Aj (Aj (Aj (Aj trivial hy) (fh (X:=X++[[AV.func (.func a) [] b],[sI 5]]) j)) (fh (X:=X++[[AV.func (.func a) [] b],[sI 5]]) l)) (fh (X:=X++[[AV.func (.func a) [] b],[sI 5]]) g)) (fh (X:=X++[[AV.func (.func a) [] b],[sI 5]]) c)
 have A:PV T (H++(X++[[AV.func (.func a) [] b],[sI 5]])) (AV.func (.func a) [] b) q:=by have:=F.app (Z:=[[AV.func (.func a) [] b],[sI 5]]);rwa [mI] at this
 have hn:=G (H:=H++(X++[[AV.func (.func a) [] b],[sI 5]])) (wo:=wo) (MW (I.app (Z:=X++[[AV.func (.func a) [] b],[sI 5]])) g2 (fh J)) (S7 hu.app A (fh g) g1) M;simp[e];refine dY.rel hn Gr.hex aal ?_;rintro _ _ ⟨rfl,Y,rfl⟩;refine⟨uy λo h=>by first|(have:=uE h;simp at this|-;omega)|(simp at h|-;omega),?_⟩;simp[e];exact⟨rfl,[[AV.func (.func a) [] b],[sI 5]]++Y,th⟩
def NU(T:cW)(n:Nat)(A:Na T n):Na T (n+1):=by
 intro H wo f v u p h E r s hu hm;rw[p8] at hm;obtain⟨d,g,rfl,t⟩:=id s;obtain⟨i,j,rfl,w⟩:=id hu;cases l:cr f.acH 1 with
 |true=>
  rw[bX l] at hm;have⟨x,z,m⟩:=cJ hm;have⟨y,hy,m⟩:=cJ m;cases m;have e:=l;refine TH (λo=>decide (o<H.length+5)) (λ_=>0) acM func56 [5,6,7,9,11,12,19,25,38] [(3,false,[]),(5,false,[])] 999 ?_;simp[e];refine dY.Oj (zd (aa:=[sI h]) (t [[AV.de wo 0],[AV.sc (.int .i64 f.acH),AV.sc (.int .i64 f.b7.acH),AV.slice .ja (List.map Ty.av f.b7.acI),AV.slice .ja (List.map Tm.av f.cv),AV.slice .ja (List.map Fm.av f.acI)],[AV.func (.func d) [] g],[AV.func (.func i) [] j],[sI h]] h x z)) Gr.hex aal ?_;rintro _ _ ⟨rfl,Y,rfl⟩;refine⟨uy λo b=>by first|(have:=uE b;simp at this|-;omega)|(simp at b|-;omega),?_⟩
  have a:∀c k,[[AV.de wo 0],[AV.sc (.int .i64 f.acH),AV.sc (.int .i64 f.b7.acH),AV.slice .ja (List.map Ty.av f.b7.acI),AV.slice .ja (List.map Tm.av f.cv),AV.slice .ja (List.map Fm.av f.acI)],[AV.func (.func d) [] g],[AV.func (.func i) [] j],[sI h]][k]?=some c->(H++([[AV.de wo 0],[AV.sc (.int .i64 f.acH),AV.sc (.int .i64 f.b7.acH),AV.slice .ja (List.map Ty.av f.b7.acI),AV.slice .ja (List.map Tm.av f.cv),AV.slice .ja (List.map Fm.av f.acI)],[AV.func (.func d) [] g],[AV.func (.func i) [] j],[sI h]]++Y))[H.length+k]?=some c:=λc k q=>by rw[n7 cw,FF,ni (jL.1 q).1,q]
  have e:=Aj (Aj (Aj (Aj e (a _ 1 rfl)) (a _ 3 rfl)) (a _ 2 rfl)) (a _ 4 rfl);have B:=Wq (T:=T) (H:=H++([[AV.de wo 0],[AV.sc (.int .i64 f.acH),AV.sc (.int .i64 f.b7.acH),AV.slice .ja (List.map Ty.av f.b7.acI),AV.slice .ja (List.map Tm.av f.cv),AV.slice .ja (List.map Fm.av f.acI)],[AV.func (.func d) [] g],[AV.func (.func i) [] j],[sI h]]++Y)) (a _ 4 rfl);have C:=w _ _ _ _ y B hy;simp[e];refine dY.Oj (zd (aa:=[_,sI (da .i64 h 1)]) C) Gr.hex aal ?_;rintro _ _ ⟨rfl,D,rfl⟩;refine⟨uy λo b=>by first|(have:=uE b;simp at this|-;omega)|(simp at b|-;omega),?_⟩;simp[e];refine Cs (uV (show pH f y=some (Nl f y)from rfl)) ?_;simp[e];refine Cs (vj (show pN x (Nl f y)=some (TM x (Nl f y))from rfl)) ?_;simp[e];exact⟨rfl,[[AV.de wo 0],[AV.sc (.int .i64 f.acH),AV.sc (.int .i64 f.b7.acH),AV.slice .ja (List.map Ty.av f.b7.acI),AV.slice .ja (List.map Tm.av f.cv),AV.slice .ja (List.map Fm.av f.acI)],[AV.func (.func d) [] g],[AV.func (.func i) [] j],[sI h]]++Y++D,th⟩
 |false=>
  rw[bV (by rw[l];decide)] at hm;have⟨x,z,m⟩:=cJ hm;have e:=Aj l z;refine TH (λo=>decide (o<H.length+5)) (λ_=>0) acM func56 [5,6,7,9,11,12,19,25,38] [(3,false,[]),(5,false,[])] 999 ?_;simp[e];refine dY.QU (fi:=[]) («as»:=[sI 4]) (ca:=[AV.de (H.length+2) 0]) rfl (Re (H:=H++[[AV.de wo 0],[AV.sc (.int .i64 f.acH),AV.sc (.int .i64 f.b7.acH),AV.slice .ja (List.map Ty.av f.b7.acI),AV.slice .ja (List.map Tm.av f.cv),AV.slice .ja (List.map Fm.av f.acI)],[AV.func (.func d) [] g],[AV.func (.func i) [] j],[AV.func (.func 93) [] [AV.de (H.length+2) 0]]]) (k:=4) (op:=H.length+2)) (uy ?_) ?_
  ·intro o b;first|(have:=uE b;simp at this|-;omega)|(simp at b|-;omega)
  have a:∀c k,[[AV.de wo 0],[AV.sc (.int .i64 f.acH),AV.sc (.int .i64 f.b7.acH),AV.slice .ja (List.map Ty.av f.b7.acI),AV.slice .ja (List.map Tm.av f.cv),AV.slice .ja (List.map Fm.av f.acI)],[AV.func (.func d) [] g],[AV.func (.func i) [] j],[AV.func (.func 93) [] [AV.de (H.length+2) 0]],[sI 4]][k]?=some c->(H++[[AV.de wo 0],[AV.sc (.int .i64 f.acH),AV.sc (.int .i64 f.b7.acH),AV.slice .ja (List.map Ty.av f.b7.acI),AV.slice .ja (List.map Tm.av f.cv),AV.slice .ja (List.map Fm.av f.acI)],[AV.func (.func d) [] g],[AV.func (.func i) [] j],[AV.func (.func 93) [] [AV.de (H.length+2) 0]],[sI 4]])[H.length+k]?=some c:=λc k q=>by rw[n7 cw,FF,q]
  have hn:=A (H:=H++[[AV.de wo 0],[AV.sc (.int .i64 f.acH),AV.sc (.int .i64 f.b7.acH),AV.slice .ja (List.map Ty.av f.b7.acI),AV.slice .ja (List.map Tm.av f.cv),AV.slice .ja (List.map Fm.av f.acI)],[AV.func (.func d) [] g],[AV.func (.func i) [] j],[AV.func (.func 93) [] [AV.de (H.length+2) 0]],[sI 4]]) (wo:=wo) (MW s.app (a _ 5 rfl) (a _ 2 rfl)) (NQ A s.app hu.app (a _ 0 rfl) (by rw[Fm.iX];exact a _ 1 rfl) (a _ 2 rfl) (a _ 3 rfl) (a _ 4 rfl)) m;simp[e];refine dY.rel hn Gr.hex aal ?_;rintro _ _ ⟨rfl,Y,rfl⟩;refine⟨uy λo b=>by first|(have:=uE b;simp at this|-;omega)|(simp at b|-;omega),?_⟩;simp[e];exact⟨rfl,[[AV.de wo 0],[AV.sc (.int .i64 f.acH),AV.sc (.int .i64 f.b7.acH),AV.slice .ja (List.map Ty.av f.b7.acI),AV.slice .ja (List.map Tm.av f.cv),AV.slice .ja (List.map Fm.av f.acI)],[AV.func (.func d) [] g],[AV.func (.func i) [] j],[AV.func (.func 93) [] [AV.de (H.length+2) 0]],[sI 4]]++Y,th⟩
def JQ(T:cW):∀n,Na T n
 |0=>λ_ _ hm=>by cases hm
 |n+1=>NU T n (JQ T n)
def Qs{T:cW}{H:cd}:PV T H (AV.func (.func 54) [] []) (λh=>some (Mf (di .i64 h 1))):=by
 refine⟨_,_,rfl,λX m r hm=>?_⟩;cases hm;have e:=trivial;refine wi acM func54 [] [] 999 ?_;simp[e];refine Cf (wR (show q9 (di .i64 m 1)=some (Mf (di .i64 m 1))from rfl)) ?_;simp[e];exact⟨rfl,[],th⟩
def Sj{T:cW}{H:cd}{l:Fm}{o:Nat}(a:H[o]?=some l.av.cells):TV T H (AV.func (.func 57) [] [AV.de o 0]) (λq h=>bU (q h) λy=>some (.mk 10 0 (Ty.mk 0 []) [.mk 1 0 (Ty.mk 0 []) []] [l] [y])):=by
 refine⟨_,_,rfl,λX w q m s c hm=>?_⟩;have⟨y,hy,d⟩:=cJ hm;cases d;obtain⟨f,g,rfl,b⟩:=c;have lo:=rZ (X:=X) a;have e:=Aj trivial (fh (X:=X) a);refine TH (λo=>Wh (H++X).length o) (λ_=>0) acM func57 [12] [(1,false,[])] 999 ?_;simp[e,lo];refine Cs (nM (show fk 0=some (Tm.mk 1 0 (Ty.mk 0 []) [])from rfl)) ?_;simp[e,lo];refine dY.Oj (zd (aa:=[sI m]) (by have:=b [] m y hy;rwa [wB] at this)) Gr.hex aal ?_;rintro _ _ ⟨rfl,Y,rfl⟩;refine⟨uy λo a=>by first|(have:=uE a;simp at this|-;omega)|(simp at a|-;omega),?_⟩;have e:=Aj trivial (show AV.agg [sI 10,sI 0,sI 0,AV.slice .ja [],AV.slice .ja [(Tm.mk 1 0 (Ty.mk 0 []) []).av],AV.slice .ja [l.av],AV.slice .ja [y.av]]=Pf.av (.mk 10 0 (Ty.mk 0 []) [.mk 1 0 (Ty.mk 0 []) []] [l] [y]) by rw[Pf.ez];rfl);simp[e];exact⟨rfl,Y,th⟩
section
variable{P:Program} {T:cW} {E:List Nat} {ops:Array Oper} {q:Qt} {bs:List Bool} {rest:List Oper} {K:Fr->cd->Prop} {fr:Fr} {H:cd} {d:Option Nat} {ty:TypeId} {pos:String} {after:Array Edge}
@[simp] theorem W6{t:TypeId}{x:Operand}:dy P T E ops q (false::bs) ({dst:=d,op:=.box t x,type:=ty,pos:=pos,after:=after,guard:=none}::rest) K fr H=(dj (ev T fr x)=true/\iS E d (ev T fr x).cells (dy P T E ops q bs rest K) fr H):=by
 simp only[dy,gd,fw,pV,jB,m0,wN,hZ,fG,eN,false_implies,zE]
end
def ot(T:cW)(p:qc T){H:cd}{a0:Fm}{a1 y:Pf}{z:Int}(hm:fy a0 a1=some (y,z)):dB prog T 17 [Fm.av a0,Pf.av a1] H (AV.tuple [Pf.av y,sI z]) H:=by
 rw[fy] at hm;refine du.xF (Post:=λx K=>x=AV.tuple [Pf.av y,sI z]/\∃X,K=H++X) ?_ (λ_ _ h=>⟨_,h.2.choose_spec,by rw[h.1];simp[AV.low,AV.gD],h.1,rfl⟩);have e:=p;refine TH (λo=>decide (o=H.length\/o=H.length+3)) (λ_=>0) acM func17 [11,57,63,83] [(12,false,[true,true,true,true,false,true]),(13,false,[]),(17,false,[])] 999 ?_;have⟨c,L,m⟩:=cJ hm;simp[e];refine Cf (my T p L) ?_;rcases Io e m with⟨e,m⟩|⟨e,m⟩
 ·cases m;simp[e,yK]
 have⟨free,S,A,m⟩:=qK m;simp[e];refine Cf (H3 T p A) ?_;simp only[cc] at m;cases free with
 |true=>
  simp only[if_true] at m;cases m;simp[e,yK]
 |false=>
 simp only[hZ,fG] at m;rcases Io e m with⟨e,m⟩|⟨e,m⟩
 ·simp only[if_true] at m;cases m;simp[e,yK]
 have⟨x,F,m⟩:=cJ m;have⟨b,M,m⟩:=cJ m;have e:=Aj e F;simp[e];refine Cf (zS M) ?_;cases b with
 |false=>
  simp only[mq,W5,if_true] at m;cases m;simp[e,yK]
 |true=>
 simp only[mq,S4,hZ,fG] at m;have⟨c3,B,m⟩:=cJ m;simp[e];refine Cf (yL T p B) ?_;rcases Io e m with⟨e,m⟩|⟨e,m⟩
 ·cases m;simp[e,yK]
 have⟨N,q,m⟩:=cJ m
 obtain rfl:x=N:=by rw[F] at q;exact gv q
 have⟨l,O,m⟩:=cJ m;have⟨ok,rm,r,m⟩:=qK m;simp[e];refine Cf (oZ T O) ?_;simp[e];refine Cs NA ?_ (by refine⟨(λh=>by cases h),λo n=>?_⟩;simp at n;rcases n with rfl|rfl<;>simp);simp[e];have G:E0 (H++[l.av.cells]).length 1 0 l 1048576 ([gT Fm.av [l] 0,[AV.nU (H++[l.av.cells]).length 0 1 1,sI 1048576]]++[AV.de (H.length+2) 0::l.av.cells]) [l]:=E0.start.app;have C:=NN T p G r
 have d:(H++[l.av.cells]).length=H.length+1:=th
 rw[d] at C;rw[show H++[l.av.cells]++([gT Fm.av [l] 0,[AV.nU (H.length+1) 0 1 1,sI 1048576]]++[AV.de (H.length+2) 0::l.av.cells])=H++[[AV.sc (.int .i64 l.acH),AV.sc (.int .i64 l.b7.acH),AV.slice .ja (List.map Ty.av l.b7.acI),AV.slice .ja (List.map Tm.av l.cv),AV.slice .ja (List.map Fm.av l.acI)],gT Fm.av [l] 0,[AV.nU (H.length+1) 0 1 1,sI 1048576],AV.de (H.length+1+1) 0::[AV.sc (.int .i64 l.acH),AV.sc (.int .i64 l.b7.acH),AV.slice .ja (List.map Ty.av l.b7.acI),AV.slice .ja (List.map Tm.av l.cv),AV.slice .ja (List.map Fm.av l.acI)]] by simp] at C;refine dY.rel C (by have:=G.hex (rm':=rm) (v:=sB ok);rwa [d] at this) aal ?_;rintro _ _ ⟨f,U,I,rfl,s,P,rfl⟩;have D:f[2]?=some (AV.de (H.length+2) 0::l.av.cells)/\2≠1/\2≠I:=P.at ⟨rfl,cw,cw⟩;refine⟨⟨(λh=>by cases h),λo n=>?_⟩,?_⟩
 ·simp at n;rcases n with rfl|rfl
  ·simp
  ·have:=D.1;simp[this]
 have g0:(H++l.av.cells::f)[H.length]?=some l.av.cells:=th
 have g3:(H++l.av.cells::f)[H.length+3]?=some (AV.de (H.length+2) 0::l.av.cells):=by have:=D.1;simp[this]
 cases ok with
 |false=>
  simp only[mq,W5,if_true] at m;cases m;simp[e,g0,g3,yK]
 |true=>
 simp only[mq,S4,hZ,fG] at m;have⟨w,hw,m⟩:=cJ m;have⟨t,Q,m⟩:=cJ m;have J:=e;have e:=Aj (Aj e g0) g3;simp[e];refine gZ.fnP (JQ T FU (H:=H++[AV.sc (.int .i64 l.acH),AV.sc (.int .i64 l.b7.acH),AV.slice .ja (List.map Ty.av l.b7.acI),AV.slice .ja (List.map Tm.av l.cv),AV.slice .ja (List.map Fm.av l.acI)]::f) Qs (Sj (by rw[Fm.iX];simp)) hw) ?_;rintro _ _ ⟨rfl,Y,rfl⟩;have g:=(Kp.app (X:=f) (Y:=Y) (i:=1) (j:=I)).at D
 have g0:(H++l.av.cells::(f++Y))[H.length]?=some l.av.cells:=th
 have g3:(H++l.av.cells::(f++Y))[H.length+3]?=some (AV.de (H.length+2) 0::l.av.cells):=by have:=g.1;simp[this]
 have e:=Aj (Aj (Aj J g0) g3) g.1;simp[e];have ff:=xY FU (T:=T) (k:=0) (s.app (Y:=Y)) Q (by rw[cV];omega);rw[d] at ff;rw[show H++[l.av.cells]++(f++Y)=H++[AV.sc (.int .i64 l.acH),AV.sc (.int .i64 l.b7.acH),AV.slice .ja (List.map Ty.av l.b7.acI),AV.slice .ja (List.map Tm.av l.cv),AV.slice .ja (List.map Fm.av l.acI)]::(f++Y) by simp] at ff;refine dY.rel ff (s.app (Y:=Y)).hex aal ?_;rintro _ _ ⟨u,V,W,rfl,E,k2,rfl⟩;have a:=k2.at g;refine⟨⟨(λh=>by cases h),λo n=>?_⟩,?_⟩
 ·simp at n;rcases n with rfl|rfl
  ·simp
  ·have:=a.1;have R:=g.1;simp[this,R]
 have g0:(H++l.av.cells::u)[H.length]?=some l.av.cells:=th
 have g3:(H++l.av.cells::u)[H.length+3]?=some (AV.de (H.length+2) 0::l.av.cells):=by have:=a.1;simp[this]
 have e:=Aj (Aj (Aj J g0) g3) a.1;simp[e];refine Cs (uV (show pH t w=some (Nl t w)from rfl)) ?_;simp[e];refine Cs (BI (show tu a0.b7 (Nl t w)=some (.mk 8 0 a0.b7 [] [] [Nl t w])from rfl)) ?_;simp[e];refine Cs (vj (show pN a1 (.mk 8 0 a0.b7 [] [] [Nl t w])=some (TM a1 (.mk 8 0 a0.b7 [] [] [Nl t w]))from rfl)) ?_;simp[e];have fd:=O0 T p E m;rw[d] at fd;rw[show H++[l.av.cells]++u=H++[AV.sc (.int .i64 l.acH),AV.sc (.int .i64 l.b7.acH),AV.slice .ja (List.map Ty.av l.b7.acI),AV.slice .ja (List.map Tm.av l.cv),AV.slice .ja (List.map Fm.av l.acI)]::u by simp] at fd;refine Cs fd ?_;simp[e]
end Go.Proofs.YtffcgfpaakhbjaaGreatDoor
set_option maxRecDepth 20000
set_option maxHeartbeats 4000000
namespace Go.Proofs.YtffcgfpaakhbjaaGreatDoor
open Go Go.jX Go.dF Tryz
def rF:C1 prog 134 kn sI (sL Ty.av):=by
 refine v1 func134 λT H a0 r m e=>?_;rw[kn] at m;refine Il e m λe m=>?_;simp[e];refine Wr e m 999 (λa _ f h=>h=H/\f.1 9=sL Ty.av a0/\f.1 10=sI (cE a0)/\f.1 11=sI a) VW (λ_ _ _ _ E m=>?_) (λa _ _ _ _ _ _ _ E e m z p=>?_)
 ·have e:=Aj e E;dsimp only[b9]at m;exact au
 have e:=Aj e E;simp[e];refine dM m mO λ_ m=>?_;refine Il e m λe m=>?_;exact al
def mS:C1 prog 205 ka sI Tm.av:=by
 refine v1 func205 λT H a0 r m e=>?_;rw[ka] at m;simp[e];refine dM m qS λ_ m=>?_;refine Im e m λe m=>?_;simp[e];refine dM m eh λ_ m=>?_;refine Il e m λe m=>?_;exact au
def Fv:C1 prog 245 ry (t2 Ty.av sI) Ty.av:=by
 refine v1 func245 λT H a0 r m e=>?_;rw[ry] at m;simp[e];refine dM m mO λ_ m=>?_;refine Il e m λe m=>?_;exact au
def FI{n:Nat}:C2 prog 233 (dt n) (t2 Ty.av sI) (sL Ty.av) Tm.av:=by
 refine i2 λn B=>v2 func233 λT H a0 a1 r m e=>?_;rw[dt] at m;apply Iq e m<;>intro e m
 ·refine Il e m λe m=>?_;have⟨x1,e,m⟩:=fJ e m;simp[e];refine dM m iz λ_ m=>?_;exact au
 apply Iq e m<;>intro e m
 ·have⟨e,m⟩:=Ck e m;simp[e];refine Ad (f:=Ty.av) a0 [a1.b7] (hD.full (D:=[])) AO e.2 ?_;have⟨x3,e,m⟩:=fJ e m;simp[e];refine sm m B λ_ _ m=>?_;refine Il e m λe m=>?_;simp[e];refine dM m l7 λ_ m=>?_;simp[e];refine lZ m Fv λ_ _ m=>?_;exact au
 simp[e];refine Bu e m 0 (λC c f h=>∃a,(h=H/\f.1 0=sL Ty.av a0/\f.1 8=sT a Ty.av c/\f.1 67=sL Tm.av a1.acI/\f.1 68=sI (cE a1.acI)/\f.1 69=sI C/\bx f 3 (Tm.av a1).cells/\bx f 4 [sI 0,nL])/\Ow f [86] a c) (by exact⟨.full,VW,hD.full⟩) (λC _ c j _ _ _ _ E e m z p=>?_) (λc j _ _ E m=>?_)
 ·have⟨a,E,b⟩:=E;have e:=Aj e E;apply wg 999;simp[e];refine lZ m B λv _ m=>?_;refine Il e m λe m=>?_;have⟨e,m⟩:=Ck e m;simp[e];refine Ao (f:=Ty.av) c [v] b AO e.2 ?_;simp[e];cases m;exact p _ _ _ ⟨(.loc 86 (j.ds 86+1)),VW,(On 86)⟩ z
 have⟨a,E,b⟩:=E;have e:=Aj e E;apply wg 13;dsimp only[b9]at m;simp[e];refine dM m gR λ_ m=>?_;simp[e];refine dM m mv λw m=>?_;simp[e];apply Iq e m<;>intro e m
 ·apply wg 2;simp[e];refine yJ m 999 999 (λq f h=>∃k d,(h=H/\f.1 8=sT d Ty.av c/\f.1 111=sB k/\bx f 4 [sI 0,nL])/\Ow f [86] d c/\q k=some r) ?_ (λq _ g m=>?_)
  ·rintro _ _ ⟨k,d,E,x,m⟩;have e:=Aj e E;refine Il e m λe m=>?_;have⟨F,e,m⟩:=fJ e m;have⟨G,e,m⟩:=fJ e m;exact au
  have⟨I,e,m⟩:=fJ e m;apply Iq e m<;>intro e m
  ·simp[e];exact g _ _ ⟨true,a,VW,b,m⟩
  have⟨J,e,m⟩:=fJ e m;have⟨K,e,m⟩:=fJ e m;simp[e];refine d_ m eZ λy m=>?_;simp[e];exact g _ _ ⟨(mq y),a,VW,b,m⟩
 apply wg 3;simp[e];apply Iq e m<;>intro e m
 ·apply wg 999;exact au
 apply wg 3;simp[e];apply Iq e m<;>intro e m
 ·apply wg 999;have⟨L,e,m⟩:=fJ e m;simp[e];refine d_ m eZ λ_ m=>?_;refine Il e m λe m=>?_;exact au
 apply wg 3;simp[e];apply Iq e m<;>intro e m
 ·apply wg 2;simp[e];refine yJ m 999 999 (λs f h=>∃l,(h=H/\f.1 162=sB l/\bx f 3 (Tm.av a1).cells/\bx f 4 [sI 0,nL])/\s l=some r) ?_ (λs _ g m=>?_)
  ·rintro _ _ ⟨l,E,m⟩;have e:=Aj e E;refine Il e m λe m=>?_;simp[e];refine dM m iz λ_ m=>?_;exact au
  have⟨M,e,m⟩:=fJ e m;simp[e];refine d_ m eZ λ_ m=>?_;apply Ir e m<;>intro e m
  ·exact iO
  have⟨N,e,m⟩:=fJ e m;simp[e];refine d_ m l7 λ_ m=>?_;simp[e];refine d_ m l7 λ_ m=>?_;simp[e];refine d_ m eZ λ_ m=>?_;apply Ir e m<;>intro e m
  ·exact iO
  have⟨O,e,m⟩:=fJ e m;simp[e];refine d_ m eZ λ_ m=>?_;exact iO
 apply wg 3;simp[e];apply Iq e m<;>intro e m
 ·apply wg 999;exact au
 apply wg 3;simp[e];apply Iq e m<;>intro e m
 ·apply wg 2;simp[e];refine yJ m 999 999 (λt f h=>∃o,(h=H/\f.1 185=sB o/\bx f 4 [sI 0,nL]/\bx f 14 (Ty.av w).cells)/\t o=some r) ?_ (λt _ g m=>?_)
  ·rintro _ _ ⟨o,E,m⟩;have e:=Aj e E;refine Il e m λe m=>?_;exact au
  have⟨P,e,m⟩:=fJ e m;simp[e];refine d_ m eZ λ_ m=>?_;apply Ir e m<;>intro e m
  ·exact iO
  have⟨Q,e,m⟩:=fJ e m;simp[e];refine d_ m eZ λ_ m=>?_;exact iO
 apply wg 3;simp[e];apply Iq e m<;>intro e m
 ·apply wg 2;simp[e];refine yJ m 999 999 (λu f h=>∃v59,(h=H/\f.1 220=sB v59/\bx f 3 (Tm.av a1).cells/\bx f 4 [sI 0,nL])/\u v59=some r) ?_ (λu _ g m=>?_)
  ·rintro _ _ ⟨v59,E,m⟩;have e:=Aj e E;refine Il e m λe m=>?_;simp[e];refine dM m iz λ_ m=>?_;exact au
  have⟨R,e,m⟩:=fJ e m;simp[e];refine d_ m eZ λ_ m=>?_;apply Ir e m<;>intro e m
  ·exact iO
  have⟨S,e,m⟩:=fJ e m;simp[e];refine d_ m l7 λ_ m=>?_;simp[e];refine d_ m l7 λ_ m=>?_;simp[e];refine d_ m l7 λ_ m=>?_;simp[e];refine d_ m eZ λ_ m=>?_;apply Ir e m<;>intro e m
  ·exact iO
  have⟨U,e,m⟩:=fJ e m;simp[e];refine d_ m eZ λ_ m=>?_;exact iO
 apply wg 3;simp[e];apply Iq e m<;>intro e m
 ·apply wg 999;have⟨V,e,m⟩:=fJ e m;have⟨W,e,m⟩:=fJ e m;simp[e];refine d_ m CJ λ_ m=>?_;simp[e];refine sm m Fv λ_ _ m=>?_;exact au
 apply wg 1;simp[e];refine wj 999 0 (λf h=>∃i,(h=H/\f.1 8=sT i Ty.av c/\f.1 237=sB (dq (cr a1.acH 11) true (cr a1.acH 12))/\bx f 3 (Tm.av a1).cells/\bx f 4 [sI 0,nL])/\Ow f [86] i c) (λ_ g=>?_) ?_
 ·rcases Pb (cr a1.acH 11) e with e|e
  ·simp[e];exact g _ _ ⟨a,VW,b⟩
  simp[e];exact g _ _ ⟨a,VW,b⟩
 rintro _ _ ⟨i,E,A⟩;have e:=Aj e E;apply Ir e m<;>intro e m
 ·apply wg 999;simp[e];refine dM m zU λ_ m=>?_;exact au
 apply wg 4;have⟨X,e,m⟩:=fJ e m;simp[e];apply Iq e m<;>intro e m
 ·apply wg 999;exact au
 apply wg 5;simp[e];apply Iq e m<;>intro e m
 ·apply wg 999;have⟨Y,e,m⟩:=fJ e m;exact au
 apply wg 999;have⟨Z,e,m⟩:=fJ e m;exact au
def yO:C2 prog 204 np (t2 Ty.av sI) (sL Ty.av) Tm.av:=by
 refine v2 func204 λT H a0 a1 r m e=>?_;rw[np] at m;simp[e];refine dM m mS λ_ m=>?_;refine Il e m λe m=>?_;simp[e];refine lZ m FI λ_ _ m=>?_;exact au
def Gk{n:Nat}:C2 prog 163 (kQ n) sI (sL Ty.av) Fm.av:=by
 refine i2 λn l=>v2 func163 λT H a0 a1 r m e=>?_;rw[kQ] at m;simp[e];refine Bu e m 0 (λk _ f h=>h=H/\f.1 0=sL Ty.av a0/\f.1 13=sL Tm.av a1.cv/\f.1 14=sI (cE a1.cv)/\f.1 15=sI k/\bx f 3 (Fm.av a1).cells) VW (λk _ _ d _ _ _ _ E e m z p=>?_) (λ_ d _ _ E m=>?_)
 ·have e:=Aj e E;apply wg 999;simp[e];refine lZ m yO λ_ _ m=>?_;refine Il e m λe m=>?_;refine Il e m λe m=>?_;exact al
 have e:=Aj e E;apply wg 5;dsimp only[b9]at m;simp[e];refine Wj m 999 999 (λi f h=>∃c b,(h=H/\f.1 0=sT b Ty.av c/\f.1 3=AV.gJ 3 (f.gen 3) 0/\f.box 3=some (Fm.av a1).cells)/\i c=some r) (λi _ g m=>?_) ?_
 ·simp[e];refine dM m oR λ_ m=>?_;apply Ir e m<;>intro e m
  ·simp[e];exact g _ _ ⟨_,.ja,VW,m⟩
  have⟨e,m⟩:=Ck e m;simp[e];refine Ad (f:=Ty.av) a0 [a1.b7] (hD.full (D:=[])) AO e.2 ?_;simp[e];exact g _ _ ⟨_,(.loc 44 (d.ds 44+1)),VW,m⟩
 rintro _ _ ⟨c,b,E,m⟩;have e:=Aj e E;simp[e];refine Wr e m 999 (λj _ f h=>∃a,h=H/\f.1 0=sT a Ty.av c/\f.1 46=sL Fm.av a1.acI/\f.1 47=sI (cE a1.acI)/\f.1 48=sI j) ⟨b,VW⟩ (λ_ _ _ _ E m=>?_) (λj _ _ _ _ _ _ _ E e m z p=>?_)
 ·have⟨a,E⟩:=E;have e:=Aj e E;dsimp only[b9]at m;exact au
 have⟨a,E⟩:=E;have e:=Aj e E;simp[e];refine dM m l λ_ m=>?_;refine Il e m λe m=>?_;simp[e];cases m;exact p _ _ _ ⟨a,VW⟩ z
def qT:C2 prog 135 iL sI (sL Ty.av) Fm.av:=by
 refine v2 func135 λT H a0 a1 r m e=>?_;rw[iL] at m;simp[e];refine dM m j9 λ_ m=>?_;refine Il e m λe m=>?_;simp[e];refine dM m Gk λ_ m=>?_;exact au
def oH:C2 prog 105 gP sI (sL Ty.av) Fm.av:=by
 refine v2 func105 λT H a0 a1 r m e=>?_;rw[gP] at m;simp[e];refine dM m rF λ_ m=>?_;refine Il e m λe m=>?_;simp[e];refine dM m qT λ_ m=>?_;exact au
def De:C2 prog 131 qZ sI (sL Fm.av) Sq.av:=by
 refine v2 func131 λT H a0 a1 r m e=>?_;rw[qZ] at m;refine Il e m λe m=>?_;simp[e];refine Bu e m 999 (λb _ f h=>h=H/\f.1 15=sL Fm.av a0/\f.1 16=sI (cE a0)/\f.1 17=sI b/\bx f 3 (Sq.av a1).cells) VW (λb _ _ _ _ _ _ _ E e m z p=>?_) (λ_ _ _ _ E m=>?_)
 ·have e:=Aj e E;simp[e];refine dM m oH λ_ m=>?_;refine Il e m λe m=>?_;exact al
 have e:=Aj e E;dsimp only[b9]at m;simp[e];refine dM m rF λ_ m=>?_;refine Il e m λe m=>?_;refine Il e m λe m=>?_;simp[e];refine Wr e m 999 (λa _ f h=>h=H/\f.1 38=sL Fm.av a1.acO/\f.1 39=sI (cE a1.acO)/\f.1 40=sI a/\bx f 3 (Sq.av a1).cells) VW (λ_ _ _ _ E m=>?_) (λa _ _ _ _ _ _ _ E e m z p=>?_)
 ·have e:=Aj e E;dsimp only[b9]at m;exact au
 have e:=Aj e E;simp[e];refine dM m oH λ_ m=>?_;refine Il e m λe m=>?_;exact al
def FD:C1 prog 188 nt (t2 db.av sB) sI:=by
 refine u1 6 func188 λT H a0 r m e=>?_;rw[nt] at m;simp[e];refine wj 999 0 (λf h=>h=H/\f.1 4=sI a0/\f.1 5=sB (dq (cr a0 1) true (cr a0 2))/\bx f 2 [sI 0,sI 0,sI 0,sB false,sB false]) (λ_ g=>?_) ?_
 ·rcases Pb (cr a0 1) e with e|e
  ·exact aj
  exact aj
 rintro _ _ E;have e:=Aj e E;apply Iq e m<;>intro e m
 ·apply wg 999;exact au
 apply wg 1;simp[e];refine wj 999 0 (λf h=>h=H/\f.1 4=sI a0/\f.1 9=sB (dq (cr a0 3) true (cr a0 7))/\bx f 2 [sI 0,sI 0,sI 0,sB false,sB false]) (λ_ g=>?_) ?_
 ·rcases Pb (cr a0 3) e with e|e
  ·exact aj
  exact aj
 rintro _ _ E;have e:=Aj e E;apply Iq e m<;>intro e m
 ·apply wg 999;exact au
 apply wg 1;simp[e];refine wj 999 0 (λf h=>h=H/\f.1 4=sI a0/\f.1 13=sB (dq (cr a0 4) true (dq (cr a0 5) true (cr a0 20)))/\bx f 2 [sI 0,sI 0,sI 0,sB false,sB false]) (λ_ g=>?_) ?_
 ·rcases Pb (cr a0 4) e with e|e
  ·exact aj
  rcases Pb (cr a0 5) e with e|e
  ·exact aj
  exact aj
 rintro _ _ E;have e:=Aj e E;apply Iq e m<;>intro e m
 ·apply wg 999;exact au
 apply wg 3;simp[e];apply Iq e m<;>intro e m
 ·apply wg 999;exact au
 apply wg 1;simp[e];refine wj 999 0 (λf h=>h=H/\f.1 4=sI a0/\f.1 21=sB (dq (cr a0 8) true (cr a0 12))/\bx f 2 [sI 0,sI 0,sI 0,sB false,sB false]) (λ_ g=>?_) ?_
 ·rcases Pb (cr a0 8) e with e|e
  ·exact aj
  exact aj
 rintro _ _ E;have e:=Aj e E;apply Iq e m<;>intro e m
 ·apply wg 999;exact au
 apply wg 1;simp[e];refine wj 999 0 (λf h=>h=H/\f.1 4=sI a0/\f.1 25=sB (dq (cr a0 9) true (cr a0 13))/\bx f 2 [sI 0,sI 0,sI 0,sB false,sB false]) (λ_ g=>?_) ?_
 ·rcases Pb (cr a0 9) e with e|e
  ·exact aj
  exact aj
 rintro _ _ E;have e:=Aj e E;apply Iq e m<;>intro e m
 ·apply wg 999;exact au
 apply wg 1;simp[e];refine wj 999 0 (λf h=>h=H/\f.1 4=sI a0/\f.1 29=sB (dq (cr a0 10) true (cr a0 14))/\bx f 2 [sI 0,sI 0,sI 0,sB false,sB false]) (λ_ g=>?_) ?_
 ·rcases Pb (cr a0 10) e with e|e
  ·exact aj
  exact aj
 rintro _ _ E;have e:=Aj e E;apply Iq e m<;>intro e m
 ·apply wg 999;exact au
 apply wg 1;simp[e];refine wj 999 0 (λf h=>h=H/\f.1 4=sI a0/\f.1 33=sB (dq (cr a0 11) true (cr a0 15))/\bx f 2 [sI 0,sI 0,sI 0,sB false,sB false]) (λ_ g=>?_) ?_
 ·rcases Pb (cr a0 11) e with e|e
  ·exact aj
  exact aj
 rintro _ _ E;have e:=Aj e E;apply Iq e m<;>intro e m
 ·apply wg 999;exact au
 apply wg 1;simp[e];refine wj 999 999 (λf h=>h=H/\f.1 4=sI a0/\f.1 37=sB (dq (cr a0 16) true (cr a0 17))/\bx f 2 [sI 0,sI 0,sI 0,sB false,sB false]) (λ_ g=>?_) ?_
 ·rcases Pb (cr a0 16) e with e|e
  ·exact aj
  exact aj
 rintro _ _ E;have e:=Aj e E;refine Il e m λe m=>?_;refine Il e m λe m=>?_;refine Il e m λe m=>?_;exact au
def FB{n:Nat}:C1 prog 159 (l8 n) sB Pf.av:=by
 refine i1 λn l=>u1 5 func159 λT H a0 r m e=>?_;rw[l8] at m;simp[e];refine lZ m FD λa j m=>?_;simp[e];refine wj 999 0 (λf h=>h=H/\f.1 57=sB (dq j (dq (cG (cE a0.cv) a.cv) true (dq (cG (cE a0.dw) a.dw) true (dq (cG (cE a0.acI) a.acI) true (dq (tD a0.acK 0) true (dq a.acK false (cG a0.acK 0)))))) true)/\bx f 1 (Pf.av a0).cells/\bx f 3 (db.av a).cells) (λ_ g=>?_) ?_
 ·rcases Pb j e with e|e;rotate_left
  ·exact aj
  rcases Pb (cG (cE a0.cv) a.cv) e with e|e
  ·exact aj
  rcases Pb (cG (cE a0.dw) a.dw) e with e|e
  ·exact aj
  rcases Pb (cG (cE a0.acI) a.acI) e with e|e
  ·exact aj
  rcases Pb (tD a0.acK 0) e with e|e
  ·exact aj
  rcases Pb a.acK e with e|e
  ·exact aj
  exact aj
 rintro _ _ E;have e:=Aj e E;apply Iq e m<;>intro e m
 ·apply wg 999;exact au
 apply wg 3;simp[e];refine Wj m 999 999 (λk f h=>∃i,(h=H/\f.1 76=sB i/\bx f 1 (Pf.av a0).cells)/\k i=some r) (λk _ g m=>?_) ?_
 ·apply Ir e m<;>intro e m
  ·simp[e];refine dM m rY λ_ m=>?_;exact iO
  simp[e];refine dM m mO λ_ m=>?_;apply Iq e m<;>intro e m
  ·exact iO
  exact iO
 rintro _ _ ⟨i,E,m⟩;have e:=Aj e E;refine Il e m λe m=>?_;simp[e];refine Bu e m 999 (λb _ f h=>h=H/\f.1 78=sL Tm.av a0.cv/\f.1 79=sI (cE a0.cv)/\f.1 80=sI b/\bx f 1 (Pf.av a0).cells) VW (λb _ _ _ _ _ _ _ E e m z p=>?_) (λ_ _ _ _ E m=>?_)
 ·have e:=Aj e E;simp[e];refine dM m qS λ_ m=>?_;refine Im e m λe m=>?_;exact al
 have e:=Aj e E;dsimp only[b9]at m;simp[e];refine Bu e m 999 (λc _ f h=>h=H/\f.1 89=sL Fm.av a0.dw/\f.1 90=sI (cE a0.dw)/\f.1 91=sI c/\bx f 1 (Pf.av a0).cells) VW (λc _ _ _ _ _ _ _ E e m z p=>?_) (λ_ _ _ _ E m=>?_)
 ·have e:=Aj e E;simp[e];refine dM m yU λ_ m=>?_;refine Im e m λe m=>?_;exact al
 have e:=Aj e E;dsimp only[b9]at m;simp[e];refine Wr e m 999 (λd _ f h=>h=H/\f.1 100=sL Pf.av a0.acI/\f.1 101=sI (cE a0.acI)/\f.1 102=sI d) VW (λ_ _ _ _ E m=>?_) (λd _ _ _ _ _ _ _ E e m z p=>?_)
 ·have e:=Aj e E;dsimp only[b9]at m;exact au
 have e:=Aj e E;simp[e];refine dM m l λ_ m=>?_;refine Im e m λe m=>?_;exact al
def F3{n:Nat}:C1 prog 189 (pq n) sB Pf.av:=by
 refine i1 λn d=>v1 func189 λT H a0 r m e=>?_;rw[pq] at m;simp[e];refine Bu e m 999 (λc _ f h=>h=H/\f.1 10=sL Tm.av a0.cv/\f.1 11=sI (cE a0.cv)/\f.1 12=sI c/\bx f 1 (Pf.av a0).cells) VW (λc _ _ _ _ _ _ _ E e m z p=>?_) (λ_ _ _ _ E m=>?_)
 ·have e:=Aj e E;simp[e];refine dM m eh λ_ m=>?_;refine Il e m λe m=>?_;exact al
 have e:=Aj e E;dsimp only[b9]at m;simp[e];refine Bu e m 999 (λa _ f h=>h=H/\f.1 21=sL Fm.av a0.dw/\f.1 22=sI (cE a0.dw)/\f.1 23=sI a/\bx f 1 (Pf.av a0).cells) VW (λa _ _ _ _ _ _ _ E e m z p=>?_) (λ_ _ _ _ E m=>?_)
 ·have e:=Aj e E;simp[e];refine dM m mM λ_ m=>?_;refine Il e m λe m=>?_;exact al
 have e:=Aj e E;dsimp only[b9]at m;simp[e];refine Wr e m 999 (λb _ f h=>h=H/\f.1 32=sL Pf.av a0.acI/\f.1 33=sI (cE a0.acI)/\f.1 34=sI b) VW (λ_ _ _ _ E m=>?_) (λb _ _ _ _ _ _ _ E e m z p=>?_)
 ·have e:=Aj e E;dsimp only[b9]at m;exact au
 have e:=Aj e E;simp[e];refine dM m d λ_ m=>?_;refine Im e m λe m=>?_;exact al
def Gs{n:Nat}:C1 prog 190 (pg n) sI Pf.av:=by
 refine i1 λn j=>v1 func190 λT H a0 r m e=>?_;rw[pg] at m;simp[e];refine Bu e m 999 (λi s2 f h=>h=H/\f.1 3=sI s2/\f.1 11=sL Tm.av a0.cv/\f.1 12=sI (cE a0.cv)/\f.1 13=sI i/\bx f 1 (Pf.av a0).cells) VW (λi _ s2 _ _ _ _ _ E e m z p=>?_) (λs2 _ _ _ E m=>?_)
 ·have e:=Aj e E;simp[e];refine dM m eh λ_ m=>?_;exact al
 have e:=Aj e E;dsimp only[b9]at m;simp[e];refine Bu e m 999 (λc a f h=>h=H/\f.1 3=sI a/\f.1 23=sL Fm.av a0.dw/\f.1 24=sI (cE a0.dw)/\f.1 25=sI c/\bx f 1 (Pf.av a0).cells) VW (λc _ a _ _ _ _ _ E e m z p=>?_) (λa _ _ _ E m=>?_)
 ·have e:=Aj e E;simp[e];refine dM m mM λ_ m=>?_;exact al
 have e:=Aj e E;dsimp only[b9]at m;simp[e];refine Wr e m 999 (λd b f h=>h=H/\f.1 3=sI b/\f.1 35=sL Pf.av a0.acI/\f.1 36=sI (cE a0.acI)/\f.1 37=sI d) VW (λb _ _ _ E m=>?_) (λd _ b _ _ _ _ _ E e m z p=>?_)
 ·have e:=Aj e E;dsimp only[b9]at m;exact au
 have e:=Aj e E;simp[e];refine dM m j λ_ m=>?_;exact al
def HI:C1 prog 160 vS sB Pf.av:=by
 refine u1 2 func160 λT H a0 r m e=>?_;rw[vS] at m;simp[e];refine yJ m 999 999 (λa f h=>∃v2,(h=H/\f.1 2=sB v2)/\a v2=some r) ?_ (λa _ g m=>?_)
 ·rintro _ _ ⟨v2,E,m⟩;have e:=Aj e E;exact au
 simp[e];refine dM m F3 λ_ m=>?_;apply Ir e m<;>intro e m
 ·exact iO
 simp[e];refine dM m Gs λ_ m=>?_;exact iO
def Ga:C1 prog 132 rk sI Pf.av:=by
 refine v1 func132 λT H a0 r m e=>?_;rw[rk] at m;simp[e];refine dM m FB λ_ m=>?_;refine Im e m λe m=>?_;simp[e];refine dM m HI λ_ m=>?_;refine Il e m λe m=>?_;exact au
def Oy:jl prog 223=true:=by kernel_rfl
def abt(fr:Fr)(L:List Int):Prop:=
 (L=[]/\fr.env 3=.slice .full [])\/∃cap,fr.env 3=.tB 17 (fr.gen 17) L.length cap/\fr.box 17=some (gT (λn=>AV.sc (Value.int .i64 n)) L ((cap-L.length)*1))/\L.length<=cap
def xq(T:cW){H:cd}{a0:List (Int×Bool)}{r0:List Int}{af:List (Int×Bool)}{s:Nat}(E:H[s]?=some [qD (λb=>AV.sc (Value.bool b)) a0])(hm:oi a0=some (r0,af)):dB prog T 223 [AV.nc s] H (AV.slice .ja (List.map (λn=>AV.sc (Value.int .i64 n)) r0)) (dC H s [qD (λb=>AV.sc (Value.bool b)) af]):=by
 unfold oi at hm;have⟨aC,hm⟩:=pY hm;have⟨S,hm⟩:=pY hm;have ah:=fu E;simp only[uv,Ro] at hm;have⟨e1,e2⟩:=hm;subst e2;rw[G6 E]
 have S:(a0.map (·.1)).Nodup:=by simpa[vi] using S
 refine du.xF (Post:=λx K=>x=AV.slice .ja (List.map (λn=>AV.sc (Value.int .i64 n)) r0)/\∃X,K=H++X) ?_ (λ_ _ h=>⟨_,h.2.choose_spec,by rw[h.1];simp[AV.low,AV.gD],h.1,rfl⟩);refine du.intro (fn:=f223) func223 rfl Oy (zC rfl) ?_;refine fb.sr [] λK1 F=>?_;simp;apply F;refine fb.sr [] λK1 F=>?_;simp;apply F;refine fb.zJ λK1 F=>?_;refine fb.sr [] λK2 aD=>?_;simp[DW,E,qD];apply aD;refine fb.BQ λQ nn ex x r=>?_
 refine fb.M8 (λm fr h=>∃(seen:List Nat) (L:List Int),m=D0 a0.length seen/\L.length+m<=a0.length/\Dz L/\(∀x,x∈L↔∃j∈seen,∃p,a0[j]?=some p/\p.1=x)/\H++[[.kH s a0.length seen]]=h/\fr.env 7=.de H.length 0/\abt fr L) a0.length ?_ ?_
 ·exact⟨[],[],(Lu _).symm,th,.nil,th,th,rfl,.inl ⟨rfl,rfl⟩⟩
 rintro m fr h ⟨seen,L,aE,aS,hA,hL,rfl,G,hs⟩ K3 aF
 have hi:(H++[[AV.kH s a0.length seen]])[H.length]?=some [AV.kH s a0.length seen]:=th
 have ho:(H++[[AV.kH s a0.length seen]])[s]?=some [qD (λb=>AV.sc (Value.bool b)) a0]:=by simp[ah,E]
 refine fb.sr [] λK4 ai=>?_;simp only[Pa,ev,G];refine Ld a0 hi ho (λak=>?_) (λj p U hj=>?_)
 ·--aT end
  simp;apply ai;refine fb.zJ λK5 an=>?_;refine fb.yM λA B ga V=>?_;simp;apply V;refine fb.exit ?_;apply ex;apply F
  have hr:wM [] (a0.map (·.1))=L:=by
   refine Dz.eq (yc _ [] .nil S th) hA λx=>?_;rw[yf,hL];simp only[tF,false_or,kI];constructor
   ·rintro⟨p,U,rfl⟩;have⟨j,hj⟩:=R6.1 U;exact⟨j,ak j (jL.1 hj).1,p,hj,rfl⟩
   ·rintro⟨j,_,p,U,rfl⟩;exact⟨p,zT U,rfl⟩
  rw[hr] at e1;subst e1;rcases hs with⟨rfl,l⟩|⟨cap,l,e,hle⟩
  ·refine fb.sr [] λK6 q=>?_;simp[l];apply q;refine fb.ret ?_;simp[xT,l]
  ·refine fb.abb 3 (f:=λn=>AV.sc (Value.int .i64 n)) (L:=L) (k:=(cap-L.length)*1) (sz:=1) (d:=17) (g:=fr.gen 17) (cap:=cap) (by intro x;simp) (by intro x;simp) (by simp[l]) th VW ?_;refine fb.sr [] λK6 q=>?_;simp;apply q;refine fb.ret ?_;simp[xT]
 have ao:j<a0.length:=(jL.1 U).1;have aG:=OA ao hj
 have aH:(H++[[AV.kH s a0.length (seen++[j])]])[H.length]?=some [AV.kH s a0.length (seen++[j])]:=th
 have aI:(H++[[AV.kH s a0.length (seen++[j])]])[s]?=some [qD (λb=>AV.sc (Value.bool b)) a0]:=by simp[ah,E]
 have dC:dC (H++[[AV.kH s a0.length seen]]) H.length [AV.kH s a0.length (seen++[j])]=H++[[AV.kH s a0.length (seen++[j])]]:=th
 rw[dC];have aq:=IX (f:=λb=>AV.sc (Value.bool b)) a0 aH aI U
 have ab:p.1∉L:=by
  rw[hL];rintro⟨j',aJ,p',aK,he⟩
  have h1:(a0.map (·.1))[j]?=some p.1:=by rw[rS,U];rfl
  have h2:(a0.map (·.1))[j']?=some p.1:=by rw[rS,aK];simp[he]
  have:j=j':=by
   have aL:j<(a0.map (·.1)).length:=by simpa using ao
   exact(List.getElem?_inj aL S).1 (h1.trans h2.symm)
  subst this;exact hj aJ
 have aR:a0.length<=yX:=Km aC;simp;apply ai;refine fb.zJ λK5 an=>?_;refine fb.yM λA B ga V=>?_;simp;apply ga;refine fb.skip ?_;apply an;refine fb.BQ λQ1 aM aU x1 r1=>?_;refine fb.sr [] λK6 q=>?_;simp[G,aq];apply q;refine fb.sr [] λK6 q=>?_
 have hlen:∃y,fr.env 3=y/\Dp prog 22 y=some (.sc (.int .i64 L.length)):=by
  rcases hs with⟨rfl,l⟩|⟨cap,l,e,hle⟩
  ·exact⟨_,l,th⟩
  ·exact⟨_,l,th⟩
 have⟨y,hy,ar⟩:=hlen;simp[hy,ar];apply q
 refine fb.X7 (λfr h=>H++[[.kH s a0.length (seen++[j])]]=h/\fr.env 7=.de H.length 0/\fr.env 4=.sc (.int .i64 p.1)/\fr.env 5=.sc (.int .i64 (L.length:Int))/\∃cap,fr.env 3=.tB 17 (fr.gen 17) (L.length+1) cap/\fr.box 17=some (gT (λn=>AV.sc (Value.int .i64 n)) (L.take L.length++p.1::L.drop L.length) ((cap-(L.length+1))*1))/\L.length+1<=cap) (λK6 q=>?_) ?_
 ·refine fb.region [] aah ?_
  have aw:dN L [p.1]=L.take L.length++p.1::L.drop L.length:=by simp[dN]
  have aV:(dN L [p.1]).length=L.length+1:=by simp[dN]
  rcases hs with⟨rfl,l⟩|⟨cap,l,e,hle⟩
  ·simp[l];refine qy.Yq (f:=λn=>AV.sc (Value.int .i64 n)) [p.1] Ry ⟨_,Ua⟩ (by intro x;simp) (by simp[wF,yX]) rfl (by first|rfl|simp) λcap xM=>?_;simp;apply q;refine⟨rfl,?_,?_,?_,cap,?_,?_,by simpa using xM⟩<;>simp[G]
  ·simp[l];refine qy.iK (f:=λn=>AV.sc (Value.int .i64 n)) L [p.1] (cap:=cap) Ry ⟨_,Ua⟩ (by intro x;simp) (by simp[dP];omega) th rfl (by first|rfl|simp) VW hle λg' ax xM=>?_;rw[aw] at xM;simp only[aw];simp;apply q;refine⟨rfl,?_,?_,?_,ax,?_,?_,by simpa using xM⟩<;>simp[G]
 rintro aW h6 ⟨rfl,f7,f4,f5,cap,f3,f17,ay⟩
 refine fb.X7 (λfr h=>H++[[.kH s a0.length (seen++[j])]]=h/\fr.env 7=.de H.length 0/\fr.env 4=.sc (.int .i64 p.1)/\∃(i:Nat) (z:Int),fr.env 5=.sc (.int .i64 (i:Int))/\i<=L.length/\(∀a∈L.drop i,a>p.1)/\(i=0\/∃a,L[i-1]?=some a/\¬a>p.1)/\∃cap,fr.env 3=.tB 17 (fr.gen 17) (L.length+1) cap/\fr.box 17=some (gT (λn=>AV.sc (Value.int .i64 n)) (L.take i++z::L.drop i) ((cap-(L.length+1))*1))/\L.length+1<=cap) (λK7 aN=>?_) ?_
 ·refine fb.BQ λQ2 aX az x2 r2=>?_
  refine fb.M8 (λi fr h=>H++[[.kH s a0.length (seen++[j])]]=h/\fr.env 7=.de H.length 0/\fr.env 4=.sc (.int .i64 p.1)/\∃(z:Int),fr.env 5=.sc (.int .i64 (i:Int))/\i<=L.length/\(∀a∈L.drop i,a>p.1)/\∃cap,fr.env 3=.tB 17 (fr.gen 17) (L.length+1) cap/\fr.box 17=some (gT (λn=>AV.sc (Value.int .i64 n)) (L.take i++z::L.drop i) ((cap-(L.length+1))*1))/\L.length+1<=cap) L.length ?_ ?_
  ·exact⟨rfl,f7,f4,p.1,f5,fC _,th,cap,f3,f17,ay⟩
  clear f7 f4 f5 f3 f17 ay hy ar G hs;rintro i fr h ⟨rfl,G,e4,z,R,w,I,cap,l,e,hle⟩ K8 aO
  have stop:∀fr':Fr,fr'.env 7=.de H.length 0->fr'.env 4=.sc (.int .i64 p.1)->fr'.env 5=.sc (.int .i64 (i:Int))->fr'.env 3=fr.env 3->fr'.gen=fr.gen->fr'.box=fr.box->(i=0\/∃a,L[i-1]?=some a/\¬a>p.1)->K7 fr' (H++[[.kH s a0.length (seen++[j])]]):=by
   intro fr' g7 g4 g5 g3 gg V W;exact aN _ _ ⟨rfl,g7,g4,i,z,g5,w,I,W,cap,by rw[g3,l,gg],by rw[V,e],hle⟩
  refine fb.zJ λK9 aP=>?_;refine fb.sr [] λaY Y=>?_;obtain⟨c,D⟩:∃c:Int,c=(i:Int):=⟨_,rfl⟩;rw[<-D] at R;cases i with
  |zero=>
   have W:m8 c 0=false:=by rw[D];decide
   simp[R,W];apply Y;refine fb.yM λA B ga V=>?_;simp;apply V;refine fb.exit ?_;apply az;refine stop _ ?_ ?_ ?_ ?_ ?_ ?_ (.inl rfl)<;>simp[G,e4,R,D]
  |succ i=>
   have W:m8 c 0=true:=by rw[D];simp[m8]
   obtain⟨Z,ad⟩:∃Z:Int,Z=(i:Int):=⟨_,rfl⟩
   have J:di .i64 c 1=Z:=by rw[D,ad];exact PL cw
   obtain⟨x,hx⟩:∃x,L[i]?=some x:=⟨_,lV cw⟩
   have C:(L.take (i+1)++z::L.drop (i+1)).length=L.length+1:=aae
   have aa:cq (L.take (i+1)++z::L.drop (i+1)) Z=some x:=by
    unfold cq;rw[bX cw,ad,za,ni (by rw[vL];omega),DQ,bX cw,hx]
   have O:0<=Z/\Z<((L.length+1:Nat):Int):=cw
   have o:0<=c/\c<((L.length+1:Nat):Int):=cw
   have ae:=JB (P:=prog) (t:=3) (f:=λn=>AV.sc (Value.int .i64 n)) (k:=(cap-(L.length+1))*1) Te (by intro x;simp) aa;generalize hM:L.take (i+1)++z::L.drop (i+1)=M at e C aa ae;generalize hN:L.length+1=N at l e hle C O o ae
   have aA:∀fr':Fr,fr'.gen 17=fr.gen 17->fr'.box 17=fr.box 17->rN prog fr' (H++[[AV.kH s a0.length (seen++[j])]]) 3 (.gJ 17 (fr.gen 17) (I9 Z.toNat 1))=some (.sc (.int .i64 x)):=by
    intro fr' g1 g2;show(if fr.gen 17=fr'.gen 17 then(match fr'.box 17 with|some cs=>kD prog 3 cs (I9 Z.toNat 1)|none=>none)else none)=_;rw[bX g1.symm,g2,e];exact ae
   simp[R,l,W,J,O,aA,e4,-rN];apply Y;have aZ:M.length=N:=C
   have u:cq M c=some z:=by
    unfold cq;rw[bX cw,D,za,<-hM,n7 aae];simp[vL,show min (i+1) L.length=i+1 from by omega]
   have v:vU M c x=L.take i++x::L.drop i:=by
    have hd:L.drop i=x::L.drop (i+1):=by
     rw[Je (by omega:i<L.length)]
     congr 1
     exact(jL.1 hx).2
    have ht:L.take (i+1)=L.take i++[x]:=by rw[Wx,hx];rfl
    unfold vU;rw[D,za,<-hM,hd,Yi _ _ aae];rw[vL,show min (i+1) L.length=i+1 from by omega,RI,Ym,ht,mI];rfl
   refine fb.yM λA B ga V=>?_;rcases Bool.eq_false_or_eq_true (m8 x p.1)with hgx|hgx
   ·simp[hgx];apply ga;refine fb.skip ?_;apply aP;refine fb.BQ λQ3 aQ a1 x3 r3=>?_;refine fb.sr [] λa6 aB=>?_;simp[R,l,J,O,o,aA,e4,-rN];refine y_.arr (f:=λn=>AV.sc (Value.int .i64 n)) (L:=M) (k:=(cap-N)*1) x Te (by intro x;simp) th (x:=z) u th VW th ?_;simp;apply aB;refine fb.region [] aah ?_;simp[R,J];apply aQ;rw[v];refine aO _ _ i (TD _) ⟨rfl,?_,?_,x,?_,cw,?_,cap,?_,?_,by rw[hN];exact hle⟩
    ·simp[G]
    ·simp[e4]
    ·simp[ad]
    ·intro a ha
     have hd:L.drop i=x::L.drop (i+1):=by
      rw[Je (by omega:i<L.length)]
      congr 1
      exact(jL.1 hx).2
     rw[hd] at ha;rcases jA.1 ha with rfl|ha
     ·simpa[m8] using hgx
     ·exact I a ha
    ·simp[l,hN]
    ·simp[hN]
   ·simp[hgx];apply V;refine fb.exit ?_;apply az;refine stop _ ?_ ?_ ?_ ?_ ?_ ?_ (.inr ⟨x,by simpa using hx,by simpa[m8] using hgx⟩)<;>simp[G,e4,R,l,D]
 rintro fr h ⟨rfl,G,e4,i,z,R,w,I,W,cap,l,e,hle⟩;refine fb.region [] aah ?_;obtain⟨c,D⟩:∃c:Int,c=(i:Int):=⟨_,rfl⟩;rw[<-D] at R
 have C:(L.take i++z::L.drop i).length=L.length+1:=aae
 have u:cq (L.take i++z::L.drop i) c=some z:=by
  unfold cq;rw[bX cw,D,za,n7 aae];simp[vL,Rk w]
 have v:vU (L.take i++z::L.drop i) c p.1=zk p.1 L:=by
  rw[MC L i hA ab w I W];unfold vU;rw[D,za,Yi _ _ aae,vL,Rk w,RI,Ym]
 have o:0<=c/\c<((L.length+1:Nat):Int):=cw
 have hlen:(zk p.1 L).length=L.length+1:=by rw[MC L i hA ab w I W];simp;omega
 generalize hM:L.take i++z::L.drop i=M at e C u v;generalize hN:L.length+1=N at l e hle C o hlen;simp[R,l,e4,o];refine y_.arr (f:=λn=>AV.sc (Value.int .i64 n)) (L:=M) (k:=(cap-N)*1) p.1 Te (by intro x;simp) th (x:=z) u th VW th ?_;simp;apply aM;rw[v];refine aF _ _ _ (by rw[aE];exact aG) ⟨seen++[j],zk p.1 L,rfl,cw,ET p.1 L ab hA,?_,rfl,?_,.inr ⟨cap,?_,?_,by rw[hlen];exact hle⟩⟩
 ·intro x;rw[xR,hL];constructor
  ·rintro(rfl|⟨j',h1,p',h2,h3⟩)
   ·exact⟨j,th,p,U,rfl⟩
   ·exact⟨j',by simp[h1],p',h2,h3⟩
  ·rintro⟨j',h1,p',h2,h3⟩;rcases pX.1 h1 with h1|h1
   ·exact .inr ⟨j',h1,p',h2,h3⟩
   ·simp only[yC] at h1;subst h1;rw[U] at h2;obtain rfl:=gv h2;exact .inl h3.symm
 ·simp[G]
 ·simp[l,hlen]
 ·simp[hlen]
def jq(T:cW){H:cd}{a0 a1 c:List Int}(hm:dZ a0 a1=some c):dB prog T 191 [sL sI a0,sL sI a1] H (sL sI c) H:=by
 rw[dZ] at hm;refine du.xF (Post:=λx K=>x=sL sI c/\∃X,K=H++X) ?_ (λ_ _ h=>⟨_,h.2.choose_spec,by rw[h.1];simp[AV.low,AV.gD],h.1,rfl⟩);have e:=trivial;refine wi acM func191 [] [] 999 ?_;simp[e];refine Bu e hm 999 (λd s2 f h=>h=H++[[qD sB s2]]/\f.1 1=sL sI a1/\f.1 5=AV.nc (List.length H)/\f.1 11=sL sI a0/\f.1 12=sI (cE a0)/\f.1 13=sI d) VW (λd _ s2 _ _ _ _ _ E e m z p=>?_) (λs2 _ _ _ E m=>?_)
 ·have e:=Aj e E;simp[e];refine Vw.i64 (f:=sB) s2 true LW U9 VW VW ?_;exact al
 have e:=Aj e E;dsimp only[b9]at m;simp[e];refine Wr e m 999 (λb a f h=>h=H++[[qD sB a]]/\f.1 5=AV.nc (List.length H)/\f.1 20=sL sI a1/\f.1 21=sI (cE a1)/\f.1 22=sI b) VW (λa _ _ _ E m=>?_) (λb _ a _ _ _ _ _ E e m z p=>?_)
 ·have e:=Aj e E;dsimp only[b9]at m;simp[e];refine lZ m (xq T VW) λ_ d20 m=>?_;exact au
 have e:=Aj e E;simp[e];refine Vw.i64 (f:=sB) a true LW U9 VW VW ?_;exact al
def jy:C3 prog 192 cF sI bZ.av sI sI:=by
 refine u3 3 func192 λT H a0 a1 a2 r m e=>?_;rw[cF] at m;simp[e];refine I5 999 999 (λf h=>h=H/\f.1 20=sB (dq (m8 (da .i64 (cE a0.acL) a1) 16) true (m8 (da .i64 (cE a0.acO) a2) 16))) ?_ (λ_ g=>?_)
 ·rintro _ _ E;have e:=Aj e E;refine Il e m λe m=>?_;exact au
 rcases Pb (m8 (da .i64 (cE a0.acL) a1) 16) e with e|e
 ·exact aj
 exact aj
def kZ:C2 prog 193 dU bZ.av bZ.av Fm.av:=by
 refine v2 func193 λT H a0 a1 r m e=>?_;rw[dU] at m;have⟨e,m⟩:=Ck e m;simp[e];refine Ad (f:=Fm.av) a0.acO [a1] (hD.full (D:=[])) Ix e.2 ?_;exact au
def IB:C1 prog 246 tp sB Tm.av:=by
 refine u1 8 func246 λT H a0 r m e=>?_;rw[tp] at m;simp[e];apply Iq e m<;>intro e m
 ·apply wg 999;have⟨i,e,m⟩:=fJ e m;exact au
 apply wg 3;simp[e];apply Iq e m<;>intro e m
 ·apply wg 1;simp[e];refine yJ m 999 999 (λa f h=>∃v3,(h=H/\f.1 2=sB v3)/\a v3=some r) ?_ (λa _ g m=>?_)
  ·rintro _ _ ⟨v3,E,m⟩;have e:=Aj e E;exact au
  have⟨j,e,m⟩:=fJ e m;apply Iq e m<;>intro e m
  ·exact iO
  exact iO
 apply wg 4;apply Iq e m<;>intro e m
 ·simp[e];refine yJ m 999 999 (λb f h=>∃v9,(h=H/\f.1 2=sB v9)/\b v9=some r) ?_ (λb _ g m=>?_)
  ·rintro _ _ ⟨v9,E,m⟩;have e:=Aj e E;exact au
  have⟨c,e,m⟩:=fJ e m;apply Iq e m<;>intro e m
  ·exact iO
  exact iO
 simp[e];refine wj 999 999 (λf h=>h=H/\f.1 45=sB (dq (cr a0.acH 11) true (cr a0.acH 12))/\bx f 1 (Tm.av a0).cells) (λ_ g=>?_) ?_
 ·rcases Pb (cr a0.acH 11) e with e|e
  ·exact aj
  exact aj
 rintro _ _ E;have e:=Aj e E;refine Im e m λe m=>?_;have⟨d,e,m⟩:=fJ e m;exact au
def yZ{n:Nat}:C2 prog 253 (kW n) sI Tm.av sI:=by
 refine i2 λn c=>u2 4 func253 λT H a0 a1 r m e=>?_;rw[kW] at m;simp[e];refine wj 0 999 (λf h=>h=H/\f.1 1=sI a1/\f.1 5=sI (dq (dq (cr a0.acH 1) (cr a0.acK a1) false) (da .i64 0 1) 0)/\bx f 2 (Tm.av a0).cells) (λ_ g=>?_) ?_
 ·refine wj 999 999 (λf h=>h=H/\f.1 1=sI a1/\f.1 5=sI 0/\f.1 16=sB (dq (cr a0.acH 1) (cr a0.acK a1) false)/\bx f 2 (Tm.av a0).cells) (λ_ g=>?_) ?_
  ·rcases Pb (cr a0.acH 1) e with e|e
   ·exact aj
   exact aj
  rintro _ _ E;have e:=Aj e E;rcases Pb (dq (cr a0.acH 1) (cr a0.acK a1) false) e with e|e
  ·exact aj
  exact aj
 rintro _ _ E;have e:=Aj e E;simp[e];refine Wr e m 999 (λb a f h=>h=H/\f.1 1=sI a1/\f.1 5=sI a/\f.1 20=sL Tm.av a0.acI/\f.1 21=sI (cE a0.acI)/\f.1 22=sI b/\bx f 2 (Tm.av a0).cells) VW (λa _ _ _ E m=>?_) (λb _ a _ _ _ _ _ E e m z p=>?_)
 ·have e:=Aj e E;dsimp only[b9]at m;exact au
 have e:=Aj e E;simp[e];refine d_ m oB λ_ m=>?_;simp[e];refine d_ m c λ_ m=>?_;exact al
def DM:C1 prog 247 p7 sI Tm.av:=by
 refine v1 func247 λT H a0 r m e=>?_;rw[p7] at m;simp[e];refine dM m eh λ_ m=>?_;apply Iq e m<;>intro e m
 ·have⟨o,e,m⟩:=fJ e m;have⟨q,e,m⟩:=fJ e m;have⟨s,e,m⟩:=fJ e m;simp[e];refine d_ m eh λ_ m=>?_;simp[e];refine d_ m yZ λ_ m=>?_;simp[e];refine d_ m eh λ_ m=>?_;exact au
 apply Iq e m<;>intro e m
 ·have⟨t,e,m⟩:=fJ e m;apply Iq e m<;>intro e m
  ·have⟨u,e,m⟩:=fJ e m;simp[e];refine dM m eh λ_ m=>?_;exact au
  have⟨a,e,m⟩:=fJ e m;simp[e];refine d_ m eh λ_ m=>?_;have⟨b,e,m⟩:=fJ e m;simp[e];refine d_ m eh λ_ m=>?_;exact au
 apply Ir e m<;>intro e m
 ·apply Iq e m<;>intro e m
  ·have⟨c,e,m⟩:=fJ e m;have⟨d,e,m⟩:=fJ e m;simp[e];refine dM m eh λ_ m=>?_;exact au
  have⟨f,e,m⟩:=fJ e m;have⟨h,e,m⟩:=fJ e m;simp[e];refine dM m eh λ_ m=>?_;exact au
 have⟨i,e,m⟩:=fJ e m;apply Iq e m<;>intro e m
 ·have⟨j,e,m⟩:=fJ e m;simp[e];refine dM m eh λ_ m=>?_;exact au
 have⟨k,e,m⟩:=fJ e m;have⟨l,e,m⟩:=fJ e m;have⟨n,e,m⟩:=fJ e m;simp[e];refine d_ m eh λ_ m=>?_;simp[e];refine d_ m eh λ_ m=>?_;simp[e];refine d_ m eh λ_ m=>?_;simp[e];refine d_ m eh λ_ m=>?_;exact au
def Fg{n:Nat}:C4 prog 254 (sP n) Tm.av Tm.av sI sI Tm.av:=by
 refine i4 λn k=>v4 func254 λT H a0 a1 a2 a3 r m e=>?_;rw[sP] at m;apply Iq e m<;>intro e m
 ·apply Iq e m<;>intro e m
  ·simp[e];refine dM m Fs λ_ m=>?_;exact au
  refine Im e m λe m=>?_;simp[e];refine dM m fX λ_ m=>?_;exact au
 simp[e];refine Wr e m 999 (λj c f h=>∃a,(h=H/\f.1 1=sI a1/\f.1 2=sI a2/\f.1 45=sL Tm.av a0.acI/\f.1 46=sI (cE a0.acI)/\f.1 47=sI j/\bx f 4 (Tm.av a0).cells/\bx f 7 (Tm.av a3).cells/\bx f 8 [sI 0,sI 0,sI 0,nL,nL]/\bx f 9 [sI a0.acH,sI a0.acK,sI a0.b7.acH,sL Ty.av a0.b7.acI,sT a Tm.av c])/\Ow f [62] a c) (by exact⟨.full,VW,hD.full⟩) (λc d _ _ E m=>?_) (λj _ c d _ _ _ _ E e m z p=>?_)
 ·have⟨a,E,b⟩:=E;have e:=Aj e E;dsimp only[b9]at m;exact au
 have⟨a,E,b⟩:=E;have e:=Aj e E;simp[e];refine d_ m oB λ_ m=>?_;simp[e];refine d_ m k λi m=>?_;have⟨e,m⟩:=Ck e m;simp[e];refine Ad (f:=Tm.av) c [i] b Bl e.2 ?_;simp[e];cases m;exact p _ _ _ ⟨(.loc 62 (d.ds 62+1)),VW,(On 62)⟩ z
def CS:C1 prog 248 oJ Tm.av Tm.av:=by
 refine v1 func248 λT H a0 r m e=>?_;rw[oJ] at m;apply Iq e m<;>intro e m
 ·have⟨o,e,m⟩:=fJ e m;have⟨q,e,m⟩:=fJ e m;have⟨s,e,m⟩:=fJ e m;simp[e];refine d_ m Fg λ_ m=>?_;exact au
 apply Iq e m<;>intro e m
 ·have⟨t,e,m⟩:=fJ e m;apply Iq e m<;>intro e m
  ·have⟨u,e,m⟩:=fJ e m;exact au
  have⟨v,e,m⟩:=fJ e m;have⟨w,e,m⟩:=fJ e m;simp[e];refine d_ m eK λ_ m=>?_;have⟨a,e,m⟩:=fJ e m;simp[e];refine d_ m ku λ_ m=>?_;simp[e];refine d_ m eK λ_ m=>?_;exact au
 apply Ir e m<;>intro e m
 ·apply Iq e m<;>intro e m
  ·have⟨b,e,m⟩:=fJ e m;have⟨c,e,m⟩:=fJ e m;exact au
  have⟨d,e,m⟩:=fJ e m;have⟨f,e,m⟩:=fJ e m;exact au
 have⟨h,e,m⟩:=fJ e m;apply Iq e m<;>intro e m
 ·have⟨i,e,m⟩:=fJ e m;exact au
 have⟨j,e,m⟩:=fJ e m;have⟨k,e,m⟩:=fJ e m;have⟨l,e,m⟩:=fJ e m;simp[e];refine d_ m eK λ_ m=>?_;simp[e];refine d_ m eK λ_ m=>?_;have⟨n,e,m⟩:=fJ e m;simp[e];refine d_ m ku λ_ m=>?_;simp[e];refine d_ m eK λ_ m=>?_;exact au
def Ob:jl prog 234=true:=by kernel_rfl
def FZ:∀(n:Nat),C2 prog 234 (ml n) (t3 Tm.av sB sB) Tm.av sI:=by
  intro n
  induction n with
  |zero=>
    skip
    all_goals(intro _ _;intros;rename_i hm;cases hm)
  |succ n ih=>
 rintro T H a0 a1 ⟨r0,r1,r2⟩ hm;rw[ml] at hm;refine du.intro (fn:=f234) func234 rfl Ob (zC rfl) ?_;refine fb.sr [] λK1 aS=>?_;simp;apply aS;refine fb.zJ λK3 aT=>?_;refine fb.sr [] λK5 aU=>?_;have⟨x7,aV,G⟩:=cJ hm;clear hm
 try dsimp only at G
 simp;refine gZ.fn (IB aV) ?_;simp;apply aU;refine fb.yM λbl bm ah ai=>?_;rcases AE G with⟨a,I⟩|⟨a,J⟩
 ·clear G;simp[a];apply ah;refine fb.zJ λbn ak=>?_;refine fb.sr [] λbo an=>?_;have⟨bp,ao,w⟩:=cJ I;clear I
  try dsimp only at w
  simp[a];refine gZ.fn (DM ao) ?_;simp[a];apply an;refine fb.yM λbq br aq ar=>?_;rcases AE w with⟨p,K⟩|⟨p,M⟩
  ·clear w;simp[a,p];apply aq;refine fb.sr [] λbs aw=>?_;simp[a,p];apply aw;refine fb.ret ?_;simp only[uv,Ro] at K;obtain⟨rfl,rfl,rfl⟩:=K;simp[xT,a,p]
  clear w;simp[a,p];apply ar;refine fb.skip ?_;apply ak;refine fb.sr [] λbt ax=>?_;have⟨bu,ay,B⟩:=cJ M;clear M
  try dsimp only at B
  simp[a,p];refine gZ.fn (CS ay) ?_;simp[a,p];apply ax;refine fb.ret ?_;simp only[uv,Ro] at B;obtain⟨rfl,rfl,rfl⟩:=B;simp[xT,a,p]
 clear G;simp[a];apply ai;refine fb.skip ?_;apply aT;refine fb.zJ λbw az=>?_;refine fb.sr [] λbz aA=>?_;simp[a];apply aA;have⟨P,N⟩:=pY J;clear J;have⟨aW,aB,C⟩:=vT N;clear N
 try dsimp only at C
 have⟨Q,q,o⟩:=cJ C;clear C;refine fb.BQ λbA aX aC aY aD=>?_;refine fb.M8 (λn55 fr h=>∃(i56:Nat) (A:Int) (r:Nat) (s:Nat),H=h/\(fr.env 1=sI a1/\fr.env 2=AV.gJ 2 r 0/\fr.env 4=AV.gJ 4 s 0/\fr.env 23=sL Tm.av a0.acI/\fr.env 24=sI (cE a0.acI)/\fr.env 25=sI A/\fr.gen 2=r/\fr.box 2=some [sI a0.acH,sI a0.acK,sI a0.b7.acH,sL Ty.av a0.b7.acI,sL Tm.av a0.acI]/\fr.gen 4=s/\fr.box 4=some [sI 0,sI 0,sI 0,nL,nL])/\A=(i56:Int)/\i56+n55=List.length a0.acI/\cY aW (List.drop i56 a0.acI) i56 ()=some Q) (List.length a0.acI) ?_ ?_
 ·refine⟨0,0,1,1,?_,⟨?_,?_,?_,?_,?_,?_,?_,?_,?_,?_⟩,rfl,th,q⟩<;>first|rfl|simp[a]
 rintro n55 O bB ⟨i56,A,r,s,rfl,i,v,aZ,q⟩ bC aE;rcases n55 with _|n55
 ·have b:=QV (l:=a0.acI) v cw;refine fb.sr [] λbD aF=>?_;simp[i,b,a];apply aF;refine fb.zJ λbE a6=>?_;refine fb.yM λbF bG a7 aG=>?_;simp[i,b,a];apply aG;refine fb.exit ?_;apply aC;rw[Ep cw,k9] at q;obtain rfl:=gv q;rw[b9] at o
  try dsimp only at o
  apply az;refine fb.sr [] λbH aH=>?_;simp[i,b,a];apply aH;refine fb.ret ?_;simp only[uv,Ro] at o;obtain⟨rfl,rfl,rfl⟩:=o;simp[xT,i,b,a]
 have b:=SD (l:=a0.acI) v cw;have⟨bI,R,e⟩:=P0 (l:=a0.acI) v cw;rw[R,cM] at q;have⟨bJ,y,z⟩:=cJ q;clear q;rw[aB,<-v] at y
 try dsimp only at y
 refine fb.sr [] λbK aI=>?_;simp[i,b,e,a];apply aI;refine fb.zJ λbL aJ=>?_;refine fb.yM λbM bN aK a8=>?_;simp[i,b,e,a];apply aK;refine fb.skip ?_;apply aJ;refine fb.zJ λbO aL=>?_;refine fb.BQ λbP a_ aM a' aN=>?_;refine fb.sr [] λbQ aO=>?_;simp[i,b,e,a];apply aO;refine fb.sr [] λbR aP=>?_;have⟨S,bS,ba,U,t⟩:=zq y;clear y
 try dsimp only at t
 simp[i,b,e,a];refine gZ.fn (ih U) ?_;simp[i,b,e,a];apply aP;refine fb.zJ λbb V=>?_;refine fb.sr [] λbc W=>?_;simp[i,b,e,a];apply W;refine fb.yM λbd bf X Y=>?_;rcases AE t with⟨c,D⟩|⟨c,Z⟩;rotate_left
 ·clear t;simp[i,b,e,a,c];apply X;refine fb.exit ?_;apply aM;apply aL;refine fb.region [] aah ?_;simp[i,b,e,a,c];obtain rfl:=gv Z;rw[cS] at z
  refine aE _ _ n55 (TD _) ⟨(i56+1),(da .i64 A 1),r,s,?_,⟨?_,?_,?_,?_,?_,?_,?_,?_,?_,?_⟩,(NS v cw P),cw,z⟩<;>first|rfl|simp[i,b,e,a,c]
 clear t;simp[i,b,e,a,c];apply Y;refine fb.skip ?_;apply V;refine fb.sr [] λbg aa=>?_;simp[i,b,e,a,c];apply aa;refine fb.sr [] λbh ab=>?_;have⟨ad,E⟩:=pY D;clear D;simp[i,b,e,a,c];refine qy.Yq (f:=Tm.av) a0.acI Bl ⟨_,Wm⟩ (by intro x;simp) ad (by first|rfl|simp) (by first|rfl|simp) λu aQ=>?_;simp[i,b,e,a,c];apply ab;refine fb.sr [] λbj ae=>?_;have⟨aR,j,F⟩:=cJ E;clear E
 try dsimp only at F
 have m:=Mc j;simp[i,b,e,j,m,a,c];refine y_.arr (f:=Tm.av) (L:=a0.acI) (k:=((u-List.length a0.acI)*5)) S Uz (by intro x;simp) (by simp[i,b,e,j,m,a,c]) (x:=aR) (by assumption) (by simp[i,b,e,j,m,a,c]) (by simp[i,b,e,j,m,a,c]) (by simp[i,b,e,j,m,a,c]) ?_;simp[i,b,e,j,m,a,c];apply ae;refine fb.zJ λbk af=>?_;refine fb.abG 12 4 (cs2:=[sI a0.acH,sI a0.acK,sI a0.b7.acH,sL Ty.av a0.b7.acI,AV.tB 42 (O.gen 42+1) (List.length (vU a0.acI A S)) u]) (f:=Tm.av) (L:=(vU a0.acI A S)) (k:=((u-List.length a0.acI)*5)) (sz:=5) (d:=42) (g:=(O.gen 42+1)) (cap:=u) (by intro x;simp) (by intro x;simp) gw (by simp[i,b,e,j,m,a,c]) (by simp[i,b,e,j,m,a,c]) (by simp[i,b,e,j,m,a,c]) (by simp[i,b,e,j,m,a,c]) ?_;refine fb.region [] aah ?_;simp[i,b,e,j,m,a,c];apply af;refine fb.ret ?_;apply aN;apply aD;obtain rfl:=gv F;rw[Eo] at z;obtain rfl:=gv z;rw[pJ] at o
 try dsimp only at o
 simp only[uv,Ro] at o;obtain⟨rfl,rfl,rfl⟩:=o;simp[xT,i,b,e,j,m,a,c]
def Hu{n:Nat}:C2 prog 234 (ml n) (t3 Tm.av sB sB) Tm.av sI:=(FZ n)
def sN:C2 prog 206 j8 (t3 Tm.av sI sI) Tm.av sI:=by
 refine u2 7 func206 λT H a0 a1 r m e=>?_;rw[j8] at m;simp[e];refine dM m mS λ_ m=>?_;simp[e];apply Iq e m<;>intro e m
 ·apply wg 999;exact au
 apply wg 3;simp[e];refine Wj m 999 999 (λb f h=>∃v3,(h=H/\f.1 1=sI a1/\f.1 28=sB v3/\bx f 2 (Tm.av a0).cells/\bx f 4 [sI 0,sI 0,sI 0,nL,nL])/\b v3=some r) (λb _ g m=>?_) ?_
 ·apply Iq e m<;>intro e m
  ·exact iO
  apply Iq e m<;>intro e m
  ·exact iO
  simp[e];refine dM m uz λ_ m=>?_;exact iO
 rintro _ _ ⟨v3,E,m⟩;have e:=Aj e E;refine Il e m λe m=>?_;simp[e];refine Wn m 999 (λa f h=>h=H/\f.1 1=sI a1/\f.1 8=sI a.1/\bx f 2 [sI a.2.1,sI a.2.2.1,sI a.2.2.2.1,sL Ty.av a.2.2.2.2.1,sL Tm.av a.2.2.2.2.2]/\bx f 4 [sI 0,sI 0,sI 0,nL,nL]) VW (λa _ _ _ _ _ E m z p=>?_);have⟨c,d,i,j,k,v20⟩:=a;have e:=Aj e E;dsimp only[xC]at m;simp[e];refine d_ m eh λ_ m=>?_;simp[e];refine Cs3 m Hu λ_ _ _ m=>?_;apply Ir e m<;>intro e m
 ·simp[e];refine dM m p4 λ_ m=>?_;exact au
 refine Il e m λe m=>?_;refine Im e m λe m=>?_;exact al
def Fz:C3 prog 164 pd sI Tm.av Tm.av sI:=by
 refine v3 func164 λT H a0 a1 a2 r m e=>?_;rw[pd] at m;simp[e];refine dM m mS λ_ m=>?_;refine Il e m λe m=>?_;simp[e];refine dM m mS λ_ m=>?_;refine Il e m λe m=>?_;simp[e];refine dM m wA λ_ m=>?_;refine Il e m λe m=>?_;simp[e];refine Pc m sN λ_ _ _ m=>?_;refine Il e m λe m=>?_;simp[e];refine Pc m sN λ_ _ _ m=>?_;refine Il e m λe m=>?_;simp[e];refine dM m wA λ_ m=>?_;refine Il e m λe m=>?_;exact au
def Gl{n:Nat}:C2 prog 136 (nD n) sI Fm.av Fm.av:=by
 refine i2 λn d=>u2 3 func136 λT H a0 a1 r m e=>?_;rw[nD] at m;simp[e];refine Wj m 999 999 (λb f h=>∃v2,(h=H/\f.1 21=sB v2/\bx f 2 (Fm.av a0).cells/\bx f 3 (Fm.av a1).cells)/\b v2=some r) (λb _ g m=>?_) ?_
 ·apply Iq e m<;>intro e m
  ·exact iO
  simp[e];refine dM m eZ λ_ m=>?_;exact iO
 rintro _ _ ⟨v2,E,m⟩;have e:=Aj e E;refine Il e m λe m=>?_;simp[e];refine Bu e m 999 (λc _ f h=>h=H/\f.1 24=sI (cE a0.cv)/\f.1 25=sI c/\bx f 2 (Fm.av a0).cells/\bx f 3 (Fm.av a1).cells) VW (λc _ _ _ _ _ _ _ E e m z p=>?_) (λ_ _ _ _ E m=>?_)
 ·have e:=Aj e E;have⟨i,e,m⟩:=fJ e m;simp[e];refine d_ m Fz λ_ m=>?_;refine Il e m λe m=>?_;exact al
 have e:=Aj e E;dsimp only[b9]at m;simp[e];refine Wr e m 999 (λa _ f h=>h=H/\f.1 45=sI (cE a0.acI)/\f.1 46=sI a/\bx f 2 (Fm.av a0).cells/\bx f 3 (Fm.av a1).cells) VW (λ_ _ _ _ E m=>?_) (λa _ _ _ _ _ _ _ E e m z p=>?_)
 ·have e:=Aj e E;dsimp only[b9]at m;exact au
 have e:=Aj e E;have⟨j,e,m⟩:=fJ e m;simp[e];refine d_ m d λ_ m=>?_;refine Il e m λe m=>?_;exact al
def uF:C2 prog 106 ki sI Fm.av Fm.av:=by
 refine v2 func106 λT H a0 a1 r m e=>?_;rw[ki] at m;simp[e];refine dM m j9 λ_ m=>?_;refine Il e m λe m=>?_;simp[e];refine dM m j9 λ_ m=>?_;refine Il e m λe m=>?_;simp[e];refine dM m Gl λ_ m=>?_;exact au
def kE:C2 prog 224 dk bZ.av bZ.av (sL Ty.av):=by
 refine v2 func224 λT H a0 a1 r m e=>?_;rw[dk] at m;have⟨e,m⟩:=Ck e m;simp[e];refine Ad (f:=Ty.av) a0.acL a1 (hD.full (D:=[])) AO e.2 ?_;simp[e];refine Wr e m 999 (λk s2 f h=>∃a b,(h=H/\f.1 1=sL Ty.av a1/\f.1 23=sL Fm.av a0.acO/\f.1 24=sI (cE a0.acO)/\f.1 25=sI k/\bx f 4 [nL,nL,nL]/\bx f 5 [sL Fm.av a0.lemmas,sT a Ty.av (dN a0.acL a1),sT b Fm.av s2])/\Ow f [20] a (dN a0.acL a1)/\Ow f [36] b s2) (by exact⟨(.loc 20 1),.full,VW,(On 20),hD.full⟩) (λs2 i _ _ E m=>?_) (λk _ s2 i _ _ _ _ E e m z p=>?_)
 ·have⟨a,b,E,d,c⟩:=E;have e:=Aj e E;dsimp only[b9]at m;exact au
 have⟨a,b,E,d,c⟩:=E;have e:=Aj e E;simp[e];refine d_ m oQ λj m=>?_;have⟨e,m⟩:=Ck e m;simp[e];refine Ad (f:=Fm.av) s2 [j] c Ix e.2 ?_;simp[e];cases m;exact p _ _ _ ⟨a,(.loc 36 (i.ds 36+1)),VW,(hD.other d c gw gw),(On 36)⟩ z
def mE:C2 prog 225 eb (sL sI) (sL sI) sI:=by
 refine v2 func225 λT H a0 a1 r m e=>?_;rw[eb] at m;simp[e];refine Wr e m 0 (λk s2 f h=>∃b,(h=H/\f.1 1=sI a1/\f.1 5=sT b sI s2/\f.1 8=sL sI a0/\f.1 9=sI (cE a0)/\f.1 10=sI k)/\Ow f [22] b s2) (by exact⟨.full,VW,hD.full⟩) (λs2 i _ _ E m=>?_) (λk l s2 i _ _ _ n E e m z p=>?_)
 ·have⟨b,E,c⟩:=E;have e:=Aj e E;apply wg 999;dsimp only[b9]at m;exact au
 have⟨b,E,c⟩:=E;have e:=Aj e E;apply wg 5;simp[e];refine yJ m 999 999 (λj f h=>∃v11 a,(h=H/\f.1 1=sI a1/\f.1 5=sT a sI v11/\f.1 8=sL sI a0/\f.1 9=sI (cE a0)/\f.1 10=sI k)/\Ow f [22] a v11/\j v11=some n) ?_ (λj _ g m=>?_)
 ·rintro _ _ ⟨v11,a,E,d,m⟩;have e:=Aj e E;simp[e];cases m;exact p _ _ _ ⟨a,VW,d⟩ z
 apply Ir e m<;>intro e m
 ·simp[e];exact g _ _ ⟨s2,b,VW,c,m⟩
 have⟨e,m⟩:=Ck e m;simp[e];refine Ao (f:=sI) s2 [(di .i64 l a1)] c Ry e.2 ?_;simp[e];exact g _ _ ⟨(dN s2 [(di .i64 l a1)]),(.loc 22 (i.ds 22+1)),VW,(On 22),m⟩
def Cd:C1 prog 226 pt sB (sL sI):=by
 refine u1 2 func226 λT H a0 r m e=>?_;rw[pt] at m;simp[e];refine yJ m 999 999 (λa f h=>∃v2,(h=H/\f.1 2=sB v2)/\a v2=some r) ?_ (λa _ g m=>?_)
 ·rintro _ _ ⟨v2,E,m⟩;have e:=Aj e E;exact au
 apply Ir e m<;>intro e m
 ·exact iO
 have⟨b,e,m⟩:=fJ e m;exact iO
def ti:C2 prog 227 iH (t2 Ty.av sI) (sL Ty.av) Tm.av:=by
 refine v2 func227 λT H a0 a1 r m e=>?_;rw[iH] at m;simp[e];refine dM m rF λ_ m=>?_;refine Il e m λe m=>?_;simp[e];refine lZ m yO λ_ _ m=>?_;exact au
def Gf(T:cW):∀(n:Nat),(∀{H:cd} {a0:Tm} {a1:Int} {a2:(List (Int×Bool))} {a:(List (Int×Bool))} {o2:Nat} (b:H[o2]?=some [qD sB a2]) (hm:nJ n a0 a1 a2=some a),dB prog T 250 [Tm.av a0,sI a1,AV.nc o2] H (AV.tuple []) (dC H o2 [qD sB a])):=by
  intro n
  induction n with
  |zero=>
    skip
    all_goals(intro _ _;intros;rename_i hm;cases hm)
  |succ n k=>
 intro H a0 a1 a2 a o2 b hm;rw[nJ] at hm;have d:=fu b;refine du.RP b ?_;have e:=d;refine wi acM func250 [] [] 2 ?_;simp[e];refine Wj hm 0 999 (λi f h=>∃(v2:(List (Int×Bool))),(h=dC H o2 [qD sB v2]/\f.1 1=sI a1/\f.1 2=AV.nc o2/\f.1 3=AV.gJ 3 (f.gen 3) 0/\f.box 3=some (Tm.av a0).cells)/\i v2=some a) (λi _ g m=>?_) ?_
 ·refine wj 999 999 (λf h=>h=dC H o2 [qD sB a2]/\f.1 1=sI a1/\f.1 2=AV.nc o2/\f.1 16=sB (dq (cr a0.acH 1) (qf a0.acK a1) false)/\bx f 3 (Tm.av a0).cells) (λ_ g=>?_) ?_
  ·rcases Pb (cr a0.acH 1) e with e|e
   ·exact aj
   exact aj
  rintro _ _ E;have e:=Aj e E;apply Ir e m<;>intro e m
  ·exact iO
  simp[e];refine Vw.i64 (f:=sB) a2 true LW U9 VW VW ?_;exact iO
 rintro _ _ ⟨v2,E,m⟩;have e:=Aj e E;simp[e];refine Wr e m 999 (λj c f h=>h=dC H o2 [qD sB c]/\f.1 1=sI a1/\f.1 2=AV.nc o2/\f.1 23=sL Tm.av a0.acI/\f.1 24=sI (cE a0.acI)/\f.1 25=sI j/\bx f 3 (Tm.av a0).cells) VW (λc _ _ _ E m=>?_) (λj _ c _ _ _ _ _ E e m z p=>?_)
 ·have e:=Aj e E;dsimp only[b9]at m;exact au
 have e:=Aj e E;simp[e];refine d_ m oB λ_ m=>?_;simp[e];refine d_ m (k VW) λd19 m=>?_;exact al
def Iz(T:cW){H:cd}{a0:Tm}{a1:Int}{a2:(List (Int×Bool))}{a:(List (Int×Bool))}{o2:Nat}(b:H[o2]?=some [qD sB a2]){n:Nat}(hm:nJ n a0 a1 a2=some a):dB prog T 250 [Tm.av a0,sI a1,AV.nc o2] H (AV.tuple []) (dC H o2 [qD sB a]):=(Gf T n) b hm
def IH(T:cW){H:cd}{a0:Tm}{a:List Int}{b:Int}(hm:sM a0=some (a,b)):dB prog T 242 [Tm.av a0] H (AV.tuple [sL sI a,sI b]) H:=by
 rw[sM] at hm;refine du.xF (Post:=λx K=>x=AV.tuple [sL sI a,sI b]/\∃X,K=H++X) ?_ (λ_ _ h=>⟨_,h.2.choose_spec,by rw[h.1];simp[AV.low,AV.gD],h.1,rfl⟩);have e:=trivial;refine wi acM func242 [] [] 999 ?_;simp[e];refine dM hm mS λ_ m=>?_;refine Il e m λe m=>?_;simp[e];refine dM m (Iz T VW) λd2 m=>?_;simp[e];refine lZ m (xq T VW) λ_ d4 m=>?_;exact au
def rQ:C1 prog 228 iv (sL sI) Tm.av:=by
 refine v1 func228 λT H a0 r m e=>?_;rw[iv] at m;simp[e];refine lZ m (IH T) λ_ _ m=>?_;exact au
def Gm{n:Nat}:C2 prog 251 (nH n) sI Fm.av sI:=by
 refine i2 λn d=>v2 func251 λT H a0 a1 r m e=>?_;rw[nH] at m;simp[e];refine Bu e m 999 (λc s2 f h=>h=H/\f.1 1=sI a1/\f.1 5=sI s2/\f.1 11=sL Tm.av a0.cv/\f.1 12=sI (cE a0.cv)/\f.1 13=sI c/\bx f 2 (Fm.av a0).cells) VW (λc _ s2 _ _ _ _ _ E e m z p=>?_) (λs2 _ _ _ E m=>?_)
 ·have e:=Aj e E;simp[e];refine dM m yZ λ_ m=>?_;exact al
 have e:=Aj e E;dsimp only[b9]at m;simp[e];refine Wr e m 999 (λb a f h=>h=H/\f.1 1=sI a1/\f.1 5=sI a/\f.1 24=sL Fm.av a0.acI/\f.1 25=sI (cE a0.acI)/\f.1 26=sI b/\bx f 2 (Fm.av a0).cells) VW (λa _ _ _ E m=>?_) (λb _ a _ _ _ _ _ E e m z p=>?_)
 ·have e:=Aj e E;dsimp only[b9]at m;exact au
 have e:=Aj e E;simp[e];refine d_ m qR λ_ m=>?_;simp[e];refine d_ m d λ_ m=>?_;exact al
def LX{n:Nat}:C4 prog 252 (vA n) Fm.av Fm.av sI sI Tm.av:=by
 refine i4 λn v=>v4 func252 λT H a0 a1 a2 a3 r m e=>?_;rw[vA] at m;simp[e];refine Bu e m 999 (λu s2 f h=>∃c,(h=H/\f.1 1=sI a1/\f.1 2=sI a2/\f.1 20=sL Tm.av a0.cv/\f.1 21=sI (cE a0.cv)/\f.1 22=sI u/\bx f 4 (Fm.av a0).cells/\bx f 7 (Tm.av a3).cells/\bx f 8 [sI 0,sI 0,nL,nL,nL]/\bx f 9 [sI a0.acH,sI a0.b7.acH,sL Ty.av a0.b7.acI,sT c Tm.av s2,nL])/\Ow f [34] c s2) (by exact⟨.full,VW,hD.full⟩) (λu _ s2 o _ _ _ _ E e m z p=>?_) (λs2 o _ _ E m=>?_)
 ·have⟨c,E,i⟩:=E;have e:=Aj e E;simp[e];refine d_ m Fg λs m=>?_;have⟨e,m⟩:=Ck e m;simp[e];refine Ad (f:=Tm.av) s2 [s] i Bl e.2 ?_;simp[e];cases m;exact p _ _ _ ⟨(.loc 34 (o.ds 34+1)),VW,(On 34)⟩ z
 have⟨c,E,i⟩:=E;have e:=Aj e E;dsimp only[b9]at m;simp[e];refine Wr e m 999 (λq j f h=>∃a b,(h=H/\f.1 1=sI a1/\f.1 2=sI a2/\f.1 38=sL Fm.av a0.acI/\f.1 39=sI (cE a0.acI)/\f.1 40=sI q/\bx f 4 (Fm.av a0).cells/\bx f 7 (Tm.av a3).cells/\bx f 8 [sI 0,sI 0,nL,nL,nL]/\bx f 9 [sI a0.acH,sI a0.b7.acH,sL Ty.av a0.b7.acI,sT a Tm.av s2,sT b Fm.av j])/\Ow f [34] a s2/\Ow f [55] b j) (by exact⟨c,.full,VW,i,hD.full⟩) (λj l _ _ E m=>?_) (λq _ j l _ _ _ _ E e m z p=>?_)
 ·have⟨a,b,E,k,d⟩:=E;have e:=Aj e E;dsimp only[b9]at m;exact au
 have⟨a,b,E,k,d⟩:=E;have e:=Aj e E;simp[e];refine d_ m qR λ_ m=>?_;simp[e];refine d_ m v λt m=>?_;have⟨e,m⟩:=Ck e m;simp[e];refine Ad (f:=Fm.av) j [t] d Ix e.2 ?_;simp[e];cases m;exact p _ _ _ ⟨a,(.loc 55 (l.ds 55+1)),VW,(hD.other k d gw gw),(On 55)⟩ z
def I8:C3 prog 243 va (t2 Fm.av sI) Fm.av sI Tm.av:=by
 refine u3 7 func243 λT H a0 a1 a2 r m e=>?_;rw[va] at m;simp[e];refine dM m j9 λ_ m=>?_;simp[e];apply Iq e m<;>intro e m
 ·apply wg 999;exact au
 apply wg 3;simp[e];refine wj 999 0 (λf h=>h=H/\f.1 1=sI a1/\f.1 21=sB (dq (tD a1 0) true (m8 a1 4096))/\bx f 3 (Fm.av a0).cells/\bx f 5 (Tm.av a2).cells/\bx f 6 [sI 0,sI 0,nL,nL,nL]) (λ_ g=>?_) ?_
 ·rcases Pb (tD a1 0) e with e|e
  ·exact aj
  exact aj
 rintro _ _ E;have e:=Aj e E;apply Iq e m<;>intro e m
 ·apply wg 999;exact au
 apply wg 7;simp[e];refine dM m mS λ_ m=>?_;simp[e];apply Iq e m<;>intro e m
 ·apply wg 999;exact au
 apply wg 3;simp[e];refine Wj m 999 999 (λb f h=>∃a,(h=H/\f.1 1=sI a1/\f.1 36=sB a/\bx f 3 (Fm.av a0).cells/\bx f 5 (Tm.av a2).cells/\bx f 6 [sI 0,sI 0,nL,nL,nL])/\b a=some r) (λb _ g m=>?_) ?_
 ·simp[e];refine dM m yV λ_ m=>?_;apply Ir e m<;>intro e m
  ·exact iO
  simp[e];refine dM m uz λ_ m=>?_;exact iO
 rintro _ _ ⟨a,E,m⟩;have e:=Aj e E;refine Il e m λe m=>?_;simp[e];refine d_ m mM λ_ m=>?_;simp[e];refine d_ m Gm λ_ m=>?_;simp[e];refine d_ m eh λ_ m=>?_;refine Il e m λe m=>?_;simp[e];refine dM m LX λ_ m=>?_;simp[e];refine dM m n_ λ_ m=>?_;exact au
end Go.Proofs.YtffcgfpaakhbjaaGreatDoor
