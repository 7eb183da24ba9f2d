/- Part of the proof of KernelAccepts, KernelDoes: layer. -/
import Derived.ChangeArms
import Derived.Test.YtobcafblgapgfaaGreatDoorL21
import Derived.Test.YtobcafblgapgfaaGreatDoorW1
set_option linter.all false
set_option maxRecDepth 100000
namespace Go.Proofs.YtobcafblgapgfaaGreatDoor
open Go Go.ke Go.fB
section
variable{H:Type} {enc:TypeId×Value->H} {W:World}
def Bq:Tryz.prog.cellsOf 3=1:=by kernel_rfl
def Fe:Tryz.prog.cellsOf 28=2:=by kernel_rfl
def Km:Tryz.prog.cellsOf 64=5:=by kernel_rfl
def OL:Tryz.prog.cellsOf 46=5:=by kernel_rfl
def adx:Tryz.prog.cellsOf 32=7:=by kernel_rfl
def Qp:Tryz.prog.cellsOf 24=1:=by kernel_rfl
def IG:Tryz.prog.cellsOf 29=1:=by kernel_rfl
def Qc:Tryz.prog.cellsOf 23=1:=by kernel_rfl
def adB:Tryz.prog.cellsOf 30=1:=by kernel_rfl
def aaO(a:Ty):a.av.cells.length=2:=by rw[Ty.fo];rfl
def ZH(a:Ty):∀y∈a.av.cells,y.eD=true:=by
 intro y hy;rw[Ty.fo] at hy;simp only[j0,tw,TI] at hy;rcases hy with rfl|rfl<;>rfl
def OH:∀(fuel:Nat) (cs:List Value) (x:DataW H×List MemPlace),DataW.trod enc Tryz.prog W 0 (λ_=>true) true fuel 28 cs=some x->∃a:Ty,Dl W a.av.cells cs:=by
 intro fuel
 induction fuel using Nat.strongRecOn with
 |_ fuel e=>
  intro cs x h;obtain⟨xs,n,rfl,_,c,b,d⟩:=DataW.trod_struct Tryz.underlying28 h;have f:cs.length=2:=c.trans Fe;obtain⟨p,g⟩:=mV (i:=0) b d rfl (u:=3) rfl (off:=0) rfl Bq;obtain⟨a0,j⟩:=CM Tryz.underlying3 g;obtain⟨q,h1⟩:=mV (i:=1) b d rfl (u:=24) rfl (off:=1) rfl Qp;obtain⟨a1,k⟩:=xY Ty.av 2 Tryz.underlying24 Fe VW aaO ZH h1 (λf2 l m o=>e f2 VW l m);refine⟨.mk a0 a1,?_⟩;rw[Ty.fo];exact oC (off:=0) (n:=1) (off':=1) rfl j (oC (off:=1) (n:=1) (off':=2) rfl k (FF (JB f)))
def Vd(a:Tm):a.av.cells.length=5:=by rw[Tm.fo];rfl
def Vq(a:Tm):∀y∈a.av.cells,y.eD=true:=by
 intro y hy;rw[Tm.fo] at hy;simp only[j0,tw,TI] at hy;rcases hy with rfl|rfl|rfl|rfl|rfl<;>rfl
def UK:∀(fuel:Nat) (cs:List Value) (x:DataW H×List MemPlace),DataW.trod enc Tryz.prog W 0 (λ_=>true) true fuel 64 cs=some x->∃a:Tm,Dl W a.av.cells cs:=by
 intro fuel
 induction fuel using Nat.strongRecOn with
 |_ fuel f=>
  intro cs x h;obtain⟨xs,n,rfl,_,d,b,c⟩:=DataW.trod_struct Tryz.underlying64 h;have g:cs.length=5:=d.trans Km;obtain⟨t,j⟩:=mV (i:=0) b c rfl (u:=3) rfl (off:=0) rfl Bq;obtain⟨a0,k⟩:=CM Tryz.underlying3 j;obtain⟨v,h1⟩:=mV (i:=1) b c rfl (u:=3) rfl (off:=1) rfl Bq;obtain⟨a1,l⟩:=CM Tryz.underlying3 h1;obtain⟨w,m⟩:=mV (i:=2) b c rfl (u:=28) rfl (off:=2) rfl Fe;obtain⟨a2,e⟩:=OH _ _ _ m;rw[Ty.fo] at e;obtain⟨y3,o⟩:=mV (i:=3) b c rfl (u:=29) rfl (off:=4) rfl IG;obtain⟨a3,p⟩:=xY Tm.av 5 Tryz.underlying29 Km VW Vd Vq o (λf2 q r s=>f f2 VW q r);refine⟨.mk a0 a1 a2 a3,?_⟩;rw[Tm.fo];exact oC (off:=0) (n:=1) (off':=1) rfl k (oC (off:=1) (n:=1) (off':=2) rfl l (oC (off:=2) (n:=2) (off':=4) rfl e (oC (off:=4) (n:=1) (off':=5) rfl p (FF (JB g)))))
def Z7(a:Fm):a.av.cells.length=5:=by rw[Fm.fo];rfl
def VS(a:Fm):∀y∈a.av.cells,y.eD=true:=by
 intro y hy;rw[Fm.fo] at hy;simp only[j0,tw,TI] at hy;rcases hy with rfl|rfl|rfl|rfl|rfl<;>rfl
def TH:∀(fuel:Nat) (cs:List Value) (x:DataW H×List MemPlace),DataW.trod enc Tryz.prog W 0 (λ_=>true) true fuel 46 cs=some x->∃a:Fm,Dl W a.av.cells cs:=by
 intro fuel
 induction fuel using Nat.strongRecOn with
 |_ fuel j=>
  intro cs x h;obtain⟨xs,n,rfl,_,d,b,c⟩:=DataW.trod_struct Tryz.underlying46 h;have k:cs.length=5:=d.trans OL;obtain⟨t,l⟩:=mV (i:=0) b c rfl (u:=3) rfl (off:=0) rfl Bq;obtain⟨a0,m⟩:=CM Tryz.underlying3 l;obtain⟨v,h1⟩:=mV (i:=1) b c rfl (u:=28) rfl (off:=1) rfl Fe;obtain⟨a1,g⟩:=OH _ _ _ h1;rw[Ty.fo] at g;obtain⟨w,o⟩:=mV (i:=2) b c rfl (u:=29) rfl (off:=3) rfl IG;obtain⟨a2,p⟩:=xY Tm.av 5 Tryz.underlying29 Km VW Vd Vq o (λf2 e f _=>UK f2 e f);obtain⟨y3,q⟩:=mV (i:=3) b c rfl (u:=23) rfl (off:=4) rfl Qc;obtain⟨a3,r⟩:=xY Fm.av 5 Tryz.underlying23 OL VW Z7 VS q (λf2 e f s=>j f2 VW e f);refine⟨.mk a0 a1 a2 a3,?_⟩;rw[Fm.fo];exact oC (off:=0) (n:=1) (off':=1) rfl m (oC (off:=1) (n:=2) (off':=3) rfl g (oC (off:=3) (n:=1) (off':=4) rfl p (oC (off:=4) (n:=1) (off':=5) rfl r (FF (JB k)))))
def adX(a:Pf):a.av.cells.length=7:=by rw[Pf.fo];rfl
def adQ(a:Pf):∀y∈a.av.cells,y.eD=true:=by
 intro y hy;rw[Pf.fo] at hy;simp only[j0,tw,TI] at hy;rcases hy with rfl|rfl|rfl|rfl|rfl|rfl|rfl<;>rfl
def adL:∀(fuel:Nat) (cs:List Value) (x:DataW H×List MemPlace),DataW.trod enc Tryz.prog W 0 (λ_=>true) true fuel 32 cs=some x->∃a:Pf,Dl W a.av.cells cs:=by
 intro fuel
 induction fuel using Nat.strongRecOn with
 |_ fuel j=>
  intro cs x h;obtain⟨xs,n,rfl,_,f,b,c⟩:=DataW.trod_struct Tryz.underlying32 h;have k:cs.length=7:=f.trans adx;obtain⟨z,l⟩:=mV (i:=0) b c rfl (u:=3) rfl (off:=0) rfl Bq;obtain⟨a0,m⟩:=CM Tryz.underlying3 l;obtain⟨A,h1⟩:=mV (i:=1) b c rfl (u:=3) rfl (off:=1) rfl Bq;obtain⟨a1,o⟩:=CM Tryz.underlying3 h1;obtain⟨B,p⟩:=mV (i:=2) b c rfl (u:=28) rfl (off:=2) rfl Fe;obtain⟨a2,g⟩:=OH _ _ _ p;rw[Ty.fo] at g;obtain⟨y3,q⟩:=mV (i:=3) b c rfl (u:=29) rfl (off:=4) rfl IG;obtain⟨a3,r⟩:=xY Tm.av 5 Tryz.underlying29 Km VW Vd Vq q (λf2 d e _=>UK f2 d e);obtain⟨y4,s⟩:=mV (i:=4) b c rfl (u:=23) rfl (off:=5) rfl Qc;obtain⟨a4,t⟩:=xY Fm.av 5 Tryz.underlying23 OL VW Z7 VS s (λf2 d e _=>TH f2 d e);obtain⟨C,v⟩:=mV (i:=5) b c rfl (u:=30) rfl (off:=6) rfl adB;obtain⟨a5,w⟩:=xY Pf.av 7 Tryz.underlying30 adx VW adX adQ v (λf2 d e y=>j f2 VW d e);refine⟨.mk a0 a1 a2 a3 a4 a5,?_⟩;rw[Pf.fo];exact oC (off:=0) (n:=1) (off':=1) rfl m (oC (off:=1) (n:=1) (off':=2) rfl o (oC (off:=2) (n:=2) (off':=4) rfl g (oC (off:=4) (n:=1) (off':=5) rfl r (oC (off:=5) (n:=1) (off':=6) rfl t (oC (off:=6) (n:=1) (off':=7) rfl w (FF (JB k)))))))
end
end Go.Proofs.YtobcafblgapgfaaGreatDoor
