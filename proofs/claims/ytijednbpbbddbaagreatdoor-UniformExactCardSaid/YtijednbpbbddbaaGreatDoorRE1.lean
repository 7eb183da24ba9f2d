/- Part of the proof of UniformExact: raw arguments. -/
import Derived.ChangeArms
import Derived.Test.YtijednbpbbddbaaGreatDoorW1
import Derived.Test.YtijednbpbbddbaaGreatDoorL21
set_option linter.all false
set_option maxRecDepth 100000
namespace Go.Proofs.YtijednbpbbddbaaGreatDoor
open Go Go.ns Go.ek
section
variable{H:Type} {enc:TypeId×Value->H} {W:World}
def BX:Tryz.prog.cellsOf 3=1:=by kernel_rfl
def FT:Tryz.prog.cellsOf 25=2:=by kernel_rfl
def LL:Tryz.prog.cellsOf 67=5:=by kernel_rfl
def LJ:Tryz.prog.cellsOf 34=5:=by kernel_rfl
def Un:Tryz.prog.cellsOf 30=7:=by kernel_rfl
def X6:Tryz.prog.cellsOf 32=2:=by kernel_rfl
def OI:Tryz.prog.cellsOf 23=1:=by kernel_rfl
def J3:Tryz.prog.cellsOf 26=1:=by kernel_rfl
def JX:Tryz.prog.cellsOf 27=1:=by kernel_rfl
def U4:Tryz.prog.cellsOf 28=1:=by kernel_rfl
def Z'(a:Ty):a.av.cells.length=2:=by rw[Ty.gW];rfl
def Zk(a:Ty):∀y∈a.av.cells,y.gw=true:=by
 intro y hy;rw[Ty.gW] at hy;simp only[iL,pt,mQ] at hy;rcases hy with rfl|rfl<;>rfl
def LF:∀(fuel:Nat) (cs:List Value) (x:DataW H×List MemPlace),DataW.trod enc Tryz.prog W 0 (λ_=>true) true fuel 25 cs=some x->∃a:Ty,FD W a.av.cells cs:=by
 intro fuel
 induction fuel using Nat.strongRecOn with
 |_ fuel e=>
  intro cs x h;obtain⟨xs,n,rfl,_,c,b,d⟩:=DataW.trod_struct Tryz.underlying25 h;have f:cs.length=2:=c.trans FT;obtain⟨q,g⟩:=kN (i:=0) b d rfl (u:=3) rfl (off:=0) rfl BX;obtain⟨a0,j⟩:=Cz Tryz.underlying3 g;obtain⟨r,k⟩:=kN (i:=1) b d rfl (u:=23) rfl (off:=1) rfl OI;obtain⟨a1,l⟩:=qV Ty.av 2 Tryz.underlying23 FT VW Z' Zk k (λf2 m o p=>e f2 VW m o);refine⟨.mk a0 a1,?_⟩;rw[Ty.gW];exact lN (off:=0) (n:=1) (off':=1) rfl j (lN (off:=1) (n:=1) (off':=2) rfl l (Fx (VK f)))
def Xa(a:Tm):a.av.cells.length=5:=by rw[Tm.gW];rfl
def W_(a:Tm):∀y∈a.av.cells,y.gw=true:=by
 intro y hy;rw[Tm.gW] at hy;simp only[iL,pt,mQ] at hy;rcases hy with rfl|rfl|rfl|rfl|rfl<;>rfl
def Uw:∀(fuel:Nat) (cs:List Value) (x:DataW H×List MemPlace),DataW.trod enc Tryz.prog W 0 (λ_=>true) true fuel 67 cs=some x->∃a:Tm,FD W a.av.cells cs:=by
 intro fuel
 induction fuel using Nat.strongRecOn with
 |_ fuel f=>
  intro cs x h;obtain⟨xs,n,rfl,_,d,b,c⟩:=DataW.trod_struct Tryz.underlying67 h;have g:cs.length=5:=d.trans LL;obtain⟨v,j⟩:=kN (i:=0) b c rfl (u:=3) rfl (off:=0) rfl BX;obtain⟨a0,k⟩:=Cz Tryz.underlying3 j;obtain⟨w,l⟩:=kN (i:=1) b c rfl (u:=3) rfl (off:=1) rfl BX;obtain⟨a1,m⟩:=Cz Tryz.underlying3 l;obtain⟨y,o⟩:=kN (i:=2) b c rfl (u:=25) rfl (off:=2) rfl FT;obtain⟨a2,e⟩:=LF _ _ _ o;rw[Ty.gW] at e;obtain⟨y3,p⟩:=kN (i:=3) b c rfl (u:=26) rfl (off:=4) rfl J3;obtain⟨a3,q⟩:=qV Tm.av 5 Tryz.underlying26 LL VW Xa W_ p (λf2 r s t=>f f2 VW r s);refine⟨.mk a0 a1 a2 a3,?_⟩;rw[Tm.gW];exact lN (off:=0) (n:=1) (off':=1) rfl k (lN (off:=1) (n:=1) (off':=2) rfl m (lN (off:=2) (n:=2) (off':=4) rfl e (lN (off:=4) (n:=1) (off':=5) rfl q (Fx (VK g)))))
def VJ(a:Fm):a.av.cells.length=5:=by rw[Fm.gW];rfl
def Uh(a:Fm):∀y∈a.av.cells,y.gw=true:=by
 intro y hy;rw[Fm.gW] at hy;simp only[iL,pt,mQ] at hy;rcases hy with rfl|rfl|rfl|rfl|rfl<;>rfl
def Po:∀(fuel:Nat) (cs:List Value) (x:DataW H×List MemPlace),DataW.trod enc Tryz.prog W 0 (λ_=>true) true fuel 34 cs=some x->∃a:Fm,FD W a.av.cells cs:=by
 intro fuel
 induction fuel using Nat.strongRecOn with
 |_ fuel j=>
  intro cs x h;obtain⟨xs,n,rfl,_,d,b,c⟩:=DataW.trod_struct Tryz.underlying34 h;have k:cs.length=5:=d.trans LJ;obtain⟨v,l⟩:=kN (i:=0) b c rfl (u:=3) rfl (off:=0) rfl BX;obtain⟨a0,m⟩:=Cz Tryz.underlying3 l;obtain⟨w,o⟩:=kN (i:=1) b c rfl (u:=25) rfl (off:=1) rfl FT;obtain⟨a1,g⟩:=LF _ _ _ o;rw[Ty.gW] at g;obtain⟨y,p⟩:=kN (i:=2) b c rfl (u:=26) rfl (off:=3) rfl J3;obtain⟨a2,q⟩:=qV Tm.av 5 Tryz.underlying26 LL VW Xa W_ p (λf2 e f _=>Uw f2 e f);obtain⟨y3,r⟩:=kN (i:=3) b c rfl (u:=27) rfl (off:=4) rfl JX;obtain⟨a3,s⟩:=qV Fm.av 5 Tryz.underlying27 LJ VW VJ Uh r (λf2 e f t=>j f2 VW e f);refine⟨.mk a0 a1 a2 a3,?_⟩;rw[Fm.gW];exact lN (off:=0) (n:=1) (off':=1) rfl m (lN (off:=1) (n:=2) (off':=3) rfl g (lN (off:=3) (n:=1) (off':=4) rfl q (lN (off:=4) (n:=1) (off':=5) rfl s (Fx (VK k)))))
def aem(a:Pf):a.av.cells.length=7:=by rw[Pf.gW];rfl
def ZJ(a:Pf):∀y∈a.av.cells,y.gw=true:=by
 intro y hy;rw[Pf.gW] at hy;simp only[iL,pt,mQ] at hy;rcases hy with rfl|rfl|rfl|rfl|rfl|rfl|rfl<;>rfl
def XX:∀(fuel:Nat) (cs:List Value) (x:DataW H×List MemPlace),DataW.trod enc Tryz.prog W 0 (λ_=>true) true fuel 30 cs=some x->∃a:Pf,FD W a.av.cells cs:=by
 intro fuel
 induction fuel using Nat.strongRecOn with
 |_ fuel j=>
  intro cs x h;obtain⟨xs,n,rfl,_,f,b,c⟩:=DataW.trod_struct Tryz.underlying30 h;have k:cs.length=7:=f.trans Un;obtain⟨A,l⟩:=kN (i:=0) b c rfl (u:=3) rfl (off:=0) rfl BX;obtain⟨a0,m⟩:=Cz Tryz.underlying3 l;obtain⟨B,o⟩:=kN (i:=1) b c rfl (u:=3) rfl (off:=1) rfl BX;obtain⟨a1,p⟩:=Cz Tryz.underlying3 o;obtain⟨C,q⟩:=kN (i:=2) b c rfl (u:=25) rfl (off:=2) rfl FT;obtain⟨a2,g⟩:=LF _ _ _ q;rw[Ty.gW] at g;obtain⟨y3,r⟩:=kN (i:=3) b c rfl (u:=26) rfl (off:=4) rfl J3;obtain⟨a3,s⟩:=qV Tm.av 5 Tryz.underlying26 LL VW Xa W_ r (λf2 d e _=>Uw f2 d e);obtain⟨y4,t⟩:=kN (i:=4) b c rfl (u:=27) rfl (off:=5) rfl JX;obtain⟨a4,v⟩:=qV Fm.av 5 Tryz.underlying27 LJ VW VJ Uh t (λf2 d e _=>Po f2 d e);obtain⟨D,w⟩:=kN (i:=5) b c rfl (u:=28) rfl (off:=6) rfl U4;obtain⟨a5,y⟩:=qV Pf.av 7 Tryz.underlying28 Un VW aem ZJ w (λf2 d e z=>j f2 VW d e);refine⟨.mk a0 a1 a2 a3 a4 a5,?_⟩;rw[Pf.gW];exact lN (off:=0) (n:=1) (off':=1) rfl m (lN (off:=1) (n:=1) (off':=2) rfl p (lN (off:=2) (n:=2) (off':=4) rfl g (lN (off:=4) (n:=1) (off':=5) rfl s (lN (off:=5) (n:=1) (off':=6) rfl v (lN (off:=6) (n:=1) (off':=7) rfl y (Fx (VK k)))))))
def ado(a:Sq):∀y∈a.av.cells,y.gw=true:=by
 intro y hy;rw[Sq.gW] at hy;simp only[iL,pt,mQ] at hy;rcases hy with rfl|rfl<;>rfl
def Y5:∀(fuel:Nat) (cs:List Value) (x:DataW H×List MemPlace),DataW.trod enc Tryz.prog W 0 (λ_=>true) true fuel 32 cs=some x->∃a:Sq,FD W a.av.cells cs:=by
 intro fuel
 induction fuel using Nat.strongRecOn with
 |_ fuel o=>
  intro cs x h;obtain⟨xs,n,rfl,_,c,b,f⟩:=DataW.trod_struct Tryz.underlying32 h;have g:cs.length=2:=c.trans X6;obtain⟨p,j⟩:=kN (i:=0) b f rfl (u:=23) rfl (off:=0) rfl OI;obtain⟨a0,k⟩:=qV Ty.av 2 Tryz.underlying23 FT VW Z' Zk j (λf2 d e _=>LF f2 d e);obtain⟨q,l⟩:=kN (i:=1) b f rfl (u:=27) rfl (off:=1) rfl JX;obtain⟨a1,m⟩:=qV Fm.av 5 Tryz.underlying27 LJ VW VJ Uh l (λf2 d e _=>Po f2 d e);refine⟨.mk a0 a1,?_⟩;rw[Sq.gW];exact lN (off:=0) (n:=1) (off':=1) rfl k (lN (off:=1) (n:=1) (off':=2) rfl m (Fx (VK g)))
end
end Go.Proofs.YtijednbpbbddbaaGreatDoor
