/- Part of the proof of KernelLifts, KernelPuts, KernelCuts: graph nodes. -/
import Derived.Test.YtobcafblgapgfaaGreatDoorM1
set_option linter.all false
namespace Go.eD
open Go
section
variable{α σ ρ:Type}
def Hk{F:Int->α->σ->Option (eK σ ρ)}(I:σ->Prop)(Q:ρ->Prop):∀(l:List α) (i:Nat) (s:σ) (o:σ⊕ρ),I s->(∀(j:Int) (x:α) (s:σ) (c:eK σ ρ),I s->F j x s=some c->match c with|.next a=>I a|.DN a=>I a|.ret r=>Q r)->eg F l i s=some o->match o with|.inl a=>I a|.inr r=>Q r
 |[],i,s,o,hs,_,h=>by
  obtain rfl:=hZ h;exact hs
 |x::l,i,s,o,hs,hF,h=>by
  rw[dq] at h;obtain⟨c,d,b⟩:=ez h;have:=hF _ _ _ _ hs d;cases c with
  |next a=>exact Hk I Q l (i+1) a o this hF b|DN a=>obtain rfl:=hZ b;exact this
  |ret r=>obtain rfl:=hZ b;exact this
end
def zK{nh:List HC}{y:dW}:HC.c_ (nh++[HC.dZ y]) (List.length nh)=some y:=by simp[HC.c_]
def vP{nh:List HC}{x y:HC}:kY (nh++[x]) (List.length nh) y=nh++[y]:=by simp[kY]
def Lz{a0 a1:Int}{a2:Ty}{a3:List (Option Nat)}{nh b:List HC}{r:Option Nat}(h:lU a0 a1 a2 a3 nh=some (r,b)):∃y,r=some nh.length/\b=nh++[HC.dZ y]:=by
 unfold lU at h;obtain⟨_,h⟩:=tZ h;obtain⟨F,hF,h⟩:=sR h;obtain⟨out,d,h⟩:=ez h
 have:=Hk (I:=λv=>∃y,v=nh++[HC.dZ y]) (Q:=λ_=>False) a3 0 _ out ⟨_,rfl⟩ (by
  rintro j x s c ⟨y,rfl⟩ a;rw[hF] at a;dsimp only at a;obtain⟨f,g,a⟩:=ez a;obtain⟨q,i,a⟩:=ez a;obtain⟨k,l,a⟩:=ez a;obtain⟨y3,m,a⟩:=ez a;obtain rfl:=hZ a;simp only[vP]
  exact⟨_,rfl⟩) d
 cases out with
 |inr r=>exact this.elim|inl v=>
  obtain⟨y,rfl⟩:=this;rw[cR] at h;obtain⟨j,e,h⟩:=sR h;subst e;simp only[zK,cG,vP] at h
  split at h
  ·obtain⟨rfl,rfl⟩:=fa (hZ h);exact⟨_,rfl,rfl⟩
  ·split at h<;>(obtain⟨rfl,rfl⟩:=fa (hZ h);exact⟨_,rfl,rfl⟩)
def Kp(nh a:List HC):Prop:=∃X,a=nh++X
def Kp.refl(nh:List HC):Kp nh nh:=⟨[],aae⟩
def Kp.trans{a b c:List HC}(d:Kp a b)(e:Kp b c):Kp a c:=by
 obtain⟨X,rfl⟩:=d;obtain⟨Y,rfl⟩:=e;exact⟨X++Y,aae⟩
def Kp.build{a0 a1:Int}{a2:Ty}{a3:List (Option Nat)}{nh a:List HC}{r:Option Nat}(h:lU a0 a1 a2 a3 nh=some (r,a)):Kp nh a:=by
 obtain⟨y,_,rfl⟩:=Lz h;exact⟨_,rfl⟩
def Kp.WI{a0:Option Nat}{a3:List (Option Nat)}{nh a:List HC}{r:Option Nat}(h:fH a0 a3 nh=some (r,a)):Kp nh a:=by
 unfold fH at h;obtain⟨_,_,h⟩:=ez h;obtain⟨_,_,h⟩:=ez h;obtain⟨_,_,b,h⟩:=mq h;obtain⟨rfl,rfl⟩:=fa (hZ h);exact Kp.build b
def Kp.lift:∀(n:Nat) {a0:Option Nat} {a1 a2:Int} {nh a:List HC} {r:Option Nat},j7 n a0 a1 a2 nh=some (r,a)->Kp nh a
 |0,_,_,_,_,_,_,h=>by cases h
 |n+1,a0,a1,a2,nh,a,r,h=>by
  rw[j7] at h;obtain⟨j,f,h⟩:=sR h
  have key:∀b,j b=some (r,a)->Kp nh a:=by
   intro b h;rw[f] at h;dsimp only at h;rcases nx h with⟨_,h⟩|⟨_,h⟩
   ·obtain⟨rfl,rfl⟩:=fa (hZ h);exact Kp.refl _
   ·obtain⟨_,_,h⟩:=ez h;obtain⟨x,_,h⟩:=ez h;rcases nx h with⟨_,h⟩|⟨_,h⟩
    ·obtain⟨_,_,e,h⟩:=mq h;obtain⟨rfl,rfl⟩:=fa (hZ h);exact Kp.build e
    ·obtain⟨_,h⟩:=tZ h;obtain⟨F,hF,h⟩:=sR h;obtain⟨out,g,h⟩:=ez h
     have:=Hk (I:=λv=>Kp nh v.2) (Q:=λ_=>False) x.afp 0 _ out (Kp.refl _) (by
      rintro j x ⟨s1,s2⟩ c hs d;rw[hF] at d;dsimp only[qH] at d;obtain⟨_,_,d⟩:=ez d;obtain⟨_,_,e,d⟩:=mq d;obtain⟨_,d⟩:=tZ d;obtain rfl:=hZ d
      exact hs.trans (Kp.lift n e)) g
     cases out with
     |inr r=>exact this.elim|inl v=>
      rw[cR] at h;dsimp only[qH] at h;obtain⟨_,_,e,h⟩:=mq h;obtain⟨rfl,rfl⟩:=fa (hZ h);exact this.trans (Kp.WI e)
  obtain⟨_,_,h⟩:=ez h;obtain⟨_,_,h⟩:=ez h;rcases nx h with⟨_,h⟩|⟨_,h⟩<;>exact key _ h
theorem Kp.put:∀(n:Nat) {a0:Option Nat} {a1:Int} {a2:Option Nat} {nh b:List HC} {r:Option Nat},kM n a0 a1 a2 nh=some (r,b)->Kp nh b
 |0,_,_,_,_,_,_,h=>by cases h
 |n+1,a0,a1,a2,nh,b,r,h=>by
  rw[kM] at h;obtain⟨_,_,h⟩:=ez h;obtain⟨x,_,h⟩:=ez h;rcases nx h with⟨_,h⟩|⟨_,h⟩
  ·obtain⟨rfl,rfl⟩:=fa (hZ h);exact Kp.refl _
  ·rcases nx h with⟨_,h⟩|⟨_,h⟩
   ·rcases nx h with⟨_,h⟩|⟨_,h⟩
    ·obtain⟨_,_,d,h⟩:=mq h;obtain⟨rfl,rfl⟩:=fa (hZ h);exact Kp.lift _ d
    ·obtain⟨_,_,d,h⟩:=mq h;obtain⟨rfl,rfl⟩:=fa (hZ h);exact Kp.build d
   ·obtain⟨_,h⟩:=tZ h;obtain⟨F,hF,h⟩:=sR h;obtain⟨out,e,h⟩:=ez h
    have:=Hk (I:=λv=>Kp nh v.2) (Q:=λ_=>False) x.afp 0 _ out (Kp.refl _) (by
     rintro j x ⟨s1,s2⟩ c hs a;rw[hF] at a;dsimp only[qH] at a;obtain⟨_,_,a⟩:=ez a;obtain⟨_,_,d,a⟩:=mq a;obtain⟨_,a⟩:=tZ a;obtain rfl:=hZ a
     exact hs.trans (Kp.put n d)) e
    cases out with
    |inr r=>exact this.elim|inl v=>
     rw[cR] at h;dsimp only[qH] at h;obtain⟨_,_,d,h⟩:=mq h;obtain⟨rfl,rfl⟩:=fa (hZ h);exact this.trans (Kp.WI d)
def Kp.app{a0:Option Nat}{a1:List (Option Nat)}{nh a:List HC}{r:Option Nat}(h:uq a0 a1 nh=some (r,a)):Kp nh a:=by
 unfold uq at h;obtain⟨_,h⟩:=tZ h;obtain⟨F,hF,h⟩:=sR h;obtain⟨out,d,h⟩:=ez h
 have:=Hk (I:=λv=>Kp nh v.2) (Q:=λ_=>False) a1 0 _ out (Kp.refl _) (by
  rintro j x ⟨s1,s2⟩ c hs b;rw[hF] at b;dsimp only[qH] at b;obtain⟨_,_,e,b⟩:=mq b;obtain rfl:=hZ b
  exact hs.trans (Kp.build e)) d
 cases out with
 |inr r=>exact this.elim|inl v=>
  rw[cR] at h;dsimp only[qH] at h;obtain⟨rfl,rfl⟩:=fa (hZ h);exact this
def Kp.Xx{a0:Option Nat}{nh a:List HC}{r:Option Nat}(h:j6 a0 nh=some (r,a)):Kp nh a:=by
 unfold j6 at h;obtain⟨_,_,h⟩:=ez h;obtain⟨_,_,h⟩:=ez h;rcases nx h with⟨_,h⟩|⟨_,h⟩
 ·obtain⟨_,_,h⟩:=ez h;obtain⟨_,_,h⟩:=ez h;obtain⟨_,_,h⟩:=ez h;obtain⟨_,_,h⟩:=ez h;obtain⟨_,_,h⟩:=ez h;obtain⟨_,_,b,h⟩:=mq h;obtain⟨rfl,rfl⟩:=fa (hZ h);exact Kp.put _ b
 ·rcases nx h with⟨_,h⟩|⟨_,h⟩
  ·obtain⟨_,_,h⟩:=ez h;obtain⟨_,_,h⟩:=ez h;obtain⟨_,_,h⟩:=ez h;obtain⟨_,_,h⟩:=ez h;obtain⟨rfl,rfl⟩:=fa (hZ h);exact Kp.refl _
  ·rcases nx h with⟨_,h⟩|⟨_,h⟩
   ·obtain⟨_,_,h⟩:=ez h;obtain⟨_,_,h⟩:=ez h;obtain⟨_,_,h⟩:=ez h;obtain⟨_,_,h⟩:=ez h;obtain⟨rfl,rfl⟩:=fa (hZ h);exact Kp.refl _
   ·obtain⟨_,_,h⟩:=ez h;obtain⟨_,_,h⟩:=ez h;obtain⟨_,_,h⟩:=ez h;obtain⟨_,_,h⟩:=ez h;obtain⟨_,_,h⟩:=ez h;rcases nx h with⟨_,h⟩|⟨_,h⟩
    ·obtain⟨rfl,rfl⟩:=fa (hZ h);exact Kp.refl _
    ·obtain⟨_,_,h⟩:=ez h;obtain⟨_,_,b,h⟩:=mq h;obtain⟨_,_,h⟩:=ez h;obtain⟨_,_,c,h⟩:=mq h;obtain⟨_,_,d,h⟩:=mq h;obtain⟨rfl,rfl⟩:=fa (hZ h);exact((Kp.WI b).trans (Kp.app c)).trans (Kp.app d)
def Lp{a0:Option Nat}{nh a:List HC}{r:Int}(h:pT a0 nh=some (r,a)):∃X,a=nh++X:=by
 unfold pT at h;obtain⟨_,_,h⟩:=ez h;obtain⟨_,_,h⟩:=ez h
 have fin:∀{x:Int} {m:List HC},some (x,m)=some (r,a)->Kp nh m->∃X,a=nh++X:=by
  intro x m e hm;obtain⟨rfl,rfl⟩:=fa (hZ e);exact hm
 rcases nx h with⟨_,h⟩|⟨_,h⟩
 ·iterate 10 obtain⟨_,_,h⟩:=ez h
  exact fin h (Kp.refl _)
 ·rcases nx h with⟨_,h⟩|⟨_,h⟩
  ·iterate 3 obtain⟨_,_,h⟩:=ez h
   rcases nx h with⟨_,h⟩|⟨_,h⟩
   ·iterate 9 obtain⟨_,_,h⟩:=ez h
    exact fin h (Kp.refl _)
   ·iterate 3 obtain⟨_,_,h⟩:=ez h
    exact fin h (Kp.refl _)
  ·rcases nx h with⟨_,h⟩|⟨_,h⟩
   ·iterate 3 obtain⟨_,_,h⟩:=ez h
    rcases nx h with⟨_,h⟩|⟨_,h⟩
    ·iterate 12 obtain⟨_,_,h⟩:=ez h
     exact fin h (Kp.refl _)
    ·iterate 3 obtain⟨_,_,h⟩:=ez h
     exact fin h (Kp.refl _)
   ·obtain⟨_,_,b,h⟩:=mq h;obtain⟨_,_,h⟩:=ez h;obtain⟨_,_,h⟩:=ez h;exact fin h (Kp.Xx b)
end Go.eD
