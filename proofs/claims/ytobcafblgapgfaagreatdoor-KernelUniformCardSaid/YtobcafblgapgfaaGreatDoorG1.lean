/- Part of the proof of KernelUniform: graph nodes. -/
import Derived.Test.YtobcafblgapgfaaGreatDoorM1
set_option linter.all false
namespace Go.hJ
open Go
section
variable{α σ ρ:Type}
def wY{F:Int->α->σ->Option (gu σ ρ)}(I:σ->Prop)(Q:ρ->Prop):∀(l:List α) (i:Nat) (s:σ) (o:σ⊕ρ),I s->(∀(j:Int) (x:α) (s:σ) (c:gu σ ρ),I s->F j x s=some c->match c with|.next a=>I a|.DQ a=>I a|.ret r=>Q r)->ft F l i s=some o->match o with|.inl a=>I a|.inr r=>Q r
 |[],i,s,o,hs,_,h=>by
  obtain rfl:=iw h;exact hs
 |x::l,i,s,o,hs,hF,h=>by
  rw[fm] at h;obtain⟨c,d,b⟩:=eO h;have:=hF _ _ _ _ hs d;cases c with
  |next a=>exact wY I Q l (i+1) a o this hF b|DQ a=>obtain rfl:=iw b;exact this
  |ret r=>obtain rfl:=iw b;exact this
end
def CJ{nh:List HC}{y:eR}:HC.er (nh++[HC.eS y]) (List.length nh)=some y:=by simp[HC.er]
def xj{nh:List HC}{x y:HC}:kx (nh++[x]) (List.length nh) y=nh++[y]:=by simp[kx]
def B7{a0 a1:Int}{a2:Ty}{a3:List (Option Nat)}{nh b:List HC}{r:Option Nat}(h:km a0 a1 a2 a3 nh=some (r,b)):∃y,r=some nh.length/\b=nh++[HC.eS y]:=by
 unfold km at h;obtain⟨_,h⟩:=mV h;obtain⟨F,hF,h⟩:=l_ h;obtain⟨out,d,h⟩:=eO h
 have:=wY (I:=λv=>∃y,v=nh++[HC.eS y]) (Q:=λ_=>False) a3 0 _ out ⟨_,rfl⟩ (by
  rintro j x s c ⟨y,rfl⟩ a;rw[hF] at a;dsimp only at a;obtain⟨f,g,a⟩:=eO a;obtain⟨q,i,a⟩:=eO a;obtain⟨k,l,a⟩:=eO a;obtain⟨y3,m,a⟩:=eO a;obtain rfl:=iw a;simp only[xj]
  exact⟨_,rfl⟩) d
 cases out with
 |inr r=>exact this.elim|inl v=>
  obtain⟨y,rfl⟩:=this;rw[en] at h;obtain⟨j,e,h⟩:=l_ h;subst e;simp only[CJ,cl,xj] at h
  split at h
  ·obtain⟨rfl,rfl⟩:=jI (iw h);exact⟨_,rfl,rfl⟩
  ·split at h<;>(obtain⟨rfl,rfl⟩:=jI (iw h);exact⟨_,rfl,rfl⟩)
def Kp(nh a:List HC):Prop:=∃X,a=nh++X
def Kp.refl(nh:List HC):Kp nh nh:=⟨[],by simp⟩
def Kp.trans{a b c:List HC}(d:Kp a b)(e:Kp b c):Kp a c:=by
 obtain⟨X,rfl⟩:=d;obtain⟨Y,rfl⟩:=e;exact⟨X++Y,by simp⟩
def Kp.build{a0 a1:Int}{a2:Ty}{a3:List (Option Nat)}{nh a:List HC}{r:Option Nat}(h:km a0 a1 a2 a3 nh=some (r,a)):Kp nh a:=by
 obtain⟨y,_,rfl⟩:=B7 h;exact⟨_,rfl⟩
def Kp.Rl{a0:Option Nat}{a3:List (Option Nat)}{nh a:List HC}{r:Option Nat}(h:gW a0 a3 nh=some (r,a)):Kp nh a:=by
 unfold gW at h;obtain⟨_,_,h⟩:=eO h;obtain⟨_,_,h⟩:=eO h;obtain⟨_,_,b,h⟩:=jg h;obtain⟨rfl,rfl⟩:=jI (iw h);exact Kp.build b
def Kp.lift:∀(n:Nat) {a0:Option Nat} {a1 a2:Int} {nh a:List HC} {r:Option Nat},jD n a0 a1 a2 nh=some (r,a)->Kp nh a
 |0,_,_,_,_,_,_,h=>by cases h
 |n+1,a0,a1,a2,nh,a,r,h=>by
  rw[jD] at h;obtain⟨j,f,h⟩:=l_ h
  have key:∀b,j b=some (r,a)->Kp nh a:=by
   intro b h;rw[f] at h;dsimp only at h;rcases jm h with⟨_,h⟩|⟨_,h⟩
   ·obtain⟨rfl,rfl⟩:=jI (iw h);exact Kp.refl _
   ·obtain⟨_,_,h⟩:=eO h;obtain⟨x,_,h⟩:=eO h;rcases jm h with⟨_,h⟩|⟨_,h⟩
    ·obtain⟨_,_,e,h⟩:=jg h;obtain⟨rfl,rfl⟩:=jI (iw h);exact Kp.build e
    ·obtain⟨_,h⟩:=mV h;obtain⟨F,hF,h⟩:=l_ h;obtain⟨out,g,h⟩:=eO h
     have:=wY (I:=λv=>Kp nh v.2) (Q:=λ_=>False) x.abb 0 _ out (Kp.refl _) (by
      rintro j x ⟨s1,s2⟩ c hs d;rw[hF] at d;dsimp only[sD] at d;obtain⟨_,_,d⟩:=eO d;obtain⟨_,_,e,d⟩:=jg d;obtain⟨_,d⟩:=mV d;obtain rfl:=iw d
      exact hs.trans (Kp.lift n e)) g
     cases out with
     |inr r=>exact this.elim|inl v=>
      rw[en] at h;dsimp only[sD] at h;obtain⟨_,_,e,h⟩:=jg h;obtain⟨rfl,rfl⟩:=jI (iw h);exact this.trans (Kp.Rl e)
  obtain⟨_,_,h⟩:=eO h;obtain⟨_,_,h⟩:=eO h;rcases jm h with⟨_,h⟩|⟨_,h⟩<;>exact key _ h
def Kp.put:∀(n:Nat) {a0:Option Nat} {a1:Int} {a2:Option Nat} {nh b:List HC} {r:Option Nat},jW n a0 a1 a2 nh=some (r,b)->Kp nh b
 |0,_,_,_,_,_,_,h=>by cases h
 |n+1,a0,a1,a2,nh,b,r,h=>by
  rw[jW] at h;obtain⟨_,_,h⟩:=eO h;obtain⟨x,_,h⟩:=eO h;rcases jm h with⟨_,h⟩|⟨_,h⟩
  ·obtain⟨rfl,rfl⟩:=jI (iw h);exact Kp.refl _
  ·rcases jm h with⟨_,h⟩|⟨_,h⟩
   ·rcases jm h with⟨_,h⟩|⟨_,h⟩
    ·obtain⟨_,_,d,h⟩:=jg h;obtain⟨rfl,rfl⟩:=jI (iw h);exact Kp.lift _ d
    ·obtain⟨_,_,d,h⟩:=jg h;obtain⟨rfl,rfl⟩:=jI (iw h);exact Kp.build d
   ·obtain⟨_,h⟩:=mV h;obtain⟨F,hF,h⟩:=l_ h;obtain⟨out,e,h⟩:=eO h
    have:=wY (I:=λv=>Kp nh v.2) (Q:=λ_=>False) x.abb 0 _ out (Kp.refl _) (by
     rintro j x ⟨s1,s2⟩ c hs a;rw[hF] at a;dsimp only[sD] at a;obtain⟨_,_,a⟩:=eO a;obtain⟨_,_,d,a⟩:=jg a;obtain⟨_,a⟩:=mV a;obtain rfl:=iw a
     exact hs.trans (Kp.put n d)) e
    cases out with
    |inr r=>exact this.elim|inl v=>
     rw[en] at h;dsimp only[sD] at h;obtain⟨_,_,d,h⟩:=jg h;obtain⟨rfl,rfl⟩:=jI (iw h);exact this.trans (Kp.Rl d)
def Kp.app{a0:Option Nat}{a1:List (Option Nat)}{nh a:List HC}{r:Option Nat}(h:rG a0 a1 nh=some (r,a)):Kp nh a:=by
 unfold rG at h;obtain⟨_,h⟩:=mV h;obtain⟨F,hF,h⟩:=l_ h;obtain⟨out,d,h⟩:=eO h
 have:=wY (I:=λv=>Kp nh v.2) (Q:=λ_=>False) a1 0 _ out (Kp.refl _) (by
  rintro j x ⟨s1,s2⟩ c hs b;rw[hF] at b;dsimp only[sD] at b;obtain⟨_,_,e,b⟩:=jg b;obtain rfl:=iw b
  exact hs.trans (Kp.build e)) d
 cases out with
 |inr r=>exact this.elim|inl v=>
  rw[en] at h;dsimp only[sD] at h;obtain⟨rfl,rfl⟩:=jI (iw h);exact this
def Kp.Q5{a0:Option Nat}{nh a:List HC}{r:Option Nat}(h:i_ a0 nh=some (r,a)):Kp nh a:=by
 unfold i_ at h;obtain⟨_,_,h⟩:=eO h;obtain⟨_,_,h⟩:=eO h;rcases jm h with⟨_,h⟩|⟨_,h⟩
 ·obtain⟨_,_,h⟩:=eO h;obtain⟨_,_,h⟩:=eO h;obtain⟨_,_,h⟩:=eO h;obtain⟨_,_,h⟩:=eO h;obtain⟨_,_,h⟩:=eO h;obtain⟨_,_,b,h⟩:=jg h;obtain⟨rfl,rfl⟩:=jI (iw h);exact Kp.put _ b
 ·rcases jm h with⟨_,h⟩|⟨_,h⟩
  ·obtain⟨_,_,h⟩:=eO h;obtain⟨_,_,h⟩:=eO h;obtain⟨_,_,h⟩:=eO h;obtain⟨_,_,h⟩:=eO h;obtain⟨rfl,rfl⟩:=jI (iw h);exact Kp.refl _
  ·rcases jm h with⟨_,h⟩|⟨_,h⟩
   ·obtain⟨_,_,h⟩:=eO h;obtain⟨_,_,h⟩:=eO h;obtain⟨_,_,h⟩:=eO h;obtain⟨_,_,h⟩:=eO h;obtain⟨rfl,rfl⟩:=jI (iw h);exact Kp.refl _
   ·obtain⟨_,_,h⟩:=eO h;obtain⟨_,_,h⟩:=eO h;obtain⟨_,_,h⟩:=eO h;obtain⟨_,_,h⟩:=eO h;obtain⟨_,_,h⟩:=eO h;rcases jm h with⟨_,h⟩|⟨_,h⟩
    ·obtain⟨rfl,rfl⟩:=jI (iw h);exact Kp.refl _
    ·obtain⟨_,_,h⟩:=eO h;obtain⟨_,_,b,h⟩:=jg h;obtain⟨_,_,h⟩:=eO h;obtain⟨_,_,c,h⟩:=jg h;obtain⟨_,_,d,h⟩:=jg h;obtain⟨rfl,rfl⟩:=jI (iw h);exact((Kp.Rl b).trans (Kp.app c)).trans (Kp.app d)
def BI{a0:Option Nat}{nh a:List HC}{r:Int}(h:mN a0 nh=some (r,a)):∃X,a=nh++X:=by
 unfold mN at h;obtain⟨_,_,h⟩:=eO h;obtain⟨_,_,h⟩:=eO h
 have fin:∀{x:Int} {m:List HC},some (x,m)=some (r,a)->Kp nh m->∃X,a=nh++X:=by
  intro x m e hm;obtain⟨rfl,rfl⟩:=jI (iw e);exact hm
 rcases jm h with⟨_,h⟩|⟨_,h⟩
 ·iterate 10 obtain⟨_,_,h⟩:=eO h
  exact fin h (Kp.refl _)
 ·rcases jm h with⟨_,h⟩|⟨_,h⟩
  ·iterate 3 obtain⟨_,_,h⟩:=eO h
   rcases jm h with⟨_,h⟩|⟨_,h⟩
   ·iterate 9 obtain⟨_,_,h⟩:=eO h
    exact fin h (Kp.refl _)
   ·iterate 3 obtain⟨_,_,h⟩:=eO h
    exact fin h (Kp.refl _)
  ·rcases jm h with⟨_,h⟩|⟨_,h⟩
   ·iterate 3 obtain⟨_,_,h⟩:=eO h
    rcases jm h with⟨_,h⟩|⟨_,h⟩
    ·iterate 12 obtain⟨_,_,h⟩:=eO h
     exact fin h (Kp.refl _)
    ·iterate 3 obtain⟨_,_,h⟩:=eO h
     exact fin h (Kp.refl _)
   ·obtain⟨_,_,b,h⟩:=jg h;obtain⟨_,_,h⟩:=eO h;obtain⟨_,_,h⟩:=eO h;exact fin h (Kp.Q5 b)
end Go.hJ
