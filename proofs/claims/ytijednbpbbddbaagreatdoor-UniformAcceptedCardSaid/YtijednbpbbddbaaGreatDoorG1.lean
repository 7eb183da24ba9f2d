/- Part of the proof of UniformExact, UniformAccepted: graph nodes. -/
import Derived.Test.YtijednbpbbddbaaGreatDoorM1
set_option linter.all false
namespace Go.ek
open Go
section
variable{α σ ρ:Type}
def Ct{F:Int->α->σ->Option (eu σ ρ)}(I:σ->Prop)(Q:ρ->Prop):∀(l:List α) (i:Nat) (s:σ) (o:σ⊕ρ),I s->(∀(j:Int) (x:α) (s:σ) (c:eu σ ρ),I s->F j x s=some c->match c with|.next a=>I a|.vN a=>I a|.ret r=>Q r)->dP F l i s=some o->match o with|.inl a=>I a|.inr r=>Q r
 |[],i,s,o,hs,_,h=>by
  obtain rfl:=gB h;exact hs
 |x::l,i,s,o,hs,hF,h=>by
  rw[dq] at h;obtain⟨c,d,b⟩:=dJ h;have:=hF _ _ _ _ hs d;cases c with
  |next a=>exact Ct I Q l (i+1) a o this hF b|vN a=>obtain rfl:=gB b;exact this
  |ret r=>obtain rfl:=gB b;exact this
end
def z6{nh:List HC}{y:dG}:HC.c8 (nh++[HC.dH y]) (List.length nh)=some y:=by simp[HC.c8]
def we{nh:List HC}{x y:HC}:ki (nh++[x]) (List.length nh) y=nh++[y]:=by simp[ki]
def I9{a0 a1:Int}{a2:Ty}{a3:List (Option Nat)}{nh b:List HC}{r:Option Nat}(h:kK a0 a1 a2 a3 nh=some (r,b)):∃y,r=some nh.length/\b=nh++[HC.dH y]:=by
 unfold kK at h;obtain⟨_,h⟩:=oR h;obtain⟨F,hF,h⟩:=lK h;obtain⟨out,d,h⟩:=dJ h
 have:=Ct (I:=λv=>∃y,v=nh++[HC.dH y]) (Q:=λ_=>False) a3 0 _ out ⟨_,rfl⟩ (by
  rintro j x s c ⟨y,rfl⟩ a;rw[hF] at a;dsimp only at a;obtain⟨f,g,a⟩:=dJ a;obtain⟨q,i,a⟩:=dJ a;obtain⟨k,l,a⟩:=dJ a;obtain⟨y3,m,a⟩:=dJ a;obtain rfl:=gB a;simp only[we]
  exact⟨_,rfl⟩) d
 cases out with
 |inr r=>exact this.elim|inl v=>
  obtain⟨y,rfl⟩:=this;rw[cS] at h;obtain⟨j,e,h⟩:=lK h;subst e;simp only[z6,cv,we] at h
  split at h
  ·obtain⟨rfl,rfl⟩:=gE (gB h);exact⟨_,rfl,rfl⟩
  ·split at h<;>(obtain⟨rfl,rfl⟩:=gE (gB h);exact⟨_,rfl,rfl⟩)
def Kp(nh a:List HC):Prop:=∃X,a=nh++X
def Kp.refl(nh:List HC):Kp nh nh:=⟨[],aaB⟩
def Kp.trans{a b c:List HC}(d:Kp a b)(e:Kp b c):Kp a c:=by
 obtain⟨X,rfl⟩:=d;obtain⟨Y,rfl⟩:=e;exact⟨X++Y,aaB⟩
def Kp.build{a0 a1:Int}{a2:Ty}{a3:List (Option Nat)}{nh a:List HC}{r:Option Nat}(h:kK a0 a1 a2 a3 nh=some (r,a)):Kp nh a:=by
 obtain⟨y,_,rfl⟩:=I9 h;exact⟨_,rfl⟩
def Kp.WM{a0:Option Nat}{a3:List (Option Nat)}{nh a:List HC}{r:Option Nat}(h:ft a0 a3 nh=some (r,a)):Kp nh a:=by
 unfold ft at h;obtain⟨_,_,h⟩:=dJ h;obtain⟨_,_,h⟩:=dJ h;obtain⟨_,_,b,h⟩:=j9 h;obtain⟨rfl,rfl⟩:=gE (gB h);exact Kp.build b
def Kp.lift:∀(n:Nat) {a0:Option Nat} {a1 a2:Int} {nh a:List HC} {r:Option Nat},js n a0 a1 a2 nh=some (r,a)->Kp nh a
 |0,_,_,_,_,_,_,h=>by cases h
 |n+1,a0,a1,a2,nh,a,r,h=>by
  rw[js] at h;obtain⟨j,f,h⟩:=lK h
  have key:∀b,j b=some (r,a)->Kp nh a:=by
   intro b h;rw[f] at h;dsimp only at h;rcases kU h with⟨_,h⟩|⟨_,h⟩
   ·obtain⟨rfl,rfl⟩:=gE (gB h);exact Kp.refl _
   ·obtain⟨_,_,h⟩:=dJ h;obtain⟨x,_,h⟩:=dJ h;rcases kU h with⟨_,h⟩|⟨_,h⟩
    ·obtain⟨_,_,e,h⟩:=j9 h;obtain⟨rfl,rfl⟩:=gE (gB h);exact Kp.build e
    ·obtain⟨_,h⟩:=oR h;obtain⟨F,hF,h⟩:=lK h;obtain⟨out,g,h⟩:=dJ h
     have:=Ct (I:=λv=>Kp nh v.2) (Q:=λ_=>False) x.agk 0 _ out (Kp.refl _) (by
      rintro j x ⟨s1,s2⟩ c hs d;rw[hF] at d;dsimp only[nk] at d;obtain⟨_,_,d⟩:=dJ d;obtain⟨_,_,e,d⟩:=j9 d;obtain⟨_,d⟩:=oR d;obtain rfl:=gB d
      exact hs.trans (Kp.lift n e)) g
     cases out with
     |inr r=>exact this.elim|inl v=>
      rw[cS] at h;dsimp only[nk] at h;obtain⟨_,_,e,h⟩:=j9 h;obtain⟨rfl,rfl⟩:=gE (gB h);exact this.trans (Kp.WM e)
  obtain⟨_,_,h⟩:=dJ h;obtain⟨_,_,h⟩:=dJ h;rcases kU h with⟨_,h⟩|⟨_,h⟩<;>exact key _ h
def Kp.put:∀(n:Nat) {a0:Option Nat} {a1:Int} {a2:Option Nat} {nh b:List HC} {r:Option Nat},jX n a0 a1 a2 nh=some (r,b)->Kp nh b
 |0,_,_,_,_,_,_,h=>by cases h
 |n+1,a0,a1,a2,nh,b,r,h=>by
  rw[jX] at h;obtain⟨_,_,h⟩:=dJ h;obtain⟨x,_,h⟩:=dJ h;rcases kU h with⟨_,h⟩|⟨_,h⟩
  ·obtain⟨rfl,rfl⟩:=gE (gB h);exact Kp.refl _
  ·rcases kU h with⟨_,h⟩|⟨_,h⟩
   ·rcases kU h with⟨_,h⟩|⟨_,h⟩
    ·obtain⟨_,_,d,h⟩:=j9 h;obtain⟨rfl,rfl⟩:=gE (gB h);exact Kp.lift _ d
    ·obtain⟨_,_,d,h⟩:=j9 h;obtain⟨rfl,rfl⟩:=gE (gB h);exact Kp.build d
   ·obtain⟨_,h⟩:=oR h;obtain⟨F,hF,h⟩:=lK h;obtain⟨out,e,h⟩:=dJ h
    have:=Ct (I:=λv=>Kp nh v.2) (Q:=λ_=>False) x.agk 0 _ out (Kp.refl _) (by
     rintro j x ⟨s1,s2⟩ c hs a;rw[hF] at a;dsimp only[nk] at a;obtain⟨_,_,a⟩:=dJ a;obtain⟨_,_,d,a⟩:=j9 a;obtain⟨_,a⟩:=oR a;obtain rfl:=gB a
     exact hs.trans (Kp.put n d)) e
    cases out with
    |inr r=>exact this.elim|inl v=>
     rw[cS] at h;dsimp only[nk] at h;obtain⟨_,_,d,h⟩:=j9 h;obtain⟨rfl,rfl⟩:=gE (gB h);exact this.trans (Kp.WM d)
def Kp.app{a0:Option Nat}{a1:List (Option Nat)}{nh a:List HC}{r:Option Nat}(h:sR a0 a1 nh=some (r,a)):Kp nh a:=by
 unfold sR at h;obtain⟨_,h⟩:=oR h;obtain⟨F,hF,h⟩:=lK h;obtain⟨out,d,h⟩:=dJ h
 have:=Ct (I:=λv=>Kp nh v.2) (Q:=λ_=>False) a1 0 _ out (Kp.refl _) (by
  rintro j x ⟨s1,s2⟩ c hs b;rw[hF] at b;dsimp only[nk] at b;obtain⟨_,_,e,b⟩:=j9 b;obtain rfl:=gB b
  exact hs.trans (Kp.build e)) d
 cases out with
 |inr r=>exact this.elim|inl v=>
  rw[cS] at h;dsimp only[nk] at h;obtain⟨rfl,rfl⟩:=gE (gB h);exact this
def Kp.Wo{a0:Option Nat}{nh a:List HC}{r:Option Nat}(h:jk a0 nh=some (r,a)):Kp nh a:=by
 unfold jk at h;obtain⟨_,_,h⟩:=dJ h;obtain⟨_,_,h⟩:=dJ h;rcases kU h with⟨_,h⟩|⟨_,h⟩
 ·obtain⟨_,_,h⟩:=dJ h;obtain⟨_,_,h⟩:=dJ h;obtain⟨_,_,h⟩:=dJ h;obtain⟨_,_,h⟩:=dJ h;obtain⟨_,_,h⟩:=dJ h;obtain⟨_,_,b,h⟩:=j9 h;obtain⟨rfl,rfl⟩:=gE (gB h);exact Kp.put _ b
 ·rcases kU h with⟨_,h⟩|⟨_,h⟩
  ·obtain⟨_,_,h⟩:=dJ h;obtain⟨_,_,h⟩:=dJ h;obtain⟨_,_,h⟩:=dJ h;obtain⟨_,_,h⟩:=dJ h;obtain⟨rfl,rfl⟩:=gE (gB h);exact Kp.refl _
  ·rcases kU h with⟨_,h⟩|⟨_,h⟩
   ·obtain⟨_,_,h⟩:=dJ h;obtain⟨_,_,h⟩:=dJ h;obtain⟨_,_,h⟩:=dJ h;obtain⟨_,_,h⟩:=dJ h;obtain⟨rfl,rfl⟩:=gE (gB h);exact Kp.refl _
   ·obtain⟨_,_,h⟩:=dJ h;obtain⟨_,_,h⟩:=dJ h;obtain⟨_,_,h⟩:=dJ h;obtain⟨_,_,h⟩:=dJ h;obtain⟨_,_,h⟩:=dJ h;rcases kU h with⟨_,h⟩|⟨_,h⟩
    ·obtain⟨rfl,rfl⟩:=gE (gB h);exact Kp.refl _
    ·obtain⟨_,_,h⟩:=dJ h;obtain⟨_,_,b,h⟩:=j9 h;obtain⟨_,_,h⟩:=dJ h;obtain⟨_,_,c,h⟩:=j9 h;obtain⟨_,_,d,h⟩:=j9 h;obtain⟨rfl,rfl⟩:=gE (gB h);exact((Kp.WM b).trans (Kp.app c)).trans (Kp.app d)
def IK{a0:Option Nat}{nh a:List HC}{r:Int}(h:nJ a0 nh=some (r,a)):∃X,a=nh++X:=by
 unfold nJ at h;obtain⟨_,_,h⟩:=dJ h;obtain⟨_,_,h⟩:=dJ h
 have fin:∀{x:Int} {m:List HC},some (x,m)=some (r,a)->Kp nh m->∃X,a=nh++X:=by
  intro x m e hm;obtain⟨rfl,rfl⟩:=gE (gB e);exact hm
 rcases kU h with⟨_,h⟩|⟨_,h⟩
 ·iterate 10 obtain⟨_,_,h⟩:=dJ h
  exact fin h (Kp.refl _)
 ·rcases kU h with⟨_,h⟩|⟨_,h⟩
  ·iterate 3 obtain⟨_,_,h⟩:=dJ h
   rcases kU h with⟨_,h⟩|⟨_,h⟩
   ·iterate 9 obtain⟨_,_,h⟩:=dJ h
    exact fin h (Kp.refl _)
   ·iterate 3 obtain⟨_,_,h⟩:=dJ h
    exact fin h (Kp.refl _)
  ·rcases kU h with⟨_,h⟩|⟨_,h⟩
   ·iterate 3 obtain⟨_,_,h⟩:=dJ h
    rcases kU h with⟨_,h⟩|⟨_,h⟩
    ·iterate 12 obtain⟨_,_,h⟩:=dJ h
     exact fin h (Kp.refl _)
    ·iterate 3 obtain⟨_,_,h⟩:=dJ h
     exact fin h (Kp.refl _)
   ·obtain⟨_,_,b,h⟩:=j9 h;obtain⟨_,_,h⟩:=dJ h;obtain⟨_,_,h⟩:=dJ h;exact fin h (Kp.Wo b)
end Go.ek
