/- Part of the proof of KernelRefuses: graph nodes. -/
import Derived.Test.YtobcafblgapgfaaGreatDoorM1
set_option linter.all false
namespace Go.gV
open Go
section
variable{α σ ρ:Type}
def xH{F:Int->α->σ->Option (gw σ ρ)}(I:σ->Prop)(Q:ρ->Prop):∀(l:List α) (i:Nat) (s:σ) (o:σ⊕ρ),I s->(∀(j:Int) (x:α) (s:σ) (c:gw σ ρ),I s->F j x s=some c->match c with|.next a=>I a|.Ki a=>I a|.ret r=>Q r)->fo F l i s=some o->match o with|.inl a=>I a|.inr r=>Q r
 |[],i,s,o,hs,_,h=>by
  obtain rfl:=iD h;exact hs
 |x::l,i,s,o,hs,hF,h=>by
  rw[fl] at h;obtain⟨c,d,b⟩:=eO h;have:=hF _ _ _ _ hs d;cases c with
  |next a=>exact xH I Q l (i+1) a o this hF b|Ki a=>obtain rfl:=iD b;exact this
  |ret r=>obtain rfl:=iD b;exact this
end
def B7{nh:List HC}{y:eR}:HC.er (nh++[HC.eS y]) (List.length nh)=some y:=by simp[HC.er]
def xk{nh:List HC}{x y:HC}:kF (nh++[x]) (List.length nh) y=nh++[y]:=by simp[kF]
def Dk{a0 a1:Int}{a2:Ty}{a3:List (Option Nat)}{nh b:List HC}{r:Option Nat}(h:kI a0 a1 a2 a3 nh=some (r,b)):∃y,r=some nh.length/\b=nh++[HC.eS y]:=by
 unfold kI at h;obtain⟨_,h⟩:=m9 h;obtain⟨F,hF,h⟩:=mu h;obtain⟨out,d,h⟩:=eO h
 have:=xH (I:=λv=>∃y,v=nh++[HC.eS y]) (Q:=λ_=>False) a3 0 _ out ⟨_,rfl⟩ (by
  rintro j x s c ⟨y,rfl⟩ a;rw[hF] at a;dsimp only at a;obtain⟨f,g,a⟩:=eO a;obtain⟨q,i,a⟩:=eO a;obtain⟨k,l,a⟩:=eO a;obtain⟨y3,m,a⟩:=eO a;obtain rfl:=iD a;simp only[xk]
  exact⟨_,rfl⟩) d
 cases out with
 |inr r=>exact this.elim|inl v=>
  obtain⟨y,rfl⟩:=this;rw[en] at h;obtain⟨j,e,h⟩:=mu h;subst e;simp only[B7,cl,xk] at h
  split at h
  ·obtain⟨rfl,rfl⟩:=iq (iD h);exact⟨_,rfl,rfl⟩
  ·split at h<;>(obtain⟨rfl,rfl⟩:=iq (iD h);exact⟨_,rfl,rfl⟩)
def Kp(nh a:List HC):Prop:=∃X,a=nh++X
def Kp.refl(nh:List HC):Kp nh nh:=⟨[],by simp⟩
def Kp.trans{a b c:List HC}(d:Kp a b)(e:Kp b c):Kp a c:=by
 obtain⟨X,rfl⟩:=d;obtain⟨Y,rfl⟩:=e;exact⟨X++Y,by simp⟩
def Kp.build{a0 a1:Int}{a2:Ty}{a3:List (Option Nat)}{nh a:List HC}{r:Option Nat}(h:kI a0 a1 a2 a3 nh=some (r,a)):Kp nh a:=by
 obtain⟨y,_,rfl⟩:=Dk h;exact⟨_,rfl⟩
def Kp.RP{a0:Option Nat}{a3:List (Option Nat)}{nh a:List HC}{r:Option Nat}(h:gY a0 a3 nh=some (r,a)):Kp nh a:=by
 unfold gY at h;obtain⟨_,_,h⟩:=eO h;obtain⟨_,_,h⟩:=eO h;obtain⟨_,_,b,h⟩:=jl h;obtain⟨rfl,rfl⟩:=iq (iD h);exact Kp.build b
def Kp.lift:∀(n:Nat) {a0:Option Nat} {a1 a2:Int} {nh a:List HC} {r:Option Nat},jP n a0 a1 a2 nh=some (r,a)->Kp nh a
 |0,_,_,_,_,_,_,h=>by cases h
 |n+1,a0,a1,a2,nh,a,r,h=>by
  rw[jP] at h;obtain⟨j,f,h⟩:=mu h
  have key:∀b,j b=some (r,a)->Kp nh a:=by
   intro b h;rw[f] at h;dsimp only at h;rcases jr h with⟨_,h⟩|⟨_,h⟩
   ·obtain⟨rfl,rfl⟩:=iq (iD h);exact Kp.refl _
   ·obtain⟨_,_,h⟩:=eO h;obtain⟨x,_,h⟩:=eO h;rcases jr h with⟨_,h⟩|⟨_,h⟩
    ·obtain⟨_,_,e,h⟩:=jl h;obtain⟨rfl,rfl⟩:=iq (iD h);exact Kp.build e
    ·obtain⟨_,h⟩:=m9 h;obtain⟨F,hF,h⟩:=mu h;obtain⟨out,g,h⟩:=eO h
     have:=xH (I:=λv=>Kp nh v.2) (Q:=λ_=>False) x.acN 0 _ out (Kp.refl _) (by
      rintro j x ⟨s1,s2⟩ c hs d;rw[hF] at d;dsimp only[uD] at d;obtain⟨_,_,d⟩:=eO d;obtain⟨_,_,e,d⟩:=jl d;obtain⟨_,d⟩:=m9 d;obtain rfl:=iD d
      exact hs.trans (Kp.lift n e)) g
     cases out with
     |inr r=>exact this.elim|inl v=>
      rw[en] at h;dsimp only[uD] at h;obtain⟨_,_,e,h⟩:=jl h;obtain⟨rfl,rfl⟩:=iq (iD h);exact this.trans (Kp.RP e)
  obtain⟨_,_,h⟩:=eO h;obtain⟨_,_,h⟩:=eO h;rcases jr h with⟨_,h⟩|⟨_,h⟩<;>exact key _ h
theorem Kp.put:∀(n:Nat) {a0:Option Nat} {a1:Int} {a2:Option Nat} {nh b:List HC} {r:Option Nat},kb n a0 a1 a2 nh=some (r,b)->Kp nh b
 |0,_,_,_,_,_,_,h=>by cases h
 |n+1,a0,a1,a2,nh,b,r,h=>by
  rw[kb] at h;obtain⟨_,_,h⟩:=eO h;obtain⟨x,_,h⟩:=eO h;rcases jr h with⟨_,h⟩|⟨_,h⟩
  ·obtain⟨rfl,rfl⟩:=iq (iD h);exact Kp.refl _
  ·rcases jr h with⟨_,h⟩|⟨_,h⟩
   ·rcases jr h with⟨_,h⟩|⟨_,h⟩
    ·obtain⟨_,_,d,h⟩:=jl h;obtain⟨rfl,rfl⟩:=iq (iD h);exact Kp.lift _ d
    ·obtain⟨_,_,d,h⟩:=jl h;obtain⟨rfl,rfl⟩:=iq (iD h);exact Kp.build d
   ·obtain⟨_,h⟩:=m9 h;obtain⟨F,hF,h⟩:=mu h;obtain⟨out,e,h⟩:=eO h
    have:=xH (I:=λv=>Kp nh v.2) (Q:=λ_=>False) x.acN 0 _ out (Kp.refl _) (by
     rintro j x ⟨s1,s2⟩ c hs a;rw[hF] at a;dsimp only[uD] at a;obtain⟨_,_,a⟩:=eO a;obtain⟨_,_,d,a⟩:=jl a;obtain⟨_,a⟩:=m9 a;obtain rfl:=iD a
     exact hs.trans (Kp.put n d)) e
    cases out with
    |inr r=>exact this.elim|inl v=>
     rw[en] at h;dsimp only[uD] at h;obtain⟨_,_,d,h⟩:=jl h;obtain⟨rfl,rfl⟩:=iq (iD h);exact this.trans (Kp.RP d)
def Kp.app{a0:Option Nat}{a1:List (Option Nat)}{nh a:List HC}{r:Option Nat}(h:rU a0 a1 nh=some (r,a)):Kp nh a:=by
 unfold rU at h;obtain⟨_,h⟩:=m9 h;obtain⟨F,hF,h⟩:=mu h;obtain⟨out,d,h⟩:=eO h
 have:=xH (I:=λv=>Kp nh v.2) (Q:=λ_=>False) a1 0 _ out (Kp.refl _) (by
  rintro j x ⟨s1,s2⟩ c hs b;rw[hF] at b;dsimp only[uD] at b;obtain⟨_,_,e,b⟩:=jl b;obtain rfl:=iD b
  exact hs.trans (Kp.build e)) d
 cases out with
 |inr r=>exact this.elim|inl v=>
  rw[en] at h;dsimp only[uD] at h;obtain⟨rfl,rfl⟩:=iq (iD h);exact this
def Kp.Se{a0:Option Nat}{nh a:List HC}{r:Option Nat}(h:je a0 nh=some (r,a)):Kp nh a:=by
 unfold je at h;obtain⟨_,_,h⟩:=eO h;obtain⟨_,_,h⟩:=eO h;rcases jr h with⟨_,h⟩|⟨_,h⟩
 ·obtain⟨_,_,h⟩:=eO h;obtain⟨_,_,h⟩:=eO h;obtain⟨_,_,h⟩:=eO h;obtain⟨_,_,h⟩:=eO h;obtain⟨_,_,h⟩:=eO h;obtain⟨_,_,b,h⟩:=jl h;obtain⟨rfl,rfl⟩:=iq (iD h);exact Kp.put _ b
 ·rcases jr h with⟨_,h⟩|⟨_,h⟩
  ·obtain⟨_,_,h⟩:=eO h;obtain⟨_,_,h⟩:=eO h;obtain⟨_,_,h⟩:=eO h;obtain⟨_,_,h⟩:=eO h;obtain⟨rfl,rfl⟩:=iq (iD h);exact Kp.refl _
  ·rcases jr h with⟨_,h⟩|⟨_,h⟩
   ·obtain⟨_,_,h⟩:=eO h;obtain⟨_,_,h⟩:=eO h;obtain⟨_,_,h⟩:=eO h;obtain⟨_,_,h⟩:=eO h;obtain⟨rfl,rfl⟩:=iq (iD h);exact Kp.refl _
   ·obtain⟨_,_,h⟩:=eO h;obtain⟨_,_,h⟩:=eO h;obtain⟨_,_,h⟩:=eO h;obtain⟨_,_,h⟩:=eO h;obtain⟨_,_,h⟩:=eO h;rcases jr h with⟨_,h⟩|⟨_,h⟩
    ·obtain⟨rfl,rfl⟩:=iq (iD h);exact Kp.refl _
    ·obtain⟨_,_,h⟩:=eO h;obtain⟨_,_,b,h⟩:=jl h;obtain⟨_,_,h⟩:=eO h;obtain⟨_,_,c,h⟩:=jl h;obtain⟨_,_,d,h⟩:=jl h;obtain⟨rfl,rfl⟩:=iq (iD h);exact((Kp.RP b).trans (Kp.app c)).trans (Kp.app d)
def Co{a0:Option Nat}{nh a:List HC}{r:Int}(h:mU a0 nh=some (r,a)):∃X,a=nh++X:=by
 unfold mU at h;obtain⟨_,_,h⟩:=eO h;obtain⟨_,_,h⟩:=eO h
 have fin:∀{x:Int} {m:List HC},some (x,m)=some (r,a)->Kp nh m->∃X,a=nh++X:=by
  intro x m e hm;obtain⟨rfl,rfl⟩:=iq (iD e);exact hm
 rcases jr h with⟨_,h⟩|⟨_,h⟩
 ·iterate 10 obtain⟨_,_,h⟩:=eO h
  exact fin h (Kp.refl _)
 ·rcases jr h with⟨_,h⟩|⟨_,h⟩
  ·iterate 3 obtain⟨_,_,h⟩:=eO h
   rcases jr h with⟨_,h⟩|⟨_,h⟩
   ·iterate 9 obtain⟨_,_,h⟩:=eO h
    exact fin h (Kp.refl _)
   ·iterate 3 obtain⟨_,_,h⟩:=eO h
    exact fin h (Kp.refl _)
  ·rcases jr h with⟨_,h⟩|⟨_,h⟩
   ·iterate 3 obtain⟨_,_,h⟩:=eO h
    rcases jr h with⟨_,h⟩|⟨_,h⟩
    ·iterate 12 obtain⟨_,_,h⟩:=eO h
     exact fin h (Kp.refl _)
    ·iterate 3 obtain⟨_,_,h⟩:=eO h
     exact fin h (Kp.refl _)
   ·obtain⟨_,_,b,h⟩:=jl h;obtain⟨_,_,h⟩:=eO h;obtain⟨_,_,h⟩:=eO h;exact fin h (Kp.Se b)
end Go.gV
