/- Part of the proof of KernelAccepts, KernelDoes: graph nodes. -/
import Derived.Test.YtobcafblgapgfaaGreatDoorM1
set_option linter.all false
namespace Go.fB
open Go
section
variable{α σ ρ:Type}
def w5{F:Int->α->σ->Option (eL σ ρ)}(I:σ->Prop)(Q:ρ->Prop):∀(l:List α) (i:Nat) (s:σ) (o:σ⊕ρ),I s->(∀(j:Int) (x:α) (s:σ) (c:eL σ ρ),I s->F j x s=some c->match c with|.next a=>I a|.AI a=>I a|.ret r=>Q r)->dN F l i s=some o->match o with|.inl a=>I a|.inr r=>Q r
 |[],i,s,o,hs,_,h=>by
  obtain rfl:=gh h;exact hs
 |x::l,i,s,o,hs,hF,h=>by
  rw[dJ] at h;obtain⟨c,h1,b⟩:=dm h;have:=hF _ _ _ _ hs h1;cases c with
  |next a=>exact w5 I Q l (i+1) a o this hF b|AI a=>obtain rfl:=gh b;exact this
  |ret r=>obtain rfl:=gh b;exact this
end
def B_{nh:List HC}{y:dr}:HC.cY (nh++[HC.dt y]) (List.length nh)=some y:=by simp[HC.cY]
def wR{nh:List HC}{x y:HC}:jt (nh++[x]) (List.length nh) y=nh++[y]:=by simp[jt]
def CA{a0 a1:Int}{a2:Ty}{a3:List (Option Nat)}{nh b:List HC}{r:Option Nat}(h:jf a0 a1 a2 a3 nh=some (r,b)):∃y,r=some nh.length/\b=nh++[HC.dt y]:=by
 unfold jf at h;obtain⟨_,h⟩:=lK h;obtain⟨F,hF,h⟩:=jw h;obtain⟨out,d,h⟩:=dm h
 have:=w5 (I:=λv=>∃y,v=nh++[HC.dt y]) (Q:=λ_=>False) a3 0 _ out ⟨_,rfl⟩ (by
  rintro j x s c ⟨y,rfl⟩ a;rw[hF] at a;dsimp only at a;obtain⟨f,h1,a⟩:=dm a;obtain⟨q,g,a⟩:=dm a;obtain⟨i,k,a⟩:=dm a;obtain⟨y3,l,a⟩:=dm a;obtain rfl:=gh a;simp only[wR]
  exact⟨_,rfl⟩) d
 cases out with
 |inr r=>exact this.elim|inl v=>
  obtain⟨y,rfl⟩:=this;rw[cU] at h;obtain⟨j,e,h⟩:=jw h;subst e;simp only[B_,cH,wR] at h
  split at h
  ·obtain⟨rfl,rfl⟩:=iE (gh h);exact⟨_,rfl,rfl⟩
  ·split at h<;>(obtain⟨rfl,rfl⟩:=iE (gh h);exact⟨_,rfl,rfl⟩)
def Kp(nh a:List HC):Prop:=∃X,a=nh++X
def Kp.refl(nh:List HC):Kp nh nh:=⟨[],aa4⟩
def Kp.trans{a b c:List HC}(h1:Kp a b)(d:Kp b c):Kp a c:=by
 obtain⟨X,rfl⟩:=h1;obtain⟨Y,rfl⟩:=d;exact⟨X++Y,aa4⟩
def Kp.build{a0 a1:Int}{a2:Ty}{a3:List (Option Nat)}{nh a:List HC}{r:Option Nat}(h:jf a0 a1 a2 a3 nh=some (r,a)):Kp nh a:=by
 obtain⟨y,_,rfl⟩:=CA h;exact⟨_,rfl⟩
def Kp.Q0{a0:Option Nat}{a3:List (Option Nat)}{nh a:List HC}{r:Option Nat}(h:fv a0 a3 nh=some (r,a)):Kp nh a:=by
 unfold fv at h;obtain⟨_,_,h⟩:=dm h;obtain⟨_,_,h⟩:=dm h;obtain⟨_,_,h1,h⟩:=gz h;obtain⟨rfl,rfl⟩:=iE (gh h);exact Kp.build h1
def Kp.lift:∀(n:Nat) {a0:Option Nat} {a1 a2:Int} {nh a:List HC} {r:Option Nat},iy n a0 a1 a2 nh=some (r,a)->Kp nh a
 |0,_,_,_,_,_,_,h=>by cases h
 |n+1,a0,a1,a2,nh,a,r,h=>by
  rw[iy] at h;obtain⟨j,e,h⟩:=jw h
  have key:∀b,j b=some (r,a)->Kp nh a:=by
   intro b h;rw[e] at h;dsimp only at h;rcases hZ h with⟨_,h⟩|⟨_,h⟩
   ·obtain⟨rfl,rfl⟩:=iE (gh h);exact Kp.refl _
   ·obtain⟨_,_,h⟩:=dm h;obtain⟨x,_,h⟩:=dm h;rcases hZ h with⟨_,h⟩|⟨_,h⟩
    ·obtain⟨_,_,h1,h⟩:=gz h;obtain⟨rfl,rfl⟩:=iE (gh h);exact Kp.build h1
    ·obtain⟨_,h⟩:=lK h;obtain⟨F,hF,h⟩:=jw h;obtain⟨out,f,h⟩:=dm h
     have:=w5 (I:=λv=>Kp nh v.2) (Q:=λ_=>False) x.acT 0 _ out (Kp.refl _) (by
      rintro j x ⟨s1,s2⟩ c hs d;rw[hF] at d;dsimp only[qw] at d;obtain⟨_,_,d⟩:=dm d;obtain⟨_,_,h1,d⟩:=gz d;obtain⟨_,d⟩:=lK d;obtain rfl:=gh d
      exact hs.trans (Kp.lift n h1)) f
     cases out with
     |inr r=>exact this.elim|inl v=>
      rw[cU] at h;dsimp only[qw] at h;obtain⟨_,_,h1,h⟩:=gz h;obtain⟨rfl,rfl⟩:=iE (gh h);exact this.trans (Kp.Q0 h1)
  obtain⟨_,_,h⟩:=dm h;obtain⟨_,_,h⟩:=dm h;rcases hZ h with⟨_,h⟩|⟨_,h⟩<;>exact key _ h
def Kp.put:∀(n:Nat) {a0:Option Nat} {a1:Int} {a2:Option Nat} {nh b:List HC} {r:Option Nat},iR n a0 a1 a2 nh=some (r,b)->Kp nh b
 |0,_,_,_,_,_,_,h=>by cases h
 |n+1,a0,a1,a2,nh,b,r,h=>by
  rw[iR] at h;obtain⟨_,_,h⟩:=dm h;obtain⟨x,_,h⟩:=dm h;rcases hZ h with⟨_,h⟩|⟨_,h⟩
  ·obtain⟨rfl,rfl⟩:=iE (gh h);exact Kp.refl _
  ·rcases hZ h with⟨_,h⟩|⟨_,h⟩
   ·rcases hZ h with⟨_,h⟩|⟨_,h⟩
    ·obtain⟨_,_,h1,h⟩:=gz h;obtain⟨rfl,rfl⟩:=iE (gh h);exact Kp.lift _ h1
    ·obtain⟨_,_,h1,h⟩:=gz h;obtain⟨rfl,rfl⟩:=iE (gh h);exact Kp.build h1
   ·obtain⟨_,h⟩:=lK h;obtain⟨F,hF,h⟩:=jw h;obtain⟨out,d,h⟩:=dm h
    have:=w5 (I:=λv=>Kp nh v.2) (Q:=λ_=>False) x.acT 0 _ out (Kp.refl _) (by
     rintro j x ⟨s1,s2⟩ c hs a;rw[hF] at a;dsimp only[qw] at a;obtain⟨_,_,a⟩:=dm a;obtain⟨_,_,h1,a⟩:=gz a;obtain⟨_,a⟩:=lK a;obtain rfl:=gh a
     exact hs.trans (Kp.put n h1)) d
    cases out with
    |inr r=>exact this.elim|inl v=>
     rw[cU] at h;dsimp only[qw] at h;obtain⟨_,_,h1,h⟩:=gz h;obtain⟨rfl,rfl⟩:=iE (gh h);exact this.trans (Kp.Q0 h1)
def Kp.app{a0:Option Nat}{a1:List (Option Nat)}{nh a:List HC}{r:Option Nat}(h:rv a0 a1 nh=some (r,a)):Kp nh a:=by
 unfold rv at h;obtain⟨_,h⟩:=lK h;obtain⟨F,hF,h⟩:=jw h;obtain⟨out,d,h⟩:=dm h
 have:=w5 (I:=λv=>Kp nh v.2) (Q:=λ_=>False) a1 0 _ out (Kp.refl _) (by
  rintro j x ⟨s1,s2⟩ c hs b;rw[hF] at b;dsimp only[qw] at b;obtain⟨_,_,h1,b⟩:=gz b;obtain rfl:=gh b
  exact hs.trans (Kp.build h1)) d
 cases out with
 |inr r=>exact this.elim|inl v=>
  rw[cU] at h;dsimp only[qw] at h;obtain⟨rfl,rfl⟩:=iE (gh h);exact this
def Kp.Sg{a0:Option Nat}{nh a:List HC}{r:Option Nat}(h:gV a0 nh=some (r,a)):Kp nh a:=by
 unfold gV at h;obtain⟨_,_,h⟩:=dm h;obtain⟨_,_,h⟩:=dm h;rcases hZ h with⟨_,h⟩|⟨_,h⟩
 ·obtain⟨_,_,h⟩:=dm h;obtain⟨_,_,h⟩:=dm h;obtain⟨_,_,h⟩:=dm h;obtain⟨_,_,h⟩:=dm h;obtain⟨_,_,h⟩:=dm h;obtain⟨_,_,h1,h⟩:=gz h;obtain⟨rfl,rfl⟩:=iE (gh h);exact Kp.put _ h1
 ·rcases hZ h with⟨_,h⟩|⟨_,h⟩
  ·obtain⟨_,_,h⟩:=dm h;obtain⟨_,_,h⟩:=dm h;obtain⟨_,_,h⟩:=dm h;obtain⟨_,_,h⟩:=dm h;obtain⟨rfl,rfl⟩:=iE (gh h);exact Kp.refl _
  ·rcases hZ h with⟨_,h⟩|⟨_,h⟩
   ·obtain⟨_,_,h⟩:=dm h;obtain⟨_,_,h⟩:=dm h;obtain⟨_,_,h⟩:=dm h;obtain⟨_,_,h⟩:=dm h;obtain⟨rfl,rfl⟩:=iE (gh h);exact Kp.refl _
   ·obtain⟨_,_,h⟩:=dm h;obtain⟨_,_,h⟩:=dm h;obtain⟨_,_,h⟩:=dm h;obtain⟨_,_,h⟩:=dm h;obtain⟨_,_,h⟩:=dm h;rcases hZ h with⟨_,h⟩|⟨_,h⟩
    ·obtain⟨rfl,rfl⟩:=iE (gh h);exact Kp.refl _
    ·obtain⟨_,_,h⟩:=dm h;obtain⟨_,_,h1,h⟩:=gz h;obtain⟨_,_,h⟩:=dm h;obtain⟨_,_,b,h⟩:=gz h;obtain⟨_,_,c,h⟩:=gz h;obtain⟨rfl,rfl⟩:=iE (gh h);exact((Kp.Q0 h1).trans (Kp.app b)).trans (Kp.app c)
def Ca{a0:Option Nat}{nh a:List HC}{r:Int}(h:lE a0 nh=some (r,a)):∃X,a=nh++X:=by
 unfold lE at h;obtain⟨_,_,h⟩:=dm h;obtain⟨_,_,h⟩:=dm h
 have fin:∀{x:Int} {m:List HC},some (x,m)=some (r,a)->Kp nh m->∃X,a=nh++X:=by
  intro x m e hm;obtain⟨rfl,rfl⟩:=iE (gh e);exact hm
 rcases hZ h with⟨_,h⟩|⟨_,h⟩
 ·iterate 10 obtain⟨_,_,h⟩:=dm h
  exact fin h (Kp.refl _)
 ·rcases hZ h with⟨_,h⟩|⟨_,h⟩
  ·iterate 3 obtain⟨_,_,h⟩:=dm h
   rcases hZ h with⟨_,h⟩|⟨_,h⟩
   ·iterate 9 obtain⟨_,_,h⟩:=dm h
    exact fin h (Kp.refl _)
   ·iterate 3 obtain⟨_,_,h⟩:=dm h
    exact fin h (Kp.refl _)
  ·rcases hZ h with⟨_,h⟩|⟨_,h⟩
   ·iterate 3 obtain⟨_,_,h⟩:=dm h
    rcases hZ h with⟨_,h⟩|⟨_,h⟩
    ·iterate 12 obtain⟨_,_,h⟩:=dm h
     exact fin h (Kp.refl _)
    ·iterate 3 obtain⟨_,_,h⟩:=dm h
     exact fin h (Kp.refl _)
   ·obtain⟨_,_,h1,h⟩:=gz h;obtain⟨_,_,h⟩:=dm h;obtain⟨_,_,h⟩:=dm h;exact fin h (Kp.Sg h1)
end Go.fB
