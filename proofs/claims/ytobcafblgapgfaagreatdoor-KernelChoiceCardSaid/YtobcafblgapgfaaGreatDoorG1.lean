/- Part of the proof of KernelChoice: graph nodes. -/
import Derived.Test.YtobcafblgapgfaaGreatDoorM1
set_option linter.all false
namespace Go.fg
open Go
section
variable{α σ ρ:Type}
def uq{F:Int->α->σ->Option (eA σ ρ)}(I:σ->Prop)(Q:ρ->Prop):∀(l:List α) (i:Nat) (s:σ) (o:σ⊕ρ),I s->(∀(j:Int) (x:α) (s:σ) (c:eA σ ρ),I s->F j x s=some c->match c with|.next a=>I a|.zO a=>I a|.ret r=>Q r)->dH F l i s=some o->match o with|.inl a=>I a|.inr r=>Q r
 |[],i,s,o,hs,_,h=>by
  obtain rfl:=gk h;exact hs
 |x::l,i,s,o,hs,hF,h=>by
  rw[dC] at h;obtain⟨c,d,b⟩:=dj h;have:=hF _ _ _ _ hs d;cases c with
  |next a=>exact uq I Q l (i+1) a o this hF b|zO a=>obtain rfl:=gk b;exact this
  |ret r=>obtain rfl:=gk b;exact this
end
def zt{nh:List HC}{y:di}:HC.cM (nh++[HC.dn y]) (List.length nh)=some y:=by simp[HC.cM]
def uB{nh:List HC}{x y:HC}:iF (nh++[x]) (List.length nh) y=nh++[y]:=by simp[iF]
def zJ{a0 a1:Int}{a2:Ty}{a3:List (Option Nat)}{nh b:List HC}{r:Option Nat}(h:iD a0 a1 a2 a3 nh=some (r,b)):∃y,r=some nh.length/\b=nh++[HC.dn y]:=by
 unfold iD at h;obtain⟨_,h⟩:=nq h;obtain⟨F,hF,h⟩:=oL h;obtain⟨out,d,h⟩:=dj h
 have:=uq (I:=λv=>∃y,v=nh++[HC.dn y]) (Q:=λ_=>False) a3 0 _ out ⟨_,rfl⟩ (by
  rintro j x s c ⟨y,rfl⟩ a;rw[hF] at a;dsimp only at a;obtain⟨f,g,a⟩:=dj a;obtain⟨q,i,a⟩:=dj a;obtain⟨k,l,a⟩:=dj a;obtain⟨y3,m,a⟩:=dj a;obtain rfl:=gk a;simp only[uB]
  exact⟨_,rfl⟩) d
 cases out with
 |inr r=>exact this.elim|inl v=>
  obtain⟨y,rfl⟩:=this;rw[cQ] at h;obtain⟨j,e,h⟩:=oL h;subst e;simp only[zt,cz,uB] at h
  split at h
  ·obtain⟨rfl,rfl⟩:=gL (gk h);exact⟨_,rfl,rfl⟩
  ·split at h<;>(obtain⟨rfl,rfl⟩:=gL (gk h);exact⟨_,rfl,rfl⟩)
def Kp(nh a:List HC):Prop:=∃X,a=nh++X
def Kp.refl(nh:List HC):Kp nh nh:=⟨[],by simp⟩
def Kp.trans{a b c:List HC}(d:Kp a b)(e:Kp b c):Kp a c:=by
 obtain⟨X,rfl⟩:=d;obtain⟨Y,rfl⟩:=e;exact⟨X++Y,by simp⟩
def Kp.build{a0 a1:Int}{a2:Ty}{a3:List (Option Nat)}{nh a:List HC}{r:Option Nat}(h:iD a0 a1 a2 a3 nh=some (r,a)):Kp nh a:=by
 obtain⟨y,_,rfl⟩:=zJ h;exact⟨_,rfl⟩
def Kp.N9{a0:Option Nat}{a3:List (Option Nat)}{nh a:List HC}{r:Option Nat}(h:eT a0 a3 nh=some (r,a)):Kp nh a:=by
 unfold eT at h;obtain⟨_,_,h⟩:=dj h;obtain⟨_,_,h⟩:=dj h;obtain⟨_,_,b,h⟩:=gK h;obtain⟨rfl,rfl⟩:=gL (gk h);exact Kp.build b
def Kp.lift:∀(n:Nat) {a0:Option Nat} {a1 a2:Int} {nh a:List HC} {r:Option Nat},hH n a0 a1 a2 nh=some (r,a)->Kp nh a
 |0,_,_,_,_,_,_,h=>by cases h
 |n+1,a0,a1,a2,nh,a,r,h=>by
  rw[hH] at h;obtain⟨j,f,h⟩:=oL h
  have key:∀b,j b=some (r,a)->Kp nh a:=by
   intro b h;rw[f] at h;dsimp only at h;rcases ik h with⟨_,h⟩|⟨_,h⟩
   ·obtain⟨rfl,rfl⟩:=gL (gk h);exact Kp.refl _
   ·obtain⟨_,_,h⟩:=dj h;obtain⟨x,_,h⟩:=dj h;rcases ik h with⟨_,h⟩|⟨_,h⟩
    ·obtain⟨_,_,e,h⟩:=gK h;obtain⟨rfl,rfl⟩:=gL (gk h);exact Kp.build e
    ·obtain⟨_,h⟩:=nq h;obtain⟨F,hF,h⟩:=oL h;obtain⟨out,g,h⟩:=dj h
     have:=uq (I:=λv=>Kp nh v.2) (Q:=λ_=>False) x.abe 0 _ out (Kp.refl _) (by
      rintro j x ⟨s1,s2⟩ c hs d;rw[hF] at d;dsimp only[p0] at d;obtain⟨_,_,d⟩:=dj d;obtain⟨_,_,e,d⟩:=gK d;obtain⟨_,d⟩:=nq d;obtain rfl:=gk d
      exact hs.trans (Kp.lift n e)) g
     cases out with
     |inr r=>exact this.elim|inl v=>
      rw[cQ] at h;dsimp only[p0] at h;obtain⟨_,_,e,h⟩:=gK h;obtain⟨rfl,rfl⟩:=gL (gk h);exact this.trans (Kp.N9 e)
  obtain⟨_,_,h⟩:=dj h;obtain⟨_,_,h⟩:=dj h;rcases ik h with⟨_,h⟩|⟨_,h⟩<;>exact key _ h
def Kp.put:∀(n:Nat) {a0:Option Nat} {a1:Int} {a2:Option Nat} {nh b:List HC} {r:Option Nat},ij n a0 a1 a2 nh=some (r,b)->Kp nh b
 |0,_,_,_,_,_,_,h=>by cases h
 |n+1,a0,a1,a2,nh,b,r,h=>by
  rw[ij] at h;obtain⟨_,_,h⟩:=dj h;obtain⟨x,_,h⟩:=dj h;rcases ik h with⟨_,h⟩|⟨_,h⟩
  ·obtain⟨rfl,rfl⟩:=gL (gk h);exact Kp.refl _
  ·rcases ik h with⟨_,h⟩|⟨_,h⟩
   ·rcases ik h with⟨_,h⟩|⟨_,h⟩
    ·obtain⟨_,_,d,h⟩:=gK h;obtain⟨rfl,rfl⟩:=gL (gk h);exact Kp.lift _ d
    ·obtain⟨_,_,d,h⟩:=gK h;obtain⟨rfl,rfl⟩:=gL (gk h);exact Kp.build d
   ·obtain⟨_,h⟩:=nq h;obtain⟨F,hF,h⟩:=oL h;obtain⟨out,e,h⟩:=dj h
    have:=uq (I:=λv=>Kp nh v.2) (Q:=λ_=>False) x.abe 0 _ out (Kp.refl _) (by
     rintro j x ⟨s1,s2⟩ c hs a;rw[hF] at a;dsimp only[p0] at a;obtain⟨_,_,a⟩:=dj a;obtain⟨_,_,d,a⟩:=gK a;obtain⟨_,a⟩:=nq a;obtain rfl:=gk a
     exact hs.trans (Kp.put n d)) e
    cases out with
    |inr r=>exact this.elim|inl v=>
     rw[cQ] at h;dsimp only[p0] at h;obtain⟨_,_,d,h⟩:=gK h;obtain⟨rfl,rfl⟩:=gL (gk h);exact this.trans (Kp.N9 d)
def Kp.app{a0:Option Nat}{a1:List (Option Nat)}{nh a:List HC}{r:Option Nat}(h:o6 a0 a1 nh=some (r,a)):Kp nh a:=by
 unfold o6 at h;obtain⟨_,h⟩:=nq h;obtain⟨F,hF,h⟩:=oL h;obtain⟨out,d,h⟩:=dj h
 have:=uq (I:=λv=>Kp nh v.2) (Q:=λ_=>False) a1 0 _ out (Kp.refl _) (by
  rintro j x ⟨s1,s2⟩ c hs b;rw[hF] at b;dsimp only[p0] at b;obtain⟨_,_,e,b⟩:=gK b;obtain rfl:=gk b
  exact hs.trans (Kp.build e)) d
 cases out with
 |inr r=>exact this.elim|inl v=>
  rw[cQ] at h;dsimp only[p0] at h;obtain⟨rfl,rfl⟩:=gL (gk h);exact this
def Kp.O7{a0:Option Nat}{nh a:List HC}{r:Option Nat}(h:gE a0 nh=some (r,a)):Kp nh a:=by
 unfold gE at h;obtain⟨_,_,h⟩:=dj h;obtain⟨_,_,h⟩:=dj h;rcases ik h with⟨_,h⟩|⟨_,h⟩
 ·obtain⟨_,_,h⟩:=dj h;obtain⟨_,_,h⟩:=dj h;obtain⟨_,_,h⟩:=dj h;obtain⟨_,_,h⟩:=dj h;obtain⟨_,_,h⟩:=dj h;obtain⟨_,_,b,h⟩:=gK h;obtain⟨rfl,rfl⟩:=gL (gk h);exact Kp.put _ b
 ·rcases ik h with⟨_,h⟩|⟨_,h⟩
  ·obtain⟨_,_,h⟩:=dj h;obtain⟨_,_,h⟩:=dj h;obtain⟨_,_,h⟩:=dj h;obtain⟨_,_,h⟩:=dj h;obtain⟨rfl,rfl⟩:=gL (gk h);exact Kp.refl _
  ·rcases ik h with⟨_,h⟩|⟨_,h⟩
   ·obtain⟨_,_,h⟩:=dj h;obtain⟨_,_,h⟩:=dj h;obtain⟨_,_,h⟩:=dj h;obtain⟨_,_,h⟩:=dj h;obtain⟨rfl,rfl⟩:=gL (gk h);exact Kp.refl _
   ·obtain⟨_,_,h⟩:=dj h;obtain⟨_,_,h⟩:=dj h;obtain⟨_,_,h⟩:=dj h;obtain⟨_,_,h⟩:=dj h;obtain⟨_,_,h⟩:=dj h;rcases ik h with⟨_,h⟩|⟨_,h⟩
    ·obtain⟨rfl,rfl⟩:=gL (gk h);exact Kp.refl _
    ·obtain⟨_,_,h⟩:=dj h;obtain⟨_,_,b,h⟩:=gK h;obtain⟨_,_,h⟩:=dj h;obtain⟨_,_,c,h⟩:=gK h;obtain⟨_,_,d,h⟩:=gK h;obtain⟨rfl,rfl⟩:=gL (gk h);exact((Kp.N9 b).trans (Kp.app c)).trans (Kp.app d)
def yy{a0:Option Nat}{nh a:List HC}{r:Int}(h:ku a0 nh=some (r,a)):∃X,a=nh++X:=by
 unfold ku at h;obtain⟨_,_,h⟩:=dj h;obtain⟨_,_,h⟩:=dj h
 have fin:∀{x:Int} {m:List HC},some (x,m)=some (r,a)->Kp nh m->∃X,a=nh++X:=by
  intro x m e hm;obtain⟨rfl,rfl⟩:=gL (gk e);exact hm
 rcases ik h with⟨_,h⟩|⟨_,h⟩
 ·iterate 10 obtain⟨_,_,h⟩:=dj h
  exact fin h (Kp.refl _)
 ·rcases ik h with⟨_,h⟩|⟨_,h⟩
  ·iterate 3 obtain⟨_,_,h⟩:=dj h
   rcases ik h with⟨_,h⟩|⟨_,h⟩
   ·iterate 9 obtain⟨_,_,h⟩:=dj h
    exact fin h (Kp.refl _)
   ·iterate 3 obtain⟨_,_,h⟩:=dj h
    exact fin h (Kp.refl _)
  ·rcases ik h with⟨_,h⟩|⟨_,h⟩
   ·iterate 3 obtain⟨_,_,h⟩:=dj h
    rcases ik h with⟨_,h⟩|⟨_,h⟩
    ·iterate 12 obtain⟨_,_,h⟩:=dj h
     exact fin h (Kp.refl _)
    ·iterate 3 obtain⟨_,_,h⟩:=dj h
     exact fin h (Kp.refl _)
   ·obtain⟨_,_,b,h⟩:=gK h;obtain⟨_,_,h⟩:=dj h;obtain⟨_,_,h⟩:=dj h;exact fin h (Kp.O7 b)
end Go.fg
