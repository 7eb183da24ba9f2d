/- Part of the proof of KernelTyped: graph nodes. -/
import Derived.Test.YtobcafblgapgfaaGreatDoorM1
set_option linter.all false
namespace Go.hI
open Go
section
variable{α σ ρ:Type}
def xA{F:Int->α->σ->Option (gj σ ρ)}(I:σ->Prop)(Q:ρ->Prop):∀(l:List α) (i:Nat) (s:σ) (o:σ⊕ρ),I s->(∀(j:Int) (x:α) (s:σ) (c:gj σ ρ),I s->F j x s=some c->match c with|.next a=>I a|.Ft a=>I a|.ret r=>Q r)->fp F l i s=some o->match o with|.inl a=>I a|.inr r=>Q r
 |[],i,s,o,hs,_,h=>by
  obtain rfl:=iy h;exact hs
 |x::l,i,s,o,hs,hF,h=>by
  rw[fl] at h;obtain⟨c,d,b⟩:=eO h;have:=hF _ _ _ _ hs d;cases c with
  |next a=>exact xA I Q l (i+1) a o this hF b|Ft a=>obtain rfl:=iy b;exact this
  |ret r=>obtain rfl:=iy b;exact this
end
def CN{nh:List HC}{y:eR}:HC.er (nh++[HC.eS y]) (List.length nh)=some y:=by simp[HC.er]
def xU{nh:List HC}{x y:HC}:kE (nh++[x]) (List.length nh) y=nh++[y]:=by simp[kE]
def BV{a0 a1:Int}{a2:Ty}{a3:List (Option Nat)}{nh b:List HC}{r:Option Nat}(h:kx a0 a1 a2 a3 nh=some (r,b)):∃y,r=some nh.length/\b=nh++[HC.eS y]:=by
 unfold kx at h;obtain⟨_,h⟩:=m9 h;obtain⟨F,hF,h⟩:=mf h;obtain⟨out,d,h⟩:=eO h
 have:=xA (I:=λv=>∃y,v=nh++[HC.eS y]) (Q:=λ_=>False) a3 0 _ out ⟨_,rfl⟩ (by
  rintro j x s c ⟨y,rfl⟩ a;rw[hF] at a;dsimp only at a;obtain⟨f,g,a⟩:=eO a;obtain⟨q,i,a⟩:=eO a;obtain⟨k,l,a⟩:=eO a;obtain⟨y3,m,a⟩:=eO a;obtain rfl:=iy a;simp only[xU]
  exact⟨_,rfl⟩) d
 cases out with
 |inr r=>exact this.elim|inl v=>
  obtain⟨y,rfl⟩:=this;rw[ei] at h;obtain⟨j,e,h⟩:=mf h;subst e;simp only[CN,cl,xU] at h
  split at h
  ·obtain⟨rfl,rfl⟩:=iz (iy h);exact⟨_,rfl,rfl⟩
  ·split at h<;>(obtain⟨rfl,rfl⟩:=iz (iy h);exact⟨_,rfl,rfl⟩)
def Kp(nh a:List HC):Prop:=∃X,a=nh++X
def Kp.refl(nh:List HC):Kp nh nh:=⟨[],by simp⟩
def Kp.trans{a b c:List HC}(d:Kp a b)(e:Kp b c):Kp a c:=by
 obtain⟨X,rfl⟩:=d;obtain⟨Y,rfl⟩:=e;exact⟨X++Y,by simp⟩
def Kp.build{a0 a1:Int}{a2:Ty}{a3:List (Option Nat)}{nh a:List HC}{r:Option Nat}(h:kx a0 a1 a2 a3 nh=some (r,a)):Kp nh a:=by
 obtain⟨y,_,rfl⟩:=BV h;exact⟨_,rfl⟩
def Kp.Tg{a0:Option Nat}{a3:List (Option Nat)}{nh a:List HC}{r:Option Nat}(h:gV a0 a3 nh=some (r,a)):Kp nh a:=by
 unfold gV at h;obtain⟨_,_,h⟩:=eO h;obtain⟨_,_,h⟩:=eO h;obtain⟨_,_,b,h⟩:=jk h;obtain⟨rfl,rfl⟩:=iz (iy h);exact Kp.build b
def Kp.lift:∀(n:Nat) {a0:Option Nat} {a1 a2:Int} {nh a:List HC} {r:Option Nat},jJ n a0 a1 a2 nh=some (r,a)->Kp nh a
 |0,_,_,_,_,_,_,h=>by cases h
 |n+1,a0,a1,a2,nh,a,r,h=>by
  rw[jJ] at h;obtain⟨j,f,h⟩:=mf h
  have key:∀b,j b=some (r,a)->Kp nh a:=by
   intro b h;rw[f] at h;dsimp only at h;rcases jw h with⟨_,h⟩|⟨_,h⟩
   ·obtain⟨rfl,rfl⟩:=iz (iy h);exact Kp.refl _
   ·obtain⟨_,_,h⟩:=eO h;obtain⟨x,_,h⟩:=eO h;rcases jw h with⟨_,h⟩|⟨_,h⟩
    ·obtain⟨_,_,e,h⟩:=jk h;obtain⟨rfl,rfl⟩:=iz (iy h);exact Kp.build e
    ·obtain⟨_,h⟩:=m9 h;obtain⟨F,hF,h⟩:=mf h;obtain⟨out,g,h⟩:=eO h
     have:=xA (I:=λv=>Kp nh v.2) (Q:=λ_=>False) x.ab_ 0 _ out (Kp.refl _) (by
      rintro j x ⟨s1,s2⟩ c hs d;rw[hF] at d;dsimp only[uv] at d;obtain⟨_,_,d⟩:=eO d;obtain⟨_,_,e,d⟩:=jk d;obtain⟨_,d⟩:=m9 d;obtain rfl:=iy d
      exact hs.trans (Kp.lift n e)) g
     cases out with
     |inr r=>exact this.elim|inl v=>
      rw[ei] at h;dsimp only[uv] at h;obtain⟨_,_,e,h⟩:=jk h;obtain⟨rfl,rfl⟩:=iz (iy h);exact this.trans (Kp.Tg e)
  obtain⟨_,_,h⟩:=eO h;obtain⟨_,_,h⟩:=eO h;rcases jw h with⟨_,h⟩|⟨_,h⟩<;>exact key _ h
theorem Kp.put:∀(n:Nat) {a0:Option Nat} {a1:Int} {a2:Option Nat} {nh b:List HC} {r:Option Nat},kb n a0 a1 a2 nh=some (r,b)->Kp nh b
 |0,_,_,_,_,_,_,h=>by cases h
 |n+1,a0,a1,a2,nh,b,r,h=>by
  rw[kb] at h;obtain⟨_,_,h⟩:=eO h;obtain⟨x,_,h⟩:=eO h;rcases jw h with⟨_,h⟩|⟨_,h⟩
  ·obtain⟨rfl,rfl⟩:=iz (iy h);exact Kp.refl _
  ·rcases jw h with⟨_,h⟩|⟨_,h⟩
   ·rcases jw h with⟨_,h⟩|⟨_,h⟩
    ·obtain⟨_,_,d,h⟩:=jk h;obtain⟨rfl,rfl⟩:=iz (iy h);exact Kp.lift _ d
    ·obtain⟨_,_,d,h⟩:=jk h;obtain⟨rfl,rfl⟩:=iz (iy h);exact Kp.build d
   ·obtain⟨_,h⟩:=m9 h;obtain⟨F,hF,h⟩:=mf h;obtain⟨out,e,h⟩:=eO h
    have:=xA (I:=λv=>Kp nh v.2) (Q:=λ_=>False) x.ab_ 0 _ out (Kp.refl _) (by
     rintro j x ⟨s1,s2⟩ c hs a;rw[hF] at a;dsimp only[uv] at a;obtain⟨_,_,a⟩:=eO a;obtain⟨_,_,d,a⟩:=jk a;obtain⟨_,a⟩:=m9 a;obtain rfl:=iy a
     exact hs.trans (Kp.put n d)) e
    cases out with
    |inr r=>exact this.elim|inl v=>
     rw[ei] at h;dsimp only[uv] at h;obtain⟨_,_,d,h⟩:=jk h;obtain⟨rfl,rfl⟩:=iz (iy h);exact this.trans (Kp.Tg d)
def Kp.app{a0:Option Nat}{a1:List (Option Nat)}{nh a:List HC}{r:Option Nat}(h:r6 a0 a1 nh=some (r,a)):Kp nh a:=by
 unfold r6 at h;obtain⟨_,h⟩:=m9 h;obtain⟨F,hF,h⟩:=mf h;obtain⟨out,d,h⟩:=eO h
 have:=xA (I:=λv=>Kp nh v.2) (Q:=λ_=>False) a1 0 _ out (Kp.refl _) (by
  rintro j x ⟨s1,s2⟩ c hs b;rw[hF] at b;dsimp only[uv] at b;obtain⟨_,_,e,b⟩:=jk b;obtain rfl:=iy b
  exact hs.trans (Kp.build e)) d
 cases out with
 |inr r=>exact this.elim|inl v=>
  rw[ei] at h;dsimp only[uv] at h;obtain⟨rfl,rfl⟩:=iz (iy h);exact this
def Kp.Re{a0:Option Nat}{nh a:List HC}{r:Option Nat}(h:jf a0 nh=some (r,a)):Kp nh a:=by
 unfold jf at h;obtain⟨_,_,h⟩:=eO h;obtain⟨_,_,h⟩:=eO h;rcases jw h with⟨_,h⟩|⟨_,h⟩
 ·obtain⟨_,_,h⟩:=eO h;obtain⟨_,_,h⟩:=eO h;obtain⟨_,_,h⟩:=eO h;obtain⟨_,_,h⟩:=eO h;obtain⟨_,_,h⟩:=eO h;obtain⟨_,_,b,h⟩:=jk h;obtain⟨rfl,rfl⟩:=iz (iy h);exact Kp.put _ b
 ·rcases jw h with⟨_,h⟩|⟨_,h⟩
  ·obtain⟨_,_,h⟩:=eO h;obtain⟨_,_,h⟩:=eO h;obtain⟨_,_,h⟩:=eO h;obtain⟨_,_,h⟩:=eO h;obtain⟨rfl,rfl⟩:=iz (iy h);exact Kp.refl _
  ·rcases jw h with⟨_,h⟩|⟨_,h⟩
   ·obtain⟨_,_,h⟩:=eO h;obtain⟨_,_,h⟩:=eO h;obtain⟨_,_,h⟩:=eO h;obtain⟨_,_,h⟩:=eO h;obtain⟨rfl,rfl⟩:=iz (iy h);exact Kp.refl _
   ·obtain⟨_,_,h⟩:=eO h;obtain⟨_,_,h⟩:=eO h;obtain⟨_,_,h⟩:=eO h;obtain⟨_,_,h⟩:=eO h;obtain⟨_,_,h⟩:=eO h;rcases jw h with⟨_,h⟩|⟨_,h⟩
    ·obtain⟨rfl,rfl⟩:=iz (iy h);exact Kp.refl _
    ·obtain⟨_,_,h⟩:=eO h;obtain⟨_,_,b,h⟩:=jk h;obtain⟨_,_,h⟩:=eO h;obtain⟨_,_,c,h⟩:=jk h;obtain⟨_,_,d,h⟩:=jk h;obtain⟨rfl,rfl⟩:=iz (iy h);exact((Kp.Tg b).trans (Kp.app c)).trans (Kp.app d)
def B3{a0:Option Nat}{nh a:List HC}{r:Int}(h:mU a0 nh=some (r,a)):∃X,a=nh++X:=by
 unfold mU at h;obtain⟨_,_,h⟩:=eO h;obtain⟨_,_,h⟩:=eO h
 have fin:∀{x:Int} {m:List HC},some (x,m)=some (r,a)->Kp nh m->∃X,a=nh++X:=by
  intro x m e hm;obtain⟨rfl,rfl⟩:=iz (iy e);exact hm
 rcases jw h with⟨_,h⟩|⟨_,h⟩
 ·iterate 10 obtain⟨_,_,h⟩:=eO h
  exact fin h (Kp.refl _)
 ·rcases jw h with⟨_,h⟩|⟨_,h⟩
  ·iterate 3 obtain⟨_,_,h⟩:=eO h
   rcases jw h with⟨_,h⟩|⟨_,h⟩
   ·iterate 9 obtain⟨_,_,h⟩:=eO h
    exact fin h (Kp.refl _)
   ·iterate 3 obtain⟨_,_,h⟩:=eO h
    exact fin h (Kp.refl _)
  ·rcases jw h with⟨_,h⟩|⟨_,h⟩
   ·iterate 3 obtain⟨_,_,h⟩:=eO h
    rcases jw h with⟨_,h⟩|⟨_,h⟩
    ·iterate 12 obtain⟨_,_,h⟩:=eO h
     exact fin h (Kp.refl _)
    ·iterate 3 obtain⟨_,_,h⟩:=eO h
     exact fin h (Kp.refl _)
   ·obtain⟨_,_,b,h⟩:=jk h;obtain⟨_,_,h⟩:=eO h;obtain⟨_,_,h⟩:=eO h;exact fin h (Kp.Re b)
end Go.hI
