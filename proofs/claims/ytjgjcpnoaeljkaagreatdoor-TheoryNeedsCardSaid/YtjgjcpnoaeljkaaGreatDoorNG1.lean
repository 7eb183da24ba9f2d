/- Part of the proof of TheoryNeeds: graph nodes. -/
import Derived.Test.YtjgjcpnoaeljkaaGreatDoorNM1
set_option linter.all false
namespace Go.eU
open Go
section
variable{α σ ρ:Type}
def wH{F:Int->α->σ->Option (dW σ ρ)}(I:σ->Prop)(Q:ρ->Prop):∀(l:List α) (i:Nat) (s:σ) (o:σ⊕ρ),I s->(∀(j:Int) (x:α) (s:σ) (c:dW σ ρ),I s->F j x s=some c->match c with|.next a=>I a|.brk a=>I a|.ret r=>Q r)->dF F l i s=some o->match o with|.inl a=>I a|.inr r=>Q r
 |[],i,s,o,hs,_,h=>by
  obtain rfl:=fQ h;exact hs
 |x::l,i,s,o,hs,hF,h=>by
  rw[dB] at h;obtain⟨c,d,b⟩:=dm h;have:=hF _ _ _ _ hs d;cases c with
  |next a=>exact wH I Q l (i+1) a o this hF b|brk a=>obtain rfl:=fQ b;exact this
  |ret r=>obtain rfl:=fQ b;exact this
end
def BX{nh:List HC}{y:dw}:HC.c0 (nh++[HC.dz y]) (List.length nh)=some y:=by simp[HC.c0]
def wF{nh:List HC}{x y:HC}:js (nh++[x]) (List.length nh) y=nh++[y]:=by simp[js]
def Cw{a0 a1:Int}{a2:Ty}{a3:List (Option Nat)}{nh b:List HC}{r:Option Nat}(h:jd a0 a1 a2 a3 nh=some (r,b)):∃y,r=some nh.length/\b=nh++[HC.dz y]:=by
 unfold jd at h;obtain⟨_,h⟩:=j0 h;obtain⟨F,hF,h⟩:=kL h;obtain⟨out,d,h⟩:=dm h
 have:=wH (I:=λv=>∃y,v=nh++[HC.dz y]) (Q:=λ_=>False) a3 0 _ out ⟨_,rfl⟩ (by
  rintro j x s c ⟨y,rfl⟩ a;rw[hF] at a;dsimp only at a;obtain⟨i,k,a⟩:=dm a;obtain⟨q,l,a⟩:=dm a;obtain⟨n,o,a⟩:=dm a;obtain⟨y3,t,a⟩:=dm a;obtain rfl:=fQ a;simp only[wF]
  exact⟨_,rfl⟩) d
 cases out with
 |inr r=>exact this.elim|inl v=>
  obtain⟨y,rfl⟩:=this;rw[dh] at h;obtain⟨j,f,h⟩:=kL h;subst f;simp only[BX,cv,wF] at h
  split at h
  .obtain⟨rfl,rfl⟩:=gy (fQ h);exact⟨_,rfl,rfl⟩
  .split at h<;>(obtain⟨rfl,rfl⟩:=gy (fQ h);exact⟨_,rfl,rfl⟩)
def Kp(nh a:List HC):Prop:=∃X,a=nh++X
theorem Kp.refl(nh:List HC):Kp nh nh:=⟨[],aaL⟩
def Kp.trans{a b c:List HC}(d:Kp a b)(f:Kp b c):Kp a c:=by
 obtain⟨X,rfl⟩:=d;obtain⟨Y,rfl⟩:=f;exact⟨X++Y,aaL⟩
def Kp.build{a0 a1:Int}{a2:Ty}{a3:List (Option Nat)}{nh a:List HC}{r:Option Nat}(h:jd a0 a1 a2 a3 nh=some (r,a)):Kp nh a:=by
 obtain⟨y,_,rfl⟩:=Cw h;exact⟨_,rfl⟩
def Kp.UH{a0:Option Nat}{a3:List (Option Nat)}{nh a:List HC}{r:Option Nat}(h:fC a0 a3 nh=some (r,a)):Kp nh a:=by
 unfold fC at h;obtain⟨_,_,h⟩:=dm h;obtain⟨_,_,h⟩:=dm h;obtain⟨_,_,b,h⟩:=gB h;obtain⟨rfl,rfl⟩:=gy (fQ h);exact Kp.build b
def Kp.lift:∀(n:Nat) {a0:Option Nat} {a1 a2:Int} {nh a:List HC} {r:Option Nat},iQ n a0 a1 a2 nh=some (r,a)->Kp nh a
 |0,_,_,_,_,_,_,h=>by cases h
 |n+1,a0,a1,a2,nh,a,r,h=>by
  rw[iQ] at h;obtain⟨j,i,h⟩:=kL h
  have key:∀b,j b=some (r,a)->Kp nh a:=by
   intro b h;rw[i] at h;dsimp only at h;rcases gR h with⟨_,h⟩|⟨_,h⟩
   .obtain⟨rfl,rfl⟩:=gy (fQ h);exact Kp.refl _
   .obtain⟨_,_,h⟩:=dm h;obtain⟨x,_,h⟩:=dm h;rcases gR h with⟨_,h⟩|⟨_,h⟩
    .obtain⟨_,_,f,h⟩:=gB h;obtain⟨rfl,rfl⟩:=gy (fQ h);exact Kp.build f
    .obtain⟨_,h⟩:=j0 h;obtain⟨F,hF,h⟩:=kL h;obtain⟨out,k,h⟩:=dm h
     have:=wH (I:=λv=>Kp nh v.2) (Q:=λ_=>False) x.aim 0 _ out (Kp.refl _) (by
      rintro j x ⟨s1,s2⟩ c hs d;rw[hF] at d;dsimp only[rI] at d;obtain⟨_,_,d⟩:=dm d;obtain⟨_,_,f,d⟩:=gB d;obtain⟨_,d⟩:=j0 d;obtain rfl:=fQ d
      exact hs.trans (Kp.lift n f)) k
     cases out with
     |inr r=>exact this.elim|inl v=>
      rw[dh] at h;dsimp only[rI] at h;obtain⟨_,_,f,h⟩:=gB h;obtain⟨rfl,rfl⟩:=gy (fQ h);exact this.trans (Kp.UH f)
  obtain⟨_,_,h⟩:=dm h;obtain⟨_,_,h⟩:=dm h;rcases gR h with⟨_,h⟩|⟨_,h⟩<;>exact key _ h
theorem Kp.put:∀(n:Nat) {a0:Option Nat} {a1:Int} {a2:Option Nat} {nh b:List HC} {r:Option Nat},jF n a0 a1 a2 nh=some (r,b)->Kp nh b
 |0,_,_,_,_,_,_,h=>by cases h
 |n+1,a0,a1,a2,nh,b,r,h=>by
  rw[jF] at h;obtain⟨_,_,h⟩:=dm h;obtain⟨x,_,h⟩:=dm h;rcases gR h with⟨_,h⟩|⟨_,h⟩
  .obtain⟨rfl,rfl⟩:=gy (fQ h);exact Kp.refl _
  .rcases gR h with⟨_,h⟩|⟨_,h⟩
   .rcases gR h with⟨_,h⟩|⟨_,h⟩
    .obtain⟨_,_,d,h⟩:=gB h;obtain⟨rfl,rfl⟩:=gy (fQ h);exact Kp.lift _ d
    .obtain⟨_,_,d,h⟩:=gB h;obtain⟨rfl,rfl⟩:=gy (fQ h);exact Kp.build d
   .obtain⟨_,h⟩:=j0 h;obtain⟨F,hF,h⟩:=kL h;obtain⟨out,f,h⟩:=dm h
    have:=wH (I:=λv=>Kp nh v.2) (Q:=λ_=>False) x.aim 0 _ out (Kp.refl _) (by
     rintro j x ⟨s1,s2⟩ c hs a;rw[hF] at a;dsimp only[rI] at a;obtain⟨_,_,a⟩:=dm a;obtain⟨_,_,d,a⟩:=gB a;obtain⟨_,a⟩:=j0 a;obtain rfl:=fQ a
     exact hs.trans (Kp.put n d)) f
    cases out with
    |inr r=>exact this.elim|inl v=>
     rw[dh] at h;dsimp only[rI] at h;obtain⟨_,_,d,h⟩:=gB h;obtain⟨rfl,rfl⟩:=gy (fQ h);exact this.trans (Kp.UH d)
def Kp.app{a0:Option Nat}{a1:List (Option Nat)}{nh a:List HC}{r:Option Nat}(h:qA a0 a1 nh=some (r,a)):Kp nh a:=by
 unfold qA at h;obtain⟨_,h⟩:=j0 h;obtain⟨F,hF,h⟩:=kL h;obtain⟨out,d,h⟩:=dm h
 have:=wH (I:=λv=>Kp nh v.2) (Q:=λ_=>False) a1 0 _ out (Kp.refl _) (by
  rintro j x ⟨s1,s2⟩ c hs b;rw[hF] at b;dsimp only[rI] at b;obtain⟨_,_,f,b⟩:=gB b;obtain rfl:=fQ b
  exact hs.trans (Kp.build f)) d
 cases out with
 |inr r=>exact this.elim|inl v=>
  rw[dh] at h;dsimp only[rI] at h;obtain⟨rfl,rfl⟩:=gy (fQ h);exact this
def Kp.V5{a0:Option Nat}{nh a:List HC}{r:Option Nat}(h:gU a0 nh=some (r,a)):Kp nh a:=by
 unfold gU at h;obtain⟨_,_,h⟩:=dm h;obtain⟨_,_,h⟩:=dm h;rcases gR h with⟨_,h⟩|⟨_,h⟩
 .obtain⟨_,_,h⟩:=dm h;obtain⟨_,_,h⟩:=dm h;obtain⟨_,_,h⟩:=dm h;obtain⟨_,_,h⟩:=dm h;obtain⟨_,_,h⟩:=dm h;obtain⟨_,_,b,h⟩:=gB h;obtain⟨rfl,rfl⟩:=gy (fQ h);exact Kp.put _ b
 .rcases gR h with⟨_,h⟩|⟨_,h⟩
  .obtain⟨_,_,h⟩:=dm h;obtain⟨_,_,h⟩:=dm h;obtain⟨_,_,h⟩:=dm h;obtain⟨_,_,h⟩:=dm h;obtain⟨rfl,rfl⟩:=gy (fQ h);exact Kp.refl _
  .rcases gR h with⟨_,h⟩|⟨_,h⟩
   .obtain⟨_,_,h⟩:=dm h;obtain⟨_,_,h⟩:=dm h;obtain⟨_,_,h⟩:=dm h;obtain⟨_,_,h⟩:=dm h;obtain⟨rfl,rfl⟩:=gy (fQ h);exact Kp.refl _
   .obtain⟨_,_,h⟩:=dm h;obtain⟨_,_,h⟩:=dm h;obtain⟨_,_,h⟩:=dm h;obtain⟨_,_,h⟩:=dm h;obtain⟨_,_,h⟩:=dm h;rcases gR h with⟨_,h⟩|⟨_,h⟩
    .obtain⟨rfl,rfl⟩:=gy (fQ h);exact Kp.refl _
    .obtain⟨_,_,h⟩:=dm h;obtain⟨_,_,b,h⟩:=gB h;obtain⟨_,_,h⟩:=dm h;obtain⟨_,_,c,h⟩:=gB h;obtain⟨_,_,d,h⟩:=gB h;obtain⟨rfl,rfl⟩:=gy (fQ h);exact((Kp.UH b).trans (Kp.app c)).trans (Kp.app d)
def Bg{a0:Option Nat}{nh a:List HC}{r:Int}(h:lp a0 nh=some (r,a)):∃X,a=nh++X:=by
 unfold lp at h;obtain⟨_,_,h⟩:=dm h;obtain⟨_,_,h⟩:=dm h
 have fin:∀{x:Int} {m:List HC},some (x,m)=some (r,a)->Kp nh m->∃X,a=nh++X:=by
  intro x m e hm;obtain⟨rfl,rfl⟩:=gy (fQ e);exact hm
 rcases gR h with⟨_,h⟩|⟨_,h⟩
 .iterate 10 obtain⟨_,_,h⟩:=dm h
  exact fin h (Kp.refl _)
 .rcases gR h with⟨_,h⟩|⟨_,h⟩
  .iterate 3 obtain⟨_,_,h⟩:=dm h
   rcases gR h with⟨_,h⟩|⟨_,h⟩
   .iterate 9 obtain⟨_,_,h⟩:=dm h
    exact fin h (Kp.refl _)
   .iterate 3 obtain⟨_,_,h⟩:=dm h
    exact fin h (Kp.refl _)
  .rcases gR h with⟨_,h⟩|⟨_,h⟩
   .iterate 3 obtain⟨_,_,h⟩:=dm h
    rcases gR h with⟨_,h⟩|⟨_,h⟩
    .iterate 12 obtain⟨_,_,h⟩:=dm h
     exact fin h (Kp.refl _)
    .iterate 3 obtain⟨_,_,h⟩:=dm h
     exact fin h (Kp.refl _)
   .obtain⟨_,_,b,h⟩:=gB h;obtain⟨_,_,h⟩:=dm h;obtain⟨_,_,h⟩:=dm h;exact fin h (Kp.V5 b)
end Go.eU
