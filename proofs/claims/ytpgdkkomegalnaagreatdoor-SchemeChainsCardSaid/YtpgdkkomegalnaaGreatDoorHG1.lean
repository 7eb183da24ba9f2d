/- Part of the proof of SchemeChains: graph nodes. -/
import Derived.Test.YtpgdkkomegalnaaGreatDoorHM1
set_option linter.all false
namespace Go.fP
open Go
section
variable{α σ ρ:Type}
def ya{F:Int->α->σ->Option (fp σ ρ)}(I:σ->Prop)(Q:ρ->Prop):∀(l:List α) (i:Nat) (s:σ) (o:σ⊕ρ),I s->(∀(j:Int) (x:α) (s:σ) (c:fp σ ρ),I s->F j x s=some c->match c with|.next a=>I a|.xA a=>I a|.ret r=>Q r)->fa F l i s=some o->match o with|.inl a=>I a|.inr r=>Q r
 |[],i,s,o,hs,_,h=>by
  obtain rfl:=hU h;exact hs
 |x::l,i,s,o,hs,hF,h=>by
  rw[eV] at h;obtain⟨c,d,b⟩:=eB h;have:=hF _ _ _ _ hs d;cases c with
  |next a=>exact ya I Q l (i+1) a o this hF b|xA a=>obtain rfl:=hU b;exact this
  |ret r=>obtain rfl:=hU b;exact this
end
def EG{nh:List HC}{y:eI}:HC.dX (nh++[HC.eJ y]) (List.length nh)=some y:=by simp[HC.dX]
def xW{nh:List HC}{x y:HC}:kB (nh++[x]) (List.length nh) y=nh++[y]:=by simp[kB]
def DW{a0 a1:Int}{a2:Ty}{a3:List (Option Nat)}{nh b:List HC}{r:Option Nat}(h:ku a0 a1 a2 a3 nh=some (r,b)):∃y,r=some nh.length/\b=nh++[HC.eJ y]:=by
 unfold ku at h;obtain⟨_,h⟩:=lI h;obtain⟨F,hF,h⟩:=nS h;obtain⟨out,d,h⟩:=eB h
 have:=ya (I:=λv=>∃y,v=nh++[HC.eJ y]) (Q:=λ_=>False) a3 0 _ out ⟨_,rfl⟩ (by
  rintro j x s c ⟨y,rfl⟩ a;rw[hF] at a;dsimp only at a;obtain⟨i,k,a⟩:=eB a;obtain⟨q,l,a⟩:=eB a;obtain⟨n,o,a⟩:=eB a;obtain⟨y3,t,a⟩:=eB a;obtain rfl:=hU a;simp only[xW]
  exact⟨_,rfl⟩) d
 cases out with
 |inr r=>exact this.elim|inl v=>
  obtain⟨y,rfl⟩:=this;rw[ew] at h;obtain⟨j,f,h⟩:=nS h;subst f;simp only[EG,dI,xW] at h
  split at h
  .obtain⟨rfl,rfl⟩:=iO (hU h);exact⟨_,rfl,rfl⟩
  .split at h<;>(obtain⟨rfl,rfl⟩:=iO (hU h);exact⟨_,rfl,rfl⟩)
def Kp(nh a:List HC):Prop:=∃X,a=nh++X
theorem Kp.refl(nh:List HC):Kp nh nh:=⟨[],abm⟩
def Kp.trans{a b c:List HC}(d:Kp a b)(f:Kp b c):Kp a c:=by
 obtain⟨X,rfl⟩:=d;obtain⟨Y,rfl⟩:=f;exact⟨X++Y,abm⟩
def Kp.build{a0 a1:Int}{a2:Ty}{a3:List (Option Nat)}{nh a:List HC}{r:Option Nat}(h:ku a0 a1 a2 a3 nh=some (r,a)):Kp nh a:=by
 obtain⟨y,_,rfl⟩:=DW h;exact⟨_,rfl⟩
def Kp.Yt{a0:Option Nat}{a3:List (Option Nat)}{nh a:List HC}{r:Option Nat}(h:gE a0 a3 nh=some (r,a)):Kp nh a:=by
 unfold gE at h;obtain⟨_,_,h⟩:=eB h;obtain⟨_,_,h⟩:=eB h;obtain⟨_,_,b,h⟩:=iw h;obtain⟨rfl,rfl⟩:=iO (hU h);exact Kp.build b
def Kp.lift:∀(n:Nat) {a0:Option Nat} {a1 a2:Int} {nh a:List HC} {r:Option Nat},js n a0 a1 a2 nh=some (r,a)->Kp nh a
 |0,_,_,_,_,_,_,h=>by cases h
 |n+1,a0,a1,a2,nh,a,r,h=>by
  rw[js] at h;obtain⟨j,i,h⟩:=nS h
  have key:∀b,j b=some (r,a)->Kp nh a:=by
   intro b h;rw[i] at h;dsimp only at h;rcases jb h with⟨_,h⟩|⟨_,h⟩
   .obtain⟨rfl,rfl⟩:=iO (hU h);exact Kp.refl _
   .obtain⟨_,_,h⟩:=eB h;obtain⟨x,_,h⟩:=eB h;rcases jb h with⟨_,h⟩|⟨_,h⟩
    .obtain⟨_,_,f,h⟩:=iw h;obtain⟨rfl,rfl⟩:=iO (hU h);exact Kp.build f
    .obtain⟨_,h⟩:=lI h;obtain⟨F,hF,h⟩:=nS h;obtain⟨out,k,h⟩:=eB h
     have:=ya (I:=λv=>Kp nh v.2) (Q:=λ_=>False) x.aoq 0 _ out (Kp.refl _) (by
      rintro j x ⟨s1,s2⟩ c hs d;rw[hF] at d;dsimp only[re] at d;obtain⟨_,_,d⟩:=eB d;obtain⟨_,_,f,d⟩:=iw d;obtain⟨_,d⟩:=lI d;obtain rfl:=hU d
      exact hs.trans (Kp.lift n f)) k
     cases out with
     |inr r=>exact this.elim|inl v=>
      rw[ew] at h;dsimp only[re] at h;obtain⟨_,_,f,h⟩:=iw h;obtain⟨rfl,rfl⟩:=iO (hU h);exact this.trans (Kp.Yt f)
  obtain⟨_,_,h⟩:=eB h;obtain⟨_,_,h⟩:=eB h;rcases jb h with⟨_,h⟩|⟨_,h⟩<;>exact key _ h
theorem Kp.put:∀(n:Nat) {a0:Option Nat} {a1:Int} {a2:Option Nat} {nh b:List HC} {r:Option Nat},jT n a0 a1 a2 nh=some (r,b)->Kp nh b
 |0,_,_,_,_,_,_,h=>by cases h
 |n+1,a0,a1,a2,nh,b,r,h=>by
  rw[jT] at h;obtain⟨_,_,h⟩:=eB h;obtain⟨x,_,h⟩:=eB h;rcases jb h with⟨_,h⟩|⟨_,h⟩
  .obtain⟨rfl,rfl⟩:=iO (hU h);exact Kp.refl _
  .rcases jb h with⟨_,h⟩|⟨_,h⟩
   .rcases jb h with⟨_,h⟩|⟨_,h⟩
    .obtain⟨_,_,d,h⟩:=iw h;obtain⟨rfl,rfl⟩:=iO (hU h);exact Kp.lift _ d
    .obtain⟨_,_,d,h⟩:=iw h;obtain⟨rfl,rfl⟩:=iO (hU h);exact Kp.build d
   .obtain⟨_,h⟩:=lI h;obtain⟨F,hF,h⟩:=nS h;obtain⟨out,f,h⟩:=eB h
    have:=ya (I:=λv=>Kp nh v.2) (Q:=λ_=>False) x.aoq 0 _ out (Kp.refl _) (by
     rintro j x ⟨s1,s2⟩ c hs a;rw[hF] at a;dsimp only[re] at a;obtain⟨_,_,a⟩:=eB a;obtain⟨_,_,d,a⟩:=iw a;obtain⟨_,a⟩:=lI a;obtain rfl:=hU a
     exact hs.trans (Kp.put n d)) f
    cases out with
    |inr r=>exact this.elim|inl v=>
     rw[ew] at h;dsimp only[re] at h;obtain⟨_,_,d,h⟩:=iw h;obtain⟨rfl,rfl⟩:=iO (hU h);exact this.trans (Kp.Yt d)
def Kp.app{a0:Option Nat}{a1:List (Option Nat)}{nh a:List HC}{r:Option Nat}(h:sn a0 a1 nh=some (r,a)):Kp nh a:=by
 unfold sn at h;obtain⟨_,h⟩:=lI h;obtain⟨F,hF,h⟩:=nS h;obtain⟨out,d,h⟩:=eB h
 have:=ya (I:=λv=>Kp nh v.2) (Q:=λ_=>False) a1 0 _ out (Kp.refl _) (by
  rintro j x ⟨s1,s2⟩ c hs b;rw[hF] at b;dsimp only[re] at b;obtain⟨_,_,f,b⟩:=iw b;obtain rfl:=hU b
  exact hs.trans (Kp.build f)) d
 cases out with
 |inr r=>exact this.elim|inl v=>
  rw[ew] at h;dsimp only[re] at h;obtain⟨rfl,rfl⟩:=iO (hU h);exact this
def Kp.abh{a0:Option Nat}{nh a:List HC}{r:Option Nat}(h:iX a0 nh=some (r,a)):Kp nh a:=by
 unfold iX at h;obtain⟨_,_,h⟩:=eB h;obtain⟨_,_,h⟩:=eB h;rcases jb h with⟨_,h⟩|⟨_,h⟩
 .obtain⟨_,_,h⟩:=eB h;obtain⟨_,_,h⟩:=eB h;obtain⟨_,_,h⟩:=eB h;obtain⟨_,_,h⟩:=eB h;obtain⟨_,_,h⟩:=eB h;obtain⟨_,_,b,h⟩:=iw h;obtain⟨rfl,rfl⟩:=iO (hU h);exact Kp.put _ b
 .rcases jb h with⟨_,h⟩|⟨_,h⟩
  .obtain⟨_,_,h⟩:=eB h;obtain⟨_,_,h⟩:=eB h;obtain⟨_,_,h⟩:=eB h;obtain⟨_,_,h⟩:=eB h;obtain⟨rfl,rfl⟩:=iO (hU h);exact Kp.refl _
  .rcases jb h with⟨_,h⟩|⟨_,h⟩
   .obtain⟨_,_,h⟩:=eB h;obtain⟨_,_,h⟩:=eB h;obtain⟨_,_,h⟩:=eB h;obtain⟨_,_,h⟩:=eB h;obtain⟨rfl,rfl⟩:=iO (hU h);exact Kp.refl _
   .obtain⟨_,_,h⟩:=eB h;obtain⟨_,_,h⟩:=eB h;obtain⟨_,_,h⟩:=eB h;obtain⟨_,_,h⟩:=eB h;obtain⟨_,_,h⟩:=eB h;rcases jb h with⟨_,h⟩|⟨_,h⟩
    .obtain⟨rfl,rfl⟩:=iO (hU h);exact Kp.refl _
    .obtain⟨_,_,h⟩:=eB h;obtain⟨_,_,b,h⟩:=iw h;obtain⟨_,_,h⟩:=eB h;obtain⟨_,_,c,h⟩:=iw h;obtain⟨_,_,d,h⟩:=iw h;obtain⟨rfl,rfl⟩:=iO (hU h);exact((Kp.Yt b).trans (Kp.app c)).trans (Kp.app d)
def D0{a0:Option Nat}{nh a:List HC}{r:Int}(h:mE a0 nh=some (r,a)):∃X,a=nh++X:=by
 unfold mE at h;obtain⟨_,_,h⟩:=eB h;obtain⟨_,_,h⟩:=eB h
 have fin:∀{x:Int} {m:List HC},some (x,m)=some (r,a)->Kp nh m->∃X,a=nh++X:=by
  intro x m e hm;obtain⟨rfl,rfl⟩:=iO (hU e);exact hm
 rcases jb h with⟨_,h⟩|⟨_,h⟩
 .iterate 10 obtain⟨_,_,h⟩:=eB h
  exact fin h (Kp.refl _)
 .rcases jb h with⟨_,h⟩|⟨_,h⟩
  .iterate 3 obtain⟨_,_,h⟩:=eB h
   rcases jb h with⟨_,h⟩|⟨_,h⟩
   .iterate 9 obtain⟨_,_,h⟩:=eB h
    exact fin h (Kp.refl _)
   .iterate 3 obtain⟨_,_,h⟩:=eB h
    exact fin h (Kp.refl _)
  .rcases jb h with⟨_,h⟩|⟨_,h⟩
   .iterate 3 obtain⟨_,_,h⟩:=eB h
    rcases jb h with⟨_,h⟩|⟨_,h⟩
    .iterate 12 obtain⟨_,_,h⟩:=eB h
     exact fin h (Kp.refl _)
    .iterate 3 obtain⟨_,_,h⟩:=eB h
     exact fin h (Kp.refl _)
   .obtain⟨_,_,b,h⟩:=iw h;obtain⟨_,_,h⟩:=eB h;obtain⟨_,_,h⟩:=eB h;exact fin h (Kp.abh b)
end Go.fP
