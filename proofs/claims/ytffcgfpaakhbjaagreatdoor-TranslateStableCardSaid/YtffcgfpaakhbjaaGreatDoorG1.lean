/- Part of the proof of TranslateStable: graph nodes. -/
import Derived.Test.YtffcgfpaakhbjaaGreatDoorM1
set_option linter.all false
namespace Go.dG
open Go
section
variable{α σ ρ:Type}
def Ce{F:Int->α->σ->Option (dP σ ρ)}(I:σ->Prop)(Q:ρ->Prop):∀(l:List α) (i:Nat) (s:σ) (o:σ⊕ρ),I s->(∀(j:Int) (x:α) (s:σ) (c:dP σ ρ),I s->F j x s=some c->match c with|.next a=>I a|.H9 a=>I a|.ret r=>Q r)->cY F l i s=some o->match o with|.inl a=>I a|.inr r=>Q r
 |[],i,s,o,hs,_,h=>by
  obtain rfl:=fS h;exact hs
 |x::l,i,s,o,hs,hF,h=>by
  rw[cO] at h;obtain⟨c,d,b⟩:=cE h;have:=hF _ _ _ _ hs d;cases c with
  |next a=>exact Ce I Q l (i+1) a o this hF b|H9 a=>obtain rfl:=fS b;exact this
  |ret r=>obtain rfl:=fS b;exact this
end
def Bw{nh:List HC}{y:dC}:HC.b_ (nh++[HC.dK y]) (List.length nh)=some y:=by simp[HC.b_]
def vo{nh:List HC}{x y:HC}:nb (nh++[x]) (List.length nh) y=nh++[y]:=by simp[nb]
def AX{a0 a1:Int}{a2:Ty}{a3:List (Option Nat)}{nh b:List HC}{r:Option Nat}(h:jQ a0 a1 a2 a3 nh=some (r,b)):∃y,r=some nh.length/\b=nh++[HC.dK y]:=by
 unfold jQ at h;obtain⟨_,h⟩:=qA h;obtain⟨F,hF,h⟩:=xc h;obtain⟨out,d,h⟩:=cE h
 have:=Ce (I:=λv=>∃y,v=nh++[HC.dK y]) (Q:=λ_=>False) a3 0 _ out ⟨_,rfl⟩ (by
  rintro j x s c ⟨y,rfl⟩ a;rw[hF] at a;dsimp only at a;obtain⟨f,g,a⟩:=cE a;obtain⟨q,i,a⟩:=cE a;obtain⟨k,l,a⟩:=cE a;obtain⟨y3,m,a⟩:=cE a;obtain rfl:=fS a;simp only[vo]
  exact⟨_,rfl⟩) d
 cases out with
 |inr r=>exact this.elim|inl v=>
  obtain⟨y,rfl⟩:=this;rw[ca] at h;obtain⟨j,e,h⟩:=xc h;subst e;simp only[Bw,bT,vo] at h
  split at h
  ·obtain⟨rfl,rfl⟩:=fI (fS h);exact⟨_,rfl,rfl⟩
  ·split at h<;>(obtain⟨rfl,rfl⟩:=fI (fS h);exact⟨_,rfl,rfl⟩)
def Kp(nh a:List HC):Prop:=∃X,a=nh++X
def Kp.refl(nh:List HC):Kp nh nh:=⟨[],aas⟩
def Kp.trans{a b c:List HC}(d:Kp a b)(e:Kp b c):Kp a c:=by
 obtain⟨X,rfl⟩:=d;obtain⟨Y,rfl⟩:=e;exact⟨X++Y,aas⟩
def Kp.build{a0 a1:Int}{a2:Ty}{a3:List (Option Nat)}{nh a:List HC}{r:Option Nat}(h:jQ a0 a1 a2 a3 nh=some (r,a)):Kp nh a:=by
 obtain⟨y,_,rfl⟩:=AX h;exact⟨_,rfl⟩
def Kp.app{a0:Option Nat}{a1:List (Option Nat)}{nh a:List HC}{r:Option Nat}(h:sX a0 a1 nh=some (r,a)):Kp nh a:=by
 unfold sX at h;obtain⟨_,h⟩:=qA h;obtain⟨F,hF,h⟩:=xc h;obtain⟨out,d,h⟩:=cE h
 have:=Ce (I:=λv=>Kp nh v.2) (Q:=λ_=>False) a1 0 _ out (Kp.refl _) (by
  rintro j x ⟨s1,s2⟩ c hs b;rw[hF] at b;dsimp only[sa] at b;obtain⟨_,_,e,b⟩:=iR b;obtain rfl:=fS b
  exact hs.trans (Kp.build e)) d
 cases out with
 |inr r=>exact this.elim|inl v=>
  rw[ca] at h;dsimp only[sa] at h;obtain⟨rfl,rfl⟩:=fI (fS h);exact this
end Go.dG
