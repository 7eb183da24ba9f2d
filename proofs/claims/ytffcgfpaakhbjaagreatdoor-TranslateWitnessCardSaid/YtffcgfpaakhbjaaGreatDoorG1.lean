/- Part of the proof of TranslateWitness: graph nodes. -/
import Derived.Test.YtffcgfpaakhbjaaGreatDoorM1
set_option linter.all false
namespace Go.dF
open Go
section
variable{α σ ρ:Type}
def Bm{F:Int->α->σ->Option (dJ σ ρ)}(I:σ->Prop)(Q:ρ->Prop):∀(l:List α) (i:Nat) (s:σ) (o:σ⊕ρ),I s->(∀(j:Int) (x:α) (s:σ) (c:dJ σ ρ),I s->F j x s=some c->match c with|.next a=>I a|.Fy a=>I a|.ret r=>Q r)->cY F l i s=some o->match o with|.inl a=>I a|.inr r=>Q r
 |[],i,s,o,hs,_,h=>by
  obtain rfl:=gv h;exact hs
 |x::l,i,s,o,hs,hF,h=>by
  rw[cM] at h;obtain⟨c,d,b⟩:=cJ h;have:=hF _ _ _ _ hs d;cases c with
  |next a=>exact Bm I Q l (i+1) a o this hF b|Fy a=>obtain rfl:=gv b;exact this
  |ret r=>obtain rfl:=gv b;exact this
end
def AF{nh:List HC}{y:dz}:HC.b_ (nh++[HC.dH y]) (List.length nh)=some y:=by simp[HC.b_]
def u_{nh:List HC}{x y:HC}:mB (nh++[x]) (List.length nh) y=nh++[y]:=by simp[mB]
def zR{a0 a1:Int}{a2:Ty}{a3:List (Option Nat)}{nh b:List HC}{r:Option Nat}(h:jw a0 a1 a2 a3 nh=some (r,b)):∃y,r=some nh.length/\b=nh++[HC.dH y]:=by
 unfold jw at h;obtain⟨_,h⟩:=pY h;obtain⟨F,hF,h⟩:=vT h;obtain⟨out,d,h⟩:=cJ h
 have:=Bm (I:=λv=>∃y,v=nh++[HC.dH y]) (Q:=λ_=>False) a3 0 _ out ⟨_,rfl⟩ (by
  rintro j x s c ⟨y,rfl⟩ a;rw[hF] at a;dsimp only at a;obtain⟨f,g,a⟩:=cJ a;obtain⟨q,i,a⟩:=cJ a;obtain⟨k,l,a⟩:=cJ a;obtain⟨y3,m,a⟩:=cJ a;obtain rfl:=gv a;simp only[u_]
  exact⟨_,rfl⟩) d
 cases out with
 |inr r=>exact this.elim|inl v=>
  obtain⟨y,rfl⟩:=this;rw[b9] at h;obtain⟨j,e,h⟩:=vT h;subst e;simp only[AF,bT,u_] at h
  split at h
  ·obtain⟨rfl,rfl⟩:=fH (gv h);exact⟨_,rfl,rfl⟩
  ·split at h<;>(obtain⟨rfl,rfl⟩:=fH (gv h);exact⟨_,rfl,rfl⟩)
def Kp(nh a:List HC):Prop:=∃X,a=nh++X
def Kp.refl(nh:List HC):Kp nh nh:=⟨[],th⟩
def Kp.trans{a b c:List HC}(d:Kp a b)(e:Kp b c):Kp a c:=by
 obtain⟨X,rfl⟩:=d;obtain⟨Y,rfl⟩:=e;exact⟨X++Y,th⟩
def Kp.build{a0 a1:Int}{a2:Ty}{a3:List (Option Nat)}{nh a:List HC}{r:Option Nat}(h:jw a0 a1 a2 a3 nh=some (r,a)):Kp nh a:=by
 obtain⟨y,_,rfl⟩:=zR h;exact⟨_,rfl⟩
def Kp.app{a0:Option Nat}{a1:List (Option Nat)}{nh a:List HC}{r:Option Nat}(h:sq a0 a1 nh=some (r,a)):Kp nh a:=by
 unfold sq at h;obtain⟨_,h⟩:=pY h;obtain⟨F,hF,h⟩:=vT h;obtain⟨out,d,h⟩:=cJ h
 have:=Bm (I:=λv=>Kp nh v.2) (Q:=λ_=>False) a1 0 _ out (Kp.refl _) (by
  rintro j x ⟨s1,s2⟩ c hs b;rw[hF] at b;dsimp only[rD] at b;obtain⟨_,_,e,b⟩:=qK b;obtain rfl:=gv b
  exact hs.trans (Kp.build e)) d
 cases out with
 |inr r=>exact this.elim|inl v=>
  rw[b9] at h;dsimp only[rD] at h;obtain⟨rfl,rfl⟩:=fH (gv h);exact this
end Go.dF
