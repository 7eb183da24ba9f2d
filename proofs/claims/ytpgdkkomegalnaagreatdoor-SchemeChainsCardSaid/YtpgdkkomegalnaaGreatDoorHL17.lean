/- Part of the proof of SchemeChains: layer. -/
import Derived.Test.YtpgdkkomegalnaaGreatDoorHL16
set_option linter.all false
namespace Go.lD
open Go Go.fP
class Kc (P:Program) (g:FuncId) (S:outParam Prop):Prop where
 h:S
section
variable{P:Program} {T:eK} {EE:List Nat} {ops:Array Oper} {q:Qt} {bs:List Bool} {rest:List Oper} {K:Fr->dV->Prop} {H:dV} {d:Option Nat} {as:List AV} {g:FuncId} {fr:Fr} {ρ α β γ δ ε:Type} {r:ρ} {S:Prop}
def Kf1[i:Kc P g S]{o:Option α}{F:α->Option ρ}{z:α->AV}{W:α->dV}(m:dH o F=some r)(a:∀y,F y=some r->iI P T EE ops rest K (fr.put d (z y)) (W y))(h:S->∀y,o=some y->eG P T g as H (z y) (W y):=by intro h _ hm;first|exact h hm|exact h _ hm|exact h _ ‹_› hm|exact h _ abq hm|exact h _ ‹_› abq hm):kN P T EE ops (.func (.func g) [] []) as d rest K fr H:=
 pX m (h i.h _) a
def Kf2[i:Kc P g S]{o:Option (α×β)}{F:α->β->Option ρ}{z:α->β->AV}{W:α->β->dV}(m:dR o F=some r)(b:∀y a,F y a=some r->iI P T EE ops rest K (fr.put d (z y a)) (W y a))(h:S->∀y a,o=some (y,a)->eG P T g as H (z y a) (W y a):=by intro h _ _ hm;first|exact h hm|exact h _ hm|exact h _ ‹_› hm|exact h _ abq hm|exact h _ ‹_› abq hm):kN P T EE ops (.func (.func g) [] []) as d rest K fr H:=
 Ar m (h i.h _ _) b
def Kf3[i:Kc P g S]{o:Option (α×β×γ)}{F:α->β->γ->Option ρ}{z:α->β->γ->AV}{W:α->β->γ->dV}(m:fm o F=some r)(b:∀y a u,F y a u=some r->iI P T EE ops rest K (fr.put d (z y a u)) (W y a u))(h:S->∀y a u,o=some (y,a,u)->eG P T g as H (z y a u) (W y a u):=by intro h _ _ _ hm;first|exact h hm|exact h _ hm|exact h _ ‹_› hm|exact h _ abq hm|exact h _ ‹_› abq hm):kN P T EE ops (.func (.func g) [] []) as d rest K fr H:=
 W7 m (h i.h _ _ _) b
def zZ[i:Kc P g S]{o:Option α}{F:α->Option ρ}{z:α->AV}{W:α->dV}(m:dH o F=some r)(a:∀y,F y=some r->gf P T EE ops q bs rest K (fr.put d (z y)) (W y))(h:S->∀y,o=some y->eG P T g as H (z y) (W y):=by intro h _ hm;first|exact h hm|exact h _ hm|exact h _ ‹_› hm|exact h _ abq hm|exact h _ ‹_› abq hm)(b:∀y,QK q H (W y):=by simp):gU P T EE ops q bs (.func (.func g) [] []) as d rest K fr H:=
 rm m (h i.h _) a b
def Ks2[i:Kc P g S]{o:Option (α×β)}{F:α->β->Option ρ}{z:α->β->AV}{W:α->β->dV}(m:dR o F=some r)(b:∀y a,F y a=some r->gf P T EE ops q bs rest K (fr.put d (z y a)) (W y a))(h:S->∀y a,o=some (y,a)->eG P T g as H (z y a) (W y a):=by intro h _ _ hm;first|exact h hm|exact h _ hm|exact h _ ‹_› hm|exact h _ abq hm|exact h _ ‹_› abq hm)(c:∀y a,QK q H (W y a):=by simp):gU P T EE ops q bs (.func (.func g) [] []) as d rest K fr H:=
 sh m (h i.h _ _) b c
def Ks3[i:Kc P g S]{o:Option (α×β×γ)}{F:α->β->γ->Option ρ}{z:α->β->γ->AV}{W:α->β->γ->dV}(m:fm o F=some r)(b:∀y a u,F y a u=some r->gf P T EE ops q bs rest K (fr.put d (z y a u)) (W y a u))(h:S->∀y a u,o=some (y,a,u)->eG P T g as H (z y a u) (W y a u):=by intro h _ _ _ hm;first|exact h hm|exact h _ hm|exact h _ ‹_› hm|exact h _ abq hm|exact h _ ‹_› abq hm)(c:∀y a u,QK q H (W y a u):=by simp):gU P T EE ops q bs (.func (.func g) [] []) as d rest K fr H:=
 I6 m (h i.h _ _ _) b c
end
def aa{G:Prop} (h:G:=by
 repeat' first
  |((with_reducible show kN _ _ _ _ _ _ _ _ _ _ _);first|refine Kf1 m λ_ m=>?_|refine Kf2 m λ_ _ m=>?_|refine Kf3 m λ_ _ _ m=>?_|refine pX m ih λ_ m=>?_|refine Ar m ih λ_ _ m=>?_|refine W7 m ih λ_ _ _ m=>?_)
  |((with_reducible show gU _ _ _ _ _ _ _ _ _ _ _ _ _);first|refine zZ m λ_ m=>?_|refine Ks2 m λ_ _ m=>?_|refine Ks3 m λ_ _ _ m=>?_|refine rm m ih λ_ m=>?_|refine sh m ih λ_ _ m=>?_)
  |(apply Iq e m<;>intro e m)
  |(cases m;done)
  |(cases m;(try cases z);(try cases z);simp[e];done)
  |(simp[e]<;>first|(cases m;exact p _ _ _ abq z)|exact g _ _ abq|exact g _ _ ⟨_,abq,m⟩|exact g _ _ ⟨abq,m⟩|exact g _ _ ⟨_,_,abq,m⟩|skip)
  |(dsimp only[ew] at m)
  |apply wg 999
  |(have e:=Aj e E;clear E)
  |(obtain⟨_,e,m⟩:=Kv e m)
  |(split<;>rename_i q_<;>first|(have e:=Aj e q_;clear q_)|(have e:=Aj e (Yr.2 q_);clear q_))):G:=h
end Go.lD
