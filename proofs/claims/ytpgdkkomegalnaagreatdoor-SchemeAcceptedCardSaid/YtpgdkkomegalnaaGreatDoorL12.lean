/- Part of the proof of SchemeAccepted: layer. -/
import Derived.Test.YtpgdkkomegalnaaGreatDoorL11
set_option linter.all false
namespace Go.kY
open Go Go.fN
class Kc (P:Program) (g:FuncId) (S:outParam Prop):Prop where
 h:S
section
variable{P:Program} {T:eA} {EE:List Nat} {ops:Array Oper} {q:Qt} {bs:List Bool} {rest:List Oper} {K:Fr->dS->Prop} {H:dS} {d:Option Nat} {as:List AV} {g:FuncId} {fr:Fr} {ρ α β γ δ ε:Type} {r:ρ} {S:Prop}
def oo[i:Kc P g S]{o:Option α}{F:α->Option ρ}{z:α->AV}{W:α->dS}(m:dE o F=some r)(a:∀y,F y=some r->hJ P T EE ops rest K (fr.put d (z y)) (W y))(h:S->∀y,o=some y->et P T g as H (z y) (W y):=by intro h _ hm;first|exact h hm|exact h _ hm|exact h _ ‹_› hm|exact h _ VW hm|exact h _ ‹_› VW hm):kB P T EE ops (.func (.func g) [] []) as d rest K fr H:=
 zq m (h i.h _) a
def tw[i:Kc P g S]{o:Option (α×β)}{F:α->β->Option ρ}{z:α->β->AV}{W:α->β->dS}(m:dR o F=some r)(b:∀y a,F y a=some r->hJ P T EE ops rest K (fr.put d (z y a)) (W y a))(h:S->∀y a,o=some (y,a)->et P T g as H (z y a) (W y a):=by intro h _ _ hm;first|exact h hm|exact h _ hm|exact h _ ‹_› hm|exact h _ VW hm|exact h _ ‹_› VW hm):kB P T EE ops (.func (.func g) [] []) as d rest K fr H:=
 zp m (h i.h _ _) b
def RC[i:Kc P g S]{o:Option (α×β×γ)}{F:α->β->γ->Option ρ}{z:α->β->γ->AV}{W:α->β->γ->dS}(m:fB o F=some r)(b:∀y a u,F y a u=some r->hJ P T EE ops rest K (fr.put d (z y a u)) (W y a u))(h:S->∀y a u,o=some (y,a,u)->et P T g as H (z y a u) (W y a u):=by intro h _ _ _ hm;first|exact h hm|exact h _ hm|exact h _ ‹_› hm|exact h _ VW hm|exact h _ ‹_› VW hm):kB P T EE ops (.func (.func g) [] []) as d rest K fr H:=
 VR m (h i.h _ _ _) b
def fO[i:Kc P g S]{o:Option α}{F:α->Option ρ}{z:α->AV}{W:α->dS}(m:dE o F=some r)(a:∀y,F y=some r->fA P T EE ops q bs rest K (fr.put d (z y)) (W y))(h:S->∀y,o=some y->et P T g as H (z y) (W y):=by intro h _ hm;first|exact h hm|exact h _ hm|exact h _ ‹_› hm|exact h _ VW hm|exact h _ ‹_› VW hm)(b:∀y,QK q H (W y):=by simp):gM P T EE ops q bs (.func (.func g) [] []) as d rest K fr H:=
 qP m (h i.h _) a b
def L4[i:Kc P g S]{o:Option (α×β)}{F:α->β->Option ρ}{z:α->β->AV}{W:α->β->dS}(m:dR o F=some r)(b:∀y a,F y a=some r->fA P T EE ops q bs rest K (fr.put d (z y a)) (W y a))(h:S->∀y a,o=some (y,a)->et P T g as H (z y a) (W y a):=by intro h _ _ hm;first|exact h hm|exact h _ hm|exact h _ ‹_› hm|exact h _ VW hm|exact h _ ‹_› VW hm)(c:∀y a,QK q H (W y a):=by simp):gM P T EE ops q bs (.func (.func g) [] []) as d rest K fr H:=
 o4 m (h i.h _ _) b c
def Ks3[i:Kc P g S]{o:Option (α×β×γ)}{F:α->β->γ->Option ρ}{z:α->β->γ->AV}{W:α->β->γ->dS}(m:fB o F=some r)(b:∀y a u,F y a u=some r->fA P T EE ops q bs rest K (fr.put d (z y a u)) (W y a u))(h:S->∀y a u,o=some (y,a,u)->et P T g as H (z y a u) (W y a u):=by intro h _ _ _ hm;first|exact h hm|exact h _ hm|exact h _ ‹_› hm|exact h _ VW hm|exact h _ ‹_› VW hm)(c:∀y a u,QK q H (W y a u):=by simp):gM P T EE ops q bs (.func (.func g) [] []) as d rest K fr H:=
 Ie m (h i.h _ _ _) b c
end
def aa{G:Prop} (h:G:=by
 repeat' first
  |refine oo m λ_ m=>?_|refine fO m λ_ m=>?_|refine tw m λ_ _ m=>?_|refine L4 m λ_ _ m=>?_|refine RC m λ_ _ _ m=>?_|refine Ks3 m λ_ _ _ m=>?_|refine zq m ih λ_ m=>?_|refine qP m ih λ_ m=>?_|refine zp m ih λ_ _ m=>?_|refine o4 m ih λ_ _ m=>?_|refine VR m ih λ_ _ _ m=>?_
  |(apply Iq e m<;>intro e m)
  |(cases m;done)
  |(cases m;(try cases z);(try cases z);simp[e];done)
  |(simp[e];cases m;exact p _ _ _ VW z)
  |(simp[e];exact g _ _ VW)|simp[e]
  |(dsimp only[eo] at m)
  |apply wg 999
  |(have e:=Aj e E;clear E)
  |(obtain⟨_,e,m⟩:=iR e m)):G:=h
end Go.kY
