/- Part of the proof of SchemeLists: layer. -/
import Derived.Test.YtpgdkkomegalnaaGreatDoorLL11
set_option linter.all false
namespace Go.kY
open Go Go.fD
class Kc (P:Program) (g:FuncId) (S:outParam Prop):Prop where
 h:S
section
variable{P:Program} {T:eN} {EE:List Nat} {ops:Array Oper} {q:Qt} {bs:List Bool} {rest:List Oper} {K:Fr->dY->Prop} {H:dY} {d:Option Nat} {as:List AV} {g:FuncId} {fr:Fr} {ρ α β γ δ ε:Type} {r:ρ} {S:Prop}
def Kf1[i:Kc P g S]{o:Option α}{F:α->Option ρ}{z:α->AV}{W:α->dY}(m:dH o F=some r)(a:∀y,F y=some r->iK P T EE ops rest K (fr.put d (z y)) (W y))(h:S->∀y,o=some y->eO P T g as H (z y) (W y):=by intro h _ hm;first|exact h hm|exact h _ hm|exact h _ ‹_› hm|exact h _ abE hm|exact h _ ‹_› abE hm):lC P T EE ops (.func (.func g) [] []) as d rest K fr H:=
 sS m (h i.h _) a
def Kf2[i:Kc P g S]{o:Option (α×β)}{F:α->β->Option ρ}{z:α->β->AV}{W:α->β->dY}(m:dU o F=some r)(b:∀y a,F y a=some r->iK P T EE ops rest K (fr.put d (z y a)) (W y a))(h:S->∀y a,o=some (y,a)->eO P T g as H (z y a) (W y a):=by intro h _ _ hm;first|exact h hm|exact h _ hm|exact h _ ‹_› hm|exact h _ abE hm|exact h _ ‹_› abE hm):lC P T EE ops (.func (.func g) [] []) as d rest K fr H:=
 E9 m (h i.h _ _) b
def Kf3[i:Kc P g S]{o:Option (α×β×γ)}{F:α->β->γ->Option ρ}{z:α->β->γ->AV}{W:α->β->γ->dY}(m:eZ o F=some r)(b:∀y a u,F y a u=some r->iK P T EE ops rest K (fr.put d (z y a u)) (W y a u))(h:S->∀y a u,o=some (y,a,u)->eO P T g as H (z y a u) (W y a u):=by intro h _ _ _ hm;first|exact h hm|exact h _ hm|exact h _ ‹_› hm|exact h _ abE hm|exact h _ ‹_› abE hm):lC P T EE ops (.func (.func g) [] []) as d rest K fr H:=
 Ud m (h i.h _ _ _) b
def Ak[i:Kc P g S]{o:Option α}{F:α->Option ρ}{z:α->AV}{W:α->dY}(m:dH o F=some r)(a:∀y,F y=some r->gh P T EE ops q bs rest K (fr.put d (z y)) (W y))(h:S->∀y,o=some y->eO P T g as H (z y) (W y):=by intro h _ hm;first|exact h hm|exact h _ hm|exact h _ ‹_› hm|exact h _ abE hm|exact h _ ‹_› abE hm)(b:∀y,QK q H (W y):=by simp):gS P T EE ops q bs (.func (.func g) [] []) as d rest K fr H:=
 qO m (h i.h _) a b
def Ks2[i:Kc P g S]{o:Option (α×β)}{F:α->β->Option ρ}{z:α->β->AV}{W:α->β->dY}(m:dU o F=some r)(b:∀y a,F y a=some r->gh P T EE ops q bs rest K (fr.put d (z y a)) (W y a))(h:S->∀y a,o=some (y,a)->eO P T g as H (z y a) (W y a):=by intro h _ _ hm;first|exact h hm|exact h _ hm|exact h _ ‹_› hm|exact h _ abE hm|exact h _ ‹_› abE hm)(c:∀y a,QK q H (W y a):=by simp):gS P T EE ops q bs (.func (.func g) [] []) as d rest K fr H:=
 sZ m (h i.h _ _) b c
def Ks3[i:Kc P g S]{o:Option (α×β×γ)}{F:α->β->γ->Option ρ}{z:α->β->γ->AV}{W:α->β->γ->dY}(m:eZ o F=some r)(b:∀y a u,F y a u=some r->gh P T EE ops q bs rest K (fr.put d (z y a u)) (W y a u))(h:S->∀y a u,o=some (y,a,u)->eO P T g as H (z y a u) (W y a u):=by intro h _ _ _ hm;first|exact h hm|exact h _ hm|exact h _ ‹_› hm|exact h _ abE hm|exact h _ ‹_› abE hm)(c:∀y a u,QK q H (W y a u):=by simp):gS P T EE ops q bs (.func (.func g) [] []) as d rest K fr H:=
 IX m (h i.h _ _ _) b c
end
def aa{G:Prop} (h:G:=by
 repeat' first
  |((with_reducible show lC _ _ _ _ _ _ _ _ _ _ _);first|refine Kf1 m λ_ m=>?_|refine Kf2 m λ_ _ m=>?_|refine Kf3 m λ_ _ _ m=>?_|refine sS m ih λ_ m=>?_|refine E9 m ih λ_ _ m=>?_|refine Ud m ih λ_ _ _ m=>?_)
  |((with_reducible show gS _ _ _ _ _ _ _ _ _ _ _ _ _);first|refine Ak m λ_ m=>?_|refine Ks2 m λ_ _ m=>?_|refine Ks3 m λ_ _ _ m=>?_|refine qO m ih λ_ m=>?_|refine sZ m ih λ_ _ m=>?_)
  |(apply Iq e m<;>intro e m)
  |(cases m;done)
  |(cases m;(try cases z);(try cases z);simp[e];done)
  |(simp[e]<;>first|(cases m;exact p _ _ _ abE z)|exact g _ _ abE|exact g _ _ ⟨_,abE,m⟩|exact g _ _ ⟨abE,m⟩|exact g _ _ ⟨_,_,abE,m⟩|skip)
  |(dsimp only[eB] at m)
  |apply wg 999
  |(have e:=Aj e E;clear E)
  |(obtain⟨_,e,m⟩:=Ou e m)
  |(split<;>rename_i q_<;>first|(have e:=Aj e q_;clear q_)|(have e:=Aj e (Wk.2 q_);clear q_))):G:=h
end Go.kY
