/- Part of the proof of SchemeAccepted: layer. -/
import Derived.Test.YtpgdkkomegalnaaGreatDoorAL11
set_option linter.all false
namespace Go.kY
open Go Go.fH
class Kc (P:Program) (g:FuncId) (S:outParam Prop):Prop where
 h:S
section
variable{P:Program} {T:eH} {EE:List Nat} {ops:Array Oper} {q:Qt} {bs:List Bool} {rest:List Oper} {K:Fr->dT->Prop} {H:dT} {d:Option Nat} {as:List AV} {g:FuncId} {fr:Fr} {ρ α β γ δ ε:Type} {r:ρ} {S:Prop}
def Kf1[i:Kc P g S]{o:Option α}{F:α->Option ρ}{z:α->AV}{W:α->dT}(m:dE o F=some r)(a:∀y,F y=some r->iC P T EE ops rest K (fr.put d (z y)) (W y))(h:S->∀y,o=some y->eI P T g as H (z y) (W y):=by intro h _ hm;first|exact h hm|exact h _ hm|exact h _ ‹_› hm|exact h _ abx hm|exact h _ ‹_› abx hm):lz P T EE ops (.func (.func g) [] []) as d rest K fr H:=
 pS m (h i.h _) a
def Kf2[i:Kc P g S]{o:Option (α×β)}{F:α->β->Option ρ}{z:α->β->AV}{W:α->β->dT}(m:dS o F=some r)(b:∀y a,F y a=some r->iC P T EE ops rest K (fr.put d (z y a)) (W y a))(h:S->∀y a,o=some (y,a)->eI P T g as H (z y a) (W y a):=by intro h _ _ hm;first|exact h hm|exact h _ hm|exact h _ ‹_› hm|exact h _ abx hm|exact h _ ‹_› abx hm):lz P T EE ops (.func (.func g) [] []) as d rest K fr H:=
 Ds m (h i.h _ _) b
def Kf3[i:Kc P g S]{o:Option (α×β×γ)}{F:α->β->γ->Option ρ}{z:α->β->γ->AV}{W:α->β->γ->dT}(m:fE o F=some r)(b:∀y a u,F y a u=some r->iC P T EE ops rest K (fr.put d (z y a u)) (W y a u))(h:S->∀y a u,o=some (y,a,u)->eI P T g as H (z y a u) (W y a u):=by intro h _ _ _ hm;first|exact h hm|exact h _ hm|exact h _ ‹_› hm|exact h _ abx hm|exact h _ ‹_› abx hm):lz P T EE ops (.func (.func g) [] []) as d rest K fr H:=
 RO m (h i.h _ _ _) b
def zJ[i:Kc P g S]{o:Option α}{F:α->Option ρ}{z:α->AV}{W:α->dT}(m:dE o F=some r)(a:∀y,F y=some r->fS P T EE ops q bs rest K (fr.put d (z y)) (W y))(h:S->∀y,o=some y->eI P T g as H (z y) (W y):=by intro h _ hm;first|exact h hm|exact h _ hm|exact h _ ‹_› hm|exact h _ abx hm|exact h _ ‹_› abx hm)(b:∀y,QK q H (W y):=by simp):gI P T EE ops q bs (.func (.func g) [] []) as d rest K fr H:=
 qI m (h i.h _) a b
def Ks2[i:Kc P g S]{o:Option (α×β)}{F:α->β->Option ρ}{z:α->β->AV}{W:α->β->dT}(m:dS o F=some r)(b:∀y a,F y a=some r->fS P T EE ops q bs rest K (fr.put d (z y a)) (W y a))(h:S->∀y a,o=some (y,a)->eI P T g as H (z y a) (W y a):=by intro h _ _ hm;first|exact h hm|exact h _ hm|exact h _ ‹_› hm|exact h _ abx hm|exact h _ ‹_› abx hm)(c:∀y a,QK q H (W y a):=by simp):gI P T EE ops q bs (.func (.func g) [] []) as d rest K fr H:=
 tq m (h i.h _ _) b c
def Ks3[i:Kc P g S]{o:Option (α×β×γ)}{F:α->β->γ->Option ρ}{z:α->β->γ->AV}{W:α->β->γ->dT}(m:fE o F=some r)(b:∀y a u,F y a u=some r->fS P T EE ops q bs rest K (fr.put d (z y a u)) (W y a u))(h:S->∀y a u,o=some (y,a,u)->eI P T g as H (z y a u) (W y a u):=by intro h _ _ _ hm;first|exact h hm|exact h _ hm|exact h _ ‹_› hm|exact h _ abx hm|exact h _ ‹_› abx hm)(c:∀y a u,QK q H (W y a u):=by simp):gI P T EE ops q bs (.func (.func g) [] []) as d rest K fr H:=
 HP m (h i.h _ _ _) b c
end
def aa{G:Prop} (h:G:=by
 repeat' first
  |((with_reducible show lz _ _ _ _ _ _ _ _ _ _ _);first|refine Kf1 m λ_ m=>?_|refine Kf2 m λ_ _ m=>?_|refine Kf3 m λ_ _ _ m=>?_|refine pS m ih λ_ m=>?_|refine Ds m ih λ_ _ m=>?_|refine RO m ih λ_ _ _ m=>?_)
  |((with_reducible show gI _ _ _ _ _ _ _ _ _ _ _ _ _);first|refine zJ m λ_ m=>?_|refine Ks2 m λ_ _ m=>?_|refine Ks3 m λ_ _ _ m=>?_|refine qI m ih λ_ m=>?_|refine tq m ih λ_ _ m=>?_)
  |(apply Iq e m<;>intro e m)
  |(cases m;done)
  |(cases m;(try cases z);(try cases z);simp[e];done)
  |(simp[e]<;>first|(cases m;exact p _ _ _ abx z)|exact g _ _ abx|exact g _ _ ⟨_,abx,m⟩|exact g _ _ ⟨abx,m⟩|exact g _ _ ⟨_,_,abx,m⟩|skip)
  |(dsimp only[ew] at m)
  |apply wg 999
  |(have e:=Aj e E;clear E)
  |(obtain⟨_,e,m⟩:=MX e m)
  |(split<;>rename_i q_<;>first|(have e:=Aj e q_;clear q_)|(have e:=Aj e (Vh.2 q_);clear q_))):G:=h
end Go.kY
