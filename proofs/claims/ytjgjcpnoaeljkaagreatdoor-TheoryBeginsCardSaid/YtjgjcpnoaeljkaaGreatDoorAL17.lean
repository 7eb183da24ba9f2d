/- Part of the proof of TheoryBegins: layer. -/
import Derived.Test.YtjgjcpnoaeljkaaGreatDoorAL16
set_option linter.all false
namespace Go.kQ
open Go Go.eZ
class Kc (P:Program) (g:FuncId) (S:outParam Prop):Prop where
 h:S
section
variable{P:Program} {T:dt} {EE:List Nat} {ops:Array Oper} {q:Qt} {bs:List Bool} {rest:List Oper} {K:Fr->cZ->Prop} {H:cZ} {d:Option Nat} {as:List AV} {g:FuncId} {fr:Fr} {ρ α β γ δ ε:Type} {r:ρ} {S:Prop}
def Kf1[i:Kc P g S]{o:Option α}{F:α->Option ρ}{z:α->AV}{W:α->cZ}(m:cM o F=some r)(a:∀y,F y=some r->gx P T EE ops rest K (fr.put d (z y)) (W y))(h:S->∀y,o=some y->ds P T g as H (z y) (W y):=by intro h _ hm;first|exact h hm|exact h _ hm|exact h _ ‹_› hm|exact h _ adg hm|exact h _ ‹_› adg hm):iq P T EE ops (.func (.func g) [] []) as d rest K fr H:=
 p_ m (h i.h _) a
def HA[i:Kc P g S]{o:Option (α×β)}{F:α->β->Option ρ}{z:α->β->AV}{W:α->β->cZ}(m:cW o F=some r)(b:∀y a,F y a=some r->gx P T EE ops rest K (fr.put d (z y a)) (W y a))(h:S->∀y a,o=some (y,a)->ds P T g as H (z y a) (W y a):=by intro h _ _ hm;first|exact h hm|exact h _ hm|exact h _ ‹_› hm|exact h _ adg hm|exact h _ ‹_› adg hm):iq P T EE ops (.func (.func g) [] []) as d rest K fr H:=
 sy m (h i.h _ _) b
def Kf3[i:Kc P g S]{o:Option (α×β×γ)}{F:α->β->γ->Option ρ}{z:α->β->γ->AV}{W:α->β->γ->cZ}(m:g_ o F=some r)(b:∀y a u,F y a u=some r->gx P T EE ops rest K (fr.put d (z y a u)) (W y a u))(h:S->∀y a u,o=some (y,a,u)->ds P T g as H (z y a u) (W y a u):=by intro h _ _ _ hm;first|exact h hm|exact h _ hm|exact h _ ‹_› hm|exact h _ adg hm|exact h _ ‹_› adg hm):iq P T EE ops (.func (.func g) [] []) as d rest K fr H:=
 Tp m (h i.h _ _ _) b
def Oj[i:Kc P g S]{o:Option α}{F:α->Option ρ}{z:α->AV}{W:α->cZ}(m:cM o F=some r)(a:∀y,F y=some r->eP P T EE ops q bs rest K (fr.put d (z y)) (W y))(h:S->∀y,o=some y->ds P T g as H (z y) (W y):=by intro h _ hm;first|exact h hm|exact h _ hm|exact h _ ‹_› hm|exact h _ adg hm|exact h _ ‹_› adg hm)(b:∀y,QK q H (W y):=by simp):jA P T EE ops q bs (.func (.func g) [] []) as d rest K fr H:=
 lI m (h i.h _) a b
def TF[i:Kc P g S]{o:Option (α×β)}{F:α->β->Option ρ}{z:α->β->AV}{W:α->β->cZ}(m:cW o F=some r)(b:∀y a,F y a=some r->eP P T EE ops q bs rest K (fr.put d (z y a)) (W y a))(h:S->∀y a,o=some (y,a)->ds P T g as H (z y a) (W y a):=by intro h _ _ hm;first|exact h hm|exact h _ hm|exact h _ ‹_› hm|exact h _ adg hm|exact h _ ‹_› adg hm)(c:∀y a,QK q H (W y a):=by simp):jA P T EE ops q bs (.func (.func g) [] []) as d rest K fr H:=
 oa m (h i.h _ _) b c
def Ks3[i:Kc P g S]{o:Option (α×β×γ)}{F:α->β->γ->Option ρ}{z:α->β->γ->AV}{W:α->β->γ->cZ}(m:g_ o F=some r)(b:∀y a u,F y a u=some r->eP P T EE ops q bs rest K (fr.put d (z y a u)) (W y a u))(h:S->∀y a u,o=some (y,a,u)->ds P T g as H (z y a u) (W y a u):=by intro h _ _ _ hm;first|exact h hm|exact h _ hm|exact h _ ‹_› hm|exact h _ adg hm|exact h _ ‹_› adg hm)(c:∀y a u,QK q H (W y a u):=by simp):jA P T EE ops q bs (.func (.func g) [] []) as d rest K fr H:=
 Cs3 m (h i.h _ _ _) b c
end
def aa{G:Prop} (h:G:=by
 repeat' first
  |((with_reducible show iq _ _ _ _ _ _ _ _ _ _ _);first|refine Kf1 m λ_ m=>?_|refine HA m λ_ _ m=>?_|refine Kf3 m λ_ _ _ m=>?_|refine p_ m ih λ_ m=>?_|refine sy m ih λ_ _ m=>?_|refine Tp m ih λ_ _ _ m=>?_)
  |((with_reducible show jA _ _ _ _ _ _ _ _ _ _ _ _ _);first|refine Oj m λ_ m=>?_|refine TF m λ_ _ m=>?_|refine Ks3 m λ_ _ _ m=>?_|refine lI m ih λ_ m=>?_|refine oa m ih λ_ _ m=>?_)
  |(apply Iq e m<;>intro e m)
  |(cases m;done)
  |(cases m;(try cases z);(try cases z);simp[e];done)
  |(simp[e]<;>first|(cases m;exact p _ _ _ adg z)|exact g _ _ adg|exact g _ _ ⟨_,adg,m⟩|exact g _ _ ⟨adg,m⟩|exact g _ _ ⟨_,_,adg,m⟩|skip)
  |(dsimp only[dk] at m)
  |apply wg 999
  |(have e:=Aj e E;clear E)
  |(obtain⟨_,e,m⟩:=Ah e m)
  |(split<;>rename_i q_<;>first|(have e:=Aj e q_;clear q_)|(have e:=Aj e (L5.2 q_);clear q_))):G:=h
end Go.kQ
