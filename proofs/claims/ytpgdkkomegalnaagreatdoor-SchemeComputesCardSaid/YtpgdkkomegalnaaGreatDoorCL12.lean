/- Part of the proof of SchemeComputes: layer. -/
import Derived.Test.YtpgdkkomegalnaaGreatDoorCL11
set_option linter.all false
namespace Go.ld
open Go Go.fF
class Kc (P:Program) (g:FuncId) (S:outParam Prop):Prop where
 h:S
section
variable{P:Program} {T:eO} {EE:List Nat} {ops:Array Oper} {q:Qt} {bs:List Bool} {rest:List Oper} {K:Fr->dZ->Prop} {H:dZ} {d:Option Nat} {as:List AV} {g:FuncId} {fr:Fr} {ρ α β γ δ ε:Type} {r:ρ} {S:Prop}
def Kf1[i:Kc P g S]{o:Option α}{F:α->Option ρ}{z:α->AV}{W:α->dZ}(m:dH o F=some r)(a:∀y,F y=some r->iQ P T EE ops rest K (fr.put d (z y)) (W y))(h:S->∀y,o=some y->eP P T g as H (z y) (W y):=by intro h _ hm;first|exact h hm|exact h _ hm|exact h _ ‹_› hm|exact h _ aaD hm|exact h _ ‹_› aaD hm):lP P T EE ops (.func (.func g) [] []) as d rest K fr H:=
 qK m (h i.h _) a
def Kf2[i:Kc P g S]{o:Option (α×β)}{F:α->β->Option ρ}{z:α->β->AV}{W:α->β->dZ}(m:dV o F=some r)(b:∀y a,F y a=some r->iQ P T EE ops rest K (fr.put d (z y a)) (W y a))(h:S->∀y a,o=some (y,a)->eP P T g as H (z y a) (W y a):=by intro h _ _ hm;first|exact h hm|exact h _ hm|exact h _ ‹_› hm|exact h _ aaD hm|exact h _ ‹_› aaD hm):lP P T EE ops (.func (.func g) [] []) as d rest K fr H:=
 EJ m (h i.h _ _) b
def Kf3[i:Kc P g S]{o:Option (α×β×γ)}{F:α->β->γ->Option ρ}{z:α->β->γ->AV}{W:α->β->γ->dZ}(m:eT o F=some r)(b:∀y a u,F y a u=some r->iQ P T EE ops rest K (fr.put d (z y a u)) (W y a u))(h:S->∀y a u,o=some (y,a,u)->eP P T g as H (z y a u) (W y a u):=by intro h _ _ _ hm;first|exact h hm|exact h _ hm|exact h _ ‹_› hm|exact h _ aaD hm|exact h _ ‹_› aaD hm):lP P T EE ops (.func (.func g) [] []) as d rest K fr H:=
 U5 m (h i.h _ _ _) b
def AK[i:Kc P g S]{o:Option α}{F:α->Option ρ}{z:α->AV}{W:α->dZ}(m:dH o F=some r)(a:∀y,F y=some r->gj P T EE ops q bs rest K (fr.put d (z y)) (W y))(h:S->∀y,o=some y->eP P T g as H (z y) (W y):=by intro h _ hm;first|exact h hm|exact h _ hm|exact h _ ‹_› hm|exact h _ aaD hm|exact h _ ‹_› aaD hm)(b:∀y,QK q H (W y):=by simp):gS P T EE ops q bs (.func (.func g) [] []) as d rest K fr H:=
 qH m (h i.h _) a b
def Ks2[i:Kc P g S]{o:Option (α×β)}{F:α->β->Option ρ}{z:α->β->AV}{W:α->β->dZ}(m:dV o F=some r)(b:∀y a,F y a=some r->gj P T EE ops q bs rest K (fr.put d (z y a)) (W y a))(h:S->∀y a,o=some (y,a)->eP P T g as H (z y a) (W y a):=by intro h _ _ hm;first|exact h hm|exact h _ hm|exact h _ ‹_› hm|exact h _ aaD hm|exact h _ ‹_› aaD hm)(c:∀y a,QK q H (W y a):=by simp):gS P T EE ops q bs (.func (.func g) [] []) as d rest K fr H:=
 uq m (h i.h _ _) b c
def Ks3[i:Kc P g S]{o:Option (α×β×γ)}{F:α->β->γ->Option ρ}{z:α->β->γ->AV}{W:α->β->γ->dZ}(m:eT o F=some r)(b:∀y a u,F y a u=some r->gj P T EE ops q bs rest K (fr.put d (z y a u)) (W y a u))(h:S->∀y a u,o=some (y,a,u)->eP P T g as H (z y a u) (W y a u):=by intro h _ _ _ hm;first|exact h hm|exact h _ hm|exact h _ ‹_› hm|exact h _ aaD hm|exact h _ ‹_› aaD hm)(c:∀y a u,QK q H (W y a u):=by simp):gS P T EE ops q bs (.func (.func g) [] []) as d rest K fr H:=
 JH m (h i.h _ _ _) b c
end
def aa{G:Prop} (h:G:=by
 repeat' first
  |((with_reducible show lP _ _ _ _ _ _ _ _ _ _ _);first|refine Kf1 m λ_ m=>?_|refine Kf2 m λ_ _ m=>?_|refine Kf3 m λ_ _ _ m=>?_|refine qK m ih λ_ m=>?_|refine EJ m ih λ_ _ m=>?_|refine U5 m ih λ_ _ _ m=>?_)
  |((with_reducible show gS _ _ _ _ _ _ _ _ _ _ _ _ _);first|refine AK m λ_ m=>?_|refine Ks2 m λ_ _ m=>?_|refine Ks3 m λ_ _ _ m=>?_|refine qH m ih λ_ m=>?_|refine uq m ih λ_ _ m=>?_)
  |(apply Iq e m<;>intro e m)
  |(cases m;done)
  |(cases m;(try cases z);(try cases z);simp[e];done)
  |(simp[e]<;>first|(cases m;exact p _ _ _ aaD z)|exact g _ _ aaD|exact g _ _ ⟨_,aaD,m⟩|exact g _ _ ⟨aaD,m⟩|exact g _ _ ⟨_,_,aaD,m⟩|skip)
  |(dsimp only[eC] at m)
  |apply wg 999
  |(have e:=Aj e E;clear E)
  |(obtain⟨_,e,m⟩:=OQ e m)
  |(split<;>rename_i q_<;>first|(have e:=Aj e q_;clear q_)|(have e:=Aj e (W4.2 q_);clear q_))):G:=h
end Go.ld
