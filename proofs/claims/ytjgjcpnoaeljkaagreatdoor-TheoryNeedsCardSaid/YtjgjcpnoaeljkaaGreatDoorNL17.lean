/- Part of the proof of TheoryNeeds: layer. -/
import Derived.Test.YtjgjcpnoaeljkaaGreatDoorNL16
set_option linter.all false
namespace Go.kC
open Go Go.eU
class Kc (P:Program) (g:FuncId) (S:outParam Prop):Prop where
 h:S
section
variable{P:Program} {T:dt} {EE:List Nat} {ops:Array Oper} {q:Qt} {bs:List Bool} {rest:List Oper} {K:Fr->cZ->Prop} {H:cZ} {d:Option Nat} {as:List AV} {g:FuncId} {fr:Fr} {ρ α β γ δ ε:Type} {r:ρ} {S:Prop}
def Kf1[i:Kc P g S]{o:Option α}{F:α->Option ρ}{z:α->AV}{W:α->cZ}(m:cM o F=some r)(a:∀y,F y=some r->gn P T EE ops rest K (fr.put d (z y)) (W y))(h:S->∀y,o=some y->ds P T g as H (z y) (W y):=by intro h _ hm;first|exact h hm|exact h _ hm|exact h _ ‹_› hm|exact h _ aaQ hm|exact h _ ‹_› aaQ hm):il P T EE ops (.func (.func g) [] []) as d rest K fr H:=
 qc m (h i.h _) a
def Hm[i:Kc P g S]{o:Option (α×β)}{F:α->β->Option ρ}{z:α->β->AV}{W:α->β->cZ}(m:cW o F=some r)(b:∀y a,F y a=some r->gn P T EE ops rest K (fr.put d (z y a)) (W y a))(h:S->∀y a,o=some (y,a)->ds P T g as H (z y a) (W y a):=by intro h _ _ hm;first|exact h hm|exact h _ hm|exact h _ ‹_› hm|exact h _ aaQ hm|exact h _ ‹_› aaQ hm):il P T EE ops (.func (.func g) [] []) as d rest K fr H:=
 s8 m (h i.h _ _) b
def Kf3[i:Kc P g S]{o:Option (α×β×γ)}{F:α->β->γ->Option ρ}{z:α->β->γ->AV}{W:α->β->γ->cZ}(m:gX o F=some r)(b:∀y a u,F y a u=some r->gn P T EE ops rest K (fr.put d (z y a u)) (W y a u))(h:S->∀y a u,o=some (y,a,u)->ds P T g as H (z y a u) (W y a u):=by intro h _ _ _ hm;first|exact h hm|exact h _ hm|exact h _ ‹_› hm|exact h _ aaQ hm|exact h _ ‹_› aaQ hm):il P T EE ops (.func (.func g) [] []) as d rest K fr H:=
 RM m (h i.h _ _ _) b
def N9[i:Kc P g S]{o:Option α}{F:α->Option ρ}{z:α->AV}{W:α->cZ}(m:cM o F=some r)(a:∀y,F y=some r->eR P T EE ops q bs rest K (fr.put d (z y)) (W y))(h:S->∀y,o=some y->ds P T g as H (z y) (W y):=by intro h _ hm;first|exact h hm|exact h _ hm|exact h _ ‹_› hm|exact h _ aaQ hm|exact h _ ‹_› aaQ hm)(b:∀y,QK q H (W y):=by simp):jw P T EE ops q bs (.func (.func g) [] []) as d rest K fr H:=
 lI m (h i.h _) a b
def TA[i:Kc P g S]{o:Option (α×β)}{F:α->β->Option ρ}{z:α->β->AV}{W:α->β->cZ}(m:cW o F=some r)(b:∀y a,F y a=some r->eR P T EE ops q bs rest K (fr.put d (z y a)) (W y a))(h:S->∀y a,o=some (y,a)->ds P T g as H (z y a) (W y a):=by intro h _ _ hm;first|exact h hm|exact h _ hm|exact h _ ‹_› hm|exact h _ aaQ hm|exact h _ ‹_› aaQ hm)(c:∀y a,QK q H (W y a):=by simp):jw P T EE ops q bs (.func (.func g) [] []) as d rest K fr H:=
 nW m (h i.h _ _) b c
def Ks3[i:Kc P g S]{o:Option (α×β×γ)}{F:α->β->γ->Option ρ}{z:α->β->γ->AV}{W:α->β->γ->cZ}(m:gX o F=some r)(b:∀y a u,F y a u=some r->eR P T EE ops q bs rest K (fr.put d (z y a u)) (W y a u))(h:S->∀y a u,o=some (y,a,u)->ds P T g as H (z y a u) (W y a u):=by intro h _ _ _ hm;first|exact h hm|exact h _ hm|exact h _ ‹_› hm|exact h _ aaQ hm|exact h _ ‹_› aaQ hm)(c:∀y a u,QK q H (W y a u):=by simp):jw P T EE ops q bs (.func (.func g) [] []) as d rest K fr H:=
 Cs3 m (h i.h _ _ _) b c
end
def aa{G:Prop} (h:G:=by
 repeat' first
  |((with_reducible show il _ _ _ _ _ _ _ _ _ _ _);first|refine Kf1 m λ_ m=>?_|refine Hm m λ_ _ m=>?_|refine Kf3 m λ_ _ _ m=>?_|refine qc m ih λ_ m=>?_|refine s8 m ih λ_ _ m=>?_|refine RM m ih λ_ _ _ m=>?_)
  |((with_reducible show jw _ _ _ _ _ _ _ _ _ _ _ _ _);first|refine N9 m λ_ m=>?_|refine TA m λ_ _ m=>?_|refine Ks3 m λ_ _ _ m=>?_|refine lI m ih λ_ m=>?_|refine nW m ih λ_ _ m=>?_)
  |(apply Iq e m<;>intro e m)
  |(cases m;done)
  |(cases m;(try cases z);(try cases z);simp[e];done)
  |(simp[e]<;>first|(cases m;exact p _ _ _ aaQ z)|exact g _ _ aaQ|exact g _ _ ⟨_,aaQ,m⟩|exact g _ _ ⟨aaQ,m⟩|exact g _ _ ⟨_,_,aaQ,m⟩|skip)
  |(dsimp only[dh] at m)
  |apply wg 999
  |(have e:=Aj e E;clear E)
  |(obtain⟨_,e,m⟩:=Ac e m)
  |(split<;>rename_i q_<;>first|(have e:=Aj e q_;clear q_)|(have e:=Aj e (Nb.2 q_);clear q_))):G:=h
end Go.kC
