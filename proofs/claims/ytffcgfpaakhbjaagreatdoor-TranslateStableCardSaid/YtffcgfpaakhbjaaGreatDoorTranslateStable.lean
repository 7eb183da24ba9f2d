/- What is proved: TranslateStable: for every list of numbers the law returns true, and its argument reads behind the call as before. No condition beside the three listed tables, which the card ties to the program's text. -/
import Derived.Test.YtffcgfpaakhbjaaGreatDoorRows
import Derived.Test.YtffcgfpaakhbjaaGreatDoorCards
import Derived.Test.YtffcgfpaakhbjaaGreatDoorTie
import Derived.Test.YtffcgfpaakhbjaaGreatDoorW2
import Derived.Test.YtffcgfpaakhbjaaGreatDoorPT3
import Derived.Test.YtffcgfpaakhbjaaGreatDoorL21
set_option linter.all false
namespace Go.Proofs.YtffcgfpaakhbjaaGreatDoor
open Go Go.jN Go.dG Go.ChangeShapes Go.WideShapes Go.ChangeAt Go.RowKit
def Tryz.own:ownKnob Tryz.prog.godebug=none:=by kernel_rfl
def Tryz.laidOut:laidOutB Tryz.prog=true:=by kernel_rfl
def Ko(x:c_):List Value:=[.bool x.aec,.bool x.typed,.int .i64 x.cx,.int .i64 x.dy,.int .i64 x.aea,.int .i64 x.r7,.int .i64 x.vars,.int .i64 x.aeg]
def Mu:List.flatMap (λx=>c_.cs x) lY=(lY.flatMap Ko).map AV.sc:=by kernel_rfl
def Ct:cV:=λg=>if g=0 then some (AV.agg ((lY.flatMap Ko).map AV.sc))else if g=1 then some (AV.agg (List.map (λn=>AV.sc (Value.int .i64 n)) oM))else none
def P1:¬∀g,Ct g=none:=λh=>by have:=h 0;simp[Ct] at this
def Q8:mA Ct:=⟨rfl,by rw[Mu];rfl⟩
def Ny{W:World}(h:laidMetH Tryz.prog Rows.translateStableRow.laid W):∀g x,Ct g=some x->eZ (sk W) (λ_=>0) 0 (.ju x) (.pointer (some ⟨g,0,none⟩)):=by
 have h1:=(laidMetH_iff.1 h).1;intro g x hx;unfold Ct at hx
 split at hx
 ·rename_i hg;subst hg;cases hx;refine Sk h1 (name:= "proofprograms/tree.rules") (L:=lY) (f:=Ko) (N:=8) (t:=190) (e:=167) (by decide) (Tr.2 ⟨?_,by kernel_rfl⟩) (by kernel_rfl) (by kernel_rfl) (by kernel_rfl) Tryz.underlying167 ?_ (by kernel_rfl) rfl (λx _=>rfl) ?_
  ·rw[show(DataW.agg (lY.map λx=>.agg ((Ko x).map SI)):DataW Unit)=Rows.laid_proofprograms_tree_rules by kernel_rfl];exact .head _
  ·intro i f hi
   match i,hi with
   |0,hi=>simp at hi;subst hi;exact⟨.inl (by kernel_rfl),rfl,by kernel_rfl⟩
   |1,hi=>simp at hi;subst hi;exact⟨.inl (by kernel_rfl),rfl,by kernel_rfl⟩
   |2,hi=>simp at hi;subst hi;exact⟨.inr ⟨.i64,by kernel_rfl⟩,rfl,by kernel_rfl⟩
   |3,hi=>simp at hi;subst hi;exact⟨.inr ⟨.i64,by kernel_rfl⟩,rfl,by kernel_rfl⟩
   |4,hi=>simp at hi;subst hi;exact⟨.inr ⟨.i64,by kernel_rfl⟩,rfl,by kernel_rfl⟩
   |5,hi=>simp at hi;subst hi;exact⟨.inr ⟨.i64,by kernel_rfl⟩,rfl,by kernel_rfl⟩
   |6,hi=>simp at hi;subst hi;exact⟨.inr ⟨.i64,by kernel_rfl⟩,rfl,by kernel_rfl⟩
   |7,hi=>simp at hi;subst hi;exact⟨.inr ⟨.i64,by kernel_rfl⟩,rfl,by kernel_rfl⟩
   |i+8,hi=>simp at hi
  ·intro x _ v hv;simp only[Ko,jW,uo,qZ] at hv;rcases hv with rfl|rfl|rfl|rfl|rfl|rfl|rfl|rfl
   ·exact .inl ⟨_,rfl⟩
   ·exact .inl ⟨_,rfl⟩
   all_goals exact .inr ⟨_,_,rfl⟩
 ·split at hx
  ·rename_i hg;subst hg;cases hx;refine RQ h1 (name:= "proofprograms/tree.arities") (k:=.i64) (t:=211) (e:=3) (n:=14) (Tr.2 ⟨?_,by kernel_rfl⟩) (by kernel_rfl) (by kernel_rfl) (by kernel_rfl) (by kernel_rfl) (by kernel_rfl) (by kernel_rfl);rw[show(Go.Lib.tabData IntKind.i64 oM:DataW Unit)=Rows.laid_proofprograms_tree_arities by kernel_rfl];exact .tail _ (.head _)
  ·cases hx
def RX(os:Os)(args:Array Value):laidMetH Tryz.prog Rows.translateStableRow.laid ((World.doorLaid Tryz.prog 400 os).forCall (λ_ _=>0) ⟨#[],args,[]⟩).memory:=
 laidMetH_of_parts3 (fuel:=8) (laidMet_of_run' 8 (by kernel_rfl) (by kernel_rfl)) (by kernel_rfl) (by kernel_rfl)
set_option maxRecDepth 100000 in
def xa(os:Os)(started:os.Started)(H:Type)(enc:TypeId×Value->H):ReturnsInHanded {} Tryz.checked os 4 .any (λw args=>(Rows.translateStableSpec.pre enc Tryz.prog Tryz.f4 [] false w args/\laidMetH Tryz.prog Rows.translateStableRow.laid w)/\sizedMet enc Tryz.prog Tryz.f4 (OpenSpec.ofChange Rows.translateStableSpec) false w args)
   (Rows.translateStableSpec.post enc Tryz.prog Tryz.f4 false true false false):=by
 refine returnsInHanded_of_change_and (C:=Tryz.checked) (X:=λw _=>laidMetH Tryz.prog Rows.translateStableRow.laid w) (λ_ _ _ u h=>h.of_heap u) Tryz.own started (by kernel_rfl) Tryz.func4
  (ChangeSpec.witness_shaped (enc:=enc) (C:=Tryz.checked) (os:=os) (X:=λw _=>laidMetH Tryz.prog Rows.translateStableRow.laid w) false (World.doorLaid Tryz.prog 400 os) #[.slice none 0 0] 8 rfl (World.shaped_of_RefB (by kernel_rfl) (by kernel_rfl)) (by kernel_rfl) (by kernel_rfl) (by kernel_rfl) (RX os _)) ?_
 intro W base args y gs before b m _ _ z _;have a:∀(j:Nat) t v,Tryz.f4.params[j]?=some t->args[j]?=some v->Value.okWide Tryz.prog W .any base t v:=b;have c:=m;obtain⟨p,q,g,A,rfl,B,D⟩:=m;have n:DataW.TrodAll enc Tryz.prog W 0 (λ_=>true) true Tryz.f4.params.toList args.toList y p:=g;rw[Tryz.params4] at n a;obtain⟨v0,E,d0,F,o,q0,i,rfl,rfl,r,G⟩:=trodAll_cons n;obtain⟨rfl,rfl,rfl⟩:=trodAll_nil G
 obtain rfl:args=#[v0]:=by cases args;simp_all
 obtain⟨rfl,rfl⟩:=trodVars_none A;obtain⟨L,d⟩:=RG Tryz.underlying22 Tryz.underlying3 (by kernel_rfl) (a 0 22 v0 rfl rfl) r;simp only[zG] at c
 have k:∀x∈o,x.block<W.heap.size:=λx f=>by simpa using c.lt x f
 refine((vR Ct Q8 (zC L)).law P1 (Ny z) d).mono λe I ⟨he,s⟩=>?_;subst he
 exact⟨_,rfl,Hv (pa:=o) (pv:=[]) c (λ_ _ _=>trodAll_mk1 (shut_bool Tryz.underlying4 _)) (λsp l=>by
   exact trodAll_mk1 (WideElems.Trod_stays Tryz.laidOut (by kernel_rfl) (XK (by kernel_rfl)) r (λx f=>s.same (k x f)) (λx f=>l x (by simpa using f)))) (λ_ _=>rfl) aas
  s (ok_one (by kernel_rfl) rfl (okWide_bool_mk Tryz.underlying4 _))⟩
def kf1:Rows.translateStableRow.wf (OpenSpec.ofChange Rows.translateStableSpec)=true:=by kernel_rfl
def kf2:laidOutB Tryz.prog=true:=by kernel_rfl
def kf3:mapsRowed Tryz.prog=true:=by kernel_rfl
def kf4:Tryz.f4.params.all (Tryz.prog.readableRec ·)=true:=by kernel_rfl
def kf5:namedTie Tryz.prog Rows.translateStableRow.named Rows.translateStableSpec.vars=true:=by kernel_rfl
def kf6:(Rows.translateStableRow.stops==[])=true:=by kernel_rfl
def kf7:(Tryz.prog.stops==[])=true:=by kernel_rfl
def kf8:(Rows.translateStableRow.knobs==[])=true:=by kernel_rfl
def kf9:(Tryz.prog.stopKnobs==[])=true:=by kernel_rfl
def ab5:(Rows.translateStableRow.inPlace==Tryz.prog.inPlace 4)=true:=by kernel_rfl
def acg:(Rows.translateStableRow.unfollowed==Tryz.prog.unfollowed 4)=true:=by kernel_rfl
def acB:(Rows.translateStableRow.recurses==Tryz.prog.recurses 4)=true:=by kernel_rfl
def acL:(Rows.translateStableRow.named==Tryz.prog.varsNamed 4)=true:=by kernel_rfl
def acb:(Rows.translateStableRow.maps==(Tryz.f4.params.toList++Rows.translateStableSpec.plain.varTypes Tryz.prog).any (Tryz.prog.mapsRec ·))=true:=by kernel_rfl
def acH:(Rows.translateStableRow.ifaces==(Tryz.f4.params.toList++Rows.translateStableSpec.plain.varTypes Tryz.prog).any (Tryz.prog.ifacesRec ·))=true:=by kernel_rfl
def acS:(Rows.translateStableRow.mapsOut==Tryz.prog.mapsAmong Tryz.f4.resultTypes.toList)=true:=by kernel_rfl
def acr:(Rows.translateStableRow.loops==(Tryz.f4.params.toList++Rows.translateStableSpec.plain.varTypes Tryz.prog).any (Tryz.prog.loopsFrom ·))=true:=by kernel_rfl
def acF:(Rows.translateStableRow.wideKeys==(Tryz.f4.params.toList++Rows.translateStableSpec.plain.varTypes Tryz.prog++Tryz.f4.resultTypes.toList).any (Tryz.prog.wideKeysFrom ·))=true:=by kernel_rfl
def ace:Rows.translateStableSpec.vars.all (Tryz.prog.varReadable ·)=true:=by kernel_rfl
def aca:(Tryz.f4.resultTypes.all (λt=>Tryz.prog.readableRec t&&decide (t<Tryz.prog.types.size)))=true:=by kernel_rfl
def acj:(Rows.translateStableRow.ifacesOut==Tryz.f4.resultTypes.toList.any (Tryz.prog.ifacesRec ·))=true:=by kernel_rfl
def acR:(Rows.translateStableRow.loopsOut==Tryz.f4.resultTypes.toList.any (Tryz.prog.loopsFrom ·))=true:=by kernel_rfl
def ach:(Rows.translateStableRow.plainKeys==Tryz.prog.plainKeys)=true:=by kernel_rfl
def aci:Rows.translateStableRow.shortTexts.isNone=true:=by kernel_rfl
def acU:Tryz.prog.stopsHeard=true:=by kernel_rfl
def acW:Tryz.prog.mayEnter=true:=by kernel_rfl
def acA:(Rows.translateStableRow.lifted==Tryz.prog.liftsFinal)=true:=by kernel_rfl
def ac1:(Tryz.prog.make==some Rows.translateStableRow.make)=true:=by kernel_rfl
def acT:(Rows.translateStableRow.pinned==Rows.translateStableRow.pinnedBy)=true:=by kernel_rfl
def acs:(Rows.translateStableRow.veiled==(Tryz.f4.params.toList++Rows.translateStableSpec.plain.varTypes Tryz.prog++Tryz.f4.resultTypes.toList).any (Tryz.prog.veiledRec ·))=true:=by kernel_rfl
def acd:Rows.translateStableRow.veiledFits Tryz.prog Tryz.f4.params.toList (Tryz.f4.params.toList++Rows.translateStableSpec.plain.varTypes Tryz.prog++Tryz.f4.resultTypes.toList)=true:=by kernel_rfl
set_option maxRecDepth 100000 in
def Xp:joinedFacts Tryz.pinned.checked.prog 4 Tryz.f4 Rows.translateStableSpec Rows.translateStableRow=true:=by
 show joinedFacts Tryz.prog 4 Tryz.f4 Rows.translateStableSpec Rows.translateStableRow=true;unfold joinedFacts;simp only[eg];exact⟨⟨⟨⟨⟨⟨⟨⟨⟨⟨⟨⟨⟨⟨⟨⟨⟨⟨⟨⟨⟨⟨⟨⟨⟨⟨⟨⟨⟨⟨⟨kf1,kf2⟩,kf3⟩,kf4⟩,kf5⟩,kf6⟩,kf7⟩,kf8⟩,kf9⟩,ab5⟩,acg⟩,acB⟩,acL⟩,acb⟩,acH⟩,acS⟩,acr⟩,acF⟩,ace⟩,aca⟩,acj⟩,acR⟩,ach⟩,aci⟩,acU⟩,acW⟩,acA⟩,ac1⟩,(by kernel_rfl)⟩,acT⟩,acs⟩,acd⟩
def Sn:Tryz.pinned.checked.prog.funcNamed Rows.translateStableRow.func=some 4:=by kernel_rfl
def K0:Func.isInstance Tryz.pinned.checked.prog Tryz.f4 Rows.translateStableRow.origin Rows.translateStableRow.targs:=XK (by kernel_rfl)
def MU:Func.isWrapper Tryz.pinned.checked.prog Tryz.f4 Rows.translateStableRow.wrapper Rows.translateStableRow.mainSum:=by unfold Func.isWrapper;first|(rw[bX abz];kernel_rfl)|(rw[bV abz];exact⟨rfl,rfl⟩)
def xP:Rows.TranslateStableSaid:=
 OpenClaim.holds_of_wide 4 Tryz.f4 rfl rfl rfl rfl rfl rfl rfl ⟨rfl,rfl,rfl,rfl,rfl⟩ rfl rfl rfl rfl rfl Sn Tryz.func4 Xp K0 MU
  (λos started H enc _=>xa os started H enc)
def cf1:OpenClaim.wfByText (OpenSpec.ofChange Rows.translateStableSpec) Rows.translateStableRow=true:=by kernel_rfl
def cf2:Tryz.pinned.checked.prog.mainIs=some ((true, "be2d8b2f083ce0dff65da271c60626a9f30011f71813a1524092993b53484bde").fst,(true, "be2d8b2f083ce0dff65da271c60626a9f30011f71813a1524092993b53484bde").snd.toList):=by kernel_rfl
def cf3:false=Rows.translateStableRow.goesBy Tryz.pinned.checked.prog:=by kernel_rfl
def cf4:Tryz.prog.funcNamed "proofprograms/proofprogramslaw20.TranslateStable" =some 4:=by kernel_rfl
def cf5:([22].all λu=>!Tryz.prog.wantsStandIn u)=true:=by kernel_rfl
theorem translateStable_card:Rows.TranslateStableCardSaid:=
 Claim7.holds_tied_plain_at .later [] [.data,.data] true (true, "be2d8b2f083ce0dff65da271c60626a9f30011f71813a1524092993b53484bde") true
  xP (λ_ h=>by cases h) cf1 (λ_ h=>by cases h) translateStable_row_tie rfl ⟨rfl,rfl⟩ cf2 rfl
  (λf fn hf hfn=>by
   obtain rfl:f=4:=fS (cf4.symm.trans hf)|>.symm;obtain rfl:fn=Tryz.f4:=(fS (Tryz.func4.symm.trans hfn)).symm
   exact⟨by kernel_rfl,λj t ht=>by
    rw[Tryz.params4] at ht
    have hm:t∈[22]:=by simpa using R4 ht
    exact(show Tryz.prog.wantsStandIn t=false by simpa using im.1 cf5 t hm)⟩)
  cf3
#print axioms translateStable_card
end Go.Proofs.YtffcgfpaakhbjaaGreatDoor
