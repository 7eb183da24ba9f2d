/- What is proved: TranslateWitness: for every list of numbers the law returns true, and its argument reads behind the call as before. No condition beside the three listed tables, which the card ties to the program's text. -/
import Derived.Test.YtffcgfpaakhbjaaGreatDoorRows
import Derived.Test.YtffcgfpaakhbjaaGreatDoorCards
import Derived.Test.YtffcgfpaakhbjaaGreatDoorTie
import Derived.Test.YtffcgfpaakhbjaaGreatDoorW2
import Derived.Test.YtffcgfpaakhbjaaGreatDoorPT3
import Derived.Test.YtffcgfpaakhbjaaGreatDoorL20
set_option linter.all false
namespace Go.Proofs.YtffcgfpaakhbjaaGreatDoor
open Go Go.jX Go.dF Go.ChangeShapes Go.WideShapes Go.ChangeAt Go.RowKit
def Tryz.own:ownKnob Tryz.prog.godebug=none:=by kernel_rfl
def Tryz.laidOut:laidOutB Tryz.prog=true:=by kernel_rfl
def JT(x:c9):List Value:=[.bool x.acK,.bool x.typed,.int .i64 x.cv,.int .i64 x.dw,.int .i64 x.acI,.int .i64 x.ri,.int .i64 x.vars,.int .i64 x.acO]
def Lc:List.flatMap (λx=>c9.cs x) ll=(ll.flatMap JT).map AV.sc:=by kernel_rfl
def Bq:cW:=λg=>if g=0 then some (AV.agg ((ll.flatMap JT).map AV.sc))else if g=1 then some (AV.agg (List.map (λn=>AV.sc (Value.int .i64 n)) oc))else none
def NM:¬∀g,Bq g=none:=λh=>by have:=h 0;simp[Bq] at this
def Q8:qc Bq:=⟨rfl,by rw[Lc];rfl⟩
def KW{W:World}(h:laidMetH Tryz.prog Rows.translateWitnessRow.laid W):∀g x,Bq g=some x->eE (rC W) (λ_=>0) 0 (.ji x) (.pointer (some ⟨g,0,none⟩)):=by
 have h1:=(laidMetH_iff.1 h).1;intro g x hx;unfold Bq at hx
 split at hx
 ·rename_i hg;subst hg;cases hx;refine Rf h1 (name:= "proofprograms/tree.rules") (L:=ll) (f:=JT) (N:=8) (t:=190) (e:=167) (by decide) (TC.2 ⟨?_,by kernel_rfl⟩) (by kernel_rfl) (by kernel_rfl) (by kernel_rfl) Tryz.underlying167 ?_ (by kernel_rfl) rfl (λx _=>rfl) ?_
  ·rw[show(DataW.agg (ll.map λx=>.agg ((JT x).map Rx)):DataW Unit)=Rows.laid_proofprograms_tree_rules by kernel_rfl];exact .head _
  ·intro i f hi
   match i,hi with
   |0,hi=>simp at hi;subst hi;exact⟨.inl (by kernel_rfl),rfl,by kernel_rfl⟩
   |1,hi=>simp at hi;subst hi;exact⟨.inl (by kernel_rfl),rfl,by kernel_rfl⟩
   |2,hi=>simp at hi;subst hi;exact⟨.inr ⟨.i64,by kernel_rfl⟩,rfl,by kernel_rfl⟩
   |3,hi=>simp at hi;subst hi;exact⟨.inr ⟨.i64,by kernel_rfl⟩,rfl,by kernel_rfl⟩
   |4,hi=>simp at hi;subst hi;exact⟨.inr ⟨.i64,by kernel_rfl⟩,rfl,by kernel_rfl⟩
   |5,hi=>simp at hi;subst hi;exact⟨.inr ⟨.i64,by kernel_rfl⟩,rfl,by kernel_rfl⟩
   |6,hi=>simp at hi;subst hi;exact⟨.inr ⟨.i64,by kernel_rfl⟩,rfl,by kernel_rfl⟩
   |7,hi=>simp at hi;subst hi;exact⟨.inr ⟨.i64,by kernel_rfl⟩,rfl,by kernel_rfl⟩
   |i+8,hi=>simp at hi
  ·intro x _ v hv;simp only[JT,jA,tF,qC] at hv;rcases hv with rfl|rfl|rfl|rfl|rfl|rfl|rfl|rfl
   ·exact .inl ⟨_,rfl⟩
   ·exact .inl ⟨_,rfl⟩
   all_goals exact .inr ⟨_,_,rfl⟩
 ·split at hx
  ·rename_i hg;subst hg;cases hx;refine Rh h1 (name:= "proofprograms/tree.arities") (k:=.i64) (t:=211) (e:=3) (n:=14) (TC.2 ⟨?_,by kernel_rfl⟩) (by kernel_rfl) (by kernel_rfl) (by kernel_rfl) (by kernel_rfl) (by kernel_rfl) (by kernel_rfl);rw[show(Go.Lib.tabData IntKind.i64 oc:DataW Unit)=Rows.laid_proofprograms_tree_arities by kernel_rfl];exact .tail _ (.head _)
  ·cases hx
def Qo(os:Os)(args:Array Value):laidMetH Tryz.prog Rows.translateWitnessRow.laid ((World.doorLaid Tryz.prog 400 os).forCall (λ_ _=>0) ⟨#[],args,[]⟩).memory:=
 laidMetH_of_parts3 (fuel:=8) (laidMet_of_run' 8 (by kernel_rfl) (by kernel_rfl)) (by kernel_rfl) (by kernel_rfl)
set_option maxRecDepth 100000 in
def uQ(os:Os)(started:os.Started)(H:Type)(enc:TypeId×Value->H):ReturnsInHanded {} Tryz.checked os 3 .any (λw args=>(Rows.translateWitnessSpec.pre enc Tryz.prog Tryz.f3 [] false w args/\laidMetH Tryz.prog Rows.translateWitnessRow.laid w)/\sizedMet enc Tryz.prog Tryz.f3 (OpenSpec.ofChange Rows.translateWitnessSpec) false w args)
   (Rows.translateWitnessSpec.post enc Tryz.prog Tryz.f3 false true false false):=by
 refine returnsInHanded_of_change_and (C:=Tryz.checked) (X:=λw _=>laidMetH Tryz.prog Rows.translateWitnessRow.laid w) (λ_ _ _ u h=>h.of_heap u) Tryz.own started (by kernel_rfl) Tryz.func3
  (ChangeSpec.witness_shaped (enc:=enc) (C:=Tryz.checked) (os:=os) (X:=λw _=>laidMetH Tryz.prog Rows.translateWitnessRow.laid w) false (World.doorLaid Tryz.prog 400 os) #[.slice none 0 0] 8 rfl (World.shaped_of_RefB (by kernel_rfl) (by kernel_rfl)) (by kernel_rfl) (by kernel_rfl) (by kernel_rfl) (Qo os _)) ?_
 intro W base args y gs before b m _ _ z _;have a:∀(j:Nat) t v,Tryz.f3.params[j]?=some t->args[j]?=some v->Value.okWide Tryz.prog W .any base t v:=b;have c:=m;obtain⟨p,q,g,A,rfl,B,D⟩:=m;have n:DataW.TrodAll enc Tryz.prog W 0 (λ_=>true) true Tryz.f3.params.toList args.toList y p:=g;rw[Tryz.params3] at n a;obtain⟨v0,E,d0,F,o,q0,i,rfl,rfl,r,G⟩:=trodAll_cons n;obtain⟨rfl,rfl,rfl⟩:=trodAll_nil G
 obtain rfl:args=#[v0]:=by cases args;simp_all
 obtain⟨rfl,rfl⟩:=trodVars_none A;obtain⟨L,d⟩:=PT Tryz.underlying22 Tryz.underlying3 (by kernel_rfl) (a 0 22 v0 rfl rfl) r;simp only[wB] at c
 have k:∀x∈o,x.block<W.heap.size:=λx f=>by simpa using c.lt x f
 refine((uq Bq Q8 (xG L)).law NM (KW z) d).mono λe I ⟨he,s⟩=>?_;subst he
 exact⟨_,rfl,Gt (pa:=o) (pv:=[]) c (λ_ _ _=>trodAll_mk1 (shut_bool Tryz.underlying4 _)) (λsp l=>by
   exact trodAll_mk1 (WideElems.Trod_stays Tryz.laidOut (by kernel_rfl) (UQ (by kernel_rfl)) r (λx f=>s.same (k x f)) (λx f=>l x (by simpa using f)))) (λ_ _=>rfl) th
  s (ok_one (by kernel_rfl) rfl (okWide_bool_mk Tryz.underlying4 _))⟩
def kf1:Rows.translateWitnessRow.wf (OpenSpec.ofChange Rows.translateWitnessSpec)=true:=by kernel_rfl
def kf2:laidOutB Tryz.prog=true:=by kernel_rfl
def kf3:mapsRowed Tryz.prog=true:=by kernel_rfl
def kf4:Tryz.f3.params.all (Tryz.prog.readableRec ·)=true:=by kernel_rfl
def kf5:namedTie Tryz.prog Rows.translateWitnessRow.named Rows.translateWitnessSpec.vars=true:=by kernel_rfl
def kf6:(Rows.translateWitnessRow.stops==[])=true:=by kernel_rfl
def kf7:(Tryz.prog.stops==[])=true:=by kernel_rfl
def kf8:(Rows.translateWitnessRow.knobs==[])=true:=by kernel_rfl
def kf9:(Tryz.prog.stopKnobs==[])=true:=by kernel_rfl
def aa0:(Rows.translateWitnessRow.inPlace==Tryz.prog.inPlace 3)=true:=by kernel_rfl
def aaY:(Rows.translateWitnessRow.unfollowed==Tryz.prog.unfollowed 3)=true:=by kernel_rfl
def aaJ:(Rows.translateWitnessRow.recurses==Tryz.prog.recurses 3)=true:=by kernel_rfl
def abc:(Rows.translateWitnessRow.named==Tryz.prog.varsNamed 3)=true:=by kernel_rfl
def abh:(Rows.translateWitnessRow.maps==(Tryz.f3.params.toList++Rows.translateWitnessSpec.plain.varTypes Tryz.prog).any (Tryz.prog.mapsRec ·))=true:=by kernel_rfl
def aa8:(Rows.translateWitnessRow.ifaces==(Tryz.f3.params.toList++Rows.translateWitnessSpec.plain.varTypes Tryz.prog).any (Tryz.prog.ifacesRec ·))=true:=by kernel_rfl
def aaS:(Rows.translateWitnessRow.mapsOut==Tryz.prog.mapsAmong Tryz.f3.resultTypes.toList)=true:=by kernel_rfl
def aa1:(Rows.translateWitnessRow.loops==(Tryz.f3.params.toList++Rows.translateWitnessSpec.plain.varTypes Tryz.prog).any (Tryz.prog.loopsFrom ·))=true:=by kernel_rfl
def aa5:(Rows.translateWitnessRow.wideKeys==(Tryz.f3.params.toList++Rows.translateWitnessSpec.plain.varTypes Tryz.prog++Tryz.f3.resultTypes.toList).any (Tryz.prog.wideKeysFrom ·))=true:=by kernel_rfl
def aaM:Rows.translateWitnessSpec.vars.all (Tryz.prog.varReadable ·)=true:=by kernel_rfl
def aaX:(Tryz.f3.resultTypes.all (λt=>Tryz.prog.readableRec t&&decide (t<Tryz.prog.types.size)))=true:=by kernel_rfl
def aaH:(Rows.translateWitnessRow.ifacesOut==Tryz.f3.resultTypes.toList.any (Tryz.prog.ifacesRec ·))=true:=by kernel_rfl
def aa_:(Rows.translateWitnessRow.loopsOut==Tryz.f3.resultTypes.toList.any (Tryz.prog.loopsFrom ·))=true:=by kernel_rfl
def aaC:(Rows.translateWitnessRow.plainKeys==Tryz.prog.plainKeys)=true:=by kernel_rfl
def abm:Rows.translateWitnessRow.shortTexts.isNone=true:=by kernel_rfl
def abn:Tryz.prog.stopsHeard=true:=by kernel_rfl
def aaD:Tryz.prog.mayEnter=true:=by kernel_rfl
def abv:(Rows.translateWitnessRow.lifted==Tryz.prog.liftsFinal)=true:=by kernel_rfl
def aaK:(Tryz.prog.make==some Rows.translateWitnessRow.make)=true:=by kernel_rfl
def abr:(Rows.translateWitnessRow.pinned==Rows.translateWitnessRow.pinnedBy)=true:=by kernel_rfl
def aa4:(Rows.translateWitnessRow.veiled==(Tryz.f3.params.toList++Rows.translateWitnessSpec.plain.varTypes Tryz.prog++Tryz.f3.resultTypes.toList).any (Tryz.prog.veiledRec ·))=true:=by kernel_rfl
def abf:Rows.translateWitnessRow.veiledFits Tryz.prog Tryz.f3.params.toList (Tryz.f3.params.toList++Rows.translateWitnessSpec.plain.varTypes Tryz.prog++Tryz.f3.resultTypes.toList)=true:=by kernel_rfl
set_option maxRecDepth 100000 in
def WX:joinedFacts Tryz.pinned.checked.prog 3 Tryz.f3 Rows.translateWitnessSpec Rows.translateWitnessRow=true:=by
 show joinedFacts Tryz.prog 3 Tryz.f3 Rows.translateWitnessSpec Rows.translateWitnessRow=true;unfold joinedFacts;simp only[ed];exact⟨⟨⟨⟨⟨⟨⟨⟨⟨⟨⟨⟨⟨⟨⟨⟨⟨⟨⟨⟨⟨⟨⟨⟨⟨⟨⟨⟨⟨⟨⟨kf1,kf2⟩,kf3⟩,kf4⟩,kf5⟩,kf6⟩,kf7⟩,kf8⟩,kf9⟩,aa0⟩,aaY⟩,aaJ⟩,abc⟩,abh⟩,aa8⟩,aaS⟩,aa1⟩,aa5⟩,aaM⟩,aaX⟩,aaH⟩,aa_⟩,aaC⟩,abm⟩,abn⟩,aaD⟩,abv⟩,aaK⟩,(by kernel_rfl)⟩,abr⟩,aa4⟩,abf⟩
def P9:Tryz.pinned.checked.prog.funcNamed Rows.translateWitnessRow.func=some 3:=by kernel_rfl
def JW:Func.isInstance Tryz.pinned.checked.prog Tryz.f3 Rows.translateWitnessRow.origin Rows.translateWitnessRow.targs:=UQ (by kernel_rfl)
def Ly:Func.isWrapper Tryz.pinned.checked.prog Tryz.f3 Rows.translateWitnessRow.wrapper Rows.translateWitnessRow.mainSum:=by unfold Func.isWrapper;first|(rw[bX aah];kernel_rfl)|(rw[bV aah];exact⟨rfl,rfl⟩)
def vP:Rows.TranslateWitnessSaid:=
 OpenClaim.holds_of_wide 3 Tryz.f3 rfl rfl rfl rfl rfl rfl rfl ⟨rfl,rfl,rfl,rfl,rfl⟩ rfl rfl rfl rfl rfl P9 Tryz.func3 WX JW Ly
  (λos started H enc _=>uQ os started H enc)
def cf1:OpenClaim.wfByText (OpenSpec.ofChange Rows.translateWitnessSpec) Rows.translateWitnessRow=true:=by kernel_rfl
def cf2:Tryz.pinned.checked.prog.mainIs=some ((true, "be2d8b2f083ce0dff65da271c60626a9f30011f71813a1524092993b53484bde").fst,(true, "be2d8b2f083ce0dff65da271c60626a9f30011f71813a1524092993b53484bde").snd.toList):=by kernel_rfl
def cf3:false=Rows.translateWitnessRow.goesBy Tryz.pinned.checked.prog:=by kernel_rfl
def cf4:Tryz.prog.funcNamed "proofprograms/proofprogramslaw20.TranslateWitness" =some 3:=by kernel_rfl
def cf5:([22].all λu=>!Tryz.prog.wantsStandIn u)=true:=by kernel_rfl
theorem translateWitness_card:Rows.TranslateWitnessCardSaid:=
 Claim7.holds_tied_plain_at .later [] [.data,.data] true (true, "be2d8b2f083ce0dff65da271c60626a9f30011f71813a1524092993b53484bde") true
  vP (λ_ h=>by cases h) cf1 (λ_ h=>by cases h) translateWitness_row_tie rfl ⟨rfl,rfl⟩ cf2 rfl
  (λf fn hf hfn=>by
   obtain rfl:f=3:=gv (cf4.symm.trans hf)|>.symm;obtain rfl:fn=Tryz.f3:=(gv (Tryz.func3.symm.trans hfn)).symm
   exact⟨by kernel_rfl,λj t ht=>by
    rw[Tryz.params3] at ht
    have hm:t∈[22]:=by simpa using QI ht
    exact(show Tryz.prog.wantsStandIn t=false by simpa using ie.1 cf5 t hm)⟩)
  cf3
#print axioms translateWitness_card
end Go.Proofs.YtffcgfpaakhbjaaGreatDoor
