/- What is proved: SchemeAccepted: for every list of numbers the law returns true, and its argument reads behind the call as before. No condition beside the three listed tables, which the card ties to the program's text. -/
import Derived.Test.YtpgdkkomegalnaaGreatDoorRows
import Derived.Test.YtpgdkkomegalnaaGreatDoorCards
import Derived.Test.YtpgdkkomegalnaaGreatDoorTie
import Derived.Test.YtpgdkkomegalnaaGreatDoorAW3
import Derived.Test.YtpgdkkomegalnaaGreatDoorAPA3
import Derived.Test.YtpgdkkomegalnaaGreatDoorAL22
set_option linter.all false
namespace Go.Proofs.YtpgdkkomegalnaaGreatDoor
open Go Go.kY Go.fH Go.ChangeShapes Go.WideShapes Go.ChangeAt Go.RowKit
def Tryz.own:ownKnob Tryz.prog.godebug=none:=by kernel_rfl
def Tryz.laidOut:laidOutB Tryz.prog=true:=by kernel_rfl
def Mz(x:fi):List Value:=[.bool x.aiL,.bool x.typed,.int .i64 x.ef,.int .i64 x.fI,.int .i64 x.aiJ,.int .i64 x.tR,.int .i64 x.vars,.int .i64 x.aiP]
def Qm:List.flatMap (λx=>fi.cs x) oa=(oa.flatMap Mz).map AV.sc:=by kernel_rfl
def EW:eH:=λg=>if g=0 then some (AV.agg (List.map (λn=>AV.sc (Value.int .u8 n)) lj))else if g=1 then some (AV.agg ((oa.flatMap Mz).map AV.sc))else if g=2 then some (AV.agg (List.map (λn=>AV.sc (Value.int .i64 n)) p_))else none
def SN:¬∀g,EW g=none:=λh=>by have:=h 0;simp[EW] at this
def UY:nV EW:=⟨rfl,by rw[Qm];rfl,rfl⟩
def P0{W:World}(h:laidMetH Tryz.prog Rows.schemeAcceptedRow.laid W):∀g x,EW g=some x->gH (tT W) (λ_=>0) 0 (.mh x) (.pointer (some ⟨g,0,none⟩)):=by
 have h1:=(laidMetH_iff.1 h).1;intro g x hx;unfold EW at hx
 split at hx
 ·rename_i hg;subst hg;cases hx;refine N6 h1 (name:= "math/bits.deBruijn32tab") (k:=.u8) (t:=258) (e:=5) (n:=32) (XH.2 ⟨?_,by kernel_rfl⟩) (by kernel_rfl) (by kernel_rfl) (by kernel_rfl) (by kernel_rfl) (by kernel_rfl) (by kernel_rfl);rw[show(Go.Lib.tabData IntKind.u8 lj:DataW Unit)=Rows.laid_math_bits_deBruijn32tab by kernel_rfl];exact .head _
 ·split at hx
  ·rename_i hg;subst hg;cases hx;refine Wc h1 (name:= "proofprograms/tree.rules") (L:=oa) (f:=Mz) (N:=8) (t:=273) (e:=235) (by decide) (XH.2 ⟨?_,by kernel_rfl⟩) (by kernel_rfl) (by kernel_rfl) (by kernel_rfl) Tryz.underlying235 ?_ (by kernel_rfl) rfl (λx _=>rfl) ?_
   ·rw[show(DataW.agg (oa.map λx=>.agg ((Mz x).map UR)):DataW Unit)=Rows.laid_proofprograms_tree_rules by kernel_rfl];exact .tail _ (.head _)
   ·intro i f hi
    match i,hi with
    |0,hi=>simp at hi;subst hi;exact⟨.inl (by kernel_rfl),rfl,by kernel_rfl⟩
    |1,hi=>simp at hi;subst hi;exact⟨.inl (by kernel_rfl),rfl,by kernel_rfl⟩
    |2,hi=>simp at hi;subst hi;exact⟨.inr ⟨.i64,by kernel_rfl⟩,rfl,by kernel_rfl⟩
    |3,hi=>simp at hi;subst hi;exact⟨.inr ⟨.i64,by kernel_rfl⟩,rfl,by kernel_rfl⟩
    |4,hi=>simp at hi;subst hi;exact⟨.inr ⟨.i64,by kernel_rfl⟩,rfl,by kernel_rfl⟩
    |5,hi=>simp at hi;subst hi;exact⟨.inr ⟨.i64,by kernel_rfl⟩,rfl,by kernel_rfl⟩
    |6,hi=>simp at hi;subst hi;exact⟨.inr ⟨.i64,by kernel_rfl⟩,rfl,by kernel_rfl⟩
    |7,hi=>simp at hi;subst hi;exact⟨.inr ⟨.i64,by kernel_rfl⟩,rfl,by kernel_rfl⟩
    |i+8,hi=>simp at hi
   ·intro x _ v hv;simp only[Mz,lS,vG,ss] at hv;rcases hv with rfl|rfl|rfl|rfl|rfl|rfl|rfl|rfl
    ·exact .inl ⟨_,rfl⟩
    ·exact .inl ⟨_,rfl⟩
    all_goals exact .inr ⟨_,_,rfl⟩
  ·split at hx
   ·rename_i hg;subst hg;cases hx;refine N6 h1 (name:= "proofprograms/tree.arities") (k:=.i64) (t:=290) (e:=3) (n:=14) (XH.2 ⟨?_,by kernel_rfl⟩) (by kernel_rfl) (by kernel_rfl) (by kernel_rfl) (by kernel_rfl) (by kernel_rfl) (by kernel_rfl);rw[show(Go.Lib.tabData IntKind.i64 p_:DataW Unit)=Rows.laid_proofprograms_tree_arities by kernel_rfl];exact .tail _ (.tail _ (.head _))
   ·cases hx
def UG(os:Os)(args:Array Value):laidMetH Tryz.prog Rows.schemeAcceptedRow.laid ((World.doorLaid Tryz.prog 400 os).forCall (λ_ _=>0) ⟨#[],args,[]⟩).memory:=
 laidMetH_of_parts3 (fuel:=8) (laidMet_of_run' 8 (by kernel_rfl) (by kernel_rfl)) (by kernel_rfl) (by kernel_rfl)
set_option maxRecDepth 100000 in
def zG(os:Os)(started:os.Started)(H:Type)(enc:TypeId×Value->H):ReturnsInHanded {} Tryz.checked os 3 .any (λw args=>(Rows.schemeAcceptedSpec.pre enc Tryz.prog Tryz.f3 [] false w args/\laidMetH Tryz.prog Rows.schemeAcceptedRow.laid w)/\sizedMet enc Tryz.prog Tryz.f3 (OpenSpec.ofChange Rows.schemeAcceptedSpec) false w args)
   (Rows.schemeAcceptedSpec.post enc Tryz.prog Tryz.f3 false true false false):=by
 refine returnsInHanded_of_change_and (C:=Tryz.checked) (X:=λw _=>laidMetH Tryz.prog Rows.schemeAcceptedRow.laid w) (λ_ _ _ A h=>h.of_heap A) Tryz.own started (by kernel_rfl) Tryz.func3
  (ChangeSpec.witness_shaped (enc:=enc) (C:=Tryz.checked) (os:=os) (X:=λw _=>laidMetH Tryz.prog Rows.schemeAcceptedRow.laid w) false (World.doorLaid Tryz.prog 400 os) #[.slice none 0 0] 8 rfl (World.shaped_of_RefB (by kernel_rfl) (by kernel_rfl)) (by kernel_rfl) (by kernel_rfl) (by kernel_rfl) (UG os _)) ?_
 intro W base args B gs before b o _ _ D _;have a:∀(j:Nat) t v,Tryz.f3.params[j]?=some t->args[j]?=some v->Value.okWide Tryz.prog W .any base t v:=b;have c:=o;obtain⟨p,q,i,F,rfl,G,I⟩:=o;have r:DataW.TrodAll enc Tryz.prog W 0 (λ_=>true) true Tryz.f3.params.toList args.toList B p:=i;rw[Tryz.params3] at r a;obtain⟨v0,J,d0,K,s,q0,k,rfl,rfl,u,M⟩:=trodAll_cons r;obtain⟨rfl,rfl,rfl⟩:=trodAll_nil M
 obtain rfl:args=#[v0]:=by cases args;simp_all
 obtain⟨rfl,rfl⟩:=trodVars_none F;obtain⟨L,d⟩:=UO Tryz.underlying22 Tryz.underlying3 (by kernel_rfl) (a 0 22 v0 rfl rfl) u;simp only[DR] at c
 have l:∀x∈s,x.block<W.heap.size:=λx f=>by simpa using c.lt x f
 refine((ft EW UY (CI L)).law SN (P0 D) d).mono λe N ⟨he,y⟩=>?_;subst he
 exact⟨_,rfl,Jt (pa:=s) (pv:=[]) c (λ_ _ _=>trodAll_mk1 (shut_bool Tryz.underlying4 _)) (λsp n=>by
   exact trodAll_mk1 (WideElems.Trod_stays Tryz.laidOut (by kernel_rfl) (aeV (by kernel_rfl)) u (λx f=>y.same (l x f)) (λx f=>n x (by simpa using f)))) (λ_ _=>rfl) aaF
  y (ok_one (by kernel_rfl) rfl (okWide_bool_mk Tryz.underlying4 _))⟩
def kf1:Rows.schemeAcceptedRow.wf (OpenSpec.ofChange Rows.schemeAcceptedSpec)=true:=by kernel_rfl
def kf2:laidOutB Tryz.prog=true:=by kernel_rfl
def kf3:mapsRowed Tryz.prog=true:=by kernel_rfl
def kf4:Tryz.f3.params.all (Tryz.prog.readableRec ·)=true:=by kernel_rfl
def kf5:namedTie Tryz.prog Rows.schemeAcceptedRow.named Rows.schemeAcceptedSpec.vars=true:=by kernel_rfl
def kf6:(Rows.schemeAcceptedRow.stops==[])=true:=by kernel_rfl
def kf7:(Tryz.prog.stops==[])=true:=by kernel_rfl
def kf8:(Rows.schemeAcceptedRow.knobs==[])=true:=by kernel_rfl
def kf9:(Tryz.prog.stopKnobs==[])=true:=by kernel_rfl
def ahD:(Rows.schemeAcceptedRow.inPlace==Tryz.prog.inPlace 3)=true:=by kernel_rfl
def ag0:(Rows.schemeAcceptedRow.unfollowed==Tryz.prog.unfollowed 3)=true:=by kernel_rfl
def ahr:(Rows.schemeAcceptedRow.recurses==Tryz.prog.recurses 3)=true:=by kernel_rfl
def ahu:(Rows.schemeAcceptedRow.named==Tryz.prog.varsNamed 3)=true:=by kernel_rfl
def ahB:(Rows.schemeAcceptedRow.maps==(Tryz.f3.params.toList++Rows.schemeAcceptedSpec.plain.varTypes Tryz.prog).any (Tryz.prog.mapsRec ·))=true:=by kernel_rfl
def ahw:(Rows.schemeAcceptedRow.ifaces==(Tryz.f3.params.toList++Rows.schemeAcceptedSpec.plain.varTypes Tryz.prog).any (Tryz.prog.ifacesRec ·))=true:=by kernel_rfl
def ahG:(Rows.schemeAcceptedRow.mapsOut==Tryz.prog.mapsAmong Tryz.f3.resultTypes.toList)=true:=by kernel_rfl
def ag4:(Rows.schemeAcceptedRow.loops==(Tryz.f3.params.toList++Rows.schemeAcceptedSpec.plain.varTypes Tryz.prog).any (Tryz.prog.loopsFrom ·))=true:=by kernel_rfl
def ag5:(Rows.schemeAcceptedRow.wideKeys==(Tryz.f3.params.toList++Rows.schemeAcceptedSpec.plain.varTypes Tryz.prog++Tryz.f3.resultTypes.toList).any (Tryz.prog.wideKeysFrom ·))=true:=by kernel_rfl
def ag9:Rows.schemeAcceptedSpec.vars.all (Tryz.prog.varReadable ·)=true:=by kernel_rfl
def ahi:(Tryz.f3.resultTypes.all (λt=>Tryz.prog.readableRec t&&decide (t<Tryz.prog.types.size)))=true:=by kernel_rfl
def ag7:(Rows.schemeAcceptedRow.ifacesOut==Tryz.f3.resultTypes.toList.any (Tryz.prog.ifacesRec ·))=true:=by kernel_rfl
def aht:(Rows.schemeAcceptedRow.loopsOut==Tryz.f3.resultTypes.toList.any (Tryz.prog.loopsFrom ·))=true:=by kernel_rfl
def agW:(Rows.schemeAcceptedRow.plainKeys==Tryz.prog.plainKeys)=true:=by kernel_rfl
def ahA:Rows.schemeAcceptedRow.shortTexts.isNone=true:=by kernel_rfl
def ahg:Tryz.prog.stopsHeard=true:=by kernel_rfl
def ahp:Tryz.prog.mayEnter=true:=by kernel_rfl
def ahc:(Rows.schemeAcceptedRow.lifted==Tryz.prog.liftsFinal)=true:=by kernel_rfl
def ahz:(Tryz.prog.make==some Rows.schemeAcceptedRow.make)=true:=by kernel_rfl
def agS:(Rows.schemeAcceptedRow.pinned==Rows.schemeAcceptedRow.pinnedBy)=true:=by kernel_rfl
def ag8:(Rows.schemeAcceptedRow.veiled==(Tryz.f3.params.toList++Rows.schemeAcceptedSpec.plain.varTypes Tryz.prog++Tryz.f3.resultTypes.toList).any (Tryz.prog.veiledRec ·))=true:=by kernel_rfl
def ag_:Rows.schemeAcceptedRow.veiledFits Tryz.prog Tryz.f3.params.toList (Tryz.f3.params.toList++Rows.schemeAcceptedSpec.plain.varTypes Tryz.prog++Tryz.f3.resultTypes.toList)=true:=by kernel_rfl
set_option maxRecDepth 100000 in
def adb:joinedFacts Tryz.pinned.checked.prog 3 Tryz.f3 Rows.schemeAcceptedSpec Rows.schemeAcceptedRow=true:=by
 show joinedFacts Tryz.prog 3 Tryz.f3 Rows.schemeAcceptedSpec Rows.schemeAcceptedRow=true;unfold joinedFacts;simp only[gG];exact⟨⟨⟨⟨⟨⟨⟨⟨⟨⟨⟨⟨⟨⟨⟨⟨⟨⟨⟨⟨⟨⟨⟨⟨⟨⟨⟨⟨⟨⟨⟨kf1,kf2⟩,kf3⟩,kf4⟩,kf5⟩,kf6⟩,kf7⟩,kf8⟩,kf9⟩,ahD⟩,ag0⟩,ahr⟩,ahu⟩,ahB⟩,ahw⟩,ahG⟩,ag4⟩,ag5⟩,ag9⟩,ahi⟩,ag7⟩,aht⟩,agW⟩,ahA⟩,ahg⟩,ahp⟩,ahc⟩,ahz⟩,(by kernel_rfl)⟩,agS⟩,ag8⟩,ag_⟩
def Ue:Tryz.pinned.checked.prog.funcNamed Rows.schemeAcceptedRow.func=some 3:=by kernel_rfl
def Ns:Func.isInstance Tryz.pinned.checked.prog Tryz.f3 Rows.schemeAcceptedRow.origin Rows.schemeAcceptedRow.targs:=aeV (by kernel_rfl)
def PK:Func.isWrapper Tryz.pinned.checked.prog Tryz.f3 Rows.schemeAcceptedRow.wrapper Rows.schemeAcceptedRow.mainSum:=by unfold Func.isWrapper;first|(rw[dO abB];kernel_rfl)|(rw[dI abB];exact⟨rfl,rfl⟩)
def zY:Rows.SchemeAcceptedSaid:=
 OpenClaim.holds_of_wide 3 Tryz.f3 rfl rfl rfl rfl rfl rfl rfl ⟨rfl,rfl,rfl,rfl,rfl⟩ rfl rfl rfl rfl rfl Ue Tryz.func3 adb Ns PK
  (λos started H enc _=>zG os started H enc)
def cf1:OpenClaim.wfByText (OpenSpec.ofChange Rows.schemeAcceptedSpec) Rows.schemeAcceptedRow=true:=by kernel_rfl
def cf2:Tryz.pinned.checked.prog.mainIs=some ((true, "828685226fc5eb3203947e0649590e18dbf39dd039ccf4ee44873603de627960").fst,(true, "828685226fc5eb3203947e0649590e18dbf39dd039ccf4ee44873603de627960").snd.toList):=by kernel_rfl
def cf3:false=Rows.schemeAcceptedRow.goesBy Tryz.pinned.checked.prog:=by kernel_rfl
def cf4:Tryz.prog.funcNamed "proofprograms/proofprogramslaw41.SchemeAccepted" =some 3:=by kernel_rfl
def cf5:([22].all λu=>!Tryz.prog.wantsStandIn u)=true:=by kernel_rfl
theorem schemeAccepted_card:Rows.SchemeAcceptedCardSaid:=
 Claim7.holds_tied_plain_at .later [] [.data,.data,.data] true (true, "828685226fc5eb3203947e0649590e18dbf39dd039ccf4ee44873603de627960") false
  zY (λ_ h=>by cases h) cf1 (λ_ h=>by cases h) schemeAccepted_row_tie rfl ⟨rfl,rfl⟩ cf2 rfl
  (λf fn hf hfn=>by
   obtain rfl:f=3:=lE (cf4.symm.trans hf)|>.symm;obtain rfl:fn=Tryz.f3:=(lE (Tryz.func3.symm.trans hfn)).symm
   exact⟨by kernel_rfl,λj t ht=>by
    rw[Tryz.params3] at ht
    have hm:t∈[22]:=by simpa using XN ht
    exact(show Tryz.prog.wantsStandIn t=false by simpa using kE.1 cf5 t hm)⟩)
  cf3
#print axioms schemeAccepted_card
end Go.Proofs.YtpgdkkomegalnaaGreatDoor
