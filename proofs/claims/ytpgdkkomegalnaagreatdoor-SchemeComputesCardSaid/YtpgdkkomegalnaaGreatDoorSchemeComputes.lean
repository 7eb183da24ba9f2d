/- What is proved: SchemeComputes: for every list of numbers the law returns true, and its argument reads behind the call as before. No condition beside the three listed tables, which the card ties to the program's text. -/
import Derived.Test.YtpgdkkomegalnaaGreatDoorRows
import Derived.Test.YtpgdkkomegalnaaGreatDoorCards
import Derived.Test.YtpgdkkomegalnaaGreatDoorTie
import Derived.Test.YtpgdkkomegalnaaGreatDoorCW3
import Derived.Test.YtpgdkkomegalnaaGreatDoorCPC3
import Derived.Test.YtpgdkkomegalnaaGreatDoorCL22
set_option linter.all false
namespace Go.Proofs.YtpgdkkomegalnaaGreatDoor
open Go Go.ld Go.fF Go.ChangeShapes Go.WideShapes Go.ChangeAt Go.RowKit
def Tryz.own:ownKnob Tryz.prog.godebug=none:=by kernel_rfl
def Tryz.laidOut:laidOutB Tryz.prog=true:=by kernel_rfl
def Oj(x:fA):List Value:=[.bool x.al0,.bool x.typed,.int .i64 x.ei,.int .i64 x.fZ,.int .i64 x.alY,.int .i64 x.u7,.int .i64 x.vars,.int .i64 x.al4]
def QB:List.flatMap (λx=>fA.cs x) oH=(oH.flatMap Oj).map AV.sc:=by kernel_rfl
def Gt:eO:=λg=>if g=0 then some (AV.agg (List.map (λn=>AV.sc (Value.int .u8 n)) lH))else if g=1 then some (AV.agg ((oH.flatMap Oj).map AV.sc))else if g=2 then some (AV.agg (List.map (λn=>AV.sc (Value.int .i64 n)) ql))else none
def Vb:¬∀g,Gt g=none:=λh=>by have:=h 0;simp[Gt] at this
def Xq:oc Gt:=⟨rfl,by rw[QB];rfl,rfl⟩
def Rk{W:World}(h:laidMetH Tryz.prog Rows.schemeComputesRow.laid W):∀g x,Gt g=some x->gR (uE W) (λ_=>0) 0 (.mA x) (.pointer (some ⟨g,0,none⟩)):=by
 have h1:=(laidMetH_iff.1 h).1;intro g x hx;unfold Gt at hx
 split at hx
 ·rename_i hg;subst hg;cases hx;refine Oy h1 (name:= "math/bits.deBruijn32tab") (k:=.u8) (t:=258) (e:=5) (n:=32) (aag.2 ⟨?_,by kernel_rfl⟩) (by kernel_rfl) (by kernel_rfl) (by kernel_rfl) (by kernel_rfl) (by kernel_rfl) (by kernel_rfl);rw[show(Go.Lib.tabData IntKind.u8 lH:DataW Unit)=Rows.laid_math_bits_deBruijn32tab by kernel_rfl];exact .head _
 ·split at hx
  ·rename_i hg;subst hg;cases hx;refine Yp h1 (name:= "proofprograms/tree.rules") (L:=oH) (f:=Oj) (N:=8) (t:=273) (e:=235) (by decide) (aag.2 ⟨?_,by kernel_rfl⟩) (by kernel_rfl) (by kernel_rfl) (by kernel_rfl) Tryz.underlying235 ?_ (by kernel_rfl) rfl (λx _=>rfl) ?_
   ·rw[show(DataW.agg (oH.map λx=>.agg ((Oj x).map WO)):DataW Unit)=Rows.laid_proofprograms_tree_rules by kernel_rfl];exact .tail _ (.head _)
   ·intro i f hi
    match i,hi with
    |0,hi=>simp at hi;subst hi;exact⟨.inl (by kernel_rfl),rfl,by kernel_rfl⟩
    |1,hi=>simp at hi;subst hi;exact⟨.inl (by kernel_rfl),rfl,by kernel_rfl⟩
    |2,hi=>simp at hi;subst hi;exact⟨.inr ⟨.i64,by kernel_rfl⟩,rfl,by kernel_rfl⟩
    |3,hi=>simp at hi;subst hi;exact⟨.inr ⟨.i64,by kernel_rfl⟩,rfl,by kernel_rfl⟩
    |4,hi=>simp at hi;subst hi;exact⟨.inr ⟨.i64,by kernel_rfl⟩,rfl,by kernel_rfl⟩
    |5,hi=>simp at hi;subst hi;exact⟨.inr ⟨.i64,by kernel_rfl⟩,rfl,by kernel_rfl⟩
    |6,hi=>simp at hi;subst hi;exact⟨.inr ⟨.i64,by kernel_rfl⟩,rfl,by kernel_rfl⟩
    |7,hi=>simp at hi;subst hi;exact⟨.inr ⟨.i64,by kernel_rfl⟩,rfl,by kernel_rfl⟩
    |i+8,hi=>simp at hi
   ·intro x _ v hv;simp only[Oj,mb,ve,tG] at hv;rcases hv with rfl|rfl|rfl|rfl|rfl|rfl|rfl|rfl
    ·exact .inl ⟨_,rfl⟩
    ·exact .inl ⟨_,rfl⟩
    all_goals exact .inr ⟨_,_,rfl⟩
  ·split at hx
   ·rename_i hg;subst hg;cases hx;refine Oy h1 (name:= "proofprograms/tree.arities") (k:=.i64) (t:=290) (e:=3) (n:=14) (aag.2 ⟨?_,by kernel_rfl⟩) (by kernel_rfl) (by kernel_rfl) (by kernel_rfl) (by kernel_rfl) (by kernel_rfl) (by kernel_rfl);rw[show(Go.Lib.tabData IntKind.i64 ql:DataW Unit)=Rows.laid_proofprograms_tree_arities by kernel_rfl];exact .tail _ (.tail _ (.head _))
   ·cases hx
def V5(os:Os)(args:Array Value):laidMetH Tryz.prog Rows.schemeComputesRow.laid ((World.doorLaid Tryz.prog 400 os).forCall (λ_ _=>0) ⟨#[],args,[]⟩).memory:=
 laidMetH_of_parts3 (fuel:=8) (laidMet_of_run' 8 (by kernel_rfl) (by kernel_rfl)) (by kernel_rfl) (by kernel_rfl)
set_option maxRecDepth 100000 in
def Ay(os:Os)(started:os.Started)(H:Type)(enc:TypeId×Value->H):ReturnsInHanded {} Tryz.checked os 4 .any (λw args=>(Rows.schemeComputesSpec.pre enc Tryz.prog Tryz.f4 [] false w args/\laidMetH Tryz.prog Rows.schemeComputesRow.laid w)/\sizedMet enc Tryz.prog Tryz.f4 (OpenSpec.ofChange Rows.schemeComputesSpec) false w args)
   (Rows.schemeComputesSpec.post enc Tryz.prog Tryz.f4 false true false false):=by
 refine returnsInHanded_of_change_and (C:=Tryz.checked) (X:=λw _=>laidMetH Tryz.prog Rows.schemeComputesRow.laid w) (λ_ _ _ A h=>h.of_heap A) Tryz.own started (by kernel_rfl) Tryz.func4
  (ChangeSpec.witness_shaped (enc:=enc) (C:=Tryz.checked) (os:=os) (X:=λw _=>laidMetH Tryz.prog Rows.schemeComputesRow.laid w) false (World.doorLaid Tryz.prog 400 os) #[.slice none 0 0] 8 rfl (World.shaped_of_RefB (by kernel_rfl) (by kernel_rfl)) (by kernel_rfl) (by kernel_rfl) (by kernel_rfl) (V5 os _)) ?_
 intro W base args B gs before b o _ _ D _;have a:∀(j:Nat) t v,Tryz.f4.params[j]?=some t->args[j]?=some v->Value.okWide Tryz.prog W .any base t v:=b;have c:=o;obtain⟨p,q,i,F,rfl,G,I⟩:=o;have r:DataW.TrodAll enc Tryz.prog W 0 (λ_=>true) true Tryz.f4.params.toList args.toList B p:=i;rw[Tryz.params4] at r a;obtain⟨v0,J,d0,K,s,q0,k,rfl,rfl,u,M⟩:=trodAll_cons r;obtain⟨rfl,rfl,rfl⟩:=trodAll_nil M
 obtain rfl:args=#[v0]:=by cases args;simp_all
 obtain⟨rfl,rfl⟩:=trodVars_none F;obtain⟨L,d⟩:=Yh Tryz.underlying22 Tryz.underlying3 (by kernel_rfl) (a 0 22 v0 rfl rfl) u;simp only[AE] at c
 have l:∀x∈s,x.block<W.heap.size:=λx f=>by simpa using c.lt x f
 refine((eN Gt Xq (DA L)).law Vb (Rk D) d).mono λe N ⟨he,y⟩=>?_;subst he
 exact⟨_,rfl,Ln (pa:=s) (pv:=[]) c (λ_ _ _=>trodAll_mk1 (shut_bool Tryz.underlying4 _)) (λsp n=>by
   exact trodAll_mk1 (WideElems.Trod_stays Tryz.laidOut (by kernel_rfl) (aik (by kernel_rfl)) u (λx f=>y.same (l x f)) (λx f=>n x (by simpa using f)))) (λ_ _=>rfl) aaA
  y (ok_one (by kernel_rfl) rfl (okWide_bool_mk Tryz.underlying4 _))⟩
def kf1:Rows.schemeComputesRow.wf (OpenSpec.ofChange Rows.schemeComputesSpec)=true:=by kernel_rfl
def kf2:laidOutB Tryz.prog=true:=by kernel_rfl
def kf3:mapsRowed Tryz.prog=true:=by kernel_rfl
def kf4:Tryz.f4.params.all (Tryz.prog.readableRec ·)=true:=by kernel_rfl
def kf5:namedTie Tryz.prog Rows.schemeComputesRow.named Rows.schemeComputesSpec.vars=true:=by kernel_rfl
def kf6:(Rows.schemeComputesRow.stops==[])=true:=by kernel_rfl
def kf7:(Tryz.prog.stops==[])=true:=by kernel_rfl
def kf8:(Rows.schemeComputesRow.knobs==[])=true:=by kernel_rfl
def kf9:(Tryz.prog.stopKnobs==[])=true:=by kernel_rfl
def aku:(Rows.schemeComputesRow.inPlace==Tryz.prog.inPlace 4)=true:=by kernel_rfl
def akE:(Rows.schemeComputesRow.unfollowed==Tryz.prog.unfollowed 4)=true:=by kernel_rfl
def akw:(Rows.schemeComputesRow.recurses==Tryz.prog.recurses 4)=true:=by kernel_rfl
def akq:(Rows.schemeComputesRow.named==Tryz.prog.varsNamed 4)=true:=by kernel_rfl
def akj:(Rows.schemeComputesRow.maps==(Tryz.f4.params.toList++Rows.schemeComputesSpec.plain.varTypes Tryz.prog).any (Tryz.prog.mapsRec ·))=true:=by kernel_rfl
def akv:(Rows.schemeComputesRow.ifaces==(Tryz.f4.params.toList++Rows.schemeComputesSpec.plain.varTypes Tryz.prog).any (Tryz.prog.ifacesRec ·))=true:=by kernel_rfl
def akJ:(Rows.schemeComputesRow.mapsOut==Tryz.prog.mapsAmong Tryz.f4.resultTypes.toList)=true:=by kernel_rfl
def aka:(Rows.schemeComputesRow.loops==(Tryz.f4.params.toList++Rows.schemeComputesSpec.plain.varTypes Tryz.prog).any (Tryz.prog.loopsFrom ·))=true:=by kernel_rfl
def ajP:(Rows.schemeComputesRow.wideKeys==(Tryz.f4.params.toList++Rows.schemeComputesSpec.plain.varTypes Tryz.prog++Tryz.f4.resultTypes.toList).any (Tryz.prog.wideKeysFrom ·))=true:=by kernel_rfl
def ajZ:Rows.schemeComputesSpec.vars.all (Tryz.prog.varReadable ·)=true:=by kernel_rfl
def akH:(Tryz.f4.resultTypes.all (λt=>Tryz.prog.readableRec t&&decide (t<Tryz.prog.types.size)))=true:=by kernel_rfl
def akc:(Rows.schemeComputesRow.ifacesOut==Tryz.f4.resultTypes.toList.any (Tryz.prog.ifacesRec ·))=true:=by kernel_rfl
def akg:(Rows.schemeComputesRow.loopsOut==Tryz.f4.resultTypes.toList.any (Tryz.prog.loopsFrom ·))=true:=by kernel_rfl
def akp:(Rows.schemeComputesRow.plainKeys==Tryz.prog.plainKeys)=true:=by kernel_rfl
def ajR:Rows.schemeComputesRow.shortTexts.isNone=true:=by kernel_rfl
def aj':Tryz.prog.stopsHeard=true:=by kernel_rfl
def aj0:Tryz.prog.mayEnter=true:=by kernel_rfl
def aj8:(Rows.schemeComputesRow.lifted==Tryz.prog.liftsFinal)=true:=by kernel_rfl
def akG:(Tryz.prog.make==some Rows.schemeComputesRow.make)=true:=by kernel_rfl
def akt:(Rows.schemeComputesRow.pinned==Rows.schemeComputesRow.pinnedBy)=true:=by kernel_rfl
def akF:(Rows.schemeComputesRow.veiled==(Tryz.f4.params.toList++Rows.schemeComputesSpec.plain.varTypes Tryz.prog++Tryz.f4.resultTypes.toList).any (Tryz.prog.veiledRec ·))=true:=by kernel_rfl
def aj9:Rows.schemeComputesRow.veiledFits Tryz.prog Tryz.f4.params.toList (Tryz.f4.params.toList++Rows.schemeComputesSpec.plain.varTypes Tryz.prog++Tryz.f4.resultTypes.toList)=true:=by kernel_rfl
set_option maxRecDepth 100000 in
def aeI:joinedFacts Tryz.pinned.checked.prog 4 Tryz.f4 Rows.schemeComputesSpec Rows.schemeComputesRow=true:=by
 show joinedFacts Tryz.prog 4 Tryz.f4 Rows.schemeComputesSpec Rows.schemeComputesRow=true;unfold joinedFacts;simp only[hE];exact⟨⟨⟨⟨⟨⟨⟨⟨⟨⟨⟨⟨⟨⟨⟨⟨⟨⟨⟨⟨⟨⟨⟨⟨⟨⟨⟨⟨⟨⟨⟨kf1,kf2⟩,kf3⟩,kf4⟩,kf5⟩,kf6⟩,kf7⟩,kf8⟩,kf9⟩,aku⟩,akE⟩,akw⟩,akq⟩,akj⟩,akv⟩,akJ⟩,aka⟩,ajP⟩,ajZ⟩,akH⟩,akc⟩,akg⟩,akp⟩,ajR⟩,aj'⟩,aj0⟩,aj8⟩,akG⟩,(by kernel_rfl)⟩,akt⟩,akF⟩,aj9⟩
def YC:Tryz.pinned.checked.prog.funcNamed Rows.schemeComputesRow.func=some 4:=by kernel_rfl
def P2:Func.isInstance Tryz.pinned.checked.prog Tryz.f4 Rows.schemeComputesRow.origin Rows.schemeComputesRow.targs:=aik (by kernel_rfl)
def Rn:Func.isWrapper Tryz.pinned.checked.prog Tryz.f4 Rows.schemeComputesRow.wrapper Rows.schemeComputesRow.mainSum:=by unfold Func.isWrapper;first|(rw[dR aby];kernel_rfl)|(rw[dK aby];exact⟨rfl,rfl⟩)
def AO:Rows.SchemeComputesSaid:=
 OpenClaim.holds_of_wide 4 Tryz.f4 rfl rfl rfl rfl rfl rfl rfl ⟨rfl,rfl,rfl,rfl,rfl⟩ rfl rfl rfl rfl rfl YC Tryz.func4 aeI P2 Rn
  (λos started H enc _=>Ay os started H enc)
def cf1:OpenClaim.wfByText (OpenSpec.ofChange Rows.schemeComputesSpec) Rows.schemeComputesRow=true:=by kernel_rfl
def cf2:Tryz.pinned.checked.prog.mainIs=some ((true, "828685226fc5eb3203947e0649590e18dbf39dd039ccf4ee44873603de627960").fst,(true, "828685226fc5eb3203947e0649590e18dbf39dd039ccf4ee44873603de627960").snd.toList):=by kernel_rfl
def cf3:false=Rows.schemeComputesRow.goesBy Tryz.pinned.checked.prog:=by kernel_rfl
def cf4:Tryz.prog.funcNamed "proofprograms/proofprogramslaw41.SchemeComputes" =some 4:=by kernel_rfl
def cf5:([22].all λu=>!Tryz.prog.wantsStandIn u)=true:=by kernel_rfl
theorem schemeComputes_card:Rows.SchemeComputesCardSaid:=
 Claim7.holds_tied_plain_at .later [] [.data,.data,.data] true (true, "828685226fc5eb3203947e0649590e18dbf39dd039ccf4ee44873603de627960") false
  AO (λ_ h=>by cases h) cf1 (λ_ h=>by cases h) schemeComputes_row_tie rfl ⟨rfl,rfl⟩ cf2 rfl
  (λf fn hf hfn=>by
   obtain rfl:f=4:=kX (cf4.symm.trans hf)|>.symm;obtain rfl:fn=Tryz.f4:=(kX (Tryz.func4.symm.trans hfn)).symm
   exact⟨by kernel_rfl,λj t ht=>by
    rw[Tryz.params4] at ht
    have hm:t∈[22]:=by simpa using aac ht
    exact(show Tryz.prog.wantsStandIn t=false by simpa using ll.1 cf5 t hm)⟩)
  cf3
#print axioms schemeComputes_card
end Go.Proofs.YtpgdkkomegalnaaGreatDoor
