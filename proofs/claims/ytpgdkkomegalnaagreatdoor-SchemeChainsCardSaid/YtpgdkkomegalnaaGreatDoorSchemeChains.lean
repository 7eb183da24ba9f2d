/- What is proved: SchemeChains: for every list of numbers the law returns true, and its argument reads behind the call as before. No condition beside the three listed tables, which the card ties to the program's text. -/
import Derived.Test.YtpgdkkomegalnaaGreatDoorRows
import Derived.Test.YtpgdkkomegalnaaGreatDoorCards
import Derived.Test.YtpgdkkomegalnaaGreatDoorTie
import Derived.Test.YtpgdkkomegalnaaGreatDoorHW3
import Derived.Test.YtpgdkkomegalnaaGreatDoorHPC3
import Derived.Test.YtpgdkkomegalnaaGreatDoorHL22
set_option linter.all false
namespace Go.Proofs.YtpgdkkomegalnaaGreatDoor
open Go Go.lD Go.fP Go.ChangeShapes Go.WideShapes Go.ChangeAt Go.RowKit
def Tryz.own:ownKnob Tryz.prog.godebug=none:=by kernel_rfl
def Tryz.laidOut:laidOutB Tryz.prog=true:=by kernel_rfl
def Rv(x:fL):List Value:=[.bool x.aos,.bool x.typed,.int .i64 x.ek,.int .i64 x.gh,.int .i64 x.aoq,.int .i64 x.uM,.int .i64 x.vars,.int .i64 x.aow]
def TD:List.flatMap (λx=>fL.cs x) pj=(pj.flatMap Rv).map AV.sc:=by kernel_rfl
def F_:eK:=λg=>if g=0 then some (AV.agg (List.map (λn=>AV.sc (Value.int .u8 n)) lO))else if g=1 then some (AV.agg ((pj.flatMap Rv).map AV.sc))else if g=2 then some (AV.agg (List.map (λn=>AV.sc (Value.int .i64 n)) qF))else none
def W6:¬∀g,F_ g=none:=λh=>by have:=h 0;simp[F_] at this
def Y4:n8 F_:=⟨rfl,by rw[TD];rfl,rfl⟩
def T5{W:World}(h:laidMetH Tryz.prog Rows.schemeChainsRow.laid W):∀g x,F_ g=some x->gT (uH W) (λ_=>0) 0 (.mQ x) (.pointer (some ⟨g,0,none⟩)):=by
 have h1:=(laidMetH_iff.1 h).1;intro g x hx;unfold F_ at hx
 split at hx
 .rename_i hg;subst hg;cases hx;refine QP h1 (name:= "math/bits.deBruijn32tab") (k:=.u8) (t:=258) (e:=5) (n:=32) (adX.2 ⟨?_,by kernel_rfl⟩) (by kernel_rfl) (by kernel_rfl) (by kernel_rfl) (by kernel_rfl) (by kernel_rfl) (by kernel_rfl);rw[show(Go.Lib.tabData IntKind.u8 lO:DataW Unit)=Rows.laid_math_bits_deBruijn32tab by kernel_rfl];exact .head _
 .split at hx
  .rename_i hg;subst hg;cases hx;refine Z8 h1 (name:= "proofprograms/tree.rules") (L:=pj) (f:=Rv) (N:=8) (t:=273) (e:=235) (by decide) (adX.2 ⟨?_,by kernel_rfl⟩) (by kernel_rfl) (by kernel_rfl) (by kernel_rfl) Tryz.underlying235 ?_ (by kernel_rfl) rfl (λx _=>rfl) ?_
   .rw[show(DataW.agg (pj.map λx=>.agg ((Rv x).map ZQ)):DataW Unit)=Rows.laid_proofprograms_tree_rules by kernel_rfl];exact .tail _ (.head _)
   .intro i f hi
    match i,hi with
    |0,hi=>simp at hi;subst hi;exact⟨.inl (by kernel_rfl),rfl,by kernel_rfl⟩
    |1,hi=>simp at hi;subst hi;exact⟨.inl (by kernel_rfl),rfl,by kernel_rfl⟩
    |2,hi=>simp at hi;subst hi;exact⟨.inr ⟨.i64,by kernel_rfl⟩,rfl,by kernel_rfl⟩
    |3,hi=>simp at hi;subst hi;exact⟨.inr ⟨.i64,by kernel_rfl⟩,rfl,by kernel_rfl⟩
    |4,hi=>simp at hi;subst hi;exact⟨.inr ⟨.i64,by kernel_rfl⟩,rfl,by kernel_rfl⟩
    |5,hi=>simp at hi;subst hi;exact⟨.inr ⟨.i64,by kernel_rfl⟩,rfl,by kernel_rfl⟩
    |6,hi=>simp at hi;subst hi;exact⟨.inr ⟨.i64,by kernel_rfl⟩,rfl,by kernel_rfl⟩
    |7,hi=>simp at hi;subst hi;exact⟨.inr ⟨.i64,by kernel_rfl⟩,rfl,by kernel_rfl⟩
    |i+8,hi=>simp at hi
   .intro x _ v hv;simp only[Rv,kX,ry,pM] at hv;rcases hv with rfl|rfl|rfl|rfl|rfl|rfl|rfl|rfl
    .exact .inl ⟨_,rfl⟩
    .exact .inl ⟨_,rfl⟩
    all_goals exact .inr ⟨_,_,rfl⟩
  .split at hx
   .rename_i hg;subst hg;cases hx;refine QP h1 (name:= "proofprograms/tree.arities") (k:=.i64) (t:=290) (e:=3) (n:=14) (adX.2 ⟨?_,by kernel_rfl⟩) (by kernel_rfl) (by kernel_rfl) (by kernel_rfl) (by kernel_rfl) (by kernel_rfl) (by kernel_rfl);rw[show(Go.Lib.tabData IntKind.i64 qF:DataW Unit)=Rows.laid_proofprograms_tree_arities by kernel_rfl];exact .tail _ (.tail _ (.head _))
   .cases hx
def ZI(os:Os)(args:Array Value):laidMetH Tryz.prog Rows.schemeChainsRow.laid ((World.doorLaid Tryz.prog 400 os).forCall (λ_ _=>0) ⟨#[],args,[]⟩).memory:=
 laidMetH_of_parts3 (fuel:=8) (laidMet_of_run' 8 (by kernel_rfl) (by kernel_rfl)) (by kernel_rfl) (by kernel_rfl)
set_option maxRecDepth 100000 in
def Ch(os:Os)(started:os.Started)(H:Type)(enc:TypeId×Value->H):ReturnsInHanded {} Tryz.checked os 6 .any (λw args=>(Rows.schemeChainsSpec.pre enc Tryz.prog Tryz.f6 [] false w args/\laidMetH Tryz.prog Rows.schemeChainsRow.laid w)/\sizedMet enc Tryz.prog Tryz.f6 (OpenSpec.ofChange Rows.schemeChainsSpec) false w args)
   (Rows.schemeChainsSpec.post enc Tryz.prog Tryz.f6 false true false false):=by
 refine returnsInHanded_of_change_and (C:=Tryz.checked) (X:=λw _=>laidMetH Tryz.prog Rows.schemeChainsRow.laid w) (λ_ _ _ A h=>h.of_heap A) Tryz.own started (by kernel_rfl) Tryz.func6
  (ChangeSpec.witness_shaped (enc:=enc) (C:=Tryz.checked) (os:=os) (X:=λw _=>laidMetH Tryz.prog Rows.schemeChainsRow.laid w) false (World.doorLaid Tryz.prog 400 os) #[.slice none 0 0] 8 rfl (World.shaped_of_RefB (by kernel_rfl) (by kernel_rfl)) (by kernel_rfl) (by kernel_rfl) (by kernel_rfl) (ZI os _)) ?_
 intro W base args B gs before b o _ _ D _;have a:∀(j:Nat) t v,Tryz.f6.params[j]?=some t->args[j]?=some v->Value.okWide Tryz.prog W .any base t v:=b;have c:=o;obtain⟨p,q,i,F,rfl,G,I⟩:=o;have r:DataW.TrodAll enc Tryz.prog W 0 (λ_=>true) true Tryz.f6.params.toList args.toList B p:=i;rw[Tryz.params6] at r a;obtain⟨v0,J,d0,K,s,q0,k,rfl,rfl,u,M⟩:=trodAll_cons r;obtain⟨rfl,rfl,rfl⟩:=trodAll_nil M
 obtain rfl:args=#[v0]:=by cases args;simp_all
 obtain⟨rfl,rfl⟩:=trodVars_none F;obtain⟨L,d⟩:=Z' Tryz.underlying22 Tryz.underlying3 (by kernel_rfl) (a 0 22 v0 rfl rfl) u;simp only[yc] at c
 have l:∀x∈s,x.block<W.heap.size:=λx f=>by simpa using c.lt x f
 refine((A6 F_ Y4 (Fs L)).law W6 (T5 D) d).mono λe N ⟨he,y⟩=>?_;subst he
 exact⟨_,rfl,Ln (pa:=s) (pv:=[]) c (λ_ _ _=>trodAll_mk1 (shut_bool Tryz.underlying4 _)) (λsp n=>by
   exact trodAll_mk1 (WideElems.Trod_stays Tryz.laidOut (by kernel_rfl) (akS (by kernel_rfl)) u (λx f=>y.same (l x f)) (λx f=>n x (by simpa using f)))) (λ_ _=>rfl) abm
  y (ok_one (by kernel_rfl) rfl (okWide_bool_mk Tryz.underlying4 _))⟩
def kf1:Rows.schemeChainsRow.wf (OpenSpec.ofChange Rows.schemeChainsSpec)=true:=by kernel_rfl
def kf2:laidOutB Tryz.prog=true:=by kernel_rfl
def kf3:mapsRowed Tryz.prog=true:=by kernel_rfl
def kf4:Tryz.f6.params.all (Tryz.prog.readableRec ·)=true:=by kernel_rfl
def kf5:namedTie Tryz.prog Rows.schemeChainsRow.named Rows.schemeChainsSpec.vars=true:=by kernel_rfl
def kf6:(Rows.schemeChainsRow.stops==[])=true:=by kernel_rfl
def kf7:(Tryz.prog.stops==[])=true:=by kernel_rfl
def kf8:(Rows.schemeChainsRow.knobs==[])=true:=by kernel_rfl
def kf9:(Tryz.prog.stopKnobs==[])=true:=by kernel_rfl
def amD:(Rows.schemeChainsRow.inPlace==Tryz.prog.inPlace 6)=true:=by kernel_rfl
def amM:(Rows.schemeChainsRow.unfollowed==Tryz.prog.unfollowed 6)=true:=by kernel_rfl
def ams:(Rows.schemeChainsRow.recurses==Tryz.prog.recurses 6)=true:=by kernel_rfl
def amP:(Rows.schemeChainsRow.named==Tryz.prog.varsNamed 6)=true:=by kernel_rfl
def amc:(Rows.schemeChainsRow.maps==(Tryz.f6.params.toList++Rows.schemeChainsSpec.plain.varTypes Tryz.prog).any (Tryz.prog.mapsRec ·))=true:=by kernel_rfl
def amH:(Rows.schemeChainsRow.ifaces==(Tryz.f6.params.toList++Rows.schemeChainsSpec.plain.varTypes Tryz.prog).any (Tryz.prog.ifacesRec ·))=true:=by kernel_rfl
def amO:(Rows.schemeChainsRow.mapsOut==Tryz.prog.mapsAmong Tryz.f6.resultTypes.toList)=true:=by kernel_rfl
def amm:(Rows.schemeChainsRow.loops==(Tryz.f6.params.toList++Rows.schemeChainsSpec.plain.varTypes Tryz.prog).any (Tryz.prog.loopsFrom ·))=true:=by kernel_rfl
def ama:(Rows.schemeChainsRow.wideKeys==(Tryz.f6.params.toList++Rows.schemeChainsSpec.plain.varTypes Tryz.prog++Tryz.f6.resultTypes.toList).any (Tryz.prog.wideKeysFrom ·))=true:=by kernel_rfl
def am2:Rows.schemeChainsSpec.vars.all (Tryz.prog.varReadable ·)=true:=by kernel_rfl
def amY:(Tryz.f6.resultTypes.all (λt=>Tryz.prog.readableRec t&&decide (t<Tryz.prog.types.size)))=true:=by kernel_rfl
def ami:(Rows.schemeChainsRow.ifacesOut==Tryz.f6.resultTypes.toList.any (Tryz.prog.ifacesRec ·))=true:=by kernel_rfl
def amW:(Rows.schemeChainsRow.loopsOut==Tryz.f6.resultTypes.toList.any (Tryz.prog.loopsFrom ·))=true:=by kernel_rfl
def amL:(Rows.schemeChainsRow.plainKeys==Tryz.prog.plainKeys)=true:=by kernel_rfl
def amT:Rows.schemeChainsRow.shortTexts.isNone=true:=by kernel_rfl
def amE:Tryz.prog.stopsHeard=true:=by kernel_rfl
def amf:Tryz.prog.mayEnter=true:=by kernel_rfl
def amU:(Rows.schemeChainsRow.lifted==Tryz.prog.liftsFinal)=true:=by kernel_rfl
def am1:(Tryz.prog.make==some Rows.schemeChainsRow.make)=true:=by kernel_rfl
def amx:(Rows.schemeChainsRow.pinned==Rows.schemeChainsRow.pinnedBy)=true:=by kernel_rfl
def amp:(Rows.schemeChainsRow.veiled==(Tryz.f6.params.toList++Rows.schemeChainsSpec.plain.varTypes Tryz.prog++Tryz.f6.resultTypes.toList).any (Tryz.prog.veiledRec ·))=true:=by kernel_rfl
def amG:Rows.schemeChainsRow.veiledFits Tryz.prog Tryz.f6.params.toList (Tryz.f6.params.toList++Rows.schemeChainsSpec.plain.varTypes Tryz.prog++Tryz.f6.resultTypes.toList)=true:=by kernel_rfl
set_option maxRecDepth 100000 in
def aii:joinedFacts Tryz.pinned.checked.prog 6 Tryz.f6 Rows.schemeChainsSpec Rows.schemeChainsRow=true:=by
 show joinedFacts Tryz.prog 6 Tryz.f6 Rows.schemeChainsSpec Rows.schemeChainsRow=true;unfold joinedFacts;simp only[gJ];exact⟨⟨⟨⟨⟨⟨⟨⟨⟨⟨⟨⟨⟨⟨⟨⟨⟨⟨⟨⟨⟨⟨⟨⟨⟨⟨⟨⟨⟨⟨⟨kf1,kf2⟩,kf3⟩,kf4⟩,kf5⟩,kf6⟩,kf7⟩,kf8⟩,kf9⟩,amD⟩,amM⟩,ams⟩,amP⟩,amc⟩,amH⟩,amO⟩,amm⟩,ama⟩,am2⟩,amY⟩,ami⟩,amW⟩,amL⟩,amT⟩,amE⟩,amf⟩,amU⟩,am1⟩,(by kernel_rfl)⟩,amx⟩,amp⟩,amG⟩
def YH:Tryz.pinned.checked.prog.funcNamed Rows.schemeChainsRow.func=some 6:=by kernel_rfl
def Rr:Func.isInstance Tryz.pinned.checked.prog Tryz.f6 Rows.schemeChainsRow.origin Rows.schemeChainsRow.targs:=akS (by kernel_rfl)
def SC:Func.isWrapper Tryz.pinned.checked.prog Tryz.f6 Rows.schemeChainsRow.wrapper Rows.schemeChainsRow.mainSum:=by unfold Func.isWrapper;first|(rw[dO abx];kernel_rfl)|(rw[dK abx];exact⟨rfl,rfl⟩)
def Db:Rows.SchemeChainsSaid:=
 OpenClaim.holds_of_wide 6 Tryz.f6 rfl rfl rfl rfl rfl rfl rfl ⟨rfl,rfl,rfl,rfl,rfl⟩ rfl rfl rfl rfl rfl YH Tryz.func6 aii Rr SC
  (λos started H enc _=>Ch os started H enc)
def cf1:OpenClaim.wfByText (OpenSpec.ofChange Rows.schemeChainsSpec) Rows.schemeChainsRow=true:=by kernel_rfl
def cf2:Tryz.pinned.checked.prog.mainIs=some ((true, "828685226fc5eb3203947e0649590e18dbf39dd039ccf4ee44873603de627960").fst,(true, "828685226fc5eb3203947e0649590e18dbf39dd039ccf4ee44873603de627960").snd.toList):=by kernel_rfl
def cf3:false=Rows.schemeChainsRow.goesBy Tryz.pinned.checked.prog:=by kernel_rfl
def cf4:Tryz.prog.funcNamed "proofprograms/proofprogramslaw41.SchemeChains" =some 6:=by kernel_rfl
def cf5:([22].all λu=>!Tryz.prog.wantsStandIn u)=true:=by kernel_rfl
theorem schemeChains_card:Rows.SchemeChainsCardSaid:=
 Claim7.holds_tied_plain_at .later [] [.data,.data,.data] true (true, "828685226fc5eb3203947e0649590e18dbf39dd039ccf4ee44873603de627960") false
  Db (λ_ h=>by cases h) cf1 (λ_ h=>by cases h) schemeChains_row_tie rfl ⟨rfl,rfl⟩ cf2 rfl
  (λf fn hf hfn=>by
   obtain rfl:f=6:=hU (cf4.symm.trans hf)|>.symm;obtain rfl:fn=Tryz.f6:=(hU (Tryz.func6.symm.trans hfn)).symm
   exact⟨by kernel_rfl,λj t ht=>by
    rw[Tryz.params6] at ht
    have hm:t∈[22]:=by simpa using aeu ht
    exact(show Tryz.prog.wantsStandIn t=false by simpa using kZ.1 cf5 t hm)⟩)
  cf3
#print axioms schemeChains_card
end Go.Proofs.YtpgdkkomegalnaaGreatDoor
