/- What is proved: SchemeLists: for every list of numbers the law returns true, and its argument reads behind the call as before. No condition beside the three listed tables, which the card ties to the program's text. -/
import Derived.Test.YtpgdkkomegalnaaGreatDoorRows
import Derived.Test.YtpgdkkomegalnaaGreatDoorCards
import Derived.Test.YtpgdkkomegalnaaGreatDoorTie
import Derived.Test.YtpgdkkomegalnaaGreatDoorLW3
import Derived.Test.YtpgdkkomegalnaaGreatDoorLPL3
import Derived.Test.YtpgdkkomegalnaaGreatDoorLL22
set_option linter.all false
namespace Go.Proofs.YtpgdkkomegalnaaGreatDoor
open Go Go.kY Go.fD Go.ChangeShapes Go.WideShapes Go.ChangeAt Go.RowKit
def Tryz.own:ownKnob Tryz.prog.godebug=none:=by kernel_rfl
def Tryz.laidOut:laidOutB Tryz.prog=true:=by kernel_rfl
def N9(x:ft):List Value:=[.bool x.ak8,.bool x.typed,.int .i64 x.eh,.int .i64 x.fW,.int .i64 x.ak6,.int .i64 x.uG,.int .i64 x.vars,.int .i64 x.ala]
def Q_:List.flatMap (λx=>ft.cs x) od=(od.flatMap N9).map AV.sc:=by kernel_rfl
def Gc:eN:=λg=>if g=0 then some (AV.agg (List.map (λn=>AV.sc (Value.int .u8 n)) lx))else if g=1 then some (AV.agg ((od.flatMap N9).map AV.sc))else if g=2 then some (AV.agg (List.map (λn=>AV.sc (Value.int .i64 n)) qe))else none
def Uf:¬∀g,Gc g=none:=λh=>by have:=h 0;simp[Gc] at this
def Xu:nX Gc:=⟨rfl,by rw[Q_];rfl,rfl⟩
def P0{W:World}(h:laidMetH Tryz.prog Rows.schemeListsRow.laid W):∀g x,Gc g=some x->gQ (uP W) (λ_=>0) 0 (.mj x) (.pointer (some ⟨g,0,none⟩)):=by
 have h1:=(laidMetH_iff.1 h).1;intro g x hx;unfold Gc at hx
 split at hx
 ·rename_i hg;subst hg;cases hx;refine O' h1 (name:= "math/bits.deBruijn32tab") (k:=.u8) (t:=258) (e:=5) (n:=32) (Zm.2 ⟨?_,by kernel_rfl⟩) (by kernel_rfl) (by kernel_rfl) (by kernel_rfl) (by kernel_rfl) (by kernel_rfl) (by kernel_rfl);rw[show(Go.Lib.tabData IntKind.u8 lx:DataW Unit)=Rows.laid_math_bits_deBruijn32tab by kernel_rfl];exact .head _
 ·split at hx
  ·rename_i hg;subst hg;cases hx;refine XS h1 (name:= "proofprograms/tree.rules") (L:=od) (f:=N9) (N:=8) (t:=273) (e:=235) (by decide) (Zm.2 ⟨?_,by kernel_rfl⟩) (by kernel_rfl) (by kernel_rfl) (by kernel_rfl) Tryz.underlying235 ?_ (by kernel_rfl) rfl (λx _=>rfl) ?_
   ·rw[show(DataW.agg (od.map λx=>.agg ((N9 x).map Xx)):DataW Unit)=Rows.laid_proofprograms_tree_rules by kernel_rfl];exact .tail _ (.head _)
   ·intro i f hi
    match i,hi with
    |0,hi=>simp at hi;subst hi;exact⟨.inl (by kernel_rfl),rfl,by kernel_rfl⟩
    |1,hi=>simp at hi;subst hi;exact⟨.inl (by kernel_rfl),rfl,by kernel_rfl⟩
    |2,hi=>simp at hi;subst hi;exact⟨.inr ⟨.i64,by kernel_rfl⟩,rfl,by kernel_rfl⟩
    |3,hi=>simp at hi;subst hi;exact⟨.inr ⟨.i64,by kernel_rfl⟩,rfl,by kernel_rfl⟩
    |4,hi=>simp at hi;subst hi;exact⟨.inr ⟨.i64,by kernel_rfl⟩,rfl,by kernel_rfl⟩
    |5,hi=>simp at hi;subst hi;exact⟨.inr ⟨.i64,by kernel_rfl⟩,rfl,by kernel_rfl⟩
    |6,hi=>simp at hi;subst hi;exact⟨.inr ⟨.i64,by kernel_rfl⟩,rfl,by kernel_rfl⟩
    |7,hi=>simp at hi;subst hi;exact⟨.inr ⟨.i64,by kernel_rfl⟩,rfl,by kernel_rfl⟩
    |i+8,hi=>simp at hi
   ·intro x _ v hv;simp only[N9,lQ,uU,tO] at hv;rcases hv with rfl|rfl|rfl|rfl|rfl|rfl|rfl|rfl
    ·exact .inl ⟨_,rfl⟩
    ·exact .inl ⟨_,rfl⟩
    all_goals exact .inr ⟨_,_,rfl⟩
  ·split at hx
   ·rename_i hg;subst hg;cases hx;refine O' h1 (name:= "proofprograms/tree.arities") (k:=.i64) (t:=290) (e:=3) (n:=14) (Zm.2 ⟨?_,by kernel_rfl⟩) (by kernel_rfl) (by kernel_rfl) (by kernel_rfl) (by kernel_rfl) (by kernel_rfl) (by kernel_rfl);rw[show(Go.Lib.tabData IntKind.i64 qe:DataW Unit)=Rows.laid_proofprograms_tree_arities by kernel_rfl];exact .tail _ (.tail _ (.head _))
   ·cases hx
def Xp(os:Os)(args:Array Value):laidMetH Tryz.prog Rows.schemeListsRow.laid ((World.doorLaid Tryz.prog 400 os).forCall (λ_ _=>0) ⟨#[],args,[]⟩).memory:=
 laidMetH_of_parts3 (fuel:=8) (laidMet_of_run' 8 (by kernel_rfl) (by kernel_rfl)) (by kernel_rfl) (by kernel_rfl)
set_option maxRecDepth 100000 in
def Du(os:Os)(started:os.Started)(H:Type)(enc:TypeId×Value->H):ReturnsInHanded {} Tryz.checked os 5 .any (λw args=>(Rows.schemeListsSpec.pre enc Tryz.prog Tryz.f5 [] false w args/\laidMetH Tryz.prog Rows.schemeListsRow.laid w)/\sizedMet enc Tryz.prog Tryz.f5 (OpenSpec.ofChange Rows.schemeListsSpec) false w args)
   (Rows.schemeListsSpec.post enc Tryz.prog Tryz.f5 false true false false):=by
 refine returnsInHanded_of_change_and (C:=Tryz.checked) (X:=λw _=>laidMetH Tryz.prog Rows.schemeListsRow.laid w) (λ_ _ _ A h=>h.of_heap A) Tryz.own started (by kernel_rfl) Tryz.func5
  (ChangeSpec.witness_shaped (enc:=enc) (C:=Tryz.checked) (os:=os) (X:=λw _=>laidMetH Tryz.prog Rows.schemeListsRow.laid w) false (World.doorLaid Tryz.prog 400 os) #[.slice none 0 0] 8 rfl (World.shaped_of_RefB (by kernel_rfl) (by kernel_rfl)) (by kernel_rfl) (by kernel_rfl) (by kernel_rfl) (Xp os _)) ?_
 intro W base args B gs before b o _ _ D _;have a:∀(j:Nat) t v,Tryz.f5.params[j]?=some t->args[j]?=some v->Value.okWide Tryz.prog W .any base t v:=b;have c:=o;obtain⟨p,q,i,F,rfl,G,I⟩:=o;have r:DataW.TrodAll enc Tryz.prog W 0 (λ_=>true) true Tryz.f5.params.toList args.toList B p:=i;rw[Tryz.params5] at r a;obtain⟨v0,J,d0,K,s,q0,k,rfl,rfl,u,M⟩:=trodAll_cons r;obtain⟨rfl,rfl,rfl⟩:=trodAll_nil M
 obtain rfl:args=#[v0]:=by cases args;simp_all
 obtain⟨rfl,rfl⟩:=trodVars_none F;obtain⟨L,d⟩:=Wy Tryz.underlying22 Tryz.underlying3 (by kernel_rfl) (a 0 22 v0 rfl rfl) u;simp only[Ac] at c
 have l:∀x∈s,x.block<W.heap.size:=λx f=>by simpa using c.lt x f
 refine((kz Gc Xu (He L)).law Uf (P0 D) d).mono λe N ⟨he,y⟩=>?_;subst he
 exact⟨_,rfl,Kf (pa:=s) (pv:=[]) c (λ_ _ _=>trodAll_mk1 (shut_bool Tryz.underlying4 _)) (λsp n=>by
   exact trodAll_mk1 (WideElems.Trod_stays Tryz.laidOut (by kernel_rfl) (agF (by kernel_rfl)) u (λx f=>y.same (l x f)) (λx f=>n x (by simpa using f)))) (λ_ _=>rfl) aa2
  y (ok_one (by kernel_rfl) rfl (okWide_bool_mk Tryz.underlying4 _))⟩
def kf1:Rows.schemeListsRow.wf (OpenSpec.ofChange Rows.schemeListsSpec)=true:=by kernel_rfl
def kf2:laidOutB Tryz.prog=true:=by kernel_rfl
def kf3:mapsRowed Tryz.prog=true:=by kernel_rfl
def kf4:Tryz.f5.params.all (Tryz.prog.readableRec ·)=true:=by kernel_rfl
def kf5:namedTie Tryz.prog Rows.schemeListsRow.named Rows.schemeListsSpec.vars=true:=by kernel_rfl
def kf6:(Rows.schemeListsRow.stops==[])=true:=by kernel_rfl
def kf7:(Tryz.prog.stops==[])=true:=by kernel_rfl
def kf8:(Rows.schemeListsRow.knobs==[])=true:=by kernel_rfl
def kf9:(Tryz.prog.stopKnobs==[])=true:=by kernel_rfl
def ai_:(Rows.schemeListsRow.inPlace==Tryz.prog.inPlace 5)=true:=by kernel_rfl
def ajc:(Rows.schemeListsRow.unfollowed==Tryz.prog.unfollowed 5)=true:=by kernel_rfl
def ajC:(Rows.schemeListsRow.recurses==Tryz.prog.recurses 5)=true:=by kernel_rfl
def ai0:(Rows.schemeListsRow.named==Tryz.prog.varsNamed 5)=true:=by kernel_rfl
def ajL:(Rows.schemeListsRow.maps==(Tryz.f5.params.toList++Rows.schemeListsSpec.plain.varTypes Tryz.prog).any (Tryz.prog.mapsRec ·))=true:=by kernel_rfl
def ai5:(Rows.schemeListsRow.ifaces==(Tryz.f5.params.toList++Rows.schemeListsSpec.plain.varTypes Tryz.prog).any (Tryz.prog.ifacesRec ·))=true:=by kernel_rfl
def ajB:(Rows.schemeListsRow.mapsOut==Tryz.prog.mapsAmong Tryz.f5.resultTypes.toList)=true:=by kernel_rfl
def aiU:(Rows.schemeListsRow.loops==(Tryz.f5.params.toList++Rows.schemeListsSpec.plain.varTypes Tryz.prog).any (Tryz.prog.loopsFrom ·))=true:=by kernel_rfl
def ajl:(Rows.schemeListsRow.wideKeys==(Tryz.f5.params.toList++Rows.schemeListsSpec.plain.varTypes Tryz.prog++Tryz.f5.resultTypes.toList).any (Tryz.prog.wideKeysFrom ·))=true:=by kernel_rfl
def ajv:Rows.schemeListsSpec.vars.all (Tryz.prog.varReadable ·)=true:=by kernel_rfl
def ajM:(Tryz.f5.resultTypes.all (λt=>Tryz.prog.readableRec t&&decide (t<Tryz.prog.types.size)))=true:=by kernel_rfl
def ajP:(Rows.schemeListsRow.ifacesOut==Tryz.f5.resultTypes.toList.any (Tryz.prog.ifacesRec ·))=true:=by kernel_rfl
def ai3:(Rows.schemeListsRow.loopsOut==Tryz.f5.resultTypes.toList.any (Tryz.prog.loopsFrom ·))=true:=by kernel_rfl
def ai6:(Rows.schemeListsRow.plainKeys==Tryz.prog.plainKeys)=true:=by kernel_rfl
def aiS:Rows.schemeListsRow.shortTexts.isNone=true:=by kernel_rfl
def ajQ:Tryz.prog.stopsHeard=true:=by kernel_rfl
def ajD:Tryz.prog.mayEnter=true:=by kernel_rfl
def ai8:(Rows.schemeListsRow.lifted==Tryz.prog.liftsFinal)=true:=by kernel_rfl
def ajK:(Tryz.prog.make==some Rows.schemeListsRow.make)=true:=by kernel_rfl
def ajb:(Rows.schemeListsRow.pinned==Rows.schemeListsRow.pinnedBy)=true:=by kernel_rfl
def ajg:(Rows.schemeListsRow.veiled==(Tryz.f5.params.toList++Rows.schemeListsSpec.plain.varTypes Tryz.prog++Tryz.f5.resultTypes.toList).any (Tryz.prog.veiledRec ·))=true:=by kernel_rfl
def ajH:Rows.schemeListsRow.veiledFits Tryz.prog Tryz.f5.params.toList (Tryz.f5.params.toList++Rows.schemeListsSpec.plain.varTypes Tryz.prog++Tryz.f5.resultTypes.toList)=true:=by kernel_rfl
set_option maxRecDepth 100000 in
def adJ:joinedFacts Tryz.pinned.checked.prog 5 Tryz.f5 Rows.schemeListsSpec Rows.schemeListsRow=true:=by
 show joinedFacts Tryz.prog 5 Tryz.f5 Rows.schemeListsSpec Rows.schemeListsRow=true;unfold joinedFacts;simp only[hD];exact⟨⟨⟨⟨⟨⟨⟨⟨⟨⟨⟨⟨⟨⟨⟨⟨⟨⟨⟨⟨⟨⟨⟨⟨⟨⟨⟨⟨⟨⟨⟨kf1,kf2⟩,kf3⟩,kf4⟩,kf5⟩,kf6⟩,kf7⟩,kf8⟩,kf9⟩,ai_⟩,ajc⟩,ajC⟩,ai0⟩,ajL⟩,ai5⟩,ajB⟩,aiU⟩,ajl⟩,ajv⟩,ajM⟩,ajP⟩,ai3⟩,ai6⟩,aiS⟩,ajQ⟩,ajD⟩,ai8⟩,ajK⟩,(by kernel_rfl)⟩,ajb⟩,ajg⟩,ajH⟩
def UZ:Tryz.pinned.checked.prog.funcNamed Rows.schemeListsRow.func=some 5:=by kernel_rfl
def NU:Func.isInstance Tryz.pinned.checked.prog Tryz.f5 Rows.schemeListsRow.origin Rows.schemeListsRow.targs:=agF (by kernel_rfl)
def QT:Func.isWrapper Tryz.pinned.checked.prog Tryz.f5 Rows.schemeListsRow.wrapper Rows.schemeListsRow.mainSum:=by unfold Func.isWrapper;first|(rw[dR acS];kernel_rfl)|(rw[dK acS];exact⟨rfl,rfl⟩)
def D4:Rows.SchemeListsSaid:=
 OpenClaim.holds_of_wide 5 Tryz.f5 rfl rfl rfl rfl rfl rfl rfl ⟨rfl,rfl,rfl,rfl,rfl⟩ rfl rfl rfl rfl rfl UZ Tryz.func5 adJ NU QT
  (λos started H enc _=>Du os started H enc)
def cf1:OpenClaim.wfByText (OpenSpec.ofChange Rows.schemeListsSpec) Rows.schemeListsRow=true:=by kernel_rfl
def cf2:Tryz.pinned.checked.prog.mainIs=some ((true, "828685226fc5eb3203947e0649590e18dbf39dd039ccf4ee44873603de627960").fst,(true, "828685226fc5eb3203947e0649590e18dbf39dd039ccf4ee44873603de627960").snd.toList):=by kernel_rfl
def cf3:false=Rows.schemeListsRow.goesBy Tryz.pinned.checked.prog:=by kernel_rfl
def cf4:Tryz.prog.funcNamed "proofprograms/proofprogramslaw41.SchemeLists" =some 5:=by kernel_rfl
def cf5:([22].all λu=>!Tryz.prog.wantsStandIn u)=true:=by kernel_rfl
theorem schemeLists_card:Rows.SchemeListsCardSaid:=
 Claim7.holds_tied_plain_at .later [] [.data,.data,.data] true (true, "828685226fc5eb3203947e0649590e18dbf39dd039ccf4ee44873603de627960") false
  D4 (λ_ h=>by cases h) cf1 (λ_ h=>by cases h) schemeLists_row_tie rfl ⟨rfl,rfl⟩ cf2 rfl
  (λf fn hf hfn=>by
   obtain rfl:f=5:=kR (cf4.symm.trans hf)|>.symm;obtain rfl:fn=Tryz.f5:=(kR (Tryz.func5.symm.trans hfn)).symm
   exact⟨by kernel_rfl,λj t ht=>by
    rw[Tryz.params5] at ht
    have hm:t∈[22]:=by simpa using ZS ht
    exact(show Tryz.prog.wantsStandIn t=false by simpa using k_.1 cf5 t hm)⟩)
  cf3
#print axioms schemeLists_card
end Go.Proofs.YtpgdkkomegalnaaGreatDoor
