/- What is proved: UniformAccepted: for every list of numbers the law returns true, and its argument reads behind the call as before. No condition beside the three listed tables, which the card ties to the program's text. -/
import Derived.Test.YtijednbpbbddbaaGreatDoorRows
import Derived.Test.YtijednbpbbddbaaGreatDoorCards
import Derived.Test.YtijednbpbbddbaaGreatDoorTie
import Derived.Test.YtijednbpbbddbaaGreatDoorW3
import Derived.Test.YtijednbpbbddbaaGreatDoorPA3
import Derived.Test.YtijednbpbbddbaaGreatDoorL20
set_option linter.all false
namespace Go.Proofs.YtijednbpbbddbaaGreatDoor
open Go Go.ns Go.ek Go.ChangeShapes Go.WideShapes Go.ChangeAt Go.RowKit
def Tryz.own:ownKnob Tryz.prog.godebug=none:=by kernel_rfl
def Tryz.laidOut:laidOutB Tryz.prog=true:=by kernel_rfl
def EX(x:fj):List Value:=[.bool x.agm,.bool x.typed,.int .i64 x.dc,.int .i64 x.eo,.int .i64 x.agk,.int .i64 x.xe,.int .i64 x.vars,.int .i64 x.agq]
def Hl:List.flatMap (λx=>fj.cs x) mJ=(mJ.flatMap EX).map AV.sc:=by kernel_rfl
def xE:ec:=λg=>if g=0 then some (AV.agg (List.map (λn=>AV.sc (Value.int .u8 n)) kX))else if g=1 then some (AV.agg ((mJ.flatMap EX).map AV.sc))else if g=2 then some (AV.agg (List.map (λn=>AV.sc (Value.int .i64 n)) qj))else none
def Ks:¬∀g,xE g=none:=λh=>by have:=h 0;simp[xE] at this
def MV:rG xE:=⟨rfl,by rw[Hl];rfl,rfl⟩
def GJ{W:World}(h:laidMetH Tryz.prog Rows.uniformAcceptedRow.laid W):∀g x,xE g=some x->ic (vV W) (λ_=>0) 0 (.nt x) (.pointer (some ⟨g,0,none⟩)):=by
 have h1:=(laidMetH_iff.1 h).1;intro g x hx;unfold xE at hx
 split at hx
 ·rename_i hg;subst hg;cases hx;refine Ig h1 (name:= "math/bits.deBruijn32tab") (k:=.u8) (t:=223) (e:=5) (n:=32) (Pk.2 ⟨?_,by kernel_rfl⟩) (by kernel_rfl) (by kernel_rfl) (by kernel_rfl) (by kernel_rfl) (by kernel_rfl) (by kernel_rfl);rw[show(Go.Lib.tabData IntKind.u8 kX:DataW Unit)=Rows.laid_math_bits_deBruijn32tab by kernel_rfl];exact .head _
 ·split at hx
  ·rename_i hg;subst hg;cases hx;refine Se h1 (name:= "proofprograms/tree.rules") (L:=mJ) (f:=EX) (N:=8) (t:=262) (e:=231) (by decide) (Pk.2 ⟨?_,by kernel_rfl⟩) (by kernel_rfl) (by kernel_rfl) (by kernel_rfl) Tryz.underlying231 ?_ (by kernel_rfl) rfl (λx _=>rfl) ?_
   ·rw[show(DataW.agg (mJ.map λx=>.agg ((EX x).map Vu)):DataW Unit)=Rows.laid_proofprograms_tree_rules by kernel_rfl];exact .tail _ (.head _)
   ·intro i f hi
    match i,hi with
    |0,hi=>simp at hi;subst hi;exact⟨.inl (by kernel_rfl),rfl,by kernel_rfl⟩
    |1,hi=>simp at hi;subst hi;exact⟨.inl (by kernel_rfl),rfl,by kernel_rfl⟩
    |2,hi=>simp at hi;subst hi;exact⟨.inr ⟨.i64,by kernel_rfl⟩,rfl,by kernel_rfl⟩
    |3,hi=>simp at hi;subst hi;exact⟨.inr ⟨.i64,by kernel_rfl⟩,rfl,by kernel_rfl⟩
    |4,hi=>simp at hi;subst hi;exact⟨.inr ⟨.i64,by kernel_rfl⟩,rfl,by kernel_rfl⟩
    |5,hi=>simp at hi;subst hi;exact⟨.inr ⟨.i64,by kernel_rfl⟩,rfl,by kernel_rfl⟩
    |6,hi=>simp at hi;subst hi;exact⟨.inr ⟨.i64,by kernel_rfl⟩,rfl,by kernel_rfl⟩
    |7,hi=>simp at hi;subst hi;exact⟨.inr ⟨.i64,by kernel_rfl⟩,rfl,by kernel_rfl⟩
    |i+8,hi=>simp at hi
   ·intro x _ v hv;simp only[EX,iL,pt,mQ] at hv;rcases hv with rfl|rfl|rfl|rfl|rfl|rfl|rfl|rfl
    ·exact .inl ⟨_,rfl⟩
    ·exact .inl ⟨_,rfl⟩
    all_goals exact .inr ⟨_,_,rfl⟩
  ·split at hx
   ·rename_i hg;subst hg;cases hx;refine Ig h1 (name:= "proofprograms/tree.arities") (k:=.i64) (t:=284) (e:=3) (n:=14) (Pk.2 ⟨?_,by kernel_rfl⟩) (by kernel_rfl) (by kernel_rfl) (by kernel_rfl) (by kernel_rfl) (by kernel_rfl) (by kernel_rfl);rw[show(Go.Lib.tabData IntKind.i64 qj:DataW Unit)=Rows.laid_proofprograms_tree_arities by kernel_rfl];exact .tail _ (.tail _ (.head _))
   ·cases hx
def LS(os:Os)(args:Array Value):laidMetH Tryz.prog Rows.uniformAcceptedRow.laid ((World.doorLaid Tryz.prog 400 os).forCall (λ_ _=>0) ⟨#[],args,[]⟩).memory:=
 laidMetH_of_parts3 (fuel:=8) (laidMet_of_run' 8 (by kernel_rfl) (by kernel_rfl)) (by kernel_rfl) (by kernel_rfl)
set_option maxRecDepth 100000 in
def DQ(os:Os)(started:os.Started)(H:Type)(enc:TypeId×Value->H):ReturnsInHanded {} Tryz.checked os 4 .any (λw args=>(Rows.uniformAcceptedSpec.pre enc Tryz.prog Tryz.f4 [] false w args/\laidMetH Tryz.prog Rows.uniformAcceptedRow.laid w)/\sizedMet enc Tryz.prog Tryz.f4 (OpenSpec.ofChange Rows.uniformAcceptedSpec) false w args)
   (Rows.uniformAcceptedSpec.post enc Tryz.prog Tryz.f4 false true false false):=by
 refine returnsInHanded_of_change_and (C:=Tryz.checked) (X:=λw _=>laidMetH Tryz.prog Rows.uniformAcceptedRow.laid w) (λ_ _ _ u h=>h.of_heap u) Tryz.own started (by kernel_rfl) Tryz.func4
  (ChangeSpec.witness_shaped (enc:=enc) (C:=Tryz.checked) (os:=os) (X:=λw _=>laidMetH Tryz.prog Rows.uniformAcceptedRow.laid w) false (World.doorLaid Tryz.prog 400 os) #[.slice none 0 0] 8 rfl (World.shaped_of_RefB (by kernel_rfl) (by kernel_rfl)) (by kernel_rfl) (by kernel_rfl) (by kernel_rfl) (LS os _)) ?_
 intro W base args y gs before b m _ _ z _;have a:∀(j:Nat) t v,Tryz.f4.params[j]?=some t->args[j]?=some v->Value.okWide Tryz.prog W .any base t v:=b;have c:=m;obtain⟨p,q,g,A,rfl,B,D⟩:=m;have n:DataW.TrodAll enc Tryz.prog W 0 (λ_=>true) true Tryz.f4.params.toList args.toList y p:=g;rw[Tryz.params4] at n a;obtain⟨v0,E,d0,F,o,q0,i,rfl,rfl,r,G⟩:=trodAll_cons n;obtain⟨rfl,rfl,rfl⟩:=trodAll_nil G
 obtain rfl:args=#[v0]:=by cases args;simp_all
 obtain⟨rfl,rfl⟩:=trodVars_none A;obtain⟨L,d⟩:=Rj Tryz.underlying22 Tryz.underlying3 (by kernel_rfl) (a 0 22 v0 rfl rfl) r;simp only[zk] at c
 have k:∀x∈o,x.block<W.heap.size:=λx f=>by simpa using c.lt x f
 refine((CC xE MV (F7 L)).law Ks (GJ z) d).mono λe I ⟨he,s⟩=>?_;subst he
 exact⟨_,rfl,Gr (pa:=o) (pv:=[]) c (λ_ _ _=>trodAll_mk1 (shut_bool Tryz.underlying4 _)) (λsp l=>by
   exact trodAll_mk1 (WideElems.Trod_stays Tryz.laidOut (by kernel_rfl) (M' (by kernel_rfl)) r (λx f=>s.same (k x f)) (λx f=>l x (by simpa using f)))) (λ_ _=>rfl) aaB
  s (ok_one (by kernel_rfl) rfl (okWide_bool_mk Tryz.underlying4 _))⟩
def kf1:Rows.uniformAcceptedRow.wf (OpenSpec.ofChange Rows.uniformAcceptedSpec)=true:=by kernel_rfl
def kf2:laidOutB Tryz.prog=true:=by kernel_rfl
def kf3:mapsRowed Tryz.prog=true:=by kernel_rfl
def kf4:Tryz.f4.params.all (Tryz.prog.readableRec ·)=true:=by kernel_rfl
def kf5:namedTie Tryz.prog Rows.uniformAcceptedRow.named Rows.uniformAcceptedSpec.vars=true:=by kernel_rfl
def kf6:(Rows.uniformAcceptedRow.stops==[])=true:=by kernel_rfl
def kf7:(Tryz.prog.stops==[])=true:=by kernel_rfl
def kf8:(Rows.uniformAcceptedRow.knobs==[])=true:=by kernel_rfl
def kf9:(Tryz.prog.stopKnobs==[])=true:=by kernel_rfl
def aaW:(Rows.uniformAcceptedRow.inPlace==Tryz.prog.inPlace 4)=true:=by kernel_rfl
def aa8:(Rows.uniformAcceptedRow.unfollowed==Tryz.prog.unfollowed 4)=true:=by kernel_rfl
def abd:(Rows.uniformAcceptedRow.recurses==Tryz.prog.recurses 4)=true:=by kernel_rfl
def aby:(Rows.uniformAcceptedRow.named==Tryz.prog.varsNamed 4)=true:=by kernel_rfl
def abK:(Rows.uniformAcceptedRow.maps==(Tryz.f4.params.toList++Rows.uniformAcceptedSpec.plain.varTypes Tryz.prog).any (Tryz.prog.mapsRec ·))=true:=by kernel_rfl
def aav:(Rows.uniformAcceptedRow.ifaces==(Tryz.f4.params.toList++Rows.uniformAcceptedSpec.plain.varTypes Tryz.prog).any (Tryz.prog.ifacesRec ·))=true:=by kernel_rfl
def aaE:(Rows.uniformAcceptedRow.mapsOut==Tryz.prog.mapsAmong Tryz.f4.resultTypes.toList)=true:=by kernel_rfl
def aab:(Rows.uniformAcceptedRow.loops==(Tryz.f4.params.toList++Rows.uniformAcceptedSpec.plain.varTypes Tryz.prog).any (Tryz.prog.loopsFrom ·))=true:=by kernel_rfl
def aaO:(Rows.uniformAcceptedRow.wideKeys==(Tryz.f4.params.toList++Rows.uniformAcceptedSpec.plain.varTypes Tryz.prog++Tryz.f4.resultTypes.toList).any (Tryz.prog.wideKeysFrom ·))=true:=by kernel_rfl
def aaG:Rows.uniformAcceptedSpec.vars.all (Tryz.prog.varReadable ·)=true:=by kernel_rfl
def abC:(Tryz.f4.resultTypes.all (λt=>Tryz.prog.readableRec t&&decide (t<Tryz.prog.types.size)))=true:=by kernel_rfl
def aaK:(Rows.uniformAcceptedRow.ifacesOut==Tryz.f4.resultTypes.toList.any (Tryz.prog.ifacesRec ·))=true:=by kernel_rfl
def aac:(Rows.uniformAcceptedRow.loopsOut==Tryz.f4.resultTypes.toList.any (Tryz.prog.loopsFrom ·))=true:=by kernel_rfl
def aaJ:(Rows.uniformAcceptedRow.plainKeys==Tryz.prog.plainKeys)=true:=by kernel_rfl
def abY:Rows.uniformAcceptedRow.shortTexts.isNone=true:=by kernel_rfl
def abt:Tryz.prog.stopsHeard=true:=by kernel_rfl
def aaV:Tryz.prog.mayEnter=true:=by kernel_rfl
def ab0:(Rows.uniformAcceptedRow.lifted==Tryz.prog.liftsFinal)=true:=by kernel_rfl
def aa_:(Tryz.prog.make==some Rows.uniformAcceptedRow.make)=true:=by kernel_rfl
def abb:(Rows.uniformAcceptedRow.pinned==Rows.uniformAcceptedRow.pinnedBy)=true:=by kernel_rfl
def abR:(Rows.uniformAcceptedRow.veiled==(Tryz.f4.params.toList++Rows.uniformAcceptedSpec.plain.varTypes Tryz.prog++Tryz.f4.resultTypes.toList).any (Tryz.prog.veiledRec ·))=true:=by kernel_rfl
def aaI:Rows.uniformAcceptedRow.veiledFits Tryz.prog Tryz.f4.params.toList (Tryz.f4.params.toList++Rows.uniformAcceptedSpec.plain.varTypes Tryz.prog++Tryz.f4.resultTypes.toList)=true:=by kernel_rfl
set_option maxRecDepth 100000 in
def Tl:joinedFacts Tryz.pinned.checked.prog 4 Tryz.f4 Rows.uniformAcceptedSpec Rows.uniformAcceptedRow=true:=by
 show joinedFacts Tryz.prog 4 Tryz.f4 Rows.uniformAcceptedSpec Rows.uniformAcceptedRow=true;unfold joinedFacts;simp only[ez];exact⟨⟨⟨⟨⟨⟨⟨⟨⟨⟨⟨⟨⟨⟨⟨⟨⟨⟨⟨⟨⟨⟨⟨⟨⟨⟨⟨⟨⟨⟨⟨kf1,kf2⟩,kf3⟩,kf4⟩,kf5⟩,kf6⟩,kf7⟩,kf8⟩,kf9⟩,aaW⟩,aa8⟩,abd⟩,aby⟩,abK⟩,aav⟩,aaE⟩,aab⟩,aaO⟩,aaG⟩,abC⟩,aaK⟩,aac⟩,aaJ⟩,abY⟩,abt⟩,aaV⟩,ab0⟩,aa_⟩,(by kernel_rfl)⟩,abb⟩,abR⟩,aaI⟩
def ME:Tryz.pinned.checked.prog.funcNamed Rows.uniformAcceptedRow.func=some 4:=by kernel_rfl
def E9:Func.isInstance Tryz.pinned.checked.prog Tryz.f4 Rows.uniformAcceptedRow.origin Rows.uniformAcceptedRow.targs:=M' (by kernel_rfl)
def Gw:Func.isWrapper Tryz.pinned.checked.prog Tryz.f4 Rows.uniformAcceptedRow.wrapper Rows.uniformAcceptedRow.mainSum:=by unfold Func.isWrapper;first|(rw[cK aa6];kernel_rfl)|(rw[cI aa6];exact⟨rfl,rfl⟩)
def Ec:Rows.UniformAcceptedSaid:=
 OpenClaim.holds_of_wide 4 Tryz.f4 rfl rfl rfl rfl rfl rfl rfl ⟨rfl,rfl,rfl,rfl,rfl⟩ rfl rfl rfl rfl rfl ME Tryz.func4 Tl E9 Gw
  (λos started H enc _=>DQ os started H enc)
def cf1:OpenClaim.wfByText (OpenSpec.ofChange Rows.uniformAcceptedSpec) Rows.uniformAcceptedRow=true:=by kernel_rfl
def cf2:Tryz.pinned.checked.prog.mainIs=some ((true, "15def1e707df60b6714d49686ea96117384537eebad944dbf63e65222b5b5cde").fst,(true, "15def1e707df60b6714d49686ea96117384537eebad944dbf63e65222b5b5cde").snd.toList):=by kernel_rfl
def cf3:false=Rows.uniformAcceptedRow.goesBy Tryz.pinned.checked.prog:=by kernel_rfl
def cf4:Tryz.prog.funcNamed "proofprograms/proofprogramslaw27.UniformAccepted" =some 4:=by kernel_rfl
def cf5:([22].all λu=>!Tryz.prog.wantsStandIn u)=true:=by kernel_rfl
theorem uniformAccepted_card:Rows.UniformAcceptedCardSaid:=
 Claim7.holds_tied_plain_at .later [] [.data,.data,.data] true (true, "15def1e707df60b6714d49686ea96117384537eebad944dbf63e65222b5b5cde") false
  Ec (λ_ h=>by cases h) cf1 (λ_ h=>by cases h) uniformAccepted_row_tie rfl ⟨rfl,rfl⟩ cf2 rfl
  (λf fn hf hfn=>by
   obtain rfl:f=4:=gB (cf4.symm.trans hf)|>.symm;obtain rfl:fn=Tryz.f4:=(gB (Tryz.func4.symm.trans hfn)).symm
   exact⟨by kernel_rfl,λj t ht=>by
    rw[Tryz.params4] at ht
    have hm:t∈[22]:=by simpa using UO ht
    exact(show Tryz.prog.wantsStandIn t=false by simpa using iC.1 cf5 t hm)⟩)
  cf3
#print axioms uniformAccepted_card
end Go.Proofs.YtijednbpbbddbaaGreatDoor
