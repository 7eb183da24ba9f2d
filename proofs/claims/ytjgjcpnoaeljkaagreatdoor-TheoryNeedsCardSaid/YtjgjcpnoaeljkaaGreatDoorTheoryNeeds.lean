/- What is proved: TheoryNeeds: for every list of numbers the law returns true, and its argument reads behind the call as before. No condition beside the listed tables, which the card ties to the program's text. -/
import Derived.Lay
import Derived.Test.YtjgjcpnoaeljkaaGreatDoorRows
import Derived.Test.YtjgjcpnoaeljkaaGreatDoorCards
import Derived.Test.YtjgjcpnoaeljkaaGreatDoorTie
import Derived.Test.YtjgjcpnoaeljkaaGreatDoorNW3
import Derived.Test.YtjgjcpnoaeljkaaGreatDoorNPN3
import Derived.Test.YtjgjcpnoaeljkaaGreatDoorNL24
set_option linter.all false
namespace Go.Proofs.YtjgjcpnoaeljkaaGreatDoor
open Go Go.kC Go.eU Go.ChangeShapes Go.WideShapes Go.ChangeAt Go.RowKit
def Tryz.own:ownKnob Tryz.prog.godebug=none:=by kernel_rfl
def Tryz.laidOut:laidOutB Tryz.prog=true:=by kernel_rfl
def L9(x:dS):List Value:=[.bool x.aio,.bool x.typed,.int .i64 x.dc,.int .i64 x.eh,.int .i64 x.aim,.int .i64 x.sM,.int .i64 x.vars,.int .i64 x.ais]
def Pm:List.flatMap (λx=>dS.cs x) nH=(nH.flatMap L9).map AV.sc:=by kernel_rfl
def C7:dt:=λg=>if g=1 then some (AV.agg (List.map (λn=>AV.sc (Value.int .u8 n)) kK))else if g=0 then some (AV.agg ((nH.flatMap L9).map AV.sc))else if g=4 then some (AV.agg (List.map (λn=>AV.sc (Value.int .i64 n)) px))else none
def RE:¬∀g,C7 g=none:=λh=>by have:=h 1;simp[C7] at this
def VG:lK C7:=⟨rfl,by rw[Pm];rfl,rfl⟩
def OY{W:World}(h:laidMetH Tryz.prog Rows.theoryNeedsRow.laid W):∀g x,C7 g=some x->fE (rN W) (λ_=>0) 0 (.lx x) (.pointer (some ⟨g,0,none⟩)):=by
 have h1:=(laidMetH_iff.1 h).1;intro g x hx;unfold C7 at hx
 split at hx
 .rename_i hg;subst hg;cases hx;refine Mn h1 (name:= "math/bits.deBruijn32tab") (k:=.u8) (t:=250) (e:=5) (n:=32) (YM.2 ⟨?_,by kernel_rfl⟩) (by kernel_rfl) (by kernel_rfl) (by kernel_rfl) (by kernel_rfl) (by kernel_rfl) (by kernel_rfl);rw[show(Go.Lib.tabData IntKind.u8 kK:DataW Unit)=Rows.laid_math_bits_deBruijn32tab by kernel_rfl];exact .head _
 .split at hx
  .rename_i hg;subst hg;cases hx;refine U3 h1 (name:= "proofprograms/tree.rules") (L:=nH) (f:=L9) (N:=8) (t:=222) (e:=192) (by decide) (YM.2 ⟨?_,by kernel_rfl⟩) (by kernel_rfl) (by kernel_rfl) (by kernel_rfl) Tryz.underlying192 ?_ (by kernel_rfl) rfl (λx _=>rfl) ?_
   .rw[show(DataW.agg (nH.map λx=>.agg ((L9 x).map T5)):DataW Unit)=Rows.laid_proofprograms_tree_rules by kernel_rfl];exact .tail _ (.head _)
   .intro i f hi
    match i,hi with
    |0,hi=>simp at hi;subst hi;exact⟨.inl (by kernel_rfl),rfl,by kernel_rfl⟩
    |1,hi=>simp at hi;subst hi;exact⟨.inl (by kernel_rfl),rfl,by kernel_rfl⟩
    |2,hi=>simp at hi;subst hi;exact⟨.inr ⟨.i64,by kernel_rfl⟩,rfl,by kernel_rfl⟩
    |3,hi=>simp at hi;subst hi;exact⟨.inr ⟨.i64,by kernel_rfl⟩,rfl,by kernel_rfl⟩
    |4,hi=>simp at hi;subst hi;exact⟨.inr ⟨.i64,by kernel_rfl⟩,rfl,by kernel_rfl⟩
    |5,hi=>simp at hi;subst hi;exact⟨.inr ⟨.i64,by kernel_rfl⟩,rfl,by kernel_rfl⟩
    |6,hi=>simp at hi;subst hi;exact⟨.inr ⟨.i64,by kernel_rfl⟩,rfl,by kernel_rfl⟩
    |7,hi=>simp at hi;subst hi;exact⟨.inr ⟨.i64,by kernel_rfl⟩,rfl,by kernel_rfl⟩
    |i+8,hi=>simp at hi
   .intro x _ v hv;simp only[L9,jr,vW,ta] at hv;rcases hv with rfl|rfl|rfl|rfl|rfl|rfl|rfl|rfl
    .exact .inl ⟨_,rfl⟩
    .exact .inl ⟨_,rfl⟩
    all_goals exact .inr ⟨_,_,rfl⟩
  .split at hx
   .rename_i hg;subst hg;cases hx;refine Mn h1 (name:= "proofprograms/tree.arities") (k:=.i64) (t:=330) (e:=3) (n:=14) (YM.2 ⟨?_,by kernel_rfl⟩) (by kernel_rfl) (by kernel_rfl) (by kernel_rfl) (by kernel_rfl) (by kernel_rfl) (by kernel_rfl);rw[show(Go.Lib.tabData IntKind.i64 px:DataW Unit)=Rows.laid_proofprograms_tree_arities by kernel_rfl];exact .tail _ (.tail _ (.head _))
   .cases hx
def abA{H:Type}{enc:TypeId×Value->H}{P:Program}{W:World}{t:TypeId}{v:Value}{d:DataW H}{ps:List MemPlace}{r:Reach}{b:Nat}(c:P.underlying t=some (.int .u8))
  (a:Value.okWide P W r b t v) (h:DataW.Trod enc P W 0 (λ_=>true) true t v d ps):∃n:Int,(0<=n/\n<=255)/\fG (rN W) (λ_=>0) 0 [.sc (.int .u8 n)] [v]:=by
 obtain⟨n,rfl,_,_,hw⟩:=open_int c a h;have hw:(decide ((0:Int)<=n)&&decide (n<=255))=true:=hw;refine⟨n,by simpa using hw,.cons (.sc rfl) .nil⟩
set_option maxRecDepth 100000 in
def A4(os:Os)(started:os.Started)(H:Type)(enc:TypeId×Value->H):ReturnsInHanded {} Tryz.checked os 3 .any (λw args=>(Rows.theoryNeedsSpec.pre enc Tryz.prog Tryz.f3 [] false w args/\laidMetH Tryz.prog Rows.theoryNeedsRow.laid w)/\sizedMet enc Tryz.prog Tryz.f3 (OpenSpec.ofChange Rows.theoryNeedsSpec) false w args)
   (Rows.theoryNeedsSpec.post enc Tryz.prog Tryz.f3 false true false false):=by
 refine returnsInHanded_of_change_and (C:=Tryz.checked) (X:=λw _=>laidMetH Tryz.prog Rows.theoryNeedsRow.laid w) (λ_ _ _ F h=>h.of_heap F) Tryz.own started (by kernel_rfl) Tryz.func3
  (ChangeSpec.witness_shaped (enc:=enc) (C:=Tryz.checked) (os:=os) (X:=λw _=>laidMetH Tryz.prog Rows.theoryNeedsRow.laid w) false (World.laidAll Tryz.prog os Rows.theoryNeedsRow.laid) #[.slice none 0 0,.int .u8 0] 8 (World.laidAll_os _ _ _) (World.shaped_of_ZipB (by kernel_rfl) (by kernel_rfl)) (by kernel_rfl) (by kernel_rfl) (by kernel_rfl) (by rw[MakeChecks.laidMetH_plain _ _ _ (by kernel_rfl)];exact laidMet_laidAll _ (by kernel_rfl) (by kernel_rfl))) ?_
 intro W base args G gs before d r _ _ I _;have a:∀(j:Nat) t v,Tryz.f3.params[j]?=some t->args[j]?=some v->Value.okWide Tryz.prog W .any base t v:=d;have c:=r;obtain⟨p,q,l,J,rfl,M,N⟩:=r;have s:DataW.TrodAll enc Tryz.prog W 0 (λ_=>true) true Tryz.f3.params.toList args.toList G p:=l;rw[Tryz.params3] at s a;obtain⟨v0,O,d0,P,u,q0,n,rfl,rfl,y,Q⟩:=trodAll_cons s;obtain⟨v1,R,d1,S,A,q1,rfl,rfl,rfl,B,T⟩:=trodAll_cons Q;obtain⟨rfl,rfl,rfl⟩:=trodAll_nil T
 obtain rfl:args=#[v0,v1]:=by cases args;simp_all
 obtain⟨rfl,rfl⟩:=trodVars_none J;obtain⟨L,U⟩:=Uz Tryz.underlying22 Tryz.underlying3 (by kernel_rfl) (a 0 22 v0 rfl rfl) y;obtain⟨K,D,V⟩:=abA Tryz.underlying5 (a 1 5 v1 rfl rfl) B;simp only[uF] at c
 have f:∀x∈u,x.block<W.heap.size:=λx b=>by simpa using c.lt x (by simp[b])
 have i:∀x∈A,x.block<W.heap.size:=λx b=>by simpa using c.lt x (by simp[b])
 refine((z_ C7 VG (EF L K D.1 D.2)).law RE (OY I) (U.append V)).mono λe Y ⟨he,o⟩=>?_;subst he
 exact⟨_,rfl,IN (pa:=u++(A)) (pv:=[]) c (λ_ _ _=>trodAll_mk1 (shut_bool Tryz.underlying4 _)) (λsp k=>by
   exact trodAll_cons_mk (WideElems.Trod_stays Tryz.laidOut (by kernel_rfl) (OE (by kernel_rfl)) y (λx b=>o.same (f x b)) (λx b=>k x (by simp[b]))) (trodAll_mk1 (WideElems.Trod_stays Tryz.laidOut (by kernel_rfl) (OE (by kernel_rfl)) B (λx b=>o.same (i x b)) (λx b=>k x (by simp[b]))))) (λ_ _=>rfl) aaL
  o (ok_one (by kernel_rfl) rfl (okWide_bool_mk Tryz.underlying4 _))⟩
def kf1:Rows.theoryNeedsRow.wf (OpenSpec.ofChange Rows.theoryNeedsSpec)=true:=by kernel_rfl
def kf2:laidOutB Tryz.prog=true:=by kernel_rfl
def kf3:mapsRowed Tryz.prog=true:=by kernel_rfl
def kf4:Tryz.f3.params.all (Tryz.prog.readableRec ·)=true:=by kernel_rfl
def kf5:namedTie Tryz.prog Rows.theoryNeedsRow.named Rows.theoryNeedsSpec.vars=true:=by kernel_rfl
def kf6:(Rows.theoryNeedsRow.stops==[])=true:=by kernel_rfl
def kf7:(Tryz.prog.stops==[])=true:=by kernel_rfl
def kf8:(Rows.theoryNeedsRow.knobs==[])=true:=by kernel_rfl
def kf9:(Tryz.prog.stopKnobs==[])=true:=by kernel_rfl
def aha:(Rows.theoryNeedsRow.inPlace==Tryz.prog.inPlace 3)=true:=by kernel_rfl
def ahB:(Rows.theoryNeedsRow.unfollowed==Tryz.prog.unfollowed 3)=true:=by kernel_rfl
def ag9:(Rows.theoryNeedsRow.recurses==Tryz.prog.recurses 3)=true:=by kernel_rfl
def ahD:(Rows.theoryNeedsRow.named==Tryz.prog.varsNamed 3)=true:=by kernel_rfl
def ahf:(Rows.theoryNeedsRow.maps==(Tryz.f3.params.toList++Rows.theoryNeedsSpec.plain.varTypes Tryz.prog).any (Tryz.prog.mapsRec ·))=true:=by kernel_rfl
def ahc:(Rows.theoryNeedsRow.ifaces==(Tryz.f3.params.toList++Rows.theoryNeedsSpec.plain.varTypes Tryz.prog).any (Tryz.prog.ifacesRec ·))=true:=by kernel_rfl
def ag6:(Rows.theoryNeedsRow.mapsOut==Tryz.prog.mapsAmong Tryz.f3.resultTypes.toList)=true:=by kernel_rfl
def ag4:(Rows.theoryNeedsRow.loops==(Tryz.f3.params.toList++Rows.theoryNeedsSpec.plain.varTypes Tryz.prog).any (Tryz.prog.loopsFrom ·))=true:=by kernel_rfl
def ahi:(Rows.theoryNeedsRow.wideKeys==(Tryz.f3.params.toList++Rows.theoryNeedsSpec.plain.varTypes Tryz.prog++Tryz.f3.resultTypes.toList).any (Tryz.prog.wideKeysFrom ·))=true:=by kernel_rfl
def agX:Rows.theoryNeedsSpec.vars.all (Tryz.prog.varReadable ·)=true:=by kernel_rfl
def ahv:(Tryz.f3.resultTypes.all (λt=>Tryz.prog.readableRec t&&decide (t<Tryz.prog.types.size)))=true:=by kernel_rfl
def ahC:(Rows.theoryNeedsRow.ifacesOut==Tryz.f3.resultTypes.toList.any (Tryz.prog.ifacesRec ·))=true:=by kernel_rfl
def agY:(Rows.theoryNeedsRow.loopsOut==Tryz.f3.resultTypes.toList.any (Tryz.prog.loopsFrom ·))=true:=by kernel_rfl
def aht:(Rows.theoryNeedsRow.plainKeys==Tryz.prog.plainKeys)=true:=by kernel_rfl
def ag2:Rows.theoryNeedsRow.shortTexts.isNone=true:=by kernel_rfl
def ag1:Tryz.prog.stopsHeard=true:=by kernel_rfl
def ahA:Tryz.prog.mayEnter=true:=by kernel_rfl
def ahh:(Rows.theoryNeedsRow.lifted==Tryz.prog.liftsFinal)=true:=by kernel_rfl
def ahz:(Tryz.prog.make==some Rows.theoryNeedsRow.make)=true:=by kernel_rfl
def ahF:(Rows.theoryNeedsRow.pinned==Rows.theoryNeedsRow.pinnedBy)=true:=by kernel_rfl
def agW:(Rows.theoryNeedsRow.veiled==(Tryz.f3.params.toList++Rows.theoryNeedsSpec.plain.varTypes Tryz.prog++Tryz.f3.resultTypes.toList).any (Tryz.prog.veiledRec ·))=true:=by kernel_rfl
def ag5:Rows.theoryNeedsRow.veiledFits Tryz.prog Tryz.f3.params.toList (Tryz.f3.params.toList++Rows.theoryNeedsSpec.plain.varTypes Tryz.prog++Tryz.f3.resultTypes.toList)=true:=by kernel_rfl
set_option maxRecDepth 100000 in
def acm:joinedFacts Tryz.pinned.checked.prog 3 Tryz.f3 Rows.theoryNeedsSpec Rows.theoryNeedsRow=true:=by
 show joinedFacts Tryz.prog 3 Tryz.f3 Rows.theoryNeedsSpec Rows.theoryNeedsRow=true;unfold joinedFacts;simp only[fI];exact⟨⟨⟨⟨⟨⟨⟨⟨⟨⟨⟨⟨⟨⟨⟨⟨⟨⟨⟨⟨⟨⟨⟨⟨⟨⟨⟨⟨⟨⟨⟨kf1,kf2⟩,kf3⟩,kf4⟩,kf5⟩,kf6⟩,kf7⟩,kf8⟩,kf9⟩,aha⟩,ahB⟩,ag9⟩,ahD⟩,ahf⟩,ahc⟩,ag6⟩,ag4⟩,ahi⟩,agX⟩,ahv⟩,ahC⟩,agY⟩,aht⟩,ag2⟩,ag1⟩,ahA⟩,ahh⟩,ahz⟩,(by kernel_rfl)⟩,ahF⟩,agW⟩,ag5⟩
def VM:Tryz.pinned.checked.prog.funcNamed Rows.theoryNeedsRow.func=some 3:=by kernel_rfl
def Mf:Func.isInstance Tryz.pinned.checked.prog Tryz.f3 Rows.theoryNeedsRow.origin Rows.theoryNeedsRow.targs:=OE (by kernel_rfl)
def PF:Func.isWrapper Tryz.pinned.checked.prog Tryz.f3 Rows.theoryNeedsRow.wrapper Rows.theoryNeedsRow.mainSum:=by unfold Func.isWrapper;first|(rw[cS adm];kernel_rfl)|(rw[cO adm];exact⟨rfl,rfl⟩)
def BO:Rows.TheoryNeedsSaid:=
 OpenClaim.holds_of_wide 3 Tryz.f3 rfl rfl rfl rfl rfl rfl rfl ⟨rfl,rfl,rfl,rfl,rfl⟩ rfl rfl rfl rfl rfl VM Tryz.func3 acm Mf PF
  (λos started H enc _=>A4 os started H enc)
def cf1:OpenClaim.wfByText (OpenSpec.ofChange Rows.theoryNeedsSpec) Rows.theoryNeedsRow=true:=by kernel_rfl
def cf2:Tryz.pinned.checked.prog.mainIs=some ((true, "cfefba2b912b17669886b3f81e98606478b275c8bfae0e9c591276b0abffc348").fst,(true, "cfefba2b912b17669886b3f81e98606478b275c8bfae0e9c591276b0abffc348").snd.toList):=by kernel_rfl
def cf3:false=Rows.theoryNeedsRow.goesBy Tryz.pinned.checked.prog:=by kernel_rfl
def cf4:Tryz.prog.funcNamed "proofprograms/proofprogramslaw19.TheoryNeeds" =some 3:=by kernel_rfl
def cf5:([22,5].all λu=>!Tryz.prog.wantsStandIn u)=true:=by kernel_rfl
theorem theoryNeeds_card:Rows.TheoryNeedsCardSaid:=
 Claim7.holds_tied_plain_at .later [] [.data,.data,.data,.data,.pinned] true (true, "cfefba2b912b17669886b3f81e98606478b275c8bfae0e9c591276b0abffc348") false
  BO (λ_ h=>by cases h) cf1 (λ_ h=>by cases h) theoryNeeds_row_tie rfl ⟨rfl,rfl⟩ cf2 rfl
  (λf fn hf hfn=>by
   obtain rfl:f=3:=fQ (cf4.symm.trans hf)|>.symm;obtain rfl:fn=Tryz.f3:=(fQ (Tryz.func3.symm.trans hfn)).symm
   exact⟨by kernel_rfl,λj t ht=>by
    rw[Tryz.params3] at ht
    have hm:t∈[22,5]:=by simpa using Uq ht
    exact(show Tryz.prog.wantsStandIn t=false by simpa using jY.1 cf5 t hm)⟩)
  cf3
#print axioms theoryNeeds_card
end Go.Proofs.YtjgjcpnoaeljkaaGreatDoor
