/- What is proved: TheoryBegins: for every list of numbers the law returns true, and its argument reads behind the call as before. No condition beside the listed tables, which the card ties to the program's text. -/
import Derived.Lay
import Derived.Test.YtjgjcpnoaeljkaaGreatDoorRows
import Derived.Test.YtjgjcpnoaeljkaaGreatDoorCards
import Derived.Test.YtjgjcpnoaeljkaaGreatDoorTie
import Derived.Test.YtjgjcpnoaeljkaaGreatDoorAW3
import Derived.Test.YtjgjcpnoaeljkaaGreatDoorAPB3
import Derived.Test.YtjgjcpnoaeljkaaGreatDoorAL22
set_option linter.all false
namespace Go.Proofs.YtjgjcpnoaeljkaaGreatDoor
open Go Go.kQ Go.eZ Go.ChangeShapes Go.WideShapes Go.ChangeAt Go.RowKit
def Tryz.own:ownKnob Tryz.prog.godebug=none:=by kernel_rfl
def Tryz.laidOut:laidOutB Tryz.prog=true:=by kernel_rfl
def Np(x:dT):List Value:=[.bool x.aix,.bool x.typed,.int .i64 x.dc,.int .i64 x.eg,.int .i64 x.aiv,.int .i64 x.sM,.int .i64 x.vars,.int .i64 x.aiB]
def O4:List.flatMap (λx=>dT.cs x) nB=(nB.flatMap Np).map AV.sc:=by kernel_rfl
def DP:dt:=λg=>if g=1 then some (AV.agg (List.map (λn=>AV.sc (Value.int .u8 n)) kP))else if g=0 then some (AV.agg ((nB.flatMap Np).map AV.sc))else if g=4 then some (AV.agg (List.map (λn=>AV.sc (Value.int .i64 n)) pO))else none
def Sg:¬∀g,DP g=none:=λh=>by have:=h 1;simp[DP] at this
def Vg:lT DP:=⟨rfl,by rw[O4];rfl,rfl⟩
def ON{W:World}(h:laidMetH Tryz.prog Rows.theoryBeginsRow.laid W):∀g x,DP g=some x->fD (rQ W) (λ_=>0) 0 (.lD x) (.pointer (some ⟨g,0,none⟩)):=by
 have h1:=(laidMetH_iff.1 h).1;intro g x hx;unfold DP at hx
 split at hx
 .rename_i hg;subst hg;cases hx;refine M9 h1 (name:= "math/bits.deBruijn32tab") (k:=.u8) (t:=250) (e:=5) (n:=32) (Yf.2 ⟨?_,by kernel_rfl⟩) (by kernel_rfl) (by kernel_rfl) (by kernel_rfl) (by kernel_rfl) (by kernel_rfl) (by kernel_rfl);rw[show(Go.Lib.tabData IntKind.u8 kP:DataW Unit)=Rows.laid_math_bits_deBruijn32tab by kernel_rfl];exact .head _
 .split at hx
  .rename_i hg;subst hg;cases hx;refine Ua h1 (name:= "proofprograms/tree.rules") (L:=nB) (f:=Np) (N:=8) (t:=222) (e:=192) (by decide) (Yf.2 ⟨?_,by kernel_rfl⟩) (by kernel_rfl) (by kernel_rfl) (by kernel_rfl) Tryz.underlying192 ?_ (by kernel_rfl) rfl (λx _=>rfl) ?_
   .rw[show(DataW.agg (nB.map λx=>.agg ((Np x).map V3)):DataW Unit)=Rows.laid_proofprograms_tree_rules by kernel_rfl];exact .tail _ (.head _)
   .intro i f hi
    match i,hi with
    |0,hi=>simp at hi;subst hi;exact⟨.inl (by kernel_rfl),rfl,by kernel_rfl⟩
    |1,hi=>simp at hi;subst hi;exact⟨.inl (by kernel_rfl),rfl,by kernel_rfl⟩
    |2,hi=>simp at hi;subst hi;exact⟨.inr ⟨.i64,by kernel_rfl⟩,rfl,by kernel_rfl⟩
    |3,hi=>simp at hi;subst hi;exact⟨.inr ⟨.i64,by kernel_rfl⟩,rfl,by kernel_rfl⟩
    |4,hi=>simp at hi;subst hi;exact⟨.inr ⟨.i64,by kernel_rfl⟩,rfl,by kernel_rfl⟩
    |5,hi=>simp at hi;subst hi;exact⟨.inr ⟨.i64,by kernel_rfl⟩,rfl,by kernel_rfl⟩
    |6,hi=>simp at hi;subst hi;exact⟨.inr ⟨.i64,by kernel_rfl⟩,rfl,by kernel_rfl⟩
    |7,hi=>simp at hi;subst hi;exact⟨.inr ⟨.i64,by kernel_rfl⟩,rfl,by kernel_rfl⟩
    |i+8,hi=>simp at hi
   .intro x _ v hv;simp only[Np,j8,v_,s9] at hv;rcases hv with rfl|rfl|rfl|rfl|rfl|rfl|rfl|rfl
    .exact .inl ⟨_,rfl⟩
    .exact .inl ⟨_,rfl⟩
    all_goals exact .inr ⟨_,_,rfl⟩
  .split at hx
   .rename_i hg;subst hg;cases hx;refine M9 h1 (name:= "proofprograms/tree.arities") (k:=.i64) (t:=330) (e:=3) (n:=14) (Yf.2 ⟨?_,by kernel_rfl⟩) (by kernel_rfl) (by kernel_rfl) (by kernel_rfl) (by kernel_rfl) (by kernel_rfl) (by kernel_rfl);rw[show(Go.Lib.tabData IntKind.i64 pO:DataW Unit)=Rows.laid_proofprograms_tree_arities by kernel_rfl];exact .tail _ (.tail _ (.head _))
   .cases hx
def abx{H:Type}{enc:TypeId×Value->H}{P:Program}{W:World}{t:TypeId}{v:Value}{d:DataW H}{ps:List MemPlace}{r:Reach}{b:Nat}(c:P.underlying t=some (.int .u8))
  (a:Value.okWide P W r b t v) (h:DataW.Trod enc P W 0 (λ_=>true) true t v d ps):∃n:Int,(0<=n/\n<=255)/\fI (rQ W) (λ_=>0) 0 [.sc (.int .u8 n)] [v]:=by
 obtain⟨n,rfl,_,_,hw⟩:=open_int c a h;have hw:(decide ((0:Int)<=n)&&decide (n<=255))=true:=hw;refine⟨n,by simpa using hw,.cons (.sc rfl) .nil⟩
set_option maxRecDepth 100000 in
def Am(os:Os)(started:os.Started)(H:Type)(enc:TypeId×Value->H):ReturnsInHanded {} Tryz.checked os 4 .any (λw args=>(Rows.theoryBeginsSpec.pre enc Tryz.prog Tryz.f4 [] false w args/\laidMetH Tryz.prog Rows.theoryBeginsRow.laid w)/\sizedMet enc Tryz.prog Tryz.f4 (OpenSpec.ofChange Rows.theoryBeginsSpec) false w args)
   (Rows.theoryBeginsSpec.post enc Tryz.prog Tryz.f4 false true false false):=by
 refine returnsInHanded_of_change_and (C:=Tryz.checked) (X:=λw _=>laidMetH Tryz.prog Rows.theoryBeginsRow.laid w) (λ_ _ _ F h=>h.of_heap F) Tryz.own started (by kernel_rfl) Tryz.func4
  (ChangeSpec.witness_shaped (enc:=enc) (C:=Tryz.checked) (os:=os) (X:=λw _=>laidMetH Tryz.prog Rows.theoryBeginsRow.laid w) false (World.laidAll Tryz.prog os Rows.theoryBeginsRow.laid) #[.slice none 0 0,.int .u8 0] 8 (World.laidAll_os _ _ _) (World.shaped_of_ZipB (by kernel_rfl) (by kernel_rfl)) (by kernel_rfl) (by kernel_rfl) (by kernel_rfl) (by rw[MakeChecks.laidMetH_plain _ _ _ (by kernel_rfl)];exact laidMet_laidAll _ (by kernel_rfl) (by kernel_rfl))) ?_
 intro W base args G gs before d r _ _ I _;have a:∀(j:Nat) t v,Tryz.f4.params[j]?=some t->args[j]?=some v->Value.okWide Tryz.prog W .any base t v:=d;have c:=r;obtain⟨p,q,l,J,rfl,M,N⟩:=r;have s:DataW.TrodAll enc Tryz.prog W 0 (λ_=>true) true Tryz.f4.params.toList args.toList G p:=l;rw[Tryz.params4] at s a;obtain⟨v0,O,d0,P,u,q0,n,rfl,rfl,y,Q⟩:=trodAll_cons s;obtain⟨v1,R,d1,S,A,q1,rfl,rfl,rfl,B,T⟩:=trodAll_cons Q;obtain⟨rfl,rfl,rfl⟩:=trodAll_nil T
 obtain rfl:args=#[v0,v1]:=by cases args;simp_all
 obtain⟨rfl,rfl⟩:=trodVars_none J;obtain⟨L,U⟩:=UP Tryz.underlying22 Tryz.underlying3 (by kernel_rfl) (a 0 22 v0 rfl rfl) y;obtain⟨K,D,V⟩:=abx Tryz.underlying5 (a 1 5 v1 rfl rfl) B;simp only[u7] at c
 have f:∀x∈u,x.block<W.heap.size:=λx b=>by simpa using c.lt x (by simp[b])
 have i:∀x∈A,x.block<W.heap.size:=λx b=>by simpa using c.lt x (by simp[b])
 refine((zq DP Vg (Di L K D.1 D.2)).law Sg (ON I) (U.append V)).mono λe Y ⟨he,o⟩=>?_;subst he
 exact⟨_,rfl,IS (pa:=u++(A)) (pv:=[]) c (λ_ _ _=>trodAll_mk1 (shut_bool Tryz.underlying4 _)) (λsp k=>by
   exact trodAll_cons_mk (WideElems.Trod_stays Tryz.laidOut (by kernel_rfl) (P_ (by kernel_rfl)) y (λx b=>o.same (f x b)) (λx b=>k x (by simp[b]))) (trodAll_mk1 (WideElems.Trod_stays Tryz.laidOut (by kernel_rfl) (P_ (by kernel_rfl)) B (λx b=>o.same (i x b)) (λx b=>k x (by simp[b]))))) (λ_ _=>rfl) acZ
  o (ok_one (by kernel_rfl) rfl (okWide_bool_mk Tryz.underlying4 _))⟩
def kf1:Rows.theoryBeginsRow.wf (OpenSpec.ofChange Rows.theoryBeginsSpec)=true:=by kernel_rfl
def kf2:laidOutB Tryz.prog=true:=by kernel_rfl
def kf3:mapsRowed Tryz.prog=true:=by kernel_rfl
def kf4:Tryz.f4.params.all (Tryz.prog.readableRec ·)=true:=by kernel_rfl
def kf5:namedTie Tryz.prog Rows.theoryBeginsRow.named Rows.theoryBeginsSpec.vars=true:=by kernel_rfl
def kf6:(Rows.theoryBeginsRow.stops==[])=true:=by kernel_rfl
def kf7:(Tryz.prog.stops==[])=true:=by kernel_rfl
def kf8:(Rows.theoryBeginsRow.knobs==[])=true:=by kernel_rfl
def kf9:(Tryz.prog.stopKnobs==[])=true:=by kernel_rfl
def ahB:(Rows.theoryBeginsRow.inPlace==Tryz.prog.inPlace 4)=true:=by kernel_rfl
def ahu:(Rows.theoryBeginsRow.unfollowed==Tryz.prog.unfollowed 4)=true:=by kernel_rfl
def ag6:(Rows.theoryBeginsRow.recurses==Tryz.prog.recurses 4)=true:=by kernel_rfl
def ahd:(Rows.theoryBeginsRow.named==Tryz.prog.varsNamed 4)=true:=by kernel_rfl
def ahP:(Rows.theoryBeginsRow.maps==(Tryz.f4.params.toList++Rows.theoryBeginsSpec.plain.varTypes Tryz.prog).any (Tryz.prog.mapsRec ·))=true:=by kernel_rfl
def ahx:(Rows.theoryBeginsRow.ifaces==(Tryz.f4.params.toList++Rows.theoryBeginsSpec.plain.varTypes Tryz.prog).any (Tryz.prog.ifacesRec ·))=true:=by kernel_rfl
def ahN:(Rows.theoryBeginsRow.mapsOut==Tryz.prog.mapsAmong Tryz.f4.resultTypes.toList)=true:=by kernel_rfl
def agZ:(Rows.theoryBeginsRow.loops==(Tryz.f4.params.toList++Rows.theoryBeginsSpec.plain.varTypes Tryz.prog).any (Tryz.prog.loopsFrom ·))=true:=by kernel_rfl
def ahJ:(Rows.theoryBeginsRow.wideKeys==(Tryz.f4.params.toList++Rows.theoryBeginsSpec.plain.varTypes Tryz.prog++Tryz.f4.resultTypes.toList).any (Tryz.prog.wideKeysFrom ·))=true:=by kernel_rfl
def aho:Rows.theoryBeginsSpec.vars.all (Tryz.prog.varReadable ·)=true:=by kernel_rfl
def ahl:(Tryz.f4.resultTypes.all (λt=>Tryz.prog.readableRec t&&decide (t<Tryz.prog.types.size)))=true:=by kernel_rfl
def ahC:(Rows.theoryBeginsRow.ifacesOut==Tryz.f4.resultTypes.toList.any (Tryz.prog.ifacesRec ·))=true:=by kernel_rfl
def ahv:(Rows.theoryBeginsRow.loopsOut==Tryz.f4.resultTypes.toList.any (Tryz.prog.loopsFrom ·))=true:=by kernel_rfl
def ahz:(Rows.theoryBeginsRow.plainKeys==Tryz.prog.plainKeys)=true:=by kernel_rfl
def ahA:Rows.theoryBeginsRow.shortTexts.isNone=true:=by kernel_rfl
def ag5:Tryz.prog.stopsHeard=true:=by kernel_rfl
def ag':Tryz.prog.mayEnter=true:=by kernel_rfl
def ag3:(Rows.theoryBeginsRow.lifted==Tryz.prog.liftsFinal)=true:=by kernel_rfl
def ahI:(Tryz.prog.make==some Rows.theoryBeginsRow.make)=true:=by kernel_rfl
def aht:(Rows.theoryBeginsRow.pinned==Rows.theoryBeginsRow.pinnedBy)=true:=by kernel_rfl
def ahy:(Rows.theoryBeginsRow.veiled==(Tryz.f4.params.toList++Rows.theoryBeginsSpec.plain.varTypes Tryz.prog++Tryz.f4.resultTypes.toList).any (Tryz.prog.veiledRec ·))=true:=by kernel_rfl
def ag9:Rows.theoryBeginsRow.veiledFits Tryz.prog Tryz.f4.params.toList (Tryz.f4.params.toList++Rows.theoryBeginsSpec.plain.varTypes Tryz.prog++Tryz.f4.resultTypes.toList)=true:=by kernel_rfl
set_option maxRecDepth 100000 in
def ab3:joinedFacts Tryz.pinned.checked.prog 4 Tryz.f4 Rows.theoryBeginsSpec Rows.theoryBeginsRow=true:=by
 show joinedFacts Tryz.prog 4 Tryz.f4 Rows.theoryBeginsSpec Rows.theoryBeginsRow=true;unfold joinedFacts;simp only[fK];exact⟨⟨⟨⟨⟨⟨⟨⟨⟨⟨⟨⟨⟨⟨⟨⟨⟨⟨⟨⟨⟨⟨⟨⟨⟨⟨⟨⟨⟨⟨⟨kf1,kf2⟩,kf3⟩,kf4⟩,kf5⟩,kf6⟩,kf7⟩,kf8⟩,kf9⟩,ahB⟩,ahu⟩,ag6⟩,ahd⟩,ahP⟩,ahx⟩,ahN⟩,agZ⟩,ahJ⟩,aho⟩,ahl⟩,ahC⟩,ahv⟩,ahz⟩,ahA⟩,ag5⟩,ag'⟩,ag3⟩,ahI⟩,(by kernel_rfl)⟩,aht⟩,ahy⟩,ag9⟩
def Ve:Tryz.pinned.checked.prog.funcNamed Rows.theoryBeginsRow.func=some 4:=by kernel_rfl
def L6:Func.isInstance Tryz.pinned.checked.prog Tryz.f4 Rows.theoryBeginsRow.origin Rows.theoryBeginsRow.targs:=P_ (by kernel_rfl)
def OQ:Func.isWrapper Tryz.pinned.checked.prog Tryz.f4 Rows.theoryBeginsRow.wrapper Rows.theoryBeginsRow.mainSum:=by unfold Func.isWrapper;first|(rw[cS adD];kernel_rfl)|(rw[cO adD];exact⟨rfl,rfl⟩)
def AO:Rows.TheoryBeginsSaid:=
 OpenClaim.holds_of_wide 4 Tryz.f4 rfl rfl rfl rfl rfl rfl rfl ⟨rfl,rfl,rfl,rfl,rfl⟩ rfl rfl rfl rfl rfl Ve Tryz.func4 ab3 L6 OQ
  (λos started H enc _=>Am os started H enc)
def cf1:OpenClaim.wfByText (OpenSpec.ofChange Rows.theoryBeginsSpec) Rows.theoryBeginsRow=true:=by kernel_rfl
def cf2:Tryz.pinned.checked.prog.mainIs=some ((true, "cfefba2b912b17669886b3f81e98606478b275c8bfae0e9c591276b0abffc348").fst,(true, "cfefba2b912b17669886b3f81e98606478b275c8bfae0e9c591276b0abffc348").snd.toList):=by kernel_rfl
def cf3:false=Rows.theoryBeginsRow.goesBy Tryz.pinned.checked.prog:=by kernel_rfl
def cf4:Tryz.prog.funcNamed "proofprograms/proofprogramslaw19.TheoryBegins" =some 4:=by kernel_rfl
def cf5:([22,5].all λu=>!Tryz.prog.wantsStandIn u)=true:=by kernel_rfl
theorem theoryBegins_card:Rows.TheoryBeginsCardSaid:=
 Claim7.holds_tied_plain_at .later [] [.data,.data,.data,.data,.pinned] true (true, "cfefba2b912b17669886b3f81e98606478b275c8bfae0e9c591276b0abffc348") false
  AO (λ_ h=>by cases h) cf1 (λ_ h=>by cases h) theoryBegins_row_tie rfl ⟨rfl,rfl⟩ cf2 rfl
  (λf fn hf hfn=>by
   obtain rfl:f=4:=fU (cf4.symm.trans hf)|>.symm;obtain rfl:fn=Tryz.f4:=(fU (Tryz.func4.symm.trans hfn)).symm
   exact⟨by kernel_rfl,λj t ht=>by
    rw[Tryz.params4] at ht
    have hm:t∈[22,5]:=by simpa using Yu ht
    exact(show Tryz.prog.wantsStandIn t=false by simpa using j3.1 cf5 t hm)⟩)
  cf3
#print axioms theoryBegins_card
end Go.Proofs.YtjgjcpnoaeljkaaGreatDoor
