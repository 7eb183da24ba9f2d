/- What is proved: KernelTyped: for every list of numbers the law returns true, and its argument reads behind the call as before. No condition beside the three listed tables, which the card ties to the program's text. -/
import Derived.Test.YtobcafblgapgfaaGreatDoorRows
import Derived.Test.YtobcafblgapgfaaGreatDoorCards
import Derived.Test.YtobcafblgapgfaaGreatDoorTie
import Derived.Test.YtobcafblgapgfaaGreatDoorW2
import Derived.Test.YtobcafblgapgfaaGreatDoorP3
import Derived.Test.YtobcafblgapgfaaGreatDoorL17
set_option linter.all false
namespace Go.Proofs.YtobcafblgapgfaaGreatDoor
open Go Go.m7 Go.hI Go.ChangeShapes Go.WideShapes Go.ChangeAt Go.RowKit
def Tryz.own:ownKnob Tryz.prog.godebug=none:=by kernel_rfl
def Tryz.laidOut:laidOutB Tryz.prog=true:=by kernel_rfl
def LU(x:fM):List Value:=[.bool x.aca,.bool x.typed,.int .i64 x.ej,.int .i64 x.fj,.int .i64 x.ab_,.int .i64 x.sK,.int .i64 x.vars,.int .i64 x.acf]
def N9:List.flatMap (λx=>fM.cs x) o6=(o6.flatMap LU).map AV.sc:=by kernel_rfl
def DW:fa:=λg=>if g=0 then some (AV.agg (List.map (λn=>AV.sc (Value.int .u8 n)) l0))else if g=1 then some (AV.agg ((o6.flatMap LU).map AV.sc))else if g=2 then some (AV.agg (List.map (λn=>AV.sc (Value.int .i64 n)) qE))else none
def P6:¬∀g,DW g=none:=λh=>by have:=h 0;simp[DW] at this
def SV:qq DW:=⟨rfl,by rw[N9];rfl,rfl⟩
def Oa{W:World}(h:laidMetH Tryz.prog Rows.kernelTypedRow.laid W):∀g x,DW g=some x->ib (tT W) (λ_=>0) 0 (.np x) (.pointer (some ⟨g,0,none⟩)):=by
 have h1:=(laidMetH_iff.1 h).1;intro g x hx;unfold DW at hx
 split at hx
 ·rename_i hg;subst hg;cases hx;refine L0 h1 (name:= "math/bits.deBruijn32tab") (k:=.u8) (t:=222) (e:=5) (n:=32) (Xy.2 ⟨?_,by kernel_rfl⟩) (by kernel_rfl) (by kernel_rfl) (by kernel_rfl) (by kernel_rfl) (by kernel_rfl) (by kernel_rfl);rw[show(Go.Lib.tabData IntKind.u8 l0:DataW Unit)=Rows.laid_math_bits_deBruijn32tab by kernel_rfl];exact .head _
 ·split at hx
  ·rename_i hg;subst hg;cases hx;refine RT h1 (name:= "proofprograms/tree.rules") (L:=o6) (f:=LU) (N:=8) (t:=258) (e:=238) (by decide) (Xy.2 ⟨?_,by kernel_rfl⟩) (by kernel_rfl) (by kernel_rfl) (by kernel_rfl) Tryz.underlying238 ?_ (by kernel_rfl) rfl (λx _=>rfl) ?_
   ·rw[show(DataW.agg (o6.map λx=>.agg ((LU x).map SY)):DataW Unit)=Rows.laid_proofprograms_tree_rules by kernel_rfl];exact .tail _ (.head _)
   ·intro i f hi
    match i,hi with
    |0,hi=>simp at hi;subst hi;exact⟨.inl (by kernel_rfl),rfl,by kernel_rfl⟩
    |1,hi=>simp at hi;subst hi;exact⟨.inl (by kernel_rfl),rfl,by kernel_rfl⟩
    |2,hi=>simp at hi;subst hi;exact⟨.inr ⟨.i64,by kernel_rfl⟩,rfl,by kernel_rfl⟩
    |3,hi=>simp at hi;subst hi;exact⟨.inr ⟨.i64,by kernel_rfl⟩,rfl,by kernel_rfl⟩
    |4,hi=>simp at hi;subst hi;exact⟨.inr ⟨.i64,by kernel_rfl⟩,rfl,by kernel_rfl⟩
    |5,hi=>simp at hi;subst hi;exact⟨.inr ⟨.i64,by kernel_rfl⟩,rfl,by kernel_rfl⟩
    |6,hi=>simp at hi;subst hi;exact⟨.inr ⟨.i64,by kernel_rfl⟩,rfl,by kernel_rfl⟩
    |7,hi=>simp at hi;subst hi;exact⟨.inr ⟨.i64,by kernel_rfl⟩,rfl,by kernel_rfl⟩
    |i+8,hi=>simp at hi
   ·intro x _ v hv;simp only[LU,ma,xg,Zf] at hv;rcases hv with rfl|rfl|rfl|rfl|rfl|rfl|rfl|rfl
    ·exact .inl ⟨_,rfl⟩
    ·exact .inl ⟨_,rfl⟩
    all_goals exact .inr ⟨_,_,rfl⟩
  ·split at hx
   ·rename_i hg;subst hg;cases hx;refine L0 h1 (name:= "proofprograms/tree.arities") (k:=.i64) (t:=287) (e:=3) (n:=14) (Xy.2 ⟨?_,by kernel_rfl⟩) (by kernel_rfl) (by kernel_rfl) (by kernel_rfl) (by kernel_rfl) (by kernel_rfl) (by kernel_rfl);rw[show(Go.Lib.tabData IntKind.i64 qE:DataW Unit)=Rows.laid_proofprograms_tree_arities by kernel_rfl];exact .tail _ (.tail _ (.head _))
   ·cases hx
def Rs(os:Os)(args:Array Value):laidMetH Tryz.prog Rows.kernelTypedRow.laid ((World.doorLaid Tryz.prog 400 os).forCall (λ_ _=>0) ⟨#[],args,[]⟩).memory:=
 laidMetH_of_parts3 (fuel:=8) (laidMet_of_run' 8 (by kernel_rfl) (by kernel_rfl)) (by kernel_rfl) (by kernel_rfl)
set_option maxRecDepth 100000 in
def Bc(os:Os)(started:os.Started)(H:Type)(enc:TypeId×Value->H):ReturnsInHanded {} Tryz.checked os 7 .any (λw args=>(Rows.kernelTypedSpec.pre enc Tryz.prog Tryz.f7 [] false w args/\laidMetH Tryz.prog Rows.kernelTypedRow.laid w)/\sizedMet enc Tryz.prog Tryz.f7 (OpenSpec.ofChange Rows.kernelTypedSpec) false w args)
   (Rows.kernelTypedSpec.post enc Tryz.prog Tryz.f7 false true false false):=by
 refine returnsInHanded_of_change_and (C:=Tryz.checked) (X:=λw _=>laidMetH Tryz.prog Rows.kernelTypedRow.laid w) (λ_ _ _ u h=>h.of_heap u) Tryz.own started (by kernel_rfl) Tryz.func7
  (ChangeSpec.witness_shaped (enc:=enc) (C:=Tryz.checked) (os:=os) (X:=λw _=>laidMetH Tryz.prog Rows.kernelTypedRow.laid w) false (World.doorLaid Tryz.prog 400 os) #[.slice none 0 0] 8 rfl (World.shaped_of_RefB (by kernel_rfl) (by kernel_rfl)) (by kernel_rfl) (by kernel_rfl) (by kernel_rfl) (Rs os _)) ?_
 intro W base args y gs before b m _ _ z _;have a:∀(j:Nat) t v,Tryz.f7.params[j]?=some t->args[j]?=some v->Value.okWide Tryz.prog W .any base t v:=b;have c:=m;obtain⟨p,q,g,A,rfl,B,D⟩:=m;have n:DataW.TrodAll enc Tryz.prog W 0 (λ_=>true) true Tryz.f7.params.toList args.toList y p:=g;rw[Tryz.params7] at n a;obtain⟨v0,E,d0,F,o,q0,i,rfl,rfl,r,G⟩:=trodAll_cons n;obtain⟨rfl,rfl,rfl⟩:=trodAll_nil G
 obtain rfl:args=#[v0]:=by cases args;simp_all
 obtain⟨rfl,rfl⟩:=trodVars_none A;obtain⟨L,d⟩:=R0 Tryz.underlying22 Tryz.underlying3 (by kernel_rfl) (a 0 22 v0 rfl rfl) r;simp only[AH] at c
 have k:∀x∈o,x.block<W.heap.size:=λx f=>by simpa using c.lt x f
 refine((Au DW SV (E7 L)).law P6 (Oa z) d).mono λe I ⟨he,s⟩=>?_;subst he
 exact⟨_,rfl,Ib (pa:=o) (pv:=[]) c (λ_ _ _=>trodAll_mk1 (shut_bool Tryz.underlying4 _)) (λsp l=>by
   exact trodAll_mk1 (WideElems.Trod_stays Tryz.laidOut (by kernel_rfl) (aaa (by kernel_rfl)) r (λx f=>s.same (k x f)) (λx f=>l x (by simpa using f)))) (λ_ _=>rfl) (by simp)
  s (ok_one (by kernel_rfl) rfl (okWide_bool_mk Tryz.underlying4 _))⟩
def kf1:Rows.kernelTypedRow.wf (OpenSpec.ofChange Rows.kernelTypedSpec)=true:=by kernel_rfl
def kf2:laidOutB Tryz.prog=true:=by kernel_rfl
def kf3:mapsRowed Tryz.prog=true:=by kernel_rfl
def kf4:Tryz.f7.params.all (Tryz.prog.readableRec ·)=true:=by kernel_rfl
def kf5:namedTie Tryz.prog Rows.kernelTypedRow.named Rows.kernelTypedSpec.vars=true:=by kernel_rfl
def kf6:(Rows.kernelTypedRow.stops==[])=true:=by kernel_rfl
def kf7:(Tryz.prog.stops==[])=true:=by kernel_rfl
def kf8:(Rows.kernelTypedRow.knobs==[])=true:=by kernel_rfl
def kf9:(Tryz.prog.stopKnobs==[])=true:=by kernel_rfl
def aa3:(Rows.kernelTypedRow.inPlace==Tryz.prog.inPlace 7)=true:=by kernel_rfl
def abC:(Rows.kernelTypedRow.unfollowed==Tryz.prog.unfollowed 7)=true:=by kernel_rfl
def abw:(Rows.kernelTypedRow.recurses==Tryz.prog.recurses 7)=true:=by kernel_rfl
def aa8:(Rows.kernelTypedRow.named==Tryz.prog.varsNamed 7)=true:=by kernel_rfl
def aa5:(Rows.kernelTypedRow.maps==(Tryz.f7.params.toList++Rows.kernelTypedSpec.plain.varTypes Tryz.prog).any (Tryz.prog.mapsRec ·))=true:=by kernel_rfl
def aa9:(Rows.kernelTypedRow.ifaces==(Tryz.f7.params.toList++Rows.kernelTypedSpec.plain.varTypes Tryz.prog).any (Tryz.prog.ifacesRec ·))=true:=by kernel_rfl
def abg:(Rows.kernelTypedRow.mapsOut==Tryz.prog.mapsAmong Tryz.f7.resultTypes.toList)=true:=by kernel_rfl
def aa_:(Rows.kernelTypedRow.loops==(Tryz.f7.params.toList++Rows.kernelTypedSpec.plain.varTypes Tryz.prog).any (Tryz.prog.loopsFrom ·))=true:=by kernel_rfl
def aaU:(Rows.kernelTypedRow.wideKeys==(Tryz.f7.params.toList++Rows.kernelTypedSpec.plain.varTypes Tryz.prog++Tryz.f7.resultTypes.toList).any (Tryz.prog.wideKeysFrom ·))=true:=by kernel_rfl
def abe:Rows.kernelTypedSpec.vars.all (Tryz.prog.varReadable ·)=true:=by kernel_rfl
def abo:(Tryz.f7.resultTypes.all (λt=>Tryz.prog.readableRec t&&decide (t<Tryz.prog.types.size)))=true:=by kernel_rfl
def aaV:(Rows.kernelTypedRow.ifacesOut==Tryz.f7.resultTypes.toList.any (Tryz.prog.ifacesRec ·))=true:=by kernel_rfl
def abc:(Rows.kernelTypedRow.loopsOut==Tryz.f7.resultTypes.toList.any (Tryz.prog.loopsFrom ·))=true:=by kernel_rfl
def abA:(Rows.kernelTypedRow.plainKeys==Tryz.prog.plainKeys)=true:=by kernel_rfl
def abi:Rows.kernelTypedRow.shortTexts.isNone=true:=by kernel_rfl
def aaZ:Tryz.prog.stopsHeard=true:=by kernel_rfl
def abj:Tryz.prog.mayEnter=true:=by kernel_rfl
def abh:(Rows.kernelTypedRow.lifted==Tryz.prog.liftsFinal)=true:=by kernel_rfl
def abr:(Tryz.prog.make==some Rows.kernelTypedRow.make)=true:=by kernel_rfl
def abx:(Rows.kernelTypedRow.pinned==Rows.kernelTypedRow.pinnedBy)=true:=by kernel_rfl
def abd:(Rows.kernelTypedRow.veiled==(Tryz.f7.params.toList++Rows.kernelTypedSpec.plain.varTypes Tryz.prog++Tryz.f7.resultTypes.toList).any (Tryz.prog.veiledRec ·))=true:=by kernel_rfl
def aa2:Rows.kernelTypedRow.veiledFits Tryz.prog Tryz.f7.params.toList (Tryz.f7.params.toList++Rows.kernelTypedSpec.plain.varTypes Tryz.prog++Tryz.f7.resultTypes.toList)=true:=by kernel_rfl
set_option maxRecDepth 100000 in
def Xc:joinedFacts Tryz.pinned.checked.prog 7 Tryz.f7 Rows.kernelTypedSpec Rows.kernelTypedRow=true:=by
 show joinedFacts Tryz.prog 7 Tryz.f7 Rows.kernelTypedSpec Rows.kernelTypedRow=true;unfold joinedFacts;simp only[gI];exact⟨⟨⟨⟨⟨⟨⟨⟨⟨⟨⟨⟨⟨⟨⟨⟨⟨⟨⟨⟨⟨⟨⟨⟨⟨⟨⟨⟨⟨⟨⟨kf1,kf2⟩,kf3⟩,kf4⟩,kf5⟩,kf6⟩,kf7⟩,kf8⟩,kf9⟩,aa3⟩,abC⟩,abw⟩,aa8⟩,aa5⟩,aa9⟩,abg⟩,aa_⟩,aaU⟩,abe⟩,abo⟩,aaV⟩,abc⟩,abA⟩,abi⟩,aaZ⟩,abj⟩,abh⟩,abr⟩,(by kernel_rfl)⟩,abx⟩,abd⟩,aa2⟩
def SN:Tryz.pinned.checked.prog.funcNamed Rows.kernelTypedRow.func=some 7:=by kernel_rfl
def LW:Func.isInstance Tryz.pinned.checked.prog Tryz.f7 Rows.kernelTypedRow.origin Rows.kernelTypedRow.targs:=aaa (by kernel_rfl)
def OE:Func.isWrapper Tryz.pinned.checked.prog Tryz.f7 Rows.kernelTypedRow.wrapper Rows.kernelTypedRow.mainSum:=by unfold Func.isWrapper;first|(rw[ee (by decide+kernel)];kernel_rfl)|(rw[ea (by decide+kernel)];exact⟨rfl,rfl⟩)
def B7:Rows.KernelTypedSaid:=
 OpenClaim.holds_of_wide 7 Tryz.f7 rfl rfl rfl rfl rfl rfl rfl ⟨rfl,rfl,rfl,rfl,rfl⟩ rfl rfl rfl rfl rfl SN Tryz.func7 Xc LW OE
  (λos started H enc _=>Bc os started H enc)
def cf1:OpenClaim.wfByText (OpenSpec.ofChange Rows.kernelTypedSpec) Rows.kernelTypedRow=true:=by kernel_rfl
def cf2:Tryz.pinned.checked.prog.mainIs=some ((true, "59ad9e541940327f0abf053d023a0e4aabf9243c78fc631f5a31c7691f80561a").fst,(true, "59ad9e541940327f0abf053d023a0e4aabf9243c78fc631f5a31c7691f80561a").snd.toList):=by kernel_rfl
def cf3:false=Rows.kernelTypedRow.goesBy Tryz.pinned.checked.prog:=by kernel_rfl
def cf4:Tryz.prog.funcNamed "proofprograms/proofprogramslaw11.KernelTyped" =some 7:=by kernel_rfl
def cf5:([22].all λu=>!Tryz.prog.wantsStandIn u)=true:=by kernel_rfl
theorem kernelTyped_card:Rows.KernelTypedCardSaid:=
 Claim7.holds_tied_plain_at .later [] [.data,.data,.data] true (true, "59ad9e541940327f0abf053d023a0e4aabf9243c78fc631f5a31c7691f80561a") false
  B7 (λ_ h=>by cases h) cf1 (λ_ h=>by cases h) kernelTyped_row_tie rfl ⟨rfl,rfl⟩ cf2 rfl
  (λf fn hf hfn=>by
   obtain rfl:f=7:=iy (cf4.symm.trans hf)|>.symm;obtain rfl:fn=Tryz.f7:=(iy (Tryz.func7.symm.trans hfn)).symm
   exact⟨by kernel_rfl,λj t ht=>by
    rw[Tryz.params7] at ht
    have hm:t∈[22]:=by simpa using ON ht
    exact(show Tryz.prog.wantsStandIn t=false by simpa using kF.1 cf5 t hm)⟩)
  cf3
#print axioms kernelTyped_card
end Go.Proofs.YtobcafblgapgfaaGreatDoor
