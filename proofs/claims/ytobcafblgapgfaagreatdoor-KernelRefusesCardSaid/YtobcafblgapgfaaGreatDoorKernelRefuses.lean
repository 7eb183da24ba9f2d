/- What is proved: KernelRefuses: for every list of numbers the law returns true, and its argument reads behind the call as before. No condition beside the three listed tables, which the card ties to the program's text. -/
import Derived.Test.YtobcafblgapgfaaGreatDoorRows
import Derived.Test.YtobcafblgapgfaaGreatDoorCards
import Derived.Test.YtobcafblgapgfaaGreatDoorTie
import Derived.Test.YtobcafblgapgfaaGreatDoorW2
import Derived.Test.YtobcafblgapgfaaGreatDoorP3
import Derived.Test.YtobcafblgapgfaaGreatDoorL17
set_option linter.all false
namespace Go.Proofs.YtobcafblgapgfaaGreatDoor
open Go Go.nd Go.gV Go.ChangeShapes Go.WideShapes Go.ChangeAt Go.RowKit
def Tryz.own:ownKnob Tryz.prog.godebug=none:=by kernel_rfl
def Tryz.laidOut:laidOutB Tryz.prog=true:=by kernel_rfl
def Np(x:fN):List Value:=[.bool x.acP,.bool x.typed,.int .i64 x.ek,.int .i64 x.fj,.int .i64 x.acN,.int .i64 x.sA,.int .i64 x.vars,.int .i64 x.acT]
def Ny:List.flatMap (λx=>fN.cs x) oU=(oU.flatMap Np).map AV.sc:=by kernel_rfl
def D3:fh:=λg=>if g=0 then some (AV.agg (List.map (λn=>AV.sc (Value.int .u8 n)) l9))else if g=1 then some (AV.agg ((oU.flatMap Np).map AV.sc))else if g=2 then some (AV.agg (List.map (λn=>AV.sc (Value.int .i64 n)) qI))else none
def QY:¬∀g,D3 g=none:=λh=>by have:=h 0;simp[D3] at this
def S_:qv D3:=⟨rfl,by rw[Ny];rfl,rfl⟩
def OL{W:World}(h:laidMetH Tryz.prog Rows.kernelRefusesRow.laid W):∀g x,D3 g=some x->ic (uh W) (λ_=>0) 0 (.nr x) (.pointer (some ⟨g,0,none⟩)):=by
 have h1:=(laidMetH_iff.1 h).1;intro g x hx;unfold D3 at hx
 split at hx
 ·rename_i hg;subst hg;cases hx;refine LY h1 (name:= "math/bits.deBruijn32tab") (k:=.u8) (t:=222) (e:=5) (n:=32) (ZT.2 ⟨?_,by kernel_rfl⟩) (by kernel_rfl) (by kernel_rfl) (by kernel_rfl) (by kernel_rfl) (by kernel_rfl) (by kernel_rfl);rw[show(Go.Lib.tabData IntKind.u8 l9:DataW Unit)=Rows.laid_math_bits_deBruijn32tab by kernel_rfl];exact .head _
 ·split at hx
  ·rename_i hg;subst hg;cases hx;refine Sk h1 (name:= "proofprograms/tree.rules") (L:=oU) (f:=Np) (N:=8) (t:=258) (e:=238) (by decide) (ZT.2 ⟨?_,by kernel_rfl⟩) (by kernel_rfl) (by kernel_rfl) (by kernel_rfl) Tryz.underlying238 ?_ (by kernel_rfl) rfl (λx _=>rfl) ?_
   ·rw[show(DataW.agg (oU.map λx=>.agg ((Np x).map SB)):DataW Unit)=Rows.laid_proofprograms_tree_rules by kernel_rfl];exact .tail _ (.head _)
   ·intro i f hi
    match i,hi with
    |0,hi=>simp at hi;subst hi;exact⟨.inl (by kernel_rfl),rfl,by kernel_rfl⟩
    |1,hi=>simp at hi;subst hi;exact⟨.inl (by kernel_rfl),rfl,by kernel_rfl⟩
    |2,hi=>simp at hi;subst hi;exact⟨.inr ⟨.i64,by kernel_rfl⟩,rfl,by kernel_rfl⟩
    |3,hi=>simp at hi;subst hi;exact⟨.inr ⟨.i64,by kernel_rfl⟩,rfl,by kernel_rfl⟩
    |4,hi=>simp at hi;subst hi;exact⟨.inr ⟨.i64,by kernel_rfl⟩,rfl,by kernel_rfl⟩
    |5,hi=>simp at hi;subst hi;exact⟨.inr ⟨.i64,by kernel_rfl⟩,rfl,by kernel_rfl⟩
    |6,hi=>simp at hi;subst hi;exact⟨.inr ⟨.i64,by kernel_rfl⟩,rfl,by kernel_rfl⟩
    |7,hi=>simp at hi;subst hi;exact⟨.inr ⟨.i64,by kernel_rfl⟩,rfl,by kernel_rfl⟩
    |i+8,hi=>simp at hi
   ·intro x _ v hv;simp only[Np,l7,wV,Ux] at hv;rcases hv with rfl|rfl|rfl|rfl|rfl|rfl|rfl|rfl
    ·exact .inl ⟨_,rfl⟩
    ·exact .inl ⟨_,rfl⟩
    all_goals exact .inr ⟨_,_,rfl⟩
  ·split at hx
   ·rename_i hg;subst hg;cases hx;refine LY h1 (name:= "proofprograms/tree.arities") (k:=.i64) (t:=287) (e:=3) (n:=14) (ZT.2 ⟨?_,by kernel_rfl⟩) (by kernel_rfl) (by kernel_rfl) (by kernel_rfl) (by kernel_rfl) (by kernel_rfl) (by kernel_rfl);rw[show(Go.Lib.tabData IntKind.i64 qI:DataW Unit)=Rows.laid_proofprograms_tree_arities by kernel_rfl];exact .tail _ (.tail _ (.head _))
   ·cases hx
def RW(os:Os)(args:Array Value):laidMetH Tryz.prog Rows.kernelRefusesRow.laid ((World.doorLaid Tryz.prog 400 os).forCall (λ_ _=>0) ⟨#[],args,[]⟩).memory:=
 laidMetH_of_parts3 (fuel:=8) (laidMet_of_run' 8 (by kernel_rfl) (by kernel_rfl)) (by kernel_rfl) (by kernel_rfl)
set_option maxRecDepth 100000 in
def zz(os:Os)(started:os.Started)(H:Type)(enc:TypeId×Value->H):ReturnsInHanded {} Tryz.checked os 10 .any (λw args=>(Rows.kernelRefusesSpec.pre enc Tryz.prog Tryz.f10 [] false w args/\laidMetH Tryz.prog Rows.kernelRefusesRow.laid w)/\sizedMet enc Tryz.prog Tryz.f10 (OpenSpec.ofChange Rows.kernelRefusesSpec) false w args)
   (Rows.kernelRefusesSpec.post enc Tryz.prog Tryz.f10 false true false false):=by
 refine returnsInHanded_of_change_and (C:=Tryz.checked) (X:=λw _=>laidMetH Tryz.prog Rows.kernelRefusesRow.laid w) (λ_ _ _ u h=>h.of_heap u) Tryz.own started (by kernel_rfl) Tryz.func10
  (ChangeSpec.witness_shaped (enc:=enc) (C:=Tryz.checked) (os:=os) (X:=λw _=>laidMetH Tryz.prog Rows.kernelRefusesRow.laid w) false (World.doorLaid Tryz.prog 400 os) #[.slice none 0 0] 8 rfl (World.shaped_of_RefB (by kernel_rfl) (by kernel_rfl)) (by kernel_rfl) (by kernel_rfl) (by kernel_rfl) (RW os _)) ?_
 intro W base args y gs before b m _ _ z _;have a:∀(j:Nat) t v,Tryz.f10.params[j]?=some t->args[j]?=some v->Value.okWide Tryz.prog W .any base t v:=b;have c:=m;obtain⟨p,q,g,A,rfl,B,D⟩:=m;have n:DataW.TrodAll enc Tryz.prog W 0 (λ_=>true) true Tryz.f10.params.toList args.toList y p:=g;rw[Tryz.params10] at n a;obtain⟨v0,E,d0,F,o,q0,i,rfl,rfl,r,G⟩:=trodAll_cons n;obtain⟨rfl,rfl,rfl⟩:=trodAll_nil G
 obtain rfl:args=#[v0]:=by cases args;simp_all
 obtain⟨rfl,rfl⟩:=trodVars_none A;obtain⟨L,d⟩:=TI Tryz.underlying22 Tryz.underlying3 (by kernel_rfl) (a 0 22 v0 rfl rfl) r;simp only[yy] at c
 have k:∀x∈o,x.block<W.heap.size:=λx f=>by simpa using c.lt x f
 refine((yV D3 S_ (Cp L)).law QY (OL z) d).mono λe I ⟨he,s⟩=>?_;subst he
 exact⟨_,rfl,Ik (pa:=o) (pv:=[]) c (λ_ _ _=>trodAll_mk1 (shut_bool Tryz.underlying4 _)) (λsp l=>by
   exact trodAll_mk1 (WideElems.Trod_stays Tryz.laidOut (by kernel_rfl) (Zl (by kernel_rfl)) r (λx f=>s.same (k x f)) (λx f=>l x (by simpa using f)))) (λ_ _=>rfl) (by simp)
  s (ok_one (by kernel_rfl) rfl (okWide_bool_mk Tryz.underlying4 _))⟩
def kf1:Rows.kernelRefusesRow.wf (OpenSpec.ofChange Rows.kernelRefusesSpec)=true:=by kernel_rfl
def kf2:laidOutB Tryz.prog=true:=by kernel_rfl
def kf3:mapsRowed Tryz.prog=true:=by kernel_rfl
def kf4:Tryz.f10.params.all (Tryz.prog.readableRec ·)=true:=by kernel_rfl
def kf5:namedTie Tryz.prog Rows.kernelRefusesRow.named Rows.kernelRefusesSpec.vars=true:=by kernel_rfl
def kf6:(Rows.kernelRefusesRow.stops==[])=true:=by kernel_rfl
def kf7:(Tryz.prog.stops==[])=true:=by kernel_rfl
def kf8:(Rows.kernelRefusesRow.knobs==[])=true:=by kernel_rfl
def kf9:(Tryz.prog.stopKnobs==[])=true:=by kernel_rfl
def ab9:(Rows.kernelRefusesRow.inPlace==Tryz.prog.inPlace 10)=true:=by kernel_rfl
def abL:(Rows.kernelRefusesRow.unfollowed==Tryz.prog.unfollowed 10)=true:=by kernel_rfl
def ab6:(Rows.kernelRefusesRow.recurses==Tryz.prog.recurses 10)=true:=by kernel_rfl
def abw:(Rows.kernelRefusesRow.named==Tryz.prog.varsNamed 10)=true:=by kernel_rfl
def abT:(Rows.kernelRefusesRow.maps==(Tryz.f10.params.toList++Rows.kernelRefusesSpec.plain.varTypes Tryz.prog).any (Tryz.prog.mapsRec ·))=true:=by kernel_rfl
def abP:(Rows.kernelRefusesRow.ifaces==(Tryz.f10.params.toList++Rows.kernelRefusesSpec.plain.varTypes Tryz.prog).any (Tryz.prog.ifacesRec ·))=true:=by kernel_rfl
def abH:(Rows.kernelRefusesRow.mapsOut==Tryz.prog.mapsAmong Tryz.f10.resultTypes.toList)=true:=by kernel_rfl
def abY:(Rows.kernelRefusesRow.loops==(Tryz.f10.params.toList++Rows.kernelRefusesSpec.plain.varTypes Tryz.prog).any (Tryz.prog.loopsFrom ·))=true:=by kernel_rfl
def abZ:(Rows.kernelRefusesRow.wideKeys==(Tryz.f10.params.toList++Rows.kernelRefusesSpec.plain.varTypes Tryz.prog++Tryz.f10.resultTypes.toList).any (Tryz.prog.wideKeysFrom ·))=true:=by kernel_rfl
def abX:Rows.kernelRefusesSpec.vars.all (Tryz.prog.varReadable ·)=true:=by kernel_rfl
def abK:(Tryz.f10.resultTypes.all (λt=>Tryz.prog.readableRec t&&decide (t<Tryz.prog.types.size)))=true:=by kernel_rfl
def abB:(Rows.kernelRefusesRow.ifacesOut==Tryz.f10.resultTypes.toList.any (Tryz.prog.ifacesRec ·))=true:=by kernel_rfl
def ab2:(Rows.kernelRefusesRow.loopsOut==Tryz.f10.resultTypes.toList.any (Tryz.prog.loopsFrom ·))=true:=by kernel_rfl
def abF:(Rows.kernelRefusesRow.plainKeys==Tryz.prog.plainKeys)=true:=by kernel_rfl
def abM:Rows.kernelRefusesRow.shortTexts.isNone=true:=by kernel_rfl
def ab_:Tryz.prog.stopsHeard=true:=by kernel_rfl
def acf:Tryz.prog.mayEnter=true:=by kernel_rfl
def abu:(Rows.kernelRefusesRow.lifted==Tryz.prog.liftsFinal)=true:=by kernel_rfl
def abW:(Tryz.prog.make==some Rows.kernelRefusesRow.make)=true:=by kernel_rfl
def abU:(Rows.kernelRefusesRow.pinned==Rows.kernelRefusesRow.pinnedBy)=true:=by kernel_rfl
def ab1:(Rows.kernelRefusesRow.veiled==(Tryz.f10.params.toList++Rows.kernelRefusesSpec.plain.varTypes Tryz.prog++Tryz.f10.resultTypes.toList).any (Tryz.prog.veiledRec ·))=true:=by kernel_rfl
def abN:Rows.kernelRefusesRow.veiledFits Tryz.prog Tryz.f10.params.toList (Tryz.f10.params.toList++Rows.kernelRefusesSpec.plain.varTypes Tryz.prog++Tryz.f10.resultTypes.toList)=true:=by kernel_rfl
set_option maxRecDepth 100000 in
def WQ:joinedFacts Tryz.pinned.checked.prog 10 Tryz.f10 Rows.kernelRefusesSpec Rows.kernelRefusesRow=true:=by
 show joinedFacts Tryz.prog 10 Tryz.f10 Rows.kernelRefusesSpec Rows.kernelRefusesRow=true;unfold joinedFacts;simp only[gO];exact⟨⟨⟨⟨⟨⟨⟨⟨⟨⟨⟨⟨⟨⟨⟨⟨⟨⟨⟨⟨⟨⟨⟨⟨⟨⟨⟨⟨⟨⟨⟨kf1,kf2⟩,kf3⟩,kf4⟩,kf5⟩,kf6⟩,kf7⟩,kf8⟩,kf9⟩,ab9⟩,abL⟩,ab6⟩,abw⟩,abT⟩,abP⟩,abH⟩,abY⟩,abZ⟩,abX⟩,abK⟩,abB⟩,ab2⟩,abF⟩,abM⟩,ab_⟩,acf⟩,abu⟩,abW⟩,(by kernel_rfl)⟩,abU⟩,ab1⟩,abN⟩
def TF:Tryz.pinned.checked.prog.funcNamed Rows.kernelRefusesRow.func=some 10:=by kernel_rfl
def MJ:Func.isInstance Tryz.pinned.checked.prog Tryz.f10 Rows.kernelRefusesRow.origin Rows.kernelRefusesRow.targs:=Zl (by kernel_rfl)
def OZ:Func.isWrapper Tryz.pinned.checked.prog Tryz.f10 Rows.kernelRefusesRow.wrapper Rows.kernelRefusesRow.mainSum:=by unfold Func.isWrapper;first|(rw[ee (by decide+kernel)];kernel_rfl)|(rw[ea (by decide+kernel)];exact⟨rfl,rfl⟩)
def AQ:Rows.KernelRefusesSaid:=
 OpenClaim.holds_of_wide 10 Tryz.f10 rfl rfl rfl rfl rfl rfl rfl ⟨rfl,rfl,rfl,rfl,rfl⟩ rfl rfl rfl rfl rfl TF Tryz.func10 WQ MJ OZ
  (λos started H enc _=>zz os started H enc)
def cf1:OpenClaim.wfByText (OpenSpec.ofChange Rows.kernelRefusesSpec) Rows.kernelRefusesRow=true:=by kernel_rfl
def cf2:Tryz.pinned.checked.prog.mainIs=some ((true, "59ad9e541940327f0abf053d023a0e4aabf9243c78fc631f5a31c7691f80561a").fst,(true, "59ad9e541940327f0abf053d023a0e4aabf9243c78fc631f5a31c7691f80561a").snd.toList):=by kernel_rfl
def cf3:false=Rows.kernelRefusesRow.goesBy Tryz.pinned.checked.prog:=by kernel_rfl
def cf4:Tryz.prog.funcNamed "proofprograms/proofprogramslaw11.KernelRefuses" =some 10:=by kernel_rfl
def cf5:([22].all λu=>!Tryz.prog.wantsStandIn u)=true:=by kernel_rfl
theorem kernelRefuses_card:Rows.KernelRefusesCardSaid:=
 Claim7.holds_tied_plain_at .later [] [.data,.data,.data] true (true, "59ad9e541940327f0abf053d023a0e4aabf9243c78fc631f5a31c7691f80561a") false
  AQ (λ_ h=>by cases h) cf1 (λ_ h=>by cases h) kernelRefuses_row_tie rfl ⟨rfl,rfl⟩ cf2 rfl
  (λf fn hf hfn=>by
   obtain rfl:f=10:=iD (cf4.symm.trans hf)|>.symm;obtain rfl:fn=Tryz.f10:=(iD (Tryz.func10.symm.trans hfn)).symm
   exact⟨by kernel_rfl,λj t ht=>by
    rw[Tryz.params10] at ht
    have hm:t∈[22]:=by simpa using OX ht
    exact(show Tryz.prog.wantsStandIn t=false by simpa using ll.1 cf5 t hm)⟩)
  cf3
#print axioms kernelRefuses_card
end Go.Proofs.YtobcafblgapgfaaGreatDoor
