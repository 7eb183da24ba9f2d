/- What is proved: KernelPuts: for every list of numbers the law returns true, and its argument reads behind the call as before. No condition beside the three listed tables, which the card ties to the program's text. -/
import Derived.Test.YtobcafblgapgfaaGreatDoorRows
import Derived.Test.YtobcafblgapgfaaGreatDoorCards
import Derived.Test.YtobcafblgapgfaaGreatDoorTie
import Derived.Test.YtobcafblgapgfaaGreatDoorW2
import Derived.Test.YtobcafblgapgfaaGreatDoorPP3
import Derived.Test.YtobcafblgapgfaaGreatDoorL17
set_option linter.all false
namespace Go.Proofs.YtobcafblgapgfaaGreatDoor
open Go Go.tq Go.eD Go.ChangeShapes Go.WideShapes Go.ChangeAt Go.RowKit
def Tryz.own:ownKnob Tryz.prog.godebug=none:=by kernel_rfl
def Tryz.laidOut:laidOutB Tryz.prog=true:=by kernel_rfl
def CL(x:gu):List Value:=[.bool x.afr,.bool x.typed,.int .i64 x.dy,.int .i64 x.fP,.int .i64 x.afp,.int .i64 x.zG,.int .i64 x.vars,.int .i64 x.afv]
def DS:List.flatMap (λx=>gu.cs x) mR=(mR.flatMap CL).map AV.sc:=by kernel_rfl
def vZ:fx:=λg=>if g=0 then some (AV.agg (List.map (λn=>AV.sc (Value.int .u8 n)) lu))else if g=1 then some (AV.agg ((mR.flatMap CL).map AV.sc))else if g=2 then some (AV.agg (List.map (λn=>AV.sc (Value.int .i64 n)) rl))else none
def GG:¬∀g,vZ g=none:=λh=>by have:=h 0;simp[vZ] at this
def JA:w5 vZ:=⟨rfl,by rw[DS];rfl,rfl⟩
def Et{W:World}(h:laidMetH Tryz.prog Rows.kernelPutsRow.laid W):∀g x,vZ g=some x->k5 (Ba W) (λ_=>0) 0 (.tB x) (.pointer (some ⟨g,0,none⟩)):=by
 have h1:=(laidMetH_iff.1 h).1;intro g x hx;unfold vZ at hx
 split at hx
 ·rename_i hg;subst hg;cases hx;refine He h1 (name:= "math/bits.deBruijn32tab") (k:=.u8) (t:=222) (e:=5) (n:=32) (NG.2 ⟨?_,by kernel_rfl⟩) (by kernel_rfl) (by kernel_rfl) (by kernel_rfl) (by kernel_rfl) (by kernel_rfl) (by kernel_rfl);rw[show(Go.Lib.tabData IntKind.u8 lu:DataW Unit)=Rows.laid_math_bits_deBruijn32tab by kernel_rfl];exact .head _
 ·split at hx
  ·rename_i hg;subst hg;cases hx;refine Ph h1 (name:= "proofprograms/tree.rules") (L:=mR) (f:=CL) (N:=8) (t:=258) (e:=238) (by decide) (NG.2 ⟨?_,by kernel_rfl⟩) (by kernel_rfl) (by kernel_rfl) (by kernel_rfl) Tryz.underlying238 ?_ (by kernel_rfl) rfl (λx _=>rfl) ?_
   ·rw[show(DataW.agg (mR.map λx=>.agg ((CL x).map UJ)):DataW Unit)=Rows.laid_proofprograms_tree_rules by kernel_rfl];exact .tail _ (.head _)
   ·intro i f hi
    match i,hi with
    |0,hi=>simp at hi;subst hi;exact⟨.inl (by kernel_rfl),rfl,by kernel_rfl⟩
    |1,hi=>simp at hi;subst hi;exact⟨.inl (by kernel_rfl),rfl,by kernel_rfl⟩
    |2,hi=>simp at hi;subst hi;exact⟨.inr ⟨.i64,by kernel_rfl⟩,rfl,by kernel_rfl⟩
    |3,hi=>simp at hi;subst hi;exact⟨.inr ⟨.i64,by kernel_rfl⟩,rfl,by kernel_rfl⟩
    |4,hi=>simp at hi;subst hi;exact⟨.inr ⟨.i64,by kernel_rfl⟩,rfl,by kernel_rfl⟩
    |5,hi=>simp at hi;subst hi;exact⟨.inr ⟨.i64,by kernel_rfl⟩,rfl,by kernel_rfl⟩
    |6,hi=>simp at hi;subst hi;exact⟨.inr ⟨.i64,by kernel_rfl⟩,rfl,by kernel_rfl⟩
    |7,hi=>simp at hi;subst hi;exact⟨.inr ⟨.i64,by kernel_rfl⟩,rfl,by kernel_rfl⟩
    |i+8,hi=>simp at hi
   ·intro x _ v hv;simp only[CL,gT,lZ,kv] at hv;rcases hv with rfl|rfl|rfl|rfl|rfl|rfl|rfl|rfl
    ·exact .inl ⟨_,rfl⟩
    ·exact .inl ⟨_,rfl⟩
    all_goals exact .inr ⟨_,_,rfl⟩
  ·split at hx
   ·rename_i hg;subst hg;cases hx;refine He h1 (name:= "proofprograms/tree.arities") (k:=.i64) (t:=287) (e:=3) (n:=14) (NG.2 ⟨?_,by kernel_rfl⟩) (by kernel_rfl) (by kernel_rfl) (by kernel_rfl) (by kernel_rfl) (by kernel_rfl) (by kernel_rfl);rw[show(Go.Lib.tabData IntKind.i64 rl:DataW Unit)=Rows.laid_proofprograms_tree_arities by kernel_rfl];exact .tail _ (.tail _ (.head _))
   ·cases hx
def I3(os:Os)(args:Array Value):laidMetH Tryz.prog Rows.kernelPutsRow.laid ((World.doorLaid Tryz.prog 400 os).forCall (λ_ _=>0) ⟨#[],args,[]⟩).memory:=
 laidMetH_of_parts3 (fuel:=8) (laidMet_of_run' 8 (by kernel_rfl) (by kernel_rfl)) (by kernel_rfl) (by kernel_rfl)
set_option maxRecDepth 100000 in
def LL(os:Os)(started:os.Started)(H:Type)(enc:TypeId×Value->H):ReturnsInHanded {} Tryz.checked os 8 .any (λw args=>(Rows.kernelPutsSpec.pre enc Tryz.prog Tryz.f8 [] false w args/\laidMetH Tryz.prog Rows.kernelPutsRow.laid w)/\sizedMet enc Tryz.prog Tryz.f8 (OpenSpec.ofChange Rows.kernelPutsSpec) false w args)
   (Rows.kernelPutsSpec.post enc Tryz.prog Tryz.f8 false true false false):=by
 refine returnsInHanded_of_change_and (C:=Tryz.checked) (X:=λw _=>laidMetH Tryz.prog Rows.kernelPutsRow.laid w) (λ_ _ _ u h=>h.of_heap u) Tryz.own started (by kernel_rfl) Tryz.func8
  (ChangeSpec.witness_shaped (enc:=enc) (C:=Tryz.checked) (os:=os) (X:=λw _=>laidMetH Tryz.prog Rows.kernelPutsRow.laid w) false (World.doorLaid Tryz.prog 400 os) #[.slice none 0 0] 8 rfl (World.shaped_of_RefB (by kernel_rfl) (by kernel_rfl)) (by kernel_rfl) (by kernel_rfl) (by kernel_rfl) (I3 os _)) ?_
 intro W base args y gs before b m _ _ z _;have a:∀(j:Nat) t v,Tryz.f8.params[j]?=some t->args[j]?=some v->Value.okWide Tryz.prog W .any base t v:=b;have c:=m;obtain⟨p,q,g,A,rfl,B,D⟩:=m;have n:DataW.TrodAll enc Tryz.prog W 0 (λ_=>true) true Tryz.f8.params.toList args.toList y p:=g;rw[Tryz.params8] at n a;obtain⟨v0,E,d0,F,o,q0,i,rfl,rfl,r,G⟩:=trodAll_cons n;obtain⟨rfl,rfl,rfl⟩:=trodAll_nil G
 obtain rfl:args=#[v0]:=by cases args;simp_all
 obtain⟨rfl,rfl⟩:=trodVars_none A;obtain⟨L,d⟩:=PT Tryz.underlying22 Tryz.underlying3 (by kernel_rfl) (a 0 22 v0 rfl rfl) r;simp only[Dn] at c
 have k:∀x∈o,x.block<W.heap.size:=λx f=>by simpa using c.lt x f
 refine((KD vZ JA (O5 L)).law GG (Et z) d).mono λe I ⟨he,s⟩=>?_;subst he
 exact⟨_,rfl,F6 (pa:=o) (pv:=[]) c (λ_ _ _=>trodAll_mk1 (shut_bool Tryz.underlying4 _)) (λsp l=>by
   exact trodAll_mk1 (WideElems.Trod_stays Tryz.laidOut (by kernel_rfl) (VR (by kernel_rfl)) r (λx f=>s.same (k x f)) (λx f=>l x (by simpa using f)))) (λ_ _=>rfl) aae
  s (ok_one (by kernel_rfl) rfl (okWide_bool_mk Tryz.underlying4 _))⟩
def kf1:Rows.kernelPutsRow.wf (OpenSpec.ofChange Rows.kernelPutsSpec)=true:=by kernel_rfl
def kf2:laidOutB Tryz.prog=true:=by kernel_rfl
def kf3:mapsRowed Tryz.prog=true:=by kernel_rfl
def kf4:Tryz.f8.params.all (Tryz.prog.readableRec ·)=true:=by kernel_rfl
def kf5:namedTie Tryz.prog Rows.kernelPutsRow.named Rows.kernelPutsSpec.vars=true:=by kernel_rfl
def kf6:(Rows.kernelPutsRow.stops==[])=true:=by kernel_rfl
def kf7:(Tryz.prog.stops==[])=true:=by kernel_rfl
def kf8:(Rows.kernelPutsRow.knobs==[])=true:=by kernel_rfl
def kf9:(Tryz.prog.stopKnobs==[])=true:=by kernel_rfl
def WW:(Rows.kernelPutsRow.inPlace==Tryz.prog.inPlace 8)=true:=by kernel_rfl
def W6:(Rows.kernelPutsRow.unfollowed==Tryz.prog.unfollowed 8)=true:=by kernel_rfl
def W1:(Rows.kernelPutsRow.recurses==Tryz.prog.recurses 8)=true:=by kernel_rfl
def WO:(Rows.kernelPutsRow.named==Tryz.prog.varsNamed 8)=true:=by kernel_rfl
def Wq:(Rows.kernelPutsRow.maps==(Tryz.f8.params.toList++Rows.kernelPutsSpec.plain.varTypes Tryz.prog).any (Tryz.prog.mapsRec ·))=true:=by kernel_rfl
def XW:(Rows.kernelPutsRow.ifaces==(Tryz.f8.params.toList++Rows.kernelPutsSpec.plain.varTypes Tryz.prog).any (Tryz.prog.ifacesRec ·))=true:=by kernel_rfl
def Ww:(Rows.kernelPutsRow.mapsOut==Tryz.prog.mapsAmong Tryz.f8.resultTypes.toList)=true:=by kernel_rfl
def Xw:(Rows.kernelPutsRow.loops==(Tryz.f8.params.toList++Rows.kernelPutsSpec.plain.varTypes Tryz.prog).any (Tryz.prog.loopsFrom ·))=true:=by kernel_rfl
def Wv:(Rows.kernelPutsRow.wideKeys==(Tryz.f8.params.toList++Rows.kernelPutsSpec.plain.varTypes Tryz.prog++Tryz.f8.resultTypes.toList).any (Tryz.prog.wideKeysFrom ·))=true:=by kernel_rfl
def W3:Rows.kernelPutsSpec.vars.all (Tryz.prog.varReadable ·)=true:=by kernel_rfl
def W9:(Tryz.f8.resultTypes.all (λt=>Tryz.prog.readableRec t&&decide (t<Tryz.prog.types.size)))=true:=by kernel_rfl
def W8:(Rows.kernelPutsRow.ifacesOut==Tryz.f8.resultTypes.toList.any (Tryz.prog.ifacesRec ·))=true:=by kernel_rfl
def Xv:(Rows.kernelPutsRow.loopsOut==Tryz.f8.resultTypes.toList.any (Tryz.prog.loopsFrom ·))=true:=by kernel_rfl
def XV:(Rows.kernelPutsRow.plainKeys==Tryz.prog.plainKeys)=true:=by kernel_rfl
def Xl:Rows.kernelPutsRow.shortTexts.isNone=true:=by kernel_rfl
def Xy:Tryz.prog.stopsHeard=true:=by kernel_rfl
def X2:Tryz.prog.mayEnter=true:=by kernel_rfl
def X0:(Rows.kernelPutsRow.lifted==Tryz.prog.liftsFinal)=true:=by kernel_rfl
def WH:(Tryz.prog.make==some Rows.kernelPutsRow.make)=true:=by kernel_rfl
def W5:(Rows.kernelPutsRow.pinned==Rows.kernelPutsRow.pinnedBy)=true:=by kernel_rfl
def WE:(Rows.kernelPutsRow.veiled==(Tryz.f8.params.toList++Rows.kernelPutsSpec.plain.varTypes Tryz.prog++Tryz.f8.resultTypes.toList).any (Tryz.prog.veiledRec ·))=true:=by kernel_rfl
def WK:Rows.kernelPutsRow.veiledFits Tryz.prog Tryz.f8.params.toList (Tryz.f8.params.toList++Rows.kernelPutsSpec.plain.varTypes Tryz.prog++Tryz.f8.resultTypes.toList)=true:=by kernel_rfl
set_option maxRecDepth 100000 in
def Py:joinedFacts Tryz.pinned.checked.prog 8 Tryz.f8 Rows.kernelPutsSpec Rows.kernelPutsRow=true:=by
 show joinedFacts Tryz.prog 8 Tryz.f8 Rows.kernelPutsSpec Rows.kernelPutsRow=true;unfold joinedFacts;simp only[ew];exact⟨⟨⟨⟨⟨⟨⟨⟨⟨⟨⟨⟨⟨⟨⟨⟨⟨⟨⟨⟨⟨⟨⟨⟨⟨⟨⟨⟨⟨⟨⟨kf1,kf2⟩,kf3⟩,kf4⟩,kf5⟩,kf6⟩,kf7⟩,kf8⟩,kf9⟩,WW⟩,W6⟩,W1⟩,WO⟩,Wq⟩,XW⟩,Ww⟩,Xw⟩,Wv⟩,W3⟩,W9⟩,W8⟩,Xv⟩,XV⟩,Xl⟩,Xy⟩,X2⟩,X0⟩,WH⟩,(by kernel_rfl)⟩,W5⟩,WE⟩,WK⟩
def Jh:Tryz.pinned.checked.prog.funcNamed Rows.kernelPutsRow.func=some 8:=by kernel_rfl
def CK:Func.isInstance Tryz.pinned.checked.prog Tryz.f8 Rows.kernelPutsRow.origin Rows.kernelPutsRow.targs:=VR (by kernel_rfl)
def DY:Func.isWrapper Tryz.pinned.checked.prog Tryz.f8 Rows.kernelPutsRow.wrapper Rows.kernelPutsRow.mainSum:=by unfold Func.isWrapper;first|(rw[cL abn];kernel_rfl)|(rw[cJ abn];exact⟨rfl,rfl⟩)
def MQ:Rows.KernelPutsSaid:=
 OpenClaim.holds_of_wide 8 Tryz.f8 rfl rfl rfl rfl rfl rfl rfl ⟨rfl,rfl,rfl,rfl,rfl⟩ rfl rfl rfl rfl rfl Jh Tryz.func8 Py CK DY
  (λos started H enc _=>LL os started H enc)
def cf1:OpenClaim.wfByText (OpenSpec.ofChange Rows.kernelPutsSpec) Rows.kernelPutsRow=true:=by kernel_rfl
def cf2:Tryz.pinned.checked.prog.mainIs=some ((true, "59ad9e541940327f0abf053d023a0e4aabf9243c78fc631f5a31c7691f80561a").fst,(true, "59ad9e541940327f0abf053d023a0e4aabf9243c78fc631f5a31c7691f80561a").snd.toList):=by kernel_rfl
def cf3:false=Rows.kernelPutsRow.goesBy Tryz.pinned.checked.prog:=by kernel_rfl
def cf4:Tryz.prog.funcNamed "proofprograms/proofprogramslaw11.KernelPuts" =some 8:=by kernel_rfl
def cf5:([22].all λu=>!Tryz.prog.wantsStandIn u)=true:=by kernel_rfl
theorem kernelPuts_card:Rows.KernelPutsCardSaid:=
 Claim7.holds_tied_plain_at .later [] [.data,.data,.data] true (true, "59ad9e541940327f0abf053d023a0e4aabf9243c78fc631f5a31c7691f80561a") false
  MQ (λ_ h=>by cases h) cf1 (λ_ h=>by cases h) kernelPuts_row_tie rfl ⟨rfl,rfl⟩ cf2 rfl
  (λf fn hf hfn=>by
   obtain rfl:f=8:=hZ (cf4.symm.trans hf)|>.symm;obtain rfl:fn=Tryz.f8:=(hZ (Tryz.func8.symm.trans hfn)).symm
   exact⟨by kernel_rfl,λj t ht=>by
    rw[Tryz.params8] at ht
    have hm:t∈[22]:=by simpa using VE ht
    exact(show Tryz.prog.wantsStandIn t=false by simpa using gR.1 cf5 t hm)⟩)
  cf3
#print axioms kernelPuts_card
end Go.Proofs.YtobcafblgapgfaaGreatDoor
