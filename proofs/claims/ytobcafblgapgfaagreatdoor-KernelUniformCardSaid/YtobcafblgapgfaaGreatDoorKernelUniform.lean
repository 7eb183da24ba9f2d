/- What is proved: KernelUniform: for every list of numbers the law returns true, and its argument reads behind the call as before. No condition beside the three listed tables, which the card ties to the program's text. -/
import Derived.Test.YtobcafblgapgfaaGreatDoorRows
import Derived.Test.YtobcafblgapgfaaGreatDoorCards
import Derived.Test.YtobcafblgapgfaaGreatDoorTie
import Derived.Test.YtobcafblgapgfaaGreatDoorW2
import Derived.Test.YtobcafblgapgfaaGreatDoorP3
import Derived.Test.YtobcafblgapgfaaGreatDoorL17
set_option linter.all false
namespace Go.Proofs.YtobcafblgapgfaaGreatDoor
open Go Go.mS Go.hJ Go.ChangeShapes Go.WideShapes Go.ChangeAt Go.RowKit
def Tryz.own:ownKnob Tryz.prog.godebug=none:=by kernel_rfl
def Tryz.laidOut:laidOutB Tryz.prog=true:=by kernel_rfl
def Lx(x:fM):List Value:=[.bool x.abd,.bool x.typed,.int .i64 x.ek,.int .i64 x.fi,.int .i64 x.abb,.int .i64 x.sd,.int .i64 x.vars,.int .i64 x.abh]
def Nn:List.flatMap (λx=>fM.cs x) oM=(oM.flatMap Lx).map AV.sc:=by kernel_rfl
def DB:fg:=λg=>if g=0 then some (AV.agg (List.map (λn=>AV.sc (Value.int .u8 n)) lZ))else if g=1 then some (AV.agg ((oM.flatMap Lx).map AV.sc))else if g=2 then some (AV.agg (List.map (λn=>AV.sc (Value.int .i64 n)) qI))else none
def OQ:¬∀g,DB g=none:=λh=>by have:=h 0;simp[DB] at this
def QW:qy DB:=⟨rfl,by rw[Nn];rfl,rfl⟩
def Nj{W:World}(h:laidMetH Tryz.prog Rows.kernelUniformRow.laid W):∀g x,DB g=some x->ia (tL W) (λ_=>0) 0 (.na x) (.pointer (some ⟨g,0,none⟩)):=by
 have h1:=(laidMetH_iff.1 h).1;intro g x hx;unfold DB at hx
 split at hx
 ·rename_i hg;subst hg;cases hx;refine Kx h1 (name:= "math/bits.deBruijn32tab") (k:=.u8) (t:=222) (e:=5) (n:=32) (Qv.2 ⟨?_,by kernel_rfl⟩) (by kernel_rfl) (by kernel_rfl) (by kernel_rfl) (by kernel_rfl) (by kernel_rfl) (by kernel_rfl);rw[show(Go.Lib.tabData IntKind.u8 lZ:DataW Unit)=Rows.laid_math_bits_deBruijn32tab by kernel_rfl];exact .head _
 ·split at hx
  ·rename_i hg;subst hg;cases hx;refine QT h1 (name:= "proofprograms/tree.rules") (L:=oM) (f:=Lx) (N:=8) (t:=258) (e:=238) (by decide) (Qv.2 ⟨?_,by kernel_rfl⟩) (by kernel_rfl) (by kernel_rfl) (by kernel_rfl) Tryz.underlying238 ?_ (by kernel_rfl) rfl (λx _=>rfl) ?_
   ·rw[show(DataW.agg (oM.map λx=>.agg ((Lx x).map Qd)):DataW Unit)=Rows.laid_proofprograms_tree_rules by kernel_rfl];exact .tail _ (.head _)
   ·intro i f hi
    match i,hi with
    |0,hi=>simp at hi;subst hi;exact⟨.inl (by kernel_rfl),rfl,by kernel_rfl⟩
    |1,hi=>simp at hi;subst hi;exact⟨.inl (by kernel_rfl),rfl,by kernel_rfl⟩
    |2,hi=>simp at hi;subst hi;exact⟨.inr ⟨.i64,by kernel_rfl⟩,rfl,by kernel_rfl⟩
    |3,hi=>simp at hi;subst hi;exact⟨.inr ⟨.i64,by kernel_rfl⟩,rfl,by kernel_rfl⟩
    |4,hi=>simp at hi;subst hi;exact⟨.inr ⟨.i64,by kernel_rfl⟩,rfl,by kernel_rfl⟩
    |5,hi=>simp at hi;subst hi;exact⟨.inr ⟨.i64,by kernel_rfl⟩,rfl,by kernel_rfl⟩
    |6,hi=>simp at hi;subst hi;exact⟨.inr ⟨.i64,by kernel_rfl⟩,rfl,by kernel_rfl⟩
    |7,hi=>simp at hi;subst hi;exact⟨.inr ⟨.i64,by kernel_rfl⟩,rfl,by kernel_rfl⟩
    |i+8,hi=>simp at hi
   ·intro x _ v hv;simp only[Lx,lF,w4,sN] at hv;rcases hv with rfl|rfl|rfl|rfl|rfl|rfl|rfl|rfl
    ·exact .inl ⟨_,rfl⟩
    ·exact .inl ⟨_,rfl⟩
    all_goals exact .inr ⟨_,_,rfl⟩
  ·split at hx
   ·rename_i hg;subst hg;cases hx;refine Kx h1 (name:= "proofprograms/tree.arities") (k:=.i64) (t:=287) (e:=3) (n:=14) (Qv.2 ⟨?_,by kernel_rfl⟩) (by kernel_rfl) (by kernel_rfl) (by kernel_rfl) (by kernel_rfl) (by kernel_rfl) (by kernel_rfl);rw[show(Go.Lib.tabData IntKind.i64 qI:DataW Unit)=Rows.laid_proofprograms_tree_arities by kernel_rfl];exact .tail _ (.tail _ (.head _))
   ·cases hx
def Rn(os:Os)(args:Array Value):laidMetH Tryz.prog Rows.kernelUniformRow.laid ((World.doorLaid Tryz.prog 400 os).forCall (λ_ _=>0) ⟨#[],args,[]⟩).memory:=
 laidMetH_of_parts3 (fuel:=8) (laidMet_of_run' 8 (by kernel_rfl) (by kernel_rfl)) (by kernel_rfl) (by kernel_rfl)
set_option maxRecDepth 100000 in
def y0(os:Os)(started:os.Started)(H:Type)(enc:TypeId×Value->H):ReturnsInHanded {} Tryz.checked os 5 .any (λw args=>(Rows.kernelUniformSpec.pre enc Tryz.prog Tryz.f5 [] false w args/\laidMetH Tryz.prog Rows.kernelUniformRow.laid w)/\sizedMet enc Tryz.prog Tryz.f5 (OpenSpec.ofChange Rows.kernelUniformSpec) false w args)
   (Rows.kernelUniformSpec.post enc Tryz.prog Tryz.f5 false true false false):=by
 refine returnsInHanded_of_change_and (C:=Tryz.checked) (X:=λw _=>laidMetH Tryz.prog Rows.kernelUniformRow.laid w) (λ_ _ _ u h=>h.of_heap u) Tryz.own started (by kernel_rfl) Tryz.func5
  (ChangeSpec.witness_shaped (enc:=enc) (C:=Tryz.checked) (os:=os) (X:=λw _=>laidMetH Tryz.prog Rows.kernelUniformRow.laid w) false (World.doorLaid Tryz.prog 400 os) #[.slice none 0 0] 8 rfl (World.shaped_of_RefB (by kernel_rfl) (by kernel_rfl)) (by kernel_rfl) (by kernel_rfl) (by kernel_rfl) (Rn os _)) ?_
 intro W base args y gs before b m _ _ z _;have a:∀(j:Nat) t v,Tryz.f5.params[j]?=some t->args[j]?=some v->Value.okWide Tryz.prog W .any base t v:=b;have c:=m;obtain⟨p,q,g,A,rfl,B,D⟩:=m;have n:DataW.TrodAll enc Tryz.prog W 0 (λ_=>true) true Tryz.f5.params.toList args.toList y p:=g;rw[Tryz.params5] at n a;obtain⟨v0,E,d0,F,o,q0,i,rfl,rfl,r,G⟩:=trodAll_cons n;obtain⟨rfl,rfl,rfl⟩:=trodAll_nil G
 obtain rfl:args=#[v0]:=by cases args;simp_all
 obtain⟨rfl,rfl⟩:=trodVars_none A;obtain⟨L,d⟩:=Rr Tryz.underlying22 Tryz.underlying3 (by kernel_rfl) (a 0 22 v0 rfl rfl) r;simp only[Ah] at c
 have k:∀x∈o,x.block<W.heap.size:=λx f=>by simpa using c.lt x f
 refine((yw DB QW (BF L)).law OQ (Nj z) d).mono λe I ⟨he,s⟩=>?_;subst he
 exact⟨_,rfl,HF (pa:=o) (pv:=[]) c (λ_ _ _=>trodAll_mk1 (shut_bool Tryz.underlying4 _)) (λsp l=>by
   exact trodAll_mk1 (WideElems.Trod_stays Tryz.laidOut (by kernel_rfl) (XS (by kernel_rfl)) r (λx f=>s.same (k x f)) (λx f=>l x (by simpa using f)))) (λ_ _=>rfl) (by simp)
  s (ok_one (by kernel_rfl) rfl (okWide_bool_mk Tryz.underlying4 _))⟩
def kf1:Rows.kernelUniformRow.wf (OpenSpec.ofChange Rows.kernelUniformSpec)=true:=by kernel_rfl
def kf2:laidOutB Tryz.prog=true:=by kernel_rfl
def kf3:mapsRowed Tryz.prog=true:=by kernel_rfl
def kf4:Tryz.f5.params.all (Tryz.prog.readableRec ·)=true:=by kernel_rfl
def kf5:namedTie Tryz.prog Rows.kernelUniformRow.named Rows.kernelUniformSpec.vars=true:=by kernel_rfl
def kf6:(Rows.kernelUniformRow.stops==[])=true:=by kernel_rfl
def kf7:(Tryz.prog.stops==[])=true:=by kernel_rfl
def kf8:(Rows.kernelUniformRow.knobs==[])=true:=by kernel_rfl
def kf9:(Tryz.prog.stopKnobs==[])=true:=by kernel_rfl
def ZV:(Rows.kernelUniformRow.inPlace==Tryz.prog.inPlace 5)=true:=by kernel_rfl
def aaE:(Rows.kernelUniformRow.unfollowed==Tryz.prog.unfollowed 5)=true:=by kernel_rfl
def aal:(Rows.kernelUniformRow.recurses==Tryz.prog.recurses 5)=true:=by kernel_rfl
def aat:(Rows.kernelUniformRow.named==Tryz.prog.varsNamed 5)=true:=by kernel_rfl
def ZX:(Rows.kernelUniformRow.maps==(Tryz.f5.params.toList++Rows.kernelUniformSpec.plain.varTypes Tryz.prog).any (Tryz.prog.mapsRec ·))=true:=by kernel_rfl
def aag:(Rows.kernelUniformRow.ifaces==(Tryz.f5.params.toList++Rows.kernelUniformSpec.plain.varTypes Tryz.prog).any (Tryz.prog.ifacesRec ·))=true:=by kernel_rfl
def Z7:(Rows.kernelUniformRow.mapsOut==Tryz.prog.mapsAmong Tryz.f5.resultTypes.toList)=true:=by kernel_rfl
def aav:(Rows.kernelUniformRow.loops==(Tryz.f5.params.toList++Rows.kernelUniformSpec.plain.varTypes Tryz.prog).any (Tryz.prog.loopsFrom ·))=true:=by kernel_rfl
def aac:(Rows.kernelUniformRow.wideKeys==(Tryz.f5.params.toList++Rows.kernelUniformSpec.plain.varTypes Tryz.prog++Tryz.f5.resultTypes.toList).any (Tryz.prog.wideKeysFrom ·))=true:=by kernel_rfl
def aap:Rows.kernelUniformSpec.vars.all (Tryz.prog.varReadable ·)=true:=by kernel_rfl
def Z8:(Tryz.f5.resultTypes.all (λt=>Tryz.prog.readableRec t&&decide (t<Tryz.prog.types.size)))=true:=by kernel_rfl
def Z6:(Rows.kernelUniformRow.ifacesOut==Tryz.f5.resultTypes.toList.any (Tryz.prog.ifacesRec ·))=true:=by kernel_rfl
def aam:(Rows.kernelUniformRow.loopsOut==Tryz.f5.resultTypes.toList.any (Tryz.prog.loopsFrom ·))=true:=by kernel_rfl
def Z5:(Rows.kernelUniformRow.plainKeys==Tryz.prog.plainKeys)=true:=by kernel_rfl
def aau:Rows.kernelUniformRow.shortTexts.isNone=true:=by kernel_rfl
def aak:Tryz.prog.stopsHeard=true:=by kernel_rfl
def ZZ:Tryz.prog.mayEnter=true:=by kernel_rfl
def aaa:(Rows.kernelUniformRow.lifted==Tryz.prog.liftsFinal)=true:=by kernel_rfl
def aai:(Tryz.prog.make==some Rows.kernelUniformRow.make)=true:=by kernel_rfl
def aaA:(Rows.kernelUniformRow.pinned==Rows.kernelUniformRow.pinnedBy)=true:=by kernel_rfl
def aae:(Rows.kernelUniformRow.veiled==(Tryz.f5.params.toList++Rows.kernelUniformSpec.plain.varTypes Tryz.prog++Tryz.f5.resultTypes.toList).any (Tryz.prog.veiledRec ·))=true:=by kernel_rfl
def aao:Rows.kernelUniformRow.veiledFits Tryz.prog Tryz.f5.params.toList (Tryz.f5.params.toList++Rows.kernelUniformSpec.plain.varTypes Tryz.prog++Tryz.f5.resultTypes.toList)=true:=by kernel_rfl
set_option maxRecDepth 100000 in
def V8:joinedFacts Tryz.pinned.checked.prog 5 Tryz.f5 Rows.kernelUniformSpec Rows.kernelUniformRow=true:=by
 show joinedFacts Tryz.prog 5 Tryz.f5 Rows.kernelUniformSpec Rows.kernelUniformRow=true;unfold joinedFacts;simp only[gL];exact⟨⟨⟨⟨⟨⟨⟨⟨⟨⟨⟨⟨⟨⟨⟨⟨⟨⟨⟨⟨⟨⟨⟨⟨⟨⟨⟨⟨⟨⟨⟨kf1,kf2⟩,kf3⟩,kf4⟩,kf5⟩,kf6⟩,kf7⟩,kf8⟩,kf9⟩,ZV⟩,aaE⟩,aal⟩,aat⟩,ZX⟩,aag⟩,Z7⟩,aav⟩,aac⟩,aap⟩,Z8⟩,Z6⟩,aam⟩,Z5⟩,aau⟩,aak⟩,ZZ⟩,aaa⟩,aai⟩,(by kernel_rfl)⟩,aaA⟩,aae⟩,aao⟩
def QF:Tryz.pinned.checked.prog.funcNamed Rows.kernelUniformRow.func=some 5:=by kernel_rfl
def Mr:Func.isInstance Tryz.pinned.checked.prog Tryz.f5 Rows.kernelUniformRow.origin Rows.kernelUniformRow.targs:=XS (by kernel_rfl)
def NA:Func.isWrapper Tryz.pinned.checked.prog Tryz.f5 Rows.kernelUniformRow.wrapper Rows.kernelUniformRow.mainSum:=by unfold Func.isWrapper;first|(rw[ee (by decide+kernel)];kernel_rfl)|(rw[ea (by decide+kernel)];exact⟨rfl,rfl⟩)
def Ae:Rows.KernelUniformSaid:=
 OpenClaim.holds_of_wide 5 Tryz.f5 rfl rfl rfl rfl rfl rfl rfl ⟨rfl,rfl,rfl,rfl,rfl⟩ rfl rfl rfl rfl rfl QF Tryz.func5 V8 Mr NA
  (λos started H enc _=>y0 os started H enc)
def cf1:OpenClaim.wfByText (OpenSpec.ofChange Rows.kernelUniformSpec) Rows.kernelUniformRow=true:=by kernel_rfl
def cf2:Tryz.pinned.checked.prog.mainIs=some ((true, "59ad9e541940327f0abf053d023a0e4aabf9243c78fc631f5a31c7691f80561a").fst,(true, "59ad9e541940327f0abf053d023a0e4aabf9243c78fc631f5a31c7691f80561a").snd.toList):=by kernel_rfl
def cf3:false=Rows.kernelUniformRow.goesBy Tryz.pinned.checked.prog:=by kernel_rfl
def cf4:Tryz.prog.funcNamed "proofprograms/proofprogramslaw11.KernelUniform" =some 5:=by kernel_rfl
def cf5:([22].all λu=>!Tryz.prog.wantsStandIn u)=true:=by kernel_rfl
theorem kernelUniform_card:Rows.KernelUniformCardSaid:=
 Claim7.holds_tied_plain_at .later [] [.data,.data,.data] true (true, "59ad9e541940327f0abf053d023a0e4aabf9243c78fc631f5a31c7691f80561a") false
  Ae (λ_ h=>by cases h) cf1 (λ_ h=>by cases h) kernelUniform_row_tie rfl ⟨rfl,rfl⟩ cf2 rfl
  (λf fn hf hfn=>by
   obtain rfl:f=5:=iw (cf4.symm.trans hf)|>.symm;obtain rfl:fn=Tryz.f5:=(iw (Tryz.func5.symm.trans hfn)).symm
   exact⟨by kernel_rfl,λj t ht=>by
    rw[Tryz.params5] at ht
    have hm:t∈[22]:=by simpa using RM ht
    exact(show Tryz.prog.wantsStandIn t=false by simpa using k4.1 cf5 t hm)⟩)
  cf3
#print axioms kernelUniform_card
end Go.Proofs.YtobcafblgapgfaaGreatDoor
