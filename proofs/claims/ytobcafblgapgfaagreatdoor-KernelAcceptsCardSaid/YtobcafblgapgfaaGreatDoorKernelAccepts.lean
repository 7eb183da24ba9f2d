/- What is proved: KernelAccepts: for all arguments the law returns true, and they read behind the call as before. No condition beside the three listed tables, which the card ties to the program's text. -/
import Derived.Test.YtobcafblgapgfaaGreatDoorRows
import Derived.Test.YtobcafblgapgfaaGreatDoorCards
import Derived.Test.YtobcafblgapgfaaGreatDoorTie
import Derived.Test.YtobcafblgapgfaaGreatDoorQA1
import Derived.Test.YtobcafblgapgfaaGreatDoorPA3
import Derived.Test.YtobcafblgapgfaaGreatDoorL22
set_option linter.all false
namespace Go.Proofs.YtobcafblgapgfaaGreatDoor
open Go Go.ke Go.fB Go.ChangeShapes Go.WideShapes Go.ChangeAt Go.RowKit
def Tryz.own:ownKnob Tryz.prog.godebug=none:=by kernel_rfl
def Tryz.laidOut:laidOutB Tryz.prog=true:=by kernel_rfl
def LU(x:ef):List Value:=[.bool x.acV,.bool x.typed,.int .i64 x.c9,.int .i64 x.dV,.int .i64 x.acT,.int .i64 x.s8,.int .i64 x.vars,.int .i64 x.acZ]
def Oh:List.flatMap (λx=>ef.cs x) oh=(oh.flatMap LU).map AV.sc:=by kernel_rfl
def DF:dx:=λg=>if g=0 then some (AV.agg (List.map (λn=>AV.sc (Value.int .u8 n)) kK))else if g=1 then some (AV.agg ((oh.flatMap LU).map AV.sc))else if g=2 then some (AV.agg (List.map (λn=>AV.sc (Value.int .i64 n)) pZ))else none
def PX:¬∀g,DF g=none:=λh=>by have:=h 0;simp[DF] at this
def St:pE DF:=⟨rfl,by rw[Oh];rfl,rfl⟩
def N0{W:World}(h:laidMetH Tryz.prog Rows.kernelAcceptsRow.laid W):∀g x,DF g=some x->fF (r6 W) (λ_=>0) 0 (.lG x) (.pointer (some ⟨g,0,none⟩)):=by
 have h1:=(laidMetH_iff.1 h).1;intro g x hx;unfold DF at hx
 split at hx
 ·rename_i hg;subst hg;cases hx;refine MD h1 (name:= "math/bits.deBruijn32tab") (k:=.u8) (t:=222) (e:=5) (n:=32) (aah.2 ⟨?_,by kernel_rfl⟩) (by kernel_rfl) (by kernel_rfl) (by kernel_rfl) (by kernel_rfl) (by kernel_rfl) (by kernel_rfl);rw[show(Go.Lib.tabData IntKind.u8 kK:DataW Unit)=Rows.laid_math_bits_deBruijn32tab by kernel_rfl];exact .head _
 ·split at hx
  ·rename_i hg;subst hg;cases hx;refine R5 h1 (name:= "proofprograms/tree.rules") (L:=oh) (f:=LU) (N:=8) (t:=258) (e:=238) (by decide) (aah.2 ⟨?_,by kernel_rfl⟩) (by kernel_rfl) (by kernel_rfl) (by kernel_rfl) Tryz.underlying238 ?_ (by kernel_rfl) rfl (λx _=>rfl) ?_
   ·rw[show(DataW.agg (oh.map λx=>.agg ((LU x).map SJ)):DataW Unit)=Rows.laid_proofprograms_tree_rules by kernel_rfl];exact .tail _ (.head _)
   ·intro i f hi
    match i,hi with
    |0,hi=>simp at hi;subst hi;exact⟨.inl (by kernel_rfl),rfl,by kernel_rfl⟩
    |1,hi=>simp at hi;subst hi;exact⟨.inl (by kernel_rfl),rfl,by kernel_rfl⟩
    |2,hi=>simp at hi;subst hi;exact⟨.inr ⟨.i64,by kernel_rfl⟩,rfl,by kernel_rfl⟩
    |3,hi=>simp at hi;subst hi;exact⟨.inr ⟨.i64,by kernel_rfl⟩,rfl,by kernel_rfl⟩
    |4,hi=>simp at hi;subst hi;exact⟨.inr ⟨.i64,by kernel_rfl⟩,rfl,by kernel_rfl⟩
    |5,hi=>simp at hi;subst hi;exact⟨.inr ⟨.i64,by kernel_rfl⟩,rfl,by kernel_rfl⟩
    |6,hi=>simp at hi;subst hi;exact⟨.inr ⟨.i64,by kernel_rfl⟩,rfl,by kernel_rfl⟩
    |7,hi=>simp at hi;subst hi;exact⟨.inr ⟨.i64,by kernel_rfl⟩,rfl,by kernel_rfl⟩
    |i+8,hi=>simp at hi
   ·intro x _ v hv;simp only[LU,j0,tw,TI] at hv;rcases hv with rfl|rfl|rfl|rfl|rfl|rfl|rfl|rfl
    ·exact .inl ⟨_,rfl⟩
    ·exact .inl ⟨_,rfl⟩
    all_goals exact .inr ⟨_,_,rfl⟩
  ·split at hx
   ·rename_i hg;subst hg;cases hx;refine MD h1 (name:= "proofprograms/tree.arities") (k:=.i64) (t:=287) (e:=3) (n:=14) (aah.2 ⟨?_,by kernel_rfl⟩) (by kernel_rfl) (by kernel_rfl) (by kernel_rfl) (by kernel_rfl) (by kernel_rfl) (by kernel_rfl);rw[show(Go.Lib.tabData IntKind.i64 pZ:DataW Unit)=Rows.laid_proofprograms_tree_arities by kernel_rfl];exact .tail _ (.tail _ (.head _))
   ·cases hx
def SC(os:Os)(args:Array Value):laidMetH Tryz.prog Rows.kernelAcceptsRow.laid ((World.doorLaid Tryz.prog 400 os).forCall (λ_ _=>0) ⟨#[],args,[]⟩).memory:=
 laidMetH_of_parts3 (fuel:=8) (laidMet_of_run' 8 (by kernel_rfl) (by kernel_rfl)) (by kernel_rfl) (by kernel_rfl)
set_option maxRecDepth 100000 in
def zj(os:Os)(started:os.Started)(H:Type)(enc:TypeId×Value->H):ReturnsInHanded {} Tryz.checked os 6 .any (λw args=>(Rows.kernelAcceptsSpec.pre enc Tryz.prog Tryz.f6 [] false w args/\laidMetH Tryz.prog Rows.kernelAcceptsRow.laid w)/\sizedMet enc Tryz.prog Tryz.f6 (OpenSpec.ofChange Rows.kernelAcceptsSpec) false w args)
   (Rows.kernelAcceptsSpec.post enc Tryz.prog Tryz.f6 false true false false):=by
 refine returnsInHanded_of_change_and (C:=Tryz.checked) (X:=λw _=>laidMetH Tryz.prog Rows.kernelAcceptsRow.laid w) (λ_ _ _ E h=>h.of_heap E) Tryz.own started (by kernel_rfl) Tryz.func6
  (ChangeSpec.witness_shaped (enc:=enc) (C:=Tryz.checked) (os:=os) (X:=λw _=>laidMetH Tryz.prog Rows.kernelAcceptsRow.laid w) false (World.doorLaid Tryz.prog 400 os) #[.slice none 0 0,.agg #[.int .i64 0,.int .i64 0,.slice none 0 0,.slice none 0 0,.slice none 0 0]] 8 rfl (World.shaped_of_RefB (by kernel_rfl) (by kernel_rfl)) (by kernel_rfl) (by kernel_rfl) (by kernel_rfl) (SC os _)) ?_
 intro W base args F gs before f u _ _ G _;have a:∀(j:Nat) t v,Tryz.f6.params[j]?=some t->args[j]?=some v->Value.okWide Tryz.prog W .any base t v:=f;have c:=u;obtain⟨p,q,m,I,rfl,J,K⟩:=u;have y:DataW.TrodAll enc Tryz.prog W 0 (λ_=>true) true Tryz.f6.params.toList args.toList F p:=m;rw[Tryz.params6] at y a;obtain⟨v0,M,d0,N,z,q0,n,rfl,rfl,A,O⟩:=trodAll_cons y;obtain⟨v1,P,d1,Q,o,q1,rfl,rfl,rfl,h1,R⟩:=trodAll_cons O;obtain⟨rfl,rfl,rfl⟩:=trodAll_nil R
 obtain rfl:args=#[v0,v1]:=by cases args;simp_all
 obtain⟨rfl,rfl⟩:=trodVars_none I;obtain⟨S,T⟩:=Rc Tryz.underlying22 Tryz.underlying3 (by kernel_rfl) (a 0 22 v0 rfl rfl) A;obtain⟨g,g1⟩:=h1;obtain⟨B,U⟩:=TH g _ _ g1;have D:=TV Tryz.underlying46 (a 1 46 v1 rfl rfl) (VS B) U;rw[Fm.fo,<-Fm.fp] at D;have h1:DataW.Trod enc Tryz.prog W 0 (λ_=>true) true 46 v1 d1 o:=⟨g,g1⟩;simp only[wT] at c
 have i:∀x∈z,x.block<W.heap.size:=λx b=>by simpa using c.lt x (by simp[b])
 have k:∀x∈o,x.block<W.heap.size:=λx b=>by simpa using c.lt x (by simp[b])
 refine((xU DF St (λd L q p v r h=>SH d L q p v r h) (AU S B)).law PX (N0 G) (T.append D)).mono λe V ⟨he,s⟩=>?_;subst he
 exact⟨_,rfl,Hs (pa:=z++(o)) (pv:=[]) c (λ_ _ _=>trodAll_mk1 (shut_bool Tryz.underlying4 _)) (λsp l=>by
   exact trodAll_cons_mk (WideElems.Trod_stays Tryz.laidOut (by kernel_rfl) (Xt (by kernel_rfl)) A (λx b=>s.same (i x b)) (λx b=>l x (by simp[b]))) (trodAll_mk1 (WideElems.Trod_stays Tryz.laidOut (by kernel_rfl) (Xt (by kernel_rfl)) h1 (λx b=>s.same (k x b)) (λx b=>l x (by simp[b]))))) (λ_ _=>rfl) aa4
  s (ok_one (by kernel_rfl) rfl (okWide_bool_mk Tryz.underlying4 _))⟩
def kf1:Rows.kernelAcceptsRow.wf (OpenSpec.ofChange Rows.kernelAcceptsSpec)=true:=by kernel_rfl
def kf2:laidOutB Tryz.prog=true:=by kernel_rfl
def kf3:mapsRowed Tryz.prog=true:=by kernel_rfl
def kf4:Tryz.f6.params.all (Tryz.prog.readableRec ·)=true:=by kernel_rfl
def kf5:namedTie Tryz.prog Rows.kernelAcceptsRow.named Rows.kernelAcceptsSpec.vars=true:=by kernel_rfl
def kf6:(Rows.kernelAcceptsRow.stops==[])=true:=by kernel_rfl
def kf7:(Tryz.prog.stops==[])=true:=by kernel_rfl
def kf8:(Rows.kernelAcceptsRow.knobs==[])=true:=by kernel_rfl
def kf9:(Tryz.prog.stopKnobs==[])=true:=by kernel_rfl
def aca:(Rows.kernelAcceptsRow.inPlace==Tryz.prog.inPlace 6)=true:=by kernel_rfl
def abA:(Rows.kernelAcceptsRow.unfollowed==Tryz.prog.unfollowed 6)=true:=by kernel_rfl
def abJ:(Rows.kernelAcceptsRow.recurses==Tryz.prog.recurses 6)=true:=by kernel_rfl
def abE:(Rows.kernelAcceptsRow.named==Tryz.prog.varsNamed 6)=true:=by kernel_rfl
def ab7:(Rows.kernelAcceptsRow.maps==(Tryz.f6.params.toList++Rows.kernelAcceptsSpec.plain.varTypes Tryz.prog).any (Tryz.prog.mapsRec ·))=true:=by kernel_rfl
def abu:(Rows.kernelAcceptsRow.ifaces==(Tryz.f6.params.toList++Rows.kernelAcceptsSpec.plain.varTypes Tryz.prog).any (Tryz.prog.ifacesRec ·))=true:=by kernel_rfl
def abX:(Rows.kernelAcceptsRow.mapsOut==Tryz.prog.mapsAmong Tryz.f6.resultTypes.toList)=true:=by kernel_rfl
def ab4:(Rows.kernelAcceptsRow.loops==(Tryz.f6.params.toList++Rows.kernelAcceptsSpec.plain.varTypes Tryz.prog).any (Tryz.prog.loopsFrom ·))=true:=by kernel_rfl
def abF:(Rows.kernelAcceptsRow.wideKeys==(Tryz.f6.params.toList++Rows.kernelAcceptsSpec.plain.varTypes Tryz.prog++Tryz.f6.resultTypes.toList).any (Tryz.prog.wideKeysFrom ·))=true:=by kernel_rfl
def ab5:Rows.kernelAcceptsSpec.vars.all (Tryz.prog.varReadable ·)=true:=by kernel_rfl
def abV:(Tryz.f6.resultTypes.all (λt=>Tryz.prog.readableRec t&&decide (t<Tryz.prog.types.size)))=true:=by kernel_rfl
def abw:(Rows.kernelAcceptsRow.ifacesOut==Tryz.f6.resultTypes.toList.any (Tryz.prog.ifacesRec ·))=true:=by kernel_rfl
def acb:(Rows.kernelAcceptsRow.loopsOut==Tryz.f6.resultTypes.toList.any (Tryz.prog.loopsFrom ·))=true:=by kernel_rfl
def abN:(Rows.kernelAcceptsRow.plainKeys==Tryz.prog.plainKeys)=true:=by kernel_rfl
def abZ:Rows.kernelAcceptsRow.shortTexts.isNone=true:=by kernel_rfl
def abR:Tryz.prog.stopsHeard=true:=by kernel_rfl
def abK:Tryz.prog.mayEnter=true:=by kernel_rfl
def abv:(Rows.kernelAcceptsRow.lifted==Tryz.prog.liftsFinal)=true:=by kernel_rfl
def abB:(Tryz.prog.make==some Rows.kernelAcceptsRow.make)=true:=by kernel_rfl
def ab':(Rows.kernelAcceptsRow.pinned==Rows.kernelAcceptsRow.pinnedBy)=true:=by kernel_rfl
def abT:(Rows.kernelAcceptsRow.veiled==(Tryz.f6.params.toList++Rows.kernelAcceptsSpec.plain.varTypes Tryz.prog++Tryz.f6.resultTypes.toList).any (Tryz.prog.veiledRec ·))=true:=by kernel_rfl
def ab8:Rows.kernelAcceptsRow.veiledFits Tryz.prog Tryz.f6.params.toList (Tryz.f6.params.toList++Rows.kernelAcceptsSpec.plain.varTypes Tryz.prog++Tryz.f6.resultTypes.toList)=true:=by kernel_rfl
set_option maxRecDepth 100000 in
def We:joinedFacts Tryz.pinned.checked.prog 6 Tryz.f6 Rows.kernelAcceptsSpec Rows.kernelAcceptsRow=true:=by
 show joinedFacts Tryz.prog 6 Tryz.f6 Rows.kernelAcceptsSpec Rows.kernelAcceptsRow=true;unfold joinedFacts;simp only[ft];exact⟨⟨⟨⟨⟨⟨⟨⟨⟨⟨⟨⟨⟨⟨⟨⟨⟨⟨⟨⟨⟨⟨⟨⟨⟨⟨⟨⟨⟨⟨⟨kf1,kf2⟩,kf3⟩,kf4⟩,kf5⟩,kf6⟩,kf7⟩,kf8⟩,kf9⟩,aca⟩,abA⟩,abJ⟩,abE⟩,ab7⟩,abu⟩,abX⟩,ab4⟩,abF⟩,ab5⟩,abV⟩,abw⟩,acb⟩,abN⟩,abZ⟩,abR⟩,abK⟩,abv⟩,abB⟩,(by kernel_rfl)⟩,ab'⟩,abT⟩,ab8⟩
def QW:Tryz.pinned.checked.prog.funcNamed Rows.kernelAcceptsRow.func=some 6:=by kernel_rfl
def L7:Func.isInstance Tryz.pinned.checked.prog Tryz.f6 Rows.kernelAcceptsRow.origin Rows.kernelAcceptsRow.targs:=Xt (by kernel_rfl)
def N2:Func.isWrapper Tryz.pinned.checked.prog Tryz.f6 Rows.kernelAcceptsRow.wrapper Rows.kernelAcceptsRow.mainSum:=by unfold Func.isWrapper;first|(rw[cO abl];kernel_rfl)|(rw[cK abl];exact⟨rfl,rfl⟩)
def Ag:Rows.KernelAcceptsSaid:=
 OpenClaim.holds_of_wide 6 Tryz.f6 rfl rfl rfl rfl rfl rfl rfl ⟨rfl,rfl,rfl,rfl,rfl⟩ rfl rfl rfl rfl rfl QW Tryz.func6 We L7 N2
  (λos started H enc _=>zj os started H enc)
def cf1:OpenClaim.wfByText (OpenSpec.ofChange Rows.kernelAcceptsSpec) Rows.kernelAcceptsRow=true:=by kernel_rfl
def cf2:Tryz.pinned.checked.prog.mainIs=some ((true, "59ad9e541940327f0abf053d023a0e4aabf9243c78fc631f5a31c7691f80561a").fst,(true, "59ad9e541940327f0abf053d023a0e4aabf9243c78fc631f5a31c7691f80561a").snd.toList):=by kernel_rfl
def cf3:false=Rows.kernelAcceptsRow.goesBy Tryz.pinned.checked.prog:=by kernel_rfl
def cf4:Tryz.prog.funcNamed "proofprograms/proofprogramslaw11.KernelAccepts" =some 6:=by kernel_rfl
def cf5:([22,46].all λu=>!Tryz.prog.wantsStandIn u)=true:=by kernel_rfl
theorem kernelAccepts_card:Rows.KernelAcceptsCardSaid:=
 Claim7.holds_tied_plain_at .later [] [.data,.data,.data] true (true, "59ad9e541940327f0abf053d023a0e4aabf9243c78fc631f5a31c7691f80561a") false
  Ag (λ_ h=>by cases h) cf1 (λ_ h=>by cases h) kernelAccepts_row_tie rfl ⟨rfl,rfl⟩ cf2 rfl
  (λf fn hf hfn=>by
   obtain rfl:f=6:=gh (cf4.symm.trans hf)|>.symm;obtain rfl:fn=Tryz.f6:=(gh (Tryz.func6.symm.trans hfn)).symm
   exact⟨by kernel_rfl,λj t ht=>by
    rw[Tryz.params6] at ht
    have hm:t∈[22,46]:=by simpa using Sx ht
    exact(show Tryz.prog.wantsStandIn t=false by simpa using j7.1 cf5 t hm)⟩)
  cf3
#print axioms kernelAccepts_card
end Go.Proofs.YtobcafblgapgfaaGreatDoor
