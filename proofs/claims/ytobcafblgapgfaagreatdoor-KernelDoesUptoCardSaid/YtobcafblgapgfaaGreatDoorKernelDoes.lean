/- What is proved: KernelDoes in its second form: for all arguments of bulk at most 1048576 together the law returns true, and they read behind the call as before. Conditions: that bound, as the statement has it, and the three listed tables, which the card ties to the program's text. -/
import Derived.Deep.DeepHandedRow
import Derived.Deep.DeepWitnessRowRef
import Derived.JoinedCond
import Derived.Test.YtobcafblgapgfaaGreatDoorRows
import Derived.Test.YtobcafblgapgfaaGreatDoorCards
import Derived.Test.YtobcafblgapgfaaGreatDoorTie
import Derived.Test.YtobcafblgapgfaaGreatDoorQD1
import Derived.Test.YtobcafblgapgfaaGreatDoorPD3
import Derived.Test.YtobcafblgapgfaaGreatDoorRD1
set_option linter.all false
namespace Go.Proofs.YtobcafblgapgfaaGreatDoor
open Go Go.ke Go.fB Go.ChangeShapes Go.WideShapes Go.ChangeAt Go.RowKit
def Tryz.own:ownKnob Tryz.prog.godebug=none:=by kernel_rfl
def Tryz.laidOut:laidOutB Tryz.prog=true:=by kernel_rfl
def LU(x:ef):List Value:=[.bool x.acV,.bool x.typed,.int .i64 x.c9,.int .i64 x.dV,.int .i64 x.acT,.int .i64 x.s8,.int .i64 x.vars,.int .i64 x.acZ]
def Oh:List.flatMap (λx=>ef.cs x) oh=(oh.flatMap LU).map AV.sc:=by kernel_rfl
def DF:dx:=λg=>if g=0 then some (AV.agg (List.map (λn=>AV.sc (Value.int .u8 n)) kK))else if g=1 then some (AV.agg ((oh.flatMap LU).map AV.sc))else if g=2 then some (AV.agg (List.map (λn=>AV.sc (Value.int .i64 n)) pZ))else none
def PX:¬∀g,DF g=none:=λh=>by have:=h 0;simp[DF] at this
def St:pE DF:=⟨rfl,by rw[Oh];rfl,rfl⟩
def N0{W:World}(h:laidMetH Tryz.prog Rows.kernelDoesUptoRow.laid W):∀g x,DF g=some x->fF (r6 W) (λ_=>0) 0 (.lG x) (.pointer (some ⟨g,0,none⟩)):=by
 have h1:=(laidMetH_iff.1 h).1;intro g x hx;unfold DF at hx
 split at hx
 ·rename_i hg;subst hg;cases hx;refine MD h1 (name:= "math/bits.deBruijn32tab") (k:=.u8) (t:=222) (e:=5) (n:=32) (aah.2 ⟨?_,by kernel_rfl⟩) (by kernel_rfl) (by kernel_rfl) (by kernel_rfl) (by kernel_rfl) (by kernel_rfl) (by kernel_rfl);rw[show(Go.Lib.tabData IntKind.u8 kK:DataW Unit)=Rows.laid_math_bits_deBruijn32tab by kernel_rfl];exact .head _
 ·split at hx
  ·rename_i hg;subst hg;cases hx;refine R5 h1 (name:= "proofprograms/tree.rules") (L:=oh) (f:=LU) (N:=8) (t:=258) (e:=238) (by decide) (aah.2 ⟨?_,by kernel_rfl⟩) (by kernel_rfl) (by kernel_rfl) (by kernel_rfl) Tryz.underlying238 ?_ (by kernel_rfl) rfl (λx _=>rfl) ?_
   ·rw[show(DataW.agg (oh.map λx=>.agg ((LU x).map SJ)):DataW Unit)=Rows.laid_proofprograms_tree_rules by kernel_rfl];exact .tail _ (.head _)
   ·intro i f hi
    match i,hi with
    |0,hi=>simp at hi;subst hi;exact⟨.inl (by kernel_rfl),rfl,by kernel_rfl⟩
    |1,hi=>simp at hi;subst hi;exact⟨.inl (by kernel_rfl),rfl,by kernel_rfl⟩
    |2,hi=>simp at hi;subst hi;exact⟨.inr ⟨.i64,by kernel_rfl⟩,rfl,by kernel_rfl⟩
    |3,hi=>simp at hi;subst hi;exact⟨.inr ⟨.i64,by kernel_rfl⟩,rfl,by kernel_rfl⟩
    |4,hi=>simp at hi;subst hi;exact⟨.inr ⟨.i64,by kernel_rfl⟩,rfl,by kernel_rfl⟩
    |5,hi=>simp at hi;subst hi;exact⟨.inr ⟨.i64,by kernel_rfl⟩,rfl,by kernel_rfl⟩
    |6,hi=>simp at hi;subst hi;exact⟨.inr ⟨.i64,by kernel_rfl⟩,rfl,by kernel_rfl⟩
    |7,hi=>simp at hi;subst hi;exact⟨.inr ⟨.i64,by kernel_rfl⟩,rfl,by kernel_rfl⟩
    |i+8,hi=>simp at hi
   ·intro x _ v hv;simp only[LU,j0,tw,TI] at hv;rcases hv with rfl|rfl|rfl|rfl|rfl|rfl|rfl|rfl
    ·exact .inl ⟨_,rfl⟩
    ·exact .inl ⟨_,rfl⟩
    all_goals exact .inr ⟨_,_,rfl⟩
  ·split at hx
   ·rename_i hg;subst hg;cases hx;refine MD h1 (name:= "proofprograms/tree.arities") (k:=.i64) (t:=287) (e:=3) (n:=14) (aah.2 ⟨?_,by kernel_rfl⟩) (by kernel_rfl) (by kernel_rfl) (by kernel_rfl) (by kernel_rfl) (by kernel_rfl) (by kernel_rfl);rw[show(Go.Lib.tabData IntKind.i64 pZ:DataW Unit)=Rows.laid_proofprograms_tree_arities by kernel_rfl];exact .tail _ (.tail _ (.head _))
   ·cases hx
def SC(os:Os)(args:Array Value):laidMetH Tryz.prog Rows.kernelDoesUptoRow.laid ((World.doorLaid Tryz.prog 400 os).forCall (λ_ _=>0) ⟨#[],args,[]⟩).memory:=
 laidMetH_of_parts3 (fuel:=8) (laidMet_of_run' 8 (by kernel_rfl) (by kernel_rfl)) (by kernel_rfl) (by kernel_rfl)
def reads(os:Os){H:Type}(enc:TypeId×Value->H):∃places,DataW.whole enc Tryz.prog ((World.doorLaid Tryz.prog 400 os).forCall (λ_ _=>0) ⟨#[],#[.slice none 0 0,.slice none 0 0,.agg #[.slice none 0 0,.slice none 0 0],.agg #[.int .i64 0,.int .i64 0,.int .i64 0,.slice none 0 0,.slice none 0 0,.slice none 0 0,.slice none 0 0]],[]⟩).memory Tryz.f3.params.toList Rows.kernelDoesSpec.vars false (#[.slice none 0 0,.slice none 0 0,.agg #[.slice none 0 0,.slice none 0 0],.agg #[.int .i64 0,.int .i64 0,.int .i64 0,.slice none 0 0,.slice none 0 0,.slice none 0 0,.slice none 0 0]]:Array Value).toList 8=some ([.nil,.nil,.agg [.nil,.nil],.agg [.lit (.int .i64 0),.lit (.int .i64 0),.agg [.lit (.int .i64 0),.nil],.nil,.nil,.nil]],[],places):=
 ⟨[],by kernel_rfl⟩
set_option maxRecDepth 100000 in
def adb(os:Os)(started:os.Started)(H:Type)(enc:TypeId×Value->H)(F:Stop.Interp):ReturnsInHanded {} Tryz.checked os 3 .any ((Rows.OpenSpec.upto Rows.kernelDoesSpec).preRow enc Tryz.prog Tryz.f3 Rows.kernelDoesUptoRow.domain false Rows.kernelDoesUptoRow.laid) (((Rows.OpenSpec.upto Rows.kernelDoesSpec).at F).post enc Tryz.prog Tryz.f3 false true false false):=by
 obtain⟨places,a⟩:=reads os enc
 refine returnsInHanded_of_row (C:=Tryz.checked) (s:=Rows.OpenSpec.upto Rows.kernelDoesSpec) Tryz.own started (by kernel_rfl) Tryz.func3
  (witness_row_atRef (enc:=enc) (C:=Tryz.checked) false (World.doorLaid Tryz.prog 400 os) #[.slice none 0 0,.slice none 0 0,.agg #[.slice none 0 0,.slice none 0 0],.agg #[.int .i64 0,.int .i64 0,.int .i64 0,.slice none 0 0,.slice none 0 0,.slice none 0 0,.slice none 0 0]] rfl (by kernel_rfl) (by kernel_rfl) (by kernel_rfl)
   (OpenSpec.preRow_of_cond 8 a (by kernel_rfl) (λk T=>by cases T;kernel_rfl) (by kernel_rfl) (SC os _))) ?_
 intro W base args U gs before g K _ i _ V _ _;have b:∀(j:Nat) t v,Tryz.f3.params[j]?=some t->args[j]?=some v->Value.okWide Tryz.prog W .any base t v:=g;have c:=K;obtain⟨p,q,B,X,rfl,Y,Z⟩:=K;have M:DataW.TrodAll enc Tryz.prog W 0 (λ_=>true) true Tryz.f3.params.toList args.toList U p:=B;rw[Tryz.params3] at M b;obtain⟨v0,aa,d0,ab,N,q0,D,rfl,rfl,O,r0⟩:=trodAll_cons M;obtain⟨v1,ad,d1,ae,P,q1,rfl,rfl,rfl,h1,r1⟩:=trodAll_cons r0;obtain⟨v2,af,d2,ah,E,q2,rfl,rfl,rfl,G,r2⟩:=trodAll_cons r1;obtain⟨v3,ai,d3,ak,I,q3,rfl,rfl,rfl,J,r3⟩:=trodAll_cons r2;obtain⟨rfl,rfl,rfl⟩:=trodAll_nil r3
 obtain rfl:args=#[v0,v1,v2,v3]:=by cases args;simp_all
 obtain⟨rfl,rfl⟩:=trodVars_none X;obtain⟨x0,k0⟩:=Rc Tryz.underlying22 Tryz.underlying3 (by kernel_rfl) (b 0 22 v0 rfl rfl) O;obtain⟨x1,k1,n1⟩:=adG (b 1 23 v1 rfl rfl) h1;obtain⟨m,g2⟩:=G;obtain⟨Q,m2,A⟩:=adH m _ _ g2
 try dsimp only at A
 have k2:=TV Tryz.underlying26 (b 2 26 v2 rfl rfl) (ad0 Q) m2;rw[Sq.fo,<-Sq.fp] at k2;have G:DataW.Trod enc Tryz.prog W 0 (λ_=>true) true 26 v2 d2 E:=⟨m,g2⟩;obtain⟨n,g3⟩:=J;obtain⟨R,m3⟩:=adL n _ _ g3;have S:=TV Tryz.underlying32 (b 3 32 v3 rfl rfl) (adQ R) m3;rw[Pf.fo,<-Pf.fp] at S;have J:DataW.Trod enc Tryz.prog W 0 (λ_=>true) true 32 v3 d3 I:=⟨n,g3⟩;have l:=Xt (i _ rfl);simp only[wT,Rows.uptoBulkAll] at l;simp only[wT] at c
 have o:∀x∈N,x.block<W.heap.size:=λx a=>by simpa using c.lt x (by simp[a])
 have u:∀x∈P,x.block<W.heap.size:=λx a=>by simpa using c.lt x (by simp[a])
 have w:∀x∈E,x.block<W.heap.size:=λx a=>by simpa using c.lt x (by simp[a])
 have y:∀x∈I,x.block<W.heap.size:=λx a=>by simpa using c.lt x (by simp[a])
 refine((ac_ DF St (λd L q p r h=>adD d L q p r h) (adh x0 x1 Q R VW (by have:=A.2.1;omega) (by have:=A.1;omega) (λt ht=>by have:=A.2.2 t ht;omega))).law PX (N0 V) (k0.append (k1.append (k2.append S)))).mono λe W' ⟨he,z⟩=>?_;subst he
 exact⟨_,rfl,Hs (pa:=N++(P++(E++(I)))) (pv:=[]) c (λ_ _ _=>trodAll_mk1 (shut_bool Tryz.underlying4 _)) (λsp f=>by
   exact trodAll_cons_mk (WideElems.Trod_stays Tryz.laidOut (by kernel_rfl) (Xt (by kernel_rfl)) O (λx a=>z.same (o x a)) (λx a=>f x (by simp[a]))) (trodAll_cons_mk (WideElems.Trod_stays Tryz.laidOut (by kernel_rfl) (Xt (by kernel_rfl)) h1 (λx a=>z.same (u x a)) (λx a=>f x (by simp[a]))) (trodAll_cons_mk (WideElems.Trod_stays Tryz.laidOut (by kernel_rfl) (Xt (by kernel_rfl)) G (λx a=>z.same (w x a)) (λx a=>f x (by simp[a]))) (trodAll_mk1 (WideElems.Trod_stays Tryz.laidOut (by kernel_rfl) (Xt (by kernel_rfl)) J (λx a=>z.same (y x a)) (λx a=>f x (by simp[a]))))))) (λ_ _=>rfl) aa4
  z (ok_one (by kernel_rfl) rfl (okWide_bool_mk Tryz.underlying4 _))⟩
def kf1:Rows.kernelDoesUptoRow.wf (OpenSpec.ofChange Rows.kernelDoesSpec)=true:=by kernel_rfl
def kf2:laidOutB Tryz.prog=true:=by kernel_rfl
def kf3:mapsRowed Tryz.prog=true:=by kernel_rfl
def kf4:Tryz.f3.params.all (Tryz.prog.readableRec ·)=true:=by kernel_rfl
def kf5:namedTie Tryz.prog Rows.kernelDoesUptoRow.named Rows.kernelDoesSpec.vars=true:=by kernel_rfl
def kf6:(Rows.kernelDoesUptoRow.stops==[])=true:=by kernel_rfl
def kf7:(Tryz.prog.stops==[])=true:=by kernel_rfl
def kf8:(Rows.kernelDoesUptoRow.knobs==[])=true:=by kernel_rfl
def kf9:(Tryz.prog.stopKnobs==[])=true:=by kernel_rfl
def aca:(Rows.kernelDoesUptoRow.inPlace==Tryz.prog.inPlace 3)=true:=by kernel_rfl
def abA:(Rows.kernelDoesUptoRow.unfollowed==Tryz.prog.unfollowed 3)=true:=by kernel_rfl
def abJ:(Rows.kernelDoesUptoRow.recurses==Tryz.prog.recurses 3)=true:=by kernel_rfl
def abE:(Rows.kernelDoesUptoRow.named==Tryz.prog.varsNamed 3)=true:=by kernel_rfl
def ab7:(Rows.kernelDoesUptoRow.maps==(Tryz.f3.params.toList++Rows.kernelDoesSpec.plain.varTypes Tryz.prog).any (Tryz.prog.mapsRec ·))=true:=by kernel_rfl
def abu:(Rows.kernelDoesUptoRow.ifaces==(Tryz.f3.params.toList++Rows.kernelDoesSpec.plain.varTypes Tryz.prog).any (Tryz.prog.ifacesRec ·))=true:=by kernel_rfl
def abX:(Rows.kernelDoesUptoRow.mapsOut==Tryz.prog.mapsAmong Tryz.f3.resultTypes.toList)=true:=by kernel_rfl
def ab4:(Rows.kernelDoesUptoRow.loops==(Tryz.f3.params.toList++Rows.kernelDoesSpec.plain.varTypes Tryz.prog).any (Tryz.prog.loopsFrom ·))=true:=by kernel_rfl
def abF:(Rows.kernelDoesUptoRow.wideKeys==(Tryz.f3.params.toList++Rows.kernelDoesSpec.plain.varTypes Tryz.prog++Tryz.f3.resultTypes.toList).any (Tryz.prog.wideKeysFrom ·))=true:=by kernel_rfl
def ab5:Rows.kernelDoesSpec.vars.all (Tryz.prog.varReadable ·)=true:=by kernel_rfl
def abV:(Tryz.f3.resultTypes.all (λt=>Tryz.prog.readableRec t&&decide (t<Tryz.prog.types.size)))=true:=by kernel_rfl
def abw:(Rows.kernelDoesUptoRow.ifacesOut==Tryz.f3.resultTypes.toList.any (Tryz.prog.ifacesRec ·))=true:=by kernel_rfl
def acb:(Rows.kernelDoesUptoRow.loopsOut==Tryz.f3.resultTypes.toList.any (Tryz.prog.loopsFrom ·))=true:=by kernel_rfl
def abN:(Rows.kernelDoesUptoRow.plainKeys==Tryz.prog.plainKeys)=true:=by kernel_rfl
def abZ:Rows.kernelDoesUptoRow.shortTexts.isNone=true:=by kernel_rfl
def abR:Tryz.prog.stopsHeard=true:=by kernel_rfl
def abK:Tryz.prog.mayEnter=true:=by kernel_rfl
def abv:(Rows.kernelDoesUptoRow.lifted==Tryz.prog.liftsFinal)=true:=by kernel_rfl
def abB:(Tryz.prog.make==some Rows.kernelDoesUptoRow.make)=true:=by kernel_rfl
def ab':(Rows.kernelDoesUptoRow.pinned==Rows.kernelDoesUptoRow.pinnedBy)=true:=by kernel_rfl
def abT:(Rows.kernelDoesUptoRow.veiled==(Tryz.f3.params.toList++Rows.kernelDoesSpec.plain.varTypes Tryz.prog++Tryz.f3.resultTypes.toList).any (Tryz.prog.veiledRec ·))=true:=by kernel_rfl
def ab8:Rows.kernelDoesUptoRow.veiledFits Tryz.prog Tryz.f3.params.toList (Tryz.f3.params.toList++Rows.kernelDoesSpec.plain.varTypes Tryz.prog++Tryz.f3.resultTypes.toList)=true:=by kernel_rfl
set_option maxRecDepth 100000 in
def We:joinedFacts Tryz.pinned.checked.prog 3 Tryz.f3 (Rows.OpenSpec.upto Rows.kernelDoesSpec).bare Rows.kernelDoesUptoRow=true:=by
 show joinedFacts Tryz.prog 3 Tryz.f3 Rows.kernelDoesSpec Rows.kernelDoesUptoRow=true;unfold joinedFacts;simp only[ft];exact⟨⟨⟨⟨⟨⟨⟨⟨⟨⟨⟨⟨⟨⟨⟨⟨⟨⟨⟨⟨⟨⟨⟨⟨⟨⟨⟨⟨⟨⟨⟨kf1,kf2⟩,kf3⟩,kf4⟩,kf5⟩,kf6⟩,kf7⟩,kf8⟩,kf9⟩,aca⟩,abA⟩,abJ⟩,abE⟩,ab7⟩,abu⟩,abX⟩,ab4⟩,abF⟩,ab5⟩,abV⟩,abw⟩,acb⟩,abN⟩,abZ⟩,abR⟩,abK⟩,abv⟩,abB⟩,(by kernel_rfl)⟩,ab'⟩,abT⟩,ab8⟩
def QW:Tryz.pinned.checked.prog.funcNamed Rows.kernelDoesUptoRow.func=some 3:=by kernel_rfl
def L7:Func.isInstance Tryz.pinned.checked.prog Tryz.f3 Rows.kernelDoesUptoRow.origin Rows.kernelDoesUptoRow.targs:=Xt (by kernel_rfl)
def N2:Func.isWrapper Tryz.pinned.checked.prog Tryz.f3 Rows.kernelDoesUptoRow.wrapper Rows.kernelDoesUptoRow.mainSum:=by unfold Func.isWrapper;first|(rw[cO abl];kernel_rfl)|(rw[cK abl];exact⟨rfl,rfl⟩)
def adf:Rows.KernelDoesUptoSaid:=
 OpenClaim.holds_of_cond 3 Tryz.f3 rfl rfl rfl rfl rfl rfl rfl ⟨rfl,rfl,rfl,rfl,rfl⟩ rfl rfl rfl rfl rfl QW Tryz.func3 We L7 N2
  (λos started H enc _ F=>by rw[OpenClaim.pre_eq_preRow];exact adb os started H enc F)
def cf1:OpenClaim.wfByText (Rows.OpenSpec.upto Rows.kernelDoesSpec) Rows.kernelDoesUptoRow=true:=by kernel_rfl
def cf2:Tryz.pinned.checked.prog.mainIs=some ((true, "59ad9e541940327f0abf053d023a0e4aabf9243c78fc631f5a31c7691f80561a").fst,(true, "59ad9e541940327f0abf053d023a0e4aabf9243c78fc631f5a31c7691f80561a").snd.toList):=by kernel_rfl
def cf3:false=Rows.kernelDoesUptoRow.goesBy Tryz.pinned.checked.prog:=by kernel_rfl
def cf4:Tryz.prog.funcNamed "proofprograms/proofprogramslaw11.KernelDoes" =some 3:=by kernel_rfl
def cf5:([22,23,26,32].all λu=>!Tryz.prog.wantsStandIn u)=true:=by kernel_rfl
theorem kernelDoes_card:Rows.KernelDoesUptoCardSaid:=
 Claim7.holds_tied_plain_at .later [] [.data,.data,.data] true (true, "59ad9e541940327f0abf053d023a0e4aabf9243c78fc631f5a31c7691f80561a") false
  adf (λ_ h=>by cases h) cf1 (λ_ h=>by cases h) kernelDoesUpto_row_tie rfl ⟨rfl,rfl⟩ cf2 rfl
  (λf fn hf hfn=>by
   obtain rfl:f=3:=gh (cf4.symm.trans hf)|>.symm;obtain rfl:fn=Tryz.f3:=(gh (Tryz.func3.symm.trans hfn)).symm
   exact⟨by kernel_rfl,λj t ht=>by
    rw[Tryz.params3] at ht
    have hm:t∈[22,23,26,32]:=by simpa using Sx ht
    exact(show Tryz.prog.wantsStandIn t=false by simpa using j7.1 cf5 t hm)⟩)
  cf3
#print axioms kernelDoes_card
end Go.Proofs.YtobcafblgapgfaaGreatDoor
