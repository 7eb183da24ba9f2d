/- What is proved: KernelChoice: for every list of numbers the law returns true, and its argument reads behind the call as before. No condition beside the three listed tables, which the card ties to the program's text. -/
import Derived.Test.YtobcafblgapgfaaGreatDoorRows
import Derived.Test.YtobcafblgapgfaaGreatDoorCards
import Derived.Test.YtobcafblgapgfaaGreatDoorTie
import Derived.Test.YtobcafblgapgfaaGreatDoorW2
import Derived.Test.YtobcafblgapgfaaGreatDoorP3
import Derived.Test.YtobcafblgapgfaaGreatDoorL17
set_option linter.all false
namespace Go.Proofs.YtobcafblgapgfaaGreatDoor
open Go Go.ky Go.fg Go.ChangeShapes Go.WideShapes Go.ChangeAt Go.RowKit
def Tryz.own:ownKnob Tryz.prog.godebug=none:=by kernel_rfl
def Tryz.laidOut:laidOutB Tryz.prog=true:=by kernel_rfl
def IJ(x:dV):List Value:=[.bool x.abg,.bool x.typed,.int .i64 x.cU,.int .i64 x.ef,.int .i64 x.abe,.int .i64 x.pt,.int .i64 x.vars,.int .i64 x.abk]
def Jw:List.flatMap (λx=>dV.cs x) mv=(mv.flatMap IJ).map AV.sc:=by kernel_rfl
def An:dA:=λg=>if g=0 then some (AV.agg (List.map (λn=>AV.sc (Value.int .u8 n)) jZ))else if g=1 then some (AV.agg ((mv.flatMap IJ).map AV.sc))else if g=2 then some (AV.agg (List.map (λn=>AV.sc (Value.int .i64 n)) nK))else none
def M1:¬∀g,An g=none:=λh=>by have:=h 0;simp[An] at this
def Pg:nb An:=⟨rfl,by rw[Jw];rfl,rfl⟩
def KB{W:World}(h:laidMetH Tryz.prog Rows.kernelChoiceRow.laid W):∀g x,An g=some x->fB (qN W) (λ_=>0) 0 (.kN x) (.pointer (some ⟨g,0,none⟩)):=by
 have h1:=(laidMetH_iff.1 h).1;intro g x hx;unfold An at hx
 split at hx
 ·rename_i hg;subst hg;cases hx;refine I2 h1 (name:= "math/bits.deBruijn32tab") (k:=.u8) (t:=222) (e:=5) (n:=32) (XI.2 ⟨?_,by kernel_rfl⟩) (by kernel_rfl) (by kernel_rfl) (by kernel_rfl) (by kernel_rfl) (by kernel_rfl) (by kernel_rfl);rw[show(Go.Lib.tabData IntKind.u8 jZ:DataW Unit)=Rows.laid_math_bits_deBruijn32tab by kernel_rfl];exact .head _
 ·split at hx
  ·rename_i hg;subst hg;cases hx;refine Nj h1 (name:= "proofprograms/tree.rules") (L:=mv) (f:=IJ) (N:=8) (t:=258) (e:=238) (by decide) (XI.2 ⟨?_,by kernel_rfl⟩) (by kernel_rfl) (by kernel_rfl) (by kernel_rfl) Tryz.underlying238 ?_ (by kernel_rfl) rfl (λx _=>rfl) ?_
   ·rw[show(DataW.agg (mv.map λx=>.agg ((IJ x).map Py)):DataW Unit)=Rows.laid_proofprograms_tree_rules by kernel_rfl];exact .tail _ (.head _)
   ·intro i f hi
    match i,hi with
    |0,hi=>simp at hi;subst hi;exact⟨.inl (by kernel_rfl),rfl,by kernel_rfl⟩
    |1,hi=>simp at hi;subst hi;exact⟨.inl (by kernel_rfl),rfl,by kernel_rfl⟩
    |2,hi=>simp at hi;subst hi;exact⟨.inr ⟨.i64,by kernel_rfl⟩,rfl,by kernel_rfl⟩
    |3,hi=>simp at hi;subst hi;exact⟨.inr ⟨.i64,by kernel_rfl⟩,rfl,by kernel_rfl⟩
    |4,hi=>simp at hi;subst hi;exact⟨.inr ⟨.i64,by kernel_rfl⟩,rfl,by kernel_rfl⟩
    |5,hi=>simp at hi;subst hi;exact⟨.inr ⟨.i64,by kernel_rfl⟩,rfl,by kernel_rfl⟩
    |6,hi=>simp at hi;subst hi;exact⟨.inr ⟨.i64,by kernel_rfl⟩,rfl,by kernel_rfl⟩
    |7,hi=>simp at hi;subst hi;exact⟨.inr ⟨.i64,by kernel_rfl⟩,rfl,by kernel_rfl⟩
    |i+8,hi=>simp at hi
   ·intro x _ v hv;simp only[IJ,jz,qc,Oz] at hv;rcases hv with rfl|rfl|rfl|rfl|rfl|rfl|rfl|rfl
    ·exact .inl ⟨_,rfl⟩
    ·exact .inl ⟨_,rfl⟩
    all_goals exact .inr ⟨_,_,rfl⟩
  ·split at hx
   ·rename_i hg;subst hg;cases hx;refine I2 h1 (name:= "proofprograms/tree.arities") (k:=.i64) (t:=287) (e:=3) (n:=14) (XI.2 ⟨?_,by kernel_rfl⟩) (by kernel_rfl) (by kernel_rfl) (by kernel_rfl) (by kernel_rfl) (by kernel_rfl) (by kernel_rfl);rw[show(Go.Lib.tabData IntKind.i64 nK:DataW Unit)=Rows.laid_proofprograms_tree_arities by kernel_rfl];exact .tail _ (.tail _ (.head _))
   ·cases hx
def Px(os:Os)(args:Array Value):laidMetH Tryz.prog Rows.kernelChoiceRow.laid ((World.doorLaid Tryz.prog 400 os).forCall (λ_ _=>0) ⟨#[],args,[]⟩).memory:=
 laidMetH_of_parts3 (fuel:=8) (laidMet_of_run' 8 (by kernel_rfl) (by kernel_rfl)) (by kernel_rfl) (by kernel_rfl)
set_option maxRecDepth 100000 in
def xi(os:Os)(started:os.Started)(H:Type)(enc:TypeId×Value->H):ReturnsInHanded {} Tryz.checked os 11 .any (λw args=>(Rows.kernelChoiceSpec.pre enc Tryz.prog Tryz.f11 [] false w args/\laidMetH Tryz.prog Rows.kernelChoiceRow.laid w)/\sizedMet enc Tryz.prog Tryz.f11 (OpenSpec.ofChange Rows.kernelChoiceSpec) false w args)
   (Rows.kernelChoiceSpec.post enc Tryz.prog Tryz.f11 false true false false):=by
 refine returnsInHanded_of_change_and (C:=Tryz.checked) (X:=λw _=>laidMetH Tryz.prog Rows.kernelChoiceRow.laid w) (λ_ _ _ u h=>h.of_heap u) Tryz.own started (by kernel_rfl) Tryz.func11
  (ChangeSpec.witness_shaped (enc:=enc) (C:=Tryz.checked) (os:=os) (X:=λw _=>laidMetH Tryz.prog Rows.kernelChoiceRow.laid w) false (World.doorLaid Tryz.prog 400 os) #[.slice none 0 0] 8 rfl (World.shaped_of_RefB (by kernel_rfl) (by kernel_rfl)) (by kernel_rfl) (by kernel_rfl) (by kernel_rfl) (Px os _)) ?_
 intro W base args y gs before b m _ _ z _;have a:∀(j:Nat) t v,Tryz.f11.params[j]?=some t->args[j]?=some v->Value.okWide Tryz.prog W .any base t v:=b;have c:=m;obtain⟨p,q,g,A,rfl,B,D⟩:=m;have n:DataW.TrodAll enc Tryz.prog W 0 (λ_=>true) true Tryz.f11.params.toList args.toList y p:=g;rw[Tryz.params11] at n a;obtain⟨v0,E,d0,F,o,q0,i,rfl,rfl,r,G⟩:=trodAll_cons n;obtain⟨rfl,rfl,rfl⟩:=trodAll_nil G
 obtain rfl:args=#[v0]:=by cases args;simp_all
 obtain⟨rfl,rfl⟩:=trodVars_none A;obtain⟨L,d⟩:=Nz Tryz.underlying22 Tryz.underlying3 (by kernel_rfl) (a 0 22 v0 rfl rfl) r;simp only[xm] at c
 have k:∀x∈o,x.block<W.heap.size:=λx f=>by simpa using c.lt x f
 refine((vK An Pg (AS L)).law M1 (KB z) d).mono λe I ⟨he,s⟩=>?_;subst he
 exact⟨_,rfl,Eh (pa:=o) (pv:=[]) c (λ_ _ _=>trodAll_mk1 (shut_bool Tryz.underlying4 _)) (λsp l=>by
   exact trodAll_mk1 (WideElems.Trod_stays Tryz.laidOut (by kernel_rfl) (XM (by kernel_rfl)) r (λx f=>s.same (k x f)) (λx f=>l x (by simpa using f)))) (λ_ _=>rfl) (by simp)
  s (ok_one (by kernel_rfl) rfl (okWide_bool_mk Tryz.underlying4 _))⟩
def kf1:Rows.kernelChoiceRow.wf (OpenSpec.ofChange Rows.kernelChoiceSpec)=true:=by kernel_rfl
def kf2:laidOutB Tryz.prog=true:=by kernel_rfl
def kf3:mapsRowed Tryz.prog=true:=by kernel_rfl
def kf4:Tryz.f11.params.all (Tryz.prog.readableRec ·)=true:=by kernel_rfl
def kf5:namedTie Tryz.prog Rows.kernelChoiceRow.named Rows.kernelChoiceSpec.vars=true:=by kernel_rfl
def kf6:(Rows.kernelChoiceRow.stops==[])=true:=by kernel_rfl
def kf7:(Tryz.prog.stops==[])=true:=by kernel_rfl
def kf8:(Rows.kernelChoiceRow.knobs==[])=true:=by kernel_rfl
def kf9:(Tryz.prog.stopKnobs==[])=true:=by kernel_rfl
def Zd:(Rows.kernelChoiceRow.inPlace==Tryz.prog.inPlace 11)=true:=by kernel_rfl
def Zi:(Rows.kernelChoiceRow.unfollowed==Tryz.prog.unfollowed 11)=true:=by kernel_rfl
def aai:(Rows.kernelChoiceRow.recurses==Tryz.prog.recurses 11)=true:=by kernel_rfl
def aad:(Rows.kernelChoiceRow.named==Tryz.prog.varsNamed 11)=true:=by kernel_rfl
def ZC:(Rows.kernelChoiceRow.maps==(Tryz.f11.params.toList++Rows.kernelChoiceSpec.plain.varTypes Tryz.prog).any (Tryz.prog.mapsRec ·))=true:=by kernel_rfl
def ZB:(Rows.kernelChoiceRow.ifaces==(Tryz.f11.params.toList++Rows.kernelChoiceSpec.plain.varTypes Tryz.prog).any (Tryz.prog.ifacesRec ·))=true:=by kernel_rfl
def ZW:(Rows.kernelChoiceRow.mapsOut==Tryz.prog.mapsAmong Tryz.f11.resultTypes.toList)=true:=by kernel_rfl
def Za:(Rows.kernelChoiceRow.loops==(Tryz.f11.params.toList++Rows.kernelChoiceSpec.plain.varTypes Tryz.prog).any (Tryz.prog.loopsFrom ·))=true:=by kernel_rfl
def ZM:(Rows.kernelChoiceRow.wideKeys==(Tryz.f11.params.toList++Rows.kernelChoiceSpec.plain.varTypes Tryz.prog++Tryz.f11.resultTypes.toList).any (Tryz.prog.wideKeysFrom ·))=true:=by kernel_rfl
def Zo:Rows.kernelChoiceSpec.vars.all (Tryz.prog.varReadable ·)=true:=by kernel_rfl
def Z_:(Tryz.f11.resultTypes.all (λt=>Tryz.prog.readableRec t&&decide (t<Tryz.prog.types.size)))=true:=by kernel_rfl
def aak:(Rows.kernelChoiceRow.ifacesOut==Tryz.f11.resultTypes.toList.any (Tryz.prog.ifacesRec ·))=true:=by kernel_rfl
def Zu:(Rows.kernelChoiceRow.loopsOut==Tryz.f11.resultTypes.toList.any (Tryz.prog.loopsFrom ·))=true:=by kernel_rfl
def Z4:(Rows.kernelChoiceRow.plainKeys==Tryz.prog.plainKeys)=true:=by kernel_rfl
def Zb:Rows.kernelChoiceRow.shortTexts.isNone=true:=by kernel_rfl
def Z8:Tryz.prog.stopsHeard=true:=by kernel_rfl
def aag:Tryz.prog.mayEnter=true:=by kernel_rfl
def aah:(Rows.kernelChoiceRow.lifted==Tryz.prog.liftsFinal)=true:=by kernel_rfl
def Z':(Tryz.prog.make==some Rows.kernelChoiceRow.make)=true:=by kernel_rfl
def Zl:(Rows.kernelChoiceRow.pinned==Rows.kernelChoiceRow.pinnedBy)=true:=by kernel_rfl
def Zp:(Rows.kernelChoiceRow.veiled==(Tryz.f11.params.toList++Rows.kernelChoiceSpec.plain.varTypes Tryz.prog++Tryz.f11.resultTypes.toList).any (Tryz.prog.veiledRec ·))=true:=by kernel_rfl
def Zg:Rows.kernelChoiceRow.veiledFits Tryz.prog Tryz.f11.params.toList (Tryz.f11.params.toList++Rows.kernelChoiceSpec.plain.varTypes Tryz.prog++Tryz.f11.resultTypes.toList)=true:=by kernel_rfl
set_option maxRecDepth 100000 in
def Su:joinedFacts Tryz.pinned.checked.prog 11 Tryz.f11 Rows.kernelChoiceSpec Rows.kernelChoiceRow=true:=by
 show joinedFacts Tryz.prog 11 Tryz.f11 Rows.kernelChoiceSpec Rows.kernelChoiceRow=true;unfold joinedFacts;simp only[eJ];exact⟨⟨⟨⟨⟨⟨⟨⟨⟨⟨⟨⟨⟨⟨⟨⟨⟨⟨⟨⟨⟨⟨⟨⟨⟨⟨⟨⟨⟨⟨⟨kf1,kf2⟩,kf3⟩,kf4⟩,kf5⟩,kf6⟩,kf7⟩,kf8⟩,kf9⟩,Zd⟩,Zi⟩,aai⟩,aad⟩,ZC⟩,ZB⟩,ZW⟩,Za⟩,ZM⟩,Zo⟩,Z_⟩,aak⟩,Zu⟩,Z4⟩,Zb⟩,Z8⟩,aag⟩,aah⟩,Z'⟩,(by kernel_rfl)⟩,Zl⟩,Zp⟩,Zg⟩
def Nd:Tryz.pinned.checked.prog.funcNamed Rows.kernelChoiceRow.func=some 11:=by kernel_rfl
def Ix:Func.isInstance Tryz.pinned.checked.prog Tryz.f11 Rows.kernelChoiceRow.origin Rows.kernelChoiceRow.targs:=XM (by kernel_rfl)
def KN:Func.isWrapper Tryz.pinned.checked.prog Tryz.f11 Rows.kernelChoiceRow.wrapper Rows.kernelChoiceRow.mainSum:=by unfold Func.isWrapper;first|(rw[cG (by decide+kernel)];kernel_rfl)|(rw[cB (by decide+kernel)];exact⟨rfl,rfl⟩)
def ye:Rows.KernelChoiceSaid:=
 OpenClaim.holds_of_wide 11 Tryz.f11 rfl rfl rfl rfl rfl rfl rfl ⟨rfl,rfl,rfl,rfl,rfl⟩ rfl rfl rfl rfl rfl Nd Tryz.func11 Su Ix KN
  (λos started H enc _=>xi os started H enc)
def cf1:OpenClaim.wfByText (OpenSpec.ofChange Rows.kernelChoiceSpec) Rows.kernelChoiceRow=true:=by kernel_rfl
def cf2:Tryz.pinned.checked.prog.mainIs=some ((true, "59ad9e541940327f0abf053d023a0e4aabf9243c78fc631f5a31c7691f80561a").fst,(true, "59ad9e541940327f0abf053d023a0e4aabf9243c78fc631f5a31c7691f80561a").snd.toList):=by kernel_rfl
def cf3:false=Rows.kernelChoiceRow.goesBy Tryz.pinned.checked.prog:=by kernel_rfl
def cf4:Tryz.prog.funcNamed "proofprograms/proofprogramslaw11.KernelChoice" =some 11:=by kernel_rfl
def cf5:([22].all λu=>!Tryz.prog.wantsStandIn u)=true:=by kernel_rfl
theorem kernelChoice_card:Rows.KernelChoiceCardSaid:=
 Claim7.holds_tied_plain_at .later [] [.data,.data,.data] true (true, "59ad9e541940327f0abf053d023a0e4aabf9243c78fc631f5a31c7691f80561a") false
  ye (λ_ h=>by cases h) cf1 (λ_ h=>by cases h) kernelChoice_row_tie rfl ⟨rfl,rfl⟩ cf2 rfl
  (λf fn hf hfn=>by
   obtain rfl:f=11:=gk (cf4.symm.trans hf)|>.symm;obtain rfl:fn=Tryz.f11:=(gk (Tryz.func11.symm.trans hfn)).symm
   exact⟨by kernel_rfl,λj t ht=>by
    rw[Tryz.params11] at ht
    have hm:t∈[22]:=by simpa using P4 ht
    exact(show Tryz.prog.wantsStandIn t=false by simpa using jr.1 cf5 t hm)⟩)
  cf3
#print axioms kernelChoice_card
end Go.Proofs.YtobcafblgapgfaaGreatDoor
