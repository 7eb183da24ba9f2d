/- What is proved: UniformExact: for all arguments the law returns true, and they read behind the call as before. No condition beside the three listed tables, which the card ties to the program's text. -/
import Derived.Test.YtijednbpbbddbaaGreatDoorRows
import Derived.Test.YtijednbpbbddbaaGreatDoorCards
import Derived.Test.YtijednbpbbddbaaGreatDoorTie
import Derived.Test.YtijednbpbbddbaaGreatDoorW3
import Derived.Test.YtijednbpbbddbaaGreatDoorPE3
import Derived.Test.YtijednbpbbddbaaGreatDoorRE1
import Derived.Test.YtijednbpbbddbaaGreatDoorL22
set_option linter.all false
namespace Go.Proofs.YtijednbpbbddbaaGreatDoor
open Go Go.ns Go.ek Go.ChangeShapes Go.WideShapes Go.ChangeAt Go.RowKit
def Tryz.own:ownKnob Tryz.prog.godebug=none:=by kernel_rfl
def Tryz.laidOut:laidOutB Tryz.prog=true:=by kernel_rfl
def EX(x:fj):List Value:=[.bool x.agm,.bool x.typed,.int .i64 x.dc,.int .i64 x.eo,.int .i64 x.agk,.int .i64 x.xe,.int .i64 x.vars,.int .i64 x.agq]
def Hl:List.flatMap (λx=>fj.cs x) mJ=(mJ.flatMap EX).map AV.sc:=by kernel_rfl
def xE:ec:=λg=>if g=0 then some (AV.agg (List.map (λn=>AV.sc (Value.int .u8 n)) kX))else if g=1 then some (AV.agg ((mJ.flatMap EX).map AV.sc))else if g=2 then some (AV.agg (List.map (λn=>AV.sc (Value.int .i64 n)) qj))else none
def Ks:¬∀g,xE g=none:=λh=>by have:=h 0;simp[xE] at this
def MV:rG xE:=⟨rfl,by rw[Hl];rfl,rfl⟩
def GJ{W:World}(h:laidMetH Tryz.prog Rows.uniformExactRow.laid W):∀g x,xE g=some x->ic (vV W) (λ_=>0) 0 (.nt x) (.pointer (some ⟨g,0,none⟩)):=by
 have h1:=(laidMetH_iff.1 h).1;intro g x hx;unfold xE at hx
 split at hx
 ·rename_i hg;subst hg;cases hx;refine Ig h1 (name:= "math/bits.deBruijn32tab") (k:=.u8) (t:=223) (e:=5) (n:=32) (Pk.2 ⟨?_,by kernel_rfl⟩) (by kernel_rfl) (by kernel_rfl) (by kernel_rfl) (by kernel_rfl) (by kernel_rfl) (by kernel_rfl);rw[show(Go.Lib.tabData IntKind.u8 kX:DataW Unit)=Rows.laid_math_bits_deBruijn32tab by kernel_rfl];exact .head _
 ·split at hx
  ·rename_i hg;subst hg;cases hx;refine Se h1 (name:= "proofprograms/tree.rules") (L:=mJ) (f:=EX) (N:=8) (t:=262) (e:=231) (by decide) (Pk.2 ⟨?_,by kernel_rfl⟩) (by kernel_rfl) (by kernel_rfl) (by kernel_rfl) Tryz.underlying231 ?_ (by kernel_rfl) rfl (λx _=>rfl) ?_
   ·rw[show(DataW.agg (mJ.map λx=>.agg ((EX x).map Vu)):DataW Unit)=Rows.laid_proofprograms_tree_rules by kernel_rfl];exact .tail _ (.head _)
   ·intro i f hi
    match i,hi with
    |0,hi=>simp at hi;subst hi;exact⟨.inl (by kernel_rfl),rfl,by kernel_rfl⟩
    |1,hi=>simp at hi;subst hi;exact⟨.inl (by kernel_rfl),rfl,by kernel_rfl⟩
    |2,hi=>simp at hi;subst hi;exact⟨.inr ⟨.i64,by kernel_rfl⟩,rfl,by kernel_rfl⟩
    |3,hi=>simp at hi;subst hi;exact⟨.inr ⟨.i64,by kernel_rfl⟩,rfl,by kernel_rfl⟩
    |4,hi=>simp at hi;subst hi;exact⟨.inr ⟨.i64,by kernel_rfl⟩,rfl,by kernel_rfl⟩
    |5,hi=>simp at hi;subst hi;exact⟨.inr ⟨.i64,by kernel_rfl⟩,rfl,by kernel_rfl⟩
    |6,hi=>simp at hi;subst hi;exact⟨.inr ⟨.i64,by kernel_rfl⟩,rfl,by kernel_rfl⟩
    |7,hi=>simp at hi;subst hi;exact⟨.inr ⟨.i64,by kernel_rfl⟩,rfl,by kernel_rfl⟩
    |i+8,hi=>simp at hi
   ·intro x _ v hv;simp only[EX,iL,pt,mQ] at hv;rcases hv with rfl|rfl|rfl|rfl|rfl|rfl|rfl|rfl
    ·exact .inl ⟨_,rfl⟩
    ·exact .inl ⟨_,rfl⟩
    all_goals exact .inr ⟨_,_,rfl⟩
  ·split at hx
   ·rename_i hg;subst hg;cases hx;refine Ig h1 (name:= "proofprograms/tree.arities") (k:=.i64) (t:=284) (e:=3) (n:=14) (Pk.2 ⟨?_,by kernel_rfl⟩) (by kernel_rfl) (by kernel_rfl) (by kernel_rfl) (by kernel_rfl) (by kernel_rfl) (by kernel_rfl);rw[show(Go.Lib.tabData IntKind.i64 qj:DataW Unit)=Rows.laid_proofprograms_tree_arities by kernel_rfl];exact .tail _ (.tail _ (.head _))
   ·cases hx
def LS(os:Os)(args:Array Value):laidMetH Tryz.prog Rows.uniformExactRow.laid ((World.doorLaid Tryz.prog 400 os).forCall (λ_ _=>0) ⟨#[],args,[]⟩).memory:=
 laidMetH_of_parts3 (fuel:=8) (laidMet_of_run' 8 (by kernel_rfl) (by kernel_rfl)) (by kernel_rfl) (by kernel_rfl)
set_option maxRecDepth 100000 in
def Gb(os:Os)(started:os.Started)(H:Type)(enc:TypeId×Value->H):ReturnsInHanded {} Tryz.checked os 3 .any (λw args=>(Rows.uniformExactSpec.pre enc Tryz.prog Tryz.f3 [] false w args/\laidMetH Tryz.prog Rows.uniformExactRow.laid w)/\sizedMet enc Tryz.prog Tryz.f3 (OpenSpec.ofChange Rows.uniformExactSpec) false w args)
   (Rows.uniformExactSpec.post enc Tryz.prog Tryz.f3 false true false false):=by
 refine returnsInHanded_of_change_and (C:=Tryz.checked) (X:=λw _=>laidMetH Tryz.prog Rows.uniformExactRow.laid w) (λ_ _ _ S h=>h.of_heap S) Tryz.own started (by kernel_rfl) Tryz.func3
  (ChangeSpec.witness_shaped (enc:=enc) (C:=Tryz.checked) (os:=os) (X:=λw _=>laidMetH Tryz.prog Rows.uniformExactRow.laid w) false (World.doorLaid Tryz.prog 400 os) #[.slice none 0 0,.agg #[.int .i64 0,.int .i64 0,.int .i64 0,.slice none 0 0,.slice none 0 0,.slice none 0 0,.slice none 0 0],.agg #[.slice none 0 0,.slice none 0 0],.agg #[.int .i64 0,.int .i64 0,.slice none 0 0,.slice none 0 0,.slice none 0 0],.slice none 0 0] 8 rfl (World.shaped_of_RefB (by kernel_rfl) (by kernel_rfl)) (by kernel_rfl) (by kernel_rfl) (by kernel_rfl) (LS os _)) ?_
 intro W base args T gs before f G _ _ U _;have b:∀(j:Nat) t v,Tryz.f3.params[j]?=some t->args[j]?=some v->Value.okWide Tryz.prog W .any base t v:=f;have c:=G;obtain⟨p,q,u,V,rfl,Y,Z⟩:=G;have I:DataW.TrodAll enc Tryz.prog W 0 (λ_=>true) true Tryz.f3.params.toList args.toList T p:=u;rw[Tryz.params3] at I b;obtain⟨v0,aa,d0,ab,J,q0,y,rfl,rfl,K,r0⟩:=trodAll_cons I;obtain⟨v1,ad,d1,ae,z,q1,rfl,rfl,rfl,A,r1⟩:=trodAll_cons r0;obtain⟨v2,af,d2,ah,B,q2,rfl,rfl,rfl,D,r2⟩:=trodAll_cons r1;obtain⟨v3,ai,d3,ak,E,q3,rfl,rfl,rfl,F,r3⟩:=trodAll_cons r2;obtain⟨v4,an,d4,ao,L,q4,rfl,rfl,rfl,M,r4⟩:=trodAll_cons r3;obtain⟨rfl,rfl,rfl⟩:=trodAll_nil r4
 obtain rfl:args=#[v0,v1,v2,v3,v4]:=by cases args;simp_all
 obtain⟨rfl,rfl⟩:=trodVars_none V;obtain⟨x0,k0⟩:=Rj Tryz.underlying22 Tryz.underlying3 (by kernel_rfl) (b 0 22 v0 rfl rfl) K;obtain⟨i,g1⟩:=A;obtain⟨N,m1⟩:=XX i _ _ g1;have O:=PD Tryz.underlying30 (b 1 30 v1 rfl rfl) (ZJ N) m1;rw[Pf.gW,<-Pf.gx] at O;have A:DataW.Trod enc Tryz.prog W 0 (λ_=>true) true 30 v1 d1 z:=⟨i,g1⟩;obtain⟨k,g2⟩:=D;obtain⟨P,m2⟩:=Y5 k _ _ g2;have k2:=PD Tryz.underlying32 (b 2 32 v2 rfl rfl) (ado P) m2;rw[Sq.gW,<-Sq.gx] at k2;have D:DataW.Trod enc Tryz.prog W 0 (λ_=>true) true 32 v2 d2 B:=⟨k,g2⟩;obtain⟨l,g3⟩:=F;obtain⟨Q,m3⟩:=Po l _ _ g3;have R:=PD Tryz.underlying34 (b 3 34 v3 rfl rfl) (Uh Q) m3;rw[Fm.gW,<-Fm.gx] at R;have F:DataW.Trod enc Tryz.prog W 0 (λ_=>true) true 34 v3 d3 E:=⟨l,g3⟩;obtain⟨x4,k4⟩:=U5 Tryz.underlying35 Tryz.underlying4 (by kernel_rfl) (b 4 35 v4 rfl rfl) M;simp only[zk] at c
 have m:∀x∈J,x.block<W.heap.size:=λx a=>by simpa using c.lt x (by simp[a])
 have n:∀x∈z,x.block<W.heap.size:=λx a=>by simpa using c.lt x (by simp[a])
 have o:∀x∈B,x.block<W.heap.size:=λx a=>by simpa using c.lt x (by simp[a])
 have r:∀x∈E,x.block<W.heap.size:=λx a=>by simpa using c.lt x (by simp[a])
 have s:∀x∈L,x.block<W.heap.size:=λx a=>by simpa using c.lt x (by simp[a])
 refine((FB xE MV (J8 x0 N P Q x4)).law Ks (GJ U) (k0.append (O.append (k2.append (R.append k4))))).mono λe W' ⟨he,g⟩=>?_;subst he
 exact⟨_,rfl,Gr (pa:=J++(z++(B++(E++(L))))) (pv:=[]) c (λ_ _ _=>trodAll_mk1 (shut_bool Tryz.underlying4 _)) (λsp d=>by
   exact trodAll_cons_mk (WideElems.Trod_stays Tryz.laidOut (by kernel_rfl) (M' (by kernel_rfl)) K (λx a=>g.same (m x a)) (λx a=>d x (by simp[a]))) (trodAll_cons_mk (WideElems.Trod_stays Tryz.laidOut (by kernel_rfl) (M' (by kernel_rfl)) A (λx a=>g.same (n x a)) (λx a=>d x (by simp[a]))) (trodAll_cons_mk (WideElems.Trod_stays Tryz.laidOut (by kernel_rfl) (M' (by kernel_rfl)) D (λx a=>g.same (o x a)) (λx a=>d x (by simp[a]))) (trodAll_cons_mk (WideElems.Trod_stays Tryz.laidOut (by kernel_rfl) (M' (by kernel_rfl)) F (λx a=>g.same (r x a)) (λx a=>d x (by simp[a]))) (trodAll_mk1 (WideElems.Trod_stays Tryz.laidOut (by kernel_rfl) (M' (by kernel_rfl)) M (λx a=>g.same (s x a)) (λx a=>d x (by simp[a])))))))) (λ_ _=>rfl) aaB
  g (ok_one (by kernel_rfl) rfl (okWide_bool_mk Tryz.underlying4 _))⟩
def kf1:Rows.uniformExactRow.wf (OpenSpec.ofChange Rows.uniformExactSpec)=true:=by kernel_rfl
def kf2:laidOutB Tryz.prog=true:=by kernel_rfl
def kf3:mapsRowed Tryz.prog=true:=by kernel_rfl
def kf4:Tryz.f3.params.all (Tryz.prog.readableRec ·)=true:=by kernel_rfl
def kf5:namedTie Tryz.prog Rows.uniformExactRow.named Rows.uniformExactSpec.vars=true:=by kernel_rfl
def kf6:(Rows.uniformExactRow.stops==[])=true:=by kernel_rfl
def kf7:(Tryz.prog.stops==[])=true:=by kernel_rfl
def kf8:(Rows.uniformExactRow.knobs==[])=true:=by kernel_rfl
def kf9:(Tryz.prog.stopKnobs==[])=true:=by kernel_rfl
def aaW:(Rows.uniformExactRow.inPlace==Tryz.prog.inPlace 3)=true:=by kernel_rfl
def aa8:(Rows.uniformExactRow.unfollowed==Tryz.prog.unfollowed 3)=true:=by kernel_rfl
def abd:(Rows.uniformExactRow.recurses==Tryz.prog.recurses 3)=true:=by kernel_rfl
def aby:(Rows.uniformExactRow.named==Tryz.prog.varsNamed 3)=true:=by kernel_rfl
def abK:(Rows.uniformExactRow.maps==(Tryz.f3.params.toList++Rows.uniformExactSpec.plain.varTypes Tryz.prog).any (Tryz.prog.mapsRec ·))=true:=by kernel_rfl
def aav:(Rows.uniformExactRow.ifaces==(Tryz.f3.params.toList++Rows.uniformExactSpec.plain.varTypes Tryz.prog).any (Tryz.prog.ifacesRec ·))=true:=by kernel_rfl
def aaE:(Rows.uniformExactRow.mapsOut==Tryz.prog.mapsAmong Tryz.f3.resultTypes.toList)=true:=by kernel_rfl
def aab:(Rows.uniformExactRow.loops==(Tryz.f3.params.toList++Rows.uniformExactSpec.plain.varTypes Tryz.prog).any (Tryz.prog.loopsFrom ·))=true:=by kernel_rfl
def aaO:(Rows.uniformExactRow.wideKeys==(Tryz.f3.params.toList++Rows.uniformExactSpec.plain.varTypes Tryz.prog++Tryz.f3.resultTypes.toList).any (Tryz.prog.wideKeysFrom ·))=true:=by kernel_rfl
def aaG:Rows.uniformExactSpec.vars.all (Tryz.prog.varReadable ·)=true:=by kernel_rfl
def abC:(Tryz.f3.resultTypes.all (λt=>Tryz.prog.readableRec t&&decide (t<Tryz.prog.types.size)))=true:=by kernel_rfl
def aaK:(Rows.uniformExactRow.ifacesOut==Tryz.f3.resultTypes.toList.any (Tryz.prog.ifacesRec ·))=true:=by kernel_rfl
def aac:(Rows.uniformExactRow.loopsOut==Tryz.f3.resultTypes.toList.any (Tryz.prog.loopsFrom ·))=true:=by kernel_rfl
def aaJ:(Rows.uniformExactRow.plainKeys==Tryz.prog.plainKeys)=true:=by kernel_rfl
def abY:Rows.uniformExactRow.shortTexts.isNone=true:=by kernel_rfl
def abt:Tryz.prog.stopsHeard=true:=by kernel_rfl
def aaV:Tryz.prog.mayEnter=true:=by kernel_rfl
def ab0:(Rows.uniformExactRow.lifted==Tryz.prog.liftsFinal)=true:=by kernel_rfl
def aa_:(Tryz.prog.make==some Rows.uniformExactRow.make)=true:=by kernel_rfl
def abb:(Rows.uniformExactRow.pinned==Rows.uniformExactRow.pinnedBy)=true:=by kernel_rfl
def abR:(Rows.uniformExactRow.veiled==(Tryz.f3.params.toList++Rows.uniformExactSpec.plain.varTypes Tryz.prog++Tryz.f3.resultTypes.toList).any (Tryz.prog.veiledRec ·))=true:=by kernel_rfl
def aaI:Rows.uniformExactRow.veiledFits Tryz.prog Tryz.f3.params.toList (Tryz.f3.params.toList++Rows.uniformExactSpec.plain.varTypes Tryz.prog++Tryz.f3.resultTypes.toList)=true:=by kernel_rfl
set_option maxRecDepth 100000 in
def Tl:joinedFacts Tryz.pinned.checked.prog 3 Tryz.f3 Rows.uniformExactSpec Rows.uniformExactRow=true:=by
 show joinedFacts Tryz.prog 3 Tryz.f3 Rows.uniformExactSpec Rows.uniformExactRow=true;unfold joinedFacts;simp only[ez];exact⟨⟨⟨⟨⟨⟨⟨⟨⟨⟨⟨⟨⟨⟨⟨⟨⟨⟨⟨⟨⟨⟨⟨⟨⟨⟨⟨⟨⟨⟨⟨kf1,kf2⟩,kf3⟩,kf4⟩,kf5⟩,kf6⟩,kf7⟩,kf8⟩,kf9⟩,aaW⟩,aa8⟩,abd⟩,aby⟩,abK⟩,aav⟩,aaE⟩,aab⟩,aaO⟩,aaG⟩,abC⟩,aaK⟩,aac⟩,aaJ⟩,abY⟩,abt⟩,aaV⟩,ab0⟩,aa_⟩,(by kernel_rfl)⟩,abb⟩,abR⟩,aaI⟩
def ME:Tryz.pinned.checked.prog.funcNamed Rows.uniformExactRow.func=some 3:=by kernel_rfl
def E9:Func.isInstance Tryz.pinned.checked.prog Tryz.f3 Rows.uniformExactRow.origin Rows.uniformExactRow.targs:=M' (by kernel_rfl)
def Gw:Func.isWrapper Tryz.pinned.checked.prog Tryz.f3 Rows.uniformExactRow.wrapper Rows.uniformExactRow.mainSum:=by unfold Func.isWrapper;first|(rw[cK aa6];kernel_rfl)|(rw[cI aa6];exact⟨rfl,rfl⟩)
def G2:Rows.UniformExactSaid:=
 OpenClaim.holds_of_wide 3 Tryz.f3 rfl rfl rfl rfl rfl rfl rfl ⟨rfl,rfl,rfl,rfl,rfl⟩ rfl rfl rfl rfl rfl ME Tryz.func3 Tl E9 Gw
  (λos started H enc _=>Gb os started H enc)
def cf1:OpenClaim.wfByText (OpenSpec.ofChange Rows.uniformExactSpec) Rows.uniformExactRow=true:=by kernel_rfl
def cf2:Tryz.pinned.checked.prog.mainIs=some ((true, "15def1e707df60b6714d49686ea96117384537eebad944dbf63e65222b5b5cde").fst,(true, "15def1e707df60b6714d49686ea96117384537eebad944dbf63e65222b5b5cde").snd.toList):=by kernel_rfl
def cf3:false=Rows.uniformExactRow.goesBy Tryz.pinned.checked.prog:=by kernel_rfl
def cf4:Tryz.prog.funcNamed "proofprograms/proofprogramslaw27.UniformExact" =some 3:=by kernel_rfl
def cf5:([22,30,32,34,35].all λu=>!Tryz.prog.wantsStandIn u)=true:=by kernel_rfl
theorem uniformExact_card:Rows.UniformExactCardSaid:=
 Claim7.holds_tied_plain_at .later [] [.data,.data,.data] true (true, "15def1e707df60b6714d49686ea96117384537eebad944dbf63e65222b5b5cde") false
  G2 (λ_ h=>by cases h) cf1 (λ_ h=>by cases h) uniformExact_row_tie rfl ⟨rfl,rfl⟩ cf2 rfl
  (λf fn hf hfn=>by
   obtain rfl:f=3:=gB (cf4.symm.trans hf)|>.symm;obtain rfl:fn=Tryz.f3:=(gB (Tryz.func3.symm.trans hfn)).symm
   exact⟨by kernel_rfl,λj t ht=>by
    rw[Tryz.params3] at ht
    have hm:t∈[22,30,32,34,35]:=by simpa using UO ht
    exact(show Tryz.prog.wantsStandIn t=false by simpa using iC.1 cf5 t hm)⟩)
  cf3
#print axioms uniformExact_card
end Go.Proofs.YtijednbpbbddbaaGreatDoor
