/- Part of the proof of SchemeChains: walks. -/
import Derived.Test.YtpgdkkomegalnaaGreatDoorHW2
set_option linter.all false
set_option maxRecDepth 20000
set_option maxHeartbeats 4000000
namespace Go.Proofs.YtpgdkkomegalnaaGreatDoor
open Go Go.lD Go.fP Tryz
def xV{n:Nat}:C2 prog 304 (lJ n) sB Tm.av sI:=by
 refine i2 λn ih=>v2 func304 λT H a0 a1 r m e=>?_;rw[lJ] at m;refine sw [7,0] ?_;intro e m;exact Wb e m 999 14 [1,12,13] [] nI
@[reducible,instance] def abP:=gl 304 @xV
def Nu:C1 prog 325 wm sB Tm.av:=by
 refine u1 8 func325 λT H a0 r m e=>?_;rw[wm] at m;refine sw [0,13] ?_;intro e m;apply wg 3;simp[e];apply Iq e m<;>intro e m
 .apply wg 1;simp[e];refine WB m 999 999 [] [] (λv3 f=>f.1 2=sB v3) λb _ g m=>?_;have⟨c,e,m⟩:=Kv e m;apply Iq e m<;>intro e m
  .exact iJ
  exact iJ
 apply wg 4;apply Iq e m<;>intro e m
 .simp[e];refine WB m 999 999 [] [] (λv9 f=>f.1 2=sB v9) λd _ g m=>?_;have⟨a,e,m⟩:=Kv e m;apply Iq e m<;>intro e m
  .exact iJ
  exact iJ
 simp[e];refine wA 999 999 [] [1] (λf=>f.1 45=sB (fq (eo a0.aop 11) true (eo a0.aop 12))) [] (λ_ g=>?_) ?_
 .rcases Pb (eo a0.aop 11) e with e|e
  .exact aj
  exact aj
 intro _ e m;exact aa
def Lp:C1 prog 331 lK sI Tm.av:=by
 refine v1 func331 λT H a0 r m e=>?_;rw[lK] at m;exact aa
@[reducible,instance] def ach:=gl 331 @Lp
def Mf{n:Nat}:C2 prog 341 (nH n) sI Tm.av sI:=by
 refine i2 λn ih=>u2 4 func341 λT H a0 a1 r m e=>?_;rw[nH] at m;simp[e];refine wA 0 999 [1] [2] (λf=>f.1 5=sI (fq (fq (eo a0.aop 1) (eo a0.aos a1) false) (eH .i64 0 1) 0)) [0] (λ_ g=>?_) ?_
 .refine wA 999 999 [1,5] [2] (λf=>f.1 16=sB (fq (eo a0.aop 1) (eo a0.aos a1) false)) [] (λ_ g=>?_) ?_
  .exact aa
  intro _ e m;rcases Pb (fq (eo a0.aop 1) (eo a0.aos a1) false) e with e|e
  .exact aj
  exact aj
 intro _ e m;exact Wb e m 999 22 [1,20,21] [2] (λa f=>f.1 5=sI a)
@[reducible,instance] def abo:=gl 341 @Mf
def J8:C1 prog 326 sX sI Tm.av:=by
 refine v1 func326 λT H a0 r m e=>?_;rw[sX] at m;exact aa
def T8{n:Nat}:C3 prog 310 (sK n) Tm.av Tm.av sI sI:=by
 refine i3 λn ih=>u3 4 func310 λT H a0 a1 a2 r m e=>?_;rw[sK] at m;simp[e];refine wA 0 999 [1,2] [3,6] (λf=>bx f 7 [sI a0.aop,sI (fq (fq (eo a0.aop 1) (qz a0.aos a1) false) (eH .i64 a0.aos a2) a0.aos),sI a0.dM.aop,sL Ty.av a0.dM.aoq,nL]) [0] (λ_ g=>?_) ?_
 .refine wA 999 999 [1,2] [3,6,7] (λf=>f.1 25=sB (fq (eo a0.aop 1) (qz a0.aos a1) false)) [] (λ_ g=>?_) ?_
  .exact aa
  intro _ e m;rcases Pb (fq (eo a0.aop 1) (qz a0.aos a1) false) e with e|e
  .exact aj
  exact aj
 intro _ e m;refine Td e m 999 34 [1,2,32,33] [3,6] [48] (λc=>c) (λc a f=>bx f 7 [sI a0.aop,sI (fq (fq (eo a0.aop 1) (qz a0.aos a1) false) (eH .i64 a0.aos a2) a0.aos),sI a0.dM.aop,sL Ty.av a0.dM.aoq,sT a Tm.av c]) λi _ c d _ _ _ _ E e m z p=>?_;have⟨a,E,b⟩:=E;refine sw [20,0,4,0,18,9,0] ?_;intro _ h e m;refine Ad (f:=Tm.av) c [h] b x' e.2 ?_;simp[e];cases m;exact p _ _ _ ⟨(.loc 48 (d.fy 48+1)),abq,(On 48)⟩ z
@[reducible,instance] def ahc:=gl 310 @T8
def S1{n:Nat}:C4 prog 342 (v7 n) Tm.av Tm.av sI sI Tm.av:=by
 refine i4 λn ih=>v4 func342 λT H a0 a1 a2 a3 r m e=>?_;rw[v7] at m;refine sw [13,0] ?_;intro e m;refine Td e m 999 47 [1,2,45,46] [4,7,8] [62] (λb=>b) (λb a f=>bx f 9 [sI a0.aop,sI a0.aos,sI a0.dM.aop,sL Ty.av a0.dM.aoq,sT a Tm.av b]) λi _ b d _ _ _ _ E e m z p=>?_;have⟨a,E,c⟩:=E;refine sw [20,0,4,0,18,9,0] ?_;intro _ h e m;refine Ad (f:=Tm.av) b [h] c x' e.2 ?_;simp[e];cases m;exact p _ _ _ ⟨(.loc 62 (d.fy 62+1)),abq,(On 62)⟩ z
@[reducible,instance] def ahB:=gl 342 @S1
def HQ:C1 prog 327 rH Tm.av Tm.av:=by
 refine v1 func327 λT H a0 r m e=>?_;rw[rH] at m;exact aa
def WV:kK prog 305=true:=by kernel_rfl
def KI:∀(n:Nat),C2 prog 305 (pt n) (t3 Tm.av sB sB) Tm.av sI:=by
  intro n
  induction n with
  |zero=>
    skip
    all_goals(intro _ _;intros;rename_i hm;cases hm)
  |succ n ih=>
 rintro T H a0 a1 ⟨r0,r1,r2⟩ hm;rw[pt] at hm;refine fv.intro (fn:=f305) func305 rfl WV (Dg rfl) ?_;refine gv.sr [] λK1 aZ=>?_;simp;apply aZ;refine gv.uU λK3 a6=>?_;refine gv.sr [] λK5 a7=>?_;have⟨x7,a8,N⟩:=eB hm;clear hm
 try dsimp only at N
 simp;refine kN.fn (Nu a8) ?_;simp;apply a7;refine gv.uL λbs bt aw ax=>?_;rcases jb N with⟨a,O⟩|⟨a,P⟩
 .clear N;simp[a];apply aw;refine gv.uU λbu ay=>?_;refine gv.sr [] λbw az=>?_;have⟨bz,aA,B⟩:=eB O;clear O
  try dsimp only at B
  simp[a];refine kN.fn (J8 aA) ?_;simp[a];apply az;refine gv.uL λbA bB aB aC=>?_;rcases jb B with⟨s,Q⟩|⟨s,R⟩
  .clear B;simp[a,s];apply aB;refine gv.sr [] λbC aD=>?_;simp[a,s];apply aD;refine gv.ret ?_;simp only[w5,HL] at Q;obtain⟨rfl,rfl,rfl⟩:=Q;simp[wG,a,s]
  clear B;simp[a,s];apply aC;refine gv.skip ?_;apply ay;refine gv.sr [] λbD aE=>?_;have⟨bE,aF,G⟩:=eB R;clear R
  try dsimp only at G
  simp[a,s];refine kN.fn (HQ aF) ?_;simp[a,s];apply aE;refine gv.ret ?_;simp only[w5,HL] at G;obtain⟨rfl,rfl,rfl⟩:=G;simp[wG,a,s]
 clear N;simp[a];apply ax;refine gv.skip ?_;apply a6;refine gv.uU λbF aG=>?_;refine gv.sr [] λbG aH=>?_;simp[a];apply aH;have⟨V,S⟩:=lI P;clear P;have⟨a_,aI,I⟩:=nS S;clear S
 try dsimp only at I
 have⟨W,t,r⟩:=eB I;clear I;refine gv.Ab λbH a' aJ ba aK=>?_;refine gv.Rx (λn55 fr h=>∃(i56:Nat) (F:Int) (u:Nat) (v:Nat),H=h/\(fr.env 1=sI a1/\fr.env 2=AV.h9 2 u 0/\fr.env 4=AV.h9 4 v 0/\fr.env 23=sL Tm.av a0.aoq/\fr.env 24=sI (eE a0.aoq)/\fr.env 25=sI F/\fr.gen 2=u/\fr.box 2=some [sI a0.aop,sI a0.aos,sI a0.dM.aop,sL Ty.av a0.dM.aoq,sL Tm.av a0.aoq]/\fr.gen 4=v/\fr.box 4=some [sI 0,sI 0,sI 0,nL,nL])/\F=(i56:Int)/\i56+n55=List.length a0.aoq/\fa a_ (List.drop i56 a0.aoq) i56 ()=some W) (List.length a0.aoq) ?_ ?_
 .refine⟨0,0,1,1,?_,⟨?_,?_,?_,?_,?_,?_,?_,?_,?_,?_⟩,rfl,abm,t⟩<;>first|rfl|simp[a]
 rintro n55 U bI ⟨i56,F,u,v,rfl,j,A,bb,t⟩ bJ aL;rcases n55 with _|n55
 .have b:=PM (l:=a0.aoq) A VW;refine gv.sr [] λbK aM=>?_;simp[j,b,a];apply aM;refine gv.uU λbL bc=>?_;refine gv.uL λbM bN bd aN=>?_;simp[j,b,a];apply aN;refine gv.exit ?_;apply aJ;rw[LI VW,oz] at t;obtain rfl:=hU t;rw[ew] at r
  try dsimp only at r
  apply aG;refine gv.sr [] λbO aO=>?_;simp[j,b,a];apply aO;refine gv.ret ?_;simp only[w5,HL] at r;obtain⟨rfl,rfl,rfl⟩:=r;simp[wG,j,b,a]
 have b:=Vk (l:=a0.aoq) A VW;have⟨bP,X,i⟩:=Qa (l:=a0.aoq) A VW;rw[X,eV] at t;have⟨bQ,C,D⟩:=eB t;clear t;rw[aI,<-A] at C
 try dsimp only at C
 refine gv.sr [] λbR aP=>?_;simp[j,b,i,a];apply aP;refine gv.uU λbS aQ=>?_;refine gv.uL λbT bU aR bf=>?_;simp[j,b,i,a];apply aR;refine gv.skip ?_;apply aQ;refine gv.uU λbV aS=>?_;refine gv.Ab λbW bg aT bh aU=>?_;refine gv.sr [] λbX aV=>?_;simp[j,b,i,a];apply aV;refine gv.sr [] λbY aW=>?_;have⟨Y,bZ,bj,Z,w⟩:=wD C;clear C
 try dsimp only at w
 simp[j,b,i,a];refine kN.fn (ih Z) ?_;simp[j,b,i,a];apply aW;refine gv.uU λbk ad=>?_;refine gv.sr [] λbl ae=>?_;simp[j,b,i,a];apply ae;refine gv.uL λbm bn af ah=>?_;rcases jb w with⟨c,J⟩|⟨c,ai⟩;rotate_left
 .clear w;simp[j,b,i,a,c];apply af;refine gv.exit ?_;apply aT;apply aS;refine gv.region [] abx ?_;simp[j,b,i,a,c];obtain rfl:=hU ai;rw[eQ] at D
  refine aL _ _ n55 (aa6 _) ⟨(i56+1),(eH .i64 F 1),u,v,?_,⟨?_,?_,?_,?_,?_,?_,?_,?_,?_,?_⟩,(M' A VW V),VW,D⟩<;>first|rfl|simp[j,b,i,a,c]
 clear w;simp[j,b,i,a,c];apply ah;refine gv.skip ?_;apply ad;refine gv.sr [] λbo ak=>?_;simp[j,b,i,a,c];apply ak;refine gv.sr [] λbp an=>?_;have⟨ao,K⟩:=lI J;clear J;simp[j,b,i,a,c];refine sV.ago (f:=Tm.av) a0.aoq x' ⟨_,agK⟩ (by intro x;simp) ao (by first|rfl|simp) (by first|rfl|simp) λy aX=>?_;simp[j,b,i,a,c];apply an;refine gv.sr [] λbq aq=>?_;have⟨aY,o,M⟩:=eB K;clear K
 try dsimp only at M
 have q:=Kf o;simp[j,b,i,o,q,a,c];refine AF.arr (f:=Tm.av) (L:=a0.aoq) (k:=((y-List.length a0.aoq)*5)) Y afO (by intro x;simp) (by simp[j,b,i,o,q,a,c]) (x:=aY) (by assumption) (by simp[j,b,i,o,q,a,c]) (by simp[j,b,i,o,q,a,c]) (by simp[j,b,i,o,q,a,c]) ?_;simp[j,b,i,o,q,a,c];apply aq;refine gv.uU λbr ar=>?_;refine gv.aml 12 4 (cs2:=[sI a0.aop,sI a0.aos,sI a0.dM.aop,sL Ty.av a0.dM.aoq,AV.xQ 42 (U.gen 42+1) (List.length (yb a0.aoq F Y)) y]) (f:=Tm.av) (L:=(yb a0.aoq F Y)) (k:=((y-List.length a0.aoq)*5)) (sz:=5) (d:=42) (g:=(U.gen 42+1)) (cap:=y) (by intro x;simp) (by intro x;simp) aal (by simp[j,b,i,o,q,a,c]) (by simp[j,b,i,o,q,a,c]) (by simp[j,b,i,o,q,a,c]) (by simp[j,b,i,o,q,a,c]) ?_;refine gv.region [] abx ?_;simp[j,b,i,o,q,a,c];apply ar;refine gv.ret ?_;apply aU;apply aK;obtain rfl:=hU M;rw[AB] at D;obtain rfl:=hU D;rw[p9] at r
 try dsimp only at r
 simp only[w5,HL] at r;obtain⟨rfl,rfl,rfl⟩:=r;simp[wG,j,b,i,o,q,a,c]
def Ov{n:Nat}:C2 prog 305 (pt n) (t3 Tm.av sB sB) Tm.av sI:=(KI n)
@[reducible,instance] def acW:=gl 305 @Ov
def IL:C2 prog 269 kO (t3 Tm.av sI sI) Tm.av sI:=by
 refine u2 7 func269 λT H a0 a1 r m e=>?_;rw[kO] at m;refine sw [0,1,0,13] ?_;intro _ e m;apply wg 3;simp[e];refine WA m 999 999 [] [2,4] (λv3 f=>f.1 1=sI a1/\f.1 28=sB v3) [7,0] (λj _ g m=>?_) ?_
 .apply Iq e m<;>intro e m
  .exact iJ
  apply Iq e m<;>intro e m
  .exact iJ
  simp[e];refine pX m xV λ_ m=>?_;exact iJ
 intro _ v3 e m;refine Wn m 999 (λa f h=>h=H/\f.1 1=sI a1/\f.1 8=sI a.1/\bx f 2 [sI a.2.1,sI a.2.2.1,sI a.2.2.2.1,sL Ty.av a.2.2.2.2.1,sL Tm.av a.2.2.2.2.2]/\bx f 4 [sI 0,sI 0,sI 0,nL,nL]) abq (λa _ _ _ _ _ E m z p=>?_);have⟨b,c,d,i,v20,v21⟩:=a;have e:=Aj e E;dsimp only[Bb]at m;exact aa
@[reducible,instance] def YE:=gl 269 @IL
def Lg:C3 prog 198 ki sI Tm.av Tm.av sI:=by
 refine v3 func198 λT H a0 a1 a2 r m e=>?_;rw[ki] at m;exact aa
@[reducible,instance] def abt:=gl 198 @Lg
def LR{n:Nat}:C2 prog 145 (jK n) sI Fm.av Fm.av:=by
 refine i2 λn ih=>u2 3 func145 λT H a0 a1 r m e=>?_;rw[jK] at m;simp[e];refine WA m 999 999 [] [2,3] (λv2 f=>f.1 21=sB v2) [7,0] (λa _ g m=>?_) ?_
 .apply Iq e m<;>intro e m
  .exact iJ
  simp[e];refine pX m jv λ_ m=>?_;exact iJ
 intro _ v2 e m;refine Wa e m 999 25 [24] [2,3] nI [11,0] ?_;intro _ _ e m;exact Wb e m 999 46 [45] [2,3] nI
@[reducible,instance] def abB:=gl 145 @LR
def Cu:C2 prog 104 k4 sI Fm.av Fm.av:=by
 refine v2 func104 λT H a0 a1 r m e=>?_;rw[k4] at m;exact aa
@[reducible,instance] def ab1:=gl 104 @Cu
def Kx:C1 prog 309 nk sI Fm.av:=by
 refine v1 func309 λT H a0 r m e=>?_;rw[nk] at m;simp[e];refine pX m wL λ_ m=>?_;refine Il e m λe m=>?_;exact au
@[reducible,instance] def abK:=gl 309 @Kx
def wF{n:Nat}:C3 prog 281 (mK n) Fm.av Fm.av sI sI:=by
 refine i3 λn ih=>v3 func281 λT H a0 a1 a2 r m e=>?_;rw[mK] at m;simp[e];refine Tc e m 999 20 [1,2,18,19] [3,6] [31] (λs2=>s2) (λs2 c f=>bx f 7 [sI a0.aop,sI a0.dM.aop,sL Ty.av a0.dM.aoq,sT c Tm.av s2,nL]) [11,0] (λu _ s2 o _ _ _ _ E e m z p=>?_) ?_
 .have⟨c,E,i⟩:=E;refine sw [20,0,4,9,0] ?_;intro s e m;refine Ad (f:=Tm.av) s2 [s] i x' e.2 ?_;simp[e];cases m;exact p _ _ _ ⟨(.loc 31 (o.fy 31+1)),abq,(On 31)⟩ z
 intro o s2 c i e m;refine Wr e m 999 (λq j f h=>∃a b,(h=H/\f.1 1=sI a1/\f.1 2=sI a2/\f.1 35=sL Fm.av a0.aoq/\f.1 36=sI (eE a0.aoq)/\f.1 37=sI q/\bx f 3 (Fm.av a0).cells/\bx f 6 [sI 0,sI 0,nL,nL,nL]/\bx f 7 [sI a0.aop,sI a0.dM.aop,sL Ty.av a0.dM.aoq,sT a Tm.av s2,sT b Fm.av j])/\Ow f [31] a s2/\Ow f [51] b j) (by exact⟨c,.full,abq,i,hI.full⟩) (λj l _ _ E m=>?_) (λq _ j l _ _ _ _ E e m z p=>?_)
 .have⟨a,b,E,k,d⟩:=E;exact aa
 have⟨a,b,E,k,d⟩:=E;refine sw [10,0,4,0,18,9,0] ?_;intro _ t e m;refine Ad (f:=Fm.av) j [t] d La e.2 ?_;simp[e];cases m;exact p _ _ _ ⟨a,(.loc 51 (l.fy 51+1)),abq,(hI.other k d aal aal),(On 51)⟩ z
@[reducible,instance] def aij:=gl 281 @wF
def pO:C2 prog 272 gu dT.av dT.av (sL Ty.av):=by
 refine v2 func272 λT H a0 a1 r m e=>?_;rw[gu] at m;refine sw [9,0] ?_;intro e m;refine Ad (f:=Ty.av) a0.aot a1 (hI.full (D:=[])) Fp e.2 ?_;simp[e];refine Wr e m 999 (λk s2 f h=>∃a b,(h=H/\f.1 1=sL Ty.av a1/\f.1 23=sL Fm.av a0.aow/\f.1 24=sI (eE a0.aow)/\f.1 25=sI k/\bx f 4 [nL,nL,nL]/\bx f 5 [sL Fm.av a0.lemmas,sT a Ty.av (fW a0.aot a1),sT b Fm.av s2])/\Ow f [20] a (fW a0.aot a1)/\Ow f [36] b s2) (by exact⟨(.loc 20 1),.full,abq,(On 20),hI.full⟩) (λs2 i _ _ E m=>?_) (λk _ s2 i _ _ _ _ E e m z p=>?_)
 .have⟨a,b,E,d,c⟩:=E;exact aa
 have⟨a,b,E,d,c⟩:=E;refine sw [10,0,4,9,0] ?_;intro j e m;refine Ad (f:=Fm.av) s2 [j] c La e.2 ?_;simp[e];cases m;exact p _ _ _ ⟨a,(.loc 36 (i.fy 36+1)),abq,(hI.other d c aal aal),(On 36)⟩ z
@[reducible,instance] def Pk:=gl 272 @pO
def WI:C3 prog 273 vg Fm.av sI Ty.av Fm.av:=by
 refine v3 func273 λT H a0 a1 a2 r m e=>?_;rw[vg] at m;refine sw [0,4,0,4] ?_;intro a b e m;have e:=Aj e (show AV.agg [sI a0,sI a.aop,sL Ty.av a.aoq,AV.slice .gK [],AV.slice .gK [Fm.av b]]=Fm.av (Fm.mk a0 a [] [b]) by rw[Fm.fi];rfl);exact au
@[reducible,instance] def ai0:=gl 273 @WI
def rI:C2 prog 274 iV (sL sI) (sL sI) sI:=by
 refine v2 func274 λT H a0 a1 r m e=>?_;rw[iV] at m;simp[e];refine Td e m 0 10 [1,8,9] [] [22] (λs2=>s2) (λs2 b f=>f.1 5=sT b sI s2) λl k s2 j _ _ _ n E e m z p=>?_;have⟨b,E,c⟩:=E;simp[e]at E;have e:=Aj e E;apply wg 5;simp[e];refine C9 m 999 999 (λi f h=>∃v12 a,(h=H/\f.1 1=sI a1/\f.1 5=sT a sI v12/\f.1 8=sL sI a0/\f.1 9=sI (eE a0)/\f.1 10=sI l)/\Ow f [22] a v12/\i v12=some n) ?_ (λi _ g m=>?_)
 .rintro _ _ ⟨v12,a,E,d,m⟩;have e:=Aj e E;simp[e];cases m;exact p _ _ _ ⟨a,abq,d⟩ z
 apply Ir e m<;>intro e m
 .simp[e];exact g _ _ ⟨s2,b,abq,c,m⟩
 refine sw [9,0] ?_;intro e m;refine Ao (f:=sI) s2 [(fD .i64 k a1)] c E9 e.2 ?_;simp[e];exact g _ _ ⟨(fW s2 [(fD .i64 k a1)]),(.loc 22 (j.fy 22+1)),abq,(On 22),m⟩
@[reducible,instance] def XU:=gl 274 @rI
def Gk:C1 prog 275 BO sB (sL sI):=by
 refine u1 2 func275 λT H a0 r m e=>?_;rw[BO] at m;simp[e];refine WB m 999 999 [] [] (λv2 f=>f.1 2=sB v2) λa _ g m=>?_;apply Ir e m<;>intro e m
 .exact iJ
 have⟨b,e,m⟩:=Kv e m;exact iJ
@[reducible,instance] def afD:=gl 275 @Gk
def JV:C2 prog 77 j4 (t2 Ty.av sI) (sL Ty.av) Tm.av:=by
 refine v2 func77 λT H a0 a1 r m e=>?_;rw[j4] at m;exact aa
@[reducible,instance] def aau:=gl 77 @JV
def KR(T:eK):∀(n:Nat),(∀{H:dV} {a0:Tm} {a1:Int} {a2:(List (Int×Bool))} {a:(List (Int×Bool))} {o2:Nat} (b:H[o2]?=some [tQ sB a2]) (hm:p4 n a0 a1 a2=some a),eG prog T 328 [Tm.av a0,sI a1,AV.n_ o2] H (AV.tuple []) (gk H o2 [tQ sB a])):=by
  intro n
  induction n with
  |zero=>
    skip
    all_goals(intro _ _;intros;rename_i hm;cases hm)
  |succ n ih=>
 intro H a0 a1 a2 a o2 b hm;rw[p4] at hm;have i:=eZ b;refine fv.Kw b ?_;have e:=i;refine wi aou func328 [] [] 2 ?_;simp[e];refine Wj hm 0 999 (λj f h=>∃(v2:(List (Int×Bool))),(h=gk H o2 [tQ sB v2]/\f.1 1=sI a1/\f.1 2=AV.n_ o2/\f.1 3=AV.h9 3 (f.gen 3) 0/\f.box 3=some (Tm.av a0).cells)/\j v2=some a) (λj _ g m=>?_) ?_
 .refine wj 999 999 (λf h=>h=gk H o2 [tQ sB a2]/\f.1 1=sI a1/\f.1 2=AV.n_ o2/\f.1 16=sB (fq (eo a0.aop 1) (qz a0.aos a1) false)/\bx f 3 (Tm.av a0).cells) (λ_ g=>?_) ?_
  .exact aa
  rintro _ _ E;have e:=Aj e E;apply Ir e m<;>intro e m
  .exact iJ
  simp[e];refine uO.i64 (f:=sB) a2 true Ul vu abq abq ?_;exact iJ
 rintro _ _ ⟨v2,E,m⟩;have e:=Aj e E;simp[e];refine Wr e m 999 (λd c f h=>h=gk H o2 [tQ sB c]/\f.1 1=sI a1/\f.1 2=AV.n_ o2/\f.1 23=sL Tm.av a0.aoq/\f.1 24=sI (eE a0.aoq)/\f.1 25=sI d/\bx f 3 (Tm.av a0).cells) abq (λc _ _ _ E m=>?_) (λd _ c _ _ _ _ _ E e m z p=>?_)
 .exact aa
 refine sw [10,0,4,0] ?_;intro _ e m;refine rm m (ih abq) λd20 m=>?_;exact al
def OW(T:eK){H:dV}{a0:Tm}{a1:Int}{a2:(List (Int×Bool))}{a:(List (Int×Bool))}{o2:Nat}(b:H[o2]?=some [tQ sB a2]){n:Nat}(hm:p4 n a0 a1 a2=some a):eG prog T 328 [Tm.av a0,sI a1,AV.n_ o2] H (AV.tuple []) (gk H o2 [tQ sB a]):=(KR T n) b hm
def O2(T:eK){H:dV}{a0:Tm}{a:List Int}{b:Int}(hm:wR a0=some (a,b)):eG prog T 306 [Tm.av a0] H (AV.tuple [sL sI a,sI b]) H:=by
 rw[wR] at hm;refine fv.rB (Post:=λx K=>x=AV.tuple [sL sI a,sI b]/\∃X,K=H++X) ?_ (λ_ _ h=>⟨_,h.2.choose_spec,by rw[h.1];simp[AV.low,AV.iy],h.1,rfl⟩);have e:=trivial;refine wi aou func306 [] [] 999 ?_;simp[e];refine pX hm Cz λ_ m=>?_;refine Il e m λe m=>?_;simp[e];refine pX m (OW T abq) λd2 m=>?_;simp[e];refine Ar m (AP T abq) λ_ d4 m=>?_;exact au
@[reducible,instance] def adQ:=gl 306 @O2
def vm:C1 prog 276 mS (sL sI) Tm.av:=by
 refine v1 func276 λT H a0 r m e=>?_;rw[mS] at m;exact aa
@[reducible,instance] def adD:=gl 276 @vm
def Cp{n:Nat}:C2 prog 283 (oJ n) sB Fm.av sI:=by
 refine i2 λn ih=>v2 func283 λT H a0 a1 r m e=>?_;rw[oJ] at m;simp[e];refine Wa e m 999 12 [1,10,11] [2] nI [11,0] ?_;intro _ _ e m;exact Wb e m 999 24 [1,22,23] [] nI
def Ls{n:Nat}:C2 prog 329 (qs n) sI Fm.av sI:=by
 refine i2 λn ih=>v2 func329 λT H a0 a1 r m e=>?_;rw[qs] at m;simp[e];refine Wa e m 999 13 [1,11,12] [2] (λs2 f=>f.1 5=sI s2) [11,0] ?_;intro _ s2 e m;exact Wb e m 999 26 [1,24,25] [2] (λa f=>f.1 5=sI a)
@[reducible,instance] def abZ:=gl 329 @Ls
def TZ{n:Nat}:C4 prog 330 (yt n) Fm.av Fm.av sI sI Tm.av:=by
 refine i4 λn ih=>v4 func330 λT H a0 a1 a2 a3 r m e=>?_;rw[yt] at m;simp[e];refine Tc e m 999 22 [1,2,20,21] [4,7,8] [34] (λs2=>s2) (λs2 c f=>bx f 9 [sI a0.aop,sI a0.dM.aop,sL Ty.av a0.dM.aoq,sT c Tm.av s2,nL]) [11,0] (λu _ s2 o _ _ _ _ E e m z p=>?_) ?_
 .have⟨c,E,i⟩:=E;refine sw [20,0,4,9,0] ?_;intro s e m;refine Ad (f:=Tm.av) s2 [s] i x' e.2 ?_;simp[e];cases m;exact p _ _ _ ⟨(.loc 34 (o.fy 34+1)),abq,(On 34)⟩ z
 intro o s2 c i e m;refine Wr e m 999 (λq j f h=>∃a b,(h=H/\f.1 1=sI a1/\f.1 2=sI a2/\f.1 38=sL Fm.av a0.aoq/\f.1 39=sI (eE a0.aoq)/\f.1 40=sI q/\bx f 4 (Fm.av a0).cells/\bx f 7 (Tm.av a3).cells/\bx f 8 [sI 0,sI 0,nL,nL,nL]/\bx f 9 [sI a0.aop,sI a0.dM.aop,sL Ty.av a0.dM.aoq,sT a Tm.av s2,sT b Fm.av j])/\Ow f [34] a s2/\Ow f [55] b j) (by exact⟨c,.full,abq,i,hI.full⟩) (λj l _ _ E m=>?_) (λq _ j l _ _ _ _ E e m z p=>?_)
 .have⟨a,b,E,k,d⟩:=E;exact aa
 have⟨a,b,E,k,d⟩:=E;refine sw [10,0,4,0,18,9,0] ?_;intro _ t e m;refine Ad (f:=Fm.av) j [t] d La e.2 ?_;simp[e];cases m;exact p _ _ _ ⟨a,(.loc 55 (l.fy 55+1)),abq,(hI.other k d aal aal),(On 55)⟩ z
@[reducible,instance] def agH:=gl 330 @TZ
def Re:C3 prog 307 yg (t2 Fm.av sI) Fm.av sI Tm.av:=by
 refine u3 7 func307 λT H a0 a1 a2 r m e=>?_;rw[yg] at m;refine sw [0,1,0,13] ?_;intro _ e m;apply wg 3;simp[e];refine wA 999 0 [] [3,5,6] (λf=>f.1 1=sI a1/\f.1 21=sB (fq (pH a1 0) true (pw a1 4096))) [13] (λ_ g=>?_) ?_
 .rcases Pb (pH a1 0) e with e|e
  .exact aj
  exact aj
 intro _ e m;refine sg 7 [0,1,0,13] ?_;intro _ e m;apply wg 3;simp[e];refine WA m 999 999 [] [3,5,6] (λa f=>f.1 1=sI a1/\f.1 36=sB a) [] (λb _ g m=>?_) ?_
 .simp[e];refine pX m Cp λ_ m=>?_;apply Ir e m<;>intro e m
  .exact iJ
  simp[e];refine pX m xV λ_ m=>?_;exact iJ
 intro _ a e m;exact aa
@[reducible,instance] def afr:=gl 307 @Re
def xq:C2 prog 277 m4 (t2 Fm.av sI) Fm.av Tm.av:=by
 refine v2 func277 λT H a0 a1 r m e=>?_;rw[m4] at m;exact aa
@[reducible,instance] def afa:=gl 277 @xq
def Rp{n:Nat}:C2 prog 308 (vE n) sB Tm.av sI:=by
 refine i2 λn ih=>u2 3 func308 λT H a0 a1 r m e=>?_;rw[vE] at m;simp[e];refine wA 999 999 [1] [2] (λf=>f.1 15=sB (fq (eo a0.aop 1) (eo a0.aos a1) false)) [7,0] (λ_ g=>?_) ?_
 .exact aa
 intro _ e m;exact Wb e m 999 19 [1,17,18] [2] nI
@[reducible,instance] def afo:=gl 308 @Rp
def Q5{n:Nat}:C2 prog 279 (qT n) sB Fm.av sI:=by
 refine i2 λn ih=>v2 func279 λT H a0 a1 r m e=>?_;rw[qT] at m;simp[e];refine Wa e m 999 12 [1,10,11] [2] nI [11,0] ?_;intro _ _ e m;exact Wb e m 999 23 [1,21,22] [2] nI
@[reducible,instance] def afU:=gl 279 @Q5
def J4{n:Nat}:C1 prog 280 (np n) (t2 Fm.av sI) Fm.av:=by
 refine i1 λn ih=>v1 func280 λT H a0 r m e=>?_;rw[np] at m;simp[e];refine Tc e m 999 22 [20,21] [1,2] [40] (λs2=>s2) (λs2 c f=>bx f 4 [sI a0.aop,sI a0.dM.aop,sL Ty.av a0.dM.aoq,sT c Tm.av s2,nL]) [11,0] (λu _ s2 o _ _ _ _ E e m z p=>?_) ?_
 .have⟨c,E,i⟩:=E;refine sw [20,0,3,7,9,0] ?_;intro s _ _ e m;refine Ao (f:=Tm.av) s2 [s] i x' e.2 ?_;simp[e];cases m;exact p _ _ _ ⟨(.loc 40 (o.fy 40+1)),abq,(On 40)⟩ z
 intro o s2 c i e m;refine Wr e m 999 (λq j f h=>∃a b,(h=H/\f.1 44=sL Fm.av a0.aoq/\f.1 45=sI (eE a0.aoq)/\f.1 46=sI q/\bx f 2 [sI 0,sI 0,nL,nL,nL]/\bx f 4 [sI a0.aop,sI a0.dM.aop,sL Ty.av a0.dM.aoq,sT a Tm.av s2,sT b Fm.av j])/\Ow f [40] a s2/\Ow f [63] b j) (by exact⟨c,.full,abq,i,hI.full⟩) (λj l _ _ E m=>?_) (λq _ j l _ _ _ _ E e m z p=>?_)
 .have⟨a,b,E,k,d⟩:=E;exact aa
 have⟨a,b,E,k,d⟩:=E;refine sw [10,0,16,7,9,0] ?_;intro t _ e m;refine Ao (f:=Fm.av) j [t] d La e.2 ?_;simp[e];cases m;exact p _ _ _ ⟨a,(.loc 63 (l.fy 63+1)),abq,(hI.other k d aal aal),(On 63)⟩ z
@[reducible,instance] def Yh:=gl 280 @J4
def tp:C3 prog 215 iY sI dT.av Tm.av sI:=by
 refine v3 func215 λT H a0 a1 a2 r m e=>?_;rw[iY] at m;exact aa
@[reducible,instance] def Pj:=gl 215 @tp
def S4:C2 prog 214 ye Fm.av Tm.av Tm.av:=by
 refine v2 func214 λT H a0 a1 r m e=>?_;rw[ye] at m;refine sw [0,4,0,4] ?_;intro a b e m;have e:=Aj e (show AV.agg [sI 1,sI 0,AV.slice .gK [],AV.slice .gK [Tm.av a,Tm.av b],AV.slice .gK []]=Fm.av (Fm.mk 1 (Ty.mk 0 []) [a,b] []) by rw[Fm.fi];rfl);exact au
def HF{n:Nat}:C1 prog 150 (jU n) sB Fm.av:=by
 refine i1 λn ih=>u1 8 func150 λT H a0 r m e=>?_;rw[jU] at m;refine sw [0,13] ?_;intro e m;refine sg 3 [0,14] ?_;intro e m;apply wg 1;simp[e];refine WB m 999 999 [] [] (λv4 f=>f.1 2=sB v4) λb _ g m=>?_;refine sw [8,0,15] ?_;intro c _ e m;apply Iq e m<;>intro e m
 .exact iJ
 refine sw [8,0,15] ?_;intro a _ e m;exact iJ
@[reducible,instance] def X0:=gl 150 @HF
def Hy:C1 prog 113 nW (t2 sB sI) Fm.av:=by
 refine v1 func113 λT H a0 r m e=>?_;rw[nW] at m;exact aa
@[reducible,instance] def XN:=gl 113 @Hy
def zD:∀(n:Nat),C2 prog 110 (eS n) (t2 tk.av sI) dT.av Pf.av/\C2 prog 148 (fR n) (t3 Fm.av (sL sI) sI) dT.av Pf.av/\C2 prog 208 (pT n) (t3 Fm.av (sL sI) sI) dT.av Pf.av/\C2 prog 209 (qM n) (t3 Fm.av (sL sI) sI) dT.av Pf.av/\C2 prog 210 (qE n) (t3 Fm.av (sL sI) sI) dT.av Pf.av/\C2 prog 211 (oS n) (t3 Fm.av (sL sI) sI) dT.av Pf.av/\C2 prog 212 (s9 n) (t3 Fm.av (sL sI) sI) dT.av Pf.av/\C2 prog 213 (qZ n) (t3 Fm.av (sL sI) sI) dT.av Pf.av/\C2 prog 216 (od n) (t3 Fm.av (sL sI) sI) dT.av Pf.av/\C2 prog 217 (qe n) (t3 Fm.av (sL sI) sI) dT.av Pf.av/\C4 prog 278 (gd n) (t2 (sL sI) sI) dT.av Pf.av Fm.av Tm.av:=by
  intro n
  induction n with
  |zero=>
    refine⟨?_,?_,?_,?_,?_,?_,?_,?_,?_,?_,?_⟩
    all_goals(intro _ _;intros;rename_i hm;cases hm)
  |succ n ih=>
 refine⟨?_,?_,?_,?_,?_,?_,?_,?_,?_,?_,?_⟩
 .intro T H a0 a1 r hm;rw[eS] at hm;have e:=trivial;refine wi aou func110 [] [] 7 ?_;simp[e];refine W7 hm ih.2.1 λK _ _ m=>?_;refine sw [0,13] ?_;intro e m;refine sg 5 [0,1,0,13] ?_;intro G e m;apply wg 2;simp[e];refine C9 m 999 999 (λL f h=>∃v6 c,(h=H/\f.1 7=sT c sI v6/\bx f 4 [sI 0,sI 0,nL,nL,nL,nL]/\bx f 6 (Fm.av K).cells)/\L v6=some r) ?_ (λL _ g m=>?_)
  .rintro _ _ ⟨v6,c,E,m⟩;exact aa
  refine sw [0,2] ?_;intro _ w e m;apply Iq e m<;>intro e m
  .simp[e];exact g _ _ ⟨_,.gK,abq,m⟩
  simp[e];exact g _ _ ⟨_,.full,abq,m⟩
 .intro T H a0 a1 r hm;rw[fR] at hm;have e:=trivial;refine wi aou func148 [] [] 10 ?_;have m:=hm;refine sw [0,13] ?_;intro e m;refine sg 3 [0,13] ?_;intro e m;apply wg 3;simp[e];apply Iq e m<;>intro e m
  .refine sg 999 [8,0] ?_;intro W e m;refine sh m ih.1 λ_ _ m=>?_;refine sw [7,8,0] ?_;intro X e m;refine sh m ih.1 λ_ _ m=>?_;simp[e];refine rm m Gz λ_ m=>?_;simp[e];refine rm m (lE T) λ_ m=>?_;exact au
  apply wg 1;simp[e];refine wj 999 0 (λf h=>h=H/\f.1 22=sI a1.aop/\f.1 93=sB (fq (eo a1.aop 4) true (eo a1.aop 5))/\bx f 2 (dT.av a0).cells/\bx f 3 (Pf.av a1).cells/\bx f 4 [sI 0,sI 0,nL,nL,nL]/\bx f 7 [sI 0,sI 0,nL,nL,nL]) (λ_ g=>?_) ?_
  .rcases Pb (eo a1.aop 4) e with e|e
   .exact aj
   exact aj
  rintro _ _ E;have e:=Aj e E;apply Iq e m<;>intro e m
  .refine sg 999 [8,0] ?_;intro Y e m;refine sh m ih.1 λ_ _ m=>?_;refine sw [7,7,8] ?_;intro Z e m;exact au
  apply wg 3;simp[e];apply Iq e m<;>intro e m
  .refine sg 999 [8,0] ?_;intro ad e m;refine rm m CC λ_ m=>?_;refine sw [7,0] ?_;intro e m;refine pX m ni λ_ m=>?_;refine sw [7,0] ?_;intro e m;refine rm m nF λ_ m=>?_;refine sw [8,0] ?_;intro ae e m;refine sh m ih.1 λ_ _ m=>?_;simp[e];refine rm m Gz λ_ m=>?_;exact au
  apply wg 3;simp[e];apply Iq e m<;>intro e m
  .refine sg 999 [8,0] ?_;intro af e m;refine sh m ih.1 λ_ _ m=>?_;refine sw [7,7,8,0] ?_;intro ah e m;refine sh m ih.1 λ_ _ m=>?_;refine sw [7,8,0] ?_;intro ai e m;refine rm m (lE T) λ_ m=>?_;refine sw [8,0] ?_;intro ak e m;refine rm m Cu λ_ m=>?_;exact au
  apply wg 1;simp[e];refine wj 999 0 (λf h=>h=H/\f.1 22=sI a1.aop/\f.1 218=sB (fq (eo a1.aop 8) true (eo a1.aop 12))/\bx f 2 (dT.av a0).cells/\bx f 3 (Pf.av a1).cells/\bx f 4 [sI 0,sI 0,nL,nL,nL]) (λ_ g=>?_) ?_
  .rcases Pb (eo a1.aop 8) e with e|e
   .exact aj
   exact aj
  rintro _ _ E;have e:=Aj e E;apply Iq e m<;>intro e m
  .apply wg 999;simp[e];refine W7 m ih.2.2.1 λ_ _ _ m=>?_;exact au
  apply wg 1;simp[e];refine wj 999 0 (λf h=>h=H/\f.1 22=sI a1.aop/\f.1 227=sB (fq (eo a1.aop 9) true (eo a1.aop 13))/\bx f 2 (dT.av a0).cells/\bx f 3 (Pf.av a1).cells/\bx f 4 [sI 0,sI 0,nL,nL,nL]) (λ_ g=>?_) ?_
  .rcases Pb (eo a1.aop 9) e with e|e
   .exact aj
   exact aj
  rintro _ _ E;have e:=Aj e E;apply Iq e m<;>intro e m
  .apply wg 999;simp[e];refine W7 m ih.2.2.2.1 λ_ _ _ m=>?_;exact au
  apply wg 1;simp[e];refine wj 999 0 (λf h=>h=H/\f.1 22=sI a1.aop/\f.1 236=sB (fq (eo a1.aop 10) true (eo a1.aop 14))/\bx f 2 (dT.av a0).cells/\bx f 3 (Pf.av a1).cells/\bx f 4 [sI 0,sI 0,nL,nL,nL]) (λ_ g=>?_) ?_
  .rcases Pb (eo a1.aop 10) e with e|e
   .exact aj
   exact aj
  rintro _ _ E;have e:=Aj e E;apply Iq e m<;>intro e m
  .apply wg 999;simp[e];refine W7 m ih.2.2.2.2.1 λ_ _ _ m=>?_;exact au
  apply wg 1;simp[e];refine wj 999 999 (λf h=>h=H/\f.1 22=sI a1.aop/\f.1 245=sB (fq (eo a1.aop 11) true (eo a1.aop 15))/\bx f 2 (dT.av a0).cells/\bx f 3 (Pf.av a1).cells/\bx f 4 [sI 0,sI 0,nL,nL,nL]) (λ_ g=>?_) ?_
  .rcases Pb (eo a1.aop 11) e with e|e
   .exact aj
   exact aj
  rintro _ _ E;have e:=Aj e E;apply Iq e m<;>intro e m
  .simp[e];refine W7 m ih.2.2.2.2.2.1 λ_ _ _ m=>?_;exact au
  apply Iq e m<;>intro e m
  .simp[e];refine W7 m ih.2.2.2.2.2.2.1 λ_ _ _ m=>?_;exact au
  apply Iq e m<;>intro e m
  .simp[e];refine W7 m ih.2.2.2.2.2.2.2.1 λ_ _ _ m=>?_;exact au
  apply Iq e m<;>intro e m
  .refine sw [8,0] ?_;intro an e m;refine rm m S4 λ_ m=>?_;simp[e];refine rm m tp λ_ m=>?_;exact au
  apply Iq e m<;>intro e m
  .simp[e];refine W7 m ih.2.2.2.2.2.2.2.2.1 λ_ _ _ m=>?_;exact au
  simp[e];refine W7 m ih.2.2.2.2.2.2.2.2.2.1 λ_ _ _ m=>?_;exact au
 .intro T H a0 a1 r hm;rw[pT] at hm;have e:=trivial;refine wi aou func208 [] [] 999 ?_;have m:=hm;refine sw [0,1,7,0,4,8,0] ?_;intro _ _ w e m;refine sh m ih.1 λ_ _ m=>?_;refine Il e m λe m=>?_;apply Iq e m<;>intro e m
  .refine sw [0,4,0,4] ?_;intro x y e m;exact au
  exact aa
 .intro T H a0 a1 r hm;rw[qM] at hm;have e:=trivial;refine wi aou func209 [] [] 9 ?_;have m:=hm;refine sw [8,0,2,0,13] ?_;intro I ao _ e m;refine sg 7 [8,0] ?_;intro x6 e m;refine sh m ih.1 λJ _ m=>?_;refine sw [0,13] ?_;intro e m;refine sg 4 [0,4,0,4,0] ?_;intro _ A e m;refine wA 999 999 [] [4,7,8,10] (λf=>f.1 11=sI (fq (eo a1.aop 13) 6 4)/\f.1 12=sL sI (fq (eo a1.aop 13) J.lx A)) [] (λ_ g=>?_) ?_
  .rcases Pb (eo a1.aop 13) e with e|e
   .exact aj
   exact aj
  intro _ e m;exact aa
 .intro T H a0 a1 r hm;rw[qE] at hm;have e:=trivial;refine wi aou func210 [] [] 9 ?_;have m:=hm;refine sw [8,8,0,1,0,13] ?_;intro o G _ e m;apply wg 4;simp[e];refine wA 999 3 [] [2,3,4,7,8] (λf=>f.1 10=sI (fq (eo a1.aop 14) 7 5)) [0,13] (λ_ g=>?_) ?_
  .rcases Pb (eo a1.aop 14) e with e|e
   .exact aj
   exact aj
  intro _ e m;refine sg 7 [0,2,0,13] ?_;intro _ w e m;refine sg 5 [0,1,0,14] ?_;intro q e m;refine sg 4 [8,8,0] ?_;intro k x e m;refine sh m ih.2.2.2.2.2.2.2.2.2.2 λy M m=>?_;simp[e];refine WB m 999 999 [12] [4,7] (λB f=>f.1 13=sL sI B) λN _ g m=>?_;apply Ir e m<;>intro e m
  .exact iJ
  simp[e];refine pX m vm λ_ m=>?_;simp[e];refine pX m (lE T) λ_ m=>?_;exact iJ
 .intro T H a0 a1 r hm;rw[oS] at hm;have e:=trivial;refine wi aou func211 [] [] 7 ?_;have⟨C,e,m⟩:=Kv e hm;simp[e];refine sh m ih.1 λa _ m=>?_;refine sw [0,13] ?_;intro e m;apply wg 4;simp[e];refine wA 999 3 [] [2,3,4,7] (λf=>f.1 9=sI (fq (eo a1.aop 15) 7 5)) [0,13] (λ_ g=>?_) ?_
  .rcases Pb (eo a1.aop 15) e with e|e
   .exact aj
   exact aj
  intro _ e m;refine sg 7 [0,1,0,13] ?_;intro _ e m;refine sg 7 [0,4,8,0,4,8,0] ?_;intro x y _ O e m;refine sh m ih.1 λb _ m=>?_;refine sw [0,13] ?_;intro e m;apply wg 4;simp[e];refine Wj m 999 1 (λs f h=>∃d v127 i j v130,(h=H/\f.1 9=sI (fq (eo a1.aop 15) 7 5)/\bx f 4 [sI 0,sI 0,nL,nL,nL]/\bx f 7 [sI a.eh.aop,sI a.eh.dM.aop,sL Ty.av a.eh.dM.aoq,sL Tm.av a.eh.ek,sL Fm.av a.eh.aoq,sL sI a.lx]/\bx f 11 [sI b.eh.aop,sI b.eh.dM.aop,sL Ty.av b.eh.dM.aoq,sL Tm.av b.eh.ek,sL Fm.av b.eh.aoq,sL sI b.lx]/\bx f 12 [sI d,sI v127,sL Ty.av i,sL Tm.av j,sL Fm.av v130])/\s d v127 i j v130=some r) (λs _ g m=>?_) ?_
  .refine sw [0,1] ?_;intro _ e m;apply Ir e m<;>intro e m
   .simp[e];exact g _ _ ⟨_,_,_,_,_,abq,m⟩
   refine sw [0,2,7,0,1,7] ?_;intro _ _ _ e m;simp[e];exact g _ _ ⟨_,_,_,_,_,abq,m⟩
  rintro _ _ ⟨d,v127,i,j,v130,E,m⟩;have e:=Aj e E;simp[e];refine Wj m 999 999 (λt f h=>∃v139,(h=H/\f.1 87=sB v139/\bx f 4 [sI 0,sI 0,nL,nL,nL]/\bx f 7 [sI a.eh.aop,sI a.eh.dM.aop,sL Ty.av a.eh.dM.aoq,sL Tm.av a.eh.ek,sL Fm.av a.eh.aoq,sL sI a.lx]/\bx f 11 [sI b.eh.aop,sI b.eh.dM.aop,sL Ty.av b.eh.dM.aoq,sL Tm.av b.eh.ek,sL Fm.av b.eh.aoq,sL sI b.lx]/\bx f 12 [sI d,sI v127,sL Ty.av i,sL Tm.av j,sL Fm.av v130])/\t v139=some r) (λt _ g m=>?_) ?_
  .apply Ir e m<;>intro e m
   .exact iJ
   simp[e];refine pX m Gk λ_ m=>?_;exact iJ
  rintro _ _ ⟨v139,E,m⟩;refine sw [10,7,0] ?_;intro e m;refine rm m wF λ_ m=>?_;simp[e];refine rm m rI λ_ m=>?_;simp[e];refine rm m (lE T) λ_ m=>?_;exact au
 .intro T H a0 a1 r hm;rw[s9] at hm;have e:=trivial;refine wi aou func212 [] [] 999 ?_;have m:=hm;refine sw [8,8,0,4,9,0] ?_;intro o G l e m;refine Ad (f:=Ty.av) a0.aot [l] (hI.full (D:=[])) Fp e.2 ?_;refine sw [0,4,7,0,1,7,8,0,4,0] ?_;intro _ k u v e m;refine sh m ih.2.2.2.2.2.2.2.2.2.2 λ_ _ m=>?_;refine sw [7,0] ?_;intro e m;refine pX m ni λ_ m=>?_;refine sw [7,0] ?_;intro e m;refine rm m A5 λ_ m=>?_;simp[e];refine rm m pO λ_ m=>?_;simp[e];refine rm m nF λ_ m=>?_;refine sw [8,0] ?_;intro P e m;refine rm m wF λ_ m=>?_;simp[e];refine rm m xe λ_ m=>?_;simp[e];refine rm m F9 λ_ m=>?_;simp[e];refine sh m ih.2.2.2.2.2.2.2.2.2.2 λ_ _ m=>?_;refine sw [7,0] ?_;intro e m;refine Ar m xq λ_ _ m=>?_;simp[e];refine rm m vm λ_ m=>?_;simp[e];refine rm m (lE T) λ_ m=>?_;simp[e];refine rm m rI λ_ m=>?_;simp[e];refine rm m (lE T) λ_ m=>?_;exact au
 .intro T H a0 a1 r hm;rw[qZ] at hm;have e:=trivial;refine wi aou func213 [] [] 999 ?_;have m:=hm;refine sw [8,8,0,4,9,0] ?_;intro o G l e m;refine Ad (f:=Ty.av) a0.aot [l] (hI.full (D:=[])) Fp e.2 ?_;refine sw [0,4,7,0,1,7,8,0,4,0] ?_;intro _ k u v e m;refine sh m ih.2.2.2.2.2.2.2.2.2.2 λ_ _ m=>?_;refine sw [7,0] ?_;intro e m;refine pX m ni λ_ m=>?_;refine sw [7,0] ?_;intro e m;refine rm m A5 λ_ m=>?_;simp[e];refine rm m DE λ_ m=>?_;simp[e];refine rm m pO λ_ m=>?_;simp[e];refine rm m wF λ_ m=>?_;simp[e];refine rm m nF λ_ m=>?_;refine sw [8,0] ?_;intro Q e m;refine rm m wF λ_ m=>?_;simp[e];refine rm m xe λ_ m=>?_;simp[e];refine rm m xe λ_ m=>?_;simp[e];refine rm m F9 λ_ m=>?_;simp[e];refine sh m ih.2.2.2.2.2.2.2.2.2.2 λ_ _ m=>?_;refine sw [7,0] ?_;intro e m;refine Ar m xq λ_ _ m=>?_;simp[e];refine rm m vm λ_ m=>?_;simp[e];refine rm m (lE T) λ_ m=>?_;simp[e];refine rm m rI λ_ m=>?_;simp[e];refine rm m (lE T) λ_ m=>?_;exact au
 .intro T H a0 a1 r hm;rw[od] at hm;have e:=trivial;refine wi aou func216 [] [] 999 ?_;have m:=hm;refine sw [8,0,4,9,0] ?_;intro I q e m;refine Ad (f:=Ty.av) a0.aot [q] (hI.full (D:=[])) Fp e.2 ?_;refine sw [0,4,7,8,0] ?_;intro _ R e m;refine sh m ih.1 λ_ k m=>?_;refine sw [7,7,8,8,0] ?_;intro u v e m;refine sh m ih.2.2.2.2.2.2.2.2.2.2 λ_ _ m=>?_;refine sw [7,8,0] ?_;intro S e m;refine sh m xq λ_ _ m=>?_;exact au
 .intro T H a0 a1 r hm;rw[qe] at hm;have e:=trivial;refine wi aou func217 [] [] 7 ?_;have⟨C,e,m⟩:=Kv e hm;simp[e];refine sh m ih.1 λa _ m=>?_;refine sw [0,13] ?_;intro e m;apply wg 3;simp[e];refine WA m 999 999 [] [4,7] (λF f=>f.1 38=sB F) [] (λU _ g m=>?_) ?_
  .apply Iq e m<;>intro e m
   .exact iJ
   have⟨V,e,m⟩:=Kv e m;exact iJ
  intro _ F e m;exact aa
 .intro T H a0 a1 a2 a3 r hm;rw[gd] at hm;have e:=trivial;refine wi aou func278 [] [] 999 ?_;simp[e];refine Ar hm ih.1 λ_ K m=>?_;exact aa
def zW{n:Nat}:C2 prog 110 (eS n) (t2 tk.av sI) dT.av Pf.av:=(zD n).1
@[reducible,instance] def Pl:=gl 110 @zW
def Lt:C3 prog 71 ny (t2 tk.av sI) (sL Fm.av) Sq.av Pf.av:=by
 refine v3 func71 λT H a0 a1 a2 r m e=>?_;rw[ny] at m;refine sw [0,1,7,0,1,7,0,2,7,0,4,9,0] ?_;intro _ _ a _ _ e m;refine Ad (f:=sI) [] a.lx (hI.full (D:=[])) E9 e.2 ?_;exact au
@[reducible,instance] def aca:=gl 71 @Lt
def uz:C1 prog 73 gA sB Fm.av:=by
 refine v1 func73 λT H a0 r m e=>?_;rw[gA] at m;exact aa
@[reducible,instance] def aeI:=gl 73 @uz
def Np:C0 prog 218 tC Ty.av:=by
 refine v0 func218 λT H r m e=>?_;rw[tC] at m;exact au
@[reducible,instance] def aew:=gl 218 @Np
def N9:C2 prog 220 qt Ty.av Ty.av Ty.av:=by
 refine v2 func220 λT H a0 a1 r m e=>?_;rw[qt] at m;have e:=Aj e (show AV.agg [sI 3,AV.slice .gK [Ty.av a0,Ty.av a1]]=Ty.av (Ty.mk 3 [a0,a1]) by rw[Ty.fi];rfl);exact au
@[reducible,instance] def adH:=gl 220 @N9
def NG:C1 prog 282 y0 (t2 sI sI) Ty.av:=by
 refine v1 func282 λT H a0 r m e=>?_;rw[y0] at m;exact aa
@[reducible,instance] def aem:=gl 282 @NG
def N3:C2 prog 219 nU (t2 Ty.av sI) Ty.av sI:=by
 refine v2 func219 λT H a0 a1 r m e=>?_;rw[nU] at m;exact aa
@[reducible,instance] def aez:=gl 219 @N3
def QW:C2 prog 221 r5 Ty.av Ty.av Ty.av:=by
 refine v2 func221 λT H a0 a1 r m e=>?_;rw[r5] at m;have e:=Aj e (show AV.agg [sI 4,AV.slice .gK [Ty.av a0,Ty.av a1]]=Ty.av (Ty.mk 4 [a0,a1]) by rw[Ty.fi];rfl);exact au
@[reducible,instance] def afu:=gl 221 @QW
def TY{n:Nat}:C1 prog 149 (lf n) (t2 Ty.av sI) Fm.av:=by
 refine i1 λn ih=>v1 func149 λT H a0 r m e=>?_;rw[lf] at m;exact aa
@[reducible,instance] def agQ:=gl 149 @TY
def Pd:C1 prog 112 j9 (t2 Ty.av sI) Fm.av:=by
 refine v1 func112 λT H a0 r m e=>?_;rw[j9] at m;exact aa
@[reducible,instance] def adM:=gl 112 @Pd
def Kg:C2 prog 72 vr sI (sL Fm.av) (sL Tm.av):=by
 refine v2 func72 λT H a0 a1 r m e=>?_;rw[vr] at m;refine sw [7,0] ?_;intro e m;refine Wn m 999 (λs1 f h=>h=H/\f.1 0=sL Fm.av a0/\f.1 1=sL Tm.av a1/\f.1 5=sI s1) abq (λs1 _ _ _ _ _ E m z p=>?_);have e:=Aj e E;apply Ir e m<;>intro e m
 .cases m;have m:=Qb z
  try dsimp only at m
  exact au
 exact aa
@[reducible,instance] def aax:=gl 72 @Kg
def zU(T:eK){H:dV}{a0:dS}{f:Int}{a:dS}{c:Nat}(b:H[c]?=some [sL Fm.av a0.lemmas,sL Tm.av a0.ek,sI a0.next])(hm:eM a0=some (f,a)):eG prog T 114 [AV.fg c 0] H (sI f) (gk H c [sL Fm.av a.lemmas,sL Tm.av a.ek,sI a.next]):=by
 rw[eM] at hm;have d:=eZ b;refine fv.Kw b ?_;have e:=d;refine wi aou func114 [] [] 999 ?_;cases hm;simp[e]
@[reducible,instance] def Pp:=gl 114 @zU
def zQ(T:eK){H:dV}{a0:dS}{a1:Sq}{Z:eA}{r1:List Int}{B:dS}{C:Nat}(N:H[C]?=some [sL Fm.av a0.lemmas,sL Tm.av a0.ek,sI a0.next])(hm:mb a0 a1=some (Z,r1,B)):eG prog T 74 [AV.fg C 0,Sq.av a1] H (AV.tuple [eA.av Z,sL sI r1]) (gk H C [sL Fm.av B.lemmas,sL Tm.av B.ek,sI B.next]):=by
 rw[mb] at hm;have S:=eZ N;refine fv.Kw N ?_;have e:=S;refine wi aou func74 [] [] 999 ?_;simp[e];refine Wn hm 999 (λs1 f h=>∃l n,(h=gk H C [sL Fm.av s1.2.2.2.lemmas,sL Tm.av s1.2.2.2.ek,sI s1.2.2.2.next]/\f.1 0=AV.fg C 0/\f.1 7=sT l sI s1.1/\f.1 8=sI s1.2.1/\bx f 3 (Sq.av a1).cells/\bx f 4 [nL,nL,nL,nL]/\bx f 6 [sL Ty.av a1.aot,sL Fm.av a1.aow,sT n Tm.av s1.2.2.1,nL])/\Ow f [24] l s1.1/\Ow f [33] n s1.2.2.1) (by exact⟨.full,.full,abq,hI.full,hI.full⟩) (λs1 O _ _ _ _ E m z p=>?_);have⟨v9,v10,v11,v12⟩:=s1;have⟨l,n,E,t,w⟩:=E;have e:=Aj e E;dsimp only[zc]at m;apply Iq e m<;>intro e m
 .refine sw [0,2,9,0] ?_;intro U d14 e m;refine Ao (f:=sI) v9 [U] t E9 e.2 ?_;refine sw [8,0,4,9,0] ?_;intro ad V e m;refine Ad (f:=Tm.av) v11 [V] (hI.other w t aal aal) x' e.2 ?_;simp[e];cases m;exact p _ _ _ ⟨(.loc 24 (O.fy 24+1)),(.loc 33 (O.fy 33+1)),abq,(hI.other (hI.new (D:=[24]) (d:=24) aal) (hI.other w t aal aal) aal aal),(On 33)⟩ z
 cases m;have m:=Qb z;dsimp only[zc]at m;simp[e];refine Wn m 3 (λk f h=>∃c a b,(h=gk H C [sL Fm.av k.2.2.2.lemmas,sL Tm.av k.2.2.2.ek,sI k.2.2.2.next]/\f.1 0=AV.fg C 0/\f.1 7=sT c sI k.1/\f.1 9=sI k.2.1/\bx f 3 (Sq.av a1).cells/\bx f 4 [nL,nL,nL,nL]/\bx f 6 [sL Ty.av a1.aot,sL Fm.av a1.aow,sT a Tm.av v11,sT b Tm.av k.2.2.1])/\Ow f [24,56] c k.1/\Ow f [33] a v11/\Ow f [61] b k.2.2.1) (by exact⟨l,n,.full,abq,(Om t),w,hI.full⟩) (λk P _ _ _ W E m z p=>?_);have⟨v24,X,K,Y⟩:=k;have⟨c,a,b,E,o,x,y⟩:=E;have e:=Aj e E;dsimp only[zc]at m;simp[e];apply Ir e m<;>intro e m
 .apply wg 999;cases m;have m:=Qb z;dsimp only[zc]at m;exact au
 apply wg 6;simp[e];refine C9 m 999 999 (λQ f h=>∃F v30 v31 G I J A i j q u v,(h=gk H C [sL Fm.av A.lemmas,sL Tm.av A.ek,sI A.next]/\f.1 0=AV.fg C 0/\f.1 7=sT i sI F/\f.1 9=sI X/\bx f 3 (Sq.av a1).cells/\bx f 4 [nL,nL,nL,nL]/\bx f 6 [sL Ty.av a1.aot,sL Fm.av a1.aow,sT j Tm.av v11,sT q Tm.av K]/\bx f 10 [sI v30,sI v31,sI G,sT u Ty.av I,sT v Tm.av J])/\Ow f [24,56] i F/\Ow f [33] j v11/\Ow f [61] q K/\Q F v30 v31 G I J A=some W) ?_ (λQ _ g m=>?_)
 .rintro R _ ⟨F,v30,v31,G,I,J,A,i,j,q,u,v,E,L,M,r,m⟩;refine sw [10,9,0] ?_;intro e m;refine Ao (f:=Tm.av) K [(Tm.mk v30 v31 (Ty.mk G I) J)] r x' e.2 ?_;simp[e];cases m;exact p _ _ _ ⟨i,j,(.loc 61 (R.fy 61+1)),abq,(hI.other L r aal aal),(hI.other M r aal aal),(On 61)⟩ z
 refine sw [8,0,1] ?_;intro ae _ e m;apply Ir e m<;>intro e m
 .simp[e];exact g _ _ ⟨v24,0,0,0,[],[],Y,c,a,b,.full,.full,abq,o,x,y,m⟩
 refine sw [0,2,0,1,9,0] ?_;intro _ d42 s e m;refine Ao (f:=sI) v24 [s.aos] o E9 e.2 ?_;simp[e];exact g _ _ ⟨(fW v24 [s.aos]),s.aop,s.aos,s.dM.aop,s.dM.aoq,s.aoq,d42,(.loc 56 (P.fy 56+1)),a,b,.gK,.gK,abq,(On 56),(hI.other x o aal aal),(hI.other y o aal aal),m⟩
@[reducible,instance] def Po:=gl 74 @zQ
def NO:C2 prog 222 oW (sL Tm.av) (sL Tm.av) Tm.av:=by
 refine v2 func222 λT H a0 a1 r m e=>?_;rw[oW] at m;refine sw [9,0] ?_;intro e m;refine Ad (f:=Tm.av) [] a0 (hI.full (D:=[])) x' e.2 ?_;refine sw [9,0] ?_;intro e m;refine Ad (f:=Tm.av) (fW [] a0) [a1] (hI.new (D:=[6]) (d:=6) aal) x' e.2 ?_;exact au
@[reducible,instance] def ac1:=gl 222 @NO
def zV(T:eK):∀(n:Nat),(∀{H:dV} {a0:dS} {a1:Tm} {a2:List Tm} {l:Tm} {b:dS} {j:Nat} (d:H[j]?=some [sL Fm.av a0.lemmas,sL Tm.av a0.ek,sI a0.next]) (hm:eP n a0 a1 a2=some (l,b)),eG prog T 151 [AV.fg j 0,Tm.av a1,sL Tm.av a2] H (Tm.av l) (gk H j [sL Fm.av b.lemmas,sL Tm.av b.ek,sI b.next])):=by
  intro n
  induction n with
  |zero=>
   skip
   all_goals(intro _ _;intros;rename_i hm;cases hm)
  |succ n ih=>
 intro H a0 a1 a2 l b j d hm;rw[eP] at hm;have o:=eZ d;refine fv.Kw d ?_;have e:=o;refine wi aou func151 [] [] 999 ?_;have m:=hm;refine sw [13] ?_;intro e m;apply Iq e m<;>intro e m
 .refine sw [0,2,8,0,4,0,4,0] ?_;intro s d3 x _ _ e m;refine sh m (ih abq) λt d8 m=>?_;have e:=Aj e (show AV.agg [sI a1.aop,sI s,sI a1.dM.aop,sL Ty.av a1.dM.aoq,AV.slice .gK [Tm.av t]]=Tm.av (Tm.mk a1.aop s a1.dM [t]) by rw[Tm.fi];rfl);exact au
 simp[e];refine Wn m 999 (λc f h=>∃a,(h=gk H j [sL Fm.av c.2.2.lemmas,sL Tm.av c.2.2.ek,sI c.2.2.next]/\f.1 0=AV.fg j 0/\f.1 2=sL Tm.av a2/\f.1 8=sI c.1/\bx f 4 (Tm.av a1).cells/\bx f 6 [sI 0,sI 0,sI 0,nL,nL]/\bx f 7 [sI a1.aop,sI 0,sI a1.dM.aop,sL Ty.av a1.dM.aoq,sT a Tm.av c.2.1])/\Ow f [64] a c.2.1) (by exact⟨.full,abq,hI.full⟩) (λc k _ _ _ _ E m z p=>?_);have⟨u,q,v⟩:=c;have⟨a,E,i⟩:=E;have e:=Aj e E;dsimp only[A']at m;apply Ir e m<;>intro e m
 .cases m;have m:=Qb z;dsimp only[A']at m;exact au
 refine sw [8,0] ?_;intro w e m;refine sh m (ih abq) λr d22 m=>?_;refine sw [9,0] ?_;intro e m;refine Ad (f:=Tm.av) q [r] i x' e.2 ?_;simp[e];cases m;exact p _ _ _ ⟨(.loc 64 (k.fy 64+1)),abq,(On 64)⟩ z
def AQ(T:eK){H:dV}{a0:dS}{a1:Tm}{a2:List Tm}{d:Tm}{a:dS}{b:Nat}(c:H[b]?=some [sL Fm.av a0.lemmas,sL Tm.av a0.ek,sI a0.next]){n:Nat}(hm:eP n a0 a1 a2=some (d,a)):eG prog T 151 [AV.fg b 0,Tm.av a1,sL Tm.av a2] H (Tm.av d) (gk H b [sL Fm.av a.lemmas,sL Tm.av a.ek,sI a.next]):=(zV T n) c hm
@[reducible,instance] def QV:=gl 151 @AQ
def ym(T:eK){H:dV}{a0:dS}{a1:eA}{a2:Pf}{f:Fm}{a:dS}{c:Nat}(b:H[c]?=some [sL Fm.av a0.lemmas,sL Tm.av a0.ek,sI a0.next])(hm:ft a0 a1 a2=some (f,a)):eG prog T 152 [AV.fg c 0,eA.av a1,Pf.av a2] H (Fm.av f) (gk H c [sL Fm.av a.lemmas,sL Tm.av a.ek,sI a.next]):=by
 rw[ft] at hm;have d:=eZ b;refine fv.Kw b ?_;have e:=d;refine wi aou func152 [] [(1,true,[])] 999 ?_;have m:=hm;exact aa
@[reducible,instance] def Mr:=gl 152 @ym
def JU:C3 prog 153 iq eA.av eA.av Fm.av Tm.av:=by
 refine v3 func153 λT H a0 a1 a2 r m e=>?_;rw[iq] at m;refine sw [0,4,9,0] ?_;intro _ e m;refine Ad (f:=Fm.av) [] a0.ir.aow (hI.full (D:=[])) La e.2 ?_;refine sw [9,0] ?_;intro e m;refine Ad (f:=Fm.av) (fW [] a0.ir.aow) [a1] (hI.new (D:=[21]) (d:=21) aal) La e.2 ?_;exact au
@[reducible,instance] def Zv:=gl 153 @JU
def RI:C3 prog 154 ji Tm.av Ty.av sI Tm.av:=by
 refine v3 func154 λT H a0 a1 a2 r m e=>?_;rw[ji] at m;have e:=Aj e (show AV.agg [sI 2,sI a1,sI a0.aop,sL Ty.av a0.aoq,AV.slice .gK [Tm.av a2]]=Tm.av (Tm.mk 2 a1 a0 [a2]) by rw[Tm.fi];rfl);exact au
@[reducible,instance] def afk:=gl 154 @RI
def QZ:C2 prog 29 hW Tm.av Tm.av Tm.av:=by
 refine v2 func29 λT H a0 a1 r m e=>?_;rw[hW] at m;exact aa
@[reducible,instance] def aeK:=gl 29 @QZ
def OA:C3 prog 223 qg (t2 Fm.av sI) Fm.av sI sI:=by
 refine u3 7 func223 λT H a0 a1 a2 r m e=>?_;rw[qg] at m;refine sw [0,1,0,13] ?_;intro _ e m;apply wg 3;simp[e];refine WB m 999 999 [2] [3,6] (λv3 f=>f.1 1=sI a1/\f.1 33=sB v3) λa _ g m=>?_;apply Iq e m<;>intro e m
 .exact iJ
 apply Iq e m<;>intro e m
 .exact iJ
 apply Iq e m<;>intro e m
 .exact iJ
 apply Iq e m<;>intro e m
 .exact iJ
 simp[e];refine pX m Cp λ_ m=>?_;exact iJ
@[reducible,instance] def aea:=gl 223 @OA
def KL:C3 prog 155 h7 eA.av eA.av Ty.av Tm.av:=by
 refine v3 func155 λT H a0 a1 a2 r m e=>?_;rw[h7] at m;refine sw [0,4,9,0] ?_;intro l e m;refine Ad (f:=Ty.av) [] a0.ir.aot (hI.full (D:=[])) Fp e.2 ?_;refine sw [9,0] ?_;intro e m;refine Ad (f:=Ty.av) (fW [] a0.ir.aot) [a1] (hI.new (D:=[21]) (d:=21) aal) Fp e.2 ?_;simp[e];refine Wn m 999 (λs2 f h=>∃a b,(h=H/\f.1 8=sI s2.1/\bx f 3 [sL Ty.av a0.ir.aot,sL Fm.av a0.ir.aow,sL Tm.av a0.vars,sL Tm.av a0.aow]/\bx f 6 [nL,nL,nL,nL]/\bx f 7 [sT a Ty.av (fW (fW [] a0.ir.aot) [a1]),sT b Fm.av s2.2,sL Tm.av l,sL Tm.av a0.aow])/\Ow f [24] a (fW (fW [] a0.ir.aot) [a1])/\Ow f [50] b s2.2) (by exact⟨(.loc 24 1),.full,abq,(On 24),hI.full⟩) (λs2 j _ _ _ _ E m z p=>?_);have⟨v10,v11⟩:=s2;have⟨a,b,E,i,c⟩:=E;have e:=Aj e E;dsimp only[iB]at m;apply Ir e m<;>intro e m
 .cases m;have m:=Qb z;dsimp only[iB]at m;exact au
 refine sw [8,0,2,9,0] ?_;intro n k _ e m;refine Ao (f:=Fm.av) v11 [k] c La e.2 ?_;simp[e];cases m;exact p _ _ _ ⟨a,(.loc 50 (j.fy 50+1)),abq,(hI.other i c aal aal),(On 50)⟩ z
@[reducible,instance] def ace:=gl 155 @KL
def J'{n:Nat}:C1 prog 284 (pq n) Tm.av Ty.av:=by
 refine i1 λn ih=>v1 func284 λT H a0 r m e=>?_;rw[pq] at m;exact aa
@[reducible,instance] def YP:=gl 284 @J'
def G5:C1 prog 224 xF (t2 Tm.av sI) Ty.av:=by
 refine v1 func224 λT H a0 r m e=>?_;rw[xF] at m;exact aa
@[reducible,instance] def XQ:=gl 224 @G5
def HN:C1 prog 156 pJ Tm.av Ty.av:=by
 refine v1 func156 λT H a0 r m e=>?_;rw[pJ] at m;exact aa
@[reducible,instance] def XT:=gl 156 @HN
def P9:C0 prog 85 vz Ty.av:=by
 refine v0 func85 λT H r m e=>?_;rw[vz] at m;exact au
@[reducible,instance] def afm:=gl 85 @P9
def NB:C4 prog 225 Dr eA.av eA.av Pf.av (sL sI) Tm.av:=by
 refine v4 func225 λT H a0 a1 a2 a3 r m e=>?_;rw[Dr] at m;exact aa
@[reducible,instance] def acZ:=gl 225 @NB
def OO:C5 prog 158 zh Tm.av Pf.av Ty.av Tm.av Tm.av Tm.av:=by
 refine u5 4 func158 λT H a0 a1 a2 a3 a4 r m e=>?_;rw[zh] at m;simp[e];refine wA 999 999 [] [6,7,8,9,10] (λf=>f.1 11=sI (fq (eo a0.aop 17) 9 6)) [] (λ_ g=>?_) ?_
 .rcases Pb (eo a0.aop 17) e with e|e
  .exact aj
  exact aj
 intro _ e m;have e:=Aj e (show AV.agg [sI (fq (eo a0.aop 17) 9 6),sI 0,sI a1.aop,sL Ty.av a1.aoq,AV.slice .gK [Tm.av a2,Tm.av a3,Tm.av a4]]=Tm.av (Tm.mk (fq (eo a0.aop 17) 9 6) 0 a1 [a2,a3,a4]) by rw[Tm.fi];rfl);exact au
@[reducible,instance] def aep:=gl 158 @OO
def Nq{n:Nat}:C1 prog 159 (qn n) sI Tm.av:=by
 refine i1 λn ih=>v1 func159 λT H a0 r m e=>?_;rw[qn] at m;simp[e];refine Wn m 999 (λs1 f h=>h=H/\f.1 3=sI s1.1/\f.1 4=sI s1.2/\bx f 1 (Tm.av a0).cells) abq (λs1 _ _ _ _ _ E m z p=>?_);have⟨a,v9⟩:=s1;have e:=Aj e E;dsimp only[iB]at m;apply Ir e m<;>intro e m
 .cases m;have m:=Qb z;dsimp only[iB]at m;exact au
 exact aa
@[reducible,instance] def adY:=gl 159 @Nq
def KX:C2 prog 116 nB (t2 Tm.av sI) Tm.av sI:=by
 refine v2 func116 λT H a0 a1 r m e=>?_;rw[nB] at m;exact aa
@[reducible,instance] def abY:=gl 116 @KX
section
attribute [-simp] Go.lD.CG
@[local simp] theorem alI(x:Fm):CG prog 36 x.av 3=some (sL Fm.av x.aoq):=by rw[Fm.fX];kernel_rfl
def Cb(T:eK):∀(n:Nat),(∀{H:dV} {a0:dS} {a1:eA} {a2:Pf} {j:Tm} {k:Int} {a:dS} {b:Nat} (c:H[b]?=some [sL Fm.av a0.lemmas,sL Tm.av a0.ek,sI a0.next]) (hm:er n a0 a1 a2=some (j,k,a)),eG prog T 75 [AV.fg b 0,eA.av a1,Pf.av a2] H (AV.tuple [Tm.av j,sI k]) (gk H b [sL Fm.av a.lemmas,sL Tm.av a.ek,sI a.next]))/\(∀{H:dV} {a0:dS} {a1:eA} {a2:Pf} {j:Tm} {k:Int} {a:dS} {b:Nat} (c:H[b]?=some [sL Fm.av a0.lemmas,sL Tm.av a0.ek,sI a0.next]) (hm:kq n a0 a1 a2=some (j,k,a)),eG prog T 115 [AV.fg b 0,eA.av a1,Pf.av a2] H (AV.tuple [Tm.av j,sI k]) (gk H b [sL Fm.av a.lemmas,sL Tm.av a.ek,sI a.next]))/\(∀{H:dV} {a0:dS} {a1:eA} {a2:Pf} {j:Ty} {k:Tm} {R:Tm} {S:Int} {a:dS} {b:Nat} (c:H[b]?=some [sL Fm.av a0.lemmas,sL Tm.av a0.ek,sI a0.next]) (hm:nD n a0 a1 a2=some (j,k,R,S,a)),eG prog T 157 [AV.fg b 0,eA.av a1,Pf.av a2] H (AV.tuple [Ty.av j,Tm.av k,Tm.av R,sI S]) (gk H b [sL Fm.av a.lemmas,sL Tm.av a.ek,sI a.next])):=by
  intro n
  induction n with
  |zero=>
    refine⟨?_,?_,?_⟩
    all_goals(intro _ _;intros;rename_i hm;cases hm)
  |succ n ih=>
 refine⟨?_,?_,?_⟩
 .intro H a0 a1 a2 j k a b c hm;rw[er] at hm;have l:=eZ c;refine fv.Kw c ?_;have e:=l;refine wi aou func75 [] [] 999 ?_;simp-implicitDefEqProofs[e];refine W7 hm (ih.2.1 (by simp-implicitDefEqProofs[e])) λ_ x2 d3 m=>?_;exact aa
 .intro H a0 a1 a2 j k a b c hm;rw[kq] at hm;have l:=eZ c;refine fv.Kw c ?_;have e:=l;refine wi aou func115 [] [(5,false,[true,true,true,true,false,true,true,true,true,true,true,true])] 8 ?_;simp-implicitDefEqProofs[e];have m:=hm;refine sw [13] ?_;intro e m;apply wg 3;simp-implicitDefEqProofs[e];apply Iq e m<;>intro e m
  .refine sg 999 [8] ?_;intro x7 e m;simp-implicitDefEqProofs[e];refine sw [5] ?_;intro _ d9 e m;exact au
  apply wg 3;simp-implicitDefEqProofs[e];apply Iq e m<;>intro e m
  .refine sg 6 [8] ?_;intro aS e m;simp-implicitDefEqProofs[e];refine sw [5] ?_;intro _ d12 e m;simp-implicitDefEqProofs[e];refine sw [4,8] ?_;intro _ aT e m;simp-implicitDefEqProofs[e];refine sw [5] ?_;intro _ d16 e m;simp-implicitDefEqProofs[e];refine sw [4] ?_;intro U e m;simp-implicitDefEqProofs[e];apply Ir e m<;>intro e m
   .apply wg 999;simp-implicitDefEqProofs[e];refine I6 m (ih.1 (by simp-implicitDefEqProofs[e])) λ_ _ d20 m=>?_;exact au
   apply wg 5;simp-implicitDefEqProofs[e];refine I6 m (ih.1 (by simp-implicitDefEqProofs[e])) λaU V d23 m=>?_;simp-implicitDefEqProofs[e];refine wA 999 999 [11] [4,5,6,10] (λf=>f.1 0=AV.fg b 0/\f.1 131=sB (fq (eR V 0) true (lF U))) [7] (λ_ g=>?_) ?_
   .exact aa
   intro _ e m;simp-implicitDefEqProofs[e];refine I6 m (ih.1 (by simp-implicitDefEqProofs[e])) λ_ _ d30 m=>?_;exact aa
  apply wg 1;simp-implicitDefEqProofs[e];refine wA 999 0 [61] [4,5,6] (λf=>f.1 0=AV.fg b 0/\f.1 149=sB (fq (eo a2.aop 4) true (eo a2.aop 5))) [] (λ_ g=>?_) ?_
  .rcases Pb (eo a2.aop 4) e with e|e
   .exact aj
   exact aj
  intro _ e m;apply Iq e m<;>intro e m
  .refine sg 5 [8] ?_;intro aV e m;simp-implicitDefEqProofs[e];refine sw [5] ?_;intro _ d37 e m;simp-implicitDefEqProofs[e];refine I6 m (ih.1 (by simp-implicitDefEqProofs[e])) λaW W d40 m=>?_;simp-implicitDefEqProofs[e];refine C9 m 0 999 (λJ f h=>∃C D F G v46,(h=gk H b [sL Fm.av d40.lemmas,sL Tm.av d40.ek,sI d40.next]/\f.1 15=sI W/\bx f 6 [sI 0,sI 0,sI 0,nL,nL]/\bx f 14 [sI C,sI D,sI F,sL Ty.av G,sL Tm.av v46])/\J C D F G v46=some (j,k,a)) ?_ (λJ _ g m=>?_)
   .rintro _ _ ⟨C,D,F,G,v46,E,m⟩;exact aa
   refine WA m 999 0 [15] [5,6,14] (λv51 f=>f.1 184=sB v51) [] (λaX _ g m=>?_) ?_
   .apply Ir e m<;>intro e m
    .exact iJ
    have⟨aY,e,m⟩:=Kv e m;simp-implicitDefEqProofs[e];refine pX m uz λ_ m=>?_;apply Ir e m<;>intro e m
    .exact iJ
    have⟨aZ,e,m⟩:=Kv e m;simp-implicitDefEqProofs[e];refine pX m uz λ_ m=>?_;exact iJ
   intro _ v51 e m;apply Ir e m<;>intro e m
   .apply wg 999;simp-implicitDefEqProofs[e];exact g _ _ ⟨_,_,_,_,_,by simp-implicitDefEqProofs[e],m⟩
   apply wg 3;simp-implicitDefEqProofs[e];refine wA 2 999 [15] [6,14] (λf=>f.1 16=sI (fq (eo a2.aop 5) 12 11)) [] (λ_ g=>?_) ?_
   .simp-implicitDefEqProofs[e];rcases Pb (eo a2.aop 5) e with e|e
    .apply wg 999;exact aj
    apply wg 999;exact aj
   intro _ e m;simp-implicitDefEqProofs[e];refine sw [1] ?_;intro _ e m;simp-implicitDefEqProofs[e];exact g _ _ ⟨_,_,_,_,_,by simp-implicitDefEqProofs[e],m⟩
  apply wg 3;simp-implicitDefEqProofs[e];apply Iq e m<;>intro e m
  .refine sg 999 [8] ?_;intro a6 e m;simp-implicitDefEqProofs[e];refine sw [1] ?_;intro _ e m;apply Ir e m<;>intro e m
   .simp-implicitDefEqProofs[e];refine sw [4,8] ?_;intro _ a7 e m;simp-implicitDefEqProofs[e];refine I6 m (ih.1 (by simp-implicitDefEqProofs[e])) λ_ _ d69 m=>?_;exact au
   simp-implicitDefEqProofs[e];refine sw [2,7] ?_;intro _ _ e m;simp-implicitDefEqProofs[e];refine sw [2] ?_;intro _ d73 e m;simp-implicitDefEqProofs[e];refine sw [4] ?_;intro _ e m;simp-implicitDefEqProofs[e];refine sw [4,8] ?_;intro _ a8 e m;simp-implicitDefEqProofs[e];refine I6 m (ih.1 (by simp-implicitDefEqProofs[e])) λ_ _ d79 m=>?_;exact aa
  apply wg 3;simp-implicitDefEqProofs[e];apply Iq e m<;>intro e m
  .refine sg 4 [8] ?_;intro a_ e m;simp-implicitDefEqProofs[e];refine I6 m (ih.1 (by simp-implicitDefEqProofs[e])) λX Y d84 m=>?_;simp-implicitDefEqProofs[e];refine C9 m 999 999 (λK f h=>∃I v87,(h=gk H b [sL Fm.av v87.lemmas,sL Tm.av v87.ek,sI v87.next]/\f.1 0=AV.fg b 0/\f.1 22=sI Y/\f.1 280=sB I/\bx f 4 [sL Ty.av a1.ir.aot,sL Fm.av a1.ir.aow,sL Tm.av a1.vars,sL Tm.av a1.aow]/\bx f 5 (Pf.av a2).cells/\bx f 6 [sI 0,sI 0,sI 0,nL,nL]/\bx f 21 (Tm.av X).cells)/\K I v87=some (j,k,a)) ?_ (λK _ g m=>?_)
   .rintro _ _ ⟨I,v87,E,m⟩;refine sw [10,7,8] ?_;intro a' e m;simp-implicitDefEqProofs[e];refine I6 m (ih.1 (by simp-implicitDefEqProofs[e])) λ_ _ d94 m=>?_;exact aa
   apply Iq e m<;>intro e m
   .exact ak2
   simp-implicitDefEqProofs[e];refine sw [5,8] ?_;intro _ d97 ba e m;simp-implicitDefEqProofs[e];refine rm m uz λ_ m=>?_;exact ak2
  apply wg 3;simp-implicitDefEqProofs[e];apply Iq e m<;>intro e m
  .apply wg 999;simp-implicitDefEqProofs[e];refine sw [2] ?_;intro _ d101 e m;simp-implicitDefEqProofs[e];refine sw [4] ?_;intro _ e m;simp-implicitDefEqProofs[e];refine sw [4,8] ?_;intro _ Z e m;simp-implicitDefEqProofs[e];refine I6 m (ih.1 (by simp-implicitDefEqProofs[e])) λ_ _ d107 m=>?_;exact aa
  apply wg 3;simp-implicitDefEqProofs[e];apply Iq e m<;>intro e m
  .refine sg 999 [8] ?_;intro ad e m;simp-implicitDefEqProofs[e];refine I6 m (ih.1 (by simp-implicitDefEqProofs[e])) λ_ _ d112 m=>?_;have⟨ae,e,m⟩:=Kv e m;simp-implicitDefEqProofs[e];refine sw [5] ?_;intro _ d115 e m;exact aa
  apply wg 3;simp-implicitDefEqProofs[e];apply Iq e m<;>intro e m
  .refine sg 999 [8] ?_;intro af e m;simp-implicitDefEqProofs[e];refine sw [5,8,8] ?_;intro _ d119 ah ai e m;simp-implicitDefEqProofs[e];refine sw [1,12,8] ?_;intro _ ak e m;simp-implicitDefEqProofs[e];refine I6 m (ih.1 (by simp-implicitDefEqProofs[e])) λ_ _ d126 m=>?_;exact aa
  apply wg 3;simp-implicitDefEqProofs[e];apply Iq e m<;>intro e m
  .refine sg 8 [8] ?_;intro an e m;simp-implicitDefEqProofs[e];refine sw [5] ?_;intro L d130 e m;simp-implicitDefEqProofs[e];refine I6 m (ih.1 (by simp-implicitDefEqProofs[e])) λM _ d133 m=>?_;simp-implicitDefEqProofs[e];refine sw [13] ?_;intro e m;apply wg 6;simp-implicitDefEqProofs[e];refine sw [2] ?_;intro N d135 e m;simp-implicitDefEqProofs[e];refine sw [4] ?_;intro _ e m;simp-implicitDefEqProofs[e];refine C9 m 999 999 (λA f h=>∃v138 v139 o v141 q v143 r v145 v146 s v148 t d i,(h=gk H b [sL Fm.av d135.lemmas,sL Tm.av d135.ek,sI d135.next]/\f.1 0=AV.fg b 0/\f.1 35=sI N/\bx f 4 [sL Ty.av a1.ir.aot,sL Fm.av a1.ir.aow,sL Tm.av a1.vars,sL Tm.av a1.aow]/\bx f 5 (Pf.av a2).cells/\bx f 6 [sI 0,sI 0,sI 0,nL,nL]/\bx f 32 (Fm.av L).cells/\bx f 33 (Tm.av M).cells/\bx f 36 [sI v138,sL Ty.av v139]/\bx f 37 [sI o,sI v141,sI q,sL Ty.av v143,sL Tm.av r]/\bx f 38 [sI v145,sI v146,sI s,sT d Ty.av v148,sT i Tm.av t])/\A v138 v139 o v141 q v143 r v145 v146 s v148 t=some (j,k,a)) ?_ (λA _ g m=>?_)
   .rintro _ _ ⟨v138,v139,o,v141,q,v143,r,v145,v146,s,v148,t,d,i,E,m⟩;have e:=Aj e E;simp-implicitDefEqProofs[e];refine sw [4,8] ?_;intro _ ao e m;simp-implicitDefEqProofs[e];refine sw [4,8] ?_;intro _ aq e m;simp-implicitDefEqProofs[e];refine I6 m (ih.1 (by simp-implicitDefEqProofs[e])) λ_ _ d159 m=>?_;exact aa
   have⟨ar,e,m⟩:=Kv e m;simp-implicitDefEqProofs[e];refine sw [1] ?_;intro _ e m;apply Ir e m<;>intro e m
   .simp-implicitDefEqProofs[e];exact g _ _ ⟨_,_,_,_,_,_,_,_,_,_,_,_,.full,.full,by simp-implicitDefEqProofs[e],m⟩
   simp-implicitDefEqProofs[e];refine sw [2,7] ?_;intro _ _ e m;simp-implicitDefEqProofs[e];refine sw [1] ?_;intro _ e m;simp-implicitDefEqProofs[e];refine sw [1] ?_;intro _ e m;simp-implicitDefEqProofs[e];refine sw [1] ?_;intro _ e m;simp-implicitDefEqProofs[e];refine sw [1] ?_;intro _ e m;simp-implicitDefEqProofs[e];exact g _ _ ⟨_,_,_,_,_,_,_,_,_,_,_,_,.gK,.gK,by simp-implicitDefEqProofs[e],m⟩
  apply wg 3;simp-implicitDefEqProofs[e];apply Iq e m<;>intro e m
  .apply wg 999;simp-implicitDefEqProofs[e];refine sw [4] ?_;intro _ e m;simp-implicitDefEqProofs[e];refine sw [5] ?_;intro _ d172 e m;simp-implicitDefEqProofs[e];refine sw [4,8] ?_;intro _ aw e m;simp-implicitDefEqProofs[e];refine I6 m (ih.1 (by simp-implicitDefEqProofs[e])) λ_ _ d177 m=>?_;exact au
  apply wg 3;simp-implicitDefEqProofs[e];apply Iq e m<;>intro e m
  .refine sg 999 [8] ?_;intro ax e m;simp-implicitDefEqProofs[e];refine sw [5] ?_;intro _ d180 e m;simp-implicitDefEqProofs[e];refine sw [1] ?_;intro _ e m;simp-implicitDefEqProofs[e];refine sw [2] ?_;intro _ d183 e m;simp-implicitDefEqProofs[e];refine sw [1] ?_;intro _ e m;apply Ir e m<;>intro e m
   .simp-implicitDefEqProofs[e];refine sw [4,8] ?_;intro _ ay e m;simp-implicitDefEqProofs[e];refine sw [4,8] ?_;intro _ az e m;simp-implicitDefEqProofs[e];refine I6 m (ih.1 (by simp-implicitDefEqProofs[e])) λ_ _ d191 m=>?_;exact au
   simp-implicitDefEqProofs[e];refine I6 m (ih.1 (by simp-implicitDefEqProofs[e])) λ_ _ d194 m=>?_;refine Il e m λe m=>?_;simp-implicitDefEqProofs[e];refine sw [2,7] ?_;intro _ _ e m;simp-implicitDefEqProofs[e];refine sw [2] ?_;intro _ d198 e m;simp-implicitDefEqProofs[e];refine sw [4,8] ?_;intro _ aA e m;simp-implicitDefEqProofs[e];refine sw [4] ?_;intro _ e m;simp-implicitDefEqProofs[e];refine sw [4,8] ?_;intro _ aB e m;simp-implicitDefEqProofs[e];refine I6 m (ih.1 (by simp-implicitDefEqProofs[e])) λ_ _ d206 m=>?_;exact aa
  apply wg 1;simp-implicitDefEqProofs[e];refine wA 999 0 [61] [4,5,6] (λf=>f.1 0=AV.fg b 0/\f.1 567=sB (fq (eo a2.aop 16) true (eo a2.aop 17))) [] (λ_ g=>?_) ?_
  .rcases Pb (eo a2.aop 16) e with e|e
   .exact aj
   exact aj
  intro _ e m;apply Iq e m<;>intro e m
  .apply wg 999;have⟨aC,aD,aE,aF,d216,e,m⟩:=Bo5 e m;simp-implicitDefEqProofs[e];refine Cf (ih.2.2 (by simp-implicitDefEqProofs[e]) e.2) ?_;refine sw [7,8] ?_;intro aG e m;simp-implicitDefEqProofs[e];refine sw [5] ?_;intro _ d219 e m;exact aa
  apply wg 3;simp-implicitDefEqProofs[e];apply Iq e m<;>intro e m
  .refine sg 999 [8] ?_;intro aH e m;simp-implicitDefEqProofs[e];refine I6 m (ih.1 (by simp-implicitDefEqProofs[e])) λ_ _ d224 m=>?_;exact au
  apply wg 3;simp-implicitDefEqProofs[e];apply Ir e m<;>intro e m
  .refine sg 999 [8] ?_;intro aI e m;simp-implicitDefEqProofs[e];refine I6 m (ih.1 (by simp-implicitDefEqProofs[e])) λ_ _ d228 m=>?_;exact au
  refine sg 6 [8] ?_;intro aJ e m;simp-implicitDefEqProofs[e];refine I6 m (ih.1 (by simp-implicitDefEqProofs[e])) λaK aL d232 m=>?_;simp-implicitDefEqProofs[e];refine sw [5] ?_;intro aM d234 e m;simp-implicitDefEqProofs[e];refine WA m 999 999 [52] [6,51,53] (λv236 f=>f.1 0=AV.fg b 0/\f.1 638=sB v236) [7] (λaN _ g m=>?_) ?_
  .apply Iq e m<;>intro e m
   .exact iJ
   refine sw [8,8] ?_;intro aO aP e m;simp-implicitDefEqProofs[e];refine pX m uz λ_ m=>?_;exact iJ
  intro _ v236 e m;simp-implicitDefEqProofs[e];refine sw [2,7] ?_;intro _ _ e m;simp-implicitDefEqProofs[e];refine sw [2] ?_;intro _ d246 e m;simp-implicitDefEqProofs[e];refine sw [2] ?_;intro _ d248 e m;simp-implicitDefEqProofs[e];refine sw [2] ?_;intro _ d250 e m;exact aa
 .intro H a0 a1 a2 j k R S a b c hm;rw[nD] at hm;have l:=eZ c;refine fv.Kw c ?_;have e:=l;refine wi aou func157 [] [] 7 ?_;have⟨x2,e,m⟩:=Kv e hm;simp-implicitDefEqProofs[e];refine sw [2] ?_;intro O _ e m;simp-implicitDefEqProofs[e];refine sw [13] ?_;intro e m;refine sg 7 [8] ?_;intro aQ e m;simp-implicitDefEqProofs[e];refine I6 m (ih.1 (by simp-implicitDefEqProofs[e])) λP _ d269 m=>?_;simp-implicitDefEqProofs[e];refine sw [13] ?_;intro e m;apply wg 9;simp-implicitDefEqProofs[e];refine sw [2] ?_;intro Q d271 e m;simp-implicitDefEqProofs[e];refine sw [2] ?_;intro _ d273 e m;simp-implicitDefEqProofs[e];refine sw [2] ?_;intro _ d275 e m;simp-implicitDefEqProofs[e];refine sw [4] ?_;intro _ e m;simp-implicitDefEqProofs[e];refine sw [4,8] ?_;intro _ aR e m;simp-implicitDefEqProofs[e];refine I6 m (ih.1 (by simp-implicitDefEqProofs[e])) λ_ _ d281 m=>?_;simp-implicitDefEqProofs[e];refine sw [13] ?_;intro e m;apply wg 4;simp-implicitDefEqProofs[e];refine sw [1] ?_;intro _ e m;simp-implicitDefEqProofs[e];refine C9 m 999 999 (λB f h=>∃u v w x y,(h=gk H b [sL Fm.av d281.lemmas,sL Tm.av d281.ek,sI d281.next]/\f.1 13=sI Q/\bx f 6 [sI 0,nL]/\bx f 7 [sI 0,sI 0,sI 0,nL,nL]/\bx f 8 [sI 0,sI 0,sI 0,nL,nL]/\bx f 10 (Ty.av O).cells/\bx f 12 (Tm.av P).cells/\bx f 16 [sI u,sI v,sI w,sL Ty.av x,sL Tm.av y])/\B u v w x y=some (j,k,R,S,a)) ?_ (λB _ g m=>?_)
  .rintro _ _ ⟨u,v,w,x,y,E,m⟩;exact aa
  apply Ir e m<;>intro e m
  .simp-implicitDefEqProofs[e];exact g _ _ ⟨_,_,_,_,_,by simp-implicitDefEqProofs[e],m⟩
  simp-implicitDefEqProofs[e];refine sw [4] ?_;intro _ e m;simp-implicitDefEqProofs[e];refine sw [4] ?_;intro _ e m;simp-implicitDefEqProofs[e];exact g _ _ ⟨_,_,_,_,_,by simp-implicitDefEqProofs[e],m⟩
def Dk(T:eK){H:dV}{a0:dS}{a1:eA}{a2:Pf}{d:Tm}{f:Int}{a:dS}{b:Nat}(c:H[b]?=some [sL Fm.av a0.lemmas,sL Tm.av a0.ek,sI a0.next]){n:Nat}(hm:er n a0 a1 a2=some (d,f,a)):eG prog T 75 [AV.fg b 0,eA.av a1,Pf.av a2] H (AV.tuple [Tm.av d,sI f]) (gk H b [sL Fm.av a.lemmas,sL Tm.av a.ek,sI a.next]):=(Cb T n).1 c hm
@[reducible,instance] def Sk:=gl 75 @Dk
end
def Li{n:Nat}:C2 prog 76 (jJ n) Tm.av Tm.av (sL sI):=by
 refine i2 λn ih=>u2 5 func76 λT H a0 a1 r m e=>?_;rw[jJ] at m;simp[e];apply Iq e m<;>intro e m
 .apply wg 999;simp[e];refine Wn m 999 (λs1 f h=>h=H/\f.1 1=sL sI a1/\f.1 5=sI s1/\bx f 2 (Tm.av a0).cells/\bx f 4 [sI 0,sI 0,sI 0,nL,nL]) abq (λs1 _ _ _ _ _ E m z p=>?_);have e:=Aj e E;apply Ir e m<;>intro e m
  .cases m;have m:=Qb z
   try dsimp only at m
   exact au
  exact aa
 apply wg 6;simp[e];refine Wj m 999 999 (λk f h=>∃v12 a,(h=H/\f.1 7=sT a sI v12/\bx f 2 (Tm.av a0).cells/\bx f 4 [sI 0,sI 0,sI 0,nL,nL]/\bx f 6 [sI a0.aop,sI 0,sI a0.dM.aop,sL Ty.av a0.dM.aoq,nL])/\k v12=some r) (λk _ g m=>?_) ?_
 .apply Ir e m<;>intro e m
  .simp[e];exact g _ _ ⟨_,.gK,abq,m⟩
  refine sw [9,0] ?_;intro e m;refine Ad (f:=sI) [] a1 (hI.full (D:=[])) E9 e.2 ?_;refine sw [9,0] ?_;intro e m;refine Ad (f:=sI) (fW [] a1) [a0.aos] (hI.new (D:=[43]) (d:=43) aal) E9 e.2 ?_;simp[e];exact g _ _ ⟨_,(.loc 47 1),abq,m⟩
 rintro _ _ ⟨v12,a,E,m⟩;have e:=Aj e E;simp[e];refine Wn m 999 (λi f h=>∃b c,(h=H/\f.1 7=sT b sI v12/\f.1 8=sI i.1/\bx f 2 (Tm.av a0).cells/\bx f 4 [sI 0,sI 0,sI 0,nL,nL]/\bx f 6 [sI a0.aop,sI 0,sI a0.dM.aop,sL Ty.av a0.dM.aoq,sT c Tm.av i.2])/\Ow f [65] c i.2) (by exact⟨a,.full,abq,hI.full⟩) (λi l _ _ _ _ E m z p=>?_);have⟨v24,o⟩:=i;have⟨b,c,E,j⟩:=E;have e:=Aj e E;dsimp only[iB]at m;apply Ir e m<;>intro e m
 .cases m;have m:=Qb z;dsimp only[iB]at m;exact au
 refine sw [8,0,18,9,0] ?_;intro s q e m;refine Ad (f:=Tm.av) o [q] j x' e.2 ?_;simp[e];cases m;exact p _ _ _ ⟨b,(.loc 65 (l.fy 65+1)),abq,(On 65)⟩ z
@[reducible,instance] def abA:=gl 76 @Li
def Oy(T:eK){H:dV}{a0:List Fm}{a1:List Tm}{a2:Sq}{a3:Pf}{a:Tm}{b:Int}(hm:nP a0 a1 a2 a3=some (a,b)):eG prog T 23 [sL Fm.av a0,sL Tm.av a1,Sq.av a2,Pf.av a3] H (AV.tuple [Tm.av a,sI b]) H:=by
 rw[nP] at hm;refine fv.rB (Post:=λx K=>x=AV.tuple [Tm.av a,sI b]/\∃X,K=H++X) ?_ (λ_ _ h=>⟨_,h.2.choose_spec,by rw[h.1];simp[AV.low,AV.iy],h.1,rfl⟩);have e:=trivial;refine wi aou func23 [42] [] 999 ?_;have m:=hm;refine sw [0,2,7,0,1,7,0,1,12,0,3,0,3] ?_;intro _ _ _ _ _ _ d7 _ _ d10 e m;exact aa
@[reducible,instance] def adk:=gl 23 @Oy
def KD{n:Nat}:C1 prog 162 (sm n) sB Vl.av:=by
 refine i1 λn ih=>u1 8 func162 λT H a0 r m e=>?_;rw[sm] at m;simp[e];apply Iq e m<;>intro e m
 .apply wg 1;simp[e];refine wB 999 999 [] [] (λf=>f.1 2=sB (fq (qz a0.num 0) (fq (eo (eE a0.list) 0) (eo (eE a0.aoq) 0) false) false)) λ_ g=>?_;rcases Pb (qz a0.num 0) e with e|e;rotate_left
  .exact aj
  rcases Pb (eo (eE a0.list) 0) e with e|e
  .exact aj
  exact aj
 apply wg 3;simp[e];apply Iq e m<;>intro e m
 .apply wg 999;simp[e];refine XZ e m 0 (λa _ f h=>h=H/\f.1 27=sL sI a0.list/\f.1 28=sI (eE a0.list)/\f.1 29=sI a/\bx f 1 (Vl.av a0).cells) abq (λa _ _ _ _ _ _ _ E e m z p=>?_) (λ_ _ _ _ E m=>?_)
  .exact aa
  have e:=Aj e E;refine sg 5 [11,0] ?_;intro e m;refine wB 999 999 [] [] (λf=>f.1 2=sB (fq (eo a0.num 0) (eo (eE a0.aoq) 0) false)) λ_ g=>?_;exact aa
 apply wg 3;simp[e];apply Iq e m<;>intro e m
 .apply wg 1;simp[e];refine wB 999 999 [] [] (λf=>f.1 2=sB (fq (eo a0.num 0) (fq (eo (eE a0.list) 0) (eo (eE a0.aoq) 0) false) false)) λ_ g=>?_;rcases Pb (eo a0.num 0) e with e|e;rotate_left
  .exact aj
  rcases Pb (eo (eE a0.list) 0) e with e|e
  .exact aj
  exact aj
 refine sg 3 [0,14] ?_;intro e m;apply wg 1;simp[e];refine WB m 999 999 [] [] (λv21 f=>f.1 2=sB v21) λb _ g m=>?_;apply Ir e m<;>intro e m
 .exact iJ
 apply Ir e m<;>intro e m
 .exact iJ
 apply Ir e m<;>intro e m
 .exact iJ
 refine sw [8,0,15] ?_;intro c _ e m;apply Ir e m<;>intro e m
 .exact iJ
 refine sw [8,0,15] ?_;intro d _ e m;exact iJ
@[reducible,instance] def abS:=gl 162 @KD
def LF{n:Nat}:C1 prog 163 (xw n) sI Vl.av:=by
 refine i1 λn ih=>v1 func163 λT H a0 r m e=>?_;rw[xw] at m;simp[e];exact Wb e m 999 9 [7,8] [] (λs2 f=>f.1 3=sI s2)
@[reducible,instance] def ab9:=gl 163 @LF
def L9:C1 prog 119 xi sI Vl.av:=by
 refine v1 func119 λT H a0 r m e=>?_;rw[xi] at m;exact aa
@[reducible,instance] def abM:=gl 119 @L9
def KY{n:Nat}:C1 prog 120 (uD n) Ty.av Vl.av:=by
 refine i1 λn ih=>v1 func120 λT H a0 r m e=>?_;rw[uD] at m;exact aa
@[reducible,instance] def abD:=gl 120 @KY
def Kk:C1 prog 78 qD (t2 Ty.av sI) Vl.av:=by
 refine v1 func78 λT H a0 r m e=>?_;rw[qD] at m;exact aa
@[reducible,instance] def ZX:=gl 78 @Kk
def LM{n:Nat}:C1 prog 122 (p8 n) sI Ty.av:=by
 refine i1 λn ih=>v1 func122 λT H a0 r m e=>?_;rw[p8] at m;exact aa
@[reducible,instance] def abX:=gl 122 @LM
def Of:C1 prog 80 yW (t2 sB sI) Ty.av:=by
 refine v1 func80 λT H a0 r m e=>?_;rw[yW] at m;exact aa
@[reducible,instance] def aen:=gl 80 @Of
def tq(T:eK):∀(n:Nat),(∀{H:dV} {a0:d_} {a1:Tm} {a2:List dJ} {r0:dJ} {w:d_} {u:Nat} (B:H[u]?=some [sI a0.used,sI a0.rE,sB a0.out]) (hm:fJ n a0 a1 a2=some (r0,w)),eG prog T 81 [AV.fg u 0,Tm.av a1,sL dJ.av a2] H (dJ.av r0) (gk H u [sI w.used,sI w.rE,sB w.out]))/\(∀{H:dV} {a0:d_} {a1:dJ} {a2:dJ} {r0:dJ} {w:d_} {u:Nat} (B:H[u]?=some [sI a0.used,sI a0.rE,sB a0.out]) (hm:eL n a0 a1 a2=some (r0,w)),eG prog T 82 [AV.fg u 0,dJ.av a1,dJ.av a2] H (dJ.av r0) (gk H u [sI w.used,sI w.rE,sB w.out])):=by
  intro n
  induction n with
  |zero=>
    refine⟨?_,?_⟩
    all_goals(intro _ _;intros;rename_i hm;cases hm)
  |succ n ih=>
 refine⟨?_,?_⟩
 .intro H a0 a1 a2 r0 w u B hm;rw[fJ] at hm;have ak:=eZ B;refine fv.Kw B ?_;have e:=ak;refine wi aou func81 [] [(1,true,[])] 3 ?_;simp[e];refine wA 999 999 [2] [4,6] (λf=>f.1 0=AV.fg u 0/\f.1 30=sB (fq a0.out true (eo a0.used a0.rE))) [7,13,13,0] (λ_ g=>?_) ?_
  .exact aa
  intro _ e m;refine XZ e m 999 (λj7 s8 f h=>∃t,(h=gk H u [sI s8.2.used,sI s8.2.rE,sB s8.2.out]/\f.1 0=AV.fg u 0/\f.1 2=sL dJ.av a2/\f.1 7=sT t dJ.av s8.1/\f.1 64=sL Tm.av a1.aoq/\f.1 65=sI (eE a1.aoq)/\f.1 66=sI j7/\bx f 4 (Tm.av a1).cells/\bx f 6 [sI 0,nL,nL,sI 0,sI 0,sI 0,nL,nL,nL])/\Ow f [76] t s8.1) (by exact⟨.full,abq,hI.full⟩) (λj7 _ s8 aG _ _ _ _ E e m z p=>?_) (λs8 aG _ _ E m=>?_)
  .have⟨b,aU⟩:=s8;have⟨t,E,C⟩:=E;have e:=Aj e E;dsimp only[iB]at m;simp[e];refine Ar m (ih.1 abq) λaV d19 m=>?_;refine sw [9,0] ?_;intro e m;refine Ao (f:=dJ.av) b [aV] C Y7 e.2 ?_;refine sw [7,0] ?_;intro e m;cases m;exact p _ _ _ ⟨(.loc 76 (aG.fy 76+1)),abq,(On 76)⟩ z
  have⟨b,aU⟩:=s8;have⟨t,E,C⟩:=E;have e:=Aj e E;dsimp only[ew,iB]at m;apply Iq e m<;>intro e m
  .refine sw [8,8,0] ?_;intro a7 a8 e m;refine sh m (ih.2 abq) λ_ d23 m=>?_;exact au
  refine sw [13] ?_;intro e m;apply Iq e m<;>intro e m
  .refine sw [8,0] ?_;intro a_ e m;refine Wn m 1 (λc f h=>∃i,(h=gk H u [sI c.2.2.2.2.2.2.2.2.2.2.used,sI c.2.2.2.2.2.2.2.2.2.2.rE,sB c.2.2.2.2.2.2.2.2.2.2.out]/\f.1 0=AV.fg u 0/\f.1 7=sT i dJ.av b/\f.1 11=sI c.1/\bx f 6 [sI 0,nL,nL,sI 0,sI 0,sI 0,nL,nL,nL]/\bx f 10 [sI c.2.1,sL sI c.2.2.1,sL dJ.av c.2.2.2.1,sI c.2.2.2.2.1,sI c.2.2.2.2.2.1,sI c.2.2.2.2.2.2.1,sL Ty.av c.2.2.2.2.2.2.2.1,sL Tm.av c.2.2.2.2.2.2.2.2.1,sL dJ.av c.2.2.2.2.2.2.2.2.2.1])/\Ow f [76] i b) (by exact⟨t,abq,C⟩) (λc _ _ _ _ aH E m z p=>?_);have⟨aI,aJ,aK,aL,v37,aM,aN,v40,aO,aP,ae⟩:=c;have⟨i,E,G⟩:=E;have e:=Aj e E;dsimp only[vk]at m;simp[e];refine Wj m 999 0 (λaQ f h=>∃an j,(h=gk H u [sI ae.used,sI ae.rE,sB ae.out]/\f.1 0=AV.fg u 0/\f.1 7=sT j dJ.av b/\f.1 11=sI aI/\f.1 120=sB an/\bx f 6 [sI 0,nL,nL,sI 0,sI 0,sI 0,nL,nL,nL]/\bx f 10 [sI aJ,sL sI aK,sL dJ.av aL,sI v37,sI aM,sI aN,sL Ty.av v40,sL Tm.av aO,sL dJ.av aP])/\Ow f [76] j b/\aQ an=some aH) (λaQ _ g m=>?_) ?_
   .have⟨a',e,m⟩:=Kv e m;apply Ir e m<;>intro e m
    .simp[e];exact g _ _ ⟨false,i,abq,G,m⟩
    simp[e];exact g _ _ ⟨(lF ae.out),i,abq,G,m⟩
   rintro _ _ ⟨an,j,E,I,m⟩;have e:=Aj e E;apply Ir e m<;>intro e m
   .apply wg 999;cases m;have m:=Qb z;dsimp only[vk]at m;exact au
   apply wg 2;simp[e];refine C9 m 999 999 (λaR f h=>∃v51 ao v53 aq ar aw ax ay v59 J v,(h=gk H u [sI J.used,sI J.rE,sB J.out]/\f.1 0=AV.fg u 0/\f.1 7=sT v dJ.av b/\f.1 11=sI aI/\bx f 6 [sI 0,nL,nL,sI 0,sI 0,sI 0,nL,nL,nL]/\bx f 10 [sI v51,sL sI ao,sL dJ.av v53,sI aq,sI ar,sI aw,sL Ty.av ax,sL Tm.av ay,sL dJ.av v59])/\Ow f [76] v b/\aR v51 ao v53 aq ar aw ax ay v59 J=some aH) ?_ (λaR _ g m=>?_)
   .rintro _ _ ⟨v51,ao,v53,aq,ar,aw,ax,ay,v59,J,v,E,az,m⟩;have e:=Aj e E;simp[e];cases m;exact p _ _ _ ⟨v,abq,az⟩ z
   refine sw [8,0] ?_;intro ba e m;refine Ar m (ih.2 abq) λ_ d66 m=>?_;apply Iq e m<;>intro e m
   .simp[e];exact g _ _ ⟨aJ,aK,aL,v37,aM,aN,v40,aO,aP,d66,j,abq,I,m⟩
   simp[e];refine Ar m (ih.2 abq) λy d68 m=>?_;simp[e];exact g _ _ ⟨y.num,y.list,y.pair,y.body.aop,y.body.aos,y.body.dM.aop,y.body.dM.aoq,y.body.aoq,y.env,d68,j,abq,I,m⟩
  apply Iq e m<;>intro e m
  .refine sw [8,8,9,0] ?_;intro aW aX e m;refine Ad (f:=sI) [aW.num] aX.list (hI.full (D:=[])) E9 e.2 ?_;exact au
  refine sw [14,8,8,0] ?_;intro bb bc e m;refine Wn m 1 (λd f h=>∃k,(h=gk H u [sI d.2.2.2.2.2.2.2.2.2.2.used,sI d.2.2.2.2.2.2.2.2.2.2.rE,sB d.2.2.2.2.2.2.2.2.2.2.out]/\f.1 0=AV.fg u 0/\f.1 7=sT k dJ.av b/\f.1 14=sI d.1/\bx f 6 [sI 0,nL,nL,sI 0,sI 0,sI 0,nL,nL,nL]/\bx f 13 [sI d.2.1,sL sI d.2.2.1,sL dJ.av d.2.2.2.1,sI d.2.2.2.2.1,sI d.2.2.2.2.2.1,sI d.2.2.2.2.2.2.1,sL Ty.av d.2.2.2.2.2.2.2.1,sL Tm.av d.2.2.2.2.2.2.2.2.1,sL dJ.av d.2.2.2.2.2.2.2.2.2.1])/\Ow f [76] k b) (by exact⟨t,abq,C⟩) (λd _ _ _ _ aS E m z p=>?_);have⟨K,v85,aA,v87,aB,aC,aD,v91,aE,v93,af⟩:=d;have⟨k,E,L⟩:=E;have e:=Aj e E;dsimp only[vk]at m;simp[e];refine wj 999 0 (λf h=>∃l,(h=gk H u [sI af.used,sI af.rE,sB af.out]/\f.1 0=AV.fg u 0/\f.1 7=sT l dJ.av b/\f.1 14=sI K/\f.1 172=sB (fq (qz K 0) (lF af.out) false)/\bx f 6 [sI 0,nL,nL,sI 0,sI 0,sI 0,nL,nL,nL]/\bx f 13 [sI v85,sL sI aA,sL dJ.av v87,sI aB,sI aC,sI aD,sL Ty.av v91,sL Tm.av aE,sL dJ.av v93])/\Ow f [76] l b) (λ_ g=>?_) ?_
  .rcases Pb (qz K 0) e with e|e
   .simp[e];exact g _ _ ⟨k,abq,L⟩
   simp[e];exact g _ _ ⟨k,abq,L⟩
  rintro _ _ ⟨l,E,M⟩;have e:=Aj e E;apply Ir e m<;>intro e m
  .apply wg 999;cases m;have m:=Qb z;dsimp only[vk]at m;exact au
  apply wg 2;simp[e];refine C9 m 3 999 (λaT f h=>∃aF N O P Q R v105 S v107 A o,(h=gk H u [sI A.used,sI A.rE,sB A.out]/\f.1 0=AV.fg u 0/\f.1 7=sT o dJ.av b/\f.1 14=sI K/\bx f 6 [sI 0,nL,nL,sI 0,sI 0,sI 0,nL,nL,nL]/\bx f 13 [sI aF,sL sI N,sL dJ.av O,sI P,sI Q,sI R,sL Ty.av v105,sL Tm.av S,sL dJ.av v107])/\Ow f [76] o b/\aT aF N O P Q R v105 S v107 A=some aS) ?_ (λaT _ g m=>?_)
  .rintro _ _ ⟨aF,N,O,P,Q,R,v105,S,v107,A,o,E,ah,m⟩;have e:=Aj e E;simp[e];cases m;exact p _ _ _ ⟨o,abq,ah⟩ z
  refine sw [8,8,0] ?_;intro aY aZ e m;refine sh m (ih.2 abq) λq d115 m=>?_;simp[e];refine Wj m 999 999 (λai f h=>∃v117 U V W X Y Z v124 ad x a,(h=gk H u [sI x.used,sI x.rE,sB x.out]/\f.1 0=AV.fg u 0/\f.1 7=sT a dJ.av b/\f.1 14=sI K/\bx f 6 [sI 0,nL,nL,sI 0,sI 0,sI 0,nL,nL,nL]/\bx f 13 [sI v85,sL sI aA,sL dJ.av v87,sI aB,sI aC,sI aD,sL Ty.av v91,sL Tm.av aE,sL dJ.av v93]/\bx f 15 [sI v117,sL sI U,sL dJ.av V,sI W,sI X,sI Y,sL Ty.av Z,sL Tm.av v124,sL dJ.av ad])/\Ow f [76] a b/\ai v117 U V W X Y Z v124 ad x=some aS) (λai _ g m=>?_) ?_
  .apply Iq e m<;>intro e m
   .simp[e];exact g _ _ ⟨q.num,q.list,q.pair,q.body.aop,q.body.aos,q.body.dM.aop,q.body.dM.aoq,q.body.aoq,q.env,d115,l,abq,M,m⟩
   refine sw [8,0] ?_;intro a6 e m;refine sh m (ih.2 abq) λr d131 m=>?_;simp[e];exact g _ _ ⟨r.num,r.list,r.pair,r.body.aop,r.body.aos,r.body.dM.aop,r.body.dM.aoq,r.body.aoq,r.env,d131,l,abq,M,m⟩
  rintro _ _ ⟨v117,U,V,W,X,Y,Z,v124,ad,x,a,E,F,m⟩;have e:=Aj e E;apply Iq e m<;>intro e m
  .simp[e];exact g _ _ ⟨v85,aA,v87,aB,aC,aD,v91,aE,v93,x,a,abq,F,m⟩
  simp[e];refine Ar m (ih.2 abq) λs d134 m=>?_;simp[e];exact g _ _ ⟨s.num,s.list,s.pair,s.body.aop,s.body.aos,s.body.dM.aop,s.body.dM.aoq,s.body.aoq,s.env,d134,a,abq,F,m⟩
 .intro H a0 a1 a2 r0 w u B hm;rw[eL] at hm;have ak:=eZ B;refine fv.Kw B ?_;have e:=ak;refine wi aou func82 [] [] 999 ?_;have⟨e,m⟩:=Ck e hm;simp[e];refine Ad (f:=dJ.av) a1.env [a2] (hI.full (D:=[])) Y7 e.2 ?_;simp[e];refine sh m (ih.1 abq) λ_ d136 m=>?_;exact au
def AZ(T:eK){H:dV}{a0:d_}{a1:Tm}{a2:List dJ}{d:dJ}{a:d_}{b:Nat}(c:H[b]?=some [sI a0.used,sI a0.rE,sB a0.out]){n:Nat}(hm:fJ n a0 a1 a2=some (d,a)):eG prog T 81 [AV.fg b 0,Tm.av a1,sL dJ.av a2] H (dJ.av d) (gk H b [sI a.used,sI a.rE,sB a.out]):=(tq T n).1 c hm
@[reducible,instance] def PW:=gl 81 @AZ
def Bh(T:eK){H:dV}{a0:d_}{a1 a2 d:dJ}{a:d_}{b:Nat}(c:H[b]?=some [sI a0.used,sI a0.rE,sB a0.out]){n:Nat}(hm:eL n a0 a1 a2=some (d,a)):eG prog T 82 [AV.fg b 0,dJ.av a1,dJ.av a2] H (dJ.av d) (gk H b [sI a.used,sI a.rE,sB a.out]):=(tq T n).2 c hm
@[reducible,instance] def RM:=gl 82 @Bh
def TK{n:Nat}:C1 prog 83 (x0 n) dJ.av Vl.av:=by
 refine i1 λn ih=>v1 func83 λT H a0 r m e=>?_;rw[x0] at m;simp[e];refine Td e m 999 14 [12,13] [2] [23] (λs2=>s2) (λs2 a f=>bx f 3 [sI a0.num,sL sI a0.list,sT a dJ.av s2,sI 0,sI 0,sI 0,nL,nL,nL]) λh _ s2 c _ _ _ _ E e m z p=>?_;have⟨a,E,b⟩:=E;refine sw [20,0,18,9,0] ?_;intro d e m;refine Ad (f:=dJ.av) s2 [d] b Y7 e.2 ?_;simp[e];cases m;exact p _ _ _ ⟨(.loc 23 (c.fy 23+1)),abq,(On 23)⟩ z
@[reducible,instance] def ag8:=gl 83 @TK
def LQ{n:Nat}:C2 prog 84 (oI n) Vl.av dJ.av Ty.av:=by
 refine i2 λn ih=>v2 func84 λT H a0 a1 r m e=>?_;rw[oI] at m;refine Il e m λe m=>?_;apply Iq e m<;>intro e m
 .refine sw [9,0] ?_;intro e m;refine Ao (f:=sI) [] a0.list (hI.full (D:=[])) E9 e.2 ?_;exact au
 refine sw [12,8,8,0,18,8,8,0,18] ?_;intro c d a h i b e m;have e:=Aj e (show AV.agg [sI 3,sI 0,AV.slice .gK [],AV.slice .gK [Vl.av a,Vl.av b]]=Vl.av (Vl.mk 3 0 [] [a,b]) by rw[Vl.fi];rfl);exact au
@[reducible,instance] def abW:=gl 84 @LQ
def O'(T:eK){H:dV}{a0:Tm}{a1:List Vl}{a2:Int}{B:Vl}{C D:Int}(hm:lY a0 a1 a2=some (B,C,D)):eG prog T 24 [Tm.av a0,sL Vl.av a1,sI a2] H (AV.tuple [Vl.av B,sI C,sI D]) H:=by
 rw[lY] at hm;refine fv.rB (Post:=λx K=>x=AV.tuple [Vl.av B,sI C,sI D]/\∃X,K=H++X) ?_ (λ_ _ h=>⟨_,h.2.choose_spec,by rw[h.1];simp[AV.low,AV.iy],h.1,rfl⟩);have e:=trivial;refine wi aou func24 [80] [(29,true,[])] 999 ?_;have m:=hm;refine sw [0,2,7,0] ?_;intro _ _ e m;refine XZ e m 0 (λF w f h=>h=H/\f.1 1=sL Vl.av a1/\f.1 2=sI a2/\f.1 30=sL Vl.av a1/\f.1 31=sI (eE a1)/\f.1 32=sI F/\bx f 3 (Tm.av a0).cells/\bx f 6 [sI 0,sI 0,nL,nL]/\bx f 9 [sI w.1,sL Ty.av w.2]) abq (λF _ w _ _ _ _ G E e m z p=>?_) (λw _ _ _ E m=>?_)
 .have⟨b,c⟩:=w;have e:=Aj e E;dsimp only[iB]at m;refine sg 14 [0,2,0,13] ?_;intro _ _ e m;apply wg 3;simp[e];refine C9 m 999 999 (λy f h=>∃d,(h=H/\f.1 1=sL Vl.av a1/\f.1 2=sI a2/\f.1 30=sL Vl.av a1/\f.1 31=sI (eE a1)/\f.1 32=sI F/\f.1 56=sB d/\bx f 3 (Tm.av a0).cells/\bx f 6 [sI 0,sI 0,nL,nL]/\bx f 9 [sI b,sL Ty.av c])/\y d=some G) ?_ (λy _ g m=>?_)
  .rintro _ _ ⟨d,E,m⟩;exact aa
  apply Iq e m<;>intro e m
  .exact iJ
  refine sw [8,0] ?_;intro S e m;refine rm m jv λ_ m=>?_;exact iJ
 have⟨b,c⟩:=w;have e:=Aj e E;apply wg 10;dsimp only[ew,iB]at m;refine sw [0,2,0,14] ?_;intro _ _ e m;apply wg 3;simp[e];refine wj 999 999 (λf h=>h=H/\f.1 1=sL Vl.av a1/\f.1 2=sI a2/\f.1 76=sB (fq (pH a2 0) true (pw a2 65536))/\bx f 3 (Tm.av a0).cells/\bx f 6 [sI 0,sI 0,nL,nL]/\bx f 9 [sI b,sL Ty.av c]) (λ_ g=>?_) ?_
 .rcases Pb (pH a2 0) e with e|e
  .exact aj
  exact aj
 rintro _ _ E;refine sw [10,7,0,2,0] ?_;intro _ d31 e m;refine Wr e m 0 (λi a f h=>h=H++[[sI a.2.2.2.2.2.2.2.2.2.1,sI a.2.2.2.2.2.2.2.2.2.2.1,sB a.2.2.2.2.2.2.2.2.2.2.2]]/\f.1 17=AV.fg (List.length H) 0/\f.1 84=sL Vl.av a1/\f.1 85=sI (eE a1)/\f.1 86=sI i/\bx f 6 [sI 0,sI 0,nL,nL]/\bx f 9 [sI b,sL Ty.av c]/\bx f 18 [sI a.1,sL sI a.2.1,sL dJ.av a.2.2.1,sI a.2.2.2.1,sI a.2.2.2.2.1,sI a.2.2.2.2.2.1,sL Ty.av a.2.2.2.2.2.2.1,sL Tm.av a.2.2.2.2.2.2.2.1,sL dJ.av a.2.2.2.2.2.2.2.2.1]) abq (λa _ _ _ E m=>?_) (λi _ a _ _ _ _ I E e m z p=>?_)
 .have⟨J,L,M,N,v46,O,P,v49,Q,v51,R,v53⟩:=a;have e:=Aj e E;apply wg 999;dsimp only[ew,HS]at m;exact aa
 have⟨J,L,M,N,v46,O,P,v49,Q,v51,R,v53⟩:=a;have e:=Aj e E;dsimp only[HS]at m;apply wg 5;simp[e];refine C9 m 999 999 (λA f h=>∃j k l v59 n o q r s t u v,(h=H++[[sI t,sI u,sB v]]/\f.1 17=AV.fg (List.length H) 0/\f.1 84=sL Vl.av a1/\f.1 85=sI (eE a1)/\f.1 86=sI i/\bx f 6 [sI 0,sI 0,nL,nL]/\bx f 9 [sI b,sL Ty.av c]/\bx f 18 [sI j,sL sI k,sL dJ.av l,sI v59,sI n,sI o,sL Ty.av q,sL Tm.av r,sL dJ.av s])/\A j k l v59 n o q r s t u v=some I) ?_ (λA _ g m=>?_)
 .rintro _ _ ⟨j,k,l,v59,n,o,q,r,s,t,u,v,E,m⟩;exact aa
 apply Iq e m<;>intro e m
 .simp[e];exact g _ _ ⟨_,_,_,_,_,_,_,_,_,_,_,_,abq,m⟩
 refine sw [0,4,0,5] ?_;intro _ _ d73 e m;simp[e];exact g _ _ ⟨_,_,_,_,_,_,_,_,_,_,_,_,abq,m⟩
@[reducible,instance] def adI:=gl 24 @O'
def Ct(T:eK)(o:n8 T){H:dV}{n:Bool}(hm:uF=some n):eG prog T 7 [] H (sB n) H:=by
 rw[uF] at hm;have e:=o;refine wi aou func7 [] [] 24 ?_;simp[e];refine zZ hm λ_ m=>?_;simp[e];refine zZ m λ_ m=>?_;simp[e];refine zZ m λ_ m=>?_;simp[e];refine zZ m λ_ m=>?_;simp[e];refine zZ m λ_ m=>?_;simp[e];refine zZ m λ_ m=>?_;simp[e];refine zZ m λ_ m=>?_;simp[e];refine zZ m λ_ m=>?_;simp[e];refine zZ m λ_ m=>?_;simp[e];refine zZ m λ_ m=>?_;simp[e];refine zZ m λ_ m=>?_;simp[e];refine zZ m λ_ m=>?_;simp[e];refine zZ m λ_ m=>?_;simp[e];refine Kf3 m λa _ b m=>?_;simp[e];refine Kf3 m λ_ _ c m=>?_;simp[e];refine zZ m λ_ m=>?_;simp[e];refine Ks3 m λ_ _ d m=>?_;refine sw [0,4,0,6,0,1,0,1,0,1,0,3,0,2,0,3,0] ?_;intro _ _ _ h _ _ _ _ _ i _ j l _ k e m;refine wB 999 999 [] [] (λf=>f.1 0=sB (fq (eo b 0) (fq (eo c 0) (fq (eo d 0) (fq (eo h 0) (fq (eo i 0) (fq (eo j 0) (fq (eo k 0) (fq (eo a.aop 4) (eo l.num 5) false) false) false) false) false) false) false) false)) λ_ g=>?_;rcases Pb (eo b 0) e with e|e;rotate_left
 .exact aj
 rcases Pb (eo c 0) e with e|e;rotate_left
 .exact aj
 rcases Pb (eo d 0) e with e|e;rotate_left
 .exact aj
 rcases Pb (eo h 0) e with e|e;rotate_left
 .exact aj
 rcases Pb (eo i 0) e with e|e;rotate_left
 .exact aj
 rcases Pb (eo j 0) e with e|e;rotate_left
 .exact aj
 rcases Pb (eo k 0) e with e|e;rotate_left
 .exact aj
 rcases Pb (eo a.aop 4) e with e|e
 .exact aj
 exact aj
@[reducible,instance] def ab0:=gl 7 @Ct
def aa3:C1 prog 8 I0 sB (sL sI):=by
 refine v1 func8 λT H a0 r m e=>?_;rw[I0] at m;exact au
def aef:kK prog 9=true:=by kernel_rfl
def abg(T:eK){a0:List Int}{b:eN}(hm:SS a0=some b):eG prog T 9 [AV.slice .gK (List.map (λn=>AV.sc (Value.int .i64 n)) a0)] [] (AV.fg 0 0) (gk [[]] 0 [AV.slice .gK (List.map (λn=>AV.sc (Value.int .i64 n)) b.l),AV.sc (.int .i64 b.yI)]):=by
 obtain rfl:=hU hm;refine fv.intro (fn:=f9) func9 rfl aef (Dg rfl) ?_;refine gv.uU λc a=>?_;refine gv.region [] abx ?_;simp;refine a _ _ ?_;refine gv.uU λc a=>?_;refine gv.region [5] abx ?_;simp;refine a _ _ ?_;refine gv.ret ?_;simp[wG,gk]
@[reducible,instance] def ajp:=gl 9 @abg
def Sl:C0 prog 27 ur Ty.av:=by
 refine v0 func27 λT H r m e=>?_;rw[ur] at m;exact aa
@[reducible,instance] def af1:=gl 27 @Sl
def Xp:C2 prog 90 EW (sL sI) (sL Ty.av) Ty.av:=by
 refine v2 func90 λT H a0 a1 r m e=>?_;rw[EW] at m;simp[e];refine Td e m 0 9 [0,8] [3] [25] (λs2=>s2) (λs2 b f=>f.1 5=sT b sI s2) λj _ s2 k _ _ _ l E e m z p=>?_;have⟨b,E,c⟩:=E;simp[e]at E;have e:=Aj e E;apply wg 5;simp[e];refine C9 m 999 999 (λi f h=>∃v12 a,(h=H/\f.1 0=sL Ty.av a0/\f.1 5=sT a sI v12/\f.1 8=sI (eE a0)/\f.1 9=sI j/\bx f 3 (Ty.av a1).cells)/\Ow f [25] a v12/\i v12=some l) ?_ (λi _ g m=>?_)
 .rintro _ _ ⟨v12,a,E,d,m⟩;have e:=Aj e E;simp[e];cases m;exact p _ _ _ ⟨a,abq,d⟩ z
 refine sw [8,0,4] ?_;intro n _ e m;apply Ir e m<;>intro e m
 .simp[e];exact g _ _ ⟨s2,b,abq,c,m⟩
 refine sw [9,0] ?_;intro e m;refine Ao (f:=sI) s2 [j] c E9 e.2 ?_;simp[e];exact g _ _ ⟨(fW s2 [j]),(.loc 25 (k.fy 25+1)),abq,(On 25),m⟩
@[reducible,instance] def ai9:=gl 90 @Xp
def aa8:C2 prog 70 Kn sI sI sI:=by
 refine v2 func70 λT H a0 a1 r m e=>?_;rw[Kn] at m;refine sw [9,9] ?_;intro e m;exact au
@[reducible,instance] def akk:=gl 70 @aa8
def Jh(T:eK){H:dV}{a0:eN}{a1 h:Int}{a:eN}{c:Nat}(b:H[c]?=some [sL sI a0.l,sI a0.yI])(hm:iF a0 a1=some (h,a)):eG prog T 22 [AV.fg c 0,sI a1] H (sI h) (gk H c [sL sI a.l,sI a.yI]):=by
 rw[iF] at hm;have d:=eZ b;refine fv.Kw b ?_;have e:=d;refine wi aou func22 [] [(1,true,[]),(3,true,[])] 3 ?_;simp[e];refine wA 999 999 [1] [] (λf=>f.1 0=AV.fg c 0/\f.1 19=sB (fq (pH a1 1) true (qz a0.yI (eE a0.l)))) [] (λ_ g=>?_) ?_
 .exact aa
 intro _ e m;have m:=hm;exact aa
@[reducible,instance] def Yg:=gl 22 @Jh
def Ss(T:eK):∀(n:Nat),(∀{H:dV} {a0:eN} {a1:Int} {i:Ty} {a:eN} {c:Nat} (b:H[c]?=some [sL sI a0.l,sI a0.yI]) (hm:oe n a0 a1=some (i,a)),eG prog T 91 [AV.fg c 0,sI a1] H (Ty.av i) (gk H c [sL sI a.l,sI a.yI])):=by
  intro n
  induction n with
  |zero=>
    skip
    all_goals(intro _ _;intros;rename_i hm;cases hm)
  |succ n ih=>
 intro H a0 a1 i a c b hm;rw[oe] at hm;have j:=eZ b;refine fv.Kw b ?_;have e:=j;refine wi aou func91 [] [] 2 ?_;simp[e];refine C9 hm 3 999 (λk f h=>∃v2,(h=gk H c [sL sI v2.l,sI v2.yI]/\f.1 4=AV.h9 4 (f.gen 4) 0/\f.box 4=some [sI 0,nL])/\k v2=some (i,a)) ?_ (λk _ g m=>?_)
 .rintro _ _ ⟨v2,E,m⟩;exact aa
 refine sw [0,2,0] ?_;intro d d8 e m;refine wA 999 999 [1,6] [4] (λf=>f.1 0=AV.fg c 0/\f.1 7=sB (fq (eo d 0) true (fq (eo d 1) true (eo d 2)))) [13,13,13] (λ_ g=>?_) ?_
 .rcases Pb (eo d 0) e with e|e
  .exact aj
  rcases Pb (eo d 1) e with e|e
  .exact aj
  exact aj
 intro _ e m;apply Iq e m<;>intro e m
 .apply Ir e m<;>intro e m
  .exact iJ
  simp[e];refine Ar m (ih abq) λ_ d17 m=>?_;simp[e];refine Ar m (ih abq) λ_ d19 m=>?_;exact aa
 apply Ir e m<;>intro e m
 .exact iJ
 apply Ir e m<;>intro e m
 .exact iJ
 simp[e];refine Ar m (ih abq) λ_ d22 m=>?_;simp[e];refine Ar m (ih abq) λ_ d24 m=>?_;exact aa
def Xc(T:eK){H:dV}{a0:eN}{a1:Int}{d:Ty}{a:eN}{b:Nat}(c:H[b]?=some [sL sI a0.l,sI a0.yI]){n:Nat}(hm:oe n a0 a1=some (d,a)):eG prog T 91 [AV.fg b 0,sI a1] H (Ty.av d) (gk H b [sL sI a.l,sI a.yI]):=(Ss T n) c hm
@[reducible,instance] def aiR:=gl 91 @Xc
def PL:C2 prog 93 r9 (sL Ty.av) (sL Ty.av) (sL Ty.av):=by
 refine v2 func93 λT H a0 a1 r m e=>?_;rw[r9] at m;refine sw [9,0] ?_;intro e m;refine Ao (f:=Ty.av) [] a0 (hI.full (D:=[])) Fp e.2 ?_;refine sw [9,0] ?_;intro e m;refine Ao (f:=Ty.av) (fW [] a0) a1 (hI.new (D:=[6]) (d:=6) aal) Fp e.2 ?_;exact au
@[reducible,instance] def afp:=gl 93 @PL
def Y1:C2 prog 59 FJ Tm.av Tm.av (sL Tm.av):=by
 refine v2 func59 λT H a0 a1 r m e=>?_;rw[FJ] at m;simp[e];refine Wr e m 999 (λd s2 f h=>h=H/\f.1 7=sL Tm.av a1/\f.1 8=sI (eE a1)/\f.1 9=sI d/\bx f 2 [sI s2.1,sI s2.2.1,sI s2.2.2.1,sL Ty.av s2.2.2.2.1,sL Tm.av s2.2.2.2.2]/\bx f 4 [sI 0,sI 0,sI 0,nL,nL]) abq (λs2 _ _ _ E m=>?_) (λd _ s2 _ _ _ _ _ E e m z p=>?_)
 .have⟨v11,v12,a,b,c⟩:=s2;have e:=Aj e E;dsimp only[ew,CH]at m;exact au
 have⟨v11,v12,a,b,c⟩:=s2;have e:=Aj e E;dsimp only[CH]at m;exact aa
@[reducible,instance] def ajQ:=gl 59 @Y1
def OB:C0 prog 105 we Tm.av:=by
 refine v0 func105 λT H r m e=>?_;rw[we] at m;exact aa
@[reducible,instance] def acy:=gl 105 @OB
def RD:C0 prog 60 yp Tm.av:=by
 refine v0 func60 λT H r m e=>?_;rw[yp] at m;exact aa
@[reducible,instance] def aeP:=gl 60 @RD
def Ug(T:eK):∀(n:Nat),(∀{H:dV} {a0:eN} {a1:List Ty} {a2:Ty} {a3:Int} {j:Tm} {a:eN} {b:Nat} (k:H[b]?=some [sL sI a0.l,sI a0.yI]) (hm:ic n a0 a1 a2 a3=some (j,a)),eG prog T 33 [AV.fg b 0,sL Ty.av a1,Ty.av a2,sI a3] H (Tm.av j) (gk H b [sL sI a.l,sI a.yI])):=by
  intro n
  induction n with
  |zero=>
    skip
    all_goals(intro _ _;intros;rename_i hm;cases hm)
  |succ n ih=>
 intro H a0 a1 a2 a3 j a b k hm;rw[ic] at hm;have t:=eZ k;refine fv.Kw k ?_;have e:=t;refine wi aou func33 [] [] 5 ?_;have m:=hm;refine sw [0,1,0] ?_;intro B e m;refine Wj m 999 0 (λu f h=>∃v3 v4,(h=gk H b [sL sI v4.l,sI v4.yI]/\f.1 0=AV.fg b 0/\f.1 1=sL Ty.av a1/\f.1 3=sI a3/\f.1 9=sL sI B/\f.1 27=sB v3/\bx f 6 (Ty.av a2).cells/\bx f 8 [sI 0,sI 0,sI 0,nL,nL])/\u v3 v4=some (j,a)) (λu _ g m=>?_) ?_
 .apply Ir e m<;>intro e m
  .exact ak2
  refine sw [0,2] ?_;intro _ d9 e m;exact ak2
 rintro _ _ ⟨v3,v4,E,m⟩;have e:=Aj e E;apply Iq e m<;>intro e m
 .refine sg 999 [0,2] ?_;intro _ d12 e m;exact aa
 apply wg 2;simp[e];refine C9 m 999 6 (λq f h=>∃c,(h=gk H b [sL sI c.l,sI c.yI]/\f.1 0=AV.fg b 0/\f.1 1=sL Ty.av a1/\f.1 3=sI a3/\bx f 6 (Ty.av a2).cells/\bx f 8 [sI 0,sI 0,sI 0,nL,nL])/\q c=some (j,a)) ?_ (λq _ g m=>?_)
 .rintro _ _ ⟨c,E,m⟩;have e:=Aj e E;simp[e];apply Iq e m<;>intro e m
  .apply wg 1;simp[e];refine C9 m 999 999 (λr f h=>∃v21,(h=gk H b [sL sI v21.l,sI v21.yI]/\f.1 0=AV.fg b 0/\f.1 8=AV.h9 8 (f.gen 8) 0/\f.box 8=some [sI 0,sI 0,sI 0,nL,nL])/\r v21=some (j,a)) ?_ (λr _ g m=>?_)
   .rintro _ _ ⟨v21,E,m⟩;refine sw [10,0,2] ?_;intro _ d26 e m;exact aa
   apply Ir e m<;>intro e m
   .exact iJ
   refine sw [0,2] ?_;intro _ d29 e m;apply Iq e m<;>intro e m
   .simp[e];refine Ar m (ih abq) λ_ d31 m=>?_;exact aa
   apply Iq e m<;>intro e m
   .refine sw [0,4,0] ?_;intro _ e m;refine sh m (ih abq) λ_ d35 m=>?_;simp[e];refine sh m (ih abq) λ_ d37 m=>?_;exact aa
   apply Ir e m<;>intro e m
   .exact iJ
   refine sw [0,4,0] ?_;intro _ e m;refine sh m (ih abq) λ_ d41 m=>?_;simp[e];refine sh m (ih abq) λ_ d43 m=>?_;exact aa
  apply wg 3;simp[e];apply Ir e m<;>intro e m
  .apply wg 999;apply Iq e m<;>intro e m
   .refine sw [8,0] ?_;intro C e m;refine sh m (ih abq) λ_ d47 m=>?_;refine sw [8,0] ?_;intro D e m;refine sh m (ih abq) λ_ d50 m=>?_;exact aa
   refine sw [14,8,0,4,8,0] ?_;intro F _ G e m;refine sh m (ih abq) λ_ d57 m=>?_;exact aa
  apply wg 2;simp[e];refine Wj m 999 999 (λs f h=>∃o d,(h=gk H b [sL sI d.l,sI d.yI]/\f.1 0=AV.fg b 0/\f.1 1=sL Ty.av a1/\f.1 3=sI a3/\f.1 276=sB o/\bx f 6 (Ty.av a2).cells/\bx f 8 [sI 0,sI 0,sI 0,nL,nL])/\s o d=some (j,a)) (λs _ g m=>?_) ?_
  .apply Ir e m<;>intro e m
   .exact ak2
   refine sw [0,2] ?_;intro _ d65 e m;exact ak2
  rintro _ _ ⟨o,d,E,m⟩;refine sw [10,14,0,4,0] ?_;intro _ e m;refine sh m (ih abq) λ_ d70 m=>?_;simp[e];refine sh m (ih abq) λ_ d72 m=>?_;exact aa
 apply Ir e m<;>intro e m
 .exact iJ
 refine sw [0,2] ?_;intro _ d75 e m;apply Iq e m<;>intro e m
 .refine sw [0,2,0,4,0] ?_;intro _ d77 _ e m;refine sh m (ih abq) λ_ d80 m=>?_;refine sw [0,4,0] ?_;intro _ e m;refine sh m (ih abq) λ_ d83 m=>?_;exact aa
 apply Iq e m<;>intro e m
 .refine sw [0,2,0] ?_;intro _ d86 e m;refine sh m (ih abq) λ_ d88 m=>?_;simp[e];refine sh m (ih abq) λ_ d90 m=>?_;exact aa
 apply Iq e m<;>intro e m
 .refine sw [0,4,0,4,0,4,0] ?_;intro _ _ _ e m;refine sh m (ih abq) λ_ d97 m=>?_;refine sw [0,4,0,4,0] ?_;intro _ _ e m;refine sh m (ih abq) λ_ d101 m=>?_;refine sw [0,5] ?_;intro _ d103 e m;exact aa
 apply Iq e m<;>intro e m
 .refine sw [0,4,0,4,0,4,0,4,0,4,0] ?_;intro _ _ _ _ _ e m;refine sh m (ih abq) λ_ d112 m=>?_;refine sw [0,4,0,4,0,4,0] ?_;intro _ _ _ e m;refine sh m (ih abq) λ_ d117 m=>?_;refine sw [0,4,0] ?_;intro _ e m;refine sh m (ih abq) λ_ d120 m=>?_;exact aa
 apply Iq e m<;>intro e m
 .refine sw [0,2,0] ?_;intro _ d123 e m;refine sh m (ih abq) λ_ d125 m=>?_;simp[e];refine sh m (ih abq) λ_ d127 m=>?_;exact aa
 apply Ir e m<;>intro e m
 .exact iJ
 simp[e];refine Wr e m 0 (λi _ f h=>h=gk H b [sL sI d75.l,sI d75.yI]/\f.1 0=AV.fg b 0/\f.1 1=sL Ty.av a1/\f.1 3=sI a3/\f.1 176=sI (eE a1)/\f.1 177=sI i/\bx f 6 (Ty.av a2).cells/\bx f 8 [sI 0,sI 0,sI 0,nL,nL]) abq (λ_ _ _ _ E m=>?_) (λi _ _ _ _ _ _ v E e m z p=>?_)
 .have e:=Aj e E;refine sg 999 [11] ?_;intro e m;exact iJ
 have e:=Aj e E;refine sg 11 [8,0] ?_;intro w e m;refine WA m 999 999 [1,3,15,176,177] [6,8,16] (λv141 f=>f.1 0=AV.fg b 0/\f.1 198=sB v141) [] (λx _ g m=>?_) ?_
 .apply Ir e m<;>intro e m
  .exact iJ
  refine sw [8,0] ?_;intro y e m;refine rm m jv λ_ m=>?_;exact iJ
 intro _ v141 e m;apply Ir e m<;>intro e m
 .exact al
 refine sw [0,4,8,0] ?_;intro _ A e m;refine sh m (ih abq) λ_ d150 m=>?_;exact aa
def Xq(T:eK){H:dV}{a0:eN}{a1:List Ty}{a2:Ty}{a3:Int}{d:Tm}{a:eN}{b:Nat}(c:H[b]?=some [sL sI a0.l,sI a0.yI]){n:Nat}(hm:ic n a0 a1 a2 a3=some (d,a)):eG prog T 33 [AV.fg b 0,sL Ty.av a1,Ty.av a2,sI a3] H (Tm.av d) (gk H b [sL sI a.l,sI a.yI]):=(Ug T n) c hm
@[reducible,instance] def aiB:=gl 33 @Xq
def P_(T:eK){H:dV}{a0:eN}{f:Tm}{a:eN}{c:Nat}(b:H[c]?=some [sL sI a0.l,sI a0.yI])(hm:tY a0=some (f,a)):eG prog T 10 [AV.fg c 0] H (Tm.av f) (gk H c [sL sI a.l,sI a.yI]):=by
 rw[tY] at hm;have d:=eZ b;refine fv.Kw b ?_;have e:=d;refine wi aou func10 [] [] 999 ?_;have m:=hm;refine sw [0,1,0,1,0,1,0,2] ?_;intro _ _ _ _ d5 e m;exact aa
@[reducible,instance] def ae0:=gl 10 @P_
def iQ:C1 prog 13 hZ sB sI:=by
 refine u1 2 func13 λT H a0 r m e=>?_;rw[hZ] at m;simp[e];refine wB 999 999 [] [] (λf=>f.1 2=sB (fq (eo a0 4) true (fq (eo a0 5) true (eo a0 3)))) λ_ g=>?_;exact aa
def Q0(T:eK):∀(n:Nat),(∀{H:dV} {a0:eN} {a1:Ty} {o:Vl} {c:eN} {j:Nat} (d:H[j]?=some [sL sI a0.l,sI a0.yI]) (hm:rA n a0 a1=some (o,c)),eG prog T 25 [AV.fg j 0,Ty.av a1] H (Vl.av o) (gk H j [sL sI c.l,sI c.yI])):=by
  intro n
  induction n with
  |zero=>
   skip
   all_goals(intro _ _;intros;rename_i hm;cases hm)
  |succ n ih=>
 intro H a0 a1 o c j d hm;rw[rA] at hm;have q:=eZ d;refine fv.Kw d ?_;have e:=q;refine wi aou func25 [] [] 999 ?_;apply Iq e hm<;>intro e m
 .refine sw [0,2] ?_;intro _ d2 e m;exact au
 apply Ir e m<;>intro e m
 .refine sw [12,8,0] ?_;intro v e m;refine sh m (ih abq) λs d5 m=>?_;refine sw [8,0] ?_;intro w e m;refine sh m (ih abq) λt d8 m=>?_;have e:=Aj e (show AV.agg [sI 3,sI 0,AV.slice .gK [],AV.slice .gK [Vl.av s,Vl.av t]]=Vl.av (Vl.mk 3 0 [] [s,t]) by rw[Vl.fi];rfl);exact au
 refine sw [0,2,0] ?_;intro _ d10 e m;refine Wn m 999 (λb f h=>∃a,(h=gk H j [sL sI b.2.2.l,sI b.2.2.yI]/\f.1 0=AV.fg j 0/\f.1 6=sI b.1/\bx f 4 [sI 0,sI 0,nL,nL]/\bx f 5 [sI 2,sI 0,sT a sI b.2.1,nL])/\Ow f [28] a b.2.1) (by exact⟨.full,abq,hI.full⟩) (λb k _ _ _ _ E m z p=>?_);have⟨u,v20,v21⟩:=b;have⟨a,E,i⟩:=E;have e:=Aj e E;dsimp only[A']at m;apply Ir e m<;>intro e m
 .cases m;have m:=Qb z;dsimp only[A']at m;exact au
 refine sw [0,5,9,0] ?_;intro r d23 e m;refine Ad (f:=sI) v20 [r] i E9 e.2 ?_;simp[e];cases m;exact p _ _ _ ⟨(.loc 28 (k.fy 28+1)),abq,(On 28)⟩ z
def S'(T:eK){H:dV}{a0:eN}{a1:Ty}{d:Vl}{a:eN}{b:Nat}(c:H[b]?=some [sL sI a0.l,sI a0.yI]){n:Nat}(hm:rA n a0 a1=some (d,a)):eG prog T 25 [AV.fg b 0,Ty.av a1] H (Vl.av d) (gk H b [sL sI a.l,sI a.yI]):=(Q0 T n) c hm
@[reducible,instance] def agF:=gl 25 @S'
def A6(T:eK)(y:n8 T){a0:List Int}{A:Bool}(hm:oN a0=some A):fv prog T 6 [sL sI a0] [] (λx _=>x=sB A):=by
 rw[oN] at hm;have e:=y;refine wi aou func6 [] [] 3 ?_;simp[e];refine WA hm 999 0 [0] [] (λv2 f=>f.1 47=sB v2) [13] (λX _ g m=>?_) ?_
 .simp[e];refine pX m (Ct T y) λ_ m=>?_;apply Ir e m<;>intro e m
  .exact iJ
  simp[e];refine pX m aa3 λ_ m=>?_;exact iJ
 intro _ v2 e m;refine sg 13 [0,1,0,2,0,2,0,2,0,3,0,3,0,3,0] ?_;intro _ C d11 D d13 F d15 _ G b _ H c _ I k e m;refine wA 999 0 [9,12,15] [4,5,6,8,11,14] (λf=>f.1 3=AV.fg 0 0/\f.1 84=sB (fq (eR b 0) true (fq (eR c 0) true (eR k 0)))) [] (λ_ g=>?_) ?_
 .rcases Pb (eR b 0) e with e|e
  .exact aj
  rcases Pb (eR c 0) e with e|e
  .exact aj
  exact aj
 intro _ e m;apply Iq e m<;>intro e m
 .apply wg 1;simp[e];refine WB m 999 999 [] [] (λv30 f=>f.1 2=sB v30) λJ _ g m=>?_;simp[e];refine pX m iQ λ_ m=>?_;apply Iq e m<;>intro e m
  .exact iJ
  simp[e];refine pX m iQ λ_ m=>?_;apply Iq e m<;>intro e m
  .exact iJ
  simp[e];refine pX m iQ λ_ m=>?_;exact iJ
 refine sg 13 [0,1,0,4,0,4,0,4,0,4,0,4,0,4,0,4,0,4,0,3,0,3,0] ?_;intro K _ _ _ L _ _ _ M _ N l _ O n e m;refine wA 999 0 [9,12] [4,5,6,8,14,16,17,18,20,22] (λf=>f.1 3=AV.fg 0 0/\f.1 133=sB (fq (eR l 0) true (eR n 0))) [] (λ_ g=>?_) ?_
 .exact aa
 intro _ e m;apply Iq e m<;>intro e m
 .apply wg 1;simp[e];refine WB m 999 999 [] [] (λo f=>f.1 2=sB o) λP _ g m=>?_;simp[e];refine pX m iQ λ_ m=>?_;apply Iq e m<;>intro e m
  .exact iJ
  simp[e];refine pX m iQ λ_ m=>?_;exact iJ
 refine sg 7 [0,3,0,3,0] ?_;intro _ Q q _ R r e m;refine wA 999 0 [9,12] [4,5,6,16,24,26] (λf=>f.1 3=AV.fg 0 0/\f.1 163=sB (fq (eR q 0) true (eR r 0))) [] (λ_ g=>?_) ?_
 .exact aa
 intro _ e m;apply Iq e m<;>intro e m
 .apply wg 1;simp[e];refine WB m 999 999 [] [] (λv72 f=>f.1 2=sB v72) λS _ g m=>?_;simp[e];refine pX m iQ λ_ m=>?_;apply Iq e m<;>intro e m
  .exact iJ
  simp[e];refine pX m iQ λ_ m=>?_;exact iJ
 refine sg 7 [0,2,0,2,0] ?_;intro U s V t e m;refine wA 999 0 [28,30] [4,5,6,16,27,29] (λf=>f.1 3=AV.fg 0 0/\f.1 187=sB (fq (eR s 0) true (eR t 0))) [] (λ_ g=>?_) ?_
 .exact aa
 intro _ e m;apply Iq e m<;>intro e m
 .apply wg 1;simp[e];refine WB m 999 999 [] [] (λu f=>f.1 2=sB u) λW _ g m=>?_;simp[e];refine pX m iQ λ_ m=>?_;apply Iq e m<;>intro e m
  .exact iJ
  simp[e];refine pX m iQ λ_ m=>?_;exact iJ
 refine sg 11 [0,2,0,3,0,3,0,4,0,4,0,4,0,4,0,4,0,6,0] ?_;intro _ d93 v _ d w _ h _ _ _ _ _ a _ i e m;refine wA 999 0 [34,37,40] [32,35,38] (λf=>f.1 236=sB (fq (eR d 0) true (fq (eR h 0) true (eR i 0)))) [] (λ_ g=>?_) ?_
 .rcases Pb (eR d 0) e with e|e
  .exact aj
  rcases Pb (eR h 0) e with e|e
  .exact aj
  exact aj
 intro _ e m;apply Ir e m<;>intro e m
 .apply wg 2;simp[e];refine wB 999 999 [] [] (λf=>f.1 2=sB (fq (eo v.num a.num) (eo w.num a.num) false)) λ_ g=>?_;exact aa
 apply wg 1;simp[e];refine WB m 999 999 [] [] (λj f=>f.1 2=sB j) λB _ g m=>?_;simp[e];refine pX m iQ λ_ m=>?_;apply Iq e m<;>intro e m
 .exact iJ
 simp[e];refine pX m iQ λ_ m=>?_;apply Iq e m<;>intro e m
 .exact iJ
 simp[e];refine pX m iQ λ_ m=>?_;exact iJ
end Go.Proofs.YtpgdkkomegalnaaGreatDoor
