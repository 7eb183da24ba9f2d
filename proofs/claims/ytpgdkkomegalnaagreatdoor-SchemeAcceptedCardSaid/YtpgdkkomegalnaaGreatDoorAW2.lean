/- Part of the proof of SchemeAccepted: walks. -/
import Derived.Test.YtpgdkkomegalnaaGreatDoorAW1
import Derived.Test.YtpgdkkomegalnaaGreatDoorAL20
set_option linter.all false
set_option maxRecDepth 20000
set_option maxHeartbeats 4000000
namespace Go.Proofs.YtpgdkkomegalnaaGreatDoor
open Go Go.kY Go.fH Tryz
def HG:C2 prog 261 xF Tm.av Tm.av (sL Tm.av):=by
 refine v2 func261 λT H a0 d r m e=>?_;rw[xF] at m;simp[e];refine Wr e m 999 (λi s2 f h=>h=H/\f.1 7=sL Tm.av d/\f.1 8=sI (ez d)/\f.1 9=sI i/\bx f 2 [sI s2.1,sI s2.2.1,sI s2.2.2.1,sL Ty.av s2.2.2.2.1,sL Tm.av s2.2.2.2.2]/\bx f 4 [sI 0,sI 0,sI 0,nL,nL]) abx (λs2 _ _ _ E m=>?_) (λi _ s2 _ _ _ _ _ E e m z p=>?_)
 ·have⟨v11,v12,a,b,c⟩:=s2;have e:=Aj e E;dsimp only[ew,CJ]at m;exact au
 have⟨v11,v12,a,b,c⟩:=s2;have e:=Aj e E;dsimp only[CJ]at m;exact aa
@[reducible,instance] def acA:=@Kc.mk prog 261 _ @HG
def F7:C1 prog 347 Bf Tm.av Tm.av:=by
 refine v1 func347 λT H a0 r m e=>?_;rw[Bf] at m;exact aa
@[reducible,instance] def aas:=@Kc.mk prog 347 _ @F7
def Gf:C0 prog 343 xQ Tm.av:=by
 refine v0 func343 λT H r m e=>?_;rw[xQ] at m;exact aa
@[reducible,instance] def Z1:=@Kc.mk prog 343 _ @Gf
def En:C2 prog 337 vL Fm.av Tm.av Tm.av:=by
 refine v2 func337 λT H a0 a r m e=>?_;rw[vL] at m;exact aa
def ox{n:Nat}:C2 prog 336 (kM n) sB Fm.av Fm.av:=by
 refine i2 λn ih=>u2 3 func336 λT H a0 a r m e=>?_;rw[kM] at m;simp[e];refine WA m 999 999 [] [2,3] (λv2 f=>f.1 39=sB v2) [7,0] (λb _ g m=>?_) ?_
 ·apply Iq e m<;>intro e m
  ·exact iO
  simp[e];refine pS m kA λ_ m=>?_;apply Ir e m<;>intro e m
  ·exact iO
  apply Iq e m<;>intro e m
  ·exact iO
  exact iO
 intro _ v2 e m;refine Wa e m 999 43 [41,42] [2,3] nI [11,0] ?_;intro _ _ e m;exact Wb e m 999 60 [58,59] [3] nI
def oI(T:eH){H:dT}{a0:Fm}{b:Bool}{c:Tm}{d:Fm}{h:Bool}(hm:ud a0=some (b,c,d,h)):eI prog T 319 [Fm.av a0] H (AV.tuple [sB b,Tm.av c,Fm.av d,sB h]) H:=by
 rw[ud] at hm;have e:=trivial;refine wi aiN func319 [] [] 7 ?_;have m:=hm;refine sw [0,2,0] ?_;intro _ _ e m;refine WA m 999 0 [6] [1,3,4] (λv4 f=>f.1 48=sB v4) [13] (λo _ g m=>?_) ?_
 ·apply Iq e m<;>intro e m
  ·exact iO
  apply Iq e m<;>intro e m
  ·exact iO
  have⟨q,e,m⟩:=MX e m;apply Iq e m<;>intro e m
  ·exact iO
  have⟨r,e,m⟩:=MX e m;exact iO
 intro _ v4 e m;refine sg 7 [8,8,8,0] ?_;intro i j k e m;refine WB m 999 999 [6] [1,3,4,10] (λa f=>f.1 83=sB a) λl _ g m=>?_;apply Iq e m<;>intro e m
 ·exact iO
 refine sw [8,0] ?_;intro n e m;refine qI m (Dy T) λ_ m=>?_;apply Iq e m<;>intro e m
 ·exact iO
 simp[e];refine qI m HR λ_ m=>?_;simp[e];refine qI m En λ_ m=>?_;simp[e];refine qI m ox λ_ m=>?_;exact iO
def n5:∀(n:Nat),C1 prog 297 (nd n) (λn=>AV.sc (Value.int .u8 n)) Fm.av:=by
  intro n
  induction n with
  |zero=>
    skip
    all_goals(intro _ _;intros;rename_i hm;cases hm)
  |succ n ih=>
 intro T H a0 r hm;rw[nd] at hm;have e:=trivial;refine wi aiN func297 [] [] 5 ?_;have m:=hm;refine sw [0,13] ?_;intro e m;refine sg 4 [8,0,15,0] ?_;intro o b e m;refine CP m 3 2 (λc f h=>∃v4,(h=H/\f.1 3=AV.sc (.int .u8 v4)/\bx f 1 (Fm.av a0).cells)/\c v4=some r) ?_ (λc _ g m=>?_)
 ·rintro _ _ ⟨v4,E,m⟩;have e:=Aj e E;simp[e];refine WB m 999 999 [] [] (λv9 f=>f.1 6=AV.sc (.int .u8 v9)) λq _ g m=>?_;have⟨d,i,j,k,e,m⟩:=Bo4 e m;simp[e];refine Cf (oI T e.2) ?_;apply Ir e m<;>intro e m
  ·exact iO
  refine sw [0,15] ?_;intro _ e m;exact iO
 simp[e];refine wj 999 0 (λf h=>h=H/\f.1 3=AV.sc (.int .u8 b)/\f.1 24=sI a0.aiI/\f.1 25=sB (e_ (ei a0.aiI 2) true (ei a0.aiI 3))/\bx f 1 (Fm.av a0).cells) (λ_ g=>?_) ?_
 ·rcases Pb (ei a0.aiI 2) e with e|e
  ·exact aj
  exact aj
 rintro _ _ E;have e:=Aj e E;apply Ir e m<;>intro e m
 ·apply wg 999;apply Ir e m<;>intro e m
  ·exact iO
  exact iO
 refine sg 5 [8,0,15,0] ?_;intro l a e m;refine wjs 2 999 (λf h=>h=H/\f.1 3=AV.sc (.int .u8 (e_ (ei a0.aiI 2) (JU .u8 b a) b))/\f.1 5=AV.sc (.int .u8 (ue .u8 (ue .u8 a b) 6))) ?_ (λ_ g=>?_)
 ·rintro _ _ E;exact aa
 simp[e];rcases Pb (ei a0.aiI 2) e with e|e
 ·apply wg 999;exact aj
 apply wg 999;exact aj
def PM{n:Nat}:C1 prog 297 (nd n) (λn=>AV.sc (Value.int .u8 n)) Fm.av:=(n5 n)
@[reducible,instance] def abl:=@Kc.mk prog 297 _ @PM
def Gt(T:eH)(d:nV T){H:dT}{a0:Fm}{a:Int}{b:Bool}{c:Int}(hm:Bp a0 a=some (b,c)):eI prog T 263 [Fm.av a0,AV.sc (.int .u8 a)] H (AV.tuple [sB b,sI c]) H:=by
 rw[Bp] at hm;have e:=d;refine wi aiN func263 [] [] 999 ?_;have m:=hm;exact aa
@[reducible,instance] def aag:=@Kc.mk prog 263 _ @Gt
def zr(T:eH)(c:nV T){H:dT}{a0:Fm}{a:Bool}{b:Int}(hm:qR a0=some (a,b)):eI prog T 188 [Fm.av a0] H (AV.tuple [sB a,sI b]) H:=by
 rw[qR] at hm;have e:=c;refine wi aiN func188 [] [] 999 ?_;have m:=hm;exact aa
def et(T:eH)(k:nV T):∀(n:Nat),(∀{H:dT} {a0:List Fm} {b:Pf} {a2:d_} {d:dV} {h:Int} {c:Nat} (a:KC H c a0) (hm:gv n a0 b a2=some (d,h)),eI prog T 138 [AV.eT c 0,Pf.av b,d_.av a2] H (AV.tuple [dV.av d,sI h]) H)/\(∀{H:dT} {a0:List Fm} {b:Pf} {a2:d_} {d:dV} {h:Int} {c:Nat} (a:KC H c a0) (hm:lL n a0 b a2=some (d,h)),eI prog T 180 [AV.eT c 0,Pf.av b,d_.av a2] H (AV.tuple [dV.av d,sI h]) H)/\(∀{H:dT} {a0:List Fm} {b:Pf} {a2:d_} {d:dV} {h:Int} {c:Nat} (a:KC H c a0) (hm:kN n a0 b a2=some (d,h)),eI prog T 182 [AV.eT c 0,Pf.av b,d_.av a2] H (AV.tuple [dV.av d,sI h]) H)/\(∀{H:dT} {a0:List Fm} {b:Pf} {a2:d_} {a3:Fm} {a4:Tm} {d:dV} {h:Int} {c:Nat} (a:KC H c a0) (hm:je n a0 b a2 a3 a4=some (d,h)),eI prog T 251 [AV.eT c 0,Pf.av b,d_.av a2,Fm.av a3,Tm.av a4] H (AV.tuple [dV.av d,sI h]) H):=by
  intro n
  induction n with
  |zero=>
    refine⟨?_,?_,?_,?_⟩
    all_goals(intro _ _;intros;rename_i hm;cases hm)
  |succ n ih=>
 refine⟨?_,?_,?_,?_⟩
 ·intro H a0 b a2 d h c a hm;rw[gv] at hm;have e:=Aj k a;refine wi aiN func138 [] [(1,true,[])] 7 ?_;have o:u6 prog H 158 (AV.nB (c-1)) (sI b.aiI) false=some (L0 b.aiI):=Pc a.2;have e:=Aj e o;have⟨j,q,e,m⟩:=Bo2 e hm;simp[e];refine gI.val (r:=AV.tuple [dV.av j,sI q]) (H':=H) ?_ aaF ?_
  ·have i:=e.2;rcases abG (ei b.aiI 8=true)with hk|hk
   ·rw[dO hk] at i;rw[Fg hk abL];exact Qj (ih.2.1 a i)
   rw[dI hk] at i;rcases abG (ei b.aiI 10=true)with hk|hk
   ·rw[dO hk] at i;rw[Fg hk abL];exact Qj (ih.2.2.1 a i)
   rw[dI hk] at i;rcases abG (ei b.aiI 18=true)with hk|hk
   ·rw[dO hk] at i;rw[Fg hk abL];exact Qj (sG T a i)
   rw[dI hk] at i;cases i
  refine sw [0,13] ?_;intro e m;refine sg 5 [0,1,0,13] ?_;intro _ e m;apply wg 2;simp[e];refine WB m 999 999 [] [6] (λs f=>bx f 8 [sI j.dW.aiI,sI j.dW.dM.aiI,sL Ty.av j.dW.dM.aiJ,sL Tm.av j.dW.ef,sL Fm.av j.dW.aiJ,AV.sc (.int .u32 s)]) λC _ g m=>?_;simp[e];refine Ds m (zr T k) λ_ _ m=>?_;apply Ir e m<;>intro e m
  ·exact iO
  exact iO
 ·intro H a0 b a2 d h c a hm;rw[lL] at hm;have e:=Aj k a;refine wi aiN func180 [] [] 7 ?_;have m:=hm;refine sw [0,1,0,13] ?_;intro _ e m;refine sg 7 [8,0,4,0] ?_;intro D _ e m;refine tq m (ih.1 a) λt _ m=>?_;refine sw [0,13] ?_;intro e m;apply wg 4;simp[e];refine WA m 999 999 [] [4,6,9] (λl f=>f.1 11=sI l) [] (λu _ g m=>?_) ?_
  ·apply Ir e m<;>intro e m
   ·exact iO
   refine Il e m λe m=>?_;exact iO
  intro _ l e m;exact aa
 ·intro H a0 b a2 d h c a hm;rw[kN] at hm;have e:=Aj k a;refine wi aiN func182 [] [] 999 ?_;have m:=hm;refine sw [8,8] ?_;intro v w e m;apply Ir e m<;>intro e m
  ·simp[e];refine pS m gO λ_ m=>?_;refine sw [7,7,0] ?_;intro e m;refine Ds m gB λ_ _ m=>?_;refine sw [7,0] ?_;intro e m;refine pS m ql λ_ m=>?_;refine sw [12,8,8,0] ?_;intro x y e m;refine tq m (ih.2.2.2 a) λ_ _ m=>?_;refine sw [7,0] ?_;intro e m;refine qI m (JI T) λ_ m=>?_;exact au
  simp[e];refine pS m gO λ_ m=>?_;refine sw [7,7,0] ?_;intro e m;refine Ds m gB λ_ _ m=>?_;refine sw [7,0] ?_;intro e m;refine pS m ql λ_ m=>?_;refine sw [12,8,8,0] ?_;intro A B e m;refine tq m (ih.2.2.2 a) λ_ _ m=>?_;refine sw [7,0] ?_;intro e m;refine qI m yJ λ_ m=>?_;exact au
 ·intro H a0 b a2 a3 a4 d h c a hm;rw[je] at hm;have e:=Aj k a;refine wi aiN func251 [] [] 999 ?_;simp[e];refine Ds hm (ih.1 a) λ_ _ m=>?_;refine sw [7,0,2] ?_;intro _ j e m;exact aa
def yk(T:eH)(h:nV T){H:dT}{a0:List Fm}{b:Pf}{a2:d_}{c:dV}{d:Int}{f:Nat}(a:KC H f a0){n:Nat}(hm:gv n a0 b a2=some (c,d)):eI prog T 138 [AV.eT f 0,Pf.av b,d_.av a2] H (AV.tuple [dV.av c,sI d]) H:=(et T h n).1 a hm
def yw{n:Nat}:C1 prog 192 (xW n) Tm.av Tm.av:=by
 refine i1 λn ih=>v1 func192 λT H a0 r m e=>?_;rw[xW] at m;refine sw [0,4,0] ?_;intro i e m;refine Td e m 999 17 [15,16] [2] [26] (λb=>b) (λb a f=>bx f 3 [sI a0.aiI,sI a0.aiL,sI i.aiI,sL Ty.av i.aiJ,sT a Tm.av b]) λj _ b d _ _ _ _ E e m z p=>?_;have⟨a,E,c⟩:=E;refine sw [20,0,18,9,0] ?_;intro h e m;refine Ad (f:=Tm.av) b [h] c y5 e.2 ?_;simp[e];cases m;exact p _ _ _ ⟨(.loc 26 (d.e8 26+1)),abx,(On 26)⟩ z
@[reducible,instance] def acq:=@Kc.mk prog 192 _ @yw
def uG:C2 prog 191 m9 Tm.av Tm.av sI:=by
 refine v2 func191 λT H a0 a r m e=>?_;rw[m9] at m;exact aa
def D3:C1 prog 140 oE Fm.av Fm.av:=by
 refine v1 func140 λT H a0 r m e=>?_;rw[oE] at m;simp[e];refine Ds m (sD T (st:=λ_:Unit=>H) (EO.const _) (λX _ _ _ _ _ h=>by obtain⟨a,rfl⟩:=y7 h;exact uG a)) λ_ _ m=>?_;exact au
def SX:kI prog 193=true:=by kernel_rfl
set_option maxHeartbeats 4000000 in
def Zt(x k idx:Nat)(w:World)(b:((x:Int)==0)=false)
  (key:bits BinOp.and IntKind.u32 (x:Int) (-(x:Int)%4294967296)*125613361%4294967296/134217728=(idx:Int))
  (hi:idx<32) (c:k<32) (a:w.cell? ⟨0,idx,none⟩=some (.int .u8 k)):Calls prog 193 #[.int .u32 x] w λe w'=>e=.returned (.int .i64 k)/\w'=w:=by
 go_enter func193,ntmps193
 go_wp2_with (simp only[key])
 go_ret
 exact⟨rfl,rfl⟩
set_option maxHeartbeats 4000000 in
def XV(w:World):Calls prog 193 #[.int .u32 0] w λe w'=>e=.returned (.int .i64 32)/\w'=w:=by
 go_enter func193,ntmps193
 go_wp2
 go_ret
 exact⟨rfl,rfl⟩
def Ya(n:Int):IntKind.u32.wrap n=n%4294967296:=by simp[IntKind.wrap,IntKind.signed,IntKind.bits]
def abA(a b:Nat)(f:a<4294967296)(h:b<4294967296):bits .and .u32 (a:Int) (b:Int)=((a&&&b:Nat):Int):=by
 have i:a&&&b<2^32:=aeA _ VW
 have c:(BitVec.ofInt 32 (a:Int)).toNat=a:=by
  rw[aef];omega
 have d:(BitVec.ofInt 32 (b:Int)).toNat=b:=by
  rw[aef];omega
 show IntKind.u32.wrap ((BitVec.ofInt 32 (a:Int)&&&BitVec.ofInt 32 (b:Int)).toNat:Int)=_;rw[BitVec.toNat_and,c,d,Ya];omega
def acH(x a:Nat)(c:x<4294967296)(d:x≠0)(b:x&&&(4294967296-x)=a):bits BinOp.and IntKind.u32 (x:Int) (-(x:Int)%4294967296)*125613361%4294967296/134217728=((a*125613361%4294967296/134217728:Nat):Int):=by
 have f:-(x:Int)%4294967296=((4294967296-x:Nat):Int):=VW
 rw[f,abA x _ c VW,b];omega
def ab4:∀j,j<32->lj[j]?=some ((Lib.deBruijn32tab.getD j 0:Nat):Int):=by decide+kernel
def uY(T:eH)(q:nV T){H:dT}{a0 h:Int}(hm:mA a0=some h):eI prog T 193 [AV.sc (.int .u32 a0)] H (sI h) H:=by
 unfold mA at hm
 split at hm
 case isFalse=>cases hm
 rename_i j;obtain⟨x,rfl⟩:∃x:Nat,a0=(x:Int):=⟨a0.toNat,VW⟩;obtain rfl:=lE hm
 have k:x<2^32:=VW
 rw[CB];refine eI.X_ SX λG F w vs hg r=>?_
 obtain⟨v1,rfl,a⟩:∃v,vs=[v]/\gH F G H.length (AV.sc (.int .u32 (x:Int))) v:=by
  cases r with
  |cons a b=>cases b;exact⟨_,rfl,a⟩
 cases a;refine⟨_,.sc rfl,?_⟩
 by_cases c:x=0
 ·subst c;exact(XV w).mono λe w' ⟨a,b⟩=>⟨a,by rw[b];exact af5 _ _⟩
 ·have⟨d,l⟩:=Lib.lowest_bit 32 x c k;have⟨hi,f⟩:=Lib.deBruijn32_at _ l;have s:=hg.Dl 0 _ q.2.2;cases s with
  |mh a b u=>
   have n:=ab4 _ hi;rw[f] at n;have⟨v,t,j⟩:=a.get (i:=2^Lib.ctz 32 x*125613361%4294967296/134217728) (x:=.sc (.int .u8 (Lib.ctz 32 x:Int))) (by simp[AV.cells,n]);cases j;have o:=hg.FR _ _ _ (b _ _ t);rw[xH] at o;exact(Zt x (Lib.ctz 32 x) _ w aby (acH x _ k c d) hi l o).mono λe w' ⟨a,b⟩=>⟨a,by rw[b];exact af5 _ _⟩
@[reducible,instance] def Hn:=@Kc.mk prog 193 _ @uY
def qi(T:eH)(i:nV T){H:dT}{a0:Int}{d:List Int}(hm:lp a0=some d):eI prog T 141 [AV.sc (.int .u32 a0)] H (sL sI d) H:=by
 rw[lp] at hm;have e:=i;refine wi aiN func141 [] [] 999 ?_;simp[e];refine Wn hm 999 (λs1 f h=>∃a,(h=H/\f.1 0=AV.sc (.int .u32 s1.1)/\f.1 3=sT a sI s1.2)/\Ow f [14] a s1.2) (by exact⟨.full,abx,hD.full⟩) (λs1 fr2 _ _ _ _ E m z p=>?_);have⟨j,v9⟩:=s1;have⟨a,E,b⟩:=E;have e:=Aj e E;dsimp only[oO]at m;apply Ir e m<;>intro e m
 ·cases m;have m:=Qb z;dsimp only[oO]at m;exact au
 refine sw [0,1,9,0] ?_;intro c e m;refine Ao (f:=sI) v9 [c] b GX e.2 ?_;simp[e];cases m;exact p _ _ _ ⟨(.loc 14 (fr2.e8 14+1)),abx,(On 14)⟩ z
def sd(T:eH)(a:nV T){H:dT}{a0:List Fm}{d:Sq}{a2:Pf}{b:su}{c:Int}(hm:rY a0 d a2=some (b,c)):eI prog T 101 [sL Fm.av a0,Sq.av d,Pf.av a2] H (AV.tuple [su.av b,sI c]) H:=by
 rw[rY] at hm;refine fo.uI (Post:=λx K=>x=AV.tuple [su.av b,sI c]/\∃X,K=H++X) ?_ (λ_ _ h=>⟨_,h.2.choose_spec,by rw[h.1];simp[AV.low,AV.iu],h.1,rfl⟩);have e:=a;refine wi aiN func101 [29] [] 999 ?_;simp[e];refine pS hm (s6 T a) λ_ m=>?_;refine sw [7,0] ?_;intro e m;refine pS m (xa T a) λ_ m=>?_;refine sw [7,0] ?_;intro e m;refine pS m (Ia T) λ_ m=>?_;simp[e];refine qI m vJ λ_ m=>?_;simp[e];refine tq m (yk T a ⟨abx,abx⟩) λ_ _ m=>?_;refine sw [7,0] ?_;intro e m;refine qI m D3 λ_ m=>?_;simp[e];refine qI m (qi T a) λ_ m=>?_;exact au
@[reducible,instance] def UH:=@Kc.mk prog 101 _ @sd
def zf(T:eH)(c:nV T){H:dT}{a0:Tm}{a:Pf}{b:Int}(hm:j3 a0 a=some b):eI prog T 46 [Tm.av a0,Pf.av a] H (sI b) H:=by
 rw[j3] at hm;have e:=c;refine wi aiN func46 [] [] 999 ?_;have m:=hm;exact aa
@[reducible,instance] def Tp:=@Kc.mk prog 46 _ @zf
def LQ:C1 prog 49 km Pf.av sI:=by
 refine v1 func49 λT H a0 r m e=>?_;rw[km] at m;exact au
@[reducible,instance] def Zl:=@Kc.mk prog 49 _ @LQ
def D9:C3 prog 47 jE Pf.av Fm.av Pf.av Pf.av:=by
 refine v3 func47 λT H a0 a a2 r m e=>?_;rw[jE] at m;have e:=Aj e (show AV.agg [sI 19,sI 0,sI 0,AV.slice .gx [],AV.slice .gx [],AV.slice .gx [Fm.av a0],AV.slice .gx [Pf.av a,Pf.av a2]]=Pf.av (Pf.mk 19 0 (Ty.mk 0 []) [] [a0] [a,a2]) by rw[Pf.eO];rfl);exact au
@[reducible,instance] def Ry:=@Kc.mk prog 47 _ @D9
def Mh:C2 prog 51 vM Pf.av Tm.av Pf.av:=by
 refine v2 func51 λT H a0 a r m e=>?_;rw[vM] at m;have e:=Aj e (show AV.agg [sI 9,sI 0,sI 0,AV.slice .gx [],AV.slice .gx [Tm.av a0],AV.slice .gx [],AV.slice .gx [Pf.av a]]=Pf.av (Pf.mk 9 0 (Ty.mk 0 []) [a0] [] [a]) by rw[Pf.eO];rfl);exact au
@[reducible,instance] def Yw:=@Kc.mk prog 51 _ @Mh
def Ph:C2 prog 50 l_ Pf.av sI (sL Pf.av):=by
 refine v2 func50 λT H a0 a r m e=>?_;rw[l_] at m;exact au
@[reducible,instance] def abC:=@Kc.mk prog 50 _ @Ph
def wu(T:eH)(l:nV T){H:dT}{a0:Tm}{b:Pf}{a2:Tm}{a3:Pf}{c:Fm}{d:Pf}{i:Int}(hm:qd a0 b a2 a3=some (c,d,i)):eI prog T 12 [Tm.av a0,Pf.av b,Tm.av a2,Pf.av a3] H (AV.tuple [Fm.av c,Pf.av d,sI i]) H:=by
 rw[qd] at hm;have e:=l;refine wi aiN func12 [] [] 999 ?_;simp[e];have⟨j,a,m⟩:=Cu hm;refine Wr e m 999 (λk _ f h=>h=H/\f.1 20=sT .full Tm.av j/\f.1 21=sI (ez j)/\f.1 22=sI k/\bx f 4 (Tm.av a0).cells/\bx f 5 (Pf.av b).cells/\bx f 6 (Tm.av a2).cells/\bx f 7 (Pf.av a3).cells/\bx f 8 [sI 0,sI 0,nL,nL,nL]/\bx f 9 [sI 0,sI 0,sI 0,nL,nL,nL,nL]) (by(repeat' apply And.intro)<;>first|rfl|(rw[a];rfl)|simp[e,a,ez]) (λ_ _ _ _ E m=>?_) (λk _ _ _ _ _ _ _ E e m z p=>?_);rotate_left
 ·exact aa
 exact aa
@[reducible,instance] def UQ:=@Kc.mk prog 12 _ @wu
def yR{n:Nat}:C1 prog 127 (iQ n) Ty.av Ty.av:=by
 refine i1 λn ih=>v1 func127 λT H a0 r m e=>?_;rw[iQ] at m;simp[e];refine Td e m 999 9 [7,8] [1,2] [17] (λs2=>s2) (λs2 a f=>f.1 3=sT a Ty.av s2) λh _ s2 c _ _ _ _ E e m z p=>?_;have⟨a,E,b⟩:=E;refine sw [20,0,15,9,0] ?_;intro d e m;refine Ao (f:=Ty.av) s2 [d] b FG e.2 ?_;simp[e];cases m;exact p _ _ _ ⟨(.loc 17 (c.e8 17+1)),abx,(On 17)⟩ z
@[reducible,instance] def Yf:=@Kc.mk prog 127 _ @yR
def yo{n:Nat}:C1 prog 123 (lr n) Tm.av Tm.av:=by
 refine i1 λn ih=>v1 func123 λT H a0 r m e=>?_;rw[lr] at m;simp[e];refine Td e m 999 9 [7,8] [1,2] [17] (λs2=>s2) (λs2 a f=>f.1 3=sT a Tm.av s2) λh _ s2 c _ _ _ _ E e m z p=>?_;have⟨a,E,b⟩:=E;refine sw [20,0,15,9,0] ?_;intro d e m;refine Ao (f:=Tm.av) s2 [d] b y5 e.2 ?_;simp[e];cases m;exact p _ _ _ ⟨(.loc 17 (c.e8 17+1)),abx,(On 17)⟩ z
@[reducible,instance] def ZA:=@Kc.mk prog 123 _ @yo
def xJ:C2 prog 89 fF Tm.av sI (sL Tm.av):=by
 refine v2 func89 λT H a0 h r m e=>?_;rw[fF] at m;simp[e];refine Td e m 999 10 [0,8,9] [4] [18] (λs2=>s2) (λs2 a f=>f.1 5=sT a Tm.av s2) λi _ s2 c _ _ _ _ E e m z p=>?_;have⟨a,E,b⟩:=E;refine sw [20,0,1,9,0] ?_;intro d e m;refine Ao (f:=Tm.av) s2 [d] b y5 e.2 ?_;simp[e];cases m;exact p _ _ _ ⟨(.loc 18 (c.e8 18+1)),abx,(On 18)⟩ z
@[reducible,instance] def ad6:=@Kc.mk prog 89 _ @xJ
def zo:C1 prog 107 qw Tm.av sI:=by
 refine v1 func107 λT H a0 r m e=>?_;rw[qw] at m;refine sw [0,1,0] ?_;intro _ e m;refine Wn m 999 (λs2 f h=>∃a b,h=H/\f.1 0=sI s2.1/\bx f 2 [sI 0,sI 0,sI 0,nL,nL]/\bx f 3 [sI s2.2.1,sI s2.2.2.1,sI s2.2.2.2.1,sT a Ty.av s2.2.2.2.2.1,sT b Tm.av s2.2.2.2.2.2]) ⟨.gx,.gx,abx⟩ (λs2 _ _ _ _ _ E m z p=>?_);have⟨v10,v11,v12,c,d,i⟩:=s2;have⟨a,b,E⟩:=E;have e:=Aj e E;dsimp only[AG]at m;apply Ir e m<;>intro e m
 ·cases m;have m:=Qb z;dsimp only[AG]at m;exact au
 simp[e];cases m;exact p _ _ _ ⟨.full,.full,abx⟩ z
@[reducible,instance] def Tg:=@Kc.mk prog 107 _ @zo
def AR:C1 prog 69 uS (t2 Tm.av sI) sI:=by
 refine v1 func69 λT H a0 r m e=>?_;rw[uS] at m;exact aa
@[reducible,instance] def Vc:=@Kc.mk prog 69 _ @AR
def Nq:C1 prog 21 uq Tm.av sI:=by
 refine v1 func21 λT H a0 r m e=>?_;rw[uq] at m;exact aa
@[reducible,instance] def aeC:=@Kc.mk prog 21 _ @Nq
def nO(T:eH){H:dT}{a0 a b j:Tm}{q0 q1:Nat}(c:H[q0]?=some [sI a.aiI,sI a.aiL,sI a.dM.aiI,sL Ty.av a.dM.aiJ,sL Tm.av a.aiJ])(d:H[q1]?=some [sI b.aiI,sI b.aiL,sI b.dM.aiI,sL Ty.av b.dM.aiJ,sL Tm.av b.aiJ])(hm:mg a0 a b=some j):eI prog T 54 [Tm.av a0,AV.eT q0 0,AV.eT q1 0] H (Tm.av j) H:=by
 rw[mg] at hm;have f:=eK c;have h:=eK d;have e:=Aj (Aj (Aj f c) h) d;refine wi aiN func54 [] [(1,true,[])] 999 ?_;have m:=hm;refine sw [0,4] ?_;intro i e m;have e:=Aj e (show AV.agg [sI 6,sI 0,sI i.aiI,sL Ty.av i.aiJ,AV.slice .gx [Tm.av a,Tm.av b,Tm.av a0]]=Tm.av (Tm.mk 6 0 i [a,b,a0]) by rw[Tm.eO];rfl);exact au
def CA:C5 prog 57 l8 Pf.av sI Fm.av Tm.av Pf.av Pf.av:=by
 refine v5 func57 λT H a0 a a2 a3 a4 r m e=>?_;rw[l8] at m;have e:=Aj e (show AV.agg [sI a0,sI 0,sI 0,AV.slice .gx [],AV.slice .gx [Tm.av a2],AV.slice .gx [Fm.av a],AV.slice .gx [Pf.av a3,Pf.av a4]]=Pf.av (Pf.mk a0 0 (Ty.mk 0 []) [a2] [a] [a3,a4]) by rw[Pf.eO];rfl);exact au
@[reducible,instance] def PB:=@Kc.mk prog 57 _ @CA
def k7(T:eH)(f:nV T){H:dT}{a0 d:Tm}{a:Fm}{b:Pf}{c:Int}(hm:p4 a0 d=some (a,b,c)):eI prog T 15 [Tm.av a0,Tm.av d] H (AV.tuple [Fm.av a,Pf.av b,sI c]) H:=by
 rw[p4] at hm;refine fo.uI (Post:=λx K=>x=AV.tuple [Fm.av a,Pf.av b,sI c]/\∃X,K=H++X) ?_ (λ_ _ h=>⟨_,h.2.choose_spec,by rw[h.1];simp[AV.low,AV.iu],h.1,rfl⟩);have e:=f;refine wi aiN func15 [2,3] [(1,true,[]),(4,true,[]),(8,true,[]),(9,true,[]),(10,true,[])] 999 ?_;have m:=hm;refine sw [0,4,0,4,13,0,4,0,4,0,4,0,4,0,4,13,0,4,0,4,0,4,0,4,0,4,8,0] ?_;intro _ _ _ _ _ _ _ _ _ _ _ _ i e m;refine gI.F2 abL (nO T abx abx e.2) aaF ?_;refine sw [0,4,0,4,0,4,0,4,0,4,0,4,0,4,0,4,0,4,0,4,0,4,8,0] ?_;intro _ _ _ _ _ _ _ _ _ _ _ j e m;refine gI.F2 abL (nO T abx abx e.2) aaF ?_;refine sw [0,4,0,4,0,4,0,4,8,0] ?_;intro _ _ _ _ k e m;refine gI.F2 abL (nO T abx abx e.2) aaF ?_;refine sw [0,4,0,4,0,4,0,4,0,4,0,4,0,4,8,0] ?_;intro _ _ _ _ _ _ _ l e m;refine gI.F2 abL (nO T abx abx e.2) aaF ?_;exact aa
@[reducible,instance] def Uk:=@Kc.mk prog 15 _ @k7
def L_:C0 prog 62 s5 Ty.av:=by
 refine v0 func62 λT H r m e=>?_;rw[s5] at m;exact au
@[reducible,instance] def YB:=@Kc.mk prog 62 _ @L_
def k6(T:eH){H:dT}{a0 a b j:Tm}{q0 q1:Nat}(c:H[q0]?=some [sI a.aiI,sI a.aiL,sI a.dM.aiI,sL Ty.av a.dM.aiJ,sL Tm.av a.aiJ])(d:H[q1]?=some [sI b.aiI,sI b.aiL,sI b.dM.aiI,sL Ty.av b.dM.aiJ,sL Tm.av b.aiJ])(hm:jM a0 a b=some j):eI prog T 63 [Tm.av a0,AV.eT q0 0,AV.eT q1 0] H (Tm.av j) H:=by
 rw[jM] at hm;have f:=eK c;have h:=eK d;have e:=Aj (Aj (Aj f c) h) d;refine wi aiN func63 [] [(1,true,[])] 999 ?_;have m:=hm;refine sw [0,4] ?_;intro i e m;have e:=Aj e (show AV.agg [sI 9,sI 0,sI i.aiI,sL Ty.av i.aiJ,AV.slice .gx [Tm.av a,Tm.av b,Tm.av a0]]=Tm.av (Tm.mk 9 0 i [a,b,a0]) by rw[Tm.eO];rfl);exact au
def iR(T:eH)(f:nV T){H:dT}{a0 d:Tm}{a:Fm}{b:Pf}{c:Int}(hm:l9 a0 d=some (a,b,c)):eI prog T 18 [Tm.av a0,Tm.av d] H (AV.tuple [Fm.av a,Pf.av b,sI c]) H:=by
 rw[l9] at hm;refine fo.uI (Post:=λx K=>x=AV.tuple [Fm.av a,Pf.av b,sI c]/\∃X,K=H++X) ?_ (λ_ _ h=>⟨_,h.2.choose_spec,by rw[h.1];simp[AV.low,AV.iu],h.1,rfl⟩);have e:=f;refine wi aiN func18 [2,3] [(1,true,[]),(4,true,[]),(8,true,[]),(9,true,[]),(10,true,[])] 999 ?_;have m:=hm;refine sw [0,4,0,4,13,0,4,0,4,0,4,0,4,0,4,0,4,13,0,4,0,4,0,4,0,4,0,4,0,4,0,4,8,0] ?_;intro _ _ _ _ _ _ _ _ _ _ _ _ _ _ _ i e m;refine gI.F2 abL (k6 T abx abx e.2) aaF ?_;refine sw [0,4,0,4,0,4,0,4,0,4,0,4,0,4,0,4,0,4,0,4,0,4,0,4,8,0] ?_;intro _ _ _ _ _ _ _ _ _ _ _ _ j e m;refine gI.F2 abL (k6 T abx abx e.2) aaF ?_;refine sw [0,4,0,4,0,4,0,4,8,0] ?_;intro _ _ _ _ k e m;refine gI.F2 abL (k6 T abx abx e.2) aaF ?_;refine sw [0,4,0,4,0,4,0,4,0,4,0,4,0,4,8,0] ?_;intro _ _ _ _ _ _ _ l e m;refine gI.F2 abL (k6 T abx abx e.2) aaF ?_;exact aa
@[reducible,instance] def Pn:=@Kc.mk prog 18 _ @iR
def wQ:C1 prog 88 gn Tm.av sI:=by
 refine v1 func88 λT H a0 r m e=>?_;rw[gn] at m;exact au
@[reducible,instance] def aab:=@Kc.mk prog 88 _ @wQ
def AL:C0 prog 94 jn Ty.av:=by
 refine v0 func94 λT H r m e=>?_;rw[jn] at m;exact au
@[reducible,instance] def Z5:=@Kc.mk prog 94 _ @AL
def KI:C3 prog 92 lh Tm.av sI Ty.av (sL Tm.av):=by
 refine v3 func92 λT H a0 a a2 r m e=>?_;rw[lh] at m;exact aa
@[reducible,instance] def ad7:=@Kc.mk prog 92 _ @KI
def FX:C1 prog 86 jV Tm.av Tm.av:=by
 refine v1 func86 λT H a0 r m e=>?_;rw[jV] at m;exact aa
@[reducible,instance] def aal:=@Kc.mk prog 86 _ @FX
def FN:C3 prog 87 tk Tm.av Tm.av Tm.av Tm.av:=by
 refine v3 func87 λT H a0 a a2 r m e=>?_;rw[tk] at m;exact aa
@[reducible,instance] def aar:=@Kc.mk prog 87 _ @FN
def DI:C0 prog 32 oq Tm.av:=by
 refine v0 func32 λT H r m e=>?_;rw[oq] at m;exact aa
@[reducible,instance] def Yz:=@Kc.mk prog 32 _ @DI
def DA:C2 prog 66 qT Tm.av Ty.av Tm.av:=by
 refine v2 func66 λT H a0 a r m e=>?_;rw[qT] at m;have e:=Aj e (show AV.agg [sI 2,sI 0,sI a0.aiI,sL Ty.av a0.aiJ,AV.slice .gx [Tm.av a]]=Tm.av (Tm.mk 2 0 a0 [a]) by rw[Tm.eO];rfl);exact au
@[reducible,instance] def Rg:=@Kc.mk prog 66 _ @DA
def j_(T:eH){H:dT}{a0:Tm}{a:Ty}{b c d s:Tm}{q0 q1 t u v:Nat}(f:H[q0]?=some [sI a.aiI,sL Ty.av a.aiJ])(h:H[q1]?=some [sI b.aiI,sI b.aiL,sI b.dM.aiI,sL Ty.av b.dM.aiJ,sL Tm.av b.aiJ])(i:H[t]?=some [sI c.aiI,sI c.aiL,sI c.dM.aiI,sL Ty.av c.dM.aiJ,sL Tm.av c.aiJ])(j:H[u]?=some [AV.func (.func 66) [] []])(k:H[v]?=some [sI d.aiI,sI d.aiL,sI d.dM.aiI,sL Ty.av d.dM.aiJ,sL Tm.av d.aiJ])(hm:jI a0 a b c d=some s):eI prog T 67 [Tm.av a0,AV.eT q0 0,AV.eT q1 0,AV.eT t 0,AV.eT u 0,AV.eT v 0] H (Tm.av s) H:=by
 rw[jI] at hm;have l:=eK f;have n:=eK h;have o:=eK i;have q:=eK j;have r:=eK k;have e:=Aj (Aj (Aj (Aj (Aj (Aj (Aj (Aj (Aj l f) n) h) o) i) q) j) r) k;refine wi aiN func67 [] [(1,true,[])] 999 ?_;have m:=hm;refine sw [0,4,0,4,0,4,0,4] ?_;intro w _ _ x e m;have e:=Aj e (show AV.agg [sI 6,sI 0,sI a.aiI,sL Ty.av a.aiJ,AV.slice .gx [Tm.av w,Tm.av x,Tm.av a0]]=Tm.av (Tm.mk 6 0 a [w,x,a0]) by rw[Tm.eO];rfl);exact au
def wM:C1 prog 64 ig Tm.av Tm.av:=by
 refine v1 func64 λT H a0 r m e=>?_;rw[ig] at m;exact aa
@[reducible,instance] def Ri:=@Kc.mk prog 64 _ @wM
def wX:C1 prog 65 ij Tm.av Tm.av:=by
 refine v1 func65 λT H a0 r m e=>?_;rw[ij] at m;exact aa
@[reducible,instance] def Q6:=@Kc.mk prog 65 _ @wX
def mL(T:eH){H:dT}{a0:Tm}{a:Ty}{j:Fm}{q0 q1 k:Nat}(b:H[q0]?=some [AV.func (.func 64) [] []])(c:H[q1]?=some [AV.func (.func 65) [] []])(d:H[k]?=some [sI a.aiI,sL Ty.av a.aiJ])(hm:iY a0 a=some j):eI prog T 68 [Tm.av a0,AV.eT q0 0,AV.eT q1 0,AV.eT k 0] H (Fm.av j) H:=by
 rw[iY] at hm;have f:=eK b;have h:=eK c;have i:=eK d;have e:=Aj (Aj (Aj (Aj (Aj f b) h) c) i) d;refine wi aiN func68 [] [(2,true,[])] 999 ?_;have m:=hm;refine sw [0,1,0,4,0,4,0,4,0,4,0,4,0,4,0,4,0,4] ?_;intro _ _ _ _ l _ _ _ n e m;have e:=Aj e (show AV.agg [sI 2,sI 0,AV.slice .gx [],AV.slice .gx [],AV.slice .gx [Fm.av l,Fm.av n]]=Fm.av (Fm.mk 2 (Ty.mk 0 []) [] [l,n]) by rw[Fm.eO];rfl);exact aa
def eB(T:eH)(u:nV T){H:dT}{a0 b a2:Tm}{i:Fm}{j:Pf}{k:Int}(hm:oJ a0 b a2=some (i,j,k)):eI prog T 20 [Tm.av a0,Tm.av b,Tm.av a2] H (AV.tuple [Fm.av i,Pf.av j,sI k]) H:=by
 rw[oJ] at hm;refine fo.uI (Post:=λx K=>x=AV.tuple [Fm.av i,Pf.av j,sI k]/\∃X,K=H++X) ?_ (λ_ _ h=>⟨_,h.2.choose_spec,by rw[h.1];simp[AV.low,AV.iu],h.1,rfl⟩);have e:=u;refine wi aiN func20 [] [(18,true,[]),(19,true,[]),(20,true,[]),(21,true,[]),(22,true,[]),(23,true,[]),(24,true,[]),(26,true,[])] 999 ?_;simp[e];have⟨o,c,m⟩:=Cu hm;refine Wr e m 0 (λq _ f h=>h=H/\f.1 30=sT .full Tm.av o/\f.1 31=sI (ez o)/\f.1 32=sI q/\bx f 3 (Tm.av a0).cells/\bx f 4 (Tm.av b).cells/\bx f 5 (Tm.av a2).cells/\bx f 6 [sI 0,sI 0,nL,nL,nL]/\bx f 7 [sI 0,sI 0,sI 0,nL,nL,nL,nL]) (by(repeat' apply And.intro)<;>first|rfl|(rw[c];rfl)|simp[e,c,ez]) (λ_ _ _ _ E m=>?_) (λq _ _ _ _ _ _ _ E e m z p=>?_);rotate_left
 ·exact aa
 have e:=Aj e E;refine sg 10 [11,0,4,0,4,0,4,0,4,0,4,0,13] ?_;intro _ _ _ _ _ e m;refine sg 13 [0,1,0,1,0,4,0,4,0,4,0,4,0,4,0,4,0,4,0,4,0] ?_;intro l n _ _ _ _ _ _ _ a e m;refine Dj 0 (d:=15) (cs:=[sI 3,AV.slice .full [Ty.av l,Ty.av n]]) abx abx ?_;refine Dj 0 (d:=3) (cs:=[sI a0.aiI,sI a0.aiL,sI a0.dM.aiI,sL Ty.av a0.dM.aiJ,sL Tm.av a0.aiJ]) abx abx ?_;refine Dj 0 (d:=4) (cs:=[sI b.aiI,sI b.aiL,sI b.dM.aiI,sL Ty.av b.dM.aiJ,sL Tm.av b.aiJ]) abx abx ?_;refine Dj 0 (d:=16) (cs:=[AV.func (.func 66) [] []]) abx abx ?_;refine Dj 2 (d:=17) (cs:=[sI a.aiI,sI a.aiL,sI a.dM.aiI,sL Ty.av a.dM.aiJ,sL Tm.av a.aiJ]) abx abx ?_;simp[e];refine Dj 0 (d:=13) (cs:=[AV.func (.func 64) [] []]) abx abx ?_;refine Dj 999 (d:=14) (cs:=[AV.func (.func 65) [] []]) abx abx ?_;refine sw [0,4,8,0] ?_;intro _ v e m;refine gI.F2 abL (j_ T abx abx abx abx abx e.2) aaF ?_;refine sw [8,0] ?_;intro w e m;refine gI.F2 abL (mL T abx abx abx e.2) aaF ?_;simp[e];refine zJ m λ_ m=>?_;simp[e];refine zJ m λ_ m=>?_;simp[e];refine zJ m λ_ m=>?_;simp[e];refine zJ m λ_ m=>?_;simp[e];refine zJ m λ_ m=>?_;simp[e];refine zJ m λ_ m=>?_;simp[e];refine zJ m λ_ m=>?_;simp[e];refine zJ m λ_ m=>?_;simp[e];refine zJ m λ_ m=>?_;simp[e];refine zJ m λ_ m=>?_;simp[e];refine zJ m λ_ m=>?_;simp[e];refine zJ m λ_ m=>?_;simp[e];refine zJ m λ_ m=>?_;simp[e];refine zJ m λ_ m=>?_;simp[e];refine zJ m λ_ m=>?_;simp[e];refine zJ m λ_ m=>?_;simp[e];refine zJ m λ_ m=>?_;simp[e];refine zJ m λ_ m=>?_;simp[e];refine zJ m λ_ m=>?_;simp[e];refine zJ m λ_ m=>?_;refine sw [0,4,0,4,0,4,0,4,0,4,0,4,0,4,0,4,0,4,0,4,0,4,0,4,0,4,0,4,0,4,8,0] ?_;intro _ _ _ _ _ _ _ _ _ _ _ _ _ _ _ y e m;refine gI.F2 abL (j_ T abx abx abx abx abx e.2) aaF ?_;refine sw [0,4,0,4,0,4,0,4,0,4,0,4,0,4,0,4,0,4,0,4,8,0] ?_;intro _ _ _ _ _ _ _ _ _ _ A e m;refine gI.F2 abL (j_ T abx abx abx abx abx e.2) aaF ?_;refine sw [8,0] ?_;intro B e m;refine gI.F2 abL (mL T abx abx abx e.2) aaF ?_;refine sw [0,4,0,4,0,4,0,4,8,0] ?_;intro _ _ _ _ C e m;refine gI.F2 abL (j_ T abx abx abx abx abx e.2) aaF ?_;refine sw [0,4,0,4,0,4,0,4,0,4,0,4,0,4,0,4,0,4,8,0] ?_;intro _ _ _ _ _ _ _ _ _ r e m;refine gI.F2 abL (j_ T abx abx abx abx abx e.2) aaF ?_;refine sw [8,0] ?_;intro s e m;refine gI.F2 abL (mL T abx abx abx e.2) aaF ?_;refine sw [0,4,0,4,0,4,0,4,0,4,0,4,8,0] ?_;intro _ _ _ _ _ _ t e m;refine gI.F2 abL (j_ T abx abx abx abx abx e.2) aaF ?_;exact aa
@[reducible,instance] def Tx:=@Kc.mk prog 20 _ @eB
def qH{n:Nat}:C1 prog 164 (pR n) sB Ty.av:=by
 refine i1 λn ih=>u1 4 func164 λT H a0 r m e=>?_;rw[pR] at m;simp[e];refine CP m 3 999 (λa f h=>∃v2,(h=H/\f.1 3=sI v2/\bx f 1 (Ty.av a0).cells)/\a v2=some r) ?_ (λa _ g m=>?_)
 ·rintro _ _ ⟨v2,E,m⟩;refine sw [10,7,0] ?_;intro e m;refine Wr e m 999 (λb _ f h=>h=H/\f.1 21=sL Ty.av a0.aiJ/\f.1 22=sI (ez a0.aiJ)/\f.1 23=sI b) abx (λ_ _ _ _ E m=>?_) (λb _ _ _ _ _ _ _ E e m z p=>?_)
  ·exact aa
  exact aa
 simp[e];refine wj 999 0 (λf h=>h=H/\f.1 3=sI 0/\f.1 7=sI a0.aiI/\f.1 8=sB (e_ (ei a0.aiI 1) true (e_ (ei a0.aiI 2) true (ei a0.aiI 5)))/\bx f 1 (Ty.av a0).cells) (λ_ g=>?_) ?_
 ·rcases Pb (ei a0.aiI 1) e with e|e
  ·exact aj
  rcases Pb (ei a0.aiI 2) e with e|e
  ·exact aj
  exact aj
 rintro _ _ E;have e:=Aj e E;apply Iq e m<;>intro e m
 ·apply wg 999;exact iO
 apply wg 1;simp[e];refine wj 999 999 (λf h=>h=H/\f.1 12=sB (e_ (ei a0.aiI 3) true (ei a0.aiI 4))/\bx f 1 (Ty.av a0).cells) (λ_ g=>?_) ?_
 ·rcases Pb (ei a0.aiI 3) e with e|e
  ·exact aj
  exact aj
 rintro _ _ E;refine sw [10,12] ?_;intro e m;exact iO
@[reducible,instance] def WG:=@Kc.mk prog 164 _ @qH
def Eb{n:Nat}:C1 prog 165 (pk n) sI Ty.av:=by
 refine i1 λn ih=>v1 func165 λT H a0 r m e=>?_;rw[pk] at m;simp[e];exact Wb e m 999 9 [7,8] [] (λs2 f=>f.1 3=sI s2)
@[reducible,instance] def Yk:=@Kc.mk prog 165 _ @Eb
def qx:C1 prog 121 h8 sI Ty.av:=by
 refine v1 func121 λT H a0 r m e=>?_;rw[h8] at m;exact aa
@[reducible,instance] def WU:=@Kc.mk prog 121 _ @qx
def uz:C1 prog 117 lU sI (sL Ty.av):=by
 refine v1 func117 λT H a0 r m e=>?_;rw[lU] at m;refine sw [7,0] ?_;intro e m;exact Wb e m 999 11 [9,10] [] nI
@[reducible,instance] def TE:=@Kc.mk prog 117 _ @uz
def pW:C1 prog 200 pJ sB Ty.av:=by
 refine u1 2 func200 λT H a0 r m e=>?_;rw[pJ] at m;simp[e];refine wB 999 999 [] [] (λf=>f.1 2=sB (e_ (ei a0.aiI 0) (ei (ez a0.aiJ) 0) false)) λ_ g=>?_;exact aa
def rZ:C1 prog 270 vS sI sI:=by
 refine u1 6 func270 λT H a0 r m e=>?_;rw[vS] at m;simp[e];refine wA 999 0 [3] [] (λf=>f.1 4=sB (e_ (ei a0 1) true (e_ (ei a0 4) true (e_ (ei a0 7) true (ei a0 13))))) [13] (λ_ g=>?_) ?_
 ·rcases Pb (ei a0 1) e with e|e
  ·exact aj
  rcases Pb (ei a0 4) e with e|e
  ·exact aj
  rcases Pb (ei a0 7) e with e|e
  ·exact aj
  exact aj
 intro _ e m;apply wg 1;simp[e];refine wA 999 0 [3] [] (λf=>f.1 9=sB (e_ (ei a0 2) true (e_ (ei a0 5) true (e_ (ei a0 11) true (ei a0 12))))) [13] (λ_ g=>?_) ?_
 ·rcases Pb (ei a0 2) e with e|e
  ·exact aj
  rcases Pb (ei a0 5) e with e|e
  ·exact aj
  rcases Pb (ei a0 11) e with e|e
  ·exact aj
  exact aj
 intro _ e m;apply wg 1;simp[e];refine wA 999 0 [3] [] (λf=>f.1 14=sB (e_ (ei a0 3) true (e_ (ei a0 8) true (ei a0 10)))) [13] (λ_ g=>?_) ?_
 ·rcases Pb (ei a0 3) e with e|e
  ·exact aj
  rcases Pb (ei a0 8) e with e|e
  ·exact aj
  exact aj
 intro _ e m;apply wg 1;simp[e];refine wB 999 999 [] [] (λf=>f.1 18=sB (e_ (ei a0 6) true (ei a0 9))) λ_ g=>?_;rcases Pb (ei a0 6) e with e|e
 ·exact aj
 exact aj
def oM{n:Nat}:C1 prog 201 (kx n) sB Tm.av:=by
 refine i1 λn ih=>u1 3 func201 λT H a0 r m e=>?_;rw[kx] at m;simp[e];refine WA m 999 0 [] [1] (λv2 f=>f.1 26=sB v2) [13] (λd _ g m=>?_) ?_
 ·simp[e];refine qI m rZ λ_ m=>?_;apply Iq e m<;>intro e m
  ·exact iO
  apply Iq e m<;>intro e m
  ·exact iO
  apply Ir e m<;>intro e m
  ·exact iO
  exact iO
 intro _ v2 e m;apply wg 2;simp[e];refine CP m 3 999 (λb f h=>(h=H/\f.1 1=AV.hU 1 (f.gen 1) 0/\f.box 1=some (Tm.av a0).cells)/\b=some r) ?_ (λb _ g m=>?_)
 ·rintro _ _ ⟨E,m⟩;have e:=Aj e E;simp[e];refine Wr e m 999 (λa _ f h=>h=H/\f.1 42=sL Tm.av a0.aiJ/\f.1 43=sI (ez a0.aiJ)/\f.1 44=sI a) abx (λ_ _ _ _ E m=>?_) (λa _ _ _ _ _ _ _ E e m z p=>?_)
  ·exact aa
  exact aa
 simp[e];refine wj 999 999 (λf h=>h=H/\f.1 33=sB (e_ (ei a0.aiI 2) true (e_ (ei a0.aiI 6) true (ei a0.aiI 9)))/\bx f 1 (Tm.av a0).cells) (λc g=>?_) ?_
 ·rcases Pb (ei a0.aiI 2) e with e|e
  ·exact aj
  rcases Pb (ei a0.aiI 6) e with e|e
  ·exact aj
  exact aj
 rintro _ _ E;have e:=Aj e E;apply Iq e m<;>intro e m
 ·simp[e];refine pS m qx λ_ m=>?_;refine Il e m λe m=>?_;exact Ze
 simp[e];refine pS m pW λ_ m=>?_;refine Im e m λe m=>?_;exact Ze
@[reducible,instance] def Xy:=@Kc.mk prog 201 _ @oM
def q8:C1 prog 267 kU sB sI:=by
 refine u1 2 func267 λT H a0 r m e=>?_;rw[kU] at m;simp[e];refine wB 999 999 [] [] (λf=>f.1 2=sB (e_ (ei a0 4) true (e_ (ei a0 5) true (e_ (ei a0 6) true (ei a0 7))))) λ_ g=>?_;rcases Pb (ei a0 4) e with e|e
 ·exact aj
 rcases Pb (ei a0 5) e with e|e
 ·exact aj
 rcases Pb (ei a0 6) e with e|e
 ·exact aj
 exact aj
@[reducible,instance] def PI:=@Kc.mk prog 267 _ @q8
def iw{n:Nat}:C1 prog 196 (lY n) sB Fm.av:=by
 refine i1 λn ih=>u1 7 func196 λT H a0 r m e=>?_;rw[lY] at m;apply Iq e m<;>intro e m
 ·simp[e];refine WB m 999 999 [] [] (λv2 f=>f.1 2=sB v2) λj _ g m=>?_;apply Ir e m<;>intro e m
  ·exact iO
  simp[e];refine pS m pW λ_ m=>?_;apply Ir e m<;>intro e m
  ·exact iO
  apply Ir e m<;>intro e m
  ·exact iO
  refine sw [8,0] ?_;intro k e m;refine pS m oM λ_ m=>?_;apply Ir e m<;>intro e m
  ·exact iO
  refine sw [8,0] ?_;intro l e m;refine pS m oM λ_ m=>?_;exact iO
 simp[e];refine wA 999 0 [] [1] (λf=>f.1 36=sB (e_ (ei a0.aiI 2) true (ei a0.aiI 3))) [] (λ_ g=>?_) ?_
 ·exact aa
 intro _ e m;apply Ir e m<;>intro e m
 ·refine sg 3 [0,1,0,14] ?_;intro _ e m;apply wg 1;simp[e];refine WB m 999 999 [] [] (λa f=>f.1 2=sB a) λb _ g m=>?_;apply Ir e m<;>intro e m
  ·exact iO
  simp[e];refine pS m qx λ_ m=>?_;apply Ir e m<;>intro e m
  ·exact iO
  apply Ir e m<;>intro e m
  ·exact iO
  refine sw [8,0,15] ?_;intro c _ e m;exact iO
 apply wg 1;simp[e];refine WB m 999 999 [] [] (λv24 f=>f.1 2=sB v24) λd _ g m=>?_;apply Ir e m<;>intro e m
 ·exact iO
 simp[e];refine pS m pW λ_ m=>?_;apply Ir e m<;>intro e m
 ·exact iO
 apply Ir e m<;>intro e m
 ·exact iO
 refine sw [8,0,15] ?_;intro h _ e m;apply Ir e m<;>intro e m
 ·exact iO
 refine sw [8,0,15] ?_;intro i _ e m;exact iO
@[reducible,instance] def Xc:=@Kc.mk prog 196 _ @iw
def BQ{n:Nat}:C1 prog 226 (fJ n) sI Tm.av:=by
 refine i1 λn ih=>v1 func226 λT H a0 r m e=>?_;rw[fJ] at m;simp[e];exact Wb e m 999 9 [7,8] [] (λs2 f=>f.1 3=sI s2)
@[reducible,instance] def Xo:=@Kc.mk prog 226 _ @BQ
def xr{n:Nat}:C1 prog 197 (lX n) sI Fm.av:=by
 refine i1 λn ih=>v1 func197 λT H a0 r m e=>?_;rw[lX] at m;simp[e];refine Wa e m 999 11 [9,10] [1] (λs2 f=>f.1 3=sI s2) [11,0] ?_;intro _ s2 e m;exact Wb e m 999 23 [21,22] [] (λa f=>f.1 3=sI a)
@[reducible,instance] def Xf:=@Kc.mk prog 197 _ @xr
def B7:C1 prog 144 jP sI Fm.av:=by
 refine v1 func144 λT H a0 r m e=>?_;rw[jP] at m;exact aa
@[reducible,instance] def WJ:=@Kc.mk prog 144 _ @B7
def xe:C1 prog 160 lV sI Tm.av:=by
 refine v1 func160 λT H a0 r m e=>?_;rw[lV] at m;exact aa
@[reducible,instance] def Xx:=@Kc.mk prog 160 _ @xe
def pf:C2 prog 126 kR Ty.av Ty.av Ty.av:=by
 refine v2 func126 λT H a0 c r m e=>?_;rw[kR] at m;refine sw [0,4,0,4] ?_;intro a b e m;have e:=Aj e (show AV.agg [sI 4,AV.slice .gx [Ty.av a,Ty.av b]]=Ty.av (Ty.mk 4 [a,b]) by rw[Ty.eO];rfl);exact au
@[reducible,instance] def ZK:=@Kc.mk prog 126 _ @pf
def HF:C1 prog 227 ub (t2 Ty.av sI) Ty.av:=by
 refine v1 func227 λT H a0 r m e=>?_;rw[ub] at m;exact aa
@[reducible,instance] def abm:=@Kc.mk prog 227 _ @HF
def Dp:C0 prog 95 mc Ty.av:=by
 refine v0 func95 λT H r m e=>?_;rw[mc] at m;exact au
@[reducible,instance] def Zx:=@Kc.mk prog 95 _ @Dp
def ic{n:Nat}:C2 prog 79 (fh n) sB Ty.av Ty.av:=by
 refine i2 λn ih=>u2 3 func79 λT H a0 a r m e=>?_;rw[fh] at m;simp[e];refine wA 999 999 [] [2,3] (λf=>f.1 19=sB (e_ (eE a0.aiI a.aiI) true (eE (ez a0.aiJ) (ez a.aiJ)))) [7,0] (λ_ g=>?_) ?_
 ·exact aa
 intro _ e m;exact Wb e m 999 23 [22] [2,3] nI
@[reducible,instance] def Yq:=@Kc.mk prog 79 _ @ic
def Gp:C2 prog 125 sW Ty.av Ty.av Ty.av:=by
 refine v2 func125 λT H a0 c r m e=>?_;rw[sW] at m;refine sw [0,4,0,4] ?_;intro a b e m;have e:=Aj e (show AV.agg [sI 3,AV.slice .gx [Ty.av a,Ty.av b]]=Ty.av (Ty.mk 3 [a,b]) by rw[Ty.eO];rfl);exact au
@[reducible,instance] def aav:=@Kc.mk prog 125 _ @Gp
def LY:C0 prog 124 sZ Ty.av:=by
 refine v0 func124 λT H r m e=>?_;rw[sZ] at m;exact au
@[reducible,instance] def Yd:=@Kc.mk prog 124 _ @LY
def fa{n:Nat}:C2 prog 161 (fv n) (t2 Ty.av sI) (sL Ty.av) Tm.av:=by
 refine i2 λn ih=>v2 func161 λT H a0 j r m e=>?_;rw[fv] at m;refine sw [13] ?_;intro e m;apply Iq e m<;>intro e m
 ·refine sw [9,0] ?_;intro e m;refine Ad (f:=Ty.av) a0 [j.dM] (hD.full (D:=[])) FG e.2 ?_;exact aa
 simp[e];refine Xe e m 0 (λB c f h=>∃a,(h=H/\f.1 0=sL Ty.av a0/\f.1 8=sT a Ty.av c/\f.1 67=sL Tm.av j.aiJ/\f.1 68=sI (ez j.aiJ)/\f.1 69=sI B/\bx f 3 (Tm.av j).cells/\bx f 4 [sI 0,nL])/\Ow f [86] a c) (by exact⟨.full,abx,hD.full⟩) (λB _ c k _ _ _ _ E e m z p=>?_) (λc k _ _ E m=>?_)
 ·have⟨a,E,b⟩:=E;have e:=Aj e E;refine sg 999 [0,16,7,9,0] ?_;intro v _ e m;refine Ao (f:=Ty.av) c [v] b FG e.2 ?_;simp[e];cases m;exact p _ _ _ ⟨(.loc 86 (k.e8 86+1)),abx,(On 86)⟩ z
 have⟨a,E,b⟩:=E;have e:=Aj e E;refine sg 13 [11,0,1,0,1,0] ?_;intro _ w e m;apply Iq e m<;>intro e m
 ·apply wg 2;simp[e];refine CP m 999 999 (λq f h=>∃v24 d,(h=H/\f.1 8=sT d Ty.av c/\f.1 111=sB v24/\bx f 4 [sI 0,nL])/\Ow f [86] d c/\q v24=some r) ?_ (λq _ g m=>?_)
  ·rintro _ _ ⟨v24,d,E,x,m⟩;exact aa
  have⟨C,e,m⟩:=MX e m;apply Iq e m<;>intro e m
  ·simp[e];exact g _ _ ⟨true,a,abx,b,m⟩
  refine sw [8,8,0,4,0] ?_;intro F G y e m;exact g _ _ ⟨(mS y),a,abx,b,m⟩
 refine sg 3 [0,13] ?_;intro e m;refine sg 3 [0,13] ?_;intro e m;apply wg 3;simp[e];apply Iq e m<;>intro e m
 ·apply wg 2;simp[e];refine CP m 999 999 (λs f h=>∃v37,(h=H/\f.1 162=sB v37/\bx f 3 (Tm.av j).cells/\bx f 4 [sI 0,nL])/\s v37=some r) ?_ (λs _ g m=>?_)
  ·rintro _ _ ⟨v37,E,m⟩;exact aa
  refine sw [8,0] ?_;intro I e m;refine qI m ic λ_ m=>?_;apply Ir e m<;>intro e m
  ·exact iO
  refine sw [8,0] ?_;intro J e m;refine qI m pf λ_ m=>?_;simp[e];refine qI m pf λ_ m=>?_;simp[e];refine qI m ic λ_ m=>?_;apply Ir e m<;>intro e m
  ·exact iO
  refine sw [8,0] ?_;intro K e m;refine qI m ic λ_ m=>?_;exact iO
 refine sg 3 [0,13] ?_;intro e m;apply wg 3;simp[e];apply Iq e m<;>intro e m
 ·apply wg 2;simp[e];refine CP m 999 999 (λt f h=>∃l,(h=H/\f.1 185=sB l/\bx f 4 [sI 0,nL]/\bx f 14 (Ty.av w).cells)/\t l=some r) ?_ (λt _ g m=>?_)
  ·rintro _ _ ⟨l,E,m⟩;exact aa
  refine sw [8,0] ?_;intro L e m;refine qI m ic λ_ m=>?_;apply Ir e m<;>intro e m
  ·exact iO
  refine sw [8,0] ?_;intro M e m;refine qI m ic λ_ m=>?_;exact iO
 apply wg 3;simp[e];apply Iq e m<;>intro e m
 ·apply wg 2;simp[e];refine CP m 999 999 (λu f h=>∃o,(h=H/\f.1 220=sB o/\bx f 3 (Tm.av j).cells/\bx f 4 [sI 0,nL])/\u o=some r) ?_ (λu _ g m=>?_)
  ·rintro _ _ ⟨o,E,m⟩;exact aa
  refine sw [8,0] ?_;intro N e m;refine qI m ic λ_ m=>?_;apply Ir e m<;>intro e m
  ·exact iO
  refine sw [8,0] ?_;intro O e m;refine qI m pf λ_ m=>?_;simp[e];refine qI m pf λ_ m=>?_;simp[e];refine qI m pf λ_ m=>?_;simp[e];refine qI m ic λ_ m=>?_;apply Ir e m<;>intro e m
  ·exact iO
  refine sw [8,0] ?_;intro P e m;refine qI m ic λ_ m=>?_;exact iO
 refine sg 3 [0,13] ?_;intro e m;apply wg 1;simp[e];refine wj 999 0 (λf h=>∃i,(h=H/\f.1 8=sT i Ty.av c/\f.1 237=sB (e_ (ei j.aiI 11) true (ei j.aiI 12))/\bx f 3 (Tm.av j).cells/\bx f 4 [sI 0,nL])/\Ow f [86] i c) (λ_ g=>?_) ?_
 ·rcases Pb (ei j.aiI 11) e with e|e
  ·simp[e];exact g _ _ ⟨a,abx,b⟩
  simp[e];exact g _ _ ⟨a,abx,b⟩
 rintro _ _ ⟨i,E,A⟩;exact aa
@[reducible,instance] def Xb:=@Kc.mk prog 161 _ @fa
def B5:C2 prog 118 po (t2 Ty.av sI) (sL Ty.av) Tm.av:=by
 refine v2 func118 λT H a0 a r m e=>?_;rw[po] at m;exact aa
@[reducible,instance] def Xh:=@Kc.mk prog 118 _ @B5
def nw{n:Nat}:C2 prog 195 (mR n) sI (sL Ty.av) Fm.av:=by
 refine i2 λn ih=>v2 func195 λT H a0 d r m e=>?_;rw[mR] at m;simp[e];refine Xe e m 0 (λl _ f h=>h=H/\f.1 0=sL Ty.av a0/\f.1 13=sL Tm.av d.ef/\f.1 14=sI (ez d.ef)/\f.1 15=sI l/\bx f 3 (Fm.av d).cells) abx (λl _ _ i _ _ _ _ E e m z p=>?_) (λ_ i _ _ E m=>?_)
 ·exact aa
 have e:=Aj e E;refine sg 5 [11,0] ?_;intro e m;refine Wj m 999 999 (λj f h=>∃c b,(h=H/\f.1 0=sT b Ty.av c/\f.1 3=AV.hU 3 (f.gen 3) 0/\f.box 3=some (Fm.av d).cells)/\j c=some r) (λj _ g m=>?_) ?_
 ·refine sw [0,1] ?_;intro _ e m;apply Ir e m<;>intro e m
  ·simp[e];exact g _ _ ⟨_,.gx,abx,m⟩
  refine sw [9,0] ?_;intro e m;refine Ad (f:=Ty.av) a0 [d.dM] (hD.full (D:=[])) FG e.2 ?_;simp[e];exact g _ _ ⟨_,(.loc 44 (i.e8 44+1)),abx,m⟩
 rintro _ _ ⟨c,b,E,m⟩;have e:=Aj e E;simp[e];refine Wr e m 999 (λk _ f h=>∃a,h=H/\f.1 0=sT a Ty.av c/\f.1 46=sL Fm.av d.aiJ/\f.1 47=sI (ez d.aiJ)/\f.1 48=sI k) ⟨b,abx⟩ (λ_ _ _ _ E m=>?_) (λk _ _ _ _ _ _ _ E e m z p=>?_)
 ·have⟨a,E⟩:=E;exact aa
 have⟨a,E⟩:=E;refine sw [10,0,15,7,0] ?_;intro _ e m;cases m;exact p _ _ _ ⟨a,abx⟩ z
@[reducible,instance] def WH:=@Kc.mk prog 195 _ @nw
def BP:C2 prog 143 kB sI (sL Ty.av) Fm.av:=by
 refine v2 func143 λT H a0 a r m e=>?_;rw[kB] at m;exact aa
@[reducible,instance] def Xv:=@Kc.mk prog 143 _ @BP
def xj:C2 prog 103 jh sI (sL Ty.av) Fm.av:=by
 refine v2 func103 λT H a0 a r m e=>?_;rw[jh] at m;exact aa
@[reducible,instance] def WV:=@Kc.mk prog 103 _ @xj
def qX:C2 prog 108 tE sI (sL Fm.av) Sq.av:=by
 refine v2 func108 λT H a0 a r m e=>?_;rw[tE] at m;refine sw [7,0] ?_;intro e m;refine Wa e m 999 17 [15,16] [3] nI [11,0,1,7,7,0] ?_;intro _ _ _ e m;exact Wb e m 999 40 [38,39] [3] nI
@[reducible,instance] def Tq:=@Kc.mk prog 108 _ @qX
def iX:C1 prog 199 o3 (t2 eU.av sB) sI:=by
 refine u1 6 func199 λT H a0 r m e=>?_;rw[o3] at m;simp[e];refine wA 999 0 [4] [2] (λf=>f.1 5=sB (e_ (ei a0 1) true (ei a0 2))) [13] (λ_ g=>?_) ?_
 ·rcases Pb (ei a0 1) e with e|e
  ·exact aj
  exact aj
 intro _ e m;apply wg 1;simp[e];refine wA 999 0 [4] [2] (λf=>f.1 9=sB (e_ (ei a0 3) true (ei a0 7))) [13] (λ_ g=>?_) ?_
 ·rcases Pb (ei a0 3) e with e|e
  ·exact aj
  exact aj
 intro _ e m;apply wg 1;simp[e];refine wA 999 0 [4] [2] (λf=>f.1 13=sB (e_ (ei a0 4) true (e_ (ei a0 5) true (ei a0 20)))) [13] (λ_ g=>?_) ?_
 ·rcases Pb (ei a0 4) e with e|e
  ·exact aj
  rcases Pb (ei a0 5) e with e|e
  ·exact aj
  exact aj
 intro _ e m;refine sg 3 [0,13] ?_;intro e m;apply wg 1;simp[e];refine wA 999 0 [4] [2] (λf=>f.1 21=sB (e_ (ei a0 8) true (ei a0 12))) [13] (λ_ g=>?_) ?_
 ·rcases Pb (ei a0 8) e with e|e
  ·exact aj
  exact aj
 intro _ e m;apply wg 1;simp[e];refine wA 999 0 [4] [2] (λf=>f.1 25=sB (e_ (ei a0 9) true (ei a0 13))) [13] (λ_ g=>?_) ?_
 ·rcases Pb (ei a0 9) e with e|e
  ·exact aj
  exact aj
 intro _ e m;apply wg 1;simp[e];refine wA 999 0 [4] [2] (λf=>f.1 29=sB (e_ (ei a0 10) true (ei a0 14))) [13] (λ_ g=>?_) ?_
 ·rcases Pb (ei a0 10) e with e|e
  ·exact aj
  exact aj
 intro _ e m;apply wg 1;simp[e];refine wA 999 0 [4] [2] (λf=>f.1 33=sB (e_ (ei a0 11) true (ei a0 15))) [13] (λ_ g=>?_) ?_
 ·rcases Pb (ei a0 11) e with e|e
  ·exact aj
  exact aj
 intro _ e m;apply wg 1;simp[e];refine wA 999 999 [4] [2] (λf=>f.1 37=sB (e_ (ei a0 16) true (ei a0 17))) [] (λ_ g=>?_) ?_
 ·rcases Pb (ei a0 16) e with e|e
  ·exact aj
  exact aj
 intro _ e m;exact aa
@[reducible,instance] def WQ:=@Kc.mk prog 199 _ @iX
def ny{n:Nat}:C1 prog 146 (nY n) sB Pf.av:=by
 refine i1 λn ih=>u1 5 func146 λT H a0 r m e=>?_;rw[nY] at m;refine sw [0,2,0] ?_;intro a b e m;refine wA 999 0 [] [1,3] (λf=>f.1 57=sB (e_ b (e_ (eE (ez a0.ef) a.ef) true (e_ (eE (ez a0.fI) a.fI) true (e_ (eE (ez a0.aiJ) a.aiJ) true (e_ (sx a0.aiL 0) true (e_ a.aiL false (eE a0.aiL 0)))))) true)) [13] (λ_ g=>?_) ?_
 ·rcases Pb b e with e|e;rotate_left
  ·exact aj
  rcases Pb (eE (ez a0.ef) a.ef) e with e|e
  ·exact aj
  rcases Pb (eE (ez a0.fI) a.fI) e with e|e
  ·exact aj
  rcases Pb (eE (ez a0.aiJ) a.aiJ) e with e|e
  ·exact aj
  rcases Pb (sx a0.aiL 0) e with e|e
  ·exact aj
  rcases Pb a.aiL e with e|e
  ·exact aj
  exact aj
 intro _ e m;apply wg 3;simp[e];refine WA m 999 999 [] [1] (λc f=>f.1 76=sB c) [7,0] (λd _ g m=>?_) ?_
 ·apply Ir e m<;>intro e m
  ·simp[e];refine pS m pW λ_ m=>?_;exact iO
  simp[e];refine pS m qx λ_ m=>?_;apply Iq e m<;>intro e m
  ·exact iO
  exact iO
 intro _ c e m;refine Wa e m 999 80 [78,79] [1] nI [11,0] ?_;intro _ _ e m;refine Wa e m 999 91 [89,90] [1] nI [11,0] ?_;intro _ _ e m;exact Wb e m 999 102 [100,101] [] nI
@[reducible,instance] def W5:=@Kc.mk prog 146 _ @ny
def tH{n:Nat}:C1 prog 202 (ry n) sB Pf.av:=by
 refine i1 λn ih=>v1 func202 λT H a0 r m e=>?_;rw[ry] at m;simp[e];refine Wa e m 999 12 [10,11] [1] nI [11,0] ?_;intro _ _ e m;refine Wa e m 999 23 [21,22] [1] nI [11,0] ?_;intro _ _ e m;exact Wb e m 999 34 [32,33] [] nI
def tu{n:Nat}:C1 prog 203 (rJ n) sI Pf.av:=by
 refine i1 λn ih=>v1 func203 λT H a0 r m e=>?_;rw[rJ] at m;simp[e];refine Wa e m 999 13 [11,12] [1] (λs2 f=>f.1 3=sI s2) [11,0] ?_;intro _ s2 e m;refine Wa e m 999 25 [23,24] [1] (λa f=>f.1 3=sI a) [11,0] ?_;intro _ a e m;exact Wb e m 999 37 [35,36] [] (λb f=>f.1 3=sI b)
def EC:C1 prog 147 yK sB Pf.av:=by
 refine u1 2 func147 λT H a0 r m e=>?_;rw[yK] at m;simp[e];refine WB m 999 999 [] [] (λv2 f=>f.1 2=sB v2) λa _ g m=>?_;simp[e];refine pS m tH λ_ m=>?_;apply Ir e m<;>intro e m
 ·exact iO
 simp[e];refine pS m tu λ_ m=>?_;exact iO
@[reducible,instance] def Yt:=@Kc.mk prog 147 _ @EC
def BN:C1 prog 109 tV sI Pf.av:=by
 refine v1 func109 λT H a0 r m e=>?_;rw[tV] at m;exact aa
@[reducible,instance] def W0:=@Kc.mk prog 109 _ @BN
def pU{n:Nat}:C1 prog 111 (ly n) Fm.av Fm.av:=by
 refine i1 λn ih=>v1 func111 λT H a0 r m e=>?_;rw[ly] at m;refine sw [0,4,0] ?_;intro t e m;refine Tc e m 999 17 [15,16] [1,2] [26] (λl=>l) (λl c f=>bx f 3 [sI a0.aiI,sI t.aiI,sL Ty.av t.aiJ,sT c Tm.av l,nL]) [11,0] (λw _ l q _ _ _ _ E e m z p=>?_) ?_
 ·have⟨c,E,i⟩:=E;refine sw [20,0,4,9,0] ?_;intro u e m;refine Ad (f:=Tm.av) l [u] i y5 e.2 ?_;simp[e];cases m;exact p _ _ _ ⟨(.loc 26 (q.e8 26+1)),abx,(On 26)⟩ z
 intro q l c i e m;refine Wr e m 999 (λs j f h=>∃a b,(h=H/\f.1 30=sL Fm.av a0.aiJ/\f.1 31=sI (ez a0.aiJ)/\f.1 32=sI s/\bx f 2 [sI 0,sI 0,nL,nL,nL]/\bx f 3 [sI a0.aiI,sI t.aiI,sL Ty.av t.aiJ,sT a Tm.av l,sT b Fm.av j])/\Ow f [26] a l/\Ow f [41] b j) (by exact⟨c,.full,abx,i,hD.full⟩) (λj o _ _ E m=>?_) (λs _ j o _ _ _ _ E e m z p=>?_)
 ·have⟨a,b,E,k,d⟩:=E;exact aa
 have⟨a,b,E,k,d⟩:=E;refine sw [10,0,18,9,0] ?_;intro v e m;refine Ad (f:=Fm.av) j [v] d JC e.2 ?_;simp[e];cases m;exact p _ _ _ ⟨a,(.loc 41 (o.e8 41+1)),abx,(hD.other k d aak aak),(On 41)⟩ z
@[reducible,instance] def Yr:=@Kc.mk prog 111 _ @pU
def Av:C3 prog 204 rC Fm.av sI Fm.av Fm.av:=by
 refine v3 func204 λT H a0 c a2 r m e=>?_;rw[rC] at m;refine sw [0,4,0,4] ?_;intro a b e m;have e:=Aj e (show AV.agg [sI a0,sI 0,AV.slice .gx [],AV.slice .gx [],AV.slice .gx [Fm.av a,Fm.av b]]=Fm.av (Fm.mk a0 (Ty.mk 0 []) [] [a,b]) by rw[Fm.eO];rfl);exact au
def RL:kI prog 271=true:=by kernel_rfl
def agT(fr:Fr)(L:List Int):Prop:=
 (L=[]/\fr.env 3=.slice .full [])\/∃cap,fr.env 3=.xb 17 (fr.gen 17) L.length cap/\fr.box 17=some (uQ (λn=>AV.sc (Value.int .i64 n)) L ((cap-L.length)*1))/\L.length<=cap
def z7(T:eH){H:dT}{a0:List (Int×Bool)}{r0:List Int}{ak:List (Int×Bool)}{u:Nat}(G:H[u]?=some [sR (λb=>AV.sc (Value.bool b)) a0])(hm:p6 a0=some (r0,ak)):eI prog T 271 [AV.nB u] H (AV.slice .gx (List.map (λn=>AV.sc (Value.int .i64 n)) r0)) (gb H u [sR (λb=>AV.sc (Value.bool b)) ak]):=by
 unfold p6 at hm;have⟨aF,hm⟩:=rU hm;have⟨V,hm⟩:=rU hm;have an:=eK G;simp only[BI,R3] at hm;have⟨e1,e2⟩:=hm;subst e2;rw[KO G]
 have V:(a0.map (·.1)).Nodup:=by simpa[xK] using V
 refine fo.uI (Post:=λx K=>x=AV.slice .gx (List.map (λn=>AV.sc (Value.int .i64 n)) r0)/\∃X,K=H++X) ?_ (λ_ _ h=>⟨_,h.2.choose_spec,by rw[h.1];simp[AV.low,AV.iu],h.1,rfl⟩);refine fo.intro (fn:=f271) func271 rfl RL (DV rfl) ?_;refine hQ.sr [] λK1 I=>?_;simp;apply I;refine hQ.sr [] λK1 I=>?_;simp;apply I;refine hQ.C9 λK1 I=>?_;refine hQ.sr [] λK2 aG=>?_;simp[IW,G,sR];apply aG;refine hQ.Fs λQ nn ex x r=>?_
 refine hQ.RA (λm fr h=>∃(seen:List Nat) (L:List Int),m=H8 a0.length seen/\L.length+m<=a0.length/\G2 L/\(∀x,x∈L↔∃j∈seen,∃p,a0[j]?=some p/\p.1=x)/\H++[[.mu u a0.length seen]]=h/\fr.env 7=.eT H.length 0/\agT fr L) a0.length ?_ ?_
 ·exact⟨[],[],(PY _).symm,aaF,.nil,aaF,aaF,rfl,.inl ⟨rfl,rfl⟩⟩
 rintro m fr h ⟨seen,L,aH,aV,hA,hL,rfl,J,hs⟩ K3 aI
 have hi:(H++[[AV.mu u a0.length seen]])[H.length]?=some [AV.mu u a0.length seen]:=aaF
 have ho:(H++[[AV.mu u a0.length seen]])[u]?=some [sR (λb=>AV.sc (Value.bool b)) a0]:=by simp[an,G]
 refine hQ.sr [] λK4 ao=>?_;simp only[RW,ev,J];refine ON a0 hi ho (λaq=>?_) (λj p W hj=>?_)
 ·--aW end
  simp;apply ao;refine hQ.C9 λK5 ar=>?_;refine hQ.B8 λA B ga Y=>?_;simp;apply Y;refine hQ.exit ?_;apply ex;apply I
  have hr:zt [] (a0.map (·.1))=L:=by
   refine G2.eq (Bu _ [] .nil V aaF) hA λx=>?_;rw[A9,hL];simp only[vG,false_or,qv];constructor
   ·rintro⟨p,W,rfl⟩;have⟨j,hj⟩:=Yx.1 W;exact⟨j,aq j (ua.1 hj).1,p,hj,rfl⟩
   ·rintro⟨j,_,p,W,rfl⟩;exact⟨p,IN W,rfl⟩
  rw[hr] at e1;subst e1;rcases hs with⟨rfl,o⟩|⟨cap,o,l,hle⟩
  ·refine hQ.sr [] λK6 s=>?_;simp[o];apply s;refine hQ.ret ?_;simp[AO,o]
  ·refine hQ.ahJ 3 (f:=λn=>AV.sc (Value.int .i64 n)) (L:=L) (k:=(cap-L.length)*1) (sz:=1) (d:=17) (g:=fr.gen 17) (cap:=cap) (by intro x;simp) (by intro x;simp) (by simp[o]) aaF (by simp[l]) ?_;refine hQ.sr [] λK6 s=>?_;simp;apply s;refine hQ.ret ?_;simp[AO]
 have aw:j<a0.length:=(ua.1 W).1;have aJ:=S9 aw hj
 have aK:(H++[[AV.mu u a0.length (seen++[j])]])[H.length]?=some [AV.mu u a0.length (seen++[j])]:=aaF
 have aL:(H++[[AV.mu u a0.length (seen++[j])]])[u]?=some [sR (λb=>AV.sc (Value.bool b)) a0]:=by simp[an,G]
 have gb:gb (H++[[AV.mu u a0.length seen]]) H.length [AV.mu u a0.length (seen++[j])]=H++[[AV.mu u a0.length (seen++[j])]]:=aaF
 rw[gb];have ax:=Nc (f:=λb=>AV.sc (Value.bool b)) a0 aK aL W
 have af:p.1∉L:=by
  rw[hL];rintro⟨j',aM,p',aN,he⟩
  have h1:(a0.map (·.1))[j]?=some p.1:=by rw[Df,W];rfl
  have h2:(a0.map (·.1))[j']?=some p.1:=by rw[Df,aN];simp[he]
  have:j=j':=by
   have aO:j<(a0.map (·.1)).length:=by simpa using aw
   exact(List.getElem?_inj aO V).1 (h1.trans h2.symm)
  subst this;exact hj aM
 have aU:a0.length<=ve:=ML aF;simp;apply ao;refine hQ.C9 λK5 ar=>?_;refine hQ.B8 λA B ga Y=>?_;simp;apply ga;refine hQ.skip ?_;apply ar;refine hQ.Fs λQ1 aP aX x1 r1=>?_;refine hQ.sr [] λK6 s=>?_;simp[J,ax];apply s;refine hQ.sr [] λK6 s=>?_
 have hlen:∃y,fr.env 3=y/\GG prog 22 y=some (.sc (.int .i64 L.length)):=by
  rcases hs with⟨rfl,o⟩|⟨cap,o,l,hle⟩
  ·exact⟨_,o,aaF⟩
  ·exact⟨_,o,aaF⟩
 have⟨y,hy,ay⟩:=hlen;simp[hy,ay];apply s
 refine hQ.aeo (λfr h=>H++[[.mu u a0.length (seen++[j])]]=h/\fr.env 7=.eT H.length 0/\fr.env 4=.sc (.int .i64 p.1)/\fr.env 5=.sc (.int .i64 (L.length:Int))/\∃cap,fr.env 3=.xb 17 (fr.gen 17) (L.length+1) cap/\fr.box 17=some (uQ (λn=>AV.sc (Value.int .i64 n)) (L.take L.length++p.1::L.drop L.length) ((cap-(L.length+1))*1))/\L.length+1<=cap) (λK6 s=>?_) ?_
 ·refine hQ.region [] abB ?_
  have az:fT L [p.1]=L.take L.length++p.1::L.drop L.length:=by simp[fT]
  have aY:(fT L [p.1]).length=L.length+1:=by simp[fT]
  rcases hs with⟨rfl,o⟩|⟨cap,o,l,hle⟩
  ·simp[o];refine sQ.afG (f:=λn=>AV.sc (Value.int .i64 n)) [p.1] GX ⟨_,aaq⟩ (by intro x;simp) (by simp[HU,ve]) rfl (by first|rfl|simp) λcap BL=>?_;simp;apply s;refine⟨rfl,?_,?_,?_,cap,?_,?_,by simpa using BL⟩<;>simp[J]
  ·simp[o];refine sQ.oZ (f:=λn=>AV.sc (Value.int .i64 n)) L [p.1] (cap:=cap) GX ⟨_,aaq⟩ (by intro x;simp) (by simp[fL];omega) aaF rfl (by first|rfl|simp) (by simp[l]) hle λg' aA BL=>?_;rw[az] at BL;simp only[az];simp;apply s;refine⟨rfl,?_,?_,?_,aA,?_,?_,by simpa using BL⟩<;>simp[J]
 rintro aZ h6 ⟨rfl,f7,f4,f5,cap,f3,f17,aB⟩
 refine hQ.aeo (λfr h=>H++[[.mu u a0.length (seen++[j])]]=h/\fr.env 7=.eT H.length 0/\fr.env 4=.sc (.int .i64 p.1)/\∃(i:Nat) (z:Int),fr.env 5=.sc (.int .i64 (i:Int))/\i<=L.length/\(∀a∈L.drop i,a>p.1)/\(i=0\/∃a,L[i-1]?=some a/\¬a>p.1)/\∃cap,fr.env 3=.xb 17 (fr.gen 17) (L.length+1) cap/\fr.box 17=some (uQ (λn=>AV.sc (Value.int .i64 n)) (L.take i++z::L.drop i) ((cap-(L.length+1))*1))/\L.length+1<=cap) (λK7 aQ=>?_) ?_
 ·refine hQ.Fs λQ2 a1 aC x2 r2=>?_
  refine hQ.RA (λi fr h=>H++[[.mu u a0.length (seen++[j])]]=h/\fr.env 7=.eT H.length 0/\fr.env 4=.sc (.int .i64 p.1)/\∃(z:Int),fr.env 5=.sc (.int .i64 (i:Int))/\i<=L.length/\(∀a∈L.drop i,a>p.1)/\∃cap,fr.env 3=.xb 17 (fr.gen 17) (L.length+1) cap/\fr.box 17=some (uQ (λn=>AV.sc (Value.int .i64 n)) (L.take i++z::L.drop i) ((cap-(L.length+1))*1))/\L.length+1<=cap) L.length ?_ ?_
  ·exact⟨rfl,f7,f4,p.1,f5,js _,aaF,cap,f3,f17,aB⟩
  clear f7 f4 f5 f3 f17 aB hy ay J hs;rintro i fr h ⟨rfl,J,e4,z,U,C,O,cap,o,l,hle⟩ K8 aR
  have stop:∀fr':Fr,fr'.env 7=.eT H.length 0->fr'.env 4=.sc (.int .i64 p.1)->fr'.env 5=.sc (.int .i64 (i:Int))->fr'.env 3=fr.env 3->fr'.gen=fr.gen->fr'.box=fr.box->(i=0\/∃a,L[i-1]?=some a/\¬a>p.1)->K7 fr' (H++[[.mu u a0.length (seen++[j])]]):=by
   intro fr' g7 g4 g5 g3 gg Y Z;exact aQ _ _ ⟨rfl,g7,g4,i,z,g5,C,O,Z,cap,by rw[g3,o,gg],by rw[Y,l],hle⟩
  refine hQ.C9 λK9 aS=>?_;refine hQ.sr [] λa6 ad=>?_;obtain⟨c,F⟩:∃c:Int,c=(i:Int):=⟨_,rfl⟩;rw[<-F] at U;cases i with
  |zero=>
   have Z:o0 c 0=false:=by rw[F];decide
   simp[U,Z];apply ad;refine hQ.B8 λA B ga Y=>?_;simp;apply Y;refine hQ.exit ?_;apply aC;refine stop _ ?_ ?_ ?_ ?_ ?_ ?_ (.inl rfl)<;>simp[J,e4,U,F]
  |succ i=>
   have Z:o0 c 0=true:=by rw[F];simp[o0]
   obtain⟨c',ah⟩:∃c':Int,c'=(i:Int):=⟨_,rfl⟩
   have R:fU .i64 c 1=c':=by rw[F,ah];exact Vq VW
   obtain⟨x,hx⟩:∃x,L[i]?=some x:=⟨_,qL VW⟩
   have D:(L.take (i+1)++z::L.drop (i+1)).length=L.length+1:=aby
   have ae:eb (L.take (i+1)++z::L.drop (i+1)) c'=some x:=by
    unfold eb;rw[dO VW,ah,CB,zE (by rw[Cy];omega),OS,dO VW,hx]
   have S:0<=c'/\c'<((L.length+1:Nat):Int):=VW
   have q:0<=c/\c<((L.length+1:Nat):Int):=VW
   have ai:=MJ (P:=prog) (t:=3) (f:=λn=>AV.sc (Value.int .i64 n)) (k:=(cap-(L.length+1))*1) U2 (by intro x;simp) ae;generalize hM:L.take (i+1)++z::L.drop (i+1)=M at l D ae ai;generalize hN:L.length+1=N at o l hle D S q ai
   have aD:∀fr':Fr,fr'.gen 17=fr.gen 17->fr'.box 17=fr.box 17->uH prog fr' (H++[[AV.mu u a0.length (seen++[j])]]) 3 (.hU 17 (fr.gen 17) (MB c'.toNat 1))=some (.sc (.int .i64 x)):=by
    intro fr' g1 g2;show(if fr.gen 17=fr'.gen 17 then(match fr'.box 17 with|some cs=>mm prog 3 cs (MB c'.toNat 1)|none=>none)else none)=_;rw[dO g1.symm,g2,l];exact ai
   simp[U,o,Z,R,S,aD,e4,-uH];apply ad;have a7:M.length=N:=D
   have v:eb M c=some z:=by
    unfold eb;rw[dO VW,F,CB,<-hM,Cv aby];simp[Cy,show min (i+1) L.length=i+1 from by omega]
   have w:Fk M c x=L.take i++x::L.drop i:=by
    have hd:L.drop i=x::L.drop (i+1):=by
     rw[NI (by omega:i<L.length)]
     congr 1
     exact(ua.1 hx).2
    have ht:L.take (i+1)=L.take i++[x]:=by rw[ab7,hx];rfl
    unfold Fk;rw[F,CB,<-hM,hd,afl _ _ aby];rw[Cy,show min (i+1) L.length=i+1 from by omega,Nat.sub_self,af_,ht,vn];rfl
   refine hQ.B8 λA B ga Y=>?_;rcases Bool.eq_false_or_eq_true (o0 x p.1)with hgx|hgx
   ·simp[hgx];apply ga;refine hQ.skip ?_;apply aS;refine hQ.Fs λQ3 aT a8 x3 r3=>?_;refine hQ.sr [] λa_ aE=>?_;simp[U,o,R,S,q,aD,e4,-uH];refine CX.arr (f:=λn=>AV.sc (Value.int .i64 n)) (L:=M) (k:=(cap-N)*1) x U2 (by intro x;simp) aaF (x:=z) v aaF (by simp[l]) aaF ?_;simp;apply aE;refine hQ.region [] abB ?_;simp[U,R];apply aT;rw[w];refine aR _ _ i (X1 _) ⟨rfl,?_,?_,x,?_,VW,?_,cap,?_,?_,by rw[hN];exact hle⟩
    ·simp[J]
    ·simp[e4]
    ·simp[ah]
    ·intro a ha
     have hd:L.drop i=x::L.drop (i+1):=by
      rw[NI (by omega:i<L.length)]
      congr 1
      exact(ua.1 hx).2
     rw[hd] at ha;rcases lS.1 ha with rfl|ha
     ·simpa[o0] using hgx
     ·exact O a ha
    ·simp[o,hN]
    ·simp[hN]
   ·simp[hgx];apply Y;refine hQ.exit ?_;apply aC;refine stop _ ?_ ?_ ?_ ?_ ?_ ?_ (.inr ⟨x,by simpa using hx,by simpa[o0] using hgx⟩)<;>simp[J,e4,U,o,F]
 rintro fr h ⟨rfl,J,e4,i,z,U,C,O,Z,cap,o,l,hle⟩;refine hQ.region [] abB ?_;obtain⟨c,F⟩:∃c:Int,c=(i:Int):=⟨_,rfl⟩;rw[<-F] at U
 have D:(L.take i++z::L.drop i).length=L.length+1:=aby
 have v:eb (L.take i++z::L.drop i) c=some z:=by
  unfold eb;rw[dO VW,F,CB,Cv aby];simp[Cy,U3 C]
 have w:Fk (L.take i++z::L.drop i) c p.1=Dh p.1 L:=by
  rw[PD L i hA af C O Z];unfold Fk;rw[F,CB,afl _ _ aby,Cy,U3 C,Nat.sub_self,af_]
 have q:0<=c/\c<((L.length+1:Nat):Int):=VW
 have hlen:(Dh p.1 L).length=L.length+1:=by rw[PD L i hA af C O Z];simp;omega
 generalize hM:L.take i++z::L.drop i=M at l D v w;generalize hN:L.length+1=N at o l hle D q hlen;simp[U,o,e4,q];refine CX.arr (f:=λn=>AV.sc (Value.int .i64 n)) (L:=M) (k:=(cap-N)*1) p.1 U2 (by intro x;simp) aaF (x:=z) v aaF (by simp[l]) aaF ?_;simp;apply aP;rw[w];refine aI _ _ _ (by rw[aH];exact aJ) ⟨seen++[j],Dh p.1 L,rfl,VW,I2 p.1 L af hA,?_,rfl,?_,.inr ⟨cap,?_,?_,by rw[hlen];exact hle⟩⟩
 ·intro x;rw[zQ,hL];constructor
  ·rintro(rfl|⟨j',h1,p',h2,h3⟩)
   ·exact⟨j,aaF,p,W,rfl⟩
   ·exact⟨j',by simp[h1],p',h2,h3⟩
  ·rintro⟨j',h1,p',h2,h3⟩;rcases uh.1 h1 with h1|h1
   ·exact .inr ⟨j',h1,p',h2,h3⟩
   ·simp only[E'] at h1;subst h1;rw[W] at h2;obtain rfl:=lE h2;exact .inl h3.symm
 ·simp[J]
 ·simp[o,hlen]
 ·simp[hlen]
def j4(T:eH){H:dT}{a0 b d:List Int}(hm:gd a0 b=some d):eI prog T 205 [sL sI a0,sL sI b] H (sL sI d) H:=by
 rw[gd] at hm;refine fo.uI (Post:=λx K=>x=sL sI d/\∃X,K=H++X) ?_ (λ_ _ h=>⟨_,h.2.choose_spec,by rw[h.1];simp[AV.low,AV.iu],h.1,rfl⟩);have e:=trivial;refine wi aiN func205 [] [] 999 ?_;simp[e];refine Xe e hm 999 (λi s2 f h=>h=H++[[sR sB s2]]/\f.1 1=sL sI b/\f.1 5=AV.nB (List.length H)/\f.1 11=sL sI a0/\f.1 12=sI (ez a0)/\f.1 13=sI i) abx (λi _ s2 _ _ _ _ _ E e m z p=>?_) (λs2 _ _ _ E m=>?_)
 ·have e:=Aj e E;simp[e];refine uf.i64 (f:=sB) s2 true Pg uM abx abx ?_;exact al
 have e:=Aj e E;refine sw [11,0] ?_;intro e m;refine Wr e m 999 (λc a f h=>h=H++[[sR sB a]]/\f.1 5=AV.nB (List.length H)/\f.1 20=sL sI b/\f.1 21=sI (ez b)/\f.1 22=sI c) abx (λa _ _ _ E m=>?_) (λc _ a _ _ _ _ _ E e m z p=>?_)
 ·have e:=Aj e E;dsimp only[ew]at m;simp[e];refine Ds m (z7 T abx) λ_ d22 m=>?_;exact au
 have e:=Aj e E;simp[e];refine uf.i64 (f:=sB) a true Pg uM abx abx ?_;exact al
@[reducible,instance] def WN:=@Kc.mk prog 205 _ @j4
def jT:C3 prog 206 eu sI dP.av sI sI:=by
 refine u3 3 func206 λT H a0 a a2 r m e=>?_;rw[eu] at m;simp[e];refine wB 999 999 [] [] (λf=>f.1 20=sB (e_ (o0 (fl .i64 (ez a0.aiM) a) 16) true (o0 (fl .i64 (ez a0.aiP) a2) 16))) λ_ g=>?_;exact aa
@[reducible,instance] def M7:=@Kc.mk prog 206 _ @jT
def la:C2 prog 207 fX dP.av dP.av Fm.av:=by
 refine v2 func207 λT H a0 a r m e=>?_;rw[fX] at m;refine sw [9,0] ?_;intro e m;refine Ad (f:=Fm.av) a0.aiP [a] (hD.full (D:=[])) JC e.2 ?_;exact au
@[reducible,instance] def M5:=@Kc.mk prog 207 _ @la
def yj{n:Nat}:C2 prog 268 (lq n) sB Tm.av Tm.av:=by
 refine i2 λn ih=>u2 3 func268 λT H a0 a r m e=>?_;rw[lq] at m;simp[e];refine WA m 999 999 [] [2,3] (λv2 f=>f.1 34=sB v2) [7,0] (λb _ g m=>?_) ?_
 ·apply Iq e m<;>intro e m
  ·exact iO
  apply Iq e m<;>intro e m
  ·exact iO
  simp[e];refine pS m ic λ_ m=>?_;apply Ir e m<;>intro e m
  ·exact iO
  exact iO
 intro _ v2 e m;exact Wb e m 999 38 [37] [2,3] nI
@[reducible,instance] def YX:=@Kc.mk prog 268 _ @yj
def qO{n:Nat}:C2 prog 304 (lb n) sB Tm.av sI:=by
 refine i2 λn ih=>v2 func304 λT H a0 a r m e=>?_;rw[lb] at m;refine sw [7,0] ?_;intro e m;exact Wb e m 999 14 [1,12,13] [] nI
@[reducible,instance] def Xl:=@Kc.mk prog 304 _ @qO
def oh:C1 prog 325 vo sB Tm.av:=by
 refine u1 8 func325 λT H a0 r m e=>?_;rw[vo] at m;refine sw [0,13] ?_;intro e m;apply wg 3;simp[e];apply Iq e m<;>intro e m
 ·apply wg 1;simp[e];refine WB m 999 999 [] [] (λv3 f=>f.1 2=sB v3) λb _ g m=>?_;have⟨c,e,m⟩:=MX e m;apply Iq e m<;>intro e m
  ·exact iO
  exact iO
 apply wg 4;apply Iq e m<;>intro e m
 ·simp[e];refine WB m 999 999 [] [] (λv9 f=>f.1 2=sB v9) λd _ g m=>?_;have⟨a,e,m⟩:=MX e m;apply Iq e m<;>intro e m
  ·exact iO
  exact iO
 simp[e];refine wA 999 999 [] [1] (λf=>f.1 45=sB (e_ (ei a0.aiI 11) true (ei a0.aiI 12))) [] (λ_ g=>?_) ?_
 ·rcases Pb (ei a0.aiI 11) e with e|e
  ·exact aj
  exact aj
 intro _ e m;exact aa
def B2:C1 prog 331 k5 sI Tm.av:=by
 refine v1 func331 λT H a0 r m e=>?_;rw[k5] at m;exact aa
@[reducible,instance] def Xg:=@Kc.mk prog 331 _ @B2
def qC{n:Nat}:C2 prog 341 (nb n) sI Tm.av sI:=by
 refine i2 λn ih=>u2 4 func341 λT H a0 a r m e=>?_;rw[nb] at m;simp[e];refine wA 0 999 [1] [2] (λf=>f.1 5=sI (e_ (e_ (ei a0.aiI 1) (ei a0.aiL a) false) (fl .i64 0 1) 0)) [0] (λ_ g=>?_) ?_
 ·refine wA 999 999 [1,5] [2] (λf=>f.1 16=sB (e_ (ei a0.aiI 1) (ei a0.aiL a) false)) [] (λ_ g=>?_) ?_
  ·exact aa
  intro _ e m;rcases Pb (e_ (ei a0.aiI 1) (ei a0.aiL a) false) e with e|e
  ·exact aj
  exact aj
 intro _ e m;exact Wb e m 999 22 [1,20,21] [2] (λb f=>f.1 5=sI b)
@[reducible,instance] def Xj:=@Kc.mk prog 341 _ @qC
def A0:C1 prog 326 sl sI Tm.av:=by
 refine v1 func326 λT H a0 r m e=>?_;rw[sl] at m;exact aa
def sH{n:Nat}:C3 prog 310 (rV n) Tm.av Tm.av sI sI:=by
 refine i3 λn ih=>u3 4 func310 λT H a0 h a2 r m e=>?_;rw[rV] at m;simp[e];refine wA 0 999 [1,2] [3,6] (λf=>bx f 7 [sI a0.aiI,sI (e_ (e_ (ei a0.aiI 1) (rb a0.aiL h) false) (fl .i64 a0.aiL a2) a0.aiL),sI a0.dM.aiI,sL Ty.av a0.dM.aiJ,nL]) [0] (λ_ g=>?_) ?_
 ·refine wA 999 999 [1,2] [3,6,7] (λf=>f.1 25=sB (e_ (ei a0.aiI 1) (rb a0.aiL h) false)) [] (λ_ g=>?_) ?_
  ·exact aa
  intro _ e m;rcases Pb (e_ (ei a0.aiI 1) (rb a0.aiL h) false) e with e|e
  ·exact aj
  exact aj
 intro _ e m;refine Td e m 999 34 [1,2,32,33] [3,6] [48] (λc=>c) (λc a f=>bx f 7 [sI a0.aiI,sI (e_ (e_ (ei a0.aiI 1) (rb a0.aiL h) false) (fl .i64 a0.aiL a2) a0.aiL),sI a0.dM.aiI,sL Ty.av a0.dM.aiJ,sT a Tm.av c]) λj _ c d _ _ _ _ E e m z p=>?_;have⟨a,E,b⟩:=E;refine sw [20,0,4,0,18,9,0] ?_;intro _ i e m;refine Ad (f:=Tm.av) c [i] b y5 e.2 ?_;simp[e];cases m;exact p _ _ _ ⟨(.loc 48 (d.e8 48+1)),abx,(On 48)⟩ z
@[reducible,instance] def adf:=@Kc.mk prog 310 _ @sH
def vA{n:Nat}:C4 prog 342 (vC n) Tm.av Tm.av sI sI Tm.av:=by
 refine i4 λn ih=>v4 func342 λT H a0 i a2 a3 r m e=>?_;rw[vC] at m;refine sw [13,0] ?_;intro e m;refine Td e m 999 47 [1,2,45,46] [4,7,8] [62] (λb=>b) (λb a f=>bx f 9 [sI a0.aiI,sI a0.aiL,sI a0.dM.aiI,sL Ty.av a0.dM.aiJ,sT a Tm.av b]) λj _ b d _ _ _ _ E e m z p=>?_;have⟨a,E,c⟩:=E;refine sw [20,0,4,0,18,9,0] ?_;intro _ h e m;refine Ad (f:=Tm.av) b [h] c y5 e.2 ?_;simp[e];cases m;exact p _ _ _ ⟨(.loc 62 (d.e8 62+1)),abx,(On 62)⟩ z
@[reducible,instance] def ab1:=@Kc.mk prog 342 _ @vA
def zc:C1 prog 327 qN Tm.av Tm.av:=by
 refine v1 func327 λT H a0 r m e=>?_;rw[qN] at m;exact aa
def Sx:kI prog 305=true:=by kernel_rfl
def JZ:∀(n:Nat),C2 prog 305 (ow n) (t3 Tm.av sB sB) Tm.av sI:=by
  intro n
  induction n with
  |zero=>
    skip
    all_goals(intro _ _;intros;rename_i hm;cases hm)
  |succ n ih=>
 rintro T H a0 a1 ⟨r0,r1,r2⟩ hm;rw[ow] at hm;refine fo.intro (fn:=f305) func305 rfl Sx (DV rfl) ?_;refine hQ.sr [] λK1 aZ=>?_;simp;apply aZ;refine hQ.C9 λK3 a6=>?_;refine hQ.sr [] λK5 a7=>?_;have⟨x7,a8,N⟩:=lv hm;clear hm
 try dsimp only at N
 simp;refine lz.fn (oh a8) ?_;simp;apply a7;refine hQ.B8 λbs bt aw ax=>?_;rcases Er N with⟨a,O⟩|⟨a,P⟩
 ·clear N;simp[a];apply aw;refine hQ.C9 λbu ay=>?_;refine hQ.sr [] λbw az=>?_;have⟨bz,aA,B⟩:=lv O;clear O
  try dsimp only at B
  simp[a];refine lz.fn (A0 aA) ?_;simp[a];apply az;refine hQ.B8 λbA bB aB aC=>?_;rcases Er B with⟨s,Q⟩|⟨s,R⟩
  ·clear B;simp[a,s];apply aB;refine hQ.sr [] λbC aD=>?_;simp[a,s];apply aD;refine hQ.ret ?_;simp only[BI,R3] at Q;obtain⟨rfl,rfl,rfl⟩:=Q;simp[AO,a,s]
  clear B;simp[a,s];apply aC;refine hQ.skip ?_;apply ay;refine hQ.sr [] λbD aE=>?_;have⟨bE,aF,G⟩:=lv R;clear R
  try dsimp only at G
  simp[a,s];refine lz.fn (zc aF) ?_;simp[a,s];apply aE;refine hQ.ret ?_;simp only[BI,R3] at G;obtain⟨rfl,rfl,rfl⟩:=G;simp[AO,a,s]
 clear N;simp[a];apply ax;refine hQ.skip ?_;apply a6;refine hQ.C9 λbF aG=>?_;refine hQ.sr [] λbG aH=>?_;simp[a];apply aH;have⟨V,S⟩:=rU P;clear P;have⟨a_,aI,I⟩:=Cu S;clear S
 try dsimp only at I
 have⟨W,t,r⟩:=lv I;clear I;refine hQ.Fs λbH a' aJ ba aK=>?_;refine hQ.RA (λn55 fr h=>∃(i56:Nat) (F:Int) (u:Nat) (v:Nat),H=h/\(fr.env 1=sI a1/\fr.env 2=AV.hU 2 u 0/\fr.env 4=AV.hU 4 v 0/\fr.env 23=sL Tm.av a0.aiJ/\fr.env 24=sI (ez a0.aiJ)/\fr.env 25=sI F/\fr.gen 2=u/\fr.box 2=some [sI a0.aiI,sI a0.aiL,sI a0.dM.aiI,sL Ty.av a0.dM.aiJ,sL Tm.av a0.aiJ]/\fr.gen 4=v/\fr.box 4=some [sI 0,sI 0,sI 0,nL,nL])/\F=(i56:Int)/\i56+n55=List.length a0.aiJ/\eY a_ (List.drop i56 a0.aiJ) i56 ()=some W) (List.length a0.aiJ) ?_ ?_
 ·refine⟨0,0,1,1,?_,⟨?_,?_,?_,?_,?_,?_,?_,?_,?_,?_⟩,rfl,aaF,t⟩<;>first|rfl|simp[a]
 rintro n55 U bI ⟨i56,F,u,v,rfl,j,A,bb,t⟩ bJ aL;rcases n55 with _|n55
 ·have b:=UZ (l:=a0.aiJ) A VW;refine hQ.sr [] λbK aM=>?_;simp[j,b,a];apply aM;refine hQ.C9 λbL bc=>?_;refine hQ.B8 λbM bN bd aN=>?_;simp[j,b,a];apply aN;refine hQ.exit ?_;apply aJ;rw[MH VW,pj] at t;obtain rfl:=lE t;rw[ew] at r
  try dsimp only at r
  apply aG;refine hQ.sr [] λbO aO=>?_;simp[j,b,a];apply aO;refine hQ.ret ?_;simp only[BI,R3] at r;obtain⟨rfl,rfl,rfl⟩:=r;simp[AO,j,b,a]
 have b:=XE (l:=a0.aiJ) A VW;have⟨bP,X,i⟩:=Ub (l:=a0.aiJ) A VW;rw[X,fp] at t;have⟨bQ,C,D⟩:=lv t;clear t;rw[aI,<-A] at C
 try dsimp only at C
 refine hQ.sr [] λbR aP=>?_;simp[j,b,i,a];apply aP;refine hQ.C9 λbS aQ=>?_;refine hQ.B8 λbT bU aR bf=>?_;simp[j,b,i,a];apply aR;refine hQ.skip ?_;apply aQ;refine hQ.C9 λbV aS=>?_;refine hQ.Fs λbW bg aT bh aU=>?_;refine hQ.sr [] λbX aV=>?_;simp[j,b,i,a];apply aV;refine hQ.sr [] λbY aW=>?_;have⟨Y,bZ,bj,Z,w⟩:=CU C;clear C
 try dsimp only at w
 simp[j,b,i,a];refine lz.fn (ih Z) ?_;simp[j,b,i,a];apply aW;refine hQ.C9 λbk ad=>?_;refine hQ.sr [] λbl ae=>?_;simp[j,b,i,a];apply ae;refine hQ.B8 λbm bn af ah=>?_;rcases Er w with⟨c,J⟩|⟨c,ai⟩;rotate_left
 ·clear w;simp[j,b,i,a,c];apply af;refine hQ.exit ?_;apply aT;apply aS;refine hQ.region [] abB ?_;simp[j,b,i,a,c];obtain rfl:=lE ai;rw[fw] at D
  refine aL _ _ n55 (X1 _) ⟨(i56+1),(fl .i64 F 1),u,v,?_,⟨?_,?_,?_,?_,?_,?_,?_,?_,?_,?_⟩,(SD A VW V),VW,D⟩<;>first|rfl|simp[j,b,i,a,c]
 clear w;simp[j,b,i,a,c];apply ah;refine hQ.skip ?_;apply ad;refine hQ.sr [] λbo ak=>?_;simp[j,b,i,a,c];apply ak;refine hQ.sr [] λbp an=>?_;have⟨ao,K⟩:=rU J;clear J;simp[j,b,i,a,c];refine sQ.afG (f:=Tm.av) a0.aiJ y5 ⟨_,acZ⟩ (by intro x;simp) ao (by first|rfl|simp) (by first|rfl|simp) λy aX=>?_;simp[j,b,i,a,c];apply an;refine hQ.sr [] λbq aq=>?_;have⟨aY,o,M⟩:=lv K;clear K
 try dsimp only at M
 have q:=Pw o;simp[j,b,i,o,q,a,c];refine CX.arr (f:=Tm.av) (L:=a0.aiJ) (k:=((y-List.length a0.aiJ)*5)) Y aaP (by intro x;simp) (by simp[j,b,i,o,q,a,c]) (x:=aY) (by assumption) (by simp[j,b,i,o,q,a,c]) (by simp[j,b,i,o,q,a,c]) (by simp[j,b,i,o,q,a,c]) ?_;simp[j,b,i,o,q,a,c];apply aq;refine hQ.C9 λbr ar=>?_;refine hQ.ahq 12 4 (cs2:=[sI a0.aiI,sI a0.aiL,sI a0.dM.aiI,sL Ty.av a0.dM.aiJ,AV.xb 42 (U.gen 42+1) (List.length (Fk a0.aiJ F Y)) y]) (f:=Tm.av) (L:=(Fk a0.aiJ F Y)) (k:=((y-List.length a0.aiJ)*5)) (sz:=5) (d:=42) (g:=(U.gen 42+1)) (cap:=y) (by intro x;simp) (by intro x;simp) aak (by simp[j,b,i,o,q,a,c]) (by simp[j,b,i,o,q,a,c]) (by simp[j,b,i,o,q,a,c]) (by simp[j,b,i,o,q,a,c]) ?_;refine hQ.region [] abB ?_;simp[j,b,i,o,q,a,c];apply ar;refine hQ.ret ?_;apply aU;apply aK;obtain rfl:=lE M;rw[MW] at D;obtain rfl:=lE D;rw[rR] at r
 try dsimp only at r
 simp only[BI,R3] at r;obtain⟨rfl,rfl,rfl⟩:=r;simp[AO,j,b,i,o,q,a,c]
def Ma{n:Nat}:C2 prog 305 (ow n) (t3 Tm.av sB sB) Tm.av sI:=(JZ n)
@[reducible,instance] def X2:=@Kc.mk prog 305 _ @Ma
def o4:C2 prog 269 kX (t3 Tm.av sI sI) Tm.av sI:=by
 refine u2 7 func269 λT H a0 b r m e=>?_;rw[kX] at m;refine sw [0,1,0,13] ?_;intro _ e m;apply wg 3;simp[e];refine WA m 999 999 [] [2,4] (λv3 f=>f.1 1=sI b/\f.1 28=sB v3) [7,0] (λk _ g m=>?_) ?_
 ·apply Iq e m<;>intro e m
  ·exact iO
  apply Iq e m<;>intro e m
  ·exact iO
  simp[e];refine pS m qO λ_ m=>?_;exact iO
 intro _ v3 e m;refine Wn m 999 (λa f h=>h=H/\f.1 1=sI b/\f.1 8=sI a.1/\bx f 2 [sI a.2.1,sI a.2.2.1,sI a.2.2.2.1,sL Ty.av a.2.2.2.2.1,sL Tm.av a.2.2.2.2.2]/\bx f 4 [sI 0,sI 0,sI 0,nL,nL]) abx (λa _ _ _ _ _ E m z p=>?_);have⟨c,d,i,j,v20,v21⟩:=a;have e:=Aj e E;dsimp only[AG]at m;exact aa
@[reducible,instance] def T3:=@Kc.mk prog 269 _ @o4
def BW:C3 prog 198 lW sI Tm.av Tm.av sI:=by
 refine v3 func198 λT H a0 a a2 r m e=>?_;rw[lW] at m;exact aa
@[reducible,instance] def Xi:=@Kc.mk prog 198 _ @BW
def tn{n:Nat}:C2 prog 145 (k0 n) sI Fm.av Fm.av:=by
 refine i2 λn ih=>u2 3 func145 λT H a0 a r m e=>?_;rw[k0] at m;simp[e];refine WA m 999 999 [] [2,3] (λv2 f=>f.1 21=sB v2) [7,0] (λb _ g m=>?_) ?_
 ·apply Iq e m<;>intro e m
  ·exact iO
  simp[e];refine pS m ic λ_ m=>?_;exact iO
 intro _ v2 e m;refine Wa e m 999 25 [24] [2,3] nI [11,0] ?_;intro _ _ e m;exact Wb e m 999 46 [45] [2,3] nI
@[reducible,instance] def W8:=@Kc.mk prog 145 _ @tn
def xq:C2 prog 104 jQ sI Fm.av Fm.av:=by
 refine v2 func104 λT H a0 a r m e=>?_;rw[jQ] at m;exact aa
@[reducible,instance] def WW:=@Kc.mk prog 104 _ @xq
def Jy:C1 prog 309 mU sI Fm.av:=by
 refine v1 func309 λT H a0 r m e=>?_;rw[mU] at m;simp[e];refine pS m q8 λ_ m=>?_;refine Il e m λe m=>?_;exact au
@[reducible,instance] def WE:=@Kc.mk prog 309 _ @Jy
def oc{n:Nat}:C3 prog 281 (ik n) Fm.av Fm.av sI sI:=by
 refine i3 λn ih=>v3 func281 λT H a0 u a2 r m e=>?_;rw[ik] at m;simp[e];refine Tc e m 999 20 [1,2,18,19] [3,6] [31] (λs2=>s2) (λs2 c f=>bx f 7 [sI a0.aiI,sI a0.dM.aiI,sL Ty.av a0.dM.aiJ,sT c Tm.av s2,nL]) [11,0] (λv _ s2 o _ _ _ _ E e m z p=>?_) ?_
 ·have⟨c,E,i⟩:=E;refine sw [20,0,4,9,0] ?_;intro s e m;refine Ad (f:=Tm.av) s2 [s] i y5 e.2 ?_;simp[e];cases m;exact p _ _ _ ⟨(.loc 31 (o.e8 31+1)),abx,(On 31)⟩ z
 intro o s2 c i e m;refine Wr e m 999 (λq j f h=>∃a b,(h=H/\f.1 1=sI u/\f.1 2=sI a2/\f.1 35=sL Fm.av a0.aiJ/\f.1 36=sI (ez a0.aiJ)/\f.1 37=sI q/\bx f 3 (Fm.av a0).cells/\bx f 6 [sI 0,sI 0,nL,nL,nL]/\bx f 7 [sI a0.aiI,sI a0.dM.aiI,sL Ty.av a0.dM.aiJ,sT a Tm.av s2,sT b Fm.av j])/\Ow f [31] a s2/\Ow f [51] b j) (by exact⟨c,.full,abx,i,hD.full⟩) (λj l _ _ E m=>?_) (λq _ j l _ _ _ _ E e m z p=>?_)
 ·have⟨a,b,E,k,d⟩:=E;exact aa
 have⟨a,b,E,k,d⟩:=E;refine sw [10,0,4,0,18,9,0] ?_;intro _ t e m;refine Ad (f:=Fm.av) j [t] d JC e.2 ?_;simp[e];cases m;exact p _ _ _ ⟨a,(.loc 51 (l.e8 51+1)),abx,(hD.other k d aak aak),(On 51)⟩ z
@[reducible,instance] def abK:=@Kc.mk prog 281 _ @oc
def jr:C2 prog 272 fg dP.av dP.av (sL Ty.av):=by
 refine v2 func272 λT H a0 j r m e=>?_;rw[fg] at m;refine sw [9,0] ?_;intro e m;refine Ad (f:=Ty.av) a0.aiM j (hD.full (D:=[])) FG e.2 ?_;simp[e];refine Wr e m 999 (λl s2 f h=>∃a b,(h=H/\f.1 1=sL Ty.av j/\f.1 23=sL Fm.av a0.aiP/\f.1 24=sI (ez a0.aiP)/\f.1 25=sI l/\bx f 4 [nL,nL,nL]/\bx f 5 [sL Fm.av a0.lemmas,sT a Ty.av (fT a0.aiM j),sT b Fm.av s2])/\Ow f [20] a (fT a0.aiM j)/\Ow f [36] b s2) (by exact⟨(.loc 20 1),.full,abx,(On 20),hD.full⟩) (λs2 i _ _ E m=>?_) (λl _ s2 i _ _ _ _ E e m z p=>?_)
 ·have⟨a,b,E,d,c⟩:=E;exact aa
 have⟨a,b,E,d,c⟩:=E;refine sw [10,0,4,9,0] ?_;intro k e m;refine Ad (f:=Fm.av) s2 [k] c JC e.2 ?_;simp[e];cases m;exact p _ _ _ ⟨a,(.loc 36 (i.e8 36+1)),abx,(hD.other d c aak aak),(On 36)⟩ z
@[reducible,instance] def Mv:=@Kc.mk prog 272 _ @jr
def Kp:C3 prog 273 nC Fm.av sI Ty.av Fm.av:=by
 refine v3 func273 λT H a0 c a2 r m e=>?_;rw[nC] at m;refine sw [0,4,0,4] ?_;intro a b e m;have e:=Aj e (show AV.agg [sI a0,sI a.aiI,sL Ty.av a.aiJ,AV.slice .gx [],AV.slice .gx [Fm.av b]]=Fm.av (Fm.mk a0 a [] [b]) by rw[Fm.eO];rfl);exact au
@[reducible,instance] def ad8:=@Kc.mk prog 273 _ @Kp
def mI:C2 prog 274 gk (sL sI) (sL sI) sI:=by
 refine v2 func274 λT H a0 j r m e=>?_;rw[gk] at m;simp[e];refine Td e m 0 10 [1,8,9] [] [22] (λs2=>s2) (λs2 b f=>f.1 5=sT b sI s2) λn l s2 k _ _ _ o E e m z p=>?_;have⟨b,E,c⟩:=E;simp[e]at E;have e:=Aj e E;apply wg 5;simp[e];refine CP m 999 999 (λi f h=>∃v12 a,(h=H/\f.1 1=sI j/\f.1 5=sT a sI v12/\f.1 8=sL sI a0/\f.1 9=sI (ez a0)/\f.1 10=sI n)/\Ow f [22] a v12/\i v12=some o) ?_ (λi _ g m=>?_)
 ·rintro _ _ ⟨v12,a,E,d,m⟩;have e:=Aj e E;simp[e];cases m;exact p _ _ _ ⟨a,abx,d⟩ z
 apply Ir e m<;>intro e m
 ·simp[e];exact g _ _ ⟨s2,b,abx,c,m⟩
 refine sw [9,0] ?_;intro e m;refine Ao (f:=sI) s2 [(fU .i64 l j)] c GX e.2 ?_;simp[e];exact g _ _ ⟨(fT s2 [(fU .i64 l j)]),(.loc 22 (k.e8 22+1)),abx,(On 22),m⟩
@[reducible,instance] def TA:=@Kc.mk prog 274 _ @mI
def zL:C1 prog 275 rF sB (sL sI):=by
 refine u1 2 func275 λT H a0 r m e=>?_;rw[rF] at m;simp[e];refine WB m 999 999 [] [] (λv2 f=>f.1 2=sB v2) λa _ g m=>?_;apply Ir e m<;>intro e m
 ·exact iO
 have⟨b,e,m⟩:=MX e m;exact iO
@[reducible,instance] def aaA:=@Kc.mk prog 275 _ @zL
def zS:C2 prog 77 jb (t2 Ty.av sI) (sL Ty.av) Tm.av:=by
 refine v2 func77 λT H a0 a r m e=>?_;rw[jb] at m;exact aa
@[reducible,instance] def TU:=@Kc.mk prog 77 _ @zS
def tI(T:eH):∀(n:Nat),(∀{H:dT} {a0:Tm} {b:Int} {a2:(List (Int×Bool))} {a:(List (Int×Bool))} {o2:Nat} (c:H[o2]?=some [sR sB a2]) (hm:pz n a0 b a2=some a),eI prog T 328 [Tm.av a0,sI b,AV.nB o2] H (AV.tuple []) (gb H o2 [sR sB a])):=by
  intro n
  induction n with
  |zero=>
    skip
    all_goals(intro _ _;intros;rename_i hm;cases hm)
  |succ n ih=>
 intro H a0 b a2 a o2 c hm;rw[pz] at hm;have j:=eK c;refine fo.Jr c ?_;have e:=j;refine wi aiN func328 [] [] 2 ?_;simp[e];refine Wj hm 0 999 (λk f h=>∃(v2:(List (Int×Bool))),(h=gb H o2 [sR sB v2]/\f.1 1=sI b/\f.1 2=AV.nB o2/\f.1 3=AV.hU 3 (f.gen 3) 0/\f.box 3=some (Tm.av a0).cells)/\k v2=some a) (λk _ g m=>?_) ?_
 ·refine wj 999 999 (λf h=>h=gb H o2 [sR sB a2]/\f.1 1=sI b/\f.1 2=AV.nB o2/\f.1 16=sB (e_ (ei a0.aiI 1) (rb a0.aiL b) false)/\bx f 3 (Tm.av a0).cells) (λ_ g=>?_) ?_
  ·exact aa
  rintro _ _ E;have e:=Aj e E;apply Ir e m<;>intro e m
  ·exact iO
  simp[e];refine uf.i64 (f:=sB) a2 true Pg uM abx abx ?_;exact iO
 rintro _ _ ⟨v2,E,m⟩;have e:=Aj e E;simp[e];refine Wr e m 999 (λi d f h=>h=gb H o2 [sR sB d]/\f.1 1=sI b/\f.1 2=AV.nB o2/\f.1 23=sL Tm.av a0.aiJ/\f.1 24=sI (ez a0.aiJ)/\f.1 25=sI i/\bx f 3 (Tm.av a0).cells) abx (λd _ _ _ E m=>?_) (λi _ d _ _ _ _ _ E e m z p=>?_)
 ·exact aa
 refine sw [10,0,4,0] ?_;intro _ e m;refine qI m (ih abx) λd20 m=>?_;exact al
def Lb(T:eH){H:dT}{a0:Tm}{c:Int}{a2:(List (Int×Bool))}{a:(List (Int×Bool))}{o2:Nat}(b:H[o2]?=some [sR sB a2]){n:Nat}(hm:pz n a0 c a2=some a):eI prog T 328 [Tm.av a0,sI c,AV.nB o2] H (AV.tuple []) (gb H o2 [sR sB a]):=(tI T n) b hm
def Lz(T:eH){H:dT}{a0:Tm}{a:List Int}{b:Int}(hm:vp a0=some (a,b)):eI prog T 306 [Tm.av a0] H (AV.tuple [sL sI a,sI b]) H:=by
 rw[vp] at hm;refine fo.uI (Post:=λx K=>x=AV.tuple [sL sI a,sI b]/\∃X,K=H++X) ?_ (λ_ _ h=>⟨_,h.2.choose_spec,by rw[h.1];simp[AV.low,AV.iu],h.1,rfl⟩);have e:=trivial;refine wi aiN func306 [] [] 999 ?_;simp[e];refine pS hm xe λ_ m=>?_;refine Il e m λe m=>?_;simp[e];refine pS m (Lb T abx) λd2 m=>?_;simp[e];refine Ds m (z7 T abx) λ_ d4 m=>?_;exact au
@[reducible,instance] def Zw:=@Kc.mk prog 306 _ @Lz
def r5:C1 prog 276 ke (sL sI) Tm.av:=by
 refine v1 func276 λT H a0 r m e=>?_;rw[ke] at m;exact aa
@[reducible,instance] def Zk:=@Kc.mk prog 276 _ @r5
def tm{n:Nat}:C2 prog 283 (nZ n) sB Fm.av sI:=by
 refine i2 λn ih=>v2 func283 λT H a0 a r m e=>?_;rw[nZ] at m;simp[e];refine Wa e m 999 12 [1,10,11] [2] nI [11,0] ?_;intro _ _ e m;exact Wb e m 999 24 [1,22,23] [] nI
def xg{n:Nat}:C2 prog 329 (pc n) sI Fm.av sI:=by
 refine i2 λn ih=>v2 func329 λT H a0 b r m e=>?_;rw[pc] at m;simp[e];refine Wa e m 999 13 [1,11,12] [2] (λs2 f=>f.1 5=sI s2) [11,0] ?_;intro _ s2 e m;exact Wb e m 999 26 [1,24,25] [2] (λa f=>f.1 5=sI a)
@[reducible,instance] def XC:=@Kc.mk prog 329 _ @xg
def we{n:Nat}:C4 prog 330 (xR n) Fm.av Fm.av sI sI Tm.av:=by
 refine i4 λn ih=>v4 func330 λT H a0 u a2 a3 r m e=>?_;rw[xR] at m;simp[e];refine Tc e m 999 22 [1,2,20,21] [4,7,8] [34] (λs2=>s2) (λs2 c f=>bx f 9 [sI a0.aiI,sI a0.dM.aiI,sL Ty.av a0.dM.aiJ,sT c Tm.av s2,nL]) [11,0] (λv _ s2 o _ _ _ _ E e m z p=>?_) ?_
 ·have⟨c,E,i⟩:=E;refine sw [20,0,4,9,0] ?_;intro s e m;refine Ad (f:=Tm.av) s2 [s] i y5 e.2 ?_;simp[e];cases m;exact p _ _ _ ⟨(.loc 34 (o.e8 34+1)),abx,(On 34)⟩ z
 intro o s2 c i e m;refine Wr e m 999 (λq j f h=>∃a b,(h=H/\f.1 1=sI u/\f.1 2=sI a2/\f.1 38=sL Fm.av a0.aiJ/\f.1 39=sI (ez a0.aiJ)/\f.1 40=sI q/\bx f 4 (Fm.av a0).cells/\bx f 7 (Tm.av a3).cells/\bx f 8 [sI 0,sI 0,nL,nL,nL]/\bx f 9 [sI a0.aiI,sI a0.dM.aiI,sL Ty.av a0.dM.aiJ,sT a Tm.av s2,sT b Fm.av j])/\Ow f [34] a s2/\Ow f [55] b j) (by exact⟨c,.full,abx,i,hD.full⟩) (λj l _ _ E m=>?_) (λq _ j l _ _ _ _ E e m z p=>?_)
 ·have⟨a,b,E,k,d⟩:=E;exact aa
 have⟨a,b,E,k,d⟩:=E;refine sw [10,0,4,0,18,9,0] ?_;intro _ t e m;refine Ad (f:=Fm.av) j [t] d JC e.2 ?_;simp[e];cases m;exact p _ _ _ ⟨a,(.loc 55 (l.e8 55+1)),abx,(hD.other k d aak aak),(On 55)⟩ z
@[reducible,instance] def acM:=@Kc.mk prog 330 _ @we
def nX:C3 prog 307 x_ (t2 Fm.av sI) Fm.av sI Tm.av:=by
 refine u3 7 func307 λT H a0 a a2 r m e=>?_;rw[x_] at m;refine sw [0,1,0,13] ?_;intro _ e m;apply wg 3;simp[e];refine wA 999 0 [] [3,5,6] (λf=>f.1 1=sI a/\f.1 21=sB (e_ (sx a 0) true (o0 a 4096))) [13] (λ_ g=>?_) ?_
 ·rcases Pb (sx a 0) e with e|e
  ·exact aj
  exact aj
 intro _ e m;refine sg 7 [0,1,0,13] ?_;intro _ e m;apply wg 3;simp[e];refine WA m 999 999 [] [3,5,6] (λb f=>f.1 1=sI a/\f.1 36=sB b) [] (λc _ g m=>?_) ?_
 ·simp[e];refine pS m tm λ_ m=>?_;apply Ir e m<;>intro e m
  ·exact iO
  simp[e];refine pS m qO λ_ m=>?_;exact iO
 intro _ b e m;exact aa
@[reducible,instance] def Z':=@Kc.mk prog 307 _ @nX
def tQ:C2 prog 277 jq (t2 Fm.av sI) Fm.av Tm.av:=by
 refine v2 func277 λT H a0 a r m e=>?_;rw[jq] at m;exact aa
@[reducible,instance] def aaj:=@Kc.mk prog 277 _ @tQ
def wS{n:Nat}:C2 prog 308 (u_ n) sB Tm.av sI:=by
 refine i2 λn ih=>u2 3 func308 λT H a0 a r m e=>?_;rw[u_] at m;simp[e];refine wA 999 999 [1] [2] (λf=>f.1 15=sB (e_ (ei a0.aiI 1) (ei a0.aiL a) false)) [7,0] (λ_ g=>?_) ?_
 ·exact aa
 intro _ e m;exact Wb e m 999 19 [1,17,18] [2] nI
@[reducible,instance] def Z3:=@Kc.mk prog 308 _ @wS
def AS{n:Nat}:C2 prog 279 (p8 n) sB Fm.av sI:=by
 refine i2 λn ih=>v2 func279 λT H a0 a r m e=>?_;rw[p8] at m;simp[e];refine Wa e m 999 12 [1,10,11] [2] nI [11,0] ?_;intro _ _ e m;exact Wb e m 999 23 [1,21,22] [2] nI
@[reducible,instance] def ZV:=@Kc.mk prog 279 _ @AS
def pd{n:Nat}:C1 prog 280 (mY n) (t2 Fm.av sI) Fm.av:=by
 refine i1 λn ih=>v1 func280 λT H a0 r m e=>?_;rw[mY] at m;simp[e];refine Tc e m 999 22 [20,21] [1,2] [40] (λs2=>s2) (λs2 c f=>bx f 4 [sI a0.aiI,sI a0.dM.aiI,sL Ty.av a0.dM.aiJ,sT c Tm.av s2,nL]) [11,0] (λu _ s2 o _ _ _ _ E e m z p=>?_) ?_
 ·have⟨c,E,i⟩:=E;refine sw [20,0,3,7,9,0] ?_;intro s _ _ e m;refine Ao (f:=Tm.av) s2 [s] i y5 e.2 ?_;simp[e];cases m;exact p _ _ _ ⟨(.loc 40 (o.e8 40+1)),abx,(On 40)⟩ z
 intro o s2 c i e m;refine Wr e m 999 (λq j f h=>∃a b,(h=H/\f.1 44=sL Fm.av a0.aiJ/\f.1 45=sI (ez a0.aiJ)/\f.1 46=sI q/\bx f 2 [sI 0,sI 0,nL,nL,nL]/\bx f 4 [sI a0.aiI,sI a0.dM.aiI,sL Ty.av a0.dM.aiJ,sT a Tm.av s2,sT b Fm.av j])/\Ow f [40] a s2/\Ow f [63] b j) (by exact⟨c,.full,abx,i,hD.full⟩) (λj l _ _ E m=>?_) (λq _ j l _ _ _ _ E e m z p=>?_)
 ·have⟨a,b,E,k,d⟩:=E;exact aa
 have⟨a,b,E,k,d⟩:=E;refine sw [10,0,16,7,9,0] ?_;intro t _ e m;refine Ao (f:=Fm.av) j [t] d JC e.2 ?_;simp[e];cases m;exact p _ _ _ ⟨a,(.loc 63 (l.e8 63+1)),abx,(hD.other k d aak aak),(On 63)⟩ z
@[reducible,instance] def V9:=@Kc.mk prog 280 _ @pd
def oN:C3 prog 215 gX sI dP.av Tm.av sI:=by
 refine v3 func215 λT H a0 a a2 r m e=>?_;rw[gX] at m;exact aa
@[reducible,instance] def Mn:=@Kc.mk prog 215 _ @oN
def HK:C2 prog 214 yg Fm.av Tm.av Tm.av:=by
 refine v2 func214 λT H a0 c r m e=>?_;rw[yg] at m;refine sw [0,4,0,4] ?_;intro a b e m;have e:=Aj e (show AV.agg [sI 1,sI 0,AV.slice .gx [],AV.slice .gx [Tm.av a,Tm.av b],AV.slice .gx []]=Fm.av (Fm.mk 1 (Ty.mk 0 []) [a,b] []) by rw[Fm.eO];rfl);exact au
def kC{n:Nat}:C1 prog 150 (jt n) sB Fm.av:=by
 refine i1 λn ih=>u1 8 func150 λT H a0 r m e=>?_;rw[jt] at m;refine sw [0,13] ?_;intro e m;refine sg 3 [0,14] ?_;intro e m;apply wg 1;simp[e];refine WB m 999 999 [] [] (λv4 f=>f.1 2=sB v4) λb _ g m=>?_;refine sw [8,0,15] ?_;intro c _ e m;apply Iq e m<;>intro e m
 ·exact iO
 refine sw [8,0,15] ?_;intro a _ e m;exact iO
@[reducible,instance] def TI:=@Kc.mk prog 150 _ @kC
def zg:C1 prog 113 ns (t2 sB sI) Fm.av:=by
 refine v1 func113 λT H a0 r m e=>?_;rw[ns] at m;exact aa
@[reducible,instance] def Ti:=@Kc.mk prog 113 _ @zg
def dL:∀(n:Nat),C2 prog 110 (ej n) (t2 su.av sI) dP.av Pf.av/\C2 prog 148 (ee n) (t3 Fm.av (sL sI) sI) dP.av Pf.av/\C2 prog 208 (mQ n) (t3 Fm.av (sL sI) sI) dP.av Pf.av/\C2 prog 209 (nK n) (t3 Fm.av (sL sI) sI) dP.av Pf.av/\C2 prog 210 (nT n) (t3 Fm.av (sL sI) sI) dP.av Pf.av/\C2 prog 211 (mb n) (t3 Fm.av (sL sI) sI) dP.av Pf.av/\C2 prog 212 (oR n) (t3 Fm.av (sL sI) sI) dP.av Pf.av/\C2 prog 213 (nF n) (t3 Fm.av (sL sI) sI) dP.av Pf.av/\C2 prog 216 (nD n) (t3 Fm.av (sL sI) sI) dP.av Pf.av/\C2 prog 217 (m6 n) (t3 Fm.av (sL sI) sI) dP.av Pf.av/\C4 prog 278 (eS n) (t2 (sL sI) sI) dP.av Pf.av Fm.av Tm.av:=by
  intro n
  induction n with
  |zero=>
    refine⟨?_,?_,?_,?_,?_,?_,?_,?_,?_,?_,?_⟩
    all_goals(intro _ _;intros;rename_i hm;cases hm)
  |succ n ih=>
 refine⟨?_,?_,?_,?_,?_,?_,?_,?_,?_,?_,?_⟩
 ·intro T H a0 a r hm;rw[ej] at hm;have e:=trivial;refine wi aiN func110 [] [] 7 ?_;simp[e];refine RO hm ih.2.1 λL _ _ m=>?_;refine sw [0,13] ?_;intro e m;refine sg 5 [0,1,0,13] ?_;intro I e m;apply wg 2;simp[e];refine CP m 999 999 (λM f h=>∃v6 d,(h=H/\f.1 7=sT d sI v6/\bx f 4 [sI 0,sI 0,nL,nL,nL,nL]/\bx f 6 (Fm.av L).cells)/\M v6=some r) ?_ (λM _ g m=>?_)
  ·rintro _ _ ⟨v6,d,E,m⟩;exact aa
  refine sw [0,2] ?_;intro _ x e m;apply Iq e m<;>intro e m
  ·simp[e];exact g _ _ ⟨_,.gx,abx,m⟩
  simp[e];exact g _ _ ⟨_,.full,abx,m⟩
 ·intro T H a0 a r hm;rw[ee] at hm;have e:=trivial;refine wi aiN func148 [] [] 10 ?_;have m:=hm;refine sw [0,13] ?_;intro e m;refine sg 3 [0,13] ?_;intro e m;apply wg 3;simp[e];apply Iq e m<;>intro e m
  ·refine sg 999 [8,0] ?_;intro X e m;refine tq m ih.1 λ_ _ m=>?_;refine sw [7,8,0] ?_;intro Y e m;refine tq m ih.1 λ_ _ m=>?_;simp[e];refine qI m Av λ_ m=>?_;simp[e];refine qI m (j4 T) λ_ m=>?_;exact au
  apply wg 1;simp[e];refine wj 999 0 (λf h=>h=H/\f.1 22=sI a.aiI/\f.1 93=sB (e_ (ei a.aiI 4) true (ei a.aiI 5))/\bx f 2 (dP.av a0).cells/\bx f 3 (Pf.av a).cells/\bx f 4 [sI 0,sI 0,nL,nL,nL]/\bx f 7 [sI 0,sI 0,nL,nL,nL]) (λ_ g=>?_) ?_
  ·rcases Pb (ei a.aiI 4) e with e|e
   ·exact aj
   exact aj
  rintro _ _ E;have e:=Aj e E;apply Iq e m<;>intro e m
  ·refine sg 999 [8,0] ?_;intro Z e m;refine tq m ih.1 λ_ _ m=>?_;refine sw [7,7,8] ?_;intro ad e m;exact au
  apply wg 3;simp[e];apply Iq e m<;>intro e m
  ·refine sg 999 [8,0] ?_;intro ae e m;refine qI m xj λ_ m=>?_;refine sw [7,0] ?_;intro e m;refine pS m jT λ_ m=>?_;refine sw [7,0] ?_;intro e m;refine qI m la λ_ m=>?_;refine sw [8,0] ?_;intro af e m;refine tq m ih.1 λ_ _ m=>?_;simp[e];refine qI m Av λ_ m=>?_;exact au
  apply wg 3;simp[e];apply Iq e m<;>intro e m
  ·refine sg 999 [8,0] ?_;intro ah e m;refine tq m ih.1 λ_ _ m=>?_;refine sw [7,7,8,0] ?_;intro ai e m;refine tq m ih.1 λ_ _ m=>?_;refine sw [7,8,0] ?_;intro ak e m;refine qI m (j4 T) λ_ m=>?_;refine sw [8,0] ?_;intro an e m;refine qI m xq λ_ m=>?_;exact au
  apply wg 1;simp[e];refine wj 999 0 (λf h=>h=H/\f.1 22=sI a.aiI/\f.1 218=sB (e_ (ei a.aiI 8) true (ei a.aiI 12))/\bx f 2 (dP.av a0).cells/\bx f 3 (Pf.av a).cells/\bx f 4 [sI 0,sI 0,nL,nL,nL]) (λ_ g=>?_) ?_
  ·rcases Pb (ei a.aiI 8) e with e|e
   ·exact aj
   exact aj
  rintro _ _ E;have e:=Aj e E;apply Iq e m<;>intro e m
  ·apply wg 999;simp[e];refine RO m ih.2.2.1 λ_ _ _ m=>?_;exact au
  apply wg 1;simp[e];refine wj 999 0 (λf h=>h=H/\f.1 22=sI a.aiI/\f.1 227=sB (e_ (ei a.aiI 9) true (ei a.aiI 13))/\bx f 2 (dP.av a0).cells/\bx f 3 (Pf.av a).cells/\bx f 4 [sI 0,sI 0,nL,nL,nL]) (λ_ g=>?_) ?_
  ·rcases Pb (ei a.aiI 9) e with e|e
   ·exact aj
   exact aj
  rintro _ _ E;have e:=Aj e E;apply Iq e m<;>intro e m
  ·apply wg 999;simp[e];refine RO m ih.2.2.2.1 λ_ _ _ m=>?_;exact au
  apply wg 1;simp[e];refine wj 999 0 (λf h=>h=H/\f.1 22=sI a.aiI/\f.1 236=sB (e_ (ei a.aiI 10) true (ei a.aiI 14))/\bx f 2 (dP.av a0).cells/\bx f 3 (Pf.av a).cells/\bx f 4 [sI 0,sI 0,nL,nL,nL]) (λ_ g=>?_) ?_
  ·rcases Pb (ei a.aiI 10) e with e|e
   ·exact aj
   exact aj
  rintro _ _ E;have e:=Aj e E;apply Iq e m<;>intro e m
  ·apply wg 999;simp[e];refine RO m ih.2.2.2.2.1 λ_ _ _ m=>?_;exact au
  apply wg 1;simp[e];refine wj 999 999 (λf h=>h=H/\f.1 22=sI a.aiI/\f.1 245=sB (e_ (ei a.aiI 11) true (ei a.aiI 15))/\bx f 2 (dP.av a0).cells/\bx f 3 (Pf.av a).cells/\bx f 4 [sI 0,sI 0,nL,nL,nL]) (λ_ g=>?_) ?_
  ·rcases Pb (ei a.aiI 11) e with e|e
   ·exact aj
   exact aj
  rintro _ _ E;have e:=Aj e E;apply Iq e m<;>intro e m
  ·simp[e];refine RO m ih.2.2.2.2.2.1 λ_ _ _ m=>?_;exact au
  apply Iq e m<;>intro e m
  ·simp[e];refine RO m ih.2.2.2.2.2.2.1 λ_ _ _ m=>?_;exact au
  apply Iq e m<;>intro e m
  ·simp[e];refine RO m ih.2.2.2.2.2.2.2.1 λ_ _ _ m=>?_;exact au
  apply Iq e m<;>intro e m
  ·refine sw [8,0] ?_;intro ao e m;refine qI m HK λ_ m=>?_;simp[e];refine qI m oN λ_ m=>?_;exact au
  apply Iq e m<;>intro e m
  ·simp[e];refine RO m ih.2.2.2.2.2.2.2.2.1 λ_ _ _ m=>?_;exact au
  simp[e];refine RO m ih.2.2.2.2.2.2.2.2.2.1 λ_ _ _ m=>?_;exact au
 ·intro T H a0 a r hm;rw[mQ] at hm;have e:=trivial;refine wi aiN func208 [] [] 999 ?_;have m:=hm;refine sw [0,1,7,0,4,8,0] ?_;intro _ _ x e m;refine tq m ih.1 λ_ _ m=>?_;refine Il e m λe m=>?_;apply Iq e m<;>intro e m
  ·refine sw [0,4,0,4] ?_;intro y A e m;exact au
  exact aa
 ·intro T H a0 a r hm;rw[nK] at hm;have e:=trivial;refine wi aiN func209 [] [] 9 ?_;have m:=hm;refine sw [8,0,2,0,13] ?_;intro J aq _ e m;refine sg 7 [8,0] ?_;intro x6 e m;refine tq m ih.1 λK _ m=>?_;refine sw [0,13] ?_;intro e m;refine sg 4 [0,4,0,4,0] ?_;intro _ B e m;refine wA 999 999 [] [4,7,8,10] (λf=>f.1 11=sI (e_ (ei a.aiI 13) 6 4)/\f.1 12=sL sI (e_ (ei a.aiI 13) K.jG B)) [] (λ_ g=>?_) ?_
  ·rcases Pb (ei a.aiI 13) e with e|e
   ·exact aj
   exact aj
  intro _ e m;exact aa
 ·intro T H a0 a r hm;rw[nT] at hm;have e:=trivial;refine wi aiN func210 [] [] 9 ?_;have m:=hm;refine sw [8,8,0,1,0,13] ?_;intro q I _ e m;apply wg 4;simp[e];refine wA 999 3 [] [2,3,4,7,8] (λf=>f.1 10=sI (e_ (ei a.aiI 14) 7 5)) [0,13] (λ_ g=>?_) ?_
  ·rcases Pb (ei a.aiI 14) e with e|e
   ·exact aj
   exact aj
  intro _ e m;refine sg 7 [0,2,0,13] ?_;intro _ x e m;refine sg 5 [0,1,0,14] ?_;intro s e m;refine sg 4 [8,8,0] ?_;intro l y e m;refine tq m ih.2.2.2.2.2.2.2.2.2.2 λA N m=>?_;simp[e];refine WB m 999 999 [12] [4,7] (λC f=>f.1 13=sL sI C) λO _ g m=>?_;apply Ir e m<;>intro e m
  ·exact iO
  simp[e];refine pS m r5 λ_ m=>?_;simp[e];refine pS m (j4 T) λ_ m=>?_;exact iO
 ·intro T H a0 a r hm;rw[mb] at hm;have e:=trivial;refine wi aiN func211 [] [] 7 ?_;have⟨F,e,m⟩:=MX e hm;simp[e];refine tq m ih.1 λb _ m=>?_;refine sw [0,13] ?_;intro e m;apply wg 4;simp[e];refine wA 999 3 [] [2,3,4,7] (λf=>f.1 9=sI (e_ (ei a.aiI 15) 7 5)) [0,13] (λ_ g=>?_) ?_
  ·rcases Pb (ei a.aiI 15) e with e|e
   ·exact aj
   exact aj
  intro _ e m;refine sg 7 [0,1,0,13] ?_;intro _ e m;refine sg 7 [0,4,8,0,4,8,0] ?_;intro y A _ P e m;refine tq m ih.1 λc _ m=>?_;refine sw [0,13] ?_;intro e m;apply wg 4;simp[e];refine Wj m 999 1 (λt f h=>∃i v127 j k v130,(h=H/\f.1 9=sI (e_ (ei a.aiI 15) 7 5)/\bx f 4 [sI 0,sI 0,nL,nL,nL]/\bx f 7 [sI b.dW.aiI,sI b.dW.dM.aiI,sL Ty.av b.dW.dM.aiJ,sL Tm.av b.dW.ef,sL Fm.av b.dW.aiJ,sL sI b.jG]/\bx f 11 [sI c.dW.aiI,sI c.dW.dM.aiI,sL Ty.av c.dW.dM.aiJ,sL Tm.av c.dW.ef,sL Fm.av c.dW.aiJ,sL sI c.jG]/\bx f 12 [sI i,sI v127,sL Ty.av j,sL Tm.av k,sL Fm.av v130])/\t i v127 j k v130=some r) (λt _ g m=>?_) ?_
  ·refine sw [0,1] ?_;intro _ e m;apply Ir e m<;>intro e m
   ·simp[e];exact g _ _ ⟨_,_,_,_,_,abx,m⟩
   refine sw [0,2,7,0,1,7] ?_;intro _ _ _ e m;simp[e];exact g _ _ ⟨_,_,_,_,_,abx,m⟩
  rintro _ _ ⟨i,v127,j,k,v130,E,m⟩;have e:=Aj e E;simp[e];refine Wj m 999 999 (λu f h=>∃v139,(h=H/\f.1 87=sB v139/\bx f 4 [sI 0,sI 0,nL,nL,nL]/\bx f 7 [sI b.dW.aiI,sI b.dW.dM.aiI,sL Ty.av b.dW.dM.aiJ,sL Tm.av b.dW.ef,sL Fm.av b.dW.aiJ,sL sI b.jG]/\bx f 11 [sI c.dW.aiI,sI c.dW.dM.aiI,sL Ty.av c.dW.dM.aiJ,sL Tm.av c.dW.ef,sL Fm.av c.dW.aiJ,sL sI c.jG]/\bx f 12 [sI i,sI v127,sL Ty.av j,sL Tm.av k,sL Fm.av v130])/\u v139=some r) (λu _ g m=>?_) ?_
  ·apply Ir e m<;>intro e m
   ·exact iO
   simp[e];refine pS m zL λ_ m=>?_;exact iO
  rintro _ _ ⟨v139,E,m⟩;refine sw [10,7,0] ?_;intro e m;refine qI m oc λ_ m=>?_;simp[e];refine qI m mI λ_ m=>?_;simp[e];refine qI m (j4 T) λ_ m=>?_;exact au
 ·intro T H a0 a r hm;rw[oR] at hm;have e:=trivial;refine wi aiN func212 [] [] 999 ?_;have m:=hm;refine sw [8,8,0,4,9,0] ?_;intro q I o e m;refine Ad (f:=Ty.av) a0.aiM [o] (hD.full (D:=[])) FG e.2 ?_;refine sw [0,4,7,0,1,7,8,0,4,0] ?_;intro _ l v w e m;refine tq m ih.2.2.2.2.2.2.2.2.2.2 λ_ _ m=>?_;refine sw [7,0] ?_;intro e m;refine pS m jT λ_ m=>?_;refine sw [7,0] ?_;intro e m;refine qI m AL λ_ m=>?_;simp[e];refine qI m jr λ_ m=>?_;simp[e];refine qI m la λ_ m=>?_;refine sw [8,0] ?_;intro Q e m;refine qI m oc λ_ m=>?_;simp[e];refine qI m wQ λ_ m=>?_;simp[e];refine qI m xJ λ_ m=>?_;simp[e];refine tq m ih.2.2.2.2.2.2.2.2.2.2 λ_ _ m=>?_;refine sw [7,0] ?_;intro e m;refine Ds m tQ λ_ _ m=>?_;simp[e];refine qI m r5 λ_ m=>?_;simp[e];refine qI m (j4 T) λ_ m=>?_;simp[e];refine qI m mI λ_ m=>?_;simp[e];refine qI m (j4 T) λ_ m=>?_;exact au
 ·intro T H a0 a r hm;rw[nF] at hm;have e:=trivial;refine wi aiN func213 [] [] 999 ?_;have m:=hm;refine sw [8,8,0,4,9,0] ?_;intro q I o e m;refine Ad (f:=Ty.av) a0.aiM [o] (hD.full (D:=[])) FG e.2 ?_;refine sw [0,4,7,0,1,7,8,0,4,0] ?_;intro _ l v w e m;refine tq m ih.2.2.2.2.2.2.2.2.2.2 λ_ _ m=>?_;refine sw [7,0] ?_;intro e m;refine pS m jT λ_ m=>?_;refine sw [7,0] ?_;intro e m;refine qI m AL λ_ m=>?_;simp[e];refine qI m Dp λ_ m=>?_;simp[e];refine qI m jr λ_ m=>?_;simp[e];refine qI m oc λ_ m=>?_;simp[e];refine qI m la λ_ m=>?_;refine sw [8,0] ?_;intro R e m;refine qI m oc λ_ m=>?_;simp[e];refine qI m wQ λ_ m=>?_;simp[e];refine qI m wQ λ_ m=>?_;simp[e];refine qI m xJ λ_ m=>?_;simp[e];refine tq m ih.2.2.2.2.2.2.2.2.2.2 λ_ _ m=>?_;refine sw [7,0] ?_;intro e m;refine Ds m tQ λ_ _ m=>?_;simp[e];refine qI m r5 λ_ m=>?_;simp[e];refine qI m (j4 T) λ_ m=>?_;simp[e];refine qI m mI λ_ m=>?_;simp[e];refine qI m (j4 T) λ_ m=>?_;exact au
 ·intro T H a0 a r hm;rw[nD] at hm;have e:=trivial;refine wi aiN func216 [] [] 999 ?_;have m:=hm;refine sw [8,0,4,9,0] ?_;intro J s e m;refine Ad (f:=Ty.av) a0.aiM [s] (hD.full (D:=[])) FG e.2 ?_;refine sw [0,4,7,8,0] ?_;intro _ S e m;refine tq m ih.1 λ_ l m=>?_;refine sw [7,7,8,8,0] ?_;intro v w e m;refine tq m ih.2.2.2.2.2.2.2.2.2.2 λ_ _ m=>?_;refine sw [7,8,0] ?_;intro U e m;refine tq m tQ λ_ _ m=>?_;exact au
 ·intro T H a0 a r hm;rw[m6] at hm;have e:=trivial;refine wi aiN func217 [] [] 7 ?_;have⟨F,e,m⟩:=MX e hm;simp[e];refine tq m ih.1 λb _ m=>?_;refine sw [0,13] ?_;intro e m;apply wg 3;simp[e];refine WA m 999 999 [] [4,7] (λG f=>f.1 38=sB G) [] (λV _ g m=>?_) ?_
  ·apply Iq e m<;>intro e m
   ·exact iO
   have⟨W,e,m⟩:=MX e m;exact iO
  intro _ G e m;exact aa
 ·intro T H a0 a a2 a3 r hm;rw[eS] at hm;have e:=trivial;refine wi aiN func278 [] [] 999 ?_;simp[e];refine Ds hm ih.1 λ_ L m=>?_;exact aa
def zz{n:Nat}:C2 prog 110 (ej n) (t2 su.av sI) dP.av Pf.av:=(dL n).1
@[reducible,instance] def Mr:=@Kc.mk prog 110 _ @zz
def Cc:C3 prog 71 kz (t2 su.av sI) (sL Fm.av) Sq.av Pf.av:=by
 refine v3 func71 λT H a0 b a2 r m e=>?_;rw[kz] at m;refine sw [0,1,7,0,1,7,0,2,7,0,4,9,0] ?_;intro _ _ a _ _ e m;refine Ad (f:=sI) [] a.jG (hD.full (D:=[])) GX e.2 ?_;exact au
@[reducible,instance] def Xr:=@Kc.mk prog 71 _ @Cc
def rK:C1 prog 73 jd sB Fm.av:=by
 refine v1 func73 λT H a0 r m e=>?_;rw[jd] at m;exact aa
@[reducible,instance] def aaT:=@Kc.mk prog 73 _ @rK
def Lt:C0 prog 218 C6 Ty.av:=by
 refine v0 func218 λT H r m e=>?_;rw[C6] at m;exact au
@[reducible,instance] def XY:=@Kc.mk prog 218 _ @Lt
def L3:C2 prog 220 yp Ty.av Ty.av Ty.av:=by
 refine v2 func220 λT H a0 a r m e=>?_;rw[yp] at m;have e:=Aj e (show AV.agg [sI 3,AV.slice .gx [Ty.av a0,Ty.av a]]=Ty.av (Ty.mk 3 [a0,a]) by rw[Ty.eO];rfl);exact au
@[reducible,instance] def Y_:=@Kc.mk prog 220 _ @L3
def Ea:C1 prog 282 Dc (t2 sI sI) Ty.av:=by
 refine v1 func282 λT H a0 r m e=>?_;rw[Dc] at m;exact aa
@[reducible,instance] def YE:=@Kc.mk prog 282 _ @Ea
def Dz:C2 prog 219 tj (t2 Ty.av sI) Ty.av sI:=by
 refine v2 func219 λT H a0 a r m e=>?_;rw[tj] at m;exact aa
@[reducible,instance] def YF:=@Kc.mk prog 219 _ @Dz
def N0:C2 prog 221 Bw Ty.av Ty.av Ty.av:=by
 refine v2 func221 λT H a0 a r m e=>?_;rw[Bw] at m;have e:=Aj e (show AV.agg [sI 4,AV.slice .gx [Ty.av a0,Ty.av a]]=Ty.av (Ty.mk 4 [a0,a]) by rw[Ty.eO];rfl);exact au
@[reducible,instance] def Z4:=@Kc.mk prog 221 _ @N0
def Jl{n:Nat}:C1 prog 149 (nU n) (t2 Ty.av sI) Fm.av:=by
 refine i1 λn ih=>v1 func149 λT H a0 r m e=>?_;rw[nU] at m;exact aa
@[reducible,instance] def abF:=@Kc.mk prog 149 _ @Jl
def DT:C1 prog 112 py (t2 Ty.av sI) Fm.av:=by
 refine v1 func112 λT H a0 r m e=>?_;rw[py] at m;exact aa
@[reducible,instance] def Zn:=@Kc.mk prog 112 _ @DT
def vw:C2 prog 72 yS sI (sL Fm.av) (sL Tm.av):=by
 refine v2 func72 λT H a0 a r m e=>?_;rw[yS] at m;refine sw [7,0] ?_;intro e m;refine Wn m 999 (λs1 f h=>h=H/\f.1 0=sL Fm.av a0/\f.1 1=sL Tm.av a/\f.1 5=sI s1) abx (λs1 _ _ _ _ _ E m z p=>?_);have e:=Aj e E;apply Ir e m<;>intro e m
 ·cases m;have m:=Qb z
  try dsimp only at m
  exact au
 exact aa
@[reducible,instance] def Wl:=@Kc.mk prog 72 _ @vw
def zB(T:eH){H:dT}{a0:dU}{f:Int}{a:dU}{c:Nat}(b:H[c]?=some [sL Fm.av a0.lemmas,sL Tm.av a0.ef,sI a0.next])(hm:fG a0=some (f,a)):eI prog T 114 [AV.eT c 0] H (sI f) (gb H c [sL Fm.av a.lemmas,sL Tm.av a.ef,sI a.next]):=by
 rw[fG] at hm;have d:=eK b;refine fo.Jr b ?_;have e:=d;refine wi aiN func114 [] [] 999 ?_;cases hm;simp[e]
@[reducible,instance] def Mq:=@Kc.mk prog 114 _ @zB
def jo(T:eH){H:dT}{a0:dU}{w:Sq}{r0:en}{r1:List Int}{C:dU}{F:Nat}(O:H[F]?=some [sL Fm.av a0.lemmas,sL Tm.av a0.ef,sI a0.next])(hm:qp a0 w=some (r0,r1,C)):eI prog T 74 [AV.eT F 0,Sq.av w] H (AV.tuple [en.av r0,sL sI r1]) (gb H F [sL Fm.av C.lemmas,sL Tm.av C.ef,sI C.next]):=by
 rw[qp] at hm;have U:=eK O;refine fo.Jr O ?_;have e:=U;refine wi aiN func74 [] [] 999 ?_;simp[e];refine Wn hm 999 (λs1 f h=>∃l n,(h=gb H F [sL Fm.av s1.2.2.2.lemmas,sL Tm.av s1.2.2.2.ef,sI s1.2.2.2.next]/\f.1 0=AV.eT F 0/\f.1 7=sT l sI s1.1/\f.1 8=sI s1.2.1/\bx f 3 (Sq.av w).cells/\bx f 4 [nL,nL,nL,nL]/\bx f 6 [sL Ty.av w.aiM,sL Fm.av w.aiP,sT n Tm.av s1.2.2.1,nL])/\Ow f [24] l s1.1/\Ow f [33] n s1.2.2.1) (by exact⟨.full,.full,abx,hD.full,hD.full⟩) (λs1 P _ _ _ _ E m z p=>?_);have⟨v9,v10,v11,v12⟩:=s1;have⟨l,n,E,t,x⟩:=E;have e:=Aj e E;dsimp only[E2]at m;apply Iq e m<;>intro e m
 ·refine sw [0,2,9,0] ?_;intro V d14 e m;refine Ao (f:=sI) v9 [V] t GX e.2 ?_;refine sw [8,0,4,9,0] ?_;intro ad W e m;refine Ad (f:=Tm.av) v11 [W] (hD.other x t aak aak) y5 e.2 ?_;simp[e];cases m;exact p _ _ _ ⟨(.loc 24 (P.e8 24+1)),(.loc 33 (P.e8 33+1)),abx,(hD.other (hD.new (D:=[24]) (d:=24) aak) (hD.other x t aak aak) aak aak),(On 33)⟩ z
 cases m;have m:=Qb z;dsimp only[E2]at m;simp[e];refine Wn m 3 (λk f h=>∃c a b,(h=gb H F [sL Fm.av k.2.2.2.lemmas,sL Tm.av k.2.2.2.ef,sI k.2.2.2.next]/\f.1 0=AV.eT F 0/\f.1 7=sT c sI k.1/\f.1 9=sI k.2.1/\bx f 3 (Sq.av w).cells/\bx f 4 [nL,nL,nL,nL]/\bx f 6 [sL Ty.av w.aiM,sL Fm.av w.aiP,sT a Tm.av v11,sT b Tm.av k.2.2.1])/\Ow f [24,56] c k.1/\Ow f [33] a v11/\Ow f [61] b k.2.2.1) (by exact⟨l,n,.full,abx,(Om t),x,hD.full⟩) (λk Q _ _ _ X E m z p=>?_);have⟨v24,Y,L,Z⟩:=k;have⟨c,a,b,E,o,y,A⟩:=E;have e:=Aj e E;dsimp only[E2]at m;simp[e];apply Ir e m<;>intro e m
 ·apply wg 999;cases m;have m:=Qb z;dsimp only[E2]at m;exact au
 apply wg 6;simp[e];refine CP m 999 999 (λR f h=>∃G v30 v31 I J K B i j q u v,(h=gb H F [sL Fm.av B.lemmas,sL Tm.av B.ef,sI B.next]/\f.1 0=AV.eT F 0/\f.1 7=sT i sI G/\f.1 9=sI Y/\bx f 3 (Sq.av w).cells/\bx f 4 [nL,nL,nL,nL]/\bx f 6 [sL Ty.av w.aiM,sL Fm.av w.aiP,sT j Tm.av v11,sT q Tm.av L]/\bx f 10 [sI v30,sI v31,sI I,sT u Ty.av J,sT v Tm.av K])/\Ow f [24,56] i G/\Ow f [33] j v11/\Ow f [61] q L/\R G v30 v31 I J K B=some X) ?_ (λR _ g m=>?_)
 ·rintro S _ ⟨G,v30,v31,I,J,K,B,i,j,q,u,v,E,M,N,r,m⟩;refine sw [10,9,0] ?_;intro e m;refine Ao (f:=Tm.av) L [(Tm.mk v30 v31 (Ty.mk I J) K)] r y5 e.2 ?_;simp[e];cases m;exact p _ _ _ ⟨i,j,(.loc 61 (S.e8 61+1)),abx,(hD.other M r aak aak),(hD.other N r aak aak),(On 61)⟩ z
 refine sw [8,0,1] ?_;intro ae _ e m;apply Ir e m<;>intro e m
 ·simp[e];exact g _ _ ⟨v24,0,0,0,[],[],Z,c,a,b,.full,.full,abx,o,y,A,m⟩
 refine sw [0,2,0,1,9,0] ?_;intro _ d42 s e m;refine Ao (f:=sI) v24 [s.aiL] o GX e.2 ?_;simp[e];exact g _ _ ⟨(fT v24 [s.aiL]),s.aiI,s.aiL,s.dM.aiI,s.dM.aiJ,s.aiJ,d42,(.loc 56 (Q.e8 56+1)),a,b,.gx,.gx,abx,(On 56),(hD.other y o aak aak),(hD.other A o aak aak),m⟩
@[reducible,instance] def Mu:=@Kc.mk prog 74 _ @jo
def yY:C2 prog 222 vz (sL Tm.av) (sL Tm.av) Tm.av:=by
 refine v2 func222 λT H a0 a r m e=>?_;rw[vz] at m;refine sw [9,0] ?_;intro e m;refine Ad (f:=Tm.av) [] a0 (hD.full (D:=[])) y5 e.2 ?_;refine sw [9,0] ?_;intro e m;refine Ad (f:=Tm.av) (fT [] a0) [a] (hD.new (D:=[6]) (d:=6) aak) y5 e.2 ?_;exact au
@[reducible,instance] def Y':=@Kc.mk prog 222 _ @yY
def jm(T:eH):∀(n:Nat),(∀{H:dT} {a0:dU} {b:Tm} {a2:List Tm} {o:Tm} {c:dU} {k:Nat} (i:H[k]?=some [sL Fm.av a0.lemmas,sL Tm.av a0.ef,sI a0.next]) (hm:gR n a0 b a2=some (o,c)),eI prog T 151 [AV.eT k 0,Tm.av b,sL Tm.av a2] H (Tm.av o) (gb H k [sL Fm.av c.lemmas,sL Tm.av c.ef,sI c.next])):=by
  intro n
  induction n with
  |zero=>
   skip
   all_goals(intro _ _;intros;rename_i hm;cases hm)
  |succ n ih=>
 intro H a0 b a2 o c k i hm;rw[gR] at hm;have q:=eK i;refine fo.Jr i ?_;have e:=q;refine wi aiN func151 [] [] 999 ?_;have m:=hm;refine sw [13] ?_;intro e m;apply Iq e m<;>intro e m
 ·refine sw [0,2,8,0,4,0,4,0] ?_;intro t d3 y _ _ e m;refine tq m (ih abx) λu d8 m=>?_;have e:=Aj e (show AV.agg [sI b.aiI,sI t,sI b.dM.aiI,sL Ty.av b.dM.aiJ,AV.slice .gx [Tm.av u]]=Tm.av (Tm.mk b.aiI t b.dM [u]) by rw[Tm.eO];rfl);exact au
 simp[e];refine Wn m 999 (λd f h=>∃a,(h=gb H k [sL Fm.av d.2.2.lemmas,sL Tm.av d.2.2.ef,sI d.2.2.next]/\f.1 0=AV.eT k 0/\f.1 2=sL Tm.av a2/\f.1 8=sI d.1/\bx f 4 (Tm.av b).cells/\bx f 6 [sI 0,sI 0,sI 0,nL,nL]/\bx f 7 [sI b.aiI,sI 0,sI b.dM.aiI,sL Ty.av b.dM.aiJ,sT a Tm.av d.2.1])/\Ow f [64] a d.2.1) (by exact⟨.full,abx,hD.full⟩) (λd l _ _ _ _ E m z p=>?_);have⟨v,r,w⟩:=d;have⟨a,E,j⟩:=E;have e:=Aj e E;dsimp only[FJ]at m;apply Ir e m<;>intro e m
 ·cases m;have m:=Qb z;dsimp only[FJ]at m;exact au
 refine sw [8,0] ?_;intro x e m;refine tq m (ih abx) λs d22 m=>?_;refine sw [9,0] ?_;intro e m;refine Ad (f:=Tm.av) r [s] j y5 e.2 ?_;simp[e];cases m;exact p _ _ _ ⟨(.loc 64 (l.e8 64+1)),abx,(On 64)⟩ z
def Ap(T:eH){H:dT}{a0:dU}{d:Tm}{a2:List Tm}{f:Tm}{a:dU}{b:Nat}(c:H[b]?=some [sL Fm.av a0.lemmas,sL Tm.av a0.ef,sI a0.next]){n:Nat}(hm:gR n a0 d a2=some (f,a)):eI prog T 151 [AV.eT b 0,Tm.av d,sL Tm.av a2] H (Tm.av f) (gb H b [sL Fm.av a.lemmas,sL Tm.av a.ef,sI a.next]):=(jm T n) c hm
@[reducible,instance] def ND:=@Kc.mk prog 151 _ @Ap
def rA(T:eH){H:dT}{a0:dU}{f:en}{a2:Pf}{h:Fm}{a:dU}{c:Nat}(b:H[c]?=some [sL Fm.av a0.lemmas,sL Tm.av a0.ef,sI a0.next])(hm:gS a0 f a2=some (h,a)):eI prog T 152 [AV.eT c 0,en.av f,Pf.av a2] H (Fm.av h) (gb H c [sL Fm.av a.lemmas,sL Tm.av a.ef,sI a.next]):=by
 rw[gS] at hm;have d:=eK b;refine fo.Jr b ?_;have e:=d;refine wi aiN func152 [] [(1,true,[])] 999 ?_;have m:=hm;exact aa
@[reducible,instance] def Ka:=@Kc.mk prog 152 _ @rA
def vH:C3 prog 153 lP en.av en.av Fm.av Tm.av:=by
 refine v3 func153 λT H a0 a a2 r m e=>?_;rw[lP] at m;refine sw [0,4,9,0] ?_;intro _ e m;refine Ad (f:=Fm.av) [] a0.ie.aiP (hD.full (D:=[])) JC e.2 ?_;refine sw [9,0] ?_;intro e m;refine Ad (f:=Fm.av) (fT [] a0.ie.aiP) [a] (hD.new (D:=[21]) (d:=21) aak) JC e.2 ?_;exact au
@[reducible,instance] def Uj:=@Kc.mk prog 153 _ @vH
def Nl:C3 prog 154 mJ Tm.av Ty.av sI Tm.av:=by
 refine v3 func154 λT H a0 a a2 r m e=>?_;rw[mJ] at m;have e:=Aj e (show AV.agg [sI 2,sI a,sI a0.aiI,sL Ty.av a0.aiJ,AV.slice .gx [Tm.av a2]]=Tm.av (Tm.mk 2 a a0 [a2]) by rw[Tm.eO];rfl);exact au
@[reducible,instance] def aan:=@Kc.mk prog 154 _ @Nl
def Gi:C2 prog 29 p5 Tm.av Tm.av Tm.av:=by
 refine v2 func29 λT H a0 a r m e=>?_;rw[p5] at m;exact aa
@[reducible,instance] def Z0:=@Kc.mk prog 29 _ @Gi
def uZ:C3 prog 223 yO (t2 Fm.av sI) Fm.av sI sI:=by
 refine u3 7 func223 λT H a0 a a2 r m e=>?_;rw[yO] at m;refine sw [0,1,0,13] ?_;intro _ e m;apply wg 3;simp[e];refine WB m 999 999 [2] [3,6] (λv3 f=>f.1 1=sI a/\f.1 33=sB v3) λb _ g m=>?_;apply Iq e m<;>intro e m
 ·exact iO
 apply Iq e m<;>intro e m
 ·exact iO
 apply Iq e m<;>intro e m
 ·exact iO
 apply Iq e m<;>intro e m
 ·exact iO
 simp[e];refine pS m tm λ_ m=>?_;exact iO
@[reducible,instance] def Zo:=@Kc.mk prog 223 _ @uZ
def tr:C3 prog 155 lZ en.av en.av Ty.av Tm.av:=by
 refine v3 func155 λT H a0 j a2 r m e=>?_;rw[lZ] at m;refine sw [0,4,9,0] ?_;intro n e m;refine Ad (f:=Ty.av) [] a0.ie.aiM (hD.full (D:=[])) FG e.2 ?_;refine sw [9,0] ?_;intro e m;refine Ad (f:=Ty.av) (fT [] a0.ie.aiM) [j] (hD.new (D:=[21]) (d:=21) aak) FG e.2 ?_;simp[e];refine Wn m 999 (λs2 f h=>∃a b,(h=H/\f.1 8=sI s2.1/\bx f 3 [sL Ty.av a0.ie.aiM,sL Fm.av a0.ie.aiP,sL Tm.av a0.vars,sL Tm.av a0.aiP]/\bx f 6 [nL,nL,nL,nL]/\bx f 7 [sT a Ty.av (fT (fT [] a0.ie.aiM) [j]),sT b Fm.av s2.2,sL Tm.av n,sL Tm.av a0.aiP])/\Ow f [24] a (fT (fT [] a0.ie.aiM) [j])/\Ow f [50] b s2.2) (by exact⟨(.loc 24 1),.full,abx,(On 24),hD.full⟩) (λs2 k _ _ _ _ E m z p=>?_);have⟨v10,v11⟩:=s2;have⟨a,b,E,i,c⟩:=E;have e:=Aj e E;dsimp only[oO]at m;apply Ir e m<;>intro e m
 ·cases m;have m:=Qb z;dsimp only[oO]at m;exact au
 refine sw [8,0,2,9,0] ?_;intro o l _ e m;refine Ao (f:=Fm.av) v11 [l] c JC e.2 ?_;simp[e];cases m;exact p _ _ _ ⟨a,(.loc 50 (k.e8 50+1)),abx,(hD.other i c aak aak),(On 50)⟩ z
@[reducible,instance] def XD:=@Kc.mk prog 155 _ @tr
def AY{n:Nat}:C1 prog 284 (p7 n) Tm.av Ty.av:=by
 refine i1 λn ih=>v1 func284 λT H a0 r m e=>?_;rw[p7] at m;exact aa
@[reducible,instance] def VN:=@Kc.mk prog 284 _ @AY
def ze:C1 prog 224 xi (t2 Tm.av sI) Ty.av:=by
 refine v1 func224 λT H a0 r m e=>?_;rw[xi] at m;exact aa
@[reducible,instance] def TH:=@Kc.mk prog 224 _ @ze
def zm:C1 prog 156 tl Tm.av Ty.av:=by
 refine v1 func156 λT H a0 r m e=>?_;rw[tl] at m;exact aa
@[reducible,instance] def Tu:=@Kc.mk prog 156 _ @zm
def Oc:C0 prog 85 u7 Ty.av:=by
 refine v0 func85 λT H r m e=>?_;rw[u7] at m;exact au
@[reducible,instance] def ZS:=@Kc.mk prog 85 _ @Oc
end Go.Proofs.YtpgdkkomegalnaaGreatDoor
