/- Part of the proof of SchemeComputes: walks. -/
import Derived.Test.YtpgdkkomegalnaaGreatDoorCW1
import Derived.Test.YtpgdkkomegalnaaGreatDoorCL20
set_option linter.all false
set_option maxRecDepth 20000
set_option maxHeartbeats 4000000
namespace Go.Proofs.YtpgdkkomegalnaaGreatDoor
open Go Go.ld Go.fF Tryz
def JE:C2 prog 261 Fc Tm.av Tm.av (sL Tm.av):=by
 refine v2 func261 λT H a0 a1 r m e=>?_;rw[Fc] at m;simp[e];refine Wr e m 999 (λd s2 f h=>h=H/\f.1 7=sL Tm.av a1/\f.1 8=sI (eA a1)/\f.1 9=sI d/\bx f 2 [sI s2.1,sI s2.2.1,sI s2.2.2.1,sL Ty.av s2.2.2.2.1,sL Tm.av s2.2.2.2.2]/\bx f 4 [sI 0,sI 0,sI 0,nL,nL]) aaD (λs2 _ _ _ E m=>?_) (λd _ s2 _ _ _ _ _ E e m z p=>?_)
 ·have⟨v11,v12,a,b,c⟩:=s2;have e:=Aj e E;dsimp only[eC,Dn]at m;exact au
 have⟨v11,v12,a,b,c⟩:=s2;have e:=Aj e E;dsimp only[Dn]at m;exact aa
@[reducible,instance] def afC:=@Kc.mk prog 261 _ @JE
def Hq:C1 prog 347 Gj Tm.av Tm.av:=by
 refine v1 func347 λT H a0 r m e=>?_;rw[Gj] at m;exact aa
@[reducible,instance] def ac2:=@Kc.mk prog 347 _ @Hq
def Hi:C0 prog 343 FX Tm.av:=by
 refine v0 func343 λT H r m e=>?_;rw[FX] at m;exact aa
@[reducible,instance] def acn:=@Kc.mk prog 343 _ @Hi
def Fe:C2 prog 337 Dz Fm.av Tm.av Tm.av:=by
 refine v2 func337 λT H a0 a1 r m e=>?_;rw[Dz] at m;exact aa
def oE{n:Nat}:C2 prog 336 (p8 n) sB Fm.av Fm.av:=by
 refine i2 λn ih=>u2 3 func336 λT H a0 a1 r m e=>?_;rw[p8] at m;simp[e];refine WA m 999 999 [] [2,3] (λv2 f=>f.1 39=sB v2) [7,0] (λa _ g m=>?_) ?_
 ·apply Iq e m<;>intro e m
  ·exact jo
  simp[e];refine qK m kQ λ_ m=>?_;apply Ir e m<;>intro e m
  ·exact jo
  apply Iq e m<;>intro e m
  ·exact jo
  exact jo
 intro _ v2 e m;refine Wa e m 999 43 [41,42] [2,3] nI [11,0] ?_;intro _ _ e m;exact Wb e m 999 60 [58,59] [3] nI
def oU(T:eO){H:dZ}{a0:Fm}{b:Bool}{c:Tm}{d:Fm}{h:Bool}(hm:AP a0=some (b,c,d,h)):eP prog T 319 [Fm.av a0] H (AV.tuple [sB b,Tm.av c,Fm.av d,sB h]) H:=by
 rw[AP] at hm;have e:=trivial;refine wi al2 func319 [] [] 7 ?_;have m:=hm;refine sw [0,2,0] ?_;intro _ _ e m;refine WA m 999 0 [6] [1,3,4] (λv4 f=>f.1 48=sB v4) [13] (λo _ g m=>?_) ?_
 ·apply Iq e m<;>intro e m
  ·exact jo
  apply Iq e m<;>intro e m
  ·exact jo
  have⟨q,e,m⟩:=OQ e m;apply Iq e m<;>intro e m
  ·exact jo
  have⟨r,e,m⟩:=OQ e m;exact jo
 intro _ v4 e m;refine sg 7 [8,8,8,0] ?_;intro i j k e m;refine WB m 999 999 [6] [1,3,4,10] (λa f=>f.1 83=sB a) λl _ g m=>?_;apply Iq e m<;>intro e m
 ·exact jo
 refine sw [8,0] ?_;intro n e m;refine qH m (Fi T) λ_ m=>?_;apply Iq e m<;>intro e m
 ·exact jo
 simp[e];refine qH m J' λ_ m=>?_;simp[e];refine qH m Fe λ_ m=>?_;simp[e];refine qH m oE λ_ m=>?_;exact jo
def oq:∀(n:Nat),C1 prog 297 (wm n) (λn=>AV.sc (Value.int .u8 n)) Fm.av:=by
  intro n
  induction n with
  |zero=>
    skip
    all_goals(intro _ _;intros;rename_i hm;cases hm)
  |succ n ih=>
 intro T H a0 r hm;rw[wm] at hm;have e:=trivial;refine wi al2 func297 [] [] 5 ?_;have m:=hm;refine sw [0,13] ?_;intro e m;refine sg 4 [8,0,15,0] ?_;intro o b e m;refine D3 m 3 2 (λc f h=>∃v4,(h=H/\f.1 3=AV.sc (.int .u8 v4)/\bx f 1 (Fm.av a0).cells)/\c v4=some r) ?_ (λc _ g m=>?_)
 ·rintro _ _ ⟨v4,E,m⟩;have e:=Aj e E;simp[e];refine WB m 999 999 [] [] (λv9 f=>f.1 6=AV.sc (.int .u8 v9)) λq _ g m=>?_;have⟨d,i,j,k,e,m⟩:=Bo4 e m;simp[e];refine Cf (oU T e.2) ?_;apply Ir e m<;>intro e m
  ·exact jo
  refine sw [0,15] ?_;intro _ e m;exact jo
 simp[e];refine wj 999 0 (λf h=>h=H/\f.1 3=AV.sc (.int .u8 b)/\f.1 24=sI a0.alX/\f.1 25=sB (fp (eo a0.alX 2) true (eo a0.alX 3))/\bx f 1 (Fm.av a0).cells) (λ_ g=>?_) ?_
 ·rcases Pb (eo a0.alX 2) e with e|e
  ·exact aj
  exact aj
 rintro _ _ E;have e:=Aj e E;apply Ir e m<;>intro e m
 ·apply wg 999;apply Ir e m<;>intro e m
  ·exact jo
  exact jo
 refine sg 5 [8,0,15,0] ?_;intro l a e m;refine wjs 2 999 (λf h=>h=H/\f.1 3=AV.sc (.int .u8 (fp (eo a0.alX 2) (Vn .u8 b a) b))/\f.1 5=AV.sc (.int .u8 (Cz .u8 (Cz .u8 a b) 6))) ?_ (λ_ g=>?_)
 ·rintro _ _ E;exact aa
 simp[e];rcases Pb (eo a0.alX 2) e with e|e
 ·apply wg 999;exact aj
 apply wg 999;exact aj
def QH{n:Nat}:C1 prog 297 (wm n) (λn=>AV.sc (Value.int .u8 n)) Fm.av:=(oq n)
@[reducible,instance] def aeX:=@Kc.mk prog 297 _ @QH
def HH(T:eO)(c:oc T){H:dZ}{a0:Fm}{a1:Int}{a:Bool}{b:Int}(hm:GI a0 a1=some (a,b)):eP prog T 263 [Fm.av a0,AV.sc (.int .u8 a1)] H (AV.tuple [sB a,sI b]) H:=by
 rw[GI] at hm;have e:=c;refine wi al2 func263 [] [] 999 ?_;have m:=hm;exact aa
@[reducible,instance] def acD:=@Kc.mk prog 263 _ @HH
def Ar(T:eO)(c:oc T){H:dZ}{a0:Fm}{a:Bool}{b:Int}(hm:x9 a0=some (a,b)):eP prog T 188 [Fm.av a0] H (AV.tuple [sB a,sI b]) H:=by
 rw[x9] at hm;have e:=c;refine wi al2 func188 [] [] 999 ?_;have m:=hm;exact aa
def eB(T:eO)(j:oc T):∀(n:Nat),(∀{H:dZ} {a0:List Fm} {a1:Pf} {a2:ew} {c:ec} {d:Int} {b:Nat} (a:KC H b a0) (hm:ke n a0 a1 a2=some (c,d)),eP prog T 138 [AV.fh b 0,Pf.av a1,ew.av a2] H (AV.tuple [ec.av c,sI d]) H)/\(∀{H:dZ} {a0:List Fm} {a1:Pf} {a2:ew} {c:ec} {d:Int} {b:Nat} (a:KC H b a0) (hm:qv n a0 a1 a2=some (c,d)),eP prog T 180 [AV.fh b 0,Pf.av a1,ew.av a2] H (AV.tuple [ec.av c,sI d]) H)/\(∀{H:dZ} {a0:List Fm} {a1:Pf} {a2:ew} {c:ec} {d:Int} {b:Nat} (a:KC H b a0) (hm:rE n a0 a1 a2=some (c,d)),eP prog T 182 [AV.fh b 0,Pf.av a1,ew.av a2] H (AV.tuple [ec.av c,sI d]) H)/\(∀{H:dZ} {a0:List Fm} {a1:Pf} {a2:ew} {a3:Fm} {a4:Tm} {c:ec} {d:Int} {b:Nat} (a:KC H b a0) (hm:l8 n a0 a1 a2 a3 a4=some (c,d)),eP prog T 251 [AV.fh b 0,Pf.av a1,ew.av a2,Fm.av a3,Tm.av a4] H (AV.tuple [ec.av c,sI d]) H):=by
  intro n
  induction n with
  |zero=>
    refine⟨?_,?_,?_,?_⟩
    all_goals(intro _ _;intros;rename_i hm;cases hm)
  |succ n ih=>
 refine⟨?_,?_,?_,?_⟩
 ·intro H a0 a1 a2 c d b a hm;rw[ke] at hm;have e:=Aj j a;refine wi al2 func138 [] [(1,true,[])] 7 ?_;have l:vM prog H 158 (AV.nJ (b-1)) (sI a1.alX) false=some (Mu a1.alX):=Ro a.2;have e:=Aj e l;have⟨i,o,e,m⟩:=Bo2 e hm;simp[e];refine gS.val (r:=AV.tuple [ec.av i,sI o]) (H':=H) ?_ aaA ?_
  ·have h:=e.2;rcases ae0 (eo a1.alX 8=true)with hk|hk
   ·rw[dR hk] at h;rw[FL hk abD];exact QR (ih.2.1 a h)
   rw[dK hk] at h;rcases ae0 (eo a1.alX 10=true)with hk|hk
   ·rw[dR hk] at h;rw[FL hk abD];exact QR (ih.2.2.1 a h)
   rw[dK hk] at h;rcases ae0 (eo a1.alX 18=true)with hk|hk
   ·rw[dR hk] at h;rw[FL hk abD];exact QR (tf T a h)
   rw[dK hk] at h;cases h
  refine sw [0,13] ?_;intro e m;refine sg 5 [0,1,0,13] ?_;intro _ e m;apply wg 2;simp[e];refine WB m 999 999 [] [6] (λq f=>bx f 8 [sI i.d_.alX,sI i.d_.dN.alX,sL Ty.av i.d_.dN.alY,sL Tm.av i.d_.ei,sL Fm.av i.d_.alY,AV.sc (.int .u32 q)]) λB _ g m=>?_;simp[e];refine EJ m (Ar T j) λ_ _ m=>?_;apply Ir e m<;>intro e m
  ·exact jo
  exact jo
 ·intro H a0 a1 a2 c d b a hm;rw[qv] at hm;have e:=Aj j a;refine wi al2 func180 [] [] 7 ?_;have m:=hm;refine sw [0,1,0,13] ?_;intro _ e m;refine sg 7 [8,0,4,0] ?_;intro C _ e m;refine uq m (ih.1 a) λs _ m=>?_;refine sw [0,13] ?_;intro e m;apply wg 4;simp[e];refine WA m 999 999 [] [4,6,9] (λk f=>f.1 11=sI k) [] (λt _ g m=>?_) ?_
  ·apply Ir e m<;>intro e m
   ·exact jo
   refine Il e m λe m=>?_;exact jo
  intro _ k e m;exact aa
 ·intro H a0 a1 a2 c d b a hm;rw[rE] at hm;have e:=Aj j a;refine wi al2 func182 [] [] 999 ?_;have m:=hm;refine sw [8,8] ?_;intro u v e m;apply Ir e m<;>intro e m
  ·simp[e];refine qK m gZ λ_ m=>?_;refine sw [7,7,0] ?_;intro e m;refine EJ m gN λ_ _ m=>?_;refine sw [7,0] ?_;intro e m;refine qK m qA λ_ m=>?_;refine sw [12,8,8,0] ?_;intro w x e m;refine uq m (ih.2.2.2 a) λ_ _ m=>?_;refine sw [7,0] ?_;intro e m;refine qH m (Ls T) λ_ m=>?_;exact au
  simp[e];refine qK m gZ λ_ m=>?_;refine sw [7,7,0] ?_;intro e m;refine EJ m gN λ_ _ m=>?_;refine sw [7,0] ?_;intro e m;refine qK m qA λ_ m=>?_;refine sw [12,8,8,0] ?_;intro y A e m;refine uq m (ih.2.2.2 a) λ_ _ m=>?_;refine sw [7,0] ?_;intro e m;refine qH m ze λ_ m=>?_;exact au
 ·intro H a0 a1 a2 a3 a4 c d b a hm;rw[l8] at hm;have e:=Aj j a;refine wi al2 func251 [] [] 999 ?_;simp[e];refine EJ hm (ih.1 a) λ_ _ m=>?_;refine sw [7,0,2] ?_;intro _ i e m;exact aa
def zK(T:eO)(f:oc T){H:dZ}{a0:List Fm}{a1:Pf}{a2:ew}{b:ec}{c:Int}{d:Nat}(a:KC H d a0){n:Nat}(hm:ke n a0 a1 a2=some (b,c)):eP prog T 138 [AV.fh d 0,Pf.av a1,ew.av a2] H (AV.tuple [ec.av b,sI c]) H:=(eB T f n).1 a hm
def zH{n:Nat}:C1 prog 192 (E1 n) Tm.av Tm.av:=by
 refine i1 λn ih=>v1 func192 λT H a0 r m e=>?_;rw[E1] at m;refine sw [0,4,0] ?_;intro i e m;refine Td e m 999 17 [15,16] [2] [26] (λb=>b) (λb a f=>bx f 3 [sI a0.alX,sI a0.al0,sI i.alX,sL Ty.av i.alY,sT a Tm.av b]) λj _ b d _ _ _ _ E e m z p=>?_;have⟨a,E,c⟩:=E;refine sw [20,0,18,9,0] ?_;intro h e m;refine Ad (f:=Tm.av) b [h] c zY e.2 ?_;simp[e];cases m;exact p _ _ _ ⟨(.loc 26 (d.fo 26+1)),aaD,(On 26)⟩ z
@[reducible,instance] def aef:=@Kc.mk prog 192 _ @zH
def vD:C2 prog 191 si Tm.av Tm.av sI:=by
 refine v2 func191 λT H a0 a1 r m e=>?_;rw[si] at m;exact aa
def D6:C1 prog 140 vd Fm.av Fm.av:=by
 refine v1 func140 λT H a0 r m e=>?_;rw[vd] at m;simp[e];refine EJ m (tk T (st:=λ_:Unit=>H) (Gv.const _) (λX _ _ _ _ _ h=>by obtain⟨a,rfl⟩:=zR h;exact vD a)) λ_ _ m=>?_;exact au
def T7:kW prog 193=true:=by kernel_rfl
set_option maxHeartbeats 4000000 in
def ab7(x k idx:Nat)(w:World)(b:((x:Int)==0)=false)
  (key:bits BinOp.and IntKind.u32 (x:Int) (-(x:Int)%4294967296)*125613361%4294967296/134217728=(idx:Int))
  (hi:idx<32) (c:k<32) (a:w.cell? ⟨0,idx,none⟩=some (.int .u8 k)):Calls prog 193 #[.int .u32 x] w λe w'=>e=.returned (.int .i64 k)/\w'=w:=by
 go_enter func193,ntmps193
 go_wp2_with (simp only[key])
 go_ret
 exact⟨rfl,rfl⟩
set_option maxHeartbeats 4000000 in
def ab3(w:World):Calls prog 193 #[.int .u32 0] w λe w'=>e=.returned (.int .i64 32)/\w'=w:=by
 go_enter func193,ntmps193
 go_wp2
 go_ret
 exact⟨rfl,rfl⟩
def abo(n:Int):IntKind.u32.wrap n=n%4294967296:=by simp[IntKind.wrap,IntKind.signed,IntKind.bits]
def afz(a b:Nat)(f:a<4294967296)(h:b<4294967296):bits .and .u32 (a:Int) (b:Int)=((a&&&b:Nat):Int):=by
 have i:a&&&b<2^32:=ah5 _ VW
 have c:(BitVec.ofInt 32 (a:Int)).toNat=a:=by
  rw[ahS];omega
 have d:(BitVec.ofInt 32 (b:Int)).toNat=b:=by
  rw[ahS];omega
 show IntKind.u32.wrap ((BitVec.ofInt 32 (a:Int)&&&BitVec.ofInt 32 (b:Int)).toNat:Int)=_;rw[BitVec.toNat_and,c,d,abo];omega
def aeJ(x a:Nat)(c:x<4294967296)(d:x≠0)(b:x&&&(4294967296-x)=a):bits BinOp.and IntKind.u32 (x:Int) (-(x:Int)%4294967296)*125613361%4294967296/134217728=((a*125613361%4294967296/134217728:Nat):Int):=by
 have f:-(x:Int)%4294967296=((4294967296-x:Nat):Int):=VW
 rw[f,afz x _ c VW,b];omega
def afb:∀j,j<32->lH[j]?=some ((Lib.deBruijn32tab.getD j 0:Nat):Int):=by decide+kernel
def vU(T:eO)(q:oc T){H:dZ}{a0 h:Int}(hm:mM a0=some h):eP prog T 193 [AV.sc (.int .u32 a0)] H (sI h) H:=by
 unfold mM at hm
 split at hm
 case isFalse=>cases hm
 rename_i j;obtain⟨x,rfl⟩:∃x:Nat,a0=(x:Int):=⟨a0.toNat,VW⟩;obtain rfl:=kX hm
 have k:x<2^32:=VW
 rw[Ea];refine eP.aaY T7 λG F w vs hg r=>?_
 obtain⟨v1,rfl,a⟩:∃v,vs=[v]/\gR F G H.length (AV.sc (.int .u32 (x:Int))) v:=by
  cases r with
  |cons a b=>cases b;exact⟨_,rfl,a⟩
 cases a;refine⟨_,.sc rfl,?_⟩
 by_cases c:x=0
 ·subst c;exact(ab3 w).mono λe w' ⟨a,b⟩=>⟨a,by rw[b];exact ai8 _ _⟩
 ·have⟨d,l⟩:=Lib.lowest_bit 32 x c k;have⟨hi,f⟩:=Lib.deBruijn32_at _ l;have s:=hg.DQ 0 _ q.2.2;cases s with
  |mA a b u=>
   have n:=afb _ hi;rw[f] at n;have⟨v,t,j⟩:=a.get (i:=2^Lib.ctz 32 x*125613361%4294967296/134217728) (x:=.sc (.int .u8 (Lib.ctz 32 x:Int))) (by simp[AV.cells,n]);cases j;have o:=hg.G5 _ _ _ (b _ _ t);rw[Ax] at o;exact(ab7 x (Lib.ctz 32 x) _ w abu (aeJ x _ k c d) hi l o).mono λe w' ⟨a,b⟩=>⟨a,by rw[b];exact ai8 _ _⟩
@[reducible,instance] def IF:=@Kc.mk prog 193 _ @vU
def qu(T:eO)(i:oc T){H:dZ}{a0:Int}{d:List Int}(hm:nS a0=some d):eP prog T 141 [AV.sc (.int .u32 a0)] H (sL sI d) H:=by
 rw[nS] at hm;have e:=i;refine wi al2 func141 [] [] 999 ?_;simp[e];refine Wn hm 999 (λs1 f h=>∃a,(h=H/\f.1 0=AV.sc (.int .u32 s1.1)/\f.1 3=sT a sI s1.2)/\Ow f [14] a s1.2) (by exact⟨.full,aaD,hX.full⟩) (λs1 fr2 _ _ _ _ E m z p=>?_);have⟨j,v9⟩:=s1;have⟨a,E,b⟩:=E;have e:=Aj e E;dsimp only[lS]at m;apply Ir e m<;>intro e m
 ·cases m;have m:=Qb z;dsimp only[lS]at m;exact au
 refine sw [0,1,9,0] ?_;intro c e m;refine Ao (f:=sI) v9 [c] b H4 e.2 ?_;simp[e];cases m;exact p _ _ _ ⟨(.loc 14 (fr2.fo 14+1)),aaD,(On 14)⟩ z
def sP(T:eO)(a:oc T){H:dZ}{a0:List Fm}{a1:Sq}{a2:Pf}{b:ta}{c:Int}(hm:zP a0 a1 a2=some (b,c)):eP prog T 101 [sL Fm.av a0,Sq.av a1,Pf.av a2] H (AV.tuple [ta.av b,sI c]) H:=by
 rw[zP] at hm;refine fH.vG (Post:=λx K=>x=AV.tuple [ta.av b,sI c]/\∃X,K=H++X) ?_ (λ_ _ h=>⟨_,h.2.choose_spec,by rw[h.1];simp[AV.low,AV.iL],h.1,rfl⟩);have e:=a;refine wi al2 func101 [29] [] 999 ?_;simp[e];refine qK hm (tZ T a) λ_ m=>?_;refine sw [7,0] ?_;intro e m;refine qK m (yh T a) λ_ m=>?_;refine sw [7,0] ?_;intro e m;refine qK m (Kb T) λ_ m=>?_;simp[e];refine qH m wN λ_ m=>?_;simp[e];refine uq m (zK T a ⟨aaD,aaD⟩) λ_ _ m=>?_;refine sw [7,0] ?_;intro e m;refine qH m D6 λ_ m=>?_;simp[e];refine qH m (qu T a) λ_ m=>?_;exact au
@[reducible,instance] def Yx:=@Kc.mk prog 101 _ @sP
def As(T:eO)(b:oc T){H:dZ}{a0:Tm}{a1:Pf}{a:Int}(hm:uk a0 a1=some a):eP prog T 46 [Tm.av a0,Pf.av a1] H (sI a) H:=by
 rw[uk] at hm;have e:=b;refine wi al2 func46 [] [] 999 ?_;have m:=hm;exact aa
@[reducible,instance] def VF:=@Kc.mk prog 46 _ @As
def MB:C1 prog 49 kz Pf.av sI:=by
 refine v1 func49 λT H a0 r m e=>?_;rw[kz] at m;exact au
@[reducible,instance] def Z4:=@Kc.mk prog 49 _ @MB
def Ex:C3 prog 47 jU Pf.av Fm.av Pf.av Pf.av:=by
 refine v3 func47 λT H a0 a1 a2 r m e=>?_;rw[jU] at m;have e:=Aj e (show AV.agg [sI 19,sI 0,sI 0,AV.slice .gK [],AV.slice .gK [],AV.slice .gK [Fm.av a0],AV.slice .gK [Pf.av a1,Pf.av a2]]=Pf.av (Pf.mk 19 0 (Ty.mk 0 []) [] [a0] [a1,a2]) by rw[Pf.eU];rfl);exact au
@[reducible,instance] def TB:=@Kc.mk prog 47 _ @Ex
def MA:C2 prog 51 y' Pf.av Tm.av Pf.av:=by
 refine v2 func51 λT H a0 a1 r m e=>?_;rw[y'] at m;have e:=Aj e (show AV.agg [sI 9,sI 0,sI 0,AV.slice .gK [],AV.slice .gK [Tm.av a0],AV.slice .gK [],AV.slice .gK [Pf.av a1]]=Pf.av (Pf.mk 9 0 (Ty.mk 0 []) [a0] [] [a1]) by rw[Pf.eU];rfl);exact au
@[reducible,instance] def ab8:=@Kc.mk prog 51 _ @MA
def QG:C2 prog 50 mH Pf.av sI (sL Pf.av):=by
 refine v2 func50 λT H a0 a1 r m e=>?_;rw[mH] at m;exact au
@[reducible,instance] def ae9:=@Kc.mk prog 50 _ @QG
def wL(T:eO)(k:oc T){H:dZ}{a0:Tm}{a1:Pf}{a2:Tm}{a3:Pf}{b:Fm}{c:Pf}{d:Int}(hm:zu a0 a1 a2 a3=some (b,c,d)):eP prog T 12 [Tm.av a0,Pf.av a1,Tm.av a2,Pf.av a3] H (AV.tuple [Fm.av b,Pf.av c,sI d]) H:=by
 rw[zu] at hm;have e:=k;refine wi al2 func12 [] [] 999 ?_;simp[e];have⟨i,a,m⟩:=DO hm;refine Wr e m 999 (λj _ f h=>h=H/\f.1 20=sT .full Tm.av i/\f.1 21=sI (eA i)/\f.1 22=sI j/\bx f 4 (Tm.av a0).cells/\bx f 5 (Pf.av a1).cells/\bx f 6 (Tm.av a2).cells/\bx f 7 (Pf.av a3).cells/\bx f 8 [sI 0,sI 0,nL,nL,nL]/\bx f 9 [sI 0,sI 0,sI 0,nL,nL,nL,nL]) (by(repeat' apply And.intro)<;>first|rfl|(rw[a];rfl)|simp[e,a,eA]) (λ_ _ _ _ E m=>?_) (λj _ _ _ _ _ _ _ E e m z p=>?_);rotate_left
 ·exact aa
 exact aa
@[reducible,instance] def Yz:=@Kc.mk prog 12 _ @wL
def zz{n:Nat}:C1 prog 127 (jf n) Ty.av Ty.av:=by
 refine i1 λn ih=>v1 func127 λT H a0 r m e=>?_;rw[jf] at m;simp[e];refine Td e m 999 9 [7,8] [1,2] [17] (λs2=>s2) (λs2 a f=>f.1 3=sT a Ty.av s2) λh _ s2 c _ _ _ _ E e m z p=>?_;have⟨a,E,b⟩:=E;refine sw [20,0,15,9,0] ?_;intro d e m;refine Ao (f:=Ty.av) s2 [d] b FZ e.2 ?_;simp[e];cases m;exact p _ _ _ ⟨(.loc 17 (c.fo 17+1)),aaD,(On 17)⟩ z
@[reducible,instance] def aa':=@Kc.mk prog 127 _ @zz
def yX{n:Nat}:C1 prog 123 (lR n) Tm.av Tm.av:=by
 refine i1 λn ih=>v1 func123 λT H a0 r m e=>?_;rw[lR] at m;simp[e];refine Td e m 999 9 [7,8] [1,2] [17] (λs2=>s2) (λs2 a f=>f.1 3=sT a Tm.av s2) λh _ s2 c _ _ _ _ E e m z p=>?_;have⟨a,E,b⟩:=E;refine sw [20,0,15,9,0] ?_;intro d e m;refine Ao (f:=Tm.av) s2 [d] b zY e.2 ?_;simp[e];cases m;exact p _ _ _ ⟨(.loc 17 (c.fo 17+1)),aaD,(On 17)⟩ z
@[reducible,instance] def Z9:=@Kc.mk prog 123 _ @yX
def yJ:C2 prog 89 fT Tm.av sI (sL Tm.av):=by
 refine v2 func89 λT H a0 a1 r m e=>?_;rw[fT] at m;simp[e];refine Td e m 999 10 [0,8,9] [4] [18] (λs2=>s2) (λs2 a f=>f.1 5=sT a Tm.av s2) λh _ s2 c _ _ _ _ E e m z p=>?_;have⟨a,E,b⟩:=E;refine sw [20,0,1,9,0] ?_;intro d e m;refine Ao (f:=Tm.av) s2 [d] b zY e.2 ?_;simp[e];cases m;exact p _ _ _ ⟨(.loc 18 (c.fo 18+1)),aaD,(On 18)⟩ z
@[reducible,instance] def agw:=@Kc.mk prog 89 _ @yJ
def Ae:C1 prog 107 ra Tm.av sI:=by
 refine v1 func107 λT H a0 r m e=>?_;rw[ra] at m;refine sw [0,1,0] ?_;intro _ e m;refine Wn m 999 (λs2 f h=>∃a b,h=H/\f.1 0=sI s2.1/\bx f 2 [sI 0,sI 0,sI 0,nL,nL]/\bx f 3 [sI s2.2.1,sI s2.2.2.1,sI s2.2.2.2.1,sT a Ty.av s2.2.2.2.2.1,sT b Tm.av s2.2.2.2.2.2]) ⟨.gK,.gK,aaD⟩ (λs2 _ _ _ _ _ E m z p=>?_);have⟨v10,v11,v12,c,d,i⟩:=s2;have⟨a,b,E⟩:=E;have e:=Aj e E;dsimp only[Bv]at m;apply Ir e m<;>intro e m
 ·cases m;have m:=Qb z;dsimp only[Bv]at m;exact au
 simp[e];cases m;exact p _ _ _ ⟨.full,.full,aaD⟩ z
@[reducible,instance] def VL:=@Kc.mk prog 107 _ @Ae
def AR:C1 prog 69 vQ (t2 Tm.av sI) sI:=by
 refine v1 func69 λT H a0 r m e=>?_;rw[vQ] at m;exact aa
@[reducible,instance] def WM:=@Kc.mk prog 69 _ @AR
def O':C1 prog 21 rD Tm.av sI:=by
 refine v1 func21 λT H a0 r m e=>?_;rw[rD] at m;exact aa
@[reducible,instance] def ah3:=@Kc.mk prog 21 _ @O'
def n8(T:eO){H:dZ}{a0 a b j:Tm}{q0 q1:Nat}(c:H[q0]?=some [sI a.alX,sI a.al0,sI a.dN.alX,sL Ty.av a.dN.alY,sL Tm.av a.alY])(d:H[q1]?=some [sI b.alX,sI b.al0,sI b.dN.alX,sL Ty.av b.dN.alY,sL Tm.av b.alY])(hm:mE a0 a b=some j):eP prog T 54 [Tm.av a0,AV.fh q0 0,AV.fh q1 0] H (Tm.av j) H:=by
 rw[mE] at hm;have f:=e9 c;have h:=e9 d;have e:=Aj (Aj (Aj f c) h) d;refine wi al2 func54 [] [(1,true,[])] 999 ?_;have m:=hm;refine sw [0,4] ?_;intro i e m;have e:=Aj e (show AV.agg [sI 6,sI 0,sI i.alX,sL Ty.av i.alY,AV.slice .gK [Tm.av a,Tm.av b,Tm.av a0]]=Tm.av (Tm.mk 6 0 i [a,b,a0]) by rw[Tm.eU];rfl);exact au
def DF:C5 prog 57 mq Pf.av sI Fm.av Tm.av Pf.av Pf.av:=by
 refine v5 func57 λT H a0 a1 a2 a3 a4 r m e=>?_;rw[mq] at m;have e:=Aj e (show AV.agg [sI a0,sI 0,sI 0,AV.slice .gK [],AV.slice .gK [Tm.av a2],AV.slice .gK [Fm.av a1],AV.slice .gK [Pf.av a3,Pf.av a4]]=Pf.av (Pf.mk a0 0 (Ty.mk 0 []) [a2] [a1] [a3,a4]) by rw[Pf.eU];rfl);exact au
@[reducible,instance] def Q8:=@Kc.mk prog 57 _ @DF
def ly(T:eO)(d:oc T){H:dZ}{a0 a1:Tm}{a:Fm}{b:Pf}{c:Int}(hm:qj a0 a1=some (a,b,c)):eP prog T 15 [Tm.av a0,Tm.av a1] H (AV.tuple [Fm.av a,Pf.av b,sI c]) H:=by
 rw[qj] at hm;refine fH.vG (Post:=λx K=>x=AV.tuple [Fm.av a,Pf.av b,sI c]/\∃X,K=H++X) ?_ (λ_ _ h=>⟨_,h.2.choose_spec,by rw[h.1];simp[AV.low,AV.iL],h.1,rfl⟩);have e:=d;refine wi al2 func15 [2,3] [(1,true,[]),(4,true,[]),(8,true,[]),(9,true,[]),(10,true,[])] 999 ?_;have m:=hm;refine sw [0,4,0,4,13,0,4,0,4,0,4,0,4,0,4,13,0,4,0,4,0,4,0,4,0,4,8,0] ?_;intro _ _ _ _ _ _ _ _ _ _ _ _ f e m;refine gS.Hc abD (n8 T aaD aaD e.2) aaA ?_;refine sw [0,4,0,4,0,4,0,4,0,4,0,4,0,4,0,4,0,4,0,4,0,4,8,0] ?_;intro _ _ _ _ _ _ _ _ _ _ _ i e m;refine gS.Hc abD (n8 T aaD aaD e.2) aaA ?_;refine sw [0,4,0,4,0,4,0,4,8,0] ?_;intro _ _ _ _ j e m;refine gS.Hc abD (n8 T aaD aaD e.2) aaA ?_;refine sw [0,4,0,4,0,4,0,4,0,4,0,4,0,4,8,0] ?_;intro _ _ _ _ _ _ _ k e m;refine gS.Hc abD (n8 T aaD aaD e.2) aaA ?_;exact aa
@[reducible,instance] def Ww:=@Kc.mk prog 15 _ @ly
def MY:C0 prog 62 wH Ty.av:=by
 refine v0 func62 λT H r m e=>?_;rw[wH] at m;exact au
@[reducible,instance] def abI:=@Kc.mk prog 62 _ @MY
def lq(T:eO){H:dZ}{a0 a b j:Tm}{q0 q1:Nat}(c:H[q0]?=some [sI a.alX,sI a.al0,sI a.dN.alX,sL Ty.av a.dN.alY,sL Tm.av a.alY])(d:H[q1]?=some [sI b.alX,sI b.al0,sI b.dN.alX,sL Ty.av b.dN.alY,sL Tm.av b.alY])(hm:k9 a0 a b=some j):eP prog T 63 [Tm.av a0,AV.fh q0 0,AV.fh q1 0] H (Tm.av j) H:=by
 rw[k9] at hm;have f:=e9 c;have h:=e9 d;have e:=Aj (Aj (Aj f c) h) d;refine wi al2 func63 [] [(1,true,[])] 999 ?_;have m:=hm;refine sw [0,4] ?_;intro i e m;have e:=Aj e (show AV.agg [sI 9,sI 0,sI i.alX,sL Ty.av i.alY,AV.slice .gK [Tm.av a,Tm.av b,Tm.av a0]]=Tm.av (Tm.mk 9 0 i [a,b,a0]) by rw[Tm.eU];rfl);exact au
def jd(T:eO)(d:oc T){H:dZ}{a0 a1:Tm}{a:Fm}{b:Pf}{c:Int}(hm:tX a0 a1=some (a,b,c)):eP prog T 18 [Tm.av a0,Tm.av a1] H (AV.tuple [Fm.av a,Pf.av b,sI c]) H:=by
 rw[tX] at hm;refine fH.vG (Post:=λx K=>x=AV.tuple [Fm.av a,Pf.av b,sI c]/\∃X,K=H++X) ?_ (λ_ _ h=>⟨_,h.2.choose_spec,by rw[h.1];simp[AV.low,AV.iL],h.1,rfl⟩);have e:=d;refine wi al2 func18 [2,3] [(1,true,[]),(4,true,[]),(8,true,[]),(9,true,[]),(10,true,[])] 999 ?_;have m:=hm;refine sw [0,4,0,4,13,0,4,0,4,0,4,0,4,0,4,0,4,13,0,4,0,4,0,4,0,4,0,4,0,4,0,4,8,0] ?_;intro _ _ _ _ _ _ _ _ _ _ _ _ _ _ _ f e m;refine gS.Hc abD (lq T aaD aaD e.2) aaA ?_;refine sw [0,4,0,4,0,4,0,4,0,4,0,4,0,4,0,4,0,4,0,4,0,4,0,4,8,0] ?_;intro _ _ _ _ _ _ _ _ _ _ _ _ i e m;refine gS.Hc abD (lq T aaD aaD e.2) aaA ?_;refine sw [0,4,0,4,0,4,0,4,8,0] ?_;intro _ _ _ _ j e m;refine gS.Hc abD (lq T aaD aaD e.2) aaA ?_;refine sw [0,4,0,4,0,4,0,4,0,4,0,4,0,4,8,0] ?_;intro _ _ _ _ _ _ _ k e m;refine gS.Hc abD (lq T aaD aaD e.2) aaA ?_;exact aa
@[reducible,instance] def RN:=@Kc.mk prog 18 _ @jd
def xE:C1 prog 88 gD Tm.av sI:=by
 refine v1 func88 λT H a0 r m e=>?_;rw[gD] at m;exact au
@[reducible,instance] def adz:=@Kc.mk prog 88 _ @xE
def Bl:C0 prog 94 jD Ty.av:=by
 refine v0 func94 λT H r m e=>?_;rw[jD] at m;exact au
@[reducible,instance] def acU:=@Kc.mk prog 94 _ @Bl
def Mj:C3 prog 92 lG Tm.av sI Ty.av (sL Tm.av):=by
 refine v3 func92 λT H a0 a1 a2 r m e=>?_;rw[lG] at m;exact aa
@[reducible,instance] def agy:=@Kc.mk prog 92 _ @Mj
def Hs:C1 prog 86 j3 Tm.av Tm.av:=by
 refine v1 func86 λT H a0 r m e=>?_;rw[j3] at m;exact aa
@[reducible,instance] def adw:=@Kc.mk prog 86 _ @Hs
def G3:C3 prog 87 tP Tm.av Tm.av Tm.av Tm.av:=by
 refine v3 func87 λT H a0 a1 a2 r m e=>?_;rw[tP] at m;exact aa
@[reducible,instance] def acw:=@Kc.mk prog 87 _ @G3
def Ee:C0 prog 32 pQ Tm.av:=by
 refine v0 func32 λT H r m e=>?_;rw[pQ] at m;exact aa
@[reducible,instance] def ack:=@Kc.mk prog 32 _ @Ee
def FA:C2 prog 66 rj Tm.av Ty.av Tm.av:=by
 refine v2 func66 λT H a0 a1 r m e=>?_;rw[rj] at m;have e:=Aj e (show AV.agg [sI 2,sI 0,sI a0.alX,sL Ty.av a0.alY,AV.slice .gK [Tm.av a1]]=Tm.av (Tm.mk 2 0 a0 [a1]) by rw[Tm.eU];rfl);exact au
@[reducible,instance] def TA:=@Kc.mk prog 66 _ @FA
def ky(T:eO){H:dZ}{a0:Tm}{a:Ty}{b c d s:Tm}{q0 q1 t u v:Nat}(f:H[q0]?=some [sI a.alX,sL Ty.av a.alY])(h:H[q1]?=some [sI b.alX,sI b.al0,sI b.dN.alX,sL Ty.av b.dN.alY,sL Tm.av b.alY])(i:H[t]?=some [sI c.alX,sI c.al0,sI c.dN.alX,sL Ty.av c.dN.alY,sL Tm.av c.alY])(j:H[u]?=some [AV.func (.func 66) [] []])(k:H[v]?=some [sI d.alX,sI d.al0,sI d.dN.alX,sL Ty.av d.dN.alY,sL Tm.av d.alY])(hm:jS a0 a b c d=some s):eP prog T 67 [Tm.av a0,AV.fh q0 0,AV.fh q1 0,AV.fh t 0,AV.fh u 0,AV.fh v 0] H (Tm.av s) H:=by
 rw[jS] at hm;have l:=e9 f;have n:=e9 h;have o:=e9 i;have q:=e9 j;have r:=e9 k;have e:=Aj (Aj (Aj (Aj (Aj (Aj (Aj (Aj (Aj l f) n) h) o) i) q) j) r) k;refine wi al2 func67 [] [(1,true,[])] 999 ?_;have m:=hm;refine sw [0,4,0,4,0,4,0,4] ?_;intro w _ _ x e m;have e:=Aj e (show AV.agg [sI 6,sI 0,sI a.alX,sL Ty.av a.alY,AV.slice .gK [Tm.av w,Tm.av x,Tm.av a0]]=Tm.av (Tm.mk 6 0 a [w,x,a0]) by rw[Tm.eU];rfl);exact au
def xL:C1 prog 64 iB Tm.av Tm.av:=by
 refine v1 func64 λT H a0 r m e=>?_;rw[iB] at m;exact aa
@[reducible,instance] def SI:=@Kc.mk prog 64 _ @xL
def xq:C1 prog 65 iA Tm.av Tm.av:=by
 refine v1 func65 λT H a0 r m e=>?_;rw[iA] at m;exact aa
@[reducible,instance] def Tw:=@Kc.mk prog 65 _ @xq
def nk(T:eO){H:dZ}{a0:Tm}{a:Ty}{j:Fm}{q0 q1 k:Nat}(b:H[q0]?=some [AV.func (.func 64) [] []])(c:H[q1]?=some [AV.func (.func 65) [] []])(d:H[k]?=some [sI a.alX,sL Ty.av a.alY])(hm:jh a0 a=some j):eP prog T 68 [Tm.av a0,AV.fh q0 0,AV.fh q1 0,AV.fh k 0] H (Fm.av j) H:=by
 rw[jh] at hm;have f:=e9 b;have h:=e9 c;have i:=e9 d;have e:=Aj (Aj (Aj (Aj (Aj f b) h) c) i) d;refine wi al2 func68 [] [(2,true,[])] 999 ?_;have m:=hm;refine sw [0,1,0,4,0,4,0,4,0,4,0,4,0,4,0,4,0,4] ?_;intro _ _ _ _ l _ _ _ n e m;have e:=Aj e (show AV.agg [sI 2,sI 0,AV.slice .gK [],AV.slice .gK [],AV.slice .gK [Fm.av l,Fm.av n]]=Fm.av (Fm.mk 2 (Ty.mk 0 []) [] [l,n]) by rw[Fm.eU];rfl);exact aa
def eH(T:eO)(t:oc T){H:dZ}{a0 a1 a2:Tm}{c:Fm}{i:Pf}{j:Int}(hm:oV a0 a1 a2=some (c,i,j)):eP prog T 20 [Tm.av a0,Tm.av a1,Tm.av a2] H (AV.tuple [Fm.av c,Pf.av i,sI j]) H:=by
 rw[oV] at hm;refine fH.vG (Post:=λx K=>x=AV.tuple [Fm.av c,Pf.av i,sI j]/\∃X,K=H++X) ?_ (λ_ _ h=>⟨_,h.2.choose_spec,by rw[h.1];simp[AV.low,AV.iL],h.1,rfl⟩);have e:=t;refine wi al2 func20 [] [(18,true,[]),(19,true,[]),(20,true,[]),(21,true,[]),(22,true,[]),(23,true,[]),(24,true,[]),(26,true,[])] 999 ?_;simp[e];have⟨n,b,m⟩:=DO hm;refine Wr e m 0 (λo _ f h=>h=H/\f.1 30=sT .full Tm.av n/\f.1 31=sI (eA n)/\f.1 32=sI o/\bx f 3 (Tm.av a0).cells/\bx f 4 (Tm.av a1).cells/\bx f 5 (Tm.av a2).cells/\bx f 6 [sI 0,sI 0,nL,nL,nL]/\bx f 7 [sI 0,sI 0,sI 0,nL,nL,nL,nL]) (by(repeat' apply And.intro)<;>first|rfl|(rw[b];rfl)|simp[e,b,eA]) (λ_ _ _ _ E m=>?_) (λo _ _ _ _ _ _ _ E e m z p=>?_);rotate_left
 ·exact aa
 have e:=Aj e E;refine sg 10 [11,0,4,0,4,0,4,0,4,0,4,0,13] ?_;intro _ _ _ _ _ e m;refine sg 13 [0,1,0,1,0,4,0,4,0,4,0,4,0,4,0,4,0,4,0,4,0] ?_;intro k l _ _ _ _ _ _ _ a e m;refine DD 0 (d:=15) (cs:=[sI 3,AV.slice .full [Ty.av k,Ty.av l]]) aaD aaD ?_;refine DD 0 (d:=3) (cs:=[sI a0.alX,sI a0.al0,sI a0.dN.alX,sL Ty.av a0.dN.alY,sL Tm.av a0.alY]) aaD aaD ?_;refine DD 0 (d:=4) (cs:=[sI a1.alX,sI a1.al0,sI a1.dN.alX,sL Ty.av a1.dN.alY,sL Tm.av a1.alY]) aaD aaD ?_;refine DD 0 (d:=16) (cs:=[AV.func (.func 66) [] []]) aaD aaD ?_;refine DD 2 (d:=17) (cs:=[sI a.alX,sI a.al0,sI a.dN.alX,sL Ty.av a.dN.alY,sL Tm.av a.alY]) aaD aaD ?_;simp[e];refine DD 0 (d:=13) (cs:=[AV.func (.func 64) [] []]) aaD aaD ?_;refine DD 999 (d:=14) (cs:=[AV.func (.func 65) [] []]) aaD aaD ?_;refine sw [0,4,8,0] ?_;intro _ u e m;refine gS.Hc abD (ky T aaD aaD aaD aaD aaD e.2) aaA ?_;refine sw [8,0] ?_;intro v e m;refine gS.Hc abD (nk T aaD aaD aaD e.2) aaA ?_;simp[e];refine AK m λ_ m=>?_;simp[e];refine AK m λ_ m=>?_;simp[e];refine AK m λ_ m=>?_;simp[e];refine AK m λ_ m=>?_;simp[e];refine AK m λ_ m=>?_;simp[e];refine AK m λ_ m=>?_;simp[e];refine AK m λ_ m=>?_;simp[e];refine AK m λ_ m=>?_;simp[e];refine AK m λ_ m=>?_;simp[e];refine AK m λ_ m=>?_;simp[e];refine AK m λ_ m=>?_;simp[e];refine AK m λ_ m=>?_;simp[e];refine AK m λ_ m=>?_;simp[e];refine AK m λ_ m=>?_;simp[e];refine AK m λ_ m=>?_;simp[e];refine AK m λ_ m=>?_;simp[e];refine AK m λ_ m=>?_;simp[e];refine AK m λ_ m=>?_;simp[e];refine AK m λ_ m=>?_;simp[e];refine AK m λ_ m=>?_;refine sw [0,4,0,4,0,4,0,4,0,4,0,4,0,4,0,4,0,4,0,4,0,4,0,4,0,4,0,4,0,4,8,0] ?_;intro _ _ _ _ _ _ _ _ _ _ _ _ _ _ _ w e m;refine gS.Hc abD (ky T aaD aaD aaD aaD aaD e.2) aaA ?_;refine sw [0,4,0,4,0,4,0,4,0,4,0,4,0,4,0,4,0,4,0,4,8,0] ?_;intro _ _ _ _ _ _ _ _ _ _ y e m;refine gS.Hc abD (ky T aaD aaD aaD aaD aaD e.2) aaA ?_;refine sw [8,0] ?_;intro A e m;refine gS.Hc abD (nk T aaD aaD aaD e.2) aaA ?_;refine sw [0,4,0,4,0,4,0,4,8,0] ?_;intro _ _ _ _ B e m;refine gS.Hc abD (ky T aaD aaD aaD aaD aaD e.2) aaA ?_;refine sw [0,4,0,4,0,4,0,4,0,4,0,4,0,4,0,4,0,4,8,0] ?_;intro _ _ _ _ _ _ _ _ _ q e m;refine gS.Hc abD (ky T aaD aaD aaD aaD aaD e.2) aaA ?_;refine sw [8,0] ?_;intro r e m;refine gS.Hc abD (nk T aaD aaD aaD e.2) aaA ?_;refine sw [0,4,0,4,0,4,0,4,0,4,0,4,8,0] ?_;intro _ _ _ _ _ _ s e m;refine gS.Hc abD (ky T aaD aaD aaD aaD aaD e.2) aaA ?_;exact aa
@[reducible,instance] def VR:=@Kc.mk prog 20 _ @eH
def qL{n:Nat}:C1 prog 164 (pF n) sB Ty.av:=by
 refine i1 λn ih=>u1 4 func164 λT H a0 r m e=>?_;rw[pF] at m;simp[e];refine D3 m 3 999 (λa f h=>∃v2,(h=H/\f.1 3=sI v2/\bx f 1 (Ty.av a0).cells)/\a v2=some r) ?_ (λa _ g m=>?_)
 ·rintro _ _ ⟨v2,E,m⟩;refine sw [10,7,0] ?_;intro e m;refine Wr e m 999 (λb _ f h=>h=H/\f.1 21=sL Ty.av a0.alY/\f.1 22=sI (eA a0.alY)/\f.1 23=sI b) aaD (λ_ _ _ _ E m=>?_) (λb _ _ _ _ _ _ _ E e m z p=>?_)
  ·exact aa
  exact aa
 simp[e];refine wj 999 0 (λf h=>h=H/\f.1 3=sI 0/\f.1 7=sI a0.alX/\f.1 8=sB (fp (eo a0.alX 1) true (fp (eo a0.alX 2) true (eo a0.alX 5)))/\bx f 1 (Ty.av a0).cells) (λ_ g=>?_) ?_
 ·rcases Pb (eo a0.alX 1) e with e|e
  ·exact aj
  rcases Pb (eo a0.alX 2) e with e|e
  ·exact aj
  exact aj
 rintro _ _ E;have e:=Aj e E;apply Iq e m<;>intro e m
 ·apply wg 999;exact jo
 apply wg 1;simp[e];refine wj 999 999 (λf h=>h=H/\f.1 12=sB (fp (eo a0.alX 3) true (eo a0.alX 4))/\bx f 1 (Ty.av a0).cells) (λ_ g=>?_) ?_
 ·rcases Pb (eo a0.alX 3) e with e|e
  ·exact aj
  exact aj
 rintro _ _ E;refine sw [10,12] ?_;intro e m;exact jo
@[reducible,instance] def Zi:=@Kc.mk prog 164 _ @qL
def Ft{n:Nat}:C1 prog 165 (p2 n) sI Ty.av:=by
 refine i1 λn ih=>v1 func165 λT H a0 r m e=>?_;rw[p2] at m;simp[e];exact Wb e m 999 9 [7,8] [] (λs2 f=>f.1 3=sI s2)
@[reducible,instance] def aal:=@Kc.mk prog 165 _ @Ft
def qX:C1 prog 121 iq sI Ty.av:=by
 refine v1 func121 λT H a0 r m e=>?_;rw[iq] at m;exact aa
@[reducible,instance] def ZS:=@Kc.mk prog 121 _ @qX
def vl:C1 prog 117 mh sI (sL Ty.av):=by
 refine v1 func117 λT H a0 r m e=>?_;rw[mh] at m;refine sw [7,0] ?_;intro e m;exact Wb e m 999 11 [9,10] [] nI
@[reducible,instance] def VG:=@Kc.mk prog 117 _ @vl
def p7:C1 prog 200 pI sB Ty.av:=by
 refine u1 2 func200 λT H a0 r m e=>?_;rw[pI] at m;simp[e];refine wB 999 999 [] [] (λf=>f.1 2=sB (fp (eo a0.alX 0) (eo (eA a0.alY) 0) false)) λ_ g=>?_;exact aa
def sE:C1 prog 270 wY sI sI:=by
 refine u1 6 func270 λT H a0 r m e=>?_;rw[wY] at m;simp[e];refine wA 999 0 [3] [] (λf=>f.1 4=sB (fp (eo a0 1) true (fp (eo a0 4) true (fp (eo a0 7) true (eo a0 13))))) [13] (λ_ g=>?_) ?_
 ·rcases Pb (eo a0 1) e with e|e
  ·exact aj
  rcases Pb (eo a0 4) e with e|e
  ·exact aj
  rcases Pb (eo a0 7) e with e|e
  ·exact aj
  exact aj
 intro _ e m;apply wg 1;simp[e];refine wA 999 0 [3] [] (λf=>f.1 9=sB (fp (eo a0 2) true (fp (eo a0 5) true (fp (eo a0 11) true (eo a0 12))))) [13] (λ_ g=>?_) ?_
 ·rcases Pb (eo a0 2) e with e|e
  ·exact aj
  rcases Pb (eo a0 5) e with e|e
  ·exact aj
  rcases Pb (eo a0 11) e with e|e
  ·exact aj
  exact aj
 intro _ e m;apply wg 1;simp[e];refine wA 999 0 [3] [] (λf=>f.1 14=sB (fp (eo a0 3) true (fp (eo a0 8) true (eo a0 10)))) [13] (λ_ g=>?_) ?_
 ·rcases Pb (eo a0 3) e with e|e
  ·exact aj
  rcases Pb (eo a0 8) e with e|e
  ·exact aj
  exact aj
 intro _ e m;apply wg 1;simp[e];refine wB 999 999 [] [] (λf=>f.1 18=sB (fp (eo a0 6) true (eo a0 9))) λ_ g=>?_;rcases Pb (eo a0 6) e with e|e
 ·exact aj
 exact aj
def oX{n:Nat}:C1 prog 201 (kO n) sB Tm.av:=by
 refine i1 λn ih=>u1 3 func201 λT H a0 r m e=>?_;rw[kO] at m;simp[e];refine WA m 999 0 [] [1] (λv2 f=>f.1 26=sB v2) [13] (λd _ g m=>?_) ?_
 ·simp[e];refine qH m sE λ_ m=>?_;apply Iq e m<;>intro e m
  ·exact jo
  apply Iq e m<;>intro e m
  ·exact jo
  apply Ir e m<;>intro e m
  ·exact jo
  exact jo
 intro _ v2 e m;apply wg 2;simp[e];refine D3 m 3 999 (λb f h=>(h=H/\f.1 1=AV.ie 1 (f.gen 1) 0/\f.box 1=some (Tm.av a0).cells)/\b=some r) ?_ (λb _ g m=>?_)
 ·rintro _ _ ⟨E,m⟩;have e:=Aj e E;simp[e];refine Wr e m 999 (λa _ f h=>h=H/\f.1 42=sL Tm.av a0.alY/\f.1 43=sI (eA a0.alY)/\f.1 44=sI a) aaD (λ_ _ _ _ E m=>?_) (λa _ _ _ _ _ _ _ E e m z p=>?_)
  ·exact aa
  exact aa
 simp[e];refine wj 999 999 (λf h=>h=H/\f.1 33=sB (fp (eo a0.alX 2) true (fp (eo a0.alX 6) true (eo a0.alX 9)))/\bx f 1 (Tm.av a0).cells) (λc g=>?_) ?_
 ·rcases Pb (eo a0.alX 2) e with e|e
  ·exact aj
  rcases Pb (eo a0.alX 6) e with e|e
  ·exact aj
  exact aj
 rintro _ _ E;have e:=Aj e E;apply Iq e m<;>intro e m
 ·simp[e];refine qK m qX λ_ m=>?_;refine Il e m λe m=>?_;exact ak0
 simp[e];refine qK m p7 λ_ m=>?_;refine Im e m λe m=>?_;exact ak0
@[reducible,instance] def ZN:=@Kc.mk prog 201 _ @oX
def rG:C1 prog 267 k8 sB sI:=by
 refine u1 2 func267 λT H a0 r m e=>?_;rw[k8] at m;simp[e];refine wB 999 999 [] [] (λf=>f.1 2=sB (fp (eo a0 4) true (fp (eo a0 5) true (fp (eo a0 6) true (eo a0 7))))) λ_ g=>?_;rcases Pb (eo a0 4) e with e|e
 ·exact aj
 rcases Pb (eo a0 5) e with e|e
 ·exact aj
 rcases Pb (eo a0 6) e with e|e
 ·exact aj
 exact aj
@[reducible,instance] def Rx:=@Kc.mk prog 267 _ @rG
def iT{n:Nat}:C1 prog 196 (mm n) sB Fm.av:=by
 refine i1 λn ih=>u1 7 func196 λT H a0 r m e=>?_;rw[mm] at m;apply Iq e m<;>intro e m
 ·simp[e];refine WB m 999 999 [] [] (λv2 f=>f.1 2=sB v2) λj _ g m=>?_;apply Ir e m<;>intro e m
  ·exact jo
  simp[e];refine qK m p7 λ_ m=>?_;apply Ir e m<;>intro e m
  ·exact jo
  apply Ir e m<;>intro e m
  ·exact jo
  refine sw [8,0] ?_;intro k e m;refine qK m oX λ_ m=>?_;apply Ir e m<;>intro e m
  ·exact jo
  refine sw [8,0] ?_;intro l e m;refine qK m oX λ_ m=>?_;exact jo
 simp[e];refine wA 999 0 [] [1] (λf=>f.1 36=sB (fp (eo a0.alX 2) true (eo a0.alX 3))) [] (λ_ g=>?_) ?_
 ·exact aa
 intro _ e m;apply Ir e m<;>intro e m
 ·refine sg 3 [0,1,0,14] ?_;intro _ e m;apply wg 1;simp[e];refine WB m 999 999 [] [] (λa f=>f.1 2=sB a) λb _ g m=>?_;apply Ir e m<;>intro e m
  ·exact jo
  simp[e];refine qK m qX λ_ m=>?_;apply Ir e m<;>intro e m
  ·exact jo
  apply Ir e m<;>intro e m
  ·exact jo
  refine sw [8,0,15] ?_;intro c _ e m;exact jo
 apply wg 1;simp[e];refine WB m 999 999 [] [] (λv24 f=>f.1 2=sB v24) λd _ g m=>?_;apply Ir e m<;>intro e m
 ·exact jo
 simp[e];refine qK m p7 λ_ m=>?_;apply Ir e m<;>intro e m
 ·exact jo
 apply Ir e m<;>intro e m
 ·exact jo
 refine sw [8,0,15] ?_;intro h _ e m;apply Ir e m<;>intro e m
 ·exact jo
 refine sw [8,0,15] ?_;intro i _ e m;exact jo
@[reducible,instance] def Zj:=@Kc.mk prog 196 _ @iT
def CL{n:Nat}:C1 prog 226 (fV n) sI Tm.av:=by
 refine i1 λn ih=>v1 func226 λT H a0 r m e=>?_;rw[fV] at m;simp[e];exact Wb e m 999 9 [7,8] [] (λs2 f=>f.1 3=sI s2)
@[reducible,instance] def Zc:=@Kc.mk prog 226 _ @CL
def xT{n:Nat}:C1 prog 197 (me n) sI Fm.av:=by
 refine i1 λn ih=>v1 func197 λT H a0 r m e=>?_;rw[me] at m;simp[e];refine Wa e m 999 11 [9,10] [1] (λs2 f=>f.1 3=sI s2) [11,0] ?_;intro _ s2 e m;exact Wb e m 999 23 [21,22] [] (λa f=>f.1 3=sI a)
@[reducible,instance] def ZU:=@Kc.mk prog 197 _ @xT
def CS:C1 prog 144 j8 sI Fm.av:=by
 refine v1 func144 λT H a0 r m e=>?_;rw[j8] at m;exact aa
@[reducible,instance] def Zu:=@Kc.mk prog 144 _ @CS
def xZ:C1 prog 160 mi sI Tm.av:=by
 refine v1 func160 λT H a0 r m e=>?_;rw[mi] at m;exact aa
@[reducible,instance] def ZF:=@Kc.mk prog 160 _ @xZ
def pG:C2 prog 126 k6 Ty.av Ty.av Ty.av:=by
 refine v2 func126 λT H a0 a1 r m e=>?_;rw[k6] at m;refine sw [0,4,0,4] ?_;intro a b e m;have e:=Aj e (show AV.agg [sI 4,AV.slice .gK [Ty.av a,Ty.av b]]=Ty.av (Ty.mk 4 [a,b]) by rw[Ty.eU];rfl);exact au
@[reducible,instance] def acv:=@Kc.mk prog 126 _ @pG
def IX:C1 prog 227 uP (t2 Ty.av sI) Ty.av:=by
 refine v1 func227 λT H a0 r m e=>?_;rw[uP] at m;exact aa
@[reducible,instance] def ad_:=@Kc.mk prog 227 _ @IX
def Er:C0 prog 95 my Ty.av:=by
 refine v0 func95 λT H r m e=>?_;rw[my] at m;exact au
@[reducible,instance] def abc:=@Kc.mk prog 95 _ @Er
def iw{n:Nat}:C2 prog 79 (fv n) sB Ty.av Ty.av:=by
 refine i2 λn ih=>u2 3 func79 λT H a0 a1 r m e=>?_;rw[fv] at m;simp[e];refine wA 999 999 [] [2,3] (λf=>f.1 19=sB (fp (eL a0.alX a1.alX) true (eL (eA a0.alY) (eA a1.alY)))) [7,0] (λ_ g=>?_) ?_
 ·exact aa
 intro _ e m;exact Wb e m 999 23 [22] [2,3] nI
@[reducible,instance] def abA:=@Kc.mk prog 79 _ @iw
def Hx:C2 prog 125 tp Ty.av Ty.av Ty.av:=by
 refine v2 func125 λT H a0 a1 r m e=>?_;rw[tp] at m;refine sw [0,4,0,4] ?_;intro a b e m;have e:=Aj e (show AV.agg [sI 3,AV.slice .gK [Ty.av a,Ty.av b]]=Ty.av (Ty.mk 3 [a,b]) by rw[Ty.eU];rfl);exact au
@[reducible,instance] def adE:=@Kc.mk prog 125 _ @Hx
def Np:C0 prog 124 tC Ty.av:=by
 refine v0 func124 λT H r m e=>?_;rw[tC] at m;exact au
@[reducible,instance] def acj:=@Kc.mk prog 124 _ @Np
def ft{n:Nat}:C2 prog 161 (fJ n) (t2 Ty.av sI) (sL Ty.av) Tm.av:=by
 refine i2 λn ih=>v2 func161 λT H a0 a1 r m e=>?_;rw[fJ] at m;refine sw [13] ?_;intro e m;apply Iq e m<;>intro e m
 ·refine sw [9,0] ?_;intro e m;refine Ad (f:=Ty.av) a0 [a1.dN] (hX.full (D:=[])) FZ e.2 ?_;exact aa
 simp[e];refine Zy e m 0 (λA c f h=>∃a,(h=H/\f.1 0=sL Ty.av a0/\f.1 8=sT a Ty.av c/\f.1 67=sL Tm.av a1.alY/\f.1 68=sI (eA a1.alY)/\f.1 69=sI A/\bx f 3 (Tm.av a1).cells/\bx f 4 [sI 0,nL])/\Ow f [86] a c) (by exact⟨.full,aaD,hX.full⟩) (λA _ c j _ _ _ _ E e m z p=>?_) (λc j _ _ E m=>?_)
 ·have⟨a,E,b⟩:=E;have e:=Aj e E;refine sg 999 [0,16,7,9,0] ?_;intro u _ e m;refine Ao (f:=Ty.av) c [u] b FZ e.2 ?_;simp[e];cases m;exact p _ _ _ ⟨(.loc 86 (j.fo 86+1)),aaD,(On 86)⟩ z
 have⟨a,E,b⟩:=E;have e:=Aj e E;refine sg 13 [11,0,1,0,1,0] ?_;intro _ v e m;apply Iq e m<;>intro e m
 ·apply wg 2;simp[e];refine D3 m 999 999 (λo f h=>∃v24 d,(h=H/\f.1 8=sT d Ty.av c/\f.1 111=sB v24/\bx f 4 [sI 0,nL])/\Ow f [86] d c/\o v24=some r) ?_ (λo _ g m=>?_)
  ·rintro _ _ ⟨v24,d,E,w,m⟩;exact aa
  have⟨B,e,m⟩:=OQ e m;apply Iq e m<;>intro e m
  ·simp[e];exact g _ _ ⟨true,a,aaD,b,m⟩
  refine sw [8,8,0,4,0] ?_;intro C F x e m;exact g _ _ ⟨(lV x),a,aaD,b,m⟩
 refine sg 3 [0,13] ?_;intro e m;refine sg 3 [0,13] ?_;intro e m;apply wg 3;simp[e];apply Iq e m<;>intro e m
 ·apply wg 2;simp[e];refine D3 m 999 999 (λq f h=>∃v37,(h=H/\f.1 162=sB v37/\bx f 3 (Tm.av a1).cells/\bx f 4 [sI 0,nL])/\q v37=some r) ?_ (λq _ g m=>?_)
  ·rintro _ _ ⟨v37,E,m⟩;exact aa
  refine sw [8,0] ?_;intro G e m;refine qH m iw λ_ m=>?_;apply Ir e m<;>intro e m
  ·exact jo
  refine sw [8,0] ?_;intro I e m;refine qH m pG λ_ m=>?_;simp[e];refine qH m pG λ_ m=>?_;simp[e];refine qH m iw λ_ m=>?_;apply Ir e m<;>intro e m
  ·exact jo
  refine sw [8,0] ?_;intro J e m;refine qH m iw λ_ m=>?_;exact jo
 refine sg 3 [0,13] ?_;intro e m;apply wg 3;simp[e];apply Iq e m<;>intro e m
 ·apply wg 2;simp[e];refine D3 m 999 999 (λs f h=>∃k,(h=H/\f.1 185=sB k/\bx f 4 [sI 0,nL]/\bx f 14 (Ty.av v).cells)/\s k=some r) ?_ (λs _ g m=>?_)
  ·rintro _ _ ⟨k,E,m⟩;exact aa
  refine sw [8,0] ?_;intro K e m;refine qH m iw λ_ m=>?_;apply Ir e m<;>intro e m
  ·exact jo
  refine sw [8,0] ?_;intro L e m;refine qH m iw λ_ m=>?_;exact jo
 apply wg 3;simp[e];apply Iq e m<;>intro e m
 ·apply wg 2;simp[e];refine D3 m 999 999 (λt f h=>∃l,(h=H/\f.1 220=sB l/\bx f 3 (Tm.av a1).cells/\bx f 4 [sI 0,nL])/\t l=some r) ?_ (λt _ g m=>?_)
  ·rintro _ _ ⟨l,E,m⟩;exact aa
  refine sw [8,0] ?_;intro M e m;refine qH m iw λ_ m=>?_;apply Ir e m<;>intro e m
  ·exact jo
  refine sw [8,0] ?_;intro N e m;refine qH m pG λ_ m=>?_;simp[e];refine qH m pG λ_ m=>?_;simp[e];refine qH m pG λ_ m=>?_;simp[e];refine qH m iw λ_ m=>?_;apply Ir e m<;>intro e m
  ·exact jo
  refine sw [8,0] ?_;intro O e m;refine qH m iw λ_ m=>?_;exact jo
 refine sg 3 [0,13] ?_;intro e m;apply wg 1;simp[e];refine wj 999 0 (λf h=>∃i,(h=H/\f.1 8=sT i Ty.av c/\f.1 237=sB (fp (eo a1.alX 11) true (eo a1.alX 12))/\bx f 3 (Tm.av a1).cells/\bx f 4 [sI 0,nL])/\Ow f [86] i c) (λ_ g=>?_) ?_
 ·rcases Pb (eo a1.alX 11) e with e|e
  ·simp[e];exact g _ _ ⟨a,aaD,b⟩
  simp[e];exact g _ _ ⟨a,aaD,b⟩
 rintro _ _ ⟨i,E,y⟩;exact aa
@[reducible,instance] def ZP:=@Kc.mk prog 161 _ @ft
def C7:C2 prog 118 pY (t2 Ty.av sI) (sL Ty.av) Tm.av:=by
 refine v2 func118 λT H a0 a1 r m e=>?_;rw[pY] at m;exact aa
@[reducible,instance] def ZV:=@Kc.mk prog 118 _ @C7
def nF{n:Nat}:C2 prog 195 (nb n) sI (sL Ty.av) Fm.av:=by
 refine i2 λn ih=>v2 func195 λT H a0 a1 r m e=>?_;rw[nb] at m;simp[e];refine Zy e m 0 (λk _ f h=>h=H/\f.1 0=sL Ty.av a0/\f.1 13=sL Tm.av a1.ei/\f.1 14=sI (eA a1.ei)/\f.1 15=sI k/\bx f 3 (Fm.av a1).cells) aaD (λk _ _ d _ _ _ _ E e m z p=>?_) (λ_ d _ _ E m=>?_)
 ·exact aa
 have e:=Aj e E;refine sg 5 [11,0] ?_;intro e m;refine Wj m 999 999 (λi f h=>∃c b,(h=H/\f.1 0=sT b Ty.av c/\f.1 3=AV.ie 3 (f.gen 3) 0/\f.box 3=some (Fm.av a1).cells)/\i c=some r) (λi _ g m=>?_) ?_
 ·refine sw [0,1] ?_;intro _ e m;apply Ir e m<;>intro e m
  ·simp[e];exact g _ _ ⟨_,.gK,aaD,m⟩
  refine sw [9,0] ?_;intro e m;refine Ad (f:=Ty.av) a0 [a1.dN] (hX.full (D:=[])) FZ e.2 ?_;simp[e];exact g _ _ ⟨_,(.loc 44 (d.fo 44+1)),aaD,m⟩
 rintro _ _ ⟨c,b,E,m⟩;have e:=Aj e E;simp[e];refine Wr e m 999 (λj _ f h=>∃a,h=H/\f.1 0=sT a Ty.av c/\f.1 46=sL Fm.av a1.alY/\f.1 47=sI (eA a1.alY)/\f.1 48=sI j) ⟨b,aaD⟩ (λ_ _ _ _ E m=>?_) (λj _ _ _ _ _ _ _ E e m z p=>?_)
 ·have⟨a,E⟩:=E;exact aa
 have⟨a,E⟩:=E;refine sw [10,0,15,7,0] ?_;intro _ e m;cases m;exact p _ _ _ ⟨a,aaD⟩ z
@[reducible,instance] def Ze:=@Kc.mk prog 195 _ @nF
def Dc:C2 prog 143 kP sI (sL Ty.av) Fm.av:=by
 refine v2 func143 λT H a0 a1 r m e=>?_;rw[kP] at m;exact aa
@[reducible,instance] def Zg:=@Kc.mk prog 143 _ @Dc
def xS:C2 prog 103 ka sI (sL Ty.av) Fm.av:=by
 refine v2 func103 λT H a0 a1 r m e=>?_;rw[ka] at m;exact aa
@[reducible,instance] def ZL:=@Kc.mk prog 103 _ @xS
def ri:C2 prog 108 uC sI (sL Fm.av) Sq.av:=by
 refine v2 func108 λT H a0 a1 r m e=>?_;rw[uC] at m;refine sw [7,0] ?_;intro e m;refine Wa e m 999 17 [15,16] [3] nI [11,0,1,7,7,0] ?_;intro _ _ _ e m;exact Wb e m 999 40 [38,39] [3] nI
@[reducible,instance] def VE:=@Kc.mk prog 108 _ @ri
def jj:C1 prog 199 pT (t2 fa.av sB) sI:=by
 refine u1 6 func199 λT H a0 r m e=>?_;rw[pT] at m;simp[e];refine wA 999 0 [4] [2] (λf=>f.1 5=sB (fp (eo a0 1) true (eo a0 2))) [13] (λ_ g=>?_) ?_
 ·rcases Pb (eo a0 1) e with e|e
  ·exact aj
  exact aj
 intro _ e m;apply wg 1;simp[e];refine wA 999 0 [4] [2] (λf=>f.1 9=sB (fp (eo a0 3) true (eo a0 7))) [13] (λ_ g=>?_) ?_
 ·rcases Pb (eo a0 3) e with e|e
  ·exact aj
  exact aj
 intro _ e m;apply wg 1;simp[e];refine wA 999 0 [4] [2] (λf=>f.1 13=sB (fp (eo a0 4) true (fp (eo a0 5) true (eo a0 20)))) [13] (λ_ g=>?_) ?_
 ·rcases Pb (eo a0 4) e with e|e
  ·exact aj
  rcases Pb (eo a0 5) e with e|e
  ·exact aj
  exact aj
 intro _ e m;refine sg 3 [0,13] ?_;intro e m;apply wg 1;simp[e];refine wA 999 0 [4] [2] (λf=>f.1 21=sB (fp (eo a0 8) true (eo a0 12))) [13] (λ_ g=>?_) ?_
 ·rcases Pb (eo a0 8) e with e|e
  ·exact aj
  exact aj
 intro _ e m;apply wg 1;simp[e];refine wA 999 0 [4] [2] (λf=>f.1 25=sB (fp (eo a0 9) true (eo a0 13))) [13] (λ_ g=>?_) ?_
 ·rcases Pb (eo a0 9) e with e|e
  ·exact aj
  exact aj
 intro _ e m;apply wg 1;simp[e];refine wA 999 0 [4] [2] (λf=>f.1 29=sB (fp (eo a0 10) true (eo a0 14))) [13] (λ_ g=>?_) ?_
 ·rcases Pb (eo a0 10) e with e|e
  ·exact aj
  exact aj
 intro _ e m;apply wg 1;simp[e];refine wA 999 0 [4] [2] (λf=>f.1 33=sB (fp (eo a0 11) true (eo a0 15))) [13] (λ_ g=>?_) ?_
 ·rcases Pb (eo a0 11) e with e|e
  ·exact aj
  exact aj
 intro _ e m;apply wg 1;simp[e];refine wA 999 999 [4] [2] (λf=>f.1 37=sB (fp (eo a0 16) true (eo a0 17))) [] (λ_ g=>?_) ?_
 ·rcases Pb (eo a0 16) e with e|e
  ·exact aj
  exact aj
 intro _ e m;exact aa
@[reducible,instance] def ZI:=@Kc.mk prog 199 _ @jj
def nA{n:Nat}:C1 prog 146 (oh n) sB Pf.av:=by
 refine i1 λn ih=>u1 5 func146 λT H a0 r m e=>?_;rw[oh] at m;refine sw [0,2,0] ?_;intro a b e m;refine wA 999 0 [] [1,3] (λf=>f.1 57=sB (fp b (fp (eL (eA a0.ei) a.ei) true (fp (eL (eA a0.fZ) a.fZ) true (fp (eL (eA a0.alY) a.alY) true (fp (pg a0.al0 0) true (fp a.al0 false (eL a0.al0 0)))))) true)) [13] (λ_ g=>?_) ?_
 ·rcases Pb b e with e|e;rotate_left
  ·exact aj
  rcases Pb (eL (eA a0.ei) a.ei) e with e|e
  ·exact aj
  rcases Pb (eL (eA a0.fZ) a.fZ) e with e|e
  ·exact aj
  rcases Pb (eL (eA a0.alY) a.alY) e with e|e
  ·exact aj
  rcases Pb (pg a0.al0 0) e with e|e
  ·exact aj
  rcases Pb a.al0 e with e|e
  ·exact aj
  exact aj
 intro _ e m;apply wg 3;simp[e];refine WA m 999 999 [] [1] (λc f=>f.1 76=sB c) [7,0] (λd _ g m=>?_) ?_
 ·apply Ir e m<;>intro e m
  ·simp[e];refine qK m p7 λ_ m=>?_;exact jo
  simp[e];refine qK m qX λ_ m=>?_;apply Iq e m<;>intro e m
  ·exact jo
  exact jo
 intro _ c e m;refine Wa e m 999 80 [78,79] [1] nI [11,0] ?_;intro _ _ e m;refine Wa e m 999 91 [89,90] [1] nI [11,0] ?_;intro _ _ e m;exact Wb e m 999 102 [100,101] [] nI
@[reducible,instance] def Zl:=@Kc.mk prog 146 _ @nA
def uD{n:Nat}:C1 prog 202 (sa n) sB Pf.av:=by
 refine i1 λn ih=>v1 func202 λT H a0 r m e=>?_;rw[sa] at m;simp[e];refine Wa e m 999 12 [10,11] [1] nI [11,0] ?_;intro _ _ e m;refine Wa e m 999 23 [21,22] [1] nI [11,0] ?_;intro _ _ e m;exact Wb e m 999 34 [32,33] [] nI
def ux{n:Nat}:C1 prog 203 (rN n) sI Pf.av:=by
 refine i1 λn ih=>v1 func203 λT H a0 r m e=>?_;rw[rN] at m;simp[e];refine Wa e m 999 13 [11,12] [1] (λs2 f=>f.1 3=sI s2) [11,0] ?_;intro _ s2 e m;refine Wa e m 999 25 [23,24] [1] (λa f=>f.1 3=sI a) [11,0] ?_;intro _ a e m;exact Wb e m 999 37 [35,36] [] (λb f=>f.1 3=sI b)
def FB:C1 prog 147 z7 sB Pf.av:=by
 refine u1 2 func147 λT H a0 r m e=>?_;rw[z7] at m;simp[e];refine WB m 999 999 [] [] (λv2 f=>f.1 2=sB v2) λa _ g m=>?_;simp[e];refine qK m uD λ_ m=>?_;apply Ir e m<;>intro e m
 ·exact jo
 simp[e];refine qK m ux λ_ m=>?_;exact jo
@[reducible,instance] def aaC:=@Kc.mk prog 147 _ @FB
def C_:C1 prog 109 uI sI Pf.av:=by
 refine v1 func109 λT H a0 r m e=>?_;rw[uI] at m;exact aa
@[reducible,instance] def ZT:=@Kc.mk prog 109 _ @C_
def p9{n:Nat}:C1 prog 111 (lQ n) Fm.av Fm.av:=by
 refine i1 λn ih=>v1 func111 λT H a0 r m e=>?_;rw[lQ] at m;refine sw [0,4,0] ?_;intro t e m;refine Tc e m 999 17 [15,16] [1,2] [26] (λl=>l) (λl c f=>bx f 3 [sI a0.alX,sI t.alX,sL Ty.av t.alY,sT c Tm.av l,nL]) [11,0] (λw _ l q _ _ _ _ E e m z p=>?_) ?_
 ·have⟨c,E,i⟩:=E;refine sw [20,0,4,9,0] ?_;intro u e m;refine Ad (f:=Tm.av) l [u] i zY e.2 ?_;simp[e];cases m;exact p _ _ _ ⟨(.loc 26 (q.fo 26+1)),aaD,(On 26)⟩ z
 intro q l c i e m;refine Wr e m 999 (λs j f h=>∃a b,(h=H/\f.1 30=sL Fm.av a0.alY/\f.1 31=sI (eA a0.alY)/\f.1 32=sI s/\bx f 2 [sI 0,sI 0,nL,nL,nL]/\bx f 3 [sI a0.alX,sI t.alX,sL Ty.av t.alY,sT a Tm.av l,sT b Fm.av j])/\Ow f [26] a l/\Ow f [41] b j) (by exact⟨c,.full,aaD,i,hX.full⟩) (λj o _ _ E m=>?_) (λs _ j o _ _ _ _ E e m z p=>?_)
 ·have⟨a,b,E,k,d⟩:=E;exact aa
 have⟨a,b,E,k,d⟩:=E;refine sw [10,0,18,9,0] ?_;intro v e m;refine Ad (f:=Fm.av) j [v] d KI e.2 ?_;simp[e];cases m;exact p _ _ _ ⟨a,(.loc 41 (o.fo 41+1)),aaD,(hX.other k d aar aar),(On 41)⟩ z
@[reducible,instance] def abN:=@Kc.mk prog 111 _ @p9
def BU:C3 prog 204 rV Fm.av sI Fm.av Fm.av:=by
 refine v3 func204 λT H a0 a1 a2 r m e=>?_;rw[rV] at m;refine sw [0,4,0,4] ?_;intro a b e m;have e:=Aj e (show AV.agg [sI a0,sI 0,AV.slice .gK [],AV.slice .gK [],AV.slice .gK [Fm.av a,Fm.av b]]=Fm.av (Fm.mk a0 (Ty.mk 0 []) [] [a,b]) by rw[Fm.eU];rfl);exact au
def TM:kW prog 271=true:=by kernel_rfl
def ajS(fr:Fr)(L:List Int):Prop:=
 (L=[]/\fr.env 3=.slice .full [])\/∃cap,fr.env 3=.xX 17 (fr.gen 17) L.length cap/\fr.box 17=some (vP (λn=>AV.sc (Value.int .i64 n)) L ((cap-L.length)*1))/\L.length<=cap
def BJ(T:eO){H:dZ}{a0:List (Int×Bool)}{r0:List Int}{ak:List (Int×Bool)}{u:Nat}(G:H[u]?=some [tu (λb=>AV.sc (Value.bool b)) a0])(hm:qm a0=some (r0,ak)):eP prog T 271 [AV.nJ u] H (AV.slice .gK (List.map (λn=>AV.sc (Value.int .i64 n)) r0)) (gx H u [tu (λb=>AV.sc (Value.bool b)) ak]):=by
 unfold qm at hm;have⟨aF,hm⟩:=sG hm;have⟨V,hm⟩:=sG hm;have an:=e9 G;simp only[CA,TN] at hm;have⟨e1,e2⟩:=hm;subst e2;rw[LZ G]
 have V:(a0.map (·.1)).Nodup:=by simpa[yM] using V
 refine fH.vG (Post:=λx K=>x=AV.slice .gK (List.map (λn=>AV.sc (Value.int .i64 n)) r0)/\∃X,K=H++X) ?_ (λ_ _ h=>⟨_,h.2.choose_spec,by rw[h.1];simp[AV.low,AV.iL],h.1,rfl⟩);refine fH.intro (fn:=f271) func271 rfl TM (EX rfl) ?_;refine h9.sr [] λK1 I=>?_;simp;apply I;refine h9.sr [] λK1 I=>?_;simp;apply I;refine h9.DM λK1 I=>?_;refine h9.sr [] λK2 aG=>?_;simp[I3,G,tu];apply aG;refine h9.GJ λQ nn ex x r=>?_
 refine h9.SS (λm fr h=>∃(seen:List Nat) (L:List Int),m=Jm a0.length seen/\L.length+m<=a0.length/\HT L/\(∀x,x∈L↔∃j∈seen,∃p,a0[j]?=some p/\p.1=x)/\H++[[.mL u a0.length seen]]=h/\fr.env 7=.fh H.length 0/\ajS fr L) a0.length ?_ ?_
 ·exact⟨[],[],(Rw _).symm,aaA,.nil,aaA,aaA,rfl,.inl ⟨rfl,rfl⟩⟩
 rintro m fr h ⟨seen,L,aH,aV,hA,hL,rfl,J,hs⟩ K3 aI
 have hi:(H++[[AV.mL u a0.length seen]])[H.length]?=some [AV.mL u a0.length seen]:=aaA
 have ho:(H++[[AV.mL u a0.length seen]])[u]?=some [tu (λb=>AV.sc (Value.bool b)) a0]:=by simp[an,G]
 refine h9.sr [] λK4 ao=>?_;simp only[TP,ev,J];refine Rl a0 hi ho (λaq=>?_) (λj p W hj=>?_)
 ·--aW end
  simp;apply ao;refine h9.DM λK5 ar=>?_;refine h9.C' λA B ga Y=>?_;simp;apply Y;refine h9.exit ?_;apply ex;apply I
  have hr:Ah [] (a0.map (·.1))=L:=by
   refine HT.eq (B5 _ [] .nil V aaA) hA λx=>?_;rw[Cb,hL];simp only[ve,false_or,qz];constructor
   ·rintro⟨p,W,rfl⟩;have⟨j,hj⟩:=abQ.1 W;exact⟨j,aq j (s7.1 hj).1,p,hj,rfl⟩
   ·rintro⟨j,_,p,W,rfl⟩;exact⟨p,H9 W,rfl⟩
  rw[hr] at e1;subst e1;rcases hs with⟨rfl,o⟩|⟨cap,o,l,hle⟩
  ·refine h9.sr [] λK6 s=>?_;simp[o];apply s;refine h9.ret ?_;simp[BI,o]
  ·refine h9.akD 3 (f:=λn=>AV.sc (Value.int .i64 n)) (L:=L) (k:=(cap-L.length)*1) (sz:=1) (d:=17) (g:=fr.gen 17) (cap:=cap) (by intro x;simp) (by intro x;simp) (by simp[o]) aaA (by simp[l]) ?_;refine h9.sr [] λK6 s=>?_;simp;apply s;refine h9.ret ?_;simp[BI]
 have aw:j<a0.length:=(s7.1 W).1;have aJ:=Uq aw hj
 have aK:(H++[[AV.mL u a0.length (seen++[j])]])[H.length]?=some [AV.mL u a0.length (seen++[j])]:=aaA
 have aL:(H++[[AV.mL u a0.length (seen++[j])]])[u]?=some [tu (λb=>AV.sc (Value.bool b)) a0]:=by simp[an,G]
 have gx:gx (H++[[AV.mL u a0.length seen]]) H.length [AV.mL u a0.length (seen++[j])]=H++[[AV.mL u a0.length (seen++[j])]]:=aaA
 rw[gx];have ax:=N7 (f:=λb=>AV.sc (Value.bool b)) a0 aK aL W
 have af:p.1∉L:=by
  rw[hL];rintro⟨j',aM,p',aN,he⟩
  have h1:(a0.map (·.1))[j]?=some p.1:=by rw[zl,W];rfl
  have h2:(a0.map (·.1))[j']?=some p.1:=by rw[zl,aN];simp[he]
  have:j=j':=by
   have aO:j<(a0.map (·.1)).length:=by simpa using aw
   exact(List.getElem?_inj aO V).1 (h1.trans h2.symm)
  subst this;exact hj aM
 have aU:a0.length<=yU:=P8 aF;simp;apply ao;refine h9.DM λK5 ar=>?_;refine h9.C' λA B ga Y=>?_;simp;apply ga;refine h9.skip ?_;apply ar;refine h9.GJ λQ1 aP aX x1 r1=>?_;refine h9.sr [] λK6 s=>?_;simp[J,ax];apply s;refine h9.sr [] λK6 s=>?_
 have hlen:∃y,fr.env 3=y/\HY prog 22 y=some (.sc (.int .i64 L.length)):=by
  rcases hs with⟨rfl,o⟩|⟨cap,o,l,hle⟩
  ·exact⟨_,o,aaA⟩
  ·exact⟨_,o,aaA⟩
 have⟨y,hy,ay⟩:=hlen;simp[hy,ay];apply s
 refine h9.aiZ (λfr h=>H++[[.mL u a0.length (seen++[j])]]=h/\fr.env 7=.fh H.length 0/\fr.env 4=.sc (.int .i64 p.1)/\fr.env 5=.sc (.int .i64 (L.length:Int))/\∃cap,fr.env 3=.xX 17 (fr.gen 17) (L.length+1) cap/\fr.box 17=some (vP (λn=>AV.sc (Value.int .i64 n)) (L.take L.length++p.1::L.drop L.length) ((cap-(L.length+1))*1))/\L.length+1<=cap) (λK6 s=>?_) ?_
 ·refine h9.region [] aby ?_
  have az:fU L [p.1]=L.take L.length++p.1::L.drop L.length:=by simp[fU]
  have aY:(fU L [p.1]).length=L.length+1:=by simp[fU]
  rcases hs with⟨rfl,o⟩|⟨cap,o,l,hle⟩
  ·simp[o];refine tn.ai6 (f:=λn=>AV.sc (Value.int .i64 n)) [p.1] H4 ⟨_,adj⟩ (by intro x;simp) (by simp[J5,yU]) rfl (by first|rfl|simp) λcap Cu=>?_;simp;apply s;refine⟨rfl,?_,?_,?_,cap,?_,?_,by simpa using Cu⟩<;>simp[J]
  ·simp[o];refine tn.pn (f:=λn=>AV.sc (Value.int .i64 n)) L [p.1] (cap:=cap) H4 ⟨_,adj⟩ (by intro x;simp) (by simp[fN];omega) aaA rfl (by first|rfl|simp) (by simp[l]) hle λg' aA Cu=>?_;rw[az] at Cu;simp only[az];simp;apply s;refine⟨rfl,?_,?_,?_,aA,?_,?_,by simpa using Cu⟩<;>simp[J]
 rintro aZ h6 ⟨rfl,f7,f4,f5,cap,f3,f17,aB⟩
 refine h9.aiZ (λfr h=>H++[[.mL u a0.length (seen++[j])]]=h/\fr.env 7=.fh H.length 0/\fr.env 4=.sc (.int .i64 p.1)/\∃(i:Nat) (z:Int),fr.env 5=.sc (.int .i64 (i:Int))/\i<=L.length/\(∀a∈L.drop i,a>p.1)/\(i=0\/∃a,L[i-1]?=some a/\¬a>p.1)/\∃cap,fr.env 3=.xX 17 (fr.gen 17) (L.length+1) cap/\fr.box 17=some (vP (λn=>AV.sc (Value.int .i64 n)) (L.take i++z::L.drop i) ((cap-(L.length+1))*1))/\L.length+1<=cap) (λK7 aQ=>?_) ?_
 ·refine h9.GJ λQ2 a1 aC x2 r2=>?_
  refine h9.SS (λi fr h=>H++[[.mL u a0.length (seen++[j])]]=h/\fr.env 7=.fh H.length 0/\fr.env 4=.sc (.int .i64 p.1)/\∃(z:Int),fr.env 5=.sc (.int .i64 (i:Int))/\i<=L.length/\(∀a∈L.drop i,a>p.1)/\∃cap,fr.env 3=.xX 17 (fr.gen 17) (L.length+1) cap/\fr.box 17=some (vP (λn=>AV.sc (Value.int .i64 n)) (L.take i++z::L.drop i) ((cap-(L.length+1))*1))/\L.length+1<=cap) L.length ?_ ?_
  ·exact⟨rfl,f7,f4,p.1,f5,g_ _,aaA,cap,f3,f17,aB⟩
  clear f7 f4 f5 f3 f17 aB hy ay J hs;rintro i fr h ⟨rfl,J,e4,z,U,C,O,cap,o,l,hle⟩ K8 aR
  have stop:∀fr':Fr,fr'.env 7=.fh H.length 0->fr'.env 4=.sc (.int .i64 p.1)->fr'.env 5=.sc (.int .i64 (i:Int))->fr'.env 3=fr.env 3->fr'.gen=fr.gen->fr'.box=fr.box->(i=0\/∃a,L[i-1]?=some a/\¬a>p.1)->K7 fr' (H++[[.mL u a0.length (seen++[j])]]):=by
   intro fr' g7 g4 g5 g3 gg Y Z;exact aQ _ _ ⟨rfl,g7,g4,i,z,g5,C,O,Z,cap,by rw[g3,o,gg],by rw[Y,l],hle⟩
  refine h9.DM λK9 aS=>?_;refine h9.sr [] λa6 ad=>?_;obtain⟨c,F⟩:∃c:Int,c=(i:Int):=⟨_,rfl⟩;rw[<-F] at U;cases i with
  |zero=>
   have Z:pj c 0=false:=by rw[F];decide
   simp[U,Z];apply ad;refine h9.C' λA B ga Y=>?_;simp;apply Y;refine h9.exit ?_;apply aC;refine stop _ ?_ ?_ ?_ ?_ ?_ ?_ (.inl rfl)<;>simp[J,e4,U,F]
  |succ i=>
   have Z:pj c 0=true:=by rw[F];simp[pj]
   obtain⟨c',ah⟩:∃c':Int,c'=(i:Int):=⟨_,rfl⟩
   have R:fL .i64 c 1=c':=by rw[F,ah];exact Xd VW
   obtain⟨x,hx⟩:∃x,L[i]?=some x:=⟨_,po VW⟩
   have D:(L.take (i+1)++z::L.drop (i+1)).length=L.length+1:=abu
   have ae:dX (L.take (i+1)++z::L.drop (i+1)) c'=some x:=by
    unfold dX;rw[dR VW,ah,Ea,vV (by rw[Dl];omega),Sh,dR VW,hx]
   have S:0<=c'/\c'<((L.length+1:Nat):Int):=VW
   have q:0<=c/\c<((L.length+1:Nat):Int):=VW
   have ai:=N2 (P:=prog) (t:=3) (f:=λn=>AV.sc (Value.int .i64 n)) (k:=(cap-(L.length+1))*1) XT (by intro x;simp) ae;generalize hM:L.take (i+1)++z::L.drop (i+1)=M at l D ae ai;generalize hN:L.length+1=N at o l hle D S q ai
   have aD:∀fr':Fr,fr'.gen 17=fr.gen 17->fr'.box 17=fr.box 17->vz prog fr' (H++[[AV.mL u a0.length (seen++[j])]]) 3 (.ie 17 (fr.gen 17) (Qe c'.toNat 1))=some (.sc (.int .i64 x)):=by
    intro fr' g1 g2;show(if fr.gen 17=fr'.gen 17 then(match fr'.box 17 with|some cs=>mB prog 3 cs (Qe c'.toNat 1)|none=>none)else none)=_;rw[dR g1.symm,g2,l];exact ai
   simp[U,o,Z,R,S,aD,e4,-vz];apply ad;have a7:M.length=N:=D
   have v:dX M c=some z:=by
    unfold dX;rw[dR VW,F,Ea,<-hM,tQ abu];simp[Dl,show min (i+1) L.length=i+1 from by omega]
   have w:GO M c x=L.take i++x::L.drop i:=by
    have hd:L.drop i=x::L.drop (i+1):=by
     rw[Nz (by omega:i<L.length)]
     congr 1
     exact(s7.1 hx).2
    have ht:L.take (i+1)=L.take i++[x]:=by rw[ai5,hx];rfl
    unfold GO;rw[F,Ea,<-hM,hd,aiN _ _ abu];rw[Dl,show min (i+1) L.length=i+1 from by omega,Nat.sub_self,aht,ht,tM];rfl
   refine h9.C' λA B ga Y=>?_;rcases Bool.eq_false_or_eq_true (pj x p.1)with hgx|hgx
   ·simp[hgx];apply ga;refine h9.skip ?_;apply aS;refine h9.GJ λQ3 aT a8 x3 r3=>?_;refine h9.sr [] λa_ aE=>?_;simp[U,o,R,S,q,aD,e4,-vz];refine Dx.arr (f:=λn=>AV.sc (Value.int .i64 n)) (L:=M) (k:=(cap-N)*1) x XT (by intro x;simp) aaA (x:=z) v aaA (by simp[l]) aaA ?_;simp;apply aE;refine h9.region [] aby ?_;simp[U,R];apply aT;rw[w];refine aR _ _ i (abO _) ⟨rfl,?_,?_,x,?_,VW,?_,cap,?_,?_,by rw[hN];exact hle⟩
    ·simp[J]
    ·simp[e4]
    ·simp[ah]
    ·intro a ha
     have hd:L.drop i=x::L.drop (i+1):=by
      rw[Nz (by omega:i<L.length)]
      congr 1
      exact(s7.1 hx).2
     rw[hd] at ha;rcases mb.1 ha with rfl|ha
     ·simpa[pj] using hgx
     ·exact O a ha
    ·simp[o,hN]
    ·simp[hN]
   ·simp[hgx];apply Y;refine h9.exit ?_;apply aC;refine stop _ ?_ ?_ ?_ ?_ ?_ ?_ (.inr ⟨x,by simpa using hx,by simpa[pj] using hgx⟩)<;>simp[J,e4,U,o,F]
 rintro fr h ⟨rfl,J,e4,i,z,U,C,O,Z,cap,o,l,hle⟩;refine h9.region [] aby ?_;obtain⟨c,F⟩:∃c:Int,c=(i:Int):=⟨_,rfl⟩;rw[<-F] at U
 have D:(L.take i++z::L.drop i).length=L.length+1:=abu
 have v:dX (L.take i++z::L.drop i) c=some z:=by
  unfold dX;rw[dR VW,F,Ea,tQ abu];simp[Dl,aek C]
 have w:GO (L.take i++z::L.drop i) c p.1=DW p.1 L:=by
  rw[RR L i hA af C O Z];unfold GO;rw[F,Ea,aiN _ _ abu,Dl,aek C,Nat.sub_self,aht]
 have q:0<=c/\c<((L.length+1:Nat):Int):=VW
 have hlen:(DW p.1 L).length=L.length+1:=by rw[RR L i hA af C O Z];simp;omega
 generalize hM:L.take i++z::L.drop i=M at l D v w;generalize hN:L.length+1=N at o l hle D q hlen;simp[U,o,e4,q];refine Dx.arr (f:=λn=>AV.sc (Value.int .i64 n)) (L:=M) (k:=(cap-N)*1) p.1 XT (by intro x;simp) aaA (x:=z) v aaA (by simp[l]) aaA ?_;simp;apply aP;rw[w];refine aI _ _ _ (by rw[aH];exact aJ) ⟨seen++[j],DW p.1 L,rfl,VW,Kq p.1 L af hA,?_,rfl,?_,.inr ⟨cap,?_,?_,by rw[hlen];exact hle⟩⟩
 ·intro x;rw[Bx,hL];constructor
  ·rintro(rfl|⟨j',h1,p',h2,h3⟩)
   ·exact⟨j,aaA,p,W,rfl⟩
   ·exact⟨j',by simp[h1],p',h2,h3⟩
  ·rintro⟨j',h1,p',h2,h3⟩;rcases tO.1 h1 with h1|h1
   ·exact .inr ⟨j',h1,p',h2,h3⟩
   ·simp only[EY] at h1;subst h1;rw[W] at h2;obtain rfl:=kX h2;exact .inl h3.symm
 ·simp[J]
 ·simp[o,hlen]
 ·simp[hlen]
def kp(T:eO){H:dZ}{a0 a1 c:List Int}(hm:gu a0 a1=some c):eP prog T 205 [sL sI a0,sL sI a1] H (sL sI c) H:=by
 rw[gu] at hm;refine fH.vG (Post:=λx K=>x=sL sI c/\∃X,K=H++X) ?_ (λ_ _ h=>⟨_,h.2.choose_spec,by rw[h.1];simp[AV.low,AV.iL],h.1,rfl⟩);have e:=trivial;refine wi al2 func205 [] [] 999 ?_;simp[e];refine Zy e hm 999 (λd s2 f h=>h=H++[[tu sB s2]]/\f.1 1=sL sI a1/\f.1 5=AV.nJ (List.length H)/\f.1 11=sL sI a0/\f.1 12=sI (eA a0)/\f.1 13=sI d) aaD (λd _ s2 _ _ _ _ _ E e m z p=>?_) (λs2 _ _ _ E m=>?_)
 ·have e:=Aj e E;simp[e];refine uG.i64 (f:=sB) s2 true RY vN aaD aaD ?_;exact al
 have e:=Aj e E;refine sw [11,0] ?_;intro e m;refine Wr e m 999 (λb a f h=>h=H++[[tu sB a]]/\f.1 5=AV.nJ (List.length H)/\f.1 20=sL sI a1/\f.1 21=sI (eA a1)/\f.1 22=sI b) aaD (λa _ _ _ E m=>?_) (λb _ a _ _ _ _ _ E e m z p=>?_)
 ·have e:=Aj e E;dsimp only[eC]at m;simp[e];refine EJ m (BJ T aaD) λ_ d22 m=>?_;exact au
 have e:=Aj e E;simp[e];refine uG.i64 (f:=sB) a true RY vN aaD aaD ?_;exact al
@[reducible,instance] def Zr:=@Kc.mk prog 205 _ @kp
def j_:C3 prog 206 eD sI dS.av sI sI:=by
 refine u3 3 func206 λT H a0 a1 a2 r m e=>?_;rw[eD] at m;simp[e];refine wB 999 999 [] [] (λf=>f.1 20=sB (fp (pj (eW .i64 (eA a0.al1) a1) 16) true (pj (eW .i64 (eA a0.al4) a2) 16))) λ_ g=>?_;exact aa
@[reducible,instance] def PK:=@Kc.mk prog 206 _ @j_
def lB:C2 prog 207 gn dS.av dS.av Fm.av:=by
 refine v2 func207 λT H a0 a1 r m e=>?_;rw[gn] at m;refine sw [9,0] ?_;intro e m;refine Ad (f:=Fm.av) a0.al4 [a1] (hX.full (D:=[])) KI e.2 ?_;exact au
@[reducible,instance] def OW:=@Kc.mk prog 207 _ @lB
def zb{n:Nat}:C2 prog 268 (lN n) sB Tm.av Tm.av:=by
 refine i2 λn ih=>u2 3 func268 λT H a0 a1 r m e=>?_;rw[lN] at m;simp[e];refine WA m 999 999 [] [2,3] (λv2 f=>f.1 34=sB v2) [7,0] (λa _ g m=>?_) ?_
 ·apply Iq e m<;>intro e m
  ·exact jo
  apply Iq e m<;>intro e m
  ·exact jo
  simp[e];refine qK m iw λ_ m=>?_;apply Ir e m<;>intro e m
  ·exact jo
  exact jo
 intro _ v2 e m;exact Wb e m 999 38 [37] [2,3] nI
@[reducible,instance] def abV:=@Kc.mk prog 268 _ @zb
def qJ{n:Nat}:C2 prog 304 (lz n) sB Tm.av sI:=by
 refine i2 λn ih=>v2 func304 λT H a0 a1 r m e=>?_;rw[lz] at m;refine sw [7,0] ?_;intro e m;exact Wb e m 999 14 [1,12,13] [] nI
@[reducible,instance] def ZW:=@Kc.mk prog 304 _ @qJ
def oD:C1 prog 325 wv sB Tm.av:=by
 refine u1 8 func325 λT H a0 r m e=>?_;rw[wv] at m;refine sw [0,13] ?_;intro e m;apply wg 3;simp[e];apply Iq e m<;>intro e m
 ·apply wg 1;simp[e];refine WB m 999 999 [] [] (λv3 f=>f.1 2=sB v3) λb _ g m=>?_;have⟨c,e,m⟩:=OQ e m;apply Iq e m<;>intro e m
  ·exact jo
  exact jo
 apply wg 4;apply Iq e m<;>intro e m
 ·simp[e];refine WB m 999 999 [] [] (λv9 f=>f.1 2=sB v9) λd _ g m=>?_;have⟨a,e,m⟩:=OQ e m;apply Iq e m<;>intro e m
  ·exact jo
  exact jo
 simp[e];refine wA 999 999 [] [1] (λf=>f.1 45=sB (fp (eo a0.alX 11) true (eo a0.alX 12))) [] (λ_ g=>?_) ?_
 ·rcases Pb (eo a0.alX 11) e with e|e
  ·exact aj
  exact aj
 intro _ e m;exact aa
def CH:C1 prog 331 lv sI Tm.av:=by
 refine v1 func331 λT H a0 r m e=>?_;rw[lv] at m;exact aa
@[reducible,instance] def Z0:=@Kc.mk prog 331 _ @CH
def qW{n:Nat}:C2 prog 341 (ng n) sI Tm.av sI:=by
 refine i2 λn ih=>u2 4 func341 λT H a0 a1 r m e=>?_;rw[ng] at m;simp[e];refine wA 0 999 [1] [2] (λf=>f.1 5=sI (fp (fp (eo a0.alX 1) (eo a0.al0 a1) false) (eW .i64 0 1) 0)) [0] (λ_ g=>?_) ?_
 ·refine wA 999 999 [1,5] [2] (λf=>f.1 16=sB (fp (eo a0.alX 1) (eo a0.al0 a1) false)) [] (λ_ g=>?_) ?_
  ·exact aa
  intro _ e m;rcases Pb (fp (eo a0.alX 1) (eo a0.al0 a1) false) e with e|e
  ·exact aj
  exact aj
 intro _ e m;exact Wb e m 999 22 [1,20,21] [2] (λa f=>f.1 5=sI a)
@[reducible,instance] def Zp:=@Kc.mk prog 341 _ @qW
def AS:C1 prog 326 sD sI Tm.av:=by
 refine v1 func326 λT H a0 r m e=>?_;rw[sD] at m;exact aa
def tr{n:Nat}:C3 prog 310 (sq n) Tm.av Tm.av sI sI:=by
 refine i3 λn ih=>u3 4 func310 λT H a0 a1 a2 r m e=>?_;rw[sq] at m;simp[e];refine wA 0 999 [1,2] [3,6] (λf=>bx f 7 [sI a0.alX,sI (fp (fp (eo a0.alX 1) (qa a0.al0 a1) false) (eW .i64 a0.al0 a2) a0.al0),sI a0.dN.alX,sL Ty.av a0.dN.alY,nL]) [0] (λ_ g=>?_) ?_
 ·refine wA 999 999 [1,2] [3,6,7] (λf=>f.1 25=sB (fp (eo a0.alX 1) (qa a0.al0 a1) false)) [] (λ_ g=>?_) ?_
  ·exact aa
  intro _ e m;rcases Pb (fp (eo a0.alX 1) (qa a0.al0 a1) false) e with e|e
  ·exact aj
  exact aj
 intro _ e m;refine Td e m 999 34 [1,2,32,33] [3,6] [48] (λc=>c) (λc a f=>bx f 7 [sI a0.alX,sI (fp (fp (eo a0.alX 1) (qa a0.al0 a1) false) (eW .i64 a0.al0 a2) a0.al0),sI a0.dN.alX,sL Ty.av a0.dN.alY,sT a Tm.av c]) λi _ c d _ _ _ _ E e m z p=>?_;have⟨a,E,b⟩:=E;refine sw [20,0,4,0,18,9,0] ?_;intro _ h e m;refine Ad (f:=Tm.av) c [h] b zY e.2 ?_;simp[e];cases m;exact p _ _ _ ⟨(.loc 48 (d.fo 48+1)),aaD,(On 48)⟩ z
@[reducible,instance] def agk:=@Kc.mk prog 310 _ @tr
def wD{n:Nat}:C4 prog 342 (xa n) Tm.av Tm.av sI sI Tm.av:=by
 refine i4 λn ih=>v4 func342 λT H a0 a1 a2 a3 r m e=>?_;rw[xa] at m;refine sw [13,0] ?_;intro e m;refine Td e m 999 47 [1,2,45,46] [4,7,8] [62] (λb=>b) (λb a f=>bx f 9 [sI a0.alX,sI a0.al0,sI a0.dN.alX,sL Ty.av a0.dN.alY,sT a Tm.av b]) λi _ b d _ _ _ _ E e m z p=>?_;have⟨a,E,c⟩:=E;refine sw [20,0,4,0,18,9,0] ?_;intro _ h e m;refine Ad (f:=Tm.av) b [h] c zY e.2 ?_;simp[e];cases m;exact p _ _ _ ⟨(.loc 62 (d.fo 62+1)),aaD,(On 62)⟩ z
@[reducible,instance] def afM:=@Kc.mk prog 342 _ @wD
def Av:C1 prog 327 q8 Tm.av Tm.av:=by
 refine v1 func327 λT H a0 r m e=>?_;rw[q8] at m;exact aa
def T9:kW prog 305=true:=by kernel_rfl
def KT:∀(n:Nat),C2 prog 305 (oA n) (t3 Tm.av sB sB) Tm.av sI:=by
  intro n
  induction n with
  |zero=>
    skip
    all_goals(intro _ _;intros;rename_i hm;cases hm)
  |succ n ih=>
 rintro T H a0 a1 ⟨r0,r1,r2⟩ hm;rw[oA] at hm;refine fH.intro (fn:=f305) func305 rfl T9 (EX rfl) ?_;refine h9.sr [] λK1 aZ=>?_;simp;apply aZ;refine h9.DM λK3 a6=>?_;refine h9.sr [] λK5 a7=>?_;have⟨x7,a8,N⟩:=lK hm;clear hm
 try dsimp only at N
 simp;refine lP.fn (oD a8) ?_;simp;apply a7;refine h9.C' λbs bt aw ax=>?_;rcases E3 N with⟨a,O⟩|⟨a,P⟩
 ·clear N;simp[a];apply aw;refine h9.DM λbu ay=>?_;refine h9.sr [] λbw az=>?_;have⟨bz,aA,B⟩:=lK O;clear O
  try dsimp only at B
  simp[a];refine lP.fn (AS aA) ?_;simp[a];apply az;refine h9.C' λbA bB aB aC=>?_;rcases E3 B with⟨s,Q⟩|⟨s,R⟩
  ·clear B;simp[a,s];apply aB;refine h9.sr [] λbC aD=>?_;simp[a,s];apply aD;refine h9.ret ?_;simp only[CA,TN] at Q;obtain⟨rfl,rfl,rfl⟩:=Q;simp[BI,a,s]
  clear B;simp[a,s];apply aC;refine h9.skip ?_;apply ay;refine h9.sr [] λbD aE=>?_;have⟨bE,aF,G⟩:=lK R;clear R
  try dsimp only at G
  simp[a,s];refine lP.fn (Av aF) ?_;simp[a,s];apply aE;refine h9.ret ?_;simp only[CA,TN] at G;obtain⟨rfl,rfl,rfl⟩:=G;simp[BI,a,s]
 clear N;simp[a];apply ax;refine h9.skip ?_;apply a6;refine h9.DM λbF aG=>?_;refine h9.sr [] λbG aH=>?_;simp[a];apply aH;have⟨V,S⟩:=sG P;clear P;have⟨a_,aI,I⟩:=DO S;clear S
 try dsimp only at I
 have⟨W,t,r⟩:=lK I;clear I;refine h9.GJ λbH a' aJ ba aK=>?_;refine h9.SS (λn55 fr h=>∃(i56:Nat) (F:Int) (u:Nat) (v:Nat),H=h/\(fr.env 1=sI a1/\fr.env 2=AV.ie 2 u 0/\fr.env 4=AV.ie 4 v 0/\fr.env 23=sL Tm.av a0.alY/\fr.env 24=sI (eA a0.alY)/\fr.env 25=sI F/\fr.gen 2=u/\fr.box 2=some [sI a0.alX,sI a0.al0,sI a0.dN.alX,sL Ty.av a0.dN.alY,sL Tm.av a0.alY]/\fr.gen 4=v/\fr.box 4=some [sI 0,sI 0,sI 0,nL,nL])/\F=(i56:Int)/\i56+n55=List.length a0.alY/\fw a_ (List.drop i56 a0.alY) i56 ()=some W) (List.length a0.alY) ?_ ?_
 ·refine⟨0,0,1,1,?_,⟨?_,?_,?_,?_,?_,?_,?_,?_,?_,?_⟩,rfl,aaA,t⟩<;>first|rfl|simp[a]
 rintro n55 U bI ⟨i56,F,u,v,rfl,j,A,bb,t⟩ bJ aL;rcases n55 with _|n55
 ·have b:=W2 (l:=a0.alY) A VW;refine h9.sr [] λbK aM=>?_;simp[j,b,a];apply aM;refine h9.DM λbL bc=>?_;refine h9.C' λbM bN bd aN=>?_;simp[j,b,a];apply aN;refine h9.exit ?_;apply aJ;rw[OH VW,pq] at t;obtain rfl:=kX t;rw[eC] at r
  try dsimp only at r
  apply aG;refine h9.sr [] λbO aO=>?_;simp[j,b,a];apply aO;refine h9.ret ?_;simp only[CA,TN] at r;obtain⟨rfl,rfl,rfl⟩:=r;simp[BI,j,b,a]
 have b:=abE (l:=a0.alY) A VW;have⟨bP,X,i⟩:=X' (l:=a0.alY) A VW;rw[X,fY] at t;have⟨bQ,C,D⟩:=lK t;clear t;rw[aI,<-A] at C
 try dsimp only at C
 refine h9.sr [] λbR aP=>?_;simp[j,b,i,a];apply aP;refine h9.DM λbS aQ=>?_;refine h9.C' λbT bU aR bf=>?_;simp[j,b,i,a];apply aR;refine h9.skip ?_;apply aQ;refine h9.DM λbV aS=>?_;refine h9.GJ λbW bg aT bh aU=>?_;refine h9.sr [] λbX aV=>?_;simp[j,b,i,a];apply aV;refine h9.sr [] λbY aW=>?_;have⟨Y,bZ,bj,Z,w⟩:=DG C;clear C
 try dsimp only at w
 simp[j,b,i,a];refine lP.fn (ih Z) ?_;simp[j,b,i,a];apply aW;refine h9.DM λbk ad=>?_;refine h9.sr [] λbl ae=>?_;simp[j,b,i,a];apply ae;refine h9.C' λbm bn af ah=>?_;rcases E3 w with⟨c,J⟩|⟨c,ai⟩;rotate_left
 ·clear w;simp[j,b,i,a,c];apply af;refine h9.exit ?_;apply aT;apply aS;refine h9.region [] aby ?_;simp[j,b,i,a,c];obtain rfl:=kX ai;rw[fk] at D
  refine aL _ _ n55 (abO _) ⟨(i56+1),(eW .i64 F 1),u,v,?_,⟨?_,?_,?_,?_,?_,?_,?_,?_,?_,?_⟩,(TW A VW V),VW,D⟩<;>first|rfl|simp[j,b,i,a,c]
 clear w;simp[j,b,i,a,c];apply ah;refine h9.skip ?_;apply ad;refine h9.sr [] λbo ak=>?_;simp[j,b,i,a,c];apply ak;refine h9.sr [] λbp an=>?_;have⟨ao,K⟩:=sG J;clear J;simp[j,b,i,a,c];refine tn.ai6 (f:=Tm.av) a0.alY zY ⟨_,afF⟩ (by intro x;simp) ao (by first|rfl|simp) (by first|rfl|simp) λy aX=>?_;simp[j,b,i,a,c];apply an;refine h9.sr [] λbq aq=>?_;have⟨aY,o,M⟩:=lK K;clear K
 try dsimp only at M
 have q:=RU o;simp[j,b,i,o,q,a,c];refine Dx.arr (f:=Tm.av) (L:=a0.alY) (k:=((y-List.length a0.alY)*5)) Y adI (by intro x;simp) (by simp[j,b,i,o,q,a,c]) (x:=aY) (by assumption) (by simp[j,b,i,o,q,a,c]) (by simp[j,b,i,o,q,a,c]) (by simp[j,b,i,o,q,a,c]) ?_;simp[j,b,i,o,q,a,c];apply aq;refine h9.DM λbr ar=>?_;refine h9.ajL 12 4 (cs2:=[sI a0.alX,sI a0.al0,sI a0.dN.alX,sL Ty.av a0.dN.alY,AV.xX 42 (U.gen 42+1) (List.length (GO a0.alY F Y)) y]) (f:=Tm.av) (L:=(GO a0.alY F Y)) (k:=((y-List.length a0.alY)*5)) (sz:=5) (d:=42) (g:=(U.gen 42+1)) (cap:=y) (by intro x;simp) (by intro x;simp) aar (by simp[j,b,i,o,q,a,c]) (by simp[j,b,i,o,q,a,c]) (by simp[j,b,i,o,q,a,c]) (by simp[j,b,i,o,q,a,c]) ?_;refine h9.region [] aby ?_;simp[j,b,i,o,q,a,c];apply ar;refine h9.ret ?_;apply aU;apply aK;obtain rfl:=kX M;rw[Od] at D;obtain rfl:=kX D;rw[sV] at r
 try dsimp only at r
 simp only[CA,TN] at r;obtain⟨rfl,rfl,rfl⟩:=r;simp[BI,j,b,i,o,q,a,c]
def NG{n:Nat}:C2 prog 305 (oA n) (t3 Tm.av sB sB) Tm.av sI:=(KT n)
@[reducible,instance] def abw:=@Kc.mk prog 305 _ @NG
def pC:C2 prog 269 lb (t3 Tm.av sI sI) Tm.av sI:=by
 refine u2 7 func269 λT H a0 a1 r m e=>?_;rw[lb] at m;refine sw [0,1,0,13] ?_;intro _ e m;apply wg 3;simp[e];refine WA m 999 999 [] [2,4] (λv3 f=>f.1 1=sI a1/\f.1 28=sB v3) [7,0] (λj _ g m=>?_) ?_
 ·apply Iq e m<;>intro e m
  ·exact jo
  apply Iq e m<;>intro e m
  ·exact jo
  simp[e];refine qK m qJ λ_ m=>?_;exact jo
 intro _ v3 e m;refine Wn m 999 (λa f h=>h=H/\f.1 1=sI a1/\f.1 8=sI a.1/\bx f 2 [sI a.2.1,sI a.2.2.1,sI a.2.2.2.1,sL Ty.av a.2.2.2.2.1,sL Tm.av a.2.2.2.2.2]/\bx f 4 [sI 0,sI 0,sI 0,nL,nL]) aaD (λa _ _ _ _ _ E m z p=>?_);have⟨b,c,d,i,v20,v21⟩:=a;have e:=Aj e E;dsimp only[Bv]at m;exact aa
@[reducible,instance] def WC:=@Kc.mk prog 269 _ @pC
def CU:C3 prog 198 mf sI Tm.av Tm.av sI:=by
 refine v3 func198 λT H a0 a1 a2 r m e=>?_;rw[mf] at m;exact aa
@[reducible,instance] def ZM:=@Kc.mk prog 198 _ @CU
def ur{n:Nat}:C2 prog 145 (lC n) sI Fm.av Fm.av:=by
 refine i2 λn ih=>u2 3 func145 λT H a0 a1 r m e=>?_;rw[lC] at m;simp[e];refine WA m 999 999 [] [2,3] (λv2 f=>f.1 21=sB v2) [7,0] (λa _ g m=>?_) ?_
 ·apply Iq e m<;>intro e m
  ·exact jo
  simp[e];refine qK m iw λ_ m=>?_;exact jo
 intro _ v2 e m;refine Wa e m 999 25 [24] [2,3] nI [11,0] ?_;intro _ _ e m;exact Wb e m 999 46 [45] [2,3] nI
@[reducible,instance] def Zt:=@Kc.mk prog 145 _ @ur
def yf:C2 prog 104 lu sI Fm.av Fm.av:=by
 refine v2 func104 λT H a0 a1 r m e=>?_;rw[lu] at m;exact aa
@[reducible,instance] def Y6:=@Kc.mk prog 104 _ @yf
def Lg:C1 prog 309 mW sI Fm.av:=by
 refine v1 func309 λT H a0 r m e=>?_;rw[mW] at m;simp[e];refine qK m rG λ_ m=>?_;refine Il e m λe m=>?_;exact au
@[reducible,instance] def Y9:=@Kc.mk prog 309 _ @Lg
def oC{n:Nat}:C3 prog 281 (iD n) Fm.av Fm.av sI sI:=by
 refine i3 λn ih=>v3 func281 λT H a0 a1 a2 r m e=>?_;rw[iD] at m;simp[e];refine Tc e m 999 20 [1,2,18,19] [3,6] [31] (λs2=>s2) (λs2 c f=>bx f 7 [sI a0.alX,sI a0.dN.alX,sL Ty.av a0.dN.alY,sT c Tm.av s2,nL]) [11,0] (λu _ s2 o _ _ _ _ E e m z p=>?_) ?_
 ·have⟨c,E,i⟩:=E;refine sw [20,0,4,9,0] ?_;intro s e m;refine Ad (f:=Tm.av) s2 [s] i zY e.2 ?_;simp[e];cases m;exact p _ _ _ ⟨(.loc 31 (o.fo 31+1)),aaD,(On 31)⟩ z
 intro o s2 c i e m;refine Wr e m 999 (λq j f h=>∃a b,(h=H/\f.1 1=sI a1/\f.1 2=sI a2/\f.1 35=sL Fm.av a0.alY/\f.1 36=sI (eA a0.alY)/\f.1 37=sI q/\bx f 3 (Fm.av a0).cells/\bx f 6 [sI 0,sI 0,nL,nL,nL]/\bx f 7 [sI a0.alX,sI a0.dN.alX,sL Ty.av a0.dN.alY,sT a Tm.av s2,sT b Fm.av j])/\Ow f [31] a s2/\Ow f [51] b j) (by exact⟨c,.full,aaD,i,hX.full⟩) (λj l _ _ E m=>?_) (λq _ j l _ _ _ _ E e m z p=>?_)
 ·have⟨a,b,E,k,d⟩:=E;exact aa
 have⟨a,b,E,k,d⟩:=E;refine sw [10,0,4,0,18,9,0] ?_;intro _ t e m;refine Ad (f:=Fm.av) j [t] d KI e.2 ?_;simp[e];cases m;exact p _ _ _ ⟨a,(.loc 51 (l.fo 51+1)),aaD,(hX.other k d aar aar),(On 51)⟩ z
@[reducible,instance] def agi:=@Kc.mk prog 281 _ @oC
def jC:C2 prog 272 fx dS.av dS.av (sL Ty.av):=by
 refine v2 func272 λT H a0 a1 r m e=>?_;rw[fx] at m;refine sw [9,0] ?_;intro e m;refine Ad (f:=Ty.av) a0.al1 a1 (hX.full (D:=[])) FZ e.2 ?_;simp[e];refine Wr e m 999 (λk s2 f h=>∃a b,(h=H/\f.1 1=sL Ty.av a1/\f.1 23=sL Fm.av a0.al4/\f.1 24=sI (eA a0.al4)/\f.1 25=sI k/\bx f 4 [nL,nL,nL]/\bx f 5 [sL Fm.av a0.lemmas,sT a Ty.av (fU a0.al1 a1),sT b Fm.av s2])/\Ow f [20] a (fU a0.al1 a1)/\Ow f [36] b s2) (by exact⟨(.loc 20 1),.full,aaD,(On 20),hX.full⟩) (λs2 i _ _ E m=>?_) (λk _ s2 i _ _ _ _ E e m z p=>?_)
 ·have⟨a,b,E,d,c⟩:=E;exact aa
 have⟨a,b,E,d,c⟩:=E;refine sw [10,0,4,9,0] ?_;intro j e m;refine Ad (f:=Fm.av) s2 [j] c KI e.2 ?_;simp[e];cases m;exact p _ _ _ ⟨a,(.loc 36 (i.fo 36+1)),aaD,(hX.other d c aar aar),(On 36)⟩ z
@[reducible,instance] def NS:=@Kc.mk prog 272 _ @jC
def LF:C3 prog 273 nO Fm.av sI Ty.av Fm.av:=by
 refine v3 func273 λT H a0 a1 a2 r m e=>?_;rw[nO] at m;refine sw [0,4,0,4] ?_;intro a b e m;have e:=Aj e (show AV.agg [sI a0,sI a.alX,sL Ty.av a.alY,AV.slice .gK [],AV.slice .gK [Fm.av b]]=Fm.av (Fm.mk a0 a [] [b]) by rw[Fm.eU];rfl);exact au
@[reducible,instance] def agL:=@Kc.mk prog 273 _ @LF
def mQ:C2 prog 274 gy (sL sI) (sL sI) sI:=by
 refine v2 func274 λT H a0 a1 r m e=>?_;rw[gy] at m;simp[e];refine Td e m 0 10 [1,8,9] [] [22] (λs2=>s2) (λs2 b f=>f.1 5=sT b sI s2) λl k s2 j _ _ _ n E e m z p=>?_;have⟨b,E,c⟩:=E;simp[e]at E;have e:=Aj e E;apply wg 5;simp[e];refine D3 m 999 999 (λi f h=>∃v12 a,(h=H/\f.1 1=sI a1/\f.1 5=sT a sI v12/\f.1 8=sL sI a0/\f.1 9=sI (eA a0)/\f.1 10=sI l)/\Ow f [22] a v12/\i v12=some n) ?_ (λi _ g m=>?_)
 ·rintro _ _ ⟨v12,a,E,d,m⟩;have e:=Aj e E;simp[e];cases m;exact p _ _ _ ⟨a,aaD,d⟩ z
 apply Ir e m<;>intro e m
 ·simp[e];exact g _ _ ⟨s2,b,aaD,c,m⟩
 refine sw [9,0] ?_;intro e m;refine Ao (f:=sI) s2 [(fL .i64 k a1)] c H4 e.2 ?_;simp[e];exact g _ _ ⟨(fU s2 [(fL .i64 k a1)]),(.loc 22 (j.fo 22+1)),aaD,(On 22),m⟩
@[reducible,instance] def Vv:=@Kc.mk prog 274 _ @mQ
def Bn:C1 prog 275 rX sB (sL sI):=by
 refine u1 2 func275 λT H a0 r m e=>?_;rw[rX] at m;simp[e];refine WB m 999 999 [] [] (λv2 f=>f.1 2=sB v2) λa _ g m=>?_;apply Ir e m<;>intro e m
 ·exact jo
 have⟨b,e,m⟩:=OQ e m;exact jo
@[reducible,instance] def adp:=@Kc.mk prog 275 _ @Bn
def Bj:C2 prog 77 iZ (t2 Ty.av sI) (sL Ty.av) Tm.av:=by
 refine v2 func77 λT H a0 a1 r m e=>?_;rw[iZ] at m;exact aa
@[reducible,instance] def WG:=@Kc.mk prog 77 _ @Bj
def uh(T:eO):∀(n:Nat),(∀{H:dZ} {a0:Tm} {a1:Int} {a2:(List (Int×Bool))} {a:(List (Int×Bool))} {o2:Nat} (b:H[o2]?=some [tu sB a2]) (hm:pZ n a0 a1 a2=some a),eP prog T 328 [Tm.av a0,sI a1,AV.nJ o2] H (AV.tuple []) (gx H o2 [tu sB a])):=by
  intro n
  induction n with
  |zero=>
    skip
    all_goals(intro _ _;intros;rename_i hm;cases hm)
  |succ n ih=>
 intro H a0 a1 a2 a o2 b hm;rw[pZ] at hm;have i:=e9 b;refine fH.Ng b ?_;have e:=i;refine wi al2 func328 [] [] 2 ?_;simp[e];refine Wj hm 0 999 (λj f h=>∃(v2:(List (Int×Bool))),(h=gx H o2 [tu sB v2]/\f.1 1=sI a1/\f.1 2=AV.nJ o2/\f.1 3=AV.ie 3 (f.gen 3) 0/\f.box 3=some (Tm.av a0).cells)/\j v2=some a) (λj _ g m=>?_) ?_
 ·refine wj 999 999 (λf h=>h=gx H o2 [tu sB a2]/\f.1 1=sI a1/\f.1 2=AV.nJ o2/\f.1 16=sB (fp (eo a0.alX 1) (qa a0.al0 a1) false)/\bx f 3 (Tm.av a0).cells) (λ_ g=>?_) ?_
  ·exact aa
  rintro _ _ E;have e:=Aj e E;apply Ir e m<;>intro e m
  ·exact jo
  simp[e];refine uG.i64 (f:=sB) a2 true RY vN aaD aaD ?_;exact jo
 rintro _ _ ⟨v2,E,m⟩;have e:=Aj e E;simp[e];refine Wr e m 999 (λd c f h=>h=gx H o2 [tu sB c]/\f.1 1=sI a1/\f.1 2=AV.nJ o2/\f.1 23=sL Tm.av a0.alY/\f.1 24=sI (eA a0.alY)/\f.1 25=sI d/\bx f 3 (Tm.av a0).cells) aaD (λc _ _ _ E m=>?_) (λd _ c _ _ _ _ _ E e m z p=>?_)
 ·exact aa
 refine sw [10,0,4,0] ?_;intro _ e m;refine qH m (ih aaD) λd20 m=>?_;exact al
def No(T:eO){H:dZ}{a0:Tm}{a1:Int}{a2:(List (Int×Bool))}{a:(List (Int×Bool))}{o2:Nat}(b:H[o2]?=some [tu sB a2]){n:Nat}(hm:pZ n a0 a1 a2=some a):eP prog T 328 [Tm.av a0,sI a1,AV.nJ o2] H (AV.tuple []) (gx H o2 [tu sB a]):=(uh T n) b hm
def Mx(T:eO){H:dZ}{a0:Tm}{a:List Int}{b:Int}(hm:wZ a0=some (a,b)):eP prog T 306 [Tm.av a0] H (AV.tuple [sL sI a,sI b]) H:=by
 rw[wZ] at hm;refine fH.vG (Post:=λx K=>x=AV.tuple [sL sI a,sI b]/\∃X,K=H++X) ?_ (λ_ _ h=>⟨_,h.2.choose_spec,by rw[h.1];simp[AV.low,AV.iL],h.1,rfl⟩);have e:=trivial;refine wi al2 func306 [] [] 999 ?_;simp[e];refine qK hm xZ λ_ m=>?_;refine Il e m λe m=>?_;simp[e];refine qK m (No T aaD) λd2 m=>?_;simp[e];refine EJ m (BJ T aaD) λ_ d4 m=>?_;exact au
@[reducible,instance] def abH:=@Kc.mk prog 306 _ @Mx
def sm:C1 prog 276 kB (sL sI) Tm.av:=by
 refine v1 func276 λT H a0 r m e=>?_;rw[kB] at m;exact aa
@[reducible,instance] def abx:=@Kc.mk prog 276 _ @sm
def uy{n:Nat}:C2 prog 283 (ot n) sB Fm.av sI:=by
 refine i2 λn ih=>v2 func283 λT H a0 a1 r m e=>?_;rw[ot] at m;simp[e];refine Wa e m 999 12 [1,10,11] [2] nI [11,0] ?_;intro _ _ e m;exact Wb e m 999 24 [1,22,23] [] nI
def yg{n:Nat}:C2 prog 329 (p6 n) sI Fm.av sI:=by
 refine i2 λn ih=>v2 func329 λT H a0 a1 r m e=>?_;rw[p6] at m;simp[e];refine Wa e m 999 13 [1,11,12] [2] (λs2 f=>f.1 5=sI s2) [11,0] ?_;intro _ s2 e m;exact Wb e m 999 26 [1,24,25] [2] (λa f=>f.1 5=sI a)
@[reducible,instance] def Zx:=@Kc.mk prog 329 _ @yg
def w5{n:Nat}:C4 prog 330 (yL n) Fm.av Fm.av sI sI Tm.av:=by
 refine i4 λn ih=>v4 func330 λT H a0 a1 a2 a3 r m e=>?_;rw[yL] at m;simp[e];refine Tc e m 999 22 [1,2,20,21] [4,7,8] [34] (λs2=>s2) (λs2 c f=>bx f 9 [sI a0.alX,sI a0.dN.alX,sL Ty.av a0.dN.alY,sT c Tm.av s2,nL]) [11,0] (λu _ s2 o _ _ _ _ E e m z p=>?_) ?_
 ·have⟨c,E,i⟩:=E;refine sw [20,0,4,9,0] ?_;intro s e m;refine Ad (f:=Tm.av) s2 [s] i zY e.2 ?_;simp[e];cases m;exact p _ _ _ ⟨(.loc 34 (o.fo 34+1)),aaD,(On 34)⟩ z
 intro o s2 c i e m;refine Wr e m 999 (λq j f h=>∃a b,(h=H/\f.1 1=sI a1/\f.1 2=sI a2/\f.1 38=sL Fm.av a0.alY/\f.1 39=sI (eA a0.alY)/\f.1 40=sI q/\bx f 4 (Fm.av a0).cells/\bx f 7 (Tm.av a3).cells/\bx f 8 [sI 0,sI 0,nL,nL,nL]/\bx f 9 [sI a0.alX,sI a0.dN.alX,sL Ty.av a0.dN.alY,sT a Tm.av s2,sT b Fm.av j])/\Ow f [34] a s2/\Ow f [55] b j) (by exact⟨c,.full,aaD,i,hX.full⟩) (λj l _ _ E m=>?_) (λq _ j l _ _ _ _ E e m z p=>?_)
 ·have⟨a,b,E,k,d⟩:=E;exact aa
 have⟨a,b,E,k,d⟩:=E;refine sw [10,0,4,0,18,9,0] ?_;intro _ t e m;refine Ad (f:=Fm.av) j [t] d KI e.2 ?_;simp[e];cases m;exact p _ _ _ ⟨a,(.loc 55 (l.fo 55+1)),aaD,(hX.other k d aar aar),(On 55)⟩ z
@[reducible,instance] def afV:=@Kc.mk prog 330 _ @w5
def om:C3 prog 307 yO (t2 Fm.av sI) Fm.av sI Tm.av:=by
 refine u3 7 func307 λT H a0 a1 a2 r m e=>?_;rw[yO] at m;refine sw [0,1,0,13] ?_;intro _ e m;apply wg 3;simp[e];refine wA 999 0 [] [3,5,6] (λf=>f.1 1=sI a1/\f.1 21=sB (fp (pg a1 0) true (pj a1 4096))) [13] (λ_ g=>?_) ?_
 ·rcases Pb (pg a1 0) e with e|e
  ·exact aj
  exact aj
 intro _ e m;refine sg 7 [0,1,0,13] ?_;intro _ e m;apply wg 3;simp[e];refine WA m 999 999 [] [3,5,6] (λa f=>f.1 1=sI a1/\f.1 36=sB a) [] (λb _ g m=>?_) ?_
 ·simp[e];refine qK m uy λ_ m=>?_;apply Ir e m<;>intro e m
  ·exact jo
  simp[e];refine qK m qJ λ_ m=>?_;exact jo
 intro _ a e m;exact aa
@[reducible,instance] def adi:=@Kc.mk prog 307 _ @om
def uZ:C2 prog 277 jB (t2 Fm.av sI) Fm.av Tm.av:=by
 refine v2 func277 λT H a0 a1 r m e=>?_;rw[jB] at m;exact aa
@[reducible,instance] def acs:=@Kc.mk prog 277 _ @uZ
def xr{n:Nat}:C2 prog 308 (vZ n) sB Tm.av sI:=by
 refine i2 λn ih=>u2 3 func308 λT H a0 a1 r m e=>?_;rw[vZ] at m;simp[e];refine wA 999 999 [1] [2] (λf=>f.1 15=sB (fp (eo a0.alX 1) (eo a0.al0 a1) false)) [7,0] (λ_ g=>?_) ?_
 ·exact aa
 intro _ e m;exact Wb e m 999 19 [1,17,18] [2] nI
@[reducible,instance] def adn:=@Kc.mk prog 308 _ @xr
def Ba{n:Nat}:C2 prog 279 (qc n) sB Fm.av sI:=by
 refine i2 λn ih=>v2 func279 λT H a0 a1 r m e=>?_;rw[qc] at m;simp[e];refine Wa e m 999 12 [1,10,11] [2] nI [11,0] ?_;intro _ _ e m;exact Wb e m 999 23 [1,21,22] [2] nI
@[reducible,instance] def acF:=@Kc.mk prog 279 _ @Ba
def py{n:Nat}:C1 prog 280 (nc n) (t2 Fm.av sI) Fm.av:=by
 refine i1 λn ih=>v1 func280 λT H a0 r m e=>?_;rw[nc] at m;simp[e];refine Tc e m 999 22 [20,21] [1,2] [40] (λs2=>s2) (λs2 c f=>bx f 4 [sI a0.alX,sI a0.dN.alX,sL Ty.av a0.dN.alY,sT c Tm.av s2,nL]) [11,0] (λu _ s2 o _ _ _ _ E e m z p=>?_) ?_
 ·have⟨c,E,i⟩:=E;refine sw [20,0,3,7,9,0] ?_;intro s _ _ e m;refine Ao (f:=Tm.av) s2 [s] i zY e.2 ?_;simp[e];cases m;exact p _ _ _ ⟨(.loc 40 (o.fo 40+1)),aaD,(On 40)⟩ z
 intro o s2 c i e m;refine Wr e m 999 (λq j f h=>∃a b,(h=H/\f.1 44=sL Fm.av a0.alY/\f.1 45=sI (eA a0.alY)/\f.1 46=sI q/\bx f 2 [sI 0,sI 0,nL,nL,nL]/\bx f 4 [sI a0.alX,sI a0.dN.alX,sL Ty.av a0.dN.alY,sT a Tm.av s2,sT b Fm.av j])/\Ow f [40] a s2/\Ow f [63] b j) (by exact⟨c,.full,aaD,i,hX.full⟩) (λj l _ _ E m=>?_) (λq _ j l _ _ _ _ E e m z p=>?_)
 ·have⟨a,b,E,k,d⟩:=E;exact aa
 have⟨a,b,E,k,d⟩:=E;refine sw [10,0,16,7,9,0] ?_;intro t _ e m;refine Ao (f:=Fm.av) j [t] d KI e.2 ?_;simp[e];cases m;exact p _ _ _ ⟨a,(.loc 63 (l.fo 63+1)),aaD,(hX.other k d aar aar),(On 63)⟩ z
@[reducible,instance] def Xc:=@Kc.mk prog 280 _ @py
def oY:C3 prog 215 hR sI dS.av Tm.av sI:=by
 refine v3 func215 λT H a0 a1 a2 r m e=>?_;rw[hR] at m;exact aa
@[reducible,instance] def NM:=@Kc.mk prog 215 _ @oY
def JF:C2 prog 214 yI Fm.av Tm.av Tm.av:=by
 refine v2 func214 λT H a0 a1 r m e=>?_;rw[yI] at m;refine sw [0,4,0,4] ?_;intro a b e m;have e:=Aj e (show AV.agg [sI 1,sI 0,AV.slice .gK [],AV.slice .gK [Tm.av a,Tm.av b],AV.slice .gK []]=Fm.av (Fm.mk 1 (Ty.mk 0 []) [a,b] []) by rw[Fm.eU];rfl);exact au
def kR{n:Nat}:C1 prog 150 (jK n) sB Fm.av:=by
 refine i1 λn ih=>u1 8 func150 λT H a0 r m e=>?_;rw[jK] at m;refine sw [0,13] ?_;intro e m;refine sg 3 [0,14] ?_;intro e m;apply wg 1;simp[e];refine WB m 999 999 [] [] (λv4 f=>f.1 2=sB v4) λb _ g m=>?_;refine sw [8,0,15] ?_;intro c _ e m;apply Iq e m<;>intro e m
 ·exact jo
 refine sw [8,0,15] ?_;intro a _ e m;exact jo
@[reducible,instance] def VC:=@Kc.mk prog 150 _ @kR
def Ai:C1 prog 113 nD (t2 sB sI) Fm.av:=by
 refine v1 func113 λT H a0 r m e=>?_;rw[nD] at m;exact aa
@[reducible,instance] def VJ:=@Kc.mk prog 113 _ @Ai
def dP:∀(n:Nat),C2 prog 110 (eu n) (t2 ta.av sI) dS.av Pf.av/\C2 prog 148 (en n) (t3 Fm.av (sL sI) sI) dS.av Pf.av/\C2 prog 208 (mY n) (t3 Fm.av (sL sI) sI) dS.av Pf.av/\C2 prog 209 (nQ n) (t3 Fm.av (sL sI) sI) dS.av Pf.av/\C2 prog 210 (nW n) (t3 Fm.av (sL sI) sI) dS.av Pf.av/\C2 prog 211 (mD n) (t3 Fm.av (sL sI) sI) dS.av Pf.av/\C2 prog 212 (pb n) (t3 Fm.av (sL sI) sI) dS.av Pf.av/\C2 prog 213 (nM n) (t3 Fm.av (sL sI) sI) dS.av Pf.av/\C2 prog 216 (nP n) (t3 Fm.av (sL sI) sI) dS.av Pf.av/\C2 prog 217 (ni n) (t3 Fm.av (sL sI) sI) dS.av Pf.av/\C4 prog 278 (e_ n) (t2 (sL sI) sI) dS.av Pf.av Fm.av Tm.av:=by
  intro n
  induction n with
  |zero=>
    refine⟨?_,?_,?_,?_,?_,?_,?_,?_,?_,?_,?_⟩
    all_goals(intro _ _;intros;rename_i hm;cases hm)
  |succ n ih=>
 refine⟨?_,?_,?_,?_,?_,?_,?_,?_,?_,?_,?_⟩
 ·intro T H a0 a1 r hm;rw[eu] at hm;have e:=trivial;refine wi al2 func110 [] [] 7 ?_;simp[e];refine U5 hm ih.2.1 λK _ _ m=>?_;refine sw [0,13] ?_;intro e m;refine sg 5 [0,1,0,13] ?_;intro G e m;apply wg 2;simp[e];refine D3 m 999 999 (λL f h=>∃v6 c,(h=H/\f.1 7=sT c sI v6/\bx f 4 [sI 0,sI 0,nL,nL,nL,nL]/\bx f 6 (Fm.av K).cells)/\L v6=some r) ?_ (λL _ g m=>?_)
  ·rintro _ _ ⟨v6,c,E,m⟩;exact aa
  refine sw [0,2] ?_;intro _ w e m;apply Iq e m<;>intro e m
  ·simp[e];exact g _ _ ⟨_,.gK,aaD,m⟩
  simp[e];exact g _ _ ⟨_,.full,aaD,m⟩
 ·intro T H a0 a1 r hm;rw[en] at hm;have e:=trivial;refine wi al2 func148 [] [] 10 ?_;have m:=hm;refine sw [0,13] ?_;intro e m;refine sg 3 [0,13] ?_;intro e m;apply wg 3;simp[e];apply Iq e m<;>intro e m
  ·refine sg 999 [8,0] ?_;intro W e m;refine uq m ih.1 λ_ _ m=>?_;refine sw [7,8,0] ?_;intro X e m;refine uq m ih.1 λ_ _ m=>?_;simp[e];refine qH m BU λ_ m=>?_;simp[e];refine qH m (kp T) λ_ m=>?_;exact au
  apply wg 1;simp[e];refine wj 999 0 (λf h=>h=H/\f.1 22=sI a1.alX/\f.1 93=sB (fp (eo a1.alX 4) true (eo a1.alX 5))/\bx f 2 (dS.av a0).cells/\bx f 3 (Pf.av a1).cells/\bx f 4 [sI 0,sI 0,nL,nL,nL]/\bx f 7 [sI 0,sI 0,nL,nL,nL]) (λ_ g=>?_) ?_
  ·rcases Pb (eo a1.alX 4) e with e|e
   ·exact aj
   exact aj
  rintro _ _ E;have e:=Aj e E;apply Iq e m<;>intro e m
  ·refine sg 999 [8,0] ?_;intro Y e m;refine uq m ih.1 λ_ _ m=>?_;refine sw [7,7,8] ?_;intro Z e m;exact au
  apply wg 3;simp[e];apply Iq e m<;>intro e m
  ·refine sg 999 [8,0] ?_;intro ad e m;refine qH m xS λ_ m=>?_;refine sw [7,0] ?_;intro e m;refine qK m j_ λ_ m=>?_;refine sw [7,0] ?_;intro e m;refine qH m lB λ_ m=>?_;refine sw [8,0] ?_;intro ae e m;refine uq m ih.1 λ_ _ m=>?_;simp[e];refine qH m BU λ_ m=>?_;exact au
  apply wg 3;simp[e];apply Iq e m<;>intro e m
  ·refine sg 999 [8,0] ?_;intro af e m;refine uq m ih.1 λ_ _ m=>?_;refine sw [7,7,8,0] ?_;intro ah e m;refine uq m ih.1 λ_ _ m=>?_;refine sw [7,8,0] ?_;intro ai e m;refine qH m (kp T) λ_ m=>?_;refine sw [8,0] ?_;intro ak e m;refine qH m yf λ_ m=>?_;exact au
  apply wg 1;simp[e];refine wj 999 0 (λf h=>h=H/\f.1 22=sI a1.alX/\f.1 218=sB (fp (eo a1.alX 8) true (eo a1.alX 12))/\bx f 2 (dS.av a0).cells/\bx f 3 (Pf.av a1).cells/\bx f 4 [sI 0,sI 0,nL,nL,nL]) (λ_ g=>?_) ?_
  ·rcases Pb (eo a1.alX 8) e with e|e
   ·exact aj
   exact aj
  rintro _ _ E;have e:=Aj e E;apply Iq e m<;>intro e m
  ·apply wg 999;simp[e];refine U5 m ih.2.2.1 λ_ _ _ m=>?_;exact au
  apply wg 1;simp[e];refine wj 999 0 (λf h=>h=H/\f.1 22=sI a1.alX/\f.1 227=sB (fp (eo a1.alX 9) true (eo a1.alX 13))/\bx f 2 (dS.av a0).cells/\bx f 3 (Pf.av a1).cells/\bx f 4 [sI 0,sI 0,nL,nL,nL]) (λ_ g=>?_) ?_
  ·rcases Pb (eo a1.alX 9) e with e|e
   ·exact aj
   exact aj
  rintro _ _ E;have e:=Aj e E;apply Iq e m<;>intro e m
  ·apply wg 999;simp[e];refine U5 m ih.2.2.2.1 λ_ _ _ m=>?_;exact au
  apply wg 1;simp[e];refine wj 999 0 (λf h=>h=H/\f.1 22=sI a1.alX/\f.1 236=sB (fp (eo a1.alX 10) true (eo a1.alX 14))/\bx f 2 (dS.av a0).cells/\bx f 3 (Pf.av a1).cells/\bx f 4 [sI 0,sI 0,nL,nL,nL]) (λ_ g=>?_) ?_
  ·rcases Pb (eo a1.alX 10) e with e|e
   ·exact aj
   exact aj
  rintro _ _ E;have e:=Aj e E;apply Iq e m<;>intro e m
  ·apply wg 999;simp[e];refine U5 m ih.2.2.2.2.1 λ_ _ _ m=>?_;exact au
  apply wg 1;simp[e];refine wj 999 999 (λf h=>h=H/\f.1 22=sI a1.alX/\f.1 245=sB (fp (eo a1.alX 11) true (eo a1.alX 15))/\bx f 2 (dS.av a0).cells/\bx f 3 (Pf.av a1).cells/\bx f 4 [sI 0,sI 0,nL,nL,nL]) (λ_ g=>?_) ?_
  ·rcases Pb (eo a1.alX 11) e with e|e
   ·exact aj
   exact aj
  rintro _ _ E;have e:=Aj e E;apply Iq e m<;>intro e m
  ·simp[e];refine U5 m ih.2.2.2.2.2.1 λ_ _ _ m=>?_;exact au
  apply Iq e m<;>intro e m
  ·simp[e];refine U5 m ih.2.2.2.2.2.2.1 λ_ _ _ m=>?_;exact au
  apply Iq e m<;>intro e m
  ·simp[e];refine U5 m ih.2.2.2.2.2.2.2.1 λ_ _ _ m=>?_;exact au
  apply Iq e m<;>intro e m
  ·refine sw [8,0] ?_;intro an e m;refine qH m JF λ_ m=>?_;simp[e];refine qH m oY λ_ m=>?_;exact au
  apply Iq e m<;>intro e m
  ·simp[e];refine U5 m ih.2.2.2.2.2.2.2.2.1 λ_ _ _ m=>?_;exact au
  simp[e];refine U5 m ih.2.2.2.2.2.2.2.2.2.1 λ_ _ _ m=>?_;exact au
 ·intro T H a0 a1 r hm;rw[mY] at hm;have e:=trivial;refine wi al2 func208 [] [] 999 ?_;have m:=hm;refine sw [0,1,7,0,4,8,0] ?_;intro _ _ w e m;refine uq m ih.1 λ_ _ m=>?_;refine Il e m λe m=>?_;apply Iq e m<;>intro e m
  ·refine sw [0,4,0,4] ?_;intro x y e m;exact au
  exact aa
 ·intro T H a0 a1 r hm;rw[nQ] at hm;have e:=trivial;refine wi al2 func209 [] [] 9 ?_;have m:=hm;refine sw [8,0,2,0,13] ?_;intro I ao _ e m;refine sg 7 [8,0] ?_;intro x6 e m;refine uq m ih.1 λJ _ m=>?_;refine sw [0,13] ?_;intro e m;refine sg 4 [0,4,0,4,0] ?_;intro _ A e m;refine wA 999 999 [] [4,7,8,10] (λf=>f.1 11=sI (fp (eo a1.alX 13) 6 4)/\f.1 12=sL sI (fp (eo a1.alX 13) J.jX A)) [] (λ_ g=>?_) ?_
  ·rcases Pb (eo a1.alX 13) e with e|e
   ·exact aj
   exact aj
  intro _ e m;exact aa
 ·intro T H a0 a1 r hm;rw[nW] at hm;have e:=trivial;refine wi al2 func210 [] [] 9 ?_;have m:=hm;refine sw [8,8,0,1,0,13] ?_;intro o G _ e m;apply wg 4;simp[e];refine wA 999 3 [] [2,3,4,7,8] (λf=>f.1 10=sI (fp (eo a1.alX 14) 7 5)) [0,13] (λ_ g=>?_) ?_
  ·rcases Pb (eo a1.alX 14) e with e|e
   ·exact aj
   exact aj
  intro _ e m;refine sg 7 [0,2,0,13] ?_;intro _ w e m;refine sg 5 [0,1,0,14] ?_;intro q e m;refine sg 4 [8,8,0] ?_;intro k x e m;refine uq m ih.2.2.2.2.2.2.2.2.2.2 λy M m=>?_;simp[e];refine WB m 999 999 [12] [4,7] (λB f=>f.1 13=sL sI B) λN _ g m=>?_;apply Ir e m<;>intro e m
  ·exact jo
  simp[e];refine qK m sm λ_ m=>?_;simp[e];refine qK m (kp T) λ_ m=>?_;exact jo
 ·intro T H a0 a1 r hm;rw[mD] at hm;have e:=trivial;refine wi al2 func211 [] [] 7 ?_;have⟨C,e,m⟩:=OQ e hm;simp[e];refine uq m ih.1 λa _ m=>?_;refine sw [0,13] ?_;intro e m;apply wg 4;simp[e];refine wA 999 3 [] [2,3,4,7] (λf=>f.1 9=sI (fp (eo a1.alX 15) 7 5)) [0,13] (λ_ g=>?_) ?_
  ·rcases Pb (eo a1.alX 15) e with e|e
   ·exact aj
   exact aj
  intro _ e m;refine sg 7 [0,1,0,13] ?_;intro _ e m;refine sg 7 [0,4,8,0,4,8,0] ?_;intro x y _ O e m;refine uq m ih.1 λb _ m=>?_;refine sw [0,13] ?_;intro e m;apply wg 4;simp[e];refine Wj m 999 1 (λs f h=>∃d v127 i j v130,(h=H/\f.1 9=sI (fp (eo a1.alX 15) 7 5)/\bx f 4 [sI 0,sI 0,nL,nL,nL]/\bx f 7 [sI a.d_.alX,sI a.d_.dN.alX,sL Ty.av a.d_.dN.alY,sL Tm.av a.d_.ei,sL Fm.av a.d_.alY,sL sI a.jX]/\bx f 11 [sI b.d_.alX,sI b.d_.dN.alX,sL Ty.av b.d_.dN.alY,sL Tm.av b.d_.ei,sL Fm.av b.d_.alY,sL sI b.jX]/\bx f 12 [sI d,sI v127,sL Ty.av i,sL Tm.av j,sL Fm.av v130])/\s d v127 i j v130=some r) (λs _ g m=>?_) ?_
  ·refine sw [0,1] ?_;intro _ e m;apply Ir e m<;>intro e m
   ·simp[e];exact g _ _ ⟨_,_,_,_,_,aaD,m⟩
   refine sw [0,2,7,0,1,7] ?_;intro _ _ _ e m;simp[e];exact g _ _ ⟨_,_,_,_,_,aaD,m⟩
  rintro _ _ ⟨d,v127,i,j,v130,E,m⟩;have e:=Aj e E;simp[e];refine Wj m 999 999 (λt f h=>∃v139,(h=H/\f.1 87=sB v139/\bx f 4 [sI 0,sI 0,nL,nL,nL]/\bx f 7 [sI a.d_.alX,sI a.d_.dN.alX,sL Ty.av a.d_.dN.alY,sL Tm.av a.d_.ei,sL Fm.av a.d_.alY,sL sI a.jX]/\bx f 11 [sI b.d_.alX,sI b.d_.dN.alX,sL Ty.av b.d_.dN.alY,sL Tm.av b.d_.ei,sL Fm.av b.d_.alY,sL sI b.jX]/\bx f 12 [sI d,sI v127,sL Ty.av i,sL Tm.av j,sL Fm.av v130])/\t v139=some r) (λt _ g m=>?_) ?_
  ·apply Ir e m<;>intro e m
   ·exact jo
   simp[e];refine qK m Bn λ_ m=>?_;exact jo
  rintro _ _ ⟨v139,E,m⟩;refine sw [10,7,0] ?_;intro e m;refine qH m oC λ_ m=>?_;simp[e];refine qH m mQ λ_ m=>?_;simp[e];refine qH m (kp T) λ_ m=>?_;exact au
 ·intro T H a0 a1 r hm;rw[pb] at hm;have e:=trivial;refine wi al2 func212 [] [] 999 ?_;have m:=hm;refine sw [8,8,0,4,9,0] ?_;intro o G l e m;refine Ad (f:=Ty.av) a0.al1 [l] (hX.full (D:=[])) FZ e.2 ?_;refine sw [0,4,7,0,1,7,8,0,4,0] ?_;intro _ k u v e m;refine uq m ih.2.2.2.2.2.2.2.2.2.2 λ_ _ m=>?_;refine sw [7,0] ?_;intro e m;refine qK m j_ λ_ m=>?_;refine sw [7,0] ?_;intro e m;refine qH m Bl λ_ m=>?_;simp[e];refine qH m jC λ_ m=>?_;simp[e];refine qH m lB λ_ m=>?_;refine sw [8,0] ?_;intro P e m;refine qH m oC λ_ m=>?_;simp[e];refine qH m xE λ_ m=>?_;simp[e];refine qH m yJ λ_ m=>?_;simp[e];refine uq m ih.2.2.2.2.2.2.2.2.2.2 λ_ _ m=>?_;refine sw [7,0] ?_;intro e m;refine EJ m uZ λ_ _ m=>?_;simp[e];refine qH m sm λ_ m=>?_;simp[e];refine qH m (kp T) λ_ m=>?_;simp[e];refine qH m mQ λ_ m=>?_;simp[e];refine qH m (kp T) λ_ m=>?_;exact au
 ·intro T H a0 a1 r hm;rw[nM] at hm;have e:=trivial;refine wi al2 func213 [] [] 999 ?_;have m:=hm;refine sw [8,8,0,4,9,0] ?_;intro o G l e m;refine Ad (f:=Ty.av) a0.al1 [l] (hX.full (D:=[])) FZ e.2 ?_;refine sw [0,4,7,0,1,7,8,0,4,0] ?_;intro _ k u v e m;refine uq m ih.2.2.2.2.2.2.2.2.2.2 λ_ _ m=>?_;refine sw [7,0] ?_;intro e m;refine qK m j_ λ_ m=>?_;refine sw [7,0] ?_;intro e m;refine qH m Bl λ_ m=>?_;simp[e];refine qH m Er λ_ m=>?_;simp[e];refine qH m jC λ_ m=>?_;simp[e];refine qH m oC λ_ m=>?_;simp[e];refine qH m lB λ_ m=>?_;refine sw [8,0] ?_;intro Q e m;refine qH m oC λ_ m=>?_;simp[e];refine qH m xE λ_ m=>?_;simp[e];refine qH m xE λ_ m=>?_;simp[e];refine qH m yJ λ_ m=>?_;simp[e];refine uq m ih.2.2.2.2.2.2.2.2.2.2 λ_ _ m=>?_;refine sw [7,0] ?_;intro e m;refine EJ m uZ λ_ _ m=>?_;simp[e];refine qH m sm λ_ m=>?_;simp[e];refine qH m (kp T) λ_ m=>?_;simp[e];refine qH m mQ λ_ m=>?_;simp[e];refine qH m (kp T) λ_ m=>?_;exact au
 ·intro T H a0 a1 r hm;rw[nP] at hm;have e:=trivial;refine wi al2 func216 [] [] 999 ?_;have m:=hm;refine sw [8,0,4,9,0] ?_;intro I q e m;refine Ad (f:=Ty.av) a0.al1 [q] (hX.full (D:=[])) FZ e.2 ?_;refine sw [0,4,7,8,0] ?_;intro _ R e m;refine uq m ih.1 λ_ k m=>?_;refine sw [7,7,8,8,0] ?_;intro u v e m;refine uq m ih.2.2.2.2.2.2.2.2.2.2 λ_ _ m=>?_;refine sw [7,8,0] ?_;intro S e m;refine uq m uZ λ_ _ m=>?_;exact au
 ·intro T H a0 a1 r hm;rw[ni] at hm;have e:=trivial;refine wi al2 func217 [] [] 7 ?_;have⟨C,e,m⟩:=OQ e hm;simp[e];refine uq m ih.1 λa _ m=>?_;refine sw [0,13] ?_;intro e m;apply wg 3;simp[e];refine WA m 999 999 [] [4,7] (λF f=>f.1 38=sB F) [] (λU _ g m=>?_) ?_
  ·apply Iq e m<;>intro e m
   ·exact jo
   have⟨V,e,m⟩:=OQ e m;exact jo
  intro _ F e m;exact aa
 ·intro T H a0 a1 a2 a3 r hm;rw[e_] at hm;have e:=trivial;refine wi al2 func278 [] [] 999 ?_;simp[e];refine EJ hm ih.1 λ_ K m=>?_;exact aa
def AF{n:Nat}:C2 prog 110 (eu n) (t2 ta.av sI) dS.av Pf.av:=(dP n).1
@[reducible,instance] def NN:=@Kc.mk prog 110 _ @AF
def CY:C3 prog 71 ns (t2 ta.av sI) (sL Fm.av) Sq.av Pf.av:=by
 refine v3 func71 λT H a0 a1 a2 r m e=>?_;rw[ns] at m;refine sw [0,1,7,0,1,7,0,2,7,0,4,9,0] ?_;intro _ _ a _ _ e m;refine Ad (f:=sI) [] a.jX (hX.full (D:=[])) H4 e.2 ?_;exact au
@[reducible,instance] def Zb:=@Kc.mk prog 71 _ @CY
def rQ:C1 prog 73 gz sB Fm.av:=by
 refine v1 func73 λT H a0 r m e=>?_;rw[gz] at m;exact aa
@[reducible,instance] def adA:=@Kc.mk prog 73 _ @rQ
def Nx:C0 prog 218 tW Ty.av:=by
 refine v0 func218 λT H r m e=>?_;rw[tW] at m;exact au
@[reducible,instance] def abF:=@Kc.mk prog 218 _ @Nx
def MZ:C2 prog 220 pK Ty.av Ty.av Ty.av:=by
 refine v2 func220 λT H a0 a1 r m e=>?_;rw[pK] at m;have e:=Aj e (show AV.agg [sI 3,AV.slice .gK [Ty.av a0,Ty.av a1]]=Ty.av (Ty.mk 3 [a0,a1]) by rw[Ty.eU];rfl);exact au
@[reducible,instance] def aaX:=@Kc.mk prog 220 _ @MZ
def Fq:C1 prog 282 zQ (t2 sI sI) Ty.av:=by
 refine v1 func282 λT H a0 r m e=>?_;rw[zQ] at m;exact aa
@[reducible,instance] def Z':=@Kc.mk prog 282 _ @Fq
def D9:C2 prog 219 nx (t2 Ty.av sI) Ty.av sI:=by
 refine v2 func219 λT H a0 a1 r m e=>?_;rw[nx] at m;exact aa
@[reducible,instance] def abt:=@Kc.mk prog 219 _ @D9
def Qh:C2 prog 221 sd Ty.av Ty.av Ty.av:=by
 refine v2 func221 λT H a0 a1 r m e=>?_;rw[sd] at m;have e:=Aj e (show AV.agg [sI 4,AV.slice .gK [Ty.av a0,Ty.av a1]]=Ty.av (Ty.mk 4 [a0,a1]) by rw[Ty.eU];rfl);exact au
@[reducible,instance] def adm:=@Kc.mk prog 221 _ @Qh
def Kl{n:Nat}:C1 prog 149 (k0 n) (t2 Ty.av sI) Fm.av:=by
 refine i1 λn ih=>v1 func149 λT H a0 r m e=>?_;rw[k0] at m;exact aa
@[reducible,instance] def afx:=@Kc.mk prog 149 _ @Kl
def D_:C1 prog 112 jt (t2 Ty.av sI) Fm.av:=by
 refine v1 func112 λT H a0 r m e=>?_;rw[jt] at m;exact aa
@[reducible,instance] def ab9:=@Kc.mk prog 112 _ @D_
def wK:C2 prog 72 vJ sI (sL Fm.av) (sL Tm.av):=by
 refine v2 func72 λT H a0 a1 r m e=>?_;rw[vJ] at m;refine sw [7,0] ?_;intro e m;refine Wn m 999 (λs1 f h=>h=H/\f.1 0=sL Fm.av a0/\f.1 1=sL Tm.av a1/\f.1 5=sI s1) aaD (λs1 _ _ _ _ _ E m z p=>?_);have e:=Aj e E;apply Ir e m<;>intro e m
 ·cases m;have m:=Qb z
  try dsimp only at m
  exact au
 exact aa
@[reducible,instance] def YQ:=@Kc.mk prog 72 _ @wK
def AA(T:eO){H:dZ}{a0:dT}{f:Int}{a:dT}{c:Nat}(b:H[c]?=some [sL Fm.av a0.lemmas,sL Tm.av a0.ei,sI a0.next])(hm:eE a0=some (f,a)):eP prog T 114 [AV.fh c 0] H (sI f) (gx H c [sL Fm.av a.lemmas,sL Tm.av a.ei,sI a.next]):=by
 rw[eE] at hm;have d:=e9 b;refine fH.Ng b ?_;have e:=d;refine wi al2 func114 [] [] 999 ?_;cases hm;simp[e]
@[reducible,instance] def NU:=@Kc.mk prog 114 _ @AA
def jF(T:eO){H:dZ}{a0:dT}{a1:Sq}{Z:er}{r1:List Int}{B:dT}{C:Nat}(N:H[C]?=some [sL Fm.av a0.lemmas,sL Tm.av a0.ei,sI a0.next])(hm:lY a0 a1=some (Z,r1,B)):eP prog T 74 [AV.fh C 0,Sq.av a1] H (AV.tuple [er.av Z,sL sI r1]) (gx H C [sL Fm.av B.lemmas,sL Tm.av B.ei,sI B.next]):=by
 rw[lY] at hm;have S:=e9 N;refine fH.Ng N ?_;have e:=S;refine wi al2 func74 [] [] 999 ?_;simp[e];refine Wn hm 999 (λs1 f h=>∃l n,(h=gx H C [sL Fm.av s1.2.2.2.lemmas,sL Tm.av s1.2.2.2.ei,sI s1.2.2.2.next]/\f.1 0=AV.fh C 0/\f.1 7=sT l sI s1.1/\f.1 8=sI s1.2.1/\bx f 3 (Sq.av a1).cells/\bx f 4 [nL,nL,nL,nL]/\bx f 6 [sL Ty.av a1.al1,sL Fm.av a1.al4,sT n Tm.av s1.2.2.1,nL])/\Ow f [24] l s1.1/\Ow f [33] n s1.2.2.1) (by exact⟨.full,.full,aaD,hX.full,hX.full⟩) (λs1 O _ _ _ _ E m z p=>?_);have⟨v9,v10,v11,v12⟩:=s1;have⟨l,n,E,t,w⟩:=E;have e:=Aj e E;dsimp only[vq]at m;apply Iq e m<;>intro e m
 ·refine sw [0,2,9,0] ?_;intro U d14 e m;refine Ao (f:=sI) v9 [U] t H4 e.2 ?_;refine sw [8,0,4,9,0] ?_;intro ad V e m;refine Ad (f:=Tm.av) v11 [V] (hX.other w t aar aar) zY e.2 ?_;simp[e];cases m;exact p _ _ _ ⟨(.loc 24 (O.fo 24+1)),(.loc 33 (O.fo 33+1)),aaD,(hX.other (hX.new (D:=[24]) (d:=24) aar) (hX.other w t aar aar) aar aar),(On 33)⟩ z
 cases m;have m:=Qb z;dsimp only[vq]at m;simp[e];refine Wn m 3 (λk f h=>∃c a b,(h=gx H C [sL Fm.av k.2.2.2.lemmas,sL Tm.av k.2.2.2.ei,sI k.2.2.2.next]/\f.1 0=AV.fh C 0/\f.1 7=sT c sI k.1/\f.1 9=sI k.2.1/\bx f 3 (Sq.av a1).cells/\bx f 4 [nL,nL,nL,nL]/\bx f 6 [sL Ty.av a1.al1,sL Fm.av a1.al4,sT a Tm.av v11,sT b Tm.av k.2.2.1])/\Ow f [24,56] c k.1/\Ow f [33] a v11/\Ow f [61] b k.2.2.1) (by exact⟨l,n,.full,aaD,(Om t),w,hX.full⟩) (λk P _ _ _ W E m z p=>?_);have⟨v24,X,K,Y⟩:=k;have⟨c,a,b,E,o,x,y⟩:=E;have e:=Aj e E;dsimp only[vq]at m;simp[e];apply Ir e m<;>intro e m
 ·apply wg 999;cases m;have m:=Qb z;dsimp only[vq]at m;exact au
 apply wg 6;simp[e];refine D3 m 999 999 (λQ f h=>∃F v30 v31 G I J A i j q u v,(h=gx H C [sL Fm.av A.lemmas,sL Tm.av A.ei,sI A.next]/\f.1 0=AV.fh C 0/\f.1 7=sT i sI F/\f.1 9=sI X/\bx f 3 (Sq.av a1).cells/\bx f 4 [nL,nL,nL,nL]/\bx f 6 [sL Ty.av a1.al1,sL Fm.av a1.al4,sT j Tm.av v11,sT q Tm.av K]/\bx f 10 [sI v30,sI v31,sI G,sT u Ty.av I,sT v Tm.av J])/\Ow f [24,56] i F/\Ow f [33] j v11/\Ow f [61] q K/\Q F v30 v31 G I J A=some W) ?_ (λQ _ g m=>?_)
 ·rintro R _ ⟨F,v30,v31,G,I,J,A,i,j,q,u,v,E,L,M,r,m⟩;refine sw [10,9,0] ?_;intro e m;refine Ao (f:=Tm.av) K [(Tm.mk v30 v31 (Ty.mk G I) J)] r zY e.2 ?_;simp[e];cases m;exact p _ _ _ ⟨i,j,(.loc 61 (R.fo 61+1)),aaD,(hX.other L r aar aar),(hX.other M r aar aar),(On 61)⟩ z
 refine sw [8,0,1] ?_;intro ae _ e m;apply Ir e m<;>intro e m
 ·simp[e];exact g _ _ ⟨v24,0,0,0,[],[],Y,c,a,b,.full,.full,aaD,o,x,y,m⟩
 refine sw [0,2,0,1,9,0] ?_;intro _ d42 s e m;refine Ao (f:=sI) v24 [s.al0] o H4 e.2 ?_;simp[e];exact g _ _ ⟨(fU v24 [s.al0]),s.alX,s.al0,s.dN.alX,s.dN.alY,s.alY,d42,(.loc 56 (P.fo 56+1)),a,b,.gK,.gK,aaD,(On 56),(hX.other x o aar aar),(hX.other y o aar aar),m⟩
@[reducible,instance] def NV:=@Kc.mk prog 74 _ @jF
def zy:C2 prog 222 oO (sL Tm.av) (sL Tm.av) Tm.av:=by
 refine v2 func222 λT H a0 a1 r m e=>?_;rw[oO] at m;refine sw [9,0] ?_;intro e m;refine Ad (f:=Tm.av) [] a0 (hX.full (D:=[])) zY e.2 ?_;refine sw [9,0] ?_;intro e m;refine Ad (f:=Tm.av) (fU [] a0) [a1] (hX.new (D:=[6]) (d:=6) aar) zY e.2 ?_;exact au
@[reducible,instance] def aaW:=@Kc.mk prog 222 _ @zy
def jE(T:eO):∀(n:Nat),(∀{H:dZ} {a0:dT} {a1:Tm} {a2:List Tm} {l:Tm} {b:dT} {j:Nat} (d:H[j]?=some [sL Fm.av a0.lemmas,sL Tm.av a0.ei,sI a0.next]) (hm:eJ n a0 a1 a2=some (l,b)),eP prog T 151 [AV.fh j 0,Tm.av a1,sL Tm.av a2] H (Tm.av l) (gx H j [sL Fm.av b.lemmas,sL Tm.av b.ei,sI b.next])):=by
  intro n
  induction n with
  |zero=>
   skip
   all_goals(intro _ _;intros;rename_i hm;cases hm)
  |succ n ih=>
 intro H a0 a1 a2 l b j d hm;rw[eJ] at hm;have o:=e9 d;refine fH.Ng d ?_;have e:=o;refine wi al2 func151 [] [] 999 ?_;have m:=hm;refine sw [13] ?_;intro e m;apply Iq e m<;>intro e m
 ·refine sw [0,2,8,0,4,0,4,0] ?_;intro s d3 x _ _ e m;refine uq m (ih aaD) λt d8 m=>?_;have e:=Aj e (show AV.agg [sI a1.alX,sI s,sI a1.dN.alX,sL Ty.av a1.dN.alY,AV.slice .gK [Tm.av t]]=Tm.av (Tm.mk a1.alX s a1.dN [t]) by rw[Tm.eU];rfl);exact au
 simp[e];refine Wn m 999 (λc f h=>∃a,(h=gx H j [sL Fm.av c.2.2.lemmas,sL Tm.av c.2.2.ei,sI c.2.2.next]/\f.1 0=AV.fh j 0/\f.1 2=sL Tm.av a2/\f.1 8=sI c.1/\bx f 4 (Tm.av a1).cells/\bx f 6 [sI 0,sI 0,sI 0,nL,nL]/\bx f 7 [sI a1.alX,sI 0,sI a1.dN.alX,sL Ty.av a1.dN.alY,sT a Tm.av c.2.1])/\Ow f [64] a c.2.1) (by exact⟨.full,aaD,hX.full⟩) (λc k _ _ _ _ E m z p=>?_);have⟨u,q,v⟩:=c;have⟨a,E,i⟩:=E;have e:=Aj e E;dsimp only[GN]at m;apply Ir e m<;>intro e m
 ·cases m;have m:=Qb z;dsimp only[GN]at m;exact au
 refine sw [8,0] ?_;intro w e m;refine uq m (ih aaD) λr d22 m=>?_;refine sw [9,0] ?_;intro e m;refine Ad (f:=Tm.av) q [r] i zY e.2 ?_;simp[e];cases m;exact p _ _ _ ⟨(.loc 64 (k.fo 64+1)),aaD,(On 64)⟩ z
def Bb(T:eO){H:dZ}{a0:dT}{a1:Tm}{a2:List Tm}{d:Tm}{a:dT}{b:Nat}(c:H[b]?=some [sL Fm.av a0.lemmas,sL Tm.av a0.ei,sI a0.next]){n:Nat}(hm:eJ n a0 a1 a2=some (d,a)):eP prog T 151 [AV.fh b 0,Tm.av a1,sL Tm.av a2] H (Tm.av d) (gx H b [sL Fm.av a.lemmas,sL Tm.av a.ei,sI a.next]):=(jE T n) c hm
@[reducible,instance] def PB:=@Kc.mk prog 151 _ @Bb
def r8(T:eO){H:dZ}{a0:dT}{a1:er}{a2:Pf}{f:Fm}{a:dT}{c:Nat}(b:H[c]?=some [sL Fm.av a0.lemmas,sL Tm.av a0.ei,sI a0.next])(hm:e8 a0 a1 a2=some (f,a)):eP prog T 152 [AV.fh c 0,er.av a1,Pf.av a2] H (Fm.av f) (gx H c [sL Fm.av a.lemmas,sL Tm.av a.ei,sI a.next]):=by
 rw[e8] at hm;have d:=e9 b;refine fH.Ng b ?_;have e:=d;refine wi al2 func152 [] [(1,true,[])] 999 ?_;have m:=hm;exact aa
@[reducible,instance] def LV:=@Kc.mk prog 152 _ @r8
def w_:C3 prog 153 iu er.av er.av Fm.av Tm.av:=by
 refine v3 func153 λT H a0 a1 a2 r m e=>?_;rw[iu] at m;refine sw [0,4,9,0] ?_;intro _ e m;refine Ad (f:=Fm.av) [] a0.iz.al4 (hX.full (D:=[])) KI e.2 ?_;refine sw [9,0] ?_;intro e m;refine Ad (f:=Fm.av) (fU [] a0.iz.al4) [a1] (hX.new (D:=[21]) (d:=21) aar) KI e.2 ?_;exact au
@[reducible,instance] def YF:=@Kc.mk prog 153 _ @w_
def Pt:C3 prog 154 iC Tm.av Ty.av sI Tm.av:=by
 refine v3 func154 λT H a0 a1 a2 r m e=>?_;rw[iC] at m;have e:=Aj e (show AV.agg [sI 2,sI a1,sI a0.alX,sL Ty.av a0.alY,AV.slice .gK [Tm.av a2]]=Tm.av (Tm.mk 2 a1 a0 [a2]) by rw[Tm.eU];rfl);exact au
@[reducible,instance] def adD:=@Kc.mk prog 154 _ @Pt
def GX:C2 prog 29 j5 Tm.av Tm.av Tm.av:=by
 refine v2 func29 λT H a0 a1 r m e=>?_;rw[j5] at m;exact aa
@[reducible,instance] def acP:=@Kc.mk prog 29 _ @GX
def vW:C3 prog 223 oL (t2 Fm.av sI) Fm.av sI sI:=by
 refine u3 7 func223 λT H a0 a1 a2 r m e=>?_;rw[oL] at m;refine sw [0,1,0,13] ?_;intro _ e m;apply wg 3;simp[e];refine WB m 999 999 [2] [3,6] (λv3 f=>f.1 1=sI a1/\f.1 33=sB v3) λa _ g m=>?_;apply Iq e m<;>intro e m
 ·exact jo
 apply Iq e m<;>intro e m
 ·exact jo
 apply Iq e m<;>intro e m
 ·exact jo
 apply Iq e m<;>intro e m
 ·exact jo
 simp[e];refine qK m uy λ_ m=>?_;exact jo
@[reducible,instance] def abb:=@Kc.mk prog 223 _ @vW
def ue:C3 prog 155 h8 er.av er.av Ty.av Tm.av:=by
 refine v3 func155 λT H a0 a1 a2 r m e=>?_;rw[h8] at m;refine sw [0,4,9,0] ?_;intro l e m;refine Ad (f:=Ty.av) [] a0.iz.al1 (hX.full (D:=[])) FZ e.2 ?_;refine sw [9,0] ?_;intro e m;refine Ad (f:=Ty.av) (fU [] a0.iz.al1) [a1] (hX.new (D:=[21]) (d:=21) aar) FZ e.2 ?_;simp[e];refine Wn m 999 (λs2 f h=>∃a b,(h=H/\f.1 8=sI s2.1/\bx f 3 [sL Ty.av a0.iz.al1,sL Fm.av a0.iz.al4,sL Tm.av a0.vars,sL Tm.av a0.al4]/\bx f 6 [nL,nL,nL,nL]/\bx f 7 [sT a Ty.av (fU (fU [] a0.iz.al1) [a1]),sT b Fm.av s2.2,sL Tm.av l,sL Tm.av a0.al4])/\Ow f [24] a (fU (fU [] a0.iz.al1) [a1])/\Ow f [50] b s2.2) (by exact⟨(.loc 24 1),.full,aaD,(On 24),hX.full⟩) (λs2 j _ _ _ _ E m z p=>?_);have⟨v10,v11⟩:=s2;have⟨a,b,E,i,c⟩:=E;have e:=Aj e E;dsimp only[lS]at m;apply Ir e m<;>intro e m
 ·cases m;have m:=Qb z;dsimp only[lS]at m;exact au
 refine sw [8,0,2,9,0] ?_;intro n k _ e m;refine Ao (f:=Fm.av) v11 [k] c KI e.2 ?_;simp[e];cases m;exact p _ _ _ ⟨a,(.loc 50 (j.fo 50+1)),aaD,(hX.other i c aar aar),(On 50)⟩ z
@[reducible,instance] def Zn:=@Kc.mk prog 155 _ @ue
def A0{n:Nat}:C1 prog 284 (la n) Tm.av Ty.av:=by
 refine i1 λn ih=>v1 func284 λT H a0 r m e=>?_;rw[la] at m;exact aa
@[reducible,instance] def Yd:=@Kc.mk prog 284 _ @A0
def Ak:C1 prog 224 uf (t2 Tm.av sI) Ty.av:=by
 refine v1 func224 λT H a0 r m e=>?_;rw[uf] at m;exact aa
@[reducible,instance] def Vy:=@Kc.mk prog 224 _ @Ak
def Ap:C1 prog 156 mg Tm.av Ty.av:=by
 refine v1 func156 λT H a0 r m e=>?_;rw[mg] at m;exact aa
@[reducible,instance] def VA:=@Kc.mk prog 156 _ @Ap
def P7:C0 prog 85 oS Ty.av:=by
 refine v0 func85 λT H r m e=>?_;rw[oS] at m;exact au
@[reducible,instance] def acJ:=@Kc.mk prog 85 _ @P7
end Go.Proofs.YtpgdkkomegalnaaGreatDoor
