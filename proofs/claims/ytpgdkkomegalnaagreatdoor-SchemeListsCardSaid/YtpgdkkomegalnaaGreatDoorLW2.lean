/- Part of the proof of SchemeLists: walks. -/
import Derived.Test.YtpgdkkomegalnaaGreatDoorLW1
import Derived.Test.YtpgdkkomegalnaaGreatDoorLL20
set_option linter.all false
set_option maxRecDepth 20000
set_option maxHeartbeats 4000000
namespace Go.Proofs.YtpgdkkomegalnaaGreatDoor
open Go Go.kY Go.fD Tryz
def JM:C2 prog 261 EK Tm.av Tm.av (sL Tm.av):=by
 refine v2 func261 λT H a0 a1 r m e=>?_;rw[EK] at m;simp[e];refine Wr e m 999 (λd s2 f h=>h=H/\f.1 7=sL Tm.av a1/\f.1 8=sI (eA a1)/\f.1 9=sI d/\bx f 2 [sI s2.1,sI s2.2.1,sI s2.2.2.1,sL Ty.av s2.2.2.2.1,sL Tm.av s2.2.2.2.2]/\bx f 4 [sI 0,sI 0,sI 0,nL,nL]) abE (λs2 _ _ _ E m=>?_) (λd _ s2 _ _ _ _ _ E e m z p=>?_)
 ·have⟨v11,v12,a,b,c⟩:=s2;have e:=Aj e E;dsimp only[eB,C6]at m;exact au
 have⟨v11,v12,a,b,c⟩:=s2;have e:=Aj e E;dsimp only[C6]at m;exact aa
@[reducible,instance] def afo:=@Kc.mk prog 261 _ @JM
def GS:C1 prog 347 Ft Tm.av Tm.av:=by
 refine v1 func347 λT H a0 r m e=>?_;rw[Ft] at m;exact aa
@[reducible,instance] def ace:=@Kc.mk prog 347 _ @GS
def GX:C0 prog 343 FT Tm.av:=by
 refine v0 func343 λT H r m e=>?_;rw[FT] at m;exact aa
@[reducible,instance] def abN:=@Kc.mk prog 343 _ @GX
def Eo:C2 prog 337 DD Fm.av Tm.av Tm.av:=by
 refine v2 func337 λT H a0 a1 r m e=>?_;rw[DD] at m;exact aa
def oB{n:Nat}:C2 prog 336 (p5 n) sB Fm.av Fm.av:=by
 refine i2 λn ih=>u2 3 func336 λT H a0 a1 r m e=>?_;rw[p5] at m;simp[e];refine WA m 999 999 [] [2,3] (λv2 f=>f.1 39=sB v2) [7,0] (λa _ g m=>?_) ?_
 ·apply Iq e m<;>intro e m
  ·exact jj
  simp[e];refine sS m kK λ_ m=>?_;apply Ir e m<;>intro e m
  ·exact jj
  apply Iq e m<;>intro e m
  ·exact jj
  exact jj
 intro _ v2 e m;refine Wa e m 999 43 [41,42] [2,3] nI [11,0] ?_;intro _ _ e m;exact Wb e m 999 60 [58,59] [3] nI
def oL(T:eN){H:dY}{a0:Fm}{b:Bool}{c:Tm}{d:Fm}{h:Bool}(hm:AJ a0=some (b,c,d,h)):eO prog T 319 [Fm.av a0] H (AV.tuple [sB b,Tm.av c,Fm.av d,sB h]) H:=by
 rw[AJ] at hm;have e:=trivial;refine wi ak_ func319 [] [] 7 ?_;have m:=hm;refine sw [0,2,0] ?_;intro _ _ e m;refine WA m 999 0 [6] [1,3,4] (λv4 f=>f.1 48=sB v4) [13] (λo _ g m=>?_) ?_
 ·apply Iq e m<;>intro e m
  ·exact jj
  apply Iq e m<;>intro e m
  ·exact jj
  have⟨q,e,m⟩:=Ou e m;apply Iq e m<;>intro e m
  ·exact jj
  have⟨r,e,m⟩:=Ou e m;exact jj
 intro _ v4 e m;refine sg 7 [8,8,8,0] ?_;intro i j k e m;refine WB m 999 999 [6] [1,3,4,10] (λa f=>f.1 83=sB a) λl _ g m=>?_;apply Iq e m<;>intro e m
 ·exact jj
 refine sw [8,0] ?_;intro n e m;refine qO m (Ew T) λ_ m=>?_;apply Iq e m<;>intro e m
 ·exact jj
 simp[e];refine qO m Jt λ_ m=>?_;simp[e];refine qO m Eo λ_ m=>?_;simp[e];refine qO m oB λ_ m=>?_;exact jj
def n7:∀(n:Nat),C1 prog 297 (wq n) (λn=>AV.sc (Value.int .u8 n)) Fm.av:=by
  intro n
  induction n with
  |zero=>
    skip
    all_goals(intro _ _;intros;rename_i hm;cases hm)
  |succ n ih=>
 intro T H a0 r hm;rw[wq] at hm;have e:=trivial;refine wi ak_ func297 [] [] 5 ?_;have m:=hm;refine sw [0,13] ?_;intro e m;refine sg 4 [8,0,15,0] ?_;intro o b e m;refine Dt m 3 2 (λc f h=>∃v4,(h=H/\f.1 3=AV.sc (.int .u8 v4)/\bx f 1 (Fm.av a0).cells)/\c v4=some r) ?_ (λc _ g m=>?_)
 ·rintro _ _ ⟨v4,E,m⟩;have e:=Aj e E;simp[e];refine WB m 999 999 [] [] (λv9 f=>f.1 6=AV.sc (.int .u8 v9)) λq _ g m=>?_;have⟨d,i,j,k,e,m⟩:=Bo4 e m;simp[e];refine Cf (oL T e.2) ?_;apply Ir e m<;>intro e m
  ·exact jj
  refine sw [0,15] ?_;intro _ e m;exact jj
 simp[e];refine wj 999 0 (λf h=>h=H/\f.1 3=AV.sc (.int .u8 b)/\f.1 24=sI a0.ak5/\f.1 25=sB (fv (eo a0.ak5 2) true (eo a0.ak5 3))/\bx f 1 (Fm.av a0).cells) (λ_ g=>?_) ?_
 ·rcases Pb (eo a0.ak5 2) e with e|e
  ·exact aj
  exact aj
 rintro _ _ E;have e:=Aj e E;apply Ir e m<;>intro e m
 ·apply wg 999;apply Ir e m<;>intro e m
  ·exact jj
  exact jj
 refine sg 5 [8,0,15,0] ?_;intro l a e m;refine wjs 2 999 (λf h=>h=H/\f.1 3=AV.sc (.int .u8 (fv (eo a0.ak5 2) (SV .u8 b a) b))/\f.1 5=AV.sc (.int .u8 (B3 .u8 (B3 .u8 a b) 6))) ?_ (λ_ g=>?_)
 ·rintro _ _ E;exact aa
 simp[e];rcases Pb (eo a0.ak5 2) e with e|e
 ·apply wg 999;exact aj
 apply wg 999;exact aj
def Q0{n:Nat}:C1 prog 297 (wq n) (λn=>AV.sc (Value.int .u8 n)) Fm.av:=(n7 n)
@[reducible,instance] def ae9:=@Kc.mk prog 297 _ @Q0
def GL(T:eN)(c:nX T){H:dY}{a0:Fm}{a1:Int}{a:Bool}{b:Int}(hm:FL a0 a1=some (a,b)):eO prog T 263 [Fm.av a0,AV.sc (.int .u8 a1)] H (AV.tuple [sB a,sI b]) H:=by
 rw[FL] at hm;have e:=c;refine wi ak_ func263 [] [] 999 ?_;have m:=hm;exact aa
@[reducible,instance] def abQ:=@Kc.mk prog 263 _ @GL
def z7(T:eN)(c:nX T){H:dY}{a0:Fm}{a:Bool}{b:Int}(hm:xH a0=some (a,b)):eO prog T 188 [Fm.av a0] H (AV.tuple [sB a,sI b]) H:=by
 rw[xH] at hm;have e:=c;refine wi ak_ func188 [] [] 999 ?_;have m:=hm;exact aa
def eC(T:eN)(j:nX T):∀(n:Nat),(∀{H:dY} {a0:List Fm} {a1:Pf} {a2:ew} {c:d_} {d:Int} {b:Nat} (a:KC H b a0) (hm:jX n a0 a1 a2=some (c,d)),eO prog T 138 [AV.fb b 0,Pf.av a1,ew.av a2] H (AV.tuple [d_.av c,sI d]) H)/\(∀{H:dY} {a0:List Fm} {a1:Pf} {a2:ew} {c:d_} {d:Int} {b:Nat} (a:KC H b a0) (hm:qm n a0 a1 a2=some (c,d)),eO prog T 180 [AV.fb b 0,Pf.av a1,ew.av a2] H (AV.tuple [d_.av c,sI d]) H)/\(∀{H:dY} {a0:List Fm} {a1:Pf} {a2:ew} {c:d_} {d:Int} {b:Nat} (a:KC H b a0) (hm:rn n a0 a1 a2=some (c,d)),eO prog T 182 [AV.fb b 0,Pf.av a1,ew.av a2] H (AV.tuple [d_.av c,sI d]) H)/\(∀{H:dY} {a0:List Fm} {a1:Pf} {a2:ew} {a3:Fm} {a4:Tm} {c:d_} {d:Int} {b:Nat} (a:KC H b a0) (hm:lR n a0 a1 a2 a3 a4=some (c,d)),eO prog T 251 [AV.fb b 0,Pf.av a1,ew.av a2,Fm.av a3,Tm.av a4] H (AV.tuple [d_.av c,sI d]) H):=by
  intro n
  induction n with
  |zero=>
    refine⟨?_,?_,?_,?_⟩
    all_goals(intro _ _;intros;rename_i hm;cases hm)
  |succ n ih=>
 refine⟨?_,?_,?_,?_⟩
 ·intro H a0 a1 a2 c d b a hm;rw[jX] at hm;have e:=Aj j a;refine wi ak_ func138 [] [(1,true,[])] 7 ?_;have l:vD prog H 158 (AV.nx (b-1)) (sI a1.ak5) false=some (Mu a1.ak5):=Rx a.2;have e:=Aj e l;have⟨i,o,e,m⟩:=Bo2 e hm;simp[e];refine gS.val (r:=AV.tuple [d_.av i,sI o]) (H':=H) ?_ aa2 ?_
  ·have h:=e.2;rcases ac3 (eo a1.ak5 8=true)with hk|hk
   ·rw[dR hk] at h;rw[FG hk ac8];exact Ra (ih.2.1 a h)
   rw[dK hk] at h;rcases ac3 (eo a1.ak5 10=true)with hk|hk
   ·rw[dR hk] at h;rw[FG hk ac8];exact Ra (ih.2.2.1 a h)
   rw[dK hk] at h;rcases ac3 (eo a1.ak5 18=true)with hk|hk
   ·rw[dR hk] at h;rw[FG hk ac8];exact Ra (s7 T a h)
   rw[dK hk] at h;cases h
  refine sw [0,13] ?_;intro e m;refine sg 5 [0,1,0,13] ?_;intro _ e m;apply wg 2;simp[e];refine WB m 999 999 [] [6] (λq f=>bx f 8 [sI i.dZ.ak5,sI i.dZ.dM.ak5,sL Ty.av i.dZ.dM.ak6,sL Tm.av i.dZ.eh,sL Fm.av i.dZ.ak6,AV.sc (.int .u32 q)]) λB _ g m=>?_;simp[e];refine E9 m (z7 T j) λ_ _ m=>?_;apply Ir e m<;>intro e m
  ·exact jj
  exact jj
 ·intro H a0 a1 a2 c d b a hm;rw[qm] at hm;have e:=Aj j a;refine wi ak_ func180 [] [] 7 ?_;have m:=hm;refine sw [0,1,0,13] ?_;intro _ e m;refine sg 7 [8,0,4,0] ?_;intro C _ e m;refine sZ m (ih.1 a) λs _ m=>?_;refine sw [0,13] ?_;intro e m;apply wg 4;simp[e];refine WA m 999 999 [] [4,6,9] (λk f=>f.1 11=sI k) [] (λt _ g m=>?_) ?_
  ·apply Ir e m<;>intro e m
   ·exact jj
   refine Il e m λe m=>?_;exact jj
  intro _ k e m;exact aa
 ·intro H a0 a1 a2 c d b a hm;rw[rn] at hm;have e:=Aj j a;refine wi ak_ func182 [] [] 999 ?_;have m:=hm;refine sw [8,8] ?_;intro u v e m;apply Ir e m<;>intro e m
  ·simp[e];refine sS m gZ λ_ m=>?_;refine sw [7,7,0] ?_;intro e m;refine E9 m gM λ_ _ m=>?_;refine sw [7,0] ?_;intro e m;refine sS m qk λ_ m=>?_;refine sw [12,8,8,0] ?_;intro w x e m;refine sZ m (ih.2.2.2 a) λ_ _ m=>?_;refine sw [7,0] ?_;intro e m;refine qO m (KJ T) λ_ m=>?_;exact au
  simp[e];refine sS m gZ λ_ m=>?_;refine sw [7,7,0] ?_;intro e m;refine E9 m gM λ_ _ m=>?_;refine sw [7,0] ?_;intro e m;refine sS m qk λ_ m=>?_;refine sw [12,8,8,0] ?_;intro y A e m;refine sZ m (ih.2.2.2 a) λ_ _ m=>?_;refine sw [7,0] ?_;intro e m;refine qO m za λ_ m=>?_;exact au
 ·intro H a0 a1 a2 a3 a4 c d b a hm;rw[lR] at hm;have e:=Aj j a;refine wi ak_ func251 [] [] 999 ?_;simp[e];refine E9 hm (ih.1 a) λ_ _ m=>?_;refine sw [7,0,2] ?_;intro _ i e m;exact aa
def ze(T:eN)(f:nX T){H:dY}{a0:List Fm}{a1:Pf}{a2:ew}{b:d_}{c:Int}{d:Nat}(a:KC H d a0){n:Nat}(hm:jX n a0 a1 a2=some (b,c)):eO prog T 138 [AV.fb d 0,Pf.av a1,ew.av a2] H (AV.tuple [d_.av b,sI c]) H:=(eC T f n).1 a hm
def y8{n:Nat}:C1 prog 192 (Ed n) Tm.av Tm.av:=by
 refine i1 λn ih=>v1 func192 λT H a0 r m e=>?_;rw[Ed] at m;refine sw [0,4,0] ?_;intro i e m;refine Td e m 999 17 [15,16] [2] [26] (λb=>b) (λb a f=>bx f 3 [sI a0.ak5,sI a0.ak8,sI i.ak5,sL Ty.av i.ak6,sT a Tm.av b]) λj _ b d _ _ _ _ E e m z p=>?_;have⟨a,E,c⟩:=E;refine sw [20,0,18,9,0] ?_;intro h e m;refine Ad (f:=Tm.av) b [h] c zl e.2 ?_;simp[e];cases m;exact p _ _ _ ⟨(.loc 26 (d.fi 26+1)),abE,(On 26)⟩ z
@[reducible,instance] def aei:=@Kc.mk prog 192 _ @y8
def vo:C2 prog 191 sl Tm.av Tm.av sI:=by
 refine v2 func191 λT H a0 a1 r m e=>?_;rw[sl] at m;exact aa
def Eb:C1 prog 140 u9 Fm.av Fm.av:=by
 refine v1 func140 λT H a0 r m e=>?_;rw[u9] at m;simp[e];refine E9 m (ta T (st:=λ_:Unit=>H) (Fz.const _) (λX _ _ _ _ _ h=>by obtain⟨a,rfl⟩:=yT h;exact vo a)) λ_ _ m=>?_;exact au
def TI:kN prog 193=true:=by kernel_rfl
set_option maxHeartbeats 4000000 in
def aav(x k idx:Nat)(w:World)(b:((x:Int)==0)=false)
  (key:bits BinOp.and IntKind.u32 (x:Int) (-(x:Int)%4294967296)*125613361%4294967296/134217728=(idx:Int))
  (hi:idx<32) (c:k<32) (a:w.cell? ⟨0,idx,none⟩=some (.int .u8 k)):Calls prog 193 #[.int .u32 x] w λe w'=>e=.returned (.int .i64 k)/\w'=w:=by
 go_enter func193,ntmps193
 go_wp2_with (simp only[key])
 go_ret
 exact⟨rfl,rfl⟩
set_option maxHeartbeats 4000000 in
def abn(w:World):Calls prog 193 #[.int .u32 0] w λe w'=>e=.returned (.int .i64 32)/\w'=w:=by
 go_enter func193,ntmps193
 go_wp2
 go_ret
 exact⟨rfl,rfl⟩
def ZW(n:Int):IntKind.u32.wrap n=n%4294967296:=by simp[IntKind.wrap,IntKind.signed,IntKind.bits]
def ad9(a b:Nat)(f:a<4294967296)(h:b<4294967296):bits .and .u32 (a:Int) (b:Int)=((a&&&b:Nat):Int):=by
 have i:a&&&b<2^32:=ah6 _ VW
 have c:(BitVec.ofInt 32 (a:Int)).toNat=a:=by
  rw[ahj];omega
 have d:(BitVec.ofInt 32 (b:Int)).toNat=b:=by
  rw[ahj];omega
 show IntKind.u32.wrap ((BitVec.ofInt 32 (a:Int)&&&BitVec.ofInt 32 (b:Int)).toNat:Int)=_;rw[BitVec.toNat_and,c,d,ZW];omega
def ad'(x a:Nat)(c:x<4294967296)(d:x≠0)(b:x&&&(4294967296-x)=a):bits BinOp.and IntKind.u32 (x:Int) (-(x:Int)%4294967296)*125613361%4294967296/134217728=((a*125613361%4294967296/134217728:Nat):Int):=by
 have f:-(x:Int)%4294967296=((4294967296-x:Nat):Int):=VW
 rw[f,ad9 x _ c VW,b];omega
def aeG:∀j,j<32->lx[j]?=some ((Lib.deBruijn32tab.getD j 0:Nat):Int):=by decide+kernel
def vF(T:eN)(q:nX T){H:dY}{a0 h:Int}(hm:mA a0=some h):eO prog T 193 [AV.sc (.int .u32 a0)] H (sI h) H:=by
 unfold mA at hm
 split at hm
 case isFalse=>cases hm
 rename_i j;obtain⟨x,rfl⟩:∃x:Nat,a0=(x:Int):=⟨a0.toNat,VW⟩;obtain rfl:=kR hm
 have k:x<2^32:=VW
 rw[DS];refine eO.abf TI λG F w vs hg r=>?_
 obtain⟨v1,rfl,a⟩:∃v,vs=[v]/\gQ F G H.length (AV.sc (.int .u32 (x:Int))) v:=by
  cases r with
  |cons a b=>cases b;exact⟨_,rfl,a⟩
 cases a;refine⟨_,.sc rfl,?_⟩
 by_cases c:x=0
 ·subst c;exact(abn w).mono λe w' ⟨a,b⟩=>⟨a,by rw[b];exact agV _ _⟩
 ·have⟨d,l⟩:=Lib.lowest_bit 32 x c k;have⟨hi,f⟩:=Lib.deBruijn32_at _ l;have s:=hg.Dn 0 _ q.2.2;cases s with
  |mj a b u=>
   have n:=aeG _ hi;rw[f] at n;have⟨v,t,j⟩:=a.get (i:=2^Lib.ctz 32 x*125613361%4294967296/134217728) (x:=.sc (.int .u8 (Lib.ctz 32 x:Int))) (by simp[AV.cells,n]);cases j;have o:=hg.GK _ _ _ (b _ _ t);rw[Aa] at o;exact(aav x (Lib.ctz 32 x) _ w acx (ad' x _ k c d) hi l o).mono λe w' ⟨a,b⟩=>⟨a,by rw[b];exact agV _ _⟩
@[reducible,instance] def HE:=@Kc.mk prog 193 _ @vF
def qj(T:eN)(i:nX T){H:dY}{a0:Int}{d:List Int}(hm:nH a0=some d):eO prog T 141 [AV.sc (.int .u32 a0)] H (sL sI d) H:=by
 rw[nH] at hm;have e:=i;refine wi ak_ func141 [] [] 999 ?_;simp[e];refine Wn hm 999 (λs1 f h=>∃a,(h=H/\f.1 0=AV.sc (.int .u32 s1.1)/\f.1 3=sT a sI s1.2)/\Ow f [14] a s1.2) (by exact⟨.full,abE,hS.full⟩) (λs1 fr2 _ _ _ _ E m z p=>?_);have⟨j,v9⟩:=s1;have⟨a,E,b⟩:=E;have e:=Aj e E;dsimp only[kp]at m;apply Ir e m<;>intro e m
 ·cases m;have m:=Qb z;dsimp only[kp]at m;exact au
 refine sw [0,1,9,0] ?_;intro c e m;refine Ao (f:=sI) v9 [c] b Fb e.2 ?_;simp[e];cases m;exact p _ _ _ ⟨(.loc 14 (fr2.fi 14+1)),abE,(On 14)⟩ z
def sC(T:eN)(a:nX T){H:dY}{a0:List Fm}{a1:Sq}{a2:Pf}{b:sW}{c:Int}(hm:zg a0 a1 a2=some (b,c)):eO prog T 101 [sL Fm.av a0,Sq.av a1,Pf.av a2] H (AV.tuple [sW.av b,sI c]) H:=by
 rw[zg] at hm;refine fC.vt (Post:=λx K=>x=AV.tuple [sW.av b,sI c]/\∃X,K=H++X) ?_ (λ_ _ h=>⟨_,h.2.choose_spec,by rw[h.1];simp[AV.low,AV.iE],h.1,rfl⟩);have e:=a;refine wi ak_ func101 [29] [] 999 ?_;simp[e];refine sS hm (tf T a) λ_ m=>?_;refine sw [7,0] ?_;intro e m;refine sS m (xL T a) λ_ m=>?_;refine sw [7,0] ?_;intro e m;refine sS m (IV T) λ_ m=>?_;simp[e];refine qO m wE λ_ m=>?_;simp[e];refine sZ m (ze T a ⟨abE,abE⟩) λ_ _ m=>?_;refine sw [7,0] ?_;intro e m;refine qO m Eb λ_ m=>?_;simp[e];refine qO m (qj T a) λ_ m=>?_;exact au
@[reducible,instance] def Wl:=@Kc.mk prog 101 _ @sC
def zL(T:eN)(b:nX T){H:dY}{a0:Tm}{a1:Pf}{a:Int}(hm:tX a0 a1=some a):eO prog T 46 [Tm.av a0,Pf.av a1] H (sI a) H:=by
 rw[tX] at hm;have e:=b;refine wi ak_ func46 [] [] 999 ?_;have m:=hm;exact aa
@[reducible,instance] def UI:=@Kc.mk prog 46 _ @zL
def MO:C1 prog 49 kh Pf.av sI:=by
 refine v1 func49 λT H a0 r m e=>?_;rw[kh] at m;exact au
@[reducible,instance] def ZC:=@Kc.mk prog 49 _ @MO
def ER:C3 prog 47 jM Pf.av Fm.av Pf.av Pf.av:=by
 refine v3 func47 λT H a0 a1 a2 r m e=>?_;rw[jM] at m;have e:=Aj e (show AV.agg [sI 19,sI 0,sI 0,AV.slice .gI [],AV.slice .gI [],AV.slice .gI [Fm.av a0],AV.slice .gI [Pf.av a1,Pf.av a2]]=Pf.av (Pf.mk 19 0 (Ty.mk 0 []) [] [a0] [a1,a2]) by rw[Pf.eR];rfl);exact au
@[reducible,instance] def RS:=@Kc.mk prog 47 _ @ER
def LZ:C2 prog 51 zs Pf.av Tm.av Pf.av:=by
 refine v2 func51 λT H a0 a1 r m e=>?_;rw[zs] at m;have e:=Aj e (show AV.agg [sI 9,sI 0,sI 0,AV.slice .gI [],AV.slice .gI [Tm.av a0],AV.slice .gI [],AV.slice .gI [Pf.av a1]]=Pf.av (Pf.mk 9 0 (Ty.mk 0 []) [a0] [] [a1]) by rw[Pf.eR];rfl);exact au
@[reducible,instance] def aaz:=@Kc.mk prog 51 _ @LZ
def Qd:C2 prog 50 mg Pf.av sI (sL Pf.av):=by
 refine v2 func50 λT H a0 a1 r m e=>?_;rw[mg] at m;exact au
@[reducible,instance] def aey:=@Kc.mk prog 50 _ @Qd
def vW(T:eN)(k:nX T){H:dY}{a0:Tm}{a1:Pf}{a2:Tm}{a3:Pf}{b:Fm}{c:Pf}{d:Int}(hm:yS a0 a1 a2 a3=some (b,c,d)):eO prog T 12 [Tm.av a0,Pf.av a1,Tm.av a2,Pf.av a3] H (AV.tuple [Fm.av b,Pf.av c,sI d]) H:=by
 rw[yS] at hm;have e:=k;refine wi ak_ func12 [] [] 999 ?_;simp[e];have⟨i,a,m⟩:=Ds hm;refine Wr e m 999 (λj _ f h=>h=H/\f.1 20=sT .full Tm.av i/\f.1 21=sI (eA i)/\f.1 22=sI j/\bx f 4 (Tm.av a0).cells/\bx f 5 (Pf.av a1).cells/\bx f 6 (Tm.av a2).cells/\bx f 7 (Pf.av a3).cells/\bx f 8 [sI 0,sI 0,nL,nL,nL]/\bx f 9 [sI 0,sI 0,sI 0,nL,nL,nL,nL]) (by(repeat' apply And.intro)<;>first|rfl|(rw[a];rfl)|simp[e,a,eA]) (λ_ _ _ _ E m=>?_) (λj _ _ _ _ _ _ _ E e m z p=>?_);rotate_left
 ·exact aa
 exact aa
@[reducible,instance] def W6:=@Kc.mk prog 12 _ @vW
def zC{n:Nat}:C1 prog 127 (iY n) Ty.av Ty.av:=by
 refine i1 λn ih=>v1 func127 λT H a0 r m e=>?_;rw[iY] at m;simp[e];refine Td e m 999 9 [7,8] [1,2] [17] (λs2=>s2) (λs2 a f=>f.1 3=sT a Ty.av s2) λh _ s2 c _ _ _ _ E e m z p=>?_;have⟨a,E,b⟩:=E;refine sw [20,0,15,9,0] ?_;intro d e m;refine Ao (f:=Ty.av) s2 [d] b FV e.2 ?_;simp[e];cases m;exact p _ _ _ ⟨(.loc 17 (c.fi 17+1)),abE,(On 17)⟩ z
@[reducible,instance] def aaq:=@Kc.mk prog 127 _ @zC
def zi{n:Nat}:C1 prog 123 (lF n) Tm.av Tm.av:=by
 refine i1 λn ih=>v1 func123 λT H a0 r m e=>?_;rw[lF] at m;simp[e];refine Td e m 999 9 [7,8] [1,2] [17] (λs2=>s2) (λs2 a f=>f.1 3=sT a Tm.av s2) λh _ s2 c _ _ _ _ E e m z p=>?_;have⟨a,E,b⟩:=E;refine sw [20,0,15,9,0] ?_;intro d e m;refine Ao (f:=Tm.av) s2 [d] b zl e.2 ?_;simp[e];cases m;exact p _ _ _ ⟨(.loc 17 (c.fi 17+1)),abE,(On 17)⟩ z
@[reducible,instance] def aat:=@Kc.mk prog 123 _ @zi
def yj:C2 prog 89 fQ Tm.av sI (sL Tm.av):=by
 refine v2 func89 λT H a0 a1 r m e=>?_;rw[fQ] at m;simp[e];refine Td e m 999 10 [0,8,9] [4] [18] (λs2=>s2) (λs2 a f=>f.1 5=sT a Tm.av s2) λh _ s2 c _ _ _ _ E e m z p=>?_;have⟨a,E,b⟩:=E;refine sw [20,0,1,9,0] ?_;intro d e m;refine Ao (f:=Tm.av) s2 [d] b zl e.2 ?_;simp[e];cases m;exact p _ _ _ ⟨(.loc 18 (c.fi 18+1)),abE,(On 18)⟩ z
@[reducible,instance] def afG:=@Kc.mk prog 89 _ @yj
def zN:C1 prog 107 qU Tm.av sI:=by
 refine v1 func107 λT H a0 r m e=>?_;rw[qU] at m;refine sw [0,1,0] ?_;intro _ e m;refine Wn m 999 (λs2 f h=>∃a b,h=H/\f.1 0=sI s2.1/\bx f 2 [sI 0,sI 0,sI 0,nL,nL]/\bx f 3 [sI s2.2.1,sI s2.2.2.1,sI s2.2.2.2.1,sT a Ty.av s2.2.2.2.2.1,sT b Tm.av s2.2.2.2.2.2]) ⟨.gI,.gI,abE⟩ (λs2 _ _ _ _ _ E m z p=>?_);have⟨v10,v11,v12,c,d,i⟩:=s2;have⟨a,b,E⟩:=E;have e:=Aj e E;dsimp only[AR]at m;apply Ir e m<;>intro e m
 ·cases m;have m:=Qb z;dsimp only[AR]at m;exact au
 simp[e];cases m;exact p _ _ _ ⟨.full,.full,abE⟩ z
@[reducible,instance] def Uy:=@Kc.mk prog 107 _ @zN
def Br:C1 prog 69 vC (t2 Tm.av sI) sI:=by
 refine v1 func69 λT H a0 r m e=>?_;rw[vC] at m;exact aa
@[reducible,instance] def Xf:=@Kc.mk prog 69 _ @Br
def OR:C1 prog 21 uX Tm.av sI:=by
 refine v1 func21 λT H a0 r m e=>?_;rw[uX] at m;exact aa
@[reducible,instance] def ahN:=@Kc.mk prog 21 _ @OR
def nN(T:eN){H:dY}{a0 a b j:Tm}{q0 q1:Nat}(c:H[q0]?=some [sI a.ak5,sI a.ak8,sI a.dM.ak5,sL Ty.av a.dM.ak6,sL Tm.av a.ak6])(d:H[q1]?=some [sI b.ak5,sI b.ak8,sI b.dM.ak5,sL Ty.av b.dM.ak6,sL Tm.av b.ak6])(hm:nK a0 a b=some j):eO prog T 54 [Tm.av a0,AV.fb q0 0,AV.fb q1 0] H (Tm.av j) H:=by
 rw[nK] at hm;have f:=eU c;have h:=eU d;have e:=Aj (Aj (Aj f c) h) d;refine wi ak_ func54 [] [(1,true,[])] 999 ?_;have m:=hm;refine sw [0,4] ?_;intro i e m;have e:=Aj e (show AV.agg [sI 6,sI 0,sI i.ak5,sL Ty.av i.ak6,AV.slice .gI [Tm.av a,Tm.av b,Tm.av a0]]=Tm.av (Tm.mk 6 0 i [a,b,a0]) by rw[Tm.eR];rfl);exact au
def CR:C5 prog 57 l' Pf.av sI Fm.av Tm.av Pf.av Pf.av:=by
 refine v5 func57 λT H a0 a1 a2 a3 a4 r m e=>?_;rw[l'] at m;have e:=Aj e (show AV.agg [sI a0,sI 0,sI 0,AV.slice .gI [],AV.slice .gI [Tm.av a2],AV.slice .gI [Fm.av a1],AV.slice .gI [Pf.av a3,Pf.av a4]]=Pf.av (Pf.mk a0 0 (Ty.mk 0 []) [a2] [a1] [a3,a4]) by rw[Pf.eR];rfl);exact au
@[reducible,instance] def Qv:=@Kc.mk prog 57 _ @CR
def lp(T:eN)(d:nX T){H:dY}{a0 a1:Tm}{a:Fm}{b:Pf}{c:Int}(hm:y5 a0 a1=some (a,b,c)):eO prog T 15 [Tm.av a0,Tm.av a1] H (AV.tuple [Fm.av a,Pf.av b,sI c]) H:=by
 rw[y5] at hm;refine fC.vt (Post:=λx K=>x=AV.tuple [Fm.av a,Pf.av b,sI c]/\∃X,K=H++X) ?_ (λ_ _ h=>⟨_,h.2.choose_spec,by rw[h.1];simp[AV.low,AV.iE],h.1,rfl⟩);have e:=d;refine wi ak_ func15 [2,3] [(1,true,[]),(4,true,[]),(8,true,[]),(9,true,[]),(10,true,[])] 999 ?_;have m:=hm;refine sw [0,4,0,4,13,0,4,0,4,0,4,0,4,0,4,13,0,4,0,4,0,4,0,4,0,4,8,0] ?_;intro _ _ _ _ _ _ _ _ _ _ _ _ f e m;refine gS.G3 ac8 (nN T abE abE e.2) aa2 ?_;refine sw [0,4,0,4,0,4,0,4,0,4,0,4,0,4,0,4,0,4,0,4,0,4,8,0] ?_;intro _ _ _ _ _ _ _ _ _ _ _ i e m;refine gS.G3 ac8 (nN T abE abE e.2) aa2 ?_;refine sw [0,4,0,4,0,4,0,4,8,0] ?_;intro _ _ _ _ j e m;refine gS.G3 ac8 (nN T abE abE e.2) aa2 ?_;refine sw [0,4,0,4,0,4,0,4,0,4,0,4,0,4,8,0] ?_;intro _ _ _ _ _ _ _ k e m;refine gS.G3 ac8 (nN T abE abE e.2) aa2 ?_;exact aa
@[reducible,instance] def Vh:=@Kc.mk prog 15 _ @lp
def L5:C0 prog 62 tj Ty.av:=by
 refine v0 func62 λT H r m e=>?_;rw[tj] at m;exact au
@[reducible,instance] def aa7:=@Kc.mk prog 62 _ @L5
def ld(T:eN){H:dY}{a0 a b j:Tm}{q0 q1:Nat}(c:H[q0]?=some [sI a.ak5,sI a.ak8,sI a.dM.ak5,sL Ty.av a.dM.ak6,sL Tm.av a.ak6])(d:H[q1]?=some [sI b.ak5,sI b.ak8,sI b.dM.ak5,sL Ty.av b.dM.ak6,sL Tm.av b.ak6])(hm:jO a0 a b=some j):eO prog T 63 [Tm.av a0,AV.fb q0 0,AV.fb q1 0] H (Tm.av j) H:=by
 rw[jO] at hm;have f:=eU c;have h:=eU d;have e:=Aj (Aj (Aj f c) h) d;refine wi ak_ func63 [] [(1,true,[])] 999 ?_;have m:=hm;refine sw [0,4] ?_;intro i e m;have e:=Aj e (show AV.agg [sI 9,sI 0,sI i.ak5,sL Ty.av i.ak6,AV.slice .gI [Tm.av a,Tm.av b,Tm.av a0]]=Tm.av (Tm.mk 9 0 i [a,b,a0]) by rw[Tm.eR];rfl);exact au
def iX(T:eN)(d:nX T){H:dY}{a0 a1:Tm}{a:Fm}{b:Pf}{c:Int}(hm:ma a0 a1=some (a,b,c)):eO prog T 18 [Tm.av a0,Tm.av a1] H (AV.tuple [Fm.av a,Pf.av b,sI c]) H:=by
 rw[ma] at hm;refine fC.vt (Post:=λx K=>x=AV.tuple [Fm.av a,Pf.av b,sI c]/\∃X,K=H++X) ?_ (λ_ _ h=>⟨_,h.2.choose_spec,by rw[h.1];simp[AV.low,AV.iE],h.1,rfl⟩);have e:=d;refine wi ak_ func18 [2,3] [(1,true,[]),(4,true,[]),(8,true,[]),(9,true,[]),(10,true,[])] 999 ?_;have m:=hm;refine sw [0,4,0,4,13,0,4,0,4,0,4,0,4,0,4,0,4,13,0,4,0,4,0,4,0,4,0,4,0,4,0,4,8,0] ?_;intro _ _ _ _ _ _ _ _ _ _ _ _ _ _ _ f e m;refine gS.G3 ac8 (ld T abE abE e.2) aa2 ?_;refine sw [0,4,0,4,0,4,0,4,0,4,0,4,0,4,0,4,0,4,0,4,0,4,0,4,8,0] ?_;intro _ _ _ _ _ _ _ _ _ _ _ _ i e m;refine gS.G3 ac8 (ld T abE abE e.2) aa2 ?_;refine sw [0,4,0,4,0,4,0,4,8,0] ?_;intro _ _ _ _ j e m;refine gS.G3 ac8 (ld T abE abE e.2) aa2 ?_;refine sw [0,4,0,4,0,4,0,4,0,4,0,4,0,4,8,0] ?_;intro _ _ _ _ _ _ _ k e m;refine gS.G3 ac8 (ld T abE abE e.2) aa2 ?_;exact aa
@[reducible,instance] def Q8:=@Kc.mk prog 18 _ @iX
def w8:C1 prog 88 gA Tm.av sI:=by
 refine v1 func88 λT H a0 r m e=>?_;rw[gA] at m;exact au
@[reducible,instance] def ab2:=@Kc.mk prog 88 _ @w8
def Bl:C0 prog 94 jy Ty.av:=by
 refine v0 func94 λT H r m e=>?_;rw[jy] at m;exact au
@[reducible,instance] def ab6:=@Kc.mk prog 94 _ @Bl
def KW:C3 prog 92 lu Tm.av sI Ty.av (sL Tm.av):=by
 refine v3 func92 λT H a0 a1 a2 r m e=>?_;rw[lu] at m;exact aa
@[reducible,instance] def afT:=@Kc.mk prog 92 _ @KW
def Gv:C1 prog 86 jW Tm.av Tm.av:=by
 refine v1 func86 λT H a0 r m e=>?_;rw[jW] at m;exact aa
@[reducible,instance] def acs:=@Kc.mk prog 86 _ @Gv
def GJ:C3 prog 87 tn Tm.av Tm.av Tm.av Tm.av:=by
 refine v3 func87 λT H a0 a1 a2 r m e=>?_;rw[tn] at m;exact aa
@[reducible,instance] def ack:=@Kc.mk prog 87 _ @GJ
def E3:C0 prog 32 pS Tm.av:=by
 refine v0 func32 λT H r m e=>?_;rw[pS] at m;exact aa
@[reducible,instance] def Z4:=@Kc.mk prog 32 _ @E3
def DQ:C2 prog 66 ra Tm.av Ty.av Tm.av:=by
 refine v2 func66 λT H a0 a1 r m e=>?_;rw[ra] at m;have e:=Aj e (show AV.agg [sI 2,sI 0,sI a0.ak5,sL Ty.av a0.ak6,AV.slice .gI [Tm.av a1]]=Tm.av (Tm.mk 2 0 a0 [a1]) by rw[Tm.eR];rfl);exact au
@[reducible,instance] def SF:=@Kc.mk prog 66 _ @DQ
def ku(T:eN){H:dY}{a0:Tm}{a:Ty}{b c d s:Tm}{q0 q1 t u v:Nat}(f:H[q0]?=some [sI a.ak5,sL Ty.av a.ak6])(h:H[q1]?=some [sI b.ak5,sI b.ak8,sI b.dM.ak5,sL Ty.av b.dM.ak6,sL Tm.av b.ak6])(i:H[t]?=some [sI c.ak5,sI c.ak8,sI c.dM.ak5,sL Ty.av c.dM.ak6,sL Tm.av c.ak6])(j:H[u]?=some [AV.func (.func 66) [] []])(k:H[v]?=some [sI d.ak5,sI d.ak8,sI d.dM.ak5,sL Ty.av d.dM.ak6,sL Tm.av d.ak6])(hm:kJ a0 a b c d=some s):eO prog T 67 [Tm.av a0,AV.fb q0 0,AV.fb q1 0,AV.fb t 0,AV.fb u 0,AV.fb v 0] H (Tm.av s) H:=by
 rw[kJ] at hm;have l:=eU f;have n:=eU h;have o:=eU i;have q:=eU j;have r:=eU k;have e:=Aj (Aj (Aj (Aj (Aj (Aj (Aj (Aj (Aj l f) n) h) o) i) q) j) r) k;refine wi ak_ func67 [] [(1,true,[])] 999 ?_;have m:=hm;refine sw [0,4,0,4,0,4,0,4] ?_;intro w _ _ x e m;have e:=Aj e (show AV.agg [sI 6,sI 0,sI a.ak5,sL Ty.av a.ak6,AV.slice .gI [Tm.av w,Tm.av x,Tm.av a0]]=Tm.av (Tm.mk 6 0 a [w,x,a0]) by rw[Tm.eR];rfl);exact au
def xo:C1 prog 64 iG Tm.av Tm.av:=by
 refine v1 func64 λT H a0 r m e=>?_;rw[iG] at m;exact aa
@[reducible,instance] def R4:=@Kc.mk prog 64 _ @xo
def xp:C1 prog 65 iF Tm.av Tm.av:=by
 refine v1 func65 λT H a0 r m e=>?_;rw[iF] at m;exact aa
@[reducible,instance] def Sw:=@Kc.mk prog 65 _ @xp
def mS(T:eN){H:dY}{a0:Tm}{a:Ty}{j:Fm}{q0 q1 k:Nat}(b:H[q0]?=some [AV.func (.func 64) [] []])(c:H[q1]?=some [AV.func (.func 65) [] []])(d:H[k]?=some [sI a.ak5,sL Ty.av a.ak6])(hm:oG a0 a=some j):eO prog T 68 [Tm.av a0,AV.fb q0 0,AV.fb q1 0,AV.fb k 0] H (Fm.av j) H:=by
 rw[oG] at hm;have f:=eU b;have h:=eU c;have i:=eU d;have e:=Aj (Aj (Aj (Aj (Aj f b) h) c) i) d;refine wi ak_ func68 [] [(2,true,[])] 999 ?_;have m:=hm;refine sw [0,1,0,4,0,4,0,4,0,4,0,4,0,4,0,4,0,4] ?_;intro _ _ _ _ l _ _ _ n e m;have e:=Aj e (show AV.agg [sI 2,sI 0,AV.slice .gI [],AV.slice .gI [],AV.slice .gI [Fm.av l,Fm.av n]]=Fm.av (Fm.mk 2 (Ty.mk 0 []) [] [l,n]) by rw[Fm.eR];rfl);exact aa
def eI(T:eN)(t:nX T){H:dY}{a0 a1 a2:Tm}{c:Fm}{i:Pf}{j:Int}(hm:xK a0 a1 a2=some (c,i,j)):eO prog T 20 [Tm.av a0,Tm.av a1,Tm.av a2] H (AV.tuple [Fm.av c,Pf.av i,sI j]) H:=by
 rw[xK] at hm;refine fC.vt (Post:=λx K=>x=AV.tuple [Fm.av c,Pf.av i,sI j]/\∃X,K=H++X) ?_ (λ_ _ h=>⟨_,h.2.choose_spec,by rw[h.1];simp[AV.low,AV.iE],h.1,rfl⟩);have e:=t;refine wi ak_ func20 [] [(18,true,[]),(19,true,[]),(20,true,[]),(21,true,[]),(22,true,[]),(23,true,[]),(24,true,[]),(26,true,[])] 999 ?_;simp[e];have⟨n,b,m⟩:=Ds hm;refine Wr e m 0 (λo _ f h=>h=H/\f.1 30=sT .full Tm.av n/\f.1 31=sI (eA n)/\f.1 32=sI o/\bx f 3 (Tm.av a0).cells/\bx f 4 (Tm.av a1).cells/\bx f 5 (Tm.av a2).cells/\bx f 6 [sI 0,sI 0,nL,nL,nL]/\bx f 7 [sI 0,sI 0,sI 0,nL,nL,nL,nL]) (by(repeat' apply And.intro)<;>first|rfl|(rw[b];rfl)|simp[e,b,eA]) (λ_ _ _ _ E m=>?_) (λo _ _ _ _ _ _ _ E e m z p=>?_);rotate_left
 ·exact aa
 have e:=Aj e E;refine sg 10 [11,0,4,0,4,0,4,0,4,0,4,0,13] ?_;intro _ _ _ _ _ e m;refine sg 13 [0,1,0,1,0,4,0,4,0,4,0,4,0,4,0,4,0,4,0,4,0] ?_;intro k l _ _ _ _ _ _ _ a e m;refine DA 0 (d:=15) (cs:=[sI 3,AV.slice .full [Ty.av k,Ty.av l]]) abE abE ?_;refine DA 0 (d:=3) (cs:=[sI a0.ak5,sI a0.ak8,sI a0.dM.ak5,sL Ty.av a0.dM.ak6,sL Tm.av a0.ak6]) abE abE ?_;refine DA 0 (d:=4) (cs:=[sI a1.ak5,sI a1.ak8,sI a1.dM.ak5,sL Ty.av a1.dM.ak6,sL Tm.av a1.ak6]) abE abE ?_;refine DA 0 (d:=16) (cs:=[AV.func (.func 66) [] []]) abE abE ?_;refine DA 2 (d:=17) (cs:=[sI a.ak5,sI a.ak8,sI a.dM.ak5,sL Ty.av a.dM.ak6,sL Tm.av a.ak6]) abE abE ?_;simp[e];refine DA 0 (d:=13) (cs:=[AV.func (.func 64) [] []]) abE abE ?_;refine DA 999 (d:=14) (cs:=[AV.func (.func 65) [] []]) abE abE ?_;refine sw [0,4,8,0] ?_;intro _ u e m;refine gS.G3 ac8 (ku T abE abE abE abE abE e.2) aa2 ?_;refine sw [8,0] ?_;intro v e m;refine gS.G3 ac8 (mS T abE abE abE e.2) aa2 ?_;simp[e];refine Ak m λ_ m=>?_;simp[e];refine Ak m λ_ m=>?_;simp[e];refine Ak m λ_ m=>?_;simp[e];refine Ak m λ_ m=>?_;simp[e];refine Ak m λ_ m=>?_;simp[e];refine Ak m λ_ m=>?_;simp[e];refine Ak m λ_ m=>?_;simp[e];refine Ak m λ_ m=>?_;simp[e];refine Ak m λ_ m=>?_;simp[e];refine Ak m λ_ m=>?_;simp[e];refine Ak m λ_ m=>?_;simp[e];refine Ak m λ_ m=>?_;simp[e];refine Ak m λ_ m=>?_;simp[e];refine Ak m λ_ m=>?_;simp[e];refine Ak m λ_ m=>?_;simp[e];refine Ak m λ_ m=>?_;simp[e];refine Ak m λ_ m=>?_;simp[e];refine Ak m λ_ m=>?_;simp[e];refine Ak m λ_ m=>?_;simp[e];refine Ak m λ_ m=>?_;refine sw [0,4,0,4,0,4,0,4,0,4,0,4,0,4,0,4,0,4,0,4,0,4,0,4,0,4,0,4,0,4,8,0] ?_;intro _ _ _ _ _ _ _ _ _ _ _ _ _ _ _ w e m;refine gS.G3 ac8 (ku T abE abE abE abE abE e.2) aa2 ?_;refine sw [0,4,0,4,0,4,0,4,0,4,0,4,0,4,0,4,0,4,0,4,8,0] ?_;intro _ _ _ _ _ _ _ _ _ _ y e m;refine gS.G3 ac8 (ku T abE abE abE abE abE e.2) aa2 ?_;refine sw [8,0] ?_;intro A e m;refine gS.G3 ac8 (mS T abE abE abE e.2) aa2 ?_;refine sw [0,4,0,4,0,4,0,4,8,0] ?_;intro _ _ _ _ B e m;refine gS.G3 ac8 (ku T abE abE abE abE abE e.2) aa2 ?_;refine sw [0,4,0,4,0,4,0,4,0,4,0,4,0,4,0,4,0,4,8,0] ?_;intro _ _ _ _ _ _ _ _ _ q e m;refine gS.G3 ac8 (ku T abE abE abE abE abE e.2) aa2 ?_;refine sw [8,0] ?_;intro r e m;refine gS.G3 ac8 (mS T abE abE abE e.2) aa2 ?_;refine sw [0,4,0,4,0,4,0,4,0,4,0,4,8,0] ?_;intro _ _ _ _ _ _ s e m;refine gS.G3 ac8 (ku T abE abE abE abE abE e.2) aa2 ?_;exact aa
@[reducible,instance] def UP:=@Kc.mk prog 20 _ @eI
def qz{n:Nat}:C1 prog 164 (p0 n) sB Ty.av:=by
 refine i1 λn ih=>u1 4 func164 λT H a0 r m e=>?_;rw[p0] at m;simp[e];refine Dt m 3 999 (λa f h=>∃v2,(h=H/\f.1 3=sI v2/\bx f 1 (Ty.av a0).cells)/\a v2=some r) ?_ (λa _ g m=>?_)
 ·rintro _ _ ⟨v2,E,m⟩;refine sw [10,7,0] ?_;intro e m;refine Wr e m 999 (λb _ f h=>h=H/\f.1 21=sL Ty.av a0.ak6/\f.1 22=sI (eA a0.ak6)/\f.1 23=sI b) abE (λ_ _ _ _ E m=>?_) (λb _ _ _ _ _ _ _ E e m z p=>?_)
  ·exact aa
  exact aa
 simp[e];refine wj 999 0 (λf h=>h=H/\f.1 3=sI 0/\f.1 7=sI a0.ak5/\f.1 8=sB (fv (eo a0.ak5 1) true (fv (eo a0.ak5 2) true (eo a0.ak5 5)))/\bx f 1 (Ty.av a0).cells) (λ_ g=>?_) ?_
 ·rcases Pb (eo a0.ak5 1) e with e|e
  ·exact aj
  rcases Pb (eo a0.ak5 2) e with e|e
  ·exact aj
  exact aj
 rintro _ _ E;have e:=Aj e E;apply Iq e m<;>intro e m
 ·apply wg 999;exact jj
 apply wg 1;simp[e];refine wj 999 999 (λf h=>h=H/\f.1 12=sB (fv (eo a0.ak5 3) true (eo a0.ak5 4))/\bx f 1 (Ty.av a0).cells) (λ_ g=>?_) ?_
 ·rcases Pb (eo a0.ak5 3) e with e|e
  ·exact aj
  exact aj
 rintro _ _ E;refine sw [10,12] ?_;intro e m;exact jj
@[reducible,instance] def X':=@Kc.mk prog 164 _ @qz
def D3{n:Nat}:C1 prog 165 (pT n) sI Ty.av:=by
 refine i1 λn ih=>v1 func165 λT H a0 r m e=>?_;rw[pT] at m;simp[e];exact Wb e m 999 9 [7,8] [] (λs2 f=>f.1 3=sI s2)
@[reducible,instance] def Zh:=@Kc.mk prog 165 _ @D3
def qx:C1 prog 121 il sI Ty.av:=by
 refine v1 func121 λT H a0 r m e=>?_;rw[il] at m;exact aa
@[reducible,instance] def Yz:=@Kc.mk prog 121 _ @qx
def uS:C1 prog 117 l7 sI (sL Ty.av):=by
 refine v1 func117 λT H a0 r m e=>?_;rw[l7] at m;refine sw [7,0] ?_;intro e m;exact Wb e m 999 11 [9,10] [] nI
@[reducible,instance] def UC:=@Kc.mk prog 117 _ @uS
def p7:C1 prog 200 pD sB Ty.av:=by
 refine u1 2 func200 λT H a0 r m e=>?_;rw[pD] at m;simp[e];refine wB 999 999 [] [] (λf=>f.1 2=sB (fv (eo a0.ak5 0) (eo (eA a0.ak6) 0) false)) λ_ g=>?_;exact aa
def sD:C1 prog 270 wv sI sI:=by
 refine u1 6 func270 λT H a0 r m e=>?_;rw[wv] at m;simp[e];refine wA 999 0 [3] [] (λf=>f.1 4=sB (fv (eo a0 1) true (fv (eo a0 4) true (fv (eo a0 7) true (eo a0 13))))) [13] (λ_ g=>?_) ?_
 ·rcases Pb (eo a0 1) e with e|e
  ·exact aj
  rcases Pb (eo a0 4) e with e|e
  ·exact aj
  rcases Pb (eo a0 7) e with e|e
  ·exact aj
  exact aj
 intro _ e m;apply wg 1;simp[e];refine wA 999 0 [3] [] (λf=>f.1 9=sB (fv (eo a0 2) true (fv (eo a0 5) true (fv (eo a0 11) true (eo a0 12))))) [13] (λ_ g=>?_) ?_
 ·rcases Pb (eo a0 2) e with e|e
  ·exact aj
  rcases Pb (eo a0 5) e with e|e
  ·exact aj
  rcases Pb (eo a0 11) e with e|e
  ·exact aj
  exact aj
 intro _ e m;apply wg 1;simp[e];refine wA 999 0 [3] [] (λf=>f.1 14=sB (fv (eo a0 3) true (fv (eo a0 8) true (eo a0 10)))) [13] (λ_ g=>?_) ?_
 ·rcases Pb (eo a0 3) e with e|e
  ·exact aj
  rcases Pb (eo a0 8) e with e|e
  ·exact aj
  exact aj
 intro _ e m;apply wg 1;simp[e];refine wB 999 999 [] [] (λf=>f.1 18=sB (fv (eo a0 6) true (eo a0 9))) λ_ g=>?_;rcases Pb (eo a0 6) e with e|e
 ·exact aj
 exact aj
def oM{n:Nat}:C1 prog 201 (kH n) sB Tm.av:=by
 refine i1 λn ih=>u1 3 func201 λT H a0 r m e=>?_;rw[kH] at m;simp[e];refine WA m 999 0 [] [1] (λv2 f=>f.1 26=sB v2) [13] (λd _ g m=>?_) ?_
 ·simp[e];refine qO m sD λ_ m=>?_;apply Iq e m<;>intro e m
  ·exact jj
  apply Iq e m<;>intro e m
  ·exact jj
  apply Ir e m<;>intro e m
  ·exact jj
  exact jj
 intro _ v2 e m;apply wg 2;simp[e];refine Dt m 3 999 (λb f h=>(h=H/\f.1 1=AV.h9 1 (f.gen 1) 0/\f.box 1=some (Tm.av a0).cells)/\b=some r) ?_ (λb _ g m=>?_)
 ·rintro _ _ ⟨E,m⟩;have e:=Aj e E;simp[e];refine Wr e m 999 (λa _ f h=>h=H/\f.1 42=sL Tm.av a0.ak6/\f.1 43=sI (eA a0.ak6)/\f.1 44=sI a) abE (λ_ _ _ _ E m=>?_) (λa _ _ _ _ _ _ _ E e m z p=>?_)
  ·exact aa
  exact aa
 simp[e];refine wj 999 999 (λf h=>h=H/\f.1 33=sB (fv (eo a0.ak5 2) true (fv (eo a0.ak5 6) true (eo a0.ak5 9)))/\bx f 1 (Tm.av a0).cells) (λc g=>?_) ?_
 ·rcases Pb (eo a0.ak5 2) e with e|e
  ·exact aj
  rcases Pb (eo a0.ak5 6) e with e|e
  ·exact aj
  exact aj
 rintro _ _ E;have e:=Aj e E;apply Iq e m<;>intro e m
 ·simp[e];refine sS m qx λ_ m=>?_;refine Il e m λe m=>?_;exact ak0
 simp[e];refine sS m p7 λ_ m=>?_;refine Im e m λe m=>?_;exact ak0
@[reducible,instance] def YB:=@Kc.mk prog 201 _ @oM
def rl:C1 prog 267 kV sB sI:=by
 refine u1 2 func267 λT H a0 r m e=>?_;rw[kV] at m;simp[e];refine wB 999 999 [] [] (λf=>f.1 2=sB (fv (eo a0 4) true (fv (eo a0 5) true (fv (eo a0 6) true (eo a0 7))))) λ_ g=>?_;rcases Pb (eo a0 4) e with e|e
 ·exact aj
 rcases Pb (eo a0 5) e with e|e
 ·exact aj
 rcases Pb (eo a0 6) e with e|e
 ·exact aj
 exact aj
@[reducible,instance] def PN:=@Kc.mk prog 267 _ @rl
def iJ{n:Nat}:C1 prog 196 (l9 n) sB Fm.av:=by
 refine i1 λn ih=>u1 7 func196 λT H a0 r m e=>?_;rw[l9] at m;apply Iq e m<;>intro e m
 ·simp[e];refine WB m 999 999 [] [] (λv2 f=>f.1 2=sB v2) λj _ g m=>?_;apply Ir e m<;>intro e m
  ·exact jj
  simp[e];refine sS m p7 λ_ m=>?_;apply Ir e m<;>intro e m
  ·exact jj
  apply Ir e m<;>intro e m
  ·exact jj
  refine sw [8,0] ?_;intro k e m;refine sS m oM λ_ m=>?_;apply Ir e m<;>intro e m
  ·exact jj
  refine sw [8,0] ?_;intro l e m;refine sS m oM λ_ m=>?_;exact jj
 simp[e];refine wA 999 0 [] [1] (λf=>f.1 36=sB (fv (eo a0.ak5 2) true (eo a0.ak5 3))) [] (λ_ g=>?_) ?_
 ·exact aa
 intro _ e m;apply Ir e m<;>intro e m
 ·refine sg 3 [0,1,0,14] ?_;intro _ e m;apply wg 1;simp[e];refine WB m 999 999 [] [] (λa f=>f.1 2=sB a) λb _ g m=>?_;apply Ir e m<;>intro e m
  ·exact jj
  simp[e];refine sS m qx λ_ m=>?_;apply Ir e m<;>intro e m
  ·exact jj
  apply Ir e m<;>intro e m
  ·exact jj
  refine sw [8,0,15] ?_;intro c _ e m;exact jj
 apply wg 1;simp[e];refine WB m 999 999 [] [] (λv24 f=>f.1 2=sB v24) λd _ g m=>?_;apply Ir e m<;>intro e m
 ·exact jj
 simp[e];refine sS m p7 λ_ m=>?_;apply Ir e m<;>intro e m
 ·exact jj
 apply Ir e m<;>intro e m
 ·exact jj
 refine sw [8,0,15] ?_;intro h _ e m;apply Ir e m<;>intro e m
 ·exact jj
 refine sw [8,0,15] ?_;intro i _ e m;exact jj
@[reducible,instance] def YD:=@Kc.mk prog 196 _ @iJ
def Cc{n:Nat}:C1 prog 226 (fU n) sI Tm.av:=by
 refine i1 λn ih=>v1 func226 λT H a0 r m e=>?_;rw[fU] at m;simp[e];exact Wb e m 999 9 [7,8] [] (λs2 f=>f.1 3=sI s2)
@[reducible,instance] def Yi:=@Kc.mk prog 226 _ @Cc
def xQ{n:Nat}:C1 prog 197 (lW n) sI Fm.av:=by
 refine i1 λn ih=>v1 func197 λT H a0 r m e=>?_;rw[lW] at m;simp[e];refine Wa e m 999 11 [9,10] [1] (λs2 f=>f.1 3=sI s2) [11,0] ?_;intro _ s2 e m;exact Wb e m 999 23 [21,22] [] (λa f=>f.1 3=sI a)
@[reducible,instance] def X9:=@Kc.mk prog 197 _ @xQ
def Cu:C1 prog 144 jV sI Fm.av:=by
 refine v1 func144 λT H a0 r m e=>?_;rw[jV] at m;exact aa
@[reducible,instance] def YY:=@Kc.mk prog 144 _ @Cu
def xT:C1 prog 160 lX sI Tm.av:=by
 refine v1 func160 λT H a0 r m e=>?_;rw[lX] at m;exact aa
@[reducible,instance] def Yv:=@Kc.mk prog 160 _ @xT
def pH:C2 prog 126 kT Ty.av Ty.av Ty.av:=by
 refine v2 func126 λT H a0 a1 r m e=>?_;rw[kT] at m;refine sw [0,4,0,4] ?_;intro a b e m;have e:=Aj e (show AV.agg [sI 4,AV.slice .gI [Ty.av a,Ty.av b]]=Ty.av (Ty.mk 4 [a,b]) by rw[Ty.eR];rfl);exact au
@[reducible,instance] def ab9:=@Kc.mk prog 126 _ @pH
def H9:C1 prog 227 uC (t2 Ty.av sI) Ty.av:=by
 refine v1 func227 λT H a0 r m e=>?_;rw[uC] at m;exact aa
@[reducible,instance] def aeR:=@Kc.mk prog 227 _ @H9
def E7:C0 prog 95 mr Ty.av:=by
 refine v0 func95 λT H r m e=>?_;rw[mr] at m;exact au
@[reducible,instance] def aan:=@Kc.mk prog 95 _ @E7
def im{n:Nat}:C2 prog 79 (fm n) sB Ty.av Ty.av:=by
 refine i2 λn ih=>u2 3 func79 λT H a0 a1 r m e=>?_;rw[fm] at m;simp[e];refine wA 999 999 [] [2,3] (λf=>f.1 19=sB (fv (eP a0.ak5 a1.ak5) true (eP (eA a0.ak6) (eA a1.ak6)))) [7,0] (λ_ g=>?_) ?_
 ·exact aa
 intro _ e m;exact Wb e m 999 23 [22] [2,3] nI
@[reducible,instance] def abj:=@Kc.mk prog 79 _ @im
def GC:C2 prog 125 tl Ty.av Ty.av Ty.av:=by
 refine v2 func125 λT H a0 a1 r m e=>?_;rw[tl] at m;refine sw [0,4,0,4] ?_;intro a b e m;have e:=Aj e (show AV.agg [sI 3,AV.slice .gI [Ty.av a,Ty.av b]]=Ty.av (Ty.mk 3 [a,b]) by rw[Ty.eR];rfl);exact au
@[reducible,instance] def acq:=@Kc.mk prog 125 _ @GC
def MT:C0 prog 124 tH Ty.av:=by
 refine v0 func124 λT H r m e=>?_;rw[tH] at m;exact au
@[reducible,instance] def ZK:=@Kc.mk prog 124 _ @MT
def fj{n:Nat}:C2 prog 161 (fG n) (t2 Ty.av sI) (sL Ty.av) Tm.av:=by
 refine i2 λn ih=>v2 func161 λT H a0 a1 r m e=>?_;rw[fG] at m;refine sw [13] ?_;intro e m;apply Iq e m<;>intro e m
 ·refine sw [9,0] ?_;intro e m;refine Ad (f:=Ty.av) a0 [a1.dM] (hS.full (D:=[])) FV e.2 ?_;exact aa
 simp[e];refine YI e m 0 (λA c f h=>∃a,(h=H/\f.1 0=sL Ty.av a0/\f.1 8=sT a Ty.av c/\f.1 67=sL Tm.av a1.ak6/\f.1 68=sI (eA a1.ak6)/\f.1 69=sI A/\bx f 3 (Tm.av a1).cells/\bx f 4 [sI 0,nL])/\Ow f [86] a c) (by exact⟨.full,abE,hS.full⟩) (λA _ c j _ _ _ _ E e m z p=>?_) (λc j _ _ E m=>?_)
 ·have⟨a,E,b⟩:=E;have e:=Aj e E;refine sg 999 [0,16,7,9,0] ?_;intro u _ e m;refine Ao (f:=Ty.av) c [u] b FV e.2 ?_;simp[e];cases m;exact p _ _ _ ⟨(.loc 86 (j.fi 86+1)),abE,(On 86)⟩ z
 have⟨a,E,b⟩:=E;have e:=Aj e E;refine sg 13 [11,0,1,0,1,0] ?_;intro _ v e m;apply Iq e m<;>intro e m
 ·apply wg 2;simp[e];refine Dt m 999 999 (λo f h=>∃v24 d,(h=H/\f.1 8=sT d Ty.av c/\f.1 111=sB v24/\bx f 4 [sI 0,nL])/\Ow f [86] d c/\o v24=some r) ?_ (λo _ g m=>?_)
  ·rintro _ _ ⟨v24,d,E,w,m⟩;exact aa
  have⟨B,e,m⟩:=Ou e m;apply Iq e m<;>intro e m
  ·simp[e];exact g _ _ ⟨true,a,abE,b,m⟩
  refine sw [8,8,0,4,0] ?_;intro C F x e m;exact g _ _ ⟨(lJ x),a,abE,b,m⟩
 refine sg 3 [0,13] ?_;intro e m;refine sg 3 [0,13] ?_;intro e m;apply wg 3;simp[e];apply Iq e m<;>intro e m
 ·apply wg 2;simp[e];refine Dt m 999 999 (λq f h=>∃v37,(h=H/\f.1 162=sB v37/\bx f 3 (Tm.av a1).cells/\bx f 4 [sI 0,nL])/\q v37=some r) ?_ (λq _ g m=>?_)
  ·rintro _ _ ⟨v37,E,m⟩;exact aa
  refine sw [8,0] ?_;intro G e m;refine qO m im λ_ m=>?_;apply Ir e m<;>intro e m
  ·exact jj
  refine sw [8,0] ?_;intro I e m;refine qO m pH λ_ m=>?_;simp[e];refine qO m pH λ_ m=>?_;simp[e];refine qO m im λ_ m=>?_;apply Ir e m<;>intro e m
  ·exact jj
  refine sw [8,0] ?_;intro J e m;refine qO m im λ_ m=>?_;exact jj
 refine sg 3 [0,13] ?_;intro e m;apply wg 3;simp[e];apply Iq e m<;>intro e m
 ·apply wg 2;simp[e];refine Dt m 999 999 (λs f h=>∃k,(h=H/\f.1 185=sB k/\bx f 4 [sI 0,nL]/\bx f 14 (Ty.av v).cells)/\s k=some r) ?_ (λs _ g m=>?_)
  ·rintro _ _ ⟨k,E,m⟩;exact aa
  refine sw [8,0] ?_;intro K e m;refine qO m im λ_ m=>?_;apply Ir e m<;>intro e m
  ·exact jj
  refine sw [8,0] ?_;intro L e m;refine qO m im λ_ m=>?_;exact jj
 apply wg 3;simp[e];apply Iq e m<;>intro e m
 ·apply wg 2;simp[e];refine Dt m 999 999 (λt f h=>∃l,(h=H/\f.1 220=sB l/\bx f 3 (Tm.av a1).cells/\bx f 4 [sI 0,nL])/\t l=some r) ?_ (λt _ g m=>?_)
  ·rintro _ _ ⟨l,E,m⟩;exact aa
  refine sw [8,0] ?_;intro M e m;refine qO m im λ_ m=>?_;apply Ir e m<;>intro e m
  ·exact jj
  refine sw [8,0] ?_;intro N e m;refine qO m pH λ_ m=>?_;simp[e];refine qO m pH λ_ m=>?_;simp[e];refine qO m pH λ_ m=>?_;simp[e];refine qO m im λ_ m=>?_;apply Ir e m<;>intro e m
  ·exact jj
  refine sw [8,0] ?_;intro O e m;refine qO m im λ_ m=>?_;exact jj
 refine sg 3 [0,13] ?_;intro e m;apply wg 1;simp[e];refine wj 999 0 (λf h=>∃i,(h=H/\f.1 8=sT i Ty.av c/\f.1 237=sB (fv (eo a1.ak5 11) true (eo a1.ak5 12))/\bx f 3 (Tm.av a1).cells/\bx f 4 [sI 0,nL])/\Ow f [86] i c) (λ_ g=>?_) ?_
 ·rcases Pb (eo a1.ak5 11) e with e|e
  ·simp[e];exact g _ _ ⟨a,abE,b⟩
  simp[e];exact g _ _ ⟨a,abE,b⟩
 rintro _ _ ⟨i,E,y⟩;exact aa
@[reducible,instance] def Yd:=@Kc.mk prog 161 _ @fj
def CD:C2 prog 118 pC (t2 Ty.av sI) (sL Ty.av) Tm.av:=by
 refine v2 func118 λT H a0 a1 r m e=>?_;rw[pC] at m;exact aa
@[reducible,instance] def Yn:=@Kc.mk prog 118 _ @CD
def ns{n:Nat}:C2 prog 195 (mT n) sI (sL Ty.av) Fm.av:=by
 refine i2 λn ih=>v2 func195 λT H a0 a1 r m e=>?_;rw[mT] at m;simp[e];refine YI e m 0 (λk _ f h=>h=H/\f.1 0=sL Ty.av a0/\f.1 13=sL Tm.av a1.eh/\f.1 14=sI (eA a1.eh)/\f.1 15=sI k/\bx f 3 (Fm.av a1).cells) abE (λk _ _ d _ _ _ _ E e m z p=>?_) (λ_ d _ _ E m=>?_)
 ·exact aa
 have e:=Aj e E;refine sg 5 [11,0] ?_;intro e m;refine Wj m 999 999 (λi f h=>∃c b,(h=H/\f.1 0=sT b Ty.av c/\f.1 3=AV.h9 3 (f.gen 3) 0/\f.box 3=some (Fm.av a1).cells)/\i c=some r) (λi _ g m=>?_) ?_
 ·refine sw [0,1] ?_;intro _ e m;apply Ir e m<;>intro e m
  ·simp[e];exact g _ _ ⟨_,.gI,abE,m⟩
  refine sw [9,0] ?_;intro e m;refine Ad (f:=Ty.av) a0 [a1.dM] (hS.full (D:=[])) FV e.2 ?_;simp[e];exact g _ _ ⟨_,(.loc 44 (d.fi 44+1)),abE,m⟩
 rintro _ _ ⟨c,b,E,m⟩;have e:=Aj e E;simp[e];refine Wr e m 999 (λj _ f h=>∃a,h=H/\f.1 0=sT a Ty.av c/\f.1 46=sL Fm.av a1.ak6/\f.1 47=sI (eA a1.ak6)/\f.1 48=sI j) ⟨b,abE⟩ (λ_ _ _ _ E m=>?_) (λj _ _ _ _ _ _ _ E e m z p=>?_)
 ·have⟨a,E⟩:=E;exact aa
 have⟨a,E⟩:=E;refine sw [10,0,15,7,0] ?_;intro _ e m;cases m;exact p _ _ _ ⟨a,abE⟩ z
@[reducible,instance] def Yy:=@Kc.mk prog 195 _ @ns
def Cz:C2 prog 143 kF sI (sL Ty.av) Fm.av:=by
 refine v2 func143 λT H a0 a1 r m e=>?_;rw[kF] at m;exact aa
@[reducible,instance] def Ye:=@Kc.mk prog 143 _ @Cz
def xJ:C2 prog 103 j1 sI (sL Ty.av) Fm.av:=by
 refine v2 func103 λT H a0 a1 r m e=>?_;rw[j1] at m;exact aa
@[reducible,instance] def X8:=@Kc.mk prog 103 _ @xJ
def qY:C2 prog 108 tW sI (sL Fm.av) Sq.av:=by
 refine v2 func108 λT H a0 a1 r m e=>?_;rw[tW] at m;refine sw [7,0] ?_;intro e m;refine Wa e m 999 17 [15,16] [3] nI [11,0,1,7,7,0] ?_;intro _ _ _ e m;exact Wb e m 999 40 [38,39] [3] nI
@[reducible,instance] def Uz:=@Kc.mk prog 108 _ @qY
def jb:C1 prog 199 pg (t2 e9.av sB) sI:=by
 refine u1 6 func199 λT H a0 r m e=>?_;rw[pg] at m;simp[e];refine wA 999 0 [4] [2] (λf=>f.1 5=sB (fv (eo a0 1) true (eo a0 2))) [13] (λ_ g=>?_) ?_
 ·rcases Pb (eo a0 1) e with e|e
  ·exact aj
  exact aj
 intro _ e m;apply wg 1;simp[e];refine wA 999 0 [4] [2] (λf=>f.1 9=sB (fv (eo a0 3) true (eo a0 7))) [13] (λ_ g=>?_) ?_
 ·rcases Pb (eo a0 3) e with e|e
  ·exact aj
  exact aj
 intro _ e m;apply wg 1;simp[e];refine wA 999 0 [4] [2] (λf=>f.1 13=sB (fv (eo a0 4) true (fv (eo a0 5) true (eo a0 20)))) [13] (λ_ g=>?_) ?_
 ·rcases Pb (eo a0 4) e with e|e
  ·exact aj
  rcases Pb (eo a0 5) e with e|e
  ·exact aj
  exact aj
 intro _ e m;refine sg 3 [0,13] ?_;intro e m;apply wg 1;simp[e];refine wA 999 0 [4] [2] (λf=>f.1 21=sB (fv (eo a0 8) true (eo a0 12))) [13] (λ_ g=>?_) ?_
 ·rcases Pb (eo a0 8) e with e|e
  ·exact aj
  exact aj
 intro _ e m;apply wg 1;simp[e];refine wA 999 0 [4] [2] (λf=>f.1 25=sB (fv (eo a0 9) true (eo a0 13))) [13] (λ_ g=>?_) ?_
 ·rcases Pb (eo a0 9) e with e|e
  ·exact aj
  exact aj
 intro _ e m;apply wg 1;simp[e];refine wA 999 0 [4] [2] (λf=>f.1 29=sB (fv (eo a0 10) true (eo a0 14))) [13] (λ_ g=>?_) ?_
 ·rcases Pb (eo a0 10) e with e|e
  ·exact aj
  exact aj
 intro _ e m;apply wg 1;simp[e];refine wA 999 0 [4] [2] (λf=>f.1 33=sB (fv (eo a0 11) true (eo a0 15))) [13] (λ_ g=>?_) ?_
 ·rcases Pb (eo a0 11) e with e|e
  ·exact aj
  exact aj
 intro _ e m;apply wg 1;simp[e];refine wA 999 999 [4] [2] (λf=>f.1 37=sB (fv (eo a0 16) true (eo a0 17))) [] (λ_ g=>?_) ?_
 ·rcases Pb (eo a0 16) e with e|e
  ·exact aj
  exact aj
 intro _ e m;exact aa
@[reducible,instance] def Ys:=@Kc.mk prog 199 _ @jb
def np{n:Nat}:C1 prog 146 (oc n) sB Pf.av:=by
 refine i1 λn ih=>u1 5 func146 λT H a0 r m e=>?_;rw[oc] at m;refine sw [0,2,0] ?_;intro a b e m;refine wA 999 0 [] [1,3] (λf=>f.1 57=sB (fv b (fv (eP (eA a0.eh) a.eh) true (fv (eP (eA a0.fW) a.fW) true (fv (eP (eA a0.ak6) a.ak6) true (fv (o7 a0.ak8 0) true (fv a.ak8 false (eP a0.ak8 0)))))) true)) [13] (λ_ g=>?_) ?_
 ·rcases Pb b e with e|e;rotate_left
  ·exact aj
  rcases Pb (eP (eA a0.eh) a.eh) e with e|e
  ·exact aj
  rcases Pb (eP (eA a0.fW) a.fW) e with e|e
  ·exact aj
  rcases Pb (eP (eA a0.ak6) a.ak6) e with e|e
  ·exact aj
  rcases Pb (o7 a0.ak8 0) e with e|e
  ·exact aj
  rcases Pb a.ak8 e with e|e
  ·exact aj
  exact aj
 intro _ e m;apply wg 3;simp[e];refine WA m 999 999 [] [1] (λc f=>f.1 76=sB c) [7,0] (λd _ g m=>?_) ?_
 ·apply Ir e m<;>intro e m
  ·simp[e];refine sS m p7 λ_ m=>?_;exact jj
  simp[e];refine sS m qx λ_ m=>?_;apply Iq e m<;>intro e m
  ·exact jj
  exact jj
 intro _ c e m;refine Wa e m 999 80 [78,79] [1] nI [11,0] ?_;intro _ _ e m;refine Wa e m 999 91 [89,90] [1] nI [11,0] ?_;intro _ _ e m;exact Wb e m 999 102 [100,101] [] nI
@[reducible,instance] def YZ:=@Kc.mk prog 146 _ @np
def ug{n:Nat}:C1 prog 202 (rU n) sB Pf.av:=by
 refine i1 λn ih=>v1 func202 λT H a0 r m e=>?_;rw[rU] at m;simp[e];refine Wa e m 999 12 [10,11] [1] nI [11,0] ?_;intro _ _ e m;refine Wa e m 999 23 [21,22] [1] nI [11,0] ?_;intro _ _ e m;exact Wb e m 999 34 [32,33] [] nI
def uc{n:Nat}:C1 prog 203 (rK n) sI Pf.av:=by
 refine i1 λn ih=>v1 func203 λT H a0 r m e=>?_;rw[rK] at m;simp[e];refine Wa e m 999 13 [11,12] [1] (λs2 f=>f.1 3=sI s2) [11,0] ?_;intro _ s2 e m;refine Wa e m 999 25 [23,24] [1] (λa f=>f.1 3=sI a) [11,0] ?_;intro _ a e m;exact Wb e m 999 37 [35,36] [] (λb f=>f.1 3=sI b)
def D9:C1 prog 147 yV sB Pf.av:=by
 refine u1 2 func147 λT H a0 r m e=>?_;rw[yV] at m;simp[e];refine WB m 999 999 [] [] (λv2 f=>f.1 2=sB v2) λa _ g m=>?_;simp[e];refine sS m ug λ_ m=>?_;apply Ir e m<;>intro e m
 ·exact jj
 simp[e];refine sS m uc λ_ m=>?_;exact jj
@[reducible,instance] def abm:=@Kc.mk prog 147 _ @D9
def CL:C1 prog 109 ur sI Pf.av:=by
 refine v1 func109 λT H a0 r m e=>?_;rw[ur] at m;exact aa
@[reducible,instance] def YE:=@Kc.mk prog 109 _ @CL
def p8{n:Nat}:C1 prog 111 (lD n) Fm.av Fm.av:=by
 refine i1 λn ih=>v1 func111 λT H a0 r m e=>?_;rw[lD] at m;refine sw [0,4,0] ?_;intro t e m;refine Tc e m 999 17 [15,16] [1,2] [26] (λl=>l) (λl c f=>bx f 3 [sI a0.ak5,sI t.ak5,sL Ty.av t.ak6,sT c Tm.av l,nL]) [11,0] (λw _ l q _ _ _ _ E e m z p=>?_) ?_
 ·have⟨c,E,i⟩:=E;refine sw [20,0,4,9,0] ?_;intro u e m;refine Ad (f:=Tm.av) l [u] i zl e.2 ?_;simp[e];cases m;exact p _ _ _ ⟨(.loc 26 (q.fi 26+1)),abE,(On 26)⟩ z
 intro q l c i e m;refine Wr e m 999 (λs j f h=>∃a b,(h=H/\f.1 30=sL Fm.av a0.ak6/\f.1 31=sI (eA a0.ak6)/\f.1 32=sI s/\bx f 2 [sI 0,sI 0,nL,nL,nL]/\bx f 3 [sI a0.ak5,sI t.ak5,sL Ty.av t.ak6,sT a Tm.av l,sT b Fm.av j])/\Ow f [26] a l/\Ow f [41] b j) (by exact⟨c,.full,abE,i,hS.full⟩) (λj o _ _ E m=>?_) (λs _ j o _ _ _ _ E e m z p=>?_)
 ·have⟨a,b,E,k,d⟩:=E;exact aa
 have⟨a,b,E,k,d⟩:=E;refine sw [10,0,18,9,0] ?_;intro v e m;refine Ad (f:=Fm.av) j [v] d Kz e.2 ?_;simp[e];cases m;exact p _ _ _ ⟨a,(.loc 41 (o.fi 41+1)),abE,(hS.other k d aak aak),(On 41)⟩ z
@[reducible,instance] def aaC:=@Kc.mk prog 111 _ @p8
def AS:C3 prog 204 rC Fm.av sI Fm.av Fm.av:=by
 refine v3 func204 λT H a0 a1 a2 r m e=>?_;rw[rC] at m;refine sw [0,4,0,4] ?_;intro a b e m;have e:=Aj e (show AV.agg [sI a0,sI 0,AV.slice .gI [],AV.slice .gI [],AV.slice .gI [Fm.av a,Fm.av b]]=Fm.av (Fm.mk a0 (Ty.mk 0 []) [] [a,b]) by rw[Fm.eR];rfl);exact au
def TZ:kN prog 271=true:=by kernel_rfl
def ajz(fr:Fr)(L:List Int):Prop:=
 (L=[]/\fr.env 3=.slice .full [])\/∃cap,fr.env 3=.xO 17 (fr.gen 17) L.length cap/\fr.box 17=some (vB (λn=>AV.sc (Value.int .i64 n)) L ((cap-L.length)*1))/\L.length<=cap
def Bu(T:eN){H:dY}{a0:List (Int×Bool)}{r0:List Int}{ak:List (Int×Bool)}{u:Nat}(G:H[u]?=some [tL (λb=>AV.sc (Value.bool b)) a0])(hm:qf a0=some (r0,ak)):eO prog T 271 [AV.nx u] H (AV.slice .gI (List.map (λn=>AV.sc (Value.int .i64 n)) r0)) (gk H u [tL (λb=>AV.sc (Value.bool b)) ak]):=by
 unfold qf at hm;have⟨aF,hm⟩:=sk hm;have⟨V,hm⟩:=sk hm;have an:=eU G;simp only[B9,TH] at hm;have⟨e1,e2⟩:=hm;subst e2;rw[LN G]
 have V:(a0.map (·.1)).Nodup:=by simpa[xZ] using V
 refine fC.vt (Post:=λx K=>x=AV.slice .gI (List.map (λn=>AV.sc (Value.int .i64 n)) r0)/\∃X,K=H++X) ?_ (λ_ _ h=>⟨_,h.2.choose_spec,by rw[h.1];simp[AV.low,AV.iE],h.1,rfl⟩);refine fC.intro (fn:=f271) func271 rfl TZ (EV rfl) ?_;refine hZ.sr [] λK1 I=>?_;simp;apply I;refine hZ.sr [] λK1 I=>?_;simp;apply I;refine hZ.Da λK1 I=>?_;refine hZ.sr [] λK2 aG=>?_;simp[IF,G,tL];apply aG;refine hZ.Fy λQ nn ex x r=>?_
 refine hZ.Su (λm fr h=>∃(seen:List Nat) (L:List Int),m=JI a0.length seen/\L.length+m<=a0.length/\Hk L/\(∀x,x∈L↔∃j∈seen,∃p,a0[j]?=some p/\p.1=x)/\H++[[.mw u a0.length seen]]=h/\fr.env 7=.fb H.length 0/\ajz fr L) a0.length ?_ ?_
 ·exact⟨[],[],(Ql _).symm,aa2,.nil,aa2,aa2,rfl,.inl ⟨rfl,rfl⟩⟩
 rintro m fr h ⟨seen,L,aH,aV,hA,hL,rfl,J,hs⟩ K3 aI
 have hi:(H++[[AV.mw u a0.length seen]])[H.length]?=some [AV.mw u a0.length seen]:=aa2
 have ho:(H++[[AV.mw u a0.length seen]])[u]?=some [tL (λb=>AV.sc (Value.bool b)) a0]:=by simp[an,G]
 refine hZ.sr [] λK4 ao=>?_;simp only[TQ,ev,J];refine QN a0 hi ho (λaq=>?_) (λj p W hj=>?_)
 ·--aW end
  simp;apply ao;refine hZ.Da λK5 ar=>?_;refine hZ.Cw λA B ga Y=>?_;simp;apply Y;refine hZ.exit ?_;apply ex;apply I
  have hr:zV [] (a0.map (·.1))=L:=by
   refine Hk.eq (BF _ [] .nil V aa2) hA λx=>?_;rw[BH,hL];simp only[uU,false_or,qp];constructor
   ·rintro⟨p,W,rfl⟩;have⟨j,hj⟩:=aa3.1 W;exact⟨j,aq j (sY.1 hj).1,p,hj,rfl⟩
   ·rintro⟨j,_,p,W,rfl⟩;exact⟨p,Hb W,rfl⟩
  rw[hr] at e1;subst e1;rcases hs with⟨rfl,o⟩|⟨cap,o,l,hle⟩
  ·refine hZ.sr [] λK6 s=>?_;simp[o];apply s;refine hZ.ret ?_;simp[Aw,o]
  ·refine hZ.ai4 3 (f:=λn=>AV.sc (Value.int .i64 n)) (L:=L) (k:=(cap-L.length)*1) (sz:=1) (d:=17) (g:=fr.gen 17) (cap:=cap) (by intro x;simp) (by intro x;simp) (by simp[o]) aa2 (by simp[l]) ?_;refine hZ.sr [] λK6 s=>?_;simp;apply s;refine hZ.ret ?_;simp[Aw]
 have aw:j<a0.length:=(sY.1 W).1;have aJ:=Tf aw hj
 have aK:(H++[[AV.mw u a0.length (seen++[j])]])[H.length]?=some [AV.mw u a0.length (seen++[j])]:=aa2
 have aL:(H++[[AV.mw u a0.length (seen++[j])]])[u]?=some [tL (λb=>AV.sc (Value.bool b)) a0]:=by simp[an,G]
 have gk:gk (H++[[AV.mw u a0.length seen]]) H.length [AV.mw u a0.length (seen++[j])]=H++[[AV.mw u a0.length (seen++[j])]]:=aa2
 rw[gk];have ax:=OG (f:=λb=>AV.sc (Value.bool b)) a0 aK aL W
 have af:p.1∉L:=by
  rw[hL];rintro⟨j',aM,p',aN,he⟩
  have h1:(a0.map (·.1))[j]?=some p.1:=by rw[yZ,W];rfl
  have h2:(a0.map (·.1))[j']?=some p.1:=by rw[yZ,aN];simp[he]
  have:j=j':=by
   have aO:j<(a0.map (·.1)).length:=by simpa using aw
   exact(List.getElem?_inj aO V).1 (h1.trans h2.symm)
  subst this;exact hj aM
 have aU:a0.length<=Al:=OI aF;simp;apply ao;refine hZ.Da λK5 ar=>?_;refine hZ.Cw λA B ga Y=>?_;simp;apply ga;refine hZ.skip ?_;apply ar;refine hZ.Fy λQ1 aP aX x1 r1=>?_;refine hZ.sr [] λK6 s=>?_;simp[J,ax];apply s;refine hZ.sr [] λK6 s=>?_
 have hlen:∃y,fr.env 3=y/\Hu prog 22 y=some (.sc (.int .i64 L.length)):=by
  rcases hs with⟨rfl,o⟩|⟨cap,o,l,hle⟩
  ·exact⟨_,o,aa2⟩
  ·exact⟨_,o,aa2⟩
 have⟨y,hy,ay⟩:=hlen;simp[hy,ay];apply s
 refine hZ.agd (λfr h=>H++[[.mw u a0.length (seen++[j])]]=h/\fr.env 7=.fb H.length 0/\fr.env 4=.sc (.int .i64 p.1)/\fr.env 5=.sc (.int .i64 (L.length:Int))/\∃cap,fr.env 3=.xO 17 (fr.gen 17) (L.length+1) cap/\fr.box 17=some (vB (λn=>AV.sc (Value.int .i64 n)) (L.take L.length++p.1::L.drop L.length) ((cap-(L.length+1))*1))/\L.length+1<=cap) (λK6 s=>?_) ?_
 ·refine hZ.region [] acS ?_
  have az:fR L [p.1]=L.take L.length++p.1::L.drop L.length:=by simp[fR]
  have aY:(fR L [p.1]).length=L.length+1:=by simp[fR]
  rcases hs with⟨rfl,o⟩|⟨cap,o,l,hle⟩
  ·simp[o];refine tI.aia (f:=λn=>AV.sc (Value.int .i64 n)) [p.1] Fb ⟨_,acz⟩ (by intro x;simp) (by simp[I8,Al]) rfl (by first|rfl|simp) λcap Ca=>?_;simp;apply s;refine⟨rfl,?_,?_,?_,cap,?_,?_,by simpa using Ca⟩<;>simp[J]
  ·simp[o];refine tI.o8 (f:=λn=>AV.sc (Value.int .i64 n)) L [p.1] (cap:=cap) Fb ⟨_,acz⟩ (by intro x;simp) (by simp[fI];omega) aa2 rfl (by first|rfl|simp) (by simp[l]) hle λg' aA Ca=>?_;rw[az] at Ca;simp only[az];simp;apply s;refine⟨rfl,?_,?_,?_,aA,?_,?_,by simpa using Ca⟩<;>simp[J]
 rintro aZ h6 ⟨rfl,f7,f4,f5,cap,f3,f17,aB⟩
 refine hZ.agd (λfr h=>H++[[.mw u a0.length (seen++[j])]]=h/\fr.env 7=.fb H.length 0/\fr.env 4=.sc (.int .i64 p.1)/\∃(i:Nat) (z:Int),fr.env 5=.sc (.int .i64 (i:Int))/\i<=L.length/\(∀a∈L.drop i,a>p.1)/\(i=0\/∃a,L[i-1]?=some a/\¬a>p.1)/\∃cap,fr.env 3=.xO 17 (fr.gen 17) (L.length+1) cap/\fr.box 17=some (vB (λn=>AV.sc (Value.int .i64 n)) (L.take i++z::L.drop i) ((cap-(L.length+1))*1))/\L.length+1<=cap) (λK7 aQ=>?_) ?_
 ·refine hZ.Fy λQ2 a1 aC x2 r2=>?_
  refine hZ.Su (λi fr h=>H++[[.mw u a0.length (seen++[j])]]=h/\fr.env 7=.fb H.length 0/\fr.env 4=.sc (.int .i64 p.1)/\∃(z:Int),fr.env 5=.sc (.int .i64 (i:Int))/\i<=L.length/\(∀a∈L.drop i,a>p.1)/\∃cap,fr.env 3=.xO 17 (fr.gen 17) (L.length+1) cap/\fr.box 17=some (vB (λn=>AV.sc (Value.int .i64 n)) (L.take i++z::L.drop i) ((cap-(L.length+1))*1))/\L.length+1<=cap) L.length ?_ ?_
  ·exact⟨rfl,f7,f4,p.1,f5,gY _,aa2,cap,f3,f17,aB⟩
  clear f7 f4 f5 f3 f17 aB hy ay J hs;rintro i fr h ⟨rfl,J,e4,z,U,C,O,cap,o,l,hle⟩ K8 aR
  have stop:∀fr':Fr,fr'.env 7=.fb H.length 0->fr'.env 4=.sc (.int .i64 p.1)->fr'.env 5=.sc (.int .i64 (i:Int))->fr'.env 3=fr.env 3->fr'.gen=fr.gen->fr'.box=fr.box->(i=0\/∃a,L[i-1]?=some a/\¬a>p.1)->K7 fr' (H++[[.mw u a0.length (seen++[j])]]):=by
   intro fr' g7 g4 g5 g3 gg Y Z;exact aQ _ _ ⟨rfl,g7,g4,i,z,g5,C,O,Z,cap,by rw[g3,o,gg],by rw[Y,l],hle⟩
  refine hZ.Da λK9 aS=>?_;refine hZ.sr [] λa6 ad=>?_;obtain⟨c,F⟩:∃c:Int,c=(i:Int):=⟨_,rfl⟩;rw[<-F] at U;cases i with
  |zero=>
   have Z:oQ c 0=false:=by rw[F];decide
   simp[U,Z];apply ad;refine hZ.Cw λA B ga Y=>?_;simp;apply Y;refine hZ.exit ?_;apply aC;refine stop _ ?_ ?_ ?_ ?_ ?_ ?_ (.inl rfl)<;>simp[J,e4,U,F]
  |succ i=>
   have Z:oQ c 0=true:=by rw[F];simp[oQ]
   obtain⟨c',ah⟩:∃c':Int,c'=(i:Int):=⟨_,rfl⟩
   have R:fA .i64 c 1=c':=by rw[F,ah];exact V7 VW
   obtain⟨x,hx⟩:∃x,L[i]?=some x:=⟨_,o9 VW⟩
   have D:(L.take (i+1)++z::L.drop (i+1)).length=L.length+1:=acx
   have ae:dW (L.take (i+1)++z::L.drop (i+1)) c'=some x:=by
    unfold dW;rw[dR VW,ah,DS,vE (by rw[Dj];omega),Qq,dR VW,hx]
   have S:0<=c'/\c'<((L.length+1:Nat):Int):=VW
   have q:0<=c/\c<((L.length+1:Nat):Int):=VW
   have ai:=O_ (P:=prog) (t:=3) (f:=λn=>AV.sc (Value.int .i64 n)) (k:=(cap-(L.length+1))*1) VB (by intro x;simp) ae;generalize hM:L.take (i+1)++z::L.drop (i+1)=M at l D ae ai;generalize hN:L.length+1=N at o l hle D S q ai
   have aD:∀fr':Fr,fr'.gen 17=fr.gen 17->fr'.box 17=fr.box 17->vq prog fr' (H++[[AV.mw u a0.length (seen++[j])]]) 3 (.h9 17 (fr.gen 17) (NH c'.toNat 1))=some (.sc (.int .i64 x)):=by
    intro fr' g1 g2;show(if fr.gen 17=fr'.gen 17 then(match fr'.box 17 with|some cs=>mq prog 3 cs (NH c'.toNat 1)|none=>none)else none)=_;rw[dR g1.symm,g2,l];exact ai
   simp[U,o,Z,R,S,aD,e4,-vq];apply ad;have a7:M.length=N:=D
   have v:dW M c=some z:=by
    unfold dW;rw[dR VW,F,DS,<-hM,tE acx];simp[Dj,show min (i+1) L.length=i+1 from by omega]
   have w:FX M c x=L.take i++x::L.drop i:=by
    have hd:L.drop i=x::L.drop (i+1):=by
     rw[Kd (by omega:i<L.length)]
     congr 1
     exact(sY.1 hx).2
    have ht:L.take (i+1)=L.take i++[x]:=by rw[agf,hx];rfl
    unfold FX;rw[F,DS,<-hM,hd,ag7 _ _ acx];rw[Dj,show min (i+1) L.length=i+1 from by omega,Nat.sub_self,ahb,ht,th];rfl
   refine hZ.Cw λA B ga Y=>?_;rcases Bool.eq_false_or_eq_true (oQ x p.1)with hgx|hgx
   ·simp[hgx];apply ga;refine hZ.skip ?_;apply aS;refine hZ.Fy λQ3 aT a8 x3 r3=>?_;refine hZ.sr [] λa_ aE=>?_;simp[U,o,R,S,q,aD,e4,-vq];refine DE.arr (f:=λn=>AV.sc (Value.int .i64 n)) (L:=M) (k:=(cap-N)*1) x VB (by intro x;simp) aa2 (x:=z) v aa2 (by simp[l]) aa2 ?_;simp;apply aE;refine hZ.region [] acS ?_;simp[U,R];apply aT;rw[w];refine aR _ _ i (aaf _) ⟨rfl,?_,?_,x,?_,VW,?_,cap,?_,?_,by rw[hN];exact hle⟩
    ·simp[J]
    ·simp[e4]
    ·simp[ah]
    ·intro a ha
     have hd:L.drop i=x::L.drop (i+1):=by
      rw[Kd (by omega:i<L.length)]
      congr 1
      exact(sY.1 hx).2
     rw[hd] at ha;rcases lQ.1 ha with rfl|ha
     ·simpa[oQ] using hgx
     ·exact O a ha
    ·simp[o,hN]
    ·simp[hN]
   ·simp[hgx];apply Y;refine hZ.exit ?_;apply aC;refine stop _ ?_ ?_ ?_ ?_ ?_ ?_ (.inr ⟨x,by simpa using hx,by simpa[oQ] using hgx⟩)<;>simp[J,e4,U,o,F]
 rintro fr h ⟨rfl,J,e4,i,z,U,C,O,Z,cap,o,l,hle⟩;refine hZ.region [] acS ?_;obtain⟨c,F⟩:∃c:Int,c=(i:Int):=⟨_,rfl⟩;rw[<-F] at U
 have D:(L.take i++z::L.drop i).length=L.length+1:=acx
 have v:dW (L.take i++z::L.drop i) c=some z:=by
  unfold dW;rw[dR VW,F,DS,tE acx];simp[Dj,adk C]
 have w:FX (L.take i++z::L.drop i) c p.1=Dy p.1 L:=by
  rw[Rv L i hA af C O Z];unfold FX;rw[F,DS,ag7 _ _ acx,Dj,adk C,Nat.sub_self,ahb]
 have q:0<=c/\c<((L.length+1:Nat):Int):=VW
 have hlen:(Dy p.1 L).length=L.length+1:=by rw[Rv L i hA af C O Z];simp;omega
 generalize hM:L.take i++z::L.drop i=M at l D v w;generalize hN:L.length+1=N at o l hle D q hlen;simp[U,o,e4,q];refine DE.arr (f:=λn=>AV.sc (Value.int .i64 n)) (L:=M) (k:=(cap-N)*1) p.1 VB (by intro x;simp) aa2 (x:=z) v aa2 (by simp[l]) aa2 ?_;simp;apply aP;rw[w];refine aI _ _ _ (by rw[aH];exact aJ) ⟨seen++[j],Dy p.1 L,rfl,VW,Jv p.1 L af hA,?_,rfl,?_,.inr ⟨cap,?_,?_,by rw[hlen];exact hle⟩⟩
 ·intro x;rw[Ay,hL];constructor
  ·rintro(rfl|⟨j',h1,p',h2,h3⟩)
   ·exact⟨j,aa2,p,W,rfl⟩
   ·exact⟨j',by simp[h1],p',h2,h3⟩
  ·rintro⟨j',h1,p',h2,h3⟩;rcases sU.1 h1 with h1|h1
   ·exact .inr ⟨j',h1,p',h2,h3⟩
   ·simp only[DB] at h1;subst h1;rw[W] at h2;obtain rfl:=kR h2;exact .inl h3.symm
 ·simp[J]
 ·simp[o,hlen]
 ·simp[hlen]
def j_(T:eN){H:dY}{a0 a1 c:List Int}(hm:gp a0 a1=some c):eO prog T 205 [sL sI a0,sL sI a1] H (sL sI c) H:=by
 rw[gp] at hm;refine fC.vt (Post:=λx K=>x=sL sI c/\∃X,K=H++X) ?_ (λ_ _ h=>⟨_,h.2.choose_spec,by rw[h.1];simp[AV.low,AV.iE],h.1,rfl⟩);have e:=trivial;refine wi ak_ func205 [] [] 999 ?_;simp[e];refine YI e hm 999 (λd s2 f h=>h=H++[[tL sB s2]]/\f.1 1=sL sI a1/\f.1 5=AV.nx (List.length H)/\f.1 11=sL sI a0/\f.1 12=sI (eA a0)/\f.1 13=sI d) abE (λd _ s2 _ _ _ _ _ E e m z p=>?_) (λs2 _ _ _ E m=>?_)
 ·have e:=Aj e E;simp[e];refine uN.i64 (f:=sB) s2 true QJ vI abE abE ?_;exact al
 have e:=Aj e E;refine sw [11,0] ?_;intro e m;refine Wr e m 999 (λb a f h=>h=H++[[tL sB a]]/\f.1 5=AV.nx (List.length H)/\f.1 20=sL sI a1/\f.1 21=sI (eA a1)/\f.1 22=sI b) abE (λa _ _ _ E m=>?_) (λb _ a _ _ _ _ _ E e m z p=>?_)
 ·have e:=Aj e E;dsimp only[eB]at m;simp[e];refine E9 m (Bu T abE) λ_ d22 m=>?_;exact au
 have e:=Aj e E;simp[e];refine uN.i64 (f:=sB) a true QJ vI abE abE ?_;exact al
@[reducible,instance] def YQ:=@Kc.mk prog 205 _ @j_
def j0:C3 prog 206 eD sI dS.av sI sI:=by
 refine u3 3 func206 λT H a0 a1 a2 r m e=>?_;rw[eD] at m;simp[e];refine wB 999 999 [] [] (λf=>f.1 20=sB (fv (oQ (eS .i64 (eA a0.ak9) a1) 16) true (oQ (eS .i64 (eA a0.ala) a2) 16))) λ_ g=>?_;exact aa
@[reducible,instance] def NA:=@Kc.mk prog 206 _ @j0
def k7:C2 prog 207 gl dS.av dS.av Fm.av:=by
 refine v2 func207 λT H a0 a1 r m e=>?_;rw[gl] at m;refine sw [9,0] ?_;intro e m;refine Ad (f:=Fm.av) a0.ala [a1] (hS.full (D:=[])) Kz e.2 ?_;exact au
@[reducible,instance] def Pv:=@Kc.mk prog 207 _ @k7
def yX{n:Nat}:C2 prog 268 (ly n) sB Tm.av Tm.av:=by
 refine i2 λn ih=>u2 3 func268 λT H a0 a1 r m e=>?_;rw[ly] at m;simp[e];refine WA m 999 999 [] [2,3] (λv2 f=>f.1 34=sB v2) [7,0] (λa _ g m=>?_) ?_
 ·apply Iq e m<;>intro e m
  ·exact jj
  apply Iq e m<;>intro e m
  ·exact jj
  simp[e];refine sS m im λ_ m=>?_;apply Ir e m<;>intro e m
  ·exact jj
  exact jj
 intro _ v2 e m;exact Wb e m 999 38 [37] [2,3] nI
@[reducible,instance] def aaP:=@Kc.mk prog 268 _ @yX
def qM{n:Nat}:C2 prog 304 (lh n) sB Tm.av sI:=by
 refine i2 λn ih=>v2 func304 λT H a0 a1 r m e=>?_;rw[lh] at m;refine sw [7,0] ?_;intro e m;exact Wb e m 999 14 [1,12,13] [] nI
@[reducible,instance] def YP:=@Kc.mk prog 304 _ @qM
def oD:C1 prog 325 v8 sB Tm.av:=by
 refine u1 8 func325 λT H a0 r m e=>?_;rw[v8] at m;refine sw [0,13] ?_;intro e m;apply wg 3;simp[e];apply Iq e m<;>intro e m
 ·apply wg 1;simp[e];refine WB m 999 999 [] [] (λv3 f=>f.1 2=sB v3) λb _ g m=>?_;have⟨c,e,m⟩:=Ou e m;apply Iq e m<;>intro e m
  ·exact jj
  exact jj
 apply wg 4;apply Iq e m<;>intro e m
 ·simp[e];refine WB m 999 999 [] [] (λv9 f=>f.1 2=sB v9) λd _ g m=>?_;have⟨a,e,m⟩:=Ou e m;apply Iq e m<;>intro e m
  ·exact jj
  exact jj
 simp[e];refine wA 999 999 [] [1] (λf=>f.1 45=sB (fv (eo a0.ak5 11) true (eo a0.ak5 12))) [] (λ_ g=>?_) ?_
 ·rcases Pb (eo a0.ak5 11) e with e|e
  ·exact aj
  exact aj
 intro _ e m;exact aa
def Cm:C1 prog 331 lj sI Tm.av:=by
 refine v1 func331 λT H a0 r m e=>?_;rw[lj] at m;exact aa
@[reducible,instance] def Y1:=@Kc.mk prog 331 _ @Cm
def qT{n:Nat}:C2 prog 341 (m0 n) sI Tm.av sI:=by
 refine i2 λn ih=>u2 4 func341 λT H a0 a1 r m e=>?_;rw[m0] at m;simp[e];refine wA 0 999 [1] [2] (λf=>f.1 5=sI (fv (fv (eo a0.ak5 1) (eo a0.ak8 a1) false) (eS .i64 0 1) 0)) [0] (λ_ g=>?_) ?_
 ·refine wA 999 999 [1,5] [2] (λf=>f.1 16=sB (fv (eo a0.ak5 1) (eo a0.ak8 a1) false)) [] (λ_ g=>?_) ?_
  ·exact aa
  intro _ e m;rcases Pb (fv (eo a0.ak5 1) (eo a0.ak8 a1) false) e with e|e
  ·exact aj
  exact aj
 intro _ e m;exact Wb e m 999 22 [1,20,21] [2] (λa f=>f.1 5=sI a)
@[reducible,instance] def X4:=@Kc.mk prog 341 _ @qT
def Bw:C1 prog 326 su sI Tm.av:=by
 refine v1 func326 λT H a0 r m e=>?_;rw[su] at m;exact aa
def tJ{n:Nat}:C3 prog 310 (r_ n) Tm.av Tm.av sI sI:=by
 refine i3 λn ih=>u3 4 func310 λT H a0 a1 a2 r m e=>?_;rw[r_] at m;simp[e];refine wA 0 999 [1,2] [3,6] (λf=>bx f 7 [sI a0.ak5,sI (fv (fv (eo a0.ak5 1) (pd a0.ak8 a1) false) (eS .i64 a0.ak8 a2) a0.ak8),sI a0.dM.ak5,sL Ty.av a0.dM.ak6,nL]) [0] (λ_ g=>?_) ?_
 ·refine wA 999 999 [1,2] [3,6,7] (λf=>f.1 25=sB (fv (eo a0.ak5 1) (pd a0.ak8 a1) false)) [] (λ_ g=>?_) ?_
  ·exact aa
  intro _ e m;rcases Pb (fv (eo a0.ak5 1) (pd a0.ak8 a1) false) e with e|e
  ·exact aj
  exact aj
 intro _ e m;refine Td e m 999 34 [1,2,32,33] [3,6] [48] (λc=>c) (λc a f=>bx f 7 [sI a0.ak5,sI (fv (fv (eo a0.ak5 1) (pd a0.ak8 a1) false) (eS .i64 a0.ak8 a2) a0.ak8),sI a0.dM.ak5,sL Ty.av a0.dM.ak6,sT a Tm.av c]) λi _ c d _ _ _ _ E e m z p=>?_;have⟨a,E,b⟩:=E;refine sw [20,0,4,0,18,9,0] ?_;intro _ h e m;refine Ad (f:=Tm.av) c [h] b zl e.2 ?_;simp[e];cases m;exact p _ _ _ ⟨(.loc 48 (d.fi 48+1)),abE,(On 48)⟩ z
@[reducible,instance] def aef:=@Kc.mk prog 310 _ @tJ
def wR{n:Nat}:C4 prog 342 (wX n) Tm.av Tm.av sI sI Tm.av:=by
 refine i4 λn ih=>v4 func342 λT H a0 a1 a2 a3 r m e=>?_;rw[wX] at m;refine sw [13,0] ?_;intro e m;refine Td e m 999 47 [1,2,45,46] [4,7,8] [62] (λb=>b) (λb a f=>bx f 9 [sI a0.ak5,sI a0.ak8,sI a0.dM.ak5,sL Ty.av a0.dM.ak6,sT a Tm.av b]) λi _ b d _ _ _ _ E e m z p=>?_;have⟨a,E,c⟩:=E;refine sw [20,0,4,0,18,9,0] ?_;intro _ h e m;refine Ad (f:=Tm.av) b [h] c zl e.2 ?_;simp[e];cases m;exact p _ _ _ ⟨(.loc 62 (d.fi 62+1)),abE,(On 62)⟩ z
@[reducible,instance] def adI:=@Kc.mk prog 342 _ @wR
def zS:C1 prog 327 qC Tm.av Tm.av:=by
 refine v1 func327 λT H a0 r m e=>?_;rw[qC] at m;exact aa
def Tj:kN prog 305=true:=by kernel_rfl
def Kh:∀(n:Nat),C2 prog 305 (om n) (t3 Tm.av sB sB) Tm.av sI:=by
  intro n
  induction n with
  |zero=>
    skip
    all_goals(intro _ _;intros;rename_i hm;cases hm)
  |succ n ih=>
 rintro T H a0 a1 ⟨r0,r1,r2⟩ hm;rw[om] at hm;refine fC.intro (fn:=f305) func305 rfl Tj (EV rfl) ?_;refine hZ.sr [] λK1 aZ=>?_;simp;apply aZ;refine hZ.Da λK3 a6=>?_;refine hZ.sr [] λK5 a7=>?_;have⟨x7,a8,N⟩:=lE hm;clear hm
 try dsimp only at N
 simp;refine lC.fn (oD a8) ?_;simp;apply a7;refine hZ.Cw λbs bt aw ax=>?_;rcases Ex N with⟨a,O⟩|⟨a,P⟩
 ·clear N;simp[a];apply aw;refine hZ.Da λbu ay=>?_;refine hZ.sr [] λbw az=>?_;have⟨bz,aA,B⟩:=lE O;clear O
  try dsimp only at B
  simp[a];refine lC.fn (Bw aA) ?_;simp[a];apply az;refine hZ.Cw λbA bB aB aC=>?_;rcases Ex B with⟨s,Q⟩|⟨s,R⟩
  ·clear B;simp[a,s];apply aB;refine hZ.sr [] λbC aD=>?_;simp[a,s];apply aD;refine hZ.ret ?_;simp only[B9,TH] at Q;obtain⟨rfl,rfl,rfl⟩:=Q;simp[Aw,a,s]
  clear B;simp[a,s];apply aC;refine hZ.skip ?_;apply ay;refine hZ.sr [] λbD aE=>?_;have⟨bE,aF,G⟩:=lE R;clear R
  try dsimp only at G
  simp[a,s];refine lC.fn (zS aF) ?_;simp[a,s];apply aE;refine hZ.ret ?_;simp only[B9,TH] at G;obtain⟨rfl,rfl,rfl⟩:=G;simp[Aw,a,s]
 clear N;simp[a];apply ax;refine hZ.skip ?_;apply a6;refine hZ.Da λbF aG=>?_;refine hZ.sr [] λbG aH=>?_;simp[a];apply aH;have⟨V,S⟩:=sk P;clear P;have⟨a_,aI,I⟩:=Ds S;clear S
 try dsimp only at I
 have⟨W,t,r⟩:=lE I;clear I;refine hZ.Fy λbH a' aJ ba aK=>?_;refine hZ.Su (λn55 fr h=>∃(i56:Nat) (F:Int) (u:Nat) (v:Nat),H=h/\(fr.env 1=sI a1/\fr.env 2=AV.h9 2 u 0/\fr.env 4=AV.h9 4 v 0/\fr.env 23=sL Tm.av a0.ak6/\fr.env 24=sI (eA a0.ak6)/\fr.env 25=sI F/\fr.gen 2=u/\fr.box 2=some [sI a0.ak5,sI a0.ak8,sI a0.dM.ak5,sL Ty.av a0.dM.ak6,sL Tm.av a0.ak6]/\fr.gen 4=v/\fr.box 4=some [sI 0,sI 0,sI 0,nL,nL])/\F=(i56:Int)/\i56+n55=List.length a0.ak6/\fk a_ (List.drop i56 a0.ak6) i56 ()=some W) (List.length a0.ak6) ?_ ?_
 ·refine⟨0,0,1,1,?_,⟨?_,?_,?_,?_,?_,?_,?_,?_,?_,?_⟩,rfl,aa2,t⟩<;>first|rfl|simp[a]
 rintro n55 U bI ⟨i56,F,u,v,rfl,j,A,bb,t⟩ bJ aL;rcases n55 with _|n55
 ·have b:=U_ (l:=a0.ak6) A VW;refine hZ.sr [] λbK aM=>?_;simp[j,b,a];apply aM;refine hZ.Da λbL bc=>?_;refine hZ.Cw λbM bN bd aN=>?_;simp[j,b,a];apply aN;refine hZ.exit ?_;apply aJ;rw[Oj VW,qL] at t;obtain rfl:=kR t;rw[eB] at r
  try dsimp only at r
  apply aG;refine hZ.sr [] λbO aO=>?_;simp[j,b,a];apply aO;refine hZ.ret ?_;simp only[B9,TH] at r;obtain⟨rfl,rfl,rfl⟩:=r;simp[Aw,j,b,a]
 have b:=aag (l:=a0.ak6) A VW;have⟨bP,X,i⟩:=alf (l:=a0.ak6) A VW;rw[X,gf] at t;have⟨bQ,C,D⟩:=lE t;clear t;rw[aI,<-A] at C
 try dsimp only at C
 refine hZ.sr [] λbR aP=>?_;simp[j,b,i,a];apply aP;refine hZ.Da λbS aQ=>?_;refine hZ.Cw λbT bU aR bf=>?_;simp[j,b,i,a];apply aR;refine hZ.skip ?_;apply aQ;refine hZ.Da λbV aS=>?_;refine hZ.Fy λbW bg aT bh aU=>?_;refine hZ.sr [] λbX aV=>?_;simp[j,b,i,a];apply aV;refine hZ.sr [] λbY aW=>?_;have⟨Y,bZ,bj,Z,w⟩:=CS C;clear C
 try dsimp only at w
 simp[j,b,i,a];refine lC.fn (ih Z) ?_;simp[j,b,i,a];apply aW;refine hZ.Da λbk ad=>?_;refine hZ.sr [] λbl ae=>?_;simp[j,b,i,a];apply ae;refine hZ.Cw λbm bn af ah=>?_;rcases Ex w with⟨c,J⟩|⟨c,ai⟩;rotate_left
 ·clear w;simp[j,b,i,a,c];apply af;refine hZ.exit ?_;apply aT;apply aS;refine hZ.region [] acS ?_;simp[j,b,i,a,c];obtain rfl:=kR ai;rw[fh] at D
  refine aL _ _ n55 (aaf _) ⟨(i56+1),(eS .i64 F 1),u,v,?_,⟨?_,?_,?_,?_,?_,?_,?_,?_,?_,?_⟩,(Uj A VW V),VW,D⟩<;>first|rfl|simp[j,b,i,a,c]
 clear w;simp[j,b,i,a,c];apply ah;refine hZ.skip ?_;apply ad;refine hZ.sr [] λbo ak=>?_;simp[j,b,i,a,c];apply ak;refine hZ.sr [] λbp an=>?_;have⟨ao,K⟩:=sk J;clear J;simp[j,b,i,a,c];refine tI.aia (f:=Tm.av) a0.ak6 zl ⟨_,afp⟩ (by intro x;simp) ao (by first|rfl|simp) (by first|rfl|simp) λy aX=>?_;simp[j,b,i,a,c];apply an;refine hZ.sr [] λbq aq=>?_;have⟨aY,o,M⟩:=lE K;clear K
 try dsimp only at M
 have q:=P1 o;simp[j,b,i,o,q,a,c];refine DE.arr (f:=Tm.av) (L:=a0.ak6) (k:=((y-List.length a0.ak6)*5)) Y aby (by intro x;simp) (by simp[j,b,i,o,q,a,c]) (x:=aY) (by assumption) (by simp[j,b,i,o,q,a,c]) (by simp[j,b,i,o,q,a,c]) (by simp[j,b,i,o,q,a,c]) ?_;simp[j,b,i,o,q,a,c];apply aq;refine hZ.Da λbr ar=>?_;refine hZ.ajr 12 4 (cs2:=[sI a0.ak5,sI a0.ak8,sI a0.dM.ak5,sL Ty.av a0.dM.ak6,AV.xO 42 (U.gen 42+1) (List.length (FX a0.ak6 F Y)) y]) (f:=Tm.av) (L:=(FX a0.ak6 F Y)) (k:=((y-List.length a0.ak6)*5)) (sz:=5) (d:=42) (g:=(U.gen 42+1)) (cap:=y) (by intro x;simp) (by intro x;simp) aak (by simp[j,b,i,o,q,a,c]) (by simp[j,b,i,o,q,a,c]) (by simp[j,b,i,o,q,a,c]) (by simp[j,b,i,o,q,a,c]) ?_;refine hZ.region [] acS ?_;simp[j,b,i,o,q,a,c];apply ar;refine hZ.ret ?_;apply aU;apply aK;obtain rfl:=kR M;rw[OC] at D;obtain rfl:=kR D;rw[sA] at r
 try dsimp only at r
 simp only[B9,TH] at r;obtain⟨rfl,rfl,rfl⟩:=r;simp[Aw,j,b,i,o,q,a,c]
def L1{n:Nat}:C2 prog 305 (om n) (t3 Tm.av sB sB) Tm.av sI:=(Kh n)
@[reducible,instance] def Zk:=@Kc.mk prog 305 _ @L1
def pY:C2 prog 269 k0 (t3 Tm.av sI sI) Tm.av sI:=by
 refine u2 7 func269 λT H a0 a1 r m e=>?_;rw[k0] at m;refine sw [0,1,0,13] ?_;intro _ e m;apply wg 3;simp[e];refine WA m 999 999 [] [2,4] (λv3 f=>f.1 1=sI a1/\f.1 28=sB v3) [7,0] (λj _ g m=>?_) ?_
 ·apply Iq e m<;>intro e m
  ·exact jj
  apply Iq e m<;>intro e m
  ·exact jj
  simp[e];refine sS m qM λ_ m=>?_;exact jj
 intro _ v3 e m;refine Wn m 999 (λa f h=>h=H/\f.1 1=sI a1/\f.1 8=sI a.1/\bx f 2 [sI a.2.1,sI a.2.2.1,sI a.2.2.2.1,sL Ty.av a.2.2.2.2.1,sL Tm.av a.2.2.2.2.2]/\bx f 4 [sI 0,sI 0,sI 0,nL,nL]) abE (λa _ _ _ _ _ E m z p=>?_);have⟨b,c,d,i,v20,v21⟩:=a;have e:=Aj e E;dsimp only[AR]at m;exact aa
@[reducible,instance] def X1:=@Kc.mk prog 269 _ @pY
def CF:C3 prog 198 l8 sI Tm.av Tm.av sI:=by
 refine v3 func198 λT H a0 a1 a2 r m e=>?_;rw[l8] at m;exact aa
@[reducible,instance] def X5:=@Kc.mk prog 198 _ @CF
def uo{n:Nat}:C2 prog 145 (lb n) sI Fm.av Fm.av:=by
 refine i2 λn ih=>u2 3 func145 λT H a0 a1 r m e=>?_;rw[lb] at m;simp[e];refine WA m 999 999 [] [2,3] (λv2 f=>f.1 21=sB v2) [7,0] (λa _ g m=>?_) ?_
 ·apply Iq e m<;>intro e m
  ·exact jj
  simp[e];refine sS m im λ_ m=>?_;exact jj
 intro _ v2 e m;refine Wa e m 999 25 [24] [2,3] nI [11,0] ?_;intro _ _ e m;exact Wb e m 999 46 [45] [2,3] nI
@[reducible,instance] def X_:=@Kc.mk prog 145 _ @uo
def xW:C2 prog 104 lk sI Fm.av Fm.av:=by
 refine v2 func104 λT H a0 a1 r m e=>?_;rw[lk] at m;exact aa
@[reducible,instance] def Yc:=@Kc.mk prog 104 _ @xW
def Kl:C1 prog 309 m8 sI Fm.av:=by
 refine v1 func309 λT H a0 r m e=>?_;rw[m8] at m;simp[e];refine sS m rl λ_ m=>?_;refine Il e m λe m=>?_;exact au
@[reducible,instance] def Ya:=@Kc.mk prog 309 _ @Kl
def oA{n:Nat}:C3 prog 281 (iw n) Fm.av Fm.av sI sI:=by
 refine i3 λn ih=>v3 func281 λT H a0 a1 a2 r m e=>?_;rw[iw] at m;simp[e];refine Tc e m 999 20 [1,2,18,19] [3,6] [31] (λs2=>s2) (λs2 c f=>bx f 7 [sI a0.ak5,sI a0.dM.ak5,sL Ty.av a0.dM.ak6,sT c Tm.av s2,nL]) [11,0] (λu _ s2 o _ _ _ _ E e m z p=>?_) ?_
 ·have⟨c,E,i⟩:=E;refine sw [20,0,4,9,0] ?_;intro s e m;refine Ad (f:=Tm.av) s2 [s] i zl e.2 ?_;simp[e];cases m;exact p _ _ _ ⟨(.loc 31 (o.fi 31+1)),abE,(On 31)⟩ z
 intro o s2 c i e m;refine Wr e m 999 (λq j f h=>∃a b,(h=H/\f.1 1=sI a1/\f.1 2=sI a2/\f.1 35=sL Fm.av a0.ak6/\f.1 36=sI (eA a0.ak6)/\f.1 37=sI q/\bx f 3 (Fm.av a0).cells/\bx f 6 [sI 0,sI 0,nL,nL,nL]/\bx f 7 [sI a0.ak5,sI a0.dM.ak5,sL Ty.av a0.dM.ak6,sT a Tm.av s2,sT b Fm.av j])/\Ow f [31] a s2/\Ow f [51] b j) (by exact⟨c,.full,abE,i,hS.full⟩) (λj l _ _ E m=>?_) (λq _ j l _ _ _ _ E e m z p=>?_)
 ·have⟨a,b,E,k,d⟩:=E;exact aa
 have⟨a,b,E,k,d⟩:=E;refine sw [10,0,4,0,18,9,0] ?_;intro _ t e m;refine Ad (f:=Fm.av) j [t] d Kz e.2 ?_;simp[e];cases m;exact p _ _ _ ⟨a,(.loc 51 (l.fi 51+1)),abE,(hS.other k d aak aak),(On 51)⟩ z
@[reducible,instance] def aeA:=@Kc.mk prog 281 _ @oA
def jw:C2 prog 272 fp dS.av dS.av (sL Ty.av):=by
 refine v2 func272 λT H a0 a1 r m e=>?_;rw[fp] at m;refine sw [9,0] ?_;intro e m;refine Ad (f:=Ty.av) a0.ak9 a1 (hS.full (D:=[])) FV e.2 ?_;simp[e];refine Wr e m 999 (λk s2 f h=>∃a b,(h=H/\f.1 1=sL Ty.av a1/\f.1 23=sL Fm.av a0.ala/\f.1 24=sI (eA a0.ala)/\f.1 25=sI k/\bx f 4 [nL,nL,nL]/\bx f 5 [sL Fm.av a0.lemmas,sT a Ty.av (fR a0.ak9 a1),sT b Fm.av s2])/\Ow f [20] a (fR a0.ak9 a1)/\Ow f [36] b s2) (by exact⟨(.loc 20 1),.full,abE,(On 20),hS.full⟩) (λs2 i _ _ E m=>?_) (λk _ s2 i _ _ _ _ E e m z p=>?_)
 ·have⟨a,b,E,d,c⟩:=E;exact aa
 have⟨a,b,E,d,c⟩:=E;refine sw [10,0,4,9,0] ?_;intro j e m;refine Ad (f:=Fm.av) s2 [j] c Kz e.2 ?_;simp[e];cases m;exact p _ _ _ ⟨a,(.loc 36 (i.fi 36+1)),abE,(hS.other d c aak aak),(On 36)⟩ z
@[reducible,instance] def M_:=@Kc.mk prog 272 _ @jw
def LS:C3 prog 273 nA Fm.av sI Ty.av Fm.av:=by
 refine v3 func273 λT H a0 a1 a2 r m e=>?_;rw[nA] at m;refine sw [0,4,0,4] ?_;intro a b e m;have e:=Aj e (show AV.agg [sI a0,sI a.ak5,sL Ty.av a.ak6,AV.slice .gI [],AV.slice .gI [Fm.av b]]=Fm.av (Fm.mk a0 a [] [b]) by rw[Fm.eR];rfl);exact au
@[reducible,instance] def afz:=@Kc.mk prog 273 _ @LS
def mH:C2 prog 274 gx (sL sI) (sL sI) sI:=by
 refine v2 func274 λT H a0 a1 r m e=>?_;rw[gx] at m;simp[e];refine Td e m 0 10 [1,8,9] [] [22] (λs2=>s2) (λs2 b f=>f.1 5=sT b sI s2) λl k s2 j _ _ _ n E e m z p=>?_;have⟨b,E,c⟩:=E;simp[e]at E;have e:=Aj e E;apply wg 5;simp[e];refine Dt m 999 999 (λi f h=>∃v12 a,(h=H/\f.1 1=sI a1/\f.1 5=sT a sI v12/\f.1 8=sL sI a0/\f.1 9=sI (eA a0)/\f.1 10=sI l)/\Ow f [22] a v12/\i v12=some n) ?_ (λi _ g m=>?_)
 ·rintro _ _ ⟨v12,a,E,d,m⟩;have e:=Aj e E;simp[e];cases m;exact p _ _ _ ⟨a,abE,d⟩ z
 apply Ir e m<;>intro e m
 ·simp[e];exact g _ _ ⟨s2,b,abE,c,m⟩
 refine sw [9,0] ?_;intro e m;refine Ao (f:=sI) s2 [(fA .i64 k a1)] c Fb e.2 ?_;simp[e];exact g _ _ ⟨(fR s2 [(fA .i64 k a1)]),(.loc 22 (j.fi 22+1)),abE,(On 22),m⟩
@[reducible,instance] def UN:=@Kc.mk prog 274 _ @mH
def Bv:C1 prog 275 rD sB (sL sI):=by
 refine u1 2 func275 λT H a0 r m e=>?_;rw[rD] at m;simp[e];refine WB m 999 999 [] [] (λv2 f=>f.1 2=sB v2) λa _ g m=>?_;apply Ir e m<;>intro e m
 ·exact jj
 have⟨b,e,m⟩:=Ou e m;exact jj
@[reducible,instance] def abu:=@Kc.mk prog 275 _ @Bv
def Bs:C2 prog 77 iO (t2 Ty.av sI) (sL Ty.av) Tm.av:=by
 refine v2 func77 λT H a0 a1 r m e=>?_;rw[iO] at m;exact aa
@[reducible,instance] def WU:=@Kc.mk prog 77 _ @Bs
def uj(T:eN):∀(n:Nat),(∀{H:dY} {a0:Tm} {a1:Int} {a2:(List (Int×Bool))} {a:(List (Int×Bool))} {o2:Nat} (b:H[o2]?=some [tL sB a2]) (hm:pB n a0 a1 a2=some a),eO prog T 328 [Tm.av a0,sI a1,AV.nx o2] H (AV.tuple []) (gk H o2 [tL sB a])):=by
  intro n
  induction n with
  |zero=>
    skip
    all_goals(intro _ _;intros;rename_i hm;cases hm)
  |succ n ih=>
 intro H a0 a1 a2 a o2 b hm;rw[pB] at hm;have i:=eU b;refine fC.Lo b ?_;have e:=i;refine wi ak_ func328 [] [] 2 ?_;simp[e];refine Wj hm 0 999 (λj f h=>∃(v2:(List (Int×Bool))),(h=gk H o2 [tL sB v2]/\f.1 1=sI a1/\f.1 2=AV.nx o2/\f.1 3=AV.h9 3 (f.gen 3) 0/\f.box 3=some (Tm.av a0).cells)/\j v2=some a) (λj _ g m=>?_) ?_
 ·refine wj 999 999 (λf h=>h=gk H o2 [tL sB a2]/\f.1 1=sI a1/\f.1 2=AV.nx o2/\f.1 16=sB (fv (eo a0.ak5 1) (pd a0.ak8 a1) false)/\bx f 3 (Tm.av a0).cells) (λ_ g=>?_) ?_
  ·exact aa
  rintro _ _ E;have e:=Aj e E;apply Ir e m<;>intro e m
  ·exact jj
  simp[e];refine uN.i64 (f:=sB) a2 true QJ vI abE abE ?_;exact jj
 rintro _ _ ⟨v2,E,m⟩;have e:=Aj e E;simp[e];refine Wr e m 999 (λd c f h=>h=gk H o2 [tL sB c]/\f.1 1=sI a1/\f.1 2=AV.nx o2/\f.1 23=sL Tm.av a0.ak6/\f.1 24=sI (eA a0.ak6)/\f.1 25=sI d/\bx f 3 (Tm.av a0).cells) abE (λc _ _ _ E m=>?_) (λd _ c _ _ _ _ _ E e m z p=>?_)
 ·exact aa
 refine sw [10,0,4,0] ?_;intro _ e m;refine qO m (ih abE) λd20 m=>?_;exact al
def MI(T:eN){H:dY}{a0:Tm}{a1:Int}{a2:(List (Int×Bool))}{a:(List (Int×Bool))}{o2:Nat}(b:H[o2]?=some [tL sB a2]){n:Nat}(hm:pB n a0 a1 a2=some a):eO prog T 328 [Tm.av a0,sI a1,AV.nx o2] H (AV.tuple []) (gk H o2 [tL sB a]):=(uj T n) b hm
def L2(T:eN){H:dY}{a0:Tm}{a:List Int}{b:Int}(hm:vY a0=some (a,b)):eO prog T 306 [Tm.av a0] H (AV.tuple [sL sI a,sI b]) H:=by
 rw[vY] at hm;refine fC.vt (Post:=λx K=>x=AV.tuple [sL sI a,sI b]/\∃X,K=H++X) ?_ (λ_ _ h=>⟨_,h.2.choose_spec,by rw[h.1];simp[AV.low,AV.iE],h.1,rfl⟩);have e:=trivial;refine wi ak_ func306 [] [] 999 ?_;simp[e];refine sS hm xT λ_ m=>?_;refine Il e m λe m=>?_;simp[e];refine sS m (MI T abE) λd2 m=>?_;simp[e];refine E9 m (Bu T abE) λ_ d4 m=>?_;exact au
@[reducible,instance] def ZJ:=@Kc.mk prog 306 _ @L2
def sP:C1 prog 276 kl (sL sI) Tm.av:=by
 refine v1 func276 λT H a0 r m e=>?_;rw[kl] at m;exact aa
@[reducible,instance] def aai:=@Kc.mk prog 276 _ @sP
def ud{n:Nat}:C2 prog 283 (oa n) sB Fm.av sI:=by
 refine i2 λn ih=>v2 func283 λT H a0 a1 r m e=>?_;rw[oa] at m;simp[e];refine Wa e m 999 12 [1,10,11] [2] nI [11,0] ?_;intro _ _ e m;exact Wb e m 999 24 [1,22,23] [] nI
def xG{n:Nat}:C2 prog 329 (pX n) sI Fm.av sI:=by
 refine i2 λn ih=>v2 func329 λT H a0 a1 r m e=>?_;rw[pX] at m;simp[e];refine Wa e m 999 13 [1,11,12] [2] (λs2 f=>f.1 5=sI s2) [11,0] ?_;intro _ s2 e m;exact Wb e m 999 26 [1,24,25] [2] (λa f=>f.1 5=sI a)
@[reducible,instance] def Ym:=@Kc.mk prog 329 _ @xG
def wS{n:Nat}:C4 prog 330 (yx n) Fm.av Fm.av sI sI Tm.av:=by
 refine i4 λn ih=>v4 func330 λT H a0 a1 a2 a3 r m e=>?_;rw[yx] at m;simp[e];refine Tc e m 999 22 [1,2,20,21] [4,7,8] [34] (λs2=>s2) (λs2 c f=>bx f 9 [sI a0.ak5,sI a0.dM.ak5,sL Ty.av a0.dM.ak6,sT c Tm.av s2,nL]) [11,0] (λu _ s2 o _ _ _ _ E e m z p=>?_) ?_
 ·have⟨c,E,i⟩:=E;refine sw [20,0,4,9,0] ?_;intro s e m;refine Ad (f:=Tm.av) s2 [s] i zl e.2 ?_;simp[e];cases m;exact p _ _ _ ⟨(.loc 34 (o.fi 34+1)),abE,(On 34)⟩ z
 intro o s2 c i e m;refine Wr e m 999 (λq j f h=>∃a b,(h=H/\f.1 1=sI a1/\f.1 2=sI a2/\f.1 38=sL Fm.av a0.ak6/\f.1 39=sI (eA a0.ak6)/\f.1 40=sI q/\bx f 4 (Fm.av a0).cells/\bx f 7 (Tm.av a3).cells/\bx f 8 [sI 0,sI 0,nL,nL,nL]/\bx f 9 [sI a0.ak5,sI a0.dM.ak5,sL Ty.av a0.dM.ak6,sT a Tm.av s2,sT b Fm.av j])/\Ow f [34] a s2/\Ow f [55] b j) (by exact⟨c,.full,abE,i,hS.full⟩) (λj l _ _ E m=>?_) (λq _ j l _ _ _ _ E e m z p=>?_)
 ·have⟨a,b,E,k,d⟩:=E;exact aa
 have⟨a,b,E,k,d⟩:=E;refine sw [10,0,4,0,18,9,0] ?_;intro _ t e m;refine Ad (f:=Fm.av) j [t] d Kz e.2 ?_;simp[e];cases m;exact p _ _ _ ⟨a,(.loc 55 (l.fi 55+1)),abE,(hS.other k d aak aak),(On 55)⟩ z
@[reducible,instance] def ae6:=@Kc.mk prog 330 _ @wS
def nY:C3 prog 307 xY (t2 Fm.av sI) Fm.av sI Tm.av:=by
 refine u3 7 func307 λT H a0 a1 a2 r m e=>?_;rw[xY] at m;refine sw [0,1,0,13] ?_;intro _ e m;apply wg 3;simp[e];refine wA 999 0 [] [3,5,6] (λf=>f.1 1=sI a1/\f.1 21=sB (fv (o7 a1 0) true (oQ a1 4096))) [13] (λ_ g=>?_) ?_
 ·rcases Pb (o7 a1 0) e with e|e
  ·exact aj
  exact aj
 intro _ e m;refine sg 7 [0,1,0,13] ?_;intro _ e m;apply wg 3;simp[e];refine WA m 999 999 [] [3,5,6] (λa f=>f.1 1=sI a1/\f.1 36=sB a) [] (λb _ g m=>?_) ?_
 ·simp[e];refine sS m ud λ_ m=>?_;apply Ir e m<;>intro e m
  ·exact jj
  simp[e];refine sS m qM λ_ m=>?_;exact jj
 intro _ a e m;exact aa
@[reducible,instance] def acd:=@Kc.mk prog 307 _ @nY
def uw:C2 prog 277 jx (t2 Fm.av sI) Fm.av Tm.av:=by
 refine v2 func277 λT H a0 a1 r m e=>?_;rw[jx] at m;exact aa
@[reducible,instance] def abX:=@Kc.mk prog 277 _ @uw
def xe{n:Nat}:C2 prog 308 (vS n) sB Tm.av sI:=by
 refine i2 λn ih=>u2 3 func308 λT H a0 a1 r m e=>?_;rw[vS] at m;simp[e];refine wA 999 999 [1] [2] (λf=>f.1 15=sB (fv (eo a0.ak5 1) (eo a0.ak8 a1) false)) [7,0] (λ_ g=>?_) ?_
 ·exact aa
 intro _ e m;exact Wb e m 999 19 [1,17,18] [2] nI
@[reducible,instance] def abv:=@Kc.mk prog 308 _ @xe
def Bx{n:Nat}:C2 prog 279 (p6 n) sB Fm.av sI:=by
 refine i2 λn ih=>v2 func279 λT H a0 a1 r m e=>?_;rw[p6] at m;simp[e];refine Wa e m 999 12 [1,10,11] [2] nI [11,0] ?_;intro _ _ e m;exact Wb e m 999 23 [1,21,22] [2] nI
@[reducible,instance] def ab3:=@Kc.mk prog 279 _ @Bx
def pO{n:Nat}:C1 prog 280 (mO n) (t2 Fm.av sI) Fm.av:=by
 refine i1 λn ih=>v1 func280 λT H a0 r m e=>?_;rw[mO] at m;simp[e];refine Tc e m 999 22 [20,21] [1,2] [40] (λs2=>s2) (λs2 c f=>bx f 4 [sI a0.ak5,sI a0.dM.ak5,sL Ty.av a0.dM.ak6,sT c Tm.av s2,nL]) [11,0] (λu _ s2 o _ _ _ _ E e m z p=>?_) ?_
 ·have⟨c,E,i⟩:=E;refine sw [20,0,3,7,9,0] ?_;intro s _ _ e m;refine Ao (f:=Tm.av) s2 [s] i zl e.2 ?_;simp[e];cases m;exact p _ _ _ ⟨(.loc 40 (o.fi 40+1)),abE,(On 40)⟩ z
 intro o s2 c i e m;refine Wr e m 999 (λq j f h=>∃a b,(h=H/\f.1 44=sL Fm.av a0.ak6/\f.1 45=sI (eA a0.ak6)/\f.1 46=sI q/\bx f 2 [sI 0,sI 0,nL,nL,nL]/\bx f 4 [sI a0.ak5,sI a0.dM.ak5,sL Ty.av a0.dM.ak6,sT a Tm.av s2,sT b Fm.av j])/\Ow f [40] a s2/\Ow f [63] b j) (by exact⟨c,.full,abE,i,hS.full⟩) (λj l _ _ E m=>?_) (λq _ j l _ _ _ _ E e m z p=>?_)
 ·have⟨a,b,E,k,d⟩:=E;exact aa
 have⟨a,b,E,k,d⟩:=E;refine sw [10,0,16,7,9,0] ?_;intro t _ e m;refine Ao (f:=Fm.av) j [t] d Kz e.2 ?_;simp[e];cases m;exact p _ _ _ ⟨a,(.loc 63 (l.fi 63+1)),abE,(hS.other k d aak aak),(On 63)⟩ z
@[reducible,instance] def W2:=@Kc.mk prog 280 _ @pO
def oP:C3 prog 215 hR sI dS.av Tm.av sI:=by
 refine v3 func215 λT H a0 a1 a2 r m e=>?_;rw[hR] at m;exact aa
@[reducible,instance] def M7:=@Kc.mk prog 215 _ @oP
def IG:C2 prog 214 yf Fm.av Tm.av Tm.av:=by
 refine v2 func214 λT H a0 a1 r m e=>?_;rw[yf] at m;refine sw [0,4,0,4] ?_;intro a b e m;have e:=Aj e (show AV.agg [sI 1,sI 0,AV.slice .gI [],AV.slice .gI [Tm.av a,Tm.av b],AV.slice .gI []]=Fm.av (Fm.mk 1 (Ty.mk 0 []) [a,b] []) by rw[Fm.eR];rfl);exact au
def kE{n:Nat}:C1 prog 150 (jH n) sB Fm.av:=by
 refine i1 λn ih=>u1 8 func150 λT H a0 r m e=>?_;rw[jH] at m;refine sw [0,13] ?_;intro e m;refine sg 3 [0,14] ?_;intro e m;apply wg 1;simp[e];refine WB m 999 999 [] [] (λv4 f=>f.1 2=sB v4) λb _ g m=>?_;refine sw [8,0,15] ?_;intro c _ e m;apply Iq e m<;>intro e m
 ·exact jj
 refine sw [8,0,15] ?_;intro a _ e m;exact jj
@[reducible,instance] def US:=@Kc.mk prog 150 _ @kE
def zY:C1 prog 113 nc (t2 sB sI) Fm.av:=by
 refine v1 func113 λT H a0 r m e=>?_;rw[nc] at m;exact aa
@[reducible,instance] def UO:=@Kc.mk prog 113 _ @zY
def dO:∀(n:Nat),C2 prog 110 (eu n) (t2 sW.av sI) dS.av Pf.av/\C2 prog 148 (ek n) (t3 Fm.av (sL sI) sI) dS.av Pf.av/\C2 prog 208 (mX n) (t3 Fm.av (sL sI) sI) dS.av Pf.av/\C2 prog 209 (nG n) (t3 Fm.av (sL sI) sI) dS.av Pf.av/\C2 prog 210 (nP n) (t3 Fm.av (sL sI) sI) dS.av Pf.av/\C2 prog 211 (mh n) (t3 Fm.av (sL sI) sI) dS.av Pf.av/\C2 prog 212 (oX n) (t3 Fm.av (sL sI) sI) dS.av Pf.av/\C2 prog 213 (nB n) (t3 Fm.av (sL sI) sI) dS.av Pf.av/\C2 prog 216 (nC n) (t3 Fm.av (sL sI) sI) dS.av Pf.av/\C2 prog 217 (mK n) (t3 Fm.av (sL sI) sI) dS.av Pf.av/\C4 prog 278 (e8 n) (t2 (sL sI) sI) dS.av Pf.av Fm.av Tm.av:=by
  intro n
  induction n with
  |zero=>
    refine⟨?_,?_,?_,?_,?_,?_,?_,?_,?_,?_,?_⟩
    all_goals(intro _ _;intros;rename_i hm;cases hm)
  |succ n ih=>
 refine⟨?_,?_,?_,?_,?_,?_,?_,?_,?_,?_,?_⟩
 ·intro T H a0 a1 r hm;rw[eu] at hm;have e:=trivial;refine wi ak_ func110 [] [] 7 ?_;simp[e];refine Ud hm ih.2.1 λK _ _ m=>?_;refine sw [0,13] ?_;intro e m;refine sg 5 [0,1,0,13] ?_;intro G e m;apply wg 2;simp[e];refine Dt m 999 999 (λL f h=>∃v6 c,(h=H/\f.1 7=sT c sI v6/\bx f 4 [sI 0,sI 0,nL,nL,nL,nL]/\bx f 6 (Fm.av K).cells)/\L v6=some r) ?_ (λL _ g m=>?_)
  ·rintro _ _ ⟨v6,c,E,m⟩;exact aa
  refine sw [0,2] ?_;intro _ w e m;apply Iq e m<;>intro e m
  ·simp[e];exact g _ _ ⟨_,.gI,abE,m⟩
  simp[e];exact g _ _ ⟨_,.full,abE,m⟩
 ·intro T H a0 a1 r hm;rw[ek] at hm;have e:=trivial;refine wi ak_ func148 [] [] 10 ?_;have m:=hm;refine sw [0,13] ?_;intro e m;refine sg 3 [0,13] ?_;intro e m;apply wg 3;simp[e];apply Iq e m<;>intro e m
  ·refine sg 999 [8,0] ?_;intro W e m;refine sZ m ih.1 λ_ _ m=>?_;refine sw [7,8,0] ?_;intro X e m;refine sZ m ih.1 λ_ _ m=>?_;simp[e];refine qO m AS λ_ m=>?_;simp[e];refine qO m (j_ T) λ_ m=>?_;exact au
  apply wg 1;simp[e];refine wj 999 0 (λf h=>h=H/\f.1 22=sI a1.ak5/\f.1 93=sB (fv (eo a1.ak5 4) true (eo a1.ak5 5))/\bx f 2 (dS.av a0).cells/\bx f 3 (Pf.av a1).cells/\bx f 4 [sI 0,sI 0,nL,nL,nL]/\bx f 7 [sI 0,sI 0,nL,nL,nL]) (λ_ g=>?_) ?_
  ·rcases Pb (eo a1.ak5 4) e with e|e
   ·exact aj
   exact aj
  rintro _ _ E;have e:=Aj e E;apply Iq e m<;>intro e m
  ·refine sg 999 [8,0] ?_;intro Y e m;refine sZ m ih.1 λ_ _ m=>?_;refine sw [7,7,8] ?_;intro Z e m;exact au
  apply wg 3;simp[e];apply Iq e m<;>intro e m
  ·refine sg 999 [8,0] ?_;intro ad e m;refine qO m xJ λ_ m=>?_;refine sw [7,0] ?_;intro e m;refine sS m j0 λ_ m=>?_;refine sw [7,0] ?_;intro e m;refine qO m k7 λ_ m=>?_;refine sw [8,0] ?_;intro ae e m;refine sZ m ih.1 λ_ _ m=>?_;simp[e];refine qO m AS λ_ m=>?_;exact au
  apply wg 3;simp[e];apply Iq e m<;>intro e m
  ·refine sg 999 [8,0] ?_;intro af e m;refine sZ m ih.1 λ_ _ m=>?_;refine sw [7,7,8,0] ?_;intro ah e m;refine sZ m ih.1 λ_ _ m=>?_;refine sw [7,8,0] ?_;intro ai e m;refine qO m (j_ T) λ_ m=>?_;refine sw [8,0] ?_;intro ak e m;refine qO m xW λ_ m=>?_;exact au
  apply wg 1;simp[e];refine wj 999 0 (λf h=>h=H/\f.1 22=sI a1.ak5/\f.1 218=sB (fv (eo a1.ak5 8) true (eo a1.ak5 12))/\bx f 2 (dS.av a0).cells/\bx f 3 (Pf.av a1).cells/\bx f 4 [sI 0,sI 0,nL,nL,nL]) (λ_ g=>?_) ?_
  ·rcases Pb (eo a1.ak5 8) e with e|e
   ·exact aj
   exact aj
  rintro _ _ E;have e:=Aj e E;apply Iq e m<;>intro e m
  ·apply wg 999;simp[e];refine Ud m ih.2.2.1 λ_ _ _ m=>?_;exact au
  apply wg 1;simp[e];refine wj 999 0 (λf h=>h=H/\f.1 22=sI a1.ak5/\f.1 227=sB (fv (eo a1.ak5 9) true (eo a1.ak5 13))/\bx f 2 (dS.av a0).cells/\bx f 3 (Pf.av a1).cells/\bx f 4 [sI 0,sI 0,nL,nL,nL]) (λ_ g=>?_) ?_
  ·rcases Pb (eo a1.ak5 9) e with e|e
   ·exact aj
   exact aj
  rintro _ _ E;have e:=Aj e E;apply Iq e m<;>intro e m
  ·apply wg 999;simp[e];refine Ud m ih.2.2.2.1 λ_ _ _ m=>?_;exact au
  apply wg 1;simp[e];refine wj 999 0 (λf h=>h=H/\f.1 22=sI a1.ak5/\f.1 236=sB (fv (eo a1.ak5 10) true (eo a1.ak5 14))/\bx f 2 (dS.av a0).cells/\bx f 3 (Pf.av a1).cells/\bx f 4 [sI 0,sI 0,nL,nL,nL]) (λ_ g=>?_) ?_
  ·rcases Pb (eo a1.ak5 10) e with e|e
   ·exact aj
   exact aj
  rintro _ _ E;have e:=Aj e E;apply Iq e m<;>intro e m
  ·apply wg 999;simp[e];refine Ud m ih.2.2.2.2.1 λ_ _ _ m=>?_;exact au
  apply wg 1;simp[e];refine wj 999 999 (λf h=>h=H/\f.1 22=sI a1.ak5/\f.1 245=sB (fv (eo a1.ak5 11) true (eo a1.ak5 15))/\bx f 2 (dS.av a0).cells/\bx f 3 (Pf.av a1).cells/\bx f 4 [sI 0,sI 0,nL,nL,nL]) (λ_ g=>?_) ?_
  ·rcases Pb (eo a1.ak5 11) e with e|e
   ·exact aj
   exact aj
  rintro _ _ E;have e:=Aj e E;apply Iq e m<;>intro e m
  ·simp[e];refine Ud m ih.2.2.2.2.2.1 λ_ _ _ m=>?_;exact au
  apply Iq e m<;>intro e m
  ·simp[e];refine Ud m ih.2.2.2.2.2.2.1 λ_ _ _ m=>?_;exact au
  apply Iq e m<;>intro e m
  ·simp[e];refine Ud m ih.2.2.2.2.2.2.2.1 λ_ _ _ m=>?_;exact au
  apply Iq e m<;>intro e m
  ·refine sw [8,0] ?_;intro an e m;refine qO m IG λ_ m=>?_;simp[e];refine qO m oP λ_ m=>?_;exact au
  apply Iq e m<;>intro e m
  ·simp[e];refine Ud m ih.2.2.2.2.2.2.2.2.1 λ_ _ _ m=>?_;exact au
  simp[e];refine Ud m ih.2.2.2.2.2.2.2.2.2.1 λ_ _ _ m=>?_;exact au
 ·intro T H a0 a1 r hm;rw[mX] at hm;have e:=trivial;refine wi ak_ func208 [] [] 999 ?_;have m:=hm;refine sw [0,1,7,0,4,8,0] ?_;intro _ _ w e m;refine sZ m ih.1 λ_ _ m=>?_;refine Il e m λe m=>?_;apply Iq e m<;>intro e m
  ·refine sw [0,4,0,4] ?_;intro x y e m;exact au
  exact aa
 ·intro T H a0 a1 r hm;rw[nG] at hm;have e:=trivial;refine wi ak_ func209 [] [] 9 ?_;have m:=hm;refine sw [8,0,2,0,13] ?_;intro I ao _ e m;refine sg 7 [8,0] ?_;intro x6 e m;refine sZ m ih.1 λJ _ m=>?_;refine sw [0,13] ?_;intro e m;refine sg 4 [0,4,0,4,0] ?_;intro _ A e m;refine wA 999 999 [] [4,7,8,10] (λf=>f.1 11=sI (fv (eo a1.ak5 13) 6 4)/\f.1 12=sL sI (fv (eo a1.ak5 13) J.jL A)) [] (λ_ g=>?_) ?_
  ·rcases Pb (eo a1.ak5 13) e with e|e
   ·exact aj
   exact aj
  intro _ e m;exact aa
 ·intro T H a0 a1 r hm;rw[nP] at hm;have e:=trivial;refine wi ak_ func210 [] [] 9 ?_;have m:=hm;refine sw [8,8,0,1,0,13] ?_;intro o G _ e m;apply wg 4;simp[e];refine wA 999 3 [] [2,3,4,7,8] (λf=>f.1 10=sI (fv (eo a1.ak5 14) 7 5)) [0,13] (λ_ g=>?_) ?_
  ·rcases Pb (eo a1.ak5 14) e with e|e
   ·exact aj
   exact aj
  intro _ e m;refine sg 7 [0,2,0,13] ?_;intro _ w e m;refine sg 5 [0,1,0,14] ?_;intro q e m;refine sg 4 [8,8,0] ?_;intro k x e m;refine sZ m ih.2.2.2.2.2.2.2.2.2.2 λy M m=>?_;simp[e];refine WB m 999 999 [12] [4,7] (λB f=>f.1 13=sL sI B) λN _ g m=>?_;apply Ir e m<;>intro e m
  ·exact jj
  simp[e];refine sS m sP λ_ m=>?_;simp[e];refine sS m (j_ T) λ_ m=>?_;exact jj
 ·intro T H a0 a1 r hm;rw[mh] at hm;have e:=trivial;refine wi ak_ func211 [] [] 7 ?_;have⟨C,e,m⟩:=Ou e hm;simp[e];refine sZ m ih.1 λa _ m=>?_;refine sw [0,13] ?_;intro e m;apply wg 4;simp[e];refine wA 999 3 [] [2,3,4,7] (λf=>f.1 9=sI (fv (eo a1.ak5 15) 7 5)) [0,13] (λ_ g=>?_) ?_
  ·rcases Pb (eo a1.ak5 15) e with e|e
   ·exact aj
   exact aj
  intro _ e m;refine sg 7 [0,1,0,13] ?_;intro _ e m;refine sg 7 [0,4,8,0,4,8,0] ?_;intro x y _ O e m;refine sZ m ih.1 λb _ m=>?_;refine sw [0,13] ?_;intro e m;apply wg 4;simp[e];refine Wj m 999 1 (λs f h=>∃d v127 i j v130,(h=H/\f.1 9=sI (fv (eo a1.ak5 15) 7 5)/\bx f 4 [sI 0,sI 0,nL,nL,nL]/\bx f 7 [sI a.dZ.ak5,sI a.dZ.dM.ak5,sL Ty.av a.dZ.dM.ak6,sL Tm.av a.dZ.eh,sL Fm.av a.dZ.ak6,sL sI a.jL]/\bx f 11 [sI b.dZ.ak5,sI b.dZ.dM.ak5,sL Ty.av b.dZ.dM.ak6,sL Tm.av b.dZ.eh,sL Fm.av b.dZ.ak6,sL sI b.jL]/\bx f 12 [sI d,sI v127,sL Ty.av i,sL Tm.av j,sL Fm.av v130])/\s d v127 i j v130=some r) (λs _ g m=>?_) ?_
  ·refine sw [0,1] ?_;intro _ e m;apply Ir e m<;>intro e m
   ·simp[e];exact g _ _ ⟨_,_,_,_,_,abE,m⟩
   refine sw [0,2,7,0,1,7] ?_;intro _ _ _ e m;simp[e];exact g _ _ ⟨_,_,_,_,_,abE,m⟩
  rintro _ _ ⟨d,v127,i,j,v130,E,m⟩;have e:=Aj e E;simp[e];refine Wj m 999 999 (λt f h=>∃v139,(h=H/\f.1 87=sB v139/\bx f 4 [sI 0,sI 0,nL,nL,nL]/\bx f 7 [sI a.dZ.ak5,sI a.dZ.dM.ak5,sL Ty.av a.dZ.dM.ak6,sL Tm.av a.dZ.eh,sL Fm.av a.dZ.ak6,sL sI a.jL]/\bx f 11 [sI b.dZ.ak5,sI b.dZ.dM.ak5,sL Ty.av b.dZ.dM.ak6,sL Tm.av b.dZ.eh,sL Fm.av b.dZ.ak6,sL sI b.jL]/\bx f 12 [sI d,sI v127,sL Ty.av i,sL Tm.av j,sL Fm.av v130])/\t v139=some r) (λt _ g m=>?_) ?_
  ·apply Ir e m<;>intro e m
   ·exact jj
   simp[e];refine sS m Bv λ_ m=>?_;exact jj
  rintro _ _ ⟨v139,E,m⟩;refine sw [10,7,0] ?_;intro e m;refine qO m oA λ_ m=>?_;simp[e];refine qO m mH λ_ m=>?_;simp[e];refine qO m (j_ T) λ_ m=>?_;exact au
 ·intro T H a0 a1 r hm;rw[oX] at hm;have e:=trivial;refine wi ak_ func212 [] [] 999 ?_;have m:=hm;refine sw [8,8,0,4,9,0] ?_;intro o G l e m;refine Ad (f:=Ty.av) a0.ak9 [l] (hS.full (D:=[])) FV e.2 ?_;refine sw [0,4,7,0,1,7,8,0,4,0] ?_;intro _ k u v e m;refine sZ m ih.2.2.2.2.2.2.2.2.2.2 λ_ _ m=>?_;refine sw [7,0] ?_;intro e m;refine sS m j0 λ_ m=>?_;refine sw [7,0] ?_;intro e m;refine qO m Bl λ_ m=>?_;simp[e];refine qO m jw λ_ m=>?_;simp[e];refine qO m k7 λ_ m=>?_;refine sw [8,0] ?_;intro P e m;refine qO m oA λ_ m=>?_;simp[e];refine qO m w8 λ_ m=>?_;simp[e];refine qO m yj λ_ m=>?_;simp[e];refine sZ m ih.2.2.2.2.2.2.2.2.2.2 λ_ _ m=>?_;refine sw [7,0] ?_;intro e m;refine E9 m uw λ_ _ m=>?_;simp[e];refine qO m sP λ_ m=>?_;simp[e];refine qO m (j_ T) λ_ m=>?_;simp[e];refine qO m mH λ_ m=>?_;simp[e];refine qO m (j_ T) λ_ m=>?_;exact au
 ·intro T H a0 a1 r hm;rw[nB] at hm;have e:=trivial;refine wi ak_ func213 [] [] 999 ?_;have m:=hm;refine sw [8,8,0,4,9,0] ?_;intro o G l e m;refine Ad (f:=Ty.av) a0.ak9 [l] (hS.full (D:=[])) FV e.2 ?_;refine sw [0,4,7,0,1,7,8,0,4,0] ?_;intro _ k u v e m;refine sZ m ih.2.2.2.2.2.2.2.2.2.2 λ_ _ m=>?_;refine sw [7,0] ?_;intro e m;refine sS m j0 λ_ m=>?_;refine sw [7,0] ?_;intro e m;refine qO m Bl λ_ m=>?_;simp[e];refine qO m E7 λ_ m=>?_;simp[e];refine qO m jw λ_ m=>?_;simp[e];refine qO m oA λ_ m=>?_;simp[e];refine qO m k7 λ_ m=>?_;refine sw [8,0] ?_;intro Q e m;refine qO m oA λ_ m=>?_;simp[e];refine qO m w8 λ_ m=>?_;simp[e];refine qO m w8 λ_ m=>?_;simp[e];refine qO m yj λ_ m=>?_;simp[e];refine sZ m ih.2.2.2.2.2.2.2.2.2.2 λ_ _ m=>?_;refine sw [7,0] ?_;intro e m;refine E9 m uw λ_ _ m=>?_;simp[e];refine qO m sP λ_ m=>?_;simp[e];refine qO m (j_ T) λ_ m=>?_;simp[e];refine qO m mH λ_ m=>?_;simp[e];refine qO m (j_ T) λ_ m=>?_;exact au
 ·intro T H a0 a1 r hm;rw[nC] at hm;have e:=trivial;refine wi ak_ func216 [] [] 999 ?_;have m:=hm;refine sw [8,0,4,9,0] ?_;intro I q e m;refine Ad (f:=Ty.av) a0.ak9 [q] (hS.full (D:=[])) FV e.2 ?_;refine sw [0,4,7,8,0] ?_;intro _ R e m;refine sZ m ih.1 λ_ k m=>?_;refine sw [7,7,8,8,0] ?_;intro u v e m;refine sZ m ih.2.2.2.2.2.2.2.2.2.2 λ_ _ m=>?_;refine sw [7,8,0] ?_;intro S e m;refine sZ m uw λ_ _ m=>?_;exact au
 ·intro T H a0 a1 r hm;rw[mK] at hm;have e:=trivial;refine wi ak_ func217 [] [] 7 ?_;have⟨C,e,m⟩:=Ou e hm;simp[e];refine sZ m ih.1 λa _ m=>?_;refine sw [0,13] ?_;intro e m;apply wg 3;simp[e];refine WA m 999 999 [] [4,7] (λF f=>f.1 38=sB F) [] (λU _ g m=>?_) ?_
  ·apply Iq e m<;>intro e m
   ·exact jj
   have⟨V,e,m⟩:=Ou e m;exact jj
  intro _ F e m;exact aa
 ·intro T H a0 a1 a2 a3 r hm;rw[e8] at hm;have e:=trivial;refine wi ak_ func278 [] [] 999 ?_;simp[e];refine E9 hm ih.1 λ_ K m=>?_;exact aa
def Ag{n:Nat}:C2 prog 110 (eu n) (t2 sW.av sI) dS.av Pf.av:=(dO n).1
@[reducible,instance] def Nc:=@Kc.mk prog 110 _ @Ag
def Cj:C3 prog 71 mQ (t2 sW.av sI) (sL Fm.av) Sq.av Pf.av:=by
 refine v3 func71 λT H a0 a1 a2 r m e=>?_;rw[mQ] at m;refine sw [0,1,7,0,1,7,0,2,7,0,4,9,0] ?_;intro _ _ a _ _ e m;refine Ad (f:=sI) [] a.jL (hS.full (D:=[])) Fb e.2 ?_;exact au
@[reducible,instance] def YW:=@Kc.mk prog 71 _ @Cj
def rN:C1 prog 73 gu sB Fm.av:=by
 refine v1 func73 λT H a0 r m e=>?_;rw[gu] at m;exact aa
@[reducible,instance] def acw:=@Kc.mk prog 73 _ @rN
def MM:C0 prog 218 tP Ty.av:=by
 refine v0 func218 λT H r m e=>?_;rw[tP] at m;exact au
@[reducible,instance] def Za:=@Kc.mk prog 218 _ @MM
def Mr:C2 prog 220 pZ Ty.av Ty.av Ty.av:=by
 refine v2 func220 λT H a0 a1 r m e=>?_;rw[pZ] at m;have e:=Aj e (show AV.agg [sI 3,AV.slice .gI [Ty.av a0,Ty.av a1]]=Ty.av (Ty.mk 3 [a0,a1]) by rw[Ty.eR];rfl);exact au
@[reducible,instance] def aaL:=@Kc.mk prog 220 _ @Mr
def DM:C1 prog 282 zr (t2 sI sI) Ty.av:=by
 refine v1 func282 λT H a0 r m e=>?_;rw[zr] at m;exact aa
@[reducible,instance] def Z5:=@Kc.mk prog 282 _ @DM
def D_:C2 prog 219 nq (t2 Ty.av sI) Ty.av sI:=by
 refine v2 func219 λT H a0 a1 r m e=>?_;rw[nq] at m;exact aa
@[reducible,instance] def ZV:=@Kc.mk prog 219 _ @D_
def Oi:C2 prog 221 rV Ty.av Ty.av Ty.av:=by
 refine v2 func221 λT H a0 a1 r m e=>?_;rw[rV] at m;have e:=Aj e (show AV.agg [sI 4,AV.slice .gI [Ty.av a0,Ty.av a1]]=Ty.av (Ty.mk 4 [a0,a1]) by rw[Ty.eR];rfl);exact au
@[reducible,instance] def ab7:=@Kc.mk prog 221 _ @Oi
def H5{n:Nat}:C1 prog 149 (kP n) (t2 Ty.av sI) Fm.av:=by
 refine i1 λn ih=>v1 func149 λT H a0 r m e=>?_;rw[kP] at m;exact aa
@[reducible,instance] def ae4:=@Kc.mk prog 149 _ @H5
def En:C1 prog 112 ji (t2 Ty.av sI) Fm.av:=by
 refine v1 func112 λT H a0 r m e=>?_;rw[ji] at m;exact aa
@[reducible,instance] def abc:=@Kc.mk prog 112 _ @En
def wO:C2 prog 72 vx sI (sL Fm.av) (sL Tm.av):=by
 refine v2 func72 λT H a0 a1 r m e=>?_;rw[vx] at m;refine sw [7,0] ?_;intro e m;refine Wn m 999 (λs1 f h=>h=H/\f.1 0=sL Fm.av a0/\f.1 1=sL Tm.av a1/\f.1 5=sI s1) abE (λs1 _ _ _ _ _ E m z p=>?_);have e:=Aj e E;apply Ir e m<;>intro e m
 ·cases m;have m:=Qb z
  try dsimp only at m
  exact au
 exact aa
@[reducible,instance] def V3:=@Kc.mk prog 72 _ @wO
def Ae(T:eN){H:dY}{a0:dT}{f:Int}{a:dT}{c:Nat}(b:H[c]?=some [sL Fm.av a0.lemmas,sL Tm.av a0.eh,sI a0.next])(hm:eE a0=some (f,a)):eO prog T 114 [AV.fb c 0] H (sI f) (gk H c [sL Fm.av a.lemmas,sL Tm.av a.eh,sI a.next]):=by
 rw[eE] at hm;have d:=eU b;refine fC.Lo b ?_;have e:=d;refine wi ak_ func114 [] [] 999 ?_;cases hm;simp[e]
@[reducible,instance] def Na:=@Kc.mk prog 114 _ @Ae
def jv(T:eN){H:dY}{a0:dT}{a1:Sq}{Z:er}{r1:List Int}{B:dT}{C:Nat}(N:H[C]?=some [sL Fm.av a0.lemmas,sL Tm.av a0.eh,sI a0.next])(hm:lI a0 a1=some (Z,r1,B)):eO prog T 74 [AV.fb C 0,Sq.av a1] H (AV.tuple [er.av Z,sL sI r1]) (gk H C [sL Fm.av B.lemmas,sL Tm.av B.eh,sI B.next]):=by
 rw[lI] at hm;have S:=eU N;refine fC.Lo N ?_;have e:=S;refine wi ak_ func74 [] [] 999 ?_;simp[e];refine Wn hm 999 (λs1 f h=>∃l n,(h=gk H C [sL Fm.av s1.2.2.2.lemmas,sL Tm.av s1.2.2.2.eh,sI s1.2.2.2.next]/\f.1 0=AV.fb C 0/\f.1 7=sT l sI s1.1/\f.1 8=sI s1.2.1/\bx f 3 (Sq.av a1).cells/\bx f 4 [nL,nL,nL,nL]/\bx f 6 [sL Ty.av a1.ak9,sL Fm.av a1.ala,sT n Tm.av s1.2.2.1,nL])/\Ow f [24] l s1.1/\Ow f [33] n s1.2.2.1) (by exact⟨.full,.full,abE,hS.full,hS.full⟩) (λs1 O _ _ _ _ E m z p=>?_);have⟨v9,v10,v11,v12⟩:=s1;have⟨l,n,E,t,w⟩:=E;have e:=Aj e E;dsimp only[zk]at m;apply Iq e m<;>intro e m
 ·refine sw [0,2,9,0] ?_;intro U d14 e m;refine Ao (f:=sI) v9 [U] t Fb e.2 ?_;refine sw [8,0,4,9,0] ?_;intro ad V e m;refine Ad (f:=Tm.av) v11 [V] (hS.other w t aak aak) zl e.2 ?_;simp[e];cases m;exact p _ _ _ ⟨(.loc 24 (O.fi 24+1)),(.loc 33 (O.fi 33+1)),abE,(hS.other (hS.new (D:=[24]) (d:=24) aak) (hS.other w t aak aak) aak aak),(On 33)⟩ z
 cases m;have m:=Qb z;dsimp only[zk]at m;simp[e];refine Wn m 3 (λk f h=>∃c a b,(h=gk H C [sL Fm.av k.2.2.2.lemmas,sL Tm.av k.2.2.2.eh,sI k.2.2.2.next]/\f.1 0=AV.fb C 0/\f.1 7=sT c sI k.1/\f.1 9=sI k.2.1/\bx f 3 (Sq.av a1).cells/\bx f 4 [nL,nL,nL,nL]/\bx f 6 [sL Ty.av a1.ak9,sL Fm.av a1.ala,sT a Tm.av v11,sT b Tm.av k.2.2.1])/\Ow f [24,56] c k.1/\Ow f [33] a v11/\Ow f [61] b k.2.2.1) (by exact⟨l,n,.full,abE,(Om t),w,hS.full⟩) (λk P _ _ _ W E m z p=>?_);have⟨v24,X,K,Y⟩:=k;have⟨c,a,b,E,o,x,y⟩:=E;have e:=Aj e E;dsimp only[zk]at m;simp[e];apply Ir e m<;>intro e m
 ·apply wg 999;cases m;have m:=Qb z;dsimp only[zk]at m;exact au
 apply wg 6;simp[e];refine Dt m 999 999 (λQ f h=>∃F v30 v31 G I J A i j q u v,(h=gk H C [sL Fm.av A.lemmas,sL Tm.av A.eh,sI A.next]/\f.1 0=AV.fb C 0/\f.1 7=sT i sI F/\f.1 9=sI X/\bx f 3 (Sq.av a1).cells/\bx f 4 [nL,nL,nL,nL]/\bx f 6 [sL Ty.av a1.ak9,sL Fm.av a1.ala,sT j Tm.av v11,sT q Tm.av K]/\bx f 10 [sI v30,sI v31,sI G,sT u Ty.av I,sT v Tm.av J])/\Ow f [24,56] i F/\Ow f [33] j v11/\Ow f [61] q K/\Q F v30 v31 G I J A=some W) ?_ (λQ _ g m=>?_)
 ·rintro R _ ⟨F,v30,v31,G,I,J,A,i,j,q,u,v,E,L,M,r,m⟩;refine sw [10,9,0] ?_;intro e m;refine Ao (f:=Tm.av) K [(Tm.mk v30 v31 (Ty.mk G I) J)] r zl e.2 ?_;simp[e];cases m;exact p _ _ _ ⟨i,j,(.loc 61 (R.fi 61+1)),abE,(hS.other L r aak aak),(hS.other M r aak aak),(On 61)⟩ z
 refine sw [8,0,1] ?_;intro ae _ e m;apply Ir e m<;>intro e m
 ·simp[e];exact g _ _ ⟨v24,0,0,0,[],[],Y,c,a,b,.full,.full,abE,o,x,y,m⟩
 refine sw [0,2,0,1,9,0] ?_;intro _ d42 s e m;refine Ao (f:=sI) v24 [s.ak8] o Fb e.2 ?_;simp[e];exact g _ _ ⟨(fR v24 [s.ak8]),s.ak5,s.ak8,s.dM.ak5,s.dM.ak6,s.ak6,d42,(.loc 56 (P.fi 56+1)),a,b,.gI,.gI,abE,(On 56),(hS.other x o aak aak),(hS.other y o aak aak),m⟩
@[reducible,instance] def Nd:=@Kc.mk prog 74 _ @jv
def zc:C2 prog 222 ov (sL Tm.av) (sL Tm.av) Tm.av:=by
 refine v2 func222 λT H a0 a1 r m e=>?_;rw[ov] at m;refine sw [9,0] ?_;intro e m;refine Ad (f:=Tm.av) [] a0 (hS.full (D:=[])) zl e.2 ?_;refine sw [9,0] ?_;intro e m;refine Ad (f:=Tm.av) (fR [] a0) [a1] (hS.new (D:=[6]) (d:=6) aak) zl e.2 ?_;exact au
@[reducible,instance] def aar:=@Kc.mk prog 222 _ @zc
def ju(T:eN):∀(n:Nat),(∀{H:dY} {a0:dT} {a1:Tm} {a2:List Tm} {l:Tm} {b:dT} {j:Nat} (d:H[j]?=some [sL Fm.av a0.lemmas,sL Tm.av a0.eh,sI a0.next]) (hm:eK n a0 a1 a2=some (l,b)),eO prog T 151 [AV.fb j 0,Tm.av a1,sL Tm.av a2] H (Tm.av l) (gk H j [sL Fm.av b.lemmas,sL Tm.av b.eh,sI b.next])):=by
  intro n
  induction n with
  |zero=>
   skip
   all_goals(intro _ _;intros;rename_i hm;cases hm)
  |succ n ih=>
 intro H a0 a1 a2 l b j d hm;rw[eK] at hm;have o:=eU d;refine fC.Lo d ?_;have e:=o;refine wi ak_ func151 [] [] 999 ?_;have m:=hm;refine sw [13] ?_;intro e m;apply Iq e m<;>intro e m
 ·refine sw [0,2,8,0,4,0,4,0] ?_;intro s d3 x _ _ e m;refine sZ m (ih abE) λt d8 m=>?_;have e:=Aj e (show AV.agg [sI a1.ak5,sI s,sI a1.dM.ak5,sL Ty.av a1.dM.ak6,AV.slice .gI [Tm.av t]]=Tm.av (Tm.mk a1.ak5 s a1.dM [t]) by rw[Tm.eR];rfl);exact au
 simp[e];refine Wn m 999 (λc f h=>∃a,(h=gk H j [sL Fm.av c.2.2.lemmas,sL Tm.av c.2.2.eh,sI c.2.2.next]/\f.1 0=AV.fb j 0/\f.1 2=sL Tm.av a2/\f.1 8=sI c.1/\bx f 4 (Tm.av a1).cells/\bx f 6 [sI 0,sI 0,sI 0,nL,nL]/\bx f 7 [sI a1.ak5,sI 0,sI a1.dM.ak5,sL Ty.av a1.dM.ak6,sT a Tm.av c.2.1])/\Ow f [64] a c.2.1) (by exact⟨.full,abE,hS.full⟩) (λc k _ _ _ _ E m z p=>?_);have⟨u,q,v⟩:=c;have⟨a,E,i⟩:=E;have e:=Aj e E;dsimp only[xP]at m;apply Ir e m<;>intro e m
 ·cases m;have m:=Qb z;dsimp only[xP]at m;exact au
 refine sw [8,0] ?_;intro w e m;refine sZ m (ih abE) λr d22 m=>?_;refine sw [9,0] ?_;intro e m;refine Ad (f:=Tm.av) q [r] i zl e.2 ?_;simp[e];cases m;exact p _ _ _ ⟨(.loc 64 (k.fi 64+1)),abE,(On 64)⟩ z
def Bh(T:eN){H:dY}{a0:dT}{a1:Tm}{a2:List Tm}{d:Tm}{a:dT}{b:Nat}(c:H[b]?=some [sL Fm.av a0.lemmas,sL Tm.av a0.eh,sI a0.next]){n:Nat}(hm:eK n a0 a1 a2=some (d,a)):eO prog T 151 [AV.fb b 0,Tm.av a1,sL Tm.av a2] H (Tm.av d) (gk H b [sL Fm.av a.lemmas,sL Tm.av a.eh,sI a.next]):=(ju T n) c hm
@[reducible,instance] def Ox:=@Kc.mk prog 151 _ @Bh
def rS(T:eN){H:dY}{a0:dT}{a1:er}{a2:Pf}{f:Fm}{a:dT}{c:Nat}(b:H[c]?=some [sL Fm.av a0.lemmas,sL Tm.av a0.eh,sI a0.next])(hm:eY a0 a1 a2=some (f,a)):eO prog T 152 [AV.fb c 0,er.av a1,Pf.av a2] H (Fm.av f) (gk H c [sL Fm.av a.lemmas,sL Tm.av a.eh,sI a.next]):=by
 rw[eY] at hm;have d:=eU b;refine fC.Lo b ?_;have e:=d;refine wi ak_ func152 [] [(1,true,[])] 999 ?_;have m:=hm;exact aa
@[reducible,instance] def Lf:=@Kc.mk prog 152 _ @rS
def v':C3 prog 153 iu er.av er.av Fm.av Tm.av:=by
 refine v3 func153 λT H a0 a1 a2 r m e=>?_;rw[iu] at m;refine sw [0,4,9,0] ?_;intro _ e m;refine Ad (f:=Fm.av) [] a0.ir.ala (hS.full (D:=[])) Kz e.2 ?_;refine sw [9,0] ?_;intro e m;refine Ad (f:=Fm.av) (fR [] a0.ir.ala) [a1] (hS.new (D:=[21]) (d:=21) aak) Kz e.2 ?_;exact au
@[reducible,instance] def XI:=@Kc.mk prog 153 _ @v'
def N8:C3 prog 154 iy Tm.av Ty.av sI Tm.av:=by
 refine v3 func154 λT H a0 a1 a2 r m e=>?_;rw[iy] at m;have e:=Aj e (show AV.agg [sI 2,sI a1,sI a0.ak5,sL Ty.av a0.ak6,AV.slice .gI [Tm.av a2]]=Tm.av (Tm.mk 2 a1 a0 [a2]) by rw[Tm.eR];rfl);exact au
@[reducible,instance] def abr:=@Kc.mk prog 154 _ @N8
def G1:C2 prog 29 jQ Tm.av Tm.av Tm.av:=by
 refine v2 func29 λT H a0 a1 r m e=>?_;rw[jQ] at m;exact aa
@[reducible,instance] def abw:=@Kc.mk prog 29 _ @G1
def vK:C3 prog 223 oF (t2 Fm.av sI) Fm.av sI sI:=by
 refine u3 7 func223 λT H a0 a1 a2 r m e=>?_;rw[oF] at m;refine sw [0,1,0,13] ?_;intro _ e m;apply wg 3;simp[e];refine WB m 999 999 [2] [3,6] (λv3 f=>f.1 1=sI a1/\f.1 33=sB v3) λa _ g m=>?_;apply Iq e m<;>intro e m
 ·exact jj
 apply Iq e m<;>intro e m
 ·exact jj
 apply Iq e m<;>intro e m
 ·exact jj
 apply Iq e m<;>intro e m
 ·exact jj
 simp[e];refine sS m ud λ_ m=>?_;exact jj
@[reducible,instance] def ZQ:=@Kc.mk prog 223 _ @vK
def tU:C3 prog 155 hY er.av er.av Ty.av Tm.av:=by
 refine v3 func155 λT H a0 a1 a2 r m e=>?_;rw[hY] at m;refine sw [0,4,9,0] ?_;intro l e m;refine Ad (f:=Ty.av) [] a0.ir.ak9 (hS.full (D:=[])) FV e.2 ?_;refine sw [9,0] ?_;intro e m;refine Ad (f:=Ty.av) (fR [] a0.ir.ak9) [a1] (hS.new (D:=[21]) (d:=21) aak) FV e.2 ?_;simp[e];refine Wn m 999 (λs2 f h=>∃a b,(h=H/\f.1 8=sI s2.1/\bx f 3 [sL Ty.av a0.ir.ak9,sL Fm.av a0.ir.ala,sL Tm.av a0.vars,sL Tm.av a0.ala]/\bx f 6 [nL,nL,nL,nL]/\bx f 7 [sT a Ty.av (fR (fR [] a0.ir.ak9) [a1]),sT b Fm.av s2.2,sL Tm.av l,sL Tm.av a0.ala])/\Ow f [24] a (fR (fR [] a0.ir.ak9) [a1])/\Ow f [50] b s2.2) (by exact⟨(.loc 24 1),.full,abE,(On 24),hS.full⟩) (λs2 j _ _ _ _ E m z p=>?_);have⟨v10,v11⟩:=s2;have⟨a,b,E,i,c⟩:=E;have e:=Aj e E;dsimp only[kp]at m;apply Ir e m<;>intro e m
 ·cases m;have m:=Qb z;dsimp only[kp]at m;exact au
 refine sw [8,0,2,9,0] ?_;intro n k _ e m;refine Ao (f:=Fm.av) v11 [k] c Kz e.2 ?_;simp[e];cases m;exact p _ _ _ ⟨a,(.loc 50 (j.fi 50+1)),abE,(hS.other i c aak aak),(On 50)⟩ z
@[reducible,instance] def YA:=@Kc.mk prog 155 _ @tU
def Ax{n:Nat}:C1 prog 284 (k6 n) Tm.av Ty.av:=by
 refine i1 λn ih=>v1 func284 λT H a0 r m e=>?_;rw[k6] at m;exact aa
@[reducible,instance] def W':=@Kc.mk prog 284 _ @Ax
def zP:C1 prog 224 tT (t2 Tm.av sI) Ty.av:=by
 refine v1 func224 λT H a0 r m e=>?_;rw[tT] at m;exact aa
@[reducible,instance] def UW:=@Kc.mk prog 224 _ @zP
def zW:C1 prog 156 l0 Tm.av Ty.av:=by
 refine v1 func156 λT H a0 r m e=>?_;rw[l0] at m;exact aa
@[reducible,instance] def UD:=@Kc.mk prog 156 _ @zW
def Nf:C0 prog 85 oK Ty.av:=by
 refine v0 func85 λT H r m e=>?_;rw[oK] at m;exact au
@[reducible,instance] def acf:=@Kc.mk prog 85 _ @Nf
end Go.Proofs.YtpgdkkomegalnaaGreatDoor
