/- Part of the proof of TheoryNeeds: walks. -/
import Derived.Test.YtjgjcpnoaeljkaaGreatDoorNW1
set_option linter.all false
set_option maxRecDepth 20000
set_option maxHeartbeats 4000000
namespace Go.Proofs.YtjgjcpnoaeljkaaGreatDoor
open Go Go.kC Go.eU Tryz
def M_(T:dt){H:cZ}{a0:Tm}{a:Bool}(hm:wS a0=some a):ds prog T 261 [Tm.av a0] H (sB a) H:=by
 rw[wS] at hm;refine ec.ra (Post:=λx K=>x=sB a/\∃X,K=H++X) ?_ (λ_ _ h=>⟨_,h.2.choose_spec,by rw[h.1];simp[AV.low,AV.gE],h.1,rfl⟩);have e:=trivial;refine wi aiq func261 [3] [] 999 ?_;simp[e];refine qc hm (yu T (st:=λs:Bool=>H++[[sB s]]) (zz.U6 H (λs:Bool=>[[sB s]]) 1 (λ_=>rfl) (by simp[AV.low,AV.gE])) (λX s _ _ b h=>by have:=IA T (H:=H++[[sB s]]++X) (q0:=(List.length H)) aaQ h;simpa using this)) λ_ m=>?_;exact au
def HN(T:dt){H:cZ}{a0 a1:Int}{a2:Ty}{a3:(List (Option Nat))}{nh:List HC}{C:Option Nat}{q:List HC}(hm:jd a0 a1 a2 a3 nh=some (C,q)):ds prog T 299 [sI a0,sI a1,Ty.av a2,sL (nu (List.length H)) a3] (H++iW (List.length H) nh) (nu (List.length H) C) (H++iW (List.length H) q):=by
 rw[jd] at hm;have e:=trivial;refine wi aiq func299 [17] [(5,false,[true,true,true,false,true,true,true,false,true,true,true,false]),(6,false,[true,true,true,true,false,true,true,true,false,true,true,true,false])] 999 ?_;have D:iW (List.length H) nh++[[sI a0,sI a1,sI a2.ail,sL Ty.av a2.aim,sL (nu (List.length H)) a3,sI 1,sI 0,sB false]]=iW (List.length H) (nh++[HC.dz (dw.mk a0 a1 a2 a3 1 0 false)]):=JA rfl;have e:=Aj e D;have F:(nh++[HC.dz (dw.mk a0 a1 a2 a3 1 0 false)])[(List.length nh)]?=some (HC.dz (dw.mk a0 a1 a2 a3 1 0 false)):=QJ;have e:=Aj e F;simp[e];refine Xn e hm 0 (λG i f h=>h=H++iW (List.length H) i/\f.1 0=sI a0/\f.1 1=sI a1/\f.1 9=AV.eb (List.length H+(List.length nh)) 0/\f.1 18=sL (nu (List.length H)) a3/\f.1 19=sI (dp a3)/\f.1 20=sI G) aaQ (λG _ i _ _ _ _ _ E e m z p=>?_) (λi _ _ _ E m=>?_)
 .have e:=Aj e E;have I:=e;refine sg 999 [8] ?_;intro a e m;have k:=HC.c9 e.2;have e:=Aj e.1 k;refine sw [8,8] ?_;intro J d e m;have r:=HC.c9 e.2;have e:=Aj e.1 r;have s:eO (iW (List.length H) i) (List.length nh) [sI a.ail,sI a.aio,sI a.oB.ail,sL Ty.av a.oB.aim,sL (nu (List.length H)) a.aim,sI (dJ .i64 a.size d.size),sI a.free,sB a.normal]=iW (List.length H) (js i (List.length nh) (HC.dz (dw.mk a.ail a.aio a.oB a.aim (dJ .i64 a.size d.size) a.free a.normal))):=o8 rfl;have e:=Aj e s;have l:(js i (List.length nh) (HC.dz (dw.mk a.ail a.aio a.oB a.aim (dJ .i64 a.size d.size) a.free a.normal)))[(List.length nh)]?=some (HC.dz (dw.mk a.ail a.aio a.oB a.aim (dJ .i64 a.size d.size) a.free a.normal)):=vk k;have e:=Aj e l;have⟨j,e,m⟩:=Ac e m;have t:=HC.c9 e.2;have e:=Aj e.1 t;have u:eO (iW (List.length H) (js i (List.length nh) (HC.dz (dw.mk a.ail a.aio a.oB a.aim (dJ .i64 a.size d.size) a.free a.normal)))) (List.length nh) [sI a.ail,sI a.aio,sI a.oB.ail,sL Ty.av a.oB.aim,sL (nu (List.length H)) a.aim,sI (dJ .i64 a.size d.size),sI (imax a.free j.free),sB a.normal]=iW (List.length H) (js (js i (List.length nh) (HC.dz (dw.mk a.ail a.aio a.oB a.aim (dJ .i64 a.size d.size) a.free a.normal))) (List.length nh) (HC.dz (dw.mk a.ail a.aio a.oB a.aim (dJ .i64 a.size d.size) (imax a.free j.free) a.normal))):=o8 rfl;have e:=Aj e u;have v:(js (js i (List.length nh) (HC.dz (dw.mk a.ail a.aio a.oB a.aim (dJ .i64 a.size d.size) a.free a.normal))) (List.length nh) (HC.dz (dw.mk a.ail a.aio a.oB a.aim (dJ .i64 a.size d.size) (imax a.free j.free) a.normal)))[(List.length nh)]?=some (HC.dz (dw.mk a.ail a.aio a.oB a.aim (dJ .i64 a.size d.size) (imax a.free j.free) a.normal)):=vk l;have e:=Aj e v;exact al
 have e:=Aj e E;refine sg 5 [11,0] ?_;intro e m;refine D5 m 999 999 (λw f h=>∃v26,(h=H++iW (List.length H) v26/\f.1 9=AV.eb (List.length H+(List.length nh)) 0)/\w v26=some (C,q)) ?_ (λw _ g m=>?_)
 .rintro _ _ ⟨v26,E,m⟩;exact aa
 apply Iq e m<;>intro e m
 .have⟨c,e,m⟩:=Ac e m;have n:=HC.c9 e.2;have e:=Aj e.1 n;have x:eO (iW (List.length H) i) (List.length nh) [sI c.ail,sI c.aio,sI c.oB.ail,sL Ty.av c.oB.aim,sL (nu (List.length H)) c.aim,sI c.size,sI (dJ .i64 a1 1),sB c.normal]=iW (List.length H) (js i (List.length nh) (HC.dz (dw.mk c.ail c.aio c.oB c.aim c.size (dJ .i64 a1 1) c.normal))):=o8 rfl;have e:=Aj e x;have y:(js i (List.length nh) (HC.dz (dw.mk c.ail c.aio c.oB c.aim c.size (dJ .i64 a1 1) c.normal)))[(List.length nh)]?=some (HC.dz (dw.mk c.ail c.aio c.oB c.aim c.size (dJ .i64 a1 1) c.normal)):=vk n;have e:=Aj e y;exact ij
 apply Ir e m<;>intro e m
 .exact ij
 have⟨b,e,m⟩:=Ac e m;have o:=HC.c9 e.2;have e:=Aj e.1 o;have A:eO (iW (List.length H) i) (List.length nh) [sI b.ail,sI b.aio,sI b.oB.ail,sL Ty.av b.oB.aim,sL (nu (List.length H)) b.aim,sI b.size,sI (imax 0 (ea .i64 b.free 1)),sB b.normal]=iW (List.length H) (js i (List.length nh) (HC.dz (dw.mk b.ail b.aio b.oB b.aim b.size (imax 0 (ea .i64 b.free 1)) b.normal))):=o8 rfl;have e:=Aj e A;have B:(js i (List.length nh) (HC.dz (dw.mk b.ail b.aio b.oB b.aim b.size (imax 0 (ea .i64 b.free 1)) b.normal)))[(List.length nh)]?=some (HC.dz (dw.mk b.ail b.aio b.oB b.aim b.size (imax 0 (ea .i64 b.free 1)) b.normal)):=vk o;have e:=Aj e B;exact ij
@[reducible,instance] def Xa:=fK 299 @HN
def Hs(T:dt):∀(n:Nat),(∀{H:cZ} {a0:Tm} {nh:List HC} {i:Option Nat} {c:List HC} (hm:qu n a0 nh=some (i,c)),ds prog T 262 [Tm.av a0] (H++iW (List.length H) nh) (nu (List.length H) i) (H++iW (List.length H) c)):=by
  intro n
  induction n with
  |zero=>
   skip
   all_goals(intro _ _;intros;rename_i hm;cases hm)
  |succ n ih=>
 intro H a0 nh i c hm;rw[qu] at hm;have e:=trivial;refine wi aiq func262 [] [] 999 ?_;simp[e];refine Wr e hm 999 (λk s2 f h=>∃a,(h=H++iW (List.length H) s2.2/\f.1 3=sT a (nu (List.length H)) s2.1/\f.1 7=sL Tm.av a0.aim/\f.1 8=sI (dp a0.aim)/\f.1 9=sI k/\bx f 1 (Tm.av a0).cells)/\Ow f [17] a s2.1) (by exact⟨.full,aaQ,ig.full⟩) (λs2 d _ _ E m=>?_) (λk _ s2 d _ _ _ _ E e m z p=>?_)
 .have⟨v11,v12⟩:=s2;have⟨a,E,b⟩:=E;have e:=Aj e E;dsimp only[dh,kO]at m;refine sw [0,2] ?_;intro _ l e m;exact au
 have⟨v11,v12⟩:=s2;have⟨a,E,b⟩:=E;have e:=Aj e E;have o:=e;dsimp only[kO]at m;simp[e];refine s8 m (ih (H:=H)) λj q m=>?_;refine sw [9,0] ?_;intro e m;refine Ao (f:=(nu (List.length H))) v11 [j] b QY e.2 ?_;simp[e];cases m;exact p _ _ _ ⟨(.loc 17 (d.eg 17+1)),aaQ,(On 17)⟩ z
def Kz(T:dt){n:Nat}:=@Hs T n
@[reducible,instance] def XQ:=fK 262 @Kz
def BA(T:dt){H:cZ}{a0:Option Nat}{nh:List HC}{b:Int}(hm:p7 a0 nh=some b):ds prog T 301 [nu (List.length H) a0] (H++iW (List.length H) nh) (sI b) (H++iW (List.length H) nh):=by
 rw[p7] at hm;have e:=trivial;refine wi aiq func301 [] [] 999 ?_;have m:=hm;refine sw [8,8] ?_;intro c d e m;have a:=HC.c9 e.2;have e:=Aj e.1 a;exact au
@[reducible,instance] def Rl:=fK 301 @BA
def tU(T:dt){H:cZ}{a0:Option Nat}{nh:List HC}{k:Bool}(hm:ll a0 nh=some k):ds prog T 302 [nu (List.length H) a0] (H++iW (List.length H) nh) (sB k) (H++iW (List.length H) nh):=by
 rw[ll] at hm;have e:=trivial;refine wi aiq func302 [] [] 8 ?_;have m:=hm;refine sw [8,8] ?_;intro x d e m;have h:=HC.c9 e.2;have e:=Aj e.1 h;simp[e];apply Iq e m<;>intro e m
 .refine sg 999 [8,8,8] ?_;intro y A B e m;have i:=HC.c9 e.2;have e:=Aj e.1 i;exact au
 apply wg 3;simp[e];apply Iq e m<;>intro e m
 .apply wg 1;simp[e];refine WB m 999 999 [] [] (λv9 f=>f.1 2=sB v9) λC _ g m=>?_;refine sw [8,8,8] ?_;intro l n o e m;have a:=HC.c9 e.2;have e:=Aj e.1 a;apply Iq e m<;>intro e m
  .exact ij
  exact ij
 apply wg 4;apply Iq e m<;>intro e m
 .simp[e];refine WB m 999 999 [] [] (λj f=>f.1 2=sB j) λq _ g m=>?_;refine sw [8,8,8] ?_;intro r s t e m;have b:=HC.c9 e.2;have e:=Aj e.1 b;apply Iq e m<;>intro e m
  .exact ij
  exact ij
 simp[e];refine wA 999 999 [0] [] (λf=>f.1 67=sB (en (dj d.ail 11) true (dj d.ail 12))) [12,8,8,8] (λ_ g=>?_) ?_
 .rcases Pb (dj d.ail 11) e with e|e
  .exact aj
  exact aj
 intro _ u v w e m;have c:=HC.c9 e.2;have e:=Aj e.1 c;exact au
@[reducible,instance] def Pe:=fK 302 @tU
def AK(T:dt){H:cZ}{a0:Option Nat}{nh:List HC}{b:Int}(hm:gS a0 nh=some b):ds prog T 339 [nu (List.length H) a0] (H++iW (List.length H) nh) (sI b) (H++iW (List.length H) nh):=by
 rw[gS] at hm;have e:=trivial;refine wi aiq func339 [] [] 999 ?_;have m:=hm;refine sw [8,8] ?_;intro c d e m;have a:=HC.c9 e.2;have e:=Aj e.1 a;exact aa
@[reducible,instance] def PK:=fK 339 @AK
def Ab(T:dt):∀(n:Nat),(∀{H:cZ} {a0:Option Nat} {a1:Int} {nh:List HC} {a:Int} (hm:ka n a0 a1 nh=some a),ds prog T 333 [nu (List.length H) a0,sI a1] (H++iW (List.length H) nh) (sI a) (H++iW (List.length H) nh)):=by
  intro n
  induction n with
  |zero=>
   skip
   all_goals(intro _ _;intros;rename_i hm;cases hm)
  |succ n ih=>
 intro H a0 a1 nh a hm;rw[ka] at hm;have e:=trivial;refine wi aiq func333 [] [] 999 ?_;have m:=hm;refine sw [8,8] ?_;intro h i e m;have b:=HC.c9 e.2;have e:=Aj e.1 b;refine sw [7,13,0] ?_;intro e m;refine Wd e m 999 30 [0,1,28,29] [] (λc f=>f.1 5=sI c) λj _ c _ _ _ _ _ E e m z p=>?_;simp[e]at E;have e:=Aj e E;have d:=e;exact aa
def A0(T:dt){n:Nat}:=@Ab T n
@[reducible,instance] def Pd:=fK 333 @A0
def vi(T:dt){H:cZ}{a0:Option Nat}{a1:(List (Option Nat))}{nh:List HC}{c:Option Nat}{a:List HC}(hm:fC a0 a1 nh=some (c,a)):ds prog T 324 [nu (List.length H) a0,sL (nu (List.length H)) a1] (H++iW (List.length H) nh) (nu (List.length H) c) (H++iW (List.length H) a):=by
 rw[fC] at hm;have e:=trivial;refine wi aiq func324 [] [(1,false,[true,true,true,false,true,true,true,false,true,true,true,false,true,true,true])] 999 ?_;have m:=hm;refine sw [8,8] ?_;intro f h e m;have b:=HC.c9 e.2;have e:=Aj e.1 b;refine sw [0,5] ?_;intro _ d e m;exact au
@[reducible,instance] def Rj:=fK 324 @vi
def Bb(T:dt):∀(n:Nat),(∀{H:cZ} {a0:Option Nat} {a1:Int} {a2:Int} {nh:List HC} {o:Option Nat} {i:List HC} (hm:iQ n a0 a1 a2 nh=some (o,i)),ds prog T 340 [nu (List.length H) a0,sI a1,sI a2] (H++iW (List.length H) nh) (nu (List.length H) o) (H++iW (List.length H) i)):=by
  intro n
  induction n with
  |zero=>
    skip
    all_goals(intro _ _;intros;rename_i hm;cases hm)
  |succ n ih=>
 intro H a0 a1 a2 nh o i hm;rw[iQ] at hm;have e:=trivial;refine wi aiq func340 [] [(4,false,[true,true,true,false,true,true,true,false,true,true,true,true,true,false,true,true])] 3 ?_;simp[e];refine WA hm 999 999 [1,2] [] (λv2 f=>f.1 0=nu (List.length H) a0/\f.1 19=sB v2) [7,8,8] (λx _ g m=>?_) ?_
 .refine sw [8,8] ?_;intro y A e m;have q:=HC.c9 e.2;have e:=Aj e.1 q;apply Iq e m<;>intro e m
  .exact ij
  exact ij
 intro _ v2 w j e m;have k:=HC.c9 e.2;have e:=Aj e.1 k;apply Iq e m<;>intro e m
 .refine sw [0,5] ?_;intro _ s e m;exact au
 simp[e];refine Wr e m 999 (λl b f h=>∃a,(h=H++iW (List.length H) b.2/\f.1 0=nu (List.length H) a0/\f.1 1=sI a1/\f.1 2=sI a2/\f.1 7=sT a (nu (List.length H)) b.1/\f.1 44=sL (nu (List.length H)) j.aim/\f.1 45=sI (dp j.aim)/\f.1 46=sI l)/\Ow f [59] a b.1) (by exact⟨.full,aaQ,ig.full⟩) (λb d _ _ E m=>?_) (λl _ b d _ _ _ _ E e m z p=>?_)
 .have⟨v24,v25⟩:=b;have⟨a,E,c⟩:=E;have e:=Aj e E;dsimp only[dh,kO]at m;refine sw [0,2] ?_;intro _ t e m;exact au
 have⟨v24,v25⟩:=b;have⟨a,E,c⟩:=E;have e:=Aj e E;have u:=e;dsimp only[kO]at m;refine sw [0,1,0] ?_;intro _ e m;refine s8 m (ih (H:=H)) λr v m=>?_;refine sw [9,0] ?_;intro e m;refine Ao (f:=(nu (List.length H))) v24 [r] c QY e.2 ?_;simp[e];cases m;exact p _ _ _ ⟨(.loc 59 (d.eg 59+1)),aaQ,(On 59)⟩ z
def BR(T:dt){n:Nat}:=@Bb T n
@[reducible,instance] def QS:=fK 340 @BR
def Cg(T:dt):∀(n:Nat),(∀{H:cZ} {a0:Option Nat} {a1:Int} {a2:Option Nat} {nh:List HC} {k:Option Nat} {d:List HC} (hm:jF n a0 a1 a2 nh=some (k,d)),ds prog T 334 [nu (List.length H) a0,sI a1,nu (List.length H) a2] (H++iW (List.length H) nh) (nu (List.length H) k) (H++iW (List.length H) d)):=by
  intro n
  induction n with
  |zero=>
    skip
    all_goals(intro _ _;intros;rename_i hm;cases hm)
  |succ n ih=>
 intro H a0 a1 a2 nh k d hm;rw[jF] at hm;have e:=trivial;refine wi aiq func334 [] [(6,false,[true,true,true,false,true,true,true,false,true,true,true,true,false,true,true])] 999 ?_;have m:=hm;refine sw [8,8] ?_;intro y r e m;have l:=HC.c9 e.2;have e:=Aj e.1 l;refine Il e m λe m=>?_;apply Iq e m<;>intro e m
 .apply Ir e m<;>intro e m
  .refine sw [0,5] ?_;intro _ w e m;exact au
  refine sw [0,2] ?_;intro _ x e m;exact au
 simp[e];refine Wr e m 999 (λs i f h=>∃a,(h=H++iW (List.length H) i.2/\f.1 0=nu (List.length H) a0/\f.1 1=sI a1/\f.1 2=nu (List.length H) a2/\f.1 7=sT a (nu (List.length H)) i.1/\f.1 48=sL (nu (List.length H)) r.aim/\f.1 49=sI (dp r.aim)/\f.1 50=sI s)/\Ow f [63] a i.1) (by exact⟨.full,aaQ,ig.full⟩) (λi c _ _ E m=>?_) (λs _ i c _ _ _ _ E e m z p=>?_)
 .have⟨j,o⟩:=i;have⟨a,E,b⟩:=E;have e:=Aj e E;dsimp only[dh,kO]at m;refine sw [0,2] ?_;intro _ t e m;exact au
 have⟨j,o⟩:=i;have⟨a,E,b⟩:=E;have e:=Aj e E;have u:=e;dsimp only[kO]at m;refine sw [0,1,0] ?_;intro _ e m;refine s8 m (ih (H:=H)) λq v m=>?_;refine sw [9,0] ?_;intro e m;refine Ao (f:=(nu (List.length H))) j [q] b QY e.2 ?_;simp[e];cases m;exact p _ _ _ ⟨(.loc 63 (c.eg 63+1)),aaQ,(On 63)⟩ z
def CE(T:dt){n:Nat}:=@Cg T n
@[reducible,instance] def RI:=fK 334 @CE
def Mm(T:dt){H:cZ}{a0:Option Nat}{a1:(List (Option Nat))}{nh:List HC}{b:Option Nat}{a:List HC}(hm:qA a0 a1 nh=some (b,a)):ds prog T 335 [nu (List.length H) a0,sL (nu (List.length H)) a1] (H++iW (List.length H) nh) (nu (List.length H) b) (H++iW (List.length H) a):=by
 rw[qA] at hm;have e:=trivial;refine wi aiq func335 [] [] 999 ?_;simp[e];refine Wr e hm 999 (λc s2 f h=>h=H++iW (List.length H) s2.2/\f.1 0=nu (List.length H) s2.1/\f.1 7=sL (nu (List.length H)) a1/\f.1 8=sI (dp a1)/\f.1 9=sI c) aaQ (λs2 _ _ _ E m=>?_) (λc _ s2 _ _ _ _ _ E e m z p=>?_)
 .have⟨v11,v12⟩:=s2;have e:=Aj e E;dsimp only[dh,kO]at m;exact au
 have⟨v11,v12⟩:=s2;have e:=Aj e E;have d:=e;dsimp only[kO]at m;refine sw [0,2] ?_;intro _ i e m;exact al
@[reducible,instance] def Zu:=fK 335 @Mm
def rM(T:dt){H:cZ}{a0:Option Nat}{nh:List HC}{j:Option Nat}{a:List HC}(hm:gU a0 nh=some (j,a)):ds prog T 323 [nu (List.length H) a0] (H++iW (List.length H) nh) (nu (List.length H) j) (H++iW (List.length H) a):=by
 rw[gU] at hm;have e:=trivial;refine wi aiq func323 [] [(3,false,[true,true,true,false,true,true,true,true,false,true,true,true,true,true,false,true,true,true,true]),(8,true,[]),(11,false,[true,true,true,true,true,true,false,true,true,true,false,true,true,true,true,true,true,true])] 999 ?_;have m:=hm;refine sw [8,8] ?_;intro I J e m;have h:=HC.c9 e.2;have e:=Aj e.1 h;apply Iq e m<;>intro e m
 .refine sw [8,8,8] ?_;intro K L M e m;have i:=HC.c9 e.2;have e:=Aj e.1 i;refine sw [8,8] ?_;intro N O e m;simp-implicitDefEqProofs[e];refine TA m λ_ k m=>?_;exact au
 apply Iq e m<;>intro e m
 .refine sw [8,8,8] ?_;intro q r s e m;have b:=HC.c9 e.2;have e:=Aj e.1 b;have⟨t,e,m⟩:=Ac e m;exact au
 apply Iq e m<;>intro e m
 .refine sw [8,8,8] ?_;intro u v w e m;have c:=HC.c9 e.2;have e:=Aj e.1 c;have⟨x,e,m⟩:=Ac e m;exact au
 refine sw [8,8,8,8,8] ?_;intro y A B C D e m;have d:=HC.c9 e.2;have e:=Aj e.1 d;refine Il e m λe m=>?_;refine sw [8,0,5,8] ?_;intro F _ l G e m;have f:=HC.c9 e.2;have e:=Aj e.1 f;refine sw [0,2,0,2] ?_;intro _ n _ o e m;exact au
@[reducible,instance] def Lv:=fK 323 @rM
def A6(T:dt){H:cZ}{a0:Option Nat}{nh:List HC}{v:Int}{a:List HC}(hm:lp a0 nh=some (v,a)):ds prog T 322 [nu (List.length H) a0] (H++iW (List.length H) nh) (sI v) (H++iW (List.length H) a):=by
 rw[lp] at hm;have e:=trivial;refine wi aiq func322 [] [(4,true,[]),(7,true,[]),(12,true,[])] 999 ?_;have m:=hm;refine sw [8,8] ?_;intro x1 x2 e m;have t:=HC.c9 e.2;have e:=Aj e.1 t;apply Iq e m<;>intro e m
 .refine sw [8,8,8] ?_;intro x4 x5 x6 e m;have u:=HC.c9 e.2;have e:=Aj e.1 u;refine sw [8,8,8] ?_;intro x8 x9 x e m;have b:=HC.c9 e.2;have e:=Aj e.1 b;refine sw [0,4,8,8,8] ?_;intro _ y A B e m;have c:=HC.c9 e.2;have e:=Aj e.1 c;exact au
 apply Iq e m<;>intro e m
 .refine sw [8,8,8] ?_;intro C D F e m;have d:=HC.c9 e.2;have e:=Aj e.1 d;apply Ir e m<;>intro e m
  .refine sw [8,8,8] ?_;intro G I J e m;have f:=HC.c9 e.2;have e:=Aj e.1 f;exact au
  refine sw [8,8,8] ?_;intro K L M e m;have h:=HC.c9 e.2;have e:=Aj e.1 h;refine sw [8,8,8] ?_;intro N O P e m;have i:=HC.c9 e.2;have e:=Aj e.1 i;refine sw [8,8,8] ?_;intro Q R S e m;have j:=HC.c9 e.2;have e:=Aj e.1 j;exact au
 apply Ir e m<;>intro e m
 .simp[e];refine sw [2,8,8] ?_;intro _ w U V e m;have k:=HC.c9 e.2;have e:=Aj e.1 k;exact au
 refine sw [8,8,8] ?_;intro W X Y e m;have l:=HC.c9 e.2;have e:=Aj e.1 l;apply Ir e m<;>intro e m
 .refine sw [8,8,8] ?_;intro Z ad ae e m;have n:=HC.c9 e.2;have e:=Aj e.1 n;exact au
 refine sw [8,8,8] ?_;intro af ah ai e m;have o:=HC.c9 e.2;have e:=Aj e.1 o;refine sw [8,8,8] ?_;intro ak an ao e m;have q:=HC.c9 e.2;have e:=Aj e.1 q;refine sw [8,8,8] ?_;intro aq ar aw e m;have r:=HC.c9 e.2;have e:=Aj e.1 r;refine sw [8,8,8] ?_;intro ax ay az e m;have s:=HC.c9 e.2;have e:=Aj e.1 s;exact au
def zU(T:dt){H:cZ}{a0:Option Nat}{nh:List HC}{a:Int}(hm:ov a0 nh=some a):ds prog T 322 [nu (List.length H) a0] (H++iW (List.length H) nh) (sI a) (H++iW (List.length H) nh):=by
 have⟨r,c,b,d⟩:=gB hm;obtain rfl:=fQ d;obtain⟨X,rfl⟩:=Bg b;exact ec.ra (A6 T b) (λ_ _ h=>⟨iW (List.length H) X,by rw[h.2];simp[vp],by rw[h.1];rfl,h.1,rfl⟩)
def RL:iS prog 300=true:=by kernel_rfl
def A2(T:dt):∀(n:Nat),(∀{H:cZ} {a0:Option Nat} {a1:Int} {nh:List HC} {r0:Option Nat} {r1:Int} {az:List HC} (hm:iV n a0 a1 nh=some (r0,r1,az)),ds prog T 300 [nu (List.length H) a0,sI a1] (H++iW (List.length H) nh) (AV.tuple [nu (List.length H) r0,sI r1]) (H++iW (List.length H) az)):=by
  intro n
  induction n with
  |zero=>
    skip
    all_goals(intro _ _;intros;rename_i hm;cases hm)
  |succ n ih=>
 intro H a0 a1 nh r0 r1 az hm;rw[iV] at hm;refine ec.intro (fn:=f300) func300 rfl RL (A3 rfl) ?_;refine fa.sr [] λK1 bE=>?_;simp;apply bE;refine fa.tc λK3 bF=>?_;refine fa.sr [] λK5 bG=>?_;have⟨x7,o,aA⟩:=dm hm;clear hm
 try dsimp only at aA
 have⟨I,a,Q⟩:=dm aA;replace a:=HC.c9 a;clear aA
 try dsimp only at Q
 simp[o,a];apply bG;refine fa.sx λcf cg a_ a'=>?_;rcases gR Q with⟨b,ai⟩|⟨b,ak⟩
 .clear Q;simp[o,a,b];apply a_;refine fa.sr [] λch ba=>?_;simp[o,a,b];apply ba;refine fa.ret ?_;simp only[uV,GA] at ai;obtain⟨rfl,rfl,rfl⟩:=ai;simp[uo,o,a,b]
 clear Q;simp[o,a,b];apply a';refine fa.skip ?_;apply bF;refine fa.tc λcj bb=>?_;refine fa.sr [] λck bc=>?_;have⟨cm,bd,R⟩:=dm ak;clear ak
 try dsimp only at R
 simp[o,a,b];refine il.fn (tU T (H:=H) bd) ?_;simp[o,a,b];apply bc;refine fa.sx λcn cp bf bg=>?_;rcases gR R with⟨c,an⟩|⟨c,ao⟩
 .clear R;simp[o,a,b,c];apply bf;refine fa.tc λcq bh=>?_;refine fa.tc λcr bj=>?_;refine fa.Yd [] true aiq adm adm ?_;have⟨cu,bk,S⟩:=dm an;clear an
  try dsimp only at S
  simp[o,a,b,c];refine tA.fn (zU T (H:=H) bk) aaL ?_;simp[o,a,b,c];apply bj;refine fa.sx λcw cx bl bm=>?_;rcases gR S with⟨B,aq⟩|⟨B,ar⟩
  .clear S;simp[o,a,b,c,B];apply bl;refine fa.sr [] λcy bn=>?_;simp[o,a,b,c,B];apply bn;refine fa.ret ?_;simp only[uV,GA] at aq;obtain⟨rfl,rfl,rfl⟩:=aq;simp[uo,o,a,b,c,B]
  clear S;simp[o,a,b,c,B];apply bm;refine fa.skip ?_;apply bh;refine fa.sr [] λcz bo=>?_;have⟨cA,bM,bp,U⟩:=gB ar;clear ar
  try dsimp only at U
  simp[o,a,b,c,B];refine il.fn (rM T (H:=H) bp) ?_;simp[o,a,b,c,B];apply bo;refine fa.ret ?_;simp only[uV,GA] at U;obtain⟨rfl,rfl,rfl⟩:=U;simp[uo,o,a,b,c,B]
 clear R;simp[o,a,b,c];apply bg;refine fa.skip ?_;apply bb;refine fa.tc λcB bq=>?_;refine fa.sr [] λcD br=>?_;simp[o,a,b,c];apply br;have⟨aB,aw⟩:=j0 ao;clear ao;have⟨bH,bs,V⟩:=kL aw;clear aw
 try dsimp only at V
 have⟨aC,C,v⟩:=dm V;clear V;refine fa.ya λcE bN bt bO ax=>?_;refine fa.NB (λn75 fr h=>∃(i76:Nat) (W:Int) (v78:List HC),H++iW (List.length H) v78=h/\(fr.env 0=nu (List.length H) a0/\fr.env 1=sI a1/\fr.env 31=sL (nu (List.length H)) I.aim/\fr.env 32=sI (dp I.aim)/\fr.env 33=sI W)/\W=(i76:Int)/\i76+n75=List.length I.aim/\dF bH (List.drop i76 I.aim) i76 v78=some aC) (List.length I.aim) ?_ ?_
 .refine⟨0,0,nh,?_,⟨?_,?_,?_,?_,?_⟩,rfl,aaL,C⟩<;>first|rfl|simp[o,a,b,c]
 rintro n75 bu cF ⟨i76,W,v78,rfl,s,J,bP,C⟩ cG bw;rcases n75 with _|n75
 .have i:=MG (l:=I.aim) J VW;refine fa.sr [] λcH bz=>?_;simp[s,o,a,i,b,c];apply bz;refine fa.tc λcI bQ=>?_;refine fa.sx λcJ cK bR bA=>?_;simp[s,o,a,i,b,c];apply bA;refine fa.exit ?_;apply bt;rw[HE VW,nT] at C;obtain rfl:=fQ C;rw[dh] at v
  try dsimp only at v
  apply bq;refine fa.sr [] λcL bB=>?_;have⟨w,D,X⟩:=dm v;replace D:=HC.c9 D;clear v
  try dsimp only at X
  have Y:eO (iW (List.length H) v78) x7 [sI w.ail,sI w.aio,sI w.oB.ail,sL Ty.av w.oB.aim,sL (nu (List.length H)) w.aim,sI w.size,sI w.free,sB true]=iW (List.length H) (js v78 x7 (HC.dz (dw.mk w.ail w.aio w.oB w.aim w.size w.free true))):=o8 rfl;have Z:(js v78 x7 (HC.dz (dw.mk w.ail w.aio w.oB w.aim w.size w.free true)))[x7]?=some (HC.dz (dw.mk w.ail w.aio w.oB w.aim w.size w.free true)):=vk D;simp[s,o,a,i,D,Y,Z,b,c];apply bB;refine fa.sr [] λbS aD=>?_;simp[s,o,a,i,D,Y,Z,b,c];apply aD;refine fa.ret ?_;simp only[uV,GA] at X;obtain⟨rfl,rfl,rfl⟩:=X;simp[uo,s,o,a,i,D,Y,Z,b,c]
 have i:=Q_ (l:=I.aim) J VW;have⟨bT,aE,j⟩:=M6 (l:=I.aim) J VW;rw[aE,dB] at C;have⟨bU,F,A⟩:=dm C;clear C;rw[bs,<-J] at F
 try dsimp only at F
 refine fa.sr [] λbV aF=>?_;simp[s,o,a,i,j,b,c];apply aF;refine fa.tc λbW aG=>?_;refine fa.sx λbX bY aH bI=>?_;simp[s,o,a,i,j,b,c];apply aH;refine fa.skip ?_;apply aG;refine fa.tc λbZ aI=>?_;refine fa.ya λb0 aJ bJ bK ad=>?_;refine fa.sr [] λb1 aK=>?_;simp[s,o,a,i,j,b,c];apply aK;refine fa.sr [] λb2 aL=>?_;have⟨ay,b3,aM,aN,G⟩:=uB F;clear F
 try dsimp only at G
 simp[s,o,a,i,j,b,c];refine il.fn (ih (H:=H) aN) ?_;simp[s,o,a,i,j,b,c];apply aL;refine fa.tc λb4 aO=>?_;refine fa.sr [] λb5 aP=>?_;simp[s,o,a,i,j,b,c];apply aP;refine fa.sx λb6 b7 aQ aR=>?_;rcases gR G with⟨q,aS⟩|⟨q,M⟩
 .clear G;simp[s,o,a,i,j,b,c,q];apply aQ;refine fa.sr [] λb8 aT=>?_;simp[s,o,a,i,j,b,c,q];apply aT;refine fa.ret ?_;apply ad;apply ax;obtain rfl:=fQ aS;rw[yz] at A;obtain rfl:=fQ A;rw[oG] at v
  try dsimp only at v
  simp only[uV,GA] at v;obtain⟨rfl,rfl,rfl⟩:=v;simp[uo,s,o,a,i,j,b,c,q]
 clear G;simp[s,o,a,i,j,b,c,q];apply aR;refine fa.skip ?_;apply aO;refine fa.sr [] λb9 aU=>?_;simp[s,o,a,i,j,b,c,q];apply aU;refine fa.sx λb_ b' aV aW=>?_;rcases gR M with⟨r,ae⟩|⟨r,aX⟩;rotate_left
 .clear M;simp[s,o,a,i,j,b,c,q,r];apply aW;refine fa.skip ?_;apply aJ;apply aI;refine fa.region [] adm ?_;simp[s,o,a,i,j,b,c,q,r];obtain rfl:=fQ aX;rw[dR] at A
  refine bw _ _ n75 (Vl _) ⟨(i76+1),(dJ .i64 W 1),aM,?_,⟨?_,?_,?_,?_,?_⟩,(JS J VW aB),VW,A⟩<;>first|rfl|simp[s,o,a,i,j,b,c,q,r]
 clear M;simp[s,o,a,i,j,b,c,q,r];apply aV;refine fa.sr [] λca aY=>?_;have⟨K,t,N⟩:=dm ae;replace t:=HC.c9 t;clear ae
 try dsimp only at N
 have⟨aZ,af⟩:=j0 N;clear N;simp[s,o,a,i,j,t,b,c,q,r];refine rp.abv (f:=(nu (List.length H))) K.aim QY ⟨_,YQ⟩ (by intro x;simp) aZ (by first|rfl|simp) (by first|rfl|simp) λO bC=>?_;simp[s,o,a,i,j,t,b,c,q,r];apply aY;refine fa.sr [] λcb a6=>?_;have⟨bD,u,P⟩:=dm af;clear af
 try dsimp only at P
 have y:=FE u;simp[s,o,a,i,j,t,u,y,b,c,q,r];refine y_.arr (f:=(nu (List.length H))) (L:=K.aim) (k:=((O-List.length K.aim)*1)) ay abF (by intro x;simp) (by simp[s,o,a,i,j,t,u,y,b,c,q,r]) (x:=bD) (by assumption) (by simp[s,o,a,i,j,t,u,y,b,c,q,r]) (by simp[s,o,a,i,j,t,u,y,b,c,q,r]) (by simp[s,o,a,i,j,t,u,y,b,c,q,r]) ?_;simp[s,o,a,i,j,t,u,y,b,c,q,r];apply a6;refine fa.tc λcc a7=>?_;refine fa.aeV 10 (f:=(nu (List.length H))) (L:=(wy K.aim W ay)) (k:=((O-List.length K.aim)*1)) (sz:=1) (d:=53) (g:=(bu.gen 53+1)) (cap:=O) (by intro x;simp) (by intro x;simp) (by simp[s,o,a,i,j,t,u,y,b,c,q,r]) (by simp[s,o,a,i,j,t,u,y,b,c,q,r]) (by simp[s,o,a,i,j,t,u,y,b,c,q,r]) ?_;refine fa.region [] adm ?_;have⟨cd,bL,a8,ah⟩:=gB P;clear P
 try dsimp only at ah
 simp[s,o,a,i,j,t,u,y,b,c,q,r];refine il.fn (vi T (H:=H) a8) ?_;simp[s,o,a,i,j,t,u,y,b,c,q,r];apply a7;refine fa.ret ?_;apply ad;apply ax;obtain rfl:=fQ ah;rw[yz] at A;obtain rfl:=fQ A;rw[oG] at v
 try dsimp only at v
 simp only[uV,GA] at v;obtain⟨rfl,rfl,rfl⟩:=v;simp[uo,s,o,a,i,j,t,u,y,b,c,q,r]
def Cm(T:dt){n:Nat}:=@A2 T n
def z'(T:dt){H:cZ}{a0:Option Nat}{nh:List HC}{q:Bool}{r:Int}{j:List HC}(hm:iD a0 nh=some (q,r,j)):ds prog T 263 [nu (List.length H) a0] (H++iW (List.length H) nh) (AV.tuple [sB q,sI r]) (H++iW (List.length H) j):=by
 rw[iD] at hm;have e:=trivial;refine wi aiq func263 [] [(1,true,[true,true,true,true,true,true,true,true,true,true,false,true,true,true,true,true])] 5 ?_;have m:=hm;refine sw [8,8] ?_;intro d t e m;have o:=HC.fF e.2;have e:=Aj e.1 o;refine sw [0,4] ?_;intro _ e m;have⟨c,s,b,e,m⟩:=Bo3 e m;simp[e];refine tp.fn (Cm T (H:=H) e.2) ?_;simp[e];refine wA 999 999 [4,5] [] (λf=>f.1 0=nu (List.length H) a0/\f.1 25=sB (en (dx s 0) true (Option.isNone c))) [7,8] (λ_ g=>?_) ?_
 .exact aa
 intro _ a e m;have h:=HC.fF e.2;have e:=Aj e.1 h;have k:eO (iW (List.length H) b) d [nu (List.length H) c,sI a.steps]=iW (List.length H) (js b d (HC.eJ (eA.mk c a.steps))):=o8 rfl;have e:=Aj e k;have i:(js b d (HC.eJ (eA.mk c a.steps)))[d]?=some (HC.eJ (eA.mk c a.steps)):=vk h;have e:=Aj e i;have l:eO (iW (List.length H) (js b d (HC.eJ (eA.mk c a.steps)))) d [nu (List.length H) c,sI (dJ .i64 a.steps 1)]=iW (List.length H) (js (js b d (HC.eJ (eA.mk c a.steps))) d (HC.eJ (eA.mk c (dJ .i64 a.steps 1)))):=o8 rfl;have e:=Aj e l;have n:(js (js b d (HC.eJ (eA.mk c a.steps))) d (HC.eJ (eA.mk c (dJ .i64 a.steps 1))))[d]?=some (HC.eJ (eA.mk c (dJ .i64 a.steps 1))):=vk i;have e:=Aj e n;exact au
@[reducible,instance] def Ob:=fK 263 @z'
def Ba(T:dt):∀(n:Nat),(∀{H:cZ} {a0:Option Nat} {nh:List HC} {d:Tm} (hm:h8 n a0 nh=some d),ds prog T 264 [nu (List.length H) a0] (H++iW (List.length H) nh) (Tm.av d) (H++iW (List.length H) nh)):=by
  intro n
  induction n with
  |zero=>
   skip
   all_goals(intro _ _;intros;rename_i hm;cases hm)
  |succ n ih=>
 intro H a0 nh d hm;rw[h8] at hm;have e:=trivial;refine wi aiq func264 [] [(1,true,[])] 999 ?_;have m:=hm;refine sw [8,8] ?_;intro q k e m;have h:=HC.c9 e.2;have e:=Aj e.1 h;refine sw [0,4,0] ?_;intro l e m;refine Td e m 999 25 [23,24] [2] [34] (λb=>b) (λb a f=>bx f 3 [sI k.ail,sI k.aio,sI l.ail,sL Ty.av l.aim,sT a Tm.av b]) λr _ b i _ _ _ _ E e m z p=>?_;have⟨a,E,c⟩:=E;simp[e]at E;have e:=Aj e E;have o:=e;simp[e];refine lI m (ih (H:=H)) λj m=>?_;refine sw [9,0] ?_;intro e m;refine Ad (f:=Tm.av) b [j] c BV e.2 ?_;simp[e];cases m;exact p _ _ _ ⟨(.loc 34 (i.eg 34+1)),aaQ,(On 34)⟩ z
def BM(T:dt){n:Nat}:=@Ba T n
@[reducible,instance] def QH:=fK 264 @BM
def yb(T:dt):∀(n:Nat),(∀{H:cZ} {a0:Option Nat} {nh:List HC} {l:Bool} {c:List HC} (hm:iE n a0 nh=some (l,c)),ds prog T 265 [nu (List.length H) a0] (H++iW (List.length H) nh) (sB l) (H++iW (List.length H) c)):=by
  intro n
  induction n with
  |zero=>
   skip
   all_goals(intro _ _;intros;rename_i hm;cases hm)
  |succ n ih=>
 intro H a0 nh l c hm;rw[iE] at hm;have e:=trivial;refine wi aiq func265 [] [] 999 ?_;have m:=hm;refine sw [8,8] ?_;intro k q e m;have o:=HC.c9 e.2;have e:=Aj e.1 o;refine sw [7,0,1,7,0] ?_;intro _ e m;refine Xn e m 999 (λr d f h=>h=H++iW (List.length H) d/\f.1 0=nu (List.length H) a0/\f.1 14=sL (nu (List.length H)) q.aim/\f.1 15=sI (dp q.aim)/\f.1 16=sI r) aaQ (λr _ d _ _ _ _ _ E e m z p=>?_) (λd _ _ _ E m=>?_)
 .have e:=Aj e E;have s:=e;simp[e];refine s8 m (ih (H:=H)) λ_ t m=>?_;exact aa
 refine sw [10,11,8] ?_;intro a e m;have b:=HC.c9 e.2;have e:=Aj e.1 b;have i:eO (iW (List.length H) d) k [sI a.ail,sI a.aio,sI a.oB.ail,sL Ty.av a.oB.aim,sL (nu (List.length H)) a.aim,sI a.size,sI a.free,sB true]=iW (List.length H) (js d k (HC.dz (dw.mk a.ail a.aio a.oB a.aim a.size a.free true))):=o8 rfl;have e:=Aj e i;have j:(js d k (HC.dz (dw.mk a.ail a.aio a.oB a.aim a.size a.free true)))[k]?=some (HC.dz (dw.mk a.ail a.aio a.oB a.aim a.size a.free true)):=vk b;have e:=Aj e j;exact au
def z7(T:dt){n:Nat}:=@yb T n
@[reducible,instance] def N6:=fK 265 @z7
def Ez(T:dt)(w:lK T){H:cZ}{a0:Tm}{a1:Int}{r:Tm}{s t:Int}(hm:ju a0 a1=some (r,s,t)):ds prog T 220 [Tm.av a0,sI a1] H (AV.tuple [Tm.av r,sI s,sI t]) H:=by
 rw[ju] at hm;refine ec.ra (Post:=λx K=>x=AV.tuple [Tm.av r,sI s,sI t]/\∃X,K=H++X) ?_ (λ_ _ h=>⟨_,h.2.choose_spec,by rw[h.1];simp[AV.low,AV.gE],h.1,rfl⟩);refine ec.nh0 (c:=HC.cells) ?_;have e:=w;refine wi aiq func220 [32] [(12,true,[]),(15,true,[])] 7 ?_;have m:=hm;refine sw [0,1,0,13] ?_;intro _ e m;apply wg 3;simp[e];refine WA m 999 999 [] [2,4] (λv3 f=>f.1 1=sI a1/\f.1 27=sB v3) [7,0,2] (λD _ g m=>?_) ?_
 .apply Iq e m<;>intro e m
  .exact ij
  apply Iq e m<;>intro e m
  .exact ij
  simp[e];refine qc m (M_ T) λ_ m=>?_;exact ij
 intro _ v3 q a e m;have b:iW (List.length H) a++[[nu (List.length H) q,sI 0]]=iW (List.length H) (a++[HC.eJ (eA.mk q 0)]):=JA rfl;have e:=Aj e b;have d:(a++[HC.eJ (eA.mk q 0)])[(List.length a)]?=some (HC.eJ (eA.mk q 0)):=QJ;have e:=Aj e d;simp[e];refine Wn m 3 (λi f h=>h=H++iW (List.length H) i/\f.1 1=sI a1/\f.1 8=AV.eb (List.length H+(List.length a)) 0/\bx f 4 [sI 0,sI 0,sI 0,nL,nL]) aaQ (λi _ _ _ _ _ E m z p=>?_);have e:=Aj e E;have j:=e;have⟨y,e,m⟩:=Ac e m;have k:=HC.fF e.2;have e:=Aj e.1 k;simp[e];apply Iq e m<;>intro e m
 .refine sg 999 [0,3,7] ?_;intro _ _ u e m;apply Iq e m<;>intro e m
  .exact al
  have⟨A,e,m⟩:=Ac e m;have l:=HC.fF e.2;have e:=Aj e.1 l;exact aa
 apply wg 2;simp[e];cases m;have m:=Qb z
 try dsimp only at m
 have e:=j;refine sg 999 [8] ?_;intro B e m;have n:=HC.fF e.2;have e:=Aj e.1 n;refine sw [0,2,12,8] ?_;intro _ v C e m;have o:=HC.fF e.2;have e:=Aj e.1 o;exact aa
@[reducible,instance] def Tn:=fK 220 @Ez
def Gp(T:dt)(b:lK T){H:cZ}{a0 a1:Tm}{a2 a:Int}(hm:kn a0 a1 a2=some a):ds prog T 163 [Tm.av a0,Tm.av a1,sI a2] H (sI a) H:=by
 rw[kn] at hm;have e:=b;refine wi aiq func163 [] [] 999 ?_;have m:=hm;exact aa
@[reducible,instance] def VQ:=fK 163 @Gp
def DD(T:dt)(b:lK T):∀(n:Nat),(∀{H:cZ} {a0:Fm} {a1:Fm} {a:Int} (hm:iL n a0 a1=some a),ds prog T 110 [Fm.av a0,Fm.av a1] H (sI a) H):=by
  intro n
  induction n with
  |zero=>
    skip
    all_goals(intro _ _;intros;rename_i hm;cases hm)
  |succ n ih=>
 intro H a0 a1 a hm;rw[iL] at hm;have e:=b;refine wi aiq func110 [] [] 3 ?_;simp[e];refine WA hm 999 999 [] [2,3] (λv2 f=>f.1 23=sB v2) [7,0] (λc _ g m=>?_) ?_
 .apply Iq e m<;>intro e m
  .exact ij
  simp[e];refine qc m nS λ_ m=>?_;exact ij
 intro _ v2 e m;refine Wa e m 999 27 [25,26] [2,3] nI [11,0] ?_;intro _ _ e m;exact Wb e m 999 46 [44,45] [3] nI
def EK(T:dt)(a:lK T){n:Nat}:=@DD T a n
@[reducible,instance] def Tj:=fK 110 @EK
def xK(T:dt)(b:lK T){H:cZ}{a0 a1:Fm}{a:Int}(hm:ia a0 a1=some a):ds prog T 57 [Fm.av a0,Fm.av a1] H (sI a) H:=by
 rw[ia] at hm;have e:=b;refine wi aiq func57 [] [] 999 ?_;have m:=hm;exact aa
@[reducible,instance] def Tp:=fK 57 @xK
def sY:C2 prog 200 eF cV.av cV.av (sL Ty.av):=by
 refine v2 func200 λT H a0 a1 r m e=>?_;rw[eF] at m;exact aa
@[reducible,instance] def MR:=fK 200 @sY
def Bh:C3 prog 201 iT Fm.av sI Ty.av Fm.av:=by
 refine v3 func201 λT H a0 a1 a2 r m e=>?_;rw[iT] at m;have e:=Aj e (show AV.agg [sI a0,sI a1.ail,sL Ty.av a1.aim,AV.slice .iw [],AV.slice .iw [Fm.av a2]]=Fm.av (Fm.mk a0 a1 [] [a2]) by rw[Fm.eG];rfl);exact au
@[reducible,instance] def QU:=fK 201 @Bh
def rk:C2 prog 202 ei (λn=>AV.sc (Value.int .u32 n)) (λn=>AV.sc (Value.int .u32 n)) sI:=by
 intro T H a0 a1 r hm;rw[ei] at hm;have e:=trivial;refine wi aiq func202 [] [] 999 ?_;have⟨e,m⟩:=Ck e hm;exact au
@[reducible,instance] def Kx:=fK 202 @rk
def EU(T:dt){H:cZ}{a0 a1 a b:Int}{q0:Nat}(c:H[q0]?=some [AV.sc (.int .u32 a)])(hm:mA a0 a1 a=some b):ds prog T 250 [sI a0,sI a1,AV.eb q0 0] H (AV.tuple []) (eO H q0 [AV.sc (.int .u32 b)]):=by
 rw[mA] at hm;have d:=er c;refine ec.HQ c ?_;have e:=d;refine wi aiq func250 [] [(1,false,[false,true,true,true,true,true,false])] 999 ?_;have m:=hm;refine sw [12,9] ?_;intro e m;exact au
def vA(T:dt){H:cZ}{a0:Tm}{a:Int}(hm:jc a0=some a):ds prog T 204 [Tm.av a0] H (AV.sc (.int .u32 a)) H:=by
 rw[jc] at hm;refine ec.ra (Post:=λx K=>x=AV.sc (.int .u32 a)/\∃X,K=H++X) ?_ (λ_ _ h=>⟨_,h.2.choose_spec,by rw[h.1];simp[AV.low,AV.gE],h.1,rfl⟩);have e:=trivial;refine wi aiq func204 [3] [] 999 ?_;simp[e];refine qc hm (yu T (st:=λs:Int=>H++[[AV.sc (.int .u32 s)]]) (zz.U6 H (λs:Int=>[[AV.sc (.int .u32 s)]]) 1 (λ_=>rfl) (by simp[AV.low,AV.gE])) (λX s _ _ b h=>by have:=EU T (H:=H++[[AV.sc (.int .u32 s)]]++X) (q0:=(List.length H)) aaQ h;simpa using this)) λ_ m=>?_;exact au
@[reducible,instance] def Xb:=fK 204 @vA
def tj:C2 prog 205 gj sB cR.av Ty.av:=by
 refine v2 func205 λT H a0 a1 r m e=>?_;rw[gj] at m;exact aa
@[reducible,instance] def N8:=fK 205 @tj
def Gt(T:dt){H:cZ}{a0 a1 a b c:Int}{q0 q1:Nat}(d:H[q0]?=some [sI a])(f:H[q1]?=some [sI b])(h:q0≠q1)(hm:nM a0 a1 a b=some c):ds prog T 316 [sI a0,sI a1,AV.eb q0 0,AV.eb q1 0] H (AV.tuple []) (eO H q1 [sI c]):=by
 rw[nM] at hm;have i:=er d;have j:=er f;refine ec.HQ f ?_;have e:=Aj (Aj (Aj (Aj i d) j) h) h.symm;refine wi aiq func316 [] [] 999 ?_;have m:=hm;exact aa
def Bt(T:dt){H:cZ}{a0:Tm}{a1 a:Int}(hm:rU a0 a1=some a):ds prog T 292 [Tm.av a0,sI a1] H (sI a) H:=by
 rw[rU] at hm;refine ec.ra (Post:=λx K=>x=sI a/\∃X,K=H++X) ?_ (λ_ _ h=>⟨_,h.2.choose_spec,by rw[h.1];simp[AV.low,AV.gE],h.1,rfl⟩);have e:=trivial;refine wi aiq func292 [3,5] [] 999 ?_;simp[e];refine qc hm (yu T (st:=λs:Int=>H++[[sI a1],[sI s]]) (zz.U6 H (λs:Int=>[[sI a1],[sI s]]) 2 (λ_=>rfl) (by simp[AV.low,AV.gE])) (λX s _ _ b h=>by have:=Gt T (H:=H++[[sI a1],[sI s]]++X) (q0:=(List.length H)) (q1:=(List.length H+1)) aaQ aaQ aaQ h;simpa using this)) λ_ m=>?_;exact au
@[reducible,instance] def XR:=fK 292 @Bt
def x0(T:dt){H:cZ}{a0:Tm}{a1 a b c:Int}{q0 q1:Nat}(d:H[q0]?=some [sI a])(f:H[q1]?=some [sI b])(h:q0≠q1)(hm:iy a0 a1 a b=some c):ds prog T 291 [Tm.av a0,sI a1,AV.eb q0 0,AV.eb q1 0] H (AV.tuple []) (eO H q0 [sI c]):=by
 rw[iy] at hm;have i:=er d;have j:=er f;refine ec.HQ d ?_;have e:=Aj (Aj (Aj (Aj i j) f) h) h.symm;refine wi aiq func291 [] [(1,true,[true,true,true,true,true,true,true,false])] 999 ?_;have m:=hm;exact aa
def CF(T:dt):∀(n:Nat),(∀{S:Type} {st:S->cZ} {k:Nat} {a0:Fm} {a1:Int} {a2:(S->Tm->Int->Option (S))} {b:S} {c:S} {g2:Nat} {a:List AV} (hF:zz st k) (d:EX T g2 a st a2) (hm:mJ n a0 a1 a2 b=some c),ds prog T 290 [Fm.av a0,sI a1,AV.func (.func g2) [] a] (st b) (AV.tuple []) (st c)):=by
  intro n
  induction n with
  |zero=>
    skip
    all_goals(intro _ _;intros;rename_i hm;cases hm)
  |succ n ih=>
 intro S st k a0 a1 a2 b c g2 a hF d hm;rw[mJ] at hm;have e:=hF.len;refine wi aiq func290 [] [] 999 ?_;simp[e];refine Xn e hm 0 (λo s2 f h=>h=st s2/\f.1 1=sI a1/\f.1 2=AV.func (.func g2) [] a/\f.1 11=sL Tm.av a0.dc/\f.1 12=sI (dp a0.dc)/\f.1 13=sI o/\bx f 3 (Fm.av a0).cells) aaQ (λo _ s2 _ _ _ _ _ E e m z p=>?_) (λs2 _ _ _ E m=>?_)
 .have e:=Aj e E;refine sg 999 [8,0] ?_;intro q e m;refine il.Q7 adr (EX.Rw d e.2) ?_;exact al
 have e:=Aj e E;refine sg 5 [11,0] ?_;intro e m;refine WA m 999 999 [] [] (λi f=>f.1 1=sI i/\f.1 2=AV.func (.func g2) [] a/\f.1 3=AV.gx 3 (f.gen 3) 0/\f.box 3=some (Fm.av a0).cells) [0] (λr _ g m=>?_) ?_
 .simp[e];refine qc m u_ λ_ m=>?_;apply Ir e m<;>intro e m
  .exact ij
  exact ij
 intro _ i e m;refine Wr e m 999 (λl j f h=>h=st j/\f.1 1=sI i/\f.1 2=AV.func (.func g2) [] a/\f.1 28=sL Fm.av a0.aim/\f.1 29=sI (dp a0.aim)/\f.1 30=sI l) aaQ (λj _ _ _ E m=>?_) (λl _ j _ _ _ _ _ E e m z p=>?_)
 .exact aa
 have e:=Aj e E;simp[e];refine qc m (ih hF d) λ_ m=>?_;exact al
def EM(T:dt){n:Nat}:=@CF T n
def pO(T:dt){H:cZ}{a0:Fm}{a1 a:Int}(hm:jI a0 a1=some a):ds prog T 252 [Fm.av a0,sI a1] H (sI a) H:=by
 rw[jI] at hm;refine ec.ra (Post:=λx K=>x=sI a/\∃X,K=H++X) ?_ (λ_ _ h=>⟨_,h.2.choose_spec,by rw[h.1];simp[AV.low,AV.gE],h.1,rfl⟩);have e:=trivial;refine wi aiq func252 [3,5] [] 999 ?_;simp[e];refine qc hm (EM T (st:=λs:Int=>H++[[sI a1],[sI s]]) (zz.U6 H (λs:Int=>[[sI a1],[sI s]]) 2 (λ_=>rfl) (by simp[AV.low,AV.gE])) (λX s _ _ b h=>by have:=x0 T (H:=H++[[sI a1],[sI s]]++X) (q0:=(List.length H+1)) (q1:=(List.length H)) aaQ aaQ aaQ h;simpa using this)) λ_ m=>?_;exact au
@[reducible,instance] def Oa:=fK 252 @pO
def Kn(T:dt){H:cZ}{a0 a1 b:Int}{a i:Tm}{q0 q1:Nat}(c:H[q0]?=some [sI b])(d:H[q1]?=some [sI a.ail,sI a.aio,sI a.cT.ail,sL Ty.av a.cT.aim,sL Tm.av a.aim])(hm:nt a0 a1 b a=some i):ds prog T 317 [sI a0,sI a1,AV.eb q0 0,AV.eb q1 0] H (Tm.av i) H:=by
 rw[nt] at hm;have f:=er c;have h:=er d;have e:=Aj (Aj (Aj f c) h) d;refine wi aiq func317 [] [] 999 ?_;have m:=hm;exact aa
def O7(T:dt){H:cZ}{a0:Tm}{a1:Int}{a2 a:Tm}(hm:zg a0 a1 a2=some a):ds prog T 294 [Tm.av a0,sI a1,Tm.av a2] H (Tm.av a) H:=by
 rw[zg] at hm;refine ec.ra (Post:=λx K=>x=Tm.av a/\∃X,K=H++X) ?_ (λ_ _ h=>⟨_,h.2.choose_spec,by rw[h.1];simp[AV.low,AV.gE],h.1,rfl⟩);have e:=trivial;refine wi aiq func294 [4,5] [] 999 ?_;simp[e];refine s8 hm (yM T (st:=λ_:Unit=>H++[[sI a1],[sI a2.ail,sI a2.aio,sI a2.cT.ail,sL Ty.av a2.cT.aim,sL Tm.av a2.aim]]) (zz.const _) (λX _ _ _ _ _ h=>by obtain⟨b,rfl⟩:=qp h;exact Kn T (q0:=(List.length H)) (q1:=(List.length H+1)) aaQ aaQ b)) λ_ _ m=>?_;exact au
@[reducible,instance] def acQ:=fK 294 @O7
def zT(T:dt){H:cZ}{a0:Tm}{a1 b:Int}{a i:Tm}{q0 q1:Nat}(c:H[q0]?=some [sI b])(d:H[q1]?=some [sI a.ail,sI a.aio,sI a.cT.ail,sL Ty.av a.cT.aim,sL Tm.av a.aim])(hm:hB a0 a1 b a=some i):ds prog T 293 [Tm.av a0,sI a1,AV.eb q0 0,AV.eb q1 0] H (Tm.av i) H:=by
 rw[hB] at hm;have f:=er c;have h:=er d;have e:=Aj (Aj (Aj f c) h) d;refine wi aiq func293 [] [] 999 ?_;have m:=hm;exact aa
def rj(T:dt){H:cZ}{a0:Fm}{a1:Int}{a2:Tm}{a:Fm}(hm:jS a0 a1 a2=some a):ds prog T 253 [Fm.av a0,sI a1,Tm.av a2] H (Fm.av a) H:=by
 rw[jS] at hm;refine ec.ra (Post:=λx K=>x=Fm.av a/\∃X,K=H++X) ?_ (λ_ _ h=>⟨_,h.2.choose_spec,by rw[h.1];simp[AV.low,AV.gE],h.1,rfl⟩);have e:=trivial;refine wi aiq func253 [4,5] [] 999 ?_;simp[e];refine s8 hm (lJ T (st:=λ_:Unit=>H++[[sI a1],[sI a2.ail,sI a2.aio,sI a2.cT.ail,sL Ty.av a2.cT.aim,sL Tm.av a2.aim]]) (zz.const _) (λX _ _ _ _ _ h=>by obtain⟨b,rfl⟩:=qp h;exact zT T (q0:=(List.length H)) (q1:=(List.length H+1)) aaQ aaQ b)) λ_ _ m=>?_;exact au
@[reducible,instance] def Q8:=fK 253 @rj
def B9(T:dt)(c:lK T){H:cZ}{a0:Fm}{a1:Tm}{a:Fm}{b:Int}(hm:gY a0 a1=some (a,b)):ds prog T 206 [Fm.av a0,Tm.av a1] H (AV.tuple [Fm.av a,sI b]) H:=by
 rw[gY] at hm;have e:=c;refine wi aiq func206 [] [] 999 ?_;have m:=hm;exact aa
@[reducible,instance] def Xt:=fK 206 @B9
def xh:C1 prog 207 o0 (λn=>AV.sc (Value.int .u32 n)) Tm.av:=by
 intro T H a0 r hm;rw[o0] at hm;have e:=trivial;refine wi aiq func207 [] [] 999 ?_;cases hm;simp[e]
@[reducible,instance] def Lc:=fK 207 @xh
def AH(T:dt)(h:lK T){H:cZ}{a0:Tm}{a1 a:Int}{f:Tm}{b:Int}{q0:Nat}(c:H[q0]?=some [sI a])(hm:jk a0 a1 a=some (f,b)):ds prog T 254 [Tm.av a0,sI a1,AV.eb q0 0] H (Tm.av f) (eO H q0 [sI b]):=by
 rw[jk] at hm;have d:=er c;refine ec.HQ c ?_;have e:=Aj h d;refine wi aiq func254 [] [] 999 ?_;have m:=hm;exact aa
def Dl(T:dt)(c:lK T){H:cZ}{a0 a:Fm}{b:Int}(hm:lA a0=some (a,b)):ds prog T 209 [Fm.av a0] H (AV.tuple [Fm.av a,sI b]) H:=by
 rw[lA] at hm;refine ec.ra (Post:=λx K=>x=AV.tuple [Fm.av a,sI b]/\∃X,K=H++X) ?_ (λ_ _ h=>⟨_,h.2.choose_spec,by rw[h.1];simp[AV.low,AV.gE],h.1,rfl⟩);have e:=c;refine wi aiq func209 [4] [(6,true,[])] 999 ?_;simp[e];refine qc hm (pO T) λ_ m=>?_;apply Iq e m<;>intro e m
 .simp[e];refine qc m (rj T) λ_ m=>?_;exact au
 simp[e];refine s8 m (lJ T (st:=λs:Int=>H++[[sI s]]) (zz.U6 H (λs:Int=>[[sI s]]) 1 (λ_=>rfl) (by simp[AV.low,AV.gE])) (λX s _ _ _ d h=>by have:=AH T c (H:=H++[[sI s]]++X) (q0:=(List.length H)) aaQ h;simpa using this)) λ_ _ m=>?_;refine sw [7,0] ?_;intro e m;refine qc m (pO T) λ_ m=>?_;refine sw [7,0] ?_;intro e m;refine qc m (rj T) λ_ m=>?_;exact au
@[reducible,instance] def RJ:=fK 209 @Dl
def SI:C2 prog 255 p5 Tm.av sI (sL Tm.av):=by
 refine v2 func255 λT H a0 a1 r m e=>?_;rw[p5] at m;exact au
@[reducible,instance] def ad6:=fK 255 @SI
def zk:C1 prog 210 qb dK.av sI:=by
 refine v1 func210 λT H a0 r m e=>?_;rw[qb] at m;apply Iq e m<;>intro e m
 .refine sw [0,1,0,1,0,1,0,1] ?_;intro b f _ c e m;have e:=Aj e (show AV.agg [sI 1,sI b.ail,sI b.aio,sI b.cT.ail,sL Ty.av b.cT.aim,sL Tm.av b.aim,AV.slice .iw [Ty.av f],sI c.ail,sI c.aio,sI c.cT.ail,sL Ty.av c.cT.aim,sL Tm.av c.aim]=dK.av (dK.mk 1 b [f] c) by rw[dK.eG];rfl);exact au
 refine sw [0,1,0,1,0,1,0,1,0,1,0,1] ?_;intro d h i _ _ a e m;have e:=Aj e (show AV.agg [sI 2,sI d.ail,sI d.aio,sI d.cT.ail,sL Ty.av d.cT.aim,sL Tm.av d.aim,AV.slice .iw [Ty.av h,Ty.av i],sI a.ail,sI a.aio,sI a.cT.ail,sL Ty.av a.cT.aim,sL Tm.av a.aim]=dK.av (dK.mk 2 d [h,i] a) by rw[dK.eG];rfl);exact au
@[reducible,instance] def L3:=fK 210 @zk
def Ef:C2 prog 212 pX Fm.av Tm.av Tm.av:=by
 refine v2 func212 λT H a0 a1 r m e=>?_;rw[pX] at m;have e:=Aj e (show AV.agg [sI 1,sI 0,AV.slice .iw [],AV.slice .iw [Tm.av a0,Tm.av a1],AV.slice .iw []]=Fm.av (Fm.mk 1 (Ty.mk 0 []) [a0,a1] []) by rw[Fm.eG];rfl);exact au
@[reducible,instance] def Ts:=fK 212 @Ef
def xU(T:dt){H:cZ}{a0:List Fm}{a1:Pf}{a2:cV}{b:cP}{c:Int}{d:Nat}(a:KC H d a0)(hm:mO a0 a1 a2=some (b,c)):ds prog T 156 [AV.eb d 0,Pf.av a1,cV.av a2] H (AV.tuple [cP.av b,sI c]) H:=by
 rw[mO] at hm;have e:=a;refine wi aiq func156 [] [] 999 ?_;have m:=hm;exact aa
def P_:C2 prog 215 qW Tm.av Tm.av (sL Tm.av):=by
 refine v2 func215 λT H a0 a1 r m e=>?_;rw[qW] at m;simp[e];refine Wr e m 999 (λd s2 f h=>h=H/\f.1 7=sL Tm.av a1/\f.1 8=sI (dp a1)/\f.1 9=sI d/\bx f 2 [sI s2.1,sI s2.2.1,sI s2.2.2.1,sL Ty.av s2.2.2.2.1,sL Tm.av s2.2.2.2.2]/\bx f 4 [sI 0,sI 0,sI 0,nL,nL]) aaQ (λs2 _ _ _ E m=>?_) (λd _ s2 _ _ _ _ _ E e m z p=>?_)
 .have⟨v11,v12,a,b,c⟩:=s2;have e:=Aj e E;dsimp only[dh,Gk]at m;exact au
 have⟨v11,v12,a,b,c⟩:=s2;have e:=Aj e E;dsimp only[Gk]at m;exact aa
@[reducible,instance] def acJ:=fK 215 @P_
def HT:C1 prog 319 sE (t2 sI sI) sB:=by
 refine v1 func319 λT H a0 r m e=>?_;rw[sE] at m;exact aa
@[reducible,instance] def Xg:=fK 319 @HT
def PQ:C2 prog 341 uJ Tm.av Tm.av (sL Ty.av):=by
 refine v2 func341 λT H a0 a1 r m e=>?_;rw[uJ] at m;simp[e];refine Wn m 999 (λs1 f h=>∃a,h=H/\f.1 1=sL Ty.av a1/\f.1 5=sI s1.1/\bx f 2 [sI s1.2.1,sI s1.2.2.1,sI s1.2.2.2.1,sL Ty.av s1.2.2.2.2.1,sT a Tm.av s1.2.2.2.2.2]/\bx f 4 [sI 0,sI 0,sI 0,nL,nL]) ⟨.iw,aaQ⟩ (λs1 _ _ _ _ _ E m z p=>?_);have⟨v9,v10,v11,v12,b,c⟩:=s1;have⟨a,E⟩:=E;have e:=Aj e E;dsimp only[yN]at m;apply Ir e m<;>intro e m
 .cases m;have m:=Qb z;dsimp only[yN]at m;exact au
 refine sw [8,0] ?_;intro d e m;cases m;exact p _ _ _ ⟨.full,aaQ⟩ z
@[reducible,instance] def aba:=fK 341 @PQ
def O9:C5 prog 342 ym Tm.av sI Ty.av Tm.av Tm.av Tm.av:=by
 refine v5 func342 λT H a0 a1 a2 a3 a4 r m e=>?_;rw[ym] at m;have e:=Aj e (show AV.agg [sI a0,sI 0,sI a1.ail,sL Ty.av a1.aim,AV.slice .iw [Tm.av a2,Tm.av a3,Tm.av a4]]=Tm.av (Tm.mk a0 0 a1 [a2,a3,a4]) by rw[Tm.eG];rfl);exact au
@[reducible,instance] def aaN:=fK 342 @O9
def Ca:C3 prog 337 lV Tm.av Tm.av Tm.av Tm.av:=by
 refine v3 func337 λT H a0 a1 a2 r m e=>?_;rw[lV] at m;exact aa
@[reducible,instance] def QL:=fK 337 @Ca
def Ku:C0 prog 338 uQ Tm.av:=by
 refine v0 func338 λT H r m e=>?_;rw[uQ] at m;exact aa
@[reducible,instance] def Xz:=fK 338 @Ku
def Ns:C1 prog 336 zv Tm.av Tm.av:=by
 refine v1 func336 λT H a0 r m e=>?_;rw[zv] at m;exact aa
@[reducible,instance] def ZG:=fK 336 @Ns
def L4:C0 prog 332 wm Tm.av:=by
 refine v0 func332 λT H r m e=>?_;rw[wm] at m;exact aa
@[reducible,instance] def ZX:=fK 332 @L4
def KG:C2 prog 321 uc Fm.av Tm.av Tm.av:=by
 refine v2 func321 λT H a0 a1 r m e=>?_;rw[uc] at m;exact aa
def A1{n:Nat}:C2 prog 320 (j5 n) sB Fm.av Fm.av:=by
 refine i2 λn ih=>u2 3 func320 λT H a0 a1 r m e=>?_;rw[j5] at m;simp[e];refine WA m 999 999 [] [2,3] (λv2 f=>f.1 39=sB v2) [7,0] (λa _ g m=>?_) ?_
 .apply Iq e m<;>intro e m
  .exact ij
  simp[e];refine qc m nS λ_ m=>?_;apply Ir e m<;>intro e m
  .exact ij
  apply Iq e m<;>intro e m
  .exact ij
  exact ij
 intro _ v2 e m;refine Wa e m 999 43 [41,42] [2,3] nI [11,0] ?_;intro _ _ e m;exact Wb e m 999 60 [58,59] [3] nI
def Ib(T:dt){H:cZ}{a0:Fm}{b:Bool}{c:Tm}{d:Fm}{h:Bool}(hm:su a0=some (b,c,d,h)):ds prog T 297 [Fm.av a0] H (AV.tuple [sB b,Tm.av c,Fm.av d,sB h]) H:=by
 rw[su] at hm;have e:=trivial;refine wi aiq func297 [] [] 7 ?_;have m:=hm;refine sw [0,2,0] ?_;intro _ _ e m;refine WA m 999 0 [6] [1,3,4] (λv4 f=>f.1 48=sB v4) [13] (λo _ g m=>?_) ?_
 .apply Iq e m<;>intro e m
  .exact ij
  apply Iq e m<;>intro e m
  .exact ij
  have⟨q,e,m⟩:=Ac e m;apply Iq e m<;>intro e m
  .exact ij
  have⟨r,e,m⟩:=Ac e m;exact ij
 intro _ v4 e m;refine sg 7 [8,8,8,0] ?_;intro i j k e m;refine WB m 999 999 [6] [1,3,4,10] (λa f=>f.1 83=sB a) λl _ g m=>?_;apply Iq e m<;>intro e m
 .exact ij
 refine sw [8,0] ?_;intro n e m;refine lI m (Bt T) λ_ m=>?_;apply Iq e m<;>intro e m
 .exact ij
 simp[e];refine lI m Gm λ_ m=>?_;simp[e];refine lI m KG λ_ m=>?_;simp[e];refine lI m A1 λ_ m=>?_;exact ij
def N5:∀(n:Nat),C1 prog 259 (mU n) (λn=>AV.sc (Value.int .u8 n)) Fm.av:=by
  intro n
  induction n with
  |zero=>
    skip
    all_goals(intro _ _;intros;rename_i hm;cases hm)
  |succ n ih=>
 intro T H a0 r hm;rw[mU] at hm;have e:=trivial;refine wi aiq func259 [] [] 5 ?_;have m:=hm;refine sw [0,13] ?_;intro e m;refine sg 4 [8,0,15,0] ?_;intro o b e m;refine D5 m 3 2 (λc f h=>∃v4,(h=H/\f.1 3=AV.sc (.int .u8 v4)/\bx f 1 (Fm.av a0).cells)/\c v4=some r) ?_ (λc _ g m=>?_)
 .rintro _ _ ⟨v4,E,m⟩;have e:=Aj e E;simp[e];refine WB m 999 999 [] [] (λv9 f=>f.1 6=AV.sc (.int .u8 v9)) λq _ g m=>?_;have⟨d,i,j,k,e,m⟩:=Bo4 e m;simp[e];refine Cf (Ib T e.2) ?_;apply Ir e m<;>intro e m
  .exact ij
  refine sw [0,15] ?_;intro _ e m;exact ij
 simp[e];refine wj 999 0 (λf h=>h=H/\f.1 3=AV.sc (.int .u8 b)/\f.1 24=sI a0.ail/\f.1 25=sB (en (dj a0.ail 2) true (dj a0.ail 3))/\bx f 1 (Fm.av a0).cells) (λ_ g=>?_) ?_
 .rcases Pb (dj a0.ail 2) e with e|e
  .exact aj
  exact aj
 rintro _ _ E;have e:=Aj e E;apply Ir e m<;>intro e m
 .apply wg 999;apply Ir e m<;>intro e m
  .exact ij
  exact ij
 refine sg 5 [8,0,15,0] ?_;intro l a e m;refine wjs 2 999 (λf h=>h=H/\f.1 3=AV.sc (.int .u8 (en (dj a0.ail 2) (w4 .u8 b a) b))/\f.1 5=AV.sc (.int .u8 (qn .u8 (qn .u8 a b) 6))) ?_ (λ_ g=>?_)
 .rintro _ _ E;exact aa
 simp[e];rcases Pb (dj a0.ail 2) e with e|e
 .apply wg 999;exact aj
 apply wg 999;exact aj
def Oh{n:Nat}:=@N5 n
@[reducible,instance] def abV:=fK 259 @Oh
def MH(T:dt)(c:lK T){H:cZ}{a0:Fm}{a1:Int}{a:Bool}{b:Int}(hm:zm a0 a1=some (a,b)):ds prog T 217 [Fm.av a0,AV.sc (.int .u8 a1)] H (AV.tuple [sB a,sI b]) H:=by
 rw[zm] at hm;have e:=c;refine wi aiq func217 [] [] 999 ?_;have m:=hm;exact aa
@[reducible,instance] def ZC:=fK 217 @MH
def Ev(T:dt)(c:lK T){H:cZ}{a0:Fm}{a:Bool}{b:Int}(hm:nX a0=some (a,b)):ds prog T 159 [Fm.av a0] H (AV.tuple [sB a,sI b]) H:=by
 rw[nX] at hm;have e:=c;refine wi aiq func159 [] [] 999 ?_;have m:=hm;exact aa
@[reducible,instance] def Tr:=fK 159 @Ev
def wT(T:dt)(i:lK T):∀(n:Nat),(∀{H:cZ} {a0:List Fm} {a1:Pf} {a2:cV} {d:cP} {h:Int} {c:Nat} (a:KC H c a0) (hm:dM n a0 a1 a2=some (d,h)),ds prog T 107 [AV.eb c 0,Pf.av a1,cV.av a2] H (AV.tuple [cP.av d,sI h]) H)/\(∀{H:cZ} {a0:List Fm} {a1:Pf} {a2:cV} {d:cP} {h:Int} {c:Nat} (a:KC H c a0) (hm:jO n a0 a1 a2=some (d,h)),ds prog T 147 [AV.eb c 0,Pf.av a1,cV.av a2] H (AV.tuple [cP.av d,sI h]) H)/\(∀{H:cZ} {a0:List Fm} {a1:Pf} {a2:cV} {d:cP} {h:Int} {c:Nat} (a:KC H c a0) (hm:gq n a0 a1 a2=some (d,h)),ds prog T 148 [AV.eb c 0,Pf.av a1,cV.av a2] H (AV.tuple [cP.av d,sI h]) H)/\(∀{H:cZ} {a0:List Fm} {a1:Pf} {a2:cV} {d:cP} {h:Int} {c:Nat} (a:KC H c a0) (hm:jK n a0 a1 a2=some (d,h)),ds prog T 149 [AV.eb c 0,Pf.av a1,cV.av a2] H (AV.tuple [cP.av d,sI h]) H)/\(∀{H:cZ} {a0:List Fm} {a1:Pf} {a2:cV} {d:cP} {h:Int} {c:Nat} (a:KC H c a0) (hm:jM n a0 a1 a2=some (d,h)),ds prog T 150 [AV.eb c 0,Pf.av a1,cV.av a2] H (AV.tuple [cP.av d,sI h]) H)/\(∀{H:cZ} {a0:List Fm} {a1:Pf} {a2:cV} {d:cP} {h:Int} {c:Nat} (a:KC H c a0) (hm:gb n a0 a1 a2=some (d,h)),ds prog T 151 [AV.eb c 0,Pf.av a1,cV.av a2] H (AV.tuple [cP.av d,sI h]) H)/\(∀{H:cZ} {a0:List Fm} {a1:Pf} {a2:cV} {d:cP} {h:Int} {c:Nat} (a:KC H c a0) (hm:fZ n a0 a1 a2=some (d,h)),ds prog T 152 [AV.eb c 0,Pf.av a1,cV.av a2] H (AV.tuple [cP.av d,sI h]) H)/\(∀{H:cZ} {a0:List Fm} {a1:Pf} {a2:cV} {d:cP} {h:Int} {c:Nat} (a:KC H c a0) (hm:gr n a0 a1 a2=some (d,h)),ds prog T 153 [AV.eb c 0,Pf.av a1,cV.av a2] H (AV.tuple [cP.av d,sI h]) H)/\(∀{H:cZ} {a0:List Fm} {a1:Pf} {a2:cV} {d:cP} {h:Int} {c:Nat} (a:KC H c a0) (hm:gp n a0 a1 a2=some (d,h)),ds prog T 154 [AV.eb c 0,Pf.av a1,cV.av a2] H (AV.tuple [cP.av d,sI h]) H)/\(∀{H:cZ} {a0:List Fm} {a1:Pf} {a2:cV} {d:cP} {h:Int} {c:Nat} (a:KC H c a0) (hm:j_ n a0 a1 a2=some (d,h)),ds prog T 155 [AV.eb c 0,Pf.av a1,cV.av a2] H (AV.tuple [cP.av d,sI h]) H)/\(∀{H:cZ} {a0:List Fm} {a1:Pf} {a2:cV} {d:cP} {h:Int} {c:Nat} (a:KC H c a0) (hm:jf n a0 a1 a2=some (d,h)),ds prog T 157 [AV.eb c 0,Pf.av a1,cV.av a2] H (AV.tuple [cP.av d,sI h]) H)/\(∀{H:cZ} {a0:List Fm} {a1:Pf} {a2:cV} {d:cP} {h:Int} {c:Nat} (a:KC H c a0) (hm:jZ n a0 a1 a2=some (d,h)),ds prog T 158 [AV.eb c 0,Pf.av a1,cV.av a2] H (AV.tuple [cP.av d,sI h]) H)/\(∀{H:cZ} {a0:List Fm} {a1:Pf} {a2:cV} {a3:Int} {d:cP} {h:Int} {c:Nat} (a:KC H c a0) (hm:dG n a0 a1 a2 a3=some (d,h)),ds prog T 198 [AV.eb c 0,Pf.av a1,cV.av a2,sI a3] H (AV.tuple [cP.av d,sI h]) H)/\(∀{H:cZ} {a0:List Fm} {a1:Pf} {a2:cV} {a3:Fm} {a4:Tm} {d:cP} {h:Int} {c:Nat} (a:KC H c a0) (hm:dL n a0 a1 a2 a3 a4=some (d,h)),ds prog T 208 [AV.eb c 0,Pf.av a1,cV.av a2,Fm.av a3,Tm.av a4] H (AV.tuple [cP.av d,sI h]) H):=by
  intro n
  induction n with
  |zero=>
    refine⟨?_,?_,?_,?_,?_,?_,?_,?_,?_,?_,?_,?_,?_,?_⟩
    all_goals(intro _ _;intros;rename_i hm;cases hm)
  |succ n ih=>
 refine⟨?_,?_,?_,?_,?_,?_,?_,?_,?_,?_,?_,?_,?_,?_⟩
 .intro H a0 a1 a2 d h c a hm;rw[dM] at hm;have e:=Aj i a;refine wi aiq func107 [] [(1,true,[])] 7 ?_;have A:p6 prog H 159 (AV.iR (c-1)) (sI a1.ail) false=some (JZ a1.ail):=Pq a.2;have e:=Aj e A;have⟨j,L,e,m⟩:=Bo2 e hm;simp[e];refine jw.val (r:=AV.tuple [cP.av j,sI L]) (H':=H) ?_ aaL ?_
  .have b:=e.2;rcases wG (dj a1.ail 1=true)with hk|hk
   .rw[cS hk] at b;rw[hJ hk adr];exact mV (yO T a b)
   rw[cO hk] at b;rcases wG (dj a1.ail 2=true)with hk|hk
   .rw[cS hk] at b;rw[hJ hk adr];exact mV (xE T a b)
   rw[cO hk] at b;rcases wG (dj a1.ail 3=true)with hk|hk
   .rw[cS hk] at b;rw[hJ hk adr];exact mV (ih.2.1 a b)
   rw[cO hk] at b;rcases wG (dj a1.ail 4=true)with hk|hk
   .rw[cS hk] at b;rw[hJ hk adr];exact mV (ih.2.2.1 a b)
   rw[cO hk] at b;rcases wG (dj a1.ail 5=true)with hk|hk
   .rw[cS hk] at b;rw[hJ hk adr];exact mV (ih.2.2.1 a b)
   rw[cO hk] at b;rcases wG (dj a1.ail 6=true)with hk|hk
   .rw[cS hk] at b;rw[hJ hk adr];exact mV (ih.2.2.2.1 a b)
   rw[cO hk] at b;rcases wG (dj a1.ail 7=true)with hk|hk
   .rw[cS hk] at b;rw[hJ hk adr];exact mV (ih.2.2.2.2.1 a b)
   rw[cO hk] at b;rcases wG (dj a1.ail 8=true)with hk|hk
   .rw[cS hk] at b;rw[hJ hk adr];exact mV (ih.2.2.2.2.2.1 a b)
   rw[cO hk] at b;rcases wG (dj a1.ail 12=true)with hk|hk
   .rw[cS hk] at b;rw[hJ hk adr];exact mV (ih.2.2.2.2.2.1 a b)
   rw[cO hk] at b;rcases wG (dj a1.ail 9=true)with hk|hk
   .rw[cS hk] at b;rw[hJ hk adr];exact mV (ih.2.2.2.2.2.2.1 a b)
   rw[cO hk] at b;rcases wG (dj a1.ail 13=true)with hk|hk
   .rw[cS hk] at b;rw[hJ hk adr];exact mV (ih.2.2.2.2.2.2.1 a b)
   rw[cO hk] at b;rcases wG (dj a1.ail 10=true)with hk|hk
   .rw[cS hk] at b;rw[hJ hk adr];exact mV (ih.2.2.2.2.2.2.2.1 a b)
   rw[cO hk] at b;rcases wG (dj a1.ail 14=true)with hk|hk
   .rw[cS hk] at b;rw[hJ hk adr];exact mV (ih.2.2.2.2.2.2.2.1 a b)
   rw[cO hk] at b;rcases wG (dj a1.ail 11=true)with hk|hk
   .rw[cS hk] at b;rw[hJ hk adr];exact mV (ih.2.2.2.2.2.2.2.2.1 a b)
   rw[cO hk] at b;rcases wG (dj a1.ail 15=true)with hk|hk
   .rw[cS hk] at b;rw[hJ hk adr];exact mV (ih.2.2.2.2.2.2.2.2.1 a b)
   rw[cO hk] at b;rcases wG (dj a1.ail 16=true)with hk|hk
   .rw[cS hk] at b;rw[hJ hk adr];exact mV (ih.2.2.2.2.2.2.2.2.2.1 a b)
   rw[cO hk] at b;rcases wG (dj a1.ail 17=true)with hk|hk
   .rw[cS hk] at b;rw[hJ hk adr];exact mV (ih.2.2.2.2.2.2.2.2.2.1 a b)
   rw[cO hk] at b;rcases wG (dj a1.ail 18=true)with hk|hk
   .rw[cS hk] at b;rw[hJ hk adr];exact mV (xU T a b)
   rw[cO hk] at b;rcases wG (dj a1.ail 19=true)with hk|hk
   .rw[cS hk] at b;rw[hJ hk adr];exact mV (ih.2.2.2.2.2.2.2.2.2.2.1 a b)
   rw[cO hk] at b;rcases wG (dj a1.ail 20=true)with hk|hk
   .rw[cS hk] at b;rw[hJ hk adr];exact mV (ih.2.2.2.2.2.2.2.2.2.2.2.1 a b)
   rw[cO hk] at b;cases b
  refine sw [0,13] ?_;intro e m;refine sg 5 [0,1,0,13] ?_;intro k e m;apply wg 2;simp[e];refine WB m 999 999 [] [6] (λM f=>bx f 8 [sI j.cU.ail,sI j.cU.cT.ail,sL Ty.av j.cU.cT.aim,sL Tm.av j.cU.dc,sL Fm.av j.cU.aim,AV.sc (.int .u32 M)]) λj6 _ g m=>?_;refine sw [0,2] ?_;intro _ l e m;apply Ir e m<;>intro e m
  .exact ij
  exact ij
 .intro H a0 a1 a2 d h c a hm;rw[jO] at hm;have e:=Aj i a;refine wi aiq func147 [] [] 999 ?_;have⟨o,e,m⟩:=Ac e hm;simp[e];refine nW m (ih.1 a) λq k m=>?_;refine sw [7,8,0] ?_;intro l e m;refine nW m (ih.1 a) λ_ _ m=>?_;refine sw [7,0] ?_;intro e m;refine lI m D6 λ_ m=>?_;exact au
 .intro H a0 a1 a2 d h c a hm;rw[gq] at hm;have e:=Aj i a;refine wi aiq func148 [] [] 7 ?_;have⟨o,e,m⟩:=Ac e hm;simp[e];refine nW m (ih.2.2.2.2.2.2.2.2.2.2.2.2.1 a) λq k m=>?_;refine sw [0,13] ?_;intro e m;apply wg 4;simp[e];refine wB 999 999 [] [6,8] (λf=>f.1 10=sI (en (dj a1.ail 5) 1 0)) λ_ g=>?_;rcases Pb (dj a1.ail 5) e with e|e
  .exact aj
  exact aj
 .intro H a0 a1 a2 d h c a hm;rw[jK] at hm;have e:=Aj i a;refine wi aiq func149 [] [] 999 ?_;have m:=hm;refine sw [8,0,1,7,0,1,7,8,0] ?_;intro s j k B e m;refine lI m pQ λ_ m=>?_;simp[e];refine nW m (ih.1 a) λ_ _ m=>?_;refine sw [7,0] ?_;intro e m;refine lI m D6 λ_ m=>?_;exact au
 .intro H a0 a1 a2 d h c a hm;rw[jM] at hm;have e:=Aj i a;refine wi aiq func150 [] [] 999 ?_;have⟨o,e,m⟩:=Ac e hm;simp[e];refine nW m (ih.2.2.2.2.2.2.2.2.2.2.2.2.1 a) λq k m=>?_;refine sw [7,8,0] ?_;intro l e m;refine nW m (ih.1 a) λ_ _ m=>?_;refine sw [7,8,0] ?_;intro C e m;refine lI m (xK T i) λ_ m=>?_;refine sw [7,8] ?_;intro D e m;exact au
 .intro H a0 a1 a2 d h c a hm;rw[gb] at hm;have e:=Aj i a;refine wi aiq func151 [] [] 7 ?_;have m:=hm;refine sw [0,1,0,13] ?_;intro _ e m;refine sg 7 [8,0,4,0] ?_;intro N _ e m;refine nW m (ih.1 a) λO _ m=>?_;refine sw [0,13] ?_;intro e m;apply wg 4;simp[e];refine WA m 999 999 [] [4,6,9] (λt f=>f.1 11=sI t) [] (λP _ g m=>?_) ?_
  .apply Ir e m<;>intro e m
   .exact ij
   refine Il e m λe m=>?_;exact ij
  intro _ t e m;exact aa
 .intro H a0 a1 a2 d h c a hm;rw[fZ] at hm;have e:=Aj i a;refine wi aiq func152 [] [] 9 ?_;have m:=hm;refine sw [8,0,2,0,13] ?_;intro s Q _ e m;refine sg 4 [0,1,0] ?_;intro u e m;refine wA 999 999 [] [4,5,6,8,9] (λf=>f.1 0=AV.eb c 0/\f.1 11=sI (en (dj a1.ail 13) 6 4)/\f.1 12=AV.sc (.int .u32 (en (dj a1.ail 13) 0 u))) [8,0] (λ_ g=>?_) ?_
  .rcases Pb (dj a1.ail 13) e with e|e
   .exact aj
   exact aj
  intro _ R e m;refine nW m (ih.2.2.2.2.2.2.2.2.2.2.2.2.1 a) λ_ l m=>?_;exact aa
 .intro H a0 a1 a2 d h c a hm;rw[gr] at hm;have e:=Aj i a;refine wi aiq func153 [] [] 999 ?_;have m:=hm;refine sw [8,8] ?_;intro u S e m;apply Ir e m<;>intro e m
  .simp[e];refine qc m mB λ_ m=>?_;refine sw [7,7,0] ?_;intro e m;refine s8 m qD λ_ _ m=>?_;refine sw [7,0] ?_;intro e m;refine qc m tj λ_ m=>?_;refine sw [12,8,8,0] ?_;intro F U e m;refine nW m (ih.2.2.2.2.2.2.2.2.2.2.2.2.2 a) λ_ _ m=>?_;refine sw [7,0] ?_;intro e m;refine lI m (vA T) λ_ m=>?_;exact au
  refine sw [0,1,7,7,0,2,7,0,1,12,8,8,0] ?_;intro v _ _ _ V W e m;refine nW m (ih.2.2.2.2.2.2.2.2.2.2.2.2.2 a) λ_ G m=>?_;refine sw [7,0,4] ?_;intro w e m;exact au
 .intro H a0 a1 a2 d h c a hm;rw[gp] at hm;have e:=Aj i a;refine wi aiq func154 [] [] 6 ?_;simp[e];refine wA 999 5 [8] [4,5,6] (λf=>f.1 0=AV.eb c 0/\f.1 9=sI (en (dj a1.ail 15) 7 5)) [8,0] (λ_ g=>?_) ?_
  .rcases Pb (dj a1.ail 15) e with e|e
   .exact aj
   exact aj
  intro _ k e m;refine nW m (ih.2.2.2.2.2.2.2.2.2.2.2.2.1 a) λI _ m=>?_;refine sw [0,13] ?_;intro e m;refine sg 7 [0,1,0,13] ?_;intro N e m;refine sg 7 [8,0,4,8,0,4,0] ?_;intro G _ C _ e m;refine nW m (ih.1 a) λw _ m=>?_;refine sw [0,13] ?_;intro e m;refine sg 7 [0,2,0,13] ?_;intro D J e m;apply wg 3;simp[e];refine wA 999 999 [] [6,10,13,14] (λf=>f.1 82=sB (en (dj a1.ail 15) (dx (qn .u32 w.uses 1) 0) false)) [7,0,4] (λ_ g=>?_) ?_
  .rcases Pb (dj a1.ail 15) e with e|e
   .exact aj
   exact aj
  intro _ K e m;exact au
 .intro H a0 a1 a2 d h c a hm;rw[j_] at hm;have e:=Aj i a;refine wi aiq func155 [] [] 999 ?_;have m:=hm;refine sw [8,8,0,4,0] ?_;intro k I v e m;refine lI m rJ λ_ m=>?_;simp[e];refine lI m mB λ_ m=>?_;refine sw [7,0] ?_;intro e m;refine qc m sD λ_ m=>?_;refine sw [7,8,0] ?_;intro J e m;refine nW m (ih.2.2.2.2.2.2.2.2.2.2.2.2.2 a) λ_ _ m=>?_;refine sw [7,0] ?_;intro e m;refine qc m sF λ_ m=>?_;refine sw [7,0] ?_;intro e m;refine lI m sY λ_ m=>?_;simp[e];refine lI m (qk T) λ_ m=>?_;simp[e];refine lI m pQ λ_ m=>?_;refine sw [8,0] ?_;intro X e m;refine lI m (qk T) λ_ m=>?_;simp[e];refine nW m (ih.2.2.2.2.2.2.2.2.2.2.2.2.2 a) λ_ _ m=>?_;refine sw [7,0] ?_;intro e m;refine s8 m (B9 T i) λ_ _ m=>?_;simp[e];refine lI m (vA T) λ_ m=>?_;simp[e];refine lI m rk λ_ m=>?_;exact au
 .intro H a0 a1 a2 d h c a hm;rw[jf] at hm;have e:=Aj i a;refine wi aiq func157 [] [] 999 ?_;have m:=hm;refine sw [8,0,4,0,4,0,4,7,8,0] ?_;intro s _ _ _ Y e m;refine nW m (ih.2.2.2.2.2.2.2.2.2.2.2.2.1 a) λ_ _ m=>?_;refine sw [7,8,8,0] ?_;intro K Z e m;refine nW m (ih.2.2.2.2.2.2.2.2.2.2.2.2.2 a) λ_ _ m=>?_;refine sw [7,8,0,5] ?_;intro ad F _ e m;exact au
 .intro H a0 a1 a2 d h c a hm;rw[jZ] at hm;have e:=Aj i a;refine wi aiq func158 [] [] 7 ?_;have⟨o,e,m⟩:=Ac e hm;simp[e];refine nW m (ih.2.2.2.2.2.2.2.2.2.2.2.2.1 a) λq k m=>?_;refine sw [0,13] ?_;intro e m;refine sg 9 [8,0,13] ?_;intro v e m;refine sg 7 [0,1,8,0,1,0,1,0,1,0,1,0,2,0] ?_;intro x9 B _ _ _ _ ae _ e m;refine WA m 999 999 [] [6,8,10,12,13] (λv27 f=>f.1 63=sB v27) [] (λaf _ g m=>?_) ?_
  .apply Iq e m<;>intro e m
   .exact ij
   simp[e];refine qc m Aq λ_ m=>?_;exact ij
  intro _ v27 e m;exact aa
 .intro H a0 a1 a2 a3 d h c a hm;rw[dG] at hm;have e:=Aj i a;refine wi aiq func198 [] [] 5 ?_;simp[e];refine s8 hm (ih.1 a) λx y m=>?_;simp[e];refine wB 999 999 [11] [8,10] (λf=>f.1 27=sB (en (dj y 0) (dx x.cU.ail a3) false)) λ_ g=>?_;exact aa
 .intro H a0 a1 a2 a3 a4 d h c a hm;rw[dL] at hm;have e:=Aj i a;refine wi aiq func208 [] [] 999 ?_;simp[e];refine s8 hm (ih.1 a) λx y m=>?_;refine sw [7,0,2,7,0,4] ?_;intro _ j k e m;exact au
def xC(T:dt)(a:lK T){n:Nat}:=@And.left _ _ (wT T a n)
def OA{n:Nat}:C1 prog 60 (wa n) Tm.av Tm.av:=by
 refine i1 λn ih=>v1 func60 λT H a0 r m e=>?_;rw[wa] at m;refine sw [0,4,0] ?_;intro i e m;refine Td e m 999 17 [15,16] [2] [26] (λb=>b) (λb a f=>bx f 3 [sI a0.ail,sI a0.aio,sI i.ail,sL Ty.av i.aim,sT a Tm.av b]) λj _ b d _ _ _ _ E e m z p=>?_;have⟨a,E,c⟩:=E;refine sw [20,0,18,9,0] ?_;intro h e m;refine Ad (f:=Tm.av) b [h] c BV e.2 ?_;simp[e];cases m;exact p _ _ _ ⟨(.loc 26 (d.eg 26+1)),aaQ,(On 26)⟩ z
@[reducible,instance] def abo:=fK 60 @OA
def zV:C2 prog 59 l6 Tm.av Tm.av sI:=by
 refine v2 func59 λT H a0 a1 r m e=>?_;rw[l6] at m;exact aa
def BL:C1 prog 30 nP Fm.av Fm.av:=by
 refine v1 func30 λT H a0 r m e=>?_;rw[nP] at m;simp[e];refine s8 m (lJ T (st:=λ_:Unit=>H) (zz.const _) (λX _ _ _ _ _ h=>by obtain⟨a,rfl⟩:=qp h;exact zV a)) λ_ _ m=>?_;exact au
def SV:iS prog 161=true:=by kernel_rfl
set_option maxHeartbeats 4000000 in
def Xv(x k idx:Nat)(w:World)(b:((x:Int)==0)=false)
  (key:bits BinOp.and IntKind.u32 (x:Int) (-(x:Int)%4294967296)*125613361%4294967296/134217728=(idx:Int))
  (hi:idx<32) (c:k<32) (a:w.cell? ⟨1,idx,none⟩=some (.int .u8 k)):Calls prog 161 #[.int .u32 x] w λe w'=>e=.returned (.int .i64 k)/\w'=w:=by
 go_enter func161,ntmps161
 go_wp2_with (simp only[key])
 go_ret
 exact⟨rfl,rfl⟩
set_option maxHeartbeats 4000000 in
def X8(w:World):Calls prog 161 #[.int .u32 0] w λe w'=>e=.returned (.int .i64 32)/\w'=w:=by
 go_enter func161,ntmps161
 go_wp2
 go_ret
 exact⟨rfl,rfl⟩
def Xy(n:Int):IntKind.u32.wrap n=n%4294967296:=by simp[IntKind.wrap,IntKind.signed,IntKind.bits]
def ab2(a b:Nat)(f:a<4294967296)(h:b<4294967296):bits .and .u32 (a:Int) (b:Int)=((a&&&b:Nat):Int):=by
 have i:a&&&b<2^32:=afb _ VW
 have c:(BitVec.ofInt 32 (a:Int)).toNat=a:=by
  rw[afP];omega
 have d:(BitVec.ofInt 32 (b:Int)).toNat=b:=by
  rw[afP];omega
 show IntKind.u32.wrap ((BitVec.ofInt 32 (a:Int)&&&BitVec.ofInt 32 (b:Int)).toNat:Int)=_;rw[BitVec.toNat_and,c,d,Xy];omega
def aa6(x a:Nat)(c:x<4294967296)(d:x≠0)(b:x&&&(4294967296-x)=a):bits BinOp.and IntKind.u32 (x:Int) (-(x:Int)%4294967296)*125613361%4294967296/134217728=((a*125613361%4294967296/134217728:Nat):Int):=by
 have f:-(x:Int)%4294967296=((4294967296-x:Nat):Int):=VW
 rw[f,ab2 x _ c VW,b];omega
def ab4:∀j,j<32->kK[j]?=some ((Lib.deBruijn32tab.getD j 0:Nat):Int):=by decide+kernel
def tq(T:dt)(q:lK T){H:cZ}{a0 h:Int}(hm:gI a0=some h):ds prog T 161 [AV.sc (.int .u32 a0)] H (sI h) H:=by
 unfold gI at hm
 split at hm
 case isFalse=>cases hm
 rename_i j;obtain⟨x,rfl⟩:∃x:Nat,a0=(x:Int):=⟨a0.toNat,VW⟩;obtain rfl:=fQ hm
 have k:x<2^32:=VW
 rw[zP];refine ds.Ra SV λG F w vs hg r=>?_
 obtain⟨v1,rfl,a⟩:∃v,vs=[v]/\fE F G H.length (AV.sc (.int .u32 (x:Int))) v:=by
  cases r with
  |cons a b=>cases b;exact⟨_,rfl,a⟩
 cases a;refine⟨_,.sc rfl,?_⟩
 by_cases c:x=0
 .subst c;exact(X8 w).mono λe w' ⟨a,b⟩=>⟨a,by rw[b];exact aeW _ _⟩
 .have⟨d,l⟩:=Lib.lowest_bit 32 x c k;have⟨hi,f⟩:=Lib.deBruijn32_at _ l;have s:=hg.xX 1 _ q.2.2;cases s with
  |lx a b u=>
   have n:=ab4 _ hi;rw[f] at n;have⟨v,t,j⟩:=a.get (i:=2^Lib.ctz 32 x*125613361%4294967296/134217728) (x:=.sc (.int .u8 (Lib.ctz 32 x:Int))) (by simp[AV.cells,n]);cases j;have o:=hg.Cp _ _ _ (b _ _ t);rw[tH] at o;exact(Xv x (Lib.ctz 32 x) _ w acz (aa6 x _ k c d) hi l o).mono λe w' ⟨a,b⟩=>⟨a,by rw[b];exact aeW _ _⟩
@[reducible,instance] def E8:=fK 161 @tq
def uX(T:dt)(i:lK T){H:cZ}{a0:Int}{d:List Int}(hm:jl a0=some d):ds prog T 109 [AV.sc (.int .u32 a0)] H (sL sI d) H:=by
 rw[jl] at hm;have e:=i;refine wi aiq func109 [] [] 999 ?_;simp[e];refine Wn hm 999 (λs1 f h=>∃a,(h=H/\f.1 0=AV.sc (.int .u32 s1.1)/\f.1 3=sT a sI s1.2)/\Ow f [14] a s1.2) (by exact⟨.full,aaQ,ig.full⟩) (λs1 fr2 _ _ _ _ E m z p=>?_);have⟨j,v9⟩:=s1;have⟨a,E,b⟩:=E;have e:=Aj e E;dsimp only[kO]at m;apply Ir e m<;>intro e m
 .cases m;have m:=Qb z;dsimp only[kO]at m;exact au
 refine sw [0,1,9,0] ?_;intro c e m;refine Ao (f:=sI) v9 [c] b OB e.2 ?_;simp[e];cases m;exact p _ _ _ ⟨(.loc 14 (fr2.eg 14+1)),aaQ,(On 14)⟩ z
def He(T:dt)(a:lK T){H:cZ}{a0:List Fm}{a1:Sq}{a2:Pf}{b:qV}{c:Int}(hm:pK a0 a1 a2=some (b,c)):ds prog T 56 [sL Fm.av a0,Sq.av a1,Pf.av a2] H (AV.tuple [qV.av b,sI c]) H:=by
 rw[pK] at hm;refine ec.ra (Post:=λx K=>x=AV.tuple [qV.av b,sI c]/\∃X,K=H++X) ?_ (λ_ _ h=>⟨_,h.2.choose_spec,by rw[h.1];simp[AV.low,AV.gE],h.1,rfl⟩);have e:=a;refine wi aiq func56 [29] [] 999 ?_;simp[e];refine qc hm (Dm T a) λ_ m=>?_;refine sw [7,0] ?_;intro e m;refine qc m (Au T a) λ_ m=>?_;refine sw [7,0] ?_;intro e m;refine qc m (GP T) λ_ m=>?_;simp[e];refine lI m Gh λ_ m=>?_;simp[e];refine nW m (xC T a ⟨aaQ,aaQ⟩) λ_ _ m=>?_;refine sw [7,0] ?_;intro e m;refine lI m BL λ_ m=>?_;simp[e];refine lI m (uX T a) λ_ m=>?_;exact au
@[reducible,instance] def TU:=fK 56 @He
def CM(T:dt)(b:lK T){H:cZ}{a0:List Fm}{a1:Sq}{a2:Pf}{a3:Fm}{a:Int}(hm:uI a0 a1 a2 a3=some a):ds prog T 28 [sL Fm.av a0,Sq.av a1,Pf.av a2,Fm.av a3] H (sI a) H:=by
 rw[uI] at hm;have e:=b;refine wi aiq func28 [] [] 999 ?_;have m:=hm;exact aa
@[reducible,instance] def SY:=fK 28 @CM
def FR(T:dt)(c:lK T){H:cZ}{a0:sJ}{a b:Int}(hm:wV a0=some (a,b)):ds prog T 11 [sJ.av a0] H (AV.tuple [sI a,sI b]) H:=by
 rw[wV] at hm;have e:=c;refine wi aiq func11 [] [] 999 ?_;refine Il e hm λe m=>?_;simp[e];exact Wb e m 999 16 [4,14,15] [] nI
@[reducible,instance] def VZ:=fK 11 @FR
def EB(T:dt)(b:lK T){H:cZ}{a0:sJ}{a:Int}(hm:pT a0=some a):ds prog T 24 [sJ.av a0] H (sI a) H:=by
 rw[pT] at hm;have e:=b;refine wi aiq func24 [] [] 999 ?_;refine Il e hm λe m=>?_;simp[e];exact Wb e m 999 12 [11] [1] nI
@[reducible,instance] def S':=fK 24 @EB
def Ar(T:dt)(k:lK T){H:cZ}{a0:sJ}{i:(List (List Int))}{j:Int}(hm:oL a0=some (i,j)):ds prog T 9 [sJ.av a0] H (AV.tuple [sL (sL sI) i,sI j]) H:=by
 rw[oL] at hm;have e:=k;refine wi aiq func9 [] [] 999 ?_;have m:=hm;refine sw [0,1,7,0] ?_;intro _ e m;refine Td e m 999 18 [16,17] [] [31] (λb=>b) (λb a f=>f.1 5=sT a (sL sI) b) λl _ b d _ _ _ _ E e m z p=>?_;have⟨a,E,c⟩:=E;refine sw [20,0,2,9,0] ?_;intro h _ e m;refine Ao (f:=(sL sI)) b [h] c ag_ e.2 ?_;simp[e];cases m;exact p _ _ _ ⟨(.loc 31 (d.eg 31+1)),aaQ,(On 31)⟩ z
@[reducible,instance] def WJ:=fK 9 @Ar
def MP{F:Int->Int->List Bool->Option (dW (List Bool) (List Bool))}(hF:∀j x s c,F j x s=some c->∃a,c=.next a/\a.length=s.length):∀(l:List Int) (j:Nat) (s:List Bool) (r:List Bool⊕List Bool),dF F l j s=some r->∃a,r=.inl a/\a.length=s.length
 |[],j,s,r,h=>⟨s,(fQ h).symm,rfl⟩|x::l,j,s,r,h=>by
  rw[dB] at h;have⟨c,b,d⟩:=dm h;obtain⟨s1,rfl,f⟩:=hF _ _ _ _ b;have⟨s2,i,k⟩:=MP hF l _ s1 r d;exact⟨s2,i,k.trans f⟩
def CH{uses:List (List Int)}:∀(n:Nat) {i:Int} {v w:List Bool},iM uses n i v=some w->w.length=v.length
 |0,i,v,w,h=>by cases h
 |n+1,i,v,w,h=>by
  rw[iM] at h;have⟨b,_,h⟩:=dm h;rcases gR h with⟨_,h⟩|⟨_,h⟩
  .rw[fQ h]
  .have⟨l,_,h⟩:=dm h;have⟨_,h⟩:=j0 h;rw[c6] at h;have⟨r,a,d⟩:=dm h
   obtain⟨t,rfl,f⟩:=MP (F:=λ_ x v=>cM (iM uses n x v) λs=>some (.next s)) (λj x s c k=>by
    have⟨s1,o,q⟩:=dm k
    exact⟨s1,(fQ q).symm,CH n o⟩) _ _ _ _ a
   rw[<-fQ d,f,Po]
def aaf{v:List Bool}{i:Int}{b:Bool}(h:dg v i=some b):∃h:0<=i/\i<(v.length:Int),qK (v.map λb=>AV.sc (.bool b))=true/\v[i.toNat]' VW=b:=by
 unfold dg at h
 split at h
 .rename_i a;have⟨c,d⟩:=mI.1 h;refine⟨⟨a,VW⟩,?_,d⟩;cases v with
  |nil=>simp at c
  |cons=>rfl
 .cases h
def O6{K:Fr->cZ->Prop}{fr:Fr}{H:cZ}{o i:Nat}{v:List Bool}{b:Bool}(a:H[o]?=some (v.map λb=>AV.sc (.bool b)))(hi:i<v.length)(c:K fr (eO H o ((v.set i b).map λb=>AV.sc (.bool b)))):kQ prog 4 (.eb o i) (sB b) K fr H:=by
 have d:qK (v.map λb=>AV.sc (.bool b))=true:=by
  cases v with
  |nil=>simp at hi
  |cons=>rfl
 have f:ew prog 4=some (false,1):=by kernel_rfl
 have h:setCells (v.map λb=>AV.sc (.bool b)) i [sB b]=(v.set i b).map λb=>AV.sc (.bool b):=by
  rw[setCells,List.map_set,aeY,cS (by rw[yA];exact hi)];simp
 rw[DS,f];simp only[a];refine⟨d,rfl,by rw[yA];exact hi,rfl,?_⟩;show K fr (H.set o (setCells _ i [sB b]));rw[h];exact c
def Bx(T:dt){uses:List (List Int)}:∀(n:Nat) {H:cZ} {a0:Int} {v w:List Bool} {ob q1 q2 q3:Nat} (a:H[ob]?=some (v.map λb=>AV.sc (.bool b))) (d:H[q1]?=some [AV.qU ob 0 v.length v.length]) (k2:H[q2]?=some [sL (sL sI) uses])
   (i:H[q3]?=some [AV.func (.func 26) [] [AV.eb q1 0,AV.eb q2 0,AV.eb q3 0]]) (n1:ob≠q1) (n2:ob≠q2) (n3:ob≠q3) (hm:iM uses n a0 v=some w),ds prog T 26 [sI a0,AV.eb q1 0,AV.eb q2 0,AV.eb q3 0] H (AV.tuple []) (eO H ob (w.map λb=>AV.sc (.bool b))):=by
 intro n
 induction n with
 |zero=>intros;rename_i hm;cases hm
 |succ n ih=>
 intro H a0 v w ob q1 q2 q3 a d k2 i n1 n2 n3 hm;rw[iM] at hm;refine ec.HQ a ?_;have d:∀c,(eO H ob c)[q1]?=some [AV.qU ob 0 v.length v.length]:=λc=>(sU n1).trans d;have k2:∀c,(eO H ob c)[q2]?=some [sL (sL sI) uses]:=λc=>(sU n2).trans k2;have i:∀c,(eO H ob c)[q3]?=some [AV.func (.func 26) [] [AV.eb q1 0,AV.eb q2 0,AV.eb q3 0]]:=λc=>(sU n3).trans i;have a:∀c,(eO H ob c)[ob]?=some c:=λc=>GO (er a);have e:=Aj (Aj (Aj (Aj trivial d) k2) i) a;refine wi aiq func26 [] [] 999 ?_;have⟨b,e,m⟩:=Ac e hm;have⟨k,o,q⟩:=aaf e.2;have e:=Aj (Aj (Aj e k) o) q;apply Iq e m<;>intro e m
 .cases m;simp[e]
 have⟨l,e,m⟩:=Ac e m;simp[e,-DS];refine O6 (a _) VW ?_;simp[e];refine Wr e m 999 (λj s f h=>s.length=v.length/\h=eO H ob (s.map λb=>AV.sc (.bool b))/\f.1 3=AV.eb q3 0/\f.1 17=sL sI l/\f.1 18=sI (dp l)/\f.1 19=sI j) aaQ (λs f h K E m=>?_) (λj x s f h K n' c E e m z r=>?_)
 .have e:=Aj e E;dsimp only[dh]at m;cases m;simp[e]
 have e:=Aj e E;have⟨t,e,m⟩:=Ac e m;simp[e];refine il.Q7 adr (ih (a _) (by rw[E.1];exact d _) (k2 _) (i _) n1 n2 n3 e.2) ?_;simp[e];cases m;exact r _ _ _ (by simp[e,CH _ e.2]) z
def PE{l:List (List Int)}(h:dE l=true):nD prog 79 (sI (dp l)) (sI (dp l))=some (.slice .full ((List.replicate l.length false).map λb=>AV.sc (.bool b))):=by
 have f:l.length<=549755813888:=OE h
 have c:zeroOf prog 4=some (.bool false):=by kernel_rfl
 have d:mK prog 79=some (4,1):=by kernel_rfl
 unfold nD;rw[d];show(match zeroOf prog 4 with|some z=>if dp l=dp l/\0<=dp l/\dp l<=549755813888/\vK z=true/\(1:Nat)=1 then some (AV.slice .full (List.replicate (dp l).toNat (.sc z)))else none|none=>none)=_;rw[c];show(if dp l=dp l/\0<=dp l/\dp l<=549755813888/\vK (.bool false)=true/\(1:Nat)=1 then some (AV.slice .full (List.replicate (dp l).toNat (.sc (.bool false))))else none)=_;have a:dp l=(l.length:Int):=rfl;rw[a,cS ⟨rfl,VW,VW,rfl,rfl⟩,List.map_replicate];rfl
def uN(T:dt)(t:lK T){H:cZ}{a0:sJ}{a1:Int}{d:List Int}{i:Int}(hm:l8 a0 a1=some (d,i)):ds prog T 10 [sJ.av a0,sI a1] H (AV.tuple [sL sI d,sI i]) H:=by
 rw[l8] at hm;refine ec.ra (Post:=λx K=>x=AV.tuple [sL sI d,sI i]/\∃X,K=H++X) ?_ (λ_ _ h=>⟨_,h.2.choose_spec,by rw[h.1];simp[AV.low,AV.gE],h.1,rfl⟩);have e:=t;refine wi aiq func10 [6,8,9,31] [] 10 ?_;have m:=hm;refine sw [0,2] ?_;intro uses A e m;apply Iq e m<;>intro e m
 .simp[e];apply wg 999;cases m;simp[e]
 simp[e];refine wj 999 999 (λf h=>h=H++[[sL (sL sI) uses]]/\f.1 1=sI a1/\f.1 6=AV.eb (List.length H) 0/\f.1 28=sB (en (qT a1 0) true (og a1 (dp uses)))) (λK k=>?_) ?_
 .rcases Pb (qT a1 0) e with e|e
  .simp[e];exact k _ _ aaQ
  simp[e];exact k _ _ aaQ
 rintro fr h E;have e:=Aj e E;apply Iq e m<;>intro e m
 .cases m;simp[e]
 refine sw [9,8] ?_;intro v e m;have l:=CH _ e.2;have u:=PE e.1.2;simp[e,u,EZ];refine il.Q7 adr (Bx T FU (uses:=uses) (ob:=H.length+1) (q1:=H.length+2) (q2:=H.length) (q3:=H.length+3) aaL aaL aaL aaL VW VW VW e.2) ?_;simp[e];rw[aeL] at l;have e:=Aj e l;refine Wr e m 999 (λj s f h=>∃a,(h=H++[[sL (sL sI) uses],v.map λb=>AV.sc (.bool b),[AV.qU (H.length+1) 0 uses.length uses.length],[AV.func (.func 26) [] [AV.eb (H.length+2) 0,AV.eb H.length 0,AV.eb (H.length+3) 0]]]/\f.1 10=sT a sI s/\f.1 36=AV.qU (H.length+1) 0 uses.length uses.length/\f.1 37=sI (dp v)/\f.1 38=sI j)/\Ow f [47] a s) ⟨.full,by simp[e,dp],ig.full⟩ (λs f h K E m=>?_) (λj x s f h K n c E e m z q=>?_)
 .have⟨a,E,o⟩:=E;refine sw [10,11] ?_;intro e m;cases m;simp[e]
 have⟨a,E,o⟩:=E;have e:=Aj e E;have⟨r,w,y⟩:=aaf e.1.2;rw[e.1.1.1.2] at r;have e:=Aj (Aj (Aj e r) w) y;simp[e];apply Ir e m<;>intro e m
 .simp[e];cases m;exact q _ _ _ ⟨a,aaQ,o⟩ z
 refine sw [9,0] ?_;intro e m;refine Ao (f:=sI) s [j] o OB e.2 ?_;simp[e];cases m;exact q _ _ _ ⟨(.loc 47 (f.eg 47+1)),aaQ,(On 47)⟩ z
@[reducible,instance] def TZ:=fK 10 @uN
def J3(T:dt)(j:lK T){H:cZ}{c:Bool}(hm:xj=some c):ds prog T 5 [] H (sB c) H:=by
 rw[xj] at hm;have e:=j;refine wi aiq func5 [] [] 10 ?_;have m:=hm;refine sw [0,1,0,1,0,1,0,4,0,4] ?_;intro _ _ a _ b e m;have e:=Aj e (show AV.agg [AV.slice .iw [iz.av (iz.mk (ByteArray.mk #[97]) a b),iz.av (iz.mk (ByteArray.mk #[98]) a (Pf.mk 2 0 (Ty.mk 0 []) [] [] []))]]=sJ.av (sJ.mk [(iz.mk (ByteArray.mk #[97]) a b),(iz.mk (ByteArray.mk #[98]) a (Pf.mk 2 0 (Ty.mk 0 []) [] [] []))]) by rw[sJ.eG];rfl);refine sw [0,2] ?_;intro d h e m;have e:=Aj e (show AV.agg [AV.slice .iw [iz.av (iz.mk (ByteArray.mk #[97]) a b),iz.av (iz.mk (ByteArray.mk #[98]) a (Pf.mk 2 0 (Ty.mk 0 []) [] [] []))]]=sJ.av (sJ.mk [(iz.mk (ByteArray.mk #[97]) a b),(iz.mk (ByteArray.mk #[98]) a (Pf.mk 2 0 (Ty.mk 0 []) [] [] []))]) by rw[sJ.eG];rfl);refine sw [0,2,0] ?_;intro k i e m;refine wB 999 999 [] [] (λf=>f.1 0=sB (en (dj h 0) (en (dj i 0) (en (dj d 2) (dj (dp k) 2) false) false) false)) λ_ g=>?_;rcases Pb (dj h 0) e with e|e;rotate_left
 .exact aj
 rcases Pb (dj i 0) e with e|e;rotate_left
 .exact aj
 rcases Pb (dj d 2) e with e|e
 .exact aj
 exact aj
def TD:C1 prog 6 Fu sB (sL sI):=by
 refine v1 func6 λT H a0 r m e=>?_;rw[Fu] at m;exact au
def Xw:iS prog 8=true:=by kernel_rfl
def VK(T:dt){a0:List Int}{b:dd}(hm:Pl a0=some b):ds prog T 8 [AV.slice .iw (List.map (λn=>AV.sc (Value.int .i64 n)) a0)] [] (AV.eb 0 0) (eO [[]] 0 [AV.slice .iw (List.map (λn=>AV.sc (Value.int .i64 n)) b.l),AV.sc (.int .i64 b.qS)]):=by
 obtain rfl:=fQ hm;refine ec.intro (fn:=f8) func8 rfl Xw (A3 rfl) ?_;refine fa.tc λc a=>?_;refine fa.region [] adm ?_;simp;refine a _ _ ?_;refine fa.tc λc a=>?_;refine fa.region [5] adm ?_;simp;refine a _ _ ?_;refine fa.ret ?_;simp[uo,eO]
def V2:C2 prog 37 FO sI sI sI:=by
 refine v2 func37 λT H a0 a1 r m e=>?_;rw[FO] at m;refine sw [9,9] ?_;intro e m;exact au
@[reducible,instance] def aeA:=fK 37 @V2
def tZ(T:dt){H:cZ}{a0:dd}{a1 h:Int}{a:dd}{c:Nat}(b:H[c]?=some [sL sI a0.l,sI a0.qS])(hm:et a0 a1=some (h,a)):ds prog T 18 [AV.eb c 0,sI a1] H (sI h) (eO H c [sL sI a.l,sI a.qS]):=by
 rw[et] at hm;have d:=er b;refine ec.HQ b ?_;have e:=d;refine wi aiq func18 [] [(1,true,[]),(3,true,[])] 3 ?_;simp[e];refine wA 999 999 [1] [] (λf=>f.1 0=AV.eb c 0/\f.1 19=sB (en (qT a1 1) true (og a0.qS (dp a0.l)))) [] (λ_ g=>?_) ?_
 .exact aa
 intro _ e m;have m:=hm;exact aa
@[reducible,instance] def UL:=fK 18 @tZ
def ve:C0 prog 64 gA Ty.av:=by
 refine v0 func64 λT H r m e=>?_;rw[gA] at m;exact au
@[reducible,instance] def aab:=fK 64 @ve
def J5{n:Nat}:C1 prog 41 (hZ n) Fm.av Fm.av:=by
 refine i1 λn ih=>v1 func41 λT H a0 r m e=>?_;rw[hZ] at m;refine sw [0,4,0] ?_;intro t e m;refine Tc e m 999 17 [15,16] [1,2] [26] (λl=>l) (λl c f=>bx f 3 [sI a0.ail,sI t.ail,sL Ty.av t.aim,sT c Tm.av l,nL]) [11,0] (λw _ l q _ _ _ _ E e m z p=>?_) ?_
 .have⟨c,E,i⟩:=E;refine sw [20,0,4,9,0] ?_;intro u e m;refine Ad (f:=Tm.av) l [u] i BV e.2 ?_;simp[e];cases m;exact p _ _ _ ⟨(.loc 26 (q.eg 26+1)),aaQ,(On 26)⟩ z
 intro q l c i e m;refine Wr e m 999 (λs j f h=>∃a b,(h=H/\f.1 30=sL Fm.av a0.aim/\f.1 31=sI (dp a0.aim)/\f.1 32=sI s/\bx f 2 [sI 0,sI 0,nL,nL,nL]/\bx f 3 [sI a0.ail,sI t.ail,sL Ty.av t.aim,sT a Tm.av l,sT b Fm.av j])/\Ow f [26] a l/\Ow f [41] b j) (by exact⟨c,.full,aaQ,i,ig.full⟩) (λj o _ _ E m=>?_) (λs _ j o _ _ _ _ E e m z p=>?_)
 .have⟨a,b,E,k,d⟩:=E;exact aa
 have⟨a,b,E,k,d⟩:=E;refine sw [10,0,18,9,0] ?_;intro v e m;refine Ad (f:=Fm.av) j [v] d ES e.2 ?_;simp[e];cases m;exact p _ _ _ ⟨a,(.loc 41 (o.eg 41+1)),aaQ,(ig.other k d aaB aaB),(On 41)⟩ z
@[reducible,instance] def XF:=fK 41 @J5
def KQ{n:Nat}:C1 prog 40 (qj n) Pf.av Pf.av:=by
 refine i1 λn ih=>v1 func40 λT H a0 r m e=>?_;rw[qj] at m;refine sw [0,4,0] ?_;intro A e m;refine Tc e m 999 21 [19,20] [1,2] [30] (λw=>w) (λw j f=>bx f 3 [sI a0.ail,sI a0.aio,sI A.ail,sL Ty.av A.aim,sT j Tm.av w,nL,nL]) [11,0] (λJ _ w B _ _ _ _ E e m z p=>?_) ?_
 .have⟨j,E,s⟩:=E;refine sw [20,0,4,9,0] ?_;intro F e m;refine Ad (f:=Tm.av) w [F] s BV e.2 ?_;simp[e];cases m;exact p _ _ _ ⟨(.loc 30 (B.eg 30+1)),aaQ,(On 30)⟩ z
 intro B w j s e m;refine Xn e m 999 (λC o f h=>∃a b,(h=H/\f.1 34=sL Fm.av a0.eh/\f.1 35=sI (dp a0.eh)/\f.1 36=sI C/\bx f 1 (Pf.av a0).cells/\bx f 2 [sI 0,sI 0,sI 0,nL,nL,nL,nL]/\bx f 3 [sI a0.ail,sI a0.aio,sI A.ail,sL Ty.av A.aim,sT a Tm.av w,sT b Fm.av o,nL])/\Ow f [30] a w/\Ow f [45] b o) (by exact⟨j,.full,aaQ,s,ig.full⟩) (λC _ o x _ _ _ _ E e m z p=>?_) (λo x _ _ E m=>?_)
 .have⟨a,b,E,q,k⟩:=E;refine sw [10,0,4,9,0] ?_;intro G e m;refine Ad (f:=Fm.av) o [G] k ES e.2 ?_;simp[e];cases m;exact p _ _ _ ⟨a,(.loc 45 (x.eg 45+1)),aaQ,(ig.other q k aaB aaB),(On 45)⟩ z
 have⟨a,b,E,q,k⟩:=E;refine sw [10,11,0] ?_;intro e m;refine Wr e m 999 (λD t f h=>∃c d i,(h=H/\f.1 49=sL Pf.av a0.aim/\f.1 50=sI (dp a0.aim)/\f.1 51=sI D/\bx f 2 [sI 0,sI 0,sI 0,nL,nL,nL,nL]/\bx f 3 [sI a0.ail,sI a0.aio,sI A.ail,sL Ty.av A.aim,sT c Tm.av w,sT d Fm.av o,sT i Pf.av t])/\Ow f [30] c w/\Ow f [45] d o/\Ow f [60] i t) (by exact⟨a,b,.full,aaQ,q,k,ig.full⟩) (λt y _ _ E m=>?_) (λD _ t y _ _ _ _ E e m z p=>?_)
 .have⟨c,d,i,E,u,v,l⟩:=E;exact aa
 have⟨c,d,i,E,u,v,l⟩:=E;refine sw [10,0,18,9,0] ?_;intro I e m;refine Ad (f:=Pf.av) t [I] l afx e.2 ?_;simp[e];cases m;exact p _ _ _ ⟨c,d,(.loc 60 (y.eg 60+1)),aaQ,(ig.other u l aaB aaB),(ig.other v l aaB aaB),(On 60)⟩ z
@[reducible,instance] def Zi:=fK 40 @KQ
def JB:C2 prog 20 jV Pf.av sI (sL Pf.av):=by
 refine v2 func20 λT H a0 a1 r m e=>?_;rw[jV] at m;simp[e];refine Td e m 999 12 [10,11] [4] [21] (λs2=>s2) (λs2 a f=>bx f 5 [sI a0,sI 0,sI 0,nL,nL,nL,sT a Pf.av s2]) λh _ s2 c _ _ _ _ E e m z p=>?_;have⟨a,E,b⟩:=E;refine sw [20,0,4,9,0] ?_;intro d e m;refine Ad (f:=Pf.av) s2 [d] b afx e.2 ?_;simp[e];cases m;exact p _ _ _ ⟨(.loc 21 (c.eg 21+1)),aaQ,(On 21)⟩ z
@[reducible,instance] def adn:=fK 20 @JB
def yi:C3 prog 21 kb Fm.av sI Fm.av Fm.av:=by
 refine v3 func21 λT H a0 a1 a2 r m e=>?_;rw[kb] at m;refine sw [0,4,0,4] ?_;intro a b e m;have e:=Aj e (show AV.agg [sI a0,sI 0,AV.slice .iw [],AV.slice .iw [],AV.slice .iw [Fm.av a,Fm.av b]]=Fm.av (Fm.mk a0 (Ty.mk 0 []) [] [a,b]) by rw[Fm.eG];rfl);exact au
@[reducible,instance] def aaw:=fK 21 @yi
def By:C0 prog 81 lz Ty.av:=by
 refine v0 func81 λT H r m e=>?_;rw[lz] at m;exact au
@[reducible,instance] def Zj:=fK 81 @By
def Kj:C0 prog 115 uS Ty.av:=by
 refine v0 func115 λT H r m e=>?_;rw[uS] at m;exact au
@[reducible,instance] def XG:=fK 115 @Kj
def Ni:C2 prog 116 tQ Ty.av Ty.av Ty.av:=by
 refine v2 func116 λT H a0 a1 r m e=>?_;rw[tQ] at m;refine sw [0,4,0,4] ?_;intro a b e m;have e:=Aj e (show AV.agg [sI 3,AV.slice .iw [Ty.av a,Ty.av b]]=Ty.av (Ty.mk 3 [a,b]) by rw[Ty.eG];rfl);exact au
@[reducible,instance] def Z_:=fK 116 @Ni
def qx:C2 prog 117 j1 Ty.av Ty.av Ty.av:=by
 refine v2 func117 λT H a0 a1 r m e=>?_;rw[j1] at m;refine sw [0,4,0,4] ?_;intro a b e m;have e:=Aj e (show AV.agg [sI 4,AV.slice .iw [Ty.av a,Ty.av b]]=Ty.av (Ty.mk 4 [a,b]) by rw[Ty.eG];rfl);exact au
@[reducible,instance] def ZF:=fK 117 @qx
def Oz(T:dt):∀(n:Nat),(∀{H:cZ} {a0:dd} {a1:Int} {i:Ty} {a:dd} {c:Nat} (b:H[c]?=some [sL sI a0.l,sI a0.qS]) (hm:iu n a0 a1=some (i,a)),ds prog T 68 [AV.eb c 0,sI a1] H (Ty.av i) (eO H c [sL sI a.l,sI a.qS])):=by
  intro n
  induction n with
  |zero=>
    skip
    all_goals(intro _ _;intros;rename_i hm;cases hm)
  |succ n ih=>
 intro H a0 a1 i a c b hm;rw[iu] at hm;have j:=er b;refine ec.HQ b ?_;have e:=j;refine wi aiq func68 [] [] 2 ?_;simp[e];refine D5 hm 3 999 (λk f h=>∃v2,(h=eO H c [sL sI v2.l,sI v2.qS]/\f.1 4=AV.gx 4 (f.gen 4) 0/\f.box 4=some [sI 0,nL])/\k v2=some (i,a)) ?_ (λk _ g m=>?_)
 .rintro _ _ ⟨v2,E,m⟩;exact aa
 refine sw [0,2,0] ?_;intro d d8 e m;refine wA 999 999 [1,6] [4] (λf=>f.1 0=AV.eb c 0/\f.1 7=sB (en (dj d 0) true (en (dj d 1) true (dj d 2)))) [13,13,13] (λ_ g=>?_) ?_
 .rcases Pb (dj d 0) e with e|e
  .exact aj
  rcases Pb (dj d 1) e with e|e
  .exact aj
  exact aj
 intro _ e m;apply Iq e m<;>intro e m
 .apply Ir e m<;>intro e m
  .exact ij
  simp[e];refine s8 m (ih aaQ) λ_ d17 m=>?_;simp[e];refine s8 m (ih aaQ) λ_ d19 m=>?_;exact aa
 apply Ir e m<;>intro e m
 .exact ij
 apply Ir e m<;>intro e m
 .exact ij
 simp[e];refine s8 m (ih aaQ) λ_ d22 m=>?_;simp[e];refine s8 m (ih aaQ) λ_ d24 m=>?_;exact aa
def Sd(T:dt){n:Nat}:=@Oz T n
@[reducible,instance] def adU:=fK 68 @Sd
def Nr:C2 prog 114 lr (sL Ty.av) (sL Ty.av) (sL Ty.av):=by
 refine v2 func114 λT H a0 a1 r m e=>?_;rw[lr] at m;refine sw [9,0] ?_;intro e m;refine Ao (f:=Ty.av) [] a0 (ig.full (D:=[])) F9 e.2 ?_;refine sw [9,0] ?_;intro e m;refine Ao (f:=Ty.av) (fk [] a0) a1 (ig.new (D:=[6]) (d:=6) aaB) F9 e.2 ?_;exact au
@[reducible,instance] def aaa:=fK 114 @Nr
def Jp:C3 prog 73 jm Fm.av sI Ty.av Fm.av:=by
 refine v3 func73 λT H a0 a1 a2 r m e=>?_;rw[jm] at m;refine sw [0,4,0,4] ?_;intro a b e m;have e:=Aj e (show AV.agg [sI a0,sI a.ail,sL Ty.av a.aim,AV.slice .iw [],AV.slice .iw [Fm.av b]]=Fm.av (Fm.mk a0 a [] [b]) by rw[Fm.eG];rfl);exact au
@[reducible,instance] def adH:=fK 73 @Jp
def iU{n:Nat}:C2 prog 33 (eC n) sB Ty.av Ty.av:=by
 refine i2 λn ih=>u2 3 func33 λT H a0 a1 r m e=>?_;rw[eC] at m;simp[e];refine wA 999 999 [] [2,3] (λf=>f.1 19=sB (en (dx a0.ail a1.ail) true (dx (dp a0.aim) (dp a1.aim)))) [7,0] (λ_ g=>?_) ?_
 .exact aa
 intro _ e m;exact Wb e m 999 23 [22] [2,3] nI
@[reducible,instance] def X6:=fK 33 @iU
def R2:C2 prog 118 BT (sL sI) (sL Ty.av) Ty.av:=by
 refine v2 func118 λT H a0 a1 r m e=>?_;rw[BT] at m;simp[e];refine Td e m 0 9 [0,8] [3] [25] (λs2=>s2) (λs2 b f=>f.1 5=sT b sI s2) λj _ s2 k _ _ _ l E e m z p=>?_;have⟨b,E,c⟩:=E;simp[e]at E;have e:=Aj e E;apply wg 5;simp[e];refine D5 m 999 999 (λi f h=>∃v12 a,(h=H/\f.1 0=sL Ty.av a0/\f.1 5=sT a sI v12/\f.1 8=sI (dp a0)/\f.1 9=sI j/\bx f 3 (Ty.av a1).cells)/\Ow f [25] a v12/\i v12=some l) ?_ (λi _ g m=>?_)
 .rintro _ _ ⟨v12,a,E,d,m⟩;have e:=Aj e E;simp[e];cases m;exact p _ _ _ ⟨a,aaQ,d⟩ z
 refine sw [8,0,4] ?_;intro n _ e m;apply Ir e m<;>intro e m
 .simp[e];exact g _ _ ⟨s2,b,aaQ,c,m⟩
 refine sw [9,0] ?_;intro e m;refine Ao (f:=sI) s2 [j] c OB e.2 ?_;simp[e];exact g _ _ ⟨(fk s2 [j]),(.loc 25 (k.eg 25+1)),aaQ,(On 25),m⟩
@[reducible,instance] def adD:=fK 118 @R2
def oJ:C1 prog 75 eK Tm.av sI:=by
 refine v1 func75 λT H a0 r m e=>?_;rw[eK] at m;exact au
@[reducible,instance] def Zv:=fK 75 @oJ
def Sg:C3 prog 119 kJ Tm.av sI Ty.av (sL Tm.av):=by
 refine v3 func119 λT H a0 a1 a2 r m e=>?_;rw[kJ] at m;exact aa
@[reducible,instance] def adE:=fK 119 @Sg
def LL:C1 prog 164 j7 Tm.av Tm.av:=by
 refine v1 func164 λT H a0 r m e=>?_;rw[j7] at m;exact aa
@[reducible,instance] def ZZ:=fK 164 @LL
def LJ:C3 prog 165 sd Tm.av Tm.av Tm.av Tm.av:=by
 refine v3 func165 λT H a0 a1 a2 r m e=>?_;rw[sd] at m;exact aa
@[reducible,instance] def Zs:=fK 165 @LJ
def KU:C0 prog 121 r' Tm.av:=by
 refine v0 func121 λT H r m e=>?_;rw[r'] at m;exact aa
@[reducible,instance] def Yy:=fK 121 @KU
def UA:C2 prog 120 A9 Tm.av Tm.av (sL Tm.av):=by
 refine v2 func120 λT H a0 a1 r m e=>?_;rw[A9] at m;simp[e];refine Wr e m 999 (λd s2 f h=>h=H/\f.1 7=sL Tm.av a1/\f.1 8=sI (dp a1)/\f.1 9=sI d/\bx f 2 [sI s2.1,sI s2.2.1,sI s2.2.2.1,sL Ty.av s2.2.2.2.1,sL Tm.av s2.2.2.2.2]/\bx f 4 [sI 0,sI 0,sI 0,nL,nL]) aaQ (λs2 _ _ _ E m=>?_) (λd _ s2 _ _ _ _ _ E e m z p=>?_)
 .have⟨v11,v12,a,b,c⟩:=s2;have e:=Aj e E;dsimp only[dh,Gk]at m;exact au
 have⟨v11,v12,a,b,c⟩:=s2;have e:=Aj e E;dsimp only[Gk]at m;exact aa
@[reducible,instance] def ad7:=fK 120 @UA
def Kf:C0 prog 166 uL Tm.av:=by
 refine v0 func166 λT H r m e=>?_;rw[uL] at m;exact aa
@[reducible,instance] def Zn:=fK 166 @Kf
def M8:C0 prog 122 vZ Tm.av:=by
 refine v0 func122 λT H r m e=>?_;rw[vZ] at m;exact aa
@[reducible,instance] def Z3:=fK 122 @M8
def Pc(T:dt):∀(n:Nat),(∀{H:cZ} {a0:dd} {a1:List Ty} {a2:Ty} {a3:Int} {j:Tm} {a:dd} {b:Nat} (k:H[b]?=some [sL sI a0.l,sI a0.qS]) (hm:fj n a0 a1 a2 a3=some (j,a)),ds prog T 72 [AV.eb b 0,sL Ty.av a1,Ty.av a2,sI a3] H (Tm.av j) (eO H b [sL sI a.l,sI a.qS])):=by
  intro n
  induction n with
  |zero=>
    skip
    all_goals(intro _ _;intros;rename_i hm;cases hm)
  |succ n ih=>
 intro H a0 a1 a2 a3 j a b k hm;rw[fj] at hm;have s:=er k;refine ec.HQ k ?_;have e:=s;refine wi aiq func72 [] [] 5 ?_;have m:=hm;refine sw [0,1,0] ?_;intro A e m;refine Wj m 999 0 (λt f h=>∃v3 v4,(h=eO H b [sL sI v4.l,sI v4.qS]/\f.1 0=AV.eb b 0/\f.1 1=sL Ty.av a1/\f.1 3=sI a3/\f.1 9=sL sI A/\f.1 27=sB v3/\bx f 6 (Ty.av a2).cells/\bx f 8 [sI 0,sI 0,sI 0,nL,nL])/\t v3 v4=some (j,a)) (λt _ g m=>?_) ?_
 .apply Ir e m<;>intro e m
  .exact ak2
  refine sw [0,2] ?_;intro _ d9 e m;exact ak2
 rintro _ _ ⟨v3,v4,E,m⟩;have e:=Aj e E;apply Iq e m<;>intro e m
 .refine sg 999 [0,2] ?_;intro _ d12 e m;exact aa
 apply wg 2;simp[e];refine D5 m 999 6 (λo f h=>∃c,(h=eO H b [sL sI c.l,sI c.qS]/\f.1 0=AV.eb b 0/\f.1 1=sL Ty.av a1/\f.1 3=sI a3/\bx f 6 (Ty.av a2).cells/\bx f 8 [sI 0,sI 0,sI 0,nL,nL])/\o c=some (j,a)) ?_ (λo _ g m=>?_)
 .rintro _ _ ⟨c,E,m⟩;have e:=Aj e E;simp[e];apply Iq e m<;>intro e m
  .apply wg 1;simp[e];refine D5 m 999 999 (λq f h=>∃v21,(h=eO H b [sL sI v21.l,sI v21.qS]/\f.1 0=AV.eb b 0/\f.1 8=AV.gx 8 (f.gen 8) 0/\f.box 8=some [sI 0,sI 0,sI 0,nL,nL])/\q v21=some (j,a)) ?_ (λq _ g m=>?_)
   .rintro _ _ ⟨v21,E,m⟩;refine sw [10,0,2] ?_;intro _ d26 e m;exact aa
   apply Ir e m<;>intro e m
   .exact ij
   refine sw [0,2] ?_;intro _ d29 e m;apply Iq e m<;>intro e m
   .simp[e];refine s8 m (ih aaQ) λ_ d31 m=>?_;exact aa
   apply Iq e m<;>intro e m
   .refine sw [0,4,0] ?_;intro _ e m;refine nW m (ih aaQ) λ_ d35 m=>?_;simp[e];refine nW m (ih aaQ) λ_ d37 m=>?_;exact aa
   apply Ir e m<;>intro e m
   .exact ij
   refine sw [0,4,0] ?_;intro _ e m;refine nW m (ih aaQ) λ_ d41 m=>?_;simp[e];refine nW m (ih aaQ) λ_ d43 m=>?_;exact aa
  apply wg 3;simp[e];apply Ir e m<;>intro e m
  .apply wg 999;apply Iq e m<;>intro e m
   .refine sw [8,0] ?_;intro B e m;refine nW m (ih aaQ) λ_ d47 m=>?_;refine sw [8,0] ?_;intro C e m;refine nW m (ih aaQ) λ_ d50 m=>?_;exact aa
   refine sw [14,8,0,4,8,0] ?_;intro D _ F e m;refine nW m (ih aaQ) λ_ d57 m=>?_;exact aa
  apply wg 2;simp[e];refine Wj m 999 999 (λr f h=>∃v60 d,(h=eO H b [sL sI d.l,sI d.qS]/\f.1 0=AV.eb b 0/\f.1 1=sL Ty.av a1/\f.1 3=sI a3/\f.1 276=sB v60/\bx f 6 (Ty.av a2).cells/\bx f 8 [sI 0,sI 0,sI 0,nL,nL])/\r v60 d=some (j,a)) (λr _ g m=>?_) ?_
  .apply Ir e m<;>intro e m
   .exact ak2
   refine sw [0,2] ?_;intro _ d65 e m;exact ak2
  rintro _ _ ⟨v60,d,E,m⟩;refine sw [10,14,0,4,0] ?_;intro _ e m;refine nW m (ih aaQ) λ_ d70 m=>?_;simp[e];refine nW m (ih aaQ) λ_ d72 m=>?_;exact aa
 apply Ir e m<;>intro e m
 .exact ij
 refine sw [0,2] ?_;intro _ d75 e m;apply Iq e m<;>intro e m
 .refine sw [0,2,0,4,0] ?_;intro _ d77 _ e m;refine nW m (ih aaQ) λ_ d80 m=>?_;refine sw [0,4,0] ?_;intro _ e m;refine nW m (ih aaQ) λ_ d83 m=>?_;exact aa
 apply Iq e m<;>intro e m
 .refine sw [0,2,0] ?_;intro _ d86 e m;refine nW m (ih aaQ) λ_ d88 m=>?_;simp[e];refine nW m (ih aaQ) λ_ d90 m=>?_;exact aa
 apply Iq e m<;>intro e m
 .refine sw [0,4,0,4,0,4,0] ?_;intro _ _ _ e m;refine nW m (ih aaQ) λ_ d97 m=>?_;refine sw [0,4,0,4,0] ?_;intro _ _ e m;refine nW m (ih aaQ) λ_ d101 m=>?_;refine sw [0,5] ?_;intro _ d103 e m;exact aa
 apply Iq e m<;>intro e m
 .refine sw [0,4,0,4,0,4,0,4,0,4,0] ?_;intro _ _ _ _ _ e m;refine nW m (ih aaQ) λ_ d112 m=>?_;refine sw [0,4,0,4,0,4,0] ?_;intro _ _ _ e m;refine nW m (ih aaQ) λ_ d117 m=>?_;refine sw [0,4,0] ?_;intro _ e m;refine nW m (ih aaQ) λ_ d120 m=>?_;exact aa
 apply Iq e m<;>intro e m
 .refine sw [0,2,0] ?_;intro _ d123 e m;refine nW m (ih aaQ) λ_ d125 m=>?_;simp[e];refine nW m (ih aaQ) λ_ d127 m=>?_;exact aa
 apply Ir e m<;>intro e m
 .exact ij
 simp[e];refine Wr e m 0 (λi _ f h=>h=eO H b [sL sI d75.l,sI d75.qS]/\f.1 0=AV.eb b 0/\f.1 1=sL Ty.av a1/\f.1 3=sI a3/\f.1 176=sI (dp a1)/\f.1 177=sI i/\bx f 6 (Ty.av a2).cells/\bx f 8 [sI 0,sI 0,sI 0,nL,nL]) aaQ (λ_ _ _ _ E m=>?_) (λi _ _ _ _ _ _ u E e m z p=>?_)
 .have e:=Aj e E;refine sg 999 [11] ?_;intro e m;exact ij
 have e:=Aj e E;refine sg 11 [8,0] ?_;intro v e m;refine WA m 999 999 [1,3,15,176,177] [6,8,16] (λv141 f=>f.1 0=AV.eb b 0/\f.1 198=sB v141) [] (λw _ g m=>?_) ?_
 .apply Ir e m<;>intro e m
  .exact ij
  refine sw [8,0] ?_;intro x e m;refine lI m iU λ_ m=>?_;exact ij
 intro _ v141 e m;apply Ir e m<;>intro e m
 .exact al
 refine sw [0,4,8,0] ?_;intro _ y e m;refine nW m (ih aaQ) λ_ d150 m=>?_;exact aa
def S6(T:dt){n:Nat}:=@Pc T n
@[reducible,instance] def ado:=fK 72 @S6
def IF(T:dt):∀(n:Nat),(∀{H:cZ} {a0:dd} {a1:List Ty} {a2:Int} {i:Fm} {b:dd} {c:Nat} (d:H[c]?=some [sL sI a0.l,sI a0.qS]) (hm:hR n a0 a1 a2=some (i,b)),ds prog T 65 [AV.eb c 0,sL Ty.av a1,sI a2] H (Fm.av i) (eO H c [sL sI b.l,sI b.qS])):=by
  intro n
  induction n with
  |zero=>
    skip
    all_goals(intro _ _;intros;rename_i hm;cases hm)
  |succ n ih=>
 intro H a0 a1 a2 i b c d hm;rw[hR] at hm;have j:=er d;refine ec.HQ d ?_;have e:=j;refine wi aiq func65 [] [] 2 ?_;simp[e];refine D5 hm 2 999 (λk f h=>∃v2,(h=eO H c [sL sI v2.l,sI v2.qS]/\f.1 0=AV.eb c 0/\f.1 1=sL Ty.av a1/\f.1 6=AV.gx 6 (f.gen 6) 0/\f.box 6=some [sI 0,sI 0,nL,nL,nL])/\k v2=some (i,b)) ?_ (λk _ g m=>?_)
 .rintro _ _ ⟨v2,E,m⟩;refine sw [10,0,1,0,5,0,5] ?_;intro _ _ d9 _ d11 e m;exact aa
 simp[e];apply Ir e m<;>intro e m
 .apply wg 999;exact ij
 refine sg 6 [0,2,0] ?_;intro a d14 e m;apply Iq e m<;>intro e m
 .apply wg 999;simp[e];refine s8 m (ih aaQ) λ_ d16 m=>?_;simp[e];refine s8 m (ih aaQ) λ_ d18 m=>?_;exact aa
 apply wg 1;simp[e];refine wA 999 0 [1,2,14] [6] (λf=>f.1 0=AV.eb c 0/\f.1 28=sB (en (dj a 1) true (dj a 2))) [] (λ_ g=>?_) ?_
 .rcases Pb (dj a 1) e with e|e
  .exact aj
  exact aj
 intro _ e m;apply Iq e m<;>intro e m
 .apply wg 999;simp[e];refine s8 m (ih aaQ) λ_ d24 m=>?_;simp[e];refine s8 m (ih aaQ) λ_ d26 m=>?_;exact aa
 apply wg 1;simp[e];refine wA 999 999 [1,2,14] [6] (λf=>f.1 0=AV.eb c 0/\f.1 42=sB (en (dj a 3) true (dj a 4))) [] (λ_ g=>?_) ?_
 .rcases Pb (dj a 3) e with e|e
  .exact aj
  exact aj
 intro _ e m;apply Iq e m<;>intro e m
 .refine sw [0,2,0,4,0] ?_;intro _ d32 _ e m;refine nW m (ih aaQ) λ_ d35 m=>?_;exact aa
 apply Iq e m<;>intro e m
 .refine sw [0,2,0,4,0] ?_;intro _ d38 _ e m;refine nW m (ih aaQ) λ_ d41 m=>?_;exact aa
 apply Ir e m<;>intro e m
 .exact ij
 refine sw [0,2,0,5,0,4,0] ?_;intro _ d44 _ d46 _ e m;refine nW m (ih aaQ) λ_ d49 m=>?_;exact aa
def Ll(T:dt){n:Nat}:=@IF T n
@[reducible,instance] def YN:=fK 65 @Ll
def Je:C2 prog 67 xn Sq.av Sq.av Fm.av:=by
 refine v2 func67 λT H a0 a1 r m e=>?_;rw[xn] at m;refine sw [9,0] ?_;intro e m;refine Ad (f:=Fm.av) [] a0.ais (ig.full (D:=[])) ES e.2 ?_;refine sw [9,0] ?_;intro e m;refine Ad (f:=Fm.av) (fk [] a0.ais) [a1] (ig.new (D:=[9]) (d:=9) aaB) ES e.2 ?_;exact au
@[reducible,instance] def adI:=fK 67 @Je
def LM:C2 prog 66 tM Pf.av Fm.av Pf.av:=by
 refine v2 func66 λT H a0 a1 r m e=>?_;rw[tM] at m;refine sw [0,1,0,1] ?_;intro a b e m;have e:=Aj e (show AV.agg [sI a.ail,sI a.aio,sI a.cT.ail,sL Ty.av a.cT.aim,sL Tm.av a.dc,AV.slice .iw [Fm.av b],sL Pf.av a.aim]=Pf.av (Pf.mk a.ail a.aio a.cT a.dc [b] a.aim) by rw[Pf.eG];rfl);exact au
@[reducible,instance] def aap:=fK 66 @LM
def HO{n:Nat}:C1 prog 131 (oM n) sB Ty.av:=by
 refine i1 λn ih=>u1 4 func131 λT H a0 r m e=>?_;rw[oM] at m;simp[e];refine D5 m 3 999 (λa f h=>∃v2,(h=H/\f.1 3=sI v2/\bx f 1 (Ty.av a0).cells)/\a v2=some r) ?_ (λa _ g m=>?_)
 .rintro _ _ ⟨v2,E,m⟩;refine sw [10,7,0] ?_;intro e m;refine Wr e m 999 (λb _ f h=>h=H/\f.1 21=sL Ty.av a0.aim/\f.1 22=sI (dp a0.aim)/\f.1 23=sI b) aaQ (λ_ _ _ _ E m=>?_) (λb _ _ _ _ _ _ _ E e m z p=>?_)
  .exact aa
  exact aa
 simp[e];refine wj 999 0 (λf h=>h=H/\f.1 3=sI 0/\f.1 7=sI a0.ail/\f.1 8=sB (en (dj a0.ail 1) true (en (dj a0.ail 2) true (dj a0.ail 5)))/\bx f 1 (Ty.av a0).cells) (λ_ g=>?_) ?_
 .rcases Pb (dj a0.ail 1) e with e|e
  .exact aj
  rcases Pb (dj a0.ail 2) e with e|e
  .exact aj
  exact aj
 rintro _ _ E;have e:=Aj e E;apply Iq e m<;>intro e m
 .apply wg 999;exact ij
 apply wg 1;simp[e];refine wj 999 999 (λf h=>h=H/\f.1 12=sB (en (dj a0.ail 3) true (dj a0.ail 4))/\bx f 1 (Ty.av a0).cells) (λ_ g=>?_) ?_
 .rcases Pb (dj a0.ail 3) e with e|e
  .exact aj
  exact aj
 rintro _ _ E;refine sw [10,12] ?_;intro e m;exact ij
@[reducible,instance] def W7:=fK 131 @HO
def J1{n:Nat}:C1 prog 132 (qh n) sI Ty.av:=by
 refine i1 λn ih=>v1 func132 λT H a0 r m e=>?_;rw[qh] at m;simp[e];exact Wb e m 999 9 [7,8] [] (λs2 f=>f.1 3=sI s2)
@[reducible,instance] def YI:=fK 132 @J1
def so:C1 prog 90 hU sI Ty.av:=by
 refine v1 func90 λT H a0 r m e=>?_;rw[hU] at m;exact aa
@[reducible,instance] def Xm:=fK 90 @so
def Ei:C1 prog 127 k8 sI (sL Ty.av):=by
 refine v1 func127 λT H a0 r m e=>?_;rw[k8] at m;refine sw [7,0] ?_;intro e m;exact Wb e m 999 11 [9,10] [] nI
@[reducible,instance] def Tg:=fK 127 @Ei
def tJ:C1 prog 87 oU sB Ty.av:=by
 refine u1 2 func87 λT H a0 r m e=>?_;rw[oU] at m;simp[e];refine wB 999 999 [] [] (λf=>f.1 2=sB (en (dj a0.ail 0) (dj (dp a0.aim) 0) false)) λ_ g=>?_;exact aa
def KW:C1 prog 130 tX sI sI:=by
 refine u1 6 func130 λT H a0 r m e=>?_;rw[tX] at m;simp[e];refine wA 999 0 [3] [] (λf=>f.1 4=sB (en (dj a0 1) true (en (dj a0 4) true (en (dj a0 7) true (dj a0 13))))) [13] (λ_ g=>?_) ?_
 .rcases Pb (dj a0 1) e with e|e
  .exact aj
  rcases Pb (dj a0 4) e with e|e
  .exact aj
  rcases Pb (dj a0 7) e with e|e
  .exact aj
  exact aj
 intro _ e m;apply wg 1;simp[e];refine wA 999 0 [3] [] (λf=>f.1 9=sB (en (dj a0 2) true (en (dj a0 5) true (en (dj a0 11) true (dj a0 12))))) [13] (λ_ g=>?_) ?_
 .rcases Pb (dj a0 2) e with e|e
  .exact aj
  rcases Pb (dj a0 5) e with e|e
  .exact aj
  rcases Pb (dj a0 11) e with e|e
  .exact aj
  exact aj
 intro _ e m;apply wg 1;simp[e];refine wA 999 0 [3] [] (λf=>f.1 14=sB (en (dj a0 3) true (en (dj a0 8) true (dj a0 10)))) [13] (λ_ g=>?_) ?_
 .rcases Pb (dj a0 3) e with e|e
  .exact aj
  rcases Pb (dj a0 8) e with e|e
  .exact aj
  exact aj
 intro _ e m;apply wg 1;simp[e];refine wB 999 999 [] [] (λf=>f.1 18=sB (en (dj a0 6) true (dj a0 9))) λ_ g=>?_;rcases Pb (dj a0 6) e with e|e
 .exact aj
 exact aj
def vI{n:Nat}:C1 prog 88 (jQ n) sB Tm.av:=by
 refine i1 λn ih=>u1 3 func88 λT H a0 r m e=>?_;rw[jQ] at m;simp[e];refine WA m 999 0 [] [1] (λv2 f=>f.1 26=sB v2) [13] (λd _ g m=>?_) ?_
 .simp[e];refine lI m KW λ_ m=>?_;apply Iq e m<;>intro e m
  .exact ij
  apply Iq e m<;>intro e m
  .exact ij
  apply Ir e m<;>intro e m
  .exact ij
  exact ij
 intro _ v2 e m;apply wg 2;simp[e];refine D5 m 3 999 (λb f h=>(h=H/\f.1 1=AV.gx 1 (f.gen 1) 0/\f.box 1=some (Tm.av a0).cells)/\b=some r) ?_ (λb _ g m=>?_)
 .rintro _ _ ⟨E,m⟩;have e:=Aj e E;simp[e];refine Wr e m 999 (λa _ f h=>h=H/\f.1 42=sL Tm.av a0.aim/\f.1 43=sI (dp a0.aim)/\f.1 44=sI a) aaQ (λ_ _ _ _ E m=>?_) (λa _ _ _ _ _ _ _ E e m z p=>?_)
  .exact aa
  exact aa
 simp[e];refine wj 999 999 (λf h=>h=H/\f.1 33=sB (en (dj a0.ail 2) true (en (dj a0.ail 6) true (dj a0.ail 9)))/\bx f 1 (Tm.av a0).cells) (λc g=>?_) ?_
 .rcases Pb (dj a0.ail 2) e with e|e
  .exact aj
  rcases Pb (dj a0.ail 6) e with e|e
  .exact aj
  exact aj
 rintro _ _ E;have e:=Aj e E;apply Iq e m<;>intro e m
 .simp[e];refine qc m so λ_ m=>?_;refine Il e m λe m=>?_;exact XN
 simp[e];refine qc m tJ λ_ m=>?_;refine Im e m λe m=>?_;exact XN
@[reducible,instance] def WK:=fK 88 @vI
def uR:C1 prog 89 j4 sB sI:=by
 refine u1 2 func89 λT H a0 r m e=>?_;rw[j4] at m;simp[e];refine wB 999 999 [] [] (λf=>f.1 2=sB (en (dj a0 4) true (en (dj a0 5) true (en (dj a0 6) true (dj a0 7))))) λ_ g=>?_;rcases Pb (dj a0 4) e with e|e
 .exact aj
 rcases Pb (dj a0 5) e with e|e
 .exact aj
 rcases Pb (dj a0 6) e with e|e
 .exact aj
 exact aj
@[reducible,instance] def O5:=fK 89 @uR
def Ho{n:Nat}:C1 prog 42 (k_ n) sB Fm.av:=by
 refine i1 λn ih=>u1 7 func42 λT H a0 r m e=>?_;rw[k_] at m;apply Iq e m<;>intro e m
 .simp[e];refine WB m 999 999 [] [] (λv2 f=>f.1 2=sB v2) λj _ g m=>?_;apply Ir e m<;>intro e m
  .exact ij
  simp[e];refine qc m tJ λ_ m=>?_;apply Ir e m<;>intro e m
  .exact ij
  apply Ir e m<;>intro e m
  .exact ij
  refine sw [8,0] ?_;intro k e m;refine qc m vI λ_ m=>?_;apply Ir e m<;>intro e m
  .exact ij
  refine sw [8,0] ?_;intro l e m;refine qc m vI λ_ m=>?_;exact ij
 simp[e];refine wA 999 0 [] [1] (λf=>f.1 36=sB (en (dj a0.ail 2) true (dj a0.ail 3))) [] (λ_ g=>?_) ?_
 .exact aa
 intro _ e m;apply Ir e m<;>intro e m
 .refine sg 3 [0,1,0,14] ?_;intro _ e m;apply wg 1;simp[e];refine WB m 999 999 [] [] (λa f=>f.1 2=sB a) λb _ g m=>?_;apply Ir e m<;>intro e m
  .exact ij
  simp[e];refine qc m so λ_ m=>?_;apply Ir e m<;>intro e m
  .exact ij
  apply Ir e m<;>intro e m
  .exact ij
  refine sw [8,0,15] ?_;intro c _ e m;exact ij
 apply wg 1;simp[e];refine WB m 999 999 [] [] (λv24 f=>f.1 2=sB v24) λd _ g m=>?_;apply Ir e m<;>intro e m
 .exact ij
 simp[e];refine qc m tJ λ_ m=>?_;apply Ir e m<;>intro e m
 .exact ij
 apply Ir e m<;>intro e m
 .exact ij
 refine sw [8,0,15] ?_;intro h _ e m;apply Ir e m<;>intro e m
 .exact ij
 refine sw [8,0,15] ?_;intro i _ e m;exact ij
@[reducible,instance] def Xk:=fK 42 @Ho
def Hp{n:Nat}:C1 prog 91 (eQ n) sI Tm.av:=by
 refine i1 λn ih=>v1 func91 λT H a0 r m e=>?_;rw[eQ] at m;simp[e];exact Wb e m 999 9 [7,8] [] (λs2 f=>f.1 3=sI s2)
@[reducible,instance] def WN:=fK 91 @Hp
def IT{n:Nat}:C1 prog 43 (k7 n) sI Fm.av:=by
 refine i1 λn ih=>v1 func43 λT H a0 r m e=>?_;rw[k7] at m;simp[e];refine Wa e m 999 11 [9,10] [1] (λs2 f=>f.1 3=sI s2) [11,0] ?_;intro _ s2 e m;exact Wb e m 999 23 [21,22] [] (λa f=>f.1 3=sI a)
@[reducible,instance] def W9:=fK 43 @IT
def Is:C1 prog 22 iH sI Fm.av:=by
 refine v1 func22 λT H a0 r m e=>?_;rw[iH] at m;exact aa
@[reducible,instance] def WM:=fK 22 @Is
def Ai:C1 prog 222 kF sI Tm.av:=by
 refine v1 func222 λT H a0 r m e=>?_;rw[kF] at m;exact aa
@[reducible,instance] def Xi:=fK 222 @Ai
def ON:C1 prog 325 sK (t2 Ty.av sI) Ty.av:=by
 refine v1 func325 λT H a0 r m e=>?_;rw[sK] at m;exact aa
@[reducible,instance] def abX:=fK 325 @ON
def H8{n:Nat}:C2 prog 303 (ez n) (t2 Ty.av sI) (sL Ty.av) Tm.av:=by
 refine i2 λn ih=>v2 func303 λT H a0 a1 r m e=>?_;rw[ez] at m;refine sw [13] ?_;intro e m;apply Iq e m<;>intro e m
 .refine sw [9,0] ?_;intro e m;refine Ad (f:=Ty.av) a0 [a1.cT] (ig.full (D:=[])) F9 e.2 ?_;exact aa
 simp[e];refine Xn e m 0 (λA c f h=>∃a,(h=H/\f.1 0=sL Ty.av a0/\f.1 8=sT a Ty.av c/\f.1 67=sL Tm.av a1.aim/\f.1 68=sI (dp a1.aim)/\f.1 69=sI A/\bx f 3 (Tm.av a1).cells/\bx f 4 [sI 0,nL])/\Ow f [86] a c) (by exact⟨.full,aaQ,ig.full⟩) (λA _ c j _ _ _ _ E e m z p=>?_) (λc j _ _ E m=>?_)
 .have⟨a,E,b⟩:=E;have e:=Aj e E;refine sg 999 [0,16,7,9,0] ?_;intro u _ e m;refine Ao (f:=Ty.av) c [u] b F9 e.2 ?_;simp[e];cases m;exact p _ _ _ ⟨(.loc 86 (j.eg 86+1)),aaQ,(On 86)⟩ z
 have⟨a,E,b⟩:=E;have e:=Aj e E;refine sg 13 [11,0,1,0,1,0] ?_;intro _ v e m;apply Iq e m<;>intro e m
 .apply wg 2;simp[e];refine D5 m 999 999 (λo f h=>∃v24 d,(h=H/\f.1 8=sT d Ty.av c/\f.1 111=sB v24/\bx f 4 [sI 0,nL])/\Ow f [86] d c/\o v24=some r) ?_ (λo _ g m=>?_)
  .rintro _ _ ⟨v24,d,E,w,m⟩;exact aa
  have⟨B,e,m⟩:=Ac e m;apply Iq e m<;>intro e m
  .simp[e];exact g _ _ ⟨true,a,aaQ,b,m⟩
  refine sw [8,8,0,4,0] ?_;intro C F x e m;exact g _ _ ⟨(pL x),a,aaQ,b,m⟩
 refine sg 3 [0,13] ?_;intro e m;refine sg 3 [0,13] ?_;intro e m;apply wg 3;simp[e];apply Iq e m<;>intro e m
 .apply wg 2;simp[e];refine D5 m 999 999 (λq f h=>∃v37,(h=H/\f.1 162=sB v37/\bx f 3 (Tm.av a1).cells/\bx f 4 [sI 0,nL])/\q v37=some r) ?_ (λq _ g m=>?_)
  .rintro _ _ ⟨v37,E,m⟩;exact aa
  refine sw [8,0] ?_;intro G e m;refine lI m iU λ_ m=>?_;apply Ir e m<;>intro e m
  .exact ij
  refine sw [8,0] ?_;intro I e m;refine lI m qx λ_ m=>?_;simp[e];refine lI m qx λ_ m=>?_;simp[e];refine lI m iU λ_ m=>?_;apply Ir e m<;>intro e m
  .exact ij
  refine sw [8,0] ?_;intro J e m;refine lI m iU λ_ m=>?_;exact ij
 refine sg 3 [0,13] ?_;intro e m;apply wg 3;simp[e];apply Iq e m<;>intro e m
 .apply wg 2;simp[e];refine D5 m 999 999 (λs f h=>∃k,(h=H/\f.1 185=sB k/\bx f 4 [sI 0,nL]/\bx f 14 (Ty.av v).cells)/\s k=some r) ?_ (λs _ g m=>?_)
  .rintro _ _ ⟨k,E,m⟩;exact aa
  refine sw [8,0] ?_;intro K e m;refine lI m iU λ_ m=>?_;apply Ir e m<;>intro e m
  .exact ij
  refine sw [8,0] ?_;intro L e m;refine lI m iU λ_ m=>?_;exact ij
 apply wg 3;simp[e];apply Iq e m<;>intro e m
 .apply wg 2;simp[e];refine D5 m 999 999 (λt f h=>∃l,(h=H/\f.1 220=sB l/\bx f 3 (Tm.av a1).cells/\bx f 4 [sI 0,nL])/\t l=some r) ?_ (λt _ g m=>?_)
  .rintro _ _ ⟨l,E,m⟩;exact aa
  refine sw [8,0] ?_;intro M e m;refine lI m iU λ_ m=>?_;apply Ir e m<;>intro e m
  .exact ij
  refine sw [8,0] ?_;intro N e m;refine lI m qx λ_ m=>?_;simp[e];refine lI m qx λ_ m=>?_;simp[e];refine lI m qx λ_ m=>?_;simp[e];refine lI m iU λ_ m=>?_;apply Ir e m<;>intro e m
  .exact ij
  refine sw [8,0] ?_;intro O e m;refine lI m iU λ_ m=>?_;exact ij
 refine sg 3 [0,13] ?_;intro e m;apply wg 1;simp[e];refine wj 999 0 (λf h=>∃i,(h=H/\f.1 8=sT i Ty.av c/\f.1 237=sB (en (dj a1.ail 11) true (dj a1.ail 12))/\bx f 3 (Tm.av a1).cells/\bx f 4 [sI 0,nL])/\Ow f [86] i c) (λ_ g=>?_) ?_
 .rcases Pb (dj a1.ail 11) e with e|e
  .simp[e];exact g _ _ ⟨a,aaQ,b⟩
  simp[e];exact g _ _ ⟨a,aaQ,b⟩
 rintro _ _ ⟨i,E,y⟩;exact aa
@[reducible,instance] def Xf:=fK 303 @H8
def HP:C2 prog 266 oS (t2 Ty.av sI) (sL Ty.av) Tm.av:=by
 refine v2 func266 λT H a0 a1 r m e=>?_;rw[oS] at m;exact aa
@[reducible,instance] def WE:=fK 266 @HP
def IL{n:Nat}:C2 prog 223 (lY n) sI (sL Ty.av) Fm.av:=by
 refine i2 λn ih=>v2 func223 λT H a0 a1 r m e=>?_;rw[lY] at m;simp[e];refine Xn e m 0 (λk _ f h=>h=H/\f.1 0=sL Ty.av a0/\f.1 13=sL Tm.av a1.dc/\f.1 14=sI (dp a1.dc)/\f.1 15=sI k/\bx f 3 (Fm.av a1).cells) aaQ (λk _ _ d _ _ _ _ E e m z p=>?_) (λ_ d _ _ E m=>?_)
 .exact aa
 have e:=Aj e E;refine sg 5 [11,0] ?_;intro e m;refine Wj m 999 999 (λi f h=>∃c b,(h=H/\f.1 0=sT b Ty.av c/\f.1 3=AV.gx 3 (f.gen 3) 0/\f.box 3=some (Fm.av a1).cells)/\i c=some r) (λi _ g m=>?_) ?_
 .refine sw [0,1] ?_;intro _ e m;apply Ir e m<;>intro e m
  .simp[e];exact g _ _ ⟨_,.iw,aaQ,m⟩
  refine sw [9,0] ?_;intro e m;refine Ad (f:=Ty.av) a0 [a1.cT] (ig.full (D:=[])) F9 e.2 ?_;simp[e];exact g _ _ ⟨_,(.loc 44 (d.eg 44+1)),aaQ,m⟩
 rintro _ _ ⟨c,b,E,m⟩;have e:=Aj e E;simp[e];refine Wr e m 999 (λj _ f h=>∃a,h=H/\f.1 0=sT a Ty.av c/\f.1 46=sL Fm.av a1.aim/\f.1 47=sI (dp a1.aim)/\f.1 48=sI j) ⟨b,aaQ⟩ (λ_ _ _ _ E m=>?_) (λj _ _ _ _ _ _ _ E e m z p=>?_)
 .have⟨a,E⟩:=E;exact aa
 have⟨a,E⟩:=E;refine sw [10,0,15,7,0] ?_;intro _ e m;cases m;exact p _ _ _ ⟨a,aaQ⟩ z
@[reducible,instance] def WH:=fK 223 @IL
def HW:C2 prog 171 jT sI (sL Ty.av) Fm.av:=by
 refine v2 func171 λT H a0 a1 r m e=>?_;rw[jT] at m;exact aa
@[reducible,instance] def WZ:=fK 171 @HW
def Ap:C2 prog 126 ji sI (sL Ty.av) Fm.av:=by
 refine v2 func126 λT H a0 a1 r m e=>?_;rw[ji] at m;exact aa
@[reducible,instance] def WC:=fK 126 @Ap
end Go.Proofs.YtjgjcpnoaeljkaaGreatDoor
