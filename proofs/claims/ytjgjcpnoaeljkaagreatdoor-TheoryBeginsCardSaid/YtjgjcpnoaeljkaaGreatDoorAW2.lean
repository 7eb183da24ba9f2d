/- Part of the proof of TheoryBegins: walks. -/
import Derived.Test.YtjgjcpnoaeljkaaGreatDoorAW1
set_option linter.all false
set_option maxRecDepth 20000
set_option maxHeartbeats 4000000
namespace Go.Proofs.YtjgjcpnoaeljkaaGreatDoor
open Go Go.kQ Go.eZ Tryz
def NP(T:dt){H:cZ}{a0:Tm}{a:Bool}(hm:wL a0=some a):ds prog T 261 [Tm.av a0] H (sB a) H:=by
 rw[wL] at hm;refine ea.qT (Post:=λx K=>x=sB a/\∃X,K=H++X) ?_ (λ_ _ h=>⟨_,h.2.choose_spec,by rw[h.1];simp[AV.low,AV.gH],h.1,rfl⟩);have e:=trivial;refine wi aiz func261 [3] [] 999 ?_;simp[e];refine p_ hm (y_ T (st:=λs:Bool=>H++[[sB s]]) (y7.Vc H (λs:Bool=>[[sB s]]) 1 (λ_=>rfl) (by simp[AV.low,AV.gH])) (λX s _ _ b h=>by have:=Iy T (H:=H++[[sB s]]++X) (q0:=(List.length H)) adg h;simpa using this)) λ_ m=>?_;exact au
def Ia(T:dt){H:cZ}{a0 a1:Int}{a2:Ty}{a3:(List (Option Nat))}{nh:List HC}{C:Option Nat}{q:List HC}(hm:jf a0 a1 a2 a3 nh=some (C,q)):ds prog T 299 [sI a0,sI a1,Ty.av a2,sL (nC (List.length H)) a3] (H++iU (List.length H) nh) (nC (List.length H) C) (H++iU (List.length H) q):=by
 rw[jf] at hm;have e:=trivial;refine wi aiz func299 [17] [(5,false,[true,true,true,false,true,true,true,false,true,true,true,false]),(6,false,[true,true,true,true,false,true,true,true,false,true,true,true,false])] 999 ?_;have D:iU (List.length H) nh++[[sI a0,sI a1,sI a2.aiu,sL Ty.av a2.aiv,sL (nC (List.length H)) a3,sI 1,sI 0,sB false]]=iU (List.length H) (nh++[HC.dz (dx.mk a0 a1 a2 a3 1 0 false)]):=Jl rfl;have e:=Aj e D;have F:(nh++[HC.dz (dx.mk a0 a1 a2 a3 1 0 false)])[(List.length nh)]?=some (HC.dz (dx.mk a0 a1 a2 a3 1 0 false)):=Ru;have e:=Aj e F;simp[e];refine XC e hm 0 (λG i f h=>h=H++iU (List.length H) i/\f.1 0=sI a0/\f.1 1=sI a1/\f.1 9=AV.eb (List.length H+(List.length nh)) 0/\f.1 18=sL (nC (List.length H)) a3/\f.1 19=sI (dq a3)/\f.1 20=sI G) adg (λG _ i _ _ _ _ _ E e m z p=>?_) (λi _ _ _ E m=>?_)
 .have e:=Aj e E;have I:=e;refine sg 999 [8] ?_;intro a e m;have k:=HC.c_ e.2;have e:=Aj e.1 k;refine sw [8,8] ?_;intro J d e m;have r:=HC.c_ e.2;have e:=Aj e.1 r;have s:eR (iU (List.length H) i) (List.length nh) [sI a.aiu,sI a.aix,sI a.oG.aiu,sL Ty.av a.oG.aiv,sL (nC (List.length H)) a.aiv,sI (dF .i64 a.size d.size),sI a.free,sB a.normal]=iU (List.length H) (js i (List.length nh) (HC.dz (dx.mk a.aiu a.aix a.oG a.aiv (dF .i64 a.size d.size) a.free a.normal))):=oV rfl;have e:=Aj e s;have l:(js i (List.length nh) (HC.dz (dx.mk a.aiu a.aix a.oG a.aiv (dF .i64 a.size d.size) a.free a.normal)))[(List.length nh)]?=some (HC.dz (dx.mk a.aiu a.aix a.oG a.aiv (dF .i64 a.size d.size) a.free a.normal)):=vx k;have e:=Aj e l;have⟨j,e,m⟩:=Ah e m;have t:=HC.c_ e.2;have e:=Aj e.1 t;have u:eR (iU (List.length H) (js i (List.length nh) (HC.dz (dx.mk a.aiu a.aix a.oG a.aiv (dF .i64 a.size d.size) a.free a.normal)))) (List.length nh) [sI a.aiu,sI a.aix,sI a.oG.aiu,sL Ty.av a.oG.aiv,sL (nC (List.length H)) a.aiv,sI (dF .i64 a.size d.size),sI (imax a.free j.free),sB a.normal]=iU (List.length H) (js (js i (List.length nh) (HC.dz (dx.mk a.aiu a.aix a.oG a.aiv (dF .i64 a.size d.size) a.free a.normal))) (List.length nh) (HC.dz (dx.mk a.aiu a.aix a.oG a.aiv (dF .i64 a.size d.size) (imax a.free j.free) a.normal))):=oV rfl;have e:=Aj e u;have v:(js (js i (List.length nh) (HC.dz (dx.mk a.aiu a.aix a.oG a.aiv (dF .i64 a.size d.size) a.free a.normal))) (List.length nh) (HC.dz (dx.mk a.aiu a.aix a.oG a.aiv (dF .i64 a.size d.size) (imax a.free j.free) a.normal)))[(List.length nh)]?=some (HC.dz (dx.mk a.aiu a.aix a.oG a.aiv (dF .i64 a.size d.size) (imax a.free j.free) a.normal)):=vx l;have e:=Aj e v;exact al
 have e:=Aj e E;refine sg 5 [11,0] ?_;intro e m;refine Ep m 999 999 (λw f h=>∃v26,(h=H++iU (List.length H) v26/\f.1 9=AV.eb (List.length H+(List.length nh)) 0)/\w v26=some (C,q)) ?_ (λw _ g m=>?_)
 .rintro _ _ ⟨v26,E,m⟩;exact aa
 apply Iq e m<;>intro e m
 .have⟨c,e,m⟩:=Ah e m;have n:=HC.c_ e.2;have e:=Aj e.1 n;have x:eR (iU (List.length H) i) (List.length nh) [sI c.aiu,sI c.aix,sI c.oG.aiu,sL Ty.av c.oG.aiv,sL (nC (List.length H)) c.aiv,sI c.size,sI (dF .i64 a1 1),sB c.normal]=iU (List.length H) (js i (List.length nh) (HC.dz (dx.mk c.aiu c.aix c.oG c.aiv c.size (dF .i64 a1 1) c.normal))):=oV rfl;have e:=Aj e x;have y:(js i (List.length nh) (HC.dz (dx.mk c.aiu c.aix c.oG c.aiv c.size (dF .i64 a1 1) c.normal)))[(List.length nh)]?=some (HC.dz (dx.mk c.aiu c.aix c.oG c.aiv c.size (dF .i64 a1 1) c.normal)):=vx n;have e:=Aj e y;exact hU
 apply Ir e m<;>intro e m
 .exact hU
 have⟨b,e,m⟩:=Ah e m;have o:=HC.c_ e.2;have e:=Aj e.1 o;have A:eR (iU (List.length H) i) (List.length nh) [sI b.aiu,sI b.aix,sI b.oG.aiu,sL Ty.av b.oG.aiv,sL (nC (List.length H)) b.aiv,sI b.size,sI (imax 0 (ed .i64 b.free 1)),sB b.normal]=iU (List.length H) (js i (List.length nh) (HC.dz (dx.mk b.aiu b.aix b.oG b.aiv b.size (imax 0 (ed .i64 b.free 1)) b.normal))):=oV rfl;have e:=Aj e A;have B:(js i (List.length nh) (HC.dz (dx.mk b.aiu b.aix b.oG b.aiv b.size (imax 0 (ed .i64 b.free 1)) b.normal)))[(List.length nh)]?=some (HC.dz (dx.mk b.aiu b.aix b.oG b.aiv b.size (imax 0 (ed .i64 b.free 1)) b.normal)):=vx o;have e:=Aj e B;exact hU
@[reducible,instance] def WU:=fM 299 @Ia
def I0(T:dt):∀(n:Nat),(∀{H:cZ} {a0:Tm} {nh:List HC} {i:Option Nat} {c:List HC} (hm:qm n a0 nh=some (i,c)),ds prog T 262 [Tm.av a0] (H++iU (List.length H) nh) (nC (List.length H) i) (H++iU (List.length H) c)):=by
  intro n
  induction n with
  |zero=>
   skip
   all_goals(intro _ _;intros;rename_i hm;cases hm)
  |succ n ih=>
 intro H a0 nh i c hm;rw[qm] at hm;have e:=trivial;refine wi aiz func262 [] [] 999 ?_;simp[e];refine Wr e hm 999 (λk s2 f h=>∃a,(h=H++iU (List.length H) s2.2/\f.1 3=sT a (nC (List.length H)) s2.1/\f.1 7=sL Tm.av a0.aiv/\f.1 8=sI (dq a0.aiv)/\f.1 9=sI k/\bx f 1 (Tm.av a0).cells)/\Ow f [17] a s2.1) (by exact⟨.full,adg,ik.full⟩) (λs2 d _ _ E m=>?_) (λk _ s2 d _ _ _ _ E e m z p=>?_)
 .have⟨v11,v12⟩:=s2;have⟨a,E,b⟩:=E;have e:=Aj e E;dsimp only[dk,kX]at m;refine sw [0,2] ?_;intro _ l e m;exact au
 have⟨v11,v12⟩:=s2;have⟨a,E,b⟩:=E;have e:=Aj e E;have o:=e;dsimp only[kX]at m;simp[e];refine sy m (ih (H:=H)) λj q m=>?_;refine sw [9,0] ?_;intro e m;refine Ao (f:=(nC (List.length H))) v11 [j] b Q5 e.2 ?_;simp[e];cases m;exact p _ _ _ ⟨(.loc 17 (d.ef 17+1)),adg,(On 17)⟩ z
def Kk(T:dt){n:Nat}:=@I0 T n
@[reducible,instance] def Zr:=fM 262 @Kk
def Bv(T:dt){H:cZ}{a0:Option Nat}{nh:List HC}{b:Int}(hm:qd a0 nh=some b):ds prog T 301 [nC (List.length H) a0] (H++iU (List.length H) nh) (sI b) (H++iU (List.length H) nh):=by
 rw[qd] at hm;have e:=trivial;refine wi aiz func301 [] [] 999 ?_;have m:=hm;refine sw [8,8] ?_;intro c d e m;have a:=HC.c_ e.2;have e:=Aj e.1 a;exact au
@[reducible,instance] def Rp:=fM 301 @Bv
def uh(T:dt){H:cZ}{a0:Option Nat}{nh:List HC}{k:Bool}(hm:lB a0 nh=some k):ds prog T 302 [nC (List.length H) a0] (H++iU (List.length H) nh) (sB k) (H++iU (List.length H) nh):=by
 rw[lB] at hm;have e:=trivial;refine wi aiz func302 [] [] 8 ?_;have m:=hm;refine sw [8,8] ?_;intro x d e m;have h:=HC.c_ e.2;have e:=Aj e.1 h;simp[e];apply Iq e m<;>intro e m
 .refine sg 999 [8,8,8] ?_;intro y A B e m;have i:=HC.c_ e.2;have e:=Aj e.1 i;exact au
 apply wg 3;simp[e];apply Iq e m<;>intro e m
 .apply wg 1;simp[e];refine WB m 999 999 [] [] (λv9 f=>f.1 2=sB v9) λC _ g m=>?_;refine sw [8,8,8] ?_;intro l n o e m;have a:=HC.c_ e.2;have e:=Aj e.1 a;apply Iq e m<;>intro e m
  .exact hU
  exact hU
 apply wg 4;apply Iq e m<;>intro e m
 .simp[e];refine WB m 999 999 [] [] (λj f=>f.1 2=sB j) λq _ g m=>?_;refine sw [8,8,8] ?_;intro r s t e m;have b:=HC.c_ e.2;have e:=Aj e.1 b;apply Iq e m<;>intro e m
  .exact hU
  exact hU
 simp[e];refine wA 999 999 [0] [] (λf=>f.1 67=sB (ep (dj d.aiu 11) true (dj d.aiu 12))) [12,8,8,8] (λ_ g=>?_) ?_
 .rcases Pb (dj d.aiu 11) e with e|e
  .exact aj
  exact aj
 intro _ u v w e m;have c:=HC.c_ e.2;have e:=Aj e.1 c;exact au
@[reducible,instance] def OC:=fM 302 @uh
def A2(T:dt){H:cZ}{a0:Option Nat}{nh:List HC}{b:Int}(hm:gT a0 nh=some b):ds prog T 339 [nC (List.length H) a0] (H++iU (List.length H) nh) (sI b) (H++iU (List.length H) nh):=by
 rw[gT] at hm;have e:=trivial;refine wi aiz func339 [] [] 999 ?_;have m:=hm;refine sw [8,8] ?_;intro c d e m;have a:=HC.c_ e.2;have e:=Aj e.1 a;exact aa
@[reducible,instance] def PM:=fM 339 @A2
def z6(T:dt):∀(n:Nat),(∀{H:cZ} {a0:Option Nat} {a1:Int} {nh:List HC} {a:Int} (hm:j7 n a0 a1 nh=some a),ds prog T 333 [nC (List.length H) a0,sI a1] (H++iU (List.length H) nh) (sI a) (H++iU (List.length H) nh)):=by
  intro n
  induction n with
  |zero=>
   skip
   all_goals(intro _ _;intros;rename_i hm;cases hm)
  |succ n ih=>
 intro H a0 a1 nh a hm;rw[j7] at hm;have e:=trivial;refine wi aiz func333 [] [] 999 ?_;have m:=hm;refine sw [8,8] ?_;intro h i e m;have b:=HC.c_ e.2;have e:=Aj e.1 b;refine sw [7,13,0] ?_;intro e m;refine Wd e m 999 30 [0,1,28,29] [] (λc f=>f.1 5=sI c) λj _ c _ _ _ _ _ E e m z p=>?_;simp[e]at E;have e:=Aj e E;have d:=e;exact aa
def A6(T:dt){n:Nat}:=@z6 T n
@[reducible,instance] def PS:=fM 333 @A6
def vm(T:dt){H:cZ}{a0:Option Nat}{a1:(List (Option Nat))}{nh:List HC}{c:Option Nat}{a:List HC}(hm:fC a0 a1 nh=some (c,a)):ds prog T 324 [nC (List.length H) a0,sL (nC (List.length H)) a1] (H++iU (List.length H) nh) (nC (List.length H) c) (H++iU (List.length H) a):=by
 rw[fC] at hm;have e:=trivial;refine wi aiz func324 [] [(1,false,[true,true,true,false,true,true,true,false,true,true,true,false,true,true,true])] 999 ?_;have m:=hm;refine sw [8,8] ?_;intro f h e m;have b:=HC.c_ e.2;have e:=Aj e.1 b;refine sw [0,5] ?_;intro _ d e m;exact au
@[reducible,instance] def Q_:=fM 324 @vm
def Bh(T:dt):∀(n:Nat),(∀{H:cZ} {a0:Option Nat} {a1:Int} {a2:Int} {nh:List HC} {o:Option Nat} {i:List HC} (hm:iS n a0 a1 a2 nh=some (o,i)),ds prog T 340 [nC (List.length H) a0,sI a1,sI a2] (H++iU (List.length H) nh) (nC (List.length H) o) (H++iU (List.length H) i)):=by
  intro n
  induction n with
  |zero=>
    skip
    all_goals(intro _ _;intros;rename_i hm;cases hm)
  |succ n ih=>
 intro H a0 a1 a2 nh o i hm;rw[iS] at hm;have e:=trivial;refine wi aiz func340 [] [(4,false,[true,true,true,false,true,true,true,false,true,true,true,true,true,false,true,true])] 3 ?_;simp[e];refine WA hm 999 999 [1,2] [] (λv2 f=>f.1 0=nC (List.length H) a0/\f.1 19=sB v2) [7,8,8] (λx _ g m=>?_) ?_
 .refine sw [8,8] ?_;intro y A e m;have q:=HC.c_ e.2;have e:=Aj e.1 q;apply Iq e m<;>intro e m
  .exact hU
  exact hU
 intro _ v2 w j e m;have k:=HC.c_ e.2;have e:=Aj e.1 k;apply Iq e m<;>intro e m
 .refine sw [0,5] ?_;intro _ s e m;exact au
 simp[e];refine Wr e m 999 (λl b f h=>∃a,(h=H++iU (List.length H) b.2/\f.1 0=nC (List.length H) a0/\f.1 1=sI a1/\f.1 2=sI a2/\f.1 7=sT a (nC (List.length H)) b.1/\f.1 44=sL (nC (List.length H)) j.aiv/\f.1 45=sI (dq j.aiv)/\f.1 46=sI l)/\Ow f [59] a b.1) (by exact⟨.full,adg,ik.full⟩) (λb d _ _ E m=>?_) (λl _ b d _ _ _ _ E e m z p=>?_)
 .have⟨v24,v25⟩:=b;have⟨a,E,c⟩:=E;have e:=Aj e E;dsimp only[dk,kX]at m;refine sw [0,2] ?_;intro _ t e m;exact au
 have⟨v24,v25⟩:=b;have⟨a,E,c⟩:=E;have e:=Aj e E;have u:=e;dsimp only[kX]at m;refine sw [0,1,0] ?_;intro _ e m;refine sy m (ih (H:=H)) λr v m=>?_;refine sw [9,0] ?_;intro e m;refine Ao (f:=(nC (List.length H))) v24 [r] c Q5 e.2 ?_;simp[e];cases m;exact p _ _ _ ⟨(.loc 59 (d.ef 59+1)),adg,(On 59)⟩ z
def B3(T:dt){n:Nat}:=@Bh T n
@[reducible,instance] def QX:=fM 340 @B3
def Bz(T:dt):∀(n:Nat),(∀{H:cZ} {a0:Option Nat} {a1:Int} {a2:Option Nat} {nh:List HC} {k:Option Nat} {d:List HC} (hm:jL n a0 a1 a2 nh=some (k,d)),ds prog T 334 [nC (List.length H) a0,sI a1,nC (List.length H) a2] (H++iU (List.length H) nh) (nC (List.length H) k) (H++iU (List.length H) d)):=by
  intro n
  induction n with
  |zero=>
    skip
    all_goals(intro _ _;intros;rename_i hm;cases hm)
  |succ n ih=>
 intro H a0 a1 a2 nh k d hm;rw[jL] at hm;have e:=trivial;refine wi aiz func334 [] [(6,false,[true,true,true,false,true,true,true,false,true,true,true,true,false,true,true])] 999 ?_;have m:=hm;refine sw [8,8] ?_;intro y r e m;have l:=HC.c_ e.2;have e:=Aj e.1 l;refine Il e m λe m=>?_;apply Iq e m<;>intro e m
 .apply Ir e m<;>intro e m
  .refine sw [0,5] ?_;intro _ w e m;exact au
  refine sw [0,2] ?_;intro _ x e m;exact au
 simp[e];refine Wr e m 999 (λs i f h=>∃a,(h=H++iU (List.length H) i.2/\f.1 0=nC (List.length H) a0/\f.1 1=sI a1/\f.1 2=nC (List.length H) a2/\f.1 7=sT a (nC (List.length H)) i.1/\f.1 48=sL (nC (List.length H)) r.aiv/\f.1 49=sI (dq r.aiv)/\f.1 50=sI s)/\Ow f [63] a i.1) (by exact⟨.full,adg,ik.full⟩) (λi c _ _ E m=>?_) (λs _ i c _ _ _ _ E e m z p=>?_)
 .have⟨j,o⟩:=i;have⟨a,E,b⟩:=E;have e:=Aj e E;dsimp only[dk,kX]at m;refine sw [0,2] ?_;intro _ t e m;exact au
 have⟨j,o⟩:=i;have⟨a,E,b⟩:=E;have e:=Aj e E;have u:=e;dsimp only[kX]at m;refine sw [0,1,0] ?_;intro _ e m;refine sy m (ih (H:=H)) λq v m=>?_;refine sw [9,0] ?_;intro e m;refine Ao (f:=(nC (List.length H))) j [q] b Q5 e.2 ?_;simp[e];cases m;exact p _ _ _ ⟨(.loc 63 (c.ef 63+1)),adg,(On 63)⟩ z
def Dw(T:dt){n:Nat}:=@Bz T n
@[reducible,instance] def Sp:=fM 334 @Dw
def NI(T:dt){H:cZ}{a0:Option Nat}{a1:(List (Option Nat))}{nh:List HC}{b:Option Nat}{a:List HC}(hm:qK a0 a1 nh=some (b,a)):ds prog T 335 [nC (List.length H) a0,sL (nC (List.length H)) a1] (H++iU (List.length H) nh) (nC (List.length H) b) (H++iU (List.length H) a):=by
 rw[qK] at hm;have e:=trivial;refine wi aiz func335 [] [] 999 ?_;simp[e];refine Wr e hm 999 (λc s2 f h=>h=H++iU (List.length H) s2.2/\f.1 0=nC (List.length H) s2.1/\f.1 7=sL (nC (List.length H)) a1/\f.1 8=sI (dq a1)/\f.1 9=sI c) adg (λs2 _ _ _ E m=>?_) (λc _ s2 _ _ _ _ _ E e m z p=>?_)
 .have⟨v11,v12⟩:=s2;have e:=Aj e E;dsimp only[dk,kX]at m;exact au
 have⟨v11,v12⟩:=s2;have e:=Aj e E;have d:=e;dsimp only[kX]at m;refine sw [0,2] ?_;intro _ i e m;exact al
@[reducible,instance] def aae:=fM 335 @NI
def rJ(T:dt){H:cZ}{a0:Option Nat}{nh:List HC}{j:Option Nat}{a:List HC}(hm:gW a0 nh=some (j,a)):ds prog T 323 [nC (List.length H) a0] (H++iU (List.length H) nh) (nC (List.length H) j) (H++iU (List.length H) a):=by
 rw[gW] at hm;have e:=trivial;refine wi aiz func323 [] [(3,false,[true,true,true,false,true,true,true,true,false,true,true,true,true,true,false,true,true,true,true]),(8,true,[]),(11,false,[true,true,true,true,true,true,false,true,true,true,false,true,true,true,true,true,true,true])] 999 ?_;have m:=hm;refine sw [8,8] ?_;intro I J e m;have h:=HC.c_ e.2;have e:=Aj e.1 h;apply Iq e m<;>intro e m
 .refine sw [8,8,8] ?_;intro K L M e m;have i:=HC.c_ e.2;have e:=Aj e.1 i;refine sw [8,8] ?_;intro N O e m;simp-implicitDefEqProofs[e];refine TF m λ_ k m=>?_;exact au
 apply Iq e m<;>intro e m
 .refine sw [8,8,8] ?_;intro q r s e m;have b:=HC.c_ e.2;have e:=Aj e.1 b;have⟨t,e,m⟩:=Ah e m;exact au
 apply Iq e m<;>intro e m
 .refine sw [8,8,8] ?_;intro u v w e m;have c:=HC.c_ e.2;have e:=Aj e.1 c;have⟨x,e,m⟩:=Ah e m;exact au
 refine sw [8,8,8,8,8] ?_;intro y A B C D e m;have d:=HC.c_ e.2;have e:=Aj e.1 d;refine Il e m λe m=>?_;refine sw [8,0,5,8] ?_;intro F _ l G e m;have f:=HC.c_ e.2;have e:=Aj e.1 f;refine sw [0,2,0,2] ?_;intro _ n _ o e m;exact au
@[reducible,instance] def LP:=fM 323 @rJ
def Bm(T:dt){H:cZ}{a0:Option Nat}{nh:List HC}{v:Int}{a:List HC}(hm:lz a0 nh=some (v,a)):ds prog T 322 [nC (List.length H) a0] (H++iU (List.length H) nh) (sI v) (H++iU (List.length H) a):=by
 rw[lz] at hm;have e:=trivial;refine wi aiz func322 [] [(4,true,[]),(7,true,[]),(12,true,[])] 999 ?_;have m:=hm;refine sw [8,8] ?_;intro x1 x2 e m;have t:=HC.c_ e.2;have e:=Aj e.1 t;apply Iq e m<;>intro e m
 .refine sw [8,8,8] ?_;intro x4 x5 x6 e m;have u:=HC.c_ e.2;have e:=Aj e.1 u;refine sw [8,8,8] ?_;intro x8 x9 x e m;have b:=HC.c_ e.2;have e:=Aj e.1 b;refine sw [0,4,8,8,8] ?_;intro _ y A B e m;have c:=HC.c_ e.2;have e:=Aj e.1 c;exact au
 apply Iq e m<;>intro e m
 .refine sw [8,8,8] ?_;intro C D F e m;have d:=HC.c_ e.2;have e:=Aj e.1 d;apply Ir e m<;>intro e m
  .refine sw [8,8,8] ?_;intro G I J e m;have f:=HC.c_ e.2;have e:=Aj e.1 f;exact au
  refine sw [8,8,8] ?_;intro K L M e m;have h:=HC.c_ e.2;have e:=Aj e.1 h;refine sw [8,8,8] ?_;intro N O P e m;have i:=HC.c_ e.2;have e:=Aj e.1 i;refine sw [8,8,8] ?_;intro Q R S e m;have j:=HC.c_ e.2;have e:=Aj e.1 j;exact au
 apply Ir e m<;>intro e m
 .simp[e];refine sw [2,8,8] ?_;intro _ w U V e m;have k:=HC.c_ e.2;have e:=Aj e.1 k;exact au
 refine sw [8,8,8] ?_;intro W X Y e m;have l:=HC.c_ e.2;have e:=Aj e.1 l;apply Ir e m<;>intro e m
 .refine sw [8,8,8] ?_;intro Z ad ae e m;have n:=HC.c_ e.2;have e:=Aj e.1 n;exact au
 refine sw [8,8,8] ?_;intro af ah ai e m;have o:=HC.c_ e.2;have e:=Aj e.1 o;refine sw [8,8,8] ?_;intro ak an ao e m;have q:=HC.c_ e.2;have e:=Aj e.1 q;refine sw [8,8,8] ?_;intro aq ar aw e m;have r:=HC.c_ e.2;have e:=Aj e.1 r;refine sw [8,8,8] ?_;intro ax ay az e m;have s:=HC.c_ e.2;have e:=Aj e.1 s;exact au
def z7(T:dt){H:cZ}{a0:Option Nat}{nh:List HC}{a:Int}(hm:oD a0 nh=some a):ds prog T 322 [nC (List.length H) a0] (H++iU (List.length H) nh) (sI a) (H++iU (List.length H) nh):=by
 have⟨r,c,b,d⟩:=gD hm;obtain rfl:=fU d;obtain⟨X,rfl⟩:=Cr b;exact ea.qT (Bm T b) (λ_ _ h=>⟨iU (List.length H) X,by rw[h.2];simp[vn],by rw[h.1];rfl,h.1,rfl⟩)
def RK:iX prog 300=true:=by kernel_rfl
def Bl(T:dt):∀(n:Nat),(∀{H:cZ} {a0:Option Nat} {a1:Int} {nh:List HC} {r0:Option Nat} {r1:Int} {az:List HC} (hm:iT n a0 a1 nh=some (r0,r1,az)),ds prog T 300 [nC (List.length H) a0,sI a1] (H++iU (List.length H) nh) (AV.tuple [nC (List.length H) r0,sI r1]) (H++iU (List.length H) az)):=by
  intro n
  induction n with
  |zero=>
    skip
    all_goals(intro _ _;intros;rename_i hm;cases hm)
  |succ n ih=>
 intro H a0 a1 nh r0 r1 az hm;rw[iT] at hm;refine ea.intro (fn:=f300) func300 rfl RK (AU rfl) ?_;refine fl.sr [] λK1 bE=>?_;simp;apply bE;refine fl.td λK3 bF=>?_;refine fl.sr [] λK5 bG=>?_;have⟨x7,o,aA⟩:=dm hm;clear hm
 try dsimp only at aA
 have⟨I,a,Q⟩:=dm aA;replace a:=HC.c_ a;clear aA
 try dsimp only at Q
 simp[o,a];apply bG;refine fl.sE λcf cg a_ a'=>?_;rcases gS Q with⟨b,ai⟩|⟨b,ak⟩
 .clear Q;simp[o,a,b];apply a_;refine fl.sr [] λch ba=>?_;simp[o,a,b];apply ba;refine fl.ret ?_;simp only[u9,GJ] at ai;obtain⟨rfl,rfl,rfl⟩:=ai;simp[uB,o,a,b]
 clear Q;simp[o,a,b];apply a';refine fl.skip ?_;apply bF;refine fl.td λcj bb=>?_;refine fl.sr [] λck bc=>?_;have⟨cm,bd,R⟩:=dm ak;clear ak
 try dsimp only at R
 simp[o,a,b];refine iq.fn (uh T (H:=H) bd) ?_;simp[o,a,b];apply bc;refine fl.sE λcn cp bf bg=>?_;rcases gS R with⟨c,an⟩|⟨c,ao⟩
 .clear R;simp[o,a,b,c];apply bf;refine fl.td λcq bh=>?_;refine fl.td λcr bj=>?_;refine fl.Zp [] true aiz adD adD ?_;have⟨cu,bk,S⟩:=dm an;clear an
  try dsimp only at S
  simp[o,a,b,c];refine tx.fn (z7 T (H:=H) bk) acZ ?_;simp[o,a,b,c];apply bj;refine fl.sE λcw cx bl bm=>?_;rcases gS S with⟨B,aq⟩|⟨B,ar⟩
  .clear S;simp[o,a,b,c,B];apply bl;refine fl.sr [] λcy bn=>?_;simp[o,a,b,c,B];apply bn;refine fl.ret ?_;simp only[u9,GJ] at aq;obtain⟨rfl,rfl,rfl⟩:=aq;simp[uB,o,a,b,c,B]
  clear S;simp[o,a,b,c,B];apply bm;refine fl.skip ?_;apply bh;refine fl.sr [] λcz bo=>?_;have⟨cA,bM,bp,U⟩:=gD ar;clear ar
  try dsimp only at U
  simp[o,a,b,c,B];refine iq.fn (rJ T (H:=H) bp) ?_;simp[o,a,b,c,B];apply bo;refine fl.ret ?_;simp only[u9,GJ] at U;obtain⟨rfl,rfl,rfl⟩:=U;simp[uB,o,a,b,c,B]
 clear R;simp[o,a,b,c];apply bg;refine fl.skip ?_;apply bb;refine fl.td λcB bq=>?_;refine fl.sr [] λcD br=>?_;simp[o,a,b,c];apply br;have⟨aB,aw⟩:=j1 ao;clear ao;have⟨bH,bs,V⟩:=kV aw;clear aw
 try dsimp only at V
 have⟨aC,C,v⟩:=dm V;clear V;refine fl.yo λcE bN bt bO ax=>?_;refine fl.Nj (λn75 fr h=>∃(i76:Nat) (W:Int) (v78:List HC),H++iU (List.length H) v78=h/\(fr.env 0=nC (List.length H) a0/\fr.env 1=sI a1/\fr.env 31=sL (nC (List.length H)) I.aiv/\fr.env 32=sI (dq I.aiv)/\fr.env 33=sI W)/\W=(i76:Int)/\i76+n75=List.length I.aiv/\dH bH (List.drop i76 I.aiv) i76 v78=some aC) (List.length I.aiv) ?_ ?_
 .refine⟨0,0,nh,?_,⟨?_,?_,?_,?_,?_⟩,rfl,acZ,C⟩<;>first|rfl|simp[o,a,b,c]
 rintro n75 bu cF ⟨i76,W,v78,rfl,s,J,bP,C⟩ cG bw;rcases n75 with _|n75
 .have i:=Nc (l:=I.aiv) J VW;refine fl.sr [] λcH bz=>?_;simp[s,o,a,i,b,c];apply bz;refine fl.td λcI bQ=>?_;refine fl.sE λcJ cK bR bA=>?_;simp[s,o,a,i,b,c];apply bA;refine fl.exit ?_;apply bt;rw[IB VW,nY] at C;obtain rfl:=fU C;rw[dk] at v
  try dsimp only at v
  apply bq;refine fl.sr [] λcL bB=>?_;have⟨w,D,X⟩:=dm v;replace D:=HC.c_ D;clear v
  try dsimp only at X
  have Y:eR (iU (List.length H) v78) x7 [sI w.aiu,sI w.aix,sI w.oG.aiu,sL Ty.av w.oG.aiv,sL (nC (List.length H)) w.aiv,sI w.size,sI w.free,sB true]=iU (List.length H) (js v78 x7 (HC.dz (dx.mk w.aiu w.aix w.oG w.aiv w.size w.free true))):=oV rfl;have Z:(js v78 x7 (HC.dz (dx.mk w.aiu w.aix w.oG w.aiv w.size w.free true)))[x7]?=some (HC.dz (dx.mk w.aiu w.aix w.oG w.aiv w.size w.free true)):=vx D;simp[s,o,a,i,D,Y,Z,b,c];apply bB;refine fl.sr [] λbS aD=>?_;simp[s,o,a,i,D,Y,Z,b,c];apply aD;refine fl.ret ?_;simp only[u9,GJ] at X;obtain⟨rfl,rfl,rfl⟩:=X;simp[uB,s,o,a,i,D,Y,Z,b,c]
 have i:=QV (l:=I.aiv) J VW;have⟨bT,aE,j⟩:=N7 (l:=I.aiv) J VW;rw[aE,dJ] at C;have⟨bU,F,A⟩:=dm C;clear C;rw[bs,<-J] at F
 try dsimp only at F
 refine fl.sr [] λbV aF=>?_;simp[s,o,a,i,j,b,c];apply aF;refine fl.td λbW aG=>?_;refine fl.sE λbX bY aH bI=>?_;simp[s,o,a,i,j,b,c];apply aH;refine fl.skip ?_;apply aG;refine fl.td λbZ aI=>?_;refine fl.yo λb0 aJ bJ bK ad=>?_;refine fl.sr [] λb1 aK=>?_;simp[s,o,a,i,j,b,c];apply aK;refine fl.sr [] λb2 aL=>?_;have⟨ay,b3,aM,aN,G⟩:=uN F;clear F
 try dsimp only at G
 simp[s,o,a,i,j,b,c];refine iq.fn (ih (H:=H) aN) ?_;simp[s,o,a,i,j,b,c];apply aL;refine fl.td λb4 aO=>?_;refine fl.sr [] λb5 aP=>?_;simp[s,o,a,i,j,b,c];apply aP;refine fl.sE λb6 b7 aQ aR=>?_;rcases gS G with⟨q,aS⟩|⟨q,M⟩
 .clear G;simp[s,o,a,i,j,b,c,q];apply aQ;refine fl.sr [] λb8 aT=>?_;simp[s,o,a,i,j,b,c,q];apply aT;refine fl.ret ?_;apply ad;apply ax;obtain rfl:=fU aS;rw[zu] at A;obtain rfl:=fU A;rw[pd] at v
  try dsimp only at v
  simp only[u9,GJ] at v;obtain⟨rfl,rfl,rfl⟩:=v;simp[uB,s,o,a,i,j,b,c,q]
 clear G;simp[s,o,a,i,j,b,c,q];apply aR;refine fl.skip ?_;apply aO;refine fl.sr [] λb9 aU=>?_;simp[s,o,a,i,j,b,c,q];apply aU;refine fl.sE λb_ b' aV aW=>?_;rcases gS M with⟨r,ae⟩|⟨r,aX⟩;rotate_left
 .clear M;simp[s,o,a,i,j,b,c,q,r];apply aW;refine fl.skip ?_;apply aJ;apply aI;refine fl.region [] adD ?_;simp[s,o,a,i,j,b,c,q,r];obtain rfl:=fU aX;rw[dQ] at A
  refine bw _ _ n75 (Vy _) ⟨(i76+1),(dF .i64 W 1),aM,?_,⟨?_,?_,?_,?_,?_⟩,(JI J VW aB),VW,A⟩<;>first|rfl|simp[s,o,a,i,j,b,c,q,r]
 clear M;simp[s,o,a,i,j,b,c,q,r];apply aV;refine fl.sr [] λca aY=>?_;have⟨K,t,N⟩:=dm ae;replace t:=HC.c_ t;clear ae
 try dsimp only at N
 have⟨aZ,af⟩:=j1 N;clear N;simp[s,o,a,i,j,t,b,c,q,r];refine rf.aaZ (f:=(nC (List.length H))) K.aiv Q5 ⟨_,XM⟩ (by intro x;simp) aZ (by first|rfl|simp) (by first|rfl|simp) λO bC=>?_;simp[s,o,a,i,j,t,b,c,q,r];apply aY;refine fl.sr [] λcb a6=>?_;have⟨bD,u,P⟩:=dm af;clear af
 try dsimp only at P
 have y:=FK u;simp[s,o,a,i,j,t,u,y,b,c,q,r];refine zd.arr (f:=(nC (List.length H))) (L:=K.aiv) (k:=((O-List.length K.aiv)*1)) ay ab1 (by intro x;simp) (by simp[s,o,a,i,j,t,u,y,b,c,q,r]) (x:=bD) (by assumption) (by simp[s,o,a,i,j,t,u,y,b,c,q,r]) (by simp[s,o,a,i,j,t,u,y,b,c,q,r]) (by simp[s,o,a,i,j,t,u,y,b,c,q,r]) ?_;simp[s,o,a,i,j,t,u,y,b,c,q,r];apply a6;refine fl.td λcc a7=>?_;refine fl.ae1 10 (f:=(nC (List.length H))) (L:=(wF K.aiv W ay)) (k:=((O-List.length K.aiv)*1)) (sz:=1) (d:=53) (g:=(bu.gen 53+1)) (cap:=O) (by intro x;simp) (by intro x;simp) (by simp[s,o,a,i,j,t,u,y,b,c,q,r]) (by simp[s,o,a,i,j,t,u,y,b,c,q,r]) (by simp[s,o,a,i,j,t,u,y,b,c,q,r]) ?_;refine fl.region [] adD ?_;have⟨cd,bL,a8,ah⟩:=gD P;clear P
 try dsimp only at ah
 simp[s,o,a,i,j,t,u,y,b,c,q,r];refine iq.fn (vm T (H:=H) a8) ?_;simp[s,o,a,i,j,t,u,y,b,c,q,r];apply a7;refine fl.ret ?_;apply ad;apply ax;obtain rfl:=fU ah;rw[zu] at A;obtain rfl:=fU A;rw[pd] at v
 try dsimp only at v
 simp only[u9,GJ] at v;obtain⟨rfl,rfl,rfl⟩:=v;simp[uB,s,o,a,i,j,t,u,y,b,c,q,r]
def Ct(T:dt){n:Nat}:=@Bl T n
def z'(T:dt){H:cZ}{a0:Option Nat}{nh:List HC}{q:Bool}{r:Int}{j:List HC}(hm:iE a0 nh=some (q,r,j)):ds prog T 263 [nC (List.length H) a0] (H++iU (List.length H) nh) (AV.tuple [sB q,sI r]) (H++iU (List.length H) j):=by
 rw[iE] at hm;have e:=trivial;refine wi aiz func263 [] [(1,true,[true,true,true,true,true,true,true,true,true,true,false,true,true,true,true,true])] 5 ?_;have m:=hm;refine sw [8,8] ?_;intro d t e m;have o:=HC.fF e.2;have e:=Aj e.1 o;refine sw [0,4] ?_;intro _ e m;have⟨c,s,b,e,m⟩:=Bo3 e m;simp[e];refine tK.fn (Ct T (H:=H) e.2) ?_;simp[e];refine wA 999 999 [4,5] [] (λf=>f.1 0=nC (List.length H) a0/\f.1 25=sB (ep (dw s 0) true (Option.isNone c))) [7,8] (λ_ g=>?_) ?_
 .exact aa
 intro _ a e m;have h:=HC.fF e.2;have e:=Aj e.1 h;have k:eR (iU (List.length H) b) d [nC (List.length H) c,sI a.steps]=iU (List.length H) (js b d (HC.eK (eB.mk c a.steps))):=oV rfl;have e:=Aj e k;have i:(js b d (HC.eK (eB.mk c a.steps)))[d]?=some (HC.eK (eB.mk c a.steps)):=vx h;have e:=Aj e i;have l:eR (iU (List.length H) (js b d (HC.eK (eB.mk c a.steps)))) d [nC (List.length H) c,sI (dF .i64 a.steps 1)]=iU (List.length H) (js (js b d (HC.eK (eB.mk c a.steps))) d (HC.eK (eB.mk c (dF .i64 a.steps 1)))):=oV rfl;have e:=Aj e l;have n:(js (js b d (HC.eK (eB.mk c a.steps))) d (HC.eK (eB.mk c (dF .i64 a.steps 1))))[d]?=some (HC.eK (eB.mk c (dF .i64 a.steps 1))):=vx i;have e:=Aj e n;exact au
@[reducible,instance] def Oy:=fM 263 @z'
def AL(T:dt):∀(n:Nat),(∀{H:cZ} {a0:Option Nat} {nh:List HC} {d:Tm} (hm:ib n a0 nh=some d),ds prog T 264 [nC (List.length H) a0] (H++iU (List.length H) nh) (Tm.av d) (H++iU (List.length H) nh)):=by
  intro n
  induction n with
  |zero=>
   skip
   all_goals(intro _ _;intros;rename_i hm;cases hm)
  |succ n ih=>
 intro H a0 nh d hm;rw[ib] at hm;have e:=trivial;refine wi aiz func264 [] [(1,true,[])] 999 ?_;have m:=hm;refine sw [8,8] ?_;intro q k e m;have h:=HC.c_ e.2;have e:=Aj e.1 h;refine sw [0,4,0] ?_;intro l e m;refine Td e m 999 25 [23,24] [2] [34] (λb=>b) (λb a f=>bx f 3 [sI k.aiu,sI k.aix,sI l.aiu,sL Ty.av l.aiv,sT a Tm.av b]) λr _ b i _ _ _ _ E e m z p=>?_;have⟨a,E,c⟩:=E;simp[e]at E;have e:=Aj e E;have o:=e;simp[e];refine lI m (ih (H:=H)) λj m=>?_;refine sw [9,0] ?_;intro e m;refine Ad (f:=Tm.av) b [j] c BC e.2 ?_;simp[e];cases m;exact p _ _ _ ⟨(.loc 34 (i.ef 34+1)),adg,(On 34)⟩ z
def BK(T:dt){n:Nat}:=@AL T n
@[reducible,instance] def Rn:=fM 264 @BK
def yC(T:dt):∀(n:Nat),(∀{H:cZ} {a0:Option Nat} {nh:List HC} {l:Bool} {c:List HC} (hm:iG n a0 nh=some (l,c)),ds prog T 265 [nC (List.length H) a0] (H++iU (List.length H) nh) (sB l) (H++iU (List.length H) c)):=by
  intro n
  induction n with
  |zero=>
   skip
   all_goals(intro _ _;intros;rename_i hm;cases hm)
  |succ n ih=>
 intro H a0 nh l c hm;rw[iG] at hm;have e:=trivial;refine wi aiz func265 [] [] 999 ?_;have m:=hm;refine sw [8,8] ?_;intro k q e m;have o:=HC.c_ e.2;have e:=Aj e.1 o;refine sw [7,0,1,7,0] ?_;intro _ e m;refine XC e m 999 (λr d f h=>h=H++iU (List.length H) d/\f.1 0=nC (List.length H) a0/\f.1 14=sL (nC (List.length H)) q.aiv/\f.1 15=sI (dq q.aiv)/\f.1 16=sI r) adg (λr _ d _ _ _ _ _ E e m z p=>?_) (λd _ _ _ E m=>?_)
 .have e:=Aj e E;have s:=e;simp[e];refine sy m (ih (H:=H)) λ_ t m=>?_;exact aa
 refine sw [10,11,8] ?_;intro a e m;have b:=HC.c_ e.2;have e:=Aj e.1 b;have i:eR (iU (List.length H) d) k [sI a.aiu,sI a.aix,sI a.oG.aiu,sL Ty.av a.oG.aiv,sL (nC (List.length H)) a.aiv,sI a.size,sI a.free,sB true]=iU (List.length H) (js d k (HC.dz (dx.mk a.aiu a.aix a.oG a.aiv a.size a.free true))):=oV rfl;have e:=Aj e i;have j:(js d k (HC.dz (dx.mk a.aiu a.aix a.oG a.aiv a.size a.free true)))[k]?=some (HC.dz (dx.mk a.aiu a.aix a.oG a.aiv a.size a.free true)):=vx b;have e:=Aj e j;exact au
def Aa(T:dt){n:Nat}:=@yC T n
@[reducible,instance] def Oq:=fM 265 @Aa
def E7(T:dt)(w:lT T){H:cZ}{a0:Tm}{a1:Int}{r:Tm}{s t:Int}(hm:jt a0 a1=some (r,s,t)):ds prog T 220 [Tm.av a0,sI a1] H (AV.tuple [Tm.av r,sI s,sI t]) H:=by
 rw[jt] at hm;refine ea.qT (Post:=λx K=>x=AV.tuple [Tm.av r,sI s,sI t]/\∃X,K=H++X) ?_ (λ_ _ h=>⟨_,h.2.choose_spec,by rw[h.1];simp[AV.low,AV.gH],h.1,rfl⟩);refine ea.nh0 (c:=HC.cells) ?_;have e:=w;refine wi aiz func220 [32] [(12,true,[]),(15,true,[])] 7 ?_;have m:=hm;refine sw [0,1,0,13] ?_;intro _ e m;apply wg 3;simp[e];refine WA m 999 999 [] [2,4] (λv3 f=>f.1 1=sI a1/\f.1 27=sB v3) [7,0,2] (λD _ g m=>?_) ?_
 .apply Iq e m<;>intro e m
  .exact hU
  apply Iq e m<;>intro e m
  .exact hU
  simp[e];refine p_ m (NP T) λ_ m=>?_;exact hU
 intro _ v3 q a e m;have b:iU (List.length H) a++[[nC (List.length H) q,sI 0]]=iU (List.length H) (a++[HC.eK (eB.mk q 0)]):=Jl rfl;have e:=Aj e b;have d:(a++[HC.eK (eB.mk q 0)])[(List.length a)]?=some (HC.eK (eB.mk q 0)):=Ru;have e:=Aj e d;simp[e];refine Wn m 3 (λi f h=>h=H++iU (List.length H) i/\f.1 1=sI a1/\f.1 8=AV.eb (List.length H+(List.length a)) 0/\bx f 4 [sI 0,sI 0,sI 0,nL,nL]) adg (λi _ _ _ _ _ E m z p=>?_);have e:=Aj e E;have j:=e;have⟨y,e,m⟩:=Ah e m;have k:=HC.fF e.2;have e:=Aj e.1 k;simp[e];apply Iq e m<;>intro e m
 .refine sg 999 [0,3,7] ?_;intro _ _ u e m;apply Iq e m<;>intro e m
  .exact al
  have⟨A,e,m⟩:=Ah e m;have l:=HC.fF e.2;have e:=Aj e.1 l;exact aa
 apply wg 2;simp[e];cases m;have m:=Qb z
 try dsimp only at m
 have e:=j;refine sg 999 [8] ?_;intro B e m;have n:=HC.fF e.2;have e:=Aj e.1 n;refine sw [0,2,12,8] ?_;intro _ v C e m;have o:=HC.fF e.2;have e:=Aj e.1 o;exact aa
@[reducible,instance] def TE:=fM 220 @E7
def Gh(T:dt)(b:lT T){H:cZ}{a0 a1:Tm}{a2 a:Int}(hm:ky a0 a1 a2=some a):ds prog T 163 [Tm.av a0,Tm.av a1,sI a2] H (sI a) H:=by
 rw[ky] at hm;have e:=b;refine wi aiz func163 [] [] 999 ?_;have m:=hm;exact aa
@[reducible,instance] def WH:=fM 163 @Gh
def Dy(T:dt)(b:lT T):∀(n:Nat),(∀{H:cZ} {a0:Fm} {a1:Fm} {a:Int} (hm:iP n a0 a1=some a),ds prog T 110 [Fm.av a0,Fm.av a1] H (sI a) H):=by
  intro n
  induction n with
  |zero=>
    skip
    all_goals(intro _ _;intros;rename_i hm;cases hm)
  |succ n ih=>
 intro H a0 a1 a hm;rw[iP] at hm;have e:=b;refine wi aiz func110 [] [] 3 ?_;simp[e];refine WA hm 999 999 [] [2,3] (λv2 f=>f.1 23=sB v2) [7,0] (λc _ g m=>?_) ?_
 .apply Iq e m<;>intro e m
  .exact hU
  simp[e];refine p_ m nV λ_ m=>?_;exact hU
 intro _ v2 e m;refine Wa e m 999 27 [25,26] [2,3] nI [11,0] ?_;intro _ _ e m;exact Wb e m 999 46 [44,45] [3] nI
def E4(T:dt)(a:lT T){n:Nat}:=@Dy T a n
@[reducible,instance] def TT:=fM 110 @E4
def xV(T:dt)(b:lT T){H:cZ}{a0 a1:Fm}{a:Int}(hm:ic a0 a1=some a):ds prog T 57 [Fm.av a0,Fm.av a1] H (sI a) H:=by
 rw[ic] at hm;have e:=b;refine wi aiz func57 [] [] 999 ?_;have m:=hm;exact aa
@[reducible,instance] def TN:=fM 57 @xV
def sV:C2 prog 200 eH cV.av cV.av (sL Ty.av):=by
 refine v2 func200 λT H a0 a1 r m e=>?_;rw[eH] at m;exact aa
@[reducible,instance] def Nh:=fM 200 @sV
def BE:C3 prog 201 iR Fm.av sI Ty.av Fm.av:=by
 refine v3 func201 λT H a0 a1 a2 r m e=>?_;rw[iR] at m;have e:=Aj e (show AV.agg [sI a0,sI a1.aiu,sL Ty.av a1.aiv,AV.slice .iB [],AV.slice .iB [Fm.av a2]]=Fm.av (Fm.mk a0 a1 [] [a2]) by rw[Fm.eJ];rfl);exact au
@[reducible,instance] def RD:=fM 201 @BE
def rq:C2 prog 202 eh (λn=>AV.sc (Value.int .u32 n)) (λn=>AV.sc (Value.int .u32 n)) sI:=by
 intro T H a0 a1 r hm;rw[eh] at hm;have e:=trivial;refine wi aiz func202 [] [] 999 ?_;have⟨e,m⟩:=Ck e hm;exact au
@[reducible,instance] def KO:=fM 202 @rq
def EF(T:dt){H:cZ}{a0 a1 a b:Int}{q0:Nat}(c:H[q0]?=some [AV.sc (.int .u32 a)])(hm:mL a0 a1 a=some b):ds prog T 250 [sI a0,sI a1,AV.eb q0 0] H (AV.tuple []) (eR H q0 [AV.sc (.int .u32 b)]):=by
 rw[mL] at hm;have d:=en c;refine ea.IC c ?_;have e:=d;refine wi aiz func250 [] [(1,false,[false,true,true,true,true,true,false])] 999 ?_;have m:=hm;refine sw [12,9] ?_;intro e m;exact au
def vE(T:dt){H:cZ}{a0:Tm}{a:Int}(hm:jc a0=some a):ds prog T 204 [Tm.av a0] H (AV.sc (.int .u32 a)) H:=by
 rw[jc] at hm;refine ea.qT (Post:=λx K=>x=AV.sc (.int .u32 a)/\∃X,K=H++X) ?_ (λ_ _ h=>⟨_,h.2.choose_spec,by rw[h.1];simp[AV.low,AV.gH],h.1,rfl⟩);have e:=trivial;refine wi aiz func204 [3] [] 999 ?_;simp[e];refine p_ hm (y_ T (st:=λs:Int=>H++[[AV.sc (.int .u32 s)]]) (y7.Vc H (λs:Int=>[[AV.sc (.int .u32 s)]]) 1 (λ_=>rfl) (by simp[AV.low,AV.gH])) (λX s _ _ b h=>by have:=EF T (H:=H++[[AV.sc (.int .u32 s)]]++X) (q0:=(List.length H)) adg h;simpa using this)) λ_ m=>?_;exact au
@[reducible,instance] def Xy:=fM 204 @vE
def tq:C2 prog 205 gk sB cR.av Ty.av:=by
 refine v2 func205 λT H a0 a1 r m e=>?_;rw[gk] at m;exact aa
@[reducible,instance] def Ox:=fM 205 @tq
def FQ(T:dt){H:cZ}{a0 a1 a b c:Int}{q0 q1:Nat}(d:H[q0]?=some [sI a])(f:H[q1]?=some [sI b])(h:q0≠q1)(hm:nM a0 a1 a b=some c):ds prog T 316 [sI a0,sI a1,AV.eb q0 0,AV.eb q1 0] H (AV.tuple []) (eR H q1 [sI c]):=by
 rw[nM] at hm;have i:=en d;have j:=en f;refine ea.IC f ?_;have e:=Aj (Aj (Aj (Aj i d) j) h) h.symm;refine wi aiz func316 [] [] 999 ?_;have m:=hm;exact aa
def BU(T:dt){H:cZ}{a0:Tm}{a1 a:Int}(hm:r8 a0 a1=some a):ds prog T 292 [Tm.av a0,sI a1] H (sI a) H:=by
 rw[r8] at hm;refine ea.qT (Post:=λx K=>x=sI a/\∃X,K=H++X) ?_ (λ_ _ h=>⟨_,h.2.choose_spec,by rw[h.1];simp[AV.low,AV.gH],h.1,rfl⟩);have e:=trivial;refine wi aiz func292 [3,5] [] 999 ?_;simp[e];refine p_ hm (y_ T (st:=λs:Int=>H++[[sI a1],[sI s]]) (y7.Vc H (λs:Int=>[[sI a1],[sI s]]) 2 (λ_=>rfl) (by simp[AV.low,AV.gH])) (λX s _ _ b h=>by have:=FQ T (H:=H++[[sI a1],[sI s]]++X) (q0:=(List.length H)) (q1:=(List.length H+1)) adg adg adg h;simpa using this)) λ_ m=>?_;exact au
@[reducible,instance] def X_:=fM 292 @BU
def ye(T:dt){H:cZ}{a0:Tm}{a1 a b c:Int}{q0 q1:Nat}(d:H[q0]?=some [sI a])(f:H[q1]?=some [sI b])(h:q0≠q1)(hm:iD a0 a1 a b=some c):ds prog T 291 [Tm.av a0,sI a1,AV.eb q0 0,AV.eb q1 0] H (AV.tuple []) (eR H q0 [sI c]):=by
 rw[iD] at hm;have i:=en d;have j:=en f;refine ea.IC d ?_;have e:=Aj (Aj (Aj (Aj i j) f) h) h.symm;refine wi aiz func291 [] [(1,true,[true,true,true,true,true,true,true,false])] 999 ?_;have m:=hm;exact aa
def CX(T:dt):∀(n:Nat),(∀{S:Type} {st:S->cZ} {k:Nat} {a0:Fm} {a1:Int} {a2:(S->Tm->Int->Option (S))} {b:S} {c:S} {g2:Nat} {a:List AV} (hF:y7 st k) (d:FF T g2 a st a2) (hm:mI n a0 a1 a2 b=some c),ds prog T 290 [Fm.av a0,sI a1,AV.func (.func g2) [] a] (st b) (AV.tuple []) (st c)):=by
  intro n
  induction n with
  |zero=>
    skip
    all_goals(intro _ _;intros;rename_i hm;cases hm)
  |succ n ih=>
 intro S st k a0 a1 a2 b c g2 a hF d hm;rw[mI] at hm;have e:=hF.len;refine wi aiz func290 [] [] 999 ?_;simp[e];refine XC e hm 0 (λo s2 f h=>h=st s2/\f.1 1=sI a1/\f.1 2=AV.func (.func g2) [] a/\f.1 11=sL Tm.av a0.dc/\f.1 12=sI (dq a0.dc)/\f.1 13=sI o/\bx f 3 (Fm.av a0).cells) adg (λo _ s2 _ _ _ _ _ E e m z p=>?_) (λs2 _ _ _ E m=>?_)
 .have e:=Aj e E;refine sg 999 [8,0] ?_;intro q e m;refine iq.Rb adL (FF.SO d e.2) ?_;exact al
 have e:=Aj e E;refine sg 5 [11,0] ?_;intro e m;refine WA m 999 999 [] [] (λi f=>f.1 1=sI i/\f.1 2=AV.func (.func g2) [] a/\f.1 3=AV.gv 3 (f.gen 3) 0/\f.box 3=some (Fm.av a0).cells) [0] (λr _ g m=>?_) ?_
 .simp[e];refine p_ m vg λ_ m=>?_;apply Ir e m<;>intro e m
  .exact hU
  exact hU
 intro _ i e m;refine Wr e m 999 (λl j f h=>h=st j/\f.1 1=sI i/\f.1 2=AV.func (.func g2) [] a/\f.1 28=sL Fm.av a0.aiv/\f.1 29=sI (dq a0.aiv)/\f.1 30=sI l) adg (λj _ _ _ E m=>?_) (λl _ j _ _ _ _ _ E e m z p=>?_)
 .exact aa
 have e:=Aj e E;simp[e];refine p_ m (ih hF d) λ_ m=>?_;exact al
def E8(T:dt){n:Nat}:=@CX T n
def pV(T:dt){H:cZ}{a0:Fm}{a1 a:Int}(hm:jw a0 a1=some a):ds prog T 252 [Fm.av a0,sI a1] H (sI a) H:=by
 rw[jw] at hm;refine ea.qT (Post:=λx K=>x=sI a/\∃X,K=H++X) ?_ (λ_ _ h=>⟨_,h.2.choose_spec,by rw[h.1];simp[AV.low,AV.gH],h.1,rfl⟩);have e:=trivial;refine wi aiz func252 [3,5] [] 999 ?_;simp[e];refine p_ hm (E8 T (st:=λs:Int=>H++[[sI a1],[sI s]]) (y7.Vc H (λs:Int=>[[sI a1],[sI s]]) 2 (λ_=>rfl) (by simp[AV.low,AV.gH])) (λX s _ _ b h=>by have:=ye T (H:=H++[[sI a1],[sI s]]++X) (q0:=(List.length H+1)) (q1:=(List.length H)) adg adg adg h;simpa using this)) λ_ m=>?_;exact au
@[reducible,instance] def Oh:=fM 252 @pV
def Kb(T:dt){H:cZ}{a0 a1 b:Int}{a i:Tm}{q0 q1:Nat}(c:H[q0]?=some [sI b])(d:H[q1]?=some [sI a.aiu,sI a.aix,sI a.cT.aiu,sL Ty.av a.cT.aiv,sL Tm.av a.aiv])(hm:nD a0 a1 b a=some i):ds prog T 317 [sI a0,sI a1,AV.eb q0 0,AV.eb q1 0] H (Tm.av i) H:=by
 rw[nD] at hm;have f:=en c;have h:=en d;have e:=Aj (Aj (Aj f c) h) d;refine wi aiz func317 [] [] 999 ?_;have m:=hm;exact aa
def PT(T:dt){H:cZ}{a0:Tm}{a1:Int}{a2 a:Tm}(hm:yS a0 a1 a2=some a):ds prog T 294 [Tm.av a0,sI a1,Tm.av a2] H (Tm.av a) H:=by
 rw[yS] at hm;refine ea.qT (Post:=λx K=>x=Tm.av a/\∃X,K=H++X) ?_ (λ_ _ h=>⟨_,h.2.choose_spec,by rw[h.1];simp[AV.low,AV.gH],h.1,rfl⟩);have e:=trivial;refine wi aiz func294 [4,5] [] 999 ?_;simp[e];refine sy hm (y0 T (st:=λ_:Unit=>H++[[sI a1],[sI a2.aiu,sI a2.aix,sI a2.cT.aiu,sL Ty.av a2.cT.aiv,sL Tm.av a2.aiv]]) (y7.const _) (λX _ _ _ _ _ h=>by obtain⟨b,rfl⟩:=oZ h;exact Kb T (q0:=(List.length H)) (q1:=(List.length H+1)) adg adg b)) λ_ _ m=>?_;exact au
@[reducible,instance] def ab4:=fM 294 @PT
def Al(T:dt){H:cZ}{a0:Tm}{a1 b:Int}{a i:Tm}{q0 q1:Nat}(c:H[q0]?=some [sI b])(d:H[q1]?=some [sI a.aiu,sI a.aix,sI a.cT.aiu,sL Ty.av a.cT.aiv,sL Tm.av a.aiv])(hm:hE a0 a1 b a=some i):ds prog T 293 [Tm.av a0,sI a1,AV.eb q0 0,AV.eb q1 0] H (Tm.av i) H:=by
 rw[hE] at hm;have f:=en c;have h:=en d;have e:=Aj (Aj (Aj f c) h) d;refine wi aiz func293 [] [] 999 ?_;have m:=hm;exact aa
def ra(T:dt){H:cZ}{a0:Fm}{a1:Int}{a2:Tm}{a:Fm}(hm:jU a0 a1 a2=some a):ds prog T 253 [Fm.av a0,sI a1,Tm.av a2] H (Fm.av a) H:=by
 rw[jU] at hm;refine ea.qT (Post:=λx K=>x=Fm.av a/\∃X,K=H++X) ?_ (λ_ _ h=>⟨_,h.2.choose_spec,by rw[h.1];simp[AV.low,AV.gH],h.1,rfl⟩);have e:=trivial;refine wi aiz func253 [4,5] [] 999 ?_;simp[e];refine sy hm (lR T (st:=λ_:Unit=>H++[[sI a1],[sI a2.aiu,sI a2.aix,sI a2.cT.aiu,sL Ty.av a2.cT.aiv,sL Tm.av a2.aiv]]) (y7.const _) (λX _ _ _ _ _ h=>by obtain⟨b,rfl⟩:=oZ h;exact Al T (q0:=(List.length H)) (q1:=(List.length H+1)) adg adg b)) λ_ _ m=>?_;exact au
@[reducible,instance] def Q8:=fM 253 @ra
def Cg(T:dt)(c:lT T){H:cZ}{a0:Fm}{a1:Tm}{a:Fm}{b:Int}(hm:hB a0 a1=some (a,b)):ds prog T 206 [Fm.av a0,Tm.av a1] H (AV.tuple [Fm.av a,sI b]) H:=by
 rw[hB] at hm;have e:=c;refine wi aiz func206 [] [] 999 ?_;have m:=hm;exact aa
@[reducible,instance] def YU:=fM 206 @Cg
def xS:C1 prog 207 pq (λn=>AV.sc (Value.int .u32 n)) Tm.av:=by
 intro T H a0 r hm;rw[pq] at hm;have e:=trivial;refine wi aiz func207 [] [] 999 ?_;cases hm;simp[e]
@[reducible,instance] def KS:=fM 207 @xS
def A_(T:dt)(h:lT T){H:cZ}{a0:Tm}{a1 a:Int}{f:Tm}{b:Int}{q0:Nat}(c:H[q0]?=some [sI a])(hm:jb a0 a1 a=some (f,b)):ds prog T 254 [Tm.av a0,sI a1,AV.eb q0 0] H (Tm.av f) (eR H q0 [sI b]):=by
 rw[jb] at hm;have d:=en c;refine ea.IC c ?_;have e:=Aj h d;refine wi aiz func254 [] [] 999 ?_;have m:=hm;exact aa
def DL(T:dt)(c:lT T){H:cZ}{a0 a:Fm}{b:Int}(hm:lF a0=some (a,b)):ds prog T 209 [Fm.av a0] H (AV.tuple [Fm.av a,sI b]) H:=by
 rw[lF] at hm;refine ea.qT (Post:=λx K=>x=AV.tuple [Fm.av a,sI b]/\∃X,K=H++X) ?_ (λ_ _ h=>⟨_,h.2.choose_spec,by rw[h.1];simp[AV.low,AV.gH],h.1,rfl⟩);have e:=c;refine wi aiz func209 [4] [(6,true,[])] 999 ?_;simp[e];refine p_ hm (pV T) λ_ m=>?_;apply Iq e m<;>intro e m
 .simp[e];refine p_ m (ra T) λ_ m=>?_;exact au
 simp[e];refine sy m (lR T (st:=λs:Int=>H++[[sI s]]) (y7.Vc H (λs:Int=>[[sI s]]) 1 (λ_=>rfl) (by simp[AV.low,AV.gH])) (λX s _ _ _ d h=>by have:=A_ T c (H:=H++[[sI s]]++X) (q0:=(List.length H)) adg h;simpa using this)) λ_ _ m=>?_;refine sw [7,0] ?_;intro e m;refine p_ m (pV T) λ_ m=>?_;refine sw [7,0] ?_;intro e m;refine p_ m (ra T) λ_ m=>?_;exact au
@[reducible,instance] def RW:=fM 209 @DL
def SS:C2 prog 255 qf Tm.av sI (sL Tm.av):=by
 refine v2 func255 λT H a0 a1 r m e=>?_;rw[qf] at m;exact au
@[reducible,instance] def adF:=fM 255 @SS
def zb:C1 prog 210 ql dL.av sI:=by
 refine v1 func210 λT H a0 r m e=>?_;rw[ql] at m;apply Iq e m<;>intro e m
 .refine sw [0,1,0,1,0,1,0,1] ?_;intro b f _ c e m;have e:=Aj e (show AV.agg [sI 1,sI b.aiu,sI b.aix,sI b.cT.aiu,sL Ty.av b.cT.aiv,sL Tm.av b.aiv,AV.slice .iB [Ty.av f],sI c.aiu,sI c.aix,sI c.cT.aiu,sL Ty.av c.cT.aiv,sL Tm.av c.aiv]=dL.av (dL.mk 1 b [f] c) by rw[dL.eJ];rfl);exact au
 refine sw [0,1,0,1,0,1,0,1,0,1,0,1] ?_;intro d h i _ _ a e m;have e:=Aj e (show AV.agg [sI 2,sI d.aiu,sI d.aix,sI d.cT.aiu,sL Ty.av d.cT.aiv,sL Tm.av d.aiv,AV.slice .iB [Ty.av h,Ty.av i],sI a.aiu,sI a.aix,sI a.cT.aiu,sL Ty.av a.cT.aiv,sL Tm.av a.aiv]=dL.av (dL.mk 2 d [h,i] a) by rw[dL.eJ];rfl);exact au
@[reducible,instance] def Mz:=fM 210 @zb
def Fe:C2 prog 212 p4 Fm.av Tm.av Tm.av:=by
 refine v2 func212 λT H a0 a1 r m e=>?_;rw[p4] at m;have e:=Aj e (show AV.agg [sI 1,sI 0,AV.slice .iB [],AV.slice .iB [Tm.av a0,Tm.av a1],AV.slice .iB []]=Fm.av (Fm.mk 1 (Ty.mk 0 []) [a0,a1] []) by rw[Fm.eJ];rfl);exact au
@[reducible,instance] def Tw:=fM 212 @Fe
def ya(T:dt){H:cZ}{a0:List Fm}{a1:Pf}{a2:cV}{b:cP}{c:Int}{d:Nat}(a:KC H d a0)(hm:mR a0 a1 a2=some (b,c)):ds prog T 156 [AV.eb d 0,Pf.av a1,cV.av a2] H (AV.tuple [cP.av b,sI c]) H:=by
 rw[mR] at hm;have e:=a;refine wi aiz func156 [] [] 999 ?_;have m:=hm;exact aa
def QB:C2 prog 215 rE Tm.av Tm.av (sL Tm.av):=by
 refine v2 func215 λT H a0 a1 r m e=>?_;rw[rE] at m;simp[e];refine Wr e m 999 (λd s2 f h=>h=H/\f.1 7=sL Tm.av a1/\f.1 8=sI (dq a1)/\f.1 9=sI d/\bx f 2 [sI s2.1,sI s2.2.1,sI s2.2.2.1,sL Ty.av s2.2.2.2.1,sL Tm.av s2.2.2.2.2]/\bx f 4 [sI 0,sI 0,sI 0,nL,nL]) adg (λs2 _ _ _ E m=>?_) (λd _ s2 _ _ _ _ _ E e m z p=>?_)
 .have⟨v11,v12,a,b,c⟩:=s2;have e:=Aj e E;dsimp only[dk,F_]at m;exact au
 have⟨v11,v12,a,b,c⟩:=s2;have e:=Aj e E;dsimp only[F_]at m;exact aa
@[reducible,instance] def acS:=fM 215 @QB
def Jb:C1 prog 319 s7 (t2 sI sI) sB:=by
 refine v1 func319 λT H a0 r m e=>?_;rw[s7] at m;exact aa
@[reducible,instance] def WX:=fM 319 @Jb
def Qj:C2 prog 341 uk Tm.av Tm.av (sL Ty.av):=by
 refine v2 func341 λT H a0 a1 r m e=>?_;rw[uk] at m;simp[e];refine Wn m 999 (λs1 f h=>∃a,h=H/\f.1 1=sL Ty.av a1/\f.1 5=sI s1.1/\bx f 2 [sI s1.2.1,sI s1.2.2.1,sI s1.2.2.2.1,sL Ty.av s1.2.2.2.2.1,sT a Tm.av s1.2.2.2.2.2]/\bx f 4 [sI 0,sI 0,sI 0,nL,nL]) ⟨.iB,adg⟩ (λs1 _ _ _ _ _ E m z p=>?_);have⟨v9,v10,v11,v12,b,c⟩:=s1;have⟨a,E⟩:=E;have e:=Aj e E;dsimp only[yu]at m;apply Ir e m<;>intro e m
 .cases m;have m:=Qb z;dsimp only[yu]at m;exact au
 refine sw [8,0] ?_;intro d e m;cases m;exact p _ _ _ ⟨.full,adg⟩ z
@[reducible,instance] def ac0:=fM 341 @Qj
def Pl:C5 prog 342 yQ Tm.av sI Ty.av Tm.av Tm.av Tm.av:=by
 refine v5 func342 λT H a0 a1 a2 a3 a4 r m e=>?_;rw[yQ] at m;have e:=Aj e (show AV.agg [sI a0,sI 0,sI a1.aiu,sL Ty.av a1.aiv,AV.slice .iB [Tm.av a2,Tm.av a3,Tm.av a4]]=Tm.av (Tm.mk a0 0 a1 [a2,a3,a4]) by rw[Tm.eJ];rfl);exact au
@[reducible,instance] def aa5:=fM 342 @Pl
def BP:C3 prog 337 l8 Tm.av Tm.av Tm.av Tm.av:=by
 refine v3 func337 λT H a0 a1 a2 r m e=>?_;rw[l8] at m;exact aa
@[reducible,instance] def Ra:=fM 337 @BP
def KF:C0 prog 338 uf Tm.av:=by
 refine v0 func338 λT H r m e=>?_;rw[uf] at m;exact aa
@[reducible,instance] def XP:=fM 338 @KF
def MJ:C1 prog 336 zJ Tm.av Tm.av:=by
 refine v1 func336 λT H a0 r m e=>?_;rw[zJ] at m;exact aa
@[reducible,instance] def aaa:=fM 336 @MJ
def Nu:C0 prog 332 vZ Tm.av:=by
 refine v0 func332 λT H r m e=>?_;rw[vZ] at m;exact aa
@[reducible,instance] def aaC:=fM 332 @Nu
def J_:C2 prog 321 uH Fm.av Tm.av Tm.av:=by
 refine v2 func321 λT H a0 a1 r m e=>?_;rw[uH] at m;exact aa
def Bi{n:Nat}:C2 prog 320 (kf n) sB Fm.av Fm.av:=by
 refine i2 λn ih=>u2 3 func320 λT H a0 a1 r m e=>?_;rw[kf] at m;simp[e];refine WA m 999 999 [] [2,3] (λv2 f=>f.1 39=sB v2) [7,0] (λa _ g m=>?_) ?_
 .apply Iq e m<;>intro e m
  .exact hU
  simp[e];refine p_ m nV λ_ m=>?_;apply Ir e m<;>intro e m
  .exact hU
  apply Iq e m<;>intro e m
  .exact hU
  exact hU
 intro _ v2 e m;refine Wa e m 999 43 [41,42] [2,3] nI [11,0] ?_;intro _ _ e m;exact Wb e m 999 60 [58,59] [3] nI
def HV(T:dt){H:cZ}{a0:Fm}{b:Bool}{c:Tm}{d:Fm}{h:Bool}(hm:sA a0=some (b,c,d,h)):ds prog T 297 [Fm.av a0] H (AV.tuple [sB b,Tm.av c,Fm.av d,sB h]) H:=by
 rw[sA] at hm;have e:=trivial;refine wi aiz func297 [] [] 7 ?_;have m:=hm;refine sw [0,2,0] ?_;intro _ _ e m;refine WA m 999 0 [6] [1,3,4] (λv4 f=>f.1 48=sB v4) [13] (λo _ g m=>?_) ?_
 .apply Iq e m<;>intro e m
  .exact hU
  apply Iq e m<;>intro e m
  .exact hU
  have⟨q,e,m⟩:=Ah e m;apply Iq e m<;>intro e m
  .exact hU
  have⟨r,e,m⟩:=Ah e m;exact hU
 intro _ v4 e m;refine sg 7 [8,8,8,0] ?_;intro i j k e m;refine WB m 999 999 [6] [1,3,4,10] (λa f=>f.1 83=sB a) λl _ g m=>?_;apply Iq e m<;>intro e m
 .exact hU
 refine sw [8,0] ?_;intro n e m;refine lI m (BU T) λ_ m=>?_;apply Iq e m<;>intro e m
 .exact hU
 simp[e];refine lI m Hq λ_ m=>?_;simp[e];refine lI m J_ λ_ m=>?_;simp[e];refine lI m Bi λ_ m=>?_;exact hU
def NU:∀(n:Nat),C1 prog 259 (mU n) (λn=>AV.sc (Value.int .u8 n)) Fm.av:=by
  intro n
  induction n with
  |zero=>
    skip
    all_goals(intro _ _;intros;rename_i hm;cases hm)
  |succ n ih=>
 intro T H a0 r hm;rw[mU] at hm;have e:=trivial;refine wi aiz func259 [] [] 5 ?_;have m:=hm;refine sw [0,13] ?_;intro e m;refine sg 4 [8,0,15,0] ?_;intro o b e m;refine Ep m 3 2 (λc f h=>∃v4,(h=H/\f.1 3=AV.sc (.int .u8 v4)/\bx f 1 (Fm.av a0).cells)/\c v4=some r) ?_ (λc _ g m=>?_)
 .rintro _ _ ⟨v4,E,m⟩;have e:=Aj e E;simp[e];refine WB m 999 999 [] [] (λv9 f=>f.1 6=AV.sc (.int .u8 v9)) λq _ g m=>?_;have⟨d,i,j,k,e,m⟩:=Bo4 e m;simp[e];refine Cf (HV T e.2) ?_;apply Ir e m<;>intro e m
  .exact hU
  refine sw [0,15] ?_;intro _ e m;exact hU
 simp[e];refine wj 999 0 (λf h=>h=H/\f.1 3=AV.sc (.int .u8 b)/\f.1 24=sI a0.aiu/\f.1 25=sB (ep (dj a0.aiu 2) true (dj a0.aiu 3))/\bx f 1 (Fm.av a0).cells) (λ_ g=>?_) ?_
 .rcases Pb (dj a0.aiu 2) e with e|e
  .exact aj
  exact aj
 rintro _ _ E;have e:=Aj e E;apply Ir e m<;>intro e m
 .apply wg 999;apply Ir e m<;>intro e m
  .exact hU
  exact hU
 refine sg 5 [8,0,15,0] ?_;intro l a e m;refine wjs 2 999 (λf h=>h=H/\f.1 3=AV.sc (.int .u8 (ep (dj a0.aiu 2) (xK .u8 b a) b))/\f.1 5=AV.sc (.int .u8 (qi .u8 (qi .u8 a b) 6))) ?_ (λ_ g=>?_)
 .rintro _ _ E;exact aa
 simp[e];rcases Pb (dj a0.aiu 2) e with e|e
 .apply wg 999;exact aj
 apply wg 999;exact aj
def Pu{n:Nat}:=@NU n
@[reducible,instance] def abq:=fM 259 @Pu
def N8(T:dt)(c:lT T){H:cZ}{a0:Fm}{a1:Int}{a:Bool}{b:Int}(hm:zS a0 a1=some (a,b)):ds prog T 217 [Fm.av a0,AV.sc (.int .u8 a1)] H (AV.tuple [sB a,sI b]) H:=by
 rw[zS] at hm;have e:=c;refine wi aiz func217 [] [] 999 ?_;have m:=hm;exact aa
@[reducible,instance] def ZW:=fM 217 @N8
def EA(T:dt)(c:lT T){H:cZ}{a0:Fm}{a:Bool}{b:Int}(hm:oc a0=some (a,b)):ds prog T 159 [Fm.av a0] H (AV.tuple [sB a,sI b]) H:=by
 rw[oc] at hm;have e:=c;refine wi aiz func159 [] [] 999 ?_;have m:=hm;exact aa
@[reducible,instance] def Tu:=fM 159 @EA
def wK(T:dt)(i:lT T):∀(n:Nat),(∀{H:cZ} {a0:List Fm} {a1:Pf} {a2:cV} {d:cP} {h:Int} {c:Nat} (a:KC H c a0) (hm:dN n a0 a1 a2=some (d,h)),ds prog T 107 [AV.eb c 0,Pf.av a1,cV.av a2] H (AV.tuple [cP.av d,sI h]) H)/\(∀{H:cZ} {a0:List Fm} {a1:Pf} {a2:cV} {d:cP} {h:Int} {c:Nat} (a:KC H c a0) (hm:jP n a0 a1 a2=some (d,h)),ds prog T 147 [AV.eb c 0,Pf.av a1,cV.av a2] H (AV.tuple [cP.av d,sI h]) H)/\(∀{H:cZ} {a0:List Fm} {a1:Pf} {a2:cV} {d:cP} {h:Int} {c:Nat} (a:KC H c a0) (hm:gq n a0 a1 a2=some (d,h)),ds prog T 148 [AV.eb c 0,Pf.av a1,cV.av a2] H (AV.tuple [cP.av d,sI h]) H)/\(∀{H:cZ} {a0:List Fm} {a1:Pf} {a2:cV} {d:cP} {h:Int} {c:Nat} (a:KC H c a0) (hm:jO n a0 a1 a2=some (d,h)),ds prog T 149 [AV.eb c 0,Pf.av a1,cV.av a2] H (AV.tuple [cP.av d,sI h]) H)/\(∀{H:cZ} {a0:List Fm} {a1:Pf} {a2:cV} {d:cP} {h:Int} {c:Nat} (a:KC H c a0) (hm:jR n a0 a1 a2=some (d,h)),ds prog T 150 [AV.eb c 0,Pf.av a1,cV.av a2] H (AV.tuple [cP.av d,sI h]) H)/\(∀{H:cZ} {a0:List Fm} {a1:Pf} {a2:cV} {d:cP} {h:Int} {c:Nat} (a:KC H c a0) (hm:gb n a0 a1 a2=some (d,h)),ds prog T 151 [AV.eb c 0,Pf.av a1,cV.av a2] H (AV.tuple [cP.av d,sI h]) H)/\(∀{H:cZ} {a0:List Fm} {a1:Pf} {a2:cV} {d:cP} {h:Int} {c:Nat} (a:KC H c a0) (hm:gd n a0 a1 a2=some (d,h)),ds prog T 152 [AV.eb c 0,Pf.av a1,cV.av a2] H (AV.tuple [cP.av d,sI h]) H)/\(∀{H:cZ} {a0:List Fm} {a1:Pf} {a2:cV} {d:cP} {h:Int} {c:Nat} (a:KC H c a0) (hm:gn n a0 a1 a2=some (d,h)),ds prog T 153 [AV.eb c 0,Pf.av a1,cV.av a2] H (AV.tuple [cP.av d,sI h]) H)/\(∀{H:cZ} {a0:List Fm} {a1:Pf} {a2:cV} {d:cP} {h:Int} {c:Nat} (a:KC H c a0) (hm:gm n a0 a1 a2=some (d,h)),ds prog T 154 [AV.eb c 0,Pf.av a1,cV.av a2] H (AV.tuple [cP.av d,sI h]) H)/\(∀{H:cZ} {a0:List Fm} {a1:Pf} {a2:cV} {d:cP} {h:Int} {c:Nat} (a:KC H c a0) (hm:j5 n a0 a1 a2=some (d,h)),ds prog T 155 [AV.eb c 0,Pf.av a1,cV.av a2] H (AV.tuple [cP.av d,sI h]) H)/\(∀{H:cZ} {a0:List Fm} {a1:Pf} {a2:cV} {d:cP} {h:Int} {c:Nat} (a:KC H c a0) (hm:jh n a0 a1 a2=some (d,h)),ds prog T 157 [AV.eb c 0,Pf.av a1,cV.av a2] H (AV.tuple [cP.av d,sI h]) H)/\(∀{H:cZ} {a0:List Fm} {a1:Pf} {a2:cV} {d:cP} {h:Int} {c:Nat} (a:KC H c a0) (hm:jZ n a0 a1 a2=some (d,h)),ds prog T 158 [AV.eb c 0,Pf.av a1,cV.av a2] H (AV.tuple [cP.av d,sI h]) H)/\(∀{H:cZ} {a0:List Fm} {a1:Pf} {a2:cV} {a3:Int} {d:cP} {h:Int} {c:Nat} (a:KC H c a0) (hm:dI n a0 a1 a2 a3=some (d,h)),ds prog T 198 [AV.eb c 0,Pf.av a1,cV.av a2,sI a3] H (AV.tuple [cP.av d,sI h]) H)/\(∀{H:cZ} {a0:List Fm} {a1:Pf} {a2:cV} {a3:Fm} {a4:Tm} {d:cP} {h:Int} {c:Nat} (a:KC H c a0) (hm:dM n a0 a1 a2 a3 a4=some (d,h)),ds prog T 208 [AV.eb c 0,Pf.av a1,cV.av a2,Fm.av a3,Tm.av a4] H (AV.tuple [cP.av d,sI h]) H):=by
  intro n
  induction n with
  |zero=>
    refine⟨?_,?_,?_,?_,?_,?_,?_,?_,?_,?_,?_,?_,?_,?_⟩
    all_goals(intro _ _;intros;rename_i hm;cases hm)
  |succ n ih=>
 refine⟨?_,?_,?_,?_,?_,?_,?_,?_,?_,?_,?_,?_,?_,?_⟩
 .intro H a0 a1 a2 d h c a hm;rw[dN] at hm;have e:=Aj i a;refine wi aiz func107 [] [(1,true,[])] 7 ?_;have A:tv prog H 159 (AV.kT (c-1)) (sI a1.aiu) false=some (Kf a1.aiu):=OS a.2;have e:=Aj e A;have⟨j,L,e,m⟩:=Bo2 e hm;simp[e];refine jA.val (r:=AV.tuple [cP.av j,sI L]) (H':=H) ?_ acZ ?_
  .have b:=e.2;rcases wb (dj a1.aiu 1=true)with hk|hk
   .rw[cS hk] at b;rw[hR hk adL];exact ng (zf T a b)
   rw[cO hk] at b;rcases wb (dj a1.aiu 2=true)with hk|hk
   .rw[cS hk] at b;rw[hR hk adL];exact ng (xG T a b)
   rw[cO hk] at b;rcases wb (dj a1.aiu 3=true)with hk|hk
   .rw[cS hk] at b;rw[hR hk adL];exact ng (ih.2.1 a b)
   rw[cO hk] at b;rcases wb (dj a1.aiu 4=true)with hk|hk
   .rw[cS hk] at b;rw[hR hk adL];exact ng (ih.2.2.1 a b)
   rw[cO hk] at b;rcases wb (dj a1.aiu 5=true)with hk|hk
   .rw[cS hk] at b;rw[hR hk adL];exact ng (ih.2.2.1 a b)
   rw[cO hk] at b;rcases wb (dj a1.aiu 6=true)with hk|hk
   .rw[cS hk] at b;rw[hR hk adL];exact ng (ih.2.2.2.1 a b)
   rw[cO hk] at b;rcases wb (dj a1.aiu 7=true)with hk|hk
   .rw[cS hk] at b;rw[hR hk adL];exact ng (ih.2.2.2.2.1 a b)
   rw[cO hk] at b;rcases wb (dj a1.aiu 8=true)with hk|hk
   .rw[cS hk] at b;rw[hR hk adL];exact ng (ih.2.2.2.2.2.1 a b)
   rw[cO hk] at b;rcases wb (dj a1.aiu 12=true)with hk|hk
   .rw[cS hk] at b;rw[hR hk adL];exact ng (ih.2.2.2.2.2.1 a b)
   rw[cO hk] at b;rcases wb (dj a1.aiu 9=true)with hk|hk
   .rw[cS hk] at b;rw[hR hk adL];exact ng (ih.2.2.2.2.2.2.1 a b)
   rw[cO hk] at b;rcases wb (dj a1.aiu 13=true)with hk|hk
   .rw[cS hk] at b;rw[hR hk adL];exact ng (ih.2.2.2.2.2.2.1 a b)
   rw[cO hk] at b;rcases wb (dj a1.aiu 10=true)with hk|hk
   .rw[cS hk] at b;rw[hR hk adL];exact ng (ih.2.2.2.2.2.2.2.1 a b)
   rw[cO hk] at b;rcases wb (dj a1.aiu 14=true)with hk|hk
   .rw[cS hk] at b;rw[hR hk adL];exact ng (ih.2.2.2.2.2.2.2.1 a b)
   rw[cO hk] at b;rcases wb (dj a1.aiu 11=true)with hk|hk
   .rw[cS hk] at b;rw[hR hk adL];exact ng (ih.2.2.2.2.2.2.2.2.1 a b)
   rw[cO hk] at b;rcases wb (dj a1.aiu 15=true)with hk|hk
   .rw[cS hk] at b;rw[hR hk adL];exact ng (ih.2.2.2.2.2.2.2.2.1 a b)
   rw[cO hk] at b;rcases wb (dj a1.aiu 16=true)with hk|hk
   .rw[cS hk] at b;rw[hR hk adL];exact ng (ih.2.2.2.2.2.2.2.2.2.1 a b)
   rw[cO hk] at b;rcases wb (dj a1.aiu 17=true)with hk|hk
   .rw[cS hk] at b;rw[hR hk adL];exact ng (ih.2.2.2.2.2.2.2.2.2.1 a b)
   rw[cO hk] at b;rcases wb (dj a1.aiu 18=true)with hk|hk
   .rw[cS hk] at b;rw[hR hk adL];exact ng (ya T a b)
   rw[cO hk] at b;rcases wb (dj a1.aiu 19=true)with hk|hk
   .rw[cS hk] at b;rw[hR hk adL];exact ng (ih.2.2.2.2.2.2.2.2.2.2.1 a b)
   rw[cO hk] at b;rcases wb (dj a1.aiu 20=true)with hk|hk
   .rw[cS hk] at b;rw[hR hk adL];exact ng (ih.2.2.2.2.2.2.2.2.2.2.2.1 a b)
   rw[cO hk] at b;cases b
  refine sw [0,13] ?_;intro e m;refine sg 5 [0,1,0,13] ?_;intro k e m;apply wg 2;simp[e];refine WB m 999 999 [] [6] (λM f=>bx f 8 [sI j.cU.aiu,sI j.cU.cT.aiu,sL Ty.av j.cU.cT.aiv,sL Tm.av j.cU.dc,sL Fm.av j.cU.aiv,AV.sc (.int .u32 M)]) λj6 _ g m=>?_;refine sw [0,2] ?_;intro _ l e m;apply Ir e m<;>intro e m
  .exact hU
  exact hU
 .intro H a0 a1 a2 d h c a hm;rw[jP] at hm;have e:=Aj i a;refine wi aiz func147 [] [] 999 ?_;have⟨o,e,m⟩:=Ah e hm;simp[e];refine oa m (ih.1 a) λq k m=>?_;refine sw [7,8,0] ?_;intro l e m;refine oa m (ih.1 a) λ_ _ m=>?_;refine sw [7,0] ?_;intro e m;refine lI m DV λ_ m=>?_;exact au
 .intro H a0 a1 a2 d h c a hm;rw[gq] at hm;have e:=Aj i a;refine wi aiz func148 [] [] 7 ?_;have⟨o,e,m⟩:=Ah e hm;simp[e];refine oa m (ih.2.2.2.2.2.2.2.2.2.2.2.2.1 a) λq k m=>?_;refine sw [0,13] ?_;intro e m;apply wg 4;simp[e];refine wB 999 999 [] [6,8] (λf=>f.1 10=sI (ep (dj a1.aiu 5) 1 0)) λ_ g=>?_;rcases Pb (dj a1.aiu 5) e with e|e
  .exact aj
  exact aj
 .intro H a0 a1 a2 d h c a hm;rw[jO] at hm;have e:=Aj i a;refine wi aiz func149 [] [] 999 ?_;have m:=hm;refine sw [8,0,1,7,0,1,7,8,0] ?_;intro s j k B e m;refine lI m pT λ_ m=>?_;simp[e];refine oa m (ih.1 a) λ_ _ m=>?_;refine sw [7,0] ?_;intro e m;refine lI m DV λ_ m=>?_;exact au
 .intro H a0 a1 a2 d h c a hm;rw[jR] at hm;have e:=Aj i a;refine wi aiz func150 [] [] 999 ?_;have⟨o,e,m⟩:=Ah e hm;simp[e];refine oa m (ih.2.2.2.2.2.2.2.2.2.2.2.2.1 a) λq k m=>?_;refine sw [7,8,0] ?_;intro l e m;refine oa m (ih.1 a) λ_ _ m=>?_;refine sw [7,8,0] ?_;intro C e m;refine lI m (xV T i) λ_ m=>?_;refine sw [7,8] ?_;intro D e m;exact au
 .intro H a0 a1 a2 d h c a hm;rw[gb] at hm;have e:=Aj i a;refine wi aiz func151 [] [] 7 ?_;have m:=hm;refine sw [0,1,0,13] ?_;intro _ e m;refine sg 7 [8,0,4,0] ?_;intro N _ e m;refine oa m (ih.1 a) λO _ m=>?_;refine sw [0,13] ?_;intro e m;apply wg 4;simp[e];refine WA m 999 999 [] [4,6,9] (λt f=>f.1 11=sI t) [] (λP _ g m=>?_) ?_
  .apply Ir e m<;>intro e m
   .exact hU
   refine Il e m λe m=>?_;exact hU
  intro _ t e m;exact aa
 .intro H a0 a1 a2 d h c a hm;rw[gd] at hm;have e:=Aj i a;refine wi aiz func152 [] [] 9 ?_;have m:=hm;refine sw [8,0,2,0,13] ?_;intro s Q _ e m;refine sg 4 [0,1,0] ?_;intro u e m;refine wA 999 999 [] [4,5,6,8,9] (λf=>f.1 0=AV.eb c 0/\f.1 11=sI (ep (dj a1.aiu 13) 6 4)/\f.1 12=AV.sc (.int .u32 (ep (dj a1.aiu 13) 0 u))) [8,0] (λ_ g=>?_) ?_
  .rcases Pb (dj a1.aiu 13) e with e|e
   .exact aj
   exact aj
  intro _ R e m;refine oa m (ih.2.2.2.2.2.2.2.2.2.2.2.2.1 a) λ_ l m=>?_;exact aa
 .intro H a0 a1 a2 d h c a hm;rw[gn] at hm;have e:=Aj i a;refine wi aiz func153 [] [] 999 ?_;have m:=hm;refine sw [8,8] ?_;intro u S e m;apply Ir e m<;>intro e m
  .simp[e];refine p_ m mN λ_ m=>?_;refine sw [7,7,0] ?_;intro e m;refine sy m qO λ_ _ m=>?_;refine sw [7,0] ?_;intro e m;refine p_ m tq λ_ m=>?_;refine sw [12,8,8,0] ?_;intro F U e m;refine oa m (ih.2.2.2.2.2.2.2.2.2.2.2.2.2 a) λ_ _ m=>?_;refine sw [7,0] ?_;intro e m;refine lI m (vE T) λ_ m=>?_;exact au
  refine sw [0,1,7,7,0,2,7,0,1,12,8,8,0] ?_;intro v _ _ _ V W e m;refine oa m (ih.2.2.2.2.2.2.2.2.2.2.2.2.2 a) λ_ G m=>?_;refine sw [7,0,4] ?_;intro w e m;exact au
 .intro H a0 a1 a2 d h c a hm;rw[gm] at hm;have e:=Aj i a;refine wi aiz func154 [] [] 6 ?_;simp[e];refine wA 999 5 [8] [4,5,6] (λf=>f.1 0=AV.eb c 0/\f.1 9=sI (ep (dj a1.aiu 15) 7 5)) [8,0] (λ_ g=>?_) ?_
  .rcases Pb (dj a1.aiu 15) e with e|e
   .exact aj
   exact aj
  intro _ k e m;refine oa m (ih.2.2.2.2.2.2.2.2.2.2.2.2.1 a) λI _ m=>?_;refine sw [0,13] ?_;intro e m;refine sg 7 [0,1,0,13] ?_;intro N e m;refine sg 7 [8,0,4,8,0,4,0] ?_;intro G _ C _ e m;refine oa m (ih.1 a) λw _ m=>?_;refine sw [0,13] ?_;intro e m;refine sg 7 [0,2,0,13] ?_;intro D J e m;apply wg 3;simp[e];refine wA 999 999 [] [6,10,13,14] (λf=>f.1 82=sB (ep (dj a1.aiu 15) (dw (qi .u32 w.uses 1) 0) false)) [7,0,4] (λ_ g=>?_) ?_
  .rcases Pb (dj a1.aiu 15) e with e|e
   .exact aj
   exact aj
  intro _ K e m;exact au
 .intro H a0 a1 a2 d h c a hm;rw[j5] at hm;have e:=Aj i a;refine wi aiz func155 [] [] 999 ?_;have m:=hm;refine sw [8,8,0,4,0] ?_;intro k I v e m;refine lI m rO λ_ m=>?_;simp[e];refine lI m mN λ_ m=>?_;refine sw [7,0] ?_;intro e m;refine p_ m sQ λ_ m=>?_;refine sw [7,8,0] ?_;intro J e m;refine oa m (ih.2.2.2.2.2.2.2.2.2.2.2.2.2 a) λ_ _ m=>?_;refine sw [7,0] ?_;intro e m;refine p_ m sU λ_ m=>?_;refine sw [7,0] ?_;intro e m;refine lI m sV λ_ m=>?_;simp[e];refine lI m (qy T) λ_ m=>?_;simp[e];refine lI m pT λ_ m=>?_;refine sw [8,0] ?_;intro X e m;refine lI m (qy T) λ_ m=>?_;simp[e];refine oa m (ih.2.2.2.2.2.2.2.2.2.2.2.2.2 a) λ_ _ m=>?_;refine sw [7,0] ?_;intro e m;refine sy m (Cg T i) λ_ _ m=>?_;simp[e];refine lI m (vE T) λ_ m=>?_;simp[e];refine lI m rq λ_ m=>?_;exact au
 .intro H a0 a1 a2 d h c a hm;rw[jh] at hm;have e:=Aj i a;refine wi aiz func157 [] [] 999 ?_;have m:=hm;refine sw [8,0,4,0,4,0,4,7,8,0] ?_;intro s _ _ _ Y e m;refine oa m (ih.2.2.2.2.2.2.2.2.2.2.2.2.1 a) λ_ _ m=>?_;refine sw [7,8,8,0] ?_;intro K Z e m;refine oa m (ih.2.2.2.2.2.2.2.2.2.2.2.2.2 a) λ_ _ m=>?_;refine sw [7,8,0,5] ?_;intro ad F _ e m;exact au
 .intro H a0 a1 a2 d h c a hm;rw[jZ] at hm;have e:=Aj i a;refine wi aiz func158 [] [] 7 ?_;have⟨o,e,m⟩:=Ah e hm;simp[e];refine oa m (ih.2.2.2.2.2.2.2.2.2.2.2.2.1 a) λq k m=>?_;refine sw [0,13] ?_;intro e m;refine sg 9 [8,0,13] ?_;intro v e m;refine sg 7 [0,1,8,0,1,0,1,0,1,0,1,0,2,0] ?_;intro x9 B _ _ _ _ ae _ e m;refine WA m 999 999 [] [6,8,10,12,13] (λv27 f=>f.1 63=sB v27) [] (λaf _ g m=>?_) ?_
  .apply Iq e m<;>intro e m
   .exact hU
   simp[e];refine p_ m AH λ_ m=>?_;exact hU
  intro _ v27 e m;exact aa
 .intro H a0 a1 a2 a3 d h c a hm;rw[dI] at hm;have e:=Aj i a;refine wi aiz func198 [] [] 5 ?_;simp[e];refine sy hm (ih.1 a) λx y m=>?_;simp[e];refine wB 999 999 [11] [8,10] (λf=>f.1 27=sB (ep (dj y 0) (dw x.cU.aiu a3) false)) λ_ g=>?_;exact aa
 .intro H a0 a1 a2 a3 a4 d h c a hm;rw[dM] at hm;have e:=Aj i a;refine wi aiz func208 [] [] 999 ?_;simp[e];refine sy hm (ih.1 a) λx y m=>?_;refine sw [7,0,2,7,0,4] ?_;intro _ j k e m;exact au
def xn(T:dt)(a:lT T){n:Nat}:=@And.left _ _ (wK T a n)
def PA{n:Nat}:C1 prog 60 (vY n) Tm.av Tm.av:=by
 refine i1 λn ih=>v1 func60 λT H a0 r m e=>?_;rw[vY] at m;refine sw [0,4,0] ?_;intro i e m;refine Td e m 999 17 [15,16] [2] [26] (λb=>b) (λb a f=>bx f 3 [sI a0.aiu,sI a0.aix,sI i.aiu,sL Ty.av i.aiv,sT a Tm.av b]) λj _ b d _ _ _ _ E e m z p=>?_;have⟨a,E,c⟩:=E;refine sw [20,0,18,9,0] ?_;intro h e m;refine Ad (f:=Tm.av) b [h] c BC e.2 ?_;simp[e];cases m;exact p _ _ _ ⟨(.loc 26 (d.ef 26+1)),adg,(On 26)⟩ z
@[reducible,instance] def adh:=fM 60 @PA
def zZ:C2 prog 59 mu Tm.av Tm.av sI:=by
 refine v2 func59 λT H a0 a1 r m e=>?_;rw[mu] at m;exact aa
def vy:C1 prog 30 lZ Fm.av Fm.av:=by
 refine v1 func30 λT H a0 r m e=>?_;rw[lZ] at m;simp[e];refine sy m (lR T (st:=λ_:Unit=>H) (y7.const _) (λX _ _ _ _ _ h=>by obtain⟨a,rfl⟩:=oZ h;exact zZ a)) λ_ _ m=>?_;exact au
@[reducible,instance] def Rg:=fM 30 @vy
def RM:iX prog 161=true:=by kernel_rfl
set_option maxHeartbeats 4000000 in
def X4(x k idx:Nat)(w:World)(b:((x:Int)==0)=false)
  (key:bits BinOp.and IntKind.u32 (x:Int) (-(x:Int)%4294967296)*125613361%4294967296/134217728=(idx:Int))
  (hi:idx<32) (c:k<32) (a:w.cell? ⟨1,idx,none⟩=some (.int .u8 k)):Calls prog 161 #[.int .u32 x] w λe w'=>e=.returned (.int .i64 k)/\w'=w:=by
 go_enter func161,ntmps161
 go_wp2_with (simp only[key])
 go_ret
 exact⟨rfl,rfl⟩
set_option maxHeartbeats 4000000 in
def YO(w:World):Calls prog 161 #[.int .u32 0] w λe w'=>e=.returned (.int .i64 32)/\w'=w:=by
 go_enter func161,ntmps161
 go_wp2
 go_ret
 exact⟨rfl,rfl⟩
def ZB(n:Int):IntKind.u32.wrap n=n%4294967296:=by simp[IntKind.wrap,IntKind.signed,IntKind.bits]
def abd(a b:Nat)(f:a<4294967296)(h:b<4294967296):bits .and .u32 (a:Int) (b:Int)=((a&&&b:Nat):Int):=by
 have i:a&&&b<2^32:=af1 _ VW
 have c:(BitVec.ofInt 32 (a:Int)).toNat=a:=by
  rw[afb];omega
 have d:(BitVec.ofInt 32 (b:Int)).toNat=b:=by
  rw[afb];omega
 show IntKind.u32.wrap ((BitVec.ofInt 32 (a:Int)&&&BitVec.ofInt 32 (b:Int)).toNat:Int)=_;rw[BitVec.toNat_and,c,d,ZB];omega
def ac_(x a:Nat)(c:x<4294967296)(d:x≠0)(b:x&&&(4294967296-x)=a):bits BinOp.and IntKind.u32 (x:Int) (-(x:Int)%4294967296)*125613361%4294967296/134217728=((a*125613361%4294967296/134217728:Nat):Int):=by
 have f:-(x:Int)%4294967296=((4294967296-x:Nat):Int):=VW
 rw[f,abd x _ c VW,b];omega
def abc:∀j,j<32->kP[j]?=some ((Lib.deBruijn32tab.getD j 0:Nat):Int):=by decide+kernel
def tG(T:dt)(q:lT T){H:cZ}{a0 h:Int}(hm:gN a0=some h):ds prog T 161 [AV.sc (.int .u32 a0)] H (sI h) H:=by
 unfold gN at hm
 split at hm
 case isFalse=>cases hm
 rename_i j;obtain⟨x,rfl⟩:∃x:Nat,a0=(x:Int):=⟨a0.toNat,VW⟩;obtain rfl:=fU hm
 have k:x<2^32:=VW
 rw[z_];refine ds.QT RM λG F w vs hg r=>?_
 obtain⟨v1,rfl,a⟩:∃v,vs=[v]/\fD F G H.length (AV.sc (.int .u32 (x:Int))) v:=by
  cases r with
  |cons a b=>cases b;exact⟨_,rfl,a⟩
 cases a;refine⟨_,.sc rfl,?_⟩
 by_cases c:x=0
 .subst c;exact(YO w).mono λe w' ⟨a,b⟩=>⟨a,by rw[b];exact ae5 _ _⟩
 .have⟨d,l⟩:=Lib.lowest_bit 32 x c k;have⟨hi,f⟩:=Lib.deBruijn32_at _ l;have s:=hg.x' 1 _ q.2.2;cases s with
  |lD a b u=>
   have n:=abc _ hi;rw[f] at n;have⟨v,t,j⟩:=a.get (i:=2^Lib.ctz 32 x*125613361%4294967296/134217728) (x:=.sc (.int .u8 (Lib.ctz 32 x:Int))) (by simp[AV.cells,n]);cases j;have o:=hg.BQ _ _ _ (b _ _ t);rw[tg] at o;exact(X4 x (Lib.ctz 32 x) _ w ado (ac_ x _ k c d) hi l o).mono λe w' ⟨a,b⟩=>⟨a,by rw[b];exact ae5 _ _⟩
@[reducible,instance] def Fq:=fM 161 @tG
def uY(T:dt)(i:lT T){H:cZ}{a0:Int}{d:List Int}(hm:je a0=some d):ds prog T 109 [AV.sc (.int .u32 a0)] H (sL sI d) H:=by
 rw[je] at hm;have e:=i;refine wi aiz func109 [] [] 999 ?_;simp[e];refine Wn hm 999 (λs1 f h=>∃a,(h=H/\f.1 0=AV.sc (.int .u32 s1.1)/\f.1 3=sT a sI s1.2)/\Ow f [14] a s1.2) (by exact⟨.full,adg,ik.full⟩) (λs1 fr2 _ _ _ _ E m z p=>?_);have⟨j,v9⟩:=s1;have⟨a,E,b⟩:=E;have e:=Aj e E;dsimp only[kX]at m;apply Ir e m<;>intro e m
 .cases m;have m:=Qb z;dsimp only[kX]at m;exact au
 refine sw [0,1,9,0] ?_;intro c e m;refine Ao (f:=sI) v9 [c] b Qa e.2 ?_;simp[e];cases m;exact p _ _ _ ⟨(.loc 14 (fr2.ef 14+1)),adg,(On 14)⟩ z
def Hf(T:dt)(a:lT T){H:cZ}{a0:List Fm}{a1:Sq}{a2:Pf}{b:qZ}{c:Int}(hm:mw a0 a1 a2=some (b,c)):ds prog T 56 [sL Fm.av a0,Sq.av a1,Pf.av a2] H (AV.tuple [qZ.av b,sI c]) H:=by
 rw[mw] at hm;refine ea.qT (Post:=λx K=>x=AV.tuple [qZ.av b,sI c]/\∃X,K=H++X) ?_ (λ_ _ h=>⟨_,h.2.choose_spec,by rw[h.1];simp[AV.low,AV.gH],h.1,rfl⟩);have e:=a;refine wi aiz func56 [29] [] 999 ?_;simp[e];refine p_ hm (Dq T a) λ_ m=>?_;refine sw [7,0] ?_;intro e m;refine p_ m (Au T a) λ_ m=>?_;refine sw [7,0] ?_;intro e m;refine p_ m (FV T) λ_ m=>?_;simp[e];refine lI m Hh λ_ m=>?_;simp[e];refine oa m (xn T a ⟨adg,adg⟩) λ_ _ m=>?_;refine sw [7,0] ?_;intro e m;refine lI m vy λ_ m=>?_;simp[e];refine lI m (uY T a) λ_ m=>?_;exact au
@[reducible,instance] def VH:=fM 56 @Hf
def DR(T:dt)(b:lT T){H:cZ}{a0:List Fm}{a1:Sq}{a2:Pf}{a3:Fm}{a:Int}(hm:mZ a0 a1 a2 a3=some a):ds prog T 28 [sL Fm.av a0,Sq.av a1,Pf.av a2,Fm.av a3] H (sI a) H:=by
 rw[mZ] at hm;have e:=b;refine wi aiz func28 [] [] 999 ?_;have m:=hm;exact aa
@[reducible,instance] def Se:=fM 28 @DR
def zv(T:dt)(c:lT T){H:cZ}{a0:ry}{a b:Int}(hm:pz a0=some (a,b)):ds prog T 11 [ry.av a0] H (AV.tuple [sI a,sI b]) H:=by
 rw[pz] at hm;have e:=c;refine wi aiz func11 [] [] 999 ?_;refine Il e hm λe m=>?_;simp[e];exact Wb e m 999 16 [4,14,15] [] nI
@[reducible,instance] def Vq:=fM 11 @zv
def EZ(T:dt)(b:lT T){H:cZ}{a0:ry}{a:Int}(hm:vH a0=some a):ds prog T 24 [ry.av a0] H (sI a) H:=by
 rw[vH] at hm;have e:=b;refine wi aiz func24 [] [] 999 ?_;refine Il e hm λe m=>?_;simp[e];exact Wb e m 999 12 [11] [1] nI
@[reducible,instance] def TH:=fM 24 @EZ
def Iv(T:dt)(k:lT T){H:cZ}{a0:ry}{i:(List (List Int))}{j:Int}(hm:za a0=some (i,j)):ds prog T 9 [ry.av a0] H (AV.tuple [sL (sL sI) i,sI j]) H:=by
 rw[za] at hm;have e:=k;refine wi aiz func9 [] [] 999 ?_;have m:=hm;refine sw [0,1,7,0] ?_;intro _ e m;refine Td e m 999 18 [16,17] [] [31] (λb=>b) (λb a f=>f.1 5=sT a (sL sI) b) λl _ b d _ _ _ _ E e m z p=>?_;have⟨a,E,c⟩:=E;refine sw [20,0,2,9,0] ?_;intro h _ e m;refine Ao (f:=(sL sI)) b [h] c ag0 e.2 ?_;simp[e];cases m;exact p _ _ _ ⟨(.loc 31 (d.ef 31+1)),adg,(On 31)⟩ z
@[reducible,instance] def W7:=fM 9 @Iv
def N4{F:Int->Int->List Bool->Option (dV (List Bool) (List Bool))}(hF:∀j x s c,F j x s=some c->∃a,c=.next a/\a.length=s.length):∀(l:List Int) (j:Nat) (s:List Bool) (r:List Bool⊕List Bool),dH F l j s=some r->∃a,r=.inl a/\a.length=s.length
 |[],j,s,r,h=>⟨s,(fU h).symm,rfl⟩|x::l,j,s,r,h=>by
  rw[dJ] at h;have⟨c,b,d⟩:=dm h;obtain⟨s1,rfl,f⟩:=hF _ _ _ _ b;have⟨s2,i,k⟩:=N4 hF l _ s1 r d;exact⟨s2,i,k.trans f⟩
def DB{uses:List (List Int)}:∀(n:Nat) {i:Int} {v w:List Bool},lE uses n i v=some w->w.length=v.length
 |0,i,v,w,h=>by cases h
 |n+1,i,v,w,h=>by
  rw[lE] at h;have⟨b,_,h⟩:=dm h;rcases gS h with⟨_,h⟩|⟨_,h⟩
  .rw[fU h]
  .have⟨l,_,h⟩:=dm h;have⟨_,h⟩:=j1 h;rw[c6] at h;have⟨r,a,d⟩:=dm h
   obtain⟨t,rfl,f⟩:=N4 (F:=λ_ x v=>cM (lE uses n x v) λs=>some (.next s)) (λj x s c k=>by
    have⟨s1,o,q⟩:=dm k
    exact⟨s1,(fU q).symm,DB n o⟩) _ _ _ _ a
   rw[<-fU d,f,SV]
def ZL{v:List Bool}{i:Int}{b:Bool}(h:dg v i=some b):∃h:0<=i/\i<(v.length:Int),qF (v.map λb=>AV.sc (.bool b))=true/\v[i.toNat]' VW=b:=by
 unfold dg at h
 split at h
 .rename_i a;have⟨c,d⟩:=mH.1 h;refine⟨⟨a,VW⟩,?_,d⟩;cases v with
  |nil=>simp at c
  |cons=>rfl
 .cases h
def PE{K:Fr->cZ->Prop}{fr:Fr}{H:cZ}{o i:Nat}{v:List Bool}{b:Bool}(a:H[o]?=some (v.map λb=>AV.sc (.bool b)))(hi:i<v.length)(c:K fr (eR H o ((v.set i b).map λb=>AV.sc (.bool b)))):kS prog 4 (.eb o i) (sB b) K fr H:=by
 have d:qF (v.map λb=>AV.sc (.bool b))=true:=by
  cases v with
  |nil=>simp at hi
  |cons=>rfl
 have f:eA prog 4=some (false,1):=by kernel_rfl
 have h:setCells (v.map λb=>AV.sc (.bool b)) i [sB b]=(v.set i b).map λb=>AV.sc (.bool b):=by
  rw[setCells,List.map_set,aej,cS (by rw[A1];exact hi)];simp
 rw[En,f];simp only[a];refine⟨d,rfl,by rw[A1];exact hi,rfl,?_⟩;show K fr (H.set o (setCells _ i [sB b]));rw[h];exact c
def BG(T:dt){uses:List (List Int)}:∀(n:Nat) {H:cZ} {a0:Int} {v w:List Bool} {ob q1 q2 q3:Nat} (a:H[ob]?=some (v.map λb=>AV.sc (.bool b))) (d:H[q1]?=some [AV.qY ob 0 v.length v.length]) (k2:H[q2]?=some [sL (sL sI) uses])
   (i:H[q3]?=some [AV.func (.func 26) [] [AV.eb q1 0,AV.eb q2 0,AV.eb q3 0]]) (n1:ob≠q1) (n2:ob≠q2) (n3:ob≠q3) (hm:lE uses n a0 v=some w),ds prog T 26 [sI a0,AV.eb q1 0,AV.eb q2 0,AV.eb q3 0] H (AV.tuple []) (eR H ob (w.map λb=>AV.sc (.bool b))):=by
 intro n
 induction n with
 |zero=>intros;rename_i hm;cases hm
 |succ n ih=>
 intro H a0 v w ob q1 q2 q3 a d k2 i n1 n2 n3 hm;rw[lE] at hm;refine ea.IC a ?_;have d:∀c,(eR H ob c)[q1]?=some [AV.qY ob 0 v.length v.length]:=λc=>(sF n1).trans d;have k2:∀c,(eR H ob c)[q2]?=some [sL (sL sI) uses]:=λc=>(sF n2).trans k2;have i:∀c,(eR H ob c)[q3]?=some [AV.func (.func 26) [] [AV.eb q1 0,AV.eb q2 0,AV.eb q3 0]]:=λc=>(sF n3).trans i;have a:∀c,(eR H ob c)[ob]?=some c:=λc=>G4 (en a);have e:=Aj (Aj (Aj (Aj trivial d) k2) i) a;refine wi aiz func26 [] [] 999 ?_;have⟨b,e,m⟩:=Ah e hm;have⟨k,o,q⟩:=ZL e.2;have e:=Aj (Aj (Aj e k) o) q;apply Iq e m<;>intro e m
 .cases m;simp[e]
 have⟨l,e,m⟩:=Ah e m;simp[e,-En];refine PE (a _) VW ?_;simp[e];refine Wr e m 999 (λj s f h=>s.length=v.length/\h=eR H ob (s.map λb=>AV.sc (.bool b))/\f.1 3=AV.eb q3 0/\f.1 17=sL sI l/\f.1 18=sI (dq l)/\f.1 19=sI j) adg (λs f h K E m=>?_) (λj x s f h K n' c E e m z r=>?_)
 .have e:=Aj e E;dsimp only[dk]at m;cases m;simp[e]
 have e:=Aj e E;have⟨t,e,m⟩:=Ah e m;simp[e];refine iq.Rb adL (ih (a _) (by rw[E.1];exact d _) (k2 _) (i _) n1 n2 n3 e.2) ?_;simp[e];cases m;exact r _ _ _ (by simp[e,DB _ e.2]) z
def O'{l:List (List Int)}(h:dE l=true):nE prog 79 (sI (dq l)) (sI (dq l))=some (.slice .full ((List.replicate l.length false).map λb=>AV.sc (.bool b))):=by
 have f:l.length<=549755813888:=P_ h
 have c:zeroOf prog 4=some (.bool false):=by kernel_rfl
 have d:mO prog 79=some (4,1):=by kernel_rfl
 unfold nE;rw[d];show(match zeroOf prog 4 with|some z=>if dq l=dq l/\0<=dq l/\dq l<=549755813888/\vU z=true/\(1:Nat)=1 then some (AV.slice .full (List.replicate (dq l).toNat (.sc z)))else none|none=>none)=_;rw[c];show(if dq l=dq l/\0<=dq l/\dq l<=549755813888/\vU (.bool false)=true/\(1:Nat)=1 then some (AV.slice .full (List.replicate (dq l).toNat (.sc (.bool false))))else none)=_;have a:dq l=(l.length:Int):=rfl;rw[a,cS ⟨rfl,VW,VW,rfl,rfl⟩,List.map_replicate];rfl
def Gj(T:dt)(t:lT T){H:cZ}{a0:ry}{a1:Int}{d:List Int}{i:Int}(hm:xL a0 a1=some (d,i)):ds prog T 10 [ry.av a0,sI a1] H (AV.tuple [sL sI d,sI i]) H:=by
 rw[xL] at hm;refine ea.qT (Post:=λx K=>x=AV.tuple [sL sI d,sI i]/\∃X,K=H++X) ?_ (λ_ _ h=>⟨_,h.2.choose_spec,by rw[h.1];simp[AV.low,AV.gH],h.1,rfl⟩);have e:=t;refine wi aiz func10 [6,8,9,31] [] 10 ?_;have m:=hm;refine sw [0,2] ?_;intro uses A e m;apply Iq e m<;>intro e m
 .simp[e];apply wg 999;cases m;simp[e]
 simp[e];refine wj 999 999 (λf h=>h=H++[[sL (sL sI) uses]]/\f.1 1=sI a1/\f.1 6=AV.eb (List.length H) 0/\f.1 28=sB (ep (pR a1 0) true (pH a1 (dq uses)))) (λK k=>?_) ?_
 .rcases Pb (pR a1 0) e with e|e
  .simp[e];exact k _ _ adg
  simp[e];exact k _ _ adg
 rintro fr h E;have e:=Aj e E;apply Iq e m<;>intro e m
 .cases m;simp[e]
 refine sw [9,8] ?_;intro v e m;have l:=DB _ e.2;have u:=O' e.1.2;simp[e,u,Fv];refine iq.Rb adL (BG T FU (uses:=uses) (ob:=H.length+1) (q1:=H.length+2) (q2:=H.length) (q3:=H.length+3) acZ acZ acZ acZ VW VW VW e.2) ?_;simp[e];rw[aex] at l;have e:=Aj e l;refine Wr e m 999 (λj s f h=>∃a,(h=H++[[sL (sL sI) uses],v.map λb=>AV.sc (.bool b),[AV.qY (H.length+1) 0 uses.length uses.length],[AV.func (.func 26) [] [AV.eb (H.length+2) 0,AV.eb H.length 0,AV.eb (H.length+3) 0]]]/\f.1 10=sT a sI s/\f.1 36=AV.qY (H.length+1) 0 uses.length uses.length/\f.1 37=sI (dq v)/\f.1 38=sI j)/\Ow f [47] a s) ⟨.full,by simp[e,dq],ik.full⟩ (λs f h K E m=>?_) (λj x s f h K n c E e m z q=>?_)
 .have⟨a,E,o⟩:=E;refine sw [10,11] ?_;intro e m;cases m;simp[e]
 have⟨a,E,o⟩:=E;have e:=Aj e E;have⟨r,w,y⟩:=ZL e.1.2;rw[e.1.1.1.2] at r;have e:=Aj (Aj (Aj e r) w) y;simp[e];apply Ir e m<;>intro e m
 .simp[e];cases m;exact q _ _ _ ⟨a,adg,o⟩ z
 refine sw [9,0] ?_;intro e m;refine Ao (f:=sI) s [j] o Qa e.2 ?_;simp[e];cases m;exact q _ _ _ ⟨(.loc 47 (f.ef 47+1)),adg,(On 47)⟩ z
@[reducible,instance] def U_:=fM 10 @Gj
def KJ(T:dt)(j:lT T){H:cZ}{c:Bool}(hm:w7=some c):ds prog T 5 [] H (sB c) H:=by
 rw[w7] at hm;have e:=j;refine wi aiz func5 [] [] 10 ?_;have m:=hm;refine sw [0,1,0,1,0,1,0,4,0,4] ?_;intro _ _ a _ b e m;have e:=Aj e (show AV.agg [AV.slice .iB [gK.av (gK.mk (ByteArray.mk #[97]) a b),gK.av (gK.mk (ByteArray.mk #[98]) a (Pf.mk 2 0 (Ty.mk 0 []) [] [] []))]]=ry.av (ry.mk [(gK.mk (ByteArray.mk #[97]) a b),(gK.mk (ByteArray.mk #[98]) a (Pf.mk 2 0 (Ty.mk 0 []) [] [] []))]) by rw[ry.eJ];rfl);refine sw [0,2] ?_;intro d h e m;have e:=Aj e (show AV.agg [AV.slice .iB [gK.av (gK.mk (ByteArray.mk #[97]) a b),gK.av (gK.mk (ByteArray.mk #[98]) a (Pf.mk 2 0 (Ty.mk 0 []) [] [] []))]]=ry.av (ry.mk [(gK.mk (ByteArray.mk #[97]) a b),(gK.mk (ByteArray.mk #[98]) a (Pf.mk 2 0 (Ty.mk 0 []) [] [] []))]) by rw[ry.eJ];rfl);refine sw [0,2,0] ?_;intro k i e m;refine wB 999 999 [] [] (λf=>f.1 0=sB (ep (dj h 0) (ep (dj i 0) (ep (dj d 2) (dj (dq k) 2) false) false) false)) λ_ g=>?_;rcases Pb (dj h 0) e with e|e;rotate_left
 .exact aj
 rcases Pb (dj i 0) e with e|e;rotate_left
 .exact aj
 rcases Pb (dj d 2) e with e|e
 .exact aj
 exact aj
def Ue:C1 prog 6 FM sB (sL sI):=by
 refine v1 func6 λT H a0 r m e=>?_;rw[FM] at m;exact au
def X3:iX prog 8=true:=by kernel_rfl
def V0(T:dt){a0:List Int}{b:dd}(hm:O8 a0=some b):ds prog T 8 [AV.slice .iB (List.map (λn=>AV.sc (Value.int .i64 n)) a0)] [] (AV.eb 0 0) (eR [[]] 0 [AV.slice .iB (List.map (λn=>AV.sc (Value.int .i64 n)) b.l),AV.sc (.int .i64 b.rG)]):=by
 obtain rfl:=fU hm;refine ea.intro (fn:=f8) func8 rfl X3 (AU rfl) ?_;refine fl.td λc a=>?_;refine fl.region [] adD ?_;simp;refine a _ _ ?_;refine fl.td λc a=>?_;refine fl.region [5] adD ?_;simp;refine a _ _ ?_;refine fl.ret ?_;simp[uB,eR]
def UF:C2 prog 37 FO sI sI sI:=by
 refine v2 func37 λT H a0 a1 r m e=>?_;rw[FO] at m;refine sw [9,9] ?_;intro e m;exact au
@[reducible,instance] def aga:=fM 37 @UF
def uM(T:dt){H:cZ}{a0:dd}{a1 h:Int}{a:dd}{c:Nat}(b:H[c]?=some [sL sI a0.l,sI a0.rG])(hm:eu a0 a1=some (h,a)):ds prog T 18 [AV.eb c 0,sI a1] H (sI h) (eR H c [sL sI a.l,sI a.rG]):=by
 rw[eu] at hm;have d:=en b;refine ea.IC b ?_;have e:=d;refine wi aiz func18 [] [(1,true,[]),(3,true,[])] 3 ?_;simp[e];refine wA 999 999 [1] [] (λf=>f.1 0=AV.eb c 0/\f.1 19=sB (ep (pR a1 1) true (pH a0.rG (dq a0.l)))) [] (λ_ g=>?_) ?_
 .exact aa
 intro _ e m;have m:=hm;exact aa
@[reducible,instance] def UZ:=fM 18 @uM
def vq:C0 prog 64 gB Ty.av:=by
 refine v0 func64 λT H r m e=>?_;rw[gB] at m;exact au
@[reducible,instance] def Z1:=fM 64 @vq
def Ll{n:Nat}:C1 prog 41 (h9 n) Fm.av Fm.av:=by
 refine i1 λn ih=>v1 func41 λT H a0 r m e=>?_;rw[h9] at m;refine sw [0,4,0] ?_;intro t e m;refine Tc e m 999 17 [15,16] [1,2] [26] (λl=>l) (λl c f=>bx f 3 [sI a0.aiu,sI t.aiu,sL Ty.av t.aiv,sT c Tm.av l,nL]) [11,0] (λw _ l q _ _ _ _ E e m z p=>?_) ?_
 .have⟨c,E,i⟩:=E;refine sw [20,0,4,9,0] ?_;intro u e m;refine Ad (f:=Tm.av) l [u] i BC e.2 ?_;simp[e];cases m;exact p _ _ _ ⟨(.loc 26 (q.ef 26+1)),adg,(On 26)⟩ z
 intro q l c i e m;refine Wr e m 999 (λs j f h=>∃a b,(h=H/\f.1 30=sL Fm.av a0.aiv/\f.1 31=sI (dq a0.aiv)/\f.1 32=sI s/\bx f 2 [sI 0,sI 0,nL,nL,nL]/\bx f 3 [sI a0.aiu,sI t.aiu,sL Ty.av t.aiv,sT a Tm.av l,sT b Fm.av j])/\Ow f [26] a l/\Ow f [41] b j) (by exact⟨c,.full,adg,i,ik.full⟩) (λj o _ _ E m=>?_) (λs _ j o _ _ _ _ E e m z p=>?_)
 .have⟨a,b,E,k,d⟩:=E;exact aa
 have⟨a,b,E,k,d⟩:=E;refine sw [10,0,18,9,0] ?_;intro v e m;refine Ad (f:=Fm.av) j [v] d C6 e.2 ?_;simp[e];cases m;exact p _ _ _ ⟨a,(.loc 41 (o.ef 41+1)),adg,(ik.other k d ab9 ab9),(On 41)⟩ z
@[reducible,instance] def X2:=fM 41 @Ll
def Ln{n:Nat}:C1 prog 40 (qo n) Pf.av Pf.av:=by
 refine i1 λn ih=>v1 func40 λT H a0 r m e=>?_;rw[qo] at m;refine sw [0,4,0] ?_;intro A e m;refine Tc e m 999 21 [19,20] [1,2] [30] (λw=>w) (λw j f=>bx f 3 [sI a0.aiu,sI a0.aix,sI A.aiu,sL Ty.av A.aiv,sT j Tm.av w,nL,nL]) [11,0] (λJ _ w B _ _ _ _ E e m z p=>?_) ?_
 .have⟨j,E,s⟩:=E;refine sw [20,0,4,9,0] ?_;intro F e m;refine Ad (f:=Tm.av) w [F] s BC e.2 ?_;simp[e];cases m;exact p _ _ _ ⟨(.loc 30 (B.ef 30+1)),adg,(On 30)⟩ z
 intro B w j s e m;refine XC e m 999 (λC o f h=>∃a b,(h=H/\f.1 34=sL Fm.av a0.eg/\f.1 35=sI (dq a0.eg)/\f.1 36=sI C/\bx f 1 (Pf.av a0).cells/\bx f 2 [sI 0,sI 0,sI 0,nL,nL,nL,nL]/\bx f 3 [sI a0.aiu,sI a0.aix,sI A.aiu,sL Ty.av A.aiv,sT a Tm.av w,sT b Fm.av o,nL])/\Ow f [30] a w/\Ow f [45] b o) (by exact⟨j,.full,adg,s,ik.full⟩) (λC _ o x _ _ _ _ E e m z p=>?_) (λo x _ _ E m=>?_)
 .have⟨a,b,E,q,k⟩:=E;refine sw [10,0,4,9,0] ?_;intro G e m;refine Ad (f:=Fm.av) o [G] k C6 e.2 ?_;simp[e];cases m;exact p _ _ _ ⟨a,(.loc 45 (x.ef 45+1)),adg,(ik.other q k ab9 ab9),(On 45)⟩ z
 have⟨a,b,E,q,k⟩:=E;refine sw [10,11,0] ?_;intro e m;refine Wr e m 999 (λD t f h=>∃c d i,(h=H/\f.1 49=sL Pf.av a0.aiv/\f.1 50=sI (dq a0.aiv)/\f.1 51=sI D/\bx f 2 [sI 0,sI 0,sI 0,nL,nL,nL,nL]/\bx f 3 [sI a0.aiu,sI a0.aix,sI A.aiu,sL Ty.av A.aiv,sT c Tm.av w,sT d Fm.av o,sT i Pf.av t])/\Ow f [30] c w/\Ow f [45] d o/\Ow f [60] i t) (by exact⟨a,b,.full,adg,q,k,ik.full⟩) (λt y _ _ E m=>?_) (λD _ t y _ _ _ _ E e m z p=>?_)
 .have⟨c,d,i,E,u,v,l⟩:=E;exact aa
 have⟨c,d,i,E,u,v,l⟩:=E;refine sw [10,0,18,9,0] ?_;intro I e m;refine Ad (f:=Pf.av) t [I] l aeh e.2 ?_;simp[e];cases m;exact p _ _ _ ⟨c,d,(.loc 60 (y.ef 60+1)),adg,(ik.other u l ab9 ab9),(ik.other v l ab9 ab9),(On 60)⟩ z
@[reducible,instance] def Yn:=fM 40 @Ln
def Jw:C2 prog 20 jY Pf.av sI (sL Pf.av):=by
 refine v2 func20 λT H a0 a1 r m e=>?_;rw[jY] at m;simp[e];refine Td e m 999 12 [10,11] [4] [21] (λs2=>s2) (λs2 a f=>bx f 5 [sI a0,sI 0,sI 0,nL,nL,nL,sT a Pf.av s2]) λh _ s2 c _ _ _ _ E e m z p=>?_;have⟨a,E,b⟩:=E;refine sw [20,0,4,9,0] ?_;intro d e m;refine Ad (f:=Pf.av) s2 [d] b aeh e.2 ?_;simp[e];cases m;exact p _ _ _ ⟨(.loc 21 (c.ef 21+1)),adg,(On 21)⟩ z
@[reducible,instance] def ad0:=fM 20 @Jw
def zp:C3 prog 21 ke Fm.av sI Fm.av Fm.av:=by
 refine v3 func21 λT H a0 a1 a2 r m e=>?_;rw[ke] at m;refine sw [0,4,0,4] ?_;intro a b e m;have e:=Aj e (show AV.agg [sI a0,sI 0,AV.slice .iB [],AV.slice .iB [],AV.slice .iB [Fm.av a,Fm.av b]]=Fm.av (Fm.mk a0 (Ty.mk 0 []) [] [a,b]) by rw[Fm.eJ];rfl);exact au
@[reducible,instance] def aaj:=fM 21 @zp
def CB:C0 prog 81 lC Ty.av:=by
 refine v0 func81 λT H r m e=>?_;rw[lC] at m;exact au
@[reducible,instance] def Yc:=fM 81 @CB
def KA:C0 prog 115 ux Ty.av:=by
 refine v0 func115 λT H r m e=>?_;rw[ux] at m;exact au
@[reducible,instance] def X1:=fM 115 @KA
def Me:C2 prog 116 tT Ty.av Ty.av Ty.av:=by
 refine v2 func116 λT H a0 a1 r m e=>?_;rw[tT] at m;refine sw [0,4,0,4] ?_;intro a b e m;have e:=Aj e (show AV.agg [sI 3,AV.slice .iB [Ty.av a,Ty.av b]]=Ty.av (Ty.mk 3 [a,b]) by rw[Ty.eJ];rfl);exact au
@[reducible,instance] def ZM:=fM 116 @Me
def qC:C2 prog 117 ka Ty.av Ty.av Ty.av:=by
 refine v2 func117 λT H a0 a1 r m e=>?_;rw[ka] at m;refine sw [0,4,0,4] ?_;intro a b e m;have e:=Aj e (show AV.agg [sI 4,AV.slice .iB [Ty.av a,Ty.av b]]=Ty.av (Ty.mk 4 [a,b]) by rw[Ty.eJ];rfl);exact au
@[reducible,instance] def ZV:=fM 117 @qC
def Pt(T:dt):∀(n:Nat),(∀{H:cZ} {a0:dd} {a1:Int} {i:Ty} {a:dd} {c:Nat} (b:H[c]?=some [sL sI a0.l,sI a0.rG]) (hm:iy n a0 a1=some (i,a)),ds prog T 68 [AV.eb c 0,sI a1] H (Ty.av i) (eR H c [sL sI a.l,sI a.rG])):=by
  intro n
  induction n with
  |zero=>
    skip
    all_goals(intro _ _;intros;rename_i hm;cases hm)
  |succ n ih=>
 intro H a0 a1 i a c b hm;rw[iy] at hm;have j:=en b;refine ea.IC b ?_;have e:=j;refine wi aiz func68 [] [] 2 ?_;simp[e];refine Ep hm 3 999 (λk f h=>∃v2,(h=eR H c [sL sI v2.l,sI v2.rG]/\f.1 4=AV.gv 4 (f.gen 4) 0/\f.box 4=some [sI 0,nL])/\k v2=some (i,a)) ?_ (λk _ g m=>?_)
 .rintro _ _ ⟨v2,E,m⟩;exact aa
 refine sw [0,2,0] ?_;intro d d8 e m;refine wA 999 999 [1,6] [4] (λf=>f.1 0=AV.eb c 0/\f.1 7=sB (ep (dj d 0) true (ep (dj d 1) true (dj d 2)))) [13,13,13] (λ_ g=>?_) ?_
 .rcases Pb (dj d 0) e with e|e
  .exact aj
  rcases Pb (dj d 1) e with e|e
  .exact aj
  exact aj
 intro _ e m;apply Iq e m<;>intro e m
 .apply Ir e m<;>intro e m
  .exact hU
  simp[e];refine sy m (ih adg) λ_ d17 m=>?_;simp[e];refine sy m (ih adg) λ_ d19 m=>?_;exact aa
 apply Ir e m<;>intro e m
 .exact hU
 apply Ir e m<;>intro e m
 .exact hU
 simp[e];refine sy m (ih adg) λ_ d22 m=>?_;simp[e];refine sy m (ih adg) λ_ d24 m=>?_;exact aa
def Su(T:dt){n:Nat}:=@Pt T n
@[reducible,instance] def adI:=fM 68 @Su
def L0:C2 prog 114 lu (sL Ty.av) (sL Ty.av) (sL Ty.av):=by
 refine v2 func114 λT H a0 a1 r m e=>?_;rw[lu] at m;refine sw [9,0] ?_;intro e m;refine Ao (f:=Ty.av) [] a0 (ik.full (D:=[])) Hi e.2 ?_;refine sw [9,0] ?_;intro e m;refine Ao (f:=Ty.av) (fu [] a0) a1 (ik.new (D:=[6]) (d:=6) ab9) Hi e.2 ?_;exact au
@[reducible,instance] def aaq:=fM 114 @L0
def Jj:C3 prog 73 jn Fm.av sI Ty.av Fm.av:=by
 refine v3 func73 λT H a0 a1 a2 r m e=>?_;rw[jn] at m;refine sw [0,4,0,4] ?_;intro a b e m;have e:=Aj e (show AV.agg [sI a0,sI a.aiu,sL Ty.av a.aiv,AV.slice .iB [],AV.slice .iB [Fm.av b]]=Fm.av (Fm.mk a0 a [] [b]) by rw[Fm.eJ];rfl);exact au
@[reducible,instance] def ad':=fM 73 @Jj
def ir{n:Nat}:C2 prog 33 (ey n) sB Ty.av Ty.av:=by
 refine i2 λn ih=>u2 3 func33 λT H a0 a1 r m e=>?_;rw[ey] at m;simp[e];refine wA 999 999 [] [2,3] (λf=>f.1 19=sB (ep (dw a0.aiu a1.aiu) true (dw (dq a0.aiv) (dq a1.aiv)))) [7,0] (λ_ g=>?_) ?_
 .exact aa
 intro _ e m;exact Wb e m 999 23 [22] [2,3] nI
@[reducible,instance] def XW:=fM 33 @ir
def RL:C2 prog 118 Bx (sL sI) (sL Ty.av) Ty.av:=by
 refine v2 func118 λT H a0 a1 r m e=>?_;rw[Bx] at m;simp[e];refine Td e m 0 9 [0,8] [3] [25] (λs2=>s2) (λs2 b f=>f.1 5=sT b sI s2) λj _ s2 k _ _ _ l E e m z p=>?_;have⟨b,E,c⟩:=E;simp[e]at E;have e:=Aj e E;apply wg 5;simp[e];refine Ep m 999 999 (λi f h=>∃v12 a,(h=H/\f.1 0=sL Ty.av a0/\f.1 5=sT a sI v12/\f.1 8=sI (dq a0)/\f.1 9=sI j/\bx f 3 (Ty.av a1).cells)/\Ow f [25] a v12/\i v12=some l) ?_ (λi _ g m=>?_)
 .rintro _ _ ⟨v12,a,E,d,m⟩;have e:=Aj e E;simp[e];cases m;exact p _ _ _ ⟨a,adg,d⟩ z
 refine sw [8,0,4] ?_;intro n _ e m;apply Ir e m<;>intro e m
 .simp[e];exact g _ _ ⟨s2,b,adg,c,m⟩
 refine sw [9,0] ?_;intro e m;refine Ao (f:=sI) s2 [j] c Qa e.2 ?_;simp[e];exact g _ _ ⟨(fu s2 [j]),(.loc 25 (k.ef 25+1)),adg,(On 25),m⟩
@[reducible,instance] def adV:=fM 118 @RL
def oH:C1 prog 75 eL Tm.av sI:=by
 refine v1 func75 λT H a0 r m e=>?_;rw[eL] at m;exact au
@[reducible,instance] def ZR:=fM 75 @oH
def S3:C3 prog 119 kN Tm.av sI Ty.av (sL Tm.av):=by
 refine v3 func119 λT H a0 a1 a2 r m e=>?_;rw[kN] at m;exact aa
@[reducible,instance] def aeb:=fM 119 @S3
def MF:C1 prog 164 kg Tm.av Tm.av:=by
 refine v1 func164 λT H a0 r m e=>?_;rw[kg] at m;exact aa
@[reducible,instance] def aay:=fM 164 @MF
def Mr:C3 prog 165 r5 Tm.av Tm.av Tm.av Tm.av:=by
 refine v3 func165 λT H a0 a1 a2 r m e=>?_;rw[r5] at m;exact aa
@[reducible,instance] def ZS:=fM 165 @Mr
def LH:C0 prog 121 rY Tm.av:=by
 refine v0 func121 λT H r m e=>?_;rw[rY] at m;exact aa
@[reducible,instance] def XR:=fM 121 @LH
def VT:C2 prog 120 AN Tm.av Tm.av (sL Tm.av):=by
 refine v2 func120 λT H a0 a1 r m e=>?_;rw[AN] at m;simp[e];refine Wr e m 999 (λd s2 f h=>h=H/\f.1 7=sL Tm.av a1/\f.1 8=sI (dq a1)/\f.1 9=sI d/\bx f 2 [sI s2.1,sI s2.2.1,sI s2.2.2.1,sL Ty.av s2.2.2.2.1,sL Tm.av s2.2.2.2.2]/\bx f 4 [sI 0,sI 0,sI 0,nL,nL]) adg (λs2 _ _ _ E m=>?_) (λd _ s2 _ _ _ _ _ E e m z p=>?_)
 .have⟨v11,v12,a,b,c⟩:=s2;have e:=Aj e E;dsimp only[dk,F_]at m;exact au
 have⟨v11,v12,a,b,c⟩:=s2;have e:=Aj e E;dsimp only[F_]at m;exact aa
@[reducible,instance] def afJ:=fM 120 @VT
def J':C0 prog 166 uU Tm.av:=by
 refine v0 func166 λT H r m e=>?_;rw[uU] at m;exact aa
@[reducible,instance] def XN:=fM 166 @J'
def Mv:C0 prog 122 wx Tm.av:=by
 refine v0 func122 λT H r m e=>?_;rw[wx] at m;exact aa
@[reducible,instance] def Z7:=fM 122 @Mv
def Qc(T:dt):∀(n:Nat),(∀{H:cZ} {a0:dd} {a1:List Ty} {a2:Ty} {a3:Int} {j:Tm} {a:dd} {b:Nat} (k:H[b]?=some [sL sI a0.l,sI a0.rG]) (hm:fo n a0 a1 a2 a3=some (j,a)),ds prog T 72 [AV.eb b 0,sL Ty.av a1,Ty.av a2,sI a3] H (Tm.av j) (eR H b [sL sI a.l,sI a.rG])):=by
  intro n
  induction n with
  |zero=>
    skip
    all_goals(intro _ _;intros;rename_i hm;cases hm)
  |succ n ih=>
 intro H a0 a1 a2 a3 j a b k hm;rw[fo] at hm;have s:=en k;refine ea.IC k ?_;have e:=s;refine wi aiz func72 [] [] 5 ?_;have m:=hm;refine sw [0,1,0] ?_;intro A e m;refine Wj m 999 0 (λt f h=>∃v3 v4,(h=eR H b [sL sI v4.l,sI v4.rG]/\f.1 0=AV.eb b 0/\f.1 1=sL Ty.av a1/\f.1 3=sI a3/\f.1 9=sL sI A/\f.1 27=sB v3/\bx f 6 (Ty.av a2).cells/\bx f 8 [sI 0,sI 0,sI 0,nL,nL])/\t v3 v4=some (j,a)) (λt _ g m=>?_) ?_
 .apply Ir e m<;>intro e m
  .exact ak2
  refine sw [0,2] ?_;intro _ d9 e m;exact ak2
 rintro _ _ ⟨v3,v4,E,m⟩;have e:=Aj e E;apply Iq e m<;>intro e m
 .refine sg 999 [0,2] ?_;intro _ d12 e m;exact aa
 apply wg 2;simp[e];refine Ep m 999 6 (λo f h=>∃c,(h=eR H b [sL sI c.l,sI c.rG]/\f.1 0=AV.eb b 0/\f.1 1=sL Ty.av a1/\f.1 3=sI a3/\bx f 6 (Ty.av a2).cells/\bx f 8 [sI 0,sI 0,sI 0,nL,nL])/\o c=some (j,a)) ?_ (λo _ g m=>?_)
 .rintro _ _ ⟨c,E,m⟩;have e:=Aj e E;simp[e];apply Iq e m<;>intro e m
  .apply wg 1;simp[e];refine Ep m 999 999 (λq f h=>∃v21,(h=eR H b [sL sI v21.l,sI v21.rG]/\f.1 0=AV.eb b 0/\f.1 8=AV.gv 8 (f.gen 8) 0/\f.box 8=some [sI 0,sI 0,sI 0,nL,nL])/\q v21=some (j,a)) ?_ (λq _ g m=>?_)
   .rintro _ _ ⟨v21,E,m⟩;refine sw [10,0,2] ?_;intro _ d26 e m;exact aa
   apply Ir e m<;>intro e m
   .exact hU
   refine sw [0,2] ?_;intro _ d29 e m;apply Iq e m<;>intro e m
   .simp[e];refine sy m (ih adg) λ_ d31 m=>?_;exact aa
   apply Iq e m<;>intro e m
   .refine sw [0,4,0] ?_;intro _ e m;refine oa m (ih adg) λ_ d35 m=>?_;simp[e];refine oa m (ih adg) λ_ d37 m=>?_;exact aa
   apply Ir e m<;>intro e m
   .exact hU
   refine sw [0,4,0] ?_;intro _ e m;refine oa m (ih adg) λ_ d41 m=>?_;simp[e];refine oa m (ih adg) λ_ d43 m=>?_;exact aa
  apply wg 3;simp[e];apply Ir e m<;>intro e m
  .apply wg 999;apply Iq e m<;>intro e m
   .refine sw [8,0] ?_;intro B e m;refine oa m (ih adg) λ_ d47 m=>?_;refine sw [8,0] ?_;intro C e m;refine oa m (ih adg) λ_ d50 m=>?_;exact aa
   refine sw [14,8,0,4,8,0] ?_;intro D _ F e m;refine oa m (ih adg) λ_ d57 m=>?_;exact aa
  apply wg 2;simp[e];refine Wj m 999 999 (λr f h=>∃v60 d,(h=eR H b [sL sI d.l,sI d.rG]/\f.1 0=AV.eb b 0/\f.1 1=sL Ty.av a1/\f.1 3=sI a3/\f.1 276=sB v60/\bx f 6 (Ty.av a2).cells/\bx f 8 [sI 0,sI 0,sI 0,nL,nL])/\r v60 d=some (j,a)) (λr _ g m=>?_) ?_
  .apply Ir e m<;>intro e m
   .exact ak2
   refine sw [0,2] ?_;intro _ d65 e m;exact ak2
  rintro _ _ ⟨v60,d,E,m⟩;refine sw [10,14,0,4,0] ?_;intro _ e m;refine oa m (ih adg) λ_ d70 m=>?_;simp[e];refine oa m (ih adg) λ_ d72 m=>?_;exact aa
 apply Ir e m<;>intro e m
 .exact hU
 refine sw [0,2] ?_;intro _ d75 e m;apply Iq e m<;>intro e m
 .refine sw [0,2,0,4,0] ?_;intro _ d77 _ e m;refine oa m (ih adg) λ_ d80 m=>?_;refine sw [0,4,0] ?_;intro _ e m;refine oa m (ih adg) λ_ d83 m=>?_;exact aa
 apply Iq e m<;>intro e m
 .refine sw [0,2,0] ?_;intro _ d86 e m;refine oa m (ih adg) λ_ d88 m=>?_;simp[e];refine oa m (ih adg) λ_ d90 m=>?_;exact aa
 apply Iq e m<;>intro e m
 .refine sw [0,4,0,4,0,4,0] ?_;intro _ _ _ e m;refine oa m (ih adg) λ_ d97 m=>?_;refine sw [0,4,0,4,0] ?_;intro _ _ e m;refine oa m (ih adg) λ_ d101 m=>?_;refine sw [0,5] ?_;intro _ d103 e m;exact aa
 apply Iq e m<;>intro e m
 .refine sw [0,4,0,4,0,4,0,4,0,4,0] ?_;intro _ _ _ _ _ e m;refine oa m (ih adg) λ_ d112 m=>?_;refine sw [0,4,0,4,0,4,0] ?_;intro _ _ _ e m;refine oa m (ih adg) λ_ d117 m=>?_;refine sw [0,4,0] ?_;intro _ e m;refine oa m (ih adg) λ_ d120 m=>?_;exact aa
 apply Iq e m<;>intro e m
 .refine sw [0,2,0] ?_;intro _ d123 e m;refine oa m (ih adg) λ_ d125 m=>?_;simp[e];refine oa m (ih adg) λ_ d127 m=>?_;exact aa
 apply Ir e m<;>intro e m
 .exact hU
 simp[e];refine Wr e m 0 (λi _ f h=>h=eR H b [sL sI d75.l,sI d75.rG]/\f.1 0=AV.eb b 0/\f.1 1=sL Ty.av a1/\f.1 3=sI a3/\f.1 176=sI (dq a1)/\f.1 177=sI i/\bx f 6 (Ty.av a2).cells/\bx f 8 [sI 0,sI 0,sI 0,nL,nL]) adg (λ_ _ _ _ E m=>?_) (λi _ _ _ _ _ _ u E e m z p=>?_)
 .have e:=Aj e E;refine sg 999 [11] ?_;intro e m;exact hU
 have e:=Aj e E;refine sg 11 [8,0] ?_;intro v e m;refine WA m 999 999 [1,3,15,176,177] [6,8,16] (λv141 f=>f.1 0=AV.eb b 0/\f.1 198=sB v141) [] (λw _ g m=>?_) ?_
 .apply Ir e m<;>intro e m
  .exact hU
  refine sw [8,0] ?_;intro x e m;refine lI m ir λ_ m=>?_;exact hU
 intro _ v141 e m;apply Ir e m<;>intro e m
 .exact al
 refine sw [0,4,8,0] ?_;intro _ y e m;refine oa m (ih adg) λ_ d150 m=>?_;exact aa
def To(T:dt){n:Nat}:=@Qc T n
@[reducible,instance] def ad_:=fM 72 @To
def HO(T:dt):∀(n:Nat),(∀{H:cZ} {a0:dd} {a1:List Ty} {a2:Int} {i:Fm} {b:dd} {c:Nat} (d:H[c]?=some [sL sI a0.l,sI a0.rG]) (hm:h7 n a0 a1 a2=some (i,b)),ds prog T 65 [AV.eb c 0,sL Ty.av a1,sI a2] H (Fm.av i) (eR H c [sL sI b.l,sI b.rG])):=by
  intro n
  induction n with
  |zero=>
    skip
    all_goals(intro _ _;intros;rename_i hm;cases hm)
  |succ n ih=>
 intro H a0 a1 a2 i b c d hm;rw[h7] at hm;have j:=en d;refine ea.IC d ?_;have e:=j;refine wi aiz func65 [] [] 2 ?_;simp[e];refine Ep hm 2 999 (λk f h=>∃v2,(h=eR H c [sL sI v2.l,sI v2.rG]/\f.1 0=AV.eb c 0/\f.1 1=sL Ty.av a1/\f.1 6=AV.gv 6 (f.gen 6) 0/\f.box 6=some [sI 0,sI 0,nL,nL,nL])/\k v2=some (i,b)) ?_ (λk _ g m=>?_)
 .rintro _ _ ⟨v2,E,m⟩;refine sw [10,0,1,0,5,0,5] ?_;intro _ _ d9 _ d11 e m;exact aa
 simp[e];apply Ir e m<;>intro e m
 .apply wg 999;exact hU
 refine sg 6 [0,2,0] ?_;intro a d14 e m;apply Iq e m<;>intro e m
 .apply wg 999;simp[e];refine sy m (ih adg) λ_ d16 m=>?_;simp[e];refine sy m (ih adg) λ_ d18 m=>?_;exact aa
 apply wg 1;simp[e];refine wA 999 0 [1,2,14] [6] (λf=>f.1 0=AV.eb c 0/\f.1 28=sB (ep (dj a 1) true (dj a 2))) [] (λ_ g=>?_) ?_
 .rcases Pb (dj a 1) e with e|e
  .exact aj
  exact aj
 intro _ e m;apply Iq e m<;>intro e m
 .apply wg 999;simp[e];refine sy m (ih adg) λ_ d24 m=>?_;simp[e];refine sy m (ih adg) λ_ d26 m=>?_;exact aa
 apply wg 1;simp[e];refine wA 999 999 [1,2,14] [6] (λf=>f.1 0=AV.eb c 0/\f.1 42=sB (ep (dj a 3) true (dj a 4))) [] (λ_ g=>?_) ?_
 .rcases Pb (dj a 3) e with e|e
  .exact aj
  exact aj
 intro _ e m;apply Iq e m<;>intro e m
 .refine sw [0,2,0,4,0] ?_;intro _ d32 _ e m;refine oa m (ih adg) λ_ d35 m=>?_;exact aa
 apply Iq e m<;>intro e m
 .refine sw [0,2,0,4,0] ?_;intro _ d38 _ e m;refine oa m (ih adg) λ_ d41 m=>?_;exact aa
 apply Ir e m<;>intro e m
 .exact hU
 refine sw [0,2,0,5,0,4,0] ?_;intro _ d44 _ d46 _ e m;refine oa m (ih adg) λ_ d49 m=>?_;exact aa
def Lg(T:dt){n:Nat}:=@HO T n
@[reducible,instance] def Yd:=fM 65 @Lg
def J3:C2 prog 67 xy Sq.av Sq.av Fm.av:=by
 refine v2 func67 λT H a0 a1 r m e=>?_;rw[xy] at m;refine sw [9,0] ?_;intro e m;refine Ad (f:=Fm.av) [] a0.aiB (ik.full (D:=[])) C6 e.2 ?_;refine sw [9,0] ?_;intro e m;refine Ad (f:=Fm.av) (fu [] a0.aiB) [a1] (ik.new (D:=[9]) (d:=9) ab9) C6 e.2 ?_;exact au
@[reducible,instance] def adO:=fM 67 @J3
def Mt:C2 prog 66 tW Pf.av Fm.av Pf.av:=by
 refine v2 func66 λT H a0 a1 r m e=>?_;rw[tW] at m;refine sw [0,1,0,1] ?_;intro a b e m;have e:=Aj e (show AV.agg [sI a.aiu,sI a.aix,sI a.cT.aiu,sL Ty.av a.cT.aiv,sL Tm.av a.dc,AV.slice .iB [Fm.av b],sL Pf.av a.aiv]=Pf.av (Pf.mk a.aiu a.aix a.cT a.dc [b] a.aiv) by rw[Pf.eJ];rfl);exact au
@[reducible,instance] def Z3:=fM 66 @Mt
def IQ{n:Nat}:C1 prog 131 (o6 n) sB Ty.av:=by
 refine i1 λn ih=>u1 4 func131 λT H a0 r m e=>?_;rw[o6] at m;simp[e];refine Ep m 3 999 (λa f h=>∃v2,(h=H/\f.1 3=sI v2/\bx f 1 (Ty.av a0).cells)/\a v2=some r) ?_ (λa _ g m=>?_)
 .rintro _ _ ⟨v2,E,m⟩;refine sw [10,7,0] ?_;intro e m;refine Wr e m 999 (λb _ f h=>h=H/\f.1 21=sL Ty.av a0.aiv/\f.1 22=sI (dq a0.aiv)/\f.1 23=sI b) adg (λ_ _ _ _ E m=>?_) (λb _ _ _ _ _ _ _ E e m z p=>?_)
  .exact aa
  exact aa
 simp[e];refine wj 999 0 (λf h=>h=H/\f.1 3=sI 0/\f.1 7=sI a0.aiu/\f.1 8=sB (ep (dj a0.aiu 1) true (ep (dj a0.aiu 2) true (dj a0.aiu 5)))/\bx f 1 (Ty.av a0).cells) (λ_ g=>?_) ?_
 .rcases Pb (dj a0.aiu 1) e with e|e
  .exact aj
  rcases Pb (dj a0.aiu 2) e with e|e
  .exact aj
  exact aj
 rintro _ _ E;have e:=Aj e E;apply Iq e m<;>intro e m
 .apply wg 999;exact hU
 apply wg 1;simp[e];refine wj 999 999 (λf h=>h=H/\f.1 12=sB (ep (dj a0.aiu 3) true (dj a0.aiu 4))/\bx f 1 (Ty.av a0).cells) (λ_ g=>?_) ?_
 .rcases Pb (dj a0.aiu 3) e with e|e
  .exact aj
  exact aj
 rintro _ _ E;refine sw [10,12] ?_;intro e m;exact hU
@[reducible,instance] def Xt:=fM 131 @IQ
def Lp{n:Nat}:C1 prog 132 (qg n) sI Ty.av:=by
 refine i1 λn ih=>v1 func132 λT H a0 r m e=>?_;rw[qg] at m;simp[e];exact Wb e m 999 9 [7,8] [] (λs2 f=>f.1 3=sI s2)
@[reducible,instance] def XX:=fM 132 @Lp
def sl:C1 prog 90 hY sI Ty.av:=by
 refine v1 func90 λT H a0 r m e=>?_;rw[hY] at m;exact aa
@[reducible,instance] def W0:=fM 90 @sl
def E6:C1 prog 127 lr sI (sL Ty.av):=by
 refine v1 func127 λT H a0 r m e=>?_;rw[lr] at m;refine sw [7,0] ?_;intro e m;exact Wb e m 999 11 [9,10] [] nI
@[reducible,instance] def TQ:=fM 127 @E6
def tB:C1 prog 87 oS sB Ty.av:=by
 refine u1 2 func87 λT H a0 r m e=>?_;rw[oS] at m;simp[e];refine wB 999 999 [] [] (λf=>f.1 2=sB (ep (dj a0.aiu 0) (dj (dq a0.aiv) 0) false)) λ_ g=>?_;exact aa
def KZ:C1 prog 130 uc sI sI:=by
 refine u1 6 func130 λT H a0 r m e=>?_;rw[uc] at m;simp[e];refine wA 999 0 [3] [] (λf=>f.1 4=sB (ep (dj a0 1) true (ep (dj a0 4) true (ep (dj a0 7) true (dj a0 13))))) [13] (λ_ g=>?_) ?_
 .rcases Pb (dj a0 1) e with e|e
  .exact aj
  rcases Pb (dj a0 4) e with e|e
  .exact aj
  rcases Pb (dj a0 7) e with e|e
  .exact aj
  exact aj
 intro _ e m;apply wg 1;simp[e];refine wA 999 0 [3] [] (λf=>f.1 9=sB (ep (dj a0 2) true (ep (dj a0 5) true (ep (dj a0 11) true (dj a0 12))))) [13] (λ_ g=>?_) ?_
 .rcases Pb (dj a0 2) e with e|e
  .exact aj
  rcases Pb (dj a0 5) e with e|e
  .exact aj
  rcases Pb (dj a0 11) e with e|e
  .exact aj
  exact aj
 intro _ e m;apply wg 1;simp[e];refine wA 999 0 [3] [] (λf=>f.1 14=sB (ep (dj a0 3) true (ep (dj a0 8) true (dj a0 10)))) [13] (λ_ g=>?_) ?_
 .rcases Pb (dj a0 3) e with e|e
  .exact aj
  rcases Pb (dj a0 8) e with e|e
  .exact aj
  exact aj
 intro _ e m;apply wg 1;simp[e];refine wB 999 999 [] [] (λf=>f.1 18=sB (ep (dj a0 6) true (dj a0 9))) λ_ g=>?_;rcases Pb (dj a0 6) e with e|e
 .exact aj
 exact aj
def vA{n:Nat}:C1 prog 88 (jW n) sB Tm.av:=by
 refine i1 λn ih=>u1 3 func88 λT H a0 r m e=>?_;rw[jW] at m;simp[e];refine WA m 999 0 [] [1] (λv2 f=>f.1 26=sB v2) [13] (λd _ g m=>?_) ?_
 .simp[e];refine lI m KZ λ_ m=>?_;apply Iq e m<;>intro e m
  .exact hU
  apply Iq e m<;>intro e m
  .exact hU
  apply Ir e m<;>intro e m
  .exact hU
  exact hU
 intro _ v2 e m;apply wg 2;simp[e];refine Ep m 3 999 (λb f h=>(h=H/\f.1 1=AV.gv 1 (f.gen 1) 0/\f.box 1=some (Tm.av a0).cells)/\b=some r) ?_ (λb _ g m=>?_)
 .rintro _ _ ⟨E,m⟩;have e:=Aj e E;simp[e];refine Wr e m 999 (λa _ f h=>h=H/\f.1 42=sL Tm.av a0.aiv/\f.1 43=sI (dq a0.aiv)/\f.1 44=sI a) adg (λ_ _ _ _ E m=>?_) (λa _ _ _ _ _ _ _ E e m z p=>?_)
  .exact aa
  exact aa
 simp[e];refine wj 999 999 (λf h=>h=H/\f.1 33=sB (ep (dj a0.aiu 2) true (ep (dj a0.aiu 6) true (dj a0.aiu 9)))/\bx f 1 (Tm.av a0).cells) (λc g=>?_) ?_
 .rcases Pb (dj a0.aiu 2) e with e|e
  .exact aj
  rcases Pb (dj a0.aiu 6) e with e|e
  .exact aj
  exact aj
 rintro _ _ E;have e:=Aj e E;apply Iq e m<;>intro e m
 .simp[e];refine p_ m sl λ_ m=>?_;refine Il e m λe m=>?_;exact YE
 simp[e];refine p_ m tB λ_ m=>?_;refine Im e m λe m=>?_;exact YE
@[reducible,instance] def WT:=fM 88 @vA
def uS:C1 prog 89 j_ sB sI:=by
 refine u1 2 func89 λT H a0 r m e=>?_;rw[j_] at m;simp[e];refine wB 999 999 [] [] (λf=>f.1 2=sB (ep (dj a0 4) true (ep (dj a0 5) true (ep (dj a0 6) true (dj a0 7))))) λ_ g=>?_;rcases Pb (dj a0 4) e with e|e
 .exact aj
 rcases Pb (dj a0 5) e with e|e
 .exact aj
 rcases Pb (dj a0 6) e with e|e
 .exact aj
 exact aj
@[reducible,instance] def OR:=fM 89 @uS
def HF{n:Nat}:C1 prog 42 (ld n) sB Fm.av:=by
 refine i1 λn ih=>u1 7 func42 λT H a0 r m e=>?_;rw[ld] at m;apply Iq e m<;>intro e m
 .simp[e];refine WB m 999 999 [] [] (λv2 f=>f.1 2=sB v2) λj _ g m=>?_;apply Ir e m<;>intro e m
  .exact hU
  simp[e];refine p_ m tB λ_ m=>?_;apply Ir e m<;>intro e m
  .exact hU
  apply Ir e m<;>intro e m
  .exact hU
  refine sw [8,0] ?_;intro k e m;refine p_ m vA λ_ m=>?_;apply Ir e m<;>intro e m
  .exact hU
  refine sw [8,0] ?_;intro l e m;refine p_ m vA λ_ m=>?_;exact hU
 simp[e];refine wA 999 0 [] [1] (λf=>f.1 36=sB (ep (dj a0.aiu 2) true (dj a0.aiu 3))) [] (λ_ g=>?_) ?_
 .exact aa
 intro _ e m;apply Ir e m<;>intro e m
 .refine sg 3 [0,1,0,14] ?_;intro _ e m;apply wg 1;simp[e];refine WB m 999 999 [] [] (λa f=>f.1 2=sB a) λb _ g m=>?_;apply Ir e m<;>intro e m
  .exact hU
  simp[e];refine p_ m sl λ_ m=>?_;apply Ir e m<;>intro e m
  .exact hU
  apply Ir e m<;>intro e m
  .exact hU
  refine sw [8,0,15] ?_;intro c _ e m;exact hU
 apply wg 1;simp[e];refine WB m 999 999 [] [] (λv24 f=>f.1 2=sB v24) λd _ g m=>?_;apply Ir e m<;>intro e m
 .exact hU
 simp[e];refine p_ m tB λ_ m=>?_;apply Ir e m<;>intro e m
 .exact hU
 apply Ir e m<;>intro e m
 .exact hU
 refine sw [8,0,15] ?_;intro h _ e m;apply Ir e m<;>intro e m
 .exact hU
 refine sw [8,0,15] ?_;intro i _ e m;exact hU
@[reducible,instance] def Xz:=fM 42 @HF
def HH{n:Nat}:C1 prog 91 (eQ n) sI Tm.av:=by
 refine i1 λn ih=>v1 func91 λT H a0 r m e=>?_;rw[eQ] at m;simp[e];exact Wb e m 999 9 [7,8] [] (λs2 f=>f.1 3=sI s2)
@[reducible,instance] def WQ:=fM 91 @HH
def Ib{n:Nat}:C1 prog 43 (lj n) sI Fm.av:=by
 refine i1 λn ih=>v1 func43 λT H a0 r m e=>?_;rw[lj] at m;simp[e];refine Wa e m 999 11 [9,10] [1] (λs2 f=>f.1 3=sI s2) [11,0] ?_;intro _ s2 e m;exact Wb e m 999 23 [21,22] [] (λa f=>f.1 3=sI a)
@[reducible,instance] def W_:=fM 43 @Ib
def Ja:C1 prog 22 iJ sI Fm.av:=by
 refine v1 func22 λT H a0 r m e=>?_;rw[iJ] at m;exact aa
@[reducible,instance] def XA:=fM 22 @Ja
def AA:C1 prog 222 kH sI Tm.av:=by
 refine v1 func222 λT H a0 r m e=>?_;rw[kH] at m;exact aa
@[reducible,instance] def WV:=fM 222 @AA
def OH:C1 prog 325 sO (t2 Ty.av sI) Ty.av:=by
 refine v1 func325 λT H a0 r m e=>?_;rw[sO] at m;exact aa
@[reducible,instance] def aa_:=fM 325 @OH
def IP{n:Nat}:C2 prog 303 (eC n) (t2 Ty.av sI) (sL Ty.av) Tm.av:=by
 refine i2 λn ih=>v2 func303 λT H a0 a1 r m e=>?_;rw[eC] at m;refine sw [13] ?_;intro e m;apply Iq e m<;>intro e m
 .refine sw [9,0] ?_;intro e m;refine Ad (f:=Ty.av) a0 [a1.cT] (ik.full (D:=[])) Hi e.2 ?_;exact aa
 simp[e];refine XC e m 0 (λA c f h=>∃a,(h=H/\f.1 0=sL Ty.av a0/\f.1 8=sT a Ty.av c/\f.1 67=sL Tm.av a1.aiv/\f.1 68=sI (dq a1.aiv)/\f.1 69=sI A/\bx f 3 (Tm.av a1).cells/\bx f 4 [sI 0,nL])/\Ow f [86] a c) (by exact⟨.full,adg,ik.full⟩) (λA _ c j _ _ _ _ E e m z p=>?_) (λc j _ _ E m=>?_)
 .have⟨a,E,b⟩:=E;have e:=Aj e E;refine sg 999 [0,16,7,9,0] ?_;intro u _ e m;refine Ao (f:=Ty.av) c [u] b Hi e.2 ?_;simp[e];cases m;exact p _ _ _ ⟨(.loc 86 (j.ef 86+1)),adg,(On 86)⟩ z
 have⟨a,E,b⟩:=E;have e:=Aj e E;refine sg 13 [11,0,1,0,1,0] ?_;intro _ v e m;apply Iq e m<;>intro e m
 .apply wg 2;simp[e];refine Ep m 999 999 (λo f h=>∃v24 d,(h=H/\f.1 8=sT d Ty.av c/\f.1 111=sB v24/\bx f 4 [sI 0,nL])/\Ow f [86] d c/\o v24=some r) ?_ (λo _ g m=>?_)
  .rintro _ _ ⟨v24,d,E,w,m⟩;exact aa
  have⟨B,e,m⟩:=Ah e m;apply Iq e m<;>intro e m
  .simp[e];exact g _ _ ⟨true,a,adg,b,m⟩
  refine sw [8,8,0,4,0] ?_;intro C F x e m;exact g _ _ ⟨(oF x),a,adg,b,m⟩
 refine sg 3 [0,13] ?_;intro e m;refine sg 3 [0,13] ?_;intro e m;apply wg 3;simp[e];apply Iq e m<;>intro e m
 .apply wg 2;simp[e];refine Ep m 999 999 (λq f h=>∃v37,(h=H/\f.1 162=sB v37/\bx f 3 (Tm.av a1).cells/\bx f 4 [sI 0,nL])/\q v37=some r) ?_ (λq _ g m=>?_)
  .rintro _ _ ⟨v37,E,m⟩;exact aa
  refine sw [8,0] ?_;intro G e m;refine lI m ir λ_ m=>?_;apply Ir e m<;>intro e m
  .exact hU
  refine sw [8,0] ?_;intro I e m;refine lI m qC λ_ m=>?_;simp[e];refine lI m qC λ_ m=>?_;simp[e];refine lI m ir λ_ m=>?_;apply Ir e m<;>intro e m
  .exact hU
  refine sw [8,0] ?_;intro J e m;refine lI m ir λ_ m=>?_;exact hU
 refine sg 3 [0,13] ?_;intro e m;apply wg 3;simp[e];apply Iq e m<;>intro e m
 .apply wg 2;simp[e];refine Ep m 999 999 (λs f h=>∃k,(h=H/\f.1 185=sB k/\bx f 4 [sI 0,nL]/\bx f 14 (Ty.av v).cells)/\s k=some r) ?_ (λs _ g m=>?_)
  .rintro _ _ ⟨k,E,m⟩;exact aa
  refine sw [8,0] ?_;intro K e m;refine lI m ir λ_ m=>?_;apply Ir e m<;>intro e m
  .exact hU
  refine sw [8,0] ?_;intro L e m;refine lI m ir λ_ m=>?_;exact hU
 apply wg 3;simp[e];apply Iq e m<;>intro e m
 .apply wg 2;simp[e];refine Ep m 999 999 (λt f h=>∃l,(h=H/\f.1 220=sB l/\bx f 3 (Tm.av a1).cells/\bx f 4 [sI 0,nL])/\t l=some r) ?_ (λt _ g m=>?_)
  .rintro _ _ ⟨l,E,m⟩;exact aa
  refine sw [8,0] ?_;intro M e m;refine lI m ir λ_ m=>?_;apply Ir e m<;>intro e m
  .exact hU
  refine sw [8,0] ?_;intro N e m;refine lI m qC λ_ m=>?_;simp[e];refine lI m qC λ_ m=>?_;simp[e];refine lI m qC λ_ m=>?_;simp[e];refine lI m ir λ_ m=>?_;apply Ir e m<;>intro e m
  .exact hU
  refine sw [8,0] ?_;intro O e m;refine lI m ir λ_ m=>?_;exact hU
 refine sg 3 [0,13] ?_;intro e m;apply wg 1;simp[e];refine wj 999 0 (λf h=>∃i,(h=H/\f.1 8=sT i Ty.av c/\f.1 237=sB (ep (dj a1.aiu 11) true (dj a1.aiu 12))/\bx f 3 (Tm.av a1).cells/\bx f 4 [sI 0,nL])/\Ow f [86] i c) (λ_ g=>?_) ?_
 .rcases Pb (dj a1.aiu 11) e with e|e
  .simp[e];exact g _ _ ⟨a,adg,b⟩
  simp[e];exact g _ _ ⟨a,adg,b⟩
 rintro _ _ ⟨i,E,y⟩;exact aa
@[reducible,instance] def Xj:=fM 303 @IP
def H5:C2 prog 266 oM (t2 Ty.av sI) (sL Ty.av) Tm.av:=by
 refine v2 func266 λT H a0 a1 r m e=>?_;rw[oM] at m;exact aa
@[reducible,instance] def W3:=fM 266 @H5
def HE{n:Nat}:C2 prog 223 (mg n) sI (sL Ty.av) Fm.av:=by
 refine i2 λn ih=>v2 func223 λT H a0 a1 r m e=>?_;rw[mg] at m;simp[e];refine XC e m 0 (λk _ f h=>h=H/\f.1 0=sL Ty.av a0/\f.1 13=sL Tm.av a1.dc/\f.1 14=sI (dq a1.dc)/\f.1 15=sI k/\bx f 3 (Fm.av a1).cells) adg (λk _ _ d _ _ _ _ E e m z p=>?_) (λ_ d _ _ E m=>?_)
 .exact aa
 have e:=Aj e E;refine sg 5 [11,0] ?_;intro e m;refine Wj m 999 999 (λi f h=>∃c b,(h=H/\f.1 0=sT b Ty.av c/\f.1 3=AV.gv 3 (f.gen 3) 0/\f.box 3=some (Fm.av a1).cells)/\i c=some r) (λi _ g m=>?_) ?_
 .refine sw [0,1] ?_;intro _ e m;apply Ir e m<;>intro e m
  .simp[e];exact g _ _ ⟨_,.iB,adg,m⟩
  refine sw [9,0] ?_;intro e m;refine Ad (f:=Ty.av) a0 [a1.cT] (ik.full (D:=[])) Hi e.2 ?_;simp[e];exact g _ _ ⟨_,(.loc 44 (d.ef 44+1)),adg,m⟩
 rintro _ _ ⟨c,b,E,m⟩;have e:=Aj e E;simp[e];refine Wr e m 999 (λj _ f h=>∃a,h=H/\f.1 0=sT a Ty.av c/\f.1 46=sL Fm.av a1.aiv/\f.1 47=sI (dq a1.aiv)/\f.1 48=sI j) ⟨b,adg⟩ (λ_ _ _ _ E m=>?_) (λj _ _ _ _ _ _ _ E e m z p=>?_)
 .have⟨a,E⟩:=E;exact aa
 have⟨a,E⟩:=E;refine sw [10,0,15,7,0] ?_;intro _ e m;cases m;exact p _ _ _ ⟨a,adg⟩ z
@[reducible,instance] def Xh:=fM 223 @HE
def I':C2 prog 171 jV sI (sL Ty.av) Fm.av:=by
 refine v2 func171 λT H a0 a1 r m e=>?_;rw[jV] at m;exact aa
@[reducible,instance] def Xb:=fM 171 @I'
def Az:C2 prog 126 jk sI (sL Ty.av) Fm.av:=by
 refine v2 func126 λT H a0 a1 r m e=>?_;rw[jk] at m;exact aa
@[reducible,instance] def WN:=fM 126 @Az
end Go.Proofs.YtjgjcpnoaeljkaaGreatDoor
