/- Part of the proof of KernelChoice: walks. -/
import Derived.Test.YtobcafblgapgfaaGreatDoorW1
set_option linter.all false
set_option maxRecDepth 20000
set_option maxHeartbeats 4000000
namespace Go.Proofs.YtobcafblgapgfaaGreatDoor
open Go Go.ky Go.fg Tryz
def yS:C0 prog 96 sk Ty.av:=by
 intro T H r hm;rw[sk] at hm;have e:=trivial;refine wi abi func96 [] [] 999 ?_;cases hm;simp[e]
def Bo:C2 prog 97 rD Ty.av Ty.av Ty.av:=by
 intro T H a0 a1 r hm;rw[rD] at hm;have e:=trivial;refine wi abi func97 [] [] 999 ?_;have⟨a,e,m⟩:=c7 e hm;simp[e];refine Cs (hL e.2) ?_;have⟨b,e,m⟩:=c7 e m;simp[e];refine Cs (hL e.2) ?_;have e:=Aj e (show AV.agg [sI 3,AV.slice .eh [Ty.av a,Ty.av b]]=Ty.av (Ty.mk 3 [a,b]) by rw[Ty.ey];rfl);have e:=Aj e (show AV.agg [sI 3,AV.slice .eh [Ty.av a,Ty.av b]]=Ty.av (Ty.mk 3 [a,b]) by rw[Ty.ey];rfl);cases m;simp[e]
def l5:C2 prog 60 jg Ty.av Ty.av Ty.av:=by
 intro T H a0 a1 r hm;rw[jg] at hm;have e:=trivial;refine wi abi func60 [] [] 999 ?_;have⟨a,e,m⟩:=c7 e hm;simp[e];refine Cs (hL e.2) ?_;have⟨b,e,m⟩:=c7 e m;simp[e];refine Cs (hL e.2) ?_;have e:=Aj e (show AV.agg [sI 4,AV.slice .eh [Ty.av a,Ty.av b]]=Ty.av (Ty.mk 4 [a,b]) by rw[Ty.ey];rfl);have e:=Aj e (show AV.agg [sI 4,AV.slice .eh [Ty.av a,Ty.av b]]=Ty.av (Ty.mk 4 [a,b]) by rw[Ty.ey];rfl);cases m;simp[e]
def Kk(T:dA):∀(n:Nat),(∀{H:cV} {a0:c6} {a1:Int} {o:Ty} {b:c6} {g:Nat} (i:H[g]?=some [sL sI a0.l,sI a0.qU]) (hm:iQ n a0 a1=some (o,b)),dy prog T 33 [AV.ei g 0,sI a1] H (Ty.av o) (fu H g [sL sI b.l,sI b.qU])):=by
  intro n
  induction n with
  |zero=>
    skip
    all_goals(intro _ _;intros;rename_i hm;cases hm)
  |succ n p=>
 intro H a0 a1 o b g i hm;rw[iQ] at hm;have q:=eP i;refine ej.L7 i ?_;have e:=q;refine wi abi func33 [] [] 2 ?_;simp[e];refine Wj hm 3 999 (λr f h=>∃(v2:c6) (c:Nat),(h=fu H g [sL sI v2.l,sI v2.qU]/\f.1 4=AV.dc 4 c 0/\f.gen 4=c/\f.box 4=some [sI 0,AV.slice .full []])/\r v2=some (o,b)) (λr F j m=>?_) ?_;rotate_left
 ·rintro t G ⟨v2,c,E,m⟩;have e:=Aj e E;have⟨I,e,m⟩:=c7 e m;simp[e];refine Cf (iO e.2) ?_;cases m;simp[e]
 have⟨k,d8,e,m⟩:=gb e m;simp[e];refine Cf (gr T (by simp[e]) e.2) ?_;simp[e];refine wj 999 999 (λf h=>∃(a:Nat),h=fu H g [sL sI d8.l,sI d8.qU]/\f.1 0=AV.ei g 0/\f.1 1=sI a1/\f.1 4=AV.dc 4 a 0/\f.1 6=sI k/\f.1 7=sB (ew (de k 0) true (ew (de k 1) true (de k 2)))/\f.gen 4=a/\f.box 4=some [sI 0,AV.slice .full []]) (λJ d=>?_) ?_
 ·rcases Pb (de k 0) e with e|e
  ·simp[e];exact d _ _ ⟨1,by simp[e]⟩
  rcases Pb (de k 1) e with e|e
  ·simp[e];exact d _ _ ⟨1,by simp[e]⟩
  simp[e];exact d _ _ ⟨1,by simp[e]⟩
 rintro s u ⟨a,E⟩;have e:=Aj e E;rcases Io e m with⟨e,m⟩|⟨e,m⟩
 ·have⟨v,e,m⟩:=c7 e m;simp[e];refine Cf (iO e.2) ?_;cases m;simp[e]
 rcases Io e m with⟨e,m⟩|⟨e,m⟩
 ·have⟨w,e,m⟩:=c7 e m;simp[e];refine Cf (pV e.2) ?_;cases m;simp[e]
 rcases Io e m with⟨e,m⟩|⟨e,m⟩
 ·have⟨x,e,m⟩:=c7 e m;simp[e];refine Cf (yS e.2) ?_;cases m;simp[e]
 rcases Io e m with⟨e,m⟩|⟨e,m⟩
 ·rcases Io e m with⟨e,m⟩|⟨e,m⟩;rotate_left
  ·simp[e];exact j _ _ ⟨d8,a,by simp[e],m⟩
  have⟨y,d16,e,m⟩:=gb e m;simp[e];refine Cf (p (by simp[e]) e.2) ?_;have⟨z,d18,e,m⟩:=gb e m;simp[e];refine Cf (p (by simp[e]) e.2) ?_;have⟨A,e,m⟩:=c7 e m;simp[e];refine Cf (Bo e.2) ?_;cases m;simp[e]
 rcases Io e m with⟨e,m⟩|⟨e,m⟩;rotate_left
 ·simp[e];exact j _ _ ⟨d8,a,by simp[e],m⟩
 rcases Io e m with⟨e,m⟩|⟨e,m⟩;rotate_left
 ·simp[e];exact j _ _ ⟨d8,a,by simp[e],m⟩
 have⟨B,d21,e,m⟩:=gb e m;simp[e];refine Cf (p (by simp[e]) e.2) ?_;have⟨C,d23,e,m⟩:=gb e m;simp[e];refine Cf (p (by simp[e]) e.2) ?_;have⟨D,e,m⟩:=c7 e m;simp[e];refine Cf (l5 e.2) ?_;cases m;simp[e]
def oX(T:dA){H:cV}{a0:c6}{a1:Int}{d:Ty}{a:c6}{b:Nat}(c:H[b]?=some [sL sI a0.l,sI a0.qU]){n:Nat}(hm:iQ n a0 a1=some (d,a)):dy prog T 33 [AV.ei b 0,sI a1] H (Ty.av d) (fu H b [sL sI a.l,sI a.qU]):=(Kk T n) c hm
def nD:C2 prog 89 kU (sL Ty.av) (sL Ty.av) (sL Ty.av):=by
 intro T H a0 a1 r hm;rw[kU] at hm;have e:=trivial;refine wi abi func89 [] [] 999 ?_;have⟨e,m⟩:=Ck e hm;simp[e];refine Ao (f:=Ty.av) [] a0 (iS.full (D:=[])) Ft e.2 ?_;have⟨e,m⟩:=Ck e m;simp[e];refine Ao (f:=Ty.av) (fp [] a0) a1 (iS.new (D:=[6]) (d:=6) (by decide)) Ft e.2 ?_;cases m;simp[e]
def Mu:C2 prog 99 zN (sL sI) (sL Ty.av) Ty.av:=by
 intro T H a0 a1 r hm;rw[zN] at hm;have e:=trivial;refine wi abi func99 [] [] 999 ?_;simp[e];refine Wr e hm 0 (λk s2 f h=>∃(b:Tag) (c:Nat),(h=H/\f.1 0=sL Ty.av a0/\f.1 3=AV.dc 3 c 0/\f.1 5=sT b sI s2/\f.1 8=sI (dm a0)/\f.1 9=sI k/\f.gen 3=c/\f.box 3=some [sI a1.abd,sL Ty.av a1.abe])/\Ow f [25] b s2) (by exact⟨.full,1,by simp[e],iS.full⟩) (λs2 l q s E m=>?_) (λk z s2 l q s n6 t E e m u o=>?_)
 ·have⟨b,c,E,g⟩:=E;have e:=Aj e E;apply wg 999;dsimp only[cQ]at m;cases m;simp[e]
 have⟨b,c,E,g⟩:=E;have e:=Aj e E;apply wg 5;simp[e];refine Wj m 999 999 (λn f h=>∃(v11:List Int) (a:Tag) (d:Nat),(h=H/\f.1 0=sL Ty.av a0/\f.1 3=AV.dc 3 d 0/\f.1 5=sT a sI v11/\f.1 8=sI (dm a0)/\f.1 9=sI k/\f.gen 3=d/\f.box 3=some [sI a1.abd,sL Ty.av a1.abe])/\Ow f [25] a v11/\n v11=some t) (λn v i m=>?_) ?_;rotate_left
 ·rintro p w ⟨v11,a,d,E,j,m⟩;have e:=Aj e E;simp[e];cases m;exact o _ _ _ ⟨a,d,by simp[e],j⟩ u
 have⟨x,e,m⟩:=c7 e m;have⟨y,e,m⟩:=c7 e m;simp[e];refine Cs (gp e.2) ?_;rcases Io e m with⟨e,m⟩|⟨e,m⟩;rotate_left
 ·simp[e];exact i _ _ ⟨s2,b,c,by simp[e],g,m⟩
 have⟨e,m⟩:=Ck e m;simp[e];refine Ao (f:=sI) s2 [k] g WZ e.2 ?_;simp[e];exact i _ _ ⟨(fp s2 [k]),(.loc 25 (l.ea 25+1)),c,by simp[e],(On 25),m⟩
def iJ:C2 prog 100 eF Tm.av sI (sL Tm.av):=by
 intro T H a0 a1 r hm;rw[eF] at hm;have e:=trivial;refine wi abi func100 [] [] 999 ?_;simp[e];refine Wr e hm 999 (λj s2 f h=>∃(a:Tag) (b:Nat),(h=H/\f.1 0=sI a0/\f.1 4=AV.dc 4 b 0/\f.1 5=sT a Tm.av s2/\f.1 8=sL Tm.av a1/\f.1 9=sI (dm a1)/\f.1 10=sI j/\f.gen 4=b/\f.box 4=some [sI 0,sI 0,sI 0,AV.slice .full [],AV.slice .full []])/\Ow f [18] a s2) (by exact⟨.full,1,by simp[e],iS.full⟩) (λs2 d k l E m=>?_) (λj o s2 d k l n6 p E e m n g=>?_)
 ·have⟨a,b,E,c⟩:=E;have e:=Aj e E;dsimp only[cQ]at m;cases m;simp[e]
 have⟨a,b,E,c⟩:=E;have e:=Aj e E;have⟨i,e,m⟩:=c7 e m;simp[e];refine Cf (k0 e.2) ?_;have⟨e,m⟩:=Ck e m;simp[e];refine Ao (f:=Tm.av) s2 [i] c C7 e.2 ?_;simp[e];cases m;exact g _ _ _ ⟨(.loc 18 (d.ea 18+1)),b,by simp[e],(On 18)⟩ n
def kX:C3 prog 62 j1 Tm.av sI Ty.av (sL Tm.av):=by
 intro T H a0 a1 a2 r hm;rw[j1] at hm;have e:=trivial;refine wi abi func62 [] [] 999 ?_;have⟨a,e,m⟩:=c7 e hm;simp[e];refine Cf (iJ e.2) ?_;have⟨b,e,m⟩:=c7 e m;simp[e];refine Cf (hL e.2) ?_;cases m;simp[e]
def B7:C1 prog 178 ou Tm.av sI:=by
 intro T H a0 r hm;rw[ou] at hm;have e:=trivial;refine wi abi func178 [] [] 999 ?_;have⟨n,e,m⟩:=c7 e hm;simp[e];refine Cf (iJ e.2) ?_;simp[e];refine Wn m 999 (λs2 f h=>∃(c:Tag) (d:Tag) (a:Nat) (b:Nat),h=H/\f.1 0=sI s2.1/\f.1 2=AV.dc 2 a 0/\f.1 3=AV.dc 3 b 0/\f.gen 2=a/\f.box 2=some [sI 0,sI 0,sI 0,AV.slice .full [],AV.slice .full []]/\f.gen 3=b/\f.box 3=some [sI s2.2.1,sI s2.2.2.1,sI s2.2.2.2.1,sT c Ty.av s2.2.2.2.2.1,sT d Tm.av s2.2.2.2.2.2]) ⟨.eh,.eh,1,1,by simp[e]⟩ (λs2 j o p q s E m i g=>?_);have⟨v9,v10,v11,v12,k,l⟩:=s2;have⟨c,d,a,b,E⟩:=E;have e:=Aj e E;dsimp only[yn]at m;rcases Io e m with⟨e,m⟩|⟨e,m⟩;rotate_left
 ·cases m;have m:=Qb i;dsimp only[yn]at m;cases m;simp[e]
 simp[e];cases m;exact g _ _ _ ⟨.full,.full,a,b,by simp[e]⟩ i
def CA:C1 prog 127 rn (t2 Tm.av sI) sI:=by
 intro T H a0 r hm;rw[rn] at hm;have e:=trivial;refine wi abi func127 [] [] 999 ?_;rcases Io e hm with⟨e,m⟩|⟨e,m⟩
 ·cases m;simp[e]
 rcases Io e m with⟨e,m⟩|⟨e,m⟩
 ·cases m;simp[e]
 have⟨a,e,m⟩:=c7 e m;simp[e];refine Cf (B7 e.2) ?_;cases m;simp[e]
def I4:C1 prog 54 AD Tm.av sI:=by
 intro T H a0 r hm;rw[AD] at hm;have e:=trivial;refine wi abi func54 [] [] 999 ?_;have⟨a,b,e,m⟩:=gb e hm;simp[e];refine Cf (CA e.2) ?_;cases m;simp[e]
def jL:C1 prog 165 jv Tm.av Tm.av:=by
 intro T H a0 r hm;rw[jv] at hm;have e:=trivial;refine wi abi func165 [] [] 999 ?_;have⟨a,e,m⟩:=c7 e hm;simp[e];refine Cs (iO e.2) ?_;have⟨b,e,m⟩:=c7 e m;simp[e];refine Cs (kX e.2) ?_;cases m;simp[e]
def wC:C3 prog 166 qn Tm.av Tm.av Tm.av Tm.av:=by
 intro T H a0 a1 a2 r hm;rw[qn] at hm;have e:=trivial;refine wi abi func166 [] [] 999 ?_;have⟨a,e,m⟩:=c7 e hm;simp[e];refine Cs (iO e.2) ?_;have⟨b,e,m⟩:=c7 e m;simp[e];refine Cs (kX e.2) ?_;cases m;simp[e]
def Ha:C0 prog 102 r' Tm.av:=by
 intro T H r hm;rw[r'] at hm;have e:=trivial;refine wi abi func102 [] [] 999 ?_;have⟨a,e,m⟩:=c7 e hm;simp[e];refine Cf (gV e.2) ?_;have⟨b,e,m⟩:=c7 e m;simp[e];refine Cf (gV e.2) ?_;have⟨c,e,m⟩:=c7 e m;simp[e];refine Cf (iJ e.2) ?_;have⟨d,e,m⟩:=c7 e m;simp[e];refine Cf (jL e.2) ?_;have⟨f,e,m⟩:=c7 e m;simp[e];refine Cf (jL e.2) ?_;have⟨g,e,m⟩:=c7 e m;simp[e];refine Cf (gV e.2) ?_;have⟨h,e,m⟩:=c7 e m;simp[e];refine Cf (wC e.2) ?_;have⟨i,e,m⟩:=c7 e m;simp[e];refine Cf (jL e.2) ?_;have⟨j,e,m⟩:=c7 e m;simp[e];refine Cf (jL e.2) ?_;cases m;simp[e]
def Iz:C2 prog 101 z8 Tm.av Tm.av (sL Tm.av):=by
 intro T H a0 a1 r hm;rw[z8] at hm;have e:=trivial;refine wi abi func101 [] [] 999 ?_;simp[e];refine Wr e hm 999 (λj s2 f h=>∃(a:Nat) (b:Nat),h=H/\f.1 2=AV.dc 2 a 0/\f.1 4=AV.dc 4 b 0/\f.1 7=sL Tm.av a1/\f.1 8=sI (dm a1)/\f.1 9=sI j/\f.gen 2=a/\f.box 2=some [sI s2.1,sI s2.2.1,sI s2.2.2.1,sL Ty.av s2.2.2.2.1,sL Tm.av s2.2.2.2.2]/\f.gen 4=b/\f.box 4=some [sI 0,sI 0,sI 0,AV.slice .full [],AV.slice .full []]) ⟨1,1,by simp[e]⟩ (λs2 c k l E m=>?_) (λj p s2 c k l n6 q E e m n d=>?_)
 ·have⟨v10,v11,v12,g,i⟩:=s2;have⟨a,b,E⟩:=E;have e:=Aj e E;dsimp only[cQ,CY]at m;cases m;simp[e]
 have⟨v10,v11,v12,g,i⟩:=s2;have⟨a,b,E⟩:=E;have e:=Aj e E;dsimp only[CY]at m;have⟨o,e,m⟩:=c7 e m;simp[e];refine Cf (iJ e.2) ?_;simp[e];cases m;exact d _ _ _ ⟨a,b,by simp[e]⟩ n
def Hq:C0 prog 167 rG Tm.av:=by
 intro T H r hm;rw[rG] at hm;have e:=trivial;refine wi abi func167 [] [] 999 ?_;have⟨a,e,m⟩:=c7 e hm;simp[e];refine Cf (iJ e.2) ?_;have⟨b,e,m⟩:=c7 e m;simp[e];refine Cf (gV e.2) ?_;have⟨c,e,m⟩:=c7 e m;simp[e];refine Cf (jL e.2) ?_;have⟨d,e,m⟩:=c7 e m;simp[e];refine Cf (jL e.2) ?_;have⟨f,e,m⟩:=c7 e m;simp[e];refine Cf (gV e.2) ?_;have⟨g,e,m⟩:=c7 e m;simp[e];refine Cf (wC e.2) ?_;have⟨h,e,m⟩:=c7 e m;simp[e];refine Cf (jL e.2) ?_;cases m;simp[e]
def HW:C0 prog 103 t_ Tm.av:=by
 intro T H r hm;rw[t_] at hm;have e:=trivial;refine wi abi func103 [] [] 999 ?_;have⟨b,e,m⟩:=c7 e hm;simp[e];refine Cf (gV e.2) ?_;have⟨c,e,m⟩:=c7 e m;simp[e];refine Cf (Hq e.2) ?_;have⟨d,e,m⟩:=c7 e m;simp[e];refine Cf (gV e.2) ?_;have⟨f,e,m⟩:=c7 e m;simp[e];refine Cf (iJ e.2) ?_;have⟨g,e,m⟩:=c7 e m;simp[e];refine Cf (jL e.2) ?_;have⟨h,e,m⟩:=c7 e m;simp[e];refine Cf (jL e.2) ?_;have⟨i,e,m⟩:=c7 e m;simp[e];refine Cf (gV e.2) ?_;have⟨j,e,m⟩:=c7 e m;simp[e];refine Cf (wC e.2) ?_;have⟨k,e,m⟩:=c7 e m;simp[e];refine Cf (jL e.2) ?_;have⟨a,e,m⟩:=c7 e m;simp[e];refine Cf (jL e.2) ?_;cases m;simp[e]
def JK(T:dA):∀(n:Nat),(∀{H:cV} {a0:c6} {a1:List Ty} {a2:Ty} {a3:Int} {K:Tm} {q:c6} {r:Nat} (L:H[r]?=some [sL sI a0.l,sI a0.qU]) (hm:fI n a0 a1 a2 a3=some (K,q)),dy prog T 35 [AV.ei r 0,sL Ty.av a1,Ty.av a2,sI a3] H (Tm.av K) (fu H r [sL sI q.l,sI q.qU])):=by
  intro n
  induction n with
  |zero=>
    skip
    all_goals(intro _ _;intros;rename_i hm;cases hm)
  |succ n k=>
 intro H a0 a1 a2 a3 K q r L hm;rw[fI] at hm;have W:=eP L;refine ej.L7 L ?_;have e:=W;refine wi abi func35 [] [] 5 ?_;have⟨x1,e,m⟩:=c7 e hm;simp[e];refine Cf (Mu e.2) ?_;simp[e];refine Wj m 999 0 (λZ f h=>∃(v3:Bool) (v4:c6) (o:Nat) (p:Nat),(h=fu H r [sL sI v4.l,sI v4.qU]/\f.1 0=AV.ei r 0/\f.1 1=sL Ty.av a1/\f.1 3=sI a3/\f.1 6=AV.dc 6 o 0/\f.1 8=AV.dc 8 p 0/\f.1 9=sL sI x1/\f.1 27=sB v3/\f.gen 6=o/\f.box 6=some [sI a2.abd,sL Ty.av a2.abe]/\f.gen 8=p/\f.box 8=some [sI 0,sI 0,sI 0,AV.slice .full [],AV.slice .full []])/\Z v3 v4=some (K,q)) (λZ K5 N m=>?_) ?_
 ·rcases Io e m with⟨e,m⟩|⟨e,m⟩;rotate_left
  ·simp[e];exact N _ _ ⟨false,a0,1,1,by simp[e],m⟩
  have⟨x7,d8,e,m⟩:=gb e m;simp[e];refine Cf (gr T (by simp[e]) e.2) ?_;simp[e];exact N _ _ ⟨(mV x7 0),d8,1,1,by simp[e],m⟩
 rintro aN h9 ⟨v3,v4,o,p,E,m⟩;have e:=Aj e E;rcases Io e m with⟨e,m⟩|⟨e,m⟩
 ·apply wg 999;have⟨aO,d11,e,m⟩:=gb e m;simp[e];refine Cf (gr T (by simp[e]) e.2) ?_;have⟨aP,e,m⟩:=c7 e m;have⟨aQ,e,m⟩:=c7 e m;simp[e];refine Cf (gV e.2) ?_;cases m;simp[e]
 apply wg 2;simp[e];refine Wj m 999 6 (λO f h=>∃(x:c6) (i:Nat) (c:Nat),(h=fu H r [sL sI x.l,sI x.qU]/\f.1 0=AV.ei r 0/\f.1 1=sL Ty.av a1/\f.1 3=sI a3/\f.1 6=AV.dc 6 i 0/\f.1 8=AV.dc 8 c 0/\f.gen 6=i/\f.box 6=some [sI a2.abd,sL Ty.av a2.abe]/\f.gen 8=c/\f.box 8=some [sI 0,sI 0,sI 0,AV.slice .full [],AV.slice .full []])/\O x=some (K,q)) (λO aR y m=>?_) ?_;rotate_left
 ·rintro aa aS ⟨x,i,c,E,m⟩;have e:=Aj e E;simp[e];rcases Io e m with⟨e,m⟩|⟨e,m⟩
  ·apply wg 1;simp[e];refine Wj m 999 999 (λP f h=>∃(v20:c6) (s:Nat),(h=fu H r [sL sI v20.l,sI v20.qU]/\f.1 0=AV.ei r 0/\f.1 8=AV.dc 8 s 0/\f.gen 8=s/\f.box 8=some [sI 0,sI 0,sI 0,AV.slice .full [],AV.slice .full []])/\P v20=some (K,q)) (λP aT C m=>?_) ?_;rotate_left
   ·rintro ab aU ⟨v20,s,E,m⟩;have e:=Aj e E;have⟨aV,d25,e,m⟩:=gb e m;simp[e];refine Cf (gr T (by simp[e]) e.2) ?_;have⟨aW,e,m⟩:=c7 e m;simp[e];refine Cf (I4 e.2) ?_;cases m;simp[e]
   rcases Io e m with⟨e,m⟩|⟨e,m⟩;rotate_left
   ·simp[e];exact C _ _ ⟨x,c,by simp[e],m⟩
   have⟨aX,d28,e,m⟩:=gb e m;simp[e];refine Cf (gr T (by simp[e]) e.2) ?_;rcases Io e m with⟨e,m⟩|⟨e,m⟩
   ·have⟨aY,d30,e,m⟩:=gb e m;simp[e];refine Cf (k (by simp[e]) e.2) ?_;have⟨aZ,e,m⟩:=c7 e m;simp[e];refine Cf (iJ e.2) ?_;cases m;simp[e]
   rcases Io e m with⟨e,m⟩|⟨e,m⟩
   ·have⟨a6,e,m⟩:=c7 e m;simp[e];refine Cs (Ha e.2) ?_;have⟨a7,d34,e,m⟩:=gb e m;simp[e];refine Cs (k (by simp[e]) e.2) ?_;have⟨a8,d36,e,m⟩:=gb e m;simp[e];refine Cs (k (by simp[e]) e.2) ?_;have⟨a_,e,m⟩:=c7 e m;simp[e];refine Cs (Iz e.2) ?_;cases m;simp[e]
   rcases Io e m with⟨e,m⟩|⟨e,m⟩;rotate_left
   ·simp[e];exact C _ _ ⟨d28,c,by simp[e],m⟩
   have⟨a',e,m⟩:=c7 e m;simp[e];refine Cs (HW e.2) ?_;have⟨ba,d40,e,m⟩:=gb e m;simp[e];refine Cs (k (by simp[e]) e.2) ?_;have⟨bb,d42,e,m⟩:=gb e m;simp[e];refine Cs (k (by simp[e]) e.2) ?_;have⟨bc,e,m⟩:=c7 e m;simp[e];refine Cs (Iz e.2) ?_;cases m;simp[e]
  apply wg 3;simp[e];rcases Io e m with⟨e,m⟩|⟨e,m⟩;rotate_left
  ·apply wg 999;rcases Io e m with⟨e,m⟩|⟨e,m⟩
   ·have⟨bd,e,m⟩:=c7 e m;have⟨bf,d46,e,m⟩:=gb e m;simp[e];refine Cs (k (by simp[e]) e.2) ?_;have⟨bg,e,m⟩:=c7 e m;have⟨bh,d49,e,m⟩:=gb e m;simp[e];refine Cs (k (by simp[e]) e.2) ?_;have⟨bj,e,m⟩:=c7 e m;simp[e];refine Cs (iJ e.2) ?_;cases m;simp[e]
   rcases Io e m with⟨e,m⟩|⟨e,m⟩;rotate_left
   ·have⟨bk,e,m⟩:=c7 e m;simp[e];refine Cf (iJ e.2) ?_;cases m;simp[e]
   have⟨bl,e,m⟩:=c7 e m;have⟨bm,e,m⟩:=c7 e m;simp[e];refine Cs (nD e.2) ?_;have⟨bn,e,m⟩:=c7 e m;have⟨bo,d56,e,m⟩:=gb e m;simp[e];refine Cs (k (by simp[e]) e.2) ?_;have⟨bp,e,m⟩:=c7 e m;simp[e];refine Cs (kX e.2) ?_;cases m;simp[e]
  apply wg 2;simp[e];refine Wj m 999 999 (λQ f h=>∃(v59:Bool) (B:c6) (t:Nat) (u:Nat),(h=fu H r [sL sI B.l,sI B.qU]/\f.1 0=AV.ei r 0/\f.1 1=sL Ty.av a1/\f.1 3=sI a3/\f.1 6=AV.dc 6 t 0/\f.1 8=AV.dc 8 u 0/\f.1 276=sB v59/\f.gen 6=t/\f.box 6=some [sI a2.abd,sL Ty.av a2.abe]/\f.gen 8=u/\f.box 8=some [sI 0,sI 0,sI 0,AV.slice .full [],AV.slice .full []])/\Q v59 B=some (K,q)) (λQ bq D m=>?_) ?_
  ·rcases Io e m with⟨e,m⟩|⟨e,m⟩;rotate_left
   ·simp[e];exact D _ _ ⟨false,x,i,c,by simp[e],m⟩
   have⟨X,d64,e,m⟩:=gb e m;simp[e];refine Cf (gr T (by simp[e]) e.2) ?_;simp[e];exact D _ _ ⟨(de X 0),d64,i,c,by simp[e],m⟩
  rintro ad br ⟨v59,B,t,u,E,m⟩;have e:=Aj e E;rcases Io e m with⟨e,m⟩|⟨e,m⟩;rotate_left
  ·have⟨bs,e,m⟩:=c7 e m;simp[e];refine Cf (iJ e.2) ?_;cases m;simp[e]
  have⟨bt,e,m⟩:=c7 e m;simp[e];refine Cs (iO e.2) ?_;have⟨bu,d69,e,m⟩:=gb e m;simp[e];refine Cs (k (by simp[e]) e.2) ?_;have⟨bw,d71,e,m⟩:=gb e m;simp[e];refine Cs (k (by simp[e]) e.2) ?_;have⟨bx,e,m⟩:=c7 e m;simp[e];refine Cs (iJ e.2) ?_;cases m;simp[e]
 rcases Io e m with⟨e,m⟩|⟨e,m⟩;rotate_left
 ·simp[e];exact y _ _ ⟨v4,o,p,by simp[e],m⟩
 have⟨bz,d74,e,m⟩:=gb e m;simp[e];refine Cf (gr T (by simp[e]) e.2) ?_;rcases Io e m with⟨e,m⟩|⟨e,m⟩
 ·have⟨bA,d76,e,m⟩:=gb e m;simp[e];refine Cf (oX T (by simp[e]) e.2) ?_;have⟨bB,e,m⟩:=c7 e m;simp[e];refine Cs (nD e.2) ?_;have⟨bC,d79,e,m⟩:=gb e m;simp[e];refine Cs (k (by simp[e]) e.2) ?_;have⟨bD,e,m⟩:=c7 e m;simp[e];refine Cs (kX e.2) ?_;have⟨bE,d82,e,m⟩:=gb e m;simp[e];refine Cs (k (by simp[e]) e.2) ?_;have⟨bF,e,m⟩:=c7 e m;simp[e];refine Cs (iJ e.2) ?_;cases m;simp[e]
 rcases Io e m with⟨e,m⟩|⟨e,m⟩
 ·have⟨bG,d85,e,m⟩:=gb e m;simp[e];refine Cf (oX T (by simp[e]) e.2) ?_;have⟨bH,d87,e,m⟩:=gb e m;simp[e];refine Cs (k (by simp[e]) e.2) ?_;have⟨bI,d89,e,m⟩:=gb e m;simp[e];refine Cs (k (by simp[e]) e.2) ?_;have⟨bJ,e,m⟩:=c7 e m;simp[e];refine Cs (iJ e.2) ?_;have⟨bK,e,m⟩:=c7 e m;simp[e];refine Cs (iJ e.2) ?_;cases m;simp[e]
 rcases Io e m with⟨e,m⟩|⟨e,m⟩
 ·have⟨bL,e,m⟩:=c7 e m;simp[e];refine Cs (iO e.2) ?_;have⟨bM,e,m⟩:=c7 e m;simp[e];refine Cs (iO e.2) ?_;have⟨bN,e,m⟩:=c7 e m;simp[e];refine Cs (nD e.2) ?_;have⟨bO,d96,e,m⟩:=gb e m;simp[e];refine Cs (k (by simp[e]) e.2) ?_;have⟨bP,e,m⟩:=c7 e m;simp[e];refine Cs (kX e.2) ?_;have⟨bQ,e,m⟩:=c7 e m;simp[e];refine Cs (kX e.2) ?_;have⟨bR,d100,e,m⟩:=gb e m;simp[e];refine Cs (k (by simp[e]) e.2) ?_;have⟨ae,d102,e,m⟩:=gb e m;simp[e];refine Cs (gr T (by simp[e]) e.2) ?_;have⟨af,e,m⟩:=c7 e m;simp[e];refine Cs (I4 e.2) ?_;have⟨ah,e,m⟩:=c7 e m;simp[e];refine Cs (kX e.2) ?_;cases m;simp[e]
 rcases Io e m with⟨e,m⟩|⟨e,m⟩
 ·have⟨ai,e,m⟩:=c7 e m;simp[e];refine Cs (iO e.2) ?_;have⟨aj,e,m⟩:=c7 e m;simp[e];refine Cs (pV e.2) ?_;have⟨ak,e,m⟩:=c7 e m;simp[e];refine Cs (iO e.2) ?_;have⟨al,e,m⟩:=c7 e m;simp[e];refine Cs (pV e.2) ?_;have⟨an,e,m⟩:=c7 e m;simp[e];refine Cs (nD e.2) ?_;have⟨ao,d111,e,m⟩:=gb e m;simp[e];refine Cs (k (by simp[e]) e.2) ?_;have⟨aq,e,m⟩:=c7 e m;simp[e];refine Cs (kX e.2) ?_;have⟨ar,e,m⟩:=c7 e m;simp[e];refine Cs (kX e.2) ?_;have⟨au,e,m⟩:=c7 e m;simp[e];refine Cs (kX e.2) ?_;have⟨aw,d116,e,m⟩:=gb e m;simp[e];refine Cs (k (by simp[e]) e.2) ?_;have⟨ax,e,m⟩:=c7 e m;simp[e];refine Cs (pV e.2) ?_;have⟨ay,d119,e,m⟩:=gb e m;simp[e];refine Cs (k (by simp[e]) e.2) ?_;have⟨az,e,m⟩:=c7 e m;simp[e];refine Cs (kX e.2) ?_;cases m;simp[e]
 rcases Io e m with⟨e,m⟩|⟨e,m⟩
 ·have⟨aA,d122,e,m⟩:=gb e m;simp[e];refine Cf (oX T (by simp[e]) e.2) ?_;have⟨aB,d124,e,m⟩:=gb e m;simp[e];refine Cs (k (by simp[e]) e.2) ?_;have⟨aC,d126,e,m⟩:=gb e m;simp[e];refine Cs (k (by simp[e]) e.2) ?_;have⟨aD,e,m⟩:=c7 e m;simp[e];refine Cs (iJ e.2) ?_;have⟨aE,e,m⟩:=c7 e m;simp[e];refine Cs (iJ e.2) ?_;cases m;simp[e]
 rcases Io e m with⟨e,m⟩|⟨e,m⟩;rotate_left
 ·simp[e];exact y _ _ ⟨d74,o,p,by simp[e],m⟩
 simp[e];refine Wr e m 0 (λw F f h=>∃(a:Nat) (b:Nat),h=fu H r [sL sI d74.l,sI d74.qU]/\f.1 0=AV.ei r 0/\f.1 1=sL Ty.av a1/\f.1 3=sI a3/\f.1 6=AV.dc 6 a 0/\f.1 8=AV.dc 8 b 0/\f.1 176=sI (dm a1)/\f.1 177=sI w/\f.gen 6=a/\f.box 6=some [sI a2.abd,sL Ty.av a2.abe]/\f.gen 8=b/\f.box 8=some [sI 0,sI 0,sI 0,AV.slice .full [],AV.slice .full []]) ⟨o,p,by simp[e]⟩ (λF v R S E m=>?_) (λw aF F v R S n134 U E e m G M=>?_)
 ·have⟨a,b,E⟩:=E;have e:=Aj e E;apply wg 999;dsimp only[cQ]at m;simp[e];exact y _ _ ⟨d74,a,b,by simp[e],m⟩
 have⟨a,b,E⟩:=E;have e:=Aj e E;apply wg 11;have⟨I,e,m⟩:=c7 e m;simp[e];refine Wj m 999 999 (λJ f h=>∃(z:Bool) (d:Nat) (g:Nat) (j:Nat),(h=fu H r [sL sI d74.l,sI d74.qU]/\f.1 0=AV.ei r 0/\f.1 1=sL Ty.av a1/\f.1 3=sI a3/\f.1 6=AV.dc 6 d 0/\f.1 8=AV.dc 8 g 0/\f.1 15=sI w/\f.1 16=AV.dc 16 j 0/\f.1 176=sI (dm a1)/\f.1 177=sI w/\f.1 198=sB z/\f.gen 6=d/\f.box 6=some [sI a2.abd,sL Ty.av a2.abe]/\f.gen 8=g/\f.box 8=some [sI 0,sI 0,sI 0,AV.slice .full [],AV.slice .full []]/\f.gen 16=j/\f.box 16=some [sI I.abd,sL Ty.av I.abe])/\J z=some U) (λJ aG A m=>?_) ?_
 ·rcases Io e m with⟨e,m⟩|⟨e,m⟩;rotate_left
  ·simp[e];exact A _ _ ⟨false,a,b,(v.gen 16+1),by simp[e],m⟩
  have⟨aH,e,m⟩:=c7 e m;have⟨V,e,m⟩:=c7 e m;simp[e];refine Cs (gp e.2) ?_;simp[e];exact A _ _ ⟨V,a,b,(v.gen 16+1),by simp[e],m⟩
 rintro Y aI ⟨z,d,g,j,E,m⟩;have e:=Aj e E;rcases Io e m with⟨e,m⟩|⟨e,m⟩;rotate_left
 ·simp[e];cases m;exact M _ _ _ ⟨d,g,by simp[e]⟩ G
 have⟨aJ,e,m⟩:=c7 e m;simp[e];refine Cs (gV e.2) ?_;have⟨aK,e,m⟩:=c7 e m;have⟨aL,d149,e,m⟩:=gb e m;simp[e];refine Cs (k (by simp[e]) e.2) ?_;have⟨aM,e,m⟩:=c7 e m;simp[e];refine Cs (iJ e.2) ?_;cases m;cases G;simp[e]
def As(T:dA){H:cV}{a0:c6}{a1:List Ty}{a2:Ty}{a3:Int}{d:Tm}{a:c6}{b:Nat}(c:H[b]?=some [sL sI a0.l,sI a0.qU]){n:Nat}(hm:fI n a0 a1 a2 a3=some (d,a)):dy prog T 35 [AV.ei b 0,sL Ty.av a1,Ty.av a2,sI a3] H (Tm.av d) (fu H b [sL sI a.l,sI a.qU]):=(JK T n) c hm
def ER(T:dA):∀(n:Nat),(∀{H:cV} {a0:c6} {a1:List Ty} {a2:Int} {r:Fm} {d:c6} {i:Nat} (o:H[i]?=some [sL sI a0.l,sI a0.qU]) (hm:fQ n a0 a1 a2=some (r,d)),dy prog T 28 [AV.ei i 0,sL Ty.av a1,sI a2] H (Fm.av r) (fu H i [sL sI d.l,sI d.qU])):=by
  intro n
  induction n with
  |zero=>
    skip
    all_goals(intro _ _;intros;rename_i hm;cases hm)
  |succ n p=>
 intro H a0 a1 a2 r d i o hm;rw[fQ] at hm;have s:=eP o;refine ej.L7 o ?_;have e:=s;refine wi abi func28 [] [] 2 ?_;simp[e];refine Wj hm 2 999 (λt f h=>∃(v2:c6) (g:Nat),(h=fu H i [sL sI v2.l,sI v2.qU]/\f.1 0=AV.ei i 0/\f.1 1=sL Ty.av a1/\f.1 6=AV.dc 6 g 0/\f.gen 6=g/\f.box 6=some [sI 0,sI 0,AV.slice .full [],AV.slice .full [],AV.slice .full []])/\t v2=some (r,d)) (λt Y q m=>?_) ?_;rotate_left
 ·rintro w Z ⟨v2,g,E,m⟩;have e:=Aj e E;have⟨x6,e,m⟩:=c7 e m;simp[e];refine Cf (iO e.2) ?_;have⟨x7,d8,e,m⟩:=gb e m;simp[e];refine Cs (As T (by simp[e]) e.2) ?_;have⟨x9,d10,e,m⟩:=gb e m;simp[e];refine Cs (As T (by simp[e]) e.2) ?_;have⟨x,e,m⟩:=c7 e m;simp[e];refine Cs (xR e.2) ?_;cases m;simp[e]
 simp[e];rcases Io e m with⟨e,m⟩|⟨e,m⟩;rotate_left
 ·apply wg 999;simp[e];exact q _ _ ⟨a0,1,by simp[e],m⟩
 apply wg 6;have⟨c,d13,e,m⟩:=gb e m;simp[e];refine Cf (gr T (by simp[e]) e.2) ?_;simp[e];rcases Io e m with⟨e,m⟩|⟨e,m⟩
 ·apply wg 999;have⟨y,d15,e,m⟩:=gb e m;simp[e];refine Cf (p (by simp[e]) e.2) ?_;have⟨z,d17,e,m⟩:=gb e m;simp[e];refine Cf (p (by simp[e]) e.2) ?_;have⟨A,e,m⟩:=c7 e m;simp[e];refine Cf (By e.2) ?_;cases m;simp[e]
 apply wg 1;simp[e];refine wj 999 0 (λf h=>∃(a:Nat),h=fu H i [sL sI d13.l,sI d13.qU]/\f.1 0=AV.ei i 0/\f.1 1=sL Ty.av a1/\f.1 2=sI a2/\f.1 6=AV.dc 6 a 0/\f.1 14=sI c/\f.1 28=sB (ew (de c 1) true (de c 2))/\f.gen 6=a/\f.box 6=some [sI 0,sI 0,AV.slice .full [],AV.slice .full [],AV.slice .full []]) (λB j=>?_) ?_
 ·rcases Pb (de c 1) e with e|e
  ·simp[e];exact j _ _ ⟨1,by simp[e]⟩
  simp[e];exact j _ _ ⟨1,by simp[e]⟩
 rintro u C ⟨a,E⟩;have e:=Aj e E;rcases Io e m with⟨e,m⟩|⟨e,m⟩
 ·apply wg 999;have⟨D,d23,e,m⟩:=gb e m;simp[e];refine Cf (p (by simp[e]) e.2) ?_;have⟨F,d25,e,m⟩:=gb e m;simp[e];refine Cf (p (by simp[e]) e.2) ?_;have⟨G,e,m⟩:=c7 e m;simp[e];refine Cf (By e.2) ?_;cases m;simp[e]
 apply wg 1;simp[e];refine wj 999 999 (λf h=>∃(b:Nat),h=fu H i [sL sI d13.l,sI d13.qU]/\f.1 0=AV.ei i 0/\f.1 1=sL Ty.av a1/\f.1 2=sI a2/\f.1 6=AV.dc 6 b 0/\f.1 14=sI c/\f.1 42=sB (ew (de c 3) true (de c 4))/\f.gen 6=b/\f.box 6=some [sI 0,sI 0,AV.slice .full [],AV.slice .full [],AV.slice .full []]) (λI k=>?_) ?_
 ·rcases Pb (de c 3) e with e|e
  ·simp[e];exact k _ _ ⟨a,by simp[e]⟩
  simp[e];exact k _ _ ⟨a,by simp[e]⟩
 rintro v J ⟨b,E⟩;have e:=Aj e E;rcases Io e m with⟨e,m⟩|⟨e,m⟩
 ·have⟨K,d31,e,m⟩:=gb e m;simp[e];refine Cf (oX T (by simp[e]) e.2) ?_;have⟨L,e,m⟩:=c7 e m;simp[e];refine Cs (nD e.2) ?_;have⟨M,d34,e,m⟩:=gb e m;simp[e];refine Cs (p (by simp[e]) e.2) ?_;have⟨N,e,m⟩:=c7 e m;simp[e];refine Cs (uk e.2) ?_;cases m;simp[e]
 rcases Io e m with⟨e,m⟩|⟨e,m⟩
 ·have⟨O,d37,e,m⟩:=gb e m;simp[e];refine Cf (oX T (by simp[e]) e.2) ?_;have⟨P,e,m⟩:=c7 e m;simp[e];refine Cs (nD e.2) ?_;have⟨Q,d40,e,m⟩:=gb e m;simp[e];refine Cs (p (by simp[e]) e.2) ?_;have⟨R,e,m⟩:=c7 e m;simp[e];refine Cs (uk e.2) ?_;cases m;simp[e]
 rcases Io e m with⟨e,m⟩|⟨e,m⟩;rotate_left
 ·simp[e];exact q _ _ ⟨d13,b,by simp[e],m⟩
 have⟨S,d43,e,m⟩:=gb e m;simp[e];refine Cf (oX T (by simp[e]) e.2) ?_;have⟨U,d45,e,m⟩:=gb e m;simp[e];refine Cs (gr T (by simp[e]) e.2) ?_;have⟨V,e,m⟩:=c7 e m;simp[e];refine Cs (nD e.2) ?_;have⟨W,d48,e,m⟩:=gb e m;simp[e];refine Cs (p (by simp[e]) e.2) ?_;have⟨X,e,m⟩:=c7 e m;simp[e];refine Cs (uk e.2) ?_;cases m;simp[e]
def GK(T:dA){H:cV}{a0:c6}{a1:List Ty}{a2:Int}{d:Fm}{a:c6}{b:Nat}(c:H[b]?=some [sL sI a0.l,sI a0.qU]){n:Nat}(hm:fQ n a0 a1 a2=some (d,a)):dy prog T 28 [AV.ei b 0,sL Ty.av a1,sI a2] H (Fm.av d) (fu H b [sL sI a.l,sI a.qU]):=(ER T n) c hm
def Gv(T:dA){H:cV}{a0:c6}{p:List Ty}{b:c6}{d:Nat}(g:H[d]?=some [sL sI a0.l,sI a0.qU])(hm:rL a0=some (p,b)):dy prog T 64 [AV.ei d 0] H (sL Ty.av p) (fu H d [sL sI b.l,sI b.qU]):=by
 rw[rL] at hm;have j:=eP g;refine ej.L7 g ?_;have e:=j;refine wi abi func64 [] [] 999 ?_;have⟨r,d2,e,m⟩:=gb e hm;simp[e];refine Cf (gr T (by simp[e]) e.2) ?_;simp[e];refine Wn m 999 (λc f h=>∃(a:Tag),(h=fu H d [sL sI c.2.2.l,sI c.2.2.qU]/\f.1 0=AV.ei d 0/\f.1 3=sT a Ty.av c.1/\f.1 4=sI c.2.1)/\Ow f [15] a c.1) (by exact⟨.full,by simp[e],iS.full⟩) (λc k s t n6 u E m q n=>?_);have⟨v10,v11,v12⟩:=c;have⟨a,E,i⟩:=E;have e:=Aj e E;dsimp only[tj]at m;rcases Io e m with⟨e,m⟩|⟨e,m⟩;rotate_left
 ·cases m;have m:=Qb q;dsimp only[tj]at m;cases m;simp[e]
 have⟨o,d14,e,m⟩:=gb e m;simp[e];refine Cf (oX T (by simp[e]) e.2) ?_;have⟨e,m⟩:=Ck e m;simp[e];refine Ao (f:=Ty.av) v10 [o] i Ft e.2 ?_;simp[e];cases m;exact n _ _ _ ⟨(.loc 15 (k.ea 15+1)),by simp[e],(On 15)⟩ q
def Hn(T:dA){H:cV}{a0:c6}{t:Sq}{d:c6}{i:Nat}(j:H[i]?=some [sL sI a0.l,sI a0.qU])(hm:qk a0=some (t,d)):dy prog T 18 [AV.ei i 0] H (Sq.av t) (fu H i [sL sI d.l,sI d.qU]):=by
 rw[qk] at hm;have p:=eP j;refine ej.L7 j ?_;have e:=p;refine wi abi func18 [] [] 999 ?_;have⟨u,d2,e,m⟩:=gb e hm;simp[e];refine Cf (Gv T (by simp[e]) e.2) ?_;have⟨w,d4,e,m⟩:=gb e m;simp[e];refine Cf (gr T (by simp[e]) e.2) ?_;simp[e];refine Wn m 999 (λg f h=>∃(a:Tag) (b:Nat) (c:Nat),(h=fu H i [sL sI g.2.2.l,sI g.2.2.qU]/\f.1 0=AV.ei i 0/\f.1 2=AV.dc 2 b 0/\f.1 3=AV.dc 3 c 0/\f.1 4=sI g.1/\f.gen 2=b/\f.box 2=some [AV.slice .full [],AV.slice .full []]/\f.gen 3=c/\f.box 3=some [sL Ty.av u,sT a Fm.av g.2.1])/\Ow f [21] a g.2.1) (by exact⟨.full,1,1,by simp[e],iS.full⟩) (λg q x y z A E m k n=>?_);have⟨v12,r,v⟩:=g;have⟨a,b,c,E,o⟩:=E;have e:=Aj e E;dsimp only[tj]at m;rcases Io e m with⟨e,m⟩|⟨e,m⟩;rotate_left
 ·cases m;have m:=Qb k;dsimp only[tj]at m;cases m;simp[e]
 have⟨s,d16,e,m⟩:=gb e m;simp[e];refine Cs (GK T (by simp[e]) e.2) ?_;have⟨e,m⟩:=Ck e m;simp[e];refine Ad (f:=Fm.av) r [s] o OL e.2 ?_;simp[e];cases m;exact n _ _ _ ⟨(.loc 21 (q.ea 21+1)),b,c,by simp[e],(On 21)⟩ k
def Du:∀(n:Nat),C1 prog 187 (l6 n) sB Ty.av:=by
  intro n
  induction n with
  |zero=>
    skip
    all_goals(intro _ _;intros;rename_i hm;cases hm)
  |succ n u=>
 intro T H a0 r hm;rw[l6] at hm;have e:=trivial;refine wi abi func187 [] [] 4 ?_;simp[e];refine Wj hm 3 999 (λo f h=>∃(v2:Int) (c:Nat),(h=H/\f.1 1=AV.dc 1 c 0/\f.1 3=sI v2/\f.gen 1=c/\f.box 1=some [sI a0.abd,sL Ty.av a0.abe])/\o v2=some r) (λo I i m=>?_) ?_;rotate_left
 ·rintro v J ⟨v2,c,E,m⟩;have e:=Aj e E;rcases Io e m with⟨e,m⟩|⟨e,m⟩
  ·cases m;simp[e]
  simp[e];refine Wr e m 999 (λp q f h=>h=H/\f.1 21=sL Ty.av a0.abe/\f.1 22=sI (dm a0.abe)/\f.1 23=sI p) (by simp[e]) (λq l w x E m=>?_) (λp y q l w x z A E e m j k=>?_)
  ·have e:=Aj e E;dsimp only[cQ]at m;cases m;simp[e]
  have e:=Aj e E;have⟨B,e,m⟩:=c7 e m;simp[e];refine Cf (u e.2) ?_;rcases Io e m with⟨e,m⟩|⟨e,m⟩;rotate_left
  ·cases m;cases j;simp[e]
  simp[e];cases m;exact k _ _ _ (by simp[e]) j
 simp[e];refine wj 999 0 (λf h=>∃(a:Nat),h=H/\f.1 1=AV.dc 1 a 0/\f.1 3=sI 0/\f.1 7=sI a0.abd/\f.1 8=sB (ew (de a0.abd 1) true (ew (de a0.abd 2) true (de a0.abd 5)))/\f.gen 1=a/\f.box 1=some [sI a0.abd,sL Ty.av a0.abe]) (λC d=>?_) ?_
 ·rcases Pb (de a0.abd 1) e with e|e
  ·simp[e];exact d _ _ ⟨1,by simp[e]⟩
  rcases Pb (de a0.abd 2) e with e|e
  ·simp[e];exact d _ _ ⟨1,by simp[e]⟩
  simp[e];exact d _ _ ⟨1,by simp[e]⟩
 rintro s D ⟨a,E⟩;have e:=Aj e E;rcases Io e m with⟨e,m⟩|⟨e,m⟩
 ·apply wg 999;simp[e];exact i _ _ ⟨0,a,by simp[e],m⟩
 apply wg 1;simp[e];refine wj 999 999 (λf h=>∃(b:Nat),h=H/\f.1 1=AV.dc 1 b 0/\f.1 12=sB (ew (de a0.abd 3) true (de a0.abd 4))/\f.gen 1=b/\f.box 1=some [sI a0.abd,sL Ty.av a0.abe]) (λF g=>?_) ?_
 ·rcases Pb (de a0.abd 3) e with e|e
  ·simp[e];exact g _ _ ⟨a,by simp[e]⟩
  simp[e];exact g _ _ ⟨a,by simp[e]⟩
 rintro t G ⟨b,E⟩;have e:=Aj e E;rcases Io e m with⟨e,m⟩|⟨e,m⟩;rotate_left
 ·cases m;simp[e]
 simp[e];exact i _ _ ⟨2,b,by simp[e],m⟩
def Fi{n:Nat}:C1 prog 187 (l6 n) sB Ty.av:=(Du n)
def E8:∀(n:Nat),C1 prog 188 (nw n) sI Ty.av:=by
  intro n
  induction n with
  |zero=>
   skip
   all_goals(intro _ _;intros;rename_i hm;cases hm)
  |succ n d=>
 intro T H a0 r hm;rw[nw] at hm;have e:=trivial;refine wi abi func188 [] [] 999 ?_;simp[e];refine Wr e hm 999 (λc s2 f h=>h=H/\f.1 3=sI s2/\f.1 7=sL Ty.av a0.abe/\f.1 8=sI (dm a0.abe)/\f.1 9=sI c) (by simp[e]) (λs2 a g i E m=>?_) (λc l s2 a g i n6 o E e m j b=>?_)
 ·have e:=Aj e E;dsimp only[cQ]at m;cases m;simp[e]
 have e:=Aj e E;have⟨k,e,m⟩:=c7 e m;simp[e];refine Cf (d e.2) ?_;simp[e];cases m;exact b _ _ _ (by simp[e]) j
def GY{n:Nat}:C1 prog 188 (nw n) sI Ty.av:=(E8 n)
def qz:C1 prog 137 gW sI Ty.av:=by
 intro T H a0 r hm;rw[gW] at hm;have e:=trivial;refine wi abi func137 [] [] 999 ?_;have⟨a,e,m⟩:=c7 e hm;simp[e];refine Cf (Fi e.2) ?_;rcases Io e m with⟨e,m⟩|⟨e,m⟩;rotate_left
 ·cases m;simp[e]
 have⟨b,e,m⟩:=c7 e m;simp[e];refine Cf (GY e.2) ?_;rcases Io e m with⟨e,m⟩|⟨e,m⟩
 ·cases m;simp[e]
 cases m;simp[e]
def BJ:C1 prog 78 kl sI (sL Ty.av):=by
 intro T H a0 r hm;rw[kl] at hm;have e:=trivial;refine wi abi func78 [] [] 999 ?_;rcases Io e hm with⟨e,m⟩|⟨e,m⟩
 ·cases m;simp[e]
 simp[e];refine Wr e m 999 (λc s2 f h=>h=H/\f.1 9=sL Ty.av a0/\f.1 10=sI (dm a0)/\f.1 11=sI c) (by simp[e]) (λs2 a g i E m=>?_) (λc k s2 a g i n6 l E e m d b=>?_)
 ·have e:=Aj e E;dsimp only[cQ]at m;cases m;simp[e]
 have e:=Aj e E;have⟨j,e,m⟩:=c7 e m;simp[e];refine Cf (qz e.2) ?_;rcases Io e m with⟨e,m⟩|⟨e,m⟩
 ·cases m;cases d;simp[e]
 simp[e];cases m;exact b _ _ _ (by simp[e]) d
def uW:C1 prog 216 np sB Ty.av:=by
 intro T H a0 r hm;rw[np] at hm;have e:=trivial;refine wi abi func216 [] [] 2 ?_;simp[e];refine wj 999 999 (λf h=>h=H/\f.1 2=sB (ew (de a0.abd 0) (de (dm a0.abe) 0) false)) (λc a=>?_) ?_;rotate_left
 ·rintro b d E;have e:=Aj e E;cases hm;simp[e]
 rcases Pb (de a0.abd 0) e with e|e
 ·simp[e];exact a _ _ (by simp[e])
 simp[e];exact a _ _ (by simp[e])
def Gm:C1 prog 233 si sI sI:=by
 intro T H a0 r hm;rw[si] at hm;have e:=trivial;refine wi abi func233 [] [] 6 ?_;simp[e];refine wj 999 0 (λf h=>h=H/\f.1 3=sI a0/\f.1 4=sB (ew (de a0 1) true (ew (de a0 4) true (ew (de a0 7) true (de a0 13))))) (λo a=>?_) ?_
 ·rcases Pb (de a0 1) e with e|e
  ·simp[e];exact a _ _ (by simp[e])
  rcases Pb (de a0 4) e with e|e
  ·simp[e];exact a _ _ (by simp[e])
  rcases Pb (de a0 7) e with e|e
  ·simp[e];exact a _ _ (by simp[e])
  simp[e];exact a _ _ (by simp[e])
 rintro i p E;have e:=Aj e E;rcases Io e hm with⟨e,m⟩|⟨e,m⟩
 ·apply wg 999;cases m;simp[e]
 apply wg 1;simp[e];refine wj 999 0 (λf h=>h=H/\f.1 3=sI a0/\f.1 9=sB (ew (de a0 2) true (ew (de a0 5) true (ew (de a0 11) true (de a0 12))))) (λq b=>?_) ?_
 ·rcases Pb (de a0 2) e with e|e
  ·simp[e];exact b _ _ (by simp[e])
  rcases Pb (de a0 5) e with e|e
  ·simp[e];exact b _ _ (by simp[e])
  rcases Pb (de a0 11) e with e|e
  ·simp[e];exact b _ _ (by simp[e])
  simp[e];exact b _ _ (by simp[e])
 rintro j s E;have e:=Aj e E;rcases Io e m with⟨e,m⟩|⟨e,m⟩
 ·apply wg 999;cases m;simp[e]
 apply wg 1;simp[e];refine wj 999 0 (λf h=>h=H/\f.1 3=sI a0/\f.1 14=sB (ew (de a0 3) true (ew (de a0 8) true (de a0 10)))) (λt d=>?_) ?_
 ·rcases Pb (de a0 3) e with e|e
  ·simp[e];exact d _ _ (by simp[e])
  rcases Pb (de a0 8) e with e|e
  ·simp[e];exact d _ _ (by simp[e])
  simp[e];exact d _ _ (by simp[e])
 rintro k u E;have e:=Aj e E;rcases Io e m with⟨e,m⟩|⟨e,m⟩
 ·apply wg 999;cases m;simp[e]
 apply wg 1;simp[e];refine wj 999 999 (λf h=>h=H/\f.1 18=sB (ew (de a0 6) true (de a0 9))) (λl c=>?_) ?_;rotate_left
 ·rintro g n E;have e:=Aj e E;rcases Io e m with⟨e,m⟩|⟨e,m⟩
  ·cases m;simp[e]
  cases m;simp[e]
 rcases Pb (de a0 6) e with e|e
 ·simp[e];exact c _ _ (by simp[e])
 simp[e];exact c _ _ (by simp[e])
def CT:∀(n:Nat),C1 prog 172 (iK n) sB Tm.av:=by
  intro n
  induction n with
  |zero=>
    skip
    all_goals(intro _ _;intros;rename_i hm;cases hm)
  |succ n x=>
 intro T H a0 r hm;rw[iK] at hm;have e:=trivial;refine wi abi func172 [] [] 3 ?_;simp[e];refine Wj hm 999 0 (λt f h=>∃(v2:Bool) (b:Nat),(h=H/\f.1 1=AV.dc 1 b 0/\f.1 26=sB v2/\f.gen 1=b/\f.box 1=some [sI a0.abd,sI a0.abg,sI a0.cD.abd,sL Ty.av a0.cD.abe,sL Tm.av a0.abe])/\t v2=some r) (λt K g m=>?_) ?_
 ·have⟨L,e,m⟩:=c7 e m;simp[e];refine Cs (Gm e.2) ?_;rcases Io e m with⟨e,m⟩|⟨e,m⟩
  ·simp[e];exact g _ _ ⟨true,1,by simp[e],m⟩
  rcases Io e m with⟨e,m⟩|⟨e,m⟩
  ·simp[e];exact g _ _ ⟨true,1,by simp[e],m⟩
  rcases Io e m with⟨e,m⟩|⟨e,m⟩;rotate_left
  ·simp[e];exact g _ _ ⟨false,1,by simp[e],m⟩
  simp[e];exact g _ _ ⟨(dr a0.abg 0),1,by simp[e],m⟩
 rintro y M ⟨v2,b,E,m⟩;have e:=Aj e E;rcases Io e m with⟨e,m⟩|⟨e,m⟩
 ·apply wg 999;cases m;simp[e]
 apply wg 2;simp[e];refine Wj m 3 999 (λu f h=>∃(c:Nat),(h=H/\f.1 1=AV.dc 1 c 0/\f.gen 1=c/\f.box 1=some [sI a0.abd,sI a0.abg,sI a0.cD.abd,sL Ty.av a0.cD.abe,sL Tm.av a0.abe])/\u=some r) (λu N i m=>?_) ?_;rotate_left
 ·rintro v z ⟨c,E,m⟩;have e:=Aj e E;simp[e];refine Wr e m 999 (λj k f h=>h=H/\f.1 42=sL Tm.av a0.abe/\f.1 43=sI (dm a0.abe)/\f.1 44=sI j) (by simp[e]) (λk l q s E m=>?_) (λj A k l q s B C E e m o p=>?_)
  ·have e:=Aj e E;dsimp only[cQ]at m;cases m;simp[e]
  have e:=Aj e E;have⟨D,e,m⟩:=c7 e m;simp[e];refine Cf (x e.2) ?_;rcases Io e m with⟨e,m⟩|⟨e,m⟩;rotate_left
  ·cases m;cases o;simp[e]
  simp[e];cases m;exact p _ _ _ (by simp[e]) o
 simp[e];refine wj 999 999 (λf h=>∃(a:Nat),h=H/\f.1 1=AV.dc 1 a 0/\f.1 33=sB (ew (de a0.abd 2) true (ew (de a0.abd 6) true (de a0.abd 9)))/\f.gen 1=a/\f.box 1=some [sI a0.abd,sI a0.abg,sI a0.cD.abd,sL Ty.av a0.cD.abe,sL Tm.av a0.abe]) (λF d=>?_) ?_
 ·rcases Pb (de a0.abd 2) e with e|e
  ·simp[e];exact d _ _ ⟨b,by simp[e]⟩
  rcases Pb (de a0.abd 6) e with e|e
  ·simp[e];exact d _ _ ⟨b,by simp[e]⟩
  simp[e];exact d _ _ ⟨b,by simp[e]⟩
 rintro w G ⟨a,E⟩;have e:=Aj e E;rcases Io e m with⟨e,m⟩|⟨e,m⟩
 ·have⟨I,e,m⟩:=c7 e m;simp[e];refine Cf (qz e.2) ?_;rcases Io e m with⟨e,m⟩|⟨e,m⟩
  ·cases m;simp[e]
  simp[e];exact i _ _ ⟨a,by simp[e],m⟩
 have⟨J,e,m⟩:=c7 e m;simp[e];refine Cf (uW e.2) ?_;rcases Io e m with⟨e,m⟩|⟨e,m⟩;rotate_left
 ·cases m;simp[e]
 simp[e];exact i _ _ ⟨a,by simp[e],m⟩
def tx{n:Nat}:C1 prog 172 (iK n) sB Tm.av:=(CT n)
def oO:C1 prog 164 jw sB sI:=by
 intro T H a0 r hm;rw[jw] at hm;have e:=trivial;refine wi abi func164 [] [] 2 ?_;simp[e];refine wj 999 999 (λf h=>h=H/\f.1 2=sB (ew (de a0 4) true (ew (de a0 5) true (ew (de a0 6) true (de a0 7))))) (λc a=>?_) ?_;rotate_left
 ·rintro b d E;have e:=Aj e E;cases hm;simp[e]
 rcases Pb (de a0 4) e with e|e
 ·simp[e];exact a _ _ (by simp[e])
 rcases Pb (de a0 5) e with e|e
 ·simp[e];exact a _ _ (by simp[e])
 rcases Pb (de a0 6) e with e|e
 ·simp[e];exact a _ _ (by simp[e])
 simp[e];exact a _ _ (by simp[e])
def DM:∀(n:Nat),C1 prog 162 (jO n) sB Fm.av:=by
  intro n
  induction n with
  |zero=>
    skip
    all_goals(intro _ _;intros;rename_i hm;cases hm)
  |succ n l=>
 intro T H a0 r hm;rw[jO] at hm;have e:=trivial;refine wi abi func162 [] [] 7 ?_;rcases Io e hm with⟨e,m⟩|⟨e,m⟩
 ·simp[e];refine Wj m 999 999 (λs f h=>∃(v2:Bool),(h=H/\f.1 2=sB v2)/\s v2=some r) (λs M d m=>?_) ?_;rotate_left
  ·rintro w N ⟨v2,E,m⟩;have e:=Aj e E;cases m;simp[e]
  rcases Io e m with⟨e,m⟩|⟨e,m⟩;rotate_left
  ·simp[e];exact d _ _ ⟨false,by simp[e],m⟩
  have⟨O,e,m⟩:=c7 e m;simp[e];refine Cf (uW e.2) ?_;rcases Io e m with⟨e,m⟩|⟨e,m⟩;rotate_left
  ·simp[e];exact d _ _ ⟨false,by simp[e],m⟩
  rcases Io e m with⟨e,m⟩|⟨e,m⟩;rotate_left
  ·simp[e];exact d _ _ ⟨false,by simp[e],m⟩
  have⟨P,e,m⟩:=c7 e m;have⟨Q,e,m⟩:=c7 e m;simp[e];refine Cf (tx e.2) ?_;rcases Io e m with⟨e,m⟩|⟨e,m⟩;rotate_left
  ·simp[e];exact d _ _ ⟨false,by simp[e],m⟩
  have⟨R,e,m⟩:=c7 e m;have⟨o,e,m⟩:=c7 e m;simp[e];refine Cf (tx e.2) ?_;simp[e];exact d _ _ ⟨o,by simp[e],m⟩
 simp[e];refine wj 999 0 (λf h=>∃(b:Nat),h=H/\f.1 1=AV.dc 1 b 0/\f.1 36=sB (ew (de a0.abd 2) true (de a0.abd 3))/\f.gen 1=b/\f.box 1=some [sI a0.abd,sI a0.cD.abd,sL Ty.av a0.cD.abe,sL Tm.av a0.cU,sL Fm.av a0.abe]) (λx g=>?_) ?_
 ·rcases Pb (de a0.abd 2) e with e|e
  ·simp[e];exact g _ _ ⟨1,by simp[e]⟩
  simp[e];exact g _ _ ⟨1,by simp[e]⟩
 rintro t y ⟨b,E⟩;have e:=Aj e E;rcases Io e m with⟨e,m⟩|⟨e,m⟩;rotate_left
 ·apply wg 3;have⟨z,e,m⟩:=c7 e m;simp[e];refine Cf (oO e.2) ?_;simp[e];rcases Io e m with⟨e,m⟩|⟨e,m⟩;rotate_left
  ·apply wg 999;cases m;simp[e]
  apply wg 1;simp[e];refine Wj m 999 999 (λj f h=>∃(i:Bool),(h=H/\f.1 2=sB i)/\j i=some r) (λj A c m=>?_) ?_;rotate_left
  ·rintro u B ⟨i,E,m⟩;have e:=Aj e E;cases m;simp[e]
  rcases Io e m with⟨e,m⟩|⟨e,m⟩;rotate_left
  ·simp[e];exact c _ _ ⟨false,by simp[e],m⟩
  have⟨C,e,m⟩:=c7 e m;simp[e];refine Cf (qz e.2) ?_;rcases Io e m with⟨e,m⟩|⟨e,m⟩;rotate_left
  ·simp[e];exact c _ _ ⟨false,by simp[e],m⟩
  rcases Io e m with⟨e,m⟩|⟨e,m⟩;rotate_left
  ·simp[e];exact c _ _ ⟨false,by simp[e],m⟩
  have⟨D,e,m⟩:=c7 e m;have⟨p,e,m⟩:=c7 e m;simp[e];refine Cf (l e.2) ?_;simp[e];exact c _ _ ⟨p,by simp[e],m⟩
 apply wg 1;simp[e];refine Wj m 999 999 (λk f h=>∃(v24:Bool),(h=H/\f.1 2=sB v24)/\k v24=some r) (λk F a m=>?_) ?_;rotate_left
 ·rintro v G ⟨v24,E,m⟩;have e:=Aj e E;cases m;simp[e]
 rcases Io e m with⟨e,m⟩|⟨e,m⟩;rotate_left
 ·simp[e];exact a _ _ ⟨false,by simp[e],m⟩
 have⟨I,e,m⟩:=c7 e m;simp[e];refine Cf (uW e.2) ?_;rcases Io e m with⟨e,m⟩|⟨e,m⟩;rotate_left
 ·simp[e];exact a _ _ ⟨false,by simp[e],m⟩
 rcases Io e m with⟨e,m⟩|⟨e,m⟩;rotate_left
 ·simp[e];exact a _ _ ⟨false,by simp[e],m⟩
 have⟨J,e,m⟩:=c7 e m;have⟨K,e,m⟩:=c7 e m;simp[e];refine Cf (l e.2) ?_;rcases Io e m with⟨e,m⟩|⟨e,m⟩;rotate_left
 ·simp[e];exact a _ _ ⟨false,by simp[e],m⟩
 have⟨L,e,m⟩:=c7 e m;have⟨q,e,m⟩:=c7 e m;simp[e];refine Cf (l e.2) ?_;simp[e];exact a _ _ ⟨q,by simp[e],m⟩
def EJ{n:Nat}:C1 prog 162 (jO n) sB Fm.av:=(DM n)
def C':∀(n:Nat),C1 prog 117 (ep n) sI Tm.av:=by
  intro n
  induction n with
  |zero=>
   skip
   all_goals(intro _ _;intros;rename_i hm;cases hm)
  |succ n d=>
 intro T H a0 r hm;rw[ep] at hm;have e:=trivial;refine wi abi func117 [] [] 999 ?_;simp[e];refine Wr e hm 999 (λc s2 f h=>h=H/\f.1 3=sI s2/\f.1 7=sL Tm.av a0.abe/\f.1 8=sI (dm a0.abe)/\f.1 9=sI c) (by simp[e]) (λs2 a g i E m=>?_) (λc l s2 a g i n6 o E e m j b=>?_)
 ·have e:=Aj e E;dsimp only[cQ]at m;cases m;simp[e]
 have e:=Aj e E;have⟨k,e,m⟩:=c7 e m;simp[e];refine Cf (d e.2) ?_;simp[e];cases m;exact b _ _ _ (by simp[e]) j
def ti{n:Nat}:C1 prog 117 (ep n) sI Tm.av:=(C' n)
def Eb:∀(n:Nat),C1 prog 115 (jJ n) sI Fm.av:=by
  intro n
  induction n with
  |zero=>
   skip
   all_goals(intro _ _;intros;rename_i hm;cases hm)
  |succ n q=>
 intro T H a0 r hm;rw[jJ] at hm;have e:=trivial;refine wi abi func115 [] [] 999 ?_;simp[e];refine Wr e hm 999 (λp s2 f h=>∃(a:Nat),h=H/\f.1 1=AV.dc 1 a 0/\f.1 3=sI s2/\f.1 9=sL Tm.av a0.cU/\f.1 10=sI (dm a0.cU)/\f.1 11=sI p/\f.gen 1=a/\f.box 1=some [sI a0.abd,sI a0.cD.abd,sL Ty.av a0.cD.abe,sL Tm.av a0.cU,sL Fm.av a0.abe]) ⟨1,by simp[e]⟩ (λs2 i s t E m=>?_) (λp A s2 i s t n6 B E e m u j=>?_);rotate_left
 ·have⟨a,E⟩:=E;have e:=Aj e E;have⟨v,e,m⟩:=c7 e m;simp[e];refine Cf (ti e.2) ?_;simp[e];cases m;exact j _ _ _ ⟨a,by simp[e]⟩ u
 have⟨a,E⟩:=E;have e:=Aj e E;dsimp only[cQ]at m;simp[e];refine Wr e m 999 (λc b f h=>h=H/\f.1 3=sI b/\f.1 21=sL Fm.av a0.abe/\f.1 22=sI (dm a0.abe)/\f.1 23=sI c) (by simp[e]) (λb d k l E m=>?_) (λc w b d k l x y E e m o g=>?_)
 ·have e:=Aj e E;dsimp only[cQ]at m;cases m;simp[e]
 have e:=Aj e E;have⟨z,e,m⟩:=c7 e m;simp[e];refine Cf (q e.2) ?_;simp[e];cases m;exact g _ _ _ (by simp[e]) o
def xG{n:Nat}:C1 prog 115 (jJ n) sI Fm.av:=(Eb n)
def xA:C1 prog 93 jR sI Fm.av:=by
 intro T H a0 r hm;rw[jR] at hm;have e:=trivial;refine wi abi func93 [] [] 999 ?_;have⟨a,e,m⟩:=c7 e hm;simp[e];refine Cf (EJ e.2) ?_;rcases Io e m with⟨e,m⟩|⟨e,m⟩;rotate_left
 ·cases m;simp[e]
 have⟨b,e,m⟩:=c7 e m;simp[e];refine Cf (xG e.2) ?_;rcases Io e m with⟨e,m⟩|⟨e,m⟩
 ·cases m;simp[e]
 cases m;simp[e]
def tq:C1 prog 112 jT sI Tm.av:=by
 intro T H a0 r hm;rw[jT] at hm;have e:=trivial;refine wi abi func112 [] [] 999 ?_;have⟨a,e,m⟩:=c7 e hm;simp[e];refine Cf (tx e.2) ?_;rcases Io e m with⟨e,m⟩|⟨e,m⟩;rotate_left
 ·cases m;simp[e]
 have⟨b,e,m⟩:=c7 e m;simp[e];refine Cf (ti e.2) ?_;rcases Io e m with⟨e,m⟩|⟨e,m⟩
 ·cases m;simp[e]
 cases m;simp[e]
def Dl:C1 prog 293 qI (t2 Ty.av sI) Ty.av:=by
 intro T H a0 r hm;rw[qI] at hm;have e:=trivial;refine wi abi func293 [] [] 999 ?_;have⟨a,e,m⟩:=c7 e hm;simp[e];refine Cf (qz e.2) ?_;rcases Io e m with⟨e,m⟩|⟨e,m⟩
 ·cases m;simp[e]
 cases m;simp[e]
def CF:∀(n:Nat),C2 prog 268 (dZ n) (t2 Ty.av sI) (sL Ty.av) Tm.av:=by
  intro n
  induction n with
  |zero=>
    skip
    all_goals(intro _ _;intros;rename_i hm;cases hm)
  |succ n Z=>
 intro T H a0 a1 r hm;rw[dZ] at hm;have e:=trivial;refine wi abi func268 [] [] 999 ?_;rcases Io e hm with⟨e,m⟩|⟨e,m⟩
 ·rcases Io e m with⟨e,m⟩|⟨e,m⟩
  ·cases m;simp[e]
  have⟨x1,e,m⟩:=c7 e m;have⟨x2,e,m⟩:=c7 e m;simp[e];refine Cf (hL e.2) ?_;cases m;simp[e]
 rcases Io e m with⟨e,m⟩|⟨e,m⟩
 ·have⟨e,m⟩:=Ck e m;simp[e];refine Ad (f:=Ty.av) a0 [a1.cD] (iS.full (D:=[])) Ft e.2 ?_;have⟨x3,e,m⟩:=c7 e m;have⟨x4,x5,e,m⟩:=gb e m;simp[e];refine Cs (Z e.2) ?_;rcases Io e m with⟨e,m⟩|⟨e,m⟩
  ·cases m;simp[e]
  have⟨x6,e,m⟩:=c7 e m;simp[e];refine Cf (l5 e.2) ?_;have⟨x7,x8,e,m⟩:=gb e m;simp[e];refine Cf (Dl e.2) ?_;cases m;simp[e]
 simp[e];refine Wr e m 0 (λj9 g f h=>∃(c:Tag) (b:Nat) (a:Nat),(h=H/\f.1 0=sL Ty.av a0/\f.1 3=AV.dc 3 b 0/\f.1 4=AV.dc 4 a 0/\f.1 8=sT c Ty.av g/\f.1 67=sL Tm.av a1.abe/\f.1 68=sI (dm a1.abe)/\f.1 69=sI j9/\f.gen 3=b/\f.box 3=some [sI a1.abd,sI a1.abg,sI a1.cD.abd,sL Ty.av a1.cD.abe,sL Tm.av a1.abe]/\f.gen 4=a/\f.box 4=some [sI 0,AV.slice .full []])/\Ow f [86] c g) (by exact⟨.full,1,1,by simp[e],iS.full⟩) (λg w P Q E m=>?_) (λj9 ah g w P Q ai aj E e m I J=>?_);rotate_left
 ·have⟨c,b,a,E,d⟩:=E;have e:=Aj e E;apply wg 999;have⟨R,ak,e,m⟩:=gb e m;simp[e];refine Cf (Z e.2) ?_;rcases Io e m with⟨e,m⟩|⟨e,m⟩
  ·cases m;cases I;simp[e]
  have⟨e,m⟩:=Ck e m;simp[e];refine Ao (f:=Ty.av) g [R] d Ft e.2 ?_;simp[e];cases m;exact J _ _ _ ⟨(.loc 86 (w.ea 86+1)),b,a,by simp[e],(On 86)⟩ I
 have⟨c,b,a,E,d⟩:=E;have e:=Aj e E;apply wg 13;dsimp only[cQ]at m;have⟨al,e,m⟩:=c7 e m;simp[e];refine Cf (iO e.2) ?_;have⟨K,e,m⟩:=c7 e m;simp[e];refine Cf (pV e.2) ?_;simp[e];rcases Io e m with⟨e,m⟩|⟨e,m⟩
 ·apply wg 2;simp[e];refine Wj m 999 999 (λL f h=>∃(C:Bool) (i:Tag) (l:Nat),(h=H/\f.1 4=AV.dc 4 l 0/\f.1 8=sT i Ty.av g/\f.1 111=sB C/\f.gen 4=l/\f.box 4=some [sI 0,AV.slice .full []])/\Ow f [86] i g/\L C=some r) (λL an z m=>?_) ?_;rotate_left
  ·rintro aa ao ⟨C,i,l,E,S,m⟩;have e:=Aj e E;rcases Io e m with⟨e,m⟩|⟨e,m⟩
   ·cases m;simp[e]
   have⟨aq,e,m⟩:=c7 e m;have⟨ar,e,m⟩:=c7 e m;cases m;simp[e]
  have⟨au,e,m⟩:=c7 e m;rcases Io e m with⟨e,m⟩|⟨e,m⟩
  ·simp[e];exact z _ _ ⟨true,c,a,by simp[e],d,m⟩
  have⟨aw,e,m⟩:=c7 e m;have⟨ax,e,m⟩:=c7 e m;have⟨U,e,m⟩:=c7 e m;simp[e];refine Cs (gp e.2) ?_;simp[e];exact z _ _ ⟨(k4 U),c,a,by simp[e],d,m⟩
 apply wg 3;simp[e];rcases Io e m with⟨e,m⟩|⟨e,m⟩
 ·apply wg 999;cases m;simp[e]
 apply wg 3;simp[e];rcases Io e m with⟨e,m⟩|⟨e,m⟩
 ·apply wg 999;have⟨ay,e,m⟩:=c7 e m;have⟨az,e,m⟩:=c7 e m;simp[e];refine Cs (gp e.2) ?_;rcases Io e m with⟨e,m⟩|⟨e,m⟩
  ·cases m;simp[e]
  cases m;simp[e]
 apply wg 3;simp[e];rcases Io e m with⟨e,m⟩|⟨e,m⟩
 ·apply wg 2;simp[e];refine Wj m 999 999 (λM f h=>∃(F:Bool) (o:Nat) (p:Nat),(h=H/\f.1 3=AV.dc 3 o 0/\f.1 4=AV.dc 4 p 0/\f.1 162=sB F/\f.gen 3=o/\f.box 3=some [sI a1.abd,sI a1.abg,sI a1.cD.abd,sL Ty.av a1.cD.abe,sL Tm.av a1.abe]/\f.gen 4=p/\f.box 4=some [sI 0,AV.slice .full []])/\M F=some r) (λM aA x m=>?_) ?_;rotate_left
  ·rintro ab aB ⟨F,o,p,E,m⟩;have e:=Aj e E;rcases Io e m with⟨e,m⟩|⟨e,m⟩
   ·cases m;simp[e]
   have⟨aC,e,m⟩:=c7 e m;simp[e];refine Cf (hL e.2) ?_;cases m;simp[e]
  have⟨aD,e,m⟩:=c7 e m;have⟨aE,e,m⟩:=c7 e m;simp[e];refine Cs (gp e.2) ?_;rcases Io e m with⟨e,m⟩|⟨e,m⟩;rotate_left
  ·simp[e];exact x _ _ ⟨true,b,a,by simp[e],m⟩
  have⟨aF,e,m⟩:=c7 e m;have⟨aG,e,m⟩:=c7 e m;simp[e];refine Cs (l5 e.2) ?_;have⟨aH,e,m⟩:=c7 e m;simp[e];refine Cs (l5 e.2) ?_;have⟨aI,e,m⟩:=c7 e m;simp[e];refine Cs (gp e.2) ?_;rcases Io e m with⟨e,m⟩|⟨e,m⟩;rotate_left
  ·simp[e];exact x _ _ ⟨true,b,a,by simp[e],m⟩
  have⟨aJ,e,m⟩:=c7 e m;have⟨V,e,m⟩:=c7 e m;simp[e];refine Cs (gp e.2) ?_;simp[e];exact x _ _ ⟨(k4 V),b,a,by simp[e],m⟩
 apply wg 3;simp[e];rcases Io e m with⟨e,m⟩|⟨e,m⟩
 ·apply wg 999;cases m;simp[e]
 apply wg 3;simp[e];rcases Io e m with⟨e,m⟩|⟨e,m⟩
 ·apply wg 2;simp[e];refine Wj m 999 999 (λN f h=>∃(G:Bool) (q:Nat) (j:Nat),(h=H/\f.1 4=AV.dc 4 q 0/\f.1 14=AV.dc 14 j 0/\f.1 185=sB G/\f.gen 4=q/\f.box 4=some [sI 0,AV.slice .full []]/\f.gen 14=j/\f.box 14=some [sI K.abd,sL Ty.av K.abe])/\N G=some r) (λN aK A m=>?_) ?_;rotate_left
  ·rintro ad aL ⟨G,q,j,E,m⟩;have e:=Aj e E;rcases Io e m with⟨e,m⟩|⟨e,m⟩
   ·cases m;simp[e]
   cases m;simp[e]
  have⟨aM,e,m⟩:=c7 e m;have⟨aN,e,m⟩:=c7 e m;simp[e];refine Cs (gp e.2) ?_;rcases Io e m with⟨e,m⟩|⟨e,m⟩;rotate_left
  ·simp[e];exact A _ _ ⟨true,a,(w.gen 14+1),by simp[e],m⟩
  have⟨aO,e,m⟩:=c7 e m;have⟨W,e,m⟩:=c7 e m;simp[e];refine Cs (gp e.2) ?_;simp[e];exact A _ _ ⟨(k4 W),a,(w.gen 14+1),by simp[e],m⟩
 apply wg 3;simp[e];rcases Io e m with⟨e,m⟩|⟨e,m⟩
 ·apply wg 2;simp[e];refine Wj m 999 999 (λO f h=>∃(v59:Bool) (s:Nat) (t:Nat),(h=H/\f.1 3=AV.dc 3 s 0/\f.1 4=AV.dc 4 t 0/\f.1 220=sB v59/\f.gen 3=s/\f.box 3=some [sI a1.abd,sI a1.abg,sI a1.cD.abd,sL Ty.av a1.cD.abe,sL Tm.av a1.abe]/\f.gen 4=t/\f.box 4=some [sI 0,AV.slice .full []])/\O v59=some r) (λO aP y m=>?_) ?_;rotate_left
  ·rintro ae aQ ⟨v59,s,t,E,m⟩;have e:=Aj e E;rcases Io e m with⟨e,m⟩|⟨e,m⟩
   ·cases m;simp[e]
   have⟨aR,e,m⟩:=c7 e m;simp[e];refine Cf (hL e.2) ?_;cases m;simp[e]
  have⟨aS,e,m⟩:=c7 e m;have⟨aT,e,m⟩:=c7 e m;simp[e];refine Cs (gp e.2) ?_;rcases Io e m with⟨e,m⟩|⟨e,m⟩;rotate_left
  ·simp[e];exact y _ _ ⟨true,b,a,by simp[e],m⟩
  have⟨aU,e,m⟩:=c7 e m;have⟨aV,e,m⟩:=c7 e m;simp[e];refine Cs (l5 e.2) ?_;have⟨aW,e,m⟩:=c7 e m;simp[e];refine Cs (l5 e.2) ?_;have⟨aX,e,m⟩:=c7 e m;simp[e];refine Cs (l5 e.2) ?_;have⟨aY,e,m⟩:=c7 e m;simp[e];refine Cs (gp e.2) ?_;rcases Io e m with⟨e,m⟩|⟨e,m⟩;rotate_left
  ·simp[e];exact y _ _ ⟨true,b,a,by simp[e],m⟩
  have⟨aZ,e,m⟩:=c7 e m;have⟨X,e,m⟩:=c7 e m;simp[e];refine Cs (gp e.2) ?_;simp[e];exact y _ _ ⟨(k4 X),b,a,by simp[e],m⟩
 apply wg 3;simp[e];rcases Io e m with⟨e,m⟩|⟨e,m⟩
 ·apply wg 999;have⟨a6,e,m⟩:=c7 e m;have⟨a7,e,m⟩:=c7 e m;have⟨a8,e,m⟩:=c7 e m;simp[e];refine Cs (Bo e.2) ?_;have⟨a_,a',e,m⟩:=gb e m;simp[e];refine Cs (Dl e.2) ?_;cases m;simp[e]
 apply wg 1;simp[e];refine wj 999 0 (λf h=>∃(k:Tag) (u:Nat) (v:Nat),(h=H/\f.1 3=AV.dc 3 u 0/\f.1 4=AV.dc 4 v 0/\f.1 8=sT k Ty.av g/\f.1 237=sB (ew (de a1.abd 11) true (de a1.abd 12))/\f.gen 3=u/\f.box 3=some [sI a1.abd,sI a1.abg,sI a1.cD.abd,sL Ty.av a1.cD.abe,sL Tm.av a1.abe]/\f.gen 4=v/\f.box 4=some [sI 0,AV.slice .full []])/\Ow f [86] k g) (λba B=>?_) ?_
 ·rcases Pb (de a1.abd 11) e with e|e
  ·simp[e];exact B _ _ ⟨c,b,a,by simp[e],d⟩
  simp[e];exact B _ _ ⟨c,b,a,by simp[e],d⟩
 rintro af bb ⟨k,u,v,E,Y⟩;have e:=Aj e E;rcases Io e m with⟨e,m⟩|⟨e,m⟩;rotate_left
 ·apply wg 999;have⟨bc,e,m⟩:=c7 e m;simp[e];refine Cf (yS e.2) ?_;cases m;simp[e]
 apply wg 4;have⟨bd,e,m⟩:=c7 e m;simp[e];rcases Io e m with⟨e,m⟩|⟨e,m⟩
 ·apply wg 999;cases m;simp[e]
 apply wg 5;simp[e];rcases Io e m with⟨e,m⟩|⟨e,m⟩
 ·apply wg 999;have⟨bf,e,m⟩:=c7 e m;cases m;simp[e]
 apply wg 999;have⟨bg,e,m⟩:=c7 e m;cases m;simp[e]
def EM{n:Nat}:C2 prog 268 (dZ n) (t2 Ty.av sI) (sL Ty.av) Tm.av:=(CF n)
def E4:C2 prog 232 ns (t2 Ty.av sI) (sL Ty.av) Tm.av:=by
 intro T H a0 a1 r hm;rw[ns] at hm;have e:=trivial;refine wi abi func232 [] [] 999 ?_;have⟨a,e,m⟩:=c7 e hm;simp[e];refine Cf (tq e.2) ?_;rcases Io e m with⟨e,m⟩|⟨e,m⟩
 ·cases m;simp[e]
 have⟨b,c,e,m⟩:=gb e m;simp[e];refine Cf (EM e.2) ?_;cases m;simp[e]
def CC:∀(n:Nat),C2 prog 171 (kn n) sI (sL Ty.av) Fm.av:=by
  intro n
  induction n with
  |zero=>
    skip
    all_goals(intro _ _;intros;rename_i hm;cases hm)
  |succ n z=>
 intro T H a0 a1 r hm;rw[kn] at hm;have e:=trivial;refine wi abi func171 [] [] 999 ?_;simp[e];refine Wr e hm 0 (λx s2 f h=>∃(b:Nat),h=H/\f.1 0=sL Ty.av a0/\f.1 3=AV.dc 3 b 0/\f.1 13=sL Tm.av a1.cU/\f.1 14=sI (dm a1.cU)/\f.1 15=sI x/\f.gen 3=b/\f.box 3=some [sI a1.abd,sI a1.cD.abd,sL Ty.av a1.cD.abe,sL Tm.av a1.cU,sL Fm.av a1.abe]) ⟨1,by simp[e]⟩ (λs2 j A B E m=>?_) (λx O s2 j A B n6 P E e m t u=>?_);rotate_left
 ·have⟨b,E⟩:=E;have e:=Aj e E;apply wg 999;have⟨C,F,e,m⟩:=gb e m;simp[e];refine Cf (E4 e.2) ?_;rcases Io e m with⟨e,m⟩|⟨e,m⟩
  ·cases m;cases t;simp[e]
  rcases Io e m with⟨e,m⟩|⟨e,m⟩
  ·cases m;cases t;simp[e]
  simp[e];cases m;exact u _ _ _ ⟨b,by simp[e]⟩ t
 have⟨b,E⟩:=E;have e:=Aj e E;apply wg 5;dsimp only[cQ]at m;simp[e];refine Wj m 999 999 (λk f h=>∃(g:List Ty) (c:Tag) (d:Nat),(h=H/\f.1 0=sT c Ty.av g/\f.1 3=AV.dc 3 d 0/\f.gen 3=d/\f.box 3=some [sI a1.abd,sI a1.cD.abd,sL Ty.av a1.cD.abe,sL Tm.av a1.cU,sL Fm.av a1.abe])/\k g=some r) (λk G i m=>?_) ?_
 ·have⟨I,e,m⟩:=c7 e m;simp[e];refine Cf (oO e.2) ?_;rcases Io e m with⟨e,m⟩|⟨e,m⟩;rotate_left
  ·simp[e];exact i _ _ ⟨a0,.eh,b,by simp[e],m⟩
  have⟨e,m⟩:=Ck e m;simp[e];refine Ad (f:=Ty.av) a0 [a1.cD] (iS.full (D:=[])) Ft e.2 ?_;simp[e];exact i _ _ ⟨(fp a0 [a1.cD]),(.loc 44 (j.ea 44+1)),b,by simp[e],m⟩
 rintro y J ⟨g,c,d,E,m⟩;have e:=Aj e E;simp[e];refine Wr e m 999 (λl o f h=>∃(a:Tag),h=H/\f.1 0=sT a Ty.av g/\f.1 46=sL Fm.av a1.abe/\f.1 47=sI (dm a1.abe)/\f.1 48=sI l) ⟨c,by simp[e]⟩ (λo p v w E m=>?_) (λl K o p v w L M E e m q s=>?_)
 ·have⟨a,E⟩:=E;have e:=Aj e E;dsimp only[cQ]at m;cases m;simp[e]
 have⟨a,E⟩:=E;have e:=Aj e E;have⟨N,e,m⟩:=c7 e m;simp[e];refine Cf (z e.2) ?_;rcases Io e m with⟨e,m⟩|⟨e,m⟩
 ·cases m;cases q;simp[e]
 simp[e];cases m;exact s _ _ _ ⟨a,by simp[e]⟩ q
def Ew{n:Nat}:C2 prog 171 (kn n) sI (sL Ty.av) Fm.av:=(CC n)
def E_:C2 prog 111 jo sI (sL Ty.av) Fm.av:=by
 intro T H a0 a1 r hm;rw[jo] at hm;have e:=trivial;refine wi abi func111 [] [] 999 ?_;have⟨a,e,m⟩:=c7 e hm;simp[e];refine Cf (xA e.2) ?_;rcases Io e m with⟨e,m⟩|⟨e,m⟩
 ·cases m;simp[e]
 have⟨b,e,m⟩:=c7 e m;simp[e];refine Cf (Ew e.2) ?_;cases m;simp[e]
def El:C2 prog 44 hY sI (sL Ty.av) Fm.av:=by
 intro T H a0 a1 r hm;rw[hY] at hm;have e:=trivial;refine wi abi func44 [] [] 999 ?_;have⟨a,e,m⟩:=c7 e hm;simp[e];refine Cf (BJ e.2) ?_;rcases Io e m with⟨e,m⟩|⟨e,m⟩
 ·cases m;simp[e]
 have⟨b,e,m⟩:=c7 e m;simp[e];refine Cf (E_ e.2) ?_;cases m;simp[e]
def CD:∀(n:Nat),C2 prog 114 (hW n) sB Tm.av sI:=by
  intro n
  induction n with
  |zero=>
   skip
   all_goals(intro _ _;intros;rename_i hm;cases hm)
  |succ n g=>
 intro T H a0 a1 r hm;rw[hW] at hm;have e:=trivial;refine wi abi func114 [] [] 999 ?_;rcases Io e hm with⟨e,m⟩|⟨e,m⟩
 ·cases m;simp[e]
 simp[e];refine Wr e m 999 (λc s2 f h=>h=H/\f.1 1=sI a1/\f.1 12=sL Tm.av a0.abe/\f.1 13=sI (dm a0.abe)/\f.1 14=sI c) (by simp[e]) (λs2 a i j E m=>?_) (λc l s2 a i j n6 o E e m d b=>?_)
 ·have e:=Aj e E;dsimp only[cQ]at m;cases m;simp[e]
 have e:=Aj e E;have⟨k,e,m⟩:=c7 e m;simp[e];refine Cf (g e.2) ?_;rcases Io e m with⟨e,m⟩|⟨e,m⟩;rotate_left
 ·cases m;cases d;simp[e]
 simp[e];cases m;exact b _ _ _ (by simp[e]) d
def tw{n:Nat}:C2 prog 114 (hW n) sB Tm.av sI:=(CD n)
def tv:C1 prog 161 jS sI Tm.av:=by
 intro T H a0 r hm;rw[jS] at hm;have e:=trivial;refine wi abi func161 [] [] 999 ?_;rcases Io e hm with⟨e,m⟩|⟨e,m⟩
 ·cases m;simp[e]
 cases m;simp[e]
def DH:∀(n:Nat),C2 prog 173 (kj n) sI Tm.av sI:=by
  intro n
  induction n with
  |zero=>
    skip
    all_goals(intro _ _;intros;rename_i hm;cases hm)
  |succ n q=>
 intro T H a0 a1 r hm;rw[kj] at hm;have e:=trivial;refine wi abi func173 [] [] 4 ?_;simp[e];refine wj 0 999 (λf h=>∃(c:Nat),h=H/\f.1 1=sI a1/\f.1 2=AV.dc 2 c 0/\f.1 5=sI (ew (ew (de a0.abd 1) (de a0.abg a1) false) (dB .i64 0 1) 0)/\f.gen 2=c/\f.box 2=some [sI a0.abd,sI a0.abg,sI a0.cD.abd,sL Ty.av a0.cD.abe,sL Tm.av a0.abe]) (λA d=>?_) ?_
 ·refine wj 999 999 (λf h=>∃(a:Nat),h=H/\f.1 1=sI a1/\f.1 2=AV.dc 2 a 0/\f.1 5=sI 0/\f.1 16=sB (ew (de a0.abd 1) (de a0.abg a1) false)/\f.gen 2=a/\f.box 2=some [sI a0.abd,sI a0.abg,sI a0.cD.abd,sL Ty.av a0.cD.abe,sL Tm.av a0.abe]) (λB g=>?_) ?_
  ·rcases Pb (de a0.abd 1) e with e|e
   ·simp[e];exact g _ _ ⟨1,by simp[e]⟩
   simp[e];exact g _ _ ⟨1,by simp[e]⟩
  rintro s C ⟨a,E⟩;have e:=Aj e E;rcases Pb (ew (de a0.abd 1) (de a0.abg a1) false) e with e|e
  ·simp[e];exact d _ _ ⟨a,by simp[e]⟩
  simp[e];exact d _ _ ⟨a,by simp[e]⟩
 rintro t D ⟨c,E⟩;have e:=Aj e E;simp[e];refine Wr e hm 999 (λp j f h=>∃(b:Nat),h=H/\f.1 1=sI a1/\f.1 2=AV.dc 2 b 0/\f.1 5=sI j/\f.1 20=sL Tm.av a0.abe/\f.1 21=sI (dm a0.abe)/\f.1 22=sI p/\f.gen 2=b/\f.box 2=some [sI a0.abd,sI a0.abg,sI a0.cD.abd,sL Ty.av a0.cD.abe,sL Tm.av a0.abe]) ⟨c,by simp[e]⟩ (λj k u l E m=>?_) (λp v j k u l w x E e m o i=>?_)
 ·have⟨b,E⟩:=E;have e:=Aj e E;dsimp only[cQ]at m;cases m;simp[e]
 have⟨b,E⟩:=E;have e:=Aj e E;have⟨y,e,m⟩:=c7 e m;simp[e];refine Cs (tv e.2) ?_;have⟨z,e,m⟩:=c7 e m;simp[e];refine Cs (q e.2) ?_;simp[e];cases m;exact i _ _ _ ⟨b,by simp[e]⟩ o
def Eg{n:Nat}:C2 prog 173 (kj n) sI Tm.av sI:=(DH n)
def I_:∀(n:Nat),C3 prog 90 (mJ n) Tm.av Tm.av sI sI:=by
  intro n
  induction n with
  |zero=>
    skip
    all_goals(intro _ _;intros;rename_i hm;cases hm)
  |succ n A=>
 intro T H a0 a1 a2 r hm;rw[mJ] at hm;have e:=trivial;refine wi abi func90 [] [] 4 ?_;simp[e];refine wj 0 999 (λf h=>∃(k:Nat) (l:Nat) (o:Nat),h=H/\f.1 1=sI a1/\f.1 2=sI a2/\f.1 3=AV.dc 3 k 0/\f.1 6=AV.dc 6 l 0/\f.1 7=AV.dc 7 o 0/\f.gen 3=k/\f.box 3=some [sI a0.abd,sI a0.abg,sI a0.cD.abd,sL Ty.av a0.cD.abe,sL Tm.av a0.abe]/\f.gen 6=l/\f.box 6=some [sI 0,sI 0,sI 0,AV.slice .full [],AV.slice .full []]/\f.gen 7=o/\f.box 7=some [sI a0.abd,sI (ew (ew (de a0.abd 1) (qT a0.abg a1) false) (dB .i64 a0.abg a2) a0.abg),sI a0.cD.abd,sL Ty.av a0.cD.abe,AV.slice .full []]) (λK q=>?_) ?_
 ·refine wj 999 999 (λf h=>∃(b:Nat) (c:Nat) (d:Nat),h=H/\f.1 1=sI a1/\f.1 2=sI a2/\f.1 3=AV.dc 3 b 0/\f.1 6=AV.dc 6 c 0/\f.1 7=AV.dc 7 d 0/\f.1 25=sB (ew (de a0.abd 1) (qT a0.abg a1) false)/\f.gen 3=b/\f.box 3=some [sI a0.abd,sI a0.abg,sI a0.cD.abd,sL Ty.av a0.cD.abe,sL Tm.av a0.abe]/\f.gen 6=c/\f.box 6=some [sI 0,sI 0,sI 0,AV.slice .full [],AV.slice .full []]/\f.gen 7=d/\f.box 7=some [sI a0.abd,sI a0.abg,sI a0.cD.abd,sL Ty.av a0.cD.abe,AV.slice .full []]) (λL s=>?_) ?_
  ·rcases Pb (de a0.abd 1) e with e|e
   ·simp[e];exact s _ _ ⟨1,1,1,by simp[e]⟩
   simp[e];exact s _ _ ⟨1,1,1,by simp[e]⟩
  rintro B M ⟨b,c,d,E⟩;have e:=Aj e E;rcases Pb (ew (de a0.abd 1) (qT a0.abg a1) false) e with e|e
  ·simp[e];exact q _ _ ⟨b,c,d,by simp[e]⟩
  simp[e];exact q _ _ ⟨b,c,d,by simp[e]⟩
 rintro C N ⟨k,l,o,E⟩;have e:=Aj e E;simp[e];refine Wr e hm 999 (λz t f h=>∃(a:Tag) (g:Nat) (i:Nat) (j:Nat),(h=H/\f.1 1=sI a1/\f.1 2=sI a2/\f.1 3=AV.dc 3 g 0/\f.1 6=AV.dc 6 i 0/\f.1 7=AV.dc 7 j 0/\f.1 32=sL Tm.av a0.abe/\f.1 33=sI (dm a0.abe)/\f.1 34=sI z/\f.gen 3=g/\f.box 3=some [sI a0.abd,sI a0.abg,sI a0.cD.abd,sL Ty.av a0.cD.abe,sL Tm.av a0.abe]/\f.gen 6=i/\f.box 6=some [sI 0,sI 0,sI 0,AV.slice .full [],AV.slice .full []]/\f.gen 7=j/\f.box 7=some [sI a0.abd,sI (ew (ew (de a0.abd 1) (qT a0.abg a1) false) (dB .i64 a0.abg a2) a0.abg),sI a0.cD.abd,sL Ty.av a0.cD.abe,sT a Tm.av t])/\Ow f [48] a t) (by exact⟨.full,k,l,o,by simp[e],iS.full⟩) (λt u D w E m=>?_) (λz F t u D w G I E e m x v=>?_)
 ·have⟨a,g,i,j,E,p⟩:=E;have e:=Aj e E;dsimp only[cQ]at m;cases m;simp[e]
 have⟨a,g,i,j,E,p⟩:=E;have e:=Aj e E;have⟨J,e,m⟩:=c7 e m;simp[e];refine Cs (tv e.2) ?_;have⟨y,e,m⟩:=c7 e m;simp[e];refine Cs (A e.2) ?_;have⟨e,m⟩:=Ck e m;simp[e];refine Ad (f:=Tm.av) t [y] p C7 e.2 ?_;simp[e];cases m;exact v _ _ _ ⟨(.loc 48 (u.ea 48+1)),g,i,j,by simp[e],(On 48)⟩ x
def DZ{n:Nat}:C3 prog 90 (mJ n) Tm.av Tm.av sI sI:=(I_ n)
def HH:∀(n:Nat),C4 prog 174 (qH n) Tm.av Tm.av sI sI Tm.av:=by
  intro n
  induction n with
  |zero=>
    skip
    all_goals(intro _ _;intros;rename_i hm;cases hm)
  |succ n s=>
 intro T H a0 a1 a2 a3 r hm;rw[qH] at hm;have e:=trivial;refine wi abi func174 [] [] 999 ?_;rcases Io e hm with⟨e,m⟩|⟨e,m⟩
 ·rcases Io e m with⟨e,m⟩|⟨e,m⟩
  ·have⟨w,e,m⟩:=c7 e m;simp[e];refine Cf (DZ e.2) ?_;cases m;simp[e]
  rcases Io e m with⟨e,m⟩|⟨e,m⟩;rotate_left
  ·cases m;simp[e]
  have⟨x,e,m⟩:=c7 e m;simp[e];refine Cf (gV e.2) ?_;cases m;simp[e]
 simp[e];refine Wr e m 999 (λq j f h=>∃(a:Tag) (b:Nat) (c:Nat) (d:Nat) (g:Nat),(h=H/\f.1 1=sI a1/\f.1 2=sI a2/\f.1 4=AV.dc 4 b 0/\f.1 7=AV.dc 7 c 0/\f.1 8=AV.dc 8 d 0/\f.1 9=AV.dc 9 g 0/\f.1 45=sL Tm.av a0.abe/\f.1 46=sI (dm a0.abe)/\f.1 47=sI q/\f.gen 4=b/\f.box 4=some [sI a0.abd,sI a0.abg,sI a0.cD.abd,sL Ty.av a0.cD.abe,sL Tm.av a0.abe]/\f.gen 7=c/\f.box 7=some [sI a3.abd,sI a3.abg,sI a3.cD.abd,sL Ty.av a3.cD.abe,sL Tm.av a3.abe]/\f.gen 8=d/\f.box 8=some [sI 0,sI 0,sI 0,AV.slice .full [],AV.slice .full []]/\f.gen 9=g/\f.box 9=some [sI a0.abd,sI a0.abg,sI a0.cD.abd,sL Ty.av a0.cD.abe,sT a Tm.av j])/\Ow f [62] a j) (by exact⟨.full,1,1,1,1,by simp[e],iS.full⟩) (λj k t u E m=>?_) (λq y j k t u z A E e m o l=>?_)
 ·have⟨a,b,c,d,g,E,i⟩:=E;have e:=Aj e E;dsimp only[cQ]at m;cases m;simp[e]
 have⟨a,b,c,d,g,E,i⟩:=E;have e:=Aj e E;have⟨v,e,m⟩:=c7 e m;simp[e];refine Cs (tv e.2) ?_;have⟨p,e,m⟩:=c7 e m;simp[e];refine Cs (s e.2) ?_;have⟨e,m⟩:=Ck e m;simp[e];refine Ad (f:=Tm.av) j [p] i C7 e.2 ?_;simp[e];cases m;exact l _ _ _ ⟨(.loc 62 (k.ea 62+1)),b,c,d,g,by simp[e],(On 62)⟩ o
def JN{n:Nat}:C4 prog 174 (qH n) Tm.av Tm.av sI sI Tm.av:=(HH n)
def xD:C1 prog 95 k7 sI Fm.av:=by
 intro T H a0 r hm;rw[k7] at hm;have e:=trivial;refine wi abi func95 [] [] 999 ?_;have⟨a,e,m⟩:=c7 e hm;simp[e];refine Cf (oO e.2) ?_;rcases Io e m with⟨e,m⟩|⟨e,m⟩
 ·cases m;simp[e]
 cases m;simp[e]
def Dj:∀(n:Nat),C2 prog 113 (lY n) sB Fm.av sI:=by
  intro n
  induction n with
  |zero=>
    skip
    all_goals(intro _ _;intros;rename_i hm;cases hm)
  |succ n s=>
 intro T H a0 a1 r hm;rw[lY] at hm;have e:=trivial;refine wi abi func113 [] [] 999 ?_;simp[e];refine Wr e hm 999 (λp s2 f h=>∃(a:Nat),h=H/\f.1 1=sI a1/\f.1 2=AV.dc 2 a 0/\f.1 10=sL Tm.av a0.cU/\f.1 11=sI (dm a0.cU)/\f.1 12=sI p/\f.gen 2=a/\f.box 2=some [sI a0.abd,sI a0.cD.abd,sL Ty.av a0.cD.abe,sL Tm.av a0.cU,sL Fm.av a0.abe]) ⟨1,by simp[e]⟩ (λs2 j t u E m=>?_) (λp A s2 j t u n6 B E e m q k=>?_);rotate_left
 ·have⟨a,E⟩:=E;have e:=Aj e E;have⟨v,e,m⟩:=c7 e m;simp[e];refine Cf (tw e.2) ?_;rcases Io e m with⟨e,m⟩|⟨e,m⟩;rotate_left
  ·cases m;cases q;simp[e]
  simp[e];cases m;exact k _ _ _ ⟨a,by simp[e]⟩ q
 have⟨a,E⟩:=E;have e:=Aj e E;dsimp only[cQ]at m;simp[e];refine Wr e m 999 (λb c f h=>h=H/\f.1 1=sI a1/\f.1 22=sL Fm.av a0.abe/\f.1 23=sI (dm a0.abe)/\f.1 24=sI b) (by simp[e]) (λc d l o E m=>?_) (λb w c d l o x y E e m g i=>?_)
 ·have e:=Aj e E;dsimp only[cQ]at m;cases m;simp[e]
 have e:=Aj e E;have⟨z,e,m⟩:=c7 e m;simp[e];refine Cf (s e.2) ?_;rcases Io e m with⟨e,m⟩|⟨e,m⟩;rotate_left
 ·cases m;cases g;simp[e]
 simp[e];cases m;exact i _ _ _ (by simp[e]) g
def Eu{n:Nat}:C2 prog 113 (lY n) sB Fm.av sI:=(Dj n)
def DC:∀(n:Nat),C2 prog 116 (l0 n) sI Fm.av sI:=by
  intro n
  induction n with
  |zero=>
   skip
   all_goals(intro _ _;intros;rename_i hm;cases hm)
  |succ n s=>
 intro T H a0 a1 r hm;rw[l0] at hm;have e:=trivial;refine wi abi func116 [] [] 999 ?_;simp[e];refine Wr e hm 999 (λq s2 f h=>∃(b:Nat),h=H/\f.1 1=sI a1/\f.1 2=AV.dc 2 b 0/\f.1 5=sI s2/\f.1 11=sL Tm.av a0.cU/\f.1 12=sI (dm a0.cU)/\f.1 13=sI q/\f.gen 2=b/\f.box 2=some [sI a0.abd,sI a0.cD.abd,sL Ty.av a0.cD.abe,sL Tm.av a0.cU,sL Fm.av a0.abe]) ⟨1,by simp[e]⟩ (λs2 j t u E m=>?_) (λq C s2 j t u n6 D E e m v k=>?_);rotate_left
 ·have⟨b,E⟩:=E;have e:=Aj e E;have⟨w,e,m⟩:=c7 e m;simp[e];refine Cf (Eg e.2) ?_;simp[e];cases m;exact k _ _ _ ⟨b,by simp[e]⟩ v
 have⟨b,E⟩:=E;have e:=Aj e E;dsimp only[cQ]at m;simp[e];refine Wr e m 999 (λd c f h=>∃(a:Nat),h=H/\f.1 1=sI a1/\f.1 2=AV.dc 2 a 0/\f.1 5=sI c/\f.1 24=sL Fm.av a0.abe/\f.1 25=sI (dm a0.abe)/\f.1 26=sI d/\f.gen 2=a/\f.box 2=some [sI a0.abd,sI a0.cD.abd,sL Ty.av a0.cD.abe,sL Tm.av a0.cU,sL Fm.av a0.abe]) ⟨b,by simp[e]⟩ (λc g l o E m=>?_) (λd x c g l o y z E e m p i=>?_)
 ·have⟨a,E⟩:=E;have e:=Aj e E;dsimp only[cQ]at m;cases m;simp[e]
 have⟨a,E⟩:=E;have e:=Aj e E;have⟨A,e,m⟩:=c7 e m;simp[e];refine Cs (xD e.2) ?_;have⟨B,e,m⟩:=c7 e m;simp[e];refine Cs (s e.2) ?_;simp[e];cases m;exact i _ _ _ ⟨a,by simp[e]⟩ p
def Ey{n:Nat}:C2 prog 116 (l0 n) sI Fm.av sI:=(DC n)
def IU:∀(n:Nat),C4 prog 118 (rM n) Fm.av Fm.av sI sI Tm.av:=by
  intro n
  induction n with
  |zero=>
   skip
   all_goals(intro _ _;intros;rename_i hm;cases hm)
  |succ n I=>
 intro T H a0 a1 a2 a3 r hm;rw[rM] at hm;have e:=trivial;refine wi abi func118 [] [] 999 ?_;simp[e];refine Wr e hm 999 (λG s2 f h=>∃(c:Tag) (k:Nat) (l:Nat) (o:Nat) (p:Nat),(h=H/\f.1 1=sI a1/\f.1 2=sI a2/\f.1 4=AV.dc 4 k 0/\f.1 7=AV.dc 7 l 0/\f.1 8=AV.dc 8 o 0/\f.1 9=AV.dc 9 p 0/\f.1 20=sL Tm.av a0.cU/\f.1 21=sI (dm a0.cU)/\f.1 22=sI G/\f.gen 4=k/\f.box 4=some [sI a0.abd,sI a0.cD.abd,sL Ty.av a0.cD.abe,sL Tm.av a0.cU,sL Fm.av a0.abe]/\f.gen 7=l/\f.box 7=some [sI a3.abd,sI a3.abg,sI a3.cD.abd,sL Ty.av a3.cD.abe,sL Tm.av a3.abe]/\f.gen 8=o/\f.box 8=some [sI 0,sI 0,AV.slice .full [],AV.slice .full [],AV.slice .full []]/\f.gen 9=p/\f.box 9=some [sI a0.abd,sI a0.cD.abd,sL Ty.av a0.cD.abe,sT c Tm.av s2,AV.slice .full []])/\Ow f [34] c s2) (by exact⟨.full,1,1,1,1,by simp[e],iS.full⟩) (λs2 w J K E m=>?_) (λG Q s2 w J K n6 R E e m L z=>?_);rotate_left
 ·have⟨c,k,l,o,p,E,s⟩:=E;have e:=Aj e E;have⟨A,e,m⟩:=c7 e m;simp[e];refine Cs (JN e.2) ?_;have⟨e,m⟩:=Ck e m;simp[e];refine Ad (f:=Tm.av) s2 [A] s C7 e.2 ?_;simp[e];cases m;exact z _ _ _ ⟨(.loc 34 (w.ea 34+1)),k,l,o,p,by simp[e],(On 34)⟩ L
 have⟨c,k,l,o,p,E,s⟩:=E;have e:=Aj e E;dsimp only[cQ]at m;simp[e];refine Wr e m 999 (λx t f h=>∃(a:Tag) (b:Tag) (d:Nat) (g:Nat) (i:Nat) (j:Nat),(h=H/\f.1 1=sI a1/\f.1 2=sI a2/\f.1 4=AV.dc 4 d 0/\f.1 7=AV.dc 7 g 0/\f.1 8=AV.dc 8 i 0/\f.1 9=AV.dc 9 j 0/\f.1 38=sL Fm.av a0.abe/\f.1 39=sI (dm a0.abe)/\f.1 40=sI x/\f.gen 4=d/\f.box 4=some [sI a0.abd,sI a0.cD.abd,sL Ty.av a0.cD.abe,sL Tm.av a0.cU,sL Fm.av a0.abe]/\f.gen 7=g/\f.box 7=some [sI a3.abd,sI a3.abg,sI a3.cD.abd,sL Ty.av a3.cD.abe,sL Tm.av a3.abe]/\f.gen 8=i/\f.box 8=some [sI 0,sI 0,AV.slice .full [],AV.slice .full [],AV.slice .full []]/\f.gen 9=j/\f.box 9=some [sI a0.abd,sI a0.cD.abd,sL Ty.av a0.cD.abe,sT a Tm.av s2,sT b Fm.av t])/\Ow f [34] a s2/\Ow f [55] b t) (by exact⟨c,.full,k,l,o,p,by simp[e],s,iS.full⟩) (λt v B C E m=>?_) (λx M t v B C N O E e m D y=>?_)
 ·have⟨a,b,d,g,i,j,E,u,q⟩:=E;have e:=Aj e E;dsimp only[cQ]at m;cases m;simp[e]
 have⟨a,b,d,g,i,j,E,u,q⟩:=E;have e:=Aj e E;have⟨P,e,m⟩:=c7 e m;simp[e];refine Cs (xD e.2) ?_;have⟨F,e,m⟩:=c7 e m;simp[e];refine Cs (I e.2) ?_;have⟨e,m⟩:=Ck e m;simp[e];refine Ad (f:=Fm.av) t [F] q OL e.2 ?_;simp[e];cases m;exact y _ _ _ ⟨a,(.loc 55 (v.ea 55+1)),d,g,i,j,by simp[e],(iS.other u q (by decide) (by decide)),(On 55)⟩ D
def Kc{n:Nat}:C4 prog 118 (rM n) Fm.av Fm.av sI sI Tm.av:=(IU n)
def Jf:C3 prog 45 qs (t2 Fm.av sI) Fm.av sI Tm.av:=by
 intro T H a0 a1 a2 r hm;rw[qs] at hm;have e:=trivial;refine wi abi func45 [] [] 7 ?_;have⟨z,e,m⟩:=c7 e hm;simp[e];refine Cf (xA e.2) ?_;simp[e];rcases Io e m with⟨e,m⟩|⟨e,m⟩
 ·apply wg 999;cases m;simp[e]
 apply wg 3;simp[e];refine wj 999 0 (λf h=>∃(a:Nat) (b:Nat) (c:Nat),h=H/\f.1 1=sI a1/\f.1 3=AV.dc 3 a 0/\f.1 5=AV.dc 5 b 0/\f.1 6=AV.dc 6 c 0/\f.1 21=sB (ew (rv a1 0) true (mV a1 4096))/\f.gen 3=a/\f.box 3=some [sI a0.abd,sI a0.cD.abd,sL Ty.av a0.cD.abe,sL Tm.av a0.cU,sL Fm.av a0.abe]/\f.gen 5=b/\f.box 5=some [sI a2.abd,sI a2.abg,sI a2.cD.abd,sL Ty.av a2.cD.abe,sL Tm.av a2.abe]/\f.gen 6=c/\f.box 6=some [sI 0,sI 0,AV.slice .full [],AV.slice .full [],AV.slice .full []]) (λA j=>?_) ?_
 ·rcases Pb (rv a1 0) e with e|e
  ·simp[e];exact j _ _ ⟨1,1,1,by simp[e]⟩
  simp[e];exact j _ _ ⟨1,1,1,by simp[e]⟩
 rintro q B ⟨a,b,c,E⟩;have e:=Aj e E;rcases Io e m with⟨e,m⟩|⟨e,m⟩
 ·apply wg 999;cases m;simp[e]
 apply wg 7;have⟨C,e,m⟩:=c7 e m;simp[e];refine Cf (tq e.2) ?_;simp[e];rcases Io e m with⟨e,m⟩|⟨e,m⟩
 ·apply wg 999;cases m;simp[e]
 apply wg 3;simp[e];refine Wj m 999 999 (λo f h=>∃(l:Bool) (d:Nat) (g:Nat) (i:Nat),(h=H/\f.1 1=sI a1/\f.1 3=AV.dc 3 d 0/\f.1 5=AV.dc 5 g 0/\f.1 6=AV.dc 6 i 0/\f.1 36=sB l/\f.gen 3=d/\f.box 3=some [sI a0.abd,sI a0.cD.abd,sL Ty.av a0.cD.abe,sL Tm.av a0.cU,sL Fm.av a0.abe]/\f.gen 5=g/\f.box 5=some [sI a2.abd,sI a2.abg,sI a2.cD.abd,sL Ty.av a2.cD.abe,sL Tm.av a2.abe]/\f.gen 6=i/\f.box 6=some [sI 0,sI 0,AV.slice .full [],AV.slice .full [],AV.slice .full []])/\o l=some r) (λo D k m=>?_) ?_
 ·have⟨s,e,m⟩:=c7 e m;simp[e];refine Cf (Eu e.2) ?_;rcases Io e m with⟨e,m⟩|⟨e,m⟩;rotate_left
  ·simp[e];exact k _ _ ⟨true,a,b,c,by simp[e],m⟩
  have⟨n,e,m⟩:=c7 e m;simp[e];refine Cf (tw e.2) ?_;simp[e];exact k _ _ ⟨(k4 n),a,b,c,by simp[e],m⟩
 rintro p t ⟨l,d,g,i,E,m⟩;have e:=Aj e E;rcases Io e m with⟨e,m⟩|⟨e,m⟩
 ·cases m;simp[e]
 have⟨u,e,m⟩:=c7 e m;simp[e];refine Cs (xG e.2) ?_;have⟨v,e,m⟩:=c7 e m;simp[e];refine Cs (Ey e.2) ?_;have⟨w,e,m⟩:=c7 e m;simp[e];refine Cs (ti e.2) ?_;rcases Io e m with⟨e,m⟩|⟨e,m⟩
 ·cases m;simp[e]
 have⟨x,e,m⟩:=c7 e m;simp[e];refine Cf (Kc e.2) ?_;have⟨y,e,m⟩:=c7 e m;simp[e];refine Cf (nH e.2) ?_;cases m;simp[e]
def KK:C3 prog 36 wq Pf.av sI Tm.av Pf.av:=by
 intro T H a0 a1 a2 r hm;rw[wq] at hm;have e:=trivial;refine wi abi func36 [] [] 999 ?_;have⟨a,e,m⟩:=c7 e hm;simp[e];refine Cf (zZ e.2) ?_;have⟨b,e,m⟩:=c7 e m;simp[e];refine Cf (k0 e.2) ?_;have e:=Aj e (show AV.agg [sI a.abd,sI a.abg,sI a.cD.abd,sL Ty.av a.cD.abe,AV.slice .eh [Tm.av b],sL Fm.av a.ef,sL Pf.av a.abe]=Pf.av (Pf.mk a.abd a.abg a.cD [b] a.ef a.abe) by rw[Pf.ey];rfl);have e:=Aj e (show AV.agg [sI a.abd,sI a.abg,sI a.cD.abd,sL Ty.av a.cD.abe,AV.slice .eh [Tm.av b],sL Fm.av a.ef,sL Pf.av a.abe]=Pf.av (Pf.mk a.abd a.abg a.cD [b] a.ef a.abe) by rw[Pf.ey];rfl);have e:=Aj e (show AV.agg [sI a.abd,sI a.abg,sI a.cD.abd,sL Ty.av a.cD.abe,AV.slice .eh [Tm.av b],sL Fm.av a.ef,sL Pf.av a.abe]=Pf.av (Pf.mk a.abd a.abg a.cD [b] a.ef a.abe) by rw[Pf.ey];rfl);cases m;simp[e]
section
attribute [-simp] Go.ky.Aw
end
def JX:C4 prog 49 wz Pf.av sI Fm.av Tm.av Pf.av:=by
 intro T H a0 a1 a2 a3 r hm;rw[wz] at hm;have e:=trivial;refine wi abi func49 [] [] 999 ?_;have⟨a,e,m⟩:=c7 e hm;simp[e];refine Cf (KK e.2) ?_;have⟨b,e,m⟩:=c7 e m;simp[e];refine Cf (nH e.2) ?_;have e:=Aj e (show AV.agg [sI a.abd,sI a.abg,sI a.cD.abd,sL Ty.av a.cD.abe,sL Tm.av a.cU,AV.slice .eh [Fm.av b],sL Pf.av a.abe]=Pf.av (Pf.mk a.abd a.abg a.cD a.cU [b] a.abe) by rw[Pf.ey];rfl);have e:=Aj e (show AV.agg [sI a.abd,sI a.abg,sI a.cD.abd,sL Ty.av a.cD.abe,sL Tm.av a.cU,AV.slice .eh [Fm.av b],sL Pf.av a.abe]=Pf.av (Pf.mk a.abd a.abg a.cD a.cU [b] a.abe) by rw[Pf.ey];rfl);have e:=Aj e (show AV.agg [sI a.abd,sI a.abg,sI a.cD.abd,sL Ty.av a.cD.abe,sL Tm.av a.cU,AV.slice .eh [Fm.av b],sL Pf.av a.abe]=Pf.av (Pf.mk a.abd a.abg a.cD a.cU [b] a.abe) by rw[Pf.ey];rfl);cases m;simp[e]
def tD:C1 prog 30 o9 sB sI:=by
 intro T H a0 r hm;rw[o9] at hm;have e:=trivial;refine wi abi func30 [] [] 2 ?_;simp[e];refine wj 999 999 (λf h=>h=H/\f.1 2=sB (ew (de a0 0) true (ew (de a0 4) true (ew (de a0 5) true (de a0 3))))) (λc a=>?_) ?_;rotate_left
 ·rintro b d E;have e:=Aj e E;cases hm;simp[e]
 rcases Pb (de a0 0) e with e|e
 ·simp[e];exact a _ _ (by simp[e])
 rcases Pb (de a0 4) e with e|e
 ·simp[e];exact a _ _ (by simp[e])
 rcases Pb (de a0 5) e with e|e
 ·simp[e];exact a _ _ (by simp[e])
 simp[e];exact a _ _ (by simp[e])
def Aa(T:dA)(a:nb T){H:cV}{a0:List Fm}{a1:Sq}{a2:Pf}{a3:Fm}{b:Int}(hm:nE a0 a1 a2 a3=some b):dy prog T 40 [sL Fm.av a0,Sq.av a1,Pf.av a2,Fm.av a3] H (sI b) H:=by
 rw[nE] at hm;have e:=a;refine wi abi func40 [] [] 999 ?_;have⟨c,d,e,m⟩:=gb e hm;simp[e];refine Cf (pI T a e.2) ?_;rcases Io e m with⟨e,m⟩|⟨e,m⟩
 ·cases m;simp[e]
 have⟨f,e,m⟩:=c7 e m;simp[e];refine Cf (q5 T a e.2) ?_;rcases Io e m with⟨e,m⟩|⟨e,m⟩
 ·cases m;simp[e]
 have⟨g,e,m⟩:=c7 e m;simp[e];refine Cf (qY T a e.2) ?_;cases m;simp[e]
def GX:C3 prog 59 sn (t2 Tm.av sI) Tm.av sI sI:=by
 intro T H a0 a1 a2 r hm;rw[sn] at hm;have e:=trivial;refine wi abi func59 [] [] 7 ?_;have⟨j,e,m⟩:=c7 e hm;simp[e];refine Cf (tq e.2) ?_;simp[e];rcases Io e m with⟨e,m⟩|⟨e,m⟩
 ·apply wg 999;cases m;simp[e]
 apply wg 3;simp[e];refine Wj m 999 999 (λd f h=>∃(v3:Bool) (a:Nat) (b:Nat),(h=H/\f.1 1=sI a1/\f.1 2=sI a2/\f.1 3=AV.dc 3 a 0/\f.1 6=AV.dc 6 b 0/\f.1 33=sB v3/\f.gen 3=a/\f.box 3=some [sI a0.abd,sI a0.abg,sI a0.cD.abd,sL Ty.av a0.cD.abe,sL Tm.av a0.abe]/\f.gen 6=b/\f.box 6=some [sI 0,sI 0,sI 0,AV.slice .full [],AV.slice .full []])/\d v3=some r) (λd k c m=>?_) ?_;rotate_left
 ·rintro g l ⟨v3,a,b,E,m⟩;have e:=Aj e E;rcases Io e m with⟨e,m⟩|⟨e,m⟩
  ·cases m;simp[e]
  have⟨n,e,m⟩:=c7 e m;simp[e];refine Cf (DZ e.2) ?_;have⟨o,e,m⟩:=c7 e m;simp[e];refine Cf (k0 e.2) ?_;cases m;simp[e]
 rcases Io e m with⟨e,m⟩|⟨e,m⟩
 ·simp[e];exact c _ _ ⟨true,1,1,by simp[e],m⟩
 rcases Io e m with⟨e,m⟩|⟨e,m⟩
 ·simp[e];exact c _ _ ⟨true,1,1,by simp[e],m⟩
 rcases Io e m with⟨e,m⟩|⟨e,m⟩
 ·simp[e];exact c _ _ ⟨true,1,1,by simp[e],m⟩
 rcases Io e m with⟨e,m⟩|⟨e,m⟩
 ·simp[e];exact c _ _ ⟨true,1,1,by simp[e],m⟩
 have⟨i,e,m⟩:=c7 e m;simp[e];refine Cf (tw e.2) ?_;simp[e];exact c _ _ ⟨(k4 i),1,1,by simp[e],m⟩
def vK(T:dA)(o:nb T){a0:List Int}{s:Bool}(hm:mr a0=some s):ej prog T 11 [sL sI a0] [] (λx _=>x=sB s):=by
 rw[mr] at hm;have e:=o;refine wi abi func11 [] [] 5 ?_;have⟨x1,e,m⟩:=c7 e hm;simp[e];refine Cf (GM T o e.2) ?_;simp[e];rcases Io e m with⟨e,m⟩|⟨e,m⟩;rotate_left
 ·apply wg 999;cases m;simp[e]
 apply wg 5;have⟨x2,e,m⟩:=c7 e m;simp[e];refine Cf (NC e.2) ?_;simp[e];rcases Io e m with⟨e,m⟩|⟨e,m⟩;rotate_left
 ·apply wg 999;cases m;simp[e]
 apply wg 17;have⟨x3,e,m⟩:=c7 e m;simp[e];refine Cf (NA T e.2) ?_;have⟨t,d5,e,m⟩:=gb e m;simp[e];refine Cf (Hn T (by simp[e]) e.2) ?_;have⟨x6,e,m⟩:=c7 e m;simp[e];refine Cf (iO e.2) ?_;have⟨u,d8,e,m⟩:=gb e m;simp[e];refine Cf (oX T (by simp[e]) e.2) ?_;have⟨e,m⟩:=Ck e m;simp[e];refine Ad (f:=Ty.av) [] t.abh (iS.full (D:=[])) Ft e.2 ?_;have⟨e,m⟩:=Ck e m;simp[e];refine Ad (f:=Ty.av) (fp [] t.abh) [u] (iS.new (D:=[35]) (d:=35) (by decide)) Ft e.2 ?_;have⟨p,d10,e,m⟩:=gb e m;simp[e];refine Cf (As T (by simp[e]) e.2) ?_;have⟨A,B,e,m⟩:=gb e m;simp[e];refine Cf (GX e.2) ?_;simp[e];rcases Io e m with⟨e,m⟩|⟨e,m⟩
 ·apply wg 999;cases m;simp[e]
 apply wg 13;have⟨C,e,m⟩:=c7 e m;simp[e];refine Cs (gV e.2) ?_;have⟨F,e,m⟩:=c7 e m;simp[e];refine Cs (xR e.2) ?_;have⟨G,e,m⟩:=c7 e m;simp[e];refine Cs (uk e.2) ?_;have⟨H,e,m⟩:=c7 e m;simp[e];refine Cs (uK e.2) ?_;have⟨I,e,m⟩:=c7 e m;simp[e];refine Cs (JX e.2) ?_;have⟨J,e,m⟩:=c7 e m;simp[e];refine Cs (vC e.2) ?_;have⟨K,L,e,m⟩:=gb e m;simp[e];refine Cf (pI T o e.2) ?_;have⟨M,e,m⟩:=c7 e m;simp[e];refine Cs (zZ e.2) ?_;have⟨j,N,e,m⟩:=gb e m;simp[e];refine Cs (pI T o e.2) ?_;simp[e];rcases Io e m with⟨e,m⟩|⟨e,m⟩
 ·apply wg 999;have⟨O,e,m⟩:=c7 e m;simp[e];refine Cf (tD e.2) ?_;cases m;simp[e]
 apply wg 5;simp[e];rcases Io e m with⟨e,m⟩|⟨e,m⟩
 ·apply wg 999;have⟨P,e,m⟩:=c7 e m;simp[e];refine Cf (tD e.2) ?_;cases m;simp[e]
 apply wg 5;have⟨Q,e,m⟩:=c7 e m;simp[e];refine Cf (l5 e.2) ?_;simp[e];refine Wj m 999 0 (λq f h=>∃(v28:Bool) (b:Nat) (c:Nat) (g:Nat) (a:Nat),(h=fu [[]] 0 [sL sI d10.l,sI d10.qU]/\f.1 4=AV.dc 4 b 0/\f.1 6=AV.dc 6 c 0/\f.1 8=AV.dc 8 g 0/\f.1 15=AV.dc 15 a 0/\f.1 115=sB v28/\f.gen 4=b/\f.box 4=some [sL Ty.av t.abh,sL Fm.av t.abk]/\f.gen 6=c/\f.box 6=some [sI u.abd,sL Ty.av u.abe]/\f.gen 8=g/\f.box 8=some [sI p.abd,sI p.abg,sI p.cD.abd,sL Ty.av p.cD.abe,sL Tm.av p.abe]/\f.gen 15=a/\f.box 15=some [sI j.cK.abd,sI j.cK.cD.abd,sL Ty.av j.cK.cD.abe,sL Tm.av j.cK.cU,sL Fm.av j.cK.abe,sL sI j.eS])/\q v28=some s) (λq R i m=>?_) ?_
 ·rcases Io e m with⟨e,m⟩|⟨e,m⟩
  ·simp[e];exact i _ _ ⟨true,1,1,1,1,by simp[e],m⟩
  have⟨S,e,m⟩:=c7 e m;simp[e];refine Cf (gp e.2) ?_;rcases Io e m with⟨e,m⟩|⟨e,m⟩;rotate_left
  ·simp[e];exact i _ _ ⟨true,1,1,1,1,by simp[e],m⟩
  rcases Io e m with⟨e,m⟩|⟨e,m⟩
  ·simp[e];exact i _ _ ⟨true,1,1,1,1,by simp[e],m⟩
  have⟨v,e,m⟩:=c7 e m;simp[e];refine Cf (El e.2) ?_;simp[e];exact i _ _ ⟨(dr v 0),1,1,1,1,by simp[e],m⟩
 rintro y U ⟨v28,b,c,g,a,E,m⟩;have e:=Aj e E;rcases Io e m with⟨e,m⟩|⟨e,m⟩
 ·apply wg 999;cases m;simp[e]
 apply wg 6;have⟨V,e,m⟩:=c7 e m;have⟨W,e,m⟩:=c7 e m;simp[e];refine Cs (kX e.2) ?_;have⟨X,Y,e,m⟩:=gb e m;simp[e];refine Cs (Jf e.2) ?_;have⟨Z,e,m⟩:=c7 e m;simp[e];refine Cs (uK e.2) ?_;have⟨aa,e,m⟩:=c7 e m;simp[e];refine Cs (vC e.2) ?_;simp[e];refine Wj m 999 999 (λr f h=>∃(n:Bool),(h=fu [[]] 0 [sL sI d10.l,sI d10.qU]/\f.1 2=sB n)/\r n=some s) (λr ab k m=>?_) ?_;rotate_left
 ·rintro z ad ⟨n,E,m⟩;have e:=Aj e E;cases m;simp[e]
 rcases Io e m with⟨e,m⟩|⟨e,m⟩;rotate_left
 ·simp[e];exact k _ _ ⟨false,by simp[e],m⟩
 have⟨ae,e,m⟩:=c7 e m;simp[e];refine Cf (Aa T o e.2) ?_;have⟨w,e,m⟩:=c7 e m;simp[e];refine Cf (tD e.2) ?_;simp[e];exact k _ _ ⟨w,by simp[e],m⟩
end Go.Proofs.YtobcafblgapgfaaGreatDoor
