/- Part of the proof of KernelTyped: walks. -/
import Derived.Test.YtobcafblgapgfaaGreatDoorW1
set_option linter.all false
set_option maxRecDepth 20000
set_option maxHeartbeats 4000000
namespace Go.Proofs.YtobcafblgapgfaaGreatDoor
open Go Go.m7 Go.hI Tryz
def zU:C3 prog 166 tn Tm.av Tm.av Tm.av Tm.av:=by
 intro T H a0 a1 a2 r hm;rw[tn] at hm;have e:=trivial;refine wi acd func166 [] [] 999 ?_;have⟨a,e,m⟩:=ep e hm;simp[e];refine Cs (hX e.2) ?_;have⟨b,e,m⟩:=ep e m;simp[e];refine Cs (l9 e.2) ?_;cases m;simp[e]
def CB:C0 prog 102 tc Tm.av:=by
 intro T H r hm;rw[tc] at hm;have e:=trivial;refine wi acd func102 [] [] 999 ?_;have⟨a,e,m⟩:=ep e hm;simp[e];refine Cf (gu e.2) ?_;have⟨b,e,m⟩:=ep e m;simp[e];refine Cf (gu e.2) ?_;have⟨c,e,m⟩:=ep e m;simp[e];refine Cf (gR e.2) ?_;have⟨d,e,m⟩:=ep e m;simp[e];refine Cf (lX e.2) ?_;have⟨f,e,m⟩:=ep e m;simp[e];refine Cf (lX e.2) ?_;have⟨g,e,m⟩:=ep e m;simp[e];refine Cf (gu e.2) ?_;have⟨h,e,m⟩:=ep e m;simp[e];refine Cf (zU e.2) ?_;have⟨i,e,m⟩:=ep e m;simp[e];refine Cf (lX e.2) ?_;have⟨j,e,m⟩:=ep e m;simp[e];refine Cf (lX e.2) ?_;cases m;simp[e]
def FX:C2 prog 101 Bz Tm.av Tm.av (sL Tm.av):=by
 intro T H a0 a1 r hm;rw[Bz] at hm;have e:=trivial;refine wi acd func101 [] [] 999 ?_;simp[e];refine Wr e hm 999 (λj s2 f h=>∃(a:Nat) (b:Nat),h=H/\f.1 2=AV.eC 2 a 0/\f.1 4=AV.eC 4 b 0/\f.1 7=sL Tm.av a1/\f.1 8=sI (eM a1)/\f.1 9=sI j/\f.gen 2=a/\f.box 2=some [sI s2.1,sI s2.2.1,sI s2.2.2.1,sL Ty.av s2.2.2.2.1,sL Tm.av s2.2.2.2.2]/\f.gen 4=b/\f.box 4=some [sI 0,sI 0,sI 0,AV.slice .full [],AV.slice .full []]) ⟨1,1,by simp[e]⟩ (λs2 c k l E m=>?_) (λj p s2 c k l n6 q E e m n d=>?_)
 ·have⟨v10,v11,v12,g,i⟩:=s2;have⟨a,b,E⟩:=E;have e:=Aj e E;dsimp only[ei,F9]at m;cases m;simp[e]
 have⟨v10,v11,v12,g,i⟩:=s2;have⟨a,b,E⟩:=E;have e:=Aj e E;dsimp only[F9]at m;have⟨o,e,m⟩:=ep e m;simp[e];refine Cf (gR e.2) ?_;simp[e];cases m;exact d _ _ _ ⟨a,b,by simp[e]⟩ n
def KY:C0 prog 167 vu Tm.av:=by
 intro T H r hm;rw[vu] at hm;have e:=trivial;refine wi acd func167 [] [] 999 ?_;have⟨a,e,m⟩:=ep e hm;simp[e];refine Cf (gR e.2) ?_;have⟨b,e,m⟩:=ep e m;simp[e];refine Cf (gu e.2) ?_;have⟨c,e,m⟩:=ep e m;simp[e];refine Cf (lX e.2) ?_;have⟨d,e,m⟩:=ep e m;simp[e];refine Cf (lX e.2) ?_;have⟨f,e,m⟩:=ep e m;simp[e];refine Cf (gu e.2) ?_;have⟨g,e,m⟩:=ep e m;simp[e];refine Cf (zU e.2) ?_;have⟨h,e,m⟩:=ep e m;simp[e];refine Cf (lX e.2) ?_;cases m;simp[e]
def Ma:C0 prog 103 xi Tm.av:=by
 intro T H r hm;rw[xi] at hm;have e:=trivial;refine wi acd func103 [] [] 999 ?_;have⟨b,e,m⟩:=ep e hm;simp[e];refine Cf (gu e.2) ?_;have⟨c,e,m⟩:=ep e m;simp[e];refine Cf (KY e.2) ?_;have⟨d,e,m⟩:=ep e m;simp[e];refine Cf (gu e.2) ?_;have⟨f,e,m⟩:=ep e m;simp[e];refine Cf (gR e.2) ?_;have⟨g,e,m⟩:=ep e m;simp[e];refine Cf (lX e.2) ?_;have⟨h,e,m⟩:=ep e m;simp[e];refine Cf (lX e.2) ?_;have⟨i,e,m⟩:=ep e m;simp[e];refine Cf (gu e.2) ?_;have⟨j,e,m⟩:=ep e m;simp[e];refine Cf (zU e.2) ?_;have⟨k,e,m⟩:=ep e m;simp[e];refine Cf (lX e.2) ?_;have⟨a,e,m⟩:=ep e m;simp[e];refine Cf (lX e.2) ?_;cases m;simp[e]
def ND(T:fa):∀(n:Nat),(∀{H:eD} {a0:ew} {a1:List Ty} {a2:Ty} {a3:Int} {K:Tm} {q:ew} {r:Nat} (L:H[r]?=some [sL sI a0.l,sI a0.pY]) (hm:gD n a0 a1 a2 a3=some (K,q)),eZ prog T 35 [AV.fO r 0,sL Ty.av a1,Ty.av a2,sI a3] H (Tm.av K) (gb H r [sL sI q.l,sI q.pY])):=by
  intro n
  induction n with
  |zero=>
    skip
    all_goals(intro _ _;intros;rename_i hm;cases hm)
  |succ n k=>
 intro H a0 a1 a2 a3 K q r L hm;rw[gD] at hm;have W:=fW L;refine fG.Iy L ?_;have e:=W;refine wi acd func35 [] [] 5 ?_;have⟨x1,e,m⟩:=ep e hm;simp[e];refine Cf (QF e.2) ?_;simp[e];refine Wj m 999 0 (λZ f h=>∃(v3:Bool) (v4:ew) (o:Nat) (p:Nat),(h=gb H r [sL sI v4.l,sI v4.pY]/\f.1 0=AV.fO r 0/\f.1 1=sL Ty.av a1/\f.1 3=sI a3/\f.1 6=AV.eC 6 o 0/\f.1 8=AV.eC 8 p 0/\f.1 9=sL sI x1/\f.1 27=sB v3/\f.gen 6=o/\f.box 6=some [sI a2.ab9,sL Ty.av a2.ab_]/\f.gen 8=p/\f.box 8=some [sI 0,sI 0,sI 0,AV.slice .full [],AV.slice .full []])/\Z v3 v4=some (K,q)) (λZ K5 N m=>?_) ?_
 ·rcases Io e m with⟨e,m⟩|⟨e,m⟩;rotate_left
  ·simp[e];exact N _ _ ⟨false,a0,1,1,by simp[e],m⟩
  have⟨x7,d8,e,m⟩:=gv e m;simp[e];refine Cf (gf T (by simp[e]) e.2) ?_;simp[e];exact N _ _ ⟨(nX x7 0),d8,1,1,by simp[e],m⟩
 rintro aN h9 ⟨v3,v4,o,p,E,m⟩;have e:=Aj e E;rcases Io e m with⟨e,m⟩|⟨e,m⟩
 ·apply wg 999;have⟨aO,d11,e,m⟩:=gv e m;simp[e];refine Cf (gf T (by simp[e]) e.2) ?_;have⟨aP,e,m⟩:=ep e m;have⟨aQ,e,m⟩:=ep e m;simp[e];refine Cf (gu e.2) ?_;cases m;simp[e]
 apply wg 2;simp[e];refine Wj m 999 6 (λO f h=>∃(x:ew) (i:Nat) (c:Nat),(h=gb H r [sL sI x.l,sI x.pY]/\f.1 0=AV.fO r 0/\f.1 1=sL Ty.av a1/\f.1 3=sI a3/\f.1 6=AV.eC 6 i 0/\f.1 8=AV.eC 8 c 0/\f.gen 6=i/\f.box 6=some [sI a2.ab9,sL Ty.av a2.ab_]/\f.gen 8=c/\f.box 8=some [sI 0,sI 0,sI 0,AV.slice .full [],AV.slice .full []])/\O x=some (K,q)) (λO aR y m=>?_) ?_;rotate_left
 ·rintro aa aS ⟨x,i,c,E,m⟩;have e:=Aj e E;simp[e];rcases Io e m with⟨e,m⟩|⟨e,m⟩
  ·apply wg 1;simp[e];refine Wj m 999 999 (λP f h=>∃(v20:ew) (s:Nat),(h=gb H r [sL sI v20.l,sI v20.pY]/\f.1 0=AV.fO r 0/\f.1 8=AV.eC 8 s 0/\f.gen 8=s/\f.box 8=some [sI 0,sI 0,sI 0,AV.slice .full [],AV.slice .full []])/\P v20=some (K,q)) (λP aT C m=>?_) ?_;rotate_left
   ·rintro ab aU ⟨v20,s,E,m⟩;have e:=Aj e E;have⟨aV,d25,e,m⟩:=gv e m;simp[e];refine Cf (gf T (by simp[e]) e.2) ?_;have⟨aW,e,m⟩:=ep e m;simp[e];refine Cf (CI e.2) ?_;cases m;simp[e]
   rcases Io e m with⟨e,m⟩|⟨e,m⟩;rotate_left
   ·simp[e];exact C _ _ ⟨x,c,by simp[e],m⟩
   have⟨aX,d28,e,m⟩:=gv e m;simp[e];refine Cf (gf T (by simp[e]) e.2) ?_;rcases Io e m with⟨e,m⟩|⟨e,m⟩
   ·have⟨aY,d30,e,m⟩:=gv e m;simp[e];refine Cf (k (by simp[e]) e.2) ?_;have⟨aZ,e,m⟩:=ep e m;simp[e];refine Cf (gR e.2) ?_;cases m;simp[e]
   rcases Io e m with⟨e,m⟩|⟨e,m⟩
   ·have⟨a6,e,m⟩:=ep e m;simp[e];refine Cs (CB e.2) ?_;have⟨a7,d34,e,m⟩:=gv e m;simp[e];refine Cs (k (by simp[e]) e.2) ?_;have⟨a8,d36,e,m⟩:=gv e m;simp[e];refine Cs (k (by simp[e]) e.2) ?_;have⟨a_,e,m⟩:=ep e m;simp[e];refine Cs (FX e.2) ?_;cases m;simp[e]
   rcases Io e m with⟨e,m⟩|⟨e,m⟩;rotate_left
   ·simp[e];exact C _ _ ⟨d28,c,by simp[e],m⟩
   have⟨a',e,m⟩:=ep e m;simp[e];refine Cs (Ma e.2) ?_;have⟨ba,d40,e,m⟩:=gv e m;simp[e];refine Cs (k (by simp[e]) e.2) ?_;have⟨bb,d42,e,m⟩:=gv e m;simp[e];refine Cs (k (by simp[e]) e.2) ?_;have⟨bc,e,m⟩:=ep e m;simp[e];refine Cs (FX e.2) ?_;cases m;simp[e]
  apply wg 3;simp[e];rcases Io e m with⟨e,m⟩|⟨e,m⟩;rotate_left
  ·apply wg 999;rcases Io e m with⟨e,m⟩|⟨e,m⟩
   ·have⟨bd,e,m⟩:=ep e m;have⟨bf,d46,e,m⟩:=gv e m;simp[e];refine Cs (k (by simp[e]) e.2) ?_;have⟨bg,e,m⟩:=ep e m;have⟨bh,d49,e,m⟩:=gv e m;simp[e];refine Cs (k (by simp[e]) e.2) ?_;have⟨bj,e,m⟩:=ep e m;simp[e];refine Cs (gR e.2) ?_;cases m;simp[e]
   rcases Io e m with⟨e,m⟩|⟨e,m⟩;rotate_left
   ·have⟨bk,e,m⟩:=ep e m;simp[e];refine Cf (gR e.2) ?_;cases m;simp[e]
   have⟨bl,e,m⟩:=ep e m;have⟨bm,e,m⟩:=ep e m;simp[e];refine Cs (oS e.2) ?_;have⟨bn,e,m⟩:=ep e m;have⟨bo,d56,e,m⟩:=gv e m;simp[e];refine Cs (k (by simp[e]) e.2) ?_;have⟨bp,e,m⟩:=ep e m;simp[e];refine Cs (l9 e.2) ?_;cases m;simp[e]
  apply wg 2;simp[e];refine Wj m 999 999 (λQ f h=>∃(v59:Bool) (B:ew) (t:Nat) (u:Nat),(h=gb H r [sL sI B.l,sI B.pY]/\f.1 0=AV.fO r 0/\f.1 1=sL Ty.av a1/\f.1 3=sI a3/\f.1 6=AV.eC 6 t 0/\f.1 8=AV.eC 8 u 0/\f.1 276=sB v59/\f.gen 6=t/\f.box 6=some [sI a2.ab9,sL Ty.av a2.ab_]/\f.gen 8=u/\f.box 8=some [sI 0,sI 0,sI 0,AV.slice .full [],AV.slice .full []])/\Q v59 B=some (K,q)) (λQ bq D m=>?_) ?_
  ·rcases Io e m with⟨e,m⟩|⟨e,m⟩;rotate_left
   ·simp[e];exact D _ _ ⟨false,x,i,c,by simp[e],m⟩
   have⟨X,d64,e,m⟩:=gv e m;simp[e];refine Cf (gf T (by simp[e]) e.2) ?_;simp[e];exact D _ _ ⟨(eH X 0),d64,i,c,by simp[e],m⟩
  rintro ad br ⟨v59,B,t,u,E,m⟩;have e:=Aj e E;rcases Io e m with⟨e,m⟩|⟨e,m⟩;rotate_left
  ·have⟨bs,e,m⟩:=ep e m;simp[e];refine Cf (gR e.2) ?_;cases m;simp[e]
  have⟨bt,e,m⟩:=ep e m;simp[e];refine Cs (hX e.2) ?_;have⟨bu,d69,e,m⟩:=gv e m;simp[e];refine Cs (k (by simp[e]) e.2) ?_;have⟨bw,d71,e,m⟩:=gv e m;simp[e];refine Cs (k (by simp[e]) e.2) ?_;have⟨bx,e,m⟩:=ep e m;simp[e];refine Cs (gR e.2) ?_;cases m;simp[e]
 rcases Io e m with⟨e,m⟩|⟨e,m⟩;rotate_left
 ·simp[e];exact y _ _ ⟨v4,o,p,by simp[e],m⟩
 have⟨bz,d74,e,m⟩:=gv e m;simp[e];refine Cf (gf T (by simp[e]) e.2) ?_;rcases Io e m with⟨e,m⟩|⟨e,m⟩
 ·have⟨bA,d76,e,m⟩:=gv e m;simp[e];refine Cf (mS T (by simp[e]) e.2) ?_;have⟨bB,e,m⟩:=ep e m;simp[e];refine Cs (oS e.2) ?_;have⟨bC,d79,e,m⟩:=gv e m;simp[e];refine Cs (k (by simp[e]) e.2) ?_;have⟨bD,e,m⟩:=ep e m;simp[e];refine Cs (l9 e.2) ?_;have⟨bE,d82,e,m⟩:=gv e m;simp[e];refine Cs (k (by simp[e]) e.2) ?_;have⟨bF,e,m⟩:=ep e m;simp[e];refine Cs (gR e.2) ?_;cases m;simp[e]
 rcases Io e m with⟨e,m⟩|⟨e,m⟩
 ·have⟨bG,d85,e,m⟩:=gv e m;simp[e];refine Cf (mS T (by simp[e]) e.2) ?_;have⟨bH,d87,e,m⟩:=gv e m;simp[e];refine Cs (k (by simp[e]) e.2) ?_;have⟨bI,d89,e,m⟩:=gv e m;simp[e];refine Cs (k (by simp[e]) e.2) ?_;have⟨bJ,e,m⟩:=ep e m;simp[e];refine Cs (gR e.2) ?_;have⟨bK,e,m⟩:=ep e m;simp[e];refine Cs (gR e.2) ?_;cases m;simp[e]
 rcases Io e m with⟨e,m⟩|⟨e,m⟩
 ·have⟨bL,e,m⟩:=ep e m;simp[e];refine Cs (hX e.2) ?_;have⟨bM,e,m⟩:=ep e m;simp[e];refine Cs (hX e.2) ?_;have⟨bN,e,m⟩:=ep e m;simp[e];refine Cs (oS e.2) ?_;have⟨bO,d96,e,m⟩:=gv e m;simp[e];refine Cs (k (by simp[e]) e.2) ?_;have⟨bP,e,m⟩:=ep e m;simp[e];refine Cs (l9 e.2) ?_;have⟨bQ,e,m⟩:=ep e m;simp[e];refine Cs (l9 e.2) ?_;have⟨bR,d100,e,m⟩:=gv e m;simp[e];refine Cs (k (by simp[e]) e.2) ?_;have⟨ae,d102,e,m⟩:=gv e m;simp[e];refine Cs (gf T (by simp[e]) e.2) ?_;have⟨af,e,m⟩:=ep e m;simp[e];refine Cs (CI e.2) ?_;have⟨ah,e,m⟩:=ep e m;simp[e];refine Cs (l9 e.2) ?_;cases m;simp[e]
 rcases Io e m with⟨e,m⟩|⟨e,m⟩
 ·have⟨ai,e,m⟩:=ep e m;simp[e];refine Cs (hX e.2) ?_;have⟨aj,e,m⟩:=ep e m;simp[e];refine Cs (nS e.2) ?_;have⟨ak,e,m⟩:=ep e m;simp[e];refine Cs (hX e.2) ?_;have⟨al,e,m⟩:=ep e m;simp[e];refine Cs (nS e.2) ?_;have⟨an,e,m⟩:=ep e m;simp[e];refine Cs (oS e.2) ?_;have⟨ao,d111,e,m⟩:=gv e m;simp[e];refine Cs (k (by simp[e]) e.2) ?_;have⟨aq,e,m⟩:=ep e m;simp[e];refine Cs (l9 e.2) ?_;have⟨ar,e,m⟩:=ep e m;simp[e];refine Cs (l9 e.2) ?_;have⟨au,e,m⟩:=ep e m;simp[e];refine Cs (l9 e.2) ?_;have⟨aw,d116,e,m⟩:=gv e m;simp[e];refine Cs (k (by simp[e]) e.2) ?_;have⟨ax,e,m⟩:=ep e m;simp[e];refine Cs (nS e.2) ?_;have⟨ay,d119,e,m⟩:=gv e m;simp[e];refine Cs (k (by simp[e]) e.2) ?_;have⟨az,e,m⟩:=ep e m;simp[e];refine Cs (l9 e.2) ?_;cases m;simp[e]
 rcases Io e m with⟨e,m⟩|⟨e,m⟩
 ·have⟨aA,d122,e,m⟩:=gv e m;simp[e];refine Cf (mS T (by simp[e]) e.2) ?_;have⟨aB,d124,e,m⟩:=gv e m;simp[e];refine Cs (k (by simp[e]) e.2) ?_;have⟨aC,d126,e,m⟩:=gv e m;simp[e];refine Cs (k (by simp[e]) e.2) ?_;have⟨aD,e,m⟩:=ep e m;simp[e];refine Cs (gR e.2) ?_;have⟨aE,e,m⟩:=ep e m;simp[e];refine Cs (gR e.2) ?_;cases m;simp[e]
 rcases Io e m with⟨e,m⟩|⟨e,m⟩;rotate_left
 ·simp[e];exact y _ _ ⟨d74,o,p,by simp[e],m⟩
 simp[e];refine Wr e m 0 (λw F f h=>∃(a:Nat) (b:Nat),h=gb H r [sL sI d74.l,sI d74.pY]/\f.1 0=AV.fO r 0/\f.1 1=sL Ty.av a1/\f.1 3=sI a3/\f.1 6=AV.eC 6 a 0/\f.1 8=AV.eC 8 b 0/\f.1 176=sI (eM a1)/\f.1 177=sI w/\f.gen 6=a/\f.box 6=some [sI a2.ab9,sL Ty.av a2.ab_]/\f.gen 8=b/\f.box 8=some [sI 0,sI 0,sI 0,AV.slice .full [],AV.slice .full []]) ⟨o,p,by simp[e]⟩ (λF v R S E m=>?_) (λw aF F v R S n134 U E e m G M=>?_)
 ·have⟨a,b,E⟩:=E;have e:=Aj e E;apply wg 999;dsimp only[ei]at m;simp[e];exact y _ _ ⟨d74,a,b,by simp[e],m⟩
 have⟨a,b,E⟩:=E;have e:=Aj e E;apply wg 11;have⟨I,e,m⟩:=ep e m;simp[e];refine Wj m 999 999 (λJ f h=>∃(z:Bool) (d:Nat) (g:Nat) (j:Nat),(h=gb H r [sL sI d74.l,sI d74.pY]/\f.1 0=AV.fO r 0/\f.1 1=sL Ty.av a1/\f.1 3=sI a3/\f.1 6=AV.eC 6 d 0/\f.1 8=AV.eC 8 g 0/\f.1 15=sI w/\f.1 16=AV.eC 16 j 0/\f.1 176=sI (eM a1)/\f.1 177=sI w/\f.1 198=sB z/\f.gen 6=d/\f.box 6=some [sI a2.ab9,sL Ty.av a2.ab_]/\f.gen 8=g/\f.box 8=some [sI 0,sI 0,sI 0,AV.slice .full [],AV.slice .full []]/\f.gen 16=j/\f.box 16=some [sI I.ab9,sL Ty.av I.ab_])/\J z=some U) (λJ aG A m=>?_) ?_
 ·rcases Io e m with⟨e,m⟩|⟨e,m⟩;rotate_left
  ·simp[e];exact A _ _ ⟨false,a,b,(v.gen 16+1),by simp[e],m⟩
  have⟨aH,e,m⟩:=ep e m;have⟨V,e,m⟩:=ep e m;simp[e];refine Cs (iw e.2) ?_;simp[e];exact A _ _ ⟨V,a,b,(v.gen 16+1),by simp[e],m⟩
 rintro Y aI ⟨z,d,g,j,E,m⟩;have e:=Aj e E;rcases Io e m with⟨e,m⟩|⟨e,m⟩;rotate_left
 ·simp[e];cases m;exact M _ _ _ ⟨d,g,by simp[e]⟩ G
 have⟨aJ,e,m⟩:=ep e m;simp[e];refine Cs (gu e.2) ?_;have⟨aK,e,m⟩:=ep e m;have⟨aL,d149,e,m⟩:=gv e m;simp[e];refine Cs (k (by simp[e]) e.2) ?_;have⟨aM,e,m⟩:=ep e m;simp[e];refine Cs (gR e.2) ?_;cases m;cases G;simp[e]
def l5(T:fa){H:eD}{a0:ew}{a1:List Ty}{a2:Ty}{a3:Int}{d:Tm}{a:ew}{b:Nat}(c:H[b]?=some [sL sI a0.l,sI a0.pY]){n:Nat}(hm:gD n a0 a1 a2 a3=some (d,a)):eZ prog T 35 [AV.fO b 0,sL Ty.av a1,Ty.av a2,sI a3] H (Tm.av d) (gb H b [sL sI a.l,sI a.pY]):=(ND T n) c hm
def IQ(T:fa):∀(n:Nat),(∀{H:eD} {a0:ew} {a1:List Ty} {a2:Int} {r:Fm} {d:ew} {i:Nat} (o:H[i]?=some [sL sI a0.l,sI a0.pY]) (hm:im n a0 a1 a2=some (r,d)),eZ prog T 28 [AV.fO i 0,sL Ty.av a1,sI a2] H (Fm.av r) (gb H i [sL sI d.l,sI d.pY])):=by
  intro n
  induction n with
  |zero=>
    skip
    all_goals(intro _ _;intros;rename_i hm;cases hm)
  |succ n p=>
 intro H a0 a1 a2 r d i o hm;rw[im] at hm;have s:=fW o;refine fG.Iy o ?_;have e:=s;refine wi acd func28 [] [] 2 ?_;simp[e];refine Wj hm 2 999 (λt f h=>∃(v2:ew) (g:Nat),(h=gb H i [sL sI v2.l,sI v2.pY]/\f.1 0=AV.fO i 0/\f.1 1=sL Ty.av a1/\f.1 6=AV.eC 6 g 0/\f.gen 6=g/\f.box 6=some [sI 0,sI 0,AV.slice .full [],AV.slice .full [],AV.slice .full []])/\t v2=some (r,d)) (λt Y q m=>?_) ?_;rotate_left
 ·rintro w Z ⟨v2,g,E,m⟩;have e:=Aj e E;have⟨x6,e,m⟩:=ep e m;simp[e];refine Cf (hX e.2) ?_;have⟨x7,d8,e,m⟩:=gv e m;simp[e];refine Cs (l5 T (by simp[e]) e.2) ?_;have⟨x9,d10,e,m⟩:=gv e m;simp[e];refine Cs (l5 T (by simp[e]) e.2) ?_;have⟨x,e,m⟩:=ep e m;simp[e];refine Cs (nZ e.2) ?_;cases m;simp[e]
 simp[e];rcases Io e m with⟨e,m⟩|⟨e,m⟩;rotate_left
 ·apply wg 999;simp[e];exact q _ _ ⟨a0,1,by simp[e],m⟩
 apply wg 6;have⟨c,d13,e,m⟩:=gv e m;simp[e];refine Cf (gf T (by simp[e]) e.2) ?_;simp[e];rcases Io e m with⟨e,m⟩|⟨e,m⟩
 ·apply wg 999;have⟨y,d15,e,m⟩:=gv e m;simp[e];refine Cf (p (by simp[e]) e.2) ?_;have⟨z,d17,e,m⟩:=gv e m;simp[e];refine Cf (p (by simp[e]) e.2) ?_;have⟨A,e,m⟩:=ep e m;simp[e];refine Cf (wy e.2) ?_;cases m;simp[e]
 apply wg 1;simp[e];refine wj 999 0 (λf h=>∃(a:Nat),h=gb H i [sL sI d13.l,sI d13.pY]/\f.1 0=AV.fO i 0/\f.1 1=sL Ty.av a1/\f.1 2=sI a2/\f.1 6=AV.eC 6 a 0/\f.1 14=sI c/\f.1 28=sB (fU (eH c 1) true (eH c 2))/\f.gen 6=a/\f.box 6=some [sI 0,sI 0,AV.slice .full [],AV.slice .full [],AV.slice .full []]) (λB j=>?_) ?_
 ·rcases Pb (eH c 1) e with e|e
  ·simp[e];exact j _ _ ⟨1,by simp[e]⟩
  simp[e];exact j _ _ ⟨1,by simp[e]⟩
 rintro u C ⟨a,E⟩;have e:=Aj e E;rcases Io e m with⟨e,m⟩|⟨e,m⟩
 ·apply wg 999;have⟨D,d23,e,m⟩:=gv e m;simp[e];refine Cf (p (by simp[e]) e.2) ?_;have⟨F,d25,e,m⟩:=gv e m;simp[e];refine Cf (p (by simp[e]) e.2) ?_;have⟨G,e,m⟩:=ep e m;simp[e];refine Cf (wy e.2) ?_;cases m;simp[e]
 apply wg 1;simp[e];refine wj 999 999 (λf h=>∃(b:Nat),h=gb H i [sL sI d13.l,sI d13.pY]/\f.1 0=AV.fO i 0/\f.1 1=sL Ty.av a1/\f.1 2=sI a2/\f.1 6=AV.eC 6 b 0/\f.1 14=sI c/\f.1 42=sB (fU (eH c 3) true (eH c 4))/\f.gen 6=b/\f.box 6=some [sI 0,sI 0,AV.slice .full [],AV.slice .full [],AV.slice .full []]) (λI k=>?_) ?_
 ·rcases Pb (eH c 3) e with e|e
  ·simp[e];exact k _ _ ⟨a,by simp[e]⟩
  simp[e];exact k _ _ ⟨a,by simp[e]⟩
 rintro v J ⟨b,E⟩;have e:=Aj e E;rcases Io e m with⟨e,m⟩|⟨e,m⟩
 ·have⟨K,d31,e,m⟩:=gv e m;simp[e];refine Cf (mS T (by simp[e]) e.2) ?_;have⟨L,e,m⟩:=ep e m;simp[e];refine Cs (oS e.2) ?_;have⟨M,d34,e,m⟩:=gv e m;simp[e];refine Cs (p (by simp[e]) e.2) ?_;have⟨N,e,m⟩:=ep e m;simp[e];refine Cs (nD e.2) ?_;cases m;simp[e]
 rcases Io e m with⟨e,m⟩|⟨e,m⟩
 ·have⟨O,d37,e,m⟩:=gv e m;simp[e];refine Cf (mS T (by simp[e]) e.2) ?_;have⟨P,e,m⟩:=ep e m;simp[e];refine Cs (oS e.2) ?_;have⟨Q,d40,e,m⟩:=gv e m;simp[e];refine Cs (p (by simp[e]) e.2) ?_;have⟨R,e,m⟩:=ep e m;simp[e];refine Cs (nD e.2) ?_;cases m;simp[e]
 rcases Io e m with⟨e,m⟩|⟨e,m⟩;rotate_left
 ·simp[e];exact q _ _ ⟨d13,b,by simp[e],m⟩
 have⟨S,d43,e,m⟩:=gv e m;simp[e];refine Cf (mS T (by simp[e]) e.2) ?_;have⟨U,d45,e,m⟩:=gv e m;simp[e];refine Cs (gf T (by simp[e]) e.2) ?_;have⟨V,e,m⟩:=ep e m;simp[e];refine Cs (oS e.2) ?_;have⟨W,d48,e,m⟩:=gv e m;simp[e];refine Cs (p (by simp[e]) e.2) ?_;have⟨X,e,m⟩:=ep e m;simp[e];refine Cs (nD e.2) ?_;cases m;simp[e]
def xZ(T:fa){H:eD}{a0:ew}{a1:List Ty}{a2:Int}{d:Fm}{a:ew}{b:Nat}(c:H[b]?=some [sL sI a0.l,sI a0.pY]){n:Nat}(hm:im n a0 a1 a2=some (d,a)):eZ prog T 28 [AV.fO b 0,sL Ty.av a1,sI a2] H (Fm.av d) (gb H b [sL sI a.l,sI a.pY]):=(IQ T n) c hm
def Mv(T:fa){H:eD}{a0:ew}{p:List Fm}{b:ew}{d:Nat}(g:H[d]?=some [sL sI a0.l,sI a0.pY])(hm:uX a0=some (p,b)):eZ prog T 17 [AV.fO d 0] H (sL Fm.av p) (gb H d [sL sI b.l,sI b.pY]):=by
 rw[uX] at hm;have j:=fW g;refine fG.Iy g ?_;have e:=j;refine wi acd func17 [] [] 999 ?_;have⟨r,d2,e,m⟩:=gv e hm;simp[e];refine Cf (gf T (by simp[e]) e.2) ?_;simp[e];refine Wn m 999 (λc f h=>∃(a:Tag),(h=gb H d [sL sI c.2.2.l,sI c.2.2.pY]/\f.1 0=AV.fO d 0/\f.1 3=sT a Fm.av c.1/\f.1 4=sI c.2.1)/\Ow f [15] a c.1) (by exact⟨.full,by simp[e],iX.full⟩) (λc k s t n6 u E m q n=>?_);have⟨v10,v11,v12⟩:=c;have⟨a,E,i⟩:=E;have e:=Aj e E;dsimp only[uj]at m;rcases Io e m with⟨e,m⟩|⟨e,m⟩;rotate_left
 ·cases m;have m:=Qb q;dsimp only[uj]at m;cases m;simp[e]
 have⟨o,d14,e,m⟩:=gv e m;simp[e];refine Cf (xZ T (by simp[e]) e.2) ?_;have⟨e,m⟩:=Ck e m;simp[e];refine Ao (f:=Fm.av) v10 [o] i DA e.2 ?_;simp[e];cases m;exact n _ _ _ ⟨(.loc 15 (k.fN 15+1)),by simp[e],(On 15)⟩ q
def KS(T:fa){H:eD}{a0:ew}{p:List Ty}{b:ew}{d:Nat}(g:H[d]?=some [sL sI a0.l,sI a0.pY])(hm:vX a0=some (p,b)):eZ prog T 64 [AV.fO d 0] H (sL Ty.av p) (gb H d [sL sI b.l,sI b.pY]):=by
 rw[vX] at hm;have j:=fW g;refine fG.Iy g ?_;have e:=j;refine wi acd func64 [] [] 999 ?_;have⟨r,d2,e,m⟩:=gv e hm;simp[e];refine Cf (gf T (by simp[e]) e.2) ?_;simp[e];refine Wn m 999 (λc f h=>∃(a:Tag),(h=gb H d [sL sI c.2.2.l,sI c.2.2.pY]/\f.1 0=AV.fO d 0/\f.1 3=sT a Ty.av c.1/\f.1 4=sI c.2.1)/\Ow f [15] a c.1) (by exact⟨.full,by simp[e],iX.full⟩) (λc k s t n6 u E m q n=>?_);have⟨v10,v11,v12⟩:=c;have⟨a,E,i⟩:=E;have e:=Aj e E;dsimp only[uj]at m;rcases Io e m with⟨e,m⟩|⟨e,m⟩;rotate_left
 ·cases m;have m:=Qb q;dsimp only[uj]at m;cases m;simp[e]
 have⟨o,d14,e,m⟩:=gv e m;simp[e];refine Cf (mS T (by simp[e]) e.2) ?_;have⟨e,m⟩:=Ck e m;simp[e];refine Ao (f:=Ty.av) v10 [o] i Fo e.2 ?_;simp[e];cases m;exact n _ _ _ ⟨(.loc 15 (k.fN 15+1)),by simp[e],(On 15)⟩ q
def J_(T:fa){H:eD}{a0:ew}{t:Sq}{d:ew}{i:Nat}(j:H[i]?=some [sL sI a0.l,sI a0.pY])(hm:tm a0=some (t,d)):eZ prog T 18 [AV.fO i 0] H (Sq.av t) (gb H i [sL sI d.l,sI d.pY]):=by
 rw[tm] at hm;have p:=fW j;refine fG.Iy j ?_;have e:=p;refine wi acd func18 [] [] 999 ?_;have⟨u,d2,e,m⟩:=gv e hm;simp[e];refine Cf (KS T (by simp[e]) e.2) ?_;have⟨w,d4,e,m⟩:=gv e m;simp[e];refine Cf (gf T (by simp[e]) e.2) ?_;simp[e];refine Wn m 999 (λg f h=>∃(a:Tag) (b:Nat) (c:Nat),(h=gb H i [sL sI g.2.2.l,sI g.2.2.pY]/\f.1 0=AV.fO i 0/\f.1 2=AV.eC 2 b 0/\f.1 3=AV.eC 3 c 0/\f.1 4=sI g.1/\f.gen 2=b/\f.box 2=some [AV.slice .full [],AV.slice .full []]/\f.gen 3=c/\f.box 3=some [sL Ty.av u,sT a Fm.av g.2.1])/\Ow f [21] a g.2.1) (by exact⟨.full,1,1,by simp[e],iX.full⟩) (λg q x y z A E m k n=>?_);have⟨v12,r,v⟩:=g;have⟨a,b,c,E,o⟩:=E;have e:=Aj e E;dsimp only[uj]at m;rcases Io e m with⟨e,m⟩|⟨e,m⟩;rotate_left
 ·cases m;have m:=Qb k;dsimp only[uj]at m;cases m;simp[e]
 have⟨s,d16,e,m⟩:=gv e m;simp[e];refine Cs (xZ T (by simp[e]) e.2) ?_;have⟨e,m⟩:=Ck e m;simp[e];refine Ad (f:=Fm.av) r [s] o DA e.2 ?_;simp[e];cases m;exact n _ _ _ ⟨(.loc 21 (q.fN 21+1)),b,c,by simp[e],(On 21)⟩ k
def D_:C2 prog 66 yD Sq.av Sq.av Fm.av:=by
 intro T H a0 a1 r hm;rw[yD] at hm;have e:=trivial;refine wi acd func66 [] [] 999 ?_;have⟨e,m⟩:=Ck e hm;simp[e];refine Ad (f:=Fm.av) [] a0.acf (iX.full (D:=[])) DA e.2 ?_;have⟨e,m⟩:=Ck e m;simp[e];refine Ad (f:=Fm.av) (gG [] a0.acf) [a1] (iX.new (D:=[9]) (d:=9) (by decide)) DA e.2 ?_;cases m;simp[e]
def Ef:C2 prog 65 uY Pf.av Fm.av Pf.av:=by
 intro T H a0 a1 r hm;rw[uY] at hm;have e:=trivial;refine wi acd func65 [] [] 999 ?_;have⟨a,e,m⟩:=ep e hm;simp[e];refine Cf (ow e.2) ?_;have⟨b,e,m⟩:=ep e m;simp[e];refine Cf (kW e.2) ?_;have e:=Aj e (show AV.agg [sI a.ab9,sI a.aca,sI a.dv.ab9,sL Ty.av a.dv.ab_,sL Tm.av a.ej,AV.slice .iP [Fm.av b],sL Pf.av a.ab_]=Pf.av (Pf.mk a.ab9 a.aca a.dv a.ej [b] a.ab_) by rw[Pf.fL];rfl);have e:=Aj e (show AV.agg [sI a.ab9,sI a.aca,sI a.dv.ab9,sL Ty.av a.dv.ab_,sL Tm.av a.ej,AV.slice .iP [Fm.av b],sL Pf.av a.ab_]=Pf.av (Pf.mk a.ab9 a.aca a.dv a.ej [b] a.ab_) by rw[Pf.fL];rfl);have e:=Aj e (show AV.agg [sI a.ab9,sI a.aca,sI a.dv.ab9,sL Ty.av a.dv.ab_,sL Tm.av a.ej,AV.slice .iP [Fm.av b],sL Pf.av a.ab_]=Pf.av (Pf.mk a.ab9 a.aca a.dv a.ej [b] a.ab_) by rw[Pf.fL];rfl);cases m;simp[e]
def Hv:∀(n:Nat),C1 prog 187 (oR n) sB Ty.av:=by
  intro n
  induction n with
  |zero=>
    skip
    all_goals(intro _ _;intros;rename_i hm;cases hm)
  |succ n u=>
 intro T H a0 r hm;rw[oR] at hm;have e:=trivial;refine wi acd func187 [] [] 4 ?_;simp[e];refine Wj hm 3 999 (λo f h=>∃(v2:Int) (c:Nat),(h=H/\f.1 1=AV.eC 1 c 0/\f.1 3=sI v2/\f.gen 1=c/\f.box 1=some [sI a0.ab9,sL Ty.av a0.ab_])/\o v2=some r) (λo I i m=>?_) ?_;rotate_left
 ·rintro v J ⟨v2,c,E,m⟩;have e:=Aj e E;rcases Io e m with⟨e,m⟩|⟨e,m⟩
  ·cases m;simp[e]
  simp[e];refine Wr e m 999 (λp q f h=>h=H/\f.1 21=sL Ty.av a0.ab_/\f.1 22=sI (eM a0.ab_)/\f.1 23=sI p) (by simp[e]) (λq l w x E m=>?_) (λp y q l w x z A E e m j k=>?_)
  ·have e:=Aj e E;dsimp only[ei]at m;cases m;simp[e]
  have e:=Aj e E;have⟨B,e,m⟩:=ep e m;simp[e];refine Cf (u e.2) ?_;rcases Io e m with⟨e,m⟩|⟨e,m⟩;rotate_left
  ·cases m;cases j;simp[e]
  simp[e];cases m;exact k _ _ _ (by simp[e]) j
 simp[e];refine wj 999 0 (λf h=>∃(a:Nat),h=H/\f.1 1=AV.eC 1 a 0/\f.1 3=sI 0/\f.1 7=sI a0.ab9/\f.1 8=sB (fU (eH a0.ab9 1) true (fU (eH a0.ab9 2) true (eH a0.ab9 5)))/\f.gen 1=a/\f.box 1=some [sI a0.ab9,sL Ty.av a0.ab_]) (λC d=>?_) ?_
 ·rcases Pb (eH a0.ab9 1) e with e|e
  ·simp[e];exact d _ _ ⟨1,by simp[e]⟩
  rcases Pb (eH a0.ab9 2) e with e|e
  ·simp[e];exact d _ _ ⟨1,by simp[e]⟩
  simp[e];exact d _ _ ⟨1,by simp[e]⟩
 rintro s D ⟨a,E⟩;have e:=Aj e E;rcases Io e m with⟨e,m⟩|⟨e,m⟩
 ·apply wg 999;simp[e];exact i _ _ ⟨0,a,by simp[e],m⟩
 apply wg 1;simp[e];refine wj 999 999 (λf h=>∃(b:Nat),h=H/\f.1 1=AV.eC 1 b 0/\f.1 12=sB (fU (eH a0.ab9 3) true (eH a0.ab9 4))/\f.gen 1=b/\f.box 1=some [sI a0.ab9,sL Ty.av a0.ab_]) (λF g=>?_) ?_
 ·rcases Pb (eH a0.ab9 3) e with e|e
  ·simp[e];exact g _ _ ⟨a,by simp[e]⟩
  simp[e];exact g _ _ ⟨a,by simp[e]⟩
 rintro t G ⟨b,E⟩;have e:=Aj e E;rcases Io e m with⟨e,m⟩|⟨e,m⟩;rotate_left
 ·cases m;simp[e]
 simp[e];exact i _ _ ⟨2,b,by simp[e],m⟩
def Ia{n:Nat}:C1 prog 187 (oR n) sB Ty.av:=(Hv n)
def IV:∀(n:Nat),C1 prog 188 (qC n) sI Ty.av:=by
  intro n
  induction n with
  |zero=>
   skip
   all_goals(intro _ _;intros;rename_i hm;cases hm)
  |succ n d=>
 intro T H a0 r hm;rw[qC] at hm;have e:=trivial;refine wi acd func188 [] [] 999 ?_;simp[e];refine Wr e hm 999 (λc s2 f h=>h=H/\f.1 3=sI s2/\f.1 7=sL Ty.av a0.ab_/\f.1 8=sI (eM a0.ab_)/\f.1 9=sI c) (by simp[e]) (λs2 a g i E m=>?_) (λc l s2 a g i n6 o E e m j b=>?_)
 ·have e:=Aj e E;dsimp only[ei]at m;cases m;simp[e]
 have e:=Aj e E;have⟨k,e,m⟩:=ep e m;simp[e];refine Cf (d e.2) ?_;simp[e];cases m;exact b _ _ _ (by simp[e]) j
def KI{n:Nat}:C1 prog 188 (qC n) sI Ty.av:=(IV n)
def pI:C1 prog 137 jH sI Ty.av:=by
 intro T H a0 r hm;rw[jH] at hm;have e:=trivial;refine wi acd func137 [] [] 999 ?_;have⟨a,e,m⟩:=ep e hm;simp[e];refine Cf (Ia e.2) ?_;rcases Io e m with⟨e,m⟩|⟨e,m⟩;rotate_left
 ·cases m;simp[e]
 have⟨b,e,m⟩:=ep e m;simp[e];refine Cf (KI e.2) ?_;rcases Io e m with⟨e,m⟩|⟨e,m⟩
 ·cases m;simp[e]
 cases m;simp[e]
def uh:C1 prog 78 mI sI (sL Ty.av):=by
 intro T H a0 r hm;rw[mI] at hm;have e:=trivial;refine wi acd func78 [] [] 999 ?_;rcases Io e hm with⟨e,m⟩|⟨e,m⟩
 ·cases m;simp[e]
 simp[e];refine Wr e m 999 (λc s2 f h=>h=H/\f.1 9=sL Ty.av a0/\f.1 10=sI (eM a0)/\f.1 11=sI c) (by simp[e]) (λs2 a g i E m=>?_) (λc k s2 a g i n6 l E e m d b=>?_)
 ·have e:=Aj e E;dsimp only[ei]at m;cases m;simp[e]
 have e:=Aj e E;have⟨j,e,m⟩:=ep e m;simp[e];refine Cf (pI e.2) ?_;rcases Io e m with⟨e,m⟩|⟨e,m⟩
 ·cases m;cases d;simp[e]
 simp[e];cases m;exact b _ _ _ (by simp[e]) d
def uB:C1 prog 216 qt sB Ty.av:=by
 intro T H a0 r hm;rw[qt] at hm;have e:=trivial;refine wi acd func216 [] [] 2 ?_;simp[e];refine wj 999 999 (λf h=>h=H/\f.1 2=sB (fU (eH a0.ab9 0) (eH (eM a0.ab_) 0) false)) (λc a=>?_) ?_;rotate_left
 ·rintro b d E;have e:=Aj e E;cases hm;simp[e]
 rcases Pb (eH a0.ab9 0) e with e|e
 ·simp[e];exact a _ _ (by simp[e])
 simp[e];exact a _ _ (by simp[e])
def KH:C1 prog 233 vq sI sI:=by
 intro T H a0 r hm;rw[vq] at hm;have e:=trivial;refine wi acd func233 [] [] 6 ?_;simp[e];refine wj 999 0 (λf h=>h=H/\f.1 3=sI a0/\f.1 4=sB (fU (eH a0 1) true (fU (eH a0 4) true (fU (eH a0 7) true (eH a0 13))))) (λo a=>?_) ?_
 ·rcases Pb (eH a0 1) e with e|e
  ·simp[e];exact a _ _ (by simp[e])
  rcases Pb (eH a0 4) e with e|e
  ·simp[e];exact a _ _ (by simp[e])
  rcases Pb (eH a0 7) e with e|e
  ·simp[e];exact a _ _ (by simp[e])
  simp[e];exact a _ _ (by simp[e])
 rintro i p E;have e:=Aj e E;rcases Io e hm with⟨e,m⟩|⟨e,m⟩
 ·apply wg 999;cases m;simp[e]
 apply wg 1;simp[e];refine wj 999 0 (λf h=>h=H/\f.1 3=sI a0/\f.1 9=sB (fU (eH a0 2) true (fU (eH a0 5) true (fU (eH a0 11) true (eH a0 12))))) (λq b=>?_) ?_
 ·rcases Pb (eH a0 2) e with e|e
  ·simp[e];exact b _ _ (by simp[e])
  rcases Pb (eH a0 5) e with e|e
  ·simp[e];exact b _ _ (by simp[e])
  rcases Pb (eH a0 11) e with e|e
  ·simp[e];exact b _ _ (by simp[e])
  simp[e];exact b _ _ (by simp[e])
 rintro j s E;have e:=Aj e E;rcases Io e m with⟨e,m⟩|⟨e,m⟩
 ·apply wg 999;cases m;simp[e]
 apply wg 1;simp[e];refine wj 999 0 (λf h=>h=H/\f.1 3=sI a0/\f.1 14=sB (fU (eH a0 3) true (fU (eH a0 8) true (eH a0 10)))) (λt d=>?_) ?_
 ·rcases Pb (eH a0 3) e with e|e
  ·simp[e];exact d _ _ (by simp[e])
  rcases Pb (eH a0 8) e with e|e
  ·simp[e];exact d _ _ (by simp[e])
  simp[e];exact d _ _ (by simp[e])
 rintro k u E;have e:=Aj e E;rcases Io e m with⟨e,m⟩|⟨e,m⟩
 ·apply wg 999;cases m;simp[e]
 apply wg 1;simp[e];refine wj 999 999 (λf h=>h=H/\f.1 18=sB (fU (eH a0 6) true (eH a0 9))) (λl c=>?_) ?_;rotate_left
 ·rintro g n E;have e:=Aj e E;rcases Io e m with⟨e,m⟩|⟨e,m⟩
  ·cases m;simp[e]
  cases m;simp[e]
 rcases Pb (eH a0 6) e with e|e
 ·simp[e];exact c _ _ (by simp[e])
 simp[e];exact c _ _ (by simp[e])
def HB:∀(n:Nat),C1 prog 172 (kr n) sB Tm.av:=by
  intro n
  induction n with
  |zero=>
    skip
    all_goals(intro _ _;intros;rename_i hm;cases hm)
  |succ n x=>
 intro T H a0 r hm;rw[kr] at hm;have e:=trivial;refine wi acd func172 [] [] 3 ?_;simp[e];refine Wj hm 999 0 (λt f h=>∃(v2:Bool) (b:Nat),(h=H/\f.1 1=AV.eC 1 b 0/\f.1 26=sB v2/\f.gen 1=b/\f.box 1=some [sI a0.ab9,sI a0.aca,sI a0.dv.ab9,sL Ty.av a0.dv.ab_,sL Tm.av a0.ab_])/\t v2=some r) (λt K g m=>?_) ?_
 ·have⟨L,e,m⟩:=ep e m;simp[e];refine Cs (KH e.2) ?_;rcases Io e m with⟨e,m⟩|⟨e,m⟩
  ·simp[e];exact g _ _ ⟨true,1,by simp[e],m⟩
  rcases Io e m with⟨e,m⟩|⟨e,m⟩
  ·simp[e];exact g _ _ ⟨true,1,by simp[e],m⟩
  rcases Io e m with⟨e,m⟩|⟨e,m⟩;rotate_left
  ·simp[e];exact g _ _ ⟨false,1,by simp[e],m⟩
  simp[e];exact g _ _ ⟨(eW a0.aca 0),1,by simp[e],m⟩
 rintro y M ⟨v2,b,E,m⟩;have e:=Aj e E;rcases Io e m with⟨e,m⟩|⟨e,m⟩
 ·apply wg 999;cases m;simp[e]
 apply wg 2;simp[e];refine Wj m 3 999 (λu f h=>∃(c:Nat),(h=H/\f.1 1=AV.eC 1 c 0/\f.gen 1=c/\f.box 1=some [sI a0.ab9,sI a0.aca,sI a0.dv.ab9,sL Ty.av a0.dv.ab_,sL Tm.av a0.ab_])/\u=some r) (λu N i m=>?_) ?_;rotate_left
 ·rintro v z ⟨c,E,m⟩;have e:=Aj e E;simp[e];refine Wr e m 999 (λj k f h=>h=H/\f.1 42=sL Tm.av a0.ab_/\f.1 43=sI (eM a0.ab_)/\f.1 44=sI j) (by simp[e]) (λk l q s E m=>?_) (λj A k l q s B C E e m o p=>?_)
  ·have e:=Aj e E;dsimp only[ei]at m;cases m;simp[e]
  have e:=Aj e E;have⟨D,e,m⟩:=ep e m;simp[e];refine Cf (x e.2) ?_;rcases Io e m with⟨e,m⟩|⟨e,m⟩;rotate_left
  ·cases m;cases o;simp[e]
  simp[e];cases m;exact p _ _ _ (by simp[e]) o
 simp[e];refine wj 999 999 (λf h=>∃(a:Nat),h=H/\f.1 1=AV.eC 1 a 0/\f.1 33=sB (fU (eH a0.ab9 2) true (fU (eH a0.ab9 6) true (eH a0.ab9 9)))/\f.gen 1=a/\f.box 1=some [sI a0.ab9,sI a0.aca,sI a0.dv.ab9,sL Ty.av a0.dv.ab_,sL Tm.av a0.ab_]) (λF d=>?_) ?_
 ·rcases Pb (eH a0.ab9 2) e with e|e
  ·simp[e];exact d _ _ ⟨b,by simp[e]⟩
  rcases Pb (eH a0.ab9 6) e with e|e
  ·simp[e];exact d _ _ ⟨b,by simp[e]⟩
  simp[e];exact d _ _ ⟨b,by simp[e]⟩
 rintro w G ⟨a,E⟩;have e:=Aj e E;rcases Io e m with⟨e,m⟩|⟨e,m⟩
 ·have⟨I,e,m⟩:=ep e m;simp[e];refine Cf (pI e.2) ?_;rcases Io e m with⟨e,m⟩|⟨e,m⟩
  ·cases m;simp[e]
  simp[e];exact i _ _ ⟨a,by simp[e],m⟩
 have⟨J,e,m⟩:=ep e m;simp[e];refine Cf (uB e.2) ?_;rcases Io e m with⟨e,m⟩|⟨e,m⟩;rotate_left
 ·cases m;simp[e]
 simp[e];exact i _ _ ⟨a,by simp[e],m⟩
def tv{n:Nat}:C1 prog 172 (kr n) sB Tm.av:=(HB n)
def rH:C1 prog 164 lj sB sI:=by
 intro T H a0 r hm;rw[lj] at hm;have e:=trivial;refine wi acd func164 [] [] 2 ?_;simp[e];refine wj 999 999 (λf h=>h=H/\f.1 2=sB (fU (eH a0 4) true (fU (eH a0 5) true (fU (eH a0 6) true (eH a0 7))))) (λc a=>?_) ?_;rotate_left
 ·rintro b d E;have e:=Aj e E;cases hm;simp[e]
 rcases Pb (eH a0 4) e with e|e
 ·simp[e];exact a _ _ (by simp[e])
 rcases Pb (eH a0 5) e with e|e
 ·simp[e];exact a _ _ (by simp[e])
 rcases Pb (eH a0 6) e with e|e
 ·simp[e];exact a _ _ (by simp[e])
 simp[e];exact a _ _ (by simp[e])
def Gn:∀(n:Nat),C1 prog 162 (lV n) sB Fm.av:=by
  intro n
  induction n with
  |zero=>
    skip
    all_goals(intro _ _;intros;rename_i hm;cases hm)
  |succ n l=>
 intro T H a0 r hm;rw[lV] at hm;have e:=trivial;refine wi acd func162 [] [] 7 ?_;rcases Io e hm with⟨e,m⟩|⟨e,m⟩
 ·simp[e];refine Wj m 999 999 (λs f h=>∃(v2:Bool),(h=H/\f.1 2=sB v2)/\s v2=some r) (λs M d m=>?_) ?_;rotate_left
  ·rintro w N ⟨v2,E,m⟩;have e:=Aj e E;cases m;simp[e]
  rcases Io e m with⟨e,m⟩|⟨e,m⟩;rotate_left
  ·simp[e];exact d _ _ ⟨false,by simp[e],m⟩
  have⟨O,e,m⟩:=ep e m;simp[e];refine Cf (uB e.2) ?_;rcases Io e m with⟨e,m⟩|⟨e,m⟩;rotate_left
  ·simp[e];exact d _ _ ⟨false,by simp[e],m⟩
  rcases Io e m with⟨e,m⟩|⟨e,m⟩;rotate_left
  ·simp[e];exact d _ _ ⟨false,by simp[e],m⟩
  have⟨P,e,m⟩:=ep e m;have⟨Q,e,m⟩:=ep e m;simp[e];refine Cf (tv e.2) ?_;rcases Io e m with⟨e,m⟩|⟨e,m⟩;rotate_left
  ·simp[e];exact d _ _ ⟨false,by simp[e],m⟩
  have⟨R,e,m⟩:=ep e m;have⟨o,e,m⟩:=ep e m;simp[e];refine Cf (tv e.2) ?_;simp[e];exact d _ _ ⟨o,by simp[e],m⟩
 simp[e];refine wj 999 0 (λf h=>∃(b:Nat),h=H/\f.1 1=AV.eC 1 b 0/\f.1 36=sB (fU (eH a0.ab9 2) true (eH a0.ab9 3))/\f.gen 1=b/\f.box 1=some [sI a0.ab9,sI a0.dv.ab9,sL Ty.av a0.dv.ab_,sL Tm.av a0.ej,sL Fm.av a0.ab_]) (λx g=>?_) ?_
 ·rcases Pb (eH a0.ab9 2) e with e|e
  ·simp[e];exact g _ _ ⟨1,by simp[e]⟩
  simp[e];exact g _ _ ⟨1,by simp[e]⟩
 rintro t y ⟨b,E⟩;have e:=Aj e E;rcases Io e m with⟨e,m⟩|⟨e,m⟩;rotate_left
 ·apply wg 3;have⟨z,e,m⟩:=ep e m;simp[e];refine Cf (rH e.2) ?_;simp[e];rcases Io e m with⟨e,m⟩|⟨e,m⟩;rotate_left
  ·apply wg 999;cases m;simp[e]
  apply wg 1;simp[e];refine Wj m 999 999 (λj f h=>∃(i:Bool),(h=H/\f.1 2=sB i)/\j i=some r) (λj A c m=>?_) ?_;rotate_left
  ·rintro u B ⟨i,E,m⟩;have e:=Aj e E;cases m;simp[e]
  rcases Io e m with⟨e,m⟩|⟨e,m⟩;rotate_left
  ·simp[e];exact c _ _ ⟨false,by simp[e],m⟩
  have⟨C,e,m⟩:=ep e m;simp[e];refine Cf (pI e.2) ?_;rcases Io e m with⟨e,m⟩|⟨e,m⟩;rotate_left
  ·simp[e];exact c _ _ ⟨false,by simp[e],m⟩
  rcases Io e m with⟨e,m⟩|⟨e,m⟩;rotate_left
  ·simp[e];exact c _ _ ⟨false,by simp[e],m⟩
  have⟨D,e,m⟩:=ep e m;have⟨p,e,m⟩:=ep e m;simp[e];refine Cf (l e.2) ?_;simp[e];exact c _ _ ⟨p,by simp[e],m⟩
 apply wg 1;simp[e];refine Wj m 999 999 (λk f h=>∃(v24:Bool),(h=H/\f.1 2=sB v24)/\k v24=some r) (λk F a m=>?_) ?_;rotate_left
 ·rintro v G ⟨v24,E,m⟩;have e:=Aj e E;cases m;simp[e]
 rcases Io e m with⟨e,m⟩|⟨e,m⟩;rotate_left
 ·simp[e];exact a _ _ ⟨false,by simp[e],m⟩
 have⟨I,e,m⟩:=ep e m;simp[e];refine Cf (uB e.2) ?_;rcases Io e m with⟨e,m⟩|⟨e,m⟩;rotate_left
 ·simp[e];exact a _ _ ⟨false,by simp[e],m⟩
 rcases Io e m with⟨e,m⟩|⟨e,m⟩;rotate_left
 ·simp[e];exact a _ _ ⟨false,by simp[e],m⟩
 have⟨J,e,m⟩:=ep e m;have⟨K,e,m⟩:=ep e m;simp[e];refine Cf (l e.2) ?_;rcases Io e m with⟨e,m⟩|⟨e,m⟩;rotate_left
 ·simp[e];exact a _ _ ⟨false,by simp[e],m⟩
 have⟨L,e,m⟩:=ep e m;have⟨q,e,m⟩:=ep e m;simp[e];refine Cf (l e.2) ?_;simp[e];exact a _ _ ⟨q,by simp[e],m⟩
def A1{n:Nat}:C1 prog 162 (lV n) sB Fm.av:=(Gn n)
def Hs:∀(n:Nat),C1 prog 117 (gl n) sI Tm.av:=by
  intro n
  induction n with
  |zero=>
   skip
   all_goals(intro _ _;intros;rename_i hm;cases hm)
  |succ n d=>
 intro T H a0 r hm;rw[gl] at hm;have e:=trivial;refine wi acd func117 [] [] 999 ?_;simp[e];refine Wr e hm 999 (λc s2 f h=>h=H/\f.1 3=sI s2/\f.1 7=sL Tm.av a0.ab_/\f.1 8=sI (eM a0.ab_)/\f.1 9=sI c) (by simp[e]) (λs2 a g i E m=>?_) (λc l s2 a g i n6 o E e m j b=>?_)
 ·have e:=Aj e E;dsimp only[ei]at m;cases m;simp[e]
 have e:=Aj e E;have⟨k,e,m⟩:=ep e m;simp[e];refine Cf (d e.2) ?_;simp[e];cases m;exact b _ _ _ (by simp[e]) j
def gX{n:Nat}:C1 prog 117 (gl n) sI Tm.av:=(Hs n)
def Hz:∀(n:Nat),C1 prog 115 (lK n) sI Fm.av:=by
  intro n
  induction n with
  |zero=>
   skip
   all_goals(intro _ _;intros;rename_i hm;cases hm)
  |succ n q=>
 intro T H a0 r hm;rw[lK] at hm;have e:=trivial;refine wi acd func115 [] [] 999 ?_;simp[e];refine Wr e hm 999 (λp s2 f h=>∃(a:Nat),h=H/\f.1 1=AV.eC 1 a 0/\f.1 3=sI s2/\f.1 9=sL Tm.av a0.ej/\f.1 10=sI (eM a0.ej)/\f.1 11=sI p/\f.gen 1=a/\f.box 1=some [sI a0.ab9,sI a0.dv.ab9,sL Ty.av a0.dv.ab_,sL Tm.av a0.ej,sL Fm.av a0.ab_]) ⟨1,by simp[e]⟩ (λs2 i s t E m=>?_) (λp A s2 i s t n6 B E e m u j=>?_);rotate_left
 ·have⟨a,E⟩:=E;have e:=Aj e E;have⟨v,e,m⟩:=ep e m;simp[e];refine Cf (gX e.2) ?_;simp[e];cases m;exact j _ _ _ ⟨a,by simp[e]⟩ u
 have⟨a,E⟩:=E;have e:=Aj e E;dsimp only[ei]at m;simp[e];refine Wr e m 999 (λc b f h=>h=H/\f.1 3=sI b/\f.1 21=sL Fm.av a0.ab_/\f.1 22=sI (eM a0.ab_)/\f.1 23=sI c) (by simp[e]) (λb d k l E m=>?_) (λc w b d k l x y E e m o g=>?_)
 ·have e:=Aj e E;dsimp only[ei]at m;cases m;simp[e]
 have e:=Aj e E;have⟨z,e,m⟩:=ep e m;simp[e];refine Cf (q e.2) ?_;simp[e];cases m;exact g _ _ _ (by simp[e]) o
def tB{n:Nat}:C1 prog 115 (lK n) sI Fm.av:=(Hz n)
def n9:C1 prog 93 k5 sI Fm.av:=by
 intro T H a0 r hm;rw[k5] at hm;have e:=trivial;refine wi acd func93 [] [] 999 ?_;have⟨a,e,m⟩:=ep e hm;simp[e];refine Cf (A1 e.2) ?_;rcases Io e m with⟨e,m⟩|⟨e,m⟩;rotate_left
 ·cases m;simp[e]
 have⟨b,e,m⟩:=ep e m;simp[e];refine Cf (tB e.2) ?_;rcases Io e m with⟨e,m⟩|⟨e,m⟩
 ·cases m;simp[e]
 cases m;simp[e]
def og:C1 prog 112 lQ sI Tm.av:=by
 intro T H a0 r hm;rw[lQ] at hm;have e:=trivial;refine wi acd func112 [] [] 999 ?_;have⟨a,e,m⟩:=ep e hm;simp[e];refine Cf (tv e.2) ?_;rcases Io e m with⟨e,m⟩|⟨e,m⟩;rotate_left
 ·cases m;simp[e]
 have⟨b,e,m⟩:=ep e m;simp[e];refine Cf (gX e.2) ?_;rcases Io e m with⟨e,m⟩|⟨e,m⟩
 ·cases m;simp[e]
 cases m;simp[e]
def Hl:C1 prog 293 tN (t2 Ty.av sI) Ty.av:=by
 intro T H a0 r hm;rw[tN] at hm;have e:=trivial;refine wi acd func293 [] [] 999 ?_;have⟨a,e,m⟩:=ep e hm;simp[e];refine Cf (pI e.2) ?_;rcases Io e m with⟨e,m⟩|⟨e,m⟩
 ·cases m;simp[e]
 cases m;simp[e]
def F2:∀(n:Nat),C2 prog 268 (fT n) (t2 Ty.av sI) (sL Ty.av) Tm.av:=by
  intro n
  induction n with
  |zero=>
    skip
    all_goals(intro _ _;intros;rename_i hm;cases hm)
  |succ n Z=>
 intro T H a0 a1 r hm;rw[fT] at hm;have e:=trivial;refine wi acd func268 [] [] 999 ?_;rcases Io e hm with⟨e,m⟩|⟨e,m⟩
 ·rcases Io e m with⟨e,m⟩|⟨e,m⟩
  ·cases m;simp[e]
  have⟨x1,e,m⟩:=ep e m;have⟨x2,e,m⟩:=ep e m;simp[e];refine Cf (jO e.2) ?_;cases m;simp[e]
 rcases Io e m with⟨e,m⟩|⟨e,m⟩
 ·have⟨e,m⟩:=Ck e m;simp[e];refine Ad (f:=Ty.av) a0 [a1.dv] (iX.full (D:=[])) Fo e.2 ?_;have⟨x3,e,m⟩:=ep e m;have⟨x4,x5,e,m⟩:=gv e m;simp[e];refine Cs (Z e.2) ?_;rcases Io e m with⟨e,m⟩|⟨e,m⟩
  ·cases m;simp[e]
  have⟨x6,e,m⟩:=ep e m;simp[e];refine Cf (oP e.2) ?_;have⟨x7,x8,e,m⟩:=gv e m;simp[e];refine Cf (Hl e.2) ?_;cases m;simp[e]
 simp[e];refine Wr e m 0 (λj9 g f h=>∃(c:Tag) (b:Nat) (a:Nat),(h=H/\f.1 0=sL Ty.av a0/\f.1 3=AV.eC 3 b 0/\f.1 4=AV.eC 4 a 0/\f.1 8=sT c Ty.av g/\f.1 67=sL Tm.av a1.ab_/\f.1 68=sI (eM a1.ab_)/\f.1 69=sI j9/\f.gen 3=b/\f.box 3=some [sI a1.ab9,sI a1.aca,sI a1.dv.ab9,sL Ty.av a1.dv.ab_,sL Tm.av a1.ab_]/\f.gen 4=a/\f.box 4=some [sI 0,AV.slice .full []])/\Ow f [86] c g) (by exact⟨.full,1,1,by simp[e],iX.full⟩) (λg w P Q E m=>?_) (λj9 ah g w P Q ai aj E e m I J=>?_);rotate_left
 ·have⟨c,b,a,E,d⟩:=E;have e:=Aj e E;apply wg 999;have⟨R,ak,e,m⟩:=gv e m;simp[e];refine Cf (Z e.2) ?_;rcases Io e m with⟨e,m⟩|⟨e,m⟩
  ·cases m;cases I;simp[e]
  have⟨e,m⟩:=Ck e m;simp[e];refine Ao (f:=Ty.av) g [R] d Fo e.2 ?_;simp[e];cases m;exact J _ _ _ ⟨(.loc 86 (w.fN 86+1)),b,a,by simp[e],(On 86)⟩ I
 have⟨c,b,a,E,d⟩:=E;have e:=Aj e E;apply wg 13;dsimp only[ei]at m;have⟨al,e,m⟩:=ep e m;simp[e];refine Cf (hX e.2) ?_;have⟨K,e,m⟩:=ep e m;simp[e];refine Cf (nS e.2) ?_;simp[e];rcases Io e m with⟨e,m⟩|⟨e,m⟩
 ·apply wg 2;simp[e];refine Wj m 999 999 (λL f h=>∃(C:Bool) (i:Tag) (l:Nat),(h=H/\f.1 4=AV.eC 4 l 0/\f.1 8=sT i Ty.av g/\f.1 111=sB C/\f.gen 4=l/\f.box 4=some [sI 0,AV.slice .full []])/\Ow f [86] i g/\L C=some r) (λL an z m=>?_) ?_;rotate_left
  ·rintro aa ao ⟨C,i,l,E,S,m⟩;have e:=Aj e E;rcases Io e m with⟨e,m⟩|⟨e,m⟩
   ·cases m;simp[e]
   have⟨aq,e,m⟩:=ep e m;have⟨ar,e,m⟩:=ep e m;cases m;simp[e]
  have⟨au,e,m⟩:=ep e m;rcases Io e m with⟨e,m⟩|⟨e,m⟩
  ·simp[e];exact z _ _ ⟨true,c,a,by simp[e],d,m⟩
  have⟨aw,e,m⟩:=ep e m;have⟨ax,e,m⟩:=ep e m;have⟨U,e,m⟩:=ep e m;simp[e];refine Cs (iw e.2) ?_;simp[e];exact z _ _ ⟨(nt U),c,a,by simp[e],d,m⟩
 apply wg 3;simp[e];rcases Io e m with⟨e,m⟩|⟨e,m⟩
 ·apply wg 999;cases m;simp[e]
 apply wg 3;simp[e];rcases Io e m with⟨e,m⟩|⟨e,m⟩
 ·apply wg 999;have⟨ay,e,m⟩:=ep e m;have⟨az,e,m⟩:=ep e m;simp[e];refine Cs (iw e.2) ?_;rcases Io e m with⟨e,m⟩|⟨e,m⟩
  ·cases m;simp[e]
  cases m;simp[e]
 apply wg 3;simp[e];rcases Io e m with⟨e,m⟩|⟨e,m⟩
 ·apply wg 2;simp[e];refine Wj m 999 999 (λM f h=>∃(F:Bool) (o:Nat) (p:Nat),(h=H/\f.1 3=AV.eC 3 o 0/\f.1 4=AV.eC 4 p 0/\f.1 162=sB F/\f.gen 3=o/\f.box 3=some [sI a1.ab9,sI a1.aca,sI a1.dv.ab9,sL Ty.av a1.dv.ab_,sL Tm.av a1.ab_]/\f.gen 4=p/\f.box 4=some [sI 0,AV.slice .full []])/\M F=some r) (λM aA x m=>?_) ?_;rotate_left
  ·rintro ab aB ⟨F,o,p,E,m⟩;have e:=Aj e E;rcases Io e m with⟨e,m⟩|⟨e,m⟩
   ·cases m;simp[e]
   have⟨aC,e,m⟩:=ep e m;simp[e];refine Cf (jO e.2) ?_;cases m;simp[e]
  have⟨aD,e,m⟩:=ep e m;have⟨aE,e,m⟩:=ep e m;simp[e];refine Cs (iw e.2) ?_;rcases Io e m with⟨e,m⟩|⟨e,m⟩;rotate_left
  ·simp[e];exact x _ _ ⟨true,b,a,by simp[e],m⟩
  have⟨aF,e,m⟩:=ep e m;have⟨aG,e,m⟩:=ep e m;simp[e];refine Cs (oP e.2) ?_;have⟨aH,e,m⟩:=ep e m;simp[e];refine Cs (oP e.2) ?_;have⟨aI,e,m⟩:=ep e m;simp[e];refine Cs (iw e.2) ?_;rcases Io e m with⟨e,m⟩|⟨e,m⟩;rotate_left
  ·simp[e];exact x _ _ ⟨true,b,a,by simp[e],m⟩
  have⟨aJ,e,m⟩:=ep e m;have⟨V,e,m⟩:=ep e m;simp[e];refine Cs (iw e.2) ?_;simp[e];exact x _ _ ⟨(nt V),b,a,by simp[e],m⟩
 apply wg 3;simp[e];rcases Io e m with⟨e,m⟩|⟨e,m⟩
 ·apply wg 999;cases m;simp[e]
 apply wg 3;simp[e];rcases Io e m with⟨e,m⟩|⟨e,m⟩
 ·apply wg 2;simp[e];refine Wj m 999 999 (λN f h=>∃(G:Bool) (q:Nat) (j:Nat),(h=H/\f.1 4=AV.eC 4 q 0/\f.1 14=AV.eC 14 j 0/\f.1 185=sB G/\f.gen 4=q/\f.box 4=some [sI 0,AV.slice .full []]/\f.gen 14=j/\f.box 14=some [sI K.ab9,sL Ty.av K.ab_])/\N G=some r) (λN aK A m=>?_) ?_;rotate_left
  ·rintro ad aL ⟨G,q,j,E,m⟩;have e:=Aj e E;rcases Io e m with⟨e,m⟩|⟨e,m⟩
   ·cases m;simp[e]
   cases m;simp[e]
  have⟨aM,e,m⟩:=ep e m;have⟨aN,e,m⟩:=ep e m;simp[e];refine Cs (iw e.2) ?_;rcases Io e m with⟨e,m⟩|⟨e,m⟩;rotate_left
  ·simp[e];exact A _ _ ⟨true,a,(w.gen 14+1),by simp[e],m⟩
  have⟨aO,e,m⟩:=ep e m;have⟨W,e,m⟩:=ep e m;simp[e];refine Cs (iw e.2) ?_;simp[e];exact A _ _ ⟨(nt W),a,(w.gen 14+1),by simp[e],m⟩
 apply wg 3;simp[e];rcases Io e m with⟨e,m⟩|⟨e,m⟩
 ·apply wg 2;simp[e];refine Wj m 999 999 (λO f h=>∃(v59:Bool) (s:Nat) (t:Nat),(h=H/\f.1 3=AV.eC 3 s 0/\f.1 4=AV.eC 4 t 0/\f.1 220=sB v59/\f.gen 3=s/\f.box 3=some [sI a1.ab9,sI a1.aca,sI a1.dv.ab9,sL Ty.av a1.dv.ab_,sL Tm.av a1.ab_]/\f.gen 4=t/\f.box 4=some [sI 0,AV.slice .full []])/\O v59=some r) (λO aP y m=>?_) ?_;rotate_left
  ·rintro ae aQ ⟨v59,s,t,E,m⟩;have e:=Aj e E;rcases Io e m with⟨e,m⟩|⟨e,m⟩
   ·cases m;simp[e]
   have⟨aR,e,m⟩:=ep e m;simp[e];refine Cf (jO e.2) ?_;cases m;simp[e]
  have⟨aS,e,m⟩:=ep e m;have⟨aT,e,m⟩:=ep e m;simp[e];refine Cs (iw e.2) ?_;rcases Io e m with⟨e,m⟩|⟨e,m⟩;rotate_left
  ·simp[e];exact y _ _ ⟨true,b,a,by simp[e],m⟩
  have⟨aU,e,m⟩:=ep e m;have⟨aV,e,m⟩:=ep e m;simp[e];refine Cs (oP e.2) ?_;have⟨aW,e,m⟩:=ep e m;simp[e];refine Cs (oP e.2) ?_;have⟨aX,e,m⟩:=ep e m;simp[e];refine Cs (oP e.2) ?_;have⟨aY,e,m⟩:=ep e m;simp[e];refine Cs (iw e.2) ?_;rcases Io e m with⟨e,m⟩|⟨e,m⟩;rotate_left
  ·simp[e];exact y _ _ ⟨true,b,a,by simp[e],m⟩
  have⟨aZ,e,m⟩:=ep e m;have⟨X,e,m⟩:=ep e m;simp[e];refine Cs (iw e.2) ?_;simp[e];exact y _ _ ⟨(nt X),b,a,by simp[e],m⟩
 apply wg 3;simp[e];rcases Io e m with⟨e,m⟩|⟨e,m⟩
 ·apply wg 999;have⟨a6,e,m⟩:=ep e m;have⟨a7,e,m⟩:=ep e m;have⟨a8,e,m⟩:=ep e m;simp[e];refine Cs (EB e.2) ?_;have⟨a_,a',e,m⟩:=gv e m;simp[e];refine Cs (Hl e.2) ?_;cases m;simp[e]
 apply wg 1;simp[e];refine wj 999 0 (λf h=>∃(k:Tag) (u:Nat) (v:Nat),(h=H/\f.1 3=AV.eC 3 u 0/\f.1 4=AV.eC 4 v 0/\f.1 8=sT k Ty.av g/\f.1 237=sB (fU (eH a1.ab9 11) true (eH a1.ab9 12))/\f.gen 3=u/\f.box 3=some [sI a1.ab9,sI a1.aca,sI a1.dv.ab9,sL Ty.av a1.dv.ab_,sL Tm.av a1.ab_]/\f.gen 4=v/\f.box 4=some [sI 0,AV.slice .full []])/\Ow f [86] k g) (λba B=>?_) ?_
 ·rcases Pb (eH a1.ab9 11) e with e|e
  ·simp[e];exact B _ _ ⟨c,b,a,by simp[e],d⟩
  simp[e];exact B _ _ ⟨c,b,a,by simp[e],d⟩
 rintro af bb ⟨k,u,v,E,Y⟩;have e:=Aj e E;rcases Io e m with⟨e,m⟩|⟨e,m⟩;rotate_left
 ·apply wg 999;have⟨bc,e,m⟩:=ep e m;simp[e];refine Cf (BW e.2) ?_;cases m;simp[e]
 apply wg 4;have⟨bd,e,m⟩:=ep e m;simp[e];rcases Io e m with⟨e,m⟩|⟨e,m⟩
 ·apply wg 999;cases m;simp[e]
 apply wg 5;simp[e];rcases Io e m with⟨e,m⟩|⟨e,m⟩
 ·apply wg 999;have⟨bf,e,m⟩:=ep e m;cases m;simp[e]
 apply wg 999;have⟨bg,e,m⟩:=ep e m;cases m;simp[e]
def HK{n:Nat}:C2 prog 268 (fT n) (t2 Ty.av sI) (sL Ty.av) Tm.av:=(F2 n)
def A8:C2 prog 232 qA (t2 Ty.av sI) (sL Ty.av) Tm.av:=by
 intro T H a0 a1 r hm;rw[qA] at hm;have e:=trivial;refine wi acd func232 [] [] 999 ?_;have⟨a,e,m⟩:=ep e hm;simp[e];refine Cf (og e.2) ?_;rcases Io e m with⟨e,m⟩|⟨e,m⟩
 ·cases m;simp[e]
 have⟨b,c,e,m⟩:=gv e m;simp[e];refine Cf (HK e.2) ?_;cases m;simp[e]
def Hh:∀(n:Nat),C2 prog 171 (mK n) sI (sL Ty.av) Fm.av:=by
  intro n
  induction n with
  |zero=>
    skip
    all_goals(intro _ _;intros;rename_i hm;cases hm)
  |succ n z=>
 intro T H a0 a1 r hm;rw[mK] at hm;have e:=trivial;refine wi acd func171 [] [] 999 ?_;simp[e];refine Wr e hm 0 (λx s2 f h=>∃(b:Nat),h=H/\f.1 0=sL Ty.av a0/\f.1 3=AV.eC 3 b 0/\f.1 13=sL Tm.av a1.ej/\f.1 14=sI (eM a1.ej)/\f.1 15=sI x/\f.gen 3=b/\f.box 3=some [sI a1.ab9,sI a1.dv.ab9,sL Ty.av a1.dv.ab_,sL Tm.av a1.ej,sL Fm.av a1.ab_]) ⟨1,by simp[e]⟩ (λs2 j A B E m=>?_) (λx O s2 j A B n6 P E e m t u=>?_);rotate_left
 ·have⟨b,E⟩:=E;have e:=Aj e E;apply wg 999;have⟨C,F,e,m⟩:=gv e m;simp[e];refine Cf (A8 e.2) ?_;rcases Io e m with⟨e,m⟩|⟨e,m⟩
  ·cases m;cases t;simp[e]
  rcases Io e m with⟨e,m⟩|⟨e,m⟩
  ·cases m;cases t;simp[e]
  simp[e];cases m;exact u _ _ _ ⟨b,by simp[e]⟩ t
 have⟨b,E⟩:=E;have e:=Aj e E;apply wg 5;dsimp only[ei]at m;simp[e];refine Wj m 999 999 (λk f h=>∃(g:List Ty) (c:Tag) (d:Nat),(h=H/\f.1 0=sT c Ty.av g/\f.1 3=AV.eC 3 d 0/\f.gen 3=d/\f.box 3=some [sI a1.ab9,sI a1.dv.ab9,sL Ty.av a1.dv.ab_,sL Tm.av a1.ej,sL Fm.av a1.ab_])/\k g=some r) (λk G i m=>?_) ?_
 ·have⟨I,e,m⟩:=ep e m;simp[e];refine Cf (rH e.2) ?_;rcases Io e m with⟨e,m⟩|⟨e,m⟩;rotate_left
  ·simp[e];exact i _ _ ⟨a0,.iP,b,by simp[e],m⟩
  have⟨e,m⟩:=Ck e m;simp[e];refine Ad (f:=Ty.av) a0 [a1.dv] (iX.full (D:=[])) Fo e.2 ?_;simp[e];exact i _ _ ⟨(gG a0 [a1.dv]),(.loc 44 (j.fN 44+1)),b,by simp[e],m⟩
 rintro y J ⟨g,c,d,E,m⟩;have e:=Aj e E;simp[e];refine Wr e m 999 (λl o f h=>∃(a:Tag),h=H/\f.1 0=sT a Ty.av g/\f.1 46=sL Fm.av a1.ab_/\f.1 47=sI (eM a1.ab_)/\f.1 48=sI l) ⟨c,by simp[e]⟩ (λo p v w E m=>?_) (λl K o p v w L M E e m q s=>?_)
 ·have⟨a,E⟩:=E;have e:=Aj e E;dsimp only[ei]at m;cases m;simp[e]
 have⟨a,E⟩:=E;have e:=Aj e E;have⟨N,e,m⟩:=ep e m;simp[e];refine Cf (z e.2) ?_;rcases Io e m with⟨e,m⟩|⟨e,m⟩
 ·cases m;cases q;simp[e]
 simp[e];cases m;exact s _ _ _ ⟨a,by simp[e]⟩ q
def ID{n:Nat}:C2 prog 171 (mK n) sI (sL Ty.av) Fm.av:=(Hh n)
def tC:C2 prog 111 k6 sI (sL Ty.av) Fm.av:=by
 intro T H a0 a1 r hm;rw[k6] at hm;have e:=trivial;refine wi acd func111 [] [] 999 ?_;have⟨a,e,m⟩:=ep e hm;simp[e];refine Cf (n9 e.2) ?_;rcases Io e m with⟨e,m⟩|⟨e,m⟩
 ·cases m;simp[e]
 have⟨b,e,m⟩:=ep e m;simp[e];refine Cf (ID e.2) ?_;cases m;simp[e]
def rb:C2 prog 44 jR sI (sL Ty.av) Fm.av:=by
 intro T H a0 a1 r hm;rw[jR] at hm;have e:=trivial;refine wi acd func44 [] [] 999 ?_;have⟨a,e,m⟩:=ep e hm;simp[e];refine Cf (uh e.2) ?_;rcases Io e m with⟨e,m⟩|⟨e,m⟩
 ·cases m;simp[e]
 have⟨b,e,m⟩:=ep e m;simp[e];refine Cf (tC e.2) ?_;cases m;simp[e]
def Fe:C2 prog 22 tD sI (sL Fm.av) Sq.av:=by
 intro T H a0 a1 r hm;rw[tD] at hm;have e:=trivial;refine wi acd func22 [] [] 999 ?_;rcases Io e hm with⟨e,m⟩|⟨e,m⟩
 ·cases m;simp[e]
 simp[e];refine Wr e m 999 (λp s2 f h=>∃(b:Nat),h=H/\f.1 3=AV.eC 3 b 0/\f.1 15=sL Fm.av a0/\f.1 16=sI (eM a0)/\f.1 17=sI p/\f.gen 3=b/\f.box 3=some [sL Ty.av a1.acb,sL Fm.av a1.acf]) ⟨1,by simp[e]⟩ (λs2 k s t E m=>?_) (λp A s2 k s t n6 B E e m q l=>?_);rotate_left
 ·have⟨b,E⟩:=E;have e:=Aj e E;have⟨u,e,m⟩:=ep e m;simp[e];refine Cf (rb e.2) ?_;rcases Io e m with⟨e,m⟩|⟨e,m⟩
  ·cases m;cases q;simp[e]
  simp[e];cases m;exact l _ _ _ ⟨b,by simp[e]⟩ q
 have⟨b,E⟩:=E;have e:=Aj e E;dsimp only[ei]at m;have⟨v,e,m⟩:=ep e m;simp[e];refine Cf (uh e.2) ?_;rcases Io e m with⟨e,m⟩|⟨e,m⟩
 ·cases m;simp[e]
 rcases Io e m with⟨e,m⟩|⟨e,m⟩
 ·cases m;simp[e]
 simp[e];refine Wr e m 999 (λc d f h=>∃(a:Nat),h=H/\f.1 3=AV.eC 3 a 0/\f.1 38=sL Fm.av a1.acf/\f.1 39=sI (eM a1.acf)/\f.1 40=sI c/\f.gen 3=a/\f.box 3=some [sL Ty.av a1.acb,sL Fm.av a1.acf]) ⟨b,by simp[e]⟩ (λd g n o E m=>?_) (λc w d g n o x y E e m i j=>?_)
 ·have⟨a,E⟩:=E;have e:=Aj e E;dsimp only[ei]at m;cases m;simp[e]
 have⟨a,E⟩:=E;have e:=Aj e E;have⟨z,e,m⟩:=ep e m;simp[e];refine Cf (rb e.2) ?_;rcases Io e m with⟨e,m⟩|⟨e,m⟩
 ·cases m;cases i;simp[e]
 simp[e];cases m;exact j _ _ _ ⟨a,by simp[e]⟩ i
def Il:C1 prog 215 ql (t2 fB.av sB) sI:=by
 intro T H a0 r hm;rw[ql] at hm;have e:=trivial;refine wi acd func215 [] [] 6 ?_;simp[e];refine wj 999 0 (λf h=>∃(i:Nat),h=H/\f.1 2=AV.eC 2 i 0/\f.1 4=sI a0/\f.1 5=sB (fU (eH a0 1) true (eH a0 2))/\f.gen 2=i/\f.box 2=some [sI 0,sI 0,sI 0,sB false,sB false]) (λP t=>?_) ?_
 ·rcases Pb (eH a0 1) e with e|e
  ·simp[e];exact t _ _ ⟨1,by simp[e]⟩
  simp[e];exact t _ _ ⟨1,by simp[e]⟩
 rintro A Q ⟨i,E⟩;have e:=Aj e E;rcases Io e hm with⟨e,m⟩|⟨e,m⟩
 ·apply wg 999;cases m;simp[e]
 apply wg 1;simp[e];refine wj 999 0 (λf h=>∃(g:Nat),h=H/\f.1 2=AV.eC 2 g 0/\f.1 4=sI a0/\f.1 9=sB (fU (eH a0 3) true (eH a0 7))/\f.gen 2=g/\f.box 2=some [sI 0,sI 0,sI 0,sB false,sB false]) (λR u=>?_) ?_
 ·rcases Pb (eH a0 3) e with e|e
  ·simp[e];exact u _ _ ⟨i,by simp[e]⟩
  simp[e];exact u _ _ ⟨i,by simp[e]⟩
 rintro B S ⟨g,E⟩;have e:=Aj e E;rcases Io e m with⟨e,m⟩|⟨e,m⟩
 ·apply wg 999;cases m;simp[e]
 apply wg 1;simp[e];refine wj 999 0 (λf h=>∃(j:Nat),h=H/\f.1 2=AV.eC 2 j 0/\f.1 4=sI a0/\f.1 13=sB (fU (eH a0 4) true (fU (eH a0 5) true (eH a0 20)))/\f.gen 2=j/\f.box 2=some [sI 0,sI 0,sI 0,sB false,sB false]) (λU s=>?_) ?_
 ·rcases Pb (eH a0 4) e with e|e
  ·simp[e];exact s _ _ ⟨g,by simp[e]⟩
  rcases Pb (eH a0 5) e with e|e
  ·simp[e];exact s _ _ ⟨g,by simp[e]⟩
  simp[e];exact s _ _ ⟨g,by simp[e]⟩
 rintro C V ⟨j,E⟩;have e:=Aj e E;rcases Io e m with⟨e,m⟩|⟨e,m⟩
 ·apply wg 999;cases m;simp[e]
 apply wg 3;simp[e];rcases Io e m with⟨e,m⟩|⟨e,m⟩
 ·apply wg 999;cases m;simp[e]
 apply wg 1;simp[e];refine wj 999 0 (λf h=>∃(a:Nat),h=H/\f.1 2=AV.eC 2 a 0/\f.1 4=sI a0/\f.1 21=sB (fU (eH a0 8) true (eH a0 12))/\f.gen 2=a/\f.box 2=some [sI 0,sI 0,sI 0,sB false,sB false]) (λD l=>?_) ?_
 ·rcases Pb (eH a0 8) e with e|e
  ·simp[e];exact l _ _ ⟨j,by simp[e]⟩
  simp[e];exact l _ _ ⟨j,by simp[e]⟩
 rintro v F ⟨a,E⟩;have e:=Aj e E;rcases Io e m with⟨e,m⟩|⟨e,m⟩
 ·apply wg 999;cases m;simp[e]
 apply wg 1;simp[e];refine wj 999 0 (λf h=>∃(b:Nat),h=H/\f.1 2=AV.eC 2 b 0/\f.1 4=sI a0/\f.1 25=sB (fU (eH a0 9) true (eH a0 13))/\f.gen 2=b/\f.box 2=some [sI 0,sI 0,sI 0,sB false,sB false]) (λG n=>?_) ?_
 ·rcases Pb (eH a0 9) e with e|e
  ·simp[e];exact n _ _ ⟨a,by simp[e]⟩
  simp[e];exact n _ _ ⟨a,by simp[e]⟩
 rintro w I ⟨b,E⟩;have e:=Aj e E;rcases Io e m with⟨e,m⟩|⟨e,m⟩
 ·apply wg 999;cases m;simp[e]
 apply wg 1;simp[e];refine wj 999 0 (λf h=>∃(c:Nat),h=H/\f.1 2=AV.eC 2 c 0/\f.1 4=sI a0/\f.1 29=sB (fU (eH a0 10) true (eH a0 14))/\f.gen 2=c/\f.box 2=some [sI 0,sI 0,sI 0,sB false,sB false]) (λJ o=>?_) ?_
 ·rcases Pb (eH a0 10) e with e|e
  ·simp[e];exact o _ _ ⟨b,by simp[e]⟩
  simp[e];exact o _ _ ⟨b,by simp[e]⟩
 rintro x K ⟨c,E⟩;have e:=Aj e E;rcases Io e m with⟨e,m⟩|⟨e,m⟩
 ·apply wg 999;cases m;simp[e]
 apply wg 1;simp[e];refine wj 999 0 (λf h=>∃(d:Nat),h=H/\f.1 2=AV.eC 2 d 0/\f.1 4=sI a0/\f.1 33=sB (fU (eH a0 11) true (eH a0 15))/\f.gen 2=d/\f.box 2=some [sI 0,sI 0,sI 0,sB false,sB false]) (λL p=>?_) ?_
 ·rcases Pb (eH a0 11) e with e|e
  ·simp[e];exact p _ _ ⟨c,by simp[e]⟩
  simp[e];exact p _ _ ⟨c,by simp[e]⟩
 rintro y M ⟨d,E⟩;have e:=Aj e E;rcases Io e m with⟨e,m⟩|⟨e,m⟩
 ·apply wg 999;cases m;simp[e]
 apply wg 1;simp[e];refine wj 999 999 (λf h=>∃(k:Nat),h=H/\f.1 2=AV.eC 2 k 0/\f.1 4=sI a0/\f.1 37=sB (fU (eH a0 16) true (eH a0 17))/\f.gen 2=k/\f.box 2=some [sI 0,sI 0,sI 0,sB false,sB false]) (λN q=>?_) ?_
 ·rcases Pb (eH a0 16) e with e|e
  ·simp[e];exact q _ _ ⟨d,by simp[e]⟩
  simp[e];exact q _ _ ⟨d,by simp[e]⟩
 rintro z O ⟨k,E⟩;have e:=Aj e E;rcases Io e m with⟨e,m⟩|⟨e,m⟩
 ·cases m;simp[e]
 rcases Io e m with⟨e,m⟩|⟨e,m⟩
 ·cases m;simp[e]
 rcases Io e m with⟨e,m⟩|⟨e,m⟩
 ·cases m;simp[e]
 cases m;simp[e]
def Gy:∀(n:Nat),C1 prog 159 (nT n) sB Pf.av:=by
  intro n
  induction n with
  |zero=>
    skip
    all_goals(intro _ _;intros;rename_i hm;cases hm)
  |succ n O=>
 intro T H a0 r hm;rw[nT] at hm;have e:=trivial;refine wi acd func159 [] [] 5 ?_;have⟨i,L,e,m⟩:=gv e hm;simp[e];refine Cf (Il e.2) ?_;simp[e];refine wj 999 0 (λf h=>∃(c:Nat) (j:Nat),h=H/\f.1 1=AV.eC 1 c 0/\f.1 3=AV.eC 3 j 0/\f.1 57=sB (fU L (fU (eW (eM a0.ej) i.ej) true (fU (eW (eM a0.fj) i.fj) true (fU (eW (eM a0.ab_) i.ab_) true (fU (ue a0.aca 0) true (fU i.aca false (eW a0.aca 0)))))) true)/\f.gen 1=c/\f.box 1=some [sI a0.ab9,sI a0.aca,sI a0.dv.ab9,sL Ty.av a0.dv.ab_,sL Tm.av a0.ej,sL Fm.av a0.fj,sL Pf.av a0.ab_]/\f.gen 3=j/\f.box 3=some [sI i.ej,sI i.fj,sI i.ab_,sB i.aca,sB i.pN]) (λK3 g=>?_) ?_
 ·rcases Pb L e with e|e;rotate_left
  ·simp[e];exact g _ _ ⟨1,1,by simp[e]⟩
  rcases Pb (eW (eM a0.ej) i.ej) e with e|e
  ·simp[e];exact g _ _ ⟨1,1,by simp[e]⟩
  rcases Pb (eW (eM a0.fj) i.fj) e with e|e
  ·simp[e];exact g _ _ ⟨1,1,by simp[e]⟩
  rcases Pb (eW (eM a0.ab_) i.ab_) e with e|e
  ·simp[e];exact g _ _ ⟨1,1,by simp[e]⟩
  rcases Pb (ue a0.aca 0) e with e|e
  ·simp[e];exact g _ _ ⟨1,1,by simp[e]⟩
  rcases Pb i.aca e with e|e
  ·simp[e];exact g _ _ ⟨1,1,by simp[e]⟩
  simp[e];exact g _ _ ⟨1,1,by simp[e]⟩
 rintro P h5 ⟨c,j,E⟩;have e:=Aj e E;rcases Io e m with⟨e,m⟩|⟨e,m⟩
 ·apply wg 999;cases m;simp[e]
 apply wg 3;simp[e];refine Wj m 999 999 (λM f h=>∃(B:Bool) (d:Nat),(h=H/\f.1 1=AV.eC 1 d 0/\f.1 76=sB B/\f.gen 1=d/\f.box 1=some [sI a0.ab9,sI a0.aca,sI a0.dv.ab9,sL Ty.av a0.dv.ab_,sL Tm.av a0.ej,sL Fm.av a0.fj,sL Pf.av a0.ab_])/\M B=some r) (λM K8 k m=>?_) ?_
 ·rcases Io e m with⟨e,m⟩|⟨e,m⟩;rotate_left
  ·have⟨C,e,m⟩:=ep e m;simp[e];refine Cf (uB e.2) ?_;simp[e];exact k _ _ ⟨(nt C),c,by simp[e],m⟩
  have⟨Q,e,m⟩:=ep e m;simp[e];refine Cf (pI e.2) ?_;rcases Io e m with⟨e,m⟩|⟨e,m⟩
  ·simp[e];exact k _ _ ⟨true,c,by simp[e],m⟩
  simp[e];exact k _ _ ⟨false,c,by simp[e],m⟩
 rintro N R ⟨B,d,E,m⟩;have e:=Aj e E;rcases Io e m with⟨e,m⟩|⟨e,m⟩
 ·cases m;simp[e]
 simp[e];refine Wr e m 999 (λl o f h=>∃(a:Nat),h=H/\f.1 1=AV.eC 1 a 0/\f.1 78=sL Tm.av a0.ej/\f.1 79=sI (eM a0.ej)/\f.1 80=sI l/\f.gen 1=a/\f.box 1=some [sI a0.ab9,sI a0.aca,sI a0.dv.ab9,sL Ty.av a0.dv.ab_,sL Tm.av a0.ej,sL Fm.av a0.fj,sL Pf.av a0.ab_]) ⟨d,by simp[e]⟩ (λo p D F E m=>?_) (λl S o p D F U V E e m z20 q=>?_);rotate_left
 ·have⟨a,E⟩:=E;have e:=Aj e E;have⟨W,e,m⟩:=ep e m;simp[e];refine Cf (tv e.2) ?_;rcases Io e m with⟨e,m⟩|⟨e,m⟩;rotate_left
  ·cases m;cases z20;simp[e]
  simp[e];cases m;exact q _ _ _ ⟨a,by simp[e]⟩ z20
 have⟨a,E⟩:=E;have e:=Aj e E;dsimp only[ei]at m;simp[e];refine Wr e m 999 (λs t f h=>∃(b:Nat),h=H/\f.1 1=AV.eC 1 b 0/\f.1 89=sL Fm.av a0.fj/\f.1 90=sI (eM a0.fj)/\f.1 91=sI s/\f.gen 1=b/\f.box 1=some [sI a0.ab9,sI a0.aca,sI a0.dv.ab9,sL Ty.av a0.dv.ab_,sL Tm.av a0.ej,sL Fm.av a0.fj,sL Pf.av a0.ab_]) ⟨a,by simp[e]⟩ (λt u G I E m=>?_) (λs X t u G I Y Z E e m v w=>?_);rotate_left
 ·have⟨b,E⟩:=E;have e:=Aj e E;have⟨aa,e,m⟩:=ep e m;simp[e];refine Cf (A1 e.2) ?_;rcases Io e m with⟨e,m⟩|⟨e,m⟩;rotate_left
  ·cases m;cases v;simp[e]
  simp[e];cases m;exact w _ _ _ ⟨b,by simp[e]⟩ v
 have⟨b,E⟩:=E;have e:=Aj e E;dsimp only[ei]at m;simp[e];refine Wr e m 999 (λx y f h=>h=H/\f.1 100=sL Pf.av a0.ab_/\f.1 101=sI (eM a0.ab_)/\f.1 102=sI x) (by simp[e]) (λy z J K E m=>?_) (λx ab y z J K ad ae E e m z40 A=>?_)
 ·have e:=Aj e E;dsimp only[ei]at m;cases m;simp[e]
 have e:=Aj e E;have⟨af,e,m⟩:=ep e m;simp[e];refine Cf (O e.2) ?_;rcases Io e m with⟨e,m⟩|⟨e,m⟩;rotate_left
 ·cases m;cases z40;simp[e]
 simp[e];cases m;exact A _ _ _ (by simp[e]) z40
def H7{n:Nat}:C1 prog 159 (nT n) sB Pf.av:=(Gy n)
def Gx:∀(n:Nat),C1 prog 175 (qc n) sB Pf.av:=by
  intro n
  induction n with
  |zero=>
    skip
    all_goals(intro _ _;intros;rename_i hm;cases hm)
  |succ n z=>
 intro T H a0 r hm;rw[qc] at hm;have e:=trivial;refine wi acd func175 [] [] 999 ?_;simp[e];refine Wr e hm 999 (λx s2 f h=>∃(b:Nat),h=H/\f.1 1=AV.eC 1 b 0/\f.1 10=sL Tm.av a0.ej/\f.1 11=sI (eM a0.ej)/\f.1 12=sI x/\f.gen 1=b/\f.box 1=some [sI a0.ab9,sI a0.aca,sI a0.dv.ab9,sL Ty.av a0.dv.ab_,sL Tm.av a0.ej,sL Fm.av a0.fj,sL Pf.av a0.ab_]) ⟨1,by simp[e]⟩ (λs2 q A B E m=>?_) (λx N s2 q A B n6 O E e m y s=>?_);rotate_left
 ·have⟨b,E⟩:=E;have e:=Aj e E;have⟨C,e,m⟩:=ep e m;simp[e];refine Cf (gX e.2) ?_;rcases Io e m with⟨e,m⟩|⟨e,m⟩
  ·cases m;cases y;simp[e]
  simp[e];cases m;exact s _ _ _ ⟨b,by simp[e]⟩ y
 have⟨b,E⟩:=E;have e:=Aj e E;dsimp only[ei]at m;simp[e];refine Wr e m 999 (λc d f h=>∃(a:Nat),h=H/\f.1 1=AV.eC 1 a 0/\f.1 21=sL Fm.av a0.fj/\f.1 22=sI (eM a0.fj)/\f.1 23=sI c/\f.gen 1=a/\f.box 1=some [sI a0.ab9,sI a0.aca,sI a0.dv.ab9,sL Ty.av a0.dv.ab_,sL Tm.av a0.ej,sL Fm.av a0.fj,sL Pf.av a0.ab_]) ⟨b,by simp[e]⟩ (λd g t u E m=>?_) (λc D d g t u F G E e m i j=>?_);rotate_left
 ·have⟨a,E⟩:=E;have e:=Aj e E;have⟨I,e,m⟩:=ep e m;simp[e];refine Cf (tB e.2) ?_;rcases Io e m with⟨e,m⟩|⟨e,m⟩
  ·cases m;cases i;simp[e]
  simp[e];cases m;exact j _ _ _ ⟨a,by simp[e]⟩ i
 have⟨a,E⟩:=E;have e:=Aj e E;dsimp only[ei]at m;simp[e];refine Wr e m 999 (λk l f h=>h=H/\f.1 32=sL Pf.av a0.ab_/\f.1 33=sI (eM a0.ab_)/\f.1 34=sI k) (by simp[e]) (λl o v w E m=>?_) (λk J l o v w K L E e m z28 p=>?_)
 ·have e:=Aj e E;dsimp only[ei]at m;cases m;simp[e]
 have e:=Aj e E;have⟨M,e,m⟩:=ep e m;simp[e];refine Cf (z e.2) ?_;rcases Io e m with⟨e,m⟩|⟨e,m⟩;rotate_left
 ·cases m;cases z28;simp[e]
 simp[e];cases m;exact p _ _ _ (by simp[e]) z28
def H8{n:Nat}:C1 prog 175 (qc n) sB Pf.av:=(Gx n)
def GX:∀(n:Nat),C1 prog 120 (qd n) sI Pf.av:=by
  intro n
  induction n with
  |zero=>
   skip
   all_goals(intro _ _;intros;rename_i hm;cases hm)
  |succ n y=>
 intro T H a0 r hm;rw[qd] at hm;have e:=trivial;refine wi acd func120 [] [] 999 ?_;simp[e];refine Wr e hm 999 (λx s2 f h=>∃(b:Nat),h=H/\f.1 1=AV.eC 1 b 0/\f.1 3=sI s2/\f.1 11=sL Tm.av a0.ej/\f.1 12=sI (eM a0.ej)/\f.1 13=sI x/\f.gen 1=b/\f.box 1=some [sI a0.ab9,sI a0.aca,sI a0.dv.ab9,sL Ty.av a0.dv.ab_,sL Tm.av a0.ej,sL Fm.av a0.fj,sL Pf.av a0.ab_]) ⟨1,by simp[e]⟩ (λs2 p z A E m=>?_) (λx N s2 p z A n6 O E e m B q=>?_);rotate_left
 ·have⟨b,E⟩:=E;have e:=Aj e E;have⟨C,e,m⟩:=ep e m;simp[e];refine Cf (gX e.2) ?_;simp[e];cases m;exact q _ _ _ ⟨b,by simp[e]⟩ B
 have⟨b,E⟩:=E;have e:=Aj e E;dsimp only[ei]at m;simp[e];refine Wr e m 999 (λg c f h=>∃(a:Nat),h=H/\f.1 1=AV.eC 1 a 0/\f.1 3=sI c/\f.1 23=sL Fm.av a0.fj/\f.1 24=sI (eM a0.fj)/\f.1 25=sI g/\f.gen 1=a/\f.box 1=some [sI a0.ab9,sI a0.aca,sI a0.dv.ab9,sL Ty.av a0.dv.ab_,sL Tm.av a0.ej,sL Fm.av a0.fj,sL Pf.av a0.ab_]) ⟨b,by simp[e]⟩ (λc i s t E m=>?_) (λg D c i s t F G E e m u j=>?_);rotate_left
 ·have⟨a,E⟩:=E;have e:=Aj e E;have⟨I,e,m⟩:=ep e m;simp[e];refine Cf (tB e.2) ?_;simp[e];cases m;exact j _ _ _ ⟨a,by simp[e]⟩ u
 have⟨a,E⟩:=E;have e:=Aj e E;dsimp only[ei]at m;simp[e];refine Wr e m 999 (λk d f h=>h=H/\f.1 3=sI d/\f.1 35=sL Pf.av a0.ab_/\f.1 36=sI (eM a0.ab_)/\f.1 37=sI k) (by simp[e]) (λd l v w E m=>?_) (λk J d l v w K L E e m z28 o=>?_)
 ·have e:=Aj e E;dsimp only[ei]at m;cases m;simp[e]
 have e:=Aj e E;have⟨M,e,m⟩:=ep e m;simp[e];refine Cf (y e.2) ?_;simp[e];cases m;exact o _ _ _ (by simp[e]) z28
def IX{n:Nat}:C1 prog 120 (qd n) sI Pf.av:=(GX n)
def Cb:C1 prog 123 s9 sB Pf.av:=by
 intro T H a0 r hm;rw[s9] at hm;have e:=trivial;refine wi acd func123 [] [] 2 ?_;simp[e];refine Wj hm 999 999 (λb f h=>∃(v2:Bool),(h=H/\f.1 2=sB v2)/\b v2=some r) (λb g a m=>?_) ?_;rotate_left
 ·rintro c i ⟨v2,E,m⟩;have e:=Aj e E;cases m;simp[e]
 have⟨j,e,m⟩:=ep e m;simp[e];refine Cf (H8 e.2) ?_;rcases Io e m with⟨e,m⟩|⟨e,m⟩;rotate_left
 ·simp[e];exact a _ _ ⟨false,by simp[e],m⟩
 have⟨d,e,m⟩:=ep e m;simp[e];refine Cf (IX e.2) ?_;simp[e];exact a _ _ ⟨(MV d 16384),by simp[e],m⟩
def w5:C1 prog 85 p6 sI Pf.av:=by
 intro T H a0 r hm;rw[p6] at hm;have e:=trivial;refine wi acd func85 [] [] 999 ?_;have⟨a,e,m⟩:=ep e hm;simp[e];refine Cf (H7 e.2) ?_;rcases Io e m with⟨e,m⟩|⟨e,m⟩;rotate_left
 ·cases m;simp[e]
 have⟨b,e,m⟩:=ep e m;simp[e];refine Cf (Cb e.2) ?_;rcases Io e m with⟨e,m⟩|⟨e,m⟩
 ·cases m;simp[e]
 cases m;simp[e]
def Qv:sw prog 109=true:=by kernel_rfl
def aaY(fr:Fr)(L:List Int):Prop:=
 (L=[]/\fr.env 3=.slice .full [])\/∃cap,fr.env 3=.wM 17 (fr.gen 17) L.length cap/\fr.box 17=some (tP (λn=>AV.sc (Value.int .i64 n)) L ((cap-L.length)*1))/\L.length<=cap
def va(T:fa){H:eD}{a0:List (Int×Bool)}{r0:List Int}{af:List (Int×Bool)}{s:Nat}(E:H[s]?=some [oH (λb=>AV.sc (Value.bool b)) a0])(hm:nV a0=some (r0,af)):eZ prog T 109 [AV.mh s] H (AV.slice .iP (List.map (λn=>AV.sc (Value.int .i64 n)) r0)) (gb H s [oH (λb=>AV.sc (Value.bool b)) af]):=by
 unfold nV at hm;have⟨az,hm⟩:=m9 hm;have⟨S,hm⟩:=m9 hm;have ah:=fW E;simp only[s7,Gw] at hm;have⟨e1,e2⟩:=hm;subst e2;rw[JE E]
 have S:(a0.map (·.1)).Nodup:=by simpa[tk] using S
 refine fG.tK (Post:=λx K=>x=AV.slice .iP (List.map (λn=>AV.sc (Value.int .i64 n)) r0)/\∃X,K=H++X) ?_ (λ_ _ h=>⟨_,h.2.choose_spec,by rw[h.1];simp[AV.low,AV.iZ],h.1,rfl⟩);refine fG.intro (fn:=f109) func109 rfl Qv (XV rfl) ?_;refine gJ.sr [] λK1 F=>?_;simp;apply F;refine gJ.sr [] λK1 F=>?_;simp;apply F;refine gJ.ud λK1 F=>?_;refine gJ.sr [] λK2 aA=>?_;simp[GZ,E,oH];apply aA;refine gJ.yZ λQ nn ex x r=>?_
 refine gJ.Mu (λm fr h=>∃(seen:List Nat) (L:List Int),m=FP a0.length seen/\L.length+m<=a0.length/\CS L/\(∀x,x∈L↔∃j∈seen,∃p,a0[j]?=some p/\p.1=x)/\H++[[.ns s a0.length seen]]=h/\fr.env 7=.fO H.length 0/\aaY fr L) a0.length ?_ ?_
 ·exact⟨[],[],(Ob _).symm,by simp,.nil,by simp,by simp,rfl,.inl ⟨rfl,rfl⟩⟩
 rintro m fr h ⟨seen,L,aB,aP,hA,hL,rfl,G,hs⟩ K3 aC
 have hi:(H++[[AV.ns s a0.length seen]])[H.length]?=some [AV.ns s a0.length seen]:=by simp
 have ho:(H++[[AV.ns s a0.length seen]])[s]?=some [oH (λb=>AV.sc (Value.bool b)) a0]:=by simp[ah,E]
 refine gJ.sr [] λK4 ai=>?_;simp only[P1,ev,G];refine Ny a0 hi ho (λaj=>?_) (λj p U hj=>?_)
 ·--aQ end
  simp;apply ai;refine gJ.ud λK5 ak=>?_;refine gJ.tS λA B ga V=>?_;simp;apply V;refine gJ.exit ?_;apply ex;apply F
  have hr:xW [] (a0.map (·.1))=L:=by
   refine CS.eq (Aq _ [] .nil S (by simp)) hA λx=>?_;rw[xM,hL];simp only[xg,false_or,oy];constructor
   ·rintro⟨p,U,rfl⟩;have⟨j,hj⟩:=VV.1 U;exact⟨j,aj j (pz.1 hj).1,p,hj,rfl⟩
   ·rintro⟨j,_,p,U,rfl⟩;exact⟨p,Be U,rfl⟩
  rw[hr] at e1;subst e1;rcases hs with⟨rfl,l⟩|⟨cap,l,e,hle⟩
  ·refine gJ.sr [] λK6 q=>?_;simp[l];apply q;refine gJ.ret ?_;simp[vS,l]
  ·refine gJ.ZX 3 (f:=λn=>AV.sc (Value.int .i64 n)) (L:=L) (k:=(cap-L.length)*1) (sz:=1) (d:=17) (g:=fr.gen 17) (cap:=cap) (by intro x;simp) (by intro x;simp) (by simp[l]) (by simp) (by simp[e]) ?_;refine gJ.sr [] λK6 q=>?_;simp;apply q;refine gJ.ret ?_;simp[vS]
 have al:j<a0.length:=(pz.1 U).1;have aD:=Qd al hj
 have aE:(H++[[AV.ns s a0.length (seen++[j])]])[H.length]?=some [AV.ns s a0.length (seen++[j])]:=by simp
 have aF:(H++[[AV.ns s a0.length (seen++[j])]])[s]?=some [oH (λb=>AV.sc (Value.bool b)) a0]:=by simp[ah,E]
 have gb:gb (H++[[AV.ns s a0.length seen]]) H.length [AV.ns s a0.length (seen++[j])]=H++[[AV.ns s a0.length (seen++[j])]]:=by simp
 rw[gb];have an:=MH (f:=λb=>AV.sc (Value.bool b)) a0 aE aF U
 have ab:p.1∉L:=by
  rw[hL];rintro⟨j',aG,p',aH,he⟩
  have h1:(a0.map (·.1))[j]?=some p.1:=by rw[uA,U];rfl
  have h2:(a0.map (·.1))[j']?=some p.1:=by rw[uA,aH];simp[he]
  have:j=j':=by
   have aI:j<(a0.map (·.1)).length:=by simpa using al
   exact(List.getElem?_inj aI S).1 (h1.trans h2.symm)
  subst this;exact hj aG
 have aO:a0.length<=Lk:=M_ az;simp;apply ai;refine gJ.ud λK5 ak=>?_;refine gJ.tS λA B ga V=>?_;simp;apply ga;refine gJ.skip ?_;apply ak;refine gJ.yZ λQ1 aJ aR x1 r1=>?_;refine gJ.sr [] λK6 q=>?_;simp[G,an];apply q;refine gJ.sr [] λK6 q=>?_
 have hlen:∃y,fr.env 3=y/\Ig prog 22 y=some (.sc (.int .i64 L.length)):=by
  rcases hs with⟨rfl,l⟩|⟨cap,l,e,hle⟩
  ·exact⟨_,l,by simp⟩
  ·exact⟨_,l,by simp⟩
 have⟨y,hy,ao⟩:=hlen;simp[hy,ao];apply q
 refine gJ.YP (λfr h=>H++[[.ns s a0.length (seen++[j])]]=h/\fr.env 7=.fO H.length 0/\fr.env 4=.sc (.int .i64 p.1)/\fr.env 5=.sc (.int .i64 (L.length:Int))/\∃cap,fr.env 3=.wM 17 (fr.gen 17) (L.length+1) cap/\fr.box 17=some (tP (λn=>AV.sc (Value.int .i64 n)) (L.take L.length++p.1::L.drop L.length) ((cap-(L.length+1))*1))/\L.length+1<=cap) (λK6 q=>?_) ?_
 ·refine gJ.region [] (by decide+kernel) ?_
  have aq:gG L [p.1]=L.take L.length++p.1::L.drop L.length:=by simp[gG]
  have aS:(gG L [p.1]).length=L.length+1:=by simp[gG]
  rcases hs with⟨rfl,l⟩|⟨cap,l,e,hle⟩
  ·simp[l];refine sg.XK (f:=λn=>AV.sc (Value.int .i64 n)) [p.1] Qx ⟨_,Vb⟩ (by intro x;simp) (by simp[yI,Lk]) rfl (by first|rfl|simp) λcap CV=>?_;simp;apply q;refine⟨rfl,?_,?_,?_,cap,?_,?_,by simpa using CV⟩<;>simp[G]
  ·simp[l];refine sg.mv (f:=λn=>AV.sc (Value.int .i64 n)) L [p.1] (cap:=cap) Qx ⟨_,Vb⟩ (by intro x;simp) (by simp[gr];omega) (by simp) rfl (by first|rfl|simp) (by simp[e]) hle λg' ar CV=>?_;rw[aq] at CV;simp only[aq];simp;apply q;refine⟨rfl,?_,?_,?_,ar,?_,?_,by simpa using CV⟩<;>simp[G]
 rintro aT h6 ⟨rfl,f7,f4,f5,cap,f3,f17,au⟩
 refine gJ.YP (λfr h=>H++[[.ns s a0.length (seen++[j])]]=h/\fr.env 7=.fO H.length 0/\fr.env 4=.sc (.int .i64 p.1)/\∃(i:Nat) (z:Int),fr.env 5=.sc (.int .i64 (i:Int))/\i<=L.length/\(∀a∈L.drop i,a>p.1)/\(i=0\/∃a,L[i-1]?=some a/\¬a>p.1)/\∃cap,fr.env 3=.wM 17 (fr.gen 17) (L.length+1) cap/\fr.box 17=some (tP (λn=>AV.sc (Value.int .i64 n)) (L.take i++z::L.drop i) ((cap-(L.length+1))*1))/\L.length+1<=cap) (λK7 aK=>?_) ?_
 ·refine gJ.yZ λQ2 aU aw x2 r2=>?_
  refine gJ.Mu (λi fr h=>H++[[.ns s a0.length (seen++[j])]]=h/\fr.env 7=.fO H.length 0/\fr.env 4=.sc (.int .i64 p.1)/\∃(z:Int),fr.env 5=.sc (.int .i64 (i:Int))/\i<=L.length/\(∀a∈L.drop i,a>p.1)/\∃cap,fr.env 3=.wM 17 (fr.gen 17) (L.length+1) cap/\fr.box 17=some (tP (λn=>AV.sc (Value.int .i64 n)) (L.take i++z::L.drop i) ((cap-(L.length+1))*1))/\L.length+1<=cap) L.length ?_ ?_
  ·exact⟨rfl,f7,f4,p.1,f5,jo _,by simp,cap,f3,f17,au⟩
  clear f7 f4 f5 f3 f17 au hy ao G hs;rintro i fr h ⟨rfl,G,e4,z,R,w,I,cap,l,e,hle⟩ K8 aL
  have stop:∀fr':Fr,fr'.env 7=.fO H.length 0->fr'.env 4=.sc (.int .i64 p.1)->fr'.env 5=.sc (.int .i64 (i:Int))->fr'.env 3=fr.env 3->fr'.gen=fr.gen->fr'.box=fr.box->(i=0\/∃a,L[i-1]?=some a/\¬a>p.1)->K7 fr' (H++[[.ns s a0.length (seen++[j])]]):=by
   intro fr' g7 g4 g5 g3 gg V W;exact aK _ _ ⟨rfl,g7,g4,i,z,g5,w,I,W,cap,by rw[g3,l,gg],by rw[V,e],hle⟩
  refine gJ.ud λK9 aM=>?_;refine gJ.sr [] λaV Y=>?_;obtain⟨c,D⟩:∃c:Int,c=(i:Int):=⟨_,rfl⟩;rw[<-D] at R;cases i with
  |zero=>
   have W:nX c 0=false:=by rw[D];decide
   simp[R,W];apply Y;refine gJ.tS λA B ga V=>?_;simp;apply V;refine gJ.exit ?_;apply aw;refine stop _ ?_ ?_ ?_ ?_ ?_ ?_ (.inl rfl)<;>simp[G,e4,R,D]
  |succ i=>
   have W:nX c 0=true:=by rw[D];simp[nX]
   obtain⟨Z,ad⟩:∃Z:Int,Z=(i:Int):=⟨_,rfl⟩
   have J:fD .i64 c 1=Z:=by rw[D,ad];exact Tk (by omega)
   obtain⟨x,hx⟩:∃x,L[i]?=some x:=⟨_,oD (by omega)⟩
   have C:(L.take (i+1)++z::L.drop (i+1)).length=L.length+1:=by simp;omega
   have aa:eJ (L.take (i+1)++z::L.drop (i+1)) Z=some x:=by
    unfold eJ;rw[ee (by omega),ad,AP,tF (by rw[yQ];omega),I2,ee (by omega),hx]
   have O:0<=Z/\Z<((L.length+1:Nat):Int):=by omega
   have o:0<=c/\c<((L.length+1:Nat):Int):=by omega
   have ae:=LA (P:=prog) (t:=3) (f:=λn=>AV.sc (Value.int .i64 n)) (k:=(cap-(L.length+1))*1) RG (by intro x;simp) aa;generalize hM:L.take (i+1)++z::L.drop (i+1)=M at e C aa ae;generalize hN:L.length+1=N at l e hle C O o ae
   have ax:∀fr':Fr,fr'.gen 17=fr.gen 17->fr'.box 17=fr.box 17->uq prog fr' (H++[[AV.ns s a0.length (seen++[j])]]) 3 (.eC 17 (fr.gen 17) (LL Z.toNat 1))=some (.sc (.int .i64 x)):=by
    intro fr' g1 g2;show(if fr.gen 17=fr'.gen 17 then(match fr'.box 17 with|some cs=>m8 prog 3 cs (LL Z.toNat 1)|none=>none)else none)=_;rw[ee g1.symm,g2,e];exact ae
   simp[R,l,W,J,O,ax,e4,-uq];apply Y;have aW:M.length=N:=C
   have u:eJ M c=some z:=by
    unfold eJ;rw[ee (by omega),D,AP,<-hM,yy (by simp;omega)];simp[yQ,show min (i+1) L.length=i+1 from by omega]
   have v:xl M c x=L.take i++x::L.drop i:=by
    have hd:L.drop i=x::L.drop (i+1):=by
     rw[J1 (by omega:i<L.length)]
     congr 1
     exact(pz.1 hx).2
    have ht:L.take (i+1)=L.take i++[x]:=by rw[VR,hx];rfl
    unfold xl;rw[D,AP,<-hM,hd,Zs _ _ (by simp;omega)];rw[yQ,show min (i+1) L.length=i+1 from by omega,Y2,RR,ht,uN];rfl
   refine gJ.tS λA B ga V=>?_;rcases Bool.eq_false_or_eq_true (nX x p.1)with hgx|hgx
   ·simp[hgx];apply ga;refine gJ.skip ?_;apply aM;refine gJ.yZ λQ3 aN aX x3 r3=>?_;refine gJ.sr [] λaY ay=>?_;simp[R,l,J,O,o,ax,e4,-uq];refine zc.arr (f:=λn=>AV.sc (Value.int .i64 n)) (L:=M) (k:=(cap-N)*1) x RG (by intro x;simp) (by simp) (x:=z) u (by simp) (by simp[e]) (by simp) ?_;simp;apply ay;refine gJ.region [] (by decide+kernel) ?_;simp[R,J];apply aN;rw[v];refine aL _ _ i (Zr _) ⟨rfl,?_,?_,x,?_,by omega,?_,cap,?_,?_,by rw[hN];exact hle⟩
    ·simp[G]
    ·simp[e4]
    ·simp[ad]
    ·intro a ha
     have hd:L.drop i=x::L.drop (i+1):=by
      rw[J1 (by omega:i<L.length)]
      congr 1
      exact(pz.1 hx).2
     rw[hd] at ha;rcases ma.1 ha with rfl|ha
     ·simpa[nX] using hgx
     ·exact I a ha
    ·simp[l,hN]
    ·simp[hN]
   ·simp[hgx];apply V;refine gJ.exit ?_;apply aw;refine stop _ ?_ ?_ ?_ ?_ ?_ ?_ (.inr ⟨x,by simpa using hx,by simpa[nX] using hgx⟩)<;>simp[G,e4,R,l,D]
 rintro fr h ⟨rfl,G,e4,i,z,R,w,I,W,cap,l,e,hle⟩;refine gJ.region [] (by decide+kernel) ?_;obtain⟨c,D⟩:∃c:Int,c=(i:Int):=⟨_,rfl⟩;rw[<-D] at R
 have C:(L.take i++z::L.drop i).length=L.length+1:=by simp;omega
 have u:eJ (L.take i++z::L.drop i) c=some z:=by
  unfold eJ;rw[ee (by omega),D,AP,yy (by simp;omega)];simp[yQ,XY w]
 have v:xl (L.take i++z::L.drop i) c p.1=BH p.1 L:=by
  rw[NX L i hA ab w I W];unfold xl;rw[D,AP,Zs _ _ (by simp;omega),yQ,XY w,Y2,RR]
 have o:0<=c/\c<((L.length+1:Nat):Int):=by omega
 have hlen:(BH p.1 L).length=L.length+1:=by rw[NX L i hA ab w I W];simp;omega
 generalize hM:L.take i++z::L.drop i=M at e C u v;generalize hN:L.length+1=N at l e hle C o hlen;simp[R,l,e4,o];refine zc.arr (f:=λn=>AV.sc (Value.int .i64 n)) (L:=M) (k:=(cap-N)*1) p.1 RG (by intro x;simp) (by simp) (x:=z) u (by simp) (by simp[e]) (by simp) ?_;simp;apply aJ;rw[v];refine aC _ _ _ (by rw[aB];exact aD) ⟨seen++[j],BH p.1 L,rfl,by omega,FW p.1 L ab hA,?_,rfl,?_,.inr ⟨cap,?_,?_,by rw[hlen];exact hle⟩⟩
 ·intro x;rw[z_,hL];constructor
  ·rintro(rfl|⟨j',h1,p',h2,h3⟩)
   ·exact⟨j,by simp,p,U,rfl⟩
   ·exact⟨j',by simp[h1],p',h2,h3⟩
  ·rintro⟨j',h1,p',h2,h3⟩;rcases sR.1 h1 with h1|h1
   ·exact .inr ⟨j',h1,p',h2,h3⟩
   ·simp only[w4] at h1;subst h1;rw[U] at h2;obtain rfl:=iy h2;exact .inl h3.symm
 ·simp[G]
 ·simp[l,hlen]
 ·simp[hlen]
def lB(T:fa){H:eD}{a0 a1 g:List Int}(hm:gL a0 a1=some g):eZ prog T 217 [sL sI a0,sL sI a1] H (sL sI g) H:=by
 rw[gL] at hm;refine fG.tK (Post:=λx K=>x=sL sI g/\∃X,K=H++X) ?_ (λ_ _ h=>⟨_,h.2.choose_spec,by rw[h.1];simp[AV.low,AV.iZ],h.1,rfl⟩);have e:=trivial;refine wi acd func217 [] [] 999 ?_;simp[e];refine Wr e hm 999 (λo s2 f h=>h=H++[[oH sB s2]]/\f.1 1=sL sI a1/\f.1 5=AV.mh (List.length H)/\f.1 11=sL sI a0/\f.1 12=sI (eM a0)/\f.1 13=sI o) (by simp[e]) (λs2 i p q E m=>?_) (λo w s2 i p q n6 y E e m r j=>?_);rotate_left
 ·have e:=Aj e E;simp[e];refine tJ.i64 (f:=sB) s2 true Ot uJ (by simp[e]) (by simp[e]) ?_;simp[e];cases m;exact j _ _ _ (by simp[e]) r
 have e:=Aj e E;dsimp only[ei]at m;simp[e];refine Wr e m 999 (λb a f h=>h=H++[[oH sB a]]/\f.1 5=AV.mh (List.length H)/\f.1 20=sL sI a1/\f.1 21=sI (eM a1)/\f.1 22=sI b) (by simp[e]) (λa c k l E m=>?_) (λb s a c k l t u E e m n d=>?_)
 ·have e:=Aj e E;dsimp only[ei]at m;have⟨v,d20,e,m⟩:=gv e m;simp[e];refine Cf (va T (by simp[e]) e.2) ?_;cases m;simp[e]
 have e:=Aj e E;simp[e];refine tJ.i64 (f:=sB) a true Ot uJ (by simp[e]) (by simp[e]) ?_;simp[e];cases m;exact d _ _ _ (by simp[e]) n
def lN:C3 prog 218 eT sI en.av sI sI:=by
 intro T H a0 a1 a2 r hm;rw[eT] at hm;have e:=trivial;refine wi acd func218 [] [] 3 ?_;simp[e];refine wj 999 999 (λf h=>h=H/\f.1 20=sB (fU (nX (fk .i64 (eM a0.acb) a1) 16) true (nX (fk .i64 (eM a0.acf) a2) 16))) (λc a=>?_) ?_;rotate_left
 ·rintro b d E;have e:=Aj e E;rcases Io e hm with⟨e,m⟩|⟨e,m⟩
  ·cases m;simp[e]
  cases m;simp[e]
 rcases Pb (nX (fk .i64 (eM a0.acb) a1) 16) e with e|e
 ·simp[e];exact a _ _ (by simp[e])
 simp[e];exact a _ _ (by simp[e])
def nF:C2 prog 219 gE en.av en.av Fm.av:=by
 intro T H a0 a1 r hm;rw[gE] at hm;have e:=trivial;refine wi acd func219 [] [] 999 ?_;have⟨e,m⟩:=Ck e hm;simp[e];refine Ad (f:=Fm.av) a0.acf [a1] (iX.full (D:=[])) DA e.2 ?_;cases m;simp[e]
def FR:∀(n:Nat),C2 prog 114 (k9 n) sB Tm.av sI:=by
  intro n
  induction n with
  |zero=>
   skip
   all_goals(intro _ _;intros;rename_i hm;cases hm)
  |succ n g=>
 intro T H a0 a1 r hm;rw[k9] at hm;have e:=trivial;refine wi acd func114 [] [] 999 ?_;rcases Io e hm with⟨e,m⟩|⟨e,m⟩
 ·cases m;simp[e]
 simp[e];refine Wr e m 999 (λc s2 f h=>h=H/\f.1 1=sI a1/\f.1 12=sL Tm.av a0.ab_/\f.1 13=sI (eM a0.ab_)/\f.1 14=sI c) (by simp[e]) (λs2 a i j E m=>?_) (λc l s2 a i j n6 o E e m d b=>?_)
 ·have e:=Aj e E;dsimp only[ei]at m;cases m;simp[e]
 have e:=Aj e E;have⟨k,e,m⟩:=ep e m;simp[e];refine Cf (g e.2) ?_;rcases Io e m with⟨e,m⟩|⟨e,m⟩;rotate_left
 ·cases m;cases d;simp[e]
 simp[e];cases m;exact b _ _ _ (by simp[e]) d
def wO{n:Nat}:C2 prog 114 (k9 n) sB Tm.av sI:=(FR n)
def KT:C1 prog 289 vP sB Tm.av:=by
 intro T H a0 r hm;rw[vP] at hm;have e:=trivial;refine wi acd func289 [] [] 8 ?_;simp[e];rcases Io e hm with⟨e,m⟩|⟨e,m⟩
 ·apply wg 999;have⟨v,e,m⟩:=ep e m;cases m;simp[e]
 apply wg 3;simp[e];rcases Io e m with⟨e,m⟩|⟨e,m⟩
 ·apply wg 1;simp[e];refine Wj m 999 999 (λi f h=>∃(v3:Bool),(h=H/\f.1 2=sB v3)/\i v3=some r) (λi w d m=>?_) ?_;rotate_left
  ·rintro n x ⟨v3,E,m⟩;have e:=Aj e E;cases m;simp[e]
  have⟨o,e,m⟩:=ep e m;rcases Io e m with⟨e,m⟩|⟨e,m⟩
  ·simp[e];exact d _ _ ⟨true,by simp[e],m⟩
  simp[e];exact d _ _ ⟨(eH o.ab9 5),by simp[e],m⟩
 apply wg 4;rcases Io e m with⟨e,m⟩|⟨e,m⟩
 ·simp[e];refine Wj m 999 999 (λj f h=>∃(v9:Bool),(h=H/\f.1 2=sB v9)/\j v9=some r) (λj p b m=>?_) ?_;rotate_left
  ·rintro k q ⟨v9,E,m⟩;have e:=Aj e E;cases m;simp[e]
  have⟨g,e,m⟩:=ep e m;rcases Io e m with⟨e,m⟩|⟨e,m⟩
  ·simp[e];exact b _ _ ⟨true,by simp[e],m⟩
  simp[e];exact b _ _ ⟨(eH g.ab9 8),by simp[e],m⟩
 simp[e];refine wj 999 999 (λf h=>∃(a:Nat),h=H/\f.1 1=AV.eC 1 a 0/\f.1 45=sB (fU (eH a0.ab9 11) true (eH a0.ab9 12))/\f.gen 1=a/\f.box 1=some [sI a0.ab9,sI a0.aca,sI a0.dv.ab9,sL Ty.av a0.dv.ab_,sL Tm.av a0.ab_]) (λs c=>?_) ?_
 ·rcases Pb (eH a0.ab9 11) e with e|e
  ·simp[e];exact c _ _ ⟨1,by simp[e]⟩
  simp[e];exact c _ _ ⟨1,by simp[e]⟩
 rintro l t ⟨a,E⟩;have e:=Aj e E;rcases Io e m with⟨e,m⟩|⟨e,m⟩;rotate_left
 ·cases m;simp[e]
 have⟨u,e,m⟩:=ep e m;cases m;simp[e]
def rl:C1 prog 161 lO sI Tm.av:=by
 intro T H a0 r hm;rw[lO] at hm;have e:=trivial;refine wi acd func161 [] [] 999 ?_;rcases Io e hm with⟨e,m⟩|⟨e,m⟩
 ·cases m;simp[e]
 cases m;simp[e]
def Hw:∀(n:Nat),C2 prog 173 (mO n) sI Tm.av sI:=by
  intro n
  induction n with
  |zero=>
    skip
    all_goals(intro _ _;intros;rename_i hm;cases hm)
  |succ n q=>
 intro T H a0 a1 r hm;rw[mO] at hm;have e:=trivial;refine wi acd func173 [] [] 4 ?_;simp[e];refine wj 0 999 (λf h=>∃(c:Nat),h=H/\f.1 1=sI a1/\f.1 2=AV.eC 2 c 0/\f.1 5=sI (fU (fU (eH a0.ab9 1) (eH a0.aca a1) false) (fk .i64 0 1) 0)/\f.gen 2=c/\f.box 2=some [sI a0.ab9,sI a0.aca,sI a0.dv.ab9,sL Ty.av a0.dv.ab_,sL Tm.av a0.ab_]) (λA d=>?_) ?_
 ·refine wj 999 999 (λf h=>∃(a:Nat),h=H/\f.1 1=sI a1/\f.1 2=AV.eC 2 a 0/\f.1 5=sI 0/\f.1 16=sB (fU (eH a0.ab9 1) (eH a0.aca a1) false)/\f.gen 2=a/\f.box 2=some [sI a0.ab9,sI a0.aca,sI a0.dv.ab9,sL Ty.av a0.dv.ab_,sL Tm.av a0.ab_]) (λB g=>?_) ?_
  ·rcases Pb (eH a0.ab9 1) e with e|e
   ·simp[e];exact g _ _ ⟨1,by simp[e]⟩
   simp[e];exact g _ _ ⟨1,by simp[e]⟩
  rintro s C ⟨a,E⟩;have e:=Aj e E;rcases Pb (fU (eH a0.ab9 1) (eH a0.aca a1) false) e with e|e
  ·simp[e];exact d _ _ ⟨a,by simp[e]⟩
  simp[e];exact d _ _ ⟨a,by simp[e]⟩
 rintro t D ⟨c,E⟩;have e:=Aj e E;simp[e];refine Wr e hm 999 (λp j f h=>∃(b:Nat),h=H/\f.1 1=sI a1/\f.1 2=AV.eC 2 b 0/\f.1 5=sI j/\f.1 20=sL Tm.av a0.ab_/\f.1 21=sI (eM a0.ab_)/\f.1 22=sI p/\f.gen 2=b/\f.box 2=some [sI a0.ab9,sI a0.aca,sI a0.dv.ab9,sL Ty.av a0.dv.ab_,sL Tm.av a0.ab_]) ⟨c,by simp[e]⟩ (λj k u l E m=>?_) (λp v j k u l w x E e m o i=>?_)
 ·have⟨b,E⟩:=E;have e:=Aj e E;dsimp only[ei]at m;cases m;simp[e]
 have⟨b,E⟩:=E;have e:=Aj e E;have⟨y,e,m⟩:=ep e m;simp[e];refine Cs (rl e.2) ?_;have⟨z,e,m⟩:=ep e m;simp[e];refine Cs (q e.2) ?_;simp[e];cases m;exact i _ _ _ ⟨b,by simp[e]⟩ o
def A3{n:Nat}:C2 prog 173 (mO n) sI Tm.av sI:=(Hw n)
def FQ:C1 prog 290 si sI Tm.av:=by
 intro T H a0 r hm;rw[si] at hm;have e:=trivial;refine wi acd func290 [] [] 999 ?_;have⟨y,e,m⟩:=ep e hm;simp[e];refine Cf (gX e.2) ?_;rcases Io e m with⟨e,m⟩|⟨e,m⟩
 ·have⟨z,e,m⟩:=ep e m;have⟨A,e,m⟩:=ep e m;have⟨B,e,m⟩:=ep e m;have⟨C,e,m⟩:=ep e m;simp[e];refine Cs (gX e.2) ?_;have⟨D,e,m⟩:=ep e m;simp[e];refine Cs (A3 e.2) ?_;have⟨E,e,m⟩:=ep e m;simp[e];refine Cs (gX e.2) ?_;cases m;simp[e]
 rcases Io e m with⟨e,m⟩|⟨e,m⟩
 ·have⟨F,e,m⟩:=ep e m;rcases Io e m with⟨e,m⟩|⟨e,m⟩
  ·have⟨G,e,m⟩:=ep e m;have⟨a,e,m⟩:=ep e m;simp[e];refine Cf (gX e.2) ?_;cases m;simp[e]
  have⟨b,e,m⟩:=ep e m;have⟨c,e,m⟩:=ep e m;simp[e];refine Cs (gX e.2) ?_;have⟨d,e,m⟩:=ep e m;have⟨f,e,m⟩:=ep e m;simp[e];refine Cs (gX e.2) ?_;cases m;simp[e]
 rcases Io e m with⟨e,m⟩|⟨e,m⟩;rotate_left
 ·rcases Io e m with⟨e,m⟩|⟨e,m⟩
  ·have⟨g,e,m⟩:=ep e m;have⟨h,e,m⟩:=ep e m;have⟨i,e,m⟩:=ep e m;simp[e];refine Cf (gX e.2) ?_;cases m;simp[e]
  have⟨j,e,m⟩:=ep e m;have⟨k,e,m⟩:=ep e m;have⟨l,e,m⟩:=ep e m;simp[e];refine Cf (gX e.2) ?_;cases m;simp[e]
 have⟨n,e,m⟩:=ep e m;rcases Io e m with⟨e,m⟩|⟨e,m⟩
 ·have⟨o,e,m⟩:=ep e m;have⟨p,e,m⟩:=ep e m;simp[e];refine Cf (gX e.2) ?_;cases m;simp[e]
 have⟨q,e,m⟩:=ep e m;have⟨s,e,m⟩:=ep e m;have⟨t,e,m⟩:=ep e m;have⟨u,e,m⟩:=ep e m;simp[e];refine Cs (gX e.2) ?_;have⟨v,e,m⟩:=ep e m;simp[e];refine Cs (gX e.2) ?_;have⟨w,e,m⟩:=ep e m;simp[e];refine Cs (gX e.2) ?_;have⟨x,e,m⟩:=ep e m;simp[e];refine Cs (gX e.2) ?_;cases m;simp[e]
def Lo:∀(n:Nat),C3 prog 90 (qg n) Tm.av Tm.av sI sI:=by
  intro n
  induction n with
  |zero=>
    skip
    all_goals(intro _ _;intros;rename_i hm;cases hm)
  |succ n A=>
 intro T H a0 a1 a2 r hm;rw[qg] at hm;have e:=trivial;refine wi acd func90 [] [] 4 ?_;simp[e];refine wj 0 999 (λf h=>∃(k:Nat) (l:Nat) (o:Nat),h=H/\f.1 1=sI a1/\f.1 2=sI a2/\f.1 3=AV.eC 3 k 0/\f.1 6=AV.eC 6 l 0/\f.1 7=AV.eC 7 o 0/\f.gen 3=k/\f.box 3=some [sI a0.ab9,sI a0.aca,sI a0.dv.ab9,sL Ty.av a0.dv.ab_,sL Tm.av a0.ab_]/\f.gen 6=l/\f.box 6=some [sI 0,sI 0,sI 0,AV.slice .full [],AV.slice .full []]/\f.gen 7=o/\f.box 7=some [sI a0.ab9,sI (fU (fU (eH a0.ab9 1) (sN a0.aca a1) false) (fk .i64 a0.aca a2) a0.aca),sI a0.dv.ab9,sL Ty.av a0.dv.ab_,AV.slice .full []]) (λK q=>?_) ?_
 ·refine wj 999 999 (λf h=>∃(b:Nat) (c:Nat) (d:Nat),h=H/\f.1 1=sI a1/\f.1 2=sI a2/\f.1 3=AV.eC 3 b 0/\f.1 6=AV.eC 6 c 0/\f.1 7=AV.eC 7 d 0/\f.1 25=sB (fU (eH a0.ab9 1) (sN a0.aca a1) false)/\f.gen 3=b/\f.box 3=some [sI a0.ab9,sI a0.aca,sI a0.dv.ab9,sL Ty.av a0.dv.ab_,sL Tm.av a0.ab_]/\f.gen 6=c/\f.box 6=some [sI 0,sI 0,sI 0,AV.slice .full [],AV.slice .full []]/\f.gen 7=d/\f.box 7=some [sI a0.ab9,sI a0.aca,sI a0.dv.ab9,sL Ty.av a0.dv.ab_,AV.slice .full []]) (λL s=>?_) ?_
  ·rcases Pb (eH a0.ab9 1) e with e|e
   ·simp[e];exact s _ _ ⟨1,1,1,by simp[e]⟩
   simp[e];exact s _ _ ⟨1,1,1,by simp[e]⟩
  rintro B M ⟨b,c,d,E⟩;have e:=Aj e E;rcases Pb (fU (eH a0.ab9 1) (sN a0.aca a1) false) e with e|e
  ·simp[e];exact q _ _ ⟨b,c,d,by simp[e]⟩
  simp[e];exact q _ _ ⟨b,c,d,by simp[e]⟩
 rintro C N ⟨k,l,o,E⟩;have e:=Aj e E;simp[e];refine Wr e hm 999 (λz t f h=>∃(a:Tag) (g:Nat) (i:Nat) (j:Nat),(h=H/\f.1 1=sI a1/\f.1 2=sI a2/\f.1 3=AV.eC 3 g 0/\f.1 6=AV.eC 6 i 0/\f.1 7=AV.eC 7 j 0/\f.1 32=sL Tm.av a0.ab_/\f.1 33=sI (eM a0.ab_)/\f.1 34=sI z/\f.gen 3=g/\f.box 3=some [sI a0.ab9,sI a0.aca,sI a0.dv.ab9,sL Ty.av a0.dv.ab_,sL Tm.av a0.ab_]/\f.gen 6=i/\f.box 6=some [sI 0,sI 0,sI 0,AV.slice .full [],AV.slice .full []]/\f.gen 7=j/\f.box 7=some [sI a0.ab9,sI (fU (fU (eH a0.ab9 1) (sN a0.aca a1) false) (fk .i64 a0.aca a2) a0.aca),sI a0.dv.ab9,sL Ty.av a0.dv.ab_,sT a Tm.av t])/\Ow f [48] a t) (by exact⟨.full,k,l,o,by simp[e],iX.full⟩) (λt u D w E m=>?_) (λz F t u D w G I E e m x v=>?_)
 ·have⟨a,g,i,j,E,p⟩:=E;have e:=Aj e E;dsimp only[ei]at m;cases m;simp[e]
 have⟨a,g,i,j,E,p⟩:=E;have e:=Aj e E;have⟨J,e,m⟩:=ep e m;simp[e];refine Cs (rl e.2) ?_;have⟨y,e,m⟩:=ep e m;simp[e];refine Cs (A e.2) ?_;have⟨e,m⟩:=Ck e m;simp[e];refine Ad (f:=Tm.av) t [y] p Ct e.2 ?_;simp[e];cases m;exact v _ _ _ ⟨(.loc 48 (u.fN 48+1)),g,i,j,by simp[e],(On 48)⟩ x
def A'{n:Nat}:C3 prog 90 (qg n) Tm.av Tm.av sI sI:=(Lo n)
def LB:∀(n:Nat),C4 prog 174 (ua n) Tm.av Tm.av sI sI Tm.av:=by
  intro n
  induction n with
  |zero=>
    skip
    all_goals(intro _ _;intros;rename_i hm;cases hm)
  |succ n s=>
 intro T H a0 a1 a2 a3 r hm;rw[ua] at hm;have e:=trivial;refine wi acd func174 [] [] 999 ?_;rcases Io e hm with⟨e,m⟩|⟨e,m⟩
 ·rcases Io e m with⟨e,m⟩|⟨e,m⟩
  ·have⟨w,e,m⟩:=ep e m;simp[e];refine Cf (A' e.2) ?_;cases m;simp[e]
  rcases Io e m with⟨e,m⟩|⟨e,m⟩;rotate_left
  ·cases m;simp[e]
  have⟨x,e,m⟩:=ep e m;simp[e];refine Cf (gu e.2) ?_;cases m;simp[e]
 simp[e];refine Wr e m 999 (λq j f h=>∃(a:Tag) (b:Nat) (c:Nat) (d:Nat) (g:Nat),(h=H/\f.1 1=sI a1/\f.1 2=sI a2/\f.1 4=AV.eC 4 b 0/\f.1 7=AV.eC 7 c 0/\f.1 8=AV.eC 8 d 0/\f.1 9=AV.eC 9 g 0/\f.1 45=sL Tm.av a0.ab_/\f.1 46=sI (eM a0.ab_)/\f.1 47=sI q/\f.gen 4=b/\f.box 4=some [sI a0.ab9,sI a0.aca,sI a0.dv.ab9,sL Ty.av a0.dv.ab_,sL Tm.av a0.ab_]/\f.gen 7=c/\f.box 7=some [sI a3.ab9,sI a3.aca,sI a3.dv.ab9,sL Ty.av a3.dv.ab_,sL Tm.av a3.ab_]/\f.gen 8=d/\f.box 8=some [sI 0,sI 0,sI 0,AV.slice .full [],AV.slice .full []]/\f.gen 9=g/\f.box 9=some [sI a0.ab9,sI a0.aca,sI a0.dv.ab9,sL Ty.av a0.dv.ab_,sT a Tm.av j])/\Ow f [62] a j) (by exact⟨.full,1,1,1,1,by simp[e],iX.full⟩) (λj k t u E m=>?_) (λq y j k t u z A E e m o l=>?_)
 ·have⟨a,b,c,d,g,E,i⟩:=E;have e:=Aj e E;dsimp only[ei]at m;cases m;simp[e]
 have⟨a,b,c,d,g,E,i⟩:=E;have e:=Aj e E;have⟨v,e,m⟩:=ep e m;simp[e];refine Cs (rl e.2) ?_;have⟨p,e,m⟩:=ep e m;simp[e];refine Cs (s e.2) ?_;have⟨e,m⟩:=Ck e m;simp[e];refine Ad (f:=Tm.av) j [p] i Ct e.2 ?_;simp[e];cases m;exact l _ _ _ ⟨(.loc 62 (k.fN 62+1)),b,c,d,g,by simp[e],(On 62)⟩ o
def F5{n:Nat}:C4 prog 174 (ua n) Tm.av Tm.av sI sI Tm.av:=(LB n)
def EW:C1 prog 291 rh Tm.av Tm.av:=by
 intro T H a0 r hm;rw[rh] at hm;have e:=trivial;refine wi acd func291 [] [] 999 ?_;rcases Io e hm with⟨e,m⟩|⟨e,m⟩
 ·have⟨u,e,m⟩:=ep e m;have⟨v,e,m⟩:=ep e m;have⟨w,e,m⟩:=ep e m;have⟨x,e,m⟩:=ep e m;simp[e];refine Cs (F5 e.2) ?_;cases m;simp[e]
 rcases Io e m with⟨e,m⟩|⟨e,m⟩
 ·have⟨y,e,m⟩:=ep e m;rcases Io e m with⟨e,m⟩|⟨e,m⟩
  ·have⟨z,e,m⟩:=ep e m;cases m;simp[e]
  have⟨A,e,m⟩:=ep e m;have⟨B,e,m⟩:=ep e m;have⟨C,e,m⟩:=ep e m;simp[e];refine Cs (gR e.2) ?_;have⟨a,e,m⟩:=ep e m;have⟨b,e,m⟩:=ep e m;simp[e];refine Cs (l9 e.2) ?_;have⟨c,e,m⟩:=ep e m;simp[e];refine Cs (gR e.2) ?_;cases m;simp[e]
 rcases Io e m with⟨e,m⟩|⟨e,m⟩;rotate_left
 ·rcases Io e m with⟨e,m⟩|⟨e,m⟩
  ·have⟨d,e,m⟩:=ep e m;have⟨f,e,m⟩:=ep e m;cases m;simp[e]
  have⟨g,e,m⟩:=ep e m;have⟨h,e,m⟩:=ep e m;cases m;simp[e]
 have⟨i,e,m⟩:=ep e m;rcases Io e m with⟨e,m⟩|⟨e,m⟩
 ·have⟨j,e,m⟩:=ep e m;cases m;simp[e]
 have⟨k,e,m⟩:=ep e m;have⟨l,e,m⟩:=ep e m;have⟨n,e,m⟩:=ep e m;have⟨o,e,m⟩:=ep e m;simp[e];refine Cs (gR e.2) ?_;have⟨p,e,m⟩:=ep e m;simp[e];refine Cs (gR e.2) ?_;have⟨q,e,m⟩:=ep e m;have⟨s,e,m⟩:=ep e m;simp[e];refine Cs (l9 e.2) ?_;have⟨t,e,m⟩:=ep e m;simp[e];refine Cs (gR e.2) ?_;cases m;simp[e]
def PE:sw prog 265=true:=by kernel_rfl
def Is:∀(n:Nat),C2 prog 265 (pc n) (t3 Tm.av sB sB) Tm.av sI:=by
  intro n
  induction n with
  |zero=>
    skip
    all_goals(intro _ _;intros;rename_i hm;cases hm)
  |succ n ih=>
 rintro T H a0 a1 ⟨r0,r1,r2⟩ hm;rw[pc] at hm;refine fG.intro (fn:=f265) func265 rfl PE (XV rfl) ?_;refine gJ.sr [] λK1 aP=>?_;simp;apply aP;refine gJ.ud λK3 aQ=>?_;refine gJ.sr [] λK5 aR=>?_;have⟨x7,aS,G⟩:=eO hm;clear hm
 try dsimp only at G
 simp;refine nc.fn (KT aS) ?_;simp;apply aR;refine gJ.tS λbh bj ah ai=>?_;rcases jw G with⟨a,I⟩|⟨a,J⟩
 ·clear G;simp[a];apply ah;refine gJ.ud λbk aj=>?_;refine gJ.sr [] λbl ak=>?_;have⟨bm,al,w⟩:=eO I;clear I
  try dsimp only at w
  simp[a];refine nc.fn (FQ al) ?_;simp[a];apply ak;refine gJ.tS λbn bo an ao=>?_;rcases jw w with⟨p,K⟩|⟨p,M⟩
  ·clear w;simp[a,p];apply an;refine gJ.sr [] λbp aq=>?_;simp[a,p];apply aq;refine gJ.ret ?_;simp only[s7,Gw] at K;obtain⟨rfl,rfl,rfl⟩:=K;simp[vS,a,p]
  clear w;simp[a,p];apply ao;refine gJ.skip ?_;apply aj;refine gJ.sr [] λbq ar=>?_;have⟨br,au,B⟩:=eO M;clear M
  try dsimp only at B
  simp[a,p];refine nc.fn (EW au) ?_;simp[a,p];apply ar;refine gJ.ret ?_;simp only[s7,Gw] at B;obtain⟨rfl,rfl,rfl⟩:=B;simp[vS,a,p]
 clear G;simp[a];apply ai;refine gJ.skip ?_;apply aQ;refine gJ.ud λbs aw=>?_;refine gJ.sr [] λbt ax=>?_;simp[a];apply ax;have⟨P,N⟩:=m9 J;clear J;have⟨aT,ay,C⟩:=mf N;clear N
 try dsimp only at C
 have⟨Q,q,o⟩:=eO C;clear C;refine gJ.yZ λbu aU az aV aA=>?_;refine gJ.Mu (λn55 fr h=>∃(i56:Nat) (A:Int) (r:Nat) (s:Nat),H=h/\(fr.env 1=sI a1/\fr.env 2=AV.eC 2 r 0/\fr.env 4=AV.eC 4 s 0/\fr.env 23=sL Tm.av a0.ab_/\fr.env 24=sI (eM a0.ab_)/\fr.env 25=sI A/\fr.gen 2=r/\fr.box 2=some [sI a0.ab9,sI a0.aca,sI a0.dv.ab9,sL Ty.av a0.dv.ab_,sL Tm.av a0.ab_]/\fr.gen 4=s/\fr.box 4=some [sI 0,sI 0,sI 0,AV.slice .full [],AV.slice .full []])/\A=(i56:Int)/\i56+n55=List.length a0.ab_/\fp aT (List.drop i56 a0.ab_) i56 ()=some Q) (List.length a0.ab_) ?_ ?_
 ·refine⟨0,0,1,1,?_,⟨?_,?_,?_,?_,?_,?_,?_,?_,?_,?_⟩,rfl,(by simp),q⟩<;>first|rfl|simp[a]
 rintro n55 O bw ⟨i56,A,r,s,rfl,i,v,aW,q⟩ bx aB;rcases n55 with _|n55
 ·have b:=Lz (l:=a0.ab_) v (by omega);refine gJ.sr [] λbz aC=>?_;simp[i,b,a];apply aC;refine gJ.ud λbA aX=>?_;refine gJ.tS λbB bC aY aD=>?_;simp[i,b,a];apply aD;refine gJ.exit ?_;apply az;rw[IM (by omega),pq] at q;obtain rfl:=iy q;rw[ei] at o
  try dsimp only at o
  apply aw;refine gJ.sr [] λbD aE=>?_;simp[i,b,a];apply aE;refine gJ.ret ?_;simp only[s7,Gw] at o;obtain⟨rfl,rfl,rfl⟩:=o;simp[vS,i,b,a]
 have b:=Pk (l:=a0.ab_) v (by omega);have⟨bE,R,e⟩:=Md (l:=a0.ab_) v (by omega);rw[R,fl] at q;have⟨bF,y,z⟩:=eO q;clear q;rw[ay,<-v] at y
 try dsimp only at y
 refine gJ.sr [] λbG aF=>?_;simp[i,b,e,a];apply aF;refine gJ.ud λbH aG=>?_;refine gJ.tS λbI bJ aH aZ=>?_;simp[i,b,e,a];apply aH;refine gJ.skip ?_;apply aG;refine gJ.ud λbK aI=>?_;refine gJ.yZ λbL a6 aJ a7 aK=>?_;refine gJ.sr [] λbM aL=>?_;simp[i,b,e,a];apply aL;refine gJ.sr [] λbN aM=>?_;have⟨S,bO,a8,U,t⟩:=BK y;clear y
 try dsimp only at t
 simp[i,b,e,a];refine nc.fn (ih U) ?_;simp[i,b,e,a];apply aM;refine gJ.ud λa_ V=>?_;refine gJ.sr [] λa' W=>?_;simp[i,b,e,a];apply W;refine gJ.tS λba bb X Y=>?_;rcases jw t with⟨c,D⟩|⟨c,Z⟩;rotate_left
 ·clear t;simp[i,b,e,a,c];apply X;refine gJ.exit ?_;apply aJ;apply aI;refine gJ.region [] (by decide+kernel) ?_;simp[i,b,e,a,c];obtain rfl:=iy Z;rw[ft] at z
  refine aB _ _ n55 (Zr _) ⟨(i56+1),(fk .i64 A 1),r,s,?_,⟨?_,?_,?_,?_,?_,?_,?_,?_,?_,?_⟩,(Jf v (by omega) P),(by omega),z⟩<;>first|rfl|simp[i,b,e,a,c]
 clear t;simp[i,b,e,a,c];apply Y;refine gJ.skip ?_;apply V;refine gJ.sr [] λbc aa=>?_;simp[i,b,e,a,c];apply aa;refine gJ.sr [] λbd ab=>?_;have⟨ad,E⟩:=m9 D;clear D;simp[i,b,e,a,c];refine sg.XK (f:=Tm.av) a0.ab_ Ct ⟨_,Xw⟩ (by intro x;simp) ad (by first|rfl|simp) (by first|rfl|simp) λu aN=>?_;simp[i,b,e,a,c];apply ab;refine gJ.sr [] λbf ae=>?_;have⟨aO,j,F⟩:=eO E;clear E
 try dsimp only at F
 have m:=Gk j;simp[i,b,e,j,m,a,c];refine zc.arr (f:=Tm.av) (L:=a0.ab_) (k:=((u-List.length a0.ab_)*5)) S U8 (by intro x;simp) (by simp[i,b,e,j,m,a,c]) (x:=aO) (by assumption) (by simp[i,b,e,j,m,a,c]) (by simp[i,b,e,j,m,a,c]) (by simp[i,b,e,j,m,a,c]) ?_;simp[i,b,e,j,m,a,c];apply ae;refine gJ.ud λbg af=>?_;refine gJ.aby 12 4 (cs2:=[sI a0.ab9,sI a0.aca,sI a0.dv.ab9,sL Ty.av a0.dv.ab_,AV.wM 42 (O.gen 42+1) (List.length (xl a0.ab_ A S)) u]) (f:=Tm.av) (L:=(xl a0.ab_ A S)) (k:=((u-List.length a0.ab_)*5)) (sz:=5) (d:=42) (g:=(O.gen 42+1)) (cap:=u) (by intro x;simp) (by intro x;simp) (by decide) (by simp[i,b,e,j,m,a,c]) (by simp[i,b,e,j,m,a,c]) (by simp[i,b,e,j,m,a,c]) (by simp[i,b,e,j,m,a,c]) ?_;refine gJ.region [] (by decide+kernel) ?_;simp[i,b,e,j,m,a,c];apply af;refine gJ.ret ?_;apply aK;apply aA;obtain rfl:=iy F;rw[zL] at z;obtain rfl:=iy z;rw[p0] at o
 try dsimp only at o
 simp only[s7,Gw] at o;obtain⟨rfl,rfl,rfl⟩:=o;simp[vS,i,b,e,j,m,a,c]
def KK{n:Nat}:C2 prog 265 (pc n) (t3 Tm.av sB sB) Tm.av sI:=(Is n)
def vE:C2 prog 229 mz (t3 Tm.av sI sI) Tm.av sI:=by
 intro T H a0 a1 r hm;rw[mz] at hm;have e:=trivial;refine wi acd func229 [] [] 7 ?_;have⟨F,e,m⟩:=ep e hm;simp[e];refine Cf (og e.2) ?_;simp[e];rcases Io e m with⟨e,m⟩|⟨e,m⟩
 ·apply wg 999;cases m;simp[e]
 apply wg 3;simp[e];refine Wj m 999 999 (λl f h=>∃(v3:Bool) (a:Nat) (b:Nat),(h=H/\f.1 1=sI a1/\f.1 2=AV.eC 2 a 0/\f.1 4=AV.eC 4 b 0/\f.1 28=sB v3/\f.gen 2=a/\f.box 2=some [sI a0.ab9,sI a0.aca,sI a0.dv.ab9,sL Ty.av a0.dv.ab_,sL Tm.av a0.ab_]/\f.gen 4=b/\f.box 4=some [sI 0,sI 0,sI 0,AV.slice .full [],AV.slice .full []])/\l v3=some r) (λl G j m=>?_) ?_
 ·rcases Io e m with⟨e,m⟩|⟨e,m⟩
  ·simp[e];exact j _ _ ⟨true,1,1,by simp[e],m⟩
  rcases Io e m with⟨e,m⟩|⟨e,m⟩
  ·simp[e];exact j _ _ ⟨true,1,1,by simp[e],m⟩
  have⟨n,e,m⟩:=ep e m;simp[e];refine Cf (wO e.2) ?_;simp[e];exact j _ _ ⟨(nt n),1,1,by simp[e],m⟩
 rintro o I ⟨v3,a,b,E,m⟩;have e:=Aj e E;rcases Io e m with⟨e,m⟩|⟨e,m⟩
 ·cases m;simp[e]
 simp[e];refine Wn m 999 (λi f h=>∃(c:Nat) (d:Nat),h=H/\f.1 1=sI a1/\f.1 2=AV.eC 2 c 0/\f.1 4=AV.eC 4 d 0/\f.1 8=sI i.1/\f.gen 2=c/\f.box 2=some [sI i.2.1,sI i.2.2.1,sI i.2.2.2.1,sL Ty.av i.2.2.2.2.1,sL Tm.av i.2.2.2.2.2]/\f.gen 4=d/\f.box 4=some [sI 0,sI 0,sI 0,AV.slice .full [],AV.slice .full []]) ⟨a,b,by simp[e]⟩ (λi p J q s t E m g k=>?_);have⟨u,v,w,x,y,v20⟩:=i;have⟨c,d,E⟩:=E;have e:=Aj e E;dsimp only[zh]at m;have⟨z,e,m⟩:=ep e m;simp[e];refine Cs (gX e.2) ?_;have⟨A,B,C,e,m⟩:=Kd e m;simp[e];refine Cs (KK e.2) ?_;rcases Io e m with⟨e,m⟩|⟨e,m⟩;rotate_left
 ·have⟨D,e,m⟩:=ep e m;simp[e];refine Cf (my e.2) ?_;cases m;cases g;simp[e]
 rcases Io e m with⟨e,m⟩|⟨e,m⟩
 ·cases m;cases g;simp[e]
 rcases Io e m with⟨e,m⟩|⟨e,m⟩;rotate_left
 ·cases m;cases g;simp[e]
 simp[e];cases m;exact k _ _ _ ⟨c,d,by simp[e]⟩ g
def IN:C3 prog 163 rS sI Tm.av Tm.av sI:=by
 intro T H a0 a1 a2 r hm;rw[rS] at hm;have e:=trivial;refine wi acd func163 [] [] 999 ?_;have⟨b,e,m⟩:=ep e hm;simp[e];refine Cf (og e.2) ?_;rcases Io e m with⟨e,m⟩|⟨e,m⟩
 ·cases m;simp[e]
 have⟨c,e,m⟩:=ep e m;simp[e];refine Cf (og e.2) ?_;rcases Io e m with⟨e,m⟩|⟨e,m⟩
 ·cases m;simp[e]
 have⟨d,e,m⟩:=ep e m;simp[e];refine Cf (yC e.2) ?_;rcases Io e m with⟨e,m⟩|⟨e,m⟩
 ·cases m;simp[e]
 have⟨f,g,h,e,m⟩:=Kd e m;simp[e];refine Cf (vE e.2) ?_;rcases Io e m with⟨e,m⟩|⟨e,m⟩
 ·cases m;simp[e]
 have⟨i,j,k,e,m⟩:=Kd e m;simp[e];refine Cf (vE e.2) ?_;rcases Io e m with⟨e,m⟩|⟨e,m⟩
 ·cases m;simp[e]
 have⟨a,e,m⟩:=ep e m;simp[e];refine Cf (yC e.2) ?_;rcases Io e m with⟨e,m⟩|⟨e,m⟩
 ·cases m;simp[e]
 cases m;simp[e]
def G6:∀(n:Nat),C2 prog 94 (oK n) sI Fm.av Fm.av:=by
  intro n
  induction n with
  |zero=>
    skip
    all_goals(intro _ _;intros;rename_i hm;cases hm)
  |succ n B=>
 intro T H a0 a1 r hm;rw[oK] at hm;have e:=trivial;refine wi acd func94 [] [] 3 ?_;simp[e];refine Wj hm 999 999 (λy f h=>∃(v2:Bool) (g:Nat) (i:Nat),(h=H/\f.1 2=AV.eC 2 g 0/\f.1 3=AV.eC 3 i 0/\f.1 21=sB v2/\f.gen 2=g/\f.box 2=some [sI a0.ab9,sI a0.dv.ab9,sL Ty.av a0.dv.ab_,sL Tm.av a0.ej,sL Fm.av a0.ab_]/\f.gen 3=i/\f.box 3=some [sI a1.ab9,sI a1.dv.ab9,sL Ty.av a1.dv.ab_,sL Tm.av a1.ej,sL Fm.av a1.ab_])/\y v2=some r) (λy R j m=>?_) ?_
 ·rcases Io e m with⟨e,m⟩|⟨e,m⟩
  ·simp[e];exact j _ _ ⟨true,1,1,by simp[e],m⟩
  have⟨C,e,m⟩:=ep e m;simp[e];refine Cf (iw e.2) ?_;simp[e];exact j _ _ ⟨(nt C),1,1,by simp[e],m⟩
 rintro D S ⟨v2,g,i,E,m⟩;have e:=Aj e E;rcases Io e m with⟨e,m⟩|⟨e,m⟩
 ·cases m;simp[e]
 simp[e];refine Wr e m 999 (λz A f h=>∃(c:Nat) (d:Nat),h=H/\f.1 2=AV.eC 2 c 0/\f.1 3=AV.eC 3 d 0/\f.1 24=sI (eM a0.ej)/\f.1 25=sI z/\f.gen 2=c/\f.box 2=some [sI a0.ab9,sI a0.dv.ab9,sL Ty.av a0.dv.ab_,sL Tm.av a0.ej,sL Fm.av a0.ab_]/\f.gen 3=d/\f.box 3=some [sI a1.ab9,sI a1.dv.ab9,sL Ty.av a1.dv.ab_,sL Tm.av a1.ej,sL Fm.av a1.ab_]) ⟨g,i,by simp[e]⟩ (λA u F v E m=>?_) (λz G A u F v I J E e m k l=>?_);rotate_left
 ·have⟨c,d,E⟩:=E;have e:=Aj e E;have⟨K,e,m⟩:=ep e m;have⟨L,e,m⟩:=ep e m;simp[e];refine Cs (IN e.2) ?_;rcases Io e m with⟨e,m⟩|⟨e,m⟩
  ·cases m;cases k;simp[e]
  simp[e];cases m;exact l _ _ _ ⟨c,d,by simp[e]⟩ k
 have⟨c,d,E⟩:=E;have e:=Aj e E;dsimp only[ei]at m;simp[e];refine Wr e m 999 (λo p f h=>∃(a:Nat) (b:Nat),h=H/\f.1 2=AV.eC 2 a 0/\f.1 3=AV.eC 3 b 0/\f.1 45=sI (eM a0.ab_)/\f.1 46=sI o/\f.gen 2=a/\f.box 2=some [sI a0.ab9,sI a0.dv.ab9,sL Ty.av a0.dv.ab_,sL Tm.av a0.ej,sL Fm.av a0.ab_]/\f.gen 3=b/\f.box 3=some [sI a1.ab9,sI a1.dv.ab9,sL Ty.av a1.dv.ab_,sL Tm.av a1.ej,sL Fm.av a1.ab_]) ⟨c,d,by simp[e]⟩ (λp q w x E m=>?_) (λo M p q w x N O E e m s t=>?_)
 ·have⟨a,b,E⟩:=E;have e:=Aj e E;dsimp only[ei]at m;cases m;simp[e]
 have⟨a,b,E⟩:=E;have e:=Aj e E;have⟨P,e,m⟩:=ep e m;have⟨Q,e,m⟩:=ep e m;simp[e];refine Cs (B e.2) ?_;rcases Io e m with⟨e,m⟩|⟨e,m⟩
 ·cases m;cases s;simp[e]
 simp[e];cases m;exact t _ _ _ ⟨a,b,by simp[e]⟩ s
def H6{n:Nat}:C2 prog 94 (oK n) sI Fm.av Fm.av:=(G6 n)
def AT:C2 prog 31 oN sI Fm.av Fm.av:=by
 intro T H a0 a1 r hm;rw[oN] at hm;have e:=trivial;refine wi acd func31 [] [] 999 ?_;have⟨a,e,m⟩:=ep e hm;simp[e];refine Cf (n9 e.2) ?_;rcases Io e m with⟨e,m⟩|⟨e,m⟩
 ·cases m;simp[e]
 have⟨b,e,m⟩:=ep e m;simp[e];refine Cf (n9 e.2) ?_;rcases Io e m with⟨e,m⟩|⟨e,m⟩
 ·cases m;simp[e]
 have⟨c,e,m⟩:=ep e m;simp[e];refine Cf (H6 e.2) ?_;cases m;simp[e]
def q8:C1 prog 95 k8 sI Fm.av:=by
 intro T H a0 r hm;rw[k8] at hm;have e:=trivial;refine wi acd func95 [] [] 999 ?_;have⟨a,e,m⟩:=ep e hm;simp[e];refine Cf (rH e.2) ?_;rcases Io e m with⟨e,m⟩|⟨e,m⟩
 ·cases m;simp[e]
 cases m;simp[e]
def Mj:∀(n:Nat),C3 prog 32 (hB n) Fm.av Fm.av sI sI:=by
  intro n
  induction n with
  |zero=>
   skip
   all_goals(intro _ _;intros;rename_i hm;cases hm)
  |succ n F=>
 intro T H a0 a1 a2 r hm;rw[hB] at hm;have e:=trivial;refine wi acd func32 [] [] 999 ?_;simp[e];refine Wr e hm 999 (λD s2 f h=>∃(c:Tag) (j:Nat) (k:Nat) (l:Nat),(h=H/\f.1 1=sI a1/\f.1 2=sI a2/\f.1 3=AV.eC 3 j 0/\f.1 6=AV.eC 6 k 0/\f.1 7=AV.eC 7 l 0/\f.1 18=sL Tm.av a0.ej/\f.1 19=sI (eM a0.ej)/\f.1 20=sI D/\f.gen 3=j/\f.box 3=some [sI a0.ab9,sI a0.dv.ab9,sL Ty.av a0.dv.ab_,sL Tm.av a0.ej,sL Fm.av a0.ab_]/\f.gen 6=k/\f.box 6=some [sI 0,sI 0,AV.slice .full [],AV.slice .full [],AV.slice .full []]/\f.gen 7=l/\f.box 7=some [sI a0.ab9,sI a0.dv.ab9,sL Ty.av a0.dv.ab_,sT c Tm.av s2,AV.slice .full []])/\Ow f [31] c s2) (by exact⟨.full,1,1,1,by simp[e],iX.full⟩) (λs2 u G I E m=>?_) (λD O s2 u G I n6 P E e m J x=>?_);rotate_left
 ·have⟨c,j,k,l,E,p⟩:=E;have e:=Aj e E;have⟨y,e,m⟩:=ep e m;simp[e];refine Cs (A' e.2) ?_;have⟨e,m⟩:=Ck e m;simp[e];refine Ad (f:=Tm.av) s2 [y] p Ct e.2 ?_;simp[e];cases m;exact x _ _ _ ⟨(.loc 31 (u.fN 31+1)),j,k,l,by simp[e],(On 31)⟩ J
 have⟨c,j,k,l,E,p⟩:=E;have e:=Aj e E;dsimp only[ei]at m;simp[e];refine Wr e m 999 (λv q f h=>∃(a:Tag) (b:Tag) (d:Nat) (g:Nat) (i:Nat),(h=H/\f.1 1=sI a1/\f.1 2=sI a2/\f.1 3=AV.eC 3 d 0/\f.1 6=AV.eC 6 g 0/\f.1 7=AV.eC 7 i 0/\f.1 35=sL Fm.av a0.ab_/\f.1 36=sI (eM a0.ab_)/\f.1 37=sI v/\f.gen 3=d/\f.box 3=some [sI a0.ab9,sI a0.dv.ab9,sL Ty.av a0.dv.ab_,sL Tm.av a0.ej,sL Fm.av a0.ab_]/\f.gen 6=g/\f.box 6=some [sI 0,sI 0,AV.slice .full [],AV.slice .full [],AV.slice .full []]/\f.gen 7=i/\f.box 7=some [sI a0.ab9,sI a0.dv.ab9,sL Ty.av a0.dv.ab_,sT a Tm.av s2,sT b Fm.av q])/\Ow f [31] a s2/\Ow f [51] b q) (by exact⟨c,.full,j,k,l,by simp[e],p,iX.full⟩) (λq t z A E m=>?_) (λv K q t z A L M E e m B w=>?_)
 ·have⟨a,b,d,g,i,E,s,o⟩:=E;have e:=Aj e E;dsimp only[ei]at m;cases m;simp[e]
 have⟨a,b,d,g,i,E,s,o⟩:=E;have e:=Aj e E;have⟨N,e,m⟩:=ep e m;simp[e];refine Cs (q8 e.2) ?_;have⟨C,e,m⟩:=ep e m;simp[e];refine Cs (F e.2) ?_;have⟨e,m⟩:=Ck e m;simp[e];refine Ad (f:=Fm.av) q [C] o DA e.2 ?_;simp[e];cases m;exact w _ _ _ ⟨a,(.loc 51 (t.fN 51+1)),d,g,i,by simp[e],(iX.other s o (by decide) (by decide)),(On 51)⟩ B
def mb{n:Nat}:C3 prog 32 (hB n) Fm.av Fm.av sI sI:=(Mj n)
def nj:C2 prog 256 fK en.av en.av (sL Ty.av):=by
 intro T H a0 a1 r hm;rw[fK] at hm;have e:=trivial;refine wi acd func256 [] [] 999 ?_;have⟨e,m⟩:=Ck e hm;simp[e];refine Ad (f:=Ty.av) a0.acb a1 (iX.full (D:=[])) Fo e.2 ?_;simp[e];refine Wr e m 999 (λn s2 f h=>∃(a:Tag) (b:Tag) (c:Nat) (d:Nat),(h=H/\f.1 1=sL Ty.av a1/\f.1 4=AV.eC 4 c 0/\f.1 5=AV.eC 5 d 0/\f.1 23=sL Fm.av a0.acf/\f.1 24=sI (eM a0.acf)/\f.1 25=sI n/\f.gen 4=c/\f.box 4=some [AV.slice .full [],AV.slice .full [],AV.slice .full []]/\f.gen 5=d/\f.box 5=some [sL Fm.av a0.lemmas,sT a Ty.av (gG a0.acb a1),sT b Fm.av s2])/\Ow f [20] a (gG a0.acb a1)/\Ow f [36] b s2) (by exact⟨(.loc 20 1),.full,1,1,by simp[e],(On 20),iX.full⟩) (λs2 j o p E m=>?_) (λn s s2 j o p n6 t E e m q k=>?_)
 ·have⟨a,b,c,d,E,i,g⟩:=E;have e:=Aj e E;dsimp only[ei]at m;cases m;simp[e]
 have⟨a,b,c,d,E,i,g⟩:=E;have e:=Aj e E;have⟨l,e,m⟩:=ep e m;simp[e];refine Cs (mb e.2) ?_;have⟨e,m⟩:=Ck e m;simp[e];refine Ad (f:=Fm.av) s2 [l] g DA e.2 ?_;simp[e];cases m;exact k _ _ _ ⟨a,(.loc 36 (j.fN 36+1)),c,d,by simp[e],(iX.other i g (by decide) (by decide)),(On 36)⟩ q
def pA:C2 prog 257 gP (sL sI) (sL sI) sI:=by
 intro T H a0 a1 r hm;rw[gP] at hm;have e:=trivial;refine wi acd func257 [] [] 999 ?_;simp[e];refine Wr e hm 0 (λk s2 f h=>∃(b:Tag),(h=H/\f.1 1=sI a1/\f.1 5=sT b sI s2/\f.1 8=sL sI a0/\f.1 9=sI (eM a0)/\f.1 10=sI k)/\Ow f [22] b s2) (by exact⟨.full,by simp[e],iX.full⟩) (λs2 i p q E m=>?_) (λk n s2 i p q n6 s E e m t l=>?_)
 ·have⟨b,E,c⟩:=E;have e:=Aj e E;apply wg 999;dsimp only[ei]at m;cases m;simp[e]
 have⟨b,E,c⟩:=E;have e:=Aj e E;apply wg 5;simp[e];refine Wj m 999 999 (λj f h=>∃(v11:List Int) (a:Tag),(h=H/\f.1 1=sI a1/\f.1 5=sT a sI v11/\f.1 8=sL sI a0/\f.1 9=sI (eM a0)/\f.1 10=sI k)/\Ow f [22] a v11/\j v11=some s) (λj u d m=>?_) ?_;rotate_left
 ·rintro o v ⟨v11,a,E,g,m⟩;have e:=Aj e E;simp[e];cases m;exact l _ _ _ ⟨a,by simp[e],g⟩ t
 rcases Io e m with⟨e,m⟩|⟨e,m⟩;rotate_left
 ·simp[e];exact d _ _ ⟨s2,b,by simp[e],c,m⟩
 have⟨e,m⟩:=Ck e m;simp[e];refine Ao (f:=sI) s2 [(fD .i64 n a1)] c Qx e.2 ?_;simp[e];exact d _ _ ⟨(gG s2 [(fD .i64 n a1)]),(.loc 22 (i.fN 22+1)),by simp[e],(On 22),m⟩
def EI:C1 prog 258 rN sB (sL sI):=by
 intro T H a0 r hm;rw[rN] at hm;have e:=trivial;refine wi acd func258 [] [] 2 ?_;simp[e];refine Wj hm 999 999 (λb f h=>∃(v2:Bool),(h=H/\f.1 2=sB v2)/\b v2=some r) (λb g a m=>?_) ?_;rotate_left
 ·rintro c i ⟨v2,E,m⟩;have e:=Aj e E;cases m;simp[e]
 rcases Io e m with⟨e,m⟩|⟨e,m⟩;rotate_left
 ·simp[e];exact a _ _ ⟨false,by simp[e],m⟩
 have⟨d,e,m⟩:=ep e m;simp[e];exact a _ _ ⟨(eH d 0),by simp[e],m⟩
def vQ:C2 prog 259 kS (t2 Ty.av sI) (sL Ty.av) Tm.av:=by
 intro T H a0 a1 r hm;rw[kS] at hm;have e:=trivial;refine wi acd func259 [] [] 999 ?_;have⟨a,e,m⟩:=ep e hm;simp[e];refine Cf (uh e.2) ?_;rcases Io e m with⟨e,m⟩|⟨e,m⟩
 ·cases m;simp[e]
 have⟨b,c,e,m⟩:=gv e m;simp[e];refine Cf (A8 e.2) ?_;cases m;simp[e]
def HN(T:fa):∀(n:Nat),(∀{H:eD} {a0:Tm} {a1:Int} {a2:(List (Int×Bool))} {d:(List (Int×Bool))} {o2:Nat} (g:H[o2]?=some [oH sB a2]) (hm:kj n a0 a1 a2=some d),eZ prog T 129 [Tm.av a0,sI a1,AV.mh o2] H (AV.tuple []) (gb H o2 [oH sB d])):=by
  intro n
  induction n with
  |zero=>
    skip
    all_goals(intro _ _;intros;rename_i hm;cases hm)
  |succ n v=>
 intro H a0 a1 a2 d o2 g hm;rw[kj] at hm;have p:=fW g;refine fG.Iy g ?_;have e:=p;refine wi acd func129 [] [] 2 ?_;simp[e];refine Wj hm 0 999 (λt f h=>∃(v2:(List (Int×Bool))) (c:Nat),(h=gb H o2 [oH sB v2]/\f.1 1=sI a1/\f.1 2=AV.mh o2/\f.1 3=AV.eC 3 c 0/\f.gen 3=c/\f.box 3=some [sI a0.ab9,sI a0.aca,sI a0.dv.ab9,sL Ty.av a0.dv.ab_,sL Tm.av a0.ab_])/\t v2=some d) (λt C j m=>?_) ?_
 ·refine wj 999 999 (λf h=>∃(b:Nat),h=gb H o2 [oH sB a2]/\f.1 1=sI a1/\f.1 2=AV.mh o2/\f.1 3=AV.eC 3 b 0/\f.1 16=sB (fU (eH a0.ab9 1) (sN a0.aca a1) false)/\f.gen 3=b/\f.box 3=some [sI a0.ab9,sI a0.aca,sI a0.dv.ab9,sL Ty.av a0.dv.ab_,sL Tm.av a0.ab_]) (λD k=>?_) ?_
  ·rcases Pb (eH a0.ab9 1) e with e|e
   ·simp[e];exact k _ _ ⟨1,by simp[e]⟩
   simp[e];exact k _ _ ⟨1,by simp[e]⟩
  rintro w F ⟨b,E⟩;have e:=Aj e E;rcases Io e m with⟨e,m⟩|⟨e,m⟩;rotate_left
  ·simp[e];exact j _ _ ⟨a2,b,by simp[e],m⟩
  simp[e];refine tJ.i64 (f:=sB) a2 true Ot uJ (by simp[e]) (by simp[e]) ?_;simp[e];exact j _ _ ⟨(uL a2 (fD .i64 a0.aca a1) true),b,by simp[e],m⟩
 rintro x G ⟨v2,c,E,m⟩;have e:=Aj e E;simp[e];refine Wr e m 999 (λu i f h=>∃(a:Nat),h=gb H o2 [oH sB i]/\f.1 1=sI a1/\f.1 2=AV.mh o2/\f.1 3=AV.eC 3 a 0/\f.1 23=sL Tm.av a0.ab_/\f.1 24=sI (eM a0.ab_)/\f.1 25=sI u/\f.gen 3=a/\f.box 3=some [sI a0.ab9,sI a0.aca,sI a0.dv.ab9,sL Ty.av a0.dv.ab_,sL Tm.av a0.ab_]) ⟨c,by simp[e]⟩ (λi l q r E m=>?_) (λu y i l q r z A E e m s o=>?_)
 ·have⟨a,E⟩:=E;have e:=Aj e E;dsimp only[ei]at m;cases m;simp[e]
 have⟨a,E⟩:=E;have e:=Aj e E;have⟨B,e,m⟩:=ep e m;simp[e];refine Cs (rl e.2) ?_;have⟨d19,e,m⟩:=ep e m;simp[e];refine Cs (v (by simp[e]) e.2) ?_;simp[e];cases m;exact o _ _ _ ⟨a,by simp[e]⟩ s
def yk(T:fa){H:eD}{a0:Tm}{a1:Int}{a2:(List (Int×Bool))}{a:(List (Int×Bool))}{o2:Nat}(b:H[o2]?=some [oH sB a2]){n:Nat}(hm:kj n a0 a1 a2=some a):eZ prog T 129 [Tm.av a0,sI a1,AV.mh o2] H (AV.tuple []) (gb H o2 [oH sB a]):=(HN T n) b hm
def KA(T:fa){H:eD}{a0:Tm}{a:List Int}{b:Int}(hm:vI a0=some (a,b)):eZ prog T 58 [Tm.av a0] H (AV.tuple [sL sI a,sI b]) H:=by
 rw[vI] at hm;refine fG.tK (Post:=λx K=>x=AV.tuple [sL sI a,sI b]/\∃X,K=H++X) ?_ (λ_ _ h=>⟨_,h.2.choose_spec,by rw[h.1];simp[AV.low,AV.iZ],h.1,rfl⟩);have e:=trivial;refine wi acd func58 [] [] 999 ?_;have⟨c,e,m⟩:=ep e hm;simp[e];refine Cf (og e.2) ?_;rcases Io e m with⟨e,m⟩|⟨e,m⟩
 ·cases m;simp[e]
 have⟨d2,e,m⟩:=ep e m;simp[e];refine Cf (yk T (by simp[e]) e.2) ?_;have⟨d,d4,e,m⟩:=gv e m;simp[e];refine Cf (va T (by simp[e]) e.2) ?_;cases m;simp[e]
def ux:C1 prog 260 kM (sL sI) Tm.av:=by
 intro T H a0 r hm;rw[kM] at hm;have e:=trivial;refine wi acd func260 [] [] 999 ?_;have⟨a,b,e,m⟩:=gv e hm;simp[e];refine Cf (KA T e.2) ?_;cases m;simp[e]
def Hx:∀(n:Nat),C2 prog 113 (oO n) sB Fm.av sI:=by
  intro n
  induction n with
  |zero=>
    skip
    all_goals(intro _ _;intros;rename_i hm;cases hm)
  |succ n s=>
 intro T H a0 a1 r hm;rw[oO] at hm;have e:=trivial;refine wi acd func113 [] [] 999 ?_;simp[e];refine Wr e hm 999 (λp s2 f h=>∃(a:Nat),h=H/\f.1 1=sI a1/\f.1 2=AV.eC 2 a 0/\f.1 10=sL Tm.av a0.ej/\f.1 11=sI (eM a0.ej)/\f.1 12=sI p/\f.gen 2=a/\f.box 2=some [sI a0.ab9,sI a0.dv.ab9,sL Ty.av a0.dv.ab_,sL Tm.av a0.ej,sL Fm.av a0.ab_]) ⟨1,by simp[e]⟩ (λs2 j t u E m=>?_) (λp A s2 j t u n6 B E e m q k=>?_);rotate_left
 ·have⟨a,E⟩:=E;have e:=Aj e E;have⟨v,e,m⟩:=ep e m;simp[e];refine Cf (wO e.2) ?_;rcases Io e m with⟨e,m⟩|⟨e,m⟩;rotate_left
  ·cases m;cases q;simp[e]
  simp[e];cases m;exact k _ _ _ ⟨a,by simp[e]⟩ q
 have⟨a,E⟩:=E;have e:=Aj e E;dsimp only[ei]at m;simp[e];refine Wr e m 999 (λb c f h=>h=H/\f.1 1=sI a1/\f.1 22=sL Fm.av a0.ab_/\f.1 23=sI (eM a0.ab_)/\f.1 24=sI b) (by simp[e]) (λc d l o E m=>?_) (λb w c d l o x y E e m g i=>?_)
 ·have e:=Aj e E;dsimp only[ei]at m;cases m;simp[e]
 have e:=Aj e E;have⟨z,e,m⟩:=ep e m;simp[e];refine Cf (s e.2) ?_;rcases Io e m with⟨e,m⟩|⟨e,m⟩;rotate_left
 ·cases m;cases g;simp[e]
 simp[e];cases m;exact i _ _ _ (by simp[e]) g
def II{n:Nat}:C2 prog 113 (oO n) sB Fm.av sI:=(Hx n)
def F6:∀(n:Nat),C2 prog 116 (oQ n) sI Fm.av sI:=by
  intro n
  induction n with
  |zero=>
   skip
   all_goals(intro _ _;intros;rename_i hm;cases hm)
  |succ n s=>
 intro T H a0 a1 r hm;rw[oQ] at hm;have e:=trivial;refine wi acd func116 [] [] 999 ?_;simp[e];refine Wr e hm 999 (λq s2 f h=>∃(b:Nat),h=H/\f.1 1=sI a1/\f.1 2=AV.eC 2 b 0/\f.1 5=sI s2/\f.1 11=sL Tm.av a0.ej/\f.1 12=sI (eM a0.ej)/\f.1 13=sI q/\f.gen 2=b/\f.box 2=some [sI a0.ab9,sI a0.dv.ab9,sL Ty.av a0.dv.ab_,sL Tm.av a0.ej,sL Fm.av a0.ab_]) ⟨1,by simp[e]⟩ (λs2 j t u E m=>?_) (λq C s2 j t u n6 D E e m v k=>?_);rotate_left
 ·have⟨b,E⟩:=E;have e:=Aj e E;have⟨w,e,m⟩:=ep e m;simp[e];refine Cf (A3 e.2) ?_;simp[e];cases m;exact k _ _ _ ⟨b,by simp[e]⟩ v
 have⟨b,E⟩:=E;have e:=Aj e E;dsimp only[ei]at m;simp[e];refine Wr e m 999 (λd c f h=>∃(a:Nat),h=H/\f.1 1=sI a1/\f.1 2=AV.eC 2 a 0/\f.1 5=sI c/\f.1 24=sL Fm.av a0.ab_/\f.1 25=sI (eM a0.ab_)/\f.1 26=sI d/\f.gen 2=a/\f.box 2=some [sI a0.ab9,sI a0.dv.ab9,sL Ty.av a0.dv.ab_,sL Tm.av a0.ej,sL Fm.av a0.ab_]) ⟨b,by simp[e]⟩ (λc g l o E m=>?_) (λd x c g l o y z E e m p i=>?_)
 ·have⟨a,E⟩:=E;have e:=Aj e E;dsimp only[ei]at m;cases m;simp[e]
 have⟨a,E⟩:=E;have e:=Aj e E;have⟨A,e,m⟩:=ep e m;simp[e];refine Cs (q8 e.2) ?_;have⟨B,e,m⟩:=ep e m;simp[e];refine Cs (s e.2) ?_;simp[e];cases m;exact i _ _ _ ⟨a,by simp[e]⟩ p
def HV{n:Nat}:C2 prog 116 (oQ n) sI Fm.av sI:=(F6 n)
def L7:∀(n:Nat),C4 prog 118 (vN n) Fm.av Fm.av sI sI Tm.av:=by
  intro n
  induction n with
  |zero=>
   skip
   all_goals(intro _ _;intros;rename_i hm;cases hm)
  |succ n I=>
 intro T H a0 a1 a2 a3 r hm;rw[vN] at hm;have e:=trivial;refine wi acd func118 [] [] 999 ?_;simp[e];refine Wr e hm 999 (λG s2 f h=>∃(c:Tag) (k:Nat) (l:Nat) (o:Nat) (p:Nat),(h=H/\f.1 1=sI a1/\f.1 2=sI a2/\f.1 4=AV.eC 4 k 0/\f.1 7=AV.eC 7 l 0/\f.1 8=AV.eC 8 o 0/\f.1 9=AV.eC 9 p 0/\f.1 20=sL Tm.av a0.ej/\f.1 21=sI (eM a0.ej)/\f.1 22=sI G/\f.gen 4=k/\f.box 4=some [sI a0.ab9,sI a0.dv.ab9,sL Ty.av a0.dv.ab_,sL Tm.av a0.ej,sL Fm.av a0.ab_]/\f.gen 7=l/\f.box 7=some [sI a3.ab9,sI a3.aca,sI a3.dv.ab9,sL Ty.av a3.dv.ab_,sL Tm.av a3.ab_]/\f.gen 8=o/\f.box 8=some [sI 0,sI 0,AV.slice .full [],AV.slice .full [],AV.slice .full []]/\f.gen 9=p/\f.box 9=some [sI a0.ab9,sI a0.dv.ab9,sL Ty.av a0.dv.ab_,sT c Tm.av s2,AV.slice .full []])/\Ow f [34] c s2) (by exact⟨.full,1,1,1,1,by simp[e],iX.full⟩) (λs2 w J K E m=>?_) (λG Q s2 w J K n6 R E e m L z=>?_);rotate_left
 ·have⟨c,k,l,o,p,E,s⟩:=E;have e:=Aj e E;have⟨A,e,m⟩:=ep e m;simp[e];refine Cs (F5 e.2) ?_;have⟨e,m⟩:=Ck e m;simp[e];refine Ad (f:=Tm.av) s2 [A] s Ct e.2 ?_;simp[e];cases m;exact z _ _ _ ⟨(.loc 34 (w.fN 34+1)),k,l,o,p,by simp[e],(On 34)⟩ L
 have⟨c,k,l,o,p,E,s⟩:=E;have e:=Aj e E;dsimp only[ei]at m;simp[e];refine Wr e m 999 (λx t f h=>∃(a:Tag) (b:Tag) (d:Nat) (g:Nat) (i:Nat) (j:Nat),(h=H/\f.1 1=sI a1/\f.1 2=sI a2/\f.1 4=AV.eC 4 d 0/\f.1 7=AV.eC 7 g 0/\f.1 8=AV.eC 8 i 0/\f.1 9=AV.eC 9 j 0/\f.1 38=sL Fm.av a0.ab_/\f.1 39=sI (eM a0.ab_)/\f.1 40=sI x/\f.gen 4=d/\f.box 4=some [sI a0.ab9,sI a0.dv.ab9,sL Ty.av a0.dv.ab_,sL Tm.av a0.ej,sL Fm.av a0.ab_]/\f.gen 7=g/\f.box 7=some [sI a3.ab9,sI a3.aca,sI a3.dv.ab9,sL Ty.av a3.dv.ab_,sL Tm.av a3.ab_]/\f.gen 8=i/\f.box 8=some [sI 0,sI 0,AV.slice .full [],AV.slice .full [],AV.slice .full []]/\f.gen 9=j/\f.box 9=some [sI a0.ab9,sI a0.dv.ab9,sL Ty.av a0.dv.ab_,sT a Tm.av s2,sT b Fm.av t])/\Ow f [34] a s2/\Ow f [55] b t) (by exact⟨c,.full,k,l,o,p,by simp[e],s,iX.full⟩) (λt v B C E m=>?_) (λx M t v B C N O E e m D y=>?_)
 ·have⟨a,b,d,g,i,j,E,u,q⟩:=E;have e:=Aj e E;dsimp only[ei]at m;cases m;simp[e]
 have⟨a,b,d,g,i,j,E,u,q⟩:=E;have e:=Aj e E;have⟨P,e,m⟩:=ep e m;simp[e];refine Cs (q8 e.2) ?_;have⟨F,e,m⟩:=ep e m;simp[e];refine Cs (I e.2) ?_;have⟨e,m⟩:=Ck e m;simp[e];refine Ad (f:=Fm.av) t [F] q DA e.2 ?_;simp[e];cases m;exact y _ _ _ ⟨a,(.loc 55 (v.fN 55+1)),d,g,i,j,by simp[e],(iX.other u q (by decide) (by decide)),(On 55)⟩ D
def Oc{n:Nat}:C4 prog 118 (vN n) Fm.av Fm.av sI sI Tm.av:=(L7 n)
def MP:C3 prog 45 xf (t2 Fm.av sI) Fm.av sI Tm.av:=by
 intro T H a0 a1 a2 r hm;rw[xf] at hm;have e:=trivial;refine wi acd func45 [] [] 7 ?_;have⟨z,e,m⟩:=ep e hm;simp[e];refine Cf (n9 e.2) ?_;simp[e];rcases Io e m with⟨e,m⟩|⟨e,m⟩
 ·apply wg 999;cases m;simp[e]
 apply wg 3;simp[e];refine wj 999 0 (λf h=>∃(a:Nat) (b:Nat) (c:Nat),h=H/\f.1 1=sI a1/\f.1 3=AV.eC 3 a 0/\f.1 5=AV.eC 5 b 0/\f.1 6=AV.eC 6 c 0/\f.1 21=sB (fU (ue a1 0) true (nX a1 4096))/\f.gen 3=a/\f.box 3=some [sI a0.ab9,sI a0.dv.ab9,sL Ty.av a0.dv.ab_,sL Tm.av a0.ej,sL Fm.av a0.ab_]/\f.gen 5=b/\f.box 5=some [sI a2.ab9,sI a2.aca,sI a2.dv.ab9,sL Ty.av a2.dv.ab_,sL Tm.av a2.ab_]/\f.gen 6=c/\f.box 6=some [sI 0,sI 0,AV.slice .full [],AV.slice .full [],AV.slice .full []]) (λA j=>?_) ?_
 ·rcases Pb (ue a1 0) e with e|e
  ·simp[e];exact j _ _ ⟨1,1,1,by simp[e]⟩
  simp[e];exact j _ _ ⟨1,1,1,by simp[e]⟩
 rintro q B ⟨a,b,c,E⟩;have e:=Aj e E;rcases Io e m with⟨e,m⟩|⟨e,m⟩
 ·apply wg 999;cases m;simp[e]
 apply wg 7;have⟨C,e,m⟩:=ep e m;simp[e];refine Cf (og e.2) ?_;simp[e];rcases Io e m with⟨e,m⟩|⟨e,m⟩
 ·apply wg 999;cases m;simp[e]
 apply wg 3;simp[e];refine Wj m 999 999 (λo f h=>∃(l:Bool) (d:Nat) (g:Nat) (i:Nat),(h=H/\f.1 1=sI a1/\f.1 3=AV.eC 3 d 0/\f.1 5=AV.eC 5 g 0/\f.1 6=AV.eC 6 i 0/\f.1 36=sB l/\f.gen 3=d/\f.box 3=some [sI a0.ab9,sI a0.dv.ab9,sL Ty.av a0.dv.ab_,sL Tm.av a0.ej,sL Fm.av a0.ab_]/\f.gen 5=g/\f.box 5=some [sI a2.ab9,sI a2.aca,sI a2.dv.ab9,sL Ty.av a2.dv.ab_,sL Tm.av a2.ab_]/\f.gen 6=i/\f.box 6=some [sI 0,sI 0,AV.slice .full [],AV.slice .full [],AV.slice .full []])/\o l=some r) (λo D k m=>?_) ?_
 ·have⟨s,e,m⟩:=ep e m;simp[e];refine Cf (II e.2) ?_;rcases Io e m with⟨e,m⟩|⟨e,m⟩;rotate_left
  ·simp[e];exact k _ _ ⟨true,a,b,c,by simp[e],m⟩
  have⟨n,e,m⟩:=ep e m;simp[e];refine Cf (wO e.2) ?_;simp[e];exact k _ _ ⟨(nt n),a,b,c,by simp[e],m⟩
 rintro p t ⟨l,d,g,i,E,m⟩;have e:=Aj e E;rcases Io e m with⟨e,m⟩|⟨e,m⟩
 ·cases m;simp[e]
 have⟨u,e,m⟩:=ep e m;simp[e];refine Cs (tB e.2) ?_;have⟨v,e,m⟩:=ep e m;simp[e];refine Cs (HV e.2) ?_;have⟨w,e,m⟩:=ep e m;simp[e];refine Cs (gX e.2) ?_;rcases Io e m with⟨e,m⟩|⟨e,m⟩
 ·cases m;simp[e]
 have⟨x,e,m⟩:=ep e m;simp[e];refine Cf (Oc e.2) ?_;have⟨y,e,m⟩:=ep e m;simp[e];refine Cf (kW e.2) ?_;cases m;simp[e]
def rM:C2 prog 261 jZ (t2 Fm.av sI) Fm.av Tm.av:=by
 intro T H a0 a1 r hm;rw[jZ] at hm;have e:=trivial;refine wi acd func261 [] [] 999 ?_;have⟨a,b,e,m⟩:=gv e hm;simp[e];refine Cf (MP e.2) ?_;cases m;simp[e]
def Kb:∀(n:Nat),C2 prog 288 (tq n) sB Tm.av sI:=by
  intro n
  induction n with
  |zero=>
    skip
    all_goals(intro _ _;intros;rename_i hm;cases hm)
  |succ n l=>
 intro T H a0 a1 r hm;rw[tq] at hm;have e:=trivial;refine wi acd func288 [] [] 3 ?_;simp[e];refine wj 999 999 (λf h=>∃(b:Nat),h=H/\f.1 1=sI a1/\f.1 2=AV.eC 2 b 0/\f.1 15=sB (fU (eH a0.ab9 1) (eH a0.aca a1) false)/\f.gen 2=b/\f.box 2=some [sI a0.ab9,sI a0.aca,sI a0.dv.ab9,sL Ty.av a0.dv.ab_,sL Tm.av a0.ab_]) (λv c=>?_) ?_
 ·rcases Pb (eH a0.ab9 1) e with e|e
  ·simp[e];exact c _ _ ⟨1,by simp[e]⟩
  simp[e];exact c _ _ ⟨1,by simp[e]⟩
 rintro o w ⟨b,E⟩;have e:=Aj e E;rcases Io e hm with⟨e,m⟩|⟨e,m⟩
 ·cases m;simp[e]
 simp[e];refine Wr e m 999 (λj k f h=>∃(a:Nat),h=H/\f.1 1=sI a1/\f.1 2=AV.eC 2 a 0/\f.1 17=sL Tm.av a0.ab_/\f.1 18=sI (eM a0.ab_)/\f.1 19=sI j/\f.gen 2=a/\f.box 2=some [sI a0.ab9,sI a0.aca,sI a0.dv.ab9,sL Ty.av a0.dv.ab_,sL Tm.av a0.ab_]) ⟨b,by simp[e]⟩ (λk i p q E m=>?_) (λj x k i p q y s E e m d g=>?_)
 ·have⟨a,E⟩:=E;have e:=Aj e E;dsimp only[ei]at m;cases m;simp[e]
 have⟨a,E⟩:=E;have e:=Aj e E;have⟨t,e,m⟩:=ep e m;simp[e];refine Cs (rl e.2) ?_;have⟨u,e,m⟩:=ep e m;simp[e];refine Cs (l e.2) ?_;rcases Io e m with⟨e,m⟩|⟨e,m⟩
 ·cases m;cases d;simp[e]
 simp[e];cases m;exact g _ _ _ ⟨a,by simp[e]⟩ d
def Mo{n:Nat}:C2 prog 288 (tq n) sB Tm.av sI:=(Kb n)
def JZ:∀(n:Nat),C2 prog 263 (pF n) sB Fm.av sI:=by
  intro n
  induction n with
  |zero=>
    skip
    all_goals(intro _ _;intros;rename_i hm;cases hm)
  |succ n t=>
 intro T H a0 a1 r hm;rw[pF] at hm;have e:=trivial;refine wi acd func263 [] [] 999 ?_;simp[e];refine Wr e hm 999 (λq s2 f h=>∃(b:Nat),h=H/\f.1 1=sI a1/\f.1 2=AV.eC 2 b 0/\f.1 10=sL Tm.av a0.ej/\f.1 11=sI (eM a0.ej)/\f.1 12=sI q/\f.gen 2=b/\f.box 2=some [sI a0.ab9,sI a0.dv.ab9,sL Ty.av a0.dv.ab_,sL Tm.av a0.ej,sL Fm.av a0.ab_]) ⟨1,by simp[e]⟩ (λs2 k u v E m=>?_) (λq C s2 k u v n6 D E e m s l=>?_);rotate_left
 ·have⟨b,E⟩:=E;have e:=Aj e E;have⟨w,e,m⟩:=ep e m;simp[e];refine Cf (Mo e.2) ?_;rcases Io e m with⟨e,m⟩|⟨e,m⟩
  ·cases m;cases s;simp[e]
  simp[e];cases m;exact l _ _ _ ⟨b,by simp[e]⟩ s
 have⟨b,E⟩:=E;have e:=Aj e E;dsimp only[ei]at m;simp[e];refine Wr e m 999 (λc d f h=>∃(a:Nat),h=H/\f.1 1=sI a1/\f.1 2=AV.eC 2 a 0/\f.1 21=sL Fm.av a0.ab_/\f.1 22=sI (eM a0.ab_)/\f.1 23=sI c/\f.gen 2=a/\f.box 2=some [sI a0.ab9,sI a0.dv.ab9,sL Ty.av a0.dv.ab_,sL Tm.av a0.ej,sL Fm.av a0.ab_]) ⟨b,by simp[e]⟩ (λd g o p E m=>?_) (λc x d g o p y z E e m i j=>?_)
 ·have⟨a,E⟩:=E;have e:=Aj e E;dsimp only[ei]at m;cases m;simp[e]
 have⟨a,E⟩:=E;have e:=Aj e E;have⟨A,e,m⟩:=ep e m;simp[e];refine Cs (q8 e.2) ?_;have⟨B,e,m⟩:=ep e m;simp[e];refine Cs (t e.2) ?_;rcases Io e m with⟨e,m⟩|⟨e,m⟩
 ·cases m;cases i;simp[e]
 simp[e];cases m;exact j _ _ _ ⟨a,by simp[e]⟩ i
def Em{n:Nat}:C2 prog 263 (pF n) sB Fm.av sI:=(JZ n)
def E6:∀(n:Nat),C1 prog 264 (mC n) (t2 Fm.av sI) Fm.av:=by
  intro n
  induction n with
  |zero=>
    skip
    all_goals(intro _ _;intros;rename_i hm;cases hm)
  |succ n D=>
 intro T H a0 r hm;rw[mC] at hm;have e:=trivial;refine wi acd func264 [] [] 999 ?_;simp[e];refine Wr e hm 999 (λB s2 f h=>∃(c:Tag) (k:Nat) (i:Nat) (j:Nat),(h=H/\f.1 1=AV.eC 1 k 0/\f.1 2=AV.eC 2 i 0/\f.1 4=AV.eC 4 j 0/\f.1 20=sL Tm.av a0.ej/\f.1 21=sI (eM a0.ej)/\f.1 22=sI B/\f.gen 1=k/\f.box 1=some [sI a0.ab9,sI a0.dv.ab9,sL Ty.av a0.dv.ab_,sL Tm.av a0.ej,sL Fm.av a0.ab_]/\f.gen 2=i/\f.box 2=some [sI 0,sI 0,AV.slice .full [],AV.slice .full [],AV.slice .full []]/\f.gen 4=j/\f.box 4=some [sI a0.ab9,sI a0.dv.ab9,sL Ty.av a0.dv.ab_,sT c Tm.av s2,AV.slice .full []])/\Ow f [40] c s2) (by exact⟨.full,1,1,1,by simp[e],iX.full⟩) (λs2 t F G E m=>?_) (λB O s2 t F G n6 P E e m C w=>?_);rotate_left
 ·have⟨c,k,i,j,E,o⟩:=E;have e:=Aj e E;have⟨x,I,J,e,m⟩:=Kd e m;simp[e];refine Cf (vE e.2) ?_;rcases Io e m with⟨e,m⟩|⟨e,m⟩
  ·cases m;cases C;simp[e]
  have⟨e,m⟩:=Ck e m;simp[e];refine Ao (f:=Tm.av) s2 [x] o Ct e.2 ?_;simp[e];cases m;exact w _ _ _ ⟨(.loc 40 (t.fN 40+1)),k,i,j,by simp[e],(On 40)⟩ C
 have⟨c,k,i,j,E,o⟩:=E;have e:=Aj e E;dsimp only[ei]at m;simp[e];refine Wr e m 999 (λu p f h=>∃(a:Tag) (b:Tag) (d:Nat) (g:Nat),(h=H/\f.1 2=AV.eC 2 d 0/\f.1 4=AV.eC 4 g 0/\f.1 44=sL Fm.av a0.ab_/\f.1 45=sI (eM a0.ab_)/\f.1 46=sI u/\f.gen 2=d/\f.box 2=some [sI 0,sI 0,AV.slice .full [],AV.slice .full [],AV.slice .full []]/\f.gen 4=g/\f.box 4=some [sI a0.ab9,sI a0.dv.ab9,sL Ty.av a0.dv.ab_,sT a Tm.av s2,sT b Fm.av p])/\Ow f [40] a s2/\Ow f [63] b p) (by exact⟨c,.full,i,j,by simp[e],o,iX.full⟩) (λp s y z E m=>?_) (λu K p s y z L M E e m z20 v=>?_)
 ·have⟨a,b,d,g,E,q,l⟩:=E;have e:=Aj e E;dsimp only[ei]at m;cases m;simp[e]
 have⟨a,b,d,g,E,q,l⟩:=E;have e:=Aj e E;have⟨A,N,e,m⟩:=gv e m;simp[e];refine Cf (D e.2) ?_;rcases Io e m with⟨e,m⟩|⟨e,m⟩
 ·cases m;cases z20;simp[e]
 have⟨e,m⟩:=Ck e m;simp[e];refine Ao (f:=Fm.av) p [A] l DA e.2 ?_;simp[e];cases m;exact v _ _ _ ⟨a,(.loc 63 (s.fN 63+1)),d,g,by simp[e],(iX.other q l (by decide) (by decide)),(On 63)⟩ z20
def F4{n:Nat}:C1 prog 264 (mC n) (t2 Fm.av sI) Fm.av:=(E6 n)
def pM:C3 prog 226 ij sI en.av Tm.av sI:=by
 intro T H a0 a1 a2 r hm;rw[ij] at hm;have e:=trivial;refine wi acd func226 [] [] 999 ?_;have⟨a,b,e,m⟩:=gv e hm;simp[e];refine Cf (vQ e.2) ?_;rcases Io e m with⟨e,m⟩|⟨e,m⟩
 ·cases m;simp[e]
 rcases Io e m with⟨e,m⟩|⟨e,m⟩
 ·cases m;simp[e]
 cases m;simp[e]
def Eb:∀(n:Nat),C1 prog 110 (jM n) sB Fm.av:=by
  intro n
  induction n with
  |zero=>
    skip
    all_goals(intro _ _;intros;rename_i hm;cases hm)
  |succ n b=>
 intro T H a0 r hm;rw[jM] at hm;have e:=trivial;refine wi acd func110 [] [] 8 ?_;simp[e];rcases Io e hm with⟨e,m⟩|⟨e,m⟩
 ·apply wg 999;cases m;simp[e]
 apply wg 3;simp[e];rcases Io e m with⟨e,m⟩|⟨e,m⟩;rotate_left
 ·apply wg 999;rcases Io e m with⟨e,m⟩|⟨e,m⟩
  ·cases m;simp[e]
  have⟨j,e,m⟩:=ep e m;have⟨k,e,m⟩:=ep e m;simp[e];refine Cf (b e.2) ?_;cases m;simp[e]
 apply wg 1;simp[e];refine Wj m 999 999 (λd f h=>∃(v4:Bool),(h=H/\f.1 2=sB v4)/\d v4=some r) (λd l a m=>?_) ?_;rotate_left
 ·rintro g o ⟨v4,E,m⟩;have e:=Aj e E;cases m;simp[e]
 have⟨p,e,m⟩:=ep e m;have⟨q,e,m⟩:=ep e m;simp[e];refine Cf (b e.2) ?_;rcases Io e m with⟨e,m⟩|⟨e,m⟩
 ·simp[e];exact a _ _ ⟨true,by simp[e],m⟩
 have⟨i,e,m⟩:=ep e m;have⟨c,e,m⟩:=ep e m;simp[e];refine Cf (b e.2) ?_;simp[e];exact a _ _ ⟨c,by simp[e],m⟩
def Fh{n:Nat}:C1 prog 110 (jM n) sB Fm.av:=(Eb n)
def yL:C1 prog 43 n_ (t2 sB sI) Fm.av:=by
 intro T H a0 r hm;rw[n_] at hm;have e:=trivial;refine wi acd func43 [] [] 999 ?_;have⟨a,e,m⟩:=ep e hm;simp[e];refine Cf (n9 e.2) ?_;rcases Io e m with⟨e,m⟩|⟨e,m⟩
 ·cases m;simp[e]
 have⟨b,e,m⟩:=ep e m;simp[e];refine Cf (Fh e.2) ?_;cases m;simp[e]
def ym:∀(n:Nat),C2 prog 86 (eL n) (t2 sQ.av sI) en.av Pf.av/\C2 prog 160 (eF n) (t3 Fm.av (sL sI) sI) en.av Pf.av/\C2 prog 220 (kJ n) (t3 Fm.av (sL sI) sI) en.av Pf.av/\C2 prog 221 (ly n) (t3 Fm.av (sL sI) sI) en.av Pf.av/\C2 prog 222 (lv n) (t3 Fm.av (sL sI) sI) en.av Pf.av/\C2 prog 223 (km n) (t3 Fm.av (sL sI) sI) en.av Pf.av/\C2 prog 224 (nL n) (t3 Fm.av (sL sI) sI) en.av Pf.av/\C2 prog 225 (mu n) (t3 Fm.av (sL sI) sI) en.av Pf.av/\C2 prog 227 (mm n) (t3 Fm.av (sL sI) sI) en.av Pf.av/\C2 prog 228 (lR n) (t3 Fm.av (sL sI) sI) en.av Pf.av/\C4 prog 262 (fA n) (t2 (sL sI) sI) en.av Pf.av Fm.av Tm.av:=by
  intro n
  induction n with
  |zero=>
    refine⟨?_,?_,?_,?_,?_,?_,?_,?_,?_,?_,?_⟩
    all_goals(intro _ _;intros;rename_i hm;cases hm)
  |succ n k=>
 refine⟨?_,?_,?_,?_,?_,?_,?_,?_,?_,?_,?_⟩
 ·intro T H a0 a1 r hm;rw[eL] at hm;have e:=trivial;refine wi acd func86 [] [] 7 ?_;have⟨x1,x2,x3,e,m⟩:=Kd e hm;simp[e];refine Cf (k.2.1 e.2) ?_;simp[e];rcases Io e m with⟨e,m⟩|⟨e,m⟩
  ·apply wg 999;cases m;simp[e]
  apply wg 5;have⟨x4,e,m⟩:=ep e m;simp[e];refine Cf (n9 e.2) ?_;simp[e];rcases Io e m with⟨e,m⟩|⟨e,m⟩
  ·apply wg 999;cases m;simp[e]
  apply wg 2;simp[e];refine Wj m 999 999 (λj5 f h=>∃(v6:List Int) (af:Tag) (ah:Nat) (ai:Nat),(h=H/\f.1 4=AV.eC 4 ah 0/\f.1 6=AV.eC 6 ai 0/\f.1 7=sT af sI v6/\f.gen 4=ah/\f.box 4=some [sI 0,sI 0,AV.slice .full [],AV.slice .full [],AV.slice .full [],AV.slice .full []]/\f.gen 6=ai/\f.box 6=some [sI x1.ab9,sI x1.dv.ab9,sL Ty.av x1.dv.ab_,sL Tm.av x1.ej,sL Fm.av x1.ab_])/\j5 v6=some r) (λj5 K7 aX m=>?_) ?_;rotate_left
  ·rintro cI h9 ⟨v6,af,ah,ai,E,m⟩;have e:=Aj e E;cases m;simp[e]
  have⟨bh,aY,e,m⟩:=gv e m;simp[e];refine Cf (yL e.2) ?_;rcases Io e m with⟨e,m⟩|⟨e,m⟩
  ·simp[e];exact aX _ _ ⟨x2,.iP,1,1,by simp[e],m⟩
  simp[e];exact aX _ _ ⟨[],.full,1,1,by simp[e],m⟩
 ·intro T H a0 a1 r hm;rw[eF] at hm;have e:=trivial;refine wi acd func160 [] [] 10 ?_;simp[e];rcases Io e hm with⟨e,m⟩|⟨e,m⟩
  ·apply wg 999;rcases Io e m with⟨e,m⟩|⟨e,m⟩
   ·cases m;simp[e]
   have⟨cJ,e,m⟩:=ep e m;cases m;simp[e]
  apply wg 3;simp[e];rcases Io e m with⟨e,m⟩|⟨e,m⟩
  ·apply wg 999;rcases Io e m with⟨e,m⟩|⟨e,m⟩
   ·cases m;simp[e]
   have⟨cK,e,m⟩:=ep e m;cases m;simp[e]
  apply wg 3;simp[e];rcases Io e m with⟨e,m⟩|⟨e,m⟩
  ·apply wg 999;have⟨cL,e,m⟩:=ep e m;have⟨cM,cN,e,m⟩:=gv e m;simp[e];refine Cs (k.1 e.2) ?_;rcases Io e m with⟨e,m⟩|⟨e,m⟩
   ·cases m;simp[e]
   have⟨cO,e,m⟩:=ep e m;have⟨cP,cQ,e,m⟩:=gv e m;simp[e];refine Cs (k.1 e.2) ?_;have⟨cR,e,m⟩:=ep e m;simp[e];refine Cs (wy e.2) ?_;have⟨cS,e,m⟩:=ep e m;simp[e];refine Cs (lB T e.2) ?_;cases m;simp[e]
  apply wg 1;simp[e];refine wj 999 0 (λf h=>∃(l:Nat) (o:Nat) (p:Nat) (S:Nat),h=H/\f.1 2=AV.eC 2 l 0/\f.1 3=AV.eC 3 o 0/\f.1 4=AV.eC 4 p 0/\f.1 7=AV.eC 7 S 0/\f.1 22=sI a1.ab9/\f.1 93=sB (fU (eH a1.ab9 4) true (eH a1.ab9 5))/\f.gen 2=l/\f.box 2=some [sL Fm.av a0.lemmas,sL Ty.av a0.acb,sL Fm.av a0.acf]/\f.gen 3=o/\f.box 3=some [sI a1.ab9,sI a1.aca,sI a1.dv.ab9,sL Ty.av a1.dv.ab_,sL Tm.av a1.ej,sL Fm.av a1.fj,sL Pf.av a1.ab_]/\f.gen 4=p/\f.box 4=some [sI 0,sI 0,AV.slice .full [],AV.slice .full [],AV.slice .full []]/\f.gen 7=S/\f.box 7=some [sI 0,sI 0,AV.slice .full [],AV.slice .full [],AV.slice .full []]) (λcT aD=>?_) ?_
  ·rcases Pb (eH a1.ab9 4) e with e|e
   ·simp[e];exact aD _ _ ⟨1,1,1,1,by simp[e]⟩
   simp[e];exact aD _ _ ⟨1,1,1,1,by simp[e]⟩
  rintro bq cU ⟨l,o,p,S,E⟩;have e:=Aj e E;rcases Io e m with⟨e,m⟩|⟨e,m⟩
  ·apply wg 999;have⟨cV,e,m⟩:=ep e m;have⟨cW,cX,e,m⟩:=gv e m;simp[e];refine Cs (k.1 e.2) ?_;rcases Io e m with⟨e,m⟩|⟨e,m⟩
   ·cases m;simp[e]
   rcases Io e m with⟨e,m⟩|⟨e,m⟩
   ·cases m;simp[e]
   have⟨cY,e,m⟩:=ep e m;cases m;simp[e]
  apply wg 3;simp[e];rcases Io e m with⟨e,m⟩|⟨e,m⟩
  ·apply wg 999;have⟨cZ,e,m⟩:=ep e m;have⟨c0,e,m⟩:=ep e m;simp[e];refine Cs (rb e.2) ?_;rcases Io e m with⟨e,m⟩|⟨e,m⟩
   ·cases m;simp[e]
   have⟨c1,e,m⟩:=ep e m;simp[e];refine Cf (lN e.2) ?_;rcases Io e m with⟨e,m⟩|⟨e,m⟩
   ·cases m;simp[e]
   have⟨c2,e,m⟩:=ep e m;simp[e];refine Cs (nF e.2) ?_;have⟨c4,e,m⟩:=ep e m;have⟨c6,c7,e,m⟩:=gv e m;simp[e];refine Cs (k.1 e.2) ?_;have⟨c8,e,m⟩:=ep e m;simp[e];refine Cs (wy e.2) ?_;cases m;simp[e]
  apply wg 3;simp[e];rcases Io e m with⟨e,m⟩|⟨e,m⟩
  ·apply wg 999;have⟨c9,e,m⟩:=ep e m;have⟨c_,c',e,m⟩:=gv e m;simp[e];refine Cs (k.1 e.2) ?_;rcases Io e m with⟨e,m⟩|⟨e,m⟩
   ·cases m;simp[e]
   rcases Io e m with⟨e,m⟩|⟨e,m⟩
   ·cases m;simp[e]
   have⟨da,e,m⟩:=ep e m;have⟨db,dc,e,m⟩:=gv e m;simp[e];refine Cs (k.1 e.2) ?_;rcases Io e m with⟨e,m⟩|⟨e,m⟩
   ·cases m;simp[e]
   have⟨dd,e,m⟩:=ep e m;have⟨de,e,m⟩:=ep e m;simp[e];refine Cs (lB T e.2) ?_;have⟨df,e,m⟩:=ep e m;have⟨dg,e,m⟩:=ep e m;simp[e];refine Cs (AT e.2) ?_;cases m;simp[e]
  apply wg 1;simp[e];refine wj 999 0 (λf h=>∃(q:Nat) (s:Nat) (t:Nat),h=H/\f.1 2=AV.eC 2 q 0/\f.1 3=AV.eC 3 s 0/\f.1 4=AV.eC 4 t 0/\f.1 22=sI a1.ab9/\f.1 218=sB (fU (eH a1.ab9 8) true (eH a1.ab9 12))/\f.gen 2=q/\f.box 2=some [sL Fm.av a0.lemmas,sL Ty.av a0.acb,sL Fm.av a0.acf]/\f.gen 3=s/\f.box 3=some [sI a1.ab9,sI a1.aca,sI a1.dv.ab9,sL Ty.av a1.dv.ab_,sL Tm.av a1.ej,sL Fm.av a1.fj,sL Pf.av a1.ab_]/\f.gen 4=t/\f.box 4=some [sI 0,sI 0,AV.slice .full [],AV.slice .full [],AV.slice .full []]) (λdh aE=>?_) ?_
  ·rcases Pb (eH a1.ab9 8) e with e|e
   ·simp[e];exact aE _ _ ⟨l,o,p,by simp[e]⟩
   simp[e];exact aE _ _ ⟨l,o,p,by simp[e]⟩
  rintro br di ⟨q,s,t,E⟩;have e:=Aj e E;rcases Io e m with⟨e,m⟩|⟨e,m⟩
  ·apply wg 999;have⟨dj,dk,dm,e,m⟩:=Kd e m;simp[e];refine Cf (k.2.2.1 e.2) ?_;cases m;simp[e]
  apply wg 1;simp[e];refine wj 999 0 (λf h=>∃(u:Nat) (v:Nat) (w:Nat),h=H/\f.1 2=AV.eC 2 u 0/\f.1 3=AV.eC 3 v 0/\f.1 4=AV.eC 4 w 0/\f.1 22=sI a1.ab9/\f.1 227=sB (fU (eH a1.ab9 9) true (eH a1.ab9 13))/\f.gen 2=u/\f.box 2=some [sL Fm.av a0.lemmas,sL Ty.av a0.acb,sL Fm.av a0.acf]/\f.gen 3=v/\f.box 3=some [sI a1.ab9,sI a1.aca,sI a1.dv.ab9,sL Ty.av a1.dv.ab_,sL Tm.av a1.ej,sL Fm.av a1.fj,sL Pf.av a1.ab_]/\f.gen 4=w/\f.box 4=some [sI 0,sI 0,AV.slice .full [],AV.slice .full [],AV.slice .full []]) (λdn aF=>?_) ?_
  ·rcases Pb (eH a1.ab9 9) e with e|e
   ·simp[e];exact aF _ _ ⟨q,s,t,by simp[e]⟩
   simp[e];exact aF _ _ ⟨q,s,t,by simp[e]⟩
  rintro bs dp ⟨u,v,w,E⟩;have e:=Aj e E;rcases Io e m with⟨e,m⟩|⟨e,m⟩
  ·apply wg 999;have⟨dq,dr,ds,e,m⟩:=Kd e m;simp[e];refine Cf (k.2.2.2.1 e.2) ?_;cases m;simp[e]
  apply wg 1;simp[e];refine wj 999 0 (λf h=>∃(x:Nat) (y:Nat) (z:Nat),h=H/\f.1 2=AV.eC 2 x 0/\f.1 3=AV.eC 3 y 0/\f.1 4=AV.eC 4 z 0/\f.1 22=sI a1.ab9/\f.1 236=sB (fU (eH a1.ab9 10) true (eH a1.ab9 14))/\f.gen 2=x/\f.box 2=some [sL Fm.av a0.lemmas,sL Ty.av a0.acb,sL Fm.av a0.acf]/\f.gen 3=y/\f.box 3=some [sI a1.ab9,sI a1.aca,sI a1.dv.ab9,sL Ty.av a1.dv.ab_,sL Tm.av a1.ej,sL Fm.av a1.fj,sL Pf.av a1.ab_]/\f.gen 4=z/\f.box 4=some [sI 0,sI 0,AV.slice .full [],AV.slice .full [],AV.slice .full []]) (λdt aG=>?_) ?_
  ·rcases Pb (eH a1.ab9 10) e with e|e
   ·simp[e];exact aG _ _ ⟨u,v,w,by simp[e]⟩
   simp[e];exact aG _ _ ⟨u,v,w,by simp[e]⟩
  rintro bt du ⟨x,y,z,E⟩;have e:=Aj e E;rcases Io e m with⟨e,m⟩|⟨e,m⟩
  ·apply wg 999;have⟨dw,dx,dy,e,m⟩:=Kd e m;simp[e];refine Cf (k.2.2.2.2.1 e.2) ?_;cases m;simp[e]
  apply wg 1;simp[e];refine wj 999 999 (λf h=>∃(U:Nat) (V:Nat) (W:Nat),h=H/\f.1 2=AV.eC 2 U 0/\f.1 3=AV.eC 3 V 0/\f.1 4=AV.eC 4 W 0/\f.1 22=sI a1.ab9/\f.1 245=sB (fU (eH a1.ab9 11) true (eH a1.ab9 15))/\f.gen 2=U/\f.box 2=some [sL Fm.av a0.lemmas,sL Ty.av a0.acb,sL Fm.av a0.acf]/\f.gen 3=V/\f.box 3=some [sI a1.ab9,sI a1.aca,sI a1.dv.ab9,sL Ty.av a1.dv.ab_,sL Tm.av a1.ej,sL Fm.av a1.fj,sL Pf.av a1.ab_]/\f.gen 4=W/\f.box 4=some [sI 0,sI 0,AV.slice .full [],AV.slice .full [],AV.slice .full []]) (λdz aH=>?_) ?_
  ·rcases Pb (eH a1.ab9 11) e with e|e
   ·simp[e];exact aH _ _ ⟨x,y,z,by simp[e]⟩
   simp[e];exact aH _ _ ⟨x,y,z,by simp[e]⟩
  rintro bu dA ⟨U,V,W,E⟩;have e:=Aj e E;rcases Io e m with⟨e,m⟩|⟨e,m⟩
  ·have⟨dB,dC,dD,e,m⟩:=Kd e m;simp[e];refine Cf (k.2.2.2.2.2.1 e.2) ?_;cases m;simp[e]
  rcases Io e m with⟨e,m⟩|⟨e,m⟩
  ·have⟨dE,dF,dG,e,m⟩:=Kd e m;simp[e];refine Cf (k.2.2.2.2.2.2.1 e.2) ?_;cases m;simp[e]
  rcases Io e m with⟨e,m⟩|⟨e,m⟩
  ·have⟨dH,dI,dJ,e,m⟩:=Kd e m;simp[e];refine Cf (k.2.2.2.2.2.2.2.1 e.2) ?_;cases m;simp[e]
  rcases Io e m with⟨e,m⟩|⟨e,m⟩
  ·have⟨dK,e,m⟩:=ep e m;have⟨dL,e,m⟩:=ep e m;simp[e];refine Cs (nZ e.2) ?_;have⟨dM,e,m⟩:=ep e m;simp[e];refine Cs (pM e.2) ?_;cases m;simp[e]
  rcases Io e m with⟨e,m⟩|⟨e,m⟩
  ·have⟨dN,dO,dP,e,m⟩:=Kd e m;simp[e];refine Cf (k.2.2.2.2.2.2.2.2.1 e.2) ?_;cases m;simp[e]
  have⟨dQ,dR,dS,e,m⟩:=Kd e m;simp[e];refine Cf (k.2.2.2.2.2.2.2.2.2.1 e.2) ?_;cases m;simp[e]
 ·intro T H a0 a1 r hm;rw[kJ] at hm;have e:=trivial;refine wi acd func220 [] [] 999 ?_;have⟨x3,e,m⟩:=ep e hm;simp[e];refine Cf (lN e.2) ?_;rcases Io e m with⟨e,m⟩|⟨e,m⟩
  ·cases m;simp[e]
  have⟨bj,e,m⟩:=ep e m;simp[e];refine Cs (nj e.2) ?_;have⟨aY,e,m⟩:=ep e m;have⟨dT,dU,e,m⟩:=gv e m;simp[e];refine Cs (k.1 e.2) ?_;rcases Io e m with⟨e,m⟩|⟨e,m⟩
  ·cases m;simp[e]
  rcases Io e m with⟨e,m⟩|⟨e,m⟩
  ·have⟨aZ,e,m⟩:=ep e m;simp[e];refine Cs (nD e.2) ?_;have⟨aU,e,m⟩:=ep e m;simp[e];refine Cs (pA e.2) ?_;cases m;simp[e]
  have⟨bk,e,m⟩:=ep e m;simp[e];refine Cf (EI e.2) ?_;rcases Io e m with⟨e,m⟩|⟨e,m⟩
  ·cases m;simp[e]
  have⟨dV,e,m⟩:=ep e m;simp[e];refine Cs (nD e.2) ?_;have⟨aV,e,m⟩:=ep e m;simp[e];refine Cs (pA e.2) ?_;cases m;simp[e]
 ·intro T H a0 a1 r hm;rw[ly] at hm;have e:=trivial;refine wi acd func221 [] [] 9 ?_;have⟨ae,e,m⟩:=ep e hm;have⟨a6,dW,e,m⟩:=gv e m;simp[e];refine Cf (vQ e.2) ?_;simp[e];rcases Io e m with⟨e,m⟩|⟨e,m⟩
  ·apply wg 999;cases m;simp[e]
  apply wg 7;have⟨x6,e,m⟩:=ep e m;have⟨X,dX,e,m⟩:=gv e m;simp[e];refine Cs (k.1 e.2) ?_;simp[e];rcases Io e m with⟨e,m⟩|⟨e,m⟩
  ·apply wg 999;cases m;simp[e]
  apply wg 4;have⟨bl,e,m⟩:=ep e m;simp[e];refine Cs (ux e.2) ?_;have⟨aI,e,m⟩:=ep e m;simp[e];refine Cs (lB T e.2) ?_;simp[e];refine wj 999 999 (λf h=>∃(F:Nat) (G:Nat) (I:Nat) (A:Nat),h=H/\f.1 4=AV.eC 4 F 0/\f.1 7=AV.eC 7 G 0/\f.1 8=AV.eC 8 I 0/\f.1 10=AV.eC 10 A 0/\f.1 11=sI (fU (eH a1.ab9 13) 6 4)/\f.1 12=sL sI (fU (eH a1.ab9 13) X.gi aI)/\f.gen 4=F/\f.box 4=some [sI 0,sI 0,AV.slice .full [],AV.slice .full [],AV.slice .full []]/\f.gen 7=G/\f.box 7=some [sI ae.ab9,sI ae.aca,sI ae.dv.ab9,sL Ty.av ae.dv.ab_,sL Tm.av ae.ab_]/\f.gen 8=I/\f.box 8=some [sI a6.ab9,sL Ty.av a6.ab_]/\f.gen 10=A/\f.box 10=some [sI X.eg.ab9,sI X.eg.dv.ab9,sL Ty.av X.eg.dv.ab_,sL Tm.av X.eg.ej,sL Fm.av X.eg.ab_,sL sI X.gi]) (λbw aj=>?_) ?_
  ·rcases Pb (eH a1.ab9 13) e with e|e
   ·simp[e];exact aj _ _ ⟨1,1,1,1,by simp[e]⟩
   simp[e];exact aj _ _ ⟨1,1,1,1,by simp[e]⟩
  rintro bm bx ⟨F,G,I,A,E⟩;have e:=Aj e E;rcases Io e m with⟨e,m⟩|⟨e,m⟩
  ·cases m;simp[e]
  have⟨bz,e,m⟩:=ep e m;simp[e];refine Cf (iw e.2) ?_;rcases Io e m with⟨e,m⟩|⟨e,m⟩;rotate_left
  ·cases m;simp[e]
  have⟨b,e,m⟩:=ep e m;have⟨bk,a7,e,m⟩:=gv e m;simp[e];refine Cs (rM e.2) ?_;cases m;simp[e]
 ·intro T H a0 a1 r hm;rw[lv] at hm;have e:=trivial;refine wi acd func222 [] [] 9 ?_;have⟨c,e,m⟩:=ep e hm;have⟨x4,e,m⟩:=ep e m;have⟨x7,e,m⟩:=ep e m;simp[e];refine Cf (rb e.2) ?_;simp[e];rcases Io e m with⟨e,m⟩|⟨e,m⟩
  ·apply wg 999;cases m;simp[e]
  apply wg 4;simp[e];refine wj 999 3 (λf h=>∃(ak:Nat) (al:Nat) (N:Nat) (O:Nat) (an:Nat),h=H/\f.1 2=AV.eC 2 ak 0/\f.1 3=AV.eC 3 al 0/\f.1 4=AV.eC 4 N 0/\f.1 7=AV.eC 7 O 0/\f.1 8=AV.eC 8 an 0/\f.1 10=sI (fU (eH a1.ab9 14) 7 5)/\f.gen 2=ak/\f.box 2=some [sL Fm.av a0.lemmas,sL Ty.av a0.acb,sL Fm.av a0.acf]/\f.gen 3=al/\f.box 3=some [sI a1.ab9,sI a1.aca,sI a1.dv.ab9,sL Ty.av a1.dv.ab_,sL Tm.av a1.ej,sL Fm.av a1.fj,sL Pf.av a1.ab_]/\f.gen 4=N/\f.box 4=some [sI 0,sI 0,AV.slice .full [],AV.slice .full [],AV.slice .full []]/\f.gen 7=O/\f.box 7=some [sI c.ab9,sI c.dv.ab9,sL Ty.av c.dv.ab_,sL Tm.av c.ej,sL Fm.av c.ab_]/\f.gen 8=an/\f.box 8=some [sI x4.ab9,sI x4.aca,sI x4.dv.ab9,sL Ty.av x4.dv.ab_,sL Tm.av x4.ab_]) (λK9 a8=>?_) ?_
  ·rcases Pb (eH a1.ab9 14) e with e|e
   ·simp[e];exact a8 _ _ ⟨1,1,1,1,1,by simp[e]⟩
   simp[e];exact a8 _ _ ⟨1,1,1,1,1,by simp[e]⟩
  rintro dY h5 ⟨ak,al,N,O,an,E⟩;have e:=Aj e E;simp[e];rcases Io e m with⟨e,m⟩|⟨e,m⟩
  ·apply wg 999;cases m;simp[e]
  apply wg 7;have⟨bh,aY,e,m⟩:=gv e m;simp[e];refine Cf (vQ e.2) ?_;simp[e];rcases Io e m with⟨e,m⟩|⟨e,m⟩
  ·apply wg 999;cases m;simp[e]
  apply wg 5;have⟨aJ,e,m⟩:=ep e m;simp[e];refine Cf (iw e.2) ?_;simp[e];rcases Io e m with⟨e,m⟩|⟨e,m⟩;rotate_left
  ·apply wg 999;cases m;simp[e]
  apply wg 4;have⟨ao,e,m⟩:=ep e m;have⟨aZ,e,m⟩:=ep e m;have⟨aU,a_,e,m⟩:=gv e m;simp[e];refine Cs (k.2.2.2.2.2.2.2.2.2.2 e.2) ?_;simp[e];refine Wj m 999 999 (λaK f h=>∃(aq:List Int) (J:Nat) (K:Nat),(h=H/\f.1 4=AV.eC 4 J 0/\f.1 7=AV.eC 7 K 0/\f.1 12=sI a_/\f.1 13=sL sI aq/\f.gen 4=J/\f.box 4=some [sI 0,sI 0,AV.slice .full [],AV.slice .full [],AV.slice .full []]/\f.gen 7=K/\f.box 7=some [sI c.ab9,sI c.dv.ab9,sL Ty.av c.dv.ab_,sL Tm.av c.ej,sL Fm.av c.ab_])/\aK aq=some r) (λaK bA aL m=>?_) ?_;rotate_left
  ·rintro bn bB ⟨aq,J,K,E,m⟩;have e:=Aj e E;cases m;simp[e]
  rcases Io e m with⟨e,m⟩|⟨e,m⟩;rotate_left
  ·simp[e];exact aL _ _ ⟨aU,N,O,by simp[e],m⟩
  have⟨bC,e,m⟩:=ep e m;simp[e];refine Cf (ux e.2) ?_;have⟨a',e,m⟩:=ep e m;simp[e];refine Cf (lB T e.2) ?_;simp[e];exact aL _ _ ⟨a',N,O,by simp[e],m⟩
 ·intro T H a0 a1 r hm;rw[km] at hm;have e:=trivial;refine wi acd func223 [] [] 7 ?_;have⟨ba,e,m⟩:=ep e hm;have⟨a,aM,e,m⟩:=gv e m;simp[e];refine Cs (k.1 e.2) ?_;simp[e];rcases Io e m with⟨e,m⟩|⟨e,m⟩
  ·apply wg 999;cases m;simp[e]
  apply wg 4;simp[e];refine wj 999 3 (λf h=>∃(ar:Nat) (au:Nat) (P:Nat) (Q:Nat),h=H/\f.1 2=AV.eC 2 ar 0/\f.1 3=AV.eC 3 au 0/\f.1 4=AV.eC 4 P 0/\f.1 7=AV.eC 7 Q 0/\f.1 9=sI (fU (eH a1.ab9 15) 7 5)/\f.gen 2=ar/\f.box 2=some [sL Fm.av a0.lemmas,sL Ty.av a0.acb,sL Fm.av a0.acf]/\f.gen 3=au/\f.box 3=some [sI a1.ab9,sI a1.aca,sI a1.dv.ab9,sL Ty.av a1.dv.ab_,sL Tm.av a1.ej,sL Fm.av a1.fj,sL Pf.av a1.ab_]/\f.gen 4=P/\f.box 4=some [sI 0,sI 0,AV.slice .full [],AV.slice .full [],AV.slice .full []]/\f.gen 7=Q/\f.box 7=some [sI a.eg.ab9,sI a.eg.dv.ab9,sL Ty.av a.eg.dv.ab_,sL Tm.av a.eg.ej,sL Fm.av a.eg.ab_,sL sI a.gi]) (λbD aw=>?_) ?_
  ·rcases Pb (eH a1.ab9 15) e with e|e
   ·simp[e];exact aw _ _ ⟨1,1,1,1,by simp[e]⟩
   simp[e];exact aw _ _ ⟨1,1,1,1,by simp[e]⟩
  rintro aC h7 ⟨ar,au,P,Q,E⟩;have e:=Aj e E;simp[e];rcases Io e m with⟨e,m⟩|⟨e,m⟩
  ·apply wg 999;cases m;simp[e]
  apply wg 7;have⟨bj,e,m⟩:=ep e m;simp[e];refine Cf (lN e.2) ?_;simp[e];rcases Io e m with⟨e,m⟩|⟨e,m⟩
  ·apply wg 999;cases m;simp[e]
  apply wg 7;have⟨aZ,e,m⟩:=ep e m;simp[e];refine Cs (nj e.2) ?_;have⟨aU,e,m⟩:=ep e m;have⟨bE,e,m⟩:=ep e m;simp[e];refine Cs (nF e.2) ?_;have⟨bF,e,m⟩:=ep e m;have⟨b,bb,e,m⟩:=gv e m;simp[e];refine Cs (k.1 e.2) ?_;simp[e];rcases Io e m with⟨e,m⟩|⟨e,m⟩
  ·apply wg 999;cases m;simp[e]
  apply wg 4;simp[e];refine Wj m 999 1 (λaN f h=>∃(v124:Int) (aa:Int) (ab:List Ty) (v127:List Tm) (ad:List Fm) (i:Nat) (j:Nat) (d:Nat) (g:Nat),(h=H/\f.1 4=AV.eC 4 i 0/\f.1 7=AV.eC 7 j 0/\f.1 9=sI (fU (eH a1.ab9 15) 7 5)/\f.1 11=AV.eC 11 d 0/\f.1 12=AV.eC 12 g 0/\f.gen 4=i/\f.box 4=some [sI 0,sI 0,AV.slice .full [],AV.slice .full [],AV.slice .full []]/\f.gen 7=j/\f.box 7=some [sI a.eg.ab9,sI a.eg.dv.ab9,sL Ty.av a.eg.dv.ab_,sL Tm.av a.eg.ej,sL Fm.av a.eg.ab_,sL sI a.gi]/\f.gen 11=d/\f.box 11=some [sI b.eg.ab9,sI b.eg.dv.ab9,sL Ty.av b.eg.dv.ab_,sL Tm.av b.eg.ej,sL Fm.av b.eg.ab_,sL sI b.gi]/\f.gen 12=g/\f.box 12=some [sI v124,sI aa,sL Ty.av ab,sL Tm.av v127,sL Fm.av ad])/\aN v124 aa ab v127 ad=some r) (λaN bG ax m=>?_) ?_
  ·have⟨bH,e,m⟩:=ep e m;simp[e];refine Cf (Em e.2) ?_;rcases Io e m with⟨e,m⟩|⟨e,m⟩;rotate_left
   ·simp[e];exact ax _ _ ⟨b.eg.ab9,b.eg.dv.ab9,b.eg.dv.ab_,b.eg.ej,b.eg.ab_,P,Q,(aC.gen 11+1),(aC.gen 12+1),by simp[e],m⟩
   have⟨R,bI,e,m⟩:=gv e m;simp[e];refine Cf (F4 e.2) ?_;rcases Io e m with⟨e,m⟩|⟨e,m⟩
   ·cases m;simp[e]
   have⟨bJ,e,m⟩:=ep e m;simp[e];refine Cf (Em e.2) ?_;rcases Io e m with⟨e,m⟩|⟨e,m⟩
   ·cases m;simp[e]
   simp[e];exact ax _ _ ⟨R.ab9,R.dv.ab9,R.dv.ab_,R.ej,R.ab_,P,Q,(aC.gen 11+1),(aC.gen 12+1),by simp[e],m⟩
  rintro bo bK ⟨v124,aa,ab,v127,ad,i,j,d,g,E,m⟩;have e:=Aj e E;simp[e];refine Wj m 999 999 (λaO f h=>∃(ay:Bool) (L:Nat) (M:Nat) (B:Nat) (C:Nat),(h=H/\f.1 4=AV.eC 4 L 0/\f.1 7=AV.eC 7 M 0/\f.1 11=AV.eC 11 B 0/\f.1 12=AV.eC 12 C 0/\f.1 87=sB ay/\f.gen 4=L/\f.box 4=some [sI 0,sI 0,AV.slice .full [],AV.slice .full [],AV.slice .full []]/\f.gen 7=M/\f.box 7=some [sI a.eg.ab9,sI a.eg.dv.ab9,sL Ty.av a.eg.dv.ab_,sL Tm.av a.eg.ej,sL Fm.av a.eg.ab_,sL sI a.gi]/\f.gen 11=B/\f.box 11=some [sI b.eg.ab9,sI b.eg.dv.ab9,sL Ty.av b.eg.dv.ab_,sL Tm.av b.eg.ej,sL Fm.av b.eg.ab_,sL sI b.gi]/\f.gen 12=C/\f.box 12=some [sI v124,sI aa,sL Ty.av ab,sL Tm.av v127,sL Fm.av ad])/\aO ay=some r) (λaO bL az m=>?_) ?_
  ·rcases Io e m with⟨e,m⟩|⟨e,m⟩;rotate_left
   ·simp[e];exact az _ _ ⟨false,i,j,d,g,by simp[e],m⟩
   have⟨bc,e,m⟩:=ep e m;simp[e];refine Cf (EI e.2) ?_;simp[e];exact az _ _ ⟨bc,i,j,d,g,by simp[e],m⟩
  rintro bp bM ⟨ay,L,M,B,C,E,m⟩;have e:=Aj e E;rcases Io e m with⟨e,m⟩|⟨e,m⟩
  ·cases m;simp[e]
  have⟨bN,e,m⟩:=ep e m;simp[e];refine Cs (mb e.2) ?_;have⟨bO,e,m⟩:=ep e m;simp[e];refine Cs (pA e.2) ?_;have⟨bP,e,m⟩:=ep e m;simp[e];refine Cs (lB T e.2) ?_;cases m;simp[e]
 ·intro T H a0 a1 r hm;rw[nL] at hm;have e:=trivial;refine wi acd func224 [] [] 999 ?_;have⟨c,e,m⟩:=ep e hm;have⟨x4,e,m⟩:=ep e m;have⟨aA,e,m⟩:=ep e m;simp[e];refine Cs (hX e.2) ?_;have⟨e,m⟩:=Ck e m;simp[e];refine Ad (f:=Ty.av) a0.acb [aA] (iX.full (D:=[])) Fo e.2 ?_;have⟨bd,e,m⟩:=ep e m;simp[e];refine Cs (tC e.2) ?_;rcases Io e m with⟨e,m⟩|⟨e,m⟩
  ·cases m;simp[e]
  have⟨ao,e,m⟩:=ep e m;simp[e];refine Cf (pM e.2) ?_;rcases Io e m with⟨e,m⟩|⟨e,m⟩
  ·cases m;simp[e]
  have⟨aP,e,m⟩:=ep e m;have⟨aQ,e,m⟩:=ep e m;simp[e];refine Cs (gR e.2) ?_;have⟨aR,aV,e,m⟩:=gv e m;simp[e];refine Cs (k.2.2.2.2.2.2.2.2.2.2 e.2) ?_;rcases Io e m with⟨e,m⟩|⟨e,m⟩
  ·cases m;simp[e]
  have⟨aS,e,m⟩:=ep e m;simp[e];refine Cf (lN e.2) ?_;rcases Io e m with⟨e,m⟩|⟨e,m⟩
  ·cases m;simp[e]
  have⟨bQ,e,m⟩:=ep e m;simp[e];refine Cs (hX e.2) ?_;have⟨bR,e,m⟩:=ep e m;simp[e];refine Cs (nj e.2) ?_;have⟨bS,e,m⟩:=ep e m;simp[e];refine Cs (nF e.2) ?_;have⟨bT,e,m⟩:=ep e m;have⟨bU,e,m⟩:=ep e m;simp[e];refine Cs (mb e.2) ?_;have⟨bV,e,m⟩:=ep e m;simp[e];refine Cs (gu e.2) ?_;have⟨bW,e,m⟩:=ep e m;simp[e];refine Cs (gR e.2) ?_;have⟨bX,bY,e,m⟩:=gv e m;simp[e];refine Cs (k.2.2.2.2.2.2.2.2.2.2 e.2) ?_;rcases Io e m with⟨e,m⟩|⟨e,m⟩
  ·cases m;simp[e]
  have⟨bf,bZ,e,m⟩:=gv e m;simp[e];refine Cf (rM e.2) ?_;have⟨b0,e,m⟩:=ep e m;simp[e];refine Cs (ux e.2) ?_;have⟨b1,e,m⟩:=ep e m;simp[e];refine Cs (lB T e.2) ?_;have⟨b2,e,m⟩:=ep e m;simp[e];refine Cs (pA e.2) ?_;have⟨b3,e,m⟩:=ep e m;simp[e];refine Cs (lB T e.2) ?_;cases m;simp[e]
 ·intro T H a0 a1 r hm;rw[mu] at hm;have e:=trivial;refine wi acd func225 [] [] 999 ?_;have⟨c,e,m⟩:=ep e hm;have⟨x4,e,m⟩:=ep e m;have⟨aA,e,m⟩:=ep e m;simp[e];refine Cs (nS e.2) ?_;have⟨e,m⟩:=Ck e m;simp[e];refine Ad (f:=Ty.av) a0.acb [aA] (iX.full (D:=[])) Fo e.2 ?_;have⟨bd,e,m⟩:=ep e m;simp[e];refine Cs (tC e.2) ?_;rcases Io e m with⟨e,m⟩|⟨e,m⟩
  ·cases m;simp[e]
  have⟨ao,e,m⟩:=ep e m;simp[e];refine Cf (pM e.2) ?_;rcases Io e m with⟨e,m⟩|⟨e,m⟩
  ·cases m;simp[e]
  have⟨aP,e,m⟩:=ep e m;have⟨aQ,e,m⟩:=ep e m;simp[e];refine Cs (gR e.2) ?_;have⟨aR,aV,e,m⟩:=gv e m;simp[e];refine Cs (k.2.2.2.2.2.2.2.2.2.2 e.2) ?_;rcases Io e m with⟨e,m⟩|⟨e,m⟩
  ·cases m;simp[e]
  have⟨aS,e,m⟩:=ep e m;simp[e];refine Cf (lN e.2) ?_;rcases Io e m with⟨e,m⟩|⟨e,m⟩
  ·cases m;simp[e]
  have⟨b4,e,m⟩:=ep e m;simp[e];refine Cs (hX e.2) ?_;have⟨bf,e,m⟩:=ep e m;simp[e];refine Cs (nS e.2) ?_;have⟨b5,e,m⟩:=ep e m;simp[e];refine Cs (nj e.2) ?_;have⟨b6,e,m⟩:=ep e m;simp[e];refine Cs (mb e.2) ?_;have⟨b7,e,m⟩:=ep e m;simp[e];refine Cs (nF e.2) ?_;have⟨b8,e,m⟩:=ep e m;have⟨b9,e,m⟩:=ep e m;simp[e];refine Cs (mb e.2) ?_;have⟨b_,e,m⟩:=ep e m;simp[e];refine Cs (gu e.2) ?_;have⟨b',e,m⟩:=ep e m;simp[e];refine Cs (gu e.2) ?_;have⟨ca,e,m⟩:=ep e m;simp[e];refine Cs (gR e.2) ?_;have⟨cb,cc,e,m⟩:=gv e m;simp[e];refine Cs (k.2.2.2.2.2.2.2.2.2.2 e.2) ?_;rcases Io e m with⟨e,m⟩|⟨e,m⟩
  ·cases m;simp[e]
  have⟨cd,cf,e,m⟩:=gv e m;simp[e];refine Cf (rM e.2) ?_;have⟨cg,e,m⟩:=ep e m;simp[e];refine Cs (ux e.2) ?_;have⟨ch,e,m⟩:=ep e m;simp[e];refine Cs (lB T e.2) ?_;have⟨cj,e,m⟩:=ep e m;simp[e];refine Cs (pA e.2) ?_;have⟨ck,e,m⟩:=ep e m;simp[e];refine Cs (lB T e.2) ?_;cases m;simp[e]
 ·intro T H a0 a1 r hm;rw[mm] at hm;have e:=trivial;refine wi acd func227 [] [] 999 ?_;have⟨ae,e,m⟩:=ep e hm;have⟨aJ,e,m⟩:=ep e m;simp[e];refine Cs (hX e.2) ?_;have⟨e,m⟩:=Ck e m;simp[e];refine Ad (f:=Ty.av) a0.acb [aJ] (iX.full (D:=[])) Fo e.2 ?_;have⟨bl,e,m⟩:=ep e m;simp[e];refine Cs (tC e.2) ?_;rcases Io e m with⟨e,m⟩|⟨e,m⟩
  ·cases m;simp[e]
  have⟨cm,e,m⟩:=ep e m;have⟨cn,ao,e,m⟩:=gv e m;simp[e];refine Cs (k.1 e.2) ?_;rcases Io e m with⟨e,m⟩|⟨e,m⟩
  ·cases m;simp[e]
  rcases Io e m with⟨e,m⟩|⟨e,m⟩
  ·cases m;simp[e]
  have⟨aP,e,m⟩:=ep e m;have⟨aQ,e,m⟩:=ep e m;have⟨aR,aV,e,m⟩:=gv e m;simp[e];refine Cs (k.2.2.2.2.2.2.2.2.2.2 e.2) ?_;rcases Io e m with⟨e,m⟩|⟨e,m⟩
  ·cases m;simp[e]
  have⟨cp,e,m⟩:=ep e m;have⟨cq,cr,e,m⟩:=gv e m;simp[e];refine Cs (rM e.2) ?_;cases m;simp[e]
 ·intro T H a0 a1 r hm;rw[lR] at hm;have e:=trivial;refine wi acd func228 [] [] 7 ?_;have⟨ba,e,m⟩:=ep e hm;have⟨a,aM,e,m⟩:=gv e m;simp[e];refine Cs (k.1 e.2) ?_;simp[e];rcases Io e m with⟨e,m⟩|⟨e,m⟩
  ·apply wg 999;cases m;simp[e]
  apply wg 3;simp[e];refine Wj m 999 999 (λaT f h=>∃(aW:Bool) (Y:Nat) (Z:Nat),(h=H/\f.1 4=AV.eC 4 Y 0/\f.1 7=AV.eC 7 Z 0/\f.1 38=sB aW/\f.gen 4=Y/\f.box 4=some [sI 0,sI 0,AV.slice .full [],AV.slice .full [],AV.slice .full []]/\f.gen 7=Z/\f.box 7=some [sI a.eg.ab9,sI a.eg.dv.ab9,sL Ty.av a.eg.dv.ab_,sL Tm.av a.eg.ej,sL Fm.av a.eg.ab_,sL sI a.gi])/\aT aW=some r) (λaT dZ aB m=>?_) ?_
  ·rcases Io e m with⟨e,m⟩|⟨e,m⟩
   ·simp[e];exact aB _ _ ⟨true,1,1,by simp[e],m⟩
   have⟨bg,e,m⟩:=ep e m;simp[e];exact aB _ _ ⟨(eW bg.ab9 5),1,1,by simp[e],m⟩
  rintro cu d_ ⟨aW,Y,Z,E,m⟩;have e:=Aj e E;rcases Io e m with⟨e,m⟩|⟨e,m⟩
  ·cases m;simp[e]
  have⟨aI,e,m⟩:=ep e m;have⟨cw,e,m⟩:=ep e m;simp[e];refine Cf (oP e.2) ?_;have⟨cx,e,m⟩:=ep e m;simp[e];refine Cf (pI e.2) ?_;rcases Io e m with⟨e,m⟩|⟨e,m⟩
  ·cases m;simp[e]
  have⟨cy,e,m⟩:=ep e m;have⟨bb,e,m⟩:=ep e m;simp[e];refine Cf (mb e.2) ?_;have⟨a7,e,m⟩:=ep e m;simp[e];refine Cf (gu e.2) ?_;have⟨cz,e,m⟩:=ep e m;simp[e];refine Cf (gu e.2) ?_;have⟨cA,e,m⟩:=ep e m;simp[e];refine Cf (gR e.2) ?_;have⟨cB,cD,e,m⟩:=gv e m;simp[e];refine Cf (rM e.2) ?_;have⟨cE,e,m⟩:=ep e m;simp[e];refine Cs (nD e.2) ?_;have⟨aS,e,m⟩:=ep e m;simp[e];refine Cs (nD e.2) ?_;cases m;simp[e]
 ·intro T H a0 a1 a2 a3 r hm;rw[fA] at hm;have e:=trivial;refine wi acd func262 [] [] 999 ?_;have⟨cF,x1,e,m⟩:=gv e hm;simp[e];refine Cf (k.1 e.2) ?_;rcases Io e m with⟨e,m⟩|⟨e,m⟩
  ·cases m;simp[e]
  have⟨cG,cH,e,m⟩:=gv e m;simp[e];refine Cf (rM e.2) ?_;rcases Io e m with⟨e,m⟩|⟨e,m⟩
  ·cases m;simp[e]
  have⟨aM,e,m⟩:=ep e m;simp[e];refine Cs (AT e.2) ?_;cases m;simp[e]
def yU{n:Nat}:C2 prog 86 (eL n) (t2 sQ.av sI) en.av Pf.av:=(ym n).1
def tx:C3 prog 24 lP (t2 sQ.av sI) (sL Fm.av) Sq.av Pf.av:=by
 intro T H a0 a1 a2 r hm;rw[lP] at hm;have e:=trivial;refine wi acd func24 [] [] 999 ?_;have⟨b,e,m⟩:=ep e hm;simp[e];refine Cf (Fe e.2) ?_;rcases Io e m with⟨e,m⟩|⟨e,m⟩
 ·cases m;simp[e]
 have⟨c,e,m⟩:=ep e m;simp[e];refine Cf (w5 e.2) ?_;rcases Io e m with⟨e,m⟩|⟨e,m⟩
 ·cases m;simp[e]
 have⟨a,d,e,m⟩:=gv e m;simp[e];refine Cf (yU e.2) ?_;rcases Io e m with⟨e,m⟩|⟨e,m⟩
 ·cases m;simp[e]
 have⟨g,e,m⟩:=ep e m;simp[e];refine Cs (kW e.2) ?_;have⟨e,m⟩:=Ck e m;simp[e];refine Ad (f:=sI) [] a.gi (iX.full (D:=[])) Qx e.2 ?_;cases m;simp[e]
def tr:C2 prog 67 qn Sq.av Sq.av (sL Ty.av):=by
 intro T H a0 a1 r hm;rw[qn] at hm;have e:=trivial;refine wi acd func67 [] [] 999 ?_;have⟨n,e,m⟩:=ep e hm;simp[e];refine Cf (oS e.2) ?_;simp[e];refine Wr e m 999 (λl g f h=>∃(a:Tag) (b:Nat) (c:Nat),(h=H/\f.1 1=sL Ty.av a1/\f.1 4=AV.eC 4 b 0/\f.1 5=AV.eC 5 c 0/\f.1 14=sL Fm.av a0.acf/\f.1 15=sI (eM a0.acf)/\f.1 16=sI l/\f.gen 4=b/\f.box 4=some [AV.slice .full [],AV.slice .full []]/\f.gen 5=c/\f.box 5=some [sL Ty.av n,sT a Fm.av g])/\Ow f [27] a g) (by exact⟨.full,1,1,by simp[e],iX.full⟩) (λg i o p E m=>?_) (λl q g i o p s t E e m z9 j=>?_)
 ·have⟨a,b,c,E,d⟩:=E;have e:=Aj e E;dsimp only[ei]at m;cases m;simp[e]
 have⟨a,b,c,E,d⟩:=E;have e:=Aj e E;have⟨k,e,m⟩:=ep e m;simp[e];refine Cs (mb e.2) ?_;have⟨e,m⟩:=Ck e m;simp[e];refine Ad (f:=Fm.av) g [k] d DA e.2 ?_;simp[e];cases m;exact j _ _ _ ⟨(.loc 27 (i.fN 27+1)),b,c,by simp[e],(On 27)⟩ z9
def yu:C3 prog 36 tG Pf.av sI Tm.av Pf.av:=by
 intro T H a0 a1 a2 r hm;rw[tG] at hm;have e:=trivial;refine wi acd func36 [] [] 999 ?_;have⟨a,e,m⟩:=ep e hm;simp[e];refine Cf (ow e.2) ?_;have⟨b,e,m⟩:=ep e m;simp[e];refine Cf (my e.2) ?_;have e:=Aj e (show AV.agg [sI a.ab9,sI a.aca,sI a.dv.ab9,sL Ty.av a.dv.ab_,AV.slice .iP [Tm.av b],sL Fm.av a.fj,sL Pf.av a.ab_]=Pf.av (Pf.mk a.ab9 a.aca a.dv [b] a.fj a.ab_) by rw[Pf.fL];rfl);have e:=Aj e (show AV.agg [sI a.ab9,sI a.aca,sI a.dv.ab9,sL Ty.av a.dv.ab_,AV.slice .iP [Tm.av b],sL Fm.av a.fj,sL Pf.av a.ab_]=Pf.av (Pf.mk a.ab9 a.aca a.dv [b] a.fj a.ab_) by rw[Pf.fL];rfl);have e:=Aj e (show AV.agg [sI a.ab9,sI a.aca,sI a.dv.ab9,sL Ty.av a.dv.ab_,AV.slice .iP [Tm.av b],sL Fm.av a.fj,sL Pf.av a.ab_]=Pf.av (Pf.mk a.ab9 a.aca a.dv [b] a.fj a.ab_) by rw[Pf.fL];rfl);cases m;simp[e]
section
attribute [-simp] Go.m7.Bb
@[local simp] theorem aax(x:Fm):Bb prog 46 x.av 2=some (sL Tm.av x.ej):=by rw[Fm.gT];kernel_rfl
def ox:C1 prog 68 j4 Tm.av Tm.av:=by
 intro T H a0 r hm;rw[j4] at hm;have e:=trivial;refine wi acd func68 [] [] 999 ?_;have⟨a,e,m⟩:=ep e hm;simp[e];refine Cf (nZ e.2) ?_;have⟨b,e,m⟩:=ep e m;simp[e];refine Cf (mb e.2) ?_;have⟨c,e,m⟩:=ep e m;cases m;simp[e]
end
def yn:C4 prog 49 tH Pf.av sI Fm.av Tm.av Pf.av:=by
 intro T H a0 a1 a2 a3 r hm;rw[tH] at hm;have e:=trivial;refine wi acd func49 [] [] 999 ?_;have⟨a,e,m⟩:=ep e hm;simp[e];refine Cf (yu e.2) ?_;have⟨b,e,m⟩:=ep e m;simp[e];refine Cf (kW e.2) ?_;have e:=Aj e (show AV.agg [sI a.ab9,sI a.aca,sI a.dv.ab9,sL Ty.av a.dv.ab_,sL Tm.av a.ej,AV.slice .iP [Fm.av b],sL Pf.av a.ab_]=Pf.av (Pf.mk a.ab9 a.aca a.dv a.ej [b] a.ab_) by rw[Pf.fL];rfl);have e:=Aj e (show AV.agg [sI a.ab9,sI a.aca,sI a.dv.ab9,sL Ty.av a.dv.ab_,sL Tm.av a.ej,AV.slice .iP [Fm.av b],sL Pf.av a.ab_]=Pf.av (Pf.mk a.ab9 a.aca a.dv a.ej [b] a.ab_) by rw[Pf.fL];rfl);have e:=Aj e (show AV.agg [sI a.ab9,sI a.aca,sI a.dv.ab9,sL Ty.av a.dv.ab_,sL Tm.av a.ej,AV.slice .iP [Fm.av b],sL Pf.av a.ab_]=Pf.av (Pf.mk a.ab9 a.aca a.dv a.ej [b] a.ab_) by rw[Pf.fL];rfl);cases m;simp[e]
def Gf(T:fa){H:eD}{a0:Int}{a1:Fm}{a2:Tm}{a3 a:Pf}{f0:Fm}(hm:sE a0 a1 a2 a3=some (a,f0)):eZ prog T 49 [sI a0,Fm.av a1,Tm.av a2,Pf.av a3] H (AV.agg [sI a.ab9,sI a.aca,sI a.dv.ab9,sL Ty.av a.dv.ab_,sL Tm.av a.ej,AV.zz (List.length H) 0 1 1,sL Pf.av a.ab_]) (H++[[sI f0.ab9,sI f0.dv.ab9,sL Ty.av f0.dv.ab_,sL Tm.av f0.ej,sL Fm.av f0.ab_]]):=by
 rw[sE] at hm;have e:=trivial;refine wi acd func49 [16] [] 999 ?_;have⟨b,e,m⟩:=ep e hm;simp[e];refine Cf (yu e.2) ?_;have⟨c,e,m⟩:=ep e m;simp[e];refine Cf (kW e.2) ?_;cases m;simp[e]
def HI(T:fa){H:eD}{a0:ew}{a1:Sq}{a:Pf}{f0:Fm}{b:ew}{d:Nat}(c:H[d]?=some [sL sI a0.l,sI a0.pY])(hm:tL a0 a1=some (a,f0,b)):eZ prog T 74 [AV.fO d 0,Sq.av a1] H (AV.agg [sI a.ab9,sI a.aca,sI a.dv.ab9,sL Ty.av a.dv.ab_,sL Tm.av a.ej,AV.zz (List.length H) 0 1 1,sL Pf.av a.ab_]) ((gb H d [sL sI b.l,sI b.pY])++[[sI f0.ab9,sI f0.dv.ab9,sL Ty.av f0.dv.ab_,sL Tm.av f0.ej,sL Fm.av f0.ab_]]):=by
 rw[tL] at hm;have f:=fW c;refine fG.Iy c ?_;have e:=f;refine wi acd func74 [] [] 999 ?_;have⟨h,e,m⟩:=ep e hm;simp[e];refine Cf (hX e.2) ?_;have⟨i,d3,e,m⟩:=gv e m;simp[e];refine Cf (l5 T (by simp[e]) e.2) ?_;have⟨j,e,m⟩:=ep e m;simp[e];refine Cs (ox e.2) ?_;have⟨k,e,m⟩:=ep e m;simp[e];refine Cs (gu e.2) ?_;have⟨n,e,m⟩:=ep e m;simp[e];refine Cs (nZ e.2) ?_;have⟨o,e,m⟩:=ep e m;simp[e];refine Cs (nD e.2) ?_;have⟨p,e,m⟩:=ep e m;simp[e];refine Cs (mD e.2) ?_;have⟨q,g,e,m⟩:=gv e m;simp[e];refine Cs (Gf T e.2) ?_;cases m;simp[e]
def tU:C1 prog 57 ny Pf.av sI:=by
 intro T H a0 r hm;rw[ny] at hm;have e:=trivial;refine wi acd func57 [] [] 999 ?_;cases hm;simp[e]
def zW:C5 prog 70 tj Pf.av sI Fm.av Tm.av Pf.av Pf.av:=by
 intro T H a0 a1 a2 a3 a4 r hm;rw[tj] at hm;have e:=trivial;refine wi acd func70 [] [] 999 ?_;have⟨a,e,m⟩:=ep e hm;simp[e];refine Cf (ow e.2) ?_;have⟨b,e,m⟩:=ep e m;simp[e];refine Cf (my e.2) ?_;have⟨c,e,m⟩:=ep e m;simp[e];refine Cf (kW e.2) ?_;have e:=Aj e (show AV.agg [sI a.ab9,sI a.aca,sI a.dv.ab9,sL Ty.av a.dv.ab_,AV.slice .iP [Tm.av b],AV.slice .iP [Fm.av c],sL Pf.av a.ab_]=Pf.av (Pf.mk a.ab9 a.aca a.dv [b] [c] a.ab_) by rw[Pf.fL];rfl);have e:=Aj e (show AV.agg [sI a.ab9,sI a.aca,sI a.dv.ab9,sL Ty.av a.dv.ab_,AV.slice .iP [Tm.av b],AV.slice .iP [Fm.av c],sL Pf.av a.ab_]=Pf.av (Pf.mk a.ab9 a.aca a.dv [b] [c] a.ab_) by rw[Pf.fL];rfl);have e:=Aj e (show AV.agg [sI a.ab9,sI a.aca,sI a.dv.ab9,sL Ty.av a.dv.ab_,AV.slice .iP [Tm.av b],AV.slice .iP [Fm.av c],sL Pf.av a.ab_]=Pf.av (Pf.mk a.ab9 a.aca a.dv [b] [c] a.ab_) by rw[Pf.fL];rfl);cases m;simp[e]
def BJ:C2 prog 234 vV Tm.av Tm.av sI:=by
 intro T H a0 a1 r hm;rw[vV] at hm;have e:=trivial;refine wi acd func234 [] [] 999 ?_;have⟨a,e,m⟩:=ep e hm;simp[e];refine Cf (A' e.2) ?_;cases m;simp[e]
def AS:C3 prog 73 r5 Pf.av Fm.av Pf.av Pf.av:=by
 intro T H a0 a1 a2 r hm;rw[r5] at hm;have e:=trivial;refine wi acd func73 [] [] 999 ?_;have⟨a,e,m⟩:=ep e hm;simp[e];refine Cf (ow e.2) ?_;have⟨b,e,m⟩:=ep e m;simp[e];refine Cf (kW e.2) ?_;have e:=Aj e (show AV.agg [sI a.ab9,sI a.aca,sI a.dv.ab9,sL Ty.av a.dv.ab_,sL Tm.av a.ej,AV.slice .iP [Fm.av b],sL Pf.av a.ab_]=Pf.av (Pf.mk a.ab9 a.aca a.dv a.ej [b] a.ab_) by rw[Pf.fL];rfl);have e:=Aj e (show AV.agg [sI a.ab9,sI a.aca,sI a.dv.ab9,sL Ty.av a.dv.ab_,sL Tm.av a.ej,AV.slice .iP [Fm.av b],sL Pf.av a.ab_]=Pf.av (Pf.mk a.ab9 a.aca a.dv a.ej [b] a.ab_) by rw[Pf.fL];rfl);have e:=Aj e (show AV.agg [sI a.ab9,sI a.aca,sI a.dv.ab9,sL Ty.av a.dv.ab_,sL Tm.av a.ej,AV.slice .iP [Fm.av b],sL Pf.av a.ab_]=Pf.av (Pf.mk a.ab9 a.aca a.dv a.ej [b] a.ab_) by rw[Pf.fL];rfl);cases m;simp[e]
def Ky:C3 prog 180 vn Pf.av Tm.av Tm.av Pf.av:=by
 intro T H a0 a1 a2 r hm;rw[vn] at hm;have e:=trivial;refine wi acd func180 [] [] 999 ?_;have⟨b,e,m⟩:=ep e hm;simp[e];refine Cs (BJ e.2) ?_;have⟨c,e,m⟩:=ep e m;simp[e];refine Cs (BJ e.2) ?_;have⟨d,e,m⟩:=ep e m;simp[e];refine Cs (gR e.2) ?_;have⟨f,e,m⟩:=ep e m;simp[e];refine Cs (BJ e.2) ?_;have⟨g,e,m⟩:=ep e m;simp[e];refine Cs (gu e.2) ?_;have⟨h,e,m⟩:=ep e m;simp[e];refine Cs (gR e.2) ?_;have⟨i,e,m⟩:=ep e m;simp[e];refine Cs (nZ e.2) ?_;have⟨j,e,m⟩:=ep e m;simp[e];refine Cs (gR e.2) ?_;have⟨k,e,m⟩:=ep e m;simp[e];refine Cs (mD e.2) ?_;have⟨a,e,m⟩:=ep e m;simp[e];refine Cs (AS e.2) ?_;cases m;simp[e]
def G2:C3 prog 181 ss sI (sL Tm.av) (sL Fm.av) (sL Pf.av):=by
 intro T H a0 a1 a2 r hm;rw[ss] at hm;have e:=trivial;refine wi acd func181 [] [] 999 ?_;simp[e];refine Wr e hm 999 (λu s2 f h=>h=H/\f.1 1=sL Fm.av a1/\f.1 2=sL Pf.av a2/\f.1 16=sL Tm.av a0/\f.1 17=sI (eM a0)/\f.1 18=sI u) (by simp[e]) (λs2 n w x E m=>?_) (λu J s2 n w x n6 K E e m v o=>?_);rotate_left
 ·have e:=Aj e E;have⟨y,e,m⟩:=ep e m;simp[e];refine Cf (og e.2) ?_;rcases Io e m with⟨e,m⟩|⟨e,m⟩
  ·cases m;cases v;simp[e]
  simp[e];cases m;exact o _ _ _ (by simp[e]) v
 have e:=Aj e E;dsimp only[ei]at m;simp[e];refine Wr e m 999 (λa b f h=>h=H/\f.1 2=sL Pf.av a2/\f.1 28=sL Fm.av a1/\f.1 29=sI (eM a1)/\f.1 30=sI a) (by simp[e]) (λb c p q E m=>?_) (λa z b c p q A B E e m d g=>?_);rotate_left
 ·have e:=Aj e E;have⟨C,e,m⟩:=ep e m;simp[e];refine Cf (n9 e.2) ?_;rcases Io e m with⟨e,m⟩|⟨e,m⟩
  ·cases m;cases d;simp[e]
  simp[e];cases m;exact g _ _ _ (by simp[e]) d
 have e:=Aj e E;dsimp only[ei]at m;simp[e];refine Wr e m 999 (λi j f h=>h=H/\f.1 40=sL Pf.av a2/\f.1 41=sI (eM a2)/\f.1 42=sI i) (by simp[e]) (λj k s t E m=>?_) (λi D j k s t F G E e m z28 l=>?_)
 ·have e:=Aj e E;dsimp only[ei]at m;cases m;simp[e]
 have e:=Aj e E;have⟨I,e,m⟩:=ep e m;simp[e];refine Cf (w5 e.2) ?_;rcases Io e m with⟨e,m⟩|⟨e,m⟩
 ·cases m;cases z28;simp[e]
 simp[e];cases m;exact l _ _ _ (by simp[e]) z28
def HQ:C2 prog 179 tQ (t2 Pf.av sI) Pf.av sI:=by
 intro T H a0 a1 r hm;rw[tQ] at hm;have e:=trivial;refine wi acd func179 [] [] 999 ?_;rcases Io e hm with⟨e,m⟩|⟨e,m⟩
 ·cases m;simp[e]
 have⟨a,e,m⟩:=ep e m;simp[e];refine Cf (Cb e.2) ?_;rcases Io e m with⟨e,m⟩|⟨e,m⟩;rotate_left
 ·cases m;simp[e]
 have⟨b,e,m⟩:=ep e m;simp[e];refine Cf (B1 e.2) ?_;cases m;simp[e]
def Kc:C4 prog 132 uZ (t2 Pf.av sI) Tm.av Tm.av Tm.av Pf.av:=by
 intro T H a0 a1 a2 a3 r hm;rw[uZ] at hm;have e:=trivial;refine wi acd func132 [] [] 999 ?_;have⟨a,e,m⟩:=ep e hm;simp[e];refine Cs (Ky e.2) ?_;have⟨b,e,m⟩:=ep e m;simp[e];refine Cs (G2 e.2) ?_;have⟨c,d,e,m⟩:=gv e m;simp[e];refine Cs (HQ e.2) ?_;cases m;simp[e]
def OH:C1 prog 72 zR Pf.av Tm.av:=by
 intro T H a0 r hm;rw[zR] at hm;have e:=trivial;refine wi acd func72 [] [] 999 ?_;have⟨j,e,m⟩:=ep e hm;simp[e];refine Cf (CB e.2) ?_;have⟨k,e,m⟩:=ep e m;simp[e];refine Cf (CI e.2) ?_;have⟨l,e,m⟩:=ep e m;simp[e];refine Cf (gu e.2) ?_;have⟨n,e,m⟩:=ep e m;simp[e];refine Cf (FX e.2) ?_;have⟨o,e,m⟩:=ep e m;simp[e];refine Cs (gu e.2) ?_;have⟨p,e,m⟩:=ep e m;simp[e];refine Cs (nZ e.2) ?_;have⟨q,e,m⟩:=ep e m;simp[e];refine Cs (hX e.2) ?_;have⟨s,e,m⟩:=ep e m;simp[e];refine Cs (gu e.2) ?_;have⟨t,e,m⟩:=ep e m;simp[e];refine Cs (gR e.2) ?_;have⟨a,e,m⟩:=ep e m;simp[e];refine Cs (l9 e.2) ?_;have⟨b,e,m⟩:=ep e m;simp[e];refine Cs (gu e.2) ?_;have⟨c,e,m⟩:=ep e m;simp[e];refine Cs (tU e.2) ?_;have⟨d,f,e,m⟩:=gv e m;simp[e];refine Cs (Kc e.2) ?_;have⟨g,e,m⟩:=ep e m;simp[e];refine Cs (CI e.2) ?_;have⟨h,e,m⟩:=ep e m;simp[e];refine Cs (mD e.2) ?_;have⟨i,e,m⟩:=ep e m;simp[e];refine Cs (zW e.2) ?_;cases m;simp[e]
def PB(T:fa){H:eD}{a0:ew}{a1:Sq}{f:Pf}{a:ew}{c:Nat}(b:H[c]?=some [sL sI a0.l,sI a0.pY])(hm:BT a0 a1=some (f,a)):eZ prog T 74 [AV.fO c 0,Sq.av a1] H (Pf.av f) (gb H c [sL sI a.l,sI a.pY]):=by
 rw[BT] at hm;have d:=fW b;refine fG.Iy b ?_;have e:=d;refine wi acd func74 [] [] 999 ?_;have⟨g,e,m⟩:=ep e hm;simp[e];refine Cf (hX e.2) ?_;have⟨h,d3,e,m⟩:=gv e m;simp[e];refine Cf (l5 T (by simp[e]) e.2) ?_;have⟨i,e,m⟩:=ep e m;simp[e];refine Cs (ox e.2) ?_;have⟨j,e,m⟩:=ep e m;simp[e];refine Cs (gu e.2) ?_;have⟨k,e,m⟩:=ep e m;simp[e];refine Cs (nZ e.2) ?_;have⟨n,e,m⟩:=ep e m;simp[e];refine Cs (nD e.2) ?_;have⟨o,e,m⟩:=ep e m;simp[e];refine Cs (mD e.2) ?_;have⟨p,e,m⟩:=ep e m;simp[e];refine Cs (yn e.2) ?_;cases m;simp[e]
def MD(T:fa):∀(n:Nat),(∀{H:eD} {a0:ew} {a1:List Fm} {a2:Sq} {a3:Int} {N:Pf} {j:ew} {y:Nat} (D:H[y]?=some [sL sI a0.l,sI a0.pY]) (hm:jy n a0 a1 a2 a3=some (N,j)),eZ prog T 19 [AV.fO y 0,sL Fm.av a1,Sq.av a2,sI a3] H (Pf.av N) (gb H y [sL sI j.l,sI j.pY]))/\(∀{H:eD} {a0:ew} {a1:List Fm} {a2:Sq} {a3:Int} {N:Pf} {j:ew} {y:Nat} (D:H[y]?=some [sL sI a0.l,sI a0.pY]) (hm:xK n a0 a1 a2 a3=some (N,j)),eZ prog T 69 [AV.fO y 0,sL Fm.av a1,Sq.av a2,sI a3] H (Pf.av N) (gb H y [sL sI j.l,sI j.pY])):=by
  intro n
  induction n with
  |zero=>
    refine⟨?_,?_⟩
    all_goals(intro _ _;intros;rename_i hm;cases hm)
  |succ n C=>
 refine⟨?_,?_⟩
 ·intro H a0 a1 a2 a3 N j y D hm;rw[jy] at hm;have ad:=fW D;refine fG.Iy D ?_;have e:=ad;refine wi acd func19 [] [] 4 ?_;have⟨x1,e,m⟩:=ep e hm;simp[e];refine Cf (hX e.2) ?_;simp[e];refine Wj m 0 0 (λj2 f h=>∃(v3:ew) (u:Nat) (v:Nat) (w:Nat),(h=gb H y [sL sI v3.l,sI v3.pY]/\f.1 0=AV.fO y 0/\f.1 1=sL Fm.av a1/\f.1 6=AV.eC 6 u 0/\f.1 8=AV.eC 8 v 0/\f.1 9=AV.eC 9 w 0/\f.gen 6=u/\f.box 6=some [sL Ty.av a2.acb,sL Fm.av a2.acf]/\f.gen 8=v/\f.box 8=some [sI 0,sI 0,sI 0,AV.slice .full [],AV.slice .full [],AV.slice .full [],AV.slice .full []]/\f.gen 9=w/\f.box 9=some [sI x1.ab9,sL Ty.av x1.ab_])/\j2 v3=some (N,j)) (λj2 K4 M m=>?_) ?_;rotate_left
  ·rintro bA h6 ⟨v3,u,v,w,E,m⟩;have e:=Aj e E;refine Wj m 999 999 (λj7 f h=>∃(v8:ew) (F:Nat) (G:Nat) (I:Nat),(h=gb H y [sL sI v8.l,sI v8.pY]/\f.1 0=AV.fO y 0/\f.1 6=AV.eC 6 F 0/\f.1 8=AV.eC 8 G 0/\f.1 9=AV.eC 9 I 0/\f.gen 6=F/\f.box 6=some [sL Ty.av a2.acb,sL Fm.av a2.acf]/\f.gen 8=G/\f.box 8=some [sI 0,sI 0,sI 0,AV.slice .full [],AV.slice .full [],AV.slice .full [],AV.slice .full []]/\f.gen 9=I/\f.box 9=some [sI x1.ab9,sL Ty.av x1.ab_])/\j7 v8=some (N,j)) (λj7 K9 O m=>?_) ?_;rotate_left
   ·rintro aq bB ⟨v8,F,G,I,E,m⟩;have e:=Aj e E;have⟨bC,d13,e,m⟩:=gv e m;simp[e];refine Cf (l5 T (by simp[e]) e.2) ?_;have⟨bD,e,m⟩:=ep e m;simp[e];refine Cf (mD e.2) ?_;cases m;simp[e]
   have⟨bE,d16,e,m⟩:=gv e m;simp[e];refine Cf (gf T (by simp[e]) e.2) ?_;rcases Io e m with⟨e,m⟩|⟨e,m⟩
   ·rcases Io e m with⟨e,m⟩|⟨e,m⟩;rotate_left
    ·simp[e];exact O _ _ ⟨d16,u,v,w,by simp[e],m⟩
    have⟨bF,d18,e,m⟩:=gv e m;simp[e];refine Cf (gf T (by simp[e]) e.2) ?_;have⟨bG,e,m⟩:=ep e m;simp[e];refine Cf (tU e.2) ?_;cases m;simp[e]
   rcases Io e m with⟨e,m⟩|⟨e,m⟩;rotate_left
   ·simp[e];exact O _ _ ⟨d16,u,v,w,by simp[e],m⟩
   rcases Io e m with⟨e,m⟩|⟨e,m⟩;rotate_left
   ·simp[e];exact O _ _ ⟨d16,u,v,w,by simp[e],m⟩
   have⟨bH,d21,e,m⟩:=gv e m;simp[e];refine Cf (gf T (by simp[e]) e.2) ?_;cases m;simp[e]
  refine wj 999 999 (λf h=>∃(c:Nat) (g:Nat) (i:Nat),h=gb H y [sL sI a0.l,sI a0.pY]/\f.1 0=AV.fO y 0/\f.1 1=sL Fm.av a1/\f.1 3=sI a3/\f.1 6=AV.eC 6 c 0/\f.1 8=AV.eC 8 g 0/\f.1 9=AV.eC 9 i 0/\f.1 50=sB (fU (nX a3 0) (fU (ue (eM a2.acb) 10) (ue (eM a2.acf) 10) false) false)/\f.gen 6=c/\f.box 6=some [sL Ty.av a2.acb,sL Fm.av a2.acf]/\f.gen 8=g/\f.box 8=some [sI 0,sI 0,sI 0,AV.slice .full [],AV.slice .full [],AV.slice .full [],AV.slice .full []]/\f.gen 9=i/\f.box 9=some [sI x1.ab9,sL Ty.av x1.ab_]) (λbI P=>?_) ?_
  ·rcases Pb (nX a3 0) e with e|e;rotate_left
   ·simp[e];exact P _ _ ⟨1,1,1,by simp[e]⟩
   rcases Pb (ue (eM a2.acb) 10) e with e|e
   ·simp[e];exact P _ _ ⟨1,1,1,by simp[e]⟩
   simp[e];exact P _ _ ⟨1,1,1,by simp[e]⟩
  rintro ar bJ ⟨c,g,i,E⟩;have e:=Aj e E;rcases Io e m with⟨e,m⟩|⟨e,m⟩;rotate_left
  ·simp[e];exact M _ _ ⟨a0,c,g,i,by simp[e],m⟩
  have⟨bK,d26,e,m⟩:=gv e m;simp[e];refine Cf (gf T (by simp[e]) e.2) ?_;rcases Io e m with⟨e,m⟩|⟨e,m⟩
  ·have⟨bL,d28,e,m⟩:=gv e m;simp[e];refine Cs (C.1 (by simp[e]) e.2) ?_;have⟨bM,d30,e,m⟩:=gv e m;simp[e];refine Cs (C.1 (by simp[e]) e.2) ?_;have⟨bN,e,m⟩:=ep e m;simp[e];refine Cs (ow e.2) ?_;cases m;simp[e]
  rcases Io e m with⟨e,m⟩|⟨e,m⟩
  ·have⟨bO,d33,e,m⟩:=gv e m;simp[e];refine Cs (gf T (by simp[e]) e.2) ?_;have⟨bP,d35,e,m⟩:=gv e m;simp[e];refine Cs (C.1 (by simp[e]) e.2) ?_;have⟨bQ,d37,e,m⟩:=gv e m;simp[e];refine Cs (C.1 (by simp[e]) e.2) ?_;have⟨bR,e,m⟩:=ep e m;simp[e];refine Cs (ow e.2) ?_;have⟨bS,e,m⟩:=ep e m;simp[e];refine Cs (ow e.2) ?_;cases m;simp[e]
  rcases Io e m with⟨e,m⟩|⟨e,m⟩
  ·have⟨bT,d41,e,m⟩:=gv e m;simp[e];refine Cf (xZ T (by simp[e]) e.2) ?_;have⟨bU,e,m⟩:=ep e m;simp[e];refine Cs (D_ e.2) ?_;have⟨bV,d44,e,m⟩:=gv e m;simp[e];refine Cs (C.1 (by simp[e]) e.2) ?_;have⟨bW,e,m⟩:=ep e m;simp[e];refine Cs (Ef e.2) ?_;cases m;simp[e]
  rcases Io e m with⟨e,m⟩|⟨e,m⟩
  ·have⟨bX,d47,e,m⟩:=gv e m;simp[e];refine Cf (C.1 (by simp[e]) e.2) ?_;have⟨bY,bZ,e,m⟩:=gv e m;simp[e];refine Cf (tx e.2) ?_;rcases Io e m with⟨e,m⟩|⟨e,m⟩;rotate_left
   ·simp[e];exact M _ _ ⟨d47,c,g,i,by simp[e],m⟩
   have⟨b0,e,m⟩:=ep e m;simp[e];refine Cs (D_ e.2) ?_;have⟨b1,d52,e,m⟩:=gv e m;simp[e];refine Cs (C.1 (by simp[e]) e.2) ?_;have⟨b2,e,m⟩:=ep e m;simp[e];refine Cs (Ef e.2) ?_;have⟨b3,e,m⟩:=ep e m;simp[e];refine Cs (ow e.2) ?_;cases m;simp[e]
  rcases Io e m with⟨e,m⟩|⟨e,m⟩
  ·have⟨b4,d56,e,m⟩:=gv e m;simp[e];refine Cf (mS T (by simp[e]) e.2) ?_;have⟨b5,e,m⟩:=ep e m;simp[e];refine Cs (tr e.2) ?_;have⟨b6,d59,e,m⟩:=gv e m;simp[e];refine Cs (C.1 (by simp[e]) e.2) ?_;have⟨b7,e,m⟩:=ep e m;simp[e];refine Cs (rX e.2) ?_;cases m;simp[e]
  rcases Io e m with⟨e,m⟩|⟨e,m⟩
  ·have⟨b8,d62,e,m⟩:=gv e m;simp[e];refine Cf (mS T (by simp[e]) e.2) ?_;have⟨b9,d64,e,m⟩:=gv e m;simp[e];refine Cs (l5 T (by simp[e]) e.2) ?_;have⟨b_,e,m⟩:=ep e m;simp[e];refine Cs (tr e.2) ?_;have⟨b',d67,e,m⟩:=gv e m;simp[e];refine Cs (C.1 (by simp[e]) e.2) ?_;have⟨ca,e,m⟩:=ep e m;simp[e];refine Cs (rX e.2) ?_;have⟨cb,e,m⟩:=ep e m;simp[e];refine Cs (yu e.2) ?_;cases m;simp[e]
  rcases Io e m with⟨e,m⟩|⟨e,m⟩
  ·have⟨cc,d71,e,m⟩:=gv e m;simp[e];refine Cf (l5 T (by simp[e]) e.2) ?_;have⟨cd,d73,e,m⟩:=gv e m;simp[e];refine Cf (gf T (by simp[e]) e.2) ?_;have⟨aj,af,m⟩:=mf m;have e:=Aj e (show[sI 5,sI 7]=List.map sI aj by rw[af];rfl);have⟨cf,e,m⟩:=ep e m;have⟨cg,e,m⟩:=ep e m;simp[e];refine Cs (ox e.2) ?_;have⟨ch,e,m⟩:=ep e m;simp[e];refine Cs (gu e.2) ?_;have⟨cj,e,m⟩:=ep e m;simp[e];refine Cs (nZ e.2) ?_;have⟨ck,e,m⟩:=ep e m;simp[e];refine Cs (nD e.2) ?_;have⟨ak,ah,m⟩:=mf m;have e:=Aj e (show[sI 10,sI 14]=List.map sI ak by rw[ah];rfl);have⟨cm,e,m⟩:=ep e m;have⟨cn,e,m⟩:=ep e m;simp[e];refine Cs (mD e.2) ?_;have⟨cp,e,m⟩:=ep e m;simp[e];refine Cs (yn e.2) ?_;cases m;simp[e]
  rcases Io e m with⟨e,m⟩|⟨e,m⟩
  ·have⟨cq,d87,e,m⟩:=gv e m;simp[e];refine Cf (C.1 (by simp[e]) e.2) ?_;have⟨cr,cu,e,m⟩:=gv e m;simp[e];refine Cf (tx e.2) ?_;rcases Io e m with⟨e,m⟩|⟨e,m⟩;rotate_left
   ·simp[e];exact M _ _ ⟨d87,c,g,i,by simp[e],m⟩
   have⟨cw,d91,e,m⟩:=gv e m;simp[e];refine Cf (mS T (by simp[e]) e.2) ?_;have⟨cx,d93,e,m⟩:=gv e m;simp[e];refine Cf (gf T (by simp[e]) e.2) ?_;have⟨al,ai,m⟩:=mf m;have e:=Aj e (show[sI 5,sI 7]=List.map sI al by rw[ai];rfl);have⟨cy,e,m⟩:=ep e m;have⟨cz,e,m⟩:=ep e m;simp[e];refine Cs (mb e.2) ?_;have⟨cA,e,m⟩:=ep e m;simp[e];refine Cs (nD e.2) ?_;have⟨an,ae,m⟩:=mf m;have e:=Aj e (show[sI 10,sI 14]=List.map sI an by rw[ae];rfl);have⟨au,e,m⟩:=ep e m;have⟨aw,d103,e,m⟩:=gv e m;simp[e];refine Cs (l5 T (by simp[e]) e.2) ?_;have⟨ax,e,m⟩:=ep e m;simp[e];refine Cs (yn e.2) ?_;cases m;simp[e]
  rcases Io e m with⟨e,m⟩|⟨e,m⟩
  ·have⟨ay,d106,e,m⟩:=gv e m;simp[e];refine Cf (C.2 (by simp[e]) e.2) ?_;cases m;simp[e]
  rcases Io e m with⟨e,m⟩|⟨e,m⟩
  ·have⟨az,d108,e,m⟩:=gv e m;simp[e];refine Cf (C.1 (by simp[e]) e.2) ?_;have⟨aA,aB,e,m⟩:=gv e m;simp[e];refine Cf (tx e.2) ?_;rcases Io e m with⟨e,m⟩|⟨e,m⟩;rotate_left
   ·simp[e];exact M _ _ ⟨d108,c,g,i,by simp[e],m⟩
   have⟨aC,e,m⟩:=ep e m;simp[e];refine Cs (mb e.2) ?_;have⟨aD,d113,e,m⟩:=gv e m;simp[e];refine Cs (l5 T (by simp[e]) e.2) ?_;have⟨aE,e,m⟩:=ep e m;simp[e];refine Cs (tU e.2) ?_;have⟨aF,e,m⟩:=ep e m;simp[e];refine Cs (zW e.2) ?_;cases m;simp[e]
  rcases Io e m with⟨e,m⟩|⟨e,m⟩
  ·have⟨aG,d117,e,m⟩:=gv e m;simp[e];refine Cf (C.1 (by simp[e]) e.2) ?_;have⟨aH,aI,e,m⟩:=gv e m;simp[e];refine Cf (tx e.2) ?_;rcases Io e m with⟨e,m⟩|⟨e,m⟩;rotate_left
   ·simp[e];exact M _ _ ⟨d117,c,g,i,by simp[e],m⟩
   have⟨aJ,e,m⟩:=ep e m;simp[e];refine Cs (mb e.2) ?_;have⟨aK,e,m⟩:=ep e m;simp[e];refine Cs (nS e.2) ?_;have⟨aL,d123,e,m⟩:=gv e m;simp[e];refine Cs (l5 T (by simp[e]) e.2) ?_;have⟨aM,e,m⟩:=ep e m;simp[e];refine Cs (tU e.2) ?_;have⟨aN,e,m⟩:=ep e m;simp[e];refine Cs (zW e.2) ?_;cases m;simp[e]
  rcases Io e m with⟨e,m⟩|⟨e,m⟩
  ·have⟨aO,d127,e,m⟩:=gv e m;simp[e];refine Cf (l5 T (by simp[e]) e.2) ?_;have⟨aP,e,m⟩:=ep e m;simp[e];refine Cf (OH e.2) ?_;cases m;simp[e]
  rcases Io e m with⟨e,m⟩|⟨e,m⟩
  ·have⟨aQ,d130,e,m⟩:=gv e m;simp[e];refine Cs (l5 T (by simp[e]) e.2) ?_;have⟨aR,d132,e,m⟩:=gv e m;simp[e];refine Cs (l5 T (by simp[e]) e.2) ?_;have⟨aS,e,m⟩:=ep e m;simp[e];refine Cs (ox e.2) ?_;have⟨aT,e,m⟩:=ep e m;simp[e];refine Cs (ox e.2) ?_;have⟨aU,e,m⟩:=ep e m;simp[e];refine Cs (nZ e.2) ?_;have⟨aV,e,m⟩:=ep e m;simp[e];refine Cs (mD e.2) ?_;have⟨aW,e,m⟩:=ep e m;simp[e];refine Cs (mD e.2) ?_;have⟨aX,e,m⟩:=ep e m;simp[e];refine Cs (AS e.2) ?_;cases m;simp[e]
  rcases Io e m with⟨e,m⟩|⟨e,m⟩
  ·have⟨aY,d140,e,m⟩:=gv e m;simp[e];refine Cf (mS T (by simp[e]) e.2) ?_;have⟨aZ,e,m⟩:=ep e m;simp[e];refine Cs (tr e.2) ?_;have⟨a6,d143,e,m⟩:=gv e m;simp[e];refine Cs (PB T (by simp[e]) e.2) ?_;have⟨a7,e,m⟩:=ep e m;simp[e];refine Cs (rX e.2) ?_;have⟨a8,e,m⟩:=ep e m;simp[e];refine Cs (ow e.2) ?_;cases m;simp[e]
  rcases Io e m with⟨e,m⟩|⟨e,m⟩
  ·have⟨a_,d147,e,m⟩:=gv e m;simp[e];refine Cf (mS T (by simp[e]) e.2) ?_;have⟨a',e,m⟩:=ep e m;simp[e];refine Cs (tr e.2) ?_;have⟨ba,d150,e,m⟩:=gv e m;simp[e];refine Cs (C.1 (by simp[e]) e.2) ?_;have⟨bb,e,m⟩:=ep e m;simp[e];refine Cs (rX e.2) ?_;cases m;simp[e]
  rcases Io e m with⟨e,m⟩|⟨e,m⟩;rotate_left
  ·simp[e];exact M _ _ ⟨d26,c,g,i,by simp[e],m⟩
  have⟨bc,d153,e,m⟩:=gv e m;simp[e];refine Cf (mS T (by simp[e]) e.2) ?_;have⟨bd,d155,e,m⟩:=gv e m;simp[e];refine Cs (l5 T (by simp[e]) e.2) ?_;have⟨bf,e,m⟩:=ep e m;simp[e];refine Cs (tr e.2) ?_;have⟨bg,d158,e,m⟩:=gv e m;simp[e];refine Cs (C.1 (by simp[e]) e.2) ?_;have⟨bh,e,m⟩:=ep e m;simp[e];refine Cs (rX e.2) ?_;have⟨bj,e,m⟩:=ep e m;simp[e];refine Cs (yu e.2) ?_;cases m;simp[e]
 ·intro H a0 a1 a2 a3 N j y D hm;rw[xK] at hm;have ad:=fW D;refine fG.VI (Post:=λx K=>x=Pf.av N/\∃X,K=(gb H y [sL sI j.l,sI j.pY])++X) ?_ (λ_ _ h=>⟨_,h.2.choose,h.2.choose_spec,by simp,by rw[h.1];simp[AV.low,AV.iZ],λcs h=>by rcases Sh h with h|h<;>first|exact .inl h|(rw[h];simp[AV.low,AV.iZ]),h.1,rfl⟩);refine fG.Iy D ?_;have e:=ad;refine wi acd func69 [] [] 6 ?_;have⟨a,b,d163,e,m⟩:=Kd e hm;simp[e];refine Cf (HI T (by simp[e]) e.2) ?_;simp[e];refine Wj m 999 4 (λaa f h=>∃(J:Int) (k:Int) (v167:ew) (v168:Int) (z:Nat) (p:Nat) (q:Nat),(h=(gb H y [sL sI v167.l,sI v167.pY])++[[sI v168,sI b.dv.ab9,sL Ty.av b.dv.ab_,sL Tm.av b.ej,sL Fm.av b.ab_]]/\f.1 0=AV.fO y 0/\f.1 1=sL Fm.av a1/\f.1 3=sI a3/\f.1 6=AV.eC 6 z 0/\f.1 8=AV.eC 8 p 0/\f.1 9=AV.eC 9 q 0/\f.1 10=sI J/\f.gen 6=z/\f.box 6=some [sL Ty.av a2.acb,sL Fm.av a2.acf]/\f.gen 8=p/\f.box 8=some [sI 0,sI 0,sI 0,AV.slice .full [],AV.slice .full [],AV.slice .full [],AV.slice .full []]/\f.gen 9=q/\f.box 9=some [sI k,sI a.aca,sI a.dv.ab9,sL Ty.av a.dv.ab_,sL Tm.av a.ej,AV.zz (List.length H) 0 1 1,sL Pf.av a.ab_])/\aa J k v167 v168=some (N,j)) (λaa bk Q m=>?_) ?_
  ·have⟨bl,d172,e,m⟩:=gv e m;simp[e];refine Cf (gf T (by simp[e]) e.2) ?_;rcases Io e m with⟨e,m⟩|⟨e,m⟩
   ·simp[e];exact Q _ _ ⟨15,14,d172,7,1,1,1,by simp[e],m⟩
   simp[e];exact Q _ _ ⟨11,a.ab9,d172,b.ab9,1,1,1,by simp[e],m⟩
  rintro R bm ⟨J,k,v167,v168,z,p,q,E,m⟩;have e:=Aj e E;have⟨bn,e,m⟩:=ep e m;have⟨bo,e,m⟩:=ep e m;simp[e];refine Cs (hX e.2) ?_;have⟨bp,e,m⟩:=ep e m;simp[e];refine Cs (tr e.2) ?_;have⟨bq,e,m⟩:=ep e m;simp[e];refine Cs (D_ e.2) ?_;have⟨r,d179,e,m⟩:=gv e m;simp[e];refine Cs (C.1 (by simp[e]) e.2) ?_;simp[e];refine Wj m 999 1 (λab f h=>∃(S:Int) (v182:Int) (v183:Int) (U:List Ty) (V:List Tm) (W:List Fm) (Y:List Pf) (L:ew) (A:Nat) (B:Nat) (s:Nat),(h=(gb H y [sL sI L.l,sI L.pY])++[[sI v168,sI b.dv.ab9,sL Ty.av b.dv.ab_,sL Tm.av b.ej,sL Fm.av b.ab_]]/\f.1 8=AV.eC 8 A 0/\f.1 9=AV.eC 9 B 0/\f.1 10=sI J/\f.1 12=AV.eC 12 s 0/\f.gen 8=A/\f.box 8=some [sI 0,sI 0,sI 0,AV.slice .full [],AV.slice .full [],AV.slice .full [],AV.slice .full []]/\f.gen 9=B/\f.box 9=some [sI k,sI a.aca,sI a.dv.ab9,sL Ty.av a.dv.ab_,sL Tm.av a.ej,AV.zz (List.length H) 0 1 1,sL Pf.av a.ab_]/\f.gen 12=s/\f.box 12=some [sI S,sI v182,sI v183,sL Ty.av U,sL Tm.av V,sL Fm.av W,sL Pf.av Y])/\ab S v182 v183 U V W Y L=some (N,j)) (λab br Z m=>?_) ?_
  ·have⟨bs,d192,e,m⟩:=gv e m;simp[e];refine Cf (gf T (by simp[e]) e.2) ?_;rcases Io e m with⟨e,m⟩|⟨e,m⟩;rotate_left
   ·simp[e];exact Z _ _ ⟨r.ab9,r.aca,r.dv.ab9,r.dv.ab_,r.ej,r.fj,r.ab_,d192,p,q,(R.gen 12+1),by simp[e],m⟩
   have⟨bt,e,m⟩:=ep e m;simp[e];refine Cf (mb e.2) ?_;have⟨bu,e,m⟩:=ep e m;simp[e];refine Cs (gu e.2) ?_;have⟨bw,e,m⟩:=ep e m;simp[e];refine Cs (tU e.2) ?_;have⟨t,e,m⟩:=ep e m;simp[e];refine Cs (yn e.2) ?_;simp[e];exact Z _ _ ⟨t.ab9,t.aca,t.dv.ab9,t.dv.ab_,t.ej,t.fj,t.ab_,d192,p,q,(R.gen 12+1),by simp[e],m⟩
  rintro ao bx ⟨S,v182,v183,U,V,W,Y,L,A,B,s,E,m⟩;have e:=Aj e E;simp[e];refine ZZ 999 (o:=(List.length H)) (d:=9) (pre:=[sI k,sI a.aca,sI a.dv.ab9,sL Ty.av a.dv.ab_,sL Tm.av a.ej]) (post:=[sL Pf.av a.ab_]) (x:=Fm.av (Fm.mk v168 b.dv b.ej b.ab_)) (by simp[e]) (by simp[e]) (by simp) (by simp;rfl) ?_;have e:=Aj e (show AV.agg [sI k,sI a.aca,sI a.dv.ab9,sL Ty.av a.dv.ab_,sL Tm.av a.ej,AV.slice .iP [Fm.av (Fm.mk v168 b.dv b.ej b.ab_)],sL Pf.av a.ab_]=Pf.av (Pf.mk k a.aca a.dv a.ej [(Fm.mk v168 b.dv b.ej b.ab_)] a.ab_) by rw[Pf.fL];rfl);have e:=Aj e (show AV.agg [sI k,sI a.aca,sI a.dv.ab9,sL Ty.av a.dv.ab_,sL Tm.av a.ej,AV.slice .iP [Fm.av (Fm.mk v168 b.dv b.ej b.ab_)],sL Pf.av a.ab_]=Pf.av (Pf.mk k a.aca a.dv a.ej [(Fm.mk v168 b.dv b.ej b.ab_)] a.ab_) by rw[Pf.fL];rfl);have⟨bz,e,m⟩:=ep e m;simp[e];refine Cf (ow e.2) ?_;cases m;simp[e]
def Ox(T:fa){H:eD}{a0:ew}{a1:List Fm}{a2:Sq}{a3:Int}{d:Pf}{a:ew}{b:Nat}(c:H[b]?=some [sL sI a0.l,sI a0.pY]){n:Nat}(hm:jy n a0 a1 a2 a3=some (d,a)):eZ prog T 19 [AV.fO b 0,sL Fm.av a1,Sq.av a2,sI a3] H (Pf.av d) (gb H b [sL sI a.l,sI a.pY]):=(MD T n).1 c hm
def Gm:C1 prog 91 o8 sI sI:=by
 intro T H a0 r hm;rw[o8] at hm;have e:=trivial;refine wi acd func91 [] [] 6 ?_;simp[e];refine wj 999 999 (λf h=>h=H/\f.1 4=sB (fU (eH a0 16) true (fU (eH a0 17) true (eH a0 19)))) (λc a=>?_) ?_;rotate_left
 ·rintro b d E;have e:=Aj e E;rcases Io e hm with⟨e,m⟩|⟨e,m⟩
  ·cases m;simp[e]
  cases m;simp[e]
 rcases Pb (eH a0 16) e with e|e
 ·simp[e];exact a _ _ (by simp[e])
 rcases Pb (eH a0 17) e with e|e
 ·simp[e];exact a _ _ (by simp[e])
 simp[e];exact a _ _ (by simp[e])
def KL:C2 prog 92 rB sI sI sI:=by
 intro T H a0 a1 r hm;rw[rB] at hm;have e:=trivial;refine wi acd func92 [] [] 6 ?_;simp[e];refine wj 999 0 (λf h=>h=H/\f.1 1=sI a1/\f.1 5=sI a0/\f.1 6=sB (fU (eH a0 8) true (eH a0 12))) (λg b=>?_) ?_
 ·rcases Pb (eH a0 8) e with e|e
  ·simp[e];exact b _ _ (by simp[e])
  simp[e];exact b _ _ (by simp[e])
 rintro c i E;have e:=Aj e E;rcases Io e hm with⟨e,m⟩|⟨e,m⟩
 ·apply wg 999;cases m;simp[e]
 apply wg 1;simp[e];refine wj 999 999 (λf h=>h=H/\f.1 1=sI a1/\f.1 5=sI a0/\f.1 9=sB (fU (eH a0 11) true (fU (eH a0 15) true (eH a0 16)))) (λj a=>?_) ?_;rotate_left
 ·rintro d k E;have e:=Aj e E;rcases Io e m with⟨e,m⟩|⟨e,m⟩
  ·cases m;simp[e]
  rcases Io e m with⟨e,m⟩|⟨e,m⟩
  ·cases m;simp[e]
  cases m;simp[e]
 rcases Pb (eH a0 11) e with e|e
 ·simp[e];exact a _ _ (by simp[e])
 rcases Pb (eH a0 15) e with e|e
 ·simp[e];exact a _ _ (by simp[e])
 simp[e];exact a _ _ (by simp[e])
def Ea(T:fa)(a:qq T){H:eD}{a0:List Fm}{a1:Sq}{a2:Pf}{a3:Fm}{b:Int}(hm:oF a0 a1 a2 a3=some b):eZ prog T 40 [sL Fm.av a0,Sq.av a1,Pf.av a2,Fm.av a3] H (sI b) H:=by
 rw[oF] at hm;have e:=a;refine wi acd func40 [] [] 999 ?_;have⟨c,d,e,m⟩:=gv e hm;simp[e];refine Cf (vD T a e.2) ?_;rcases Io e m with⟨e,m⟩|⟨e,m⟩
 ·cases m;simp[e]
 have⟨f,e,m⟩:=ep e m;simp[e];refine Cf (ub T a e.2) ?_;rcases Io e m with⟨e,m⟩|⟨e,m⟩
 ·cases m;simp[e]
 have⟨g,e,m⟩:=ep e m;simp[e];refine Cf (uk T a e.2) ?_;cases m;simp[e]
def I9(T:fa):∀(n:Nat),(∀{H:eD} {a0:Fm} {a1:Int} {a2:(List (Int×Bool))} {c:(List (Int×Bool))} {o2:Nat} (d:H[o2]?=some [oH sB a2]) (hm:lq n a0 a1 a2=some c),eZ prog T 170 [Fm.av a0,sI a1,AV.mh o2] H (AV.tuple []) (gb H o2 [oH sB c])):=by
  intro n
  induction n with
  |zero=>
   skip
   all_goals(intro _ _;intros;rename_i hm;cases hm)
  |succ n u=>
 intro H a0 a1 a2 c o2 d hm;rw[lq] at hm;have l:=fW d;refine fG.Iy d ?_;have e:=l;refine wi acd func170 [] [] 999 ?_;simp[e];refine Wr e hm 999 (λt s2 f h=>∃(b:Nat),h=gb H o2 [oH sB s2]/\f.1 1=sI a1/\f.1 2=AV.mh o2/\f.1 3=AV.eC 3 b 0/\f.1 11=sL Tm.av a0.ej/\f.1 12=sI (eM a0.ej)/\f.1 13=sI t/\f.gen 3=b/\f.box 3=some [sI a0.ab9,sI a0.dv.ab9,sL Ty.av a0.dv.ab_,sL Tm.av a0.ej,sL Fm.av a0.ab_]) ⟨1,by simp[e]⟩ (λs2 o v w E m=>?_) (λt C s2 o v w n6 D E e m x p=>?_);rotate_left
 ·have⟨b,E⟩:=E;have e:=Aj e E;have⟨d10,e,m⟩:=ep e m;simp[e];refine Cf (yk T (by simp[e]) e.2) ?_;simp[e];cases m;exact p _ _ _ ⟨b,by simp[e]⟩ x
 have⟨b,E⟩:=E;have e:=Aj e E;dsimp only[ei]at m;simp[e];refine Wr e m 999 (λi g f h=>∃(a:Nat),h=gb H o2 [oH sB g]/\f.1 1=sI a1/\f.1 2=AV.mh o2/\f.1 3=AV.eC 3 a 0/\f.1 23=sL Fm.av a0.ab_/\f.1 24=sI (eM a0.ab_)/\f.1 25=sI i/\f.gen 3=a/\f.box 3=some [sI a0.ab9,sI a0.dv.ab9,sL Ty.av a0.dv.ab_,sL Tm.av a0.ej,sL Fm.av a0.ab_]) ⟨b,by simp[e]⟩ (λg j q r E m=>?_) (λi y g j q r z A E e m s k=>?_)
 ·have⟨a,E⟩:=E;have e:=Aj e E;dsimp only[ei]at m;cases m;simp[e]
 have⟨a,E⟩:=E;have e:=Aj e E;have⟨B,e,m⟩:=ep e m;simp[e];refine Cs (q8 e.2) ?_;have⟨d21,e,m⟩:=ep e m;simp[e];refine Cs (u (by simp[e]) e.2) ?_;simp[e];cases m;exact k _ _ _ ⟨a,by simp[e]⟩ s
def KX(T:fa){H:eD}{a0:Fm}{a1:Int}{a2:(List (Int×Bool))}{a:(List (Int×Bool))}{o2:Nat}(b:H[o2]?=some [oH sB a2]){n:Nat}(hm:lq n a0 a1 a2=some a):eZ prog T 170 [Fm.av a0,sI a1,AV.mh o2] H (AV.tuple []) (gb H o2 [oH sB a]):=(I9 T n) b hm
def Gj(T:fa):∀(n:Nat),(∀{H:eD} {a0:Pf} {a1:Int} {a2:(List (Int×Bool))} {d:(List (Int×Bool))} {o2:Nat} (g:H[o2]?=some [oH sB a2]) (hm:mL n a0 a1 a2=some d),eZ prog T 108 [Pf.av a0,sI a1,AV.mh o2] H (AV.tuple []) (gb H o2 [oH sB d])):=by
  intro n
  induction n with
  |zero=>
   skip
   all_goals(intro _ _;intros;rename_i hm;cases hm)
  |succ n C=>
 intro H a0 a1 a2 d o2 g hm;rw[mL] at hm;have s:=fW g;refine fG.Iy g ?_;have e:=s;refine wi acd func108 [] [] 999 ?_;simp[e];refine Wr e hm 999 (λB s2 f h=>∃(c:Nat),h=gb H o2 [oH sB s2]/\f.1 1=sI a1/\f.1 2=AV.mh o2/\f.1 3=AV.eC 3 c 0/\f.1 13=sL Tm.av a0.ej/\f.1 14=sI (eM a0.ej)/\f.1 15=sI B/\f.gen 3=c/\f.box 3=some [sI a0.ab9,sI a0.aca,sI a0.dv.ab9,sL Ty.av a0.dv.ab_,sL Tm.av a0.ej,sL Fm.av a0.fj,sL Pf.av a0.ab_]) ⟨1,by simp[e]⟩ (λs2 t D F E m=>?_) (λB Q s2 t D F n6 R E e m G u=>?_);rotate_left
 ·have⟨c,E⟩:=E;have e:=Aj e E;have⟨d10,e,m⟩:=ep e m;simp[e];refine Cf (yk T (by simp[e]) e.2) ?_;simp[e];cases m;exact u _ _ _ ⟨c,by simp[e]⟩ G
 have⟨c,E⟩:=E;have e:=Aj e E;dsimp only[ei]at m;simp[e];refine Wr e m 999 (λk i f h=>∃(a:Nat),h=gb H o2 [oH sB i]/\f.1 1=sI a1/\f.1 2=AV.mh o2/\f.1 3=AV.eC 3 a 0/\f.1 25=sL Fm.av a0.fj/\f.1 26=sI (eM a0.fj)/\f.1 27=sI k/\f.gen 3=a/\f.box 3=some [sI a0.ab9,sI a0.aca,sI a0.dv.ab9,sL Ty.av a0.dv.ab_,sL Tm.av a0.ej,sL Fm.av a0.fj,sL Pf.av a0.ab_]) ⟨c,by simp[e]⟩ (λi l v w E m=>?_) (λk I i l v w J K E e m x o=>?_);rotate_left
 ·have⟨a,E⟩:=E;have e:=Aj e E;have⟨L,e,m⟩:=ep e m;simp[e];refine Cs (Gm e.2) ?_;have⟨d21,e,m⟩:=ep e m;simp[e];refine Cs (KX T (by simp[e]) e.2) ?_;simp[e];cases m;exact o _ _ _ ⟨a,by simp[e]⟩ x
 have⟨a,E⟩:=E;have e:=Aj e E;dsimp only[ei]at m;simp[e];refine Wr e m 999 (λp j f h=>∃(b:Nat),h=gb H o2 [oH sB j]/\f.1 1=sI a1/\f.1 2=AV.mh o2/\f.1 3=AV.eC 3 b 0/\f.1 41=sL Pf.av a0.ab_/\f.1 42=sI (eM a0.ab_)/\f.1 43=sI p/\f.gen 3=b/\f.box 3=some [sI a0.ab9,sI a0.aca,sI a0.dv.ab9,sL Ty.av a0.dv.ab_,sL Tm.av a0.ej,sL Fm.av a0.fj,sL Pf.av a0.ab_]) ⟨a,by simp[e]⟩ (λj q y z E m=>?_) (λp M j q y z N O E e m A r=>?_)
 ·have⟨b,E⟩:=E;have e:=Aj e E;dsimp only[ei]at m;cases m;simp[e]
 have⟨b,E⟩:=E;have e:=Aj e E;have⟨P,e,m⟩:=ep e m;simp[e];refine Cs (KL e.2) ?_;have⟨d32,e,m⟩:=ep e m;simp[e];refine Cs (C (by simp[e]) e.2) ?_;simp[e];cases m;exact r _ _ _ ⟨b,by simp[e]⟩ A
def HT(T:fa){H:eD}{a0:Pf}{a1:Int}{a2:(List (Int×Bool))}{a:(List (Int×Bool))}{o2:Nat}(b:H[o2]?=some [oH sB a2]){n:Nat}(hm:mL n a0 a1 a2=some a):eZ prog T 108 [Pf.av a0,sI a1,AV.mh o2] H (AV.tuple []) (gb H o2 [oH sB a]):=(Gj T n) b hm
def KG(T:fa){H:eD}{a0:Pf}{a:List Int}{b:Int}(hm:vg a0=some (a,b)):eZ prog T 42 [Pf.av a0] H (AV.tuple [sL sI a,sI b]) H:=by
 rw[vg] at hm;refine fG.tK (Post:=λx K=>x=AV.tuple [sL sI a,sI b]/\∃X,K=H++X) ?_ (λ_ _ h=>⟨_,h.2.choose_spec,by rw[h.1];simp[AV.low,AV.iZ],h.1,rfl⟩);have e:=trivial;refine wi acd func42 [] [] 999 ?_;have⟨c,e,m⟩:=ep e hm;simp[e];refine Cf (w5 e.2) ?_;rcases Io e m with⟨e,m⟩|⟨e,m⟩
 ·cases m;simp[e]
 have⟨d2,e,m⟩:=ep e m;simp[e];refine Cf (HT T (by simp[e]) e.2) ?_;have⟨d,d4,e,m⟩:=gv e m;simp[e];refine Cf (va T (by simp[e]) e.2) ?_;cases m;simp[e]
def Au(T:fa)(L:qq T){a0:List Int}{M:Bool}(hm:pV a0=some M):fG prog T 7 [sL sI a0] [] (λx _=>x=sB M):=by
 rw[pV] at hm;have e:=L;refine wi acd func7 [] [] 5 ?_;have⟨x1,e,m⟩:=ep e hm;simp[e];refine Cf (JW T L e.2) ?_;simp[e];rcases Io e m with⟨e,m⟩|⟨e,m⟩;rotate_left
 ·apply wg 999;cases m;simp[e]
 apply wg 5;have⟨x2,e,m⟩:=ep e m;simp[e];refine Cf (SZ e.2) ?_;simp[e];rcases Io e m with⟨e,m⟩|⟨e,m⟩;rotate_left
 ·apply wg 999;cases m;simp[e]
 apply wg 13;have⟨x3,e,m⟩:=ep e m;simp[e];refine Cf (S1 T e.2) ?_;have⟨x4,d5,e,m⟩:=gv e m;simp[e];refine Cf (Mv T (by simp[e]) e.2) ?_;have⟨v,d7,e,m⟩:=gv e m;simp[e];refine Cf (J_ T (by simp[e]) e.2) ?_;have⟨x8,d9,e,m⟩:=gv e m;simp[e];refine Cf (Ox T (by simp[e]) e.2) ?_;have⟨a,Z,e,m⟩:=gv e m;simp[e];refine Cf (vD T L e.2) ?_;simp[e];rcases Io e m with⟨e,m⟩|⟨e,m⟩
 ·apply wg 999;cases m;simp[e]
 apply wg 7;have⟨j,aa,e,m⟩:=gv e m;simp[e];refine Cf (KG T e.2) ?_;have⟨ab,ad,e,m⟩:=gv e m;simp[e];refine Cf (yL e.2) ?_;simp[e];refine Wj m 999 999 (λC f h=>∃(z:Bool) (k:Nat) (n:Nat),(h=gb [[]] 0 [sL sI d9.l,sI d9.pY]/\f.1 5=AV.eC 5 k 0/\f.1 7=AV.eC 7 n 0/\f.1 9=sL sI j/\f.1 85=sB z/\f.gen 5=k/\f.box 5=some [sL Ty.av v.acb,sL Fm.av v.acf]/\f.gen 7=n/\f.box 7=some [sI a.eg.ab9,sI a.eg.dv.ab9,sL Ty.av a.eg.dv.ab_,sL Tm.av a.eg.ej,sL Fm.av a.eg.ab_,sL sI a.gi])/\C z=some M) (λC ae i m=>?_) ?_
 ·rcases Io e m with⟨e,m⟩|⟨e,m⟩
  ·simp[e];exact i _ _ ⟨true,1,1,by simp[e],m⟩
  rcases Io e m with⟨e,m⟩|⟨e,m⟩
  ·simp[e];exact i _ _ ⟨true,1,1,by simp[e],m⟩
  have⟨af,e,m⟩:=ep e m;simp[e];refine Cf (rb e.2) ?_;rcases Io e m with⟨e,m⟩|⟨e,m⟩
  ·simp[e];exact i _ _ ⟨true,1,1,by simp[e],m⟩
  have⟨ah,e,m⟩:=ep e m;simp[e];refine Cf (Ea T L e.2) ?_;rcases Io e m with⟨e,m⟩|⟨e,m⟩
  ·simp[e];exact i _ _ ⟨true,1,1,by simp[e],m⟩
  rcases Io e m with⟨e,m⟩|⟨e,m⟩
  ·simp[e];exact i _ _ ⟨false,1,1,by simp[e],m⟩
  simp[e];exact i _ _ ⟨(nX (eM a.gi) 0),1,1,by simp[e],m⟩
 rintro W ai ⟨z,k,n,E,m⟩;have e:=Aj e E;rcases Io e m with⟨e,m⟩|⟨e,m⟩
 ·cases m;simp[e]
 simp[e];refine Wr e m 999 (λt D f h=>∃(d:Nat) (g:Nat),h=gb [[]] 0 [sL sI d9.l,sI d9.pY]/\f.1 5=AV.eC 5 d 0/\f.1 7=AV.eC 7 g 0/\f.1 9=sL sI j/\f.1 87=sL sI a.gi/\f.1 88=sI (eM a.gi)/\f.1 89=sI t/\f.gen 5=d/\f.box 5=some [sL Ty.av v.acb,sL Fm.av v.acf]/\f.gen 7=g/\f.box 7=some [sI a.eg.ab9,sI a.eg.dv.ab9,sL Ty.av a.eg.dv.ab_,sL Tm.av a.eg.ej,sL Fm.av a.eg.ab_,sL sI a.gi]) ⟨k,n,by simp[e]⟩ (λD F N O E m=>?_) (λt w D F N O aj P E e m G H=>?_)
 ·have⟨d,g,E⟩:=E;have e:=Aj e E;dsimp only[ei]at m;cases m;simp[e]
 have⟨d,g,E⟩:=E;have e:=Aj e E;simp[e];refine Wr e m 5 (λA u f h=>∃(b:Nat) (c:Nat),h=gb [[]] 0 [sL sI d9.l,sI d9.pY]/\f.1 5=AV.eC 5 b 0/\f.1 7=AV.eC 7 c 0/\f.1 9=sL sI j/\f.1 13=sI t/\f.1 14=sI w/\f.1 15=sB u/\f.1 87=sL sI a.gi/\f.1 88=sI (eM a.gi)/\f.1 89=sI t/\f.1 94=sL sI j/\f.1 95=sI (eM j)/\f.1 96=sI A/\f.gen 5=b/\f.box 5=some [sL Ty.av v.acb,sL Fm.av v.acf]/\f.gen 7=c/\f.box 7=some [sI a.eg.ab9,sI a.eg.dv.ab9,sL Ty.av a.eg.dv.ab_,sL Tm.av a.eg.ej,sL Fm.av a.eg.ab_,sL sI a.gi]) ⟨d,g,by simp[e]⟩ (λu I Q R E m=>?_) (λA S u I Q R ak al E e m U J=>?_);rotate_left
 ·have⟨b,c,E⟩:=E;have e:=Aj e E;simp[e];refine wj 999 999 (λf h=>∃(o:Nat) (p:Nat),h=gb [[]] 0 [sL sI d9.l,sI d9.pY]/\f.1 5=AV.eC 5 o 0/\f.1 7=AV.eC 7 p 0/\f.1 9=sL sI j/\f.1 13=sI t/\f.1 14=sI w/\f.1 15=sB (fU u true (eH w S))/\f.1 87=sL sI a.gi/\f.1 88=sI (eM a.gi)/\f.1 89=sI t/\f.1 94=sL sI j/\f.1 95=sI (eM j)/\f.1 96=sI A/\f.gen 5=o/\f.box 5=some [sL Ty.av v.acb,sL Fm.av v.acf]/\f.gen 7=p/\f.box 7=some [sI a.eg.ab9,sI a.eg.dv.ab9,sL Ty.av a.eg.dv.ab_,sL Tm.av a.eg.ej,sL Fm.av a.eg.ab_,sL sI a.gi]) (λan y=>?_) ?_;rotate_left
  ·rintro X ao ⟨o,p,E⟩;have e:=Aj e E;simp[e];cases m;exact J _ _ _ ⟨o,p,by simp[e]⟩ U
  rcases Pb u e with e|e
  ·simp[e];exact y _ _ ⟨b,c,by simp[e]⟩
  simp[e];exact y _ _ ⟨b,c,by simp[e]⟩
 have⟨b,c,E⟩:=E;have e:=Aj e E;dsimp only[ei]at m;simp[e];refine Wj m 999 999 (λK f h=>∃(B:Bool) (q:Nat) (r:Nat),(h=gb [[]] 0 [sL sI d9.l,sI d9.pY]/\f.1 5=AV.eC 5 q 0/\f.1 7=AV.eC 7 r 0/\f.1 9=sL sI j/\f.1 87=sL sI a.gi/\f.1 88=sI (eM a.gi)/\f.1 89=sI t/\f.1 133=sB B/\f.gen 5=q/\f.box 5=some [sL Ty.av v.acb,sL Fm.av v.acf]/\f.gen 7=r/\f.box 7=some [sI a.eg.ab9,sI a.eg.dv.ab9,sL Ty.av a.eg.dv.ab_,sL Tm.av a.eg.ej,sL Fm.av a.eg.ab_,sL sI a.gi])/\K B=some P) (λK aq s m=>?_) ?_;rotate_left
 ·rintro Y ar ⟨B,q,r,E,m⟩;have e:=Aj e E;rcases Io e m with⟨e,m⟩|⟨e,m⟩
  ·cases m;cases G;simp[e]
  simp[e];cases m;exact H _ _ _ ⟨q,r,by simp[e]⟩ G
 rcases Io e m with⟨e,m⟩|⟨e,m⟩;rotate_left
 ·simp[e];exact s _ _ ⟨true,b,c,by simp[e],m⟩
 rcases Io e m with⟨e,m⟩|⟨e,m⟩
 ·simp[e];exact s _ _ ⟨true,b,c,by simp[e],m⟩
 rcases Io e m with⟨e,m⟩|⟨e,m⟩
 ·simp[e];exact s _ _ ⟨true,b,c,by simp[e],m⟩
 rcases Io e m with⟨e,m⟩|⟨e,m⟩;rotate_left
 ·simp[e];exact s _ _ ⟨false,b,c,by simp[e],m⟩
 have⟨V,e,m⟩:=ep e m;simp[e];exact s _ _ ⟨(sN V w),b,c,by simp[e],m⟩
end Go.Proofs.YtobcafblgapgfaaGreatDoor
