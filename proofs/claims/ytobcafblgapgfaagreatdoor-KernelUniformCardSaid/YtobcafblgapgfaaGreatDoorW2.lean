/- Part of the proof of KernelUniform: walks. -/
import Derived.Test.YtobcafblgapgfaaGreatDoorW1
set_option linter.all false
set_option maxRecDepth 20000
set_option maxHeartbeats 4000000
namespace Go.Proofs.YtobcafblgapgfaaGreatDoor
open Go Go.mS Go.hJ Tryz
def zq:C3 prog 166 s5 Tm.av Tm.av Tm.av Tm.av:=by
 intro T H a0 a1 a2 r hm;rw[s5] at hm;have e:=trivial;refine wi abf func166 [] [] 999 ?_;have⟨a,e,m⟩:=ep e hm;simp[e];refine Cs (hV e.2) ?_;have⟨b,e,m⟩:=ep e m;simp[e];refine Cs (l5 e.2) ?_;cases m;simp[e]
def Bw:C0 prog 102 sP Tm.av:=by
 intro T H r hm;rw[sP] at hm;have e:=trivial;refine wi abf func102 [] [] 999 ?_;have⟨a,e,m⟩:=ep e hm;simp[e];refine Cf (gr e.2) ?_;have⟨b,e,m⟩:=ep e m;simp[e];refine Cf (gr e.2) ?_;have⟨c,e,m⟩:=ep e m;simp[e];refine Cf (gR e.2) ?_;have⟨d,e,m⟩:=ep e m;simp[e];refine Cf (lR e.2) ?_;have⟨f,e,m⟩:=ep e m;simp[e];refine Cf (lR e.2) ?_;have⟨g,e,m⟩:=ep e m;simp[e];refine Cf (gr e.2) ?_;have⟨h,e,m⟩:=ep e m;simp[e];refine Cf (zq e.2) ?_;have⟨i,e,m⟩:=ep e m;simp[e];refine Cf (lR e.2) ?_;have⟨j,e,m⟩:=ep e m;simp[e];refine Cf (lR e.2) ?_;cases m;simp[e]
def Gf:C2 prog 101 Bi Tm.av Tm.av (sL Tm.av):=by
 intro T H a0 a1 r hm;rw[Bi] at hm;have e:=trivial;refine wi abf func101 [] [] 999 ?_;simp[e];refine Wr e hm 999 (λj s2 f h=>∃(a:Nat) (b:Nat),h=H/\f.1 2=AV.eB 2 a 0/\f.1 4=AV.eB 4 b 0/\f.1 7=sL Tm.av a1/\f.1 8=sI (eM a1)/\f.1 9=sI j/\f.gen 2=a/\f.box 2=some [sI s2.1,sI s2.2.1,sI s2.2.2.1,sL Ty.av s2.2.2.2.1,sL Tm.av s2.2.2.2.2]/\f.gen 4=b/\f.box 4=some [sI 0,sI 0,sI 0,AV.slice .full [],AV.slice .full []]) ⟨1,1,by simp[e]⟩ (λs2 c k l E m=>?_) (λj p s2 c k l n6 q E e m n d=>?_)
 ·have⟨v10,v11,v12,g,i⟩:=s2;have⟨a,b,E⟩:=E;have e:=Aj e E;dsimp only[en,FH]at m;cases m;simp[e]
 have⟨v10,v11,v12,g,i⟩:=s2;have⟨a,b,E⟩:=E;have e:=Aj e E;dsimp only[FH]at m;have⟨o,e,m⟩:=ep e m;simp[e];refine Cf (gR e.2) ?_;simp[e];cases m;exact d _ _ _ ⟨a,b,by simp[e]⟩ n
def JI:C0 prog 167 vB Tm.av:=by
 intro T H r hm;rw[vB] at hm;have e:=trivial;refine wi abf func167 [] [] 999 ?_;have⟨a,e,m⟩:=ep e hm;simp[e];refine Cf (gR e.2) ?_;have⟨b,e,m⟩:=ep e m;simp[e];refine Cf (gr e.2) ?_;have⟨c,e,m⟩:=ep e m;simp[e];refine Cf (lR e.2) ?_;have⟨d,e,m⟩:=ep e m;simp[e];refine Cf (lR e.2) ?_;have⟨f,e,m⟩:=ep e m;simp[e];refine Cf (gr e.2) ?_;have⟨g,e,m⟩:=ep e m;simp[e];refine Cf (zq e.2) ?_;have⟨h,e,m⟩:=ep e m;simp[e];refine Cf (lR e.2) ?_;cases m;simp[e]
def Lu:C0 prog 103 xl Tm.av:=by
 intro T H r hm;rw[xl] at hm;have e:=trivial;refine wi abf func103 [] [] 999 ?_;have⟨b,e,m⟩:=ep e hm;simp[e];refine Cf (gr e.2) ?_;have⟨c,e,m⟩:=ep e m;simp[e];refine Cf (JI e.2) ?_;have⟨d,e,m⟩:=ep e m;simp[e];refine Cf (gr e.2) ?_;have⟨f,e,m⟩:=ep e m;simp[e];refine Cf (gR e.2) ?_;have⟨g,e,m⟩:=ep e m;simp[e];refine Cf (lR e.2) ?_;have⟨h,e,m⟩:=ep e m;simp[e];refine Cf (lR e.2) ?_;have⟨i,e,m⟩:=ep e m;simp[e];refine Cf (gr e.2) ?_;have⟨j,e,m⟩:=ep e m;simp[e];refine Cf (zq e.2) ?_;have⟨k,e,m⟩:=ep e m;simp[e];refine Cf (lR e.2) ?_;have⟨a,e,m⟩:=ep e m;simp[e];refine Cf (lR e.2) ?_;cases m;simp[e]
def NJ(T:fg):∀(n:Nat),(∀{H:eD} {a0:eu} {a1:List Ty} {a2:Ty} {a3:Int} {K:Tm} {q:eu} {r:Nat} (L:H[r]?=some [sL sI a0.l,sI a0.pg]) (hm:gA n a0 a1 a2 a3=some (K,q)),e9 prog T 35 [AV.fE r 0,sL Ty.av a1,Ty.av a2,sI a3] H (Tm.av K) (gj H r [sL sI q.l,sI q.pg])):=by
  intro n
  induction n with
  |zero=>
    skip
    all_goals(intro _ _;intros;rename_i hm;cases hm)
  |succ n k=>
 intro H a0 a1 a2 a3 K q r L hm;rw[gA] at hm;have W:=f_ L;refine fH.I8 L ?_;have e:=W;refine wi abf func35 [] [] 5 ?_;have⟨x1,e,m⟩:=ep e hm;simp[e];refine Cf (PZ e.2) ?_;simp[e];refine Wj m 999 0 (λZ f h=>∃(v3:Bool) (v4:eu) (o:Nat) (p:Nat),(h=gj H r [sL sI v4.l,sI v4.pg]/\f.1 0=AV.fE r 0/\f.1 1=sL Ty.av a1/\f.1 3=sI a3/\f.1 6=AV.eB 6 o 0/\f.1 8=AV.eB 8 p 0/\f.1 9=sL sI x1/\f.1 27=sB v3/\f.gen 6=o/\f.box 6=some [sI a2.aba,sL Ty.av a2.abb]/\f.gen 8=p/\f.box 8=some [sI 0,sI 0,sI 0,AV.slice .full [],AV.slice .full []])/\Z v3 v4=some (K,q)) (λZ K5 N m=>?_) ?_
 ·rcases Io e m with⟨e,m⟩|⟨e,m⟩;rotate_left
  ·simp[e];exact N _ _ ⟨false,a0,1,1,by simp[e],m⟩
  have⟨x7,d8,e,m⟩:=gq e m;simp[e];refine Cf (fY T (by simp[e]) e.2) ?_;simp[e];exact N _ _ ⟨(nS x7 0),d8,1,1,by simp[e],m⟩
 rintro aN h9 ⟨v3,v4,o,p,E,m⟩;have e:=Aj e E;rcases Io e m with⟨e,m⟩|⟨e,m⟩
 ·apply wg 999;have⟨aO,d11,e,m⟩:=gq e m;simp[e];refine Cf (fY T (by simp[e]) e.2) ?_;have⟨aP,e,m⟩:=ep e m;have⟨aQ,e,m⟩:=ep e m;simp[e];refine Cf (gr e.2) ?_;cases m;simp[e]
 apply wg 2;simp[e];refine Wj m 999 6 (λO f h=>∃(x:eu) (i:Nat) (c:Nat),(h=gj H r [sL sI x.l,sI x.pg]/\f.1 0=AV.fE r 0/\f.1 1=sL Ty.av a1/\f.1 3=sI a3/\f.1 6=AV.eB 6 i 0/\f.1 8=AV.eB 8 c 0/\f.gen 6=i/\f.box 6=some [sI a2.aba,sL Ty.av a2.abb]/\f.gen 8=c/\f.box 8=some [sI 0,sI 0,sI 0,AV.slice .full [],AV.slice .full []])/\O x=some (K,q)) (λO aR y m=>?_) ?_;rotate_left
 ·rintro aa aS ⟨x,i,c,E,m⟩;have e:=Aj e E;simp[e];rcases Io e m with⟨e,m⟩|⟨e,m⟩
  ·apply wg 1;simp[e];refine Wj m 999 999 (λP f h=>∃(v20:eu) (s:Nat),(h=gj H r [sL sI v20.l,sI v20.pg]/\f.1 0=AV.fE r 0/\f.1 8=AV.eB 8 s 0/\f.gen 8=s/\f.box 8=some [sI 0,sI 0,sI 0,AV.slice .full [],AV.slice .full []])/\P v20=some (K,q)) (λP aT C m=>?_) ?_;rotate_left
   ·rintro ab aU ⟨v20,s,E,m⟩;have e:=Aj e E;have⟨aV,d25,e,m⟩:=gq e m;simp[e];refine Cf (fY T (by simp[e]) e.2) ?_;have⟨aW,e,m⟩:=ep e m;simp[e];refine Cf (zA e.2) ?_;cases m;simp[e]
   rcases Io e m with⟨e,m⟩|⟨e,m⟩;rotate_left
   ·simp[e];exact C _ _ ⟨x,c,by simp[e],m⟩
   have⟨aX,d28,e,m⟩:=gq e m;simp[e];refine Cf (fY T (by simp[e]) e.2) ?_;rcases Io e m with⟨e,m⟩|⟨e,m⟩
   ·have⟨aY,d30,e,m⟩:=gq e m;simp[e];refine Cf (k (by simp[e]) e.2) ?_;have⟨aZ,e,m⟩:=ep e m;simp[e];refine Cf (gR e.2) ?_;cases m;simp[e]
   rcases Io e m with⟨e,m⟩|⟨e,m⟩
   ·have⟨a6,e,m⟩:=ep e m;simp[e];refine Cs (Bw e.2) ?_;have⟨a7,d34,e,m⟩:=gq e m;simp[e];refine Cs (k (by simp[e]) e.2) ?_;have⟨a8,d36,e,m⟩:=gq e m;simp[e];refine Cs (k (by simp[e]) e.2) ?_;have⟨a_,e,m⟩:=ep e m;simp[e];refine Cs (Gf e.2) ?_;cases m;simp[e]
   rcases Io e m with⟨e,m⟩|⟨e,m⟩;rotate_left
   ·simp[e];exact C _ _ ⟨d28,c,by simp[e],m⟩
   have⟨a',e,m⟩:=ep e m;simp[e];refine Cs (Lu e.2) ?_;have⟨ba,d40,e,m⟩:=gq e m;simp[e];refine Cs (k (by simp[e]) e.2) ?_;have⟨bb,d42,e,m⟩:=gq e m;simp[e];refine Cs (k (by simp[e]) e.2) ?_;have⟨bc,e,m⟩:=ep e m;simp[e];refine Cs (Gf e.2) ?_;cases m;simp[e]
  apply wg 3;simp[e];rcases Io e m with⟨e,m⟩|⟨e,m⟩;rotate_left
  ·apply wg 999;rcases Io e m with⟨e,m⟩|⟨e,m⟩
   ·have⟨bd,e,m⟩:=ep e m;have⟨bf,d46,e,m⟩:=gq e m;simp[e];refine Cs (k (by simp[e]) e.2) ?_;have⟨bg,e,m⟩:=ep e m;have⟨bh,d49,e,m⟩:=gq e m;simp[e];refine Cs (k (by simp[e]) e.2) ?_;have⟨bj,e,m⟩:=ep e m;simp[e];refine Cs (gR e.2) ?_;cases m;simp[e]
   rcases Io e m with⟨e,m⟩|⟨e,m⟩;rotate_left
   ·have⟨bk,e,m⟩:=ep e m;simp[e];refine Cf (gR e.2) ?_;cases m;simp[e]
   have⟨bl,e,m⟩:=ep e m;have⟨bm,e,m⟩:=ep e m;simp[e];refine Cs (oB e.2) ?_;have⟨bn,e,m⟩:=ep e m;have⟨bo,d56,e,m⟩:=gq e m;simp[e];refine Cs (k (by simp[e]) e.2) ?_;have⟨bp,e,m⟩:=ep e m;simp[e];refine Cs (l5 e.2) ?_;cases m;simp[e]
  apply wg 2;simp[e];refine Wj m 999 999 (λQ f h=>∃(v59:Bool) (B:eu) (t:Nat) (u:Nat),(h=gj H r [sL sI B.l,sI B.pg]/\f.1 0=AV.fE r 0/\f.1 1=sL Ty.av a1/\f.1 3=sI a3/\f.1 6=AV.eB 6 t 0/\f.1 8=AV.eB 8 u 0/\f.1 276=sB v59/\f.gen 6=t/\f.box 6=some [sI a2.aba,sL Ty.av a2.abb]/\f.gen 8=u/\f.box 8=some [sI 0,sI 0,sI 0,AV.slice .full [],AV.slice .full []])/\Q v59 B=some (K,q)) (λQ bq D m=>?_) ?_
  ·rcases Io e m with⟨e,m⟩|⟨e,m⟩;rotate_left
   ·simp[e];exact D _ _ ⟨false,x,i,c,by simp[e],m⟩
   have⟨X,d64,e,m⟩:=gq e m;simp[e];refine Cf (fY T (by simp[e]) e.2) ?_;simp[e];exact D _ _ ⟨(eH X 0),d64,i,c,by simp[e],m⟩
  rintro ad br ⟨v59,B,t,u,E,m⟩;have e:=Aj e E;rcases Io e m with⟨e,m⟩|⟨e,m⟩;rotate_left
  ·have⟨bs,e,m⟩:=ep e m;simp[e];refine Cf (gR e.2) ?_;cases m;simp[e]
  have⟨bt,e,m⟩:=ep e m;simp[e];refine Cs (hV e.2) ?_;have⟨bu,d69,e,m⟩:=gq e m;simp[e];refine Cs (k (by simp[e]) e.2) ?_;have⟨bw,d71,e,m⟩:=gq e m;simp[e];refine Cs (k (by simp[e]) e.2) ?_;have⟨bx,e,m⟩:=ep e m;simp[e];refine Cs (gR e.2) ?_;cases m;simp[e]
 rcases Io e m with⟨e,m⟩|⟨e,m⟩;rotate_left
 ·simp[e];exact y _ _ ⟨v4,o,p,by simp[e],m⟩
 have⟨bz,d74,e,m⟩:=gq e m;simp[e];refine Cf (fY T (by simp[e]) e.2) ?_;rcases Io e m with⟨e,m⟩|⟨e,m⟩
 ·have⟨bA,d76,e,m⟩:=gq e m;simp[e];refine Cf (lW T (by simp[e]) e.2) ?_;have⟨bB,e,m⟩:=ep e m;simp[e];refine Cs (oB e.2) ?_;have⟨bC,d79,e,m⟩:=gq e m;simp[e];refine Cs (k (by simp[e]) e.2) ?_;have⟨bD,e,m⟩:=ep e m;simp[e];refine Cs (l5 e.2) ?_;have⟨bE,d82,e,m⟩:=gq e m;simp[e];refine Cs (k (by simp[e]) e.2) ?_;have⟨bF,e,m⟩:=ep e m;simp[e];refine Cs (gR e.2) ?_;cases m;simp[e]
 rcases Io e m with⟨e,m⟩|⟨e,m⟩
 ·have⟨bG,d85,e,m⟩:=gq e m;simp[e];refine Cf (lW T (by simp[e]) e.2) ?_;have⟨bH,d87,e,m⟩:=gq e m;simp[e];refine Cs (k (by simp[e]) e.2) ?_;have⟨bI,d89,e,m⟩:=gq e m;simp[e];refine Cs (k (by simp[e]) e.2) ?_;have⟨bJ,e,m⟩:=ep e m;simp[e];refine Cs (gR e.2) ?_;have⟨bK,e,m⟩:=ep e m;simp[e];refine Cs (gR e.2) ?_;cases m;simp[e]
 rcases Io e m with⟨e,m⟩|⟨e,m⟩
 ·have⟨bL,e,m⟩:=ep e m;simp[e];refine Cs (hV e.2) ?_;have⟨bM,e,m⟩:=ep e m;simp[e];refine Cs (hV e.2) ?_;have⟨bN,e,m⟩:=ep e m;simp[e];refine Cs (oB e.2) ?_;have⟨bO,d96,e,m⟩:=gq e m;simp[e];refine Cs (k (by simp[e]) e.2) ?_;have⟨bP,e,m⟩:=ep e m;simp[e];refine Cs (l5 e.2) ?_;have⟨bQ,e,m⟩:=ep e m;simp[e];refine Cs (l5 e.2) ?_;have⟨bR,d100,e,m⟩:=gq e m;simp[e];refine Cs (k (by simp[e]) e.2) ?_;have⟨ae,d102,e,m⟩:=gq e m;simp[e];refine Cs (fY T (by simp[e]) e.2) ?_;have⟨af,e,m⟩:=ep e m;simp[e];refine Cs (zA e.2) ?_;have⟨ah,e,m⟩:=ep e m;simp[e];refine Cs (l5 e.2) ?_;cases m;simp[e]
 rcases Io e m with⟨e,m⟩|⟨e,m⟩
 ·have⟨ai,e,m⟩:=ep e m;simp[e];refine Cs (hV e.2) ?_;have⟨aj,e,m⟩:=ep e m;simp[e];refine Cs (nw e.2) ?_;have⟨ak,e,m⟩:=ep e m;simp[e];refine Cs (hV e.2) ?_;have⟨al,e,m⟩:=ep e m;simp[e];refine Cs (nw e.2) ?_;have⟨an,e,m⟩:=ep e m;simp[e];refine Cs (oB e.2) ?_;have⟨ao,d111,e,m⟩:=gq e m;simp[e];refine Cs (k (by simp[e]) e.2) ?_;have⟨aq,e,m⟩:=ep e m;simp[e];refine Cs (l5 e.2) ?_;have⟨ar,e,m⟩:=ep e m;simp[e];refine Cs (l5 e.2) ?_;have⟨au,e,m⟩:=ep e m;simp[e];refine Cs (l5 e.2) ?_;have⟨aw,d116,e,m⟩:=gq e m;simp[e];refine Cs (k (by simp[e]) e.2) ?_;have⟨ax,e,m⟩:=ep e m;simp[e];refine Cs (nw e.2) ?_;have⟨ay,d119,e,m⟩:=gq e m;simp[e];refine Cs (k (by simp[e]) e.2) ?_;have⟨az,e,m⟩:=ep e m;simp[e];refine Cs (l5 e.2) ?_;cases m;simp[e]
 rcases Io e m with⟨e,m⟩|⟨e,m⟩
 ·have⟨aA,d122,e,m⟩:=gq e m;simp[e];refine Cf (lW T (by simp[e]) e.2) ?_;have⟨aB,d124,e,m⟩:=gq e m;simp[e];refine Cs (k (by simp[e]) e.2) ?_;have⟨aC,d126,e,m⟩:=gq e m;simp[e];refine Cs (k (by simp[e]) e.2) ?_;have⟨aD,e,m⟩:=ep e m;simp[e];refine Cs (gR e.2) ?_;have⟨aE,e,m⟩:=ep e m;simp[e];refine Cs (gR e.2) ?_;cases m;simp[e]
 rcases Io e m with⟨e,m⟩|⟨e,m⟩;rotate_left
 ·simp[e];exact y _ _ ⟨d74,o,p,by simp[e],m⟩
 simp[e];refine Wr e m 0 (λw F f h=>∃(a:Nat) (b:Nat),h=gj H r [sL sI d74.l,sI d74.pg]/\f.1 0=AV.fE r 0/\f.1 1=sL Ty.av a1/\f.1 3=sI a3/\f.1 6=AV.eB 6 a 0/\f.1 8=AV.eB 8 b 0/\f.1 176=sI (eM a1)/\f.1 177=sI w/\f.gen 6=a/\f.box 6=some [sI a2.aba,sL Ty.av a2.abb]/\f.gen 8=b/\f.box 8=some [sI 0,sI 0,sI 0,AV.slice .full [],AV.slice .full []]) ⟨o,p,by simp[e]⟩ (λF v R S E m=>?_) (λw aF F v R S n134 U E e m G M=>?_)
 ·have⟨a,b,E⟩:=E;have e:=Aj e E;apply wg 999;dsimp only[en]at m;simp[e];exact y _ _ ⟨d74,a,b,by simp[e],m⟩
 have⟨a,b,E⟩:=E;have e:=Aj e E;apply wg 11;have⟨I,e,m⟩:=ep e m;simp[e];refine Wj m 999 999 (λJ f h=>∃(z:Bool) (d:Nat) (g:Nat) (j:Nat),(h=gj H r [sL sI d74.l,sI d74.pg]/\f.1 0=AV.fE r 0/\f.1 1=sL Ty.av a1/\f.1 3=sI a3/\f.1 6=AV.eB 6 d 0/\f.1 8=AV.eB 8 g 0/\f.1 15=sI w/\f.1 16=AV.eB 16 j 0/\f.1 176=sI (eM a1)/\f.1 177=sI w/\f.1 198=sB z/\f.gen 6=d/\f.box 6=some [sI a2.aba,sL Ty.av a2.abb]/\f.gen 8=g/\f.box 8=some [sI 0,sI 0,sI 0,AV.slice .full [],AV.slice .full []]/\f.gen 16=j/\f.box 16=some [sI I.aba,sL Ty.av I.abb])/\J z=some U) (λJ aG A m=>?_) ?_
 ·rcases Io e m with⟨e,m⟩|⟨e,m⟩;rotate_left
  ·simp[e];exact A _ _ ⟨false,a,b,(v.gen 16+1),by simp[e],m⟩
  have⟨aH,e,m⟩:=ep e m;have⟨V,e,m⟩:=ep e m;simp[e];refine Cs (iq e.2) ?_;simp[e];exact A _ _ ⟨V,a,b,(v.gen 16+1),by simp[e],m⟩
 rintro Y aI ⟨z,d,g,j,E,m⟩;have e:=Aj e E;rcases Io e m with⟨e,m⟩|⟨e,m⟩;rotate_left
 ·simp[e];cases m;exact M _ _ _ ⟨d,g,by simp[e]⟩ G
 have⟨aJ,e,m⟩:=ep e m;simp[e];refine Cs (gr e.2) ?_;have⟨aK,e,m⟩:=ep e m;have⟨aL,d149,e,m⟩:=gq e m;simp[e];refine Cs (k (by simp[e]) e.2) ?_;have⟨aM,e,m⟩:=ep e m;simp[e];refine Cs (gR e.2) ?_;cases m;cases G;simp[e]
def lp(T:fg){H:eD}{a0:eu}{a1:List Ty}{a2:Ty}{a3:Int}{d:Tm}{a:eu}{b:Nat}(c:H[b]?=some [sL sI a0.l,sI a0.pg]){n:Nat}(hm:gA n a0 a1 a2 a3=some (d,a)):e9 prog T 35 [AV.fE b 0,sL Ty.av a1,Ty.av a2,sI a3] H (Tm.av d) (gj H b [sL sI a.l,sI a.pg]):=(NJ T n) c hm
def HX(T:fg):∀(n:Nat),(∀{H:eD} {a0:eu} {a1:List Ty} {a2:Int} {r:Fm} {d:eu} {i:Nat} (o:H[i]?=some [sL sI a0.l,sI a0.pg]) (hm:ik n a0 a1 a2=some (r,d)),e9 prog T 28 [AV.fE i 0,sL Ty.av a1,sI a2] H (Fm.av r) (gj H i [sL sI d.l,sI d.pg])):=by
  intro n
  induction n with
  |zero=>
    skip
    all_goals(intro _ _;intros;rename_i hm;cases hm)
  |succ n p=>
 intro H a0 a1 a2 r d i o hm;rw[ik] at hm;have s:=f_ o;refine fH.I8 o ?_;have e:=s;refine wi abf func28 [] [] 2 ?_;simp[e];refine Wj hm 2 999 (λt f h=>∃(v2:eu) (g:Nat),(h=gj H i [sL sI v2.l,sI v2.pg]/\f.1 0=AV.fE i 0/\f.1 1=sL Ty.av a1/\f.1 6=AV.eB 6 g 0/\f.gen 6=g/\f.box 6=some [sI 0,sI 0,AV.slice .full [],AV.slice .full [],AV.slice .full []])/\t v2=some (r,d)) (λt Y q m=>?_) ?_;rotate_left
 ·rintro w Z ⟨v2,g,E,m⟩;have e:=Aj e E;have⟨x6,e,m⟩:=ep e m;simp[e];refine Cf (hV e.2) ?_;have⟨x7,d8,e,m⟩:=gq e m;simp[e];refine Cs (lp T (by simp[e]) e.2) ?_;have⟨x9,d10,e,m⟩:=gq e m;simp[e];refine Cs (lp T (by simp[e]) e.2) ?_;have⟨x,e,m⟩:=ep e m;simp[e];refine Cs (nY e.2) ?_;cases m;simp[e]
 simp[e];rcases Io e m with⟨e,m⟩|⟨e,m⟩;rotate_left
 ·apply wg 999;simp[e];exact q _ _ ⟨a0,1,by simp[e],m⟩
 apply wg 6;have⟨c,d13,e,m⟩:=gq e m;simp[e];refine Cf (fY T (by simp[e]) e.2) ?_;simp[e];rcases Io e m with⟨e,m⟩|⟨e,m⟩
 ·apply wg 999;have⟨y,d15,e,m⟩:=gq e m;simp[e];refine Cf (p (by simp[e]) e.2) ?_;have⟨z,d17,e,m⟩:=gq e m;simp[e];refine Cf (p (by simp[e]) e.2) ?_;have⟨A,e,m⟩:=ep e m;simp[e];refine Cf (vV e.2) ?_;cases m;simp[e]
 apply wg 1;simp[e];refine wj 999 0 (λf h=>∃(a:Nat),h=gj H i [sL sI d13.l,sI d13.pg]/\f.1 0=AV.fE i 0/\f.1 1=sL Ty.av a1/\f.1 2=sI a2/\f.1 6=AV.eB 6 a 0/\f.1 14=sI c/\f.1 28=sB (fU (eH c 1) true (eH c 2))/\f.gen 6=a/\f.box 6=some [sI 0,sI 0,AV.slice .full [],AV.slice .full [],AV.slice .full []]) (λB j=>?_) ?_
 ·rcases Pb (eH c 1) e with e|e
  ·simp[e];exact j _ _ ⟨1,by simp[e]⟩
  simp[e];exact j _ _ ⟨1,by simp[e]⟩
 rintro u C ⟨a,E⟩;have e:=Aj e E;rcases Io e m with⟨e,m⟩|⟨e,m⟩
 ·apply wg 999;have⟨D,d23,e,m⟩:=gq e m;simp[e];refine Cf (p (by simp[e]) e.2) ?_;have⟨F,d25,e,m⟩:=gq e m;simp[e];refine Cf (p (by simp[e]) e.2) ?_;have⟨G,e,m⟩:=ep e m;simp[e];refine Cf (vV e.2) ?_;cases m;simp[e]
 apply wg 1;simp[e];refine wj 999 999 (λf h=>∃(b:Nat),h=gj H i [sL sI d13.l,sI d13.pg]/\f.1 0=AV.fE i 0/\f.1 1=sL Ty.av a1/\f.1 2=sI a2/\f.1 6=AV.eB 6 b 0/\f.1 14=sI c/\f.1 42=sB (fU (eH c 3) true (eH c 4))/\f.gen 6=b/\f.box 6=some [sI 0,sI 0,AV.slice .full [],AV.slice .full [],AV.slice .full []]) (λI k=>?_) ?_
 ·rcases Pb (eH c 3) e with e|e
  ·simp[e];exact k _ _ ⟨a,by simp[e]⟩
  simp[e];exact k _ _ ⟨a,by simp[e]⟩
 rintro v J ⟨b,E⟩;have e:=Aj e E;rcases Io e m with⟨e,m⟩|⟨e,m⟩
 ·have⟨K,d31,e,m⟩:=gq e m;simp[e];refine Cf (lW T (by simp[e]) e.2) ?_;have⟨L,e,m⟩:=ep e m;simp[e];refine Cs (oB e.2) ?_;have⟨M,d34,e,m⟩:=gq e m;simp[e];refine Cs (p (by simp[e]) e.2) ?_;have⟨N,e,m⟩:=ep e m;simp[e];refine Cs (nk e.2) ?_;cases m;simp[e]
 rcases Io e m with⟨e,m⟩|⟨e,m⟩
 ·have⟨O,d37,e,m⟩:=gq e m;simp[e];refine Cf (lW T (by simp[e]) e.2) ?_;have⟨P,e,m⟩:=ep e m;simp[e];refine Cs (oB e.2) ?_;have⟨Q,d40,e,m⟩:=gq e m;simp[e];refine Cs (p (by simp[e]) e.2) ?_;have⟨R,e,m⟩:=ep e m;simp[e];refine Cs (nk e.2) ?_;cases m;simp[e]
 rcases Io e m with⟨e,m⟩|⟨e,m⟩;rotate_left
 ·simp[e];exact q _ _ ⟨d13,b,by simp[e],m⟩
 have⟨S,d43,e,m⟩:=gq e m;simp[e];refine Cf (lW T (by simp[e]) e.2) ?_;have⟨U,d45,e,m⟩:=gq e m;simp[e];refine Cs (fY T (by simp[e]) e.2) ?_;have⟨V,e,m⟩:=ep e m;simp[e];refine Cs (oB e.2) ?_;have⟨W,d48,e,m⟩:=gq e m;simp[e];refine Cs (p (by simp[e]) e.2) ?_;have⟨X,e,m⟩:=ep e m;simp[e];refine Cs (nk e.2) ?_;cases m;simp[e]
def x0(T:fg){H:eD}{a0:eu}{a1:List Ty}{a2:Int}{d:Fm}{a:eu}{b:Nat}(c:H[b]?=some [sL sI a0.l,sI a0.pg]){n:Nat}(hm:ik n a0 a1 a2=some (d,a)):e9 prog T 28 [AV.fE b 0,sL Ty.av a1,sI a2] H (Fm.av d) (gj H b [sL sI a.l,sI a.pg]):=(HX T n) c hm
def KG(T:fg){H:eD}{a0:eu}{p:List Fm}{b:eu}{d:Nat}(g:H[d]?=some [sL sI a0.l,sI a0.pg])(hm:uF a0=some (p,b)):e9 prog T 17 [AV.fE d 0] H (sL Fm.av p) (gj H d [sL sI b.l,sI b.pg]):=by
 rw[uF] at hm;have j:=f_ g;refine fH.I8 g ?_;have e:=j;refine wi abf func17 [] [] 999 ?_;have⟨r,d2,e,m⟩:=gq e hm;simp[e];refine Cf (fY T (by simp[e]) e.2) ?_;simp[e];refine Wn m 999 (λc f h=>∃(a:Tag),(h=gj H d [sL sI c.2.2.l,sI c.2.2.pg]/\f.1 0=AV.fE d 0/\f.1 3=sT a Fm.av c.1/\f.1 4=sI c.2.1)/\Ow f [15] a c.1) (by exact⟨.full,by simp[e],iM.full⟩) (λc k s t n6 u E m q n=>?_);have⟨v10,v11,v12⟩:=c;have⟨a,E,i⟩:=E;have e:=Aj e E;dsimp only[tU]at m;rcases Io e m with⟨e,m⟩|⟨e,m⟩;rotate_left
 ·cases m;have m:=Qb q;dsimp only[tU]at m;cases m;simp[e]
 have⟨o,d14,e,m⟩:=gq e m;simp[e];refine Cf (x0 T (by simp[e]) e.2) ?_;have⟨e,m⟩:=Ck e m;simp[e];refine Ao (f:=Fm.av) v10 [o] i Cl e.2 ?_;simp[e];cases m;exact n _ _ _ ⟨(.loc 15 (k.fN 15+1)),by simp[e],(On 15)⟩ q
def Jj(T:fg){H:eD}{a0:eu}{p:List Ty}{b:eu}{d:Nat}(g:H[d]?=some [sL sI a0.l,sI a0.pg])(hm:uU a0=some (p,b)):e9 prog T 64 [AV.fE d 0] H (sL Ty.av p) (gj H d [sL sI b.l,sI b.pg]):=by
 rw[uU] at hm;have j:=f_ g;refine fH.I8 g ?_;have e:=j;refine wi abf func64 [] [] 999 ?_;have⟨r,d2,e,m⟩:=gq e hm;simp[e];refine Cf (fY T (by simp[e]) e.2) ?_;simp[e];refine Wn m 999 (λc f h=>∃(a:Tag),(h=gj H d [sL sI c.2.2.l,sI c.2.2.pg]/\f.1 0=AV.fE d 0/\f.1 3=sT a Ty.av c.1/\f.1 4=sI c.2.1)/\Ow f [15] a c.1) (by exact⟨.full,by simp[e],iM.full⟩) (λc k s t n6 u E m q n=>?_);have⟨v10,v11,v12⟩:=c;have⟨a,E,i⟩:=E;have e:=Aj e E;dsimp only[tU]at m;rcases Io e m with⟨e,m⟩|⟨e,m⟩;rotate_left
 ·cases m;have m:=Qb q;dsimp only[tU]at m;cases m;simp[e]
 have⟨o,d14,e,m⟩:=gq e m;simp[e];refine Cf (lW T (by simp[e]) e.2) ?_;have⟨e,m⟩:=Ck e m;simp[e];refine Ao (f:=Ty.av) v10 [o] i BV e.2 ?_;simp[e];cases m;exact n _ _ _ ⟨(.loc 15 (k.fN 15+1)),by simp[e],(On 15)⟩ q
def JL(T:fg){H:eD}{a0:eu}{t:Sq}{d:eu}{i:Nat}(j:H[i]?=some [sL sI a0.l,sI a0.pg])(hm:sF a0=some (t,d)):e9 prog T 18 [AV.fE i 0] H (Sq.av t) (gj H i [sL sI d.l,sI d.pg]):=by
 rw[sF] at hm;have p:=f_ j;refine fH.I8 j ?_;have e:=p;refine wi abf func18 [] [] 999 ?_;have⟨u,d2,e,m⟩:=gq e hm;simp[e];refine Cf (Jj T (by simp[e]) e.2) ?_;have⟨w,d4,e,m⟩:=gq e m;simp[e];refine Cf (fY T (by simp[e]) e.2) ?_;simp[e];refine Wn m 999 (λg f h=>∃(a:Tag) (b:Nat) (c:Nat),(h=gj H i [sL sI g.2.2.l,sI g.2.2.pg]/\f.1 0=AV.fE i 0/\f.1 2=AV.eB 2 b 0/\f.1 3=AV.eB 3 c 0/\f.1 4=sI g.1/\f.gen 2=b/\f.box 2=some [AV.slice .full [],AV.slice .full []]/\f.gen 3=c/\f.box 3=some [sL Ty.av u,sT a Fm.av g.2.1])/\Ow f [21] a g.2.1) (by exact⟨.full,1,1,by simp[e],iM.full⟩) (λg q x y z A E m k n=>?_);have⟨v12,r,v⟩:=g;have⟨a,b,c,E,o⟩:=E;have e:=Aj e E;dsimp only[tU]at m;rcases Io e m with⟨e,m⟩|⟨e,m⟩;rotate_left
 ·cases m;have m:=Qb k;dsimp only[tU]at m;cases m;simp[e]
 have⟨s,d16,e,m⟩:=gq e m;simp[e];refine Cs (x0 T (by simp[e]) e.2) ?_;have⟨e,m⟩:=Ck e m;simp[e];refine Ad (f:=Fm.av) r [s] o Cl e.2 ?_;simp[e];cases m;exact n _ _ _ ⟨(.loc 21 (q.fN 21+1)),b,c,by simp[e],(On 21)⟩ k
def De:C2 prog 66 xC Sq.av Sq.av Fm.av:=by
 intro T H a0 a1 r hm;rw[xC] at hm;have e:=trivial;refine wi abf func66 [] [] 999 ?_;have⟨e,m⟩:=Ck e hm;simp[e];refine Ad (f:=Fm.av) [] a0.abh (iM.full (D:=[])) Cl e.2 ?_;have⟨e,m⟩:=Ck e m;simp[e];refine Ad (f:=Fm.av) (gv [] a0.abh) [a1] (iM.new (D:=[9]) (d:=9) (by decide)) Cl e.2 ?_;cases m;simp[e]
def D3:C2 prog 65 uD Pf.av Fm.av Pf.av:=by
 intro T H a0 a1 r hm;rw[uD] at hm;have e:=trivial;refine wi abf func65 [] [] 999 ?_;have⟨a,e,m⟩:=ep e hm;simp[e];refine Cf (ov e.2) ?_;have⟨b,e,m⟩:=ep e m;simp[e];refine Cf (kO e.2) ?_;have e:=Aj e (show AV.agg [sI a.aba,sI a.abd,sI a.dv.aba,sL Ty.av a.dv.abb,sL Tm.av a.ek,AV.slice .iN [Fm.av b],sL Pf.av a.abb]=Pf.av (Pf.mk a.aba a.abd a.dv a.ek [b] a.abb) by rw[Pf.fL];rfl);have e:=Aj e (show AV.agg [sI a.aba,sI a.abd,sI a.dv.aba,sL Ty.av a.dv.abb,sL Tm.av a.ek,AV.slice .iN [Fm.av b],sL Pf.av a.abb]=Pf.av (Pf.mk a.aba a.abd a.dv a.ek [b] a.abb) by rw[Pf.fL];rfl);have e:=Aj e (show AV.agg [sI a.aba,sI a.abd,sI a.dv.aba,sL Ty.av a.dv.abb,sL Tm.av a.ek,AV.slice .iN [Fm.av b],sL Pf.av a.abb]=Pf.av (Pf.mk a.aba a.abd a.dv a.ek [b] a.abb) by rw[Pf.fL];rfl);cases m;simp[e]
def Fq:∀(n:Nat),C1 prog 187 (oD n) sB Ty.av:=by
  intro n
  induction n with
  |zero=>
    skip
    all_goals(intro _ _;intros;rename_i hm;cases hm)
  |succ n u=>
 intro T H a0 r hm;rw[oD] at hm;have e:=trivial;refine wi abf func187 [] [] 4 ?_;simp[e];refine Wj hm 3 999 (λo f h=>∃(v2:Int) (c:Nat),(h=H/\f.1 1=AV.eB 1 c 0/\f.1 3=sI v2/\f.gen 1=c/\f.box 1=some [sI a0.aba,sL Ty.av a0.abb])/\o v2=some r) (λo I i m=>?_) ?_;rotate_left
 ·rintro v J ⟨v2,c,E,m⟩;have e:=Aj e E;rcases Io e m with⟨e,m⟩|⟨e,m⟩
  ·cases m;simp[e]
  simp[e];refine Wr e m 999 (λp q f h=>h=H/\f.1 21=sL Ty.av a0.abb/\f.1 22=sI (eM a0.abb)/\f.1 23=sI p) (by simp[e]) (λq l w x E m=>?_) (λp y q l w x z A E e m j k=>?_)
  ·have e:=Aj e E;dsimp only[en]at m;cases m;simp[e]
  have e:=Aj e E;have⟨B,e,m⟩:=ep e m;simp[e];refine Cf (u e.2) ?_;rcases Io e m with⟨e,m⟩|⟨e,m⟩;rotate_left
  ·cases m;cases j;simp[e]
  simp[e];cases m;exact k _ _ _ (by simp[e]) j
 simp[e];refine wj 999 0 (λf h=>∃(a:Nat),h=H/\f.1 1=AV.eB 1 a 0/\f.1 3=sI 0/\f.1 7=sI a0.aba/\f.1 8=sB (fU (eH a0.aba 1) true (fU (eH a0.aba 2) true (eH a0.aba 5)))/\f.gen 1=a/\f.box 1=some [sI a0.aba,sL Ty.av a0.abb]) (λC d=>?_) ?_
 ·rcases Pb (eH a0.aba 1) e with e|e
  ·simp[e];exact d _ _ ⟨1,by simp[e]⟩
  rcases Pb (eH a0.aba 2) e with e|e
  ·simp[e];exact d _ _ ⟨1,by simp[e]⟩
  simp[e];exact d _ _ ⟨1,by simp[e]⟩
 rintro s D ⟨a,E⟩;have e:=Aj e E;rcases Io e m with⟨e,m⟩|⟨e,m⟩
 ·apply wg 999;simp[e];exact i _ _ ⟨0,a,by simp[e],m⟩
 apply wg 1;simp[e];refine wj 999 999 (λf h=>∃(b:Nat),h=H/\f.1 1=AV.eB 1 b 0/\f.1 12=sB (fU (eH a0.aba 3) true (eH a0.aba 4))/\f.gen 1=b/\f.box 1=some [sI a0.aba,sL Ty.av a0.abb]) (λF g=>?_) ?_
 ·rcases Pb (eH a0.aba 3) e with e|e
  ·simp[e];exact g _ _ ⟨a,by simp[e]⟩
  simp[e];exact g _ _ ⟨a,by simp[e]⟩
 rintro t G ⟨b,E⟩;have e:=Aj e E;rcases Io e m with⟨e,m⟩|⟨e,m⟩;rotate_left
 ·cases m;simp[e]
 simp[e];exact i _ _ ⟨2,b,by simp[e],m⟩
def HA{n:Nat}:C1 prog 187 (oD n) sB Ty.av:=(Fq n)
def Ij:∀(n:Nat),C1 prog 188 (pT n) sI Ty.av:=by
  intro n
  induction n with
  |zero=>
   skip
   all_goals(intro _ _;intros;rename_i hm;cases hm)
  |succ n d=>
 intro T H a0 r hm;rw[pT] at hm;have e:=trivial;refine wi abf func188 [] [] 999 ?_;simp[e];refine Wr e hm 999 (λc s2 f h=>h=H/\f.1 3=sI s2/\f.1 7=sL Ty.av a0.abb/\f.1 8=sI (eM a0.abb)/\f.1 9=sI c) (by simp[e]) (λs2 a g i E m=>?_) (λc l s2 a g i n6 o E e m j b=>?_)
 ·have e:=Aj e E;dsimp only[en]at m;cases m;simp[e]
 have e:=Aj e E;have⟨k,e,m⟩:=ep e m;simp[e];refine Cf (d e.2) ?_;simp[e];cases m;exact b _ _ _ (by simp[e]) j
def J2{n:Nat}:C1 prog 188 (pT n) sI Ty.av:=(Ij n)
def pw:C1 prog 137 jw sI Ty.av:=by
 intro T H a0 r hm;rw[jw] at hm;have e:=trivial;refine wi abf func137 [] [] 999 ?_;have⟨a,e,m⟩:=ep e hm;simp[e];refine Cf (HA e.2) ?_;rcases Io e m with⟨e,m⟩|⟨e,m⟩;rotate_left
 ·cases m;simp[e]
 have⟨b,e,m⟩:=ep e m;simp[e];refine Cf (J2 e.2) ?_;rcases Io e m with⟨e,m⟩|⟨e,m⟩
 ·cases m;simp[e]
 cases m;simp[e]
def tS:C1 prog 78 mH sI (sL Ty.av):=by
 intro T H a0 r hm;rw[mH] at hm;have e:=trivial;refine wi abf func78 [] [] 999 ?_;rcases Io e hm with⟨e,m⟩|⟨e,m⟩
 ·cases m;simp[e]
 simp[e];refine Wr e m 999 (λc s2 f h=>h=H/\f.1 9=sL Ty.av a0/\f.1 10=sI (eM a0)/\f.1 11=sI c) (by simp[e]) (λs2 a g i E m=>?_) (λc k s2 a g i n6 l E e m d b=>?_)
 ·have e:=Aj e E;dsimp only[en]at m;cases m;simp[e]
 have e:=Aj e E;have⟨j,e,m⟩:=ep e m;simp[e];refine Cf (pw e.2) ?_;rcases Io e m with⟨e,m⟩|⟨e,m⟩
 ·cases m;cases d;simp[e]
 simp[e];cases m;exact b _ _ _ (by simp[e]) d
def uu:C1 prog 216 p_ sB Ty.av:=by
 intro T H a0 r hm;rw[p_] at hm;have e:=trivial;refine wi abf func216 [] [] 2 ?_;simp[e];refine wj 999 999 (λf h=>h=H/\f.1 2=sB (fU (eH a0.aba 0) (eH (eM a0.abb) 0) false)) (λc a=>?_) ?_;rotate_left
 ·rintro b d E;have e:=Aj e E;cases hm;simp[e]
 rcases Pb (eH a0.aba 0) e with e|e
 ·simp[e];exact a _ _ (by simp[e])
 simp[e];exact a _ _ (by simp[e])
def JB:C1 prog 233 vy sI sI:=by
 intro T H a0 r hm;rw[vy] at hm;have e:=trivial;refine wi abf func233 [] [] 6 ?_;simp[e];refine wj 999 0 (λf h=>h=H/\f.1 3=sI a0/\f.1 4=sB (fU (eH a0 1) true (fU (eH a0 4) true (fU (eH a0 7) true (eH a0 13))))) (λo a=>?_) ?_
 ·rcases Pb (eH a0 1) e with e|e
  ·simp[e];exact a _ _ (by simp[e])
  rcases Pb (eH a0 4) e with e|e
  ·simp[e];exact a _ _ (by simp[e])
  rcases Pb (eH a0 7) e with e|e
  ·simp[e];exact a _ _ (by simp[e])
  simp[e];exact a _ _ (by simp[e])
 rintro i p E;have e:=Aj e E;rcases Io e hm with⟨e,m⟩|⟨e,m⟩
 ·apply wg 999;cases m;simp[e]
 apply wg 1;simp[e];refine wj 999 0 (λf h=>h=H/\f.1 3=sI a0/\f.1 9=sB (fU (eH a0 2) true (fU (eH a0 5) true (fU (eH a0 11) true (eH a0 12))))) (λq b=>?_) ?_
 ·rcases Pb (eH a0 2) e with e|e
  ·simp[e];exact b _ _ (by simp[e])
  rcases Pb (eH a0 5) e with e|e
  ·simp[e];exact b _ _ (by simp[e])
  rcases Pb (eH a0 11) e with e|e
  ·simp[e];exact b _ _ (by simp[e])
  simp[e];exact b _ _ (by simp[e])
 rintro j s E;have e:=Aj e E;rcases Io e m with⟨e,m⟩|⟨e,m⟩
 ·apply wg 999;cases m;simp[e]
 apply wg 1;simp[e];refine wj 999 0 (λf h=>h=H/\f.1 3=sI a0/\f.1 14=sB (fU (eH a0 3) true (fU (eH a0 8) true (eH a0 10)))) (λt d=>?_) ?_
 ·rcases Pb (eH a0 3) e with e|e
  ·simp[e];exact d _ _ (by simp[e])
  rcases Pb (eH a0 8) e with e|e
  ·simp[e];exact d _ _ (by simp[e])
  simp[e];exact d _ _ (by simp[e])
 rintro k u E;have e:=Aj e E;rcases Io e m with⟨e,m⟩|⟨e,m⟩
 ·apply wg 999;cases m;simp[e]
 apply wg 1;simp[e];refine wj 999 999 (λf h=>h=H/\f.1 18=sB (fU (eH a0 6) true (eH a0 9))) (λl c=>?_) ?_;rotate_left
 ·rintro g n E;have e:=Aj e E;rcases Io e m with⟨e,m⟩|⟨e,m⟩
  ·cases m;simp[e]
  cases m;simp[e]
 rcases Pb (eH a0 6) e with e|e
 ·simp[e];exact c _ _ (by simp[e])
 simp[e];exact c _ _ (by simp[e])
def GL:∀(n:Nat),C1 prog 172 (ku n) sB Tm.av:=by
  intro n
  induction n with
  |zero=>
    skip
    all_goals(intro _ _;intros;rename_i hm;cases hm)
  |succ n x=>
 intro T H a0 r hm;rw[ku] at hm;have e:=trivial;refine wi abf func172 [] [] 3 ?_;simp[e];refine Wj hm 999 0 (λt f h=>∃(v2:Bool) (b:Nat),(h=H/\f.1 1=AV.eB 1 b 0/\f.1 26=sB v2/\f.gen 1=b/\f.box 1=some [sI a0.aba,sI a0.abd,sI a0.dv.aba,sL Ty.av a0.dv.abb,sL Tm.av a0.abb])/\t v2=some r) (λt K g m=>?_) ?_
 ·have⟨L,e,m⟩:=ep e m;simp[e];refine Cs (JB e.2) ?_;rcases Io e m with⟨e,m⟩|⟨e,m⟩
  ·simp[e];exact g _ _ ⟨true,1,by simp[e],m⟩
  rcases Io e m with⟨e,m⟩|⟨e,m⟩
  ·simp[e];exact g _ _ ⟨true,1,by simp[e],m⟩
  rcases Io e m with⟨e,m⟩|⟨e,m⟩;rotate_left
  ·simp[e];exact g _ _ ⟨false,1,by simp[e],m⟩
  simp[e];exact g _ _ ⟨(eW a0.abd 0),1,by simp[e],m⟩
 rintro y M ⟨v2,b,E,m⟩;have e:=Aj e E;rcases Io e m with⟨e,m⟩|⟨e,m⟩
 ·apply wg 999;cases m;simp[e]
 apply wg 2;simp[e];refine Wj m 3 999 (λu f h=>∃(c:Nat),(h=H/\f.1 1=AV.eB 1 c 0/\f.gen 1=c/\f.box 1=some [sI a0.aba,sI a0.abd,sI a0.dv.aba,sL Ty.av a0.dv.abb,sL Tm.av a0.abb])/\u=some r) (λu N i m=>?_) ?_;rotate_left
 ·rintro v z ⟨c,E,m⟩;have e:=Aj e E;simp[e];refine Wr e m 999 (λj k f h=>h=H/\f.1 42=sL Tm.av a0.abb/\f.1 43=sI (eM a0.abb)/\f.1 44=sI j) (by simp[e]) (λk l q s E m=>?_) (λj A k l q s B C E e m o p=>?_)
  ·have e:=Aj e E;dsimp only[en]at m;cases m;simp[e]
  have e:=Aj e E;have⟨D,e,m⟩:=ep e m;simp[e];refine Cf (x e.2) ?_;rcases Io e m with⟨e,m⟩|⟨e,m⟩;rotate_left
  ·cases m;cases o;simp[e]
  simp[e];cases m;exact p _ _ _ (by simp[e]) o
 simp[e];refine wj 999 999 (λf h=>∃(a:Nat),h=H/\f.1 1=AV.eB 1 a 0/\f.1 33=sB (fU (eH a0.aba 2) true (fU (eH a0.aba 6) true (eH a0.aba 9)))/\f.gen 1=a/\f.box 1=some [sI a0.aba,sI a0.abd,sI a0.dv.aba,sL Ty.av a0.dv.abb,sL Tm.av a0.abb]) (λF d=>?_) ?_
 ·rcases Pb (eH a0.aba 2) e with e|e
  ·simp[e];exact d _ _ ⟨b,by simp[e]⟩
  rcases Pb (eH a0.aba 6) e with e|e
  ·simp[e];exact d _ _ ⟨b,by simp[e]⟩
  simp[e];exact d _ _ ⟨b,by simp[e]⟩
 rintro w G ⟨a,E⟩;have e:=Aj e E;rcases Io e m with⟨e,m⟩|⟨e,m⟩
 ·have⟨I,e,m⟩:=ep e m;simp[e];refine Cf (pw e.2) ?_;rcases Io e m with⟨e,m⟩|⟨e,m⟩
  ·cases m;simp[e]
  simp[e];exact i _ _ ⟨a,by simp[e],m⟩
 have⟨J,e,m⟩:=ep e m;simp[e];refine Cf (uu e.2) ?_;rcases Io e m with⟨e,m⟩|⟨e,m⟩;rotate_left
 ·cases m;simp[e]
 simp[e];exact i _ _ ⟨a,by simp[e],m⟩
def tj{n:Nat}:C1 prog 172 (ku n) sB Tm.av:=(GL n)
def rm:C1 prog 164 ll sB sI:=by
 intro T H a0 r hm;rw[ll] at hm;have e:=trivial;refine wi abf func164 [] [] 2 ?_;simp[e];refine wj 999 999 (λf h=>h=H/\f.1 2=sB (fU (eH a0 4) true (fU (eH a0 5) true (fU (eH a0 6) true (eH a0 7))))) (λc a=>?_) ?_;rotate_left
 ·rintro b d E;have e:=Aj e E;cases hm;simp[e]
 rcases Pb (eH a0 4) e with e|e
 ·simp[e];exact a _ _ (by simp[e])
 rcases Pb (eH a0 5) e with e|e
 ·simp[e];exact a _ _ (by simp[e])
 rcases Pb (eH a0 6) e with e|e
 ·simp[e];exact a _ _ (by simp[e])
 simp[e];exact a _ _ (by simp[e])
def G1:∀(n:Nat),C1 prog 162 (lJ n) sB Fm.av:=by
  intro n
  induction n with
  |zero=>
    skip
    all_goals(intro _ _;intros;rename_i hm;cases hm)
  |succ n l=>
 intro T H a0 r hm;rw[lJ] at hm;have e:=trivial;refine wi abf func162 [] [] 7 ?_;rcases Io e hm with⟨e,m⟩|⟨e,m⟩
 ·simp[e];refine Wj m 999 999 (λs f h=>∃(v2:Bool),(h=H/\f.1 2=sB v2)/\s v2=some r) (λs M d m=>?_) ?_;rotate_left
  ·rintro w N ⟨v2,E,m⟩;have e:=Aj e E;cases m;simp[e]
  rcases Io e m with⟨e,m⟩|⟨e,m⟩;rotate_left
  ·simp[e];exact d _ _ ⟨false,by simp[e],m⟩
  have⟨O,e,m⟩:=ep e m;simp[e];refine Cf (uu e.2) ?_;rcases Io e m with⟨e,m⟩|⟨e,m⟩;rotate_left
  ·simp[e];exact d _ _ ⟨false,by simp[e],m⟩
  rcases Io e m with⟨e,m⟩|⟨e,m⟩;rotate_left
  ·simp[e];exact d _ _ ⟨false,by simp[e],m⟩
  have⟨P,e,m⟩:=ep e m;have⟨Q,e,m⟩:=ep e m;simp[e];refine Cf (tj e.2) ?_;rcases Io e m with⟨e,m⟩|⟨e,m⟩;rotate_left
  ·simp[e];exact d _ _ ⟨false,by simp[e],m⟩
  have⟨R,e,m⟩:=ep e m;have⟨o,e,m⟩:=ep e m;simp[e];refine Cf (tj e.2) ?_;simp[e];exact d _ _ ⟨o,by simp[e],m⟩
 simp[e];refine wj 999 0 (λf h=>∃(b:Nat),h=H/\f.1 1=AV.eB 1 b 0/\f.1 36=sB (fU (eH a0.aba 2) true (eH a0.aba 3))/\f.gen 1=b/\f.box 1=some [sI a0.aba,sI a0.dv.aba,sL Ty.av a0.dv.abb,sL Tm.av a0.ek,sL Fm.av a0.abb]) (λx g=>?_) ?_
 ·rcases Pb (eH a0.aba 2) e with e|e
  ·simp[e];exact g _ _ ⟨1,by simp[e]⟩
  simp[e];exact g _ _ ⟨1,by simp[e]⟩
 rintro t y ⟨b,E⟩;have e:=Aj e E;rcases Io e m with⟨e,m⟩|⟨e,m⟩;rotate_left
 ·apply wg 3;have⟨z,e,m⟩:=ep e m;simp[e];refine Cf (rm e.2) ?_;simp[e];rcases Io e m with⟨e,m⟩|⟨e,m⟩;rotate_left
  ·apply wg 999;cases m;simp[e]
  apply wg 1;simp[e];refine Wj m 999 999 (λj f h=>∃(i:Bool),(h=H/\f.1 2=sB i)/\j i=some r) (λj A c m=>?_) ?_;rotate_left
  ·rintro u B ⟨i,E,m⟩;have e:=Aj e E;cases m;simp[e]
  rcases Io e m with⟨e,m⟩|⟨e,m⟩;rotate_left
  ·simp[e];exact c _ _ ⟨false,by simp[e],m⟩
  have⟨C,e,m⟩:=ep e m;simp[e];refine Cf (pw e.2) ?_;rcases Io e m with⟨e,m⟩|⟨e,m⟩;rotate_left
  ·simp[e];exact c _ _ ⟨false,by simp[e],m⟩
  rcases Io e m with⟨e,m⟩|⟨e,m⟩;rotate_left
  ·simp[e];exact c _ _ ⟨false,by simp[e],m⟩
  have⟨D,e,m⟩:=ep e m;have⟨p,e,m⟩:=ep e m;simp[e];refine Cf (l e.2) ?_;simp[e];exact c _ _ ⟨p,by simp[e],m⟩
 apply wg 1;simp[e];refine Wj m 999 999 (λk f h=>∃(v24:Bool),(h=H/\f.1 2=sB v24)/\k v24=some r) (λk F a m=>?_) ?_;rotate_left
 ·rintro v G ⟨v24,E,m⟩;have e:=Aj e E;cases m;simp[e]
 rcases Io e m with⟨e,m⟩|⟨e,m⟩;rotate_left
 ·simp[e];exact a _ _ ⟨false,by simp[e],m⟩
 have⟨I,e,m⟩:=ep e m;simp[e];refine Cf (uu e.2) ?_;rcases Io e m with⟨e,m⟩|⟨e,m⟩;rotate_left
 ·simp[e];exact a _ _ ⟨false,by simp[e],m⟩
 rcases Io e m with⟨e,m⟩|⟨e,m⟩;rotate_left
 ·simp[e];exact a _ _ ⟨false,by simp[e],m⟩
 have⟨J,e,m⟩:=ep e m;have⟨K,e,m⟩:=ep e m;simp[e];refine Cf (l e.2) ?_;rcases Io e m with⟨e,m⟩|⟨e,m⟩;rotate_left
 ·simp[e];exact a _ _ ⟨false,by simp[e],m⟩
 have⟨L,e,m⟩:=ep e m;have⟨q,e,m⟩:=ep e m;simp[e];refine Cf (l e.2) ?_;simp[e];exact a _ _ ⟨q,by simp[e],m⟩
def AF{n:Nat}:C1 prog 162 (lJ n) sB Fm.av:=(G1 n)
def Gr:∀(n:Nat),C1 prog 117 (gh n) sI Tm.av:=by
  intro n
  induction n with
  |zero=>
   skip
   all_goals(intro _ _;intros;rename_i hm;cases hm)
  |succ n d=>
 intro T H a0 r hm;rw[gh] at hm;have e:=trivial;refine wi abf func117 [] [] 999 ?_;simp[e];refine Wr e hm 999 (λc s2 f h=>h=H/\f.1 3=sI s2/\f.1 7=sL Tm.av a0.abb/\f.1 8=sI (eM a0.abb)/\f.1 9=sI c) (by simp[e]) (λs2 a g i E m=>?_) (λc l s2 a g i n6 o E e m j b=>?_)
 ·have e:=Aj e E;dsimp only[en]at m;cases m;simp[e]
 have e:=Aj e E;have⟨k,e,m⟩:=ep e m;simp[e];refine Cf (d e.2) ?_;simp[e];cases m;exact b _ _ _ (by simp[e]) j
def gY{n:Nat}:C1 prog 117 (gh n) sI Tm.av:=(Gr n)
def Gg:∀(n:Nat),C1 prog 115 (lM n) sI Fm.av:=by
  intro n
  induction n with
  |zero=>
   skip
   all_goals(intro _ _;intros;rename_i hm;cases hm)
  |succ n q=>
 intro T H a0 r hm;rw[lM] at hm;have e:=trivial;refine wi abf func115 [] [] 999 ?_;simp[e];refine Wr e hm 999 (λp s2 f h=>∃(a:Nat),h=H/\f.1 1=AV.eB 1 a 0/\f.1 3=sI s2/\f.1 9=sL Tm.av a0.ek/\f.1 10=sI (eM a0.ek)/\f.1 11=sI p/\f.gen 1=a/\f.box 1=some [sI a0.aba,sI a0.dv.aba,sL Ty.av a0.dv.abb,sL Tm.av a0.ek,sL Fm.av a0.abb]) ⟨1,by simp[e]⟩ (λs2 i s t E m=>?_) (λp A s2 i s t n6 B E e m u j=>?_);rotate_left
 ·have⟨a,E⟩:=E;have e:=Aj e E;have⟨v,e,m⟩:=ep e m;simp[e];refine Cf (gY e.2) ?_;simp[e];cases m;exact j _ _ _ ⟨a,by simp[e]⟩ u
 have⟨a,E⟩:=E;have e:=Aj e E;dsimp only[en]at m;simp[e];refine Wr e m 999 (λc b f h=>h=H/\f.1 3=sI b/\f.1 21=sL Fm.av a0.abb/\f.1 22=sI (eM a0.abb)/\f.1 23=sI c) (by simp[e]) (λb d k l E m=>?_) (λc w b d k l x y E e m o g=>?_)
 ·have e:=Aj e E;dsimp only[en]at m;cases m;simp[e]
 have e:=Aj e E;have⟨z,e,m⟩:=ep e m;simp[e];refine Cf (q e.2) ?_;simp[e];cases m;exact g _ _ _ (by simp[e]) o
def tl{n:Nat}:C1 prog 115 (lM n) sI Fm.av:=(Gg n)
def nT:C1 prog 93 kY sI Fm.av:=by
 intro T H a0 r hm;rw[kY] at hm;have e:=trivial;refine wi abf func93 [] [] 999 ?_;have⟨a,e,m⟩:=ep e hm;simp[e];refine Cf (AF e.2) ?_;rcases Io e m with⟨e,m⟩|⟨e,m⟩;rotate_left
 ·cases m;simp[e]
 have⟨b,e,m⟩:=ep e m;simp[e];refine Cf (tl e.2) ?_;rcases Io e m with⟨e,m⟩|⟨e,m⟩
 ·cases m;simp[e]
 cases m;simp[e]
def nW:C1 prog 112 lQ sI Tm.av:=by
 intro T H a0 r hm;rw[lQ] at hm;have e:=trivial;refine wi abf func112 [] [] 999 ?_;have⟨a,e,m⟩:=ep e hm;simp[e];refine Cf (tj e.2) ?_;rcases Io e m with⟨e,m⟩|⟨e,m⟩;rotate_left
 ·cases m;simp[e]
 have⟨b,e,m⟩:=ep e m;simp[e];refine Cf (gY e.2) ?_;rcases Io e m with⟨e,m⟩|⟨e,m⟩
 ·cases m;simp[e]
 cases m;simp[e]
def GP:C1 prog 293 tB (t2 Ty.av sI) Ty.av:=by
 intro T H a0 r hm;rw[tB] at hm;have e:=trivial;refine wi abf func293 [] [] 999 ?_;have⟨a,e,m⟩:=ep e hm;simp[e];refine Cf (pw e.2) ?_;rcases Io e m with⟨e,m⟩|⟨e,m⟩
 ·cases m;simp[e]
 cases m;simp[e]
def Gc:∀(n:Nat),C2 prog 268 (fS n) (t2 Ty.av sI) (sL Ty.av) Tm.av:=by
  intro n
  induction n with
  |zero=>
    skip
    all_goals(intro _ _;intros;rename_i hm;cases hm)
  |succ n Z=>
 intro T H a0 a1 r hm;rw[fS] at hm;have e:=trivial;refine wi abf func268 [] [] 999 ?_;rcases Io e hm with⟨e,m⟩|⟨e,m⟩
 ·rcases Io e m with⟨e,m⟩|⟨e,m⟩
  ·cases m;simp[e]
  have⟨x1,e,m⟩:=ep e m;have⟨x2,e,m⟩:=ep e m;simp[e];refine Cf (jG e.2) ?_;cases m;simp[e]
 rcases Io e m with⟨e,m⟩|⟨e,m⟩
 ·have⟨e,m⟩:=Ck e m;simp[e];refine Ad (f:=Ty.av) a0 [a1.dv] (iM.full (D:=[])) BV e.2 ?_;have⟨x3,e,m⟩:=ep e m;have⟨x4,x5,e,m⟩:=gq e m;simp[e];refine Cs (Z e.2) ?_;rcases Io e m with⟨e,m⟩|⟨e,m⟩
  ·cases m;simp[e]
  have⟨x6,e,m⟩:=ep e m;simp[e];refine Cf (oF e.2) ?_;have⟨x7,x8,e,m⟩:=gq e m;simp[e];refine Cf (GP e.2) ?_;cases m;simp[e]
 simp[e];refine Wr e m 0 (λj9 g f h=>∃(c:Tag) (b:Nat) (a:Nat),(h=H/\f.1 0=sL Ty.av a0/\f.1 3=AV.eB 3 b 0/\f.1 4=AV.eB 4 a 0/\f.1 8=sT c Ty.av g/\f.1 67=sL Tm.av a1.abb/\f.1 68=sI (eM a1.abb)/\f.1 69=sI j9/\f.gen 3=b/\f.box 3=some [sI a1.aba,sI a1.abd,sI a1.dv.aba,sL Ty.av a1.dv.abb,sL Tm.av a1.abb]/\f.gen 4=a/\f.box 4=some [sI 0,AV.slice .full []])/\Ow f [86] c g) (by exact⟨.full,1,1,by simp[e],iM.full⟩) (λg w P Q E m=>?_) (λj9 ah g w P Q ai aj E e m I J=>?_);rotate_left
 ·have⟨c,b,a,E,d⟩:=E;have e:=Aj e E;apply wg 999;have⟨R,ak,e,m⟩:=gq e m;simp[e];refine Cf (Z e.2) ?_;rcases Io e m with⟨e,m⟩|⟨e,m⟩
  ·cases m;cases I;simp[e]
  have⟨e,m⟩:=Ck e m;simp[e];refine Ao (f:=Ty.av) g [R] d BV e.2 ?_;simp[e];cases m;exact J _ _ _ ⟨(.loc 86 (w.fN 86+1)),b,a,by simp[e],(On 86)⟩ I
 have⟨c,b,a,E,d⟩:=E;have e:=Aj e E;apply wg 13;dsimp only[en]at m;have⟨al,e,m⟩:=ep e m;simp[e];refine Cf (hV e.2) ?_;have⟨K,e,m⟩:=ep e m;simp[e];refine Cf (nw e.2) ?_;simp[e];rcases Io e m with⟨e,m⟩|⟨e,m⟩
 ·apply wg 2;simp[e];refine Wj m 999 999 (λL f h=>∃(C:Bool) (i:Tag) (l:Nat),(h=H/\f.1 4=AV.eB 4 l 0/\f.1 8=sT i Ty.av g/\f.1 111=sB C/\f.gen 4=l/\f.box 4=some [sI 0,AV.slice .full []])/\Ow f [86] i g/\L C=some r) (λL an z m=>?_) ?_;rotate_left
  ·rintro aa ao ⟨C,i,l,E,S,m⟩;have e:=Aj e E;rcases Io e m with⟨e,m⟩|⟨e,m⟩
   ·cases m;simp[e]
   have⟨aq,e,m⟩:=ep e m;have⟨ar,e,m⟩:=ep e m;cases m;simp[e]
  have⟨au,e,m⟩:=ep e m;rcases Io e m with⟨e,m⟩|⟨e,m⟩
  ·simp[e];exact z _ _ ⟨true,c,a,by simp[e],d,m⟩
  have⟨aw,e,m⟩:=ep e m;have⟨ax,e,m⟩:=ep e m;have⟨U,e,m⟩:=ep e m;simp[e];refine Cs (iq e.2) ?_;simp[e];exact z _ _ ⟨(nC U),c,a,by simp[e],d,m⟩
 apply wg 3;simp[e];rcases Io e m with⟨e,m⟩|⟨e,m⟩
 ·apply wg 999;cases m;simp[e]
 apply wg 3;simp[e];rcases Io e m with⟨e,m⟩|⟨e,m⟩
 ·apply wg 999;have⟨ay,e,m⟩:=ep e m;have⟨az,e,m⟩:=ep e m;simp[e];refine Cs (iq e.2) ?_;rcases Io e m with⟨e,m⟩|⟨e,m⟩
  ·cases m;simp[e]
  cases m;simp[e]
 apply wg 3;simp[e];rcases Io e m with⟨e,m⟩|⟨e,m⟩
 ·apply wg 2;simp[e];refine Wj m 999 999 (λM f h=>∃(F:Bool) (o:Nat) (p:Nat),(h=H/\f.1 3=AV.eB 3 o 0/\f.1 4=AV.eB 4 p 0/\f.1 162=sB F/\f.gen 3=o/\f.box 3=some [sI a1.aba,sI a1.abd,sI a1.dv.aba,sL Ty.av a1.dv.abb,sL Tm.av a1.abb]/\f.gen 4=p/\f.box 4=some [sI 0,AV.slice .full []])/\M F=some r) (λM aA x m=>?_) ?_;rotate_left
  ·rintro ab aB ⟨F,o,p,E,m⟩;have e:=Aj e E;rcases Io e m with⟨e,m⟩|⟨e,m⟩
   ·cases m;simp[e]
   have⟨aC,e,m⟩:=ep e m;simp[e];refine Cf (jG e.2) ?_;cases m;simp[e]
  have⟨aD,e,m⟩:=ep e m;have⟨aE,e,m⟩:=ep e m;simp[e];refine Cs (iq e.2) ?_;rcases Io e m with⟨e,m⟩|⟨e,m⟩;rotate_left
  ·simp[e];exact x _ _ ⟨true,b,a,by simp[e],m⟩
  have⟨aF,e,m⟩:=ep e m;have⟨aG,e,m⟩:=ep e m;simp[e];refine Cs (oF e.2) ?_;have⟨aH,e,m⟩:=ep e m;simp[e];refine Cs (oF e.2) ?_;have⟨aI,e,m⟩:=ep e m;simp[e];refine Cs (iq e.2) ?_;rcases Io e m with⟨e,m⟩|⟨e,m⟩;rotate_left
  ·simp[e];exact x _ _ ⟨true,b,a,by simp[e],m⟩
  have⟨aJ,e,m⟩:=ep e m;have⟨V,e,m⟩:=ep e m;simp[e];refine Cs (iq e.2) ?_;simp[e];exact x _ _ ⟨(nC V),b,a,by simp[e],m⟩
 apply wg 3;simp[e];rcases Io e m with⟨e,m⟩|⟨e,m⟩
 ·apply wg 999;cases m;simp[e]
 apply wg 3;simp[e];rcases Io e m with⟨e,m⟩|⟨e,m⟩
 ·apply wg 2;simp[e];refine Wj m 999 999 (λN f h=>∃(G:Bool) (q:Nat) (j:Nat),(h=H/\f.1 4=AV.eB 4 q 0/\f.1 14=AV.eB 14 j 0/\f.1 185=sB G/\f.gen 4=q/\f.box 4=some [sI 0,AV.slice .full []]/\f.gen 14=j/\f.box 14=some [sI K.aba,sL Ty.av K.abb])/\N G=some r) (λN aK A m=>?_) ?_;rotate_left
  ·rintro ad aL ⟨G,q,j,E,m⟩;have e:=Aj e E;rcases Io e m with⟨e,m⟩|⟨e,m⟩
   ·cases m;simp[e]
   cases m;simp[e]
  have⟨aM,e,m⟩:=ep e m;have⟨aN,e,m⟩:=ep e m;simp[e];refine Cs (iq e.2) ?_;rcases Io e m with⟨e,m⟩|⟨e,m⟩;rotate_left
  ·simp[e];exact A _ _ ⟨true,a,(w.gen 14+1),by simp[e],m⟩
  have⟨aO,e,m⟩:=ep e m;have⟨W,e,m⟩:=ep e m;simp[e];refine Cs (iq e.2) ?_;simp[e];exact A _ _ ⟨(nC W),a,(w.gen 14+1),by simp[e],m⟩
 apply wg 3;simp[e];rcases Io e m with⟨e,m⟩|⟨e,m⟩
 ·apply wg 2;simp[e];refine Wj m 999 999 (λO f h=>∃(v59:Bool) (s:Nat) (t:Nat),(h=H/\f.1 3=AV.eB 3 s 0/\f.1 4=AV.eB 4 t 0/\f.1 220=sB v59/\f.gen 3=s/\f.box 3=some [sI a1.aba,sI a1.abd,sI a1.dv.aba,sL Ty.av a1.dv.abb,sL Tm.av a1.abb]/\f.gen 4=t/\f.box 4=some [sI 0,AV.slice .full []])/\O v59=some r) (λO aP y m=>?_) ?_;rotate_left
  ·rintro ae aQ ⟨v59,s,t,E,m⟩;have e:=Aj e E;rcases Io e m with⟨e,m⟩|⟨e,m⟩
   ·cases m;simp[e]
   have⟨aR,e,m⟩:=ep e m;simp[e];refine Cf (jG e.2) ?_;cases m;simp[e]
  have⟨aS,e,m⟩:=ep e m;have⟨aT,e,m⟩:=ep e m;simp[e];refine Cs (iq e.2) ?_;rcases Io e m with⟨e,m⟩|⟨e,m⟩;rotate_left
  ·simp[e];exact y _ _ ⟨true,b,a,by simp[e],m⟩
  have⟨aU,e,m⟩:=ep e m;have⟨aV,e,m⟩:=ep e m;simp[e];refine Cs (oF e.2) ?_;have⟨aW,e,m⟩:=ep e m;simp[e];refine Cs (oF e.2) ?_;have⟨aX,e,m⟩:=ep e m;simp[e];refine Cs (oF e.2) ?_;have⟨aY,e,m⟩:=ep e m;simp[e];refine Cs (iq e.2) ?_;rcases Io e m with⟨e,m⟩|⟨e,m⟩;rotate_left
  ·simp[e];exact y _ _ ⟨true,b,a,by simp[e],m⟩
  have⟨aZ,e,m⟩:=ep e m;have⟨X,e,m⟩:=ep e m;simp[e];refine Cs (iq e.2) ?_;simp[e];exact y _ _ ⟨(nC X),b,a,by simp[e],m⟩
 apply wg 3;simp[e];rcases Io e m with⟨e,m⟩|⟨e,m⟩
 ·apply wg 999;have⟨a6,e,m⟩:=ep e m;have⟨a7,e,m⟩:=ep e m;have⟨a8,e,m⟩:=ep e m;simp[e];refine Cs (D1 e.2) ?_;have⟨a_,a',e,m⟩:=gq e m;simp[e];refine Cs (GP e.2) ?_;cases m;simp[e]
 apply wg 1;simp[e];refine wj 999 0 (λf h=>∃(k:Tag) (u:Nat) (v:Nat),(h=H/\f.1 3=AV.eB 3 u 0/\f.1 4=AV.eB 4 v 0/\f.1 8=sT k Ty.av g/\f.1 237=sB (fU (eH a1.aba 11) true (eH a1.aba 12))/\f.gen 3=u/\f.box 3=some [sI a1.aba,sI a1.abd,sI a1.dv.aba,sL Ty.av a1.dv.abb,sL Tm.av a1.abb]/\f.gen 4=v/\f.box 4=some [sI 0,AV.slice .full []])/\Ow f [86] k g) (λba B=>?_) ?_
 ·rcases Pb (eH a1.aba 11) e with e|e
  ·simp[e];exact B _ _ ⟨c,b,a,by simp[e],d⟩
  simp[e];exact B _ _ ⟨c,b,a,by simp[e],d⟩
 rintro af bb ⟨k,u,v,E,Y⟩;have e:=Aj e E;rcases Io e m with⟨e,m⟩|⟨e,m⟩;rotate_left
 ·apply wg 999;have⟨bc,e,m⟩:=ep e m;simp[e];refine Cf (BD e.2) ?_;cases m;simp[e]
 apply wg 4;have⟨bd,e,m⟩:=ep e m;simp[e];rcases Io e m with⟨e,m⟩|⟨e,m⟩
 ·apply wg 999;cases m;simp[e]
 apply wg 5;simp[e];rcases Io e m with⟨e,m⟩|⟨e,m⟩
 ·apply wg 999;have⟨bf,e,m⟩:=ep e m;cases m;simp[e]
 apply wg 999;have⟨bg,e,m⟩:=ep e m;cases m;simp[e]
def H8{n:Nat}:C2 prog 268 (fS n) (t2 Ty.av sI) (sL Ty.av) Tm.av:=(Gc n)
def Az:C2 prog 232 qn (t2 Ty.av sI) (sL Ty.av) Tm.av:=by
 intro T H a0 a1 r hm;rw[qn] at hm;have e:=trivial;refine wi abf func232 [] [] 999 ?_;have⟨a,e,m⟩:=ep e hm;simp[e];refine Cf (nW e.2) ?_;rcases Io e m with⟨e,m⟩|⟨e,m⟩
 ·cases m;simp[e]
 have⟨b,c,e,m⟩:=gq e m;simp[e];refine Cf (H8 e.2) ?_;cases m;simp[e]
def Fp:∀(n:Nat),C2 prog 171 (mC n) sI (sL Ty.av) Fm.av:=by
  intro n
  induction n with
  |zero=>
    skip
    all_goals(intro _ _;intros;rename_i hm;cases hm)
  |succ n z=>
 intro T H a0 a1 r hm;rw[mC] at hm;have e:=trivial;refine wi abf func171 [] [] 999 ?_;simp[e];refine Wr e hm 0 (λx s2 f h=>∃(b:Nat),h=H/\f.1 0=sL Ty.av a0/\f.1 3=AV.eB 3 b 0/\f.1 13=sL Tm.av a1.ek/\f.1 14=sI (eM a1.ek)/\f.1 15=sI x/\f.gen 3=b/\f.box 3=some [sI a1.aba,sI a1.dv.aba,sL Ty.av a1.dv.abb,sL Tm.av a1.ek,sL Fm.av a1.abb]) ⟨1,by simp[e]⟩ (λs2 j A B E m=>?_) (λx O s2 j A B n6 P E e m t u=>?_);rotate_left
 ·have⟨b,E⟩:=E;have e:=Aj e E;apply wg 999;have⟨C,F,e,m⟩:=gq e m;simp[e];refine Cf (Az e.2) ?_;rcases Io e m with⟨e,m⟩|⟨e,m⟩
  ·cases m;cases t;simp[e]
  rcases Io e m with⟨e,m⟩|⟨e,m⟩
  ·cases m;cases t;simp[e]
  simp[e];cases m;exact u _ _ _ ⟨b,by simp[e]⟩ t
 have⟨b,E⟩:=E;have e:=Aj e E;apply wg 5;dsimp only[en]at m;simp[e];refine Wj m 999 999 (λk f h=>∃(g:List Ty) (c:Tag) (d:Nat),(h=H/\f.1 0=sT c Ty.av g/\f.1 3=AV.eB 3 d 0/\f.gen 3=d/\f.box 3=some [sI a1.aba,sI a1.dv.aba,sL Ty.av a1.dv.abb,sL Tm.av a1.ek,sL Fm.av a1.abb])/\k g=some r) (λk G i m=>?_) ?_
 ·have⟨I,e,m⟩:=ep e m;simp[e];refine Cf (rm e.2) ?_;rcases Io e m with⟨e,m⟩|⟨e,m⟩;rotate_left
  ·simp[e];exact i _ _ ⟨a0,.iN,b,by simp[e],m⟩
  have⟨e,m⟩:=Ck e m;simp[e];refine Ad (f:=Ty.av) a0 [a1.dv] (iM.full (D:=[])) BV e.2 ?_;simp[e];exact i _ _ ⟨(gv a0 [a1.dv]),(.loc 44 (j.fN 44+1)),b,by simp[e],m⟩
 rintro y J ⟨g,c,d,E,m⟩;have e:=Aj e E;simp[e];refine Wr e m 999 (λl o f h=>∃(a:Tag),h=H/\f.1 0=sT a Ty.av g/\f.1 46=sL Fm.av a1.abb/\f.1 47=sI (eM a1.abb)/\f.1 48=sI l) ⟨c,by simp[e]⟩ (λo p v w E m=>?_) (λl K o p v w L M E e m q s=>?_)
 ·have⟨a,E⟩:=E;have e:=Aj e E;dsimp only[en]at m;cases m;simp[e]
 have⟨a,E⟩:=E;have e:=Aj e E;have⟨N,e,m⟩:=ep e m;simp[e];refine Cf (z e.2) ?_;rcases Io e m with⟨e,m⟩|⟨e,m⟩
 ·cases m;cases q;simp[e]
 simp[e];cases m;exact s _ _ _ ⟨a,by simp[e]⟩ q
def H4{n:Nat}:C2 prog 171 (mC n) sI (sL Ty.av) Fm.av:=(Fp n)
def ti:C2 prog 111 k0 sI (sL Ty.av) Fm.av:=by
 intro T H a0 a1 r hm;rw[k0] at hm;have e:=trivial;refine wi abf func111 [] [] 999 ?_;have⟨a,e,m⟩:=ep e hm;simp[e];refine Cf (nT e.2) ?_;rcases Io e m with⟨e,m⟩|⟨e,m⟩
 ·cases m;simp[e]
 have⟨b,e,m⟩:=ep e m;simp[e];refine Cf (H4 e.2) ?_;cases m;simp[e]
def tf:C2 prog 44 ki sI (sL Ty.av) Fm.av:=by
 intro T H a0 a1 r hm;rw[ki] at hm;have e:=trivial;refine wi abf func44 [] [] 999 ?_;have⟨a,e,m⟩:=ep e hm;simp[e];refine Cf (tS e.2) ?_;rcases Io e m with⟨e,m⟩|⟨e,m⟩
 ·cases m;simp[e]
 have⟨b,e,m⟩:=ep e m;simp[e];refine Cf (ti e.2) ?_;cases m;simp[e]
def Et:C2 prog 22 tm sI (sL Fm.av) Sq.av:=by
 intro T H a0 a1 r hm;rw[tm] at hm;have e:=trivial;refine wi abf func22 [] [] 999 ?_;rcases Io e hm with⟨e,m⟩|⟨e,m⟩
 ·cases m;simp[e]
 simp[e];refine Wr e m 999 (λp s2 f h=>∃(b:Nat),h=H/\f.1 3=AV.eB 3 b 0/\f.1 15=sL Fm.av a0/\f.1 16=sI (eM a0)/\f.1 17=sI p/\f.gen 3=b/\f.box 3=some [sL Ty.av a1.abe,sL Fm.av a1.abh]) ⟨1,by simp[e]⟩ (λs2 k s t E m=>?_) (λp A s2 k s t n6 B E e m q l=>?_);rotate_left
 ·have⟨b,E⟩:=E;have e:=Aj e E;have⟨u,e,m⟩:=ep e m;simp[e];refine Cf (tf e.2) ?_;rcases Io e m with⟨e,m⟩|⟨e,m⟩
  ·cases m;cases q;simp[e]
  simp[e];cases m;exact l _ _ _ ⟨b,by simp[e]⟩ q
 have⟨b,E⟩:=E;have e:=Aj e E;dsimp only[en]at m;have⟨v,e,m⟩:=ep e m;simp[e];refine Cf (tS e.2) ?_;rcases Io e m with⟨e,m⟩|⟨e,m⟩
 ·cases m;simp[e]
 rcases Io e m with⟨e,m⟩|⟨e,m⟩
 ·cases m;simp[e]
 simp[e];refine Wr e m 999 (λc d f h=>∃(a:Nat),h=H/\f.1 3=AV.eB 3 a 0/\f.1 38=sL Fm.av a1.abh/\f.1 39=sI (eM a1.abh)/\f.1 40=sI c/\f.gen 3=a/\f.box 3=some [sL Ty.av a1.abe,sL Fm.av a1.abh]) ⟨b,by simp[e]⟩ (λd g n o E m=>?_) (λc w d g n o x y E e m i j=>?_)
 ·have⟨a,E⟩:=E;have e:=Aj e E;dsimp only[en]at m;cases m;simp[e]
 have⟨a,E⟩:=E;have e:=Aj e E;have⟨z,e,m⟩:=ep e m;simp[e];refine Cf (tf e.2) ?_;rcases Io e m with⟨e,m⟩|⟨e,m⟩
 ·cases m;cases i;simp[e]
 simp[e];cases m;exact j _ _ _ ⟨a,by simp[e]⟩ i
def HH:C1 prog 215 pX (t2 fx.av sB) sI:=by
 intro T H a0 r hm;rw[pX] at hm;have e:=trivial;refine wi abf func215 [] [] 6 ?_;simp[e];refine wj 999 0 (λf h=>∃(i:Nat),h=H/\f.1 2=AV.eB 2 i 0/\f.1 4=sI a0/\f.1 5=sB (fU (eH a0 1) true (eH a0 2))/\f.gen 2=i/\f.box 2=some [sI 0,sI 0,sI 0,sB false,sB false]) (λP t=>?_) ?_
 ·rcases Pb (eH a0 1) e with e|e
  ·simp[e];exact t _ _ ⟨1,by simp[e]⟩
  simp[e];exact t _ _ ⟨1,by simp[e]⟩
 rintro A Q ⟨i,E⟩;have e:=Aj e E;rcases Io e hm with⟨e,m⟩|⟨e,m⟩
 ·apply wg 999;cases m;simp[e]
 apply wg 1;simp[e];refine wj 999 0 (λf h=>∃(g:Nat),h=H/\f.1 2=AV.eB 2 g 0/\f.1 4=sI a0/\f.1 9=sB (fU (eH a0 3) true (eH a0 7))/\f.gen 2=g/\f.box 2=some [sI 0,sI 0,sI 0,sB false,sB false]) (λR u=>?_) ?_
 ·rcases Pb (eH a0 3) e with e|e
  ·simp[e];exact u _ _ ⟨i,by simp[e]⟩
  simp[e];exact u _ _ ⟨i,by simp[e]⟩
 rintro B S ⟨g,E⟩;have e:=Aj e E;rcases Io e m with⟨e,m⟩|⟨e,m⟩
 ·apply wg 999;cases m;simp[e]
 apply wg 1;simp[e];refine wj 999 0 (λf h=>∃(j:Nat),h=H/\f.1 2=AV.eB 2 j 0/\f.1 4=sI a0/\f.1 13=sB (fU (eH a0 4) true (fU (eH a0 5) true (eH a0 20)))/\f.gen 2=j/\f.box 2=some [sI 0,sI 0,sI 0,sB false,sB false]) (λU s=>?_) ?_
 ·rcases Pb (eH a0 4) e with e|e
  ·simp[e];exact s _ _ ⟨g,by simp[e]⟩
  rcases Pb (eH a0 5) e with e|e
  ·simp[e];exact s _ _ ⟨g,by simp[e]⟩
  simp[e];exact s _ _ ⟨g,by simp[e]⟩
 rintro C V ⟨j,E⟩;have e:=Aj e E;rcases Io e m with⟨e,m⟩|⟨e,m⟩
 ·apply wg 999;cases m;simp[e]
 apply wg 3;simp[e];rcases Io e m with⟨e,m⟩|⟨e,m⟩
 ·apply wg 999;cases m;simp[e]
 apply wg 1;simp[e];refine wj 999 0 (λf h=>∃(a:Nat),h=H/\f.1 2=AV.eB 2 a 0/\f.1 4=sI a0/\f.1 21=sB (fU (eH a0 8) true (eH a0 12))/\f.gen 2=a/\f.box 2=some [sI 0,sI 0,sI 0,sB false,sB false]) (λD l=>?_) ?_
 ·rcases Pb (eH a0 8) e with e|e
  ·simp[e];exact l _ _ ⟨j,by simp[e]⟩
  simp[e];exact l _ _ ⟨j,by simp[e]⟩
 rintro v F ⟨a,E⟩;have e:=Aj e E;rcases Io e m with⟨e,m⟩|⟨e,m⟩
 ·apply wg 999;cases m;simp[e]
 apply wg 1;simp[e];refine wj 999 0 (λf h=>∃(b:Nat),h=H/\f.1 2=AV.eB 2 b 0/\f.1 4=sI a0/\f.1 25=sB (fU (eH a0 9) true (eH a0 13))/\f.gen 2=b/\f.box 2=some [sI 0,sI 0,sI 0,sB false,sB false]) (λG n=>?_) ?_
 ·rcases Pb (eH a0 9) e with e|e
  ·simp[e];exact n _ _ ⟨a,by simp[e]⟩
  simp[e];exact n _ _ ⟨a,by simp[e]⟩
 rintro w I ⟨b,E⟩;have e:=Aj e E;rcases Io e m with⟨e,m⟩|⟨e,m⟩
 ·apply wg 999;cases m;simp[e]
 apply wg 1;simp[e];refine wj 999 0 (λf h=>∃(c:Nat),h=H/\f.1 2=AV.eB 2 c 0/\f.1 4=sI a0/\f.1 29=sB (fU (eH a0 10) true (eH a0 14))/\f.gen 2=c/\f.box 2=some [sI 0,sI 0,sI 0,sB false,sB false]) (λJ o=>?_) ?_
 ·rcases Pb (eH a0 10) e with e|e
  ·simp[e];exact o _ _ ⟨b,by simp[e]⟩
  simp[e];exact o _ _ ⟨b,by simp[e]⟩
 rintro x K ⟨c,E⟩;have e:=Aj e E;rcases Io e m with⟨e,m⟩|⟨e,m⟩
 ·apply wg 999;cases m;simp[e]
 apply wg 1;simp[e];refine wj 999 0 (λf h=>∃(d:Nat),h=H/\f.1 2=AV.eB 2 d 0/\f.1 4=sI a0/\f.1 33=sB (fU (eH a0 11) true (eH a0 15))/\f.gen 2=d/\f.box 2=some [sI 0,sI 0,sI 0,sB false,sB false]) (λL p=>?_) ?_
 ·rcases Pb (eH a0 11) e with e|e
  ·simp[e];exact p _ _ ⟨c,by simp[e]⟩
  simp[e];exact p _ _ ⟨c,by simp[e]⟩
 rintro y M ⟨d,E⟩;have e:=Aj e E;rcases Io e m with⟨e,m⟩|⟨e,m⟩
 ·apply wg 999;cases m;simp[e]
 apply wg 1;simp[e];refine wj 999 999 (λf h=>∃(k:Nat),h=H/\f.1 2=AV.eB 2 k 0/\f.1 4=sI a0/\f.1 37=sB (fU (eH a0 16) true (eH a0 17))/\f.gen 2=k/\f.box 2=some [sI 0,sI 0,sI 0,sB false,sB false]) (λN q=>?_) ?_
 ·rcases Pb (eH a0 16) e with e|e
  ·simp[e];exact q _ _ ⟨d,by simp[e]⟩
  simp[e];exact q _ _ ⟨d,by simp[e]⟩
 rintro z O ⟨k,E⟩;have e:=Aj e E;rcases Io e m with⟨e,m⟩|⟨e,m⟩
 ·cases m;simp[e]
 rcases Io e m with⟨e,m⟩|⟨e,m⟩
 ·cases m;simp[e]
 rcases Io e m with⟨e,m⟩|⟨e,m⟩
 ·cases m;simp[e]
 cases m;simp[e]
def Gp:∀(n:Nat),C1 prog 159 (nE n) sB Pf.av:=by
  intro n
  induction n with
  |zero=>
    skip
    all_goals(intro _ _;intros;rename_i hm;cases hm)
  |succ n O=>
 intro T H a0 r hm;rw[nE] at hm;have e:=trivial;refine wi abf func159 [] [] 5 ?_;have⟨i,L,e,m⟩:=gq e hm;simp[e];refine Cf (HH e.2) ?_;simp[e];refine wj 999 0 (λf h=>∃(c:Nat) (j:Nat),h=H/\f.1 1=AV.eB 1 c 0/\f.1 3=AV.eB 3 j 0/\f.1 57=sB (fU L (fU (eW (eM a0.ek) i.ek) true (fU (eW (eM a0.fi) i.fi) true (fU (eW (eM a0.abb) i.abb) true (fU (tW a0.abd 0) true (fU i.abd false (eW a0.abd 0)))))) true)/\f.gen 1=c/\f.box 1=some [sI a0.aba,sI a0.abd,sI a0.dv.aba,sL Ty.av a0.dv.abb,sL Tm.av a0.ek,sL Fm.av a0.fi,sL Pf.av a0.abb]/\f.gen 3=j/\f.box 3=some [sI i.ek,sI i.fi,sI i.abb,sB i.abd,sB i.pF]) (λK3 g=>?_) ?_
 ·rcases Pb L e with e|e;rotate_left
  ·simp[e];exact g _ _ ⟨1,1,by simp[e]⟩
  rcases Pb (eW (eM a0.ek) i.ek) e with e|e
  ·simp[e];exact g _ _ ⟨1,1,by simp[e]⟩
  rcases Pb (eW (eM a0.fi) i.fi) e with e|e
  ·simp[e];exact g _ _ ⟨1,1,by simp[e]⟩
  rcases Pb (eW (eM a0.abb) i.abb) e with e|e
  ·simp[e];exact g _ _ ⟨1,1,by simp[e]⟩
  rcases Pb (tW a0.abd 0) e with e|e
  ·simp[e];exact g _ _ ⟨1,1,by simp[e]⟩
  rcases Pb i.abd e with e|e
  ·simp[e];exact g _ _ ⟨1,1,by simp[e]⟩
  simp[e];exact g _ _ ⟨1,1,by simp[e]⟩
 rintro P h5 ⟨c,j,E⟩;have e:=Aj e E;rcases Io e m with⟨e,m⟩|⟨e,m⟩
 ·apply wg 999;cases m;simp[e]
 apply wg 3;simp[e];refine Wj m 999 999 (λM f h=>∃(B:Bool) (d:Nat),(h=H/\f.1 1=AV.eB 1 d 0/\f.1 76=sB B/\f.gen 1=d/\f.box 1=some [sI a0.aba,sI a0.abd,sI a0.dv.aba,sL Ty.av a0.dv.abb,sL Tm.av a0.ek,sL Fm.av a0.fi,sL Pf.av a0.abb])/\M B=some r) (λM K8 k m=>?_) ?_
 ·rcases Io e m with⟨e,m⟩|⟨e,m⟩;rotate_left
  ·have⟨C,e,m⟩:=ep e m;simp[e];refine Cf (uu e.2) ?_;simp[e];exact k _ _ ⟨(nC C),c,by simp[e],m⟩
  have⟨Q,e,m⟩:=ep e m;simp[e];refine Cf (pw e.2) ?_;rcases Io e m with⟨e,m⟩|⟨e,m⟩
  ·simp[e];exact k _ _ ⟨true,c,by simp[e],m⟩
  simp[e];exact k _ _ ⟨false,c,by simp[e],m⟩
 rintro N R ⟨B,d,E,m⟩;have e:=Aj e E;rcases Io e m with⟨e,m⟩|⟨e,m⟩
 ·cases m;simp[e]
 simp[e];refine Wr e m 999 (λl o f h=>∃(a:Nat),h=H/\f.1 1=AV.eB 1 a 0/\f.1 78=sL Tm.av a0.ek/\f.1 79=sI (eM a0.ek)/\f.1 80=sI l/\f.gen 1=a/\f.box 1=some [sI a0.aba,sI a0.abd,sI a0.dv.aba,sL Ty.av a0.dv.abb,sL Tm.av a0.ek,sL Fm.av a0.fi,sL Pf.av a0.abb]) ⟨d,by simp[e]⟩ (λo p D F E m=>?_) (λl S o p D F U V E e m z20 q=>?_);rotate_left
 ·have⟨a,E⟩:=E;have e:=Aj e E;have⟨W,e,m⟩:=ep e m;simp[e];refine Cf (tj e.2) ?_;rcases Io e m with⟨e,m⟩|⟨e,m⟩;rotate_left
  ·cases m;cases z20;simp[e]
  simp[e];cases m;exact q _ _ _ ⟨a,by simp[e]⟩ z20
 have⟨a,E⟩:=E;have e:=Aj e E;dsimp only[en]at m;simp[e];refine Wr e m 999 (λs t f h=>∃(b:Nat),h=H/\f.1 1=AV.eB 1 b 0/\f.1 89=sL Fm.av a0.fi/\f.1 90=sI (eM a0.fi)/\f.1 91=sI s/\f.gen 1=b/\f.box 1=some [sI a0.aba,sI a0.abd,sI a0.dv.aba,sL Ty.av a0.dv.abb,sL Tm.av a0.ek,sL Fm.av a0.fi,sL Pf.av a0.abb]) ⟨a,by simp[e]⟩ (λt u G I E m=>?_) (λs X t u G I Y Z E e m v w=>?_);rotate_left
 ·have⟨b,E⟩:=E;have e:=Aj e E;have⟨aa,e,m⟩:=ep e m;simp[e];refine Cf (AF e.2) ?_;rcases Io e m with⟨e,m⟩|⟨e,m⟩;rotate_left
  ·cases m;cases v;simp[e]
  simp[e];cases m;exact w _ _ _ ⟨b,by simp[e]⟩ v
 have⟨b,E⟩:=E;have e:=Aj e E;dsimp only[en]at m;simp[e];refine Wr e m 999 (λx y f h=>h=H/\f.1 100=sL Pf.av a0.abb/\f.1 101=sI (eM a0.abb)/\f.1 102=sI x) (by simp[e]) (λy z J K E m=>?_) (λx ab y z J K ad ae E e m z40 A=>?_)
 ·have e:=Aj e E;dsimp only[en]at m;cases m;simp[e]
 have e:=Aj e E;have⟨af,e,m⟩:=ep e m;simp[e];refine Cf (O e.2) ?_;rcases Io e m with⟨e,m⟩|⟨e,m⟩;rotate_left
 ·cases m;cases z40;simp[e]
 simp[e];cases m;exact A _ _ _ (by simp[e]) z40
def Ho{n:Nat}:C1 prog 159 (nE n) sB Pf.av:=(Gp n)
def GR:∀(n:Nat),C1 prog 175 (qh n) sB Pf.av:=by
  intro n
  induction n with
  |zero=>
    skip
    all_goals(intro _ _;intros;rename_i hm;cases hm)
  |succ n z=>
 intro T H a0 r hm;rw[qh] at hm;have e:=trivial;refine wi abf func175 [] [] 999 ?_;simp[e];refine Wr e hm 999 (λx s2 f h=>∃(b:Nat),h=H/\f.1 1=AV.eB 1 b 0/\f.1 10=sL Tm.av a0.ek/\f.1 11=sI (eM a0.ek)/\f.1 12=sI x/\f.gen 1=b/\f.box 1=some [sI a0.aba,sI a0.abd,sI a0.dv.aba,sL Ty.av a0.dv.abb,sL Tm.av a0.ek,sL Fm.av a0.fi,sL Pf.av a0.abb]) ⟨1,by simp[e]⟩ (λs2 q A B E m=>?_) (λx N s2 q A B n6 O E e m y s=>?_);rotate_left
 ·have⟨b,E⟩:=E;have e:=Aj e E;have⟨C,e,m⟩:=ep e m;simp[e];refine Cf (gY e.2) ?_;rcases Io e m with⟨e,m⟩|⟨e,m⟩
  ·cases m;cases y;simp[e]
  simp[e];cases m;exact s _ _ _ ⟨b,by simp[e]⟩ y
 have⟨b,E⟩:=E;have e:=Aj e E;dsimp only[en]at m;simp[e];refine Wr e m 999 (λc d f h=>∃(a:Nat),h=H/\f.1 1=AV.eB 1 a 0/\f.1 21=sL Fm.av a0.fi/\f.1 22=sI (eM a0.fi)/\f.1 23=sI c/\f.gen 1=a/\f.box 1=some [sI a0.aba,sI a0.abd,sI a0.dv.aba,sL Ty.av a0.dv.abb,sL Tm.av a0.ek,sL Fm.av a0.fi,sL Pf.av a0.abb]) ⟨b,by simp[e]⟩ (λd g t u E m=>?_) (λc D d g t u F G E e m i j=>?_);rotate_left
 ·have⟨a,E⟩:=E;have e:=Aj e E;have⟨I,e,m⟩:=ep e m;simp[e];refine Cf (tl e.2) ?_;rcases Io e m with⟨e,m⟩|⟨e,m⟩
  ·cases m;cases i;simp[e]
  simp[e];cases m;exact j _ _ _ ⟨a,by simp[e]⟩ i
 have⟨a,E⟩:=E;have e:=Aj e E;dsimp only[en]at m;simp[e];refine Wr e m 999 (λk l f h=>h=H/\f.1 32=sL Pf.av a0.abb/\f.1 33=sI (eM a0.abb)/\f.1 34=sI k) (by simp[e]) (λl o v w E m=>?_) (λk J l o v w K L E e m z28 p=>?_)
 ·have e:=Aj e E;dsimp only[en]at m;cases m;simp[e]
 have e:=Aj e E;have⟨M,e,m⟩:=ep e m;simp[e];refine Cf (z e.2) ?_;rcases Io e m with⟨e,m⟩|⟨e,m⟩;rotate_left
 ·cases m;cases z28;simp[e]
 simp[e];cases m;exact p _ _ _ (by simp[e]) z28
def Hu{n:Nat}:C1 prog 175 (qh n) sB Pf.av:=(GR n)
def FX:∀(n:Nat),C1 prog 120 (pU n) sI Pf.av:=by
  intro n
  induction n with
  |zero=>
   skip
   all_goals(intro _ _;intros;rename_i hm;cases hm)
  |succ n y=>
 intro T H a0 r hm;rw[pU] at hm;have e:=trivial;refine wi abf func120 [] [] 999 ?_;simp[e];refine Wr e hm 999 (λx s2 f h=>∃(b:Nat),h=H/\f.1 1=AV.eB 1 b 0/\f.1 3=sI s2/\f.1 11=sL Tm.av a0.ek/\f.1 12=sI (eM a0.ek)/\f.1 13=sI x/\f.gen 1=b/\f.box 1=some [sI a0.aba,sI a0.abd,sI a0.dv.aba,sL Ty.av a0.dv.abb,sL Tm.av a0.ek,sL Fm.av a0.fi,sL Pf.av a0.abb]) ⟨1,by simp[e]⟩ (λs2 p z A E m=>?_) (λx N s2 p z A n6 O E e m B q=>?_);rotate_left
 ·have⟨b,E⟩:=E;have e:=Aj e E;have⟨C,e,m⟩:=ep e m;simp[e];refine Cf (gY e.2) ?_;simp[e];cases m;exact q _ _ _ ⟨b,by simp[e]⟩ B
 have⟨b,E⟩:=E;have e:=Aj e E;dsimp only[en]at m;simp[e];refine Wr e m 999 (λg c f h=>∃(a:Nat),h=H/\f.1 1=AV.eB 1 a 0/\f.1 3=sI c/\f.1 23=sL Fm.av a0.fi/\f.1 24=sI (eM a0.fi)/\f.1 25=sI g/\f.gen 1=a/\f.box 1=some [sI a0.aba,sI a0.abd,sI a0.dv.aba,sL Ty.av a0.dv.abb,sL Tm.av a0.ek,sL Fm.av a0.fi,sL Pf.av a0.abb]) ⟨b,by simp[e]⟩ (λc i s t E m=>?_) (λg D c i s t F G E e m u j=>?_);rotate_left
 ·have⟨a,E⟩:=E;have e:=Aj e E;have⟨I,e,m⟩:=ep e m;simp[e];refine Cf (tl e.2) ?_;simp[e];cases m;exact j _ _ _ ⟨a,by simp[e]⟩ u
 have⟨a,E⟩:=E;have e:=Aj e E;dsimp only[en]at m;simp[e];refine Wr e m 999 (λk d f h=>h=H/\f.1 3=sI d/\f.1 35=sL Pf.av a0.abb/\f.1 36=sI (eM a0.abb)/\f.1 37=sI k) (by simp[e]) (λd l v w E m=>?_) (λk J d l v w K L E e m z28 o=>?_)
 ·have e:=Aj e E;dsimp only[en]at m;cases m;simp[e]
 have e:=Aj e E;have⟨M,e,m⟩:=ep e m;simp[e];refine Cf (y e.2) ?_;simp[e];cases m;exact o _ _ _ (by simp[e]) z28
def HG{n:Nat}:C1 prog 120 (pU n) sI Pf.av:=(FX n)
def BM:C1 prog 123 s_ sB Pf.av:=by
 intro T H a0 r hm;rw[s_] at hm;have e:=trivial;refine wi abf func123 [] [] 2 ?_;simp[e];refine Wj hm 999 999 (λb f h=>∃(v2:Bool),(h=H/\f.1 2=sB v2)/\b v2=some r) (λb g a m=>?_) ?_;rotate_left
 ·rintro c i ⟨v2,E,m⟩;have e:=Aj e E;cases m;simp[e]
 have⟨j,e,m⟩:=ep e m;simp[e];refine Cf (Hu e.2) ?_;rcases Io e m with⟨e,m⟩|⟨e,m⟩;rotate_left
 ·simp[e];exact a _ _ ⟨false,by simp[e],m⟩
 have⟨d,e,m⟩:=ep e m;simp[e];refine Cf (HG e.2) ?_;simp[e];exact a _ _ ⟨(Jx d 16384),by simp[e],m⟩
def Ax:C1 prog 85 rJ sI Pf.av:=by
 intro T H a0 r hm;rw[rJ] at hm;have e:=trivial;refine wi abf func85 [] [] 999 ?_;have⟨a,e,m⟩:=ep e hm;simp[e];refine Cf (Ho e.2) ?_;rcases Io e m with⟨e,m⟩|⟨e,m⟩;rotate_left
 ·cases m;simp[e]
 have⟨b,e,m⟩:=ep e m;simp[e];refine Cf (BM e.2) ?_;rcases Io e m with⟨e,m⟩|⟨e,m⟩
 ·cases m;simp[e]
 cases m;simp[e]
def Po:su prog 109=true:=by kernel_rfl
def aan(fr:Fr)(L:List Int):Prop:=
 (L=[]/\fr.env 3=.slice .full [])\/∃cap,fr.env 3=.we 17 (fr.gen 17) L.length cap/\fr.box 17=some (tu (λn=>AV.sc (Value.int .i64 n)) L ((cap-L.length)*1))/\L.length<=cap
def zv(T:fg){H:eD}{a0:List (Int×Bool)}{r0:List Int}{af:List (Int×Bool)}{s:Nat}(E:H[s]?=some [sM (λb=>AV.sc (Value.bool b)) a0])(hm:qK a0=some (r0,af)):e9 prog T 109 [AV.nZ s] H (AV.slice .iN (List.map (λn=>AV.sc (Value.int .i64 n)) r0)) (gj H s [sM (λb=>AV.sc (Value.bool b)) af]):=by
 unfold qK at hm;have⟨az,hm⟩:=mV hm;have⟨S,hm⟩:=mV hm;have ah:=f_ E;simp only[sH,FJ] at hm;have⟨e1,e2⟩:=hm;subst e2;rw[IZ E]
 have S:(a0.map (·.1)).Nodup:=by simpa[xg] using S
 refine fH.tY (Post:=λx K=>x=AV.slice .iN (List.map (λn=>AV.sc (Value.int .i64 n)) r0)/\∃X,K=H++X) ?_ (λ_ _ h=>⟨_,h.2.choose_spec,by rw[h.1];simp[AV.low,AV.jf],h.1,rfl⟩);refine fH.intro (fn:=f109) func109 rfl Po (R3 rfl) ?_;refine gI.sr [] λK1 F=>?_;simp;apply F;refine gI.sr [] λK1 F=>?_;simp;apply F;refine gI.tR λK1 F=>?_;refine gI.sr [] λK2 aA=>?_;simp[GY,E,sM];apply aA;refine gI.yY λQ nn ex x r=>?_
 refine gI.Lt (λm fr h=>∃(seen:List Nat) (L:List Int),m=GC a0.length seen/\L.length+m<=a0.length/\Bk L/\(∀x,x∈L↔∃j∈seen,∃p,a0[j]?=some p/\p.1=x)/\H++[[.nb s a0.length seen]]=h/\fr.env 7=.fE H.length 0/\aan fr L) a0.length ?_ ?_
 ·exact⟨[],[],(Ny _).symm,by simp,.nil,by simp,by simp,rfl,.inl ⟨rfl,rfl⟩⟩
 rintro m fr h ⟨seen,L,aB,aP,hA,hL,rfl,G,hs⟩ K3 aC
 have hi:(H++[[AV.nb s a0.length seen]])[H.length]?=some [AV.nb s a0.length seen]:=by simp
 have ho:(H++[[AV.nb s a0.length seen]])[s]?=some [sM (λb=>AV.sc (Value.bool b)) a0]:=by simp[ah,E]
 refine gI.sr [] λK4 ai=>?_;simp only[OI,ev,G];refine Ng a0 hi ho (λaj=>?_) (λj p U hj=>?_)
 ·--aQ end
  simp;apply ai;refine gI.tR λK5 ak=>?_;refine gI.tM λA B ga V=>?_;simp;apply V;refine gI.exit ?_;apply ex;apply F
  have hr:yj [] (a0.map (·.1))=L:=by
   refine Bk.eq (zI _ [] .nil S (by simp)) hA λx=>?_;rw[zO,hL];simp only[w4,false_or,od];constructor
   ·rintro⟨p,U,rfl⟩;have⟨j,hj⟩:=TF.1 U;exact⟨j,aj j (pG.1 hj).1,p,hj,rfl⟩
   ·rintro⟨j,_,p,U,rfl⟩;exact⟨p,Dc U,rfl⟩
  rw[hr] at e1;subst e1;rcases hs with⟨rfl,l⟩|⟨cap,l,e,hle⟩
  ·refine gI.sr [] λK6 q=>?_;simp[l];apply q;refine gI.ret ?_;simp[vu,l]
  ·refine gI.Zy 3 (f:=λn=>AV.sc (Value.int .i64 n)) (L:=L) (k:=(cap-L.length)*1) (sz:=1) (d:=17) (g:=fr.gen 17) (cap:=cap) (by intro x;simp) (by intro x;simp) (by simp[l]) (by simp) (by simp[e]) ?_;refine gI.sr [] λK6 q=>?_;simp;apply q;refine gI.ret ?_;simp[vu]
 have al:j<a0.length:=(pG.1 U).1;have aD:=Pe al hj
 have aE:(H++[[AV.nb s a0.length (seen++[j])]])[H.length]?=some [AV.nb s a0.length (seen++[j])]:=by simp
 have aF:(H++[[AV.nb s a0.length (seen++[j])]])[s]?=some [sM (λb=>AV.sc (Value.bool b)) a0]:=by simp[ah,E]
 have gj:gj (H++[[AV.nb s a0.length seen]]) H.length [AV.nb s a0.length (seen++[j])]=H++[[AV.nb s a0.length (seen++[j])]]:=by simp
 rw[gj];have an:=Lw (f:=λb=>AV.sc (Value.bool b)) a0 aE aF U
 have ab:p.1∉L:=by
  rw[hL];rintro⟨j',aG,p',aH,he⟩
  have h1:(a0.map (·.1))[j]?=some p.1:=by rw[ur,U];rfl
  have h2:(a0.map (·.1))[j']?=some p.1:=by rw[ur,aH];simp[he]
  have:j=j':=by
   have aI:j<(a0.map (·.1)).length:=by simpa using al
   exact(List.getElem?_inj aI S).1 (h1.trans h2.symm)
  subst this;exact hj aG
 have aO:a0.length<=Kw:=Mh az;simp;apply ai;refine gI.tR λK5 ak=>?_;refine gI.tM λA B ga V=>?_;simp;apply ga;refine gI.skip ?_;apply ak;refine gI.yY λQ1 aJ aR x1 r1=>?_;refine gI.sr [] λK6 q=>?_;simp[G,an];apply q;refine gI.sr [] λK6 q=>?_
 have hlen:∃y,fr.env 3=y/\Ib prog 22 y=some (.sc (.int .i64 L.length)):=by
  rcases hs with⟨rfl,l⟩|⟨cap,l,e,hle⟩
  ·exact⟨_,l,by simp⟩
  ·exact⟨_,l,by simp⟩
 have⟨y,hy,ao⟩:=hlen;simp[hy,ao];apply q
 refine gI.Y1 (λfr h=>H++[[.nb s a0.length (seen++[j])]]=h/\fr.env 7=.fE H.length 0/\fr.env 4=.sc (.int .i64 p.1)/\fr.env 5=.sc (.int .i64 (L.length:Int))/\∃cap,fr.env 3=.we 17 (fr.gen 17) (L.length+1) cap/\fr.box 17=some (tu (λn=>AV.sc (Value.int .i64 n)) (L.take L.length++p.1::L.drop L.length) ((cap-(L.length+1))*1))/\L.length+1<=cap) (λK6 q=>?_) ?_
 ·refine gI.region [] (by decide+kernel) ?_
  have aq:gv L [p.1]=L.take L.length++p.1::L.drop L.length:=by simp[gv]
  have aS:(gv L [p.1]).length=L.length+1:=by simp[gv]
  rcases hs with⟨rfl,l⟩|⟨cap,l,e,hle⟩
  ·simp[l];refine si.Wo (f:=λn=>AV.sc (Value.int .i64 n)) [p.1] PL ⟨_,Ug⟩ (by intro x;simp) (by simp[yl,Kw]) rfl (by first|rfl|simp) λcap B8=>?_;simp;apply q;refine⟨rfl,?_,?_,?_,cap,?_,?_,by simpa using B8⟩<;>simp[G]
  ·simp[l];refine si.mh (f:=λn=>AV.sc (Value.int .i64 n)) L [p.1] (cap:=cap) PL ⟨_,Ug⟩ (by intro x;simp) (by simp[gf];omega) (by simp) rfl (by first|rfl|simp) (by simp[e]) hle λg' ar B8=>?_;rw[aq] at B8;simp only[aq];simp;apply q;refine⟨rfl,?_,?_,?_,ar,?_,?_,by simpa using B8⟩<;>simp[G]
 rintro aT h6 ⟨rfl,f7,f4,f5,cap,f3,f17,au⟩
 refine gI.Y1 (λfr h=>H++[[.nb s a0.length (seen++[j])]]=h/\fr.env 7=.fE H.length 0/\fr.env 4=.sc (.int .i64 p.1)/\∃(i:Nat) (z:Int),fr.env 5=.sc (.int .i64 (i:Int))/\i<=L.length/\(∀a∈L.drop i,a>p.1)/\(i=0\/∃a,L[i-1]?=some a/\¬a>p.1)/\∃cap,fr.env 3=.we 17 (fr.gen 17) (L.length+1) cap/\fr.box 17=some (tu (λn=>AV.sc (Value.int .i64 n)) (L.take i++z::L.drop i) ((cap-(L.length+1))*1))/\L.length+1<=cap) (λK7 aK=>?_) ?_
 ·refine gI.yY λQ2 aU aw x2 r2=>?_
  refine gI.Lt (λi fr h=>H++[[.nb s a0.length (seen++[j])]]=h/\fr.env 7=.fE H.length 0/\fr.env 4=.sc (.int .i64 p.1)/\∃(z:Int),fr.env 5=.sc (.int .i64 (i:Int))/\i<=L.length/\(∀a∈L.drop i,a>p.1)/\∃cap,fr.env 3=.we 17 (fr.gen 17) (L.length+1) cap/\fr.box 17=some (tu (λn=>AV.sc (Value.int .i64 n)) (L.take i++z::L.drop i) ((cap-(L.length+1))*1))/\L.length+1<=cap) L.length ?_ ?_
  ·exact⟨rfl,f7,f4,p.1,f5,jh _,by simp,cap,f3,f17,au⟩
  clear f7 f4 f5 f3 f17 au hy ao G hs;rintro i fr h ⟨rfl,G,e4,z,R,w,I,cap,l,e,hle⟩ K8 aL
  have stop:∀fr':Fr,fr'.env 7=.fE H.length 0->fr'.env 4=.sc (.int .i64 p.1)->fr'.env 5=.sc (.int .i64 (i:Int))->fr'.env 3=fr.env 3->fr'.gen=fr.gen->fr'.box=fr.box->(i=0\/∃a,L[i-1]?=some a/\¬a>p.1)->K7 fr' (H++[[.nb s a0.length (seen++[j])]]):=by
   intro fr' g7 g4 g5 g3 gg V W;exact aK _ _ ⟨rfl,g7,g4,i,z,g5,w,I,W,cap,by rw[g3,l,gg],by rw[V,e],hle⟩
  refine gI.tR λK9 aM=>?_;refine gI.sr [] λaV Y=>?_;obtain⟨c,D⟩:∃c:Int,c=(i:Int):=⟨_,rfl⟩;rw[<-D] at R;cases i with
  |zero=>
   have W:nS c 0=false:=by rw[D];decide
   simp[R,W];apply Y;refine gI.tM λA B ga V=>?_;simp;apply V;refine gI.exit ?_;apply aw;refine stop _ ?_ ?_ ?_ ?_ ?_ ?_ (.inl rfl)<;>simp[G,e4,R,D]
  |succ i=>
   have W:nS c 0=true:=by rw[D];simp[nS]
   obtain⟨Z,ad⟩:∃Z:Int,Z=(i:Int):=⟨_,rfl⟩
   have J:fB .i64 c 1=Z:=by rw[D,ad];exact Rs (by omega)
   obtain⟨x,hx⟩:∃x,L[i]?=some x:=⟨_,pW (by omega)⟩
   have C:(L.take (i+1)++z::L.drop (i+1)).length=L.length+1:=by simp;omega
   have aa:eI (L.take (i+1)++z::L.drop (i+1)) Z=some x:=by
    unfold eI;rw[ee (by omega),ad,As,tD (by rw[yq];omega),HW,ee (by omega),hx]
   have O:0<=Z/\Z<((L.length+1:Nat):Int):=by omega
   have o:0<=c/\c<((L.length+1:Nat):Int):=by omega
   have ae:=LL (P:=prog) (t:=3) (f:=λn=>AV.sc (Value.int .i64 n)) (k:=(cap-(L.length+1))*1) Sn (by intro x;simp) aa;generalize hM:L.take (i+1)++z::L.drop (i+1)=M at e C aa ae;generalize hN:L.length+1=N at l e hle C O o ae
   have ax:∀fr':Fr,fr'.gen 17=fr.gen 17->fr'.box 17=fr.box 17->ua prog fr' (H++[[AV.nb s a0.length (seen++[j])]]) 3 (.eB 17 (fr.gen 17) (LR Z.toNat 1))=some (.sc (.int .i64 x)):=by
    intro fr' g1 g2;show(if fr.gen 17=fr'.gen 17 then(match fr'.box 17 with|some cs=>mY prog 3 cs (LR Z.toNat 1)|none=>none)else none)=_;rw[ee g1.symm,g2,e];exact ae
   simp[R,l,W,J,O,ax,e4,-ua];apply Y;have aW:M.length=N:=C
   have u:eI M c=some z:=by
    unfold eI;rw[ee (by omega),D,As,<-hM,xI (by simp;omega)];simp[yq,show min (i+1) L.length=i+1 from by omega]
   have v:wV M c x=L.take i++x::L.drop i:=by
    have hd:L.drop i=x::L.drop (i+1):=by
     rw[Lm (by omega:i<L.length)]
     congr 1
     exact(pG.1 hx).2
    have ht:L.take (i+1)=L.take i++[x]:=by rw[VR,hx];rfl
    unfold wV;rw[D,As,<-hM,hd,Zx _ _ (by simp;omega)];rw[yq,show min (i+1) L.length=i+1 from by omega,RN,Y_,ht,ux];rfl
   refine gI.tM λA B ga V=>?_;rcases Bool.eq_false_or_eq_true (nS x p.1)with hgx|hgx
   ·simp[hgx];apply ga;refine gI.skip ?_;apply aM;refine gI.yY λQ3 aN aX x3 r3=>?_;refine gI.sr [] λaY ay=>?_;simp[R,l,J,O,o,ax,e4,-ua];refine yL.arr (f:=λn=>AV.sc (Value.int .i64 n)) (L:=M) (k:=(cap-N)*1) x Sn (by intro x;simp) (by simp) (x:=z) u (by simp) (by simp[e]) (by simp) ?_;simp;apply ay;refine gI.region [] (by decide+kernel) ?_;simp[R,J];apply aN;rw[v];refine aL _ _ i (QB _) ⟨rfl,?_,?_,x,?_,by omega,?_,cap,?_,?_,by rw[hN];exact hle⟩
    ·simp[G]
    ·simp[e4]
    ·simp[ad]
    ·intro a ha
     have hd:L.drop i=x::L.drop (i+1):=by
      rw[Lm (by omega:i<L.length)]
      congr 1
      exact(pG.1 hx).2
     rw[hd] at ha;rcases lF.1 ha with rfl|ha
     ·simpa[nS] using hgx
     ·exact I a ha
    ·simp[l,hN]
    ·simp[hN]
   ·simp[hgx];apply V;refine gI.exit ?_;apply aw;refine stop _ ?_ ?_ ?_ ?_ ?_ ?_ (.inr ⟨x,by simpa using hx,by simpa[nS] using hgx⟩)<;>simp[G,e4,R,l,D]
 rintro fr h ⟨rfl,G,e4,i,z,R,w,I,W,cap,l,e,hle⟩;refine gI.region [] (by decide+kernel) ?_;obtain⟨c,D⟩:∃c:Int,c=(i:Int):=⟨_,rfl⟩;rw[<-D] at R
 have C:(L.take i++z::L.drop i).length=L.length+1:=by simp;omega
 have u:eI (L.take i++z::L.drop i) c=some z:=by
  unfold eI;rw[ee (by omega),D,As,xI (by simp;omega)];simp[yq,Qh w]
 have v:wV (L.take i++z::L.drop i) c p.1=A6 p.1 L:=by
  rw[Mx L i hA ab w I W];unfold wV;rw[D,As,Zx _ _ (by simp;omega),yq,Qh w,RN,Y_]
 have o:0<=c/\c<((L.length+1:Nat):Int):=by omega
 have hlen:(A6 p.1 L).length=L.length+1:=by rw[Mx L i hA ab w I W];simp;omega
 generalize hM:L.take i++z::L.drop i=M at e C u v;generalize hN:L.length+1=N at l e hle C o hlen;simp[R,l,e4,o];refine yL.arr (f:=λn=>AV.sc (Value.int .i64 n)) (L:=M) (k:=(cap-N)*1) p.1 Sn (by intro x;simp) (by simp) (x:=z) u (by simp) (by simp[e]) (by simp) ?_;simp;apply aJ;rw[v];refine aC _ _ _ (by rw[aB];exact aD) ⟨seen++[j],A6 p.1 L,rfl,by omega,Gu p.1 L ab hA,?_,rfl,?_,.inr ⟨cap,?_,?_,by rw[hlen];exact hle⟩⟩
 ·intro x;rw[zc,hL];constructor
  ·rintro(rfl|⟨j',h1,p',h2,h3⟩)
   ·exact⟨j,by simp,p,U,rfl⟩
   ·exact⟨j',by simp[h1],p',h2,h3⟩
  ·rintro⟨j',h1,p',h2,h3⟩;rcases sy.1 h1 with h1|h1
   ·exact .inr ⟨j',h1,p',h2,h3⟩
   ·simp only[xG] at h1;subst h1;rw[U] at h2;obtain rfl:=iw h2;exact .inl h3.symm
 ·simp[G]
 ·simp[l,hlen]
 ·simp[hlen]
def lx(T:fg){H:eD}{a0 a1 g:List Int}(hm:gK a0 a1=some g):e9 prog T 217 [sL sI a0,sL sI a1] H (sL sI g) H:=by
 rw[gK] at hm;refine fH.tY (Post:=λx K=>x=sL sI g/\∃X,K=H++X) ?_ (λ_ _ h=>⟨_,h.2.choose_spec,by rw[h.1];simp[AV.low,AV.jf],h.1,rfl⟩);have e:=trivial;refine wi abf func217 [] [] 999 ?_;simp[e];refine Wr e hm 999 (λo s2 f h=>h=H++[[sM sB s2]]/\f.1 1=sL sI a1/\f.1 5=AV.nZ (List.length H)/\f.1 11=sL sI a0/\f.1 12=sI (eM a0)/\f.1 13=sI o) (by simp[e]) (λs2 i p q E m=>?_) (λo w s2 i p q n6 y E e m r j=>?_);rotate_left
 ·have e:=Aj e E;simp[e];refine tP.i64 (f:=sB) s2 true MD uc (by simp[e]) (by simp[e]) ?_;simp[e];cases m;exact j _ _ _ (by simp[e]) r
 have e:=Aj e E;dsimp only[en]at m;simp[e];refine Wr e m 999 (λb a f h=>h=H++[[sM sB a]]/\f.1 5=AV.nZ (List.length H)/\f.1 20=sL sI a1/\f.1 21=sI (eM a1)/\f.1 22=sI b) (by simp[e]) (λa c k l E m=>?_) (λb s a c k l t u E e m n d=>?_)
 ·have e:=Aj e E;dsimp only[en]at m;have⟨v,d20,e,m⟩:=gq e m;simp[e];refine Cf (zv T (by simp[e]) e.2) ?_;cases m;simp[e]
 have e:=Aj e E;simp[e];refine tP.i64 (f:=sB) a true MD uc (by simp[e]) (by simp[e]) ?_;simp[e];cases m;exact d _ _ _ (by simp[e]) n
def lI:C3 prog 218 eT sI ej.av sI sI:=by
 intro T H a0 a1 a2 r hm;rw[eT] at hm;have e:=trivial;refine wi abf func218 [] [] 3 ?_;simp[e];refine wj 999 999 (λf h=>h=H/\f.1 20=sB (fU (nS (fj .i64 (eM a0.abe) a1) 16) true (nS (fj .i64 (eM a0.abh) a2) 16))) (λc a=>?_) ?_;rotate_left
 ·rintro b d E;have e:=Aj e E;rcases Io e hm with⟨e,m⟩|⟨e,m⟩
  ·cases m;simp[e]
  cases m;simp[e]
 rcases Pb (nS (fj .i64 (eM a0.abe) a1) 16) e with e|e
 ·simp[e];exact a _ _ (by simp[e])
 simp[e];exact a _ _ (by simp[e])
def nB:C2 prog 219 gE ej.av ej.av Fm.av:=by
 intro T H a0 a1 r hm;rw[gE] at hm;have e:=trivial;refine wi abf func219 [] [] 999 ?_;have⟨e,m⟩:=Ck e hm;simp[e];refine Ad (f:=Fm.av) a0.abh [a1] (iM.full (D:=[])) Cl e.2 ?_;cases m;simp[e]
def Fi:∀(n:Nat),C2 prog 114 (kZ n) sB Tm.av sI:=by
  intro n
  induction n with
  |zero=>
   skip
   all_goals(intro _ _;intros;rename_i hm;cases hm)
  |succ n g=>
 intro T H a0 a1 r hm;rw[kZ] at hm;have e:=trivial;refine wi abf func114 [] [] 999 ?_;rcases Io e hm with⟨e,m⟩|⟨e,m⟩
 ·cases m;simp[e]
 simp[e];refine Wr e m 999 (λc s2 f h=>h=H/\f.1 1=sI a1/\f.1 12=sL Tm.av a0.abb/\f.1 13=sI (eM a0.abb)/\f.1 14=sI c) (by simp[e]) (λs2 a i j E m=>?_) (λc l s2 a i j n6 o E e m d b=>?_)
 ·have e:=Aj e E;dsimp only[en]at m;cases m;simp[e]
 have e:=Aj e E;have⟨k,e,m⟩:=ep e m;simp[e];refine Cf (g e.2) ?_;rcases Io e m with⟨e,m⟩|⟨e,m⟩;rotate_left
 ·cases m;cases d;simp[e]
 simp[e];cases m;exact b _ _ _ (by simp[e]) d
def wA{n:Nat}:C2 prog 114 (kZ n) sB Tm.av sI:=(Fi n)
def Kq:C1 prog 289 uX sB Tm.av:=by
 intro T H a0 r hm;rw[uX] at hm;have e:=trivial;refine wi abf func289 [] [] 8 ?_;simp[e];rcases Io e hm with⟨e,m⟩|⟨e,m⟩
 ·apply wg 999;have⟨v,e,m⟩:=ep e m;cases m;simp[e]
 apply wg 3;simp[e];rcases Io e m with⟨e,m⟩|⟨e,m⟩
 ·apply wg 1;simp[e];refine Wj m 999 999 (λi f h=>∃(v3:Bool),(h=H/\f.1 2=sB v3)/\i v3=some r) (λi w d m=>?_) ?_;rotate_left
  ·rintro n x ⟨v3,E,m⟩;have e:=Aj e E;cases m;simp[e]
  have⟨o,e,m⟩:=ep e m;rcases Io e m with⟨e,m⟩|⟨e,m⟩
  ·simp[e];exact d _ _ ⟨true,by simp[e],m⟩
  simp[e];exact d _ _ ⟨(eH o.aba 5),by simp[e],m⟩
 apply wg 4;rcases Io e m with⟨e,m⟩|⟨e,m⟩
 ·simp[e];refine Wj m 999 999 (λj f h=>∃(v9:Bool),(h=H/\f.1 2=sB v9)/\j v9=some r) (λj p b m=>?_) ?_;rotate_left
  ·rintro k q ⟨v9,E,m⟩;have e:=Aj e E;cases m;simp[e]
  have⟨g,e,m⟩:=ep e m;rcases Io e m with⟨e,m⟩|⟨e,m⟩
  ·simp[e];exact b _ _ ⟨true,by simp[e],m⟩
  simp[e];exact b _ _ ⟨(eH g.aba 8),by simp[e],m⟩
 simp[e];refine wj 999 999 (λf h=>∃(a:Nat),h=H/\f.1 1=AV.eB 1 a 0/\f.1 45=sB (fU (eH a0.aba 11) true (eH a0.aba 12))/\f.gen 1=a/\f.box 1=some [sI a0.aba,sI a0.abd,sI a0.dv.aba,sL Ty.av a0.dv.abb,sL Tm.av a0.abb]) (λs c=>?_) ?_
 ·rcases Pb (eH a0.aba 11) e with e|e
  ·simp[e];exact c _ _ ⟨1,by simp[e]⟩
  simp[e];exact c _ _ ⟨1,by simp[e]⟩
 rintro l t ⟨a,E⟩;have e:=Aj e E;rcases Io e m with⟨e,m⟩|⟨e,m⟩;rotate_left
 ·cases m;simp[e]
 have⟨u,e,m⟩:=ep e m;cases m;simp[e]
def qS:C1 prog 161 lN sI Tm.av:=by
 intro T H a0 r hm;rw[lN] at hm;have e:=trivial;refine wi abf func161 [] [] 999 ?_;rcases Io e hm with⟨e,m⟩|⟨e,m⟩
 ·cases m;simp[e]
 cases m;simp[e]
def Fj:∀(n:Nat),C2 prog 173 (mz n) sI Tm.av sI:=by
  intro n
  induction n with
  |zero=>
    skip
    all_goals(intro _ _;intros;rename_i hm;cases hm)
  |succ n q=>
 intro T H a0 a1 r hm;rw[mz] at hm;have e:=trivial;refine wi abf func173 [] [] 4 ?_;simp[e];refine wj 0 999 (λf h=>∃(c:Nat),h=H/\f.1 1=sI a1/\f.1 2=AV.eB 2 c 0/\f.1 5=sI (fU (fU (eH a0.aba 1) (eH a0.abd a1) false) (fj .i64 0 1) 0)/\f.gen 2=c/\f.box 2=some [sI a0.aba,sI a0.abd,sI a0.dv.aba,sL Ty.av a0.dv.abb,sL Tm.av a0.abb]) (λA d=>?_) ?_
 ·refine wj 999 999 (λf h=>∃(a:Nat),h=H/\f.1 1=sI a1/\f.1 2=AV.eB 2 a 0/\f.1 5=sI 0/\f.1 16=sB (fU (eH a0.aba 1) (eH a0.abd a1) false)/\f.gen 2=a/\f.box 2=some [sI a0.aba,sI a0.abd,sI a0.dv.aba,sL Ty.av a0.dv.abb,sL Tm.av a0.abb]) (λB g=>?_) ?_
  ·rcases Pb (eH a0.aba 1) e with e|e
   ·simp[e];exact g _ _ ⟨1,by simp[e]⟩
   simp[e];exact g _ _ ⟨1,by simp[e]⟩
  rintro s C ⟨a,E⟩;have e:=Aj e E;rcases Pb (fU (eH a0.aba 1) (eH a0.abd a1) false) e with e|e
  ·simp[e];exact d _ _ ⟨a,by simp[e]⟩
  simp[e];exact d _ _ ⟨a,by simp[e]⟩
 rintro t D ⟨c,E⟩;have e:=Aj e E;simp[e];refine Wr e hm 999 (λp j f h=>∃(b:Nat),h=H/\f.1 1=sI a1/\f.1 2=AV.eB 2 b 0/\f.1 5=sI j/\f.1 20=sL Tm.av a0.abb/\f.1 21=sI (eM a0.abb)/\f.1 22=sI p/\f.gen 2=b/\f.box 2=some [sI a0.aba,sI a0.abd,sI a0.dv.aba,sL Ty.av a0.dv.abb,sL Tm.av a0.abb]) ⟨c,by simp[e]⟩ (λj k u l E m=>?_) (λp v j k u l w x E e m o i=>?_)
 ·have⟨b,E⟩:=E;have e:=Aj e E;dsimp only[en]at m;cases m;simp[e]
 have⟨b,E⟩:=E;have e:=Aj e E;have⟨y,e,m⟩:=ep e m;simp[e];refine Cs (qS e.2) ?_;have⟨z,e,m⟩:=ep e m;simp[e];refine Cs (q e.2) ?_;simp[e];cases m;exact i _ _ _ ⟨b,by simp[e]⟩ o
def AP{n:Nat}:C2 prog 173 (mz n) sI Tm.av sI:=(Fj n)
def F4:C1 prog 290 sm sI Tm.av:=by
 intro T H a0 r hm;rw[sm] at hm;have e:=trivial;refine wi abf func290 [] [] 999 ?_;have⟨y,e,m⟩:=ep e hm;simp[e];refine Cf (gY e.2) ?_;rcases Io e m with⟨e,m⟩|⟨e,m⟩
 ·have⟨z,e,m⟩:=ep e m;have⟨A,e,m⟩:=ep e m;have⟨B,e,m⟩:=ep e m;have⟨C,e,m⟩:=ep e m;simp[e];refine Cs (gY e.2) ?_;have⟨D,e,m⟩:=ep e m;simp[e];refine Cs (AP e.2) ?_;have⟨E,e,m⟩:=ep e m;simp[e];refine Cs (gY e.2) ?_;cases m;simp[e]
 rcases Io e m with⟨e,m⟩|⟨e,m⟩
 ·have⟨F,e,m⟩:=ep e m;rcases Io e m with⟨e,m⟩|⟨e,m⟩
  ·have⟨G,e,m⟩:=ep e m;have⟨a,e,m⟩:=ep e m;simp[e];refine Cf (gY e.2) ?_;cases m;simp[e]
  have⟨b,e,m⟩:=ep e m;have⟨c,e,m⟩:=ep e m;simp[e];refine Cs (gY e.2) ?_;have⟨d,e,m⟩:=ep e m;have⟨f,e,m⟩:=ep e m;simp[e];refine Cs (gY e.2) ?_;cases m;simp[e]
 rcases Io e m with⟨e,m⟩|⟨e,m⟩;rotate_left
 ·rcases Io e m with⟨e,m⟩|⟨e,m⟩
  ·have⟨g,e,m⟩:=ep e m;have⟨h,e,m⟩:=ep e m;have⟨i,e,m⟩:=ep e m;simp[e];refine Cf (gY e.2) ?_;cases m;simp[e]
  have⟨j,e,m⟩:=ep e m;have⟨k,e,m⟩:=ep e m;have⟨l,e,m⟩:=ep e m;simp[e];refine Cf (gY e.2) ?_;cases m;simp[e]
 have⟨n,e,m⟩:=ep e m;rcases Io e m with⟨e,m⟩|⟨e,m⟩
 ·have⟨o,e,m⟩:=ep e m;have⟨p,e,m⟩:=ep e m;simp[e];refine Cf (gY e.2) ?_;cases m;simp[e]
 have⟨q,e,m⟩:=ep e m;have⟨s,e,m⟩:=ep e m;have⟨t,e,m⟩:=ep e m;have⟨u,e,m⟩:=ep e m;simp[e];refine Cs (gY e.2) ?_;have⟨v,e,m⟩:=ep e m;simp[e];refine Cs (gY e.2) ?_;have⟨w,e,m⟩:=ep e m;simp[e];refine Cs (gY e.2) ?_;have⟨x,e,m⟩:=ep e m;simp[e];refine Cs (gY e.2) ?_;cases m;simp[e]
def KK:∀(n:Nat),C3 prog 90 (qg n) Tm.av Tm.av sI sI:=by
  intro n
  induction n with
  |zero=>
    skip
    all_goals(intro _ _;intros;rename_i hm;cases hm)
  |succ n A=>
 intro T H a0 a1 a2 r hm;rw[qg] at hm;have e:=trivial;refine wi abf func90 [] [] 4 ?_;simp[e];refine wj 0 999 (λf h=>∃(k:Nat) (l:Nat) (o:Nat),h=H/\f.1 1=sI a1/\f.1 2=sI a2/\f.1 3=AV.eB 3 k 0/\f.1 6=AV.eB 6 l 0/\f.1 7=AV.eB 7 o 0/\f.gen 3=k/\f.box 3=some [sI a0.aba,sI a0.abd,sI a0.dv.aba,sL Ty.av a0.dv.abb,sL Tm.av a0.abb]/\f.gen 6=l/\f.box 6=some [sI 0,sI 0,sI 0,AV.slice .full [],AV.slice .full []]/\f.gen 7=o/\f.box 7=some [sI a0.aba,sI (fU (fU (eH a0.aba 1) (tq a0.abd a1) false) (fj .i64 a0.abd a2) a0.abd),sI a0.dv.aba,sL Ty.av a0.dv.abb,AV.slice .full []]) (λK q=>?_) ?_
 ·refine wj 999 999 (λf h=>∃(b:Nat) (c:Nat) (d:Nat),h=H/\f.1 1=sI a1/\f.1 2=sI a2/\f.1 3=AV.eB 3 b 0/\f.1 6=AV.eB 6 c 0/\f.1 7=AV.eB 7 d 0/\f.1 25=sB (fU (eH a0.aba 1) (tq a0.abd a1) false)/\f.gen 3=b/\f.box 3=some [sI a0.aba,sI a0.abd,sI a0.dv.aba,sL Ty.av a0.dv.abb,sL Tm.av a0.abb]/\f.gen 6=c/\f.box 6=some [sI 0,sI 0,sI 0,AV.slice .full [],AV.slice .full []]/\f.gen 7=d/\f.box 7=some [sI a0.aba,sI a0.abd,sI a0.dv.aba,sL Ty.av a0.dv.abb,AV.slice .full []]) (λL s=>?_) ?_
  ·rcases Pb (eH a0.aba 1) e with e|e
   ·simp[e];exact s _ _ ⟨1,1,1,by simp[e]⟩
   simp[e];exact s _ _ ⟨1,1,1,by simp[e]⟩
  rintro B M ⟨b,c,d,E⟩;have e:=Aj e E;rcases Pb (fU (eH a0.aba 1) (tq a0.abd a1) false) e with e|e
  ·simp[e];exact q _ _ ⟨b,c,d,by simp[e]⟩
  simp[e];exact q _ _ ⟨b,c,d,by simp[e]⟩
 rintro C N ⟨k,l,o,E⟩;have e:=Aj e E;simp[e];refine Wr e hm 999 (λz t f h=>∃(a:Tag) (g:Nat) (i:Nat) (j:Nat),(h=H/\f.1 1=sI a1/\f.1 2=sI a2/\f.1 3=AV.eB 3 g 0/\f.1 6=AV.eB 6 i 0/\f.1 7=AV.eB 7 j 0/\f.1 32=sL Tm.av a0.abb/\f.1 33=sI (eM a0.abb)/\f.1 34=sI z/\f.gen 3=g/\f.box 3=some [sI a0.aba,sI a0.abd,sI a0.dv.aba,sL Ty.av a0.dv.abb,sL Tm.av a0.abb]/\f.gen 6=i/\f.box 6=some [sI 0,sI 0,sI 0,AV.slice .full [],AV.slice .full []]/\f.gen 7=j/\f.box 7=some [sI a0.aba,sI (fU (fU (eH a0.aba 1) (tq a0.abd a1) false) (fj .i64 a0.abd a2) a0.abd),sI a0.dv.aba,sL Ty.av a0.dv.abb,sT a Tm.av t])/\Ow f [48] a t) (by exact⟨.full,k,l,o,by simp[e],iM.full⟩) (λt u D w E m=>?_) (λz F t u D w G I E e m x v=>?_)
 ·have⟨a,g,i,j,E,p⟩:=E;have e:=Aj e E;dsimp only[en]at m;cases m;simp[e]
 have⟨a,g,i,j,E,p⟩:=E;have e:=Aj e E;have⟨J,e,m⟩:=ep e m;simp[e];refine Cs (qS e.2) ?_;have⟨y,e,m⟩:=ep e m;simp[e];refine Cs (A e.2) ?_;have⟨e,m⟩:=Ck e m;simp[e];refine Ad (f:=Tm.av) t [y] p B1 e.2 ?_;simp[e];cases m;exact v _ _ _ ⟨(.loc 48 (u.fN 48+1)),g,i,j,by simp[e],(On 48)⟩ x
def AU{n:Nat}:C3 prog 90 (qg n) Tm.av Tm.av sI sI:=(KK n)
def Lp:∀(n:Nat),C4 prog 174 (tK n) Tm.av Tm.av sI sI Tm.av:=by
  intro n
  induction n with
  |zero=>
    skip
    all_goals(intro _ _;intros;rename_i hm;cases hm)
  |succ n s=>
 intro T H a0 a1 a2 a3 r hm;rw[tK] at hm;have e:=trivial;refine wi abf func174 [] [] 999 ?_;rcases Io e hm with⟨e,m⟩|⟨e,m⟩
 ·rcases Io e m with⟨e,m⟩|⟨e,m⟩
  ·have⟨w,e,m⟩:=ep e m;simp[e];refine Cf (AU e.2) ?_;cases m;simp[e]
  rcases Io e m with⟨e,m⟩|⟨e,m⟩;rotate_left
  ·cases m;simp[e]
  have⟨x,e,m⟩:=ep e m;simp[e];refine Cf (gr e.2) ?_;cases m;simp[e]
 simp[e];refine Wr e m 999 (λq j f h=>∃(a:Tag) (b:Nat) (c:Nat) (d:Nat) (g:Nat),(h=H/\f.1 1=sI a1/\f.1 2=sI a2/\f.1 4=AV.eB 4 b 0/\f.1 7=AV.eB 7 c 0/\f.1 8=AV.eB 8 d 0/\f.1 9=AV.eB 9 g 0/\f.1 45=sL Tm.av a0.abb/\f.1 46=sI (eM a0.abb)/\f.1 47=sI q/\f.gen 4=b/\f.box 4=some [sI a0.aba,sI a0.abd,sI a0.dv.aba,sL Ty.av a0.dv.abb,sL Tm.av a0.abb]/\f.gen 7=c/\f.box 7=some [sI a3.aba,sI a3.abd,sI a3.dv.aba,sL Ty.av a3.dv.abb,sL Tm.av a3.abb]/\f.gen 8=d/\f.box 8=some [sI 0,sI 0,sI 0,AV.slice .full [],AV.slice .full []]/\f.gen 9=g/\f.box 9=some [sI a0.aba,sI a0.abd,sI a0.dv.aba,sL Ty.av a0.dv.abb,sT a Tm.av j])/\Ow f [62] a j) (by exact⟨.full,1,1,1,1,by simp[e],iM.full⟩) (λj k t u E m=>?_) (λq y j k t u z A E e m o l=>?_)
 ·have⟨a,b,c,d,g,E,i⟩:=E;have e:=Aj e E;dsimp only[en]at m;cases m;simp[e]
 have⟨a,b,c,d,g,E,i⟩:=E;have e:=Aj e E;have⟨v,e,m⟩:=ep e m;simp[e];refine Cs (qS e.2) ?_;have⟨p,e,m⟩:=ep e m;simp[e];refine Cs (s e.2) ?_;have⟨e,m⟩:=Ck e m;simp[e];refine Ad (f:=Tm.av) j [p] i B1 e.2 ?_;simp[e];cases m;exact l _ _ _ ⟨(.loc 62 (k.fN 62+1)),b,c,d,g,by simp[e],(On 62)⟩ o
def FY{n:Nat}:C4 prog 174 (tK n) Tm.av Tm.av sI sI Tm.av:=(Lp n)
def Ev:C1 prog 291 qT Tm.av Tm.av:=by
 intro T H a0 r hm;rw[qT] at hm;have e:=trivial;refine wi abf func291 [] [] 999 ?_;rcases Io e hm with⟨e,m⟩|⟨e,m⟩
 ·have⟨u,e,m⟩:=ep e m;have⟨v,e,m⟩:=ep e m;have⟨w,e,m⟩:=ep e m;have⟨x,e,m⟩:=ep e m;simp[e];refine Cs (FY e.2) ?_;cases m;simp[e]
 rcases Io e m with⟨e,m⟩|⟨e,m⟩
 ·have⟨y,e,m⟩:=ep e m;rcases Io e m with⟨e,m⟩|⟨e,m⟩
  ·have⟨z,e,m⟩:=ep e m;cases m;simp[e]
  have⟨A,e,m⟩:=ep e m;have⟨B,e,m⟩:=ep e m;have⟨C,e,m⟩:=ep e m;simp[e];refine Cs (gR e.2) ?_;have⟨a,e,m⟩:=ep e m;have⟨b,e,m⟩:=ep e m;simp[e];refine Cs (l5 e.2) ?_;have⟨c,e,m⟩:=ep e m;simp[e];refine Cs (gR e.2) ?_;cases m;simp[e]
 rcases Io e m with⟨e,m⟩|⟨e,m⟩;rotate_left
 ·rcases Io e m with⟨e,m⟩|⟨e,m⟩
  ·have⟨d,e,m⟩:=ep e m;have⟨f,e,m⟩:=ep e m;cases m;simp[e]
  have⟨g,e,m⟩:=ep e m;have⟨h,e,m⟩:=ep e m;cases m;simp[e]
 have⟨i,e,m⟩:=ep e m;rcases Io e m with⟨e,m⟩|⟨e,m⟩
 ·have⟨j,e,m⟩:=ep e m;cases m;simp[e]
 have⟨k,e,m⟩:=ep e m;have⟨l,e,m⟩:=ep e m;have⟨n,e,m⟩:=ep e m;have⟨o,e,m⟩:=ep e m;simp[e];refine Cs (gR e.2) ?_;have⟨p,e,m⟩:=ep e m;simp[e];refine Cs (gR e.2) ?_;have⟨q,e,m⟩:=ep e m;have⟨s,e,m⟩:=ep e m;simp[e];refine Cs (l5 e.2) ?_;have⟨t,e,m⟩:=ep e m;simp[e];refine Cs (gR e.2) ?_;cases m;simp[e]
def OW:su prog 265=true:=by kernel_rfl
def Ik:∀(n:Nat),C2 prog 265 (oN n) (t3 Tm.av sB sB) Tm.av sI:=by
  intro n
  induction n with
  |zero=>
    skip
    all_goals(intro _ _;intros;rename_i hm;cases hm)
  |succ n ih=>
 rintro T H a0 a1 ⟨r0,r1,r2⟩ hm;rw[oN] at hm;refine fH.intro (fn:=f265) func265 rfl OW (R3 rfl) ?_;refine gI.sr [] λK1 aP=>?_;simp;apply aP;refine gI.tR λK3 aQ=>?_;refine gI.sr [] λK5 aR=>?_;have⟨x7,aS,G⟩:=eO hm;clear hm
 try dsimp only at G
 simp;refine mW.fn (Kq aS) ?_;simp;apply aR;refine gI.tM λbh bj ah ai=>?_;rcases jm G with⟨a,I⟩|⟨a,J⟩
 ·clear G;simp[a];apply ah;refine gI.tR λbk aj=>?_;refine gI.sr [] λbl ak=>?_;have⟨bm,al,w⟩:=eO I;clear I
  try dsimp only at w
  simp[a];refine mW.fn (F4 al) ?_;simp[a];apply ak;refine gI.tM λbn bo an ao=>?_;rcases jm w with⟨p,K⟩|⟨p,M⟩
  ·clear w;simp[a,p];apply an;refine gI.sr [] λbp aq=>?_;simp[a,p];apply aq;refine gI.ret ?_;simp only[sH,FJ] at K;obtain⟨rfl,rfl,rfl⟩:=K;simp[vu,a,p]
  clear w;simp[a,p];apply ao;refine gI.skip ?_;apply aj;refine gI.sr [] λbq ar=>?_;have⟨br,au,B⟩:=eO M;clear M
  try dsimp only at B
  simp[a,p];refine mW.fn (Ev au) ?_;simp[a,p];apply ar;refine gI.ret ?_;simp only[sH,FJ] at B;obtain⟨rfl,rfl,rfl⟩:=B;simp[vu,a,p]
 clear G;simp[a];apply ai;refine gI.skip ?_;apply aQ;refine gI.tR λbs aw=>?_;refine gI.sr [] λbt ax=>?_;simp[a];apply ax;have⟨P,N⟩:=mV J;clear J;have⟨aT,ay,C⟩:=l_ N;clear N
 try dsimp only at C
 have⟨Q,q,o⟩:=eO C;clear C;refine gI.yY λbu aU az aV aA=>?_;refine gI.Lt (λn55 fr h=>∃(i56:Nat) (A:Int) (r:Nat) (s:Nat),H=h/\(fr.env 1=sI a1/\fr.env 2=AV.eB 2 r 0/\fr.env 4=AV.eB 4 s 0/\fr.env 23=sL Tm.av a0.abb/\fr.env 24=sI (eM a0.abb)/\fr.env 25=sI A/\fr.gen 2=r/\fr.box 2=some [sI a0.aba,sI a0.abd,sI a0.dv.aba,sL Ty.av a0.dv.abb,sL Tm.av a0.abb]/\fr.gen 4=s/\fr.box 4=some [sI 0,sI 0,sI 0,AV.slice .full [],AV.slice .full []])/\A=(i56:Int)/\i56+n55=List.length a0.abb/\ft aT (List.drop i56 a0.abb) i56 ()=some Q) (List.length a0.abb) ?_ ?_
 ·refine⟨0,0,1,1,?_,⟨?_,?_,?_,?_,?_,?_,?_,?_,?_,?_⟩,rfl,(by simp),q⟩<;>first|rfl|simp[a]
 rintro n55 O bw ⟨i56,A,r,s,rfl,i,v,aW,q⟩ bx aB;rcases n55 with _|n55
 ·have b:=Md (l:=a0.abb) v (by omega);refine gI.sr [] λbz aC=>?_;simp[i,b,a];apply aC;refine gI.tR λbA aX=>?_;refine gI.tM λbB bC aY aD=>?_;simp[i,b,a];apply aD;refine gI.exit ?_;apply az;rw[Hh (by omega),pe] at q;obtain rfl:=iw q;rw[en] at o
  try dsimp only at o
  apply aw;refine gI.sr [] λbD aE=>?_;simp[i,b,a];apply aE;refine gI.ret ?_;simp only[sH,FJ] at o;obtain⟨rfl,rfl,rfl⟩:=o;simp[vu,i,b,a]
 have b:=Oz (l:=a0.abb) v (by omega);have⟨bE,R,e⟩:=Ml (l:=a0.abb) v (by omega);rw[R,fm] at q;have⟨bF,y,z⟩:=eO q;clear q;rw[ay,<-v] at y
 try dsimp only at y
 refine gI.sr [] λbG aF=>?_;simp[i,b,e,a];apply aF;refine gI.tR λbH aG=>?_;refine gI.tM λbI bJ aH aZ=>?_;simp[i,b,e,a];apply aH;refine gI.skip ?_;apply aG;refine gI.tR λbK aI=>?_;refine gI.yY λbL a6 aJ a7 aK=>?_;refine gI.sr [] λbM aL=>?_;simp[i,b,e,a];apply aL;refine gI.sr [] λbN aM=>?_;have⟨S,bO,a8,U,t⟩:=Bo y;clear y
 try dsimp only at t
 simp[i,b,e,a];refine mW.fn (ih U) ?_;simp[i,b,e,a];apply aM;refine gI.tR λa_ V=>?_;refine gI.sr [] λa' W=>?_;simp[i,b,e,a];apply W;refine gI.tM λba bb X Y=>?_;rcases jm t with⟨c,D⟩|⟨c,Z⟩;rotate_left
 ·clear t;simp[i,b,e,a,c];apply X;refine gI.exit ?_;apply aJ;apply aI;refine gI.region [] (by decide+kernel) ?_;simp[i,b,e,a,c];obtain rfl:=iw Z;rw[fA] at z
  refine aB _ _ n55 (QB _) ⟨(i56+1),(fj .i64 A 1),r,s,?_,⟨?_,?_,?_,?_,?_,?_,?_,?_,?_,?_⟩,(Iw v (by omega) P),(by omega),z⟩<;>first|rfl|simp[i,b,e,a,c]
 clear t;simp[i,b,e,a,c];apply Y;refine gI.skip ?_;apply V;refine gI.sr [] λbc aa=>?_;simp[i,b,e,a,c];apply aa;refine gI.sr [] λbd ab=>?_;have⟨ad,E⟩:=mV D;clear D;simp[i,b,e,a,c];refine si.Wo (f:=Tm.av) a0.abb B1 ⟨_,VE⟩ (by intro x;simp) ad (by first|rfl|simp) (by first|rfl|simp) λu aN=>?_;simp[i,b,e,a,c];apply ab;refine gI.sr [] λbf ae=>?_;have⟨aO,j,F⟩:=eO E;clear E
 try dsimp only at F
 have m:=GO j;simp[i,b,e,j,m,a,c];refine yL.arr (f:=Tm.av) (L:=a0.abb) (k:=((u-List.length a0.abb)*5)) S Uu (by intro x;simp) (by simp[i,b,e,j,m,a,c]) (x:=aO) (by assumption) (by simp[i,b,e,j,m,a,c]) (by simp[i,b,e,j,m,a,c]) (by simp[i,b,e,j,m,a,c]) ?_;simp[i,b,e,j,m,a,c];apply ae;refine gI.tR λbg af=>?_;refine gI.Z2 12 4 (cs2:=[sI a0.aba,sI a0.abd,sI a0.dv.aba,sL Ty.av a0.dv.abb,AV.we 42 (O.gen 42+1) (List.length (wV a0.abb A S)) u]) (f:=Tm.av) (L:=(wV a0.abb A S)) (k:=((u-List.length a0.abb)*5)) (sz:=5) (d:=42) (g:=(O.gen 42+1)) (cap:=u) (by intro x;simp) (by intro x;simp) (by decide) (by simp[i,b,e,j,m,a,c]) (by simp[i,b,e,j,m,a,c]) (by simp[i,b,e,j,m,a,c]) (by simp[i,b,e,j,m,a,c]) ?_;refine gI.region [] (by decide+kernel) ?_;simp[i,b,e,j,m,a,c];apply af;refine gI.ret ?_;apply aK;apply aA;obtain rfl:=iw F;rw[BT] at z;obtain rfl:=iw z;rw[qi] at o
 try dsimp only at o
 simp only[sH,FJ] at o;obtain⟨rfl,rfl,rfl⟩:=o;simp[vu,i,b,e,j,m,a,c]
def Ku{n:Nat}:C2 prog 265 (oN n) (t3 Tm.av sB sB) Tm.av sI:=(Ik n)
def vg:C2 prog 229 mw (t3 Tm.av sI sI) Tm.av sI:=by
 intro T H a0 a1 r hm;rw[mw] at hm;have e:=trivial;refine wi abf func229 [] [] 7 ?_;have⟨F,e,m⟩:=ep e hm;simp[e];refine Cf (nW e.2) ?_;simp[e];rcases Io e m with⟨e,m⟩|⟨e,m⟩
 ·apply wg 999;cases m;simp[e]
 apply wg 3;simp[e];refine Wj m 999 999 (λl f h=>∃(v3:Bool) (a:Nat) (b:Nat),(h=H/\f.1 1=sI a1/\f.1 2=AV.eB 2 a 0/\f.1 4=AV.eB 4 b 0/\f.1 28=sB v3/\f.gen 2=a/\f.box 2=some [sI a0.aba,sI a0.abd,sI a0.dv.aba,sL Ty.av a0.dv.abb,sL Tm.av a0.abb]/\f.gen 4=b/\f.box 4=some [sI 0,sI 0,sI 0,AV.slice .full [],AV.slice .full []])/\l v3=some r) (λl G j m=>?_) ?_
 ·rcases Io e m with⟨e,m⟩|⟨e,m⟩
  ·simp[e];exact j _ _ ⟨true,1,1,by simp[e],m⟩
  rcases Io e m with⟨e,m⟩|⟨e,m⟩
  ·simp[e];exact j _ _ ⟨true,1,1,by simp[e],m⟩
  have⟨n,e,m⟩:=ep e m;simp[e];refine Cf (wA e.2) ?_;simp[e];exact j _ _ ⟨(nC n),1,1,by simp[e],m⟩
 rintro o I ⟨v3,a,b,E,m⟩;have e:=Aj e E;rcases Io e m with⟨e,m⟩|⟨e,m⟩
 ·cases m;simp[e]
 simp[e];refine Wn m 999 (λi f h=>∃(c:Nat) (d:Nat),h=H/\f.1 1=sI a1/\f.1 2=AV.eB 2 c 0/\f.1 4=AV.eB 4 d 0/\f.1 8=sI i.1/\f.gen 2=c/\f.box 2=some [sI i.2.1,sI i.2.2.1,sI i.2.2.2.1,sL Ty.av i.2.2.2.2.1,sL Tm.av i.2.2.2.2.2]/\f.gen 4=d/\f.box 4=some [sI 0,sI 0,sI 0,AV.slice .full [],AV.slice .full []]) ⟨a,b,by simp[e]⟩ (λi p J q s t E m g k=>?_);have⟨u,v,w,x,y,v20⟩:=i;have⟨c,d,E⟩:=E;have e:=Aj e E;dsimp only[y_]at m;have⟨z,e,m⟩:=ep e m;simp[e];refine Cs (gY e.2) ?_;have⟨A,B,C,e,m⟩:=Ix e m;simp[e];refine Cs (Ku e.2) ?_;rcases Io e m with⟨e,m⟩|⟨e,m⟩;rotate_left
 ·have⟨D,e,m⟩:=ep e m;simp[e];refine Cf (mx e.2) ?_;cases m;cases g;simp[e]
 rcases Io e m with⟨e,m⟩|⟨e,m⟩
 ·cases m;cases g;simp[e]
 rcases Io e m with⟨e,m⟩|⟨e,m⟩;rotate_left
 ·cases m;cases g;simp[e]
 simp[e];cases m;exact k _ _ _ ⟨c,d,by simp[e]⟩ g
def Hd:C3 prog 163 rA sI Tm.av Tm.av sI:=by
 intro T H a0 a1 a2 r hm;rw[rA] at hm;have e:=trivial;refine wi abf func163 [] [] 999 ?_;have⟨b,e,m⟩:=ep e hm;simp[e];refine Cf (nW e.2) ?_;rcases Io e m with⟨e,m⟩|⟨e,m⟩
 ·cases m;simp[e]
 have⟨c,e,m⟩:=ep e m;simp[e];refine Cf (nW e.2) ?_;rcases Io e m with⟨e,m⟩|⟨e,m⟩
 ·cases m;simp[e]
 have⟨d,e,m⟩:=ep e m;simp[e];refine Cf (yb e.2) ?_;rcases Io e m with⟨e,m⟩|⟨e,m⟩
 ·cases m;simp[e]
 have⟨f,g,h,e,m⟩:=Ix e m;simp[e];refine Cf (vg e.2) ?_;rcases Io e m with⟨e,m⟩|⟨e,m⟩
 ·cases m;simp[e]
 have⟨i,j,k,e,m⟩:=Ix e m;simp[e];refine Cf (vg e.2) ?_;rcases Io e m with⟨e,m⟩|⟨e,m⟩
 ·cases m;simp[e]
 have⟨a,e,m⟩:=ep e m;simp[e];refine Cf (yb e.2) ?_;rcases Io e m with⟨e,m⟩|⟨e,m⟩
 ·cases m;simp[e]
 cases m;simp[e]
def GK:∀(n:Nat),C2 prog 94 (oI n) sI Fm.av Fm.av:=by
  intro n
  induction n with
  |zero=>
    skip
    all_goals(intro _ _;intros;rename_i hm;cases hm)
  |succ n B=>
 intro T H a0 a1 r hm;rw[oI] at hm;have e:=trivial;refine wi abf func94 [] [] 3 ?_;simp[e];refine Wj hm 999 999 (λy f h=>∃(v2:Bool) (g:Nat) (i:Nat),(h=H/\f.1 2=AV.eB 2 g 0/\f.1 3=AV.eB 3 i 0/\f.1 21=sB v2/\f.gen 2=g/\f.box 2=some [sI a0.aba,sI a0.dv.aba,sL Ty.av a0.dv.abb,sL Tm.av a0.ek,sL Fm.av a0.abb]/\f.gen 3=i/\f.box 3=some [sI a1.aba,sI a1.dv.aba,sL Ty.av a1.dv.abb,sL Tm.av a1.ek,sL Fm.av a1.abb])/\y v2=some r) (λy R j m=>?_) ?_
 ·rcases Io e m with⟨e,m⟩|⟨e,m⟩
  ·simp[e];exact j _ _ ⟨true,1,1,by simp[e],m⟩
  have⟨C,e,m⟩:=ep e m;simp[e];refine Cf (iq e.2) ?_;simp[e];exact j _ _ ⟨(nC C),1,1,by simp[e],m⟩
 rintro D S ⟨v2,g,i,E,m⟩;have e:=Aj e E;rcases Io e m with⟨e,m⟩|⟨e,m⟩
 ·cases m;simp[e]
 simp[e];refine Wr e m 999 (λz A f h=>∃(c:Nat) (d:Nat),h=H/\f.1 2=AV.eB 2 c 0/\f.1 3=AV.eB 3 d 0/\f.1 24=sI (eM a0.ek)/\f.1 25=sI z/\f.gen 2=c/\f.box 2=some [sI a0.aba,sI a0.dv.aba,sL Ty.av a0.dv.abb,sL Tm.av a0.ek,sL Fm.av a0.abb]/\f.gen 3=d/\f.box 3=some [sI a1.aba,sI a1.dv.aba,sL Ty.av a1.dv.abb,sL Tm.av a1.ek,sL Fm.av a1.abb]) ⟨g,i,by simp[e]⟩ (λA u F v E m=>?_) (λz G A u F v I J E e m k l=>?_);rotate_left
 ·have⟨c,d,E⟩:=E;have e:=Aj e E;have⟨K,e,m⟩:=ep e m;have⟨L,e,m⟩:=ep e m;simp[e];refine Cs (Hd e.2) ?_;rcases Io e m with⟨e,m⟩|⟨e,m⟩
  ·cases m;cases k;simp[e]
  simp[e];cases m;exact l _ _ _ ⟨c,d,by simp[e]⟩ k
 have⟨c,d,E⟩:=E;have e:=Aj e E;dsimp only[en]at m;simp[e];refine Wr e m 999 (λo p f h=>∃(a:Nat) (b:Nat),h=H/\f.1 2=AV.eB 2 a 0/\f.1 3=AV.eB 3 b 0/\f.1 45=sI (eM a0.abb)/\f.1 46=sI o/\f.gen 2=a/\f.box 2=some [sI a0.aba,sI a0.dv.aba,sL Ty.av a0.dv.abb,sL Tm.av a0.ek,sL Fm.av a0.abb]/\f.gen 3=b/\f.box 3=some [sI a1.aba,sI a1.dv.aba,sL Ty.av a1.dv.abb,sL Tm.av a1.ek,sL Fm.av a1.abb]) ⟨c,d,by simp[e]⟩ (λp q w x E m=>?_) (λo M p q w x N O E e m s t=>?_)
 ·have⟨a,b,E⟩:=E;have e:=Aj e E;dsimp only[en]at m;cases m;simp[e]
 have⟨a,b,E⟩:=E;have e:=Aj e E;have⟨P,e,m⟩:=ep e m;have⟨Q,e,m⟩:=ep e m;simp[e];refine Cs (B e.2) ?_;rcases Io e m with⟨e,m⟩|⟨e,m⟩
 ·cases m;cases s;simp[e]
 simp[e];cases m;exact t _ _ _ ⟨a,b,by simp[e]⟩ s
def H9{n:Nat}:C2 prog 94 (oI n) sI Fm.av Fm.av:=(GK n)
def AE:C2 prog 31 oE sI Fm.av Fm.av:=by
 intro T H a0 a1 r hm;rw[oE] at hm;have e:=trivial;refine wi abf func31 [] [] 999 ?_;have⟨a,e,m⟩:=ep e hm;simp[e];refine Cf (nT e.2) ?_;rcases Io e m with⟨e,m⟩|⟨e,m⟩
 ·cases m;simp[e]
 have⟨b,e,m⟩:=ep e m;simp[e];refine Cf (nT e.2) ?_;rcases Io e m with⟨e,m⟩|⟨e,m⟩
 ·cases m;simp[e]
 have⟨c,e,m⟩:=ep e m;simp[e];refine Cf (H9 e.2) ?_;cases m;simp[e]
def tk:C1 prog 95 nM sI Fm.av:=by
 intro T H a0 r hm;rw[nM] at hm;have e:=trivial;refine wi abf func95 [] [] 999 ?_;have⟨a,e,m⟩:=ep e hm;simp[e];refine Cf (rm e.2) ?_;rcases Io e m with⟨e,m⟩|⟨e,m⟩
 ·cases m;simp[e]
 cases m;simp[e]
def L2:∀(n:Nat),C3 prog 32 (gT n) Fm.av Fm.av sI sI:=by
  intro n
  induction n with
  |zero=>
   skip
   all_goals(intro _ _;intros;rename_i hm;cases hm)
  |succ n F=>
 intro T H a0 a1 a2 r hm;rw[gT] at hm;have e:=trivial;refine wi abf func32 [] [] 999 ?_;simp[e];refine Wr e hm 999 (λD s2 f h=>∃(c:Tag) (j:Nat) (k:Nat) (l:Nat),(h=H/\f.1 1=sI a1/\f.1 2=sI a2/\f.1 3=AV.eB 3 j 0/\f.1 6=AV.eB 6 k 0/\f.1 7=AV.eB 7 l 0/\f.1 18=sL Tm.av a0.ek/\f.1 19=sI (eM a0.ek)/\f.1 20=sI D/\f.gen 3=j/\f.box 3=some [sI a0.aba,sI a0.dv.aba,sL Ty.av a0.dv.abb,sL Tm.av a0.ek,sL Fm.av a0.abb]/\f.gen 6=k/\f.box 6=some [sI 0,sI 0,AV.slice .full [],AV.slice .full [],AV.slice .full []]/\f.gen 7=l/\f.box 7=some [sI a0.aba,sI a0.dv.aba,sL Ty.av a0.dv.abb,sT c Tm.av s2,AV.slice .full []])/\Ow f [31] c s2) (by exact⟨.full,1,1,1,by simp[e],iM.full⟩) (λs2 u G I E m=>?_) (λD O s2 u G I n6 P E e m J x=>?_);rotate_left
 ·have⟨c,j,k,l,E,p⟩:=E;have e:=Aj e E;have⟨y,e,m⟩:=ep e m;simp[e];refine Cs (AU e.2) ?_;have⟨e,m⟩:=Ck e m;simp[e];refine Ad (f:=Tm.av) s2 [y] p B1 e.2 ?_;simp[e];cases m;exact x _ _ _ ⟨(.loc 31 (u.fN 31+1)),j,k,l,by simp[e],(On 31)⟩ J
 have⟨c,j,k,l,E,p⟩:=E;have e:=Aj e E;dsimp only[en]at m;simp[e];refine Wr e m 999 (λv q f h=>∃(a:Tag) (b:Tag) (d:Nat) (g:Nat) (i:Nat),(h=H/\f.1 1=sI a1/\f.1 2=sI a2/\f.1 3=AV.eB 3 d 0/\f.1 6=AV.eB 6 g 0/\f.1 7=AV.eB 7 i 0/\f.1 35=sL Fm.av a0.abb/\f.1 36=sI (eM a0.abb)/\f.1 37=sI v/\f.gen 3=d/\f.box 3=some [sI a0.aba,sI a0.dv.aba,sL Ty.av a0.dv.abb,sL Tm.av a0.ek,sL Fm.av a0.abb]/\f.gen 6=g/\f.box 6=some [sI 0,sI 0,AV.slice .full [],AV.slice .full [],AV.slice .full []]/\f.gen 7=i/\f.box 7=some [sI a0.aba,sI a0.dv.aba,sL Ty.av a0.dv.abb,sT a Tm.av s2,sT b Fm.av q])/\Ow f [31] a s2/\Ow f [51] b q) (by exact⟨c,.full,j,k,l,by simp[e],p,iM.full⟩) (λq t z A E m=>?_) (λv K q t z A L M E e m B w=>?_)
 ·have⟨a,b,d,g,i,E,s,o⟩:=E;have e:=Aj e E;dsimp only[en]at m;cases m;simp[e]
 have⟨a,b,d,g,i,E,s,o⟩:=E;have e:=Aj e E;have⟨N,e,m⟩:=ep e m;simp[e];refine Cs (tk e.2) ?_;have⟨C,e,m⟩:=ep e m;simp[e];refine Cs (F e.2) ?_;have⟨e,m⟩:=Ck e m;simp[e];refine Ad (f:=Fm.av) q [C] o Cl e.2 ?_;simp[e];cases m;exact w _ _ _ ⟨a,(.loc 51 (t.fN 51+1)),d,g,i,by simp[e],(iM.other s o (by decide) (by decide)),(On 51)⟩ B
def lh{n:Nat}:C3 prog 32 (gT n) Fm.av Fm.av sI sI:=(L2 n)
def m_:C2 prog 256 fK ej.av ej.av (sL Ty.av):=by
 intro T H a0 a1 r hm;rw[fK] at hm;have e:=trivial;refine wi abf func256 [] [] 999 ?_;have⟨e,m⟩:=Ck e hm;simp[e];refine Ad (f:=Ty.av) a0.abe a1 (iM.full (D:=[])) BV e.2 ?_;simp[e];refine Wr e m 999 (λn s2 f h=>∃(a:Tag) (b:Tag) (c:Nat) (d:Nat),(h=H/\f.1 1=sL Ty.av a1/\f.1 4=AV.eB 4 c 0/\f.1 5=AV.eB 5 d 0/\f.1 23=sL Fm.av a0.abh/\f.1 24=sI (eM a0.abh)/\f.1 25=sI n/\f.gen 4=c/\f.box 4=some [AV.slice .full [],AV.slice .full [],AV.slice .full []]/\f.gen 5=d/\f.box 5=some [sL Fm.av a0.lemmas,sT a Ty.av (gv a0.abe a1),sT b Fm.av s2])/\Ow f [20] a (gv a0.abe a1)/\Ow f [36] b s2) (by exact⟨(.loc 20 1),.full,1,1,by simp[e],(On 20),iM.full⟩) (λs2 j o p E m=>?_) (λn s s2 j o p n6 t E e m q k=>?_)
 ·have⟨a,b,c,d,E,i,g⟩:=E;have e:=Aj e E;dsimp only[en]at m;cases m;simp[e]
 have⟨a,b,c,d,E,i,g⟩:=E;have e:=Aj e E;have⟨l,e,m⟩:=ep e m;simp[e];refine Cs (lh e.2) ?_;have⟨e,m⟩:=Ck e m;simp[e];refine Ad (f:=Fm.av) s2 [l] g Cl e.2 ?_;simp[e];cases m;exact k _ _ _ ⟨a,(.loc 36 (j.fN 36+1)),c,d,by simp[e],(iM.other i g (by decide) (by decide)),(On 36)⟩ q
def pq:C2 prog 257 gQ (sL sI) (sL sI) sI:=by
 intro T H a0 a1 r hm;rw[gQ] at hm;have e:=trivial;refine wi abf func257 [] [] 999 ?_;simp[e];refine Wr e hm 0 (λk s2 f h=>∃(b:Tag),(h=H/\f.1 1=sI a1/\f.1 5=sT b sI s2/\f.1 8=sL sI a0/\f.1 9=sI (eM a0)/\f.1 10=sI k)/\Ow f [22] b s2) (by exact⟨.full,by simp[e],iM.full⟩) (λs2 i p q E m=>?_) (λk n s2 i p q n6 s E e m t l=>?_)
 ·have⟨b,E,c⟩:=E;have e:=Aj e E;apply wg 999;dsimp only[en]at m;cases m;simp[e]
 have⟨b,E,c⟩:=E;have e:=Aj e E;apply wg 5;simp[e];refine Wj m 999 999 (λj f h=>∃(v11:List Int) (a:Tag),(h=H/\f.1 1=sI a1/\f.1 5=sT a sI v11/\f.1 8=sL sI a0/\f.1 9=sI (eM a0)/\f.1 10=sI k)/\Ow f [22] a v11/\j v11=some s) (λj u d m=>?_) ?_;rotate_left
 ·rintro o v ⟨v11,a,E,g,m⟩;have e:=Aj e E;simp[e];cases m;exact l _ _ _ ⟨a,by simp[e],g⟩ t
 rcases Io e m with⟨e,m⟩|⟨e,m⟩;rotate_left
 ·simp[e];exact d _ _ ⟨s2,b,by simp[e],c,m⟩
 have⟨e,m⟩:=Ck e m;simp[e];refine Ao (f:=sI) s2 [(fB .i64 n a1)] c PL e.2 ?_;simp[e];exact d _ _ ⟨(gv s2 [(fB .i64 n a1)]),(.loc 22 (i.fN 22+1)),by simp[e],(On 22),m⟩
def Ek:C1 prog 258 qE sB (sL sI):=by
 intro T H a0 r hm;rw[qE] at hm;have e:=trivial;refine wi abf func258 [] [] 2 ?_;simp[e];refine Wj hm 999 999 (λb f h=>∃(v2:Bool),(h=H/\f.1 2=sB v2)/\b v2=some r) (λb g a m=>?_) ?_;rotate_left
 ·rintro c i ⟨v2,E,m⟩;have e:=Aj e E;cases m;simp[e]
 rcases Io e m with⟨e,m⟩|⟨e,m⟩;rotate_left
 ·simp[e];exact a _ _ ⟨false,by simp[e],m⟩
 have⟨d,e,m⟩:=ep e m;simp[e];exact a _ _ ⟨(eH d 0),by simp[e],m⟩
def uQ:C2 prog 259 kE (t2 Ty.av sI) (sL Ty.av) Tm.av:=by
 intro T H a0 a1 r hm;rw[kE] at hm;have e:=trivial;refine wi abf func259 [] [] 999 ?_;have⟨a,e,m⟩:=ep e hm;simp[e];refine Cf (tS e.2) ?_;rcases Io e m with⟨e,m⟩|⟨e,m⟩
 ·cases m;simp[e]
 have⟨b,c,e,m⟩:=gq e m;simp[e];refine Cf (Az e.2) ?_;cases m;simp[e]
def G8(T:fg):∀(n:Nat),(∀{H:eD} {a0:Tm} {a1:Int} {a2:(List (Int×Bool))} {d:(List (Int×Bool))} {o2:Nat} (g:H[o2]?=some [sM sB a2]) (hm:qc n a0 a1 a2=some d),e9 prog T 129 [Tm.av a0,sI a1,AV.nZ o2] H (AV.tuple []) (gj H o2 [sM sB d])):=by
  intro n
  induction n with
  |zero=>
    skip
    all_goals(intro _ _;intros;rename_i hm;cases hm)
  |succ n v=>
 intro H a0 a1 a2 d o2 g hm;rw[qc] at hm;have p:=f_ g;refine fH.I8 g ?_;have e:=p;refine wi abf func129 [] [] 2 ?_;simp[e];refine Wj hm 0 999 (λt f h=>∃(v2:(List (Int×Bool))) (c:Nat),(h=gj H o2 [sM sB v2]/\f.1 1=sI a1/\f.1 2=AV.nZ o2/\f.1 3=AV.eB 3 c 0/\f.gen 3=c/\f.box 3=some [sI a0.aba,sI a0.abd,sI a0.dv.aba,sL Ty.av a0.dv.abb,sL Tm.av a0.abb])/\t v2=some d) (λt C j m=>?_) ?_
 ·refine wj 999 999 (λf h=>∃(b:Nat),h=gj H o2 [sM sB a2]/\f.1 1=sI a1/\f.1 2=AV.nZ o2/\f.1 3=AV.eB 3 b 0/\f.1 16=sB (fU (eH a0.aba 1) (tq a0.abd a1) false)/\f.gen 3=b/\f.box 3=some [sI a0.aba,sI a0.abd,sI a0.dv.aba,sL Ty.av a0.dv.abb,sL Tm.av a0.abb]) (λD k=>?_) ?_
  ·rcases Pb (eH a0.aba 1) e with e|e
   ·simp[e];exact k _ _ ⟨1,by simp[e]⟩
   simp[e];exact k _ _ ⟨1,by simp[e]⟩
  rintro w F ⟨b,E⟩;have e:=Aj e E;rcases Io e m with⟨e,m⟩|⟨e,m⟩;rotate_left
  ·simp[e];exact j _ _ ⟨a2,b,by simp[e],m⟩
  simp[e];refine tP.i64 (f:=sB) a2 true MD uc (by simp[e]) (by simp[e]) ?_;simp[e];exact j _ _ ⟨(uo a2 (fB .i64 a0.abd a1) true),b,by simp[e],m⟩
 rintro x G ⟨v2,c,E,m⟩;have e:=Aj e E;simp[e];refine Wr e m 999 (λu i f h=>∃(a:Nat),h=gj H o2 [sM sB i]/\f.1 1=sI a1/\f.1 2=AV.nZ o2/\f.1 3=AV.eB 3 a 0/\f.1 23=sL Tm.av a0.abb/\f.1 24=sI (eM a0.abb)/\f.1 25=sI u/\f.gen 3=a/\f.box 3=some [sI a0.aba,sI a0.abd,sI a0.dv.aba,sL Ty.av a0.dv.abb,sL Tm.av a0.abb]) ⟨c,by simp[e]⟩ (λi l q r E m=>?_) (λu y i l q r z A E e m s o=>?_)
 ·have⟨a,E⟩:=E;have e:=Aj e E;dsimp only[en]at m;cases m;simp[e]
 have⟨a,E⟩:=E;have e:=Aj e E;have⟨B,e,m⟩:=ep e m;simp[e];refine Cs (qS e.2) ?_;have⟨d19,e,m⟩:=ep e m;simp[e];refine Cs (v (by simp[e]) e.2) ?_;simp[e];cases m;exact o _ _ _ ⟨a,by simp[e]⟩ s
def Kj(T:fg){H:eD}{a0:Tm}{a1:Int}{a2:(List (Int×Bool))}{a:(List (Int×Bool))}{o2:Nat}(b:H[o2]?=some [sM sB a2]){n:Nat}(hm:qc n a0 a1 a2=some a):e9 prog T 129 [Tm.av a0,sI a1,AV.nZ o2] H (AV.tuple []) (gj H o2 [sM sB a]):=(G8 T n) b hm
def JR(T:fg){H:eD}{a0:Tm}{a:List Int}{b:Int}(hm:vb a0=some (a,b)):e9 prog T 58 [Tm.av a0] H (AV.tuple [sL sI a,sI b]) H:=by
 rw[vb] at hm;refine fH.tY (Post:=λx K=>x=AV.tuple [sL sI a,sI b]/\∃X,K=H++X) ?_ (λ_ _ h=>⟨_,h.2.choose_spec,by rw[h.1];simp[AV.low,AV.jf],h.1,rfl⟩);have e:=trivial;refine wi abf func58 [] [] 999 ?_;have⟨c,e,m⟩:=ep e hm;simp[e];refine Cf (nW e.2) ?_;rcases Io e m with⟨e,m⟩|⟨e,m⟩
 ·cases m;simp[e]
 have⟨d2,e,m⟩:=ep e m;simp[e];refine Cf (Kj T (by simp[e]) e.2) ?_;have⟨d,d4,e,m⟩:=gq e m;simp[e];refine Cf (zv T (by simp[e]) e.2) ?_;cases m;simp[e]
def ue:C1 prog 260 kP (sL sI) Tm.av:=by
 intro T H a0 r hm;rw[kP] at hm;have e:=trivial;refine wi abf func260 [] [] 999 ?_;have⟨a,b,e,m⟩:=gq e hm;simp[e];refine Cf (JR T e.2) ?_;cases m;simp[e]
def FT:∀(n:Nat),C2 prog 113 (oJ n) sB Fm.av sI:=by
  intro n
  induction n with
  |zero=>
    skip
    all_goals(intro _ _;intros;rename_i hm;cases hm)
  |succ n s=>
 intro T H a0 a1 r hm;rw[oJ] at hm;have e:=trivial;refine wi abf func113 [] [] 999 ?_;simp[e];refine Wr e hm 999 (λp s2 f h=>∃(a:Nat),h=H/\f.1 1=sI a1/\f.1 2=AV.eB 2 a 0/\f.1 10=sL Tm.av a0.ek/\f.1 11=sI (eM a0.ek)/\f.1 12=sI p/\f.gen 2=a/\f.box 2=some [sI a0.aba,sI a0.dv.aba,sL Ty.av a0.dv.abb,sL Tm.av a0.ek,sL Fm.av a0.abb]) ⟨1,by simp[e]⟩ (λs2 j t u E m=>?_) (λp A s2 j t u n6 B E e m q k=>?_);rotate_left
 ·have⟨a,E⟩:=E;have e:=Aj e E;have⟨v,e,m⟩:=ep e m;simp[e];refine Cf (wA e.2) ?_;rcases Io e m with⟨e,m⟩|⟨e,m⟩;rotate_left
  ·cases m;cases q;simp[e]
  simp[e];cases m;exact k _ _ _ ⟨a,by simp[e]⟩ q
 have⟨a,E⟩:=E;have e:=Aj e E;dsimp only[en]at m;simp[e];refine Wr e m 999 (λb c f h=>h=H/\f.1 1=sI a1/\f.1 22=sL Fm.av a0.abb/\f.1 23=sI (eM a0.abb)/\f.1 24=sI b) (by simp[e]) (λc d l o E m=>?_) (λb w c d l o x y E e m g i=>?_)
 ·have e:=Aj e E;dsimp only[en]at m;cases m;simp[e]
 have e:=Aj e E;have⟨z,e,m⟩:=ep e m;simp[e];refine Cf (s e.2) ?_;rcases Io e m with⟨e,m⟩|⟨e,m⟩;rotate_left
 ·cases m;cases g;simp[e]
 simp[e];cases m;exact i _ _ _ (by simp[e]) g
def Hl{n:Nat}:C2 prog 113 (oJ n) sB Fm.av sI:=(FT n)
def G3:∀(n:Nat),C2 prog 116 (oG n) sI Fm.av sI:=by
  intro n
  induction n with
  |zero=>
   skip
   all_goals(intro _ _;intros;rename_i hm;cases hm)
  |succ n s=>
 intro T H a0 a1 r hm;rw[oG] at hm;have e:=trivial;refine wi abf func116 [] [] 999 ?_;simp[e];refine Wr e hm 999 (λq s2 f h=>∃(b:Nat),h=H/\f.1 1=sI a1/\f.1 2=AV.eB 2 b 0/\f.1 5=sI s2/\f.1 11=sL Tm.av a0.ek/\f.1 12=sI (eM a0.ek)/\f.1 13=sI q/\f.gen 2=b/\f.box 2=some [sI a0.aba,sI a0.dv.aba,sL Ty.av a0.dv.abb,sL Tm.av a0.ek,sL Fm.av a0.abb]) ⟨1,by simp[e]⟩ (λs2 j t u E m=>?_) (λq C s2 j t u n6 D E e m v k=>?_);rotate_left
 ·have⟨b,E⟩:=E;have e:=Aj e E;have⟨w,e,m⟩:=ep e m;simp[e];refine Cf (AP e.2) ?_;simp[e];cases m;exact k _ _ _ ⟨b,by simp[e]⟩ v
 have⟨b,E⟩:=E;have e:=Aj e E;dsimp only[en]at m;simp[e];refine Wr e m 999 (λd c f h=>∃(a:Nat),h=H/\f.1 1=sI a1/\f.1 2=AV.eB 2 a 0/\f.1 5=sI c/\f.1 24=sL Fm.av a0.abb/\f.1 25=sI (eM a0.abb)/\f.1 26=sI d/\f.gen 2=a/\f.box 2=some [sI a0.aba,sI a0.dv.aba,sL Ty.av a0.dv.abb,sL Tm.av a0.ek,sL Fm.av a0.abb]) ⟨b,by simp[e]⟩ (λc g l o E m=>?_) (λd x c g l o y z E e m p i=>?_)
 ·have⟨a,E⟩:=E;have e:=Aj e E;dsimp only[en]at m;cases m;simp[e]
 have⟨a,E⟩:=E;have e:=Aj e E;have⟨A,e,m⟩:=ep e m;simp[e];refine Cs (tk e.2) ?_;have⟨B,e,m⟩:=ep e m;simp[e];refine Cs (s e.2) ?_;simp[e];cases m;exact i _ _ _ ⟨a,by simp[e]⟩ p
def HV{n:Nat}:C2 prog 116 (oG n) sI Fm.av sI:=(G3 n)
def K0:∀(n:Nat),C4 prog 118 (vr n) Fm.av Fm.av sI sI Tm.av:=by
  intro n
  induction n with
  |zero=>
   skip
   all_goals(intro _ _;intros;rename_i hm;cases hm)
  |succ n I=>
 intro T H a0 a1 a2 a3 r hm;rw[vr] at hm;have e:=trivial;refine wi abf func118 [] [] 999 ?_;simp[e];refine Wr e hm 999 (λG s2 f h=>∃(c:Tag) (k:Nat) (l:Nat) (o:Nat) (p:Nat),(h=H/\f.1 1=sI a1/\f.1 2=sI a2/\f.1 4=AV.eB 4 k 0/\f.1 7=AV.eB 7 l 0/\f.1 8=AV.eB 8 o 0/\f.1 9=AV.eB 9 p 0/\f.1 20=sL Tm.av a0.ek/\f.1 21=sI (eM a0.ek)/\f.1 22=sI G/\f.gen 4=k/\f.box 4=some [sI a0.aba,sI a0.dv.aba,sL Ty.av a0.dv.abb,sL Tm.av a0.ek,sL Fm.av a0.abb]/\f.gen 7=l/\f.box 7=some [sI a3.aba,sI a3.abd,sI a3.dv.aba,sL Ty.av a3.dv.abb,sL Tm.av a3.abb]/\f.gen 8=o/\f.box 8=some [sI 0,sI 0,AV.slice .full [],AV.slice .full [],AV.slice .full []]/\f.gen 9=p/\f.box 9=some [sI a0.aba,sI a0.dv.aba,sL Ty.av a0.dv.abb,sT c Tm.av s2,AV.slice .full []])/\Ow f [34] c s2) (by exact⟨.full,1,1,1,1,by simp[e],iM.full⟩) (λs2 w J K E m=>?_) (λG Q s2 w J K n6 R E e m L z=>?_);rotate_left
 ·have⟨c,k,l,o,p,E,s⟩:=E;have e:=Aj e E;have⟨A,e,m⟩:=ep e m;simp[e];refine Cs (FY e.2) ?_;have⟨e,m⟩:=Ck e m;simp[e];refine Ad (f:=Tm.av) s2 [A] s B1 e.2 ?_;simp[e];cases m;exact z _ _ _ ⟨(.loc 34 (w.fN 34+1)),k,l,o,p,by simp[e],(On 34)⟩ L
 have⟨c,k,l,o,p,E,s⟩:=E;have e:=Aj e E;dsimp only[en]at m;simp[e];refine Wr e m 999 (λx t f h=>∃(a:Tag) (b:Tag) (d:Nat) (g:Nat) (i:Nat) (j:Nat),(h=H/\f.1 1=sI a1/\f.1 2=sI a2/\f.1 4=AV.eB 4 d 0/\f.1 7=AV.eB 7 g 0/\f.1 8=AV.eB 8 i 0/\f.1 9=AV.eB 9 j 0/\f.1 38=sL Fm.av a0.abb/\f.1 39=sI (eM a0.abb)/\f.1 40=sI x/\f.gen 4=d/\f.box 4=some [sI a0.aba,sI a0.dv.aba,sL Ty.av a0.dv.abb,sL Tm.av a0.ek,sL Fm.av a0.abb]/\f.gen 7=g/\f.box 7=some [sI a3.aba,sI a3.abd,sI a3.dv.aba,sL Ty.av a3.dv.abb,sL Tm.av a3.abb]/\f.gen 8=i/\f.box 8=some [sI 0,sI 0,AV.slice .full [],AV.slice .full [],AV.slice .full []]/\f.gen 9=j/\f.box 9=some [sI a0.aba,sI a0.dv.aba,sL Ty.av a0.dv.abb,sT a Tm.av s2,sT b Fm.av t])/\Ow f [34] a s2/\Ow f [55] b t) (by exact⟨c,.full,k,l,o,p,by simp[e],s,iM.full⟩) (λt v B C E m=>?_) (λx M t v B C N O E e m D y=>?_)
 ·have⟨a,b,d,g,i,j,E,u,q⟩:=E;have e:=Aj e E;dsimp only[en]at m;cases m;simp[e]
 have⟨a,b,d,g,i,j,E,u,q⟩:=E;have e:=Aj e E;have⟨P,e,m⟩:=ep e m;simp[e];refine Cs (tk e.2) ?_;have⟨F,e,m⟩:=ep e m;simp[e];refine Cs (I e.2) ?_;have⟨e,m⟩:=Ck e m;simp[e];refine Ad (f:=Fm.av) t [F] q Cl e.2 ?_;simp[e];cases m;exact y _ _ _ ⟨a,(.loc 55 (v.fN 55+1)),d,g,i,j,by simp[e],(iM.other u q (by decide) (by decide)),(On 55)⟩ D
def MU{n:Nat}:C4 prog 118 (vr n) Fm.av Fm.av sI sI Tm.av:=(K0 n)
def Mb:C3 prog 45 xw (t2 Fm.av sI) Fm.av sI Tm.av:=by
 intro T H a0 a1 a2 r hm;rw[xw] at hm;have e:=trivial;refine wi abf func45 [] [] 7 ?_;have⟨z,e,m⟩:=ep e hm;simp[e];refine Cf (nT e.2) ?_;simp[e];rcases Io e m with⟨e,m⟩|⟨e,m⟩
 ·apply wg 999;cases m;simp[e]
 apply wg 3;simp[e];refine wj 999 0 (λf h=>∃(a:Nat) (b:Nat) (c:Nat),h=H/\f.1 1=sI a1/\f.1 3=AV.eB 3 a 0/\f.1 5=AV.eB 5 b 0/\f.1 6=AV.eB 6 c 0/\f.1 21=sB (fU (tW a1 0) true (nS a1 4096))/\f.gen 3=a/\f.box 3=some [sI a0.aba,sI a0.dv.aba,sL Ty.av a0.dv.abb,sL Tm.av a0.ek,sL Fm.av a0.abb]/\f.gen 5=b/\f.box 5=some [sI a2.aba,sI a2.abd,sI a2.dv.aba,sL Ty.av a2.dv.abb,sL Tm.av a2.abb]/\f.gen 6=c/\f.box 6=some [sI 0,sI 0,AV.slice .full [],AV.slice .full [],AV.slice .full []]) (λA j=>?_) ?_
 ·rcases Pb (tW a1 0) e with e|e
  ·simp[e];exact j _ _ ⟨1,1,1,by simp[e]⟩
  simp[e];exact j _ _ ⟨1,1,1,by simp[e]⟩
 rintro q B ⟨a,b,c,E⟩;have e:=Aj e E;rcases Io e m with⟨e,m⟩|⟨e,m⟩
 ·apply wg 999;cases m;simp[e]
 apply wg 7;have⟨C,e,m⟩:=ep e m;simp[e];refine Cf (nW e.2) ?_;simp[e];rcases Io e m with⟨e,m⟩|⟨e,m⟩
 ·apply wg 999;cases m;simp[e]
 apply wg 3;simp[e];refine Wj m 999 999 (λo f h=>∃(l:Bool) (d:Nat) (g:Nat) (i:Nat),(h=H/\f.1 1=sI a1/\f.1 3=AV.eB 3 d 0/\f.1 5=AV.eB 5 g 0/\f.1 6=AV.eB 6 i 0/\f.1 36=sB l/\f.gen 3=d/\f.box 3=some [sI a0.aba,sI a0.dv.aba,sL Ty.av a0.dv.abb,sL Tm.av a0.ek,sL Fm.av a0.abb]/\f.gen 5=g/\f.box 5=some [sI a2.aba,sI a2.abd,sI a2.dv.aba,sL Ty.av a2.dv.abb,sL Tm.av a2.abb]/\f.gen 6=i/\f.box 6=some [sI 0,sI 0,AV.slice .full [],AV.slice .full [],AV.slice .full []])/\o l=some r) (λo D k m=>?_) ?_
 ·have⟨s,e,m⟩:=ep e m;simp[e];refine Cf (Hl e.2) ?_;rcases Io e m with⟨e,m⟩|⟨e,m⟩;rotate_left
  ·simp[e];exact k _ _ ⟨true,a,b,c,by simp[e],m⟩
  have⟨n,e,m⟩:=ep e m;simp[e];refine Cf (wA e.2) ?_;simp[e];exact k _ _ ⟨(nC n),a,b,c,by simp[e],m⟩
 rintro p t ⟨l,d,g,i,E,m⟩;have e:=Aj e E;rcases Io e m with⟨e,m⟩|⟨e,m⟩
 ·cases m;simp[e]
 have⟨u,e,m⟩:=ep e m;simp[e];refine Cs (tl e.2) ?_;have⟨v,e,m⟩:=ep e m;simp[e];refine Cs (HV e.2) ?_;have⟨w,e,m⟩:=ep e m;simp[e];refine Cs (gY e.2) ?_;rcases Io e m with⟨e,m⟩|⟨e,m⟩
 ·cases m;simp[e]
 have⟨x,e,m⟩:=ep e m;simp[e];refine Cf (MU e.2) ?_;have⟨y,e,m⟩:=ep e m;simp[e];refine Cf (kO e.2) ?_;cases m;simp[e]
def rE:C2 prog 261 jV (t2 Fm.av sI) Fm.av Tm.av:=by
 intro T H a0 a1 r hm;rw[jV] at hm;have e:=trivial;refine wi abf func261 [] [] 999 ?_;have⟨a,b,e,m⟩:=gq e hm;simp[e];refine Cf (Mb e.2) ?_;cases m;simp[e]
def Ji:∀(n:Nat),C2 prog 288 (sV n) sB Tm.av sI:=by
  intro n
  induction n with
  |zero=>
    skip
    all_goals(intro _ _;intros;rename_i hm;cases hm)
  |succ n l=>
 intro T H a0 a1 r hm;rw[sV] at hm;have e:=trivial;refine wi abf func288 [] [] 3 ?_;simp[e];refine wj 999 999 (λf h=>∃(b:Nat),h=H/\f.1 1=sI a1/\f.1 2=AV.eB 2 b 0/\f.1 15=sB (fU (eH a0.aba 1) (eH a0.abd a1) false)/\f.gen 2=b/\f.box 2=some [sI a0.aba,sI a0.abd,sI a0.dv.aba,sL Ty.av a0.dv.abb,sL Tm.av a0.abb]) (λv c=>?_) ?_
 ·rcases Pb (eH a0.aba 1) e with e|e
  ·simp[e];exact c _ _ ⟨1,by simp[e]⟩
  simp[e];exact c _ _ ⟨1,by simp[e]⟩
 rintro o w ⟨b,E⟩;have e:=Aj e E;rcases Io e hm with⟨e,m⟩|⟨e,m⟩
 ·cases m;simp[e]
 simp[e];refine Wr e m 999 (λj k f h=>∃(a:Nat),h=H/\f.1 1=sI a1/\f.1 2=AV.eB 2 a 0/\f.1 17=sL Tm.av a0.abb/\f.1 18=sI (eM a0.abb)/\f.1 19=sI j/\f.gen 2=a/\f.box 2=some [sI a0.aba,sI a0.abd,sI a0.dv.aba,sL Ty.av a0.dv.abb,sL Tm.av a0.abb]) ⟨b,by simp[e]⟩ (λk i p q E m=>?_) (λj x k i p q y s E e m d g=>?_)
 ·have⟨a,E⟩:=E;have e:=Aj e E;dsimp only[en]at m;cases m;simp[e]
 have⟨a,E⟩:=E;have e:=Aj e E;have⟨t,e,m⟩:=ep e m;simp[e];refine Cs (qS e.2) ?_;have⟨u,e,m⟩:=ep e m;simp[e];refine Cs (l e.2) ?_;rcases Io e m with⟨e,m⟩|⟨e,m⟩
 ·cases m;cases d;simp[e]
 simp[e];cases m;exact g _ _ _ ⟨a,by simp[e]⟩ d
def Ln{n:Nat}:C2 prog 288 (sV n) sB Tm.av sI:=(Ji n)
def J3:∀(n:Nat),C2 prog 263 (pz n) sB Fm.av sI:=by
  intro n
  induction n with
  |zero=>
    skip
    all_goals(intro _ _;intros;rename_i hm;cases hm)
  |succ n t=>
 intro T H a0 a1 r hm;rw[pz] at hm;have e:=trivial;refine wi abf func263 [] [] 999 ?_;simp[e];refine Wr e hm 999 (λq s2 f h=>∃(b:Nat),h=H/\f.1 1=sI a1/\f.1 2=AV.eB 2 b 0/\f.1 10=sL Tm.av a0.ek/\f.1 11=sI (eM a0.ek)/\f.1 12=sI q/\f.gen 2=b/\f.box 2=some [sI a0.aba,sI a0.dv.aba,sL Ty.av a0.dv.abb,sL Tm.av a0.ek,sL Fm.av a0.abb]) ⟨1,by simp[e]⟩ (λs2 k u v E m=>?_) (λq C s2 k u v n6 D E e m s l=>?_);rotate_left
 ·have⟨b,E⟩:=E;have e:=Aj e E;have⟨w,e,m⟩:=ep e m;simp[e];refine Cf (Ln e.2) ?_;rcases Io e m with⟨e,m⟩|⟨e,m⟩
  ·cases m;cases s;simp[e]
  simp[e];cases m;exact l _ _ _ ⟨b,by simp[e]⟩ s
 have⟨b,E⟩:=E;have e:=Aj e E;dsimp only[en]at m;simp[e];refine Wr e m 999 (λc d f h=>∃(a:Nat),h=H/\f.1 1=sI a1/\f.1 2=AV.eB 2 a 0/\f.1 21=sL Fm.av a0.abb/\f.1 22=sI (eM a0.abb)/\f.1 23=sI c/\f.gen 2=a/\f.box 2=some [sI a0.aba,sI a0.dv.aba,sL Ty.av a0.dv.abb,sL Tm.av a0.ek,sL Fm.av a0.abb]) ⟨b,by simp[e]⟩ (λd g o p E m=>?_) (λc x d g o p y z E e m i j=>?_)
 ·have⟨a,E⟩:=E;have e:=Aj e E;dsimp only[en]at m;cases m;simp[e]
 have⟨a,E⟩:=E;have e:=Aj e E;have⟨A,e,m⟩:=ep e m;simp[e];refine Cs (tk e.2) ?_;have⟨B,e,m⟩:=ep e m;simp[e];refine Cs (t e.2) ?_;rcases Io e m with⟨e,m⟩|⟨e,m⟩
 ·cases m;cases i;simp[e]
 simp[e];cases m;exact j _ _ _ ⟨a,by simp[e]⟩ i
def DN{n:Nat}:C2 prog 263 (pz n) sB Fm.av sI:=(J3 n)
def Eu:∀(n:Nat),C1 prog 264 (my n) (t2 Fm.av sI) Fm.av:=by
  intro n
  induction n with
  |zero=>
    skip
    all_goals(intro _ _;intros;rename_i hm;cases hm)
  |succ n D=>
 intro T H a0 r hm;rw[my] at hm;have e:=trivial;refine wi abf func264 [] [] 999 ?_;simp[e];refine Wr e hm 999 (λB s2 f h=>∃(c:Tag) (k:Nat) (i:Nat) (j:Nat),(h=H/\f.1 1=AV.eB 1 k 0/\f.1 2=AV.eB 2 i 0/\f.1 4=AV.eB 4 j 0/\f.1 20=sL Tm.av a0.ek/\f.1 21=sI (eM a0.ek)/\f.1 22=sI B/\f.gen 1=k/\f.box 1=some [sI a0.aba,sI a0.dv.aba,sL Ty.av a0.dv.abb,sL Tm.av a0.ek,sL Fm.av a0.abb]/\f.gen 2=i/\f.box 2=some [sI 0,sI 0,AV.slice .full [],AV.slice .full [],AV.slice .full []]/\f.gen 4=j/\f.box 4=some [sI a0.aba,sI a0.dv.aba,sL Ty.av a0.dv.abb,sT c Tm.av s2,AV.slice .full []])/\Ow f [40] c s2) (by exact⟨.full,1,1,1,by simp[e],iM.full⟩) (λs2 t F G E m=>?_) (λB O s2 t F G n6 P E e m C w=>?_);rotate_left
 ·have⟨c,k,i,j,E,o⟩:=E;have e:=Aj e E;have⟨x,I,J,e,m⟩:=Ix e m;simp[e];refine Cf (vg e.2) ?_;rcases Io e m with⟨e,m⟩|⟨e,m⟩
  ·cases m;cases C;simp[e]
  have⟨e,m⟩:=Ck e m;simp[e];refine Ao (f:=Tm.av) s2 [x] o B1 e.2 ?_;simp[e];cases m;exact w _ _ _ ⟨(.loc 40 (t.fN 40+1)),k,i,j,by simp[e],(On 40)⟩ C
 have⟨c,k,i,j,E,o⟩:=E;have e:=Aj e E;dsimp only[en]at m;simp[e];refine Wr e m 999 (λu p f h=>∃(a:Tag) (b:Tag) (d:Nat) (g:Nat),(h=H/\f.1 2=AV.eB 2 d 0/\f.1 4=AV.eB 4 g 0/\f.1 44=sL Fm.av a0.abb/\f.1 45=sI (eM a0.abb)/\f.1 46=sI u/\f.gen 2=d/\f.box 2=some [sI 0,sI 0,AV.slice .full [],AV.slice .full [],AV.slice .full []]/\f.gen 4=g/\f.box 4=some [sI a0.aba,sI a0.dv.aba,sL Ty.av a0.dv.abb,sT a Tm.av s2,sT b Fm.av p])/\Ow f [40] a s2/\Ow f [63] b p) (by exact⟨c,.full,i,j,by simp[e],o,iM.full⟩) (λp s y z E m=>?_) (λu K p s y z L M E e m z20 v=>?_)
 ·have⟨a,b,d,g,E,q,l⟩:=E;have e:=Aj e E;dsimp only[en]at m;cases m;simp[e]
 have⟨a,b,d,g,E,q,l⟩:=E;have e:=Aj e E;have⟨A,N,e,m⟩:=gq e m;simp[e];refine Cf (D e.2) ?_;rcases Io e m with⟨e,m⟩|⟨e,m⟩
 ·cases m;cases z20;simp[e]
 have⟨e,m⟩:=Ck e m;simp[e];refine Ao (f:=Fm.av) p [A] l Cl e.2 ?_;simp[e];cases m;exact v _ _ _ ⟨a,(.loc 63 (s.fN 63+1)),d,g,by simp[e],(iM.other q l (by decide) (by decide)),(On 63)⟩ z20
def GB{n:Nat}:C1 prog 264 (my n) (t2 Fm.av sI) Fm.av:=(Eu n)
def pD:C3 prog 226 ij sI ej.av Tm.av sI:=by
 intro T H a0 a1 a2 r hm;rw[ij] at hm;have e:=trivial;refine wi abf func226 [] [] 999 ?_;have⟨a,b,e,m⟩:=gq e hm;simp[e];refine Cf (uQ e.2) ?_;rcases Io e m with⟨e,m⟩|⟨e,m⟩
 ·cases m;simp[e]
 rcases Io e m with⟨e,m⟩|⟨e,m⟩
 ·cases m;simp[e]
 cases m;simp[e]
def Dk:∀(n:Nat),C1 prog 110 (jC n) sB Fm.av:=by
  intro n
  induction n with
  |zero=>
    skip
    all_goals(intro _ _;intros;rename_i hm;cases hm)
  |succ n b=>
 intro T H a0 r hm;rw[jC] at hm;have e:=trivial;refine wi abf func110 [] [] 8 ?_;simp[e];rcases Io e hm with⟨e,m⟩|⟨e,m⟩
 ·apply wg 999;cases m;simp[e]
 apply wg 3;simp[e];rcases Io e m with⟨e,m⟩|⟨e,m⟩;rotate_left
 ·apply wg 999;rcases Io e m with⟨e,m⟩|⟨e,m⟩
  ·cases m;simp[e]
  have⟨j,e,m⟩:=ep e m;have⟨k,e,m⟩:=ep e m;simp[e];refine Cf (b e.2) ?_;cases m;simp[e]
 apply wg 1;simp[e];refine Wj m 999 999 (λd f h=>∃(v4:Bool),(h=H/\f.1 2=sB v4)/\d v4=some r) (λd l a m=>?_) ?_;rotate_left
 ·rintro g o ⟨v4,E,m⟩;have e:=Aj e E;cases m;simp[e]
 have⟨p,e,m⟩:=ep e m;have⟨q,e,m⟩:=ep e m;simp[e];refine Cf (b e.2) ?_;rcases Io e m with⟨e,m⟩|⟨e,m⟩
 ·simp[e];exact a _ _ ⟨true,by simp[e],m⟩
 have⟨i,e,m⟩:=ep e m;have⟨c,e,m⟩:=ep e m;simp[e];refine Cf (b e.2) ?_;simp[e];exact a _ _ ⟨c,by simp[e],m⟩
def ET{n:Nat}:C1 prog 110 (jC n) sB Fm.av:=(Dk n)
def EP:C1 prog 43 pB (t2 sB sI) Fm.av:=by
 intro T H a0 r hm;rw[pB] at hm;have e:=trivial;refine wi abf func43 [] [] 999 ?_;have⟨a,e,m⟩:=ep e hm;simp[e];refine Cf (nT e.2) ?_;rcases Io e m with⟨e,m⟩|⟨e,m⟩
 ·cases m;simp[e]
 have⟨b,e,m⟩:=ep e m;simp[e];refine Cf (ET e.2) ?_;cases m;simp[e]
def xW:∀(n:Nat),C2 prog 86 (eK n) (t2 rN.av sI) ej.av Pf.av/\C2 prog 160 (eF n) (t3 Fm.av (sL sI) sI) ej.av Pf.av/\C2 prog 220 (kB n) (t3 Fm.av (sL sI) sI) ej.av Pf.av/\C2 prog 221 (k7 n) (t3 Fm.av (sL sI) sI) ej.av Pf.av/\C2 prog 222 (lk n) (t3 Fm.av (sL sI) sI) ej.av Pf.av/\C2 prog 223 (ke n) (t3 Fm.av (sL sI) sI) ej.av Pf.av/\C2 prog 224 (nI n) (t3 Fm.av (sL sI) sI) ej.av Pf.av/\C2 prog 225 (mi n) (t3 Fm.av (sL sI) sI) ej.av Pf.av/\C2 prog 227 (mm n) (t3 Fm.av (sL sI) sI) ej.av Pf.av/\C2 prog 228 (lP n) (t3 Fm.av (sL sI) sI) ej.av Pf.av/\C4 prog 262 (fw n) (t2 (sL sI) sI) ej.av Pf.av Fm.av Tm.av:=by
  intro n
  induction n with
  |zero=>
    refine⟨?_,?_,?_,?_,?_,?_,?_,?_,?_,?_,?_⟩
    all_goals(intro _ _;intros;rename_i hm;cases hm)
  |succ n k=>
 refine⟨?_,?_,?_,?_,?_,?_,?_,?_,?_,?_,?_⟩
 ·intro T H a0 a1 r hm;rw[eK] at hm;have e:=trivial;refine wi abf func86 [] [] 7 ?_;have⟨x1,x2,x3,e,m⟩:=Ix e hm;simp[e];refine Cf (k.2.1 e.2) ?_;simp[e];rcases Io e m with⟨e,m⟩|⟨e,m⟩
  ·apply wg 999;cases m;simp[e]
  apply wg 5;have⟨x4,e,m⟩:=ep e m;simp[e];refine Cf (nT e.2) ?_;simp[e];rcases Io e m with⟨e,m⟩|⟨e,m⟩
  ·apply wg 999;cases m;simp[e]
  apply wg 2;simp[e];refine Wj m 999 999 (λj5 f h=>∃(v6:List Int) (af:Tag) (ah:Nat) (ai:Nat),(h=H/\f.1 4=AV.eB 4 ah 0/\f.1 6=AV.eB 6 ai 0/\f.1 7=sT af sI v6/\f.gen 4=ah/\f.box 4=some [sI 0,sI 0,AV.slice .full [],AV.slice .full [],AV.slice .full [],AV.slice .full []]/\f.gen 6=ai/\f.box 6=some [sI x1.aba,sI x1.dv.aba,sL Ty.av x1.dv.abb,sL Tm.av x1.ek,sL Fm.av x1.abb])/\j5 v6=some r) (λj5 K7 aX m=>?_) ?_;rotate_left
  ·rintro cI h9 ⟨v6,af,ah,ai,E,m⟩;have e:=Aj e E;cases m;simp[e]
  have⟨bh,aY,e,m⟩:=gq e m;simp[e];refine Cf (EP e.2) ?_;rcases Io e m with⟨e,m⟩|⟨e,m⟩
  ·simp[e];exact aX _ _ ⟨x2,.iN,1,1,by simp[e],m⟩
  simp[e];exact aX _ _ ⟨[],.full,1,1,by simp[e],m⟩
 ·intro T H a0 a1 r hm;rw[eF] at hm;have e:=trivial;refine wi abf func160 [] [] 10 ?_;simp[e];rcases Io e hm with⟨e,m⟩|⟨e,m⟩
  ·apply wg 999;rcases Io e m with⟨e,m⟩|⟨e,m⟩
   ·cases m;simp[e]
   have⟨cJ,e,m⟩:=ep e m;cases m;simp[e]
  apply wg 3;simp[e];rcases Io e m with⟨e,m⟩|⟨e,m⟩
  ·apply wg 999;rcases Io e m with⟨e,m⟩|⟨e,m⟩
   ·cases m;simp[e]
   have⟨cK,e,m⟩:=ep e m;cases m;simp[e]
  apply wg 3;simp[e];rcases Io e m with⟨e,m⟩|⟨e,m⟩
  ·apply wg 999;have⟨cL,e,m⟩:=ep e m;have⟨cM,cN,e,m⟩:=gq e m;simp[e];refine Cs (k.1 e.2) ?_;rcases Io e m with⟨e,m⟩|⟨e,m⟩
   ·cases m;simp[e]
   have⟨cO,e,m⟩:=ep e m;have⟨cP,cQ,e,m⟩:=gq e m;simp[e];refine Cs (k.1 e.2) ?_;have⟨cR,e,m⟩:=ep e m;simp[e];refine Cs (vV e.2) ?_;have⟨cS,e,m⟩:=ep e m;simp[e];refine Cs (lx T e.2) ?_;cases m;simp[e]
  apply wg 1;simp[e];refine wj 999 0 (λf h=>∃(l:Nat) (o:Nat) (p:Nat) (S:Nat),h=H/\f.1 2=AV.eB 2 l 0/\f.1 3=AV.eB 3 o 0/\f.1 4=AV.eB 4 p 0/\f.1 7=AV.eB 7 S 0/\f.1 22=sI a1.aba/\f.1 93=sB (fU (eH a1.aba 4) true (eH a1.aba 5))/\f.gen 2=l/\f.box 2=some [sL Fm.av a0.lemmas,sL Ty.av a0.abe,sL Fm.av a0.abh]/\f.gen 3=o/\f.box 3=some [sI a1.aba,sI a1.abd,sI a1.dv.aba,sL Ty.av a1.dv.abb,sL Tm.av a1.ek,sL Fm.av a1.fi,sL Pf.av a1.abb]/\f.gen 4=p/\f.box 4=some [sI 0,sI 0,AV.slice .full [],AV.slice .full [],AV.slice .full []]/\f.gen 7=S/\f.box 7=some [sI 0,sI 0,AV.slice .full [],AV.slice .full [],AV.slice .full []]) (λcT aD=>?_) ?_
  ·rcases Pb (eH a1.aba 4) e with e|e
   ·simp[e];exact aD _ _ ⟨1,1,1,1,by simp[e]⟩
   simp[e];exact aD _ _ ⟨1,1,1,1,by simp[e]⟩
  rintro bq cU ⟨l,o,p,S,E⟩;have e:=Aj e E;rcases Io e m with⟨e,m⟩|⟨e,m⟩
  ·apply wg 999;have⟨cV,e,m⟩:=ep e m;have⟨cW,cX,e,m⟩:=gq e m;simp[e];refine Cs (k.1 e.2) ?_;rcases Io e m with⟨e,m⟩|⟨e,m⟩
   ·cases m;simp[e]
   rcases Io e m with⟨e,m⟩|⟨e,m⟩
   ·cases m;simp[e]
   have⟨cY,e,m⟩:=ep e m;cases m;simp[e]
  apply wg 3;simp[e];rcases Io e m with⟨e,m⟩|⟨e,m⟩
  ·apply wg 999;have⟨cZ,e,m⟩:=ep e m;have⟨c0,e,m⟩:=ep e m;simp[e];refine Cs (tf e.2) ?_;rcases Io e m with⟨e,m⟩|⟨e,m⟩
   ·cases m;simp[e]
   have⟨c1,e,m⟩:=ep e m;simp[e];refine Cf (lI e.2) ?_;rcases Io e m with⟨e,m⟩|⟨e,m⟩
   ·cases m;simp[e]
   have⟨c2,e,m⟩:=ep e m;simp[e];refine Cs (nB e.2) ?_;have⟨c4,e,m⟩:=ep e m;have⟨c6,c7,e,m⟩:=gq e m;simp[e];refine Cs (k.1 e.2) ?_;have⟨c8,e,m⟩:=ep e m;simp[e];refine Cs (vV e.2) ?_;cases m;simp[e]
  apply wg 3;simp[e];rcases Io e m with⟨e,m⟩|⟨e,m⟩
  ·apply wg 999;have⟨c9,e,m⟩:=ep e m;have⟨c_,c',e,m⟩:=gq e m;simp[e];refine Cs (k.1 e.2) ?_;rcases Io e m with⟨e,m⟩|⟨e,m⟩
   ·cases m;simp[e]
   rcases Io e m with⟨e,m⟩|⟨e,m⟩
   ·cases m;simp[e]
   have⟨da,e,m⟩:=ep e m;have⟨db,dc,e,m⟩:=gq e m;simp[e];refine Cs (k.1 e.2) ?_;rcases Io e m with⟨e,m⟩|⟨e,m⟩
   ·cases m;simp[e]
   have⟨dd,e,m⟩:=ep e m;have⟨de,e,m⟩:=ep e m;simp[e];refine Cs (lx T e.2) ?_;have⟨df,e,m⟩:=ep e m;have⟨dg,e,m⟩:=ep e m;simp[e];refine Cs (AE e.2) ?_;cases m;simp[e]
  apply wg 1;simp[e];refine wj 999 0 (λf h=>∃(q:Nat) (s:Nat) (t:Nat),h=H/\f.1 2=AV.eB 2 q 0/\f.1 3=AV.eB 3 s 0/\f.1 4=AV.eB 4 t 0/\f.1 22=sI a1.aba/\f.1 218=sB (fU (eH a1.aba 8) true (eH a1.aba 12))/\f.gen 2=q/\f.box 2=some [sL Fm.av a0.lemmas,sL Ty.av a0.abe,sL Fm.av a0.abh]/\f.gen 3=s/\f.box 3=some [sI a1.aba,sI a1.abd,sI a1.dv.aba,sL Ty.av a1.dv.abb,sL Tm.av a1.ek,sL Fm.av a1.fi,sL Pf.av a1.abb]/\f.gen 4=t/\f.box 4=some [sI 0,sI 0,AV.slice .full [],AV.slice .full [],AV.slice .full []]) (λdh aE=>?_) ?_
  ·rcases Pb (eH a1.aba 8) e with e|e
   ·simp[e];exact aE _ _ ⟨l,o,p,by simp[e]⟩
   simp[e];exact aE _ _ ⟨l,o,p,by simp[e]⟩
  rintro br di ⟨q,s,t,E⟩;have e:=Aj e E;rcases Io e m with⟨e,m⟩|⟨e,m⟩
  ·apply wg 999;have⟨dj,dk,dm,e,m⟩:=Ix e m;simp[e];refine Cf (k.2.2.1 e.2) ?_;cases m;simp[e]
  apply wg 1;simp[e];refine wj 999 0 (λf h=>∃(u:Nat) (v:Nat) (w:Nat),h=H/\f.1 2=AV.eB 2 u 0/\f.1 3=AV.eB 3 v 0/\f.1 4=AV.eB 4 w 0/\f.1 22=sI a1.aba/\f.1 227=sB (fU (eH a1.aba 9) true (eH a1.aba 13))/\f.gen 2=u/\f.box 2=some [sL Fm.av a0.lemmas,sL Ty.av a0.abe,sL Fm.av a0.abh]/\f.gen 3=v/\f.box 3=some [sI a1.aba,sI a1.abd,sI a1.dv.aba,sL Ty.av a1.dv.abb,sL Tm.av a1.ek,sL Fm.av a1.fi,sL Pf.av a1.abb]/\f.gen 4=w/\f.box 4=some [sI 0,sI 0,AV.slice .full [],AV.slice .full [],AV.slice .full []]) (λdn aF=>?_) ?_
  ·rcases Pb (eH a1.aba 9) e with e|e
   ·simp[e];exact aF _ _ ⟨q,s,t,by simp[e]⟩
   simp[e];exact aF _ _ ⟨q,s,t,by simp[e]⟩
  rintro bs dp ⟨u,v,w,E⟩;have e:=Aj e E;rcases Io e m with⟨e,m⟩|⟨e,m⟩
  ·apply wg 999;have⟨dq,dr,ds,e,m⟩:=Ix e m;simp[e];refine Cf (k.2.2.2.1 e.2) ?_;cases m;simp[e]
  apply wg 1;simp[e];refine wj 999 0 (λf h=>∃(x:Nat) (y:Nat) (z:Nat),h=H/\f.1 2=AV.eB 2 x 0/\f.1 3=AV.eB 3 y 0/\f.1 4=AV.eB 4 z 0/\f.1 22=sI a1.aba/\f.1 236=sB (fU (eH a1.aba 10) true (eH a1.aba 14))/\f.gen 2=x/\f.box 2=some [sL Fm.av a0.lemmas,sL Ty.av a0.abe,sL Fm.av a0.abh]/\f.gen 3=y/\f.box 3=some [sI a1.aba,sI a1.abd,sI a1.dv.aba,sL Ty.av a1.dv.abb,sL Tm.av a1.ek,sL Fm.av a1.fi,sL Pf.av a1.abb]/\f.gen 4=z/\f.box 4=some [sI 0,sI 0,AV.slice .full [],AV.slice .full [],AV.slice .full []]) (λdt aG=>?_) ?_
  ·rcases Pb (eH a1.aba 10) e with e|e
   ·simp[e];exact aG _ _ ⟨u,v,w,by simp[e]⟩
   simp[e];exact aG _ _ ⟨u,v,w,by simp[e]⟩
  rintro bt du ⟨x,y,z,E⟩;have e:=Aj e E;rcases Io e m with⟨e,m⟩|⟨e,m⟩
  ·apply wg 999;have⟨dw,dx,dy,e,m⟩:=Ix e m;simp[e];refine Cf (k.2.2.2.2.1 e.2) ?_;cases m;simp[e]
  apply wg 1;simp[e];refine wj 999 999 (λf h=>∃(U:Nat) (V:Nat) (W:Nat),h=H/\f.1 2=AV.eB 2 U 0/\f.1 3=AV.eB 3 V 0/\f.1 4=AV.eB 4 W 0/\f.1 22=sI a1.aba/\f.1 245=sB (fU (eH a1.aba 11) true (eH a1.aba 15))/\f.gen 2=U/\f.box 2=some [sL Fm.av a0.lemmas,sL Ty.av a0.abe,sL Fm.av a0.abh]/\f.gen 3=V/\f.box 3=some [sI a1.aba,sI a1.abd,sI a1.dv.aba,sL Ty.av a1.dv.abb,sL Tm.av a1.ek,sL Fm.av a1.fi,sL Pf.av a1.abb]/\f.gen 4=W/\f.box 4=some [sI 0,sI 0,AV.slice .full [],AV.slice .full [],AV.slice .full []]) (λdz aH=>?_) ?_
  ·rcases Pb (eH a1.aba 11) e with e|e
   ·simp[e];exact aH _ _ ⟨x,y,z,by simp[e]⟩
   simp[e];exact aH _ _ ⟨x,y,z,by simp[e]⟩
  rintro bu dA ⟨U,V,W,E⟩;have e:=Aj e E;rcases Io e m with⟨e,m⟩|⟨e,m⟩
  ·have⟨dB,dC,dD,e,m⟩:=Ix e m;simp[e];refine Cf (k.2.2.2.2.2.1 e.2) ?_;cases m;simp[e]
  rcases Io e m with⟨e,m⟩|⟨e,m⟩
  ·have⟨dE,dF,dG,e,m⟩:=Ix e m;simp[e];refine Cf (k.2.2.2.2.2.2.1 e.2) ?_;cases m;simp[e]
  rcases Io e m with⟨e,m⟩|⟨e,m⟩
  ·have⟨dH,dI,dJ,e,m⟩:=Ix e m;simp[e];refine Cf (k.2.2.2.2.2.2.2.1 e.2) ?_;cases m;simp[e]
  rcases Io e m with⟨e,m⟩|⟨e,m⟩
  ·have⟨dK,e,m⟩:=ep e m;have⟨dL,e,m⟩:=ep e m;simp[e];refine Cs (nY e.2) ?_;have⟨dM,e,m⟩:=ep e m;simp[e];refine Cs (pD e.2) ?_;cases m;simp[e]
  rcases Io e m with⟨e,m⟩|⟨e,m⟩
  ·have⟨dN,dO,dP,e,m⟩:=Ix e m;simp[e];refine Cf (k.2.2.2.2.2.2.2.2.1 e.2) ?_;cases m;simp[e]
  have⟨dQ,dR,dS,e,m⟩:=Ix e m;simp[e];refine Cf (k.2.2.2.2.2.2.2.2.2.1 e.2) ?_;cases m;simp[e]
 ·intro T H a0 a1 r hm;rw[kB] at hm;have e:=trivial;refine wi abf func220 [] [] 999 ?_;have⟨x3,e,m⟩:=ep e hm;simp[e];refine Cf (lI e.2) ?_;rcases Io e m with⟨e,m⟩|⟨e,m⟩
  ·cases m;simp[e]
  have⟨bj,e,m⟩:=ep e m;simp[e];refine Cs (m_ e.2) ?_;have⟨aY,e,m⟩:=ep e m;have⟨dT,dU,e,m⟩:=gq e m;simp[e];refine Cs (k.1 e.2) ?_;rcases Io e m with⟨e,m⟩|⟨e,m⟩
  ·cases m;simp[e]
  rcases Io e m with⟨e,m⟩|⟨e,m⟩
  ·have⟨aZ,e,m⟩:=ep e m;simp[e];refine Cs (nk e.2) ?_;have⟨aU,e,m⟩:=ep e m;simp[e];refine Cs (pq e.2) ?_;cases m;simp[e]
  have⟨bk,e,m⟩:=ep e m;simp[e];refine Cf (Ek e.2) ?_;rcases Io e m with⟨e,m⟩|⟨e,m⟩
  ·cases m;simp[e]
  have⟨dV,e,m⟩:=ep e m;simp[e];refine Cs (nk e.2) ?_;have⟨aV,e,m⟩:=ep e m;simp[e];refine Cs (pq e.2) ?_;cases m;simp[e]
 ·intro T H a0 a1 r hm;rw[k7] at hm;have e:=trivial;refine wi abf func221 [] [] 9 ?_;have⟨ae,e,m⟩:=ep e hm;have⟨a6,dW,e,m⟩:=gq e m;simp[e];refine Cf (uQ e.2) ?_;simp[e];rcases Io e m with⟨e,m⟩|⟨e,m⟩
  ·apply wg 999;cases m;simp[e]
  apply wg 7;have⟨x6,e,m⟩:=ep e m;have⟨X,dX,e,m⟩:=gq e m;simp[e];refine Cs (k.1 e.2) ?_;simp[e];rcases Io e m with⟨e,m⟩|⟨e,m⟩
  ·apply wg 999;cases m;simp[e]
  apply wg 4;have⟨bl,e,m⟩:=ep e m;simp[e];refine Cs (ue e.2) ?_;have⟨aI,e,m⟩:=ep e m;simp[e];refine Cs (lx T e.2) ?_;simp[e];refine wj 999 999 (λf h=>∃(F:Nat) (G:Nat) (I:Nat) (A:Nat),h=H/\f.1 4=AV.eB 4 F 0/\f.1 7=AV.eB 7 G 0/\f.1 8=AV.eB 8 I 0/\f.1 10=AV.eB 10 A 0/\f.1 11=sI (fU (eH a1.aba 13) 6 4)/\f.1 12=sL sI (fU (eH a1.aba 13) X.gp aI)/\f.gen 4=F/\f.box 4=some [sI 0,sI 0,AV.slice .full [],AV.slice .full [],AV.slice .full []]/\f.gen 7=G/\f.box 7=some [sI ae.aba,sI ae.abd,sI ae.dv.aba,sL Ty.av ae.dv.abb,sL Tm.av ae.abb]/\f.gen 8=I/\f.box 8=some [sI a6.aba,sL Ty.av a6.abb]/\f.gen 10=A/\f.box 10=some [sI X.eg.aba,sI X.eg.dv.aba,sL Ty.av X.eg.dv.abb,sL Tm.av X.eg.ek,sL Fm.av X.eg.abb,sL sI X.gp]) (λbw aj=>?_) ?_
  ·rcases Pb (eH a1.aba 13) e with e|e
   ·simp[e];exact aj _ _ ⟨1,1,1,1,by simp[e]⟩
   simp[e];exact aj _ _ ⟨1,1,1,1,by simp[e]⟩
  rintro bm bx ⟨F,G,I,A,E⟩;have e:=Aj e E;rcases Io e m with⟨e,m⟩|⟨e,m⟩
  ·cases m;simp[e]
  have⟨bz,e,m⟩:=ep e m;simp[e];refine Cf (iq e.2) ?_;rcases Io e m with⟨e,m⟩|⟨e,m⟩;rotate_left
  ·cases m;simp[e]
  have⟨b,e,m⟩:=ep e m;have⟨bk,a7,e,m⟩:=gq e m;simp[e];refine Cs (rE e.2) ?_;cases m;simp[e]
 ·intro T H a0 a1 r hm;rw[lk] at hm;have e:=trivial;refine wi abf func222 [] [] 9 ?_;have⟨c,e,m⟩:=ep e hm;have⟨x4,e,m⟩:=ep e m;have⟨x7,e,m⟩:=ep e m;simp[e];refine Cf (tf e.2) ?_;simp[e];rcases Io e m with⟨e,m⟩|⟨e,m⟩
  ·apply wg 999;cases m;simp[e]
  apply wg 4;simp[e];refine wj 999 3 (λf h=>∃(ak:Nat) (al:Nat) (N:Nat) (O:Nat) (an:Nat),h=H/\f.1 2=AV.eB 2 ak 0/\f.1 3=AV.eB 3 al 0/\f.1 4=AV.eB 4 N 0/\f.1 7=AV.eB 7 O 0/\f.1 8=AV.eB 8 an 0/\f.1 10=sI (fU (eH a1.aba 14) 7 5)/\f.gen 2=ak/\f.box 2=some [sL Fm.av a0.lemmas,sL Ty.av a0.abe,sL Fm.av a0.abh]/\f.gen 3=al/\f.box 3=some [sI a1.aba,sI a1.abd,sI a1.dv.aba,sL Ty.av a1.dv.abb,sL Tm.av a1.ek,sL Fm.av a1.fi,sL Pf.av a1.abb]/\f.gen 4=N/\f.box 4=some [sI 0,sI 0,AV.slice .full [],AV.slice .full [],AV.slice .full []]/\f.gen 7=O/\f.box 7=some [sI c.aba,sI c.dv.aba,sL Ty.av c.dv.abb,sL Tm.av c.ek,sL Fm.av c.abb]/\f.gen 8=an/\f.box 8=some [sI x4.aba,sI x4.abd,sI x4.dv.aba,sL Ty.av x4.dv.abb,sL Tm.av x4.abb]) (λK9 a8=>?_) ?_
  ·rcases Pb (eH a1.aba 14) e with e|e
   ·simp[e];exact a8 _ _ ⟨1,1,1,1,1,by simp[e]⟩
   simp[e];exact a8 _ _ ⟨1,1,1,1,1,by simp[e]⟩
  rintro dY h5 ⟨ak,al,N,O,an,E⟩;have e:=Aj e E;simp[e];rcases Io e m with⟨e,m⟩|⟨e,m⟩
  ·apply wg 999;cases m;simp[e]
  apply wg 7;have⟨bh,aY,e,m⟩:=gq e m;simp[e];refine Cf (uQ e.2) ?_;simp[e];rcases Io e m with⟨e,m⟩|⟨e,m⟩
  ·apply wg 999;cases m;simp[e]
  apply wg 5;have⟨aJ,e,m⟩:=ep e m;simp[e];refine Cf (iq e.2) ?_;simp[e];rcases Io e m with⟨e,m⟩|⟨e,m⟩;rotate_left
  ·apply wg 999;cases m;simp[e]
  apply wg 4;have⟨ao,e,m⟩:=ep e m;have⟨aZ,e,m⟩:=ep e m;have⟨aU,a_,e,m⟩:=gq e m;simp[e];refine Cs (k.2.2.2.2.2.2.2.2.2.2 e.2) ?_;simp[e];refine Wj m 999 999 (λaK f h=>∃(aq:List Int) (J:Nat) (K:Nat),(h=H/\f.1 4=AV.eB 4 J 0/\f.1 7=AV.eB 7 K 0/\f.1 12=sI a_/\f.1 13=sL sI aq/\f.gen 4=J/\f.box 4=some [sI 0,sI 0,AV.slice .full [],AV.slice .full [],AV.slice .full []]/\f.gen 7=K/\f.box 7=some [sI c.aba,sI c.dv.aba,sL Ty.av c.dv.abb,sL Tm.av c.ek,sL Fm.av c.abb])/\aK aq=some r) (λaK bA aL m=>?_) ?_;rotate_left
  ·rintro bn bB ⟨aq,J,K,E,m⟩;have e:=Aj e E;cases m;simp[e]
  rcases Io e m with⟨e,m⟩|⟨e,m⟩;rotate_left
  ·simp[e];exact aL _ _ ⟨aU,N,O,by simp[e],m⟩
  have⟨bC,e,m⟩:=ep e m;simp[e];refine Cf (ue e.2) ?_;have⟨a',e,m⟩:=ep e m;simp[e];refine Cf (lx T e.2) ?_;simp[e];exact aL _ _ ⟨a',N,O,by simp[e],m⟩
 ·intro T H a0 a1 r hm;rw[ke] at hm;have e:=trivial;refine wi abf func223 [] [] 7 ?_;have⟨ba,e,m⟩:=ep e hm;have⟨a,aM,e,m⟩:=gq e m;simp[e];refine Cs (k.1 e.2) ?_;simp[e];rcases Io e m with⟨e,m⟩|⟨e,m⟩
  ·apply wg 999;cases m;simp[e]
  apply wg 4;simp[e];refine wj 999 3 (λf h=>∃(ar:Nat) (au:Nat) (P:Nat) (Q:Nat),h=H/\f.1 2=AV.eB 2 ar 0/\f.1 3=AV.eB 3 au 0/\f.1 4=AV.eB 4 P 0/\f.1 7=AV.eB 7 Q 0/\f.1 9=sI (fU (eH a1.aba 15) 7 5)/\f.gen 2=ar/\f.box 2=some [sL Fm.av a0.lemmas,sL Ty.av a0.abe,sL Fm.av a0.abh]/\f.gen 3=au/\f.box 3=some [sI a1.aba,sI a1.abd,sI a1.dv.aba,sL Ty.av a1.dv.abb,sL Tm.av a1.ek,sL Fm.av a1.fi,sL Pf.av a1.abb]/\f.gen 4=P/\f.box 4=some [sI 0,sI 0,AV.slice .full [],AV.slice .full [],AV.slice .full []]/\f.gen 7=Q/\f.box 7=some [sI a.eg.aba,sI a.eg.dv.aba,sL Ty.av a.eg.dv.abb,sL Tm.av a.eg.ek,sL Fm.av a.eg.abb,sL sI a.gp]) (λbD aw=>?_) ?_
  ·rcases Pb (eH a1.aba 15) e with e|e
   ·simp[e];exact aw _ _ ⟨1,1,1,1,by simp[e]⟩
   simp[e];exact aw _ _ ⟨1,1,1,1,by simp[e]⟩
  rintro aC h7 ⟨ar,au,P,Q,E⟩;have e:=Aj e E;simp[e];rcases Io e m with⟨e,m⟩|⟨e,m⟩
  ·apply wg 999;cases m;simp[e]
  apply wg 7;have⟨bj,e,m⟩:=ep e m;simp[e];refine Cf (lI e.2) ?_;simp[e];rcases Io e m with⟨e,m⟩|⟨e,m⟩
  ·apply wg 999;cases m;simp[e]
  apply wg 7;have⟨aZ,e,m⟩:=ep e m;simp[e];refine Cs (m_ e.2) ?_;have⟨aU,e,m⟩:=ep e m;have⟨bE,e,m⟩:=ep e m;simp[e];refine Cs (nB e.2) ?_;have⟨bF,e,m⟩:=ep e m;have⟨b,bb,e,m⟩:=gq e m;simp[e];refine Cs (k.1 e.2) ?_;simp[e];rcases Io e m with⟨e,m⟩|⟨e,m⟩
  ·apply wg 999;cases m;simp[e]
  apply wg 4;simp[e];refine Wj m 999 1 (λaN f h=>∃(v124:Int) (aa:Int) (ab:List Ty) (v127:List Tm) (ad:List Fm) (i:Nat) (j:Nat) (d:Nat) (g:Nat),(h=H/\f.1 4=AV.eB 4 i 0/\f.1 7=AV.eB 7 j 0/\f.1 9=sI (fU (eH a1.aba 15) 7 5)/\f.1 11=AV.eB 11 d 0/\f.1 12=AV.eB 12 g 0/\f.gen 4=i/\f.box 4=some [sI 0,sI 0,AV.slice .full [],AV.slice .full [],AV.slice .full []]/\f.gen 7=j/\f.box 7=some [sI a.eg.aba,sI a.eg.dv.aba,sL Ty.av a.eg.dv.abb,sL Tm.av a.eg.ek,sL Fm.av a.eg.abb,sL sI a.gp]/\f.gen 11=d/\f.box 11=some [sI b.eg.aba,sI b.eg.dv.aba,sL Ty.av b.eg.dv.abb,sL Tm.av b.eg.ek,sL Fm.av b.eg.abb,sL sI b.gp]/\f.gen 12=g/\f.box 12=some [sI v124,sI aa,sL Ty.av ab,sL Tm.av v127,sL Fm.av ad])/\aN v124 aa ab v127 ad=some r) (λaN bG ax m=>?_) ?_
  ·have⟨bH,e,m⟩:=ep e m;simp[e];refine Cf (DN e.2) ?_;rcases Io e m with⟨e,m⟩|⟨e,m⟩;rotate_left
   ·simp[e];exact ax _ _ ⟨b.eg.aba,b.eg.dv.aba,b.eg.dv.abb,b.eg.ek,b.eg.abb,P,Q,(aC.gen 11+1),(aC.gen 12+1),by simp[e],m⟩
   have⟨R,bI,e,m⟩:=gq e m;simp[e];refine Cf (GB e.2) ?_;rcases Io e m with⟨e,m⟩|⟨e,m⟩
   ·cases m;simp[e]
   have⟨bJ,e,m⟩:=ep e m;simp[e];refine Cf (DN e.2) ?_;rcases Io e m with⟨e,m⟩|⟨e,m⟩
   ·cases m;simp[e]
   simp[e];exact ax _ _ ⟨R.aba,R.dv.aba,R.dv.abb,R.ek,R.abb,P,Q,(aC.gen 11+1),(aC.gen 12+1),by simp[e],m⟩
  rintro bo bK ⟨v124,aa,ab,v127,ad,i,j,d,g,E,m⟩;have e:=Aj e E;simp[e];refine Wj m 999 999 (λaO f h=>∃(ay:Bool) (L:Nat) (M:Nat) (B:Nat) (C:Nat),(h=H/\f.1 4=AV.eB 4 L 0/\f.1 7=AV.eB 7 M 0/\f.1 11=AV.eB 11 B 0/\f.1 12=AV.eB 12 C 0/\f.1 87=sB ay/\f.gen 4=L/\f.box 4=some [sI 0,sI 0,AV.slice .full [],AV.slice .full [],AV.slice .full []]/\f.gen 7=M/\f.box 7=some [sI a.eg.aba,sI a.eg.dv.aba,sL Ty.av a.eg.dv.abb,sL Tm.av a.eg.ek,sL Fm.av a.eg.abb,sL sI a.gp]/\f.gen 11=B/\f.box 11=some [sI b.eg.aba,sI b.eg.dv.aba,sL Ty.av b.eg.dv.abb,sL Tm.av b.eg.ek,sL Fm.av b.eg.abb,sL sI b.gp]/\f.gen 12=C/\f.box 12=some [sI v124,sI aa,sL Ty.av ab,sL Tm.av v127,sL Fm.av ad])/\aO ay=some r) (λaO bL az m=>?_) ?_
  ·rcases Io e m with⟨e,m⟩|⟨e,m⟩;rotate_left
   ·simp[e];exact az _ _ ⟨false,i,j,d,g,by simp[e],m⟩
   have⟨bc,e,m⟩:=ep e m;simp[e];refine Cf (Ek e.2) ?_;simp[e];exact az _ _ ⟨bc,i,j,d,g,by simp[e],m⟩
  rintro bp bM ⟨ay,L,M,B,C,E,m⟩;have e:=Aj e E;rcases Io e m with⟨e,m⟩|⟨e,m⟩
  ·cases m;simp[e]
  have⟨bN,e,m⟩:=ep e m;simp[e];refine Cs (lh e.2) ?_;have⟨bO,e,m⟩:=ep e m;simp[e];refine Cs (pq e.2) ?_;have⟨bP,e,m⟩:=ep e m;simp[e];refine Cs (lx T e.2) ?_;cases m;simp[e]
 ·intro T H a0 a1 r hm;rw[nI] at hm;have e:=trivial;refine wi abf func224 [] [] 999 ?_;have⟨c,e,m⟩:=ep e hm;have⟨x4,e,m⟩:=ep e m;have⟨aA,e,m⟩:=ep e m;simp[e];refine Cs (hV e.2) ?_;have⟨e,m⟩:=Ck e m;simp[e];refine Ad (f:=Ty.av) a0.abe [aA] (iM.full (D:=[])) BV e.2 ?_;have⟨bd,e,m⟩:=ep e m;simp[e];refine Cs (ti e.2) ?_;rcases Io e m with⟨e,m⟩|⟨e,m⟩
  ·cases m;simp[e]
  have⟨ao,e,m⟩:=ep e m;simp[e];refine Cf (pD e.2) ?_;rcases Io e m with⟨e,m⟩|⟨e,m⟩
  ·cases m;simp[e]
  have⟨aP,e,m⟩:=ep e m;have⟨aQ,e,m⟩:=ep e m;simp[e];refine Cs (gR e.2) ?_;have⟨aR,aV,e,m⟩:=gq e m;simp[e];refine Cs (k.2.2.2.2.2.2.2.2.2.2 e.2) ?_;rcases Io e m with⟨e,m⟩|⟨e,m⟩
  ·cases m;simp[e]
  have⟨aS,e,m⟩:=ep e m;simp[e];refine Cf (lI e.2) ?_;rcases Io e m with⟨e,m⟩|⟨e,m⟩
  ·cases m;simp[e]
  have⟨bQ,e,m⟩:=ep e m;simp[e];refine Cs (hV e.2) ?_;have⟨bR,e,m⟩:=ep e m;simp[e];refine Cs (m_ e.2) ?_;have⟨bS,e,m⟩:=ep e m;simp[e];refine Cs (nB e.2) ?_;have⟨bT,e,m⟩:=ep e m;have⟨bU,e,m⟩:=ep e m;simp[e];refine Cs (lh e.2) ?_;have⟨bV,e,m⟩:=ep e m;simp[e];refine Cs (gr e.2) ?_;have⟨bW,e,m⟩:=ep e m;simp[e];refine Cs (gR e.2) ?_;have⟨bX,bY,e,m⟩:=gq e m;simp[e];refine Cs (k.2.2.2.2.2.2.2.2.2.2 e.2) ?_;rcases Io e m with⟨e,m⟩|⟨e,m⟩
  ·cases m;simp[e]
  have⟨bf,bZ,e,m⟩:=gq e m;simp[e];refine Cf (rE e.2) ?_;have⟨b0,e,m⟩:=ep e m;simp[e];refine Cs (ue e.2) ?_;have⟨b1,e,m⟩:=ep e m;simp[e];refine Cs (lx T e.2) ?_;have⟨b2,e,m⟩:=ep e m;simp[e];refine Cs (pq e.2) ?_;have⟨b3,e,m⟩:=ep e m;simp[e];refine Cs (lx T e.2) ?_;cases m;simp[e]
 ·intro T H a0 a1 r hm;rw[mi] at hm;have e:=trivial;refine wi abf func225 [] [] 999 ?_;have⟨c,e,m⟩:=ep e hm;have⟨x4,e,m⟩:=ep e m;have⟨aA,e,m⟩:=ep e m;simp[e];refine Cs (nw e.2) ?_;have⟨e,m⟩:=Ck e m;simp[e];refine Ad (f:=Ty.av) a0.abe [aA] (iM.full (D:=[])) BV e.2 ?_;have⟨bd,e,m⟩:=ep e m;simp[e];refine Cs (ti e.2) ?_;rcases Io e m with⟨e,m⟩|⟨e,m⟩
  ·cases m;simp[e]
  have⟨ao,e,m⟩:=ep e m;simp[e];refine Cf (pD e.2) ?_;rcases Io e m with⟨e,m⟩|⟨e,m⟩
  ·cases m;simp[e]
  have⟨aP,e,m⟩:=ep e m;have⟨aQ,e,m⟩:=ep e m;simp[e];refine Cs (gR e.2) ?_;have⟨aR,aV,e,m⟩:=gq e m;simp[e];refine Cs (k.2.2.2.2.2.2.2.2.2.2 e.2) ?_;rcases Io e m with⟨e,m⟩|⟨e,m⟩
  ·cases m;simp[e]
  have⟨aS,e,m⟩:=ep e m;simp[e];refine Cf (lI e.2) ?_;rcases Io e m with⟨e,m⟩|⟨e,m⟩
  ·cases m;simp[e]
  have⟨b4,e,m⟩:=ep e m;simp[e];refine Cs (hV e.2) ?_;have⟨bf,e,m⟩:=ep e m;simp[e];refine Cs (nw e.2) ?_;have⟨b5,e,m⟩:=ep e m;simp[e];refine Cs (m_ e.2) ?_;have⟨b6,e,m⟩:=ep e m;simp[e];refine Cs (lh e.2) ?_;have⟨b7,e,m⟩:=ep e m;simp[e];refine Cs (nB e.2) ?_;have⟨b8,e,m⟩:=ep e m;have⟨b9,e,m⟩:=ep e m;simp[e];refine Cs (lh e.2) ?_;have⟨b_,e,m⟩:=ep e m;simp[e];refine Cs (gr e.2) ?_;have⟨b',e,m⟩:=ep e m;simp[e];refine Cs (gr e.2) ?_;have⟨ca,e,m⟩:=ep e m;simp[e];refine Cs (gR e.2) ?_;have⟨cb,cc,e,m⟩:=gq e m;simp[e];refine Cs (k.2.2.2.2.2.2.2.2.2.2 e.2) ?_;rcases Io e m with⟨e,m⟩|⟨e,m⟩
  ·cases m;simp[e]
  have⟨cd,cf,e,m⟩:=gq e m;simp[e];refine Cf (rE e.2) ?_;have⟨cg,e,m⟩:=ep e m;simp[e];refine Cs (ue e.2) ?_;have⟨ch,e,m⟩:=ep e m;simp[e];refine Cs (lx T e.2) ?_;have⟨cj,e,m⟩:=ep e m;simp[e];refine Cs (pq e.2) ?_;have⟨ck,e,m⟩:=ep e m;simp[e];refine Cs (lx T e.2) ?_;cases m;simp[e]
 ·intro T H a0 a1 r hm;rw[mm] at hm;have e:=trivial;refine wi abf func227 [] [] 999 ?_;have⟨ae,e,m⟩:=ep e hm;have⟨aJ,e,m⟩:=ep e m;simp[e];refine Cs (hV e.2) ?_;have⟨e,m⟩:=Ck e m;simp[e];refine Ad (f:=Ty.av) a0.abe [aJ] (iM.full (D:=[])) BV e.2 ?_;have⟨bl,e,m⟩:=ep e m;simp[e];refine Cs (ti e.2) ?_;rcases Io e m with⟨e,m⟩|⟨e,m⟩
  ·cases m;simp[e]
  have⟨cm,e,m⟩:=ep e m;have⟨cn,ao,e,m⟩:=gq e m;simp[e];refine Cs (k.1 e.2) ?_;rcases Io e m with⟨e,m⟩|⟨e,m⟩
  ·cases m;simp[e]
  rcases Io e m with⟨e,m⟩|⟨e,m⟩
  ·cases m;simp[e]
  have⟨aP,e,m⟩:=ep e m;have⟨aQ,e,m⟩:=ep e m;have⟨aR,aV,e,m⟩:=gq e m;simp[e];refine Cs (k.2.2.2.2.2.2.2.2.2.2 e.2) ?_;rcases Io e m with⟨e,m⟩|⟨e,m⟩
  ·cases m;simp[e]
  have⟨cp,e,m⟩:=ep e m;have⟨cq,cr,e,m⟩:=gq e m;simp[e];refine Cs (rE e.2) ?_;cases m;simp[e]
 ·intro T H a0 a1 r hm;rw[lP] at hm;have e:=trivial;refine wi abf func228 [] [] 7 ?_;have⟨ba,e,m⟩:=ep e hm;have⟨a,aM,e,m⟩:=gq e m;simp[e];refine Cs (k.1 e.2) ?_;simp[e];rcases Io e m with⟨e,m⟩|⟨e,m⟩
  ·apply wg 999;cases m;simp[e]
  apply wg 3;simp[e];refine Wj m 999 999 (λaT f h=>∃(aW:Bool) (Y:Nat) (Z:Nat),(h=H/\f.1 4=AV.eB 4 Y 0/\f.1 7=AV.eB 7 Z 0/\f.1 38=sB aW/\f.gen 4=Y/\f.box 4=some [sI 0,sI 0,AV.slice .full [],AV.slice .full [],AV.slice .full []]/\f.gen 7=Z/\f.box 7=some [sI a.eg.aba,sI a.eg.dv.aba,sL Ty.av a.eg.dv.abb,sL Tm.av a.eg.ek,sL Fm.av a.eg.abb,sL sI a.gp])/\aT aW=some r) (λaT dZ aB m=>?_) ?_
  ·rcases Io e m with⟨e,m⟩|⟨e,m⟩
   ·simp[e];exact aB _ _ ⟨true,1,1,by simp[e],m⟩
   have⟨bg,e,m⟩:=ep e m;simp[e];exact aB _ _ ⟨(eW bg.aba 5),1,1,by simp[e],m⟩
  rintro cu d_ ⟨aW,Y,Z,E,m⟩;have e:=Aj e E;rcases Io e m with⟨e,m⟩|⟨e,m⟩
  ·cases m;simp[e]
  have⟨aI,e,m⟩:=ep e m;have⟨cw,e,m⟩:=ep e m;simp[e];refine Cf (oF e.2) ?_;have⟨cx,e,m⟩:=ep e m;simp[e];refine Cf (pw e.2) ?_;rcases Io e m with⟨e,m⟩|⟨e,m⟩
  ·cases m;simp[e]
  have⟨cy,e,m⟩:=ep e m;have⟨bb,e,m⟩:=ep e m;simp[e];refine Cf (lh e.2) ?_;have⟨a7,e,m⟩:=ep e m;simp[e];refine Cf (gr e.2) ?_;have⟨cz,e,m⟩:=ep e m;simp[e];refine Cf (gr e.2) ?_;have⟨cA,e,m⟩:=ep e m;simp[e];refine Cf (gR e.2) ?_;have⟨cB,cD,e,m⟩:=gq e m;simp[e];refine Cf (rE e.2) ?_;have⟨cE,e,m⟩:=ep e m;simp[e];refine Cs (nk e.2) ?_;have⟨aS,e,m⟩:=ep e m;simp[e];refine Cs (nk e.2) ?_;cases m;simp[e]
 ·intro T H a0 a1 a2 a3 r hm;rw[fw] at hm;have e:=trivial;refine wi abf func262 [] [] 999 ?_;have⟨cF,x1,e,m⟩:=gq e hm;simp[e];refine Cf (k.1 e.2) ?_;rcases Io e m with⟨e,m⟩|⟨e,m⟩
  ·cases m;simp[e]
  have⟨cG,cH,e,m⟩:=gq e m;simp[e];refine Cf (rE e.2) ?_;rcases Io e m with⟨e,m⟩|⟨e,m⟩
  ·cases m;simp[e]
  have⟨aM,e,m⟩:=ep e m;simp[e];refine Cs (AE e.2) ?_;cases m;simp[e]
def yp{n:Nat}:C2 prog 86 (eK n) (t2 rN.av sI) ej.av Pf.av:=(xW n).1
def pt:C3 prog 24 jL (t2 rN.av sI) (sL Fm.av) Sq.av Pf.av:=by
 intro T H a0 a1 a2 r hm;rw[jL] at hm;have e:=trivial;refine wi abf func24 [] [] 999 ?_;have⟨b,e,m⟩:=ep e hm;simp[e];refine Cf (Et e.2) ?_;rcases Io e m with⟨e,m⟩|⟨e,m⟩
 ·cases m;simp[e]
 have⟨c,e,m⟩:=ep e m;simp[e];refine Cf (Ax e.2) ?_;rcases Io e m with⟨e,m⟩|⟨e,m⟩
 ·cases m;simp[e]
 have⟨a,d,e,m⟩:=gq e m;simp[e];refine Cf (yp e.2) ?_;rcases Io e m with⟨e,m⟩|⟨e,m⟩
 ·cases m;simp[e]
 have⟨g,e,m⟩:=ep e m;simp[e];refine Cs (kO e.2) ?_;have⟨e,m⟩:=Ck e m;simp[e];refine Ad (f:=sI) [] a.gp (iM.full (D:=[])) PL e.2 ?_;cases m;simp[e]
def tc:C2 prog 67 p7 Sq.av Sq.av (sL Ty.av):=by
 intro T H a0 a1 r hm;rw[p7] at hm;have e:=trivial;refine wi abf func67 [] [] 999 ?_;have⟨n,e,m⟩:=ep e hm;simp[e];refine Cf (oB e.2) ?_;simp[e];refine Wr e m 999 (λl g f h=>∃(a:Tag) (b:Nat) (c:Nat),(h=H/\f.1 1=sL Ty.av a1/\f.1 4=AV.eB 4 b 0/\f.1 5=AV.eB 5 c 0/\f.1 14=sL Fm.av a0.abh/\f.1 15=sI (eM a0.abh)/\f.1 16=sI l/\f.gen 4=b/\f.box 4=some [AV.slice .full [],AV.slice .full []]/\f.gen 5=c/\f.box 5=some [sL Ty.av n,sT a Fm.av g])/\Ow f [27] a g) (by exact⟨.full,1,1,by simp[e],iM.full⟩) (λg i o p E m=>?_) (λl q g i o p s t E e m z9 j=>?_)
 ·have⟨a,b,c,E,d⟩:=E;have e:=Aj e E;dsimp only[en]at m;cases m;simp[e]
 have⟨a,b,c,E,d⟩:=E;have e:=Aj e E;have⟨k,e,m⟩:=ep e m;simp[e];refine Cs (lh e.2) ?_;have⟨e,m⟩:=Ck e m;simp[e];refine Ad (f:=Fm.av) g [k] d Cl e.2 ?_;simp[e];cases m;exact j _ _ _ ⟨(.loc 27 (i.fN 27+1)),b,c,by simp[e],(On 27)⟩ z9
def sW:C3 prog 36 qW Pf.av sI Tm.av Pf.av:=by
 intro T H a0 a1 a2 r hm;rw[qW] at hm;have e:=trivial;refine wi abf func36 [] [] 999 ?_;have⟨a,e,m⟩:=ep e hm;simp[e];refine Cf (ov e.2) ?_;have⟨b,e,m⟩:=ep e m;simp[e];refine Cf (mx e.2) ?_;have e:=Aj e (show AV.agg [sI a.aba,sI a.abd,sI a.dv.aba,sL Ty.av a.dv.abb,AV.slice .iN [Tm.av b],sL Fm.av a.fi,sL Pf.av a.abb]=Pf.av (Pf.mk a.aba a.abd a.dv [b] a.fi a.abb) by rw[Pf.fL];rfl);have e:=Aj e (show AV.agg [sI a.aba,sI a.abd,sI a.dv.aba,sL Ty.av a.dv.abb,AV.slice .iN [Tm.av b],sL Fm.av a.fi,sL Pf.av a.abb]=Pf.av (Pf.mk a.aba a.abd a.dv [b] a.fi a.abb) by rw[Pf.fL];rfl);have e:=Aj e (show AV.agg [sI a.aba,sI a.abd,sI a.dv.aba,sL Ty.av a.dv.abb,AV.slice .iN [Tm.av b],sL Fm.av a.fi,sL Pf.av a.abb]=Pf.av (Pf.mk a.aba a.abd a.dv [b] a.fi a.abb) by rw[Pf.fL];rfl);cases m;simp[e]
section
attribute [-simp] Go.mS.Be
@[local simp] theorem ZS(x:Fm):Be prog 46 x.av 2=some (sL Tm.av x.ek):=by rw[Fm.gV];kernel_rfl
def ox:C1 prog 68 j0 Tm.av Tm.av:=by
 intro T H a0 r hm;rw[j0] at hm;have e:=trivial;refine wi abf func68 [] [] 999 ?_;have⟨a,e,m⟩:=ep e hm;simp[e];refine Cf (nY e.2) ?_;have⟨b,e,m⟩:=ep e m;simp[e];refine Cf (lh e.2) ?_;have⟨c,e,m⟩:=ep e m;cases m;simp[e]
end
def xB:C4 prog 49 tw Pf.av sI Fm.av Tm.av Pf.av:=by
 intro T H a0 a1 a2 a3 r hm;rw[tw] at hm;have e:=trivial;refine wi abf func49 [] [] 999 ?_;have⟨a,e,m⟩:=ep e hm;simp[e];refine Cf (sW e.2) ?_;have⟨b,e,m⟩:=ep e m;simp[e];refine Cf (kO e.2) ?_;have e:=Aj e (show AV.agg [sI a.aba,sI a.abd,sI a.dv.aba,sL Ty.av a.dv.abb,sL Tm.av a.ek,AV.slice .iN [Fm.av b],sL Pf.av a.abb]=Pf.av (Pf.mk a.aba a.abd a.dv a.ek [b] a.abb) by rw[Pf.fL];rfl);have e:=Aj e (show AV.agg [sI a.aba,sI a.abd,sI a.dv.aba,sL Ty.av a.dv.abb,sL Tm.av a.ek,AV.slice .iN [Fm.av b],sL Pf.av a.abb]=Pf.av (Pf.mk a.aba a.abd a.dv a.ek [b] a.abb) by rw[Pf.fL];rfl);have e:=Aj e (show AV.agg [sI a.aba,sI a.abd,sI a.dv.aba,sL Ty.av a.dv.abb,sL Tm.av a.ek,AV.slice .iN [Fm.av b],sL Pf.av a.abb]=Pf.av (Pf.mk a.aba a.abd a.dv a.ek [b] a.abb) by rw[Pf.fL];rfl);cases m;simp[e]
def GD(T:fg){H:eD}{a0:Int}{a1:Fm}{a2:Tm}{a3 a:Pf}{f0:Fm}(hm:r' a0 a1 a2 a3=some (a,f0)):e9 prog T 49 [sI a0,Fm.av a1,Tm.av a2,Pf.av a3] H (AV.agg [sI a.aba,sI a.abd,sI a.dv.aba,sL Ty.av a.dv.abb,sL Tm.av a.ek,AV.yZ (List.length H) 0 1 1,sL Pf.av a.abb]) (H++[[sI f0.aba,sI f0.dv.aba,sL Ty.av f0.dv.abb,sL Tm.av f0.ek,sL Fm.av f0.abb]]):=by
 rw[r'] at hm;have e:=trivial;refine wi abf func49 [16] [] 999 ?_;have⟨b,e,m⟩:=ep e hm;simp[e];refine Cf (sW e.2) ?_;have⟨c,e,m⟩:=ep e m;simp[e];refine Cf (kO e.2) ?_;cases m;simp[e]
def G9(T:fg){H:eD}{a0:eu}{a1:Sq}{a:Pf}{f0:Fm}{b:eu}{d:Nat}(c:H[d]?=some [sL sI a0.l,sI a0.pg])(hm:tJ a0 a1=some (a,f0,b)):e9 prog T 74 [AV.fE d 0,Sq.av a1] H (AV.agg [sI a.aba,sI a.abd,sI a.dv.aba,sL Ty.av a.dv.abb,sL Tm.av a.ek,AV.yZ (List.length H) 0 1 1,sL Pf.av a.abb]) ((gj H d [sL sI b.l,sI b.pg])++[[sI f0.aba,sI f0.dv.aba,sL Ty.av f0.dv.abb,sL Tm.av f0.ek,sL Fm.av f0.abb]]):=by
 rw[tJ] at hm;have f:=f_ c;refine fH.I8 c ?_;have e:=f;refine wi abf func74 [] [] 999 ?_;have⟨h,e,m⟩:=ep e hm;simp[e];refine Cf (hV e.2) ?_;have⟨i,d3,e,m⟩:=gq e m;simp[e];refine Cf (lp T (by simp[e]) e.2) ?_;have⟨j,e,m⟩:=ep e m;simp[e];refine Cs (ox e.2) ?_;have⟨k,e,m⟩:=ep e m;simp[e];refine Cs (gr e.2) ?_;have⟨n,e,m⟩:=ep e m;simp[e];refine Cs (nY e.2) ?_;have⟨o,e,m⟩:=ep e m;simp[e];refine Cs (nk e.2) ?_;have⟨p,e,m⟩:=ep e m;simp[e];refine Cs (lz e.2) ?_;have⟨q,g,e,m⟩:=gq e m;simp[e];refine Cs (GD T e.2) ?_;cases m;simp[e]
def tE:C1 prog 57 np Pf.av sI:=by
 intro T H a0 r hm;rw[np] at hm;have e:=trivial;refine wi abf func57 [] [] 999 ?_;cases hm;simp[e]
def zj:C5 prog 70 sX Pf.av sI Fm.av Tm.av Pf.av Pf.av:=by
 intro T H a0 a1 a2 a3 a4 r hm;rw[sX] at hm;have e:=trivial;refine wi abf func70 [] [] 999 ?_;have⟨a,e,m⟩:=ep e hm;simp[e];refine Cf (ov e.2) ?_;have⟨b,e,m⟩:=ep e m;simp[e];refine Cf (mx e.2) ?_;have⟨c,e,m⟩:=ep e m;simp[e];refine Cf (kO e.2) ?_;have e:=Aj e (show AV.agg [sI a.aba,sI a.abd,sI a.dv.aba,sL Ty.av a.dv.abb,AV.slice .iN [Tm.av b],AV.slice .iN [Fm.av c],sL Pf.av a.abb]=Pf.av (Pf.mk a.aba a.abd a.dv [b] [c] a.abb) by rw[Pf.fL];rfl);have e:=Aj e (show AV.agg [sI a.aba,sI a.abd,sI a.dv.aba,sL Ty.av a.dv.abb,AV.slice .iN [Tm.av b],AV.slice .iN [Fm.av c],sL Pf.av a.abb]=Pf.av (Pf.mk a.aba a.abd a.dv [b] [c] a.abb) by rw[Pf.fL];rfl);have e:=Aj e (show AV.agg [sI a.aba,sI a.abd,sI a.dv.aba,sL Ty.av a.dv.abb,AV.slice .iN [Tm.av b],AV.slice .iN [Fm.av c],sL Pf.av a.abb]=Pf.av (Pf.mk a.aba a.abd a.dv [b] [c] a.abb) by rw[Pf.fL];rfl);cases m;simp[e]
def A1:C2 prog 234 u7 Tm.av Tm.av sI:=by
 intro T H a0 a1 r hm;rw[u7] at hm;have e:=trivial;refine wi abf func234 [] [] 999 ?_;have⟨a,e,m⟩:=ep e hm;simp[e];refine Cf (AU e.2) ?_;cases m;simp[e]
def Av:C3 prog 73 rS Pf.av Fm.av Pf.av Pf.av:=by
 intro T H a0 a1 a2 r hm;rw[rS] at hm;have e:=trivial;refine wi abf func73 [] [] 999 ?_;have⟨a,e,m⟩:=ep e hm;simp[e];refine Cf (ov e.2) ?_;have⟨b,e,m⟩:=ep e m;simp[e];refine Cf (kO e.2) ?_;have e:=Aj e (show AV.agg [sI a.aba,sI a.abd,sI a.dv.aba,sL Ty.av a.dv.abb,sL Tm.av a.ek,AV.slice .iN [Fm.av b],sL Pf.av a.abb]=Pf.av (Pf.mk a.aba a.abd a.dv a.ek [b] a.abb) by rw[Pf.fL];rfl);have e:=Aj e (show AV.agg [sI a.aba,sI a.abd,sI a.dv.aba,sL Ty.av a.dv.abb,sL Tm.av a.ek,AV.slice .iN [Fm.av b],sL Pf.av a.abb]=Pf.av (Pf.mk a.aba a.abd a.dv a.ek [b] a.abb) by rw[Pf.fL];rfl);have e:=Aj e (show AV.agg [sI a.aba,sI a.abd,sI a.dv.aba,sL Ty.av a.dv.abb,sL Tm.av a.ek,AV.slice .iN [Fm.av b],sL Pf.av a.abb]=Pf.av (Pf.mk a.aba a.abd a.dv a.ek [b] a.abb) by rw[Pf.fL];rfl);cases m;simp[e]
def Ks:C3 prog 180 u0 Pf.av Tm.av Tm.av Pf.av:=by
 intro T H a0 a1 a2 r hm;rw[u0] at hm;have e:=trivial;refine wi abf func180 [] [] 999 ?_;have⟨b,e,m⟩:=ep e hm;simp[e];refine Cs (A1 e.2) ?_;have⟨c,e,m⟩:=ep e m;simp[e];refine Cs (A1 e.2) ?_;have⟨d,e,m⟩:=ep e m;simp[e];refine Cs (gR e.2) ?_;have⟨f,e,m⟩:=ep e m;simp[e];refine Cs (A1 e.2) ?_;have⟨g,e,m⟩:=ep e m;simp[e];refine Cs (gr e.2) ?_;have⟨h,e,m⟩:=ep e m;simp[e];refine Cs (gR e.2) ?_;have⟨i,e,m⟩:=ep e m;simp[e];refine Cs (nY e.2) ?_;have⟨j,e,m⟩:=ep e m;simp[e];refine Cs (gR e.2) ?_;have⟨k,e,m⟩:=ep e m;simp[e];refine Cs (lz e.2) ?_;have⟨a,e,m⟩:=ep e m;simp[e];refine Cs (Av e.2) ?_;cases m;simp[e]
def FR:C3 prog 181 r7 sI (sL Tm.av) (sL Fm.av) (sL Pf.av):=by
 intro T H a0 a1 a2 r hm;rw[r7] at hm;have e:=trivial;refine wi abf func181 [] [] 999 ?_;simp[e];refine Wr e hm 999 (λu s2 f h=>h=H/\f.1 1=sL Fm.av a1/\f.1 2=sL Pf.av a2/\f.1 16=sL Tm.av a0/\f.1 17=sI (eM a0)/\f.1 18=sI u) (by simp[e]) (λs2 n w x E m=>?_) (λu J s2 n w x n6 K E e m v o=>?_);rotate_left
 ·have e:=Aj e E;have⟨y,e,m⟩:=ep e m;simp[e];refine Cf (nW e.2) ?_;rcases Io e m with⟨e,m⟩|⟨e,m⟩
  ·cases m;cases v;simp[e]
  simp[e];cases m;exact o _ _ _ (by simp[e]) v
 have e:=Aj e E;dsimp only[en]at m;simp[e];refine Wr e m 999 (λa b f h=>h=H/\f.1 2=sL Pf.av a2/\f.1 28=sL Fm.av a1/\f.1 29=sI (eM a1)/\f.1 30=sI a) (by simp[e]) (λb c p q E m=>?_) (λa z b c p q A B E e m d g=>?_);rotate_left
 ·have e:=Aj e E;have⟨C,e,m⟩:=ep e m;simp[e];refine Cf (nT e.2) ?_;rcases Io e m with⟨e,m⟩|⟨e,m⟩
  ·cases m;cases d;simp[e]
  simp[e];cases m;exact g _ _ _ (by simp[e]) d
 have e:=Aj e E;dsimp only[en]at m;simp[e];refine Wr e m 999 (λi j f h=>h=H/\f.1 40=sL Pf.av a2/\f.1 41=sI (eM a2)/\f.1 42=sI i) (by simp[e]) (λj k s t E m=>?_) (λi D j k s t F G E e m z28 l=>?_)
 ·have e:=Aj e E;dsimp only[en]at m;cases m;simp[e]
 have e:=Aj e E;have⟨I,e,m⟩:=ep e m;simp[e];refine Cf (Ax e.2) ?_;rcases Io e m with⟨e,m⟩|⟨e,m⟩
 ·cases m;cases z28;simp[e]
 simp[e];cases m;exact l _ _ _ (by simp[e]) z28
def Hp:C2 prog 179 tH (t2 Pf.av sI) Pf.av sI:=by
 intro T H a0 a1 r hm;rw[tH] at hm;have e:=trivial;refine wi abf func179 [] [] 999 ?_;rcases Io e hm with⟨e,m⟩|⟨e,m⟩
 ·cases m;simp[e]
 have⟨a,e,m⟩:=ep e m;simp[e];refine Cf (BM e.2) ?_;rcases Io e m with⟨e,m⟩|⟨e,m⟩;rotate_left
 ·cases m;simp[e]
 have⟨b,e,m⟩:=ep e m;simp[e];refine Cf (CD e.2) ?_;cases m;simp[e]
def Jq:C4 prog 132 vo (t2 Pf.av sI) Tm.av Tm.av Tm.av Pf.av:=by
 intro T H a0 a1 a2 a3 r hm;rw[vo] at hm;have e:=trivial;refine wi abf func132 [] [] 999 ?_;have⟨a,e,m⟩:=ep e hm;simp[e];refine Cs (Ks e.2) ?_;have⟨b,e,m⟩:=ep e m;simp[e];refine Cs (FR e.2) ?_;have⟨c,d,e,m⟩:=gq e m;simp[e];refine Cs (Hp e.2) ?_;cases m;simp[e]
def MQ:C1 prog 72 za Pf.av Tm.av:=by
 intro T H a0 r hm;rw[za] at hm;have e:=trivial;refine wi abf func72 [] [] 999 ?_;have⟨j,e,m⟩:=ep e hm;simp[e];refine Cf (Bw e.2) ?_;have⟨k,e,m⟩:=ep e m;simp[e];refine Cf (zA e.2) ?_;have⟨l,e,m⟩:=ep e m;simp[e];refine Cf (gr e.2) ?_;have⟨n,e,m⟩:=ep e m;simp[e];refine Cf (Gf e.2) ?_;have⟨o,e,m⟩:=ep e m;simp[e];refine Cs (gr e.2) ?_;have⟨p,e,m⟩:=ep e m;simp[e];refine Cs (nY e.2) ?_;have⟨q,e,m⟩:=ep e m;simp[e];refine Cs (hV e.2) ?_;have⟨s,e,m⟩:=ep e m;simp[e];refine Cs (gr e.2) ?_;have⟨t,e,m⟩:=ep e m;simp[e];refine Cs (gR e.2) ?_;have⟨a,e,m⟩:=ep e m;simp[e];refine Cs (l5 e.2) ?_;have⟨b,e,m⟩:=ep e m;simp[e];refine Cs (gr e.2) ?_;have⟨c,e,m⟩:=ep e m;simp[e];refine Cs (tE e.2) ?_;have⟨d,f,e,m⟩:=gq e m;simp[e];refine Cs (Jq e.2) ?_;have⟨g,e,m⟩:=ep e m;simp[e];refine Cs (zA e.2) ?_;have⟨h,e,m⟩:=ep e m;simp[e];refine Cs (lz e.2) ?_;have⟨i,e,m⟩:=ep e m;simp[e];refine Cs (zj e.2) ?_;cases m;simp[e]
def O8(T:fg){H:eD}{a0:eu}{a1:Sq}{f:Pf}{a:eu}{c:Nat}(b:H[c]?=some [sL sI a0.l,sI a0.pg])(hm:Cb a0 a1=some (f,a)):e9 prog T 74 [AV.fE c 0,Sq.av a1] H (Pf.av f) (gj H c [sL sI a.l,sI a.pg]):=by
 rw[Cb] at hm;have d:=f_ b;refine fH.I8 b ?_;have e:=d;refine wi abf func74 [] [] 999 ?_;have⟨g,e,m⟩:=ep e hm;simp[e];refine Cf (hV e.2) ?_;have⟨h,d3,e,m⟩:=gq e m;simp[e];refine Cf (lp T (by simp[e]) e.2) ?_;have⟨i,e,m⟩:=ep e m;simp[e];refine Cs (ox e.2) ?_;have⟨j,e,m⟩:=ep e m;simp[e];refine Cs (gr e.2) ?_;have⟨k,e,m⟩:=ep e m;simp[e];refine Cs (nY e.2) ?_;have⟨n,e,m⟩:=ep e m;simp[e];refine Cs (nk e.2) ?_;have⟨o,e,m⟩:=ep e m;simp[e];refine Cs (lz e.2) ?_;have⟨p,e,m⟩:=ep e m;simp[e];refine Cs (xB e.2) ?_;cases m;simp[e]
def Ly(T:fg):∀(n:Nat),(∀{H:eD} {a0:eu} {a1:List Fm} {a2:Sq} {a3:Int} {N:Pf} {j:eu} {y:Nat} (D:H[y]?=some [sL sI a0.l,sI a0.pg]) (hm:jo n a0 a1 a2 a3=some (N,j)),e9 prog T 19 [AV.fE y 0,sL Fm.av a1,Sq.av a2,sI a3] H (Pf.av N) (gj H y [sL sI j.l,sI j.pg]))/\(∀{H:eD} {a0:eu} {a1:List Fm} {a2:Sq} {a3:Int} {N:Pf} {j:eu} {y:Nat} (D:H[y]?=some [sL sI a0.l,sI a0.pg]) (hm:w6 n a0 a1 a2 a3=some (N,j)),e9 prog T 69 [AV.fE y 0,sL Fm.av a1,Sq.av a2,sI a3] H (Pf.av N) (gj H y [sL sI j.l,sI j.pg])):=by
  intro n
  induction n with
  |zero=>
    refine⟨?_,?_⟩
    all_goals(intro _ _;intros;rename_i hm;cases hm)
  |succ n C=>
 refine⟨?_,?_⟩
 ·intro H a0 a1 a2 a3 N j y D hm;rw[jo] at hm;have ad:=f_ D;refine fH.I8 D ?_;have e:=ad;refine wi abf func19 [] [] 4 ?_;have⟨x1,e,m⟩:=ep e hm;simp[e];refine Cf (hV e.2) ?_;simp[e];refine Wj m 0 0 (λj2 f h=>∃(v3:eu) (u:Nat) (v:Nat) (w:Nat),(h=gj H y [sL sI v3.l,sI v3.pg]/\f.1 0=AV.fE y 0/\f.1 1=sL Fm.av a1/\f.1 6=AV.eB 6 u 0/\f.1 8=AV.eB 8 v 0/\f.1 9=AV.eB 9 w 0/\f.gen 6=u/\f.box 6=some [sL Ty.av a2.abe,sL Fm.av a2.abh]/\f.gen 8=v/\f.box 8=some [sI 0,sI 0,sI 0,AV.slice .full [],AV.slice .full [],AV.slice .full [],AV.slice .full []]/\f.gen 9=w/\f.box 9=some [sI x1.aba,sL Ty.av x1.abb])/\j2 v3=some (N,j)) (λj2 K4 M m=>?_) ?_;rotate_left
  ·rintro bA h6 ⟨v3,u,v,w,E,m⟩;have e:=Aj e E;refine Wj m 999 999 (λj7 f h=>∃(v8:eu) (F:Nat) (G:Nat) (I:Nat),(h=gj H y [sL sI v8.l,sI v8.pg]/\f.1 0=AV.fE y 0/\f.1 6=AV.eB 6 F 0/\f.1 8=AV.eB 8 G 0/\f.1 9=AV.eB 9 I 0/\f.gen 6=F/\f.box 6=some [sL Ty.av a2.abe,sL Fm.av a2.abh]/\f.gen 8=G/\f.box 8=some [sI 0,sI 0,sI 0,AV.slice .full [],AV.slice .full [],AV.slice .full [],AV.slice .full []]/\f.gen 9=I/\f.box 9=some [sI x1.aba,sL Ty.av x1.abb])/\j7 v8=some (N,j)) (λj7 K9 O m=>?_) ?_;rotate_left
   ·rintro aq bB ⟨v8,F,G,I,E,m⟩;have e:=Aj e E;have⟨bC,d13,e,m⟩:=gq e m;simp[e];refine Cf (lp T (by simp[e]) e.2) ?_;have⟨bD,e,m⟩:=ep e m;simp[e];refine Cf (lz e.2) ?_;cases m;simp[e]
   have⟨bE,d16,e,m⟩:=gq e m;simp[e];refine Cf (fY T (by simp[e]) e.2) ?_;rcases Io e m with⟨e,m⟩|⟨e,m⟩
   ·rcases Io e m with⟨e,m⟩|⟨e,m⟩;rotate_left
    ·simp[e];exact O _ _ ⟨d16,u,v,w,by simp[e],m⟩
    have⟨bF,d18,e,m⟩:=gq e m;simp[e];refine Cf (fY T (by simp[e]) e.2) ?_;have⟨bG,e,m⟩:=ep e m;simp[e];refine Cf (tE e.2) ?_;cases m;simp[e]
   rcases Io e m with⟨e,m⟩|⟨e,m⟩;rotate_left
   ·simp[e];exact O _ _ ⟨d16,u,v,w,by simp[e],m⟩
   rcases Io e m with⟨e,m⟩|⟨e,m⟩;rotate_left
   ·simp[e];exact O _ _ ⟨d16,u,v,w,by simp[e],m⟩
   have⟨bH,d21,e,m⟩:=gq e m;simp[e];refine Cf (fY T (by simp[e]) e.2) ?_;cases m;simp[e]
  refine wj 999 999 (λf h=>∃(c:Nat) (g:Nat) (i:Nat),h=gj H y [sL sI a0.l,sI a0.pg]/\f.1 0=AV.fE y 0/\f.1 1=sL Fm.av a1/\f.1 3=sI a3/\f.1 6=AV.eB 6 c 0/\f.1 8=AV.eB 8 g 0/\f.1 9=AV.eB 9 i 0/\f.1 50=sB (fU (nS a3 0) (fU (tW (eM a2.abe) 10) (tW (eM a2.abh) 10) false) false)/\f.gen 6=c/\f.box 6=some [sL Ty.av a2.abe,sL Fm.av a2.abh]/\f.gen 8=g/\f.box 8=some [sI 0,sI 0,sI 0,AV.slice .full [],AV.slice .full [],AV.slice .full [],AV.slice .full []]/\f.gen 9=i/\f.box 9=some [sI x1.aba,sL Ty.av x1.abb]) (λbI P=>?_) ?_
  ·rcases Pb (nS a3 0) e with e|e;rotate_left
   ·simp[e];exact P _ _ ⟨1,1,1,by simp[e]⟩
   rcases Pb (tW (eM a2.abe) 10) e with e|e
   ·simp[e];exact P _ _ ⟨1,1,1,by simp[e]⟩
   simp[e];exact P _ _ ⟨1,1,1,by simp[e]⟩
  rintro ar bJ ⟨c,g,i,E⟩;have e:=Aj e E;rcases Io e m with⟨e,m⟩|⟨e,m⟩;rotate_left
  ·simp[e];exact M _ _ ⟨a0,c,g,i,by simp[e],m⟩
  have⟨bK,d26,e,m⟩:=gq e m;simp[e];refine Cf (fY T (by simp[e]) e.2) ?_;rcases Io e m with⟨e,m⟩|⟨e,m⟩
  ·have⟨bL,d28,e,m⟩:=gq e m;simp[e];refine Cs (C.1 (by simp[e]) e.2) ?_;have⟨bM,d30,e,m⟩:=gq e m;simp[e];refine Cs (C.1 (by simp[e]) e.2) ?_;have⟨bN,e,m⟩:=ep e m;simp[e];refine Cs (ov e.2) ?_;cases m;simp[e]
  rcases Io e m with⟨e,m⟩|⟨e,m⟩
  ·have⟨bO,d33,e,m⟩:=gq e m;simp[e];refine Cs (fY T (by simp[e]) e.2) ?_;have⟨bP,d35,e,m⟩:=gq e m;simp[e];refine Cs (C.1 (by simp[e]) e.2) ?_;have⟨bQ,d37,e,m⟩:=gq e m;simp[e];refine Cs (C.1 (by simp[e]) e.2) ?_;have⟨bR,e,m⟩:=ep e m;simp[e];refine Cs (ov e.2) ?_;have⟨bS,e,m⟩:=ep e m;simp[e];refine Cs (ov e.2) ?_;cases m;simp[e]
  rcases Io e m with⟨e,m⟩|⟨e,m⟩
  ·have⟨bT,d41,e,m⟩:=gq e m;simp[e];refine Cf (x0 T (by simp[e]) e.2) ?_;have⟨bU,e,m⟩:=ep e m;simp[e];refine Cs (De e.2) ?_;have⟨bV,d44,e,m⟩:=gq e m;simp[e];refine Cs (C.1 (by simp[e]) e.2) ?_;have⟨bW,e,m⟩:=ep e m;simp[e];refine Cs (D3 e.2) ?_;cases m;simp[e]
  rcases Io e m with⟨e,m⟩|⟨e,m⟩
  ·have⟨bX,d47,e,m⟩:=gq e m;simp[e];refine Cf (C.1 (by simp[e]) e.2) ?_;have⟨bY,bZ,e,m⟩:=gq e m;simp[e];refine Cf (pt e.2) ?_;rcases Io e m with⟨e,m⟩|⟨e,m⟩;rotate_left
   ·simp[e];exact M _ _ ⟨d47,c,g,i,by simp[e],m⟩
   have⟨b0,e,m⟩:=ep e m;simp[e];refine Cs (De e.2) ?_;have⟨b1,d52,e,m⟩:=gq e m;simp[e];refine Cs (C.1 (by simp[e]) e.2) ?_;have⟨b2,e,m⟩:=ep e m;simp[e];refine Cs (D3 e.2) ?_;have⟨b3,e,m⟩:=ep e m;simp[e];refine Cs (ov e.2) ?_;cases m;simp[e]
  rcases Io e m with⟨e,m⟩|⟨e,m⟩
  ·have⟨b4,d56,e,m⟩:=gq e m;simp[e];refine Cf (lW T (by simp[e]) e.2) ?_;have⟨b5,e,m⟩:=ep e m;simp[e];refine Cs (tc e.2) ?_;have⟨b6,d59,e,m⟩:=gq e m;simp[e];refine Cs (C.1 (by simp[e]) e.2) ?_;have⟨b7,e,m⟩:=ep e m;simp[e];refine Cs (mB e.2) ?_;cases m;simp[e]
  rcases Io e m with⟨e,m⟩|⟨e,m⟩
  ·have⟨b8,d62,e,m⟩:=gq e m;simp[e];refine Cf (lW T (by simp[e]) e.2) ?_;have⟨b9,d64,e,m⟩:=gq e m;simp[e];refine Cs (lp T (by simp[e]) e.2) ?_;have⟨b_,e,m⟩:=ep e m;simp[e];refine Cs (tc e.2) ?_;have⟨b',d67,e,m⟩:=gq e m;simp[e];refine Cs (C.1 (by simp[e]) e.2) ?_;have⟨ca,e,m⟩:=ep e m;simp[e];refine Cs (mB e.2) ?_;have⟨cb,e,m⟩:=ep e m;simp[e];refine Cs (sW e.2) ?_;cases m;simp[e]
  rcases Io e m with⟨e,m⟩|⟨e,m⟩
  ·have⟨cc,d71,e,m⟩:=gq e m;simp[e];refine Cf (lp T (by simp[e]) e.2) ?_;have⟨cd,d73,e,m⟩:=gq e m;simp[e];refine Cf (fY T (by simp[e]) e.2) ?_;have⟨aj,af,m⟩:=l_ m;have e:=Aj e (show[sI 5,sI 7]=List.map sI aj by rw[af];rfl);have⟨cf,e,m⟩:=ep e m;have⟨cg,e,m⟩:=ep e m;simp[e];refine Cs (ox e.2) ?_;have⟨ch,e,m⟩:=ep e m;simp[e];refine Cs (gr e.2) ?_;have⟨cj,e,m⟩:=ep e m;simp[e];refine Cs (nY e.2) ?_;have⟨ck,e,m⟩:=ep e m;simp[e];refine Cs (nk e.2) ?_;have⟨ak,ah,m⟩:=l_ m;have e:=Aj e (show[sI 10,sI 14]=List.map sI ak by rw[ah];rfl);have⟨cm,e,m⟩:=ep e m;have⟨cn,e,m⟩:=ep e m;simp[e];refine Cs (lz e.2) ?_;have⟨cp,e,m⟩:=ep e m;simp[e];refine Cs (xB e.2) ?_;cases m;simp[e]
  rcases Io e m with⟨e,m⟩|⟨e,m⟩
  ·have⟨cq,d87,e,m⟩:=gq e m;simp[e];refine Cf (C.1 (by simp[e]) e.2) ?_;have⟨cr,cu,e,m⟩:=gq e m;simp[e];refine Cf (pt e.2) ?_;rcases Io e m with⟨e,m⟩|⟨e,m⟩;rotate_left
   ·simp[e];exact M _ _ ⟨d87,c,g,i,by simp[e],m⟩
   have⟨cw,d91,e,m⟩:=gq e m;simp[e];refine Cf (lW T (by simp[e]) e.2) ?_;have⟨cx,d93,e,m⟩:=gq e m;simp[e];refine Cf (fY T (by simp[e]) e.2) ?_;have⟨al,ai,m⟩:=l_ m;have e:=Aj e (show[sI 5,sI 7]=List.map sI al by rw[ai];rfl);have⟨cy,e,m⟩:=ep e m;have⟨cz,e,m⟩:=ep e m;simp[e];refine Cs (lh e.2) ?_;have⟨cA,e,m⟩:=ep e m;simp[e];refine Cs (nk e.2) ?_;have⟨an,ae,m⟩:=l_ m;have e:=Aj e (show[sI 10,sI 14]=List.map sI an by rw[ae];rfl);have⟨au,e,m⟩:=ep e m;have⟨aw,d103,e,m⟩:=gq e m;simp[e];refine Cs (lp T (by simp[e]) e.2) ?_;have⟨ax,e,m⟩:=ep e m;simp[e];refine Cs (xB e.2) ?_;cases m;simp[e]
  rcases Io e m with⟨e,m⟩|⟨e,m⟩
  ·have⟨ay,d106,e,m⟩:=gq e m;simp[e];refine Cf (C.2 (by simp[e]) e.2) ?_;cases m;simp[e]
  rcases Io e m with⟨e,m⟩|⟨e,m⟩
  ·have⟨az,d108,e,m⟩:=gq e m;simp[e];refine Cf (C.1 (by simp[e]) e.2) ?_;have⟨aA,aB,e,m⟩:=gq e m;simp[e];refine Cf (pt e.2) ?_;rcases Io e m with⟨e,m⟩|⟨e,m⟩;rotate_left
   ·simp[e];exact M _ _ ⟨d108,c,g,i,by simp[e],m⟩
   have⟨aC,e,m⟩:=ep e m;simp[e];refine Cs (lh e.2) ?_;have⟨aD,d113,e,m⟩:=gq e m;simp[e];refine Cs (lp T (by simp[e]) e.2) ?_;have⟨aE,e,m⟩:=ep e m;simp[e];refine Cs (tE e.2) ?_;have⟨aF,e,m⟩:=ep e m;simp[e];refine Cs (zj e.2) ?_;cases m;simp[e]
  rcases Io e m with⟨e,m⟩|⟨e,m⟩
  ·have⟨aG,d117,e,m⟩:=gq e m;simp[e];refine Cf (C.1 (by simp[e]) e.2) ?_;have⟨aH,aI,e,m⟩:=gq e m;simp[e];refine Cf (pt e.2) ?_;rcases Io e m with⟨e,m⟩|⟨e,m⟩;rotate_left
   ·simp[e];exact M _ _ ⟨d117,c,g,i,by simp[e],m⟩
   have⟨aJ,e,m⟩:=ep e m;simp[e];refine Cs (lh e.2) ?_;have⟨aK,e,m⟩:=ep e m;simp[e];refine Cs (nw e.2) ?_;have⟨aL,d123,e,m⟩:=gq e m;simp[e];refine Cs (lp T (by simp[e]) e.2) ?_;have⟨aM,e,m⟩:=ep e m;simp[e];refine Cs (tE e.2) ?_;have⟨aN,e,m⟩:=ep e m;simp[e];refine Cs (zj e.2) ?_;cases m;simp[e]
  rcases Io e m with⟨e,m⟩|⟨e,m⟩
  ·have⟨aO,d127,e,m⟩:=gq e m;simp[e];refine Cf (lp T (by simp[e]) e.2) ?_;have⟨aP,e,m⟩:=ep e m;simp[e];refine Cf (MQ e.2) ?_;cases m;simp[e]
  rcases Io e m with⟨e,m⟩|⟨e,m⟩
  ·have⟨aQ,d130,e,m⟩:=gq e m;simp[e];refine Cs (lp T (by simp[e]) e.2) ?_;have⟨aR,d132,e,m⟩:=gq e m;simp[e];refine Cs (lp T (by simp[e]) e.2) ?_;have⟨aS,e,m⟩:=ep e m;simp[e];refine Cs (ox e.2) ?_;have⟨aT,e,m⟩:=ep e m;simp[e];refine Cs (ox e.2) ?_;have⟨aU,e,m⟩:=ep e m;simp[e];refine Cs (nY e.2) ?_;have⟨aV,e,m⟩:=ep e m;simp[e];refine Cs (lz e.2) ?_;have⟨aW,e,m⟩:=ep e m;simp[e];refine Cs (lz e.2) ?_;have⟨aX,e,m⟩:=ep e m;simp[e];refine Cs (Av e.2) ?_;cases m;simp[e]
  rcases Io e m with⟨e,m⟩|⟨e,m⟩
  ·have⟨aY,d140,e,m⟩:=gq e m;simp[e];refine Cf (lW T (by simp[e]) e.2) ?_;have⟨aZ,e,m⟩:=ep e m;simp[e];refine Cs (tc e.2) ?_;have⟨a6,d143,e,m⟩:=gq e m;simp[e];refine Cs (O8 T (by simp[e]) e.2) ?_;have⟨a7,e,m⟩:=ep e m;simp[e];refine Cs (mB e.2) ?_;have⟨a8,e,m⟩:=ep e m;simp[e];refine Cs (ov e.2) ?_;cases m;simp[e]
  rcases Io e m with⟨e,m⟩|⟨e,m⟩
  ·have⟨a_,d147,e,m⟩:=gq e m;simp[e];refine Cf (lW T (by simp[e]) e.2) ?_;have⟨a',e,m⟩:=ep e m;simp[e];refine Cs (tc e.2) ?_;have⟨ba,d150,e,m⟩:=gq e m;simp[e];refine Cs (C.1 (by simp[e]) e.2) ?_;have⟨bb,e,m⟩:=ep e m;simp[e];refine Cs (mB e.2) ?_;cases m;simp[e]
  rcases Io e m with⟨e,m⟩|⟨e,m⟩;rotate_left
  ·simp[e];exact M _ _ ⟨d26,c,g,i,by simp[e],m⟩
  have⟨bc,d153,e,m⟩:=gq e m;simp[e];refine Cf (lW T (by simp[e]) e.2) ?_;have⟨bd,d155,e,m⟩:=gq e m;simp[e];refine Cs (lp T (by simp[e]) e.2) ?_;have⟨bf,e,m⟩:=ep e m;simp[e];refine Cs (tc e.2) ?_;have⟨bg,d158,e,m⟩:=gq e m;simp[e];refine Cs (C.1 (by simp[e]) e.2) ?_;have⟨bh,e,m⟩:=ep e m;simp[e];refine Cs (mB e.2) ?_;have⟨bj,e,m⟩:=ep e m;simp[e];refine Cs (sW e.2) ?_;cases m;simp[e]
 ·intro H a0 a1 a2 a3 N j y D hm;rw[w6] at hm;have ad:=f_ D;refine fH.Uc (Post:=λx K=>x=Pf.av N/\∃X,K=(gj H y [sL sI j.l,sI j.pg])++X) ?_ (λ_ _ h=>⟨_,h.2.choose,h.2.choose_spec,by simp,by rw[h.1];simp[AV.low,AV.jf],λcs h=>by rcases R0 h with h|h<;>first|exact .inl h|(rw[h];simp[AV.low,AV.jf]),h.1,rfl⟩);refine fH.I8 D ?_;have e:=ad;refine wi abf func69 [] [] 6 ?_;have⟨a,b,d163,e,m⟩:=Ix e hm;simp[e];refine Cf (G9 T (by simp[e]) e.2) ?_;simp[e];refine Wj m 999 4 (λaa f h=>∃(J:Int) (k:Int) (v167:eu) (v168:Int) (z:Nat) (p:Nat) (q:Nat),(h=(gj H y [sL sI v167.l,sI v167.pg])++[[sI v168,sI b.dv.aba,sL Ty.av b.dv.abb,sL Tm.av b.ek,sL Fm.av b.abb]]/\f.1 0=AV.fE y 0/\f.1 1=sL Fm.av a1/\f.1 3=sI a3/\f.1 6=AV.eB 6 z 0/\f.1 8=AV.eB 8 p 0/\f.1 9=AV.eB 9 q 0/\f.1 10=sI J/\f.gen 6=z/\f.box 6=some [sL Ty.av a2.abe,sL Fm.av a2.abh]/\f.gen 8=p/\f.box 8=some [sI 0,sI 0,sI 0,AV.slice .full [],AV.slice .full [],AV.slice .full [],AV.slice .full []]/\f.gen 9=q/\f.box 9=some [sI k,sI a.abd,sI a.dv.aba,sL Ty.av a.dv.abb,sL Tm.av a.ek,AV.yZ (List.length H) 0 1 1,sL Pf.av a.abb])/\aa J k v167 v168=some (N,j)) (λaa bk Q m=>?_) ?_
  ·have⟨bl,d172,e,m⟩:=gq e m;simp[e];refine Cf (fY T (by simp[e]) e.2) ?_;rcases Io e m with⟨e,m⟩|⟨e,m⟩
   ·simp[e];exact Q _ _ ⟨15,14,d172,7,1,1,1,by simp[e],m⟩
   simp[e];exact Q _ _ ⟨11,a.aba,d172,b.aba,1,1,1,by simp[e],m⟩
  rintro R bm ⟨J,k,v167,v168,z,p,q,E,m⟩;have e:=Aj e E;have⟨bn,e,m⟩:=ep e m;have⟨bo,e,m⟩:=ep e m;simp[e];refine Cs (hV e.2) ?_;have⟨bp,e,m⟩:=ep e m;simp[e];refine Cs (tc e.2) ?_;have⟨bq,e,m⟩:=ep e m;simp[e];refine Cs (De e.2) ?_;have⟨r,d179,e,m⟩:=gq e m;simp[e];refine Cs (C.1 (by simp[e]) e.2) ?_;simp[e];refine Wj m 999 1 (λab f h=>∃(S:Int) (v182:Int) (v183:Int) (U:List Ty) (V:List Tm) (W:List Fm) (Y:List Pf) (L:eu) (A:Nat) (B:Nat) (s:Nat),(h=(gj H y [sL sI L.l,sI L.pg])++[[sI v168,sI b.dv.aba,sL Ty.av b.dv.abb,sL Tm.av b.ek,sL Fm.av b.abb]]/\f.1 8=AV.eB 8 A 0/\f.1 9=AV.eB 9 B 0/\f.1 10=sI J/\f.1 12=AV.eB 12 s 0/\f.gen 8=A/\f.box 8=some [sI 0,sI 0,sI 0,AV.slice .full [],AV.slice .full [],AV.slice .full [],AV.slice .full []]/\f.gen 9=B/\f.box 9=some [sI k,sI a.abd,sI a.dv.aba,sL Ty.av a.dv.abb,sL Tm.av a.ek,AV.yZ (List.length H) 0 1 1,sL Pf.av a.abb]/\f.gen 12=s/\f.box 12=some [sI S,sI v182,sI v183,sL Ty.av U,sL Tm.av V,sL Fm.av W,sL Pf.av Y])/\ab S v182 v183 U V W Y L=some (N,j)) (λab br Z m=>?_) ?_
  ·have⟨bs,d192,e,m⟩:=gq e m;simp[e];refine Cf (fY T (by simp[e]) e.2) ?_;rcases Io e m with⟨e,m⟩|⟨e,m⟩;rotate_left
   ·simp[e];exact Z _ _ ⟨r.aba,r.abd,r.dv.aba,r.dv.abb,r.ek,r.fi,r.abb,d192,p,q,(R.gen 12+1),by simp[e],m⟩
   have⟨bt,e,m⟩:=ep e m;simp[e];refine Cf (lh e.2) ?_;have⟨bu,e,m⟩:=ep e m;simp[e];refine Cs (gr e.2) ?_;have⟨bw,e,m⟩:=ep e m;simp[e];refine Cs (tE e.2) ?_;have⟨t,e,m⟩:=ep e m;simp[e];refine Cs (xB e.2) ?_;simp[e];exact Z _ _ ⟨t.aba,t.abd,t.dv.aba,t.dv.abb,t.ek,t.fi,t.abb,d192,p,q,(R.gen 12+1),by simp[e],m⟩
  rintro ao bx ⟨S,v182,v183,U,V,W,Y,L,A,B,s,E,m⟩;have e:=Aj e E;simp[e];refine Yw 999 (o:=(List.length H)) (d:=9) (pre:=[sI k,sI a.abd,sI a.dv.aba,sL Ty.av a.dv.abb,sL Tm.av a.ek]) (post:=[sL Pf.av a.abb]) (x:=Fm.av (Fm.mk v168 b.dv b.ek b.abb)) (by simp[e]) (by simp[e]) (by simp) (by simp;rfl) ?_;have e:=Aj e (show AV.agg [sI k,sI a.abd,sI a.dv.aba,sL Ty.av a.dv.abb,sL Tm.av a.ek,AV.slice .iN [Fm.av (Fm.mk v168 b.dv b.ek b.abb)],sL Pf.av a.abb]=Pf.av (Pf.mk k a.abd a.dv a.ek [(Fm.mk v168 b.dv b.ek b.abb)] a.abb) by rw[Pf.fL];rfl);have e:=Aj e (show AV.agg [sI k,sI a.abd,sI a.dv.aba,sL Ty.av a.dv.abb,sL Tm.av a.ek,AV.slice .iN [Fm.av (Fm.mk v168 b.dv b.ek b.abb)],sL Pf.av a.abb]=Pf.av (Pf.mk k a.abd a.dv a.ek [(Fm.mk v168 b.dv b.ek b.abb)] a.abb) by rw[Pf.fL];rfl);have⟨bz,e,m⟩:=ep e m;simp[e];refine Cf (ov e.2) ?_;cases m;simp[e]
def Mz(T:fg){H:eD}{a0:eu}{a1:List Fm}{a2:Sq}{a3:Int}{d:Pf}{a:eu}{b:Nat}(c:H[b]?=some [sL sI a0.l,sI a0.pg]){n:Nat}(hm:jo n a0 a1 a2 a3=some (d,a)):e9 prog T 19 [AV.fE b 0,sL Fm.av a1,Sq.av a2,sI a3] H (Pf.av d) (gj H b [sL sI a.l,sI a.pg]):=(Ly T n).1 c hm
def MB(T:fg){H:eD}{a0:eu}{a1:List Fm}{a2:Sq}{a3:Int}{o:Pf}{p:rN}{d:eu}{g:Nat}(i:H[g]?=some [sL sI a0.l,sI a0.pg])(hm:w_ a0 a1 a2 a3=some (o,p,d)):e9 prog T 26 [AV.fE g 0,sL Fm.av a1,Sq.av a2,sI a3] H (AV.tuple [Pf.av o,rN.av p]) (gj H g [sL sI d.l,sI d.pg]):=by
 rw[w_] at hm;have j:=f_ i;refine fH.I8 i ?_;have e:=j;refine wi abf func26 [] [] 999 ?_;simp[e];refine Wn hm 999 (λs1 f h=>∃(a:Nat) (b:Nat) (c:Nat),h=gj H g [sL sI s1.2.l,sI s1.2.pg]/\f.1 0=AV.fE g 0/\f.1 1=sL Fm.av a1/\f.1 3=sI a3/\f.1 6=AV.eB 6 a 0/\f.1 8=AV.eB 8 b 0/\f.1 9=AV.eB 9 c 0/\f.1 16=sI s1.1/\f.gen 6=a/\f.box 6=some [sL Ty.av a2.abe,sL Fm.av a2.abh]/\f.gen 8=b/\f.box 8=some [sI 0,sI 0,sI 0,AV.slice .full [],AV.slice .full [],AV.slice .full [],AV.slice .full []]/\f.gen 9=c/\f.box 9=some [sI 0,sI 0,AV.slice .full [],AV.slice .full [],AV.slice .full [],AV.slice .full []]) ⟨1,1,1,by simp[e]⟩ (λs1 fr2 y z n4 c5 E m k n=>?_);have⟨A,v9⟩:=s1;have⟨a,b,c,E⟩:=E;have e:=Aj e E;dsimp only[mf]at m;rcases Io e m with⟨e,m⟩|⟨e,m⟩
 ·have⟨q,d11,e,m⟩:=gq e m;simp[e];refine Cf (Mz T (by simp[e]) e.2) ?_;have⟨r,s,e,m⟩:=gq e m;simp[e];refine Cf (pt e.2) ?_;rcases Io e m with⟨e,m⟩|⟨e,m⟩
  ·cases m;cases k;simp[e]
  simp[e];cases m;exact n _ _ _ ⟨a,b,c,by simp[e]⟩ k
 cases m;have m:=Qb k;dsimp only[mf]at m;have⟨t,d15,e,m⟩:=gq e m;simp[e];refine Cf (fY T (by simp[e]) e.2) ?_;have⟨u,e,m⟩:=ep e m;simp[e];refine Cf (zA e.2) ?_;have⟨v,e,m⟩:=ep e m;simp[e];refine Cf (lz e.2) ?_;have⟨w,x,e,m⟩:=gq e m;simp[e];refine Cf (pt e.2) ?_;cases m;simp[e]
def wG:C1 prog 30 rK sB sI:=by
 intro T H a0 r hm;rw[rK] at hm;have e:=trivial;refine wi abf func30 [] [] 2 ?_;simp[e];refine wj 999 999 (λf h=>h=H/\f.1 2=sB (fU (eH a0 0) true (fU (eH a0 4) true (fU (eH a0 5) true (eH a0 3))))) (λc a=>?_) ?_;rotate_left
 ·rintro b d E;have e:=Aj e E;cases hm;simp[e]
 rcases Pb (eH a0 0) e with e|e
 ·simp[e];exact a _ _ (by simp[e])
 rcases Pb (eH a0 4) e with e|e
 ·simp[e];exact a _ _ (by simp[e])
 rcases Pb (eH a0 5) e with e|e
 ·simp[e];exact a _ _ (by simp[e])
 simp[e];exact a _ _ (by simp[e])
def yw(T:fg)(hT:qy T){a0:List Int}{r0:Bool}(hm:n9 a0=some r0):fH prog T 5 [sL sI a0] [] (λx _=>x=sB r0):=by
 rw[n9] at hm;have e:=hT;refine wi abf func5 [] [] 999 ?_;have⟨x1,e,m⟩:=ep e hm;simp[e];refine Cf (Kc T hT e.2) ?_;rcases Io e m with⟨e,m⟩|⟨e,m⟩;rotate_left
 ·have q:=e.1;simp only[e.2]at q;have e:=And.intro q e.2;cases m;simp[e]
 have q:=e.1;simp only[e.2]at q;have e:=And.intro q e.2;have⟨x2,e,m⟩:=ep e m;simp[e];refine Cf (Ru e.2) ?_;rcases Io e m with⟨e,m⟩|⟨e,m⟩;rotate_left
 ·have q:=e.1;simp only[e.2]at q;have e:=And.intro q e.2;cases m;simp[e]
 have q:=e.1;simp only[e.2]at q;have e:=And.intro q e.2;have⟨x3,e,m⟩:=ep e m;simp[e];refine Cf (R1 T e.2) ?_;have⟨x4,d5,e,m⟩:=gq e m;simp[e];refine Cf (KG T (by simp[e]) e.2) ?_;have⟨O,d7,e,m⟩:=gq e m;simp[e];refine Cf (JL T (by simp[e]) e.2) ?_;have⟨S,d9,e,m⟩:=gq e m;simp[e];refine Cf (lW T (by simp[e]) e.2) ?_;have⟨e,m⟩:=Ck e m;simp[e];refine Ad (f:=Ty.av) [] O.abe (iM.full (D:=[])) BV e.2 ?_;have⟨e,m⟩:=Ck e m;simp[e];refine Ad (f:=Ty.av) (gv [] O.abe) [S] (iM.new (D:=[37]) (d:=37) (by decide)) BV e.2 ?_;simp[e];refine Wr e m 0 (λae U f h=>∃(p:Tag) (w:Tag) (n:Nat) (o:Nat) (y:Nat),(h=gj [[]] 0 [sL sI d9.l,sI d9.pg]/\f.1 3=AV.fE 0 0/\f.1 4=sL Fm.av x4/\f.1 5=AV.eB 5 n 0/\f.1 6=AV.eB 6 o 0/\f.1 7=AV.eB 7 y 0/\f.1 43=sL Fm.av O.abh/\f.1 44=sI (eM O.abh)/\f.1 45=sI ae/\f.gen 5=n/\f.box 5=some [sL Ty.av O.abe,sL Fm.av O.abh]/\f.gen 6=o/\f.box 6=some [sI S.aba,sL Ty.av S.abb]/\f.gen 7=y/\f.box 7=some [sT p Ty.av (gv (gv [] O.abe) [S]),sT w Fm.av U])/\Ow f [40] p (gv (gv [] O.abe) [S])/\Ow f [54] w U) (by exact⟨(.loc 40 1),.full,1,1,1,by simp[e],(On 40),iM.full⟩) (λU P al an E m=>?_) (λae aA U P al an aB aC E e m ao af=>?_);rotate_left
 ·have⟨p,w,n,o,y,E,V,K⟩:=E;have e:=Aj e E;apply wg 999;have⟨aq,e,m⟩:=ep e m;simp[e];refine Cs (lh e.2) ?_;have⟨e,m⟩:=Ck e m;simp[e];refine Ad (f:=Fm.av) U [aq] K Cl e.2 ?_;simp[e];cases m;exact af _ _ _ ⟨p,(.loc 54 (P.fN 54+1)),n,o,y,by simp[e],(iM.other V K (by decide) (by decide)),(On 54)⟩ ao
 have⟨p,w,n,o,y,E,V,K⟩:=E;have e:=Aj e E;apply wg 7;dsimp only[en]at m;have⟨b,aD,d22,e,m⟩:=Ix e m;simp[e];refine Cf (MB T (by simp[e]) e.2) ?_;simp[e];refine Wj m 999 5 (λah f h=>∃(v24:Bool) (i:Nat) (j:Nat) (a:Nat),(h=gj [[]] 0 [sL sI d22.l,sI d22.pg]/\f.1 3=AV.fE 0 0/\f.1 4=sL Fm.av x4/\f.1 5=AV.eB 5 i 0/\f.1 6=AV.eB 6 j 0/\f.1 10=AV.eB 10 a 0/\f.1 12=sB v24/\f.gen 5=i/\f.box 5=some [sL Ty.av O.abe,sL Fm.av O.abh]/\f.gen 6=j/\f.box 6=some [sI S.aba,sL Ty.av S.abb]/\f.gen 10=a/\f.box 10=some [sI b.aba,sI b.abd,sI b.dv.aba,sL Ty.av b.dv.abb,sL Tm.av b.ek,sL Fm.av b.fi,sL Pf.av b.abb])/\ah v24=some r0) (λah aE W m=>?_) ?_
 ·rcases Io e m with⟨e,m⟩|⟨e,m⟩;rotate_left
  ·simp[e];exact W _ _ ⟨false,n,o,(P.gen 10+1),by simp[e],m⟩
  have⟨ar,e,m⟩:=ep e m;simp[e];exact W _ _ ⟨(eH ar 0),n,o,(P.gen 10+1),by simp[e],m⟩
 rintro k aF ⟨v24,i,j,a,E,m⟩;have e:=Aj e E;have⟨aG,e,m⟩:=ep e m;simp[e];refine Cs (mB e.2) ?_;have⟨v,Y,e,m⟩:=gq e m;simp[e];refine Cs (p5 T hT e.2) ?_;have⟨aH,e,m⟩:=ep e m;simp[e];refine Cs (mB e.2) ?_;have⟨c,Z,e,m⟩:=gq e m;simp[e];refine Cs (p5 T hT e.2) ?_;simp[e];refine Wj m 999 0 (λai f h=>∃(aa:Bool) (z:Nat) (A:Nat) (r:Nat) (s:Nat) (t:Nat),(h=gj [[]] 0 [sL sI d22.l,sI d22.pg]/\f.1 3=AV.fE 0 0/\f.1 4=sL Fm.av x4/\f.1 5=AV.eB 5 z 0/\f.1 6=AV.eB 6 A 0/\f.1 10=AV.eB 10 r 0/\f.1 13=AV.eB 13 s 0/\f.1 14=sI Y/\f.1 15=AV.eB 15 t 0/\f.1 16=sI Z/\f.1 117=sB aa/\f.gen 5=z/\f.box 5=some [sL Ty.av O.abe,sL Fm.av O.abh]/\f.gen 6=A/\f.box 6=some [sI S.aba,sL Ty.av S.abb]/\f.gen 10=r/\f.box 10=some [sI b.aba,sI b.abd,sI b.dv.aba,sL Ty.av b.dv.abb,sL Tm.av b.ek,sL Fm.av b.fi,sL Pf.av b.abb]/\f.gen 13=s/\f.box 13=some [sI v.eg.aba,sI v.eg.dv.aba,sL Ty.av v.eg.dv.abb,sL Tm.av v.eg.ek,sL Fm.av v.eg.abb,sL sI v.gp]/\f.gen 15=t/\f.box 15=some [sI c.eg.aba,sI c.eg.dv.aba,sL Ty.av c.eg.dv.abb,sL Tm.av c.eg.ek,sL Fm.av c.eg.abb,sL sI c.gp])/\ai aa=some r0) (λai aI I m=>?_) ?_
 ·have⟨aJ,e,m⟩:=ep e m;simp[e];refine Cf (wG e.2) ?_;rcases Io e m with⟨e,m⟩|⟨e,m⟩;rotate_left
  ·have q:=e.1;simp only[e.2]at q;have e:=And.intro q e.2;simp[e];exact I _ _ ⟨true,i,j,a,(k.gen 13+1),(k.gen 15+1),by simp[e],m⟩
  have q:=e.1;simp only[e.2]at q;have e:=And.intro q e.2;rcases Io e m with⟨e,m⟩|⟨e,m⟩;rotate_left
  ·simp[e];exact I _ _ ⟨false,i,j,a,(k.gen 13+1),(k.gen 15+1),by simp[e],m⟩
  rcases Io e m with⟨e,m⟩|⟨e,m⟩
  ·simp[e];exact I _ _ ⟨true,i,j,a,(k.gen 13+1),(k.gen 15+1),by simp[e],m⟩
  rcases Io e m with⟨e,m⟩|⟨e,m⟩
  ·have q:=e.1;simp only[e.2]at q;have e:=And.intro q e.2;simp[e];exact I _ _ ⟨false,i,j,a,(k.gen 13+1),(k.gen 15+1),by simp[e],m⟩
  have q:=e.1;simp only[e.2]at q;have e:=And.intro q e.2;simp[e];exact I _ _ ⟨(eW Z 0),i,j,a,(k.gen 13+1),(k.gen 15+1),by simp[e],m⟩
 rintro ax aK ⟨aa,z,A,r,s,t,E,m⟩;have e:=Aj e E;rcases Io e m with⟨e,m⟩|⟨e,m⟩
 ·have q:=e.1;simp only[e.2]at q;have e:=And.intro q e.2;apply wg 999;cases m;simp[e]
 have q:=e.1;simp only[e.2]at q;have e:=And.intro q e.2;apply wg 3;simp[e];refine wj 999 0 (λf h=>∃(L:Nat) (M:Nat) (B:Nat) (C:Nat) (g:Nat),h=gj [[]] 0 [sL sI d22.l,sI d22.pg]/\f.1 3=AV.fE 0 0/\f.1 4=sL Fm.av x4/\f.1 5=AV.eB 5 L 0/\f.1 6=AV.eB 6 M 0/\f.1 10=AV.eB 10 B 0/\f.1 13=AV.eB 13 C 0/\f.1 15=AV.eB 15 g 0/\f.1 123=sB (fU (eW Y 0) true (eW Z 0))/\f.gen 5=L/\f.box 5=some [sL Ty.av O.abe,sL Fm.av O.abh]/\f.gen 6=M/\f.box 6=some [sI S.aba,sL Ty.av S.abb]/\f.gen 10=B/\f.box 10=some [sI b.aba,sI b.abd,sI b.dv.aba,sL Ty.av b.dv.abb,sL Tm.av b.ek,sL Fm.av b.fi,sL Pf.av b.abb]/\f.gen 13=C/\f.box 13=some [sI v.eg.aba,sI v.eg.dv.aba,sL Ty.av v.eg.dv.abb,sL Tm.av v.eg.ek,sL Fm.av v.eg.abb,sL sI v.gp]/\f.gen 15=g/\f.box 15=some [sI c.eg.aba,sI c.eg.dv.aba,sL Ty.av c.eg.dv.abb,sL Tm.av c.eg.ek,sL Fm.av c.eg.abb,sL sI c.gp]) (λaL X=>?_) ?_
 ·rcases Pb (eW Y 0) e with e|e
  ·simp[e];exact X _ _ ⟨z,A,r,s,t,by simp[e]⟩
  simp[e];exact X _ _ ⟨z,A,r,s,t,by simp[e]⟩
 rintro u aM ⟨L,M,B,C,g,E⟩;have e:=Aj e E;rcases Io e m with⟨e,m⟩|⟨e,m⟩
 ·apply wg 999;cases m;simp[e]
 apply wg 9;have⟨aN,d45,e,m⟩:=gq e m;simp[e];refine Cf (lp T (by simp[e]) e.2) ?_;have⟨aO,e,m⟩:=ep e m;simp[e];refine Cs (mB e.2) ?_;have⟨aP,e,m⟩:=ep e m;simp[e];refine Cs (sW e.2) ?_;have⟨R,au,e,m⟩:=gq e m;simp[e];refine Cs (p5 T hT e.2) ?_;have⟨aQ,e,m⟩:=ep e m;simp[e];refine Cs (mB e.2) ?_;have⟨aR,e,m⟩:=ep e m;simp[e];refine Cs (sW e.2) ?_;have⟨N,aw,e,m⟩:=gq e m;simp[e];refine Cs (p5 T hT e.2) ?_;simp[e];refine Wj m 999 0 (λaj f h=>∃(ab:Bool) (F:Nat) (G:Nat) (H:Nat),(h=gj [[]] 0 [sL sI d45.l,sI d45.pg]/\f.1 15=AV.eB 15 F 0/\f.1 18=AV.eB 18 G 0/\f.1 19=sI au/\f.1 20=AV.eB 20 H 0/\f.1 21=sI aw/\f.1 170=sB ab/\f.gen 15=F/\f.box 15=some [sI c.eg.aba,sI c.eg.dv.aba,sL Ty.av c.eg.dv.abb,sL Tm.av c.eg.ek,sL Fm.av c.eg.abb,sL sI c.gp]/\f.gen 18=G/\f.box 18=some [sI R.eg.aba,sI R.eg.dv.aba,sL Ty.av R.eg.dv.abb,sL Tm.av R.eg.ek,sL Fm.av R.eg.abb,sL sI R.gp]/\f.gen 20=H/\f.box 20=some [sI N.eg.aba,sI N.eg.dv.aba,sL Ty.av N.eg.dv.abb,sL Tm.av N.eg.ek,sL Fm.av N.eg.abb,sL sI N.gp])/\aj ab=some r0) (λaj aS Q m=>?_) ?_
 ·have⟨aT,e,m⟩:=ep e m;simp[e];refine Cf (wG e.2) ?_;rcases Io e m with⟨e,m⟩|⟨e,m⟩;rotate_left
  ·have q:=e.1;simp only[e.2]at q;have e:=And.intro q e.2;simp[e];exact Q _ _ ⟨true,g,(u.gen 18+1),(u.gen 20+1),by simp[e],m⟩
  have q:=e.1;simp only[e.2]at q;have e:=And.intro q e.2;have⟨aU,e,m⟩:=ep e m;simp[e];refine Cf (wG e.2) ?_;rcases Io e m with⟨e,m⟩|⟨e,m⟩;rotate_left
  ·have q:=e.1;simp only[e.2]at q;have e:=And.intro q e.2;simp[e];exact Q _ _ ⟨true,g,(u.gen 18+1),(u.gen 20+1),by simp[e],m⟩
  have q:=e.1;simp only[e.2]at q;have e:=And.intro q e.2;rcases Io e m with⟨e,m⟩|⟨e,m⟩
  ·simp[e];exact Q _ _ ⟨true,g,(u.gen 18+1),(u.gen 20+1),by simp[e],m⟩
  simp[e];exact Q _ _ ⟨(eW c.eg.aba 6),g,(u.gen 18+1),(u.gen 20+1),by simp[e],m⟩
 rintro ay aV ⟨ab,F,G,H,E,m⟩;have e:=Aj e E;rcases Io e m with⟨e,m⟩|⟨e,m⟩
 ·have q:=e.1;simp only[e.2]at q;have e:=And.intro q e.2;apply wg 999;cases m;simp[e]
 have q:=e.1;simp only[e.2]at q;have e:=And.intro q e.2;apply wg 2;simp[e];refine Wj m 999 999 (λak f h=>∃(ad:Bool),(h=gj [[]] 0 [sL sI d45.l,sI d45.pg]/\f.1 2=sB ad)/\ak ad=some r0) (λak aW J m=>?_) ?_;rotate_left
 ·rintro az aX ⟨ad,E,m⟩;have e:=Aj e E;cases m;simp[e]
 rcases Io e m with⟨e,m⟩|⟨e,m⟩
 ·simp[e];exact J _ _ ⟨true,by simp[e],m⟩
 rcases Io e m with⟨e,m⟩|⟨e,m⟩
 ·simp[e];exact J _ _ ⟨true,by simp[e],m⟩
 have⟨aY,e,m⟩:=ep e m;simp[e];refine Cf (Cz e.2) ?_;rcases Io e m with⟨e,m⟩|⟨e,m⟩;rotate_left
 ·have q:=e.1;simp only[e.2]at q;have e:=And.intro q e.2;simp[e];exact J _ _ ⟨false,by simp[e],m⟩
 have q:=e.1;simp only[e.2]at q;have e:=And.intro q e.2;rcases Io e m with⟨e,m⟩|⟨e,m⟩;rotate_left
 ·simp[e];exact J _ _ ⟨false,by simp[e],m⟩
 simp[e];exact J _ _ ⟨(eH (eM N.gp) (eM c.gp)),by simp[e],m⟩
end Go.Proofs.YtobcafblgapgfaaGreatDoor
