/- Part of the proof of KernelRefuses: walks. -/
import Derived.Test.YtobcafblgapgfaaGreatDoorW1
set_option linter.all false
set_option maxRecDepth 20000
set_option maxHeartbeats 4000000
namespace Go.Proofs.YtobcafblgapgfaaGreatDoor
open Go Go.nd Go.gV Tryz
def zK:C3 prog 166 tz Tm.av Tm.av Tm.av Tm.av:=by
 intro T H a0 a1 a2 r hm;rw[tz] at hm;have e:=trivial;refine wi acR func166 [] [] 999 ?_;have⟨a,e,m⟩:=ep e hm;simp[e];refine Cs (hR e.2) ?_;have⟨b,e,m⟩:=ep e m;simp[e];refine Cs (mi e.2) ?_;cases m;simp[e]
def Ci:C0 prog 102 tp Tm.av:=by
 intro T H r hm;rw[tp] at hm;have e:=trivial;refine wi acR func102 [] [] 999 ?_;have⟨a,e,m⟩:=ep e hm;simp[e];refine Cf (fI e.2) ?_;have⟨b,e,m⟩:=ep e m;simp[e];refine Cf (fI e.2) ?_;have⟨c,e,m⟩:=ep e m;simp[e];refine Cf (gB e.2) ?_;have⟨d,e,m⟩:=ep e m;simp[e];refine Cf (lV e.2) ?_;have⟨f,e,m⟩:=ep e m;simp[e];refine Cf (lV e.2) ?_;have⟨g,e,m⟩:=ep e m;simp[e];refine Cf (fI e.2) ?_;have⟨h,e,m⟩:=ep e m;simp[e];refine Cf (zK e.2) ?_;have⟨i,e,m⟩:=ep e m;simp[e];refine Cf (lV e.2) ?_;have⟨j,e,m⟩:=ep e m;simp[e];refine Cf (lV e.2) ?_;cases m;simp[e]
def Gr:C2 prog 101 Bm Tm.av Tm.av (sL Tm.av):=by
 intro T H a0 a1 r hm;rw[Bm] at hm;have e:=trivial;refine wi acR func101 [] [] 999 ?_;simp[e];refine Wr e hm 999 (λg s2 f h=>h=H/\f.1 2=AV.eD 2 (f.gen 2) 0/\f.1 4=AV.eD 4 (f.gen 4) 0/\f.1 7=sL Tm.av a1/\f.1 8=sI (eN a1)/\f.1 9=sI g/\f.box 2=some [sI s2.1,sI s2.2.1,sI s2.2.2.1,sL Ty.av s2.2.2.2.1,sL Tm.av s2.2.2.2.2]/\f.box 4=some [sI 0,sI 0,sI 0,AV.slice .full [],AV.slice .full []]) (by simp[e]) (λs2 a i j E m=>?_) (λg n s2 a i j n6 o E e m k b=>?_)
 ·have⟨v10,v11,v12,c,d⟩:=s2;have e:=Aj e E;dsimp only[en,Hj]at m;cases m;simp[e]
 have⟨v10,v11,v12,c,d⟩:=s2;have e:=Aj e E;dsimp only[Hj]at m;have⟨l,e,m⟩:=ep e m;simp[e];refine Cf (gB e.2) ?_;simp[e];cases m;exact b _ _ _ (by simp[e]) k
def Lq:C0 prog 167 vU Tm.av:=by
 intro T H r hm;rw[vU] at hm;have e:=trivial;refine wi acR func167 [] [] 999 ?_;have⟨a,e,m⟩:=ep e hm;simp[e];refine Cf (gB e.2) ?_;have⟨b,e,m⟩:=ep e m;simp[e];refine Cf (fI e.2) ?_;have⟨c,e,m⟩:=ep e m;simp[e];refine Cf (lV e.2) ?_;have⟨d,e,m⟩:=ep e m;simp[e];refine Cf (lV e.2) ?_;have⟨f,e,m⟩:=ep e m;simp[e];refine Cf (fI e.2) ?_;have⟨g,e,m⟩:=ep e m;simp[e];refine Cf (zK e.2) ?_;have⟨h,e,m⟩:=ep e m;simp[e];refine Cf (lV e.2) ?_;cases m;simp[e]
def LU:C0 prog 103 xo Tm.av:=by
 intro T H r hm;rw[xo] at hm;have e:=trivial;refine wi acR func103 [] [] 999 ?_;have⟨b,e,m⟩:=ep e hm;simp[e];refine Cf (fI e.2) ?_;have⟨c,e,m⟩:=ep e m;simp[e];refine Cf (Lq e.2) ?_;have⟨d,e,m⟩:=ep e m;simp[e];refine Cf (fI e.2) ?_;have⟨f,e,m⟩:=ep e m;simp[e];refine Cf (gB e.2) ?_;have⟨g,e,m⟩:=ep e m;simp[e];refine Cf (lV e.2) ?_;have⟨h,e,m⟩:=ep e m;simp[e];refine Cf (lV e.2) ?_;have⟨i,e,m⟩:=ep e m;simp[e];refine Cf (fI e.2) ?_;have⟨j,e,m⟩:=ep e m;simp[e];refine Cf (zK e.2) ?_;have⟨k,e,m⟩:=ep e m;simp[e];refine Cf (lV e.2) ?_;have⟨a,e,m⟩:=ep e m;simp[e];refine Cf (lV e.2) ?_;cases m;simp[e]
def Ot(T:fh):∀(n:Nat),(∀{H:eB} {a0:eG} {a1:List Ty} {a2:Ty} {a3:Int} {u:Tm} {b:eG} {c:Nat} (v:H[c]?=some [sL sI a0.l,sI a0.r']) (hm:gH n a0 a1 a2 a3=some (u,b)),e_ prog T 35 [AV.fT c 0,sL Ty.av a1,Ty.av a2,sI a3] H (Tm.av u) (gC H c [sL sI b.l,sI b.r'])):=by
  intro n
  induction n with
  |zero=>
    skip
    all_goals(intro _ _;intros;rename_i hm;cases hm)
  |succ n a=>
 intro H a0 a1 a2 a3 u b c v hm;rw[gH] at hm;have J:=gn v;refine fQ.Nq v ?_;have e:=J;refine wi acR func35 [] [] 5 ?_;have⟨x1,e,m⟩:=ep e hm;simp[e];refine Cf (QT e.2) ?_;simp[e];refine Wj m 999 0 (λM f h=>∃(v3:Bool) (v4:eG),(h=gC H c [sL sI v4.l,sI v4.r']/\f.1 0=AV.fT c 0/\f.1 1=sL Ty.av a1/\f.1 3=sI a3/\f.1 6=AV.eD 6 (f.gen 6) 0/\f.1 8=AV.eD 8 (f.gen 8) 0/\f.1 9=sL sI x1/\f.1 27=sB v3/\f.box 6=some (Ty.av a2).cells/\f.box 8=some [sI 0,sI 0,sI 0,AV.slice .full [],AV.slice .full []])/\M v3 v4=some (u,b)) (λM K5 y m=>?_) ?_
 ·rcases Io e m with⟨e,m⟩|⟨e,m⟩;rotate_left
  ·simp[e];exact y _ _ ⟨false,a0,by simp[e],m⟩
  have⟨x7,d8,e,m⟩:=gr e m;simp[e];refine Cf (gv T (by simp[e]) e.2) ?_;simp[e];exact y _ _ ⟨(pc x7 0),d8,by simp[e],m⟩
 rintro aB h9 ⟨v3,v4,E,m⟩;have e:=Aj e E;rcases Io e m with⟨e,m⟩|⟨e,m⟩
 ·apply wg 999;have⟨aC,d11,e,m⟩:=gr e m;simp[e];refine Cf (gv T (by simp[e]) e.2) ?_;have⟨aD,e,m⟩:=ep e m;have⟨aE,e,m⟩:=ep e m;simp[e];refine Cf (fI e.2) ?_;cases m;simp[e]
 apply wg 2;simp[e];refine Wj m 999 6 (λz f h=>∃(g:eG),(h=gC H c [sL sI g.l,sI g.r']/\f.1 0=AV.fT c 0/\f.1 1=sL Ty.av a1/\f.1 3=sI a3/\f.1 6=AV.eD 6 (f.gen 6) 0/\f.1 8=AV.eD 8 (f.gen 8) 0/\f.box 6=some (Ty.av a2).cells/\f.box 8=some [sI 0,sI 0,sI 0,AV.slice .full [],AV.slice .full []])/\z g=some (u,b)) (λz aF i m=>?_) ?_;rotate_left
 ·rintro N aG ⟨g,E,m⟩;have e:=Aj e E;simp[e];rcases Io e m with⟨e,m⟩|⟨e,m⟩
  ·apply wg 1;simp[e];refine Wj m 999 999 (λA f h=>∃(v20:eG),(h=gC H c [sL sI v20.l,sI v20.r']/\f.1 0=AV.fT c 0/\f.1 8=AV.eD 8 (f.gen 8) 0/\f.box 8=some [sI 0,sI 0,sI 0,AV.slice .full [],AV.slice .full []])/\A v20=some (u,b)) (λA aH p m=>?_) ?_;rotate_left
   ·rintro O aI ⟨v20,E,m⟩;have e:=Aj e E;have⟨aJ,d25,e,m⟩:=gr e m;simp[e];refine Cf (gv T (by simp[e]) e.2) ?_;have⟨aK,e,m⟩:=ep e m;simp[e];refine Cf (xx e.2) ?_;cases m;simp[e]
   rcases Io e m with⟨e,m⟩|⟨e,m⟩;rotate_left
   ·simp[e];exact p _ _ ⟨g,by simp[e],m⟩
   have⟨aL,d28,e,m⟩:=gr e m;simp[e];refine Cf (gv T (by simp[e]) e.2) ?_;rcases Io e m with⟨e,m⟩|⟨e,m⟩
   ·have⟨aM,d30,e,m⟩:=gr e m;simp[e];refine Cf (a (by simp[e]) e.2) ?_;have⟨aN,e,m⟩:=ep e m;simp[e];refine Cf (gB e.2) ?_;cases m;simp[e]
   rcases Io e m with⟨e,m⟩|⟨e,m⟩
   ·have⟨aO,e,m⟩:=ep e m;simp[e];refine Cs (Ci e.2) ?_;have⟨aP,d34,e,m⟩:=gr e m;simp[e];refine Cs (a (by simp[e]) e.2) ?_;have⟨aQ,d36,e,m⟩:=gr e m;simp[e];refine Cs (a (by simp[e]) e.2) ?_;have⟨aR,e,m⟩:=ep e m;simp[e];refine Cs (Gr e.2) ?_;cases m;simp[e]
   rcases Io e m with⟨e,m⟩|⟨e,m⟩;rotate_left
   ·simp[e];exact p _ _ ⟨d28,by simp[e],m⟩
   have⟨aS,e,m⟩:=ep e m;simp[e];refine Cs (LU e.2) ?_;have⟨aT,d40,e,m⟩:=gr e m;simp[e];refine Cs (a (by simp[e]) e.2) ?_;have⟨aU,d42,e,m⟩:=gr e m;simp[e];refine Cs (a (by simp[e]) e.2) ?_;have⟨aV,e,m⟩:=ep e m;simp[e];refine Cs (Gr e.2) ?_;cases m;simp[e]
  apply wg 3;simp[e];rcases Io e m with⟨e,m⟩|⟨e,m⟩;rotate_left
  ·apply wg 999;rcases Io e m with⟨e,m⟩|⟨e,m⟩
   ·have⟨aW,e,m⟩:=ep e m;have⟨aX,d46,e,m⟩:=gr e m;simp[e];refine Cs (a (by simp[e]) e.2) ?_;have⟨aY,e,m⟩:=ep e m;have⟨aZ,d49,e,m⟩:=gr e m;simp[e];refine Cs (a (by simp[e]) e.2) ?_;have⟨a6,e,m⟩:=ep e m;simp[e];refine Cs (gB e.2) ?_;cases m;simp[e]
   rcases Io e m with⟨e,m⟩|⟨e,m⟩;rotate_left
   ·have⟨a7,e,m⟩:=ep e m;simp[e];refine Cf (gB e.2) ?_;cases m;simp[e]
   have⟨a8,e,m⟩:=ep e m;have⟨a_,e,m⟩:=ep e m;simp[e];refine Cs (oJ e.2) ?_;have⟨a',e,m⟩:=ep e m;have⟨ba,d56,e,m⟩:=gr e m;simp[e];refine Cs (a (by simp[e]) e.2) ?_;have⟨bb,e,m⟩:=ep e m;simp[e];refine Cs (mi e.2) ?_;cases m;simp[e]
  apply wg 2;simp[e];refine Wj m 999 999 (λB f h=>∃(v59:Bool) (o:eG),(h=gC H c [sL sI o.l,sI o.r']/\f.1 0=AV.fT c 0/\f.1 1=sL Ty.av a1/\f.1 3=sI a3/\f.1 6=AV.eD 6 (f.gen 6) 0/\f.1 8=AV.eD 8 (f.gen 8) 0/\f.1 276=sB v59/\f.box 6=some (Ty.av a2).cells/\f.box 8=some [sI 0,sI 0,sI 0,AV.slice .full [],AV.slice .full []])/\B v59 o=some (u,b)) (λB bc q m=>?_) ?_
  ·rcases Io e m with⟨e,m⟩|⟨e,m⟩;rotate_left
   ·simp[e];exact q _ _ ⟨false,g,by simp[e],m⟩
   have⟨K,d64,e,m⟩:=gr e m;simp[e];refine Cf (gv T (by simp[e]) e.2) ?_;simp[e];exact q _ _ ⟨(eH K 0),d64,by simp[e],m⟩
  rintro P bd ⟨v59,o,E,m⟩;have e:=Aj e E;rcases Io e m with⟨e,m⟩|⟨e,m⟩;rotate_left
  ·have⟨bf,e,m⟩:=ep e m;simp[e];refine Cf (gB e.2) ?_;cases m;simp[e]
  have⟨bg,e,m⟩:=ep e m;simp[e];refine Cs (hR e.2) ?_;have⟨bh,d69,e,m⟩:=gr e m;simp[e];refine Cs (a (by simp[e]) e.2) ?_;have⟨bj,d71,e,m⟩:=gr e m;simp[e];refine Cs (a (by simp[e]) e.2) ?_;have⟨bk,e,m⟩:=ep e m;simp[e];refine Cs (gB e.2) ?_;cases m;simp[e]
 rcases Io e m with⟨e,m⟩|⟨e,m⟩;rotate_left
 ·simp[e];exact i _ _ ⟨v4,by simp[e],m⟩
 have⟨bl,d74,e,m⟩:=gr e m;simp[e];refine Cf (gv T (by simp[e]) e.2) ?_;rcases Io e m with⟨e,m⟩|⟨e,m⟩
 ·have⟨bm,d76,e,m⟩:=gr e m;simp[e];refine Cf (nD T (by simp[e]) e.2) ?_;have⟨bn,e,m⟩:=ep e m;simp[e];refine Cs (oJ e.2) ?_;have⟨bo,d79,e,m⟩:=gr e m;simp[e];refine Cs (a (by simp[e]) e.2) ?_;have⟨bp,e,m⟩:=ep e m;simp[e];refine Cs (mi e.2) ?_;have⟨bq,d82,e,m⟩:=gr e m;simp[e];refine Cs (a (by simp[e]) e.2) ?_;have⟨br,e,m⟩:=ep e m;simp[e];refine Cs (gB e.2) ?_;cases m;simp[e]
 rcases Io e m with⟨e,m⟩|⟨e,m⟩
 ·have⟨bs,d85,e,m⟩:=gr e m;simp[e];refine Cf (nD T (by simp[e]) e.2) ?_;have⟨bt,d87,e,m⟩:=gr e m;simp[e];refine Cs (a (by simp[e]) e.2) ?_;have⟨bu,d89,e,m⟩:=gr e m;simp[e];refine Cs (a (by simp[e]) e.2) ?_;have⟨bw,e,m⟩:=ep e m;simp[e];refine Cs (gB e.2) ?_;have⟨bx,e,m⟩:=ep e m;simp[e];refine Cs (gB e.2) ?_;cases m;simp[e]
 rcases Io e m with⟨e,m⟩|⟨e,m⟩
 ·have⟨bz,e,m⟩:=ep e m;simp[e];refine Cs (hR e.2) ?_;have⟨bA,e,m⟩:=ep e m;simp[e];refine Cs (hR e.2) ?_;have⟨bB,e,m⟩:=ep e m;simp[e];refine Cs (oJ e.2) ?_;have⟨bC,d96,e,m⟩:=gr e m;simp[e];refine Cs (a (by simp[e]) e.2) ?_;have⟨bD,e,m⟩:=ep e m;simp[e];refine Cs (mi e.2) ?_;have⟨bE,e,m⟩:=ep e m;simp[e];refine Cs (mi e.2) ?_;have⟨bF,d100,e,m⟩:=gr e m;simp[e];refine Cs (a (by simp[e]) e.2) ?_;have⟨Q,d102,e,m⟩:=gr e m;simp[e];refine Cs (gv T (by simp[e]) e.2) ?_;have⟨R,e,m⟩:=ep e m;simp[e];refine Cs (xx e.2) ?_;have⟨S,e,m⟩:=ep e m;simp[e];refine Cs (mi e.2) ?_;cases m;simp[e]
 rcases Io e m with⟨e,m⟩|⟨e,m⟩
 ·have⟨U,e,m⟩:=ep e m;simp[e];refine Cs (hR e.2) ?_;have⟨V,e,m⟩:=ep e m;simp[e];refine Cs (nW e.2) ?_;have⟨W,e,m⟩:=ep e m;simp[e];refine Cs (hR e.2) ?_;have⟨X,e,m⟩:=ep e m;simp[e];refine Cs (nW e.2) ?_;have⟨Y,e,m⟩:=ep e m;simp[e];refine Cs (oJ e.2) ?_;have⟨Z,d111,e,m⟩:=gr e m;simp[e];refine Cs (a (by simp[e]) e.2) ?_;have⟨aa,e,m⟩:=ep e m;simp[e];refine Cs (mi e.2) ?_;have⟨ab,e,m⟩:=ep e m;simp[e];refine Cs (mi e.2) ?_;have⟨ad,e,m⟩:=ep e m;simp[e];refine Cs (mi e.2) ?_;have⟨ae,d116,e,m⟩:=gr e m;simp[e];refine Cs (a (by simp[e]) e.2) ?_;have⟨af,e,m⟩:=ep e m;simp[e];refine Cs (nW e.2) ?_;have⟨ah,d119,e,m⟩:=gr e m;simp[e];refine Cs (a (by simp[e]) e.2) ?_;have⟨ai,e,m⟩:=ep e m;simp[e];refine Cs (mi e.2) ?_;cases m;simp[e]
 rcases Io e m with⟨e,m⟩|⟨e,m⟩
 ·have⟨aj,d122,e,m⟩:=gr e m;simp[e];refine Cf (nD T (by simp[e]) e.2) ?_;have⟨ak,d124,e,m⟩:=gr e m;simp[e];refine Cs (a (by simp[e]) e.2) ?_;have⟨al,d126,e,m⟩:=gr e m;simp[e];refine Cs (a (by simp[e]) e.2) ?_;have⟨an,e,m⟩:=ep e m;simp[e];refine Cs (gB e.2) ?_;have⟨ao,e,m⟩:=ep e m;simp[e];refine Cs (gB e.2) ?_;cases m;simp[e]
 rcases Io e m with⟨e,m⟩|⟨e,m⟩;rotate_left
 ·simp[e];exact i _ _ ⟨d74,by simp[e],m⟩
 simp[e];refine Wr e m 0 (λd r f h=>h=gC H c [sL sI d74.l,sI d74.r']/\f.1 0=AV.fT c 0/\f.1 1=sL Ty.av a1/\f.1 3=sI a3/\f.1 6=AV.eD 6 (f.gen 6) 0/\f.1 8=AV.eD 8 (f.gen 8) 0/\f.1 176=sI (eN a1)/\f.1 177=sI d/\f.box 6=some (Ty.av a2).cells/\f.box 8=some [sI 0,sI 0,sI 0,AV.slice .full [],AV.slice .full []]) (by simp[e]) (λr w C D E m=>?_) (λd aq r w C D n134 F E e m s x=>?_)
 ·have e:=Aj e E;apply wg 999;dsimp only[en]at m;simp[e];exact i _ _ ⟨d74,by simp[e],m⟩
 have e:=Aj e E;apply wg 11;have⟨G,e,m⟩:=ep e m;simp[e];refine Wj m 999 999 (λt f h=>∃(j:Bool),(h=gC H c [sL sI d74.l,sI d74.r']/\f.1 0=AV.fT c 0/\f.1 1=sL Ty.av a1/\f.1 3=sI a3/\f.1 6=AV.eD 6 (f.gen 6) 0/\f.1 8=AV.eD 8 (f.gen 8) 0/\f.1 15=sI d/\f.1 16=AV.eD 16 (f.gen 16) 0/\f.1 176=sI (eN a1)/\f.1 177=sI d/\f.1 198=sB j/\f.box 6=some (Ty.av a2).cells/\f.box 8=some [sI 0,sI 0,sI 0,AV.slice .full [],AV.slice .full []]/\f.box 16=some (Ty.av G).cells)/\t j=some F) (λt ar k m=>?_) ?_
 ·rcases Io e m with⟨e,m⟩|⟨e,m⟩;rotate_left
  ·simp[e];exact k _ _ ⟨false,by simp[e],m⟩
  have⟨au,e,m⟩:=ep e m;have⟨I,e,m⟩:=ep e m;simp[e];refine Cs (iw e.2) ?_;simp[e];exact k _ _ ⟨I,by simp[e],m⟩
 rintro L aw ⟨j,E,m⟩;have e:=Aj e E;rcases Io e m with⟨e,m⟩|⟨e,m⟩;rotate_left
 ·simp[e];cases m;exact x _ _ _ (by simp[e]) s
 have⟨ax,e,m⟩:=ep e m;simp[e];refine Cs (fI e.2) ?_;have⟨ay,e,m⟩:=ep e m;have⟨az,d149,e,m⟩:=gr e m;simp[e];refine Cs (a (by simp[e]) e.2) ?_;have⟨aA,e,m⟩:=ep e m;simp[e];refine Cs (gB e.2) ?_;cases m;cases s;simp[e]
def ma(T:fh){H:eB}{a0:eG}{a1:List Ty}{a2:Ty}{a3:Int}{d:Tm}{a:eG}{b:Nat}(c:H[b]?=some [sL sI a0.l,sI a0.r']){n:Nat}(hm:gH n a0 a1 a2 a3=some (d,a)):e_ prog T 35 [AV.fT b 0,sL Ty.av a1,Ty.av a2,sI a3] H (Tm.av d) (gC H b [sL sI a.l,sI a.r']):=(Ot T n) c hm
def H8(T:fh):∀(n:Nat),(∀{H:eB} {a0:eG} {a1:List Ty} {a2:Int} {o:Fm} {b:eG} {c:Nat} (i:H[c]?=some [sL sI a0.l,sI a0.r']) (hm:jm n a0 a1 a2=some (o,b)),e_ prog T 28 [AV.fT c 0,sL Ty.av a1,sI a2] H (Fm.av o) (gC H c [sL sI b.l,sI b.r'])):=by
  intro n
  induction n with
  |zero=>
    skip
    all_goals(intro _ _;intros;rename_i hm;cases hm)
  |succ n j=>
 intro H a0 a1 a2 o b c i hm;rw[jm] at hm;have p:=gn i;refine fQ.Nq i ?_;have e:=p;refine wi acR func28 [] [] 2 ?_;simp[e];refine Wj hm 2 999 (λq f h=>∃(v2:eG),(h=gC H c [sL sI v2.l,sI v2.r']/\f.1 0=AV.fT c 0/\f.1 1=sL Ty.av a1/\f.1 6=AV.eD 6 (f.gen 6) 0/\f.box 6=some [sI 0,sI 0,AV.slice .full [],AV.slice .full [],AV.slice .full []])/\q v2=some (o,b)) (λq V k m=>?_) ?_;rotate_left
 ·rintro t W ⟨v2,E,m⟩;have e:=Aj e E;have⟨X,e,m⟩:=ep e m;simp[e];refine Cf (hR e.2) ?_;have⟨Y,d8,e,m⟩:=gr e m;simp[e];refine Cs (ma T (by simp[e]) e.2) ?_;have⟨Z,d10,e,m⟩:=gr e m;simp[e];refine Cs (ma T (by simp[e]) e.2) ?_;have⟨u,e,m⟩:=ep e m;simp[e];refine Cs (lE e.2) ?_;cases m;simp[e]
 simp[e];rcases Io e m with⟨e,m⟩|⟨e,m⟩;rotate_left
 ·apply wg 999;simp[e];exact k _ _ ⟨a0,by simp[e],m⟩
 apply wg 6;have⟨a,d13,e,m⟩:=gr e m;simp[e];refine Cf (gv T (by simp[e]) e.2) ?_;simp[e];rcases Io e m with⟨e,m⟩|⟨e,m⟩
 ·apply wg 999;have⟨v,d15,e,m⟩:=gr e m;simp[e];refine Cf (j (by simp[e]) e.2) ?_;have⟨w,d17,e,m⟩:=gr e m;simp[e];refine Cf (j (by simp[e]) e.2) ?_;have⟨x,e,m⟩:=ep e m;simp[e];refine Cf (wO e.2) ?_;cases m;simp[e]
 apply wg 1;simp[e];refine wj 999 0 (λf h=>h=gC H c [sL sI d13.l,sI d13.r']/\f.1 0=AV.fT c 0/\f.1 1=sL Ty.av a1/\f.1 2=sI a2/\f.1 6=AV.eD 6 (f.gen 6) 0/\f.1 14=sI a/\f.1 28=sB (fW (eH a 1) true (eH a 2))/\f.box 6=some [sI 0,sI 0,AV.slice .full [],AV.slice .full [],AV.slice .full []]) (λy d=>?_) ?_
 ·rcases Pb (eH a 1) e with e|e
  ·simp[e];exact d _ _ (by simp[e])
  simp[e];exact d _ _ (by simp[e])
 rintro r z E;have e:=Aj e E;rcases Io e m with⟨e,m⟩|⟨e,m⟩
 ·apply wg 999;have⟨A,d23,e,m⟩:=gr e m;simp[e];refine Cf (j (by simp[e]) e.2) ?_;have⟨B,d25,e,m⟩:=gr e m;simp[e];refine Cf (j (by simp[e]) e.2) ?_;have⟨C,e,m⟩:=ep e m;simp[e];refine Cf (wO e.2) ?_;cases m;simp[e]
 apply wg 1;simp[e];refine wj 999 999 (λf h=>h=gC H c [sL sI d13.l,sI d13.r']/\f.1 0=AV.fT c 0/\f.1 1=sL Ty.av a1/\f.1 2=sI a2/\f.1 6=AV.eD 6 (f.gen 6) 0/\f.1 14=sI a/\f.1 42=sB (fW (eH a 3) true (eH a 4))/\f.box 6=some [sI 0,sI 0,AV.slice .full [],AV.slice .full [],AV.slice .full []]) (λD g=>?_) ?_
 ·rcases Pb (eH a 3) e with e|e
  ·simp[e];exact g _ _ (by simp[e])
  simp[e];exact g _ _ (by simp[e])
 rintro s F E;have e:=Aj e E;rcases Io e m with⟨e,m⟩|⟨e,m⟩
 ·have⟨G,d31,e,m⟩:=gr e m;simp[e];refine Cf (nD T (by simp[e]) e.2) ?_;have⟨I,e,m⟩:=ep e m;simp[e];refine Cs (oJ e.2) ?_;have⟨J,d34,e,m⟩:=gr e m;simp[e];refine Cs (j (by simp[e]) e.2) ?_;have⟨K,e,m⟩:=ep e m;simp[e];refine Cs (me e.2) ?_;cases m;simp[e]
 rcases Io e m with⟨e,m⟩|⟨e,m⟩
 ·have⟨L,d37,e,m⟩:=gr e m;simp[e];refine Cf (nD T (by simp[e]) e.2) ?_;have⟨M,e,m⟩:=ep e m;simp[e];refine Cs (oJ e.2) ?_;have⟨N,d40,e,m⟩:=gr e m;simp[e];refine Cs (j (by simp[e]) e.2) ?_;have⟨O,e,m⟩:=ep e m;simp[e];refine Cs (me e.2) ?_;cases m;simp[e]
 rcases Io e m with⟨e,m⟩|⟨e,m⟩;rotate_left
 ·simp[e];exact k _ _ ⟨d13,by simp[e],m⟩
 have⟨P,d43,e,m⟩:=gr e m;simp[e];refine Cf (nD T (by simp[e]) e.2) ?_;have⟨Q,d45,e,m⟩:=gr e m;simp[e];refine Cs (gv T (by simp[e]) e.2) ?_;have⟨R,e,m⟩:=ep e m;simp[e];refine Cs (oJ e.2) ?_;have⟨S,d48,e,m⟩:=gr e m;simp[e];refine Cs (j (by simp[e]) e.2) ?_;have⟨U,e,m⟩:=ep e m;simp[e];refine Cs (me e.2) ?_;cases m;simp[e]
def Ko(T:fh){H:eB}{a0:eG}{a1:List Ty}{a2:Int}{d:Fm}{a:eG}{b:Nat}(c:H[b]?=some [sL sI a0.l,sI a0.r']){n:Nat}(hm:jm n a0 a1 a2=some (d,a)):e_ prog T 28 [AV.fT b 0,sL Ty.av a1,sI a2] H (Fm.av d) (gC H b [sL sI a.l,sI a.r']):=(H8 T n) c hm
def DX:C2 prog 66 yg Sq.av Sq.av Fm.av:=by
 intro T H a0 a1 r hm;rw[yg] at hm;have e:=trivial;refine wi acR func66 [] [] 999 ?_;have⟨e,m⟩:=Ck e hm;simp[e];refine Ad (f:=Fm.av) [] a0.acT (js.full (D:=[])) Gq e.2 ?_;have⟨e,m⟩:=Ck e m;simp[e];refine Ad (f:=Fm.av) (gU [] a0.acT) [a1] (js.new (D:=[9]) (d:=9) (by decide)) Gq e.2 ?_;cases m;simp[e]
def EI:C2 prog 65 u0 Pf.av Fm.av Pf.av:=by
 intro T H a0 a1 r hm;rw[u0] at hm;have e:=trivial;refine wi acR func65 [] [] 999 ?_;have⟨a,e,m⟩:=ep e hm;simp[e];refine Cf (nH e.2) ?_;have⟨b,e,m⟩:=ep e m;simp[e];refine Cf (kS e.2) ?_;have e:=Aj e (show AV.agg [sI a.acM,sI a.acP,sI a.dv.acM,sL Ty.av a.dv.acN,sL Tm.av a.ek,AV.slice .iR [Fm.av b],sL Pf.av a.acN]=Pf.av (Pf.mk a.acM a.acP a.dv a.ek [b] a.acN) by rw[Pf.fL];rfl);cases m;simp[e]
def Gj:∀(n:Nat),C1 prog 187 (oI n) sB Ty.av:=by
  intro n
  induction n with
  |zero=>
    skip
    all_goals(intro _ _;intros;rename_i hm;cases hm)
  |succ n q=>
 intro T H a0 r hm;rw[oI] at hm;have e:=trivial;refine wi acR func187 [] [] 4 ?_;simp[e];refine Wj hm 3 999 (λj f h=>∃(v2:Int),(h=H/\f.1 1=AV.eD 1 (f.gen 1) 0/\f.1 3=sI v2/\f.box 1=some (Ty.av a0).cells)/\j v2=some r) (λj D c m=>?_) ?_;rotate_left
 ·rintro s F ⟨v2,E,m⟩;have e:=Aj e E;rcases Io e m with⟨e,m⟩|⟨e,m⟩
  ·cases m;simp[e]
  simp[e];refine Wr e m 999 (λk l f h=>h=H/\f.1 21=sL Ty.av a0.acN/\f.1 22=sI (eN a0.acN)/\f.1 23=sI k) (by simp[e]) (λl i t u E m=>?_) (λk v l i t u w x E e m d g=>?_)
  ·have e:=Aj e E;dsimp only[en]at m;cases m;simp[e]
  have e:=Aj e E;have⟨y,e,m⟩:=ep e m;simp[e];refine Cf (q e.2) ?_;rcases Io e m with⟨e,m⟩|⟨e,m⟩;rotate_left
  ·cases m;cases d;simp[e]
  simp[e];cases m;exact g _ _ _ (by simp[e]) d
 simp[e];refine wj 999 0 (λf h=>h=H/\f.1 1=AV.eD 1 (f.gen 1) 0/\f.1 3=sI 0/\f.1 7=sI a0.acM/\f.1 8=sB (fW (eH a0.acM 1) true (fW (eH a0.acM 2) true (eH a0.acM 5)))/\f.box 1=some (Ty.av a0).cells) (λz a=>?_) ?_
 ·rcases Pb (eH a0.acM 1) e with e|e
  ·simp[e];exact a _ _ (by simp[e])
  rcases Pb (eH a0.acM 2) e with e|e
  ·simp[e];exact a _ _ (by simp[e])
  simp[e];exact a _ _ (by simp[e])
 rintro o A E;have e:=Aj e E;rcases Io e m with⟨e,m⟩|⟨e,m⟩
 ·apply wg 999;simp[e];exact c _ _ ⟨0,by simp[e],m⟩
 apply wg 1;simp[e];refine wj 999 999 (λf h=>h=H/\f.1 1=AV.eD 1 (f.gen 1) 0/\f.1 12=sB (fW (eH a0.acM 3) true (eH a0.acM 4))/\f.box 1=some (Ty.av a0).cells) (λB b=>?_) ?_
 ·rcases Pb (eH a0.acM 3) e with e|e
  ·simp[e];exact b _ _ (by simp[e])
  simp[e];exact b _ _ (by simp[e])
 rintro p C E;have e:=Aj e E;rcases Io e m with⟨e,m⟩|⟨e,m⟩;rotate_left
 ·cases m;simp[e]
 simp[e];exact c _ _ ⟨2,by simp[e],m⟩
def IZ{n:Nat}:C1 prog 187 (oI n) sB Ty.av:=(Gj n)
def I0:∀(n:Nat),C1 prog 188 (qq n) sI Ty.av:=by
  intro n
  induction n with
  |zero=>
   skip
   all_goals(intro _ _;intros;rename_i hm;cases hm)
  |succ n d=>
 intro T H a0 r hm;rw[qq] at hm;have e:=trivial;refine wi acR func188 [] [] 999 ?_;simp[e];refine Wr e hm 999 (λc s2 f h=>h=H/\f.1 3=sI s2/\f.1 7=sL Ty.av a0.acN/\f.1 8=sI (eN a0.acN)/\f.1 9=sI c) (by simp[e]) (λs2 a g i E m=>?_) (λc l s2 a g i n6 o E e m j b=>?_)
 ·have e:=Aj e E;dsimp only[en]at m;cases m;simp[e]
 have e:=Aj e E;have⟨k,e,m⟩:=ep e m;simp[e];refine Cf (d e.2) ?_;simp[e];cases m;exact b _ _ _ (by simp[e]) j
def Lf{n:Nat}:C1 prog 188 (qq n) sI Ty.av:=(I0 n)
def pI:C1 prog 137 jL sI Ty.av:=by
 intro T H a0 r hm;rw[jL] at hm;have e:=trivial;refine wi acR func137 [] [] 999 ?_;have⟨a,e,m⟩:=ep e hm;simp[e];refine Cf (IZ e.2) ?_;rcases Io e m with⟨e,m⟩|⟨e,m⟩;rotate_left
 ·cases m;simp[e]
 have⟨b,e,m⟩:=ep e m;simp[e];refine Cf (Lf e.2) ?_;rcases Io e m with⟨e,m⟩|⟨e,m⟩
 ·cases m;simp[e]
 cases m;simp[e]
def uv:C1 prog 78 mQ sI (sL Ty.av):=by
 intro T H a0 r hm;rw[mQ] at hm;have e:=trivial;refine wi acR func78 [] [] 999 ?_;rcases Io e hm with⟨e,m⟩|⟨e,m⟩
 ·cases m;simp[e]
 simp[e];refine Wr e m 999 (λc s2 f h=>h=H/\f.1 9=sL Ty.av a0/\f.1 10=sI (eN a0)/\f.1 11=sI c) (by simp[e]) (λs2 a g i E m=>?_) (λc k s2 a g i n6 l E e m d b=>?_)
 ·have e:=Aj e E;dsimp only[en]at m;cases m;simp[e]
 have e:=Aj e E;have⟨j,e,m⟩:=ep e m;simp[e];refine Cf (pI e.2) ?_;rcases Io e m with⟨e,m⟩|⟨e,m⟩
 ·cases m;cases d;simp[e]
 simp[e];cases m;exact b _ _ _ (by simp[e]) d
def uM:C1 prog 216 qg sB Ty.av:=by
 intro T H a0 r hm;rw[qg] at hm;have e:=trivial;refine wi acR func216 [] [] 2 ?_;simp[e];refine wj 999 999 (λf h=>h=H/\f.1 2=sB (fW (eH a0.acM 0) (eH (eN a0.acN) 0) false)) (λc a=>?_) ?_;rotate_left
 ·rintro b d E;have e:=Aj e E;cases hm;simp[e]
 rcases Pb (eH a0.acM 0) e with e|e
 ·simp[e];exact a _ _ (by simp[e])
 simp[e];exact a _ _ (by simp[e])
def Kw:C1 prog 233 vV sI sI:=by
 intro T H a0 r hm;rw[vV] at hm;have e:=trivial;refine wi acR func233 [] [] 6 ?_;simp[e];refine wj 999 0 (λf h=>h=H/\f.1 3=sI a0/\f.1 4=sB (fW (eH a0 1) true (fW (eH a0 4) true (fW (eH a0 7) true (eH a0 13))))) (λo a=>?_) ?_
 ·rcases Pb (eH a0 1) e with e|e
  ·simp[e];exact a _ _ (by simp[e])
  rcases Pb (eH a0 4) e with e|e
  ·simp[e];exact a _ _ (by simp[e])
  rcases Pb (eH a0 7) e with e|e
  ·simp[e];exact a _ _ (by simp[e])
  simp[e];exact a _ _ (by simp[e])
 rintro i p E;have e:=Aj e E;rcases Io e hm with⟨e,m⟩|⟨e,m⟩
 ·apply wg 999;cases m;simp[e]
 apply wg 1;simp[e];refine wj 999 0 (λf h=>h=H/\f.1 3=sI a0/\f.1 9=sB (fW (eH a0 2) true (fW (eH a0 5) true (fW (eH a0 11) true (eH a0 12))))) (λq b=>?_) ?_
 ·rcases Pb (eH a0 2) e with e|e
  ·simp[e];exact b _ _ (by simp[e])
  rcases Pb (eH a0 5) e with e|e
  ·simp[e];exact b _ _ (by simp[e])
  rcases Pb (eH a0 11) e with e|e
  ·simp[e];exact b _ _ (by simp[e])
  simp[e];exact b _ _ (by simp[e])
 rintro j s E;have e:=Aj e E;rcases Io e m with⟨e,m⟩|⟨e,m⟩
 ·apply wg 999;cases m;simp[e]
 apply wg 1;simp[e];refine wj 999 0 (λf h=>h=H/\f.1 3=sI a0/\f.1 14=sB (fW (eH a0 3) true (fW (eH a0 8) true (eH a0 10)))) (λt d=>?_) ?_
 ·rcases Pb (eH a0 3) e with e|e
  ·simp[e];exact d _ _ (by simp[e])
  rcases Pb (eH a0 8) e with e|e
  ·simp[e];exact d _ _ (by simp[e])
  simp[e];exact d _ _ (by simp[e])
 rintro k u E;have e:=Aj e E;rcases Io e m with⟨e,m⟩|⟨e,m⟩
 ·apply wg 999;cases m;simp[e]
 apply wg 1;simp[e];refine wj 999 999 (λf h=>h=H/\f.1 18=sB (fW (eH a0 6) true (eH a0 9))) (λl c=>?_) ?_;rotate_left
 ·rintro g n E;have e:=Aj e E;rcases Io e m with⟨e,m⟩|⟨e,m⟩
  ·cases m;simp[e]
  cases m;simp[e]
 rcases Pb (eH a0 6) e with e|e
 ·simp[e];exact c _ _ (by simp[e])
 simp[e];exact c _ _ (by simp[e])
def GR:∀(n:Nat),C1 prog 172 (kC n) sB Tm.av:=by
  intro n
  induction n with
  |zero=>
    skip
    all_goals(intro _ _;intros;rename_i hm;cases hm)
  |succ n u=>
 intro T H a0 r hm;rw[kC] at hm;have e:=trivial;refine wi acR func172 [] [] 3 ?_;simp[e];refine Wj hm 999 0 (λp f h=>∃(v2:Bool),(h=H/\f.1 1=AV.eD 1 (f.gen 1) 0/\f.1 26=sB v2/\f.box 1=some (Tm.av a0).cells)/\p v2=some r) (λp G b m=>?_) ?_
 ·have⟨I,e,m⟩:=ep e m;simp[e];refine Cs (Kw e.2) ?_;rcases Io e m with⟨e,m⟩|⟨e,m⟩
  ·simp[e];exact b _ _ ⟨true,by simp[e],m⟩
  rcases Io e m with⟨e,m⟩|⟨e,m⟩
  ·simp[e];exact b _ _ ⟨true,by simp[e],m⟩
  rcases Io e m with⟨e,m⟩|⟨e,m⟩;rotate_left
  ·simp[e];exact b _ _ ⟨false,by simp[e],m⟩
  simp[e];exact b _ _ ⟨(eW a0.acP 0),by simp[e],m⟩
 rintro v J ⟨v2,E,m⟩;have e:=Aj e E;rcases Io e m with⟨e,m⟩|⟨e,m⟩
 ·apply wg 999;cases m;simp[e]
 apply wg 2;simp[e];refine Wj m 3 999 (λq f h=>(h=H/\f.1 1=AV.eD 1 (f.gen 1) 0/\f.box 1=some (Tm.av a0).cells)/\q=some r) (λq K c m=>?_) ?_;rotate_left
 ·rintro s w ⟨E,m⟩;have e:=Aj e E;simp[e];refine Wr e m 999 (λd g f h=>h=H/\f.1 42=sL Tm.av a0.acN/\f.1 43=sI (eN a0.acN)/\f.1 44=sI d) (by simp[e]) (λg i l o E m=>?_) (λd x g i l o y z E e m j k=>?_)
  ·have e:=Aj e E;dsimp only[en]at m;cases m;simp[e]
  have e:=Aj e E;have⟨A,e,m⟩:=ep e m;simp[e];refine Cf (u e.2) ?_;rcases Io e m with⟨e,m⟩|⟨e,m⟩;rotate_left
  ·cases m;cases j;simp[e]
  simp[e];cases m;exact k _ _ _ (by simp[e]) j
 simp[e];refine wj 999 999 (λf h=>h=H/\f.1 1=AV.eD 1 (f.gen 1) 0/\f.1 33=sB (fW (eH a0.acM 2) true (fW (eH a0.acM 6) true (eH a0.acM 9)))/\f.box 1=some (Tm.av a0).cells) (λB a=>?_) ?_
 ·rcases Pb (eH a0.acM 2) e with e|e
  ·simp[e];exact a _ _ (by simp[e])
  rcases Pb (eH a0.acM 6) e with e|e
  ·simp[e];exact a _ _ (by simp[e])
  simp[e];exact a _ _ (by simp[e])
 rintro t C E;have e:=Aj e E;rcases Io e m with⟨e,m⟩|⟨e,m⟩
 ·have⟨D,e,m⟩:=ep e m;simp[e];refine Cf (pI e.2) ?_;rcases Io e m with⟨e,m⟩|⟨e,m⟩
  ·cases m;simp[e]
  simp[e];exact c _ _ ⟨by simp[e],m⟩
 have⟨F,e,m⟩:=ep e m;simp[e];refine Cf (uM e.2) ?_;rcases Io e m with⟨e,m⟩|⟨e,m⟩;rotate_left
 ·cases m;simp[e]
 simp[e];exact c _ _ ⟨by simp[e],m⟩
def tM{n:Nat}:C1 prog 172 (kC n) sB Tm.av:=(GR n)
def rD:C1 prog 164 lC sB sI:=by
 intro T H a0 r hm;rw[lC] at hm;have e:=trivial;refine wi acR func164 [] [] 2 ?_;simp[e];refine wj 999 999 (λf h=>h=H/\f.1 2=sB (fW (eH a0 4) true (fW (eH a0 5) true (fW (eH a0 6) true (eH a0 7))))) (λc a=>?_) ?_;rotate_left
 ·rintro b d E;have e:=Aj e E;cases hm;simp[e]
 rcases Pb (eH a0 4) e with e|e
 ·simp[e];exact a _ _ (by simp[e])
 rcases Pb (eH a0 5) e with e|e
 ·simp[e];exact a _ _ (by simp[e])
 rcases Pb (eH a0 6) e with e|e
 ·simp[e];exact a _ _ (by simp[e])
 simp[e];exact a _ _ (by simp[e])
def Gt:∀(n:Nat),C1 prog 162 (lW n) sB Fm.av:=by
  intro n
  induction n with
  |zero=>
    skip
    all_goals(intro _ _;intros;rename_i hm;cases hm)
  |succ n k=>
 intro T H a0 r hm;rw[lW] at hm;have e:=trivial;refine wi acR func162 [] [] 7 ?_;rcases Io e hm with⟨e,m⟩|⟨e,m⟩
 ·simp[e];refine Wj m 999 999 (λq f h=>∃(v2:Bool),(h=H/\f.1 2=sB v2)/\q v2=some r) (λq L c m=>?_) ?_;rotate_left
  ·rintro v M ⟨v2,E,m⟩;have e:=Aj e E;cases m;simp[e]
  rcases Io e m with⟨e,m⟩|⟨e,m⟩;rotate_left
  ·simp[e];exact c _ _ ⟨false,by simp[e],m⟩
  have⟨N,e,m⟩:=ep e m;simp[e];refine Cf (uM e.2) ?_;rcases Io e m with⟨e,m⟩|⟨e,m⟩;rotate_left
  ·simp[e];exact c _ _ ⟨false,by simp[e],m⟩
  rcases Io e m with⟨e,m⟩|⟨e,m⟩;rotate_left
  ·simp[e];exact c _ _ ⟨false,by simp[e],m⟩
  have⟨O,e,m⟩:=ep e m;have⟨P,e,m⟩:=ep e m;simp[e];refine Cf (tM e.2) ?_;rcases Io e m with⟨e,m⟩|⟨e,m⟩;rotate_left
  ·simp[e];exact c _ _ ⟨false,by simp[e],m⟩
  have⟨Q,e,m⟩:=ep e m;have⟨l,e,m⟩:=ep e m;simp[e];refine Cf (tM e.2) ?_;simp[e];exact c _ _ ⟨l,by simp[e],m⟩
 simp[e];refine wj 999 0 (λf h=>h=H/\f.1 1=AV.eD 1 (f.gen 1) 0/\f.1 36=sB (fW (eH a0.acM 2) true (eH a0.acM 3))/\f.box 1=some (Fm.av a0).cells) (λw d=>?_) ?_
 ·rcases Pb (eH a0.acM 2) e with e|e
  ·simp[e];exact d _ _ (by simp[e])
  simp[e];exact d _ _ (by simp[e])
 rintro s x E;have e:=Aj e E;rcases Io e m with⟨e,m⟩|⟨e,m⟩;rotate_left
 ·apply wg 3;have⟨y,e,m⟩:=ep e m;simp[e];refine Cf (rD e.2) ?_;simp[e];rcases Io e m with⟨e,m⟩|⟨e,m⟩;rotate_left
  ·apply wg 999;cases m;simp[e]
  apply wg 1;simp[e];refine Wj m 999 999 (λi f h=>∃(g:Bool),(h=H/\f.1 2=sB g)/\i g=some r) (λi z b m=>?_) ?_;rotate_left
  ·rintro t A ⟨g,E,m⟩;have e:=Aj e E;cases m;simp[e]
  rcases Io e m with⟨e,m⟩|⟨e,m⟩;rotate_left
  ·simp[e];exact b _ _ ⟨false,by simp[e],m⟩
  have⟨B,e,m⟩:=ep e m;simp[e];refine Cf (pI e.2) ?_;rcases Io e m with⟨e,m⟩|⟨e,m⟩;rotate_left
  ·simp[e];exact b _ _ ⟨false,by simp[e],m⟩
  rcases Io e m with⟨e,m⟩|⟨e,m⟩;rotate_left
  ·simp[e];exact b _ _ ⟨false,by simp[e],m⟩
  have⟨C,e,m⟩:=ep e m;have⟨o,e,m⟩:=ep e m;simp[e];refine Cf (k e.2) ?_;simp[e];exact b _ _ ⟨o,by simp[e],m⟩
 apply wg 1;simp[e];refine Wj m 999 999 (λj f h=>∃(v24:Bool),(h=H/\f.1 2=sB v24)/\j v24=some r) (λj D a m=>?_) ?_;rotate_left
 ·rintro u F ⟨v24,E,m⟩;have e:=Aj e E;cases m;simp[e]
 rcases Io e m with⟨e,m⟩|⟨e,m⟩;rotate_left
 ·simp[e];exact a _ _ ⟨false,by simp[e],m⟩
 have⟨G,e,m⟩:=ep e m;simp[e];refine Cf (uM e.2) ?_;rcases Io e m with⟨e,m⟩|⟨e,m⟩;rotate_left
 ·simp[e];exact a _ _ ⟨false,by simp[e],m⟩
 rcases Io e m with⟨e,m⟩|⟨e,m⟩;rotate_left
 ·simp[e];exact a _ _ ⟨false,by simp[e],m⟩
 have⟨I,e,m⟩:=ep e m;have⟨J,e,m⟩:=ep e m;simp[e];refine Cf (k e.2) ?_;rcases Io e m with⟨e,m⟩|⟨e,m⟩;rotate_left
 ·simp[e];exact a _ _ ⟨false,by simp[e],m⟩
 have⟨K,e,m⟩:=ep e m;have⟨p,e,m⟩:=ep e m;simp[e];refine Cf (k e.2) ?_;simp[e];exact a _ _ ⟨p,by simp[e],m⟩
def A8{n:Nat}:C1 prog 162 (lW n) sB Fm.av:=(Gt n)
def GN:∀(n:Nat),C1 prog 117 (gh n) sI Tm.av:=by
  intro n
  induction n with
  |zero=>
   skip
   all_goals(intro _ _;intros;rename_i hm;cases hm)
  |succ n d=>
 intro T H a0 r hm;rw[gh] at hm;have e:=trivial;refine wi acR func117 [] [] 999 ?_;simp[e];refine Wr e hm 999 (λc s2 f h=>h=H/\f.1 3=sI s2/\f.1 7=sL Tm.av a0.acN/\f.1 8=sI (eN a0.acN)/\f.1 9=sI c) (by simp[e]) (λs2 a g i E m=>?_) (λc l s2 a g i n6 o E e m j b=>?_)
 ·have e:=Aj e E;dsimp only[en]at m;cases m;simp[e]
 have e:=Aj e E;have⟨k,e,m⟩:=ep e m;simp[e];refine Cf (d e.2) ?_;simp[e];cases m;exact b _ _ _ (by simp[e]) j
def hB{n:Nat}:C1 prog 117 (gh n) sI Tm.av:=(GN n)
def HG:∀(n:Nat),C1 prog 115 (lR n) sI Fm.av:=by
  intro n
  induction n with
  |zero=>
   skip
   all_goals(intro _ _;intros;rename_i hm;cases hm)
  |succ n p=>
 intro T H a0 r hm;rw[lR] at hm;have e:=trivial;refine wi acR func115 [] [] 999 ?_;simp[e];refine Wr e hm 999 (λo s2 f h=>h=H/\f.1 1=AV.eD 1 (f.gen 1) 0/\f.1 3=sI s2/\f.1 9=sL Tm.av a0.ek/\f.1 10=sI (eN a0.ek)/\f.1 11=sI o/\f.box 1=some (Fm.av a0).cells) (by simp[e]) (λs2 g q s E m=>?_) (λo z s2 g q s n6 A E e m t i=>?_);rotate_left
 ·have e:=Aj e E;have⟨u,e,m⟩:=ep e m;simp[e];refine Cf (hB e.2) ?_;simp[e];cases m;exact i _ _ _ (by simp[e]) t
 have e:=Aj e E;dsimp only[en]at m;simp[e];refine Wr e m 999 (λb a f h=>h=H/\f.1 3=sI a/\f.1 21=sL Fm.av a0.acN/\f.1 22=sI (eN a0.acN)/\f.1 23=sI b) (by simp[e]) (λa c j k E m=>?_) (λb v a c j k w x E e m l d=>?_)
 ·have e:=Aj e E;dsimp only[en]at m;cases m;simp[e]
 have e:=Aj e E;have⟨y,e,m⟩:=ep e m;simp[e];refine Cf (p e.2) ?_;simp[e];cases m;exact d _ _ _ (by simp[e]) l
def tI{n:Nat}:C1 prog 115 (lR n) sI Fm.av:=(HG n)
def oc:C1 prog 93 lk sI Fm.av:=by
 intro T H a0 r hm;rw[lk] at hm;have e:=trivial;refine wi acR func93 [] [] 999 ?_;have⟨a,e,m⟩:=ep e hm;simp[e];refine Cf (A8 e.2) ?_;rcases Io e m with⟨e,m⟩|⟨e,m⟩;rotate_left
 ·cases m;simp[e]
 have⟨b,e,m⟩:=ep e m;simp[e];refine Cf (tI e.2) ?_;rcases Io e m with⟨e,m⟩|⟨e,m⟩
 ·cases m;simp[e]
 cases m;simp[e]
def og:C1 prog 112 lU sI Tm.av:=by
 intro T H a0 r hm;rw[lU] at hm;have e:=trivial;refine wi acR func112 [] [] 999 ?_;have⟨a,e,m⟩:=ep e hm;simp[e];refine Cf (tM e.2) ?_;rcases Io e m with⟨e,m⟩|⟨e,m⟩;rotate_left
 ·cases m;simp[e]
 have⟨b,e,m⟩:=ep e m;simp[e];refine Cf (hB e.2) ?_;rcases Io e m with⟨e,m⟩|⟨e,m⟩
 ·cases m;simp[e]
 cases m;simp[e]
def Ha:C1 prog 293 tP (t2 Ty.av sI) Ty.av:=by
 intro T H a0 r hm;rw[tP] at hm;have e:=trivial;refine wi acR func293 [] [] 999 ?_;have⟨a,e,m⟩:=ep e hm;simp[e];refine Cf (pI e.2) ?_;rcases Io e m with⟨e,m⟩|⟨e,m⟩
 ·cases m;simp[e]
 cases m;simp[e]
def G7:∀(n:Nat),C2 prog 268 (fU n) (t2 Ty.av sI) (sL Ty.av) Tm.av:=by
  intro n
  induction n with
  |zero=>
    skip
    all_goals(intro _ _;intros;rename_i hm;cases hm)
  |succ n N=>
 intro T H a0 a1 r hm;rw[fU] at hm;have e:=trivial;refine wi acR func268 [] [] 999 ?_;rcases Io e hm with⟨e,m⟩|⟨e,m⟩
 ·rcases Io e m with⟨e,m⟩|⟨e,m⟩
  ·cases m;simp[e]
  have⟨x1,e,m⟩:=ep e m;have⟨x2,e,m⟩:=ep e m;simp[e];refine Cf (jT e.2) ?_;cases m;simp[e]
 rcases Io e m with⟨e,m⟩|⟨e,m⟩
 ·have⟨e,m⟩:=Ck e m;simp[e];refine Ad (f:=Ty.av) a0 [a1.dv] (js.full (D:=[])) GM e.2 ?_;have⟨x3,e,m⟩:=ep e m;have⟨x4,x5,e,m⟩:=gr e m;simp[e];refine Cs (N e.2) ?_;rcases Io e m with⟨e,m⟩|⟨e,m⟩
  ·cases m;simp[e]
  have⟨x6,e,m⟩:=ep e m;simp[e];refine Cf (oK e.2) ?_;have⟨x7,x8,e,m⟩:=gr e m;simp[e];refine Cf (Ha e.2) ?_;cases m;simp[e]
 simp[e];refine Wr e m 0 (λO c f h=>∃(a:Tag),(h=H/\f.1 0=sL Ty.av a0/\f.1 3=AV.eD 3 (f.gen 3) 0/\f.1 4=AV.eD 4 (f.gen 4) 0/\f.1 8=sT a Ty.av c/\f.1 67=sL Tm.av a1.acN/\f.1 68=sI (eN a1.acN)/\f.1 69=sI O/\f.box 3=some (Tm.av a1).cells/\f.box 4=some [sI 0,AV.slice .full []])/\Ow f [86] a c) (by exact⟨.full,by simp[e],js.full⟩) (λc k A B E m=>?_) (λO V c k A B W X E e m u v=>?_);rotate_left
 ·have⟨a,E,b⟩:=E;have e:=Aj e E;apply wg 999;have⟨C,Y,e,m⟩:=gr e m;simp[e];refine Cf (N e.2) ?_;rcases Io e m with⟨e,m⟩|⟨e,m⟩
  ·cases m;cases u;simp[e]
  have⟨e,m⟩:=Ck e m;simp[e];refine Ao (f:=Ty.av) c [C] b GM e.2 ?_;simp[e];cases m;exact v _ _ _ ⟨(.loc 86 (k.fP 86+1)),by simp[e],(On 86)⟩ u
 have⟨a,E,b⟩:=E;have e:=Aj e E;apply wg 13;dsimp only[en]at m;have⟨Z,e,m⟩:=ep e m;simp[e];refine Cf (hR e.2) ?_;have⟨F,e,m⟩:=ep e m;simp[e];refine Cf (nW e.2) ?_;simp[e];rcases Io e m with⟨e,m⟩|⟨e,m⟩
 ·apply wg 2;simp[e];refine Wj m 999 999 (λw f h=>∃(q:Bool) (d:Tag),(h=H/\f.1 4=AV.eD 4 (f.gen 4) 0/\f.1 8=sT d Ty.av c/\f.1 111=sB q/\f.box 4=some [sI 0,AV.slice .full []])/\Ow f [86] d c/\w q=some r) (λw aa l m=>?_) ?_;rotate_left
  ·rintro P ab ⟨q,d,E,G,m⟩;have e:=Aj e E;rcases Io e m with⟨e,m⟩|⟨e,m⟩
   ·cases m;simp[e]
   have⟨ad,e,m⟩:=ep e m;have⟨ae,e,m⟩:=ep e m;cases m;simp[e]
  have⟨af,e,m⟩:=ep e m;rcases Io e m with⟨e,m⟩|⟨e,m⟩
  ·simp[e];exact l _ _ ⟨true,a,by simp[e],b,m⟩
  have⟨ah,e,m⟩:=ep e m;have⟨ai,e,m⟩:=ep e m;have⟨I,e,m⟩:=ep e m;simp[e];refine Cs (iw e.2) ?_;simp[e];exact l _ _ ⟨(nB I),a,by simp[e],b,m⟩
 apply wg 3;simp[e];rcases Io e m with⟨e,m⟩|⟨e,m⟩
 ·apply wg 999;cases m;simp[e]
 apply wg 3;simp[e];rcases Io e m with⟨e,m⟩|⟨e,m⟩
 ·apply wg 999;have⟨aj,e,m⟩:=ep e m;have⟨ak,e,m⟩:=ep e m;simp[e];refine Cs (iw e.2) ?_;rcases Io e m with⟨e,m⟩|⟨e,m⟩
  ·cases m;simp[e]
  cases m;simp[e]
 apply wg 3;simp[e];rcases Io e m with⟨e,m⟩|⟨e,m⟩
 ·apply wg 2;simp[e];refine Wj m 999 999 (λx f h=>∃(s:Bool),(h=H/\f.1 3=AV.eD 3 (f.gen 3) 0/\f.1 4=AV.eD 4 (f.gen 4) 0/\f.1 162=sB s/\f.box 3=some (Tm.av a1).cells/\f.box 4=some [sI 0,AV.slice .full []])/\x s=some r) (λx al i m=>?_) ?_;rotate_left
  ·rintro Q an ⟨s,E,m⟩;have e:=Aj e E;rcases Io e m with⟨e,m⟩|⟨e,m⟩
   ·cases m;simp[e]
   have⟨ao,e,m⟩:=ep e m;simp[e];refine Cf (jT e.2) ?_;cases m;simp[e]
  have⟨aq,e,m⟩:=ep e m;have⟨ar,e,m⟩:=ep e m;simp[e];refine Cs (iw e.2) ?_;rcases Io e m with⟨e,m⟩|⟨e,m⟩;rotate_left
  ·simp[e];exact i _ _ ⟨true,by simp[e],m⟩
  have⟨au,e,m⟩:=ep e m;have⟨aw,e,m⟩:=ep e m;simp[e];refine Cs (oK e.2) ?_;have⟨ax,e,m⟩:=ep e m;simp[e];refine Cs (oK e.2) ?_;have⟨ay,e,m⟩:=ep e m;simp[e];refine Cs (iw e.2) ?_;rcases Io e m with⟨e,m⟩|⟨e,m⟩;rotate_left
  ·simp[e];exact i _ _ ⟨true,by simp[e],m⟩
  have⟨az,e,m⟩:=ep e m;have⟨J,e,m⟩:=ep e m;simp[e];refine Cs (iw e.2) ?_;simp[e];exact i _ _ ⟨(nB J),by simp[e],m⟩
 apply wg 3;simp[e];rcases Io e m with⟨e,m⟩|⟨e,m⟩
 ·apply wg 999;cases m;simp[e]
 apply wg 3;simp[e];rcases Io e m with⟨e,m⟩|⟨e,m⟩
 ·apply wg 2;simp[e];refine Wj m 999 999 (λy f h=>∃(t:Bool),(h=H/\f.1 4=AV.eD 4 (f.gen 4) 0/\f.1 14=AV.eD 14 (f.gen 14) 0/\f.1 185=sB t/\f.box 4=some [sI 0,AV.slice .full []]/\f.box 14=some (Ty.av F).cells)/\y t=some r) (λy aA o m=>?_) ?_;rotate_left
  ·rintro R aB ⟨t,E,m⟩;have e:=Aj e E;rcases Io e m with⟨e,m⟩|⟨e,m⟩
   ·cases m;simp[e]
   cases m;simp[e]
  have⟨aC,e,m⟩:=ep e m;have⟨aD,e,m⟩:=ep e m;simp[e];refine Cs (iw e.2) ?_;rcases Io e m with⟨e,m⟩|⟨e,m⟩;rotate_left
  ·simp[e];exact o _ _ ⟨true,by simp[e],m⟩
  have⟨aE,e,m⟩:=ep e m;have⟨K,e,m⟩:=ep e m;simp[e];refine Cs (iw e.2) ?_;simp[e];exact o _ _ ⟨(nB K),by simp[e],m⟩
 apply wg 3;simp[e];rcases Io e m with⟨e,m⟩|⟨e,m⟩
 ·apply wg 2;simp[e];refine Wj m 999 999 (λz f h=>∃(v59:Bool),(h=H/\f.1 3=AV.eD 3 (f.gen 3) 0/\f.1 4=AV.eD 4 (f.gen 4) 0/\f.1 220=sB v59/\f.box 3=some (Tm.av a1).cells/\f.box 4=some [sI 0,AV.slice .full []])/\z v59=some r) (λz aF j m=>?_) ?_;rotate_left
  ·rintro S aG ⟨v59,E,m⟩;have e:=Aj e E;rcases Io e m with⟨e,m⟩|⟨e,m⟩
   ·cases m;simp[e]
   have⟨aH,e,m⟩:=ep e m;simp[e];refine Cf (jT e.2) ?_;cases m;simp[e]
  have⟨aI,e,m⟩:=ep e m;have⟨aJ,e,m⟩:=ep e m;simp[e];refine Cs (iw e.2) ?_;rcases Io e m with⟨e,m⟩|⟨e,m⟩;rotate_left
  ·simp[e];exact j _ _ ⟨true,by simp[e],m⟩
  have⟨aK,e,m⟩:=ep e m;have⟨aL,e,m⟩:=ep e m;simp[e];refine Cs (oK e.2) ?_;have⟨aM,e,m⟩:=ep e m;simp[e];refine Cs (oK e.2) ?_;have⟨aN,e,m⟩:=ep e m;simp[e];refine Cs (oK e.2) ?_;have⟨aO,e,m⟩:=ep e m;simp[e];refine Cs (iw e.2) ?_;rcases Io e m with⟨e,m⟩|⟨e,m⟩;rotate_left
  ·simp[e];exact j _ _ ⟨true,by simp[e],m⟩
  have⟨aP,e,m⟩:=ep e m;have⟨L,e,m⟩:=ep e m;simp[e];refine Cs (iw e.2) ?_;simp[e];exact j _ _ ⟨(nB L),by simp[e],m⟩
 apply wg 3;simp[e];rcases Io e m with⟨e,m⟩|⟨e,m⟩
 ·apply wg 999;have⟨aQ,e,m⟩:=ep e m;have⟨aR,e,m⟩:=ep e m;have⟨aS,e,m⟩:=ep e m;simp[e];refine Cs (ER e.2) ?_;have⟨aT,aU,e,m⟩:=gr e m;simp[e];refine Cs (Ha e.2) ?_;cases m;simp[e]
 apply wg 1;simp[e];refine wj 999 0 (λf h=>∃(g:Tag),(h=H/\f.1 3=AV.eD 3 (f.gen 3) 0/\f.1 4=AV.eD 4 (f.gen 4) 0/\f.1 8=sT g Ty.av c/\f.1 237=sB (fW (eH a1.acM 11) true (eH a1.acM 12))/\f.box 3=some (Tm.av a1).cells/\f.box 4=some [sI 0,AV.slice .full []])/\Ow f [86] g c) (λaV p=>?_) ?_
 ·rcases Pb (eH a1.acM 11) e with e|e
  ·simp[e];exact p _ _ ⟨a,by simp[e],b⟩
  simp[e];exact p _ _ ⟨a,by simp[e],b⟩
 rintro U aW ⟨g,E,M⟩;have e:=Aj e E;rcases Io e m with⟨e,m⟩|⟨e,m⟩;rotate_left
 ·apply wg 999;have⟨aX,e,m⟩:=ep e m;simp[e];refine Cf (Dn e.2) ?_;cases m;simp[e]
 apply wg 4;have⟨aY,e,m⟩:=ep e m;simp[e];rcases Io e m with⟨e,m⟩|⟨e,m⟩
 ·apply wg 999;cases m;simp[e]
 apply wg 5;simp[e];rcases Io e m with⟨e,m⟩|⟨e,m⟩
 ·apply wg 999;have⟨aZ,e,m⟩:=ep e m;cases m;simp[e]
 apply wg 999;have⟨a6,e,m⟩:=ep e m;cases m;simp[e]
def Iu{n:Nat}:C2 prog 268 (fU n) (t2 Ty.av sI) (sL Ty.av) Tm.av:=(G7 n)
def A9:C2 prog 232 qp (t2 Ty.av sI) (sL Ty.av) Tm.av:=by
 intro T H a0 a1 r hm;rw[qp] at hm;have e:=trivial;refine wi acR func232 [] [] 999 ?_;have⟨a,e,m⟩:=ep e hm;simp[e];refine Cf (og e.2) ?_;rcases Io e m with⟨e,m⟩|⟨e,m⟩
 ·cases m;simp[e]
 have⟨b,c,e,m⟩:=gr e m;simp[e];refine Cf (Iu e.2) ?_;cases m;simp[e]
def HW:∀(n:Nat),C2 prog 171 (mN n) sI (sL Ty.av) Fm.av:=by
  intro n
  induction n with
  |zero=>
    skip
    all_goals(intro _ _;intros;rename_i hm;cases hm)
  |succ n x=>
 intro T H a0 a1 r hm;rw[mN] at hm;have e:=trivial;refine wi acR func171 [] [] 999 ?_;simp[e];refine Wr e hm 0 (λv s2 f h=>h=H/\f.1 0=sL Ty.av a0/\f.1 3=AV.eD 3 (f.gen 3) 0/\f.1 13=sL Tm.av a1.ek/\f.1 14=sI (eN a1.ek)/\f.1 15=sI v/\f.box 3=some (Fm.av a1).cells) (by simp[e]) (λs2 g y z E m=>?_) (λv M s2 g y z n6 N E e m q s=>?_);rotate_left
 ·have e:=Aj e E;apply wg 999;have⟨A,B,e,m⟩:=gr e m;simp[e];refine Cf (A9 e.2) ?_;rcases Io e m with⟨e,m⟩|⟨e,m⟩
  ·cases m;cases q;simp[e]
  rcases Io e m with⟨e,m⟩|⟨e,m⟩
  ·cases m;cases q;simp[e]
  simp[e];cases m;exact s _ _ _ (by simp[e]) q
 have e:=Aj e E;apply wg 5;dsimp only[en]at m;simp[e];refine Wj m 999 999 (λi f h=>∃(c:List Ty) (b:Tag),(h=H/\f.1 0=sT b Ty.av c/\f.1 3=AV.eD 3 (f.gen 3) 0/\f.box 3=some (Fm.av a1).cells)/\i c=some r) (λi C d m=>?_) ?_
 ·have⟨F,e,m⟩:=ep e m;simp[e];refine Cf (rD e.2) ?_;rcases Io e m with⟨e,m⟩|⟨e,m⟩;rotate_left
  ·simp[e];exact d _ _ ⟨a0,.iR,by simp[e],m⟩
  have⟨e,m⟩:=Ck e m;simp[e];refine Ad (f:=Ty.av) a0 [a1.dv] (js.full (D:=[])) GM e.2 ?_;simp[e];exact d _ _ ⟨(gU a0 [a1.dv]),(.loc 44 (g.fP 44+1)),by simp[e],m⟩
 rintro w G ⟨c,b,E,m⟩;have e:=Aj e E;simp[e];refine Wr e m 999 (λj k f h=>∃(a:Tag),h=H/\f.1 0=sT a Ty.av c/\f.1 46=sL Fm.av a1.acN/\f.1 47=sI (eN a1.acN)/\f.1 48=sI j) ⟨b,by simp[e]⟩ (λk l t u E m=>?_) (λj I k l t u J K E e m o p=>?_)
 ·have⟨a,E⟩:=E;have e:=Aj e E;dsimp only[en]at m;cases m;simp[e]
 have⟨a,E⟩:=E;have e:=Aj e E;have⟨L,e,m⟩:=ep e m;simp[e];refine Cf (x e.2) ?_;rcases Io e m with⟨e,m⟩|⟨e,m⟩
 ·cases m;cases o;simp[e]
 simp[e];cases m;exact p _ _ _ ⟨a,by simp[e]⟩ o
def I3{n:Nat}:C2 prog 171 (mN n) sI (sL Ty.av) Fm.av:=(HW n)
def tD:C2 prog 111 lh sI (sL Ty.av) Fm.av:=by
 intro T H a0 a1 r hm;rw[lh] at hm;have e:=trivial;refine wi acR func111 [] [] 999 ?_;have⟨a,e,m⟩:=ep e hm;simp[e];refine Cf (oc e.2) ?_;rcases Io e m with⟨e,m⟩|⟨e,m⟩
 ·cases m;simp[e]
 have⟨b,e,m⟩:=ep e m;simp[e];refine Cf (I3 e.2) ?_;cases m;simp[e]
def tJ:C2 prog 44 kz sI (sL Ty.av) Fm.av:=by
 intro T H a0 a1 r hm;rw[kz] at hm;have e:=trivial;refine wi acR func44 [] [] 999 ?_;have⟨a,e,m⟩:=ep e hm;simp[e];refine Cf (uv e.2) ?_;rcases Io e m with⟨e,m⟩|⟨e,m⟩
 ·cases m;simp[e]
 have⟨b,e,m⟩:=ep e m;simp[e];refine Cf (tD e.2) ?_;cases m;simp[e]
def Fe:C2 prog 22 tL sI (sL Fm.av) Sq.av:=by
 intro T H a0 a1 r hm;rw[tL] at hm;have e:=trivial;refine wi acR func22 [] [] 999 ?_;rcases Io e hm with⟨e,m⟩|⟨e,m⟩
 ·cases m;simp[e]
 simp[e];refine Wr e m 999 (λn s2 f h=>h=H/\f.1 3=AV.eD 3 (f.gen 3) 0/\f.1 15=sL Fm.av a0/\f.1 16=sI (eN a0)/\f.1 17=sI n/\f.box 3=some (Sq.av a1).cells) (by simp[e]) (λs2 i p q E m=>?_) (λn y s2 i p q n6 z E e m o j=>?_);rotate_left
 ·have e:=Aj e E;have⟨s,e,m⟩:=ep e m;simp[e];refine Cf (tJ e.2) ?_;rcases Io e m with⟨e,m⟩|⟨e,m⟩
  ·cases m;cases o;simp[e]
  simp[e];cases m;exact j _ _ _ (by simp[e]) o
 have e:=Aj e E;dsimp only[en]at m;have⟨t,e,m⟩:=ep e m;simp[e];refine Cf (uv e.2) ?_;rcases Io e m with⟨e,m⟩|⟨e,m⟩
 ·cases m;simp[e]
 rcases Io e m with⟨e,m⟩|⟨e,m⟩
 ·cases m;simp[e]
 simp[e];refine Wr e m 999 (λa b f h=>h=H/\f.1 3=AV.eD 3 (f.gen 3) 0/\f.1 38=sL Fm.av a1.acT/\f.1 39=sI (eN a1.acT)/\f.1 40=sI a/\f.box 3=some (Sq.av a1).cells) (by simp[e]) (λb c k l E m=>?_) (λa u b c k l v w E e m d g=>?_)
 ·have e:=Aj e E;dsimp only[en]at m;cases m;simp[e]
 have e:=Aj e E;have⟨x,e,m⟩:=ep e m;simp[e];refine Cf (tJ e.2) ?_;rcases Io e m with⟨e,m⟩|⟨e,m⟩
 ·cases m;cases d;simp[e]
 simp[e];cases m;exact g _ _ _ (by simp[e]) d
def H4:C1 prog 215 pX (t2 fx.av sB) sI:=by
 intro T H a0 r hm;rw[pX] at hm;have e:=trivial;refine wi acR func215 [] [] 6 ?_;simp[e];refine wj 999 0 (λf h=>h=H/\f.1 2=AV.eD 2 (f.gen 2) 0/\f.1 4=sI a0/\f.1 5=sB (fW (eH a0 1) true (eH a0 2))/\f.box 2=some [sI 0,sI 0,sI 0,sB false,sB false]) (λG j=>?_) ?_
 ·rcases Pb (eH a0 1) e with e|e
  ·simp[e];exact j _ _ (by simp[e])
  simp[e];exact j _ _ (by simp[e])
 rintro s I E;have e:=Aj e E;rcases Io e hm with⟨e,m⟩|⟨e,m⟩
 ·apply wg 999;cases m;simp[e]
 apply wg 1;simp[e];refine wj 999 0 (λf h=>h=H/\f.1 2=AV.eD 2 (f.gen 2) 0/\f.1 4=sI a0/\f.1 9=sB (fW (eH a0 3) true (eH a0 7))/\f.box 2=some [sI 0,sI 0,sI 0,sB false,sB false]) (λJ k=>?_) ?_
 ·rcases Pb (eH a0 3) e with e|e
  ·simp[e];exact k _ _ (by simp[e])
  simp[e];exact k _ _ (by simp[e])
 rintro t K E;have e:=Aj e E;rcases Io e m with⟨e,m⟩|⟨e,m⟩
 ·apply wg 999;cases m;simp[e]
 apply wg 1;simp[e];refine wj 999 0 (λf h=>h=H/\f.1 2=AV.eD 2 (f.gen 2) 0/\f.1 4=sI a0/\f.1 13=sB (fW (eH a0 4) true (fW (eH a0 5) true (eH a0 20)))/\f.box 2=some [sI 0,sI 0,sI 0,sB false,sB false]) (λL i=>?_) ?_
 ·rcases Pb (eH a0 4) e with e|e
  ·simp[e];exact i _ _ (by simp[e])
  rcases Pb (eH a0 5) e with e|e
  ·simp[e];exact i _ _ (by simp[e])
  simp[e];exact i _ _ (by simp[e])
 rintro u M E;have e:=Aj e E;rcases Io e m with⟨e,m⟩|⟨e,m⟩
 ·apply wg 999;cases m;simp[e]
 apply wg 3;simp[e];rcases Io e m with⟨e,m⟩|⟨e,m⟩
 ·apply wg 999;cases m;simp[e]
 apply wg 1;simp[e];refine wj 999 0 (λf h=>h=H/\f.1 2=AV.eD 2 (f.gen 2) 0/\f.1 4=sI a0/\f.1 21=sB (fW (eH a0 8) true (eH a0 12))/\f.box 2=some [sI 0,sI 0,sI 0,sB false,sB false]) (λv a=>?_) ?_
 ·rcases Pb (eH a0 8) e with e|e
  ·simp[e];exact a _ _ (by simp[e])
  simp[e];exact a _ _ (by simp[e])
 rintro l w E;have e:=Aj e E;rcases Io e m with⟨e,m⟩|⟨e,m⟩
 ·apply wg 999;cases m;simp[e]
 apply wg 1;simp[e];refine wj 999 0 (λf h=>h=H/\f.1 2=AV.eD 2 (f.gen 2) 0/\f.1 4=sI a0/\f.1 25=sB (fW (eH a0 9) true (eH a0 13))/\f.box 2=some [sI 0,sI 0,sI 0,sB false,sB false]) (λx b=>?_) ?_
 ·rcases Pb (eH a0 9) e with e|e
  ·simp[e];exact b _ _ (by simp[e])
  simp[e];exact b _ _ (by simp[e])
 rintro n y E;have e:=Aj e E;rcases Io e m with⟨e,m⟩|⟨e,m⟩
 ·apply wg 999;cases m;simp[e]
 apply wg 1;simp[e];refine wj 999 0 (λf h=>h=H/\f.1 2=AV.eD 2 (f.gen 2) 0/\f.1 4=sI a0/\f.1 29=sB (fW (eH a0 10) true (eH a0 14))/\f.box 2=some [sI 0,sI 0,sI 0,sB false,sB false]) (λz c=>?_) ?_
 ·rcases Pb (eH a0 10) e with e|e
  ·simp[e];exact c _ _ (by simp[e])
  simp[e];exact c _ _ (by simp[e])
 rintro o A E;have e:=Aj e E;rcases Io e m with⟨e,m⟩|⟨e,m⟩
 ·apply wg 999;cases m;simp[e]
 apply wg 1;simp[e];refine wj 999 0 (λf h=>h=H/\f.1 2=AV.eD 2 (f.gen 2) 0/\f.1 4=sI a0/\f.1 33=sB (fW (eH a0 11) true (eH a0 15))/\f.box 2=some [sI 0,sI 0,sI 0,sB false,sB false]) (λB d=>?_) ?_
 ·rcases Pb (eH a0 11) e with e|e
  ·simp[e];exact d _ _ (by simp[e])
  simp[e];exact d _ _ (by simp[e])
 rintro p C E;have e:=Aj e E;rcases Io e m with⟨e,m⟩|⟨e,m⟩
 ·apply wg 999;cases m;simp[e]
 apply wg 1;simp[e];refine wj 999 999 (λf h=>h=H/\f.1 2=AV.eD 2 (f.gen 2) 0/\f.1 4=sI a0/\f.1 37=sB (fW (eH a0 16) true (eH a0 17))/\f.box 2=some [sI 0,sI 0,sI 0,sB false,sB false]) (λD g=>?_) ?_
 ·rcases Pb (eH a0 16) e with e|e
  ·simp[e];exact g _ _ (by simp[e])
  simp[e];exact g _ _ (by simp[e])
 rintro q F E;have e:=Aj e E;rcases Io e m with⟨e,m⟩|⟨e,m⟩
 ·cases m;simp[e]
 rcases Io e m with⟨e,m⟩|⟨e,m⟩
 ·cases m;simp[e]
 rcases Io e m with⟨e,m⟩|⟨e,m⟩
 ·cases m;simp[e]
 cases m;simp[e]
def Hp:∀(n:Nat),C1 prog 159 (nO n) sB Pf.av:=by
  intro n
  induction n with
  |zero=>
    skip
    all_goals(intro _ _;intros;rename_i hm;cases hm)
  |succ n J=>
 intro T H a0 r hm;rw[nO] at hm;have e:=trivial;refine wi acR func159 [] [] 5 ?_;have⟨b,F,e,m⟩:=gr e hm;simp[e];refine Cf (H4 e.2) ?_;simp[e];refine wj 999 0 (λf h=>h=H/\f.1 1=AV.eD 1 (f.gen 1) 0/\f.1 3=AV.eD 3 (f.gen 3) 0/\f.1 57=sB (fW F (fW (eW (eN a0.ek) b.ek) true (fW (eW (eN a0.fj) b.fj) true (fW (eW (eN a0.acN) b.acN) true (fW (uX a0.acP 0) true (fW b.acP false (eW a0.acP 0)))))) true)/\f.box 1=some (Pf.av a0).cells/\f.box 3=some (fx.av b).cells) (λK3 a=>?_) ?_
 ·rcases Pb F e with e|e;rotate_left
  ·simp[e];exact a _ _ (by simp[e])
  rcases Pb (eW (eN a0.ek) b.ek) e with e|e
  ·simp[e];exact a _ _ (by simp[e])
  rcases Pb (eW (eN a0.fj) b.fj) e with e|e
  ·simp[e];exact a _ _ (by simp[e])
  rcases Pb (eW (eN a0.acN) b.acN) e with e|e
  ·simp[e];exact a _ _ (by simp[e])
  rcases Pb (uX a0.acP 0) e with e|e
  ·simp[e];exact a _ _ (by simp[e])
  rcases Pb b.acP e with e|e
  ·simp[e];exact a _ _ (by simp[e])
  simp[e];exact a _ _ (by simp[e])
 rintro K h5 E;have e:=Aj e E;rcases Io e m with⟨e,m⟩|⟨e,m⟩
 ·apply wg 999;cases m;simp[e]
 apply wg 3;simp[e];refine Wj m 999 999 (λG f h=>∃(w:Bool),(h=H/\f.1 1=AV.eD 1 (f.gen 1) 0/\f.1 76=sB w/\f.box 1=some (Pf.av a0).cells)/\G w=some r) (λG K8 c m=>?_) ?_
 ·rcases Io e m with⟨e,m⟩|⟨e,m⟩;rotate_left
  ·have⟨x,e,m⟩:=ep e m;simp[e];refine Cf (uM e.2) ?_;simp[e];exact c _ _ ⟨(nB x),by simp[e],m⟩
  have⟨L,e,m⟩:=ep e m;simp[e];refine Cf (pI e.2) ?_;rcases Io e m with⟨e,m⟩|⟨e,m⟩
  ·simp[e];exact c _ _ ⟨true,by simp[e],m⟩
  simp[e];exact c _ _ ⟨false,by simp[e],m⟩
 rintro I M ⟨w,E,m⟩;have e:=Aj e E;rcases Io e m with⟨e,m⟩|⟨e,m⟩
 ·cases m;simp[e]
 simp[e];refine Wr e m 999 (λd g f h=>h=H/\f.1 1=AV.eD 1 (f.gen 1) 0/\f.1 78=sL Tm.av a0.ek/\f.1 79=sI (eN a0.ek)/\f.1 80=sI d/\f.box 1=some (Pf.av a0).cells) (by simp[e]) (λg i y z E m=>?_) (λd N g i y z O P E e m z20 j=>?_);rotate_left
 ·have e:=Aj e E;have⟨Q,e,m⟩:=ep e m;simp[e];refine Cf (tM e.2) ?_;rcases Io e m with⟨e,m⟩|⟨e,m⟩;rotate_left
  ·cases m;cases z20;simp[e]
  simp[e];cases m;exact j _ _ _ (by simp[e]) z20
 have e:=Aj e E;dsimp only[en]at m;simp[e];refine Wr e m 999 (λk l f h=>h=H/\f.1 1=AV.eD 1 (f.gen 1) 0/\f.1 89=sL Fm.av a0.fj/\f.1 90=sI (eN a0.fj)/\f.1 91=sI k/\f.box 1=some (Pf.av a0).cells) (by simp[e]) (λl o A B E m=>?_) (λk R l o A B S U E e m p q=>?_);rotate_left
 ·have e:=Aj e E;have⟨V,e,m⟩:=ep e m;simp[e];refine Cf (A8 e.2) ?_;rcases Io e m with⟨e,m⟩|⟨e,m⟩;rotate_left
  ·cases m;cases p;simp[e]
  simp[e];cases m;exact q _ _ _ (by simp[e]) p
 have e:=Aj e E;dsimp only[en]at m;simp[e];refine Wr e m 999 (λs t f h=>h=H/\f.1 100=sL Pf.av a0.acN/\f.1 101=sI (eN a0.acN)/\f.1 102=sI s) (by simp[e]) (λt u C D E m=>?_) (λs W t u C D X Y E e m z40 v=>?_)
 ·have e:=Aj e E;dsimp only[en]at m;cases m;simp[e]
 have e:=Aj e E;have⟨Z,e,m⟩:=ep e m;simp[e];refine Cf (J e.2) ?_;rcases Io e m with⟨e,m⟩|⟨e,m⟩;rotate_left
 ·cases m;cases z40;simp[e]
 simp[e];cases m;exact v _ _ _ (by simp[e]) z40
def H5{n:Nat}:C1 prog 159 (nO n) sB Pf.av:=(Hp n)
def HV:∀(n:Nat),C1 prog 175 (qt n) sB Pf.av:=by
  intro n
  induction n with
  |zero=>
    skip
    all_goals(intro _ _;intros;rename_i hm;cases hm)
  |succ n x=>
 intro T H a0 r hm;rw[qt] at hm;have e:=trivial;refine wi acR func175 [] [] 999 ?_;simp[e];refine Wr e hm 999 (λv s2 f h=>h=H/\f.1 1=AV.eD 1 (f.gen 1) 0/\f.1 10=sL Tm.av a0.ek/\f.1 11=sI (eN a0.ek)/\f.1 12=sI v/\f.box 1=some (Pf.av a0).cells) (by simp[e]) (λs2 o y z E m=>?_) (λv L s2 o y z n6 M E e m w p=>?_);rotate_left
 ·have e:=Aj e E;have⟨A,e,m⟩:=ep e m;simp[e];refine Cf (hB e.2) ?_;rcases Io e m with⟨e,m⟩|⟨e,m⟩
  ·cases m;cases w;simp[e]
  simp[e];cases m;exact p _ _ _ (by simp[e]) w
 have e:=Aj e E;dsimp only[en]at m;simp[e];refine Wr e m 999 (λa b f h=>h=H/\f.1 1=AV.eD 1 (f.gen 1) 0/\f.1 21=sL Fm.av a0.fj/\f.1 22=sI (eN a0.fj)/\f.1 23=sI a/\f.box 1=some (Pf.av a0).cells) (by simp[e]) (λb c q s E m=>?_) (λa B b c q s C D E e m d g=>?_);rotate_left
 ·have e:=Aj e E;have⟨F,e,m⟩:=ep e m;simp[e];refine Cf (tI e.2) ?_;rcases Io e m with⟨e,m⟩|⟨e,m⟩
  ·cases m;cases d;simp[e]
  simp[e];cases m;exact g _ _ _ (by simp[e]) d
 have e:=Aj e E;dsimp only[en]at m;simp[e];refine Wr e m 999 (λi j f h=>h=H/\f.1 32=sL Pf.av a0.acN/\f.1 33=sI (eN a0.acN)/\f.1 34=sI i) (by simp[e]) (λj k t u E m=>?_) (λi G j k t u I J E e m z28 l=>?_)
 ·have e:=Aj e E;dsimp only[en]at m;cases m;simp[e]
 have e:=Aj e E;have⟨K,e,m⟩:=ep e m;simp[e];refine Cf (x e.2) ?_;rcases Io e m with⟨e,m⟩|⟨e,m⟩;rotate_left
 ·cases m;cases z28;simp[e]
 simp[e];cases m;exact l _ _ _ (by simp[e]) z28
def IY{n:Nat}:C1 prog 175 (qt n) sB Pf.av:=(HV n)
def G5:∀(n:Nat),C1 prog 120 (qw n) sI Pf.av:=by
  intro n
  induction n with
  |zero=>
   skip
   all_goals(intro _ _;intros;rename_i hm;cases hm)
  |succ n w=>
 intro T H a0 r hm;rw[qw] at hm;have e:=trivial;refine wi acR func120 [] [] 999 ?_;simp[e];refine Wr e hm 999 (λv s2 f h=>h=H/\f.1 1=AV.eD 1 (f.gen 1) 0/\f.1 3=sI s2/\f.1 11=sL Tm.av a0.ek/\f.1 12=sI (eN a0.ek)/\f.1 13=sI v/\f.box 1=some (Pf.av a0).cells) (by simp[e]) (λs2 l x y E m=>?_) (λv L s2 l x y n6 M E e m z o=>?_);rotate_left
 ·have e:=Aj e E;have⟨A,e,m⟩:=ep e m;simp[e];refine Cf (hB e.2) ?_;simp[e];cases m;exact o _ _ _ (by simp[e]) z
 have e:=Aj e E;dsimp only[en]at m;simp[e];refine Wr e m 999 (λc a f h=>h=H/\f.1 1=AV.eD 1 (f.gen 1) 0/\f.1 3=sI a/\f.1 23=sL Fm.av a0.fj/\f.1 24=sI (eN a0.fj)/\f.1 25=sI c/\f.box 1=some (Pf.av a0).cells) (by simp[e]) (λa d p q E m=>?_) (λc B a d p q C D E e m s g=>?_);rotate_left
 ·have e:=Aj e E;have⟨F,e,m⟩:=ep e m;simp[e];refine Cf (tI e.2) ?_;simp[e];cases m;exact g _ _ _ (by simp[e]) s
 have e:=Aj e E;dsimp only[en]at m;simp[e];refine Wr e m 999 (λi b f h=>h=H/\f.1 3=sI b/\f.1 35=sL Pf.av a0.acN/\f.1 36=sI (eN a0.acN)/\f.1 37=sI i) (by simp[e]) (λb j t u E m=>?_) (λi G b j t u I J E e m z28 k=>?_)
 ·have e:=Aj e E;dsimp only[en]at m;cases m;simp[e]
 have e:=Aj e E;have⟨K,e,m⟩:=ep e m;simp[e];refine Cf (w e.2) ?_;simp[e];cases m;exact k _ _ _ (by simp[e]) z28
def IS{n:Nat}:C1 prog 120 (qw n) sI Pf.av:=(G5 n)
def CT:C1 prog 123 s7 sB Pf.av:=by
 intro T H a0 r hm;rw[s7] at hm;have e:=trivial;refine wi acR func123 [] [] 2 ?_;simp[e];refine Wj hm 999 999 (λb f h=>∃(v2:Bool),(h=H/\f.1 2=sB v2)/\b v2=some r) (λb g a m=>?_) ?_;rotate_left
 ·rintro c i ⟨v2,E,m⟩;have e:=Aj e E;cases m;simp[e]
 have⟨j,e,m⟩:=ep e m;simp[e];refine Cf (IY e.2) ?_;rcases Io e m with⟨e,m⟩|⟨e,m⟩;rotate_left
 ·simp[e];exact a _ _ ⟨false,by simp[e],m⟩
 have⟨d,e,m⟩:=ep e m;simp[e];refine Cf (IS e.2) ?_;simp[e];exact a _ _ ⟨(LP d 16384),by simp[e],m⟩
def Ba:C1 prog 85 rH sI Pf.av:=by
 intro T H a0 r hm;rw[rH] at hm;have e:=trivial;refine wi acR func85 [] [] 999 ?_;have⟨a,e,m⟩:=ep e hm;simp[e];refine Cf (H5 e.2) ?_;rcases Io e m with⟨e,m⟩|⟨e,m⟩;rotate_left
 ·cases m;simp[e]
 have⟨b,e,m⟩:=ep e m;simp[e];refine Cf (CT e.2) ?_;rcases Io e m with⟨e,m⟩|⟨e,m⟩
 ·cases m;simp[e]
 cases m;simp[e]
def Qa:su prog 109=true:=by kernel_rfl
def abz(fr:Fr)(L:List Int):Prop:=
 (L=[]/\fr.env 3=.slice .full [])\/∃cap,fr.env 3=.xe 17 (fr.gen 17) L.length cap/\fr.box 17=some (ub (λn=>AV.sc (Value.int .i64 n)) L ((cap-L.length)*1))/\L.length<=cap
def zF(T:fh){H:eB}{a0:List (Int×Bool)}{r0:List Int}{af:List (Int×Bool)}{s:Nat}(E:H[s]?=some [ti (λb=>AV.sc (Value.bool b)) a0])(hm:qJ a0=some (r0,af)):e_ prog T 109 [AV.om s] H (AV.slice .iR (List.map (λn=>AV.sc (Value.int .i64 n)) r0)) (gC H s [ti (λb=>AV.sc (Value.bool b)) af]):=by
 unfold qJ at hm;have⟨az,hm⟩:=m9 hm;have⟨S,hm⟩:=m9 hm;have ah:=gn E;simp only[tC,GP] at hm;have⟨e1,e2⟩:=hm;subst e2;rw[JE E]
 have S:(a0.map (·.1)).Nodup:=by simpa[xr] using S
 refine fQ.uC (Post:=λx K=>x=AV.slice .iR (List.map (λn=>AV.sc (Value.int .i64 n)) r0)/\∃X,K=H++X) ?_ (λ_ _ h=>⟨_,h.2.choose_spec,by rw[h.1];simp[AV.low,AV.jj],h.1,rfl⟩);refine fQ.intro (fn:=f109) func109 rfl Qa (Sf rfl) ?_;refine gJ.sr [] λK1 F=>?_;simp;apply F;refine gJ.sr [] λK1 F=>?_;simp;apply F;refine gJ.ux λK1 F=>?_;refine gJ.sr [] λK2 aA=>?_;simp[Hu,E,ti];apply aA;refine gJ.z_ λQ nn ex x r=>?_
 refine gJ.Nb (λm fr h=>∃(seen:List Nat) (L:List Int),m=Hl a0.length seen/\L.length+m<=a0.length/\ES L/\(∀x,x∈L↔∃j∈seen,∃p,a0[j]?=some p/\p.1=x)/\H++[[.nt s a0.length seen]]=h/\fr.env 7=.fT H.length 0/\abz fr L) a0.length ?_ ?_
 ·exact⟨[],[],(NJ _).symm,by simp,.nil,by simp,by simp,rfl,.inl ⟨rfl,rfl⟩⟩
 rintro m fr h ⟨seen,L,aB,aP,hA,hL,rfl,G,hs⟩ K3 aC
 have hi:(H++[[AV.nt s a0.length seen]])[H.length]?=some [AV.nt s a0.length seen]:=by simp
 have ho:(H++[[AV.nt s a0.length seen]])[s]?=some [ti (λb=>AV.sc (Value.bool b)) a0]:=by simp[ah,E]
 refine gJ.sr [] λK4 ai=>?_;simp only[QC,ev,G];refine Od a0 hi ho (λaj=>?_) (λj p U hj=>?_)
 ·--aQ end
  simp;apply ai;refine gJ.ux λK5 ak=>?_;refine gJ.tS λA B ga V=>?_;simp;apply V;refine gJ.exit ?_;apply ex;apply F
  have hr:yM [] (a0.map (·.1))=L:=by
   refine ES.eq (AI _ [] .nil S (by simp)) hA λx=>?_;rw[AA,hL];simp only[wV,false_or,oi];constructor
   ·rintro⟨p,U,rfl⟩;have⟨j,hj⟩:=Sh.1 U;exact⟨j,aj j (pK.1 hj).1,p,hj,rfl⟩
   ·rintro⟨j,_,p,U,rfl⟩;exact⟨p,CH U,rfl⟩
  rw[hr] at e1;subst e1;rcases hs with⟨rfl,l⟩|⟨cap,l,e,hle⟩
  ·refine gJ.sr [] λK6 q=>?_;simp[l];apply q;refine gJ.ret ?_;simp[vR,l]
  ·refine gJ.Zj 3 (f:=λn=>AV.sc (Value.int .i64 n)) (L:=L) (k:=(cap-L.length)*1) (sz:=1) (d:=17) (g:=fr.gen 17) (cap:=cap) (by intro x;simp) (by intro x;simp) (by simp[l]) (by simp) (by simp[e]) ?_;refine gJ.sr [] λK6 q=>?_;simp;apply q;refine gJ.ret ?_;simp[vR]
 have al:j<a0.length:=(pK.1 U).1;have aD:=P8 al hj
 have aE:(H++[[AV.nt s a0.length (seen++[j])]])[H.length]?=some [AV.nt s a0.length (seen++[j])]:=by simp
 have aF:(H++[[AV.nt s a0.length (seen++[j])]])[s]?=some [ti (λb=>AV.sc (Value.bool b)) a0]:=by simp[ah,E]
 have gC:gC (H++[[AV.nt s a0.length seen]]) H.length [AV.nt s a0.length (seen++[j])]=H++[[AV.nt s a0.length (seen++[j])]]:=by simp
 rw[gC];have an:=LW (f:=λb=>AV.sc (Value.bool b)) a0 aE aF U
 have ab:p.1∉L:=by
  rw[hL];rintro⟨j',aG,p',aH,he⟩
  have h1:(a0.map (·.1))[j]?=some p.1:=by rw[tN,U];rfl
  have h2:(a0.map (·.1))[j']?=some p.1:=by rw[tN,aH];simp[he]
  have:j=j':=by
   have aI:j<(a0.map (·.1)).length:=by simpa using al
   exact(List.getElem?_inj aI S).1 (h1.trans h2.symm)
  subst this;exact hj aG
 have aO:a0.length<=Lw:=MV az;simp;apply ai;refine gJ.ux λK5 ak=>?_;refine gJ.tS λA B ga V=>?_;simp;apply ga;refine gJ.skip ?_;apply ak;refine gJ.z_ λQ1 aJ aR x1 r1=>?_;refine gJ.sr [] λK6 q=>?_;simp[G,an];apply q;refine gJ.sr [] λK6 q=>?_
 have hlen:∃y,fr.env 3=y/\H7 prog 22 y=some (.sc (.int .i64 L.length)):=by
  rcases hs with⟨rfl,l⟩|⟨cap,l,e,hle⟩
  ·exact⟨_,l,by simp⟩
  ·exact⟨_,l,by simp⟩
 have⟨y,hy,ao⟩:=hlen;simp[hy,ao];apply q
 refine gJ.aap (λfr h=>H++[[.nt s a0.length (seen++[j])]]=h/\fr.env 7=.fT H.length 0/\fr.env 4=.sc (.int .i64 p.1)/\fr.env 5=.sc (.int .i64 (L.length:Int))/\∃cap,fr.env 3=.xe 17 (fr.gen 17) (L.length+1) cap/\fr.box 17=some (ub (λn=>AV.sc (Value.int .i64 n)) (L.take L.length++p.1::L.drop L.length) ((cap-(L.length+1))*1))/\L.length+1<=cap) (λK6 q=>?_) ?_
 ·refine gJ.region [] (by decide+kernel) ?_
  have aq:gU L [p.1]=L.take L.length++p.1::L.drop L.length:=by simp[gU]
  have aS:(gU L [p.1]).length=L.length+1:=by simp[gU]
  rcases hs with⟨rfl,l⟩|⟨cap,l,e,hle⟩
  ·simp[l];refine sC.Xk (f:=λn=>AV.sc (Value.int .i64 n)) [p.1] P6 ⟨_,VS⟩ (by intro x;simp) (by simp[yK,Lw]) rfl (by first|rfl|simp) λcap CP=>?_;simp;apply q;refine⟨rfl,?_,?_,?_,cap,?_,?_,by simpa using CP⟩<;>simp[G]
  ·simp[l];refine sC.l6 (f:=λn=>AV.sc (Value.int .i64 n)) L [p.1] (cap:=cap) P6 ⟨_,VS⟩ (by intro x;simp) (by simp[gy];omega) (by simp) rfl (by first|rfl|simp) (by simp[e]) hle λg' ar CP=>?_;rw[aq] at CP;simp only[aq];simp;apply q;refine⟨rfl,?_,?_,?_,ar,?_,?_,by simpa using CP⟩<;>simp[G]
 rintro aT h6 ⟨rfl,f7,f4,f5,cap,f3,f17,au⟩
 refine gJ.aap (λfr h=>H++[[.nt s a0.length (seen++[j])]]=h/\fr.env 7=.fT H.length 0/\fr.env 4=.sc (.int .i64 p.1)/\∃(i:Nat) (z:Int),fr.env 5=.sc (.int .i64 (i:Int))/\i<=L.length/\(∀a∈L.drop i,a>p.1)/\(i=0\/∃a,L[i-1]?=some a/\¬a>p.1)/\∃cap,fr.env 3=.xe 17 (fr.gen 17) (L.length+1) cap/\fr.box 17=some (ub (λn=>AV.sc (Value.int .i64 n)) (L.take i++z::L.drop i) ((cap-(L.length+1))*1))/\L.length+1<=cap) (λK7 aK=>?_) ?_
 ·refine gJ.z_ λQ2 aU aw x2 r2=>?_
  refine gJ.Nb (λi fr h=>H++[[.nt s a0.length (seen++[j])]]=h/\fr.env 7=.fT H.length 0/\fr.env 4=.sc (.int .i64 p.1)/\∃(z:Int),fr.env 5=.sc (.int .i64 (i:Int))/\i<=L.length/\(∀a∈L.drop i,a>p.1)/\∃cap,fr.env 3=.xe 17 (fr.gen 17) (L.length+1) cap/\fr.box 17=some (ub (λn=>AV.sc (Value.int .i64 n)) (L.take i++z::L.drop i) ((cap-(L.length+1))*1))/\L.length+1<=cap) L.length ?_ ?_
  ·exact⟨rfl,f7,f4,p.1,f5,jw _,by simp,cap,f3,f17,au⟩
  clear f7 f4 f5 f3 f17 au hy ao G hs;rintro i fr h ⟨rfl,G,e4,z,R,w,I,cap,l,e,hle⟩ K8 aL
  have stop:∀fr':Fr,fr'.env 7=.fT H.length 0->fr'.env 4=.sc (.int .i64 p.1)->fr'.env 5=.sc (.int .i64 (i:Int))->fr'.env 3=fr.env 3->fr'.gen=fr.gen->fr'.box=fr.box->(i=0\/∃a,L[i-1]?=some a/\¬a>p.1)->K7 fr' (H++[[.nt s a0.length (seen++[j])]]):=by
   intro fr' g7 g4 g5 g3 gg V W;exact aK _ _ ⟨rfl,g7,g4,i,z,g5,w,I,W,cap,by rw[g3,l,gg],by rw[V,e],hle⟩
  refine gJ.ux λK9 aM=>?_;refine gJ.sr [] λaV Y=>?_;obtain⟨c,D⟩:∃c:Int,c=(i:Int):=⟨_,rfl⟩;rw[<-D] at R;cases i with
  |zero=>
   have W:pc c 0=false:=by rw[D];decide
   simp[R,W];apply Y;refine gJ.tS λA B ga V=>?_;simp;apply V;refine gJ.exit ?_;apply aw;refine stop _ ?_ ?_ ?_ ?_ ?_ ?_ (.inl rfl)<;>simp[G,e4,R,D]
  |succ i=>
   have W:pc c 0=true:=by rw[D];simp[pc]
   obtain⟨Z,ad⟩:∃Z:Int,Z=(i:Int):=⟨_,rfl⟩
   have J:fG .i64 c 1=Z:=by rw[D,ad];exact Tl (by omega)
   obtain⟨x,hx⟩:∃x,L[i]?=some x:=⟨_,oG (by omega)⟩
   have C:(L.take (i+1)++z::L.drop (i+1)).length=L.length+1:=by simp;omega
   have aa:eI (L.take (i+1)++z::L.drop (i+1)) Z=some x:=by
    unfold eI;rw[ee (by omega),ad,AX,r_ (by rw[yP];omega),Iy,ee (by omega),hx]
   have O:0<=Z/\Z<((L.length+1:Nat):Int):=by omega
   have o:0<=c/\c<((L.length+1:Nat):Int):=by omega
   have ae:=L8 (P:=prog) (t:=3) (f:=λn=>AV.sc (Value.int .i64 n)) (k:=(cap-(L.length+1))*1) SH (by intro x;simp) aa;generalize hM:L.take (i+1)++z::L.drop (i+1)=M at e C aa ae;generalize hN:L.length+1=N at l e hle C O o ae
   have ax:∀fr':Fr,fr'.gen 17=fr.gen 17->fr'.box 17=fr.box 17->uE prog fr' (H++[[AV.nt s a0.length (seen++[j])]]) 3 (.eD 17 (fr.gen 17) (L4 Z.toNat 1))=some (.sc (.int .i64 x)):=by
    intro fr' g1 g2;show(if fr.gen 17=fr'.gen 17 then(match fr'.box 17 with|some cs=>m7 prog 3 cs (L4 Z.toNat 1)|none=>none)else none)=_;rw[ee g1.symm,g2,e];exact ae
   simp[R,l,W,J,O,ax,e4,-uE];apply Y;have aW:M.length=N:=C
   have u:eI M c=some z:=by
    unfold eI;rw[ee (by omega),D,AX,<-hM,uo (by simp;omega)];simp[yP,show min (i+1) L.length=i+1 from by omega]
   have v:xj M c x=L.take i++x::L.drop i:=by
    have hd:L.drop i=x::L.drop (i+1):=by
     rw[Kq (by omega:i<L.length)]
     congr 1
     exact(pK.1 hx).2
    have ht:L.take (i+1)=L.take i++[x]:=by rw[QW,hx];rfl
    unfold xj;rw[D,AX,<-hM,hd,WJ _ _ (by simp;omega)];rw[yP,show min (i+1) L.length=i+1 from by omega,aaw,Un,ht,qW];rfl
   refine gJ.tS λA B ga V=>?_;rcases Bool.eq_false_or_eq_true (pc x p.1)with hgx|hgx
   ·simp[hgx];apply ga;refine gJ.skip ?_;apply aM;refine gJ.z_ λQ3 aN aX x3 r3=>?_;refine gJ.sr [] λaY ay=>?_;simp[R,l,J,O,o,ax,e4,-uE];refine zN.arr (f:=λn=>AV.sc (Value.int .i64 n)) (L:=M) (k:=(cap-N)*1) x SH (by intro x;simp) (by simp) (x:=z) u (by simp) (by simp[e]) (by simp) ?_;simp;apply ay;refine gJ.region [] (by decide+kernel) ?_;simp[R,J];apply aN;rw[v];refine aL _ _ i (ZM _) ⟨rfl,?_,?_,x,?_,by omega,?_,cap,?_,?_,by rw[hN];exact hle⟩
    ·simp[G]
    ·simp[e4]
    ·simp[ad]
    ·intro a ha
     have hd:L.drop i=x::L.drop (i+1):=by
      rw[Kq (by omega:i<L.length)]
      congr 1
      exact(pK.1 hx).2
     rw[hd] at ha;rcases l7.1 ha with rfl|ha
     ·simpa[pc] using hgx
     ·exact I a ha
    ·simp[l,hN]
    ·simp[hN]
   ·simp[hgx];apply V;refine gJ.exit ?_;apply aw;refine stop _ ?_ ?_ ?_ ?_ ?_ ?_ (.inr ⟨x,by simpa using hx,by simpa[pc] using hgx⟩)<;>simp[G,e4,R,l,D]
 rintro fr h ⟨rfl,G,e4,i,z,R,w,I,W,cap,l,e,hle⟩;refine gJ.region [] (by decide+kernel) ?_;obtain⟨c,D⟩:∃c:Int,c=(i:Int):=⟨_,rfl⟩;rw[<-D] at R
 have C:(L.take i++z::L.drop i).length=L.length+1:=by simp;omega
 have u:eI (L.take i++z::L.drop i) c=some z:=by
  unfold eI;rw[ee (by omega),D,AX,uo (by simp;omega)];simp[yP,UM w]
 have v:xj (L.take i++z::L.drop i) c p.1=BR p.1 L:=by
  rw[NY L i hA ab w I W];unfold xj;rw[D,AX,WJ _ _ (by simp;omega),yP,UM w,aaw,Un]
 have o:0<=c/\c<((L.length+1:Nat):Int):=by omega
 have hlen:(BR p.1 L).length=L.length+1:=by rw[NY L i hA ab w I W];simp;omega
 generalize hM:L.take i++z::L.drop i=M at e C u v;generalize hN:L.length+1=N at l e hle C o hlen;simp[R,l,e4,o];refine zN.arr (f:=λn=>AV.sc (Value.int .i64 n)) (L:=M) (k:=(cap-N)*1) p.1 SH (by intro x;simp) (by simp) (x:=z) u (by simp) (by simp[e]) (by simp) ?_;simp;apply aJ;rw[v];refine aC _ _ _ (by rw[aB];exact aD) ⟨seen++[j],BR p.1 L,rfl,by omega,Ho p.1 L ab hA,?_,rfl,?_,.inr ⟨cap,?_,?_,by rw[hlen];exact hle⟩⟩
 ·intro x;rw[zA,hL];constructor
  ·rintro(rfl|⟨j',h1,p',h2,h3⟩)
   ·exact⟨j,by simp,p,U,rfl⟩
   ·exact⟨j',by simp[h1],p',h2,h3⟩
  ·rintro⟨j',h1,p',h2,h3⟩;rcases tj.1 h1 with h1|h1
   ·exact .inr ⟨j',h1,p',h2,h3⟩
   ·simp only[we] at h1;subst h1;rw[U] at h2;obtain rfl:=iD h2;exact .inl h3.symm
 ·simp[G]
 ·simp[l,hlen]
 ·simp[hlen]
def lK(T:fh){H:eB}{a0 a1 g:List Int}(hm:gN a0 a1=some g):e_ prog T 217 [sL sI a0,sL sI a1] H (sL sI g) H:=by
 rw[gN] at hm;refine fQ.uC (Post:=λx K=>x=sL sI g/\∃X,K=H++X) ?_ (λ_ _ h=>⟨_,h.2.choose_spec,by rw[h.1];simp[AV.low,AV.jj],h.1,rfl⟩);have e:=trivial;refine wi acR func217 [] [] 999 ?_;simp[e];refine Wr e hm 999 (λo s2 f h=>h=H++[[ti sB s2]]/\f.1 1=sL sI a1/\f.1 5=AV.om (List.length H)/\f.1 11=sL sI a0/\f.1 12=sI (eN a0)/\f.1 13=sI o) (by simp[e]) (λs2 i p q E m=>?_) (λo w s2 i p q n6 y E e m r j=>?_);rotate_left
 ·have e:=Aj e E;simp[e];refine uk.i64 (f:=sB) s2 true Ox uI (by simp[e]) (by simp[e]) ?_;simp[e];cases m;exact j _ _ _ (by simp[e]) r
 have e:=Aj e E;dsimp only[en]at m;simp[e];refine Wr e m 999 (λb a f h=>h=H++[[ti sB a]]/\f.1 5=AV.om (List.length H)/\f.1 20=sL sI a1/\f.1 21=sI (eN a1)/\f.1 22=sI b) (by simp[e]) (λa c k l E m=>?_) (λb s a c k l t u E e m n d=>?_)
 ·have e:=Aj e E;dsimp only[en]at m;have⟨v,d20,e,m⟩:=gr e m;simp[e];refine Cf (zF T (by simp[e]) e.2) ?_;cases m;simp[e]
 have e:=Aj e E;simp[e];refine uk.i64 (f:=sB) a true Ox uI (by simp[e]) (by simp[e]) ?_;simp[e];cases m;exact d _ _ _ (by simp[e]) n
def l0:C3 prog 218 eT sI ei.av sI sI:=by
 intro T H a0 a1 a2 r hm;rw[eT] at hm;have e:=trivial;refine wi acR func218 [] [] 3 ?_;simp[e];refine wj 999 999 (λf h=>h=H/\f.1 20=sB (fW (pc (fk .i64 (eN a0.acQ) a1) 16) true (pc (fk .i64 (eN a0.acT) a2) 16))) (λc a=>?_) ?_;rotate_left
 ·rintro b d E;have e:=Aj e E;rcases Io e hm with⟨e,m⟩|⟨e,m⟩
  ·cases m;simp[e]
  cases m;simp[e]
 rcases Pb (pc (fk .i64 (eN a0.acQ) a1) 16) e with e|e
 ·simp[e];exact a _ _ (by simp[e])
 simp[e];exact a _ _ (by simp[e])
def nZ:C2 prog 219 gE ei.av ei.av Fm.av:=by
 intro T H a0 a1 r hm;rw[gE] at hm;have e:=trivial;refine wi acR func219 [] [] 999 ?_;have⟨e,m⟩:=Ck e hm;simp[e];refine Ad (f:=Fm.av) a0.acT [a1] (js.full (D:=[])) Gq e.2 ?_;cases m;simp[e]
def Hz:∀(n:Nat),C2 prog 114 (ld n) sB Tm.av sI:=by
  intro n
  induction n with
  |zero=>
   skip
   all_goals(intro _ _;intros;rename_i hm;cases hm)
  |succ n g=>
 intro T H a0 a1 r hm;rw[ld] at hm;have e:=trivial;refine wi acR func114 [] [] 999 ?_;rcases Io e hm with⟨e,m⟩|⟨e,m⟩
 ·cases m;simp[e]
 simp[e];refine Wr e m 999 (λc s2 f h=>h=H/\f.1 1=sI a1/\f.1 12=sL Tm.av a0.acN/\f.1 13=sI (eN a0.acN)/\f.1 14=sI c) (by simp[e]) (λs2 a i j E m=>?_) (λc l s2 a i j n6 o E e m d b=>?_)
 ·have e:=Aj e E;dsimp only[en]at m;cases m;simp[e]
 have e:=Aj e E;have⟨k,e,m⟩:=ep e m;simp[e];refine Cf (g e.2) ?_;rcases Io e m with⟨e,m⟩|⟨e,m⟩;rotate_left
 ·cases m;cases d;simp[e]
 simp[e];cases m;exact b _ _ _ (by simp[e]) d
def w5{n:Nat}:C2 prog 114 (ld n) sB Tm.av sI:=(Hz n)
def J3:C1 prog 289 vK sB Tm.av:=by
 intro T H a0 r hm;rw[vK] at hm;have e:=trivial;refine wi acR func289 [] [] 8 ?_;simp[e];rcases Io e hm with⟨e,m⟩|⟨e,m⟩
 ·apply wg 999;have⟨u,e,m⟩:=ep e m;cases m;simp[e]
 apply wg 3;simp[e];rcases Io e m with⟨e,m⟩|⟨e,m⟩
 ·apply wg 1;simp[e];refine Wj m 999 999 (λg f h=>∃(v3:Bool),(h=H/\f.1 2=sB v3)/\g v3=some r) (λg v c m=>?_) ?_;rotate_left
  ·rintro l w ⟨v3,E,m⟩;have e:=Aj e E;cases m;simp[e]
  have⟨n,e,m⟩:=ep e m;rcases Io e m with⟨e,m⟩|⟨e,m⟩
  ·simp[e];exact c _ _ ⟨true,by simp[e],m⟩
  simp[e];exact c _ _ ⟨(eH n.acM 5),by simp[e],m⟩
 apply wg 4;rcases Io e m with⟨e,m⟩|⟨e,m⟩
 ·simp[e];refine Wj m 999 999 (λi f h=>∃(v9:Bool),(h=H/\f.1 2=sB v9)/\i v9=some r) (λi o a m=>?_) ?_;rotate_left
  ·rintro j p ⟨v9,E,m⟩;have e:=Aj e E;cases m;simp[e]
  have⟨d,e,m⟩:=ep e m;rcases Io e m with⟨e,m⟩|⟨e,m⟩
  ·simp[e];exact a _ _ ⟨true,by simp[e],m⟩
  simp[e];exact a _ _ ⟨(eH d.acM 8),by simp[e],m⟩
 simp[e];refine wj 999 999 (λf h=>h=H/\f.1 1=AV.eD 1 (f.gen 1) 0/\f.1 45=sB (fW (eH a0.acM 11) true (eH a0.acM 12))/\f.box 1=some (Tm.av a0).cells) (λq b=>?_) ?_
 ·rcases Pb (eH a0.acM 11) e with e|e
  ·simp[e];exact b _ _ (by simp[e])
  simp[e];exact b _ _ (by simp[e])
 rintro k s E;have e:=Aj e E;rcases Io e m with⟨e,m⟩|⟨e,m⟩;rotate_left
 ·cases m;simp[e]
 have⟨t,e,m⟩:=ep e m;cases m;simp[e]
def q4:C1 prog 161 lQ sI Tm.av:=by
 intro T H a0 r hm;rw[lQ] at hm;have e:=trivial;refine wi acR func161 [] [] 999 ?_;rcases Io e hm with⟨e,m⟩|⟨e,m⟩
 ·cases m;simp[e]
 cases m;simp[e]
def GC:∀(n:Nat),C2 prog 173 (mK n) sI Tm.av sI:=by
  intro n
  induction n with
  |zero=>
    skip
    all_goals(intro _ _;intros;rename_i hm;cases hm)
  |succ n l=>
 intro T H a0 a1 r hm;rw[mK] at hm;have e:=trivial;refine wi acR func173 [] [] 4 ?_;simp[e];refine wj 0 999 (λf h=>h=H/\f.1 1=sI a1/\f.1 2=AV.eD 2 (f.gen 2) 0/\f.1 5=sI (fW (fW (eH a0.acM 1) (eH a0.acP a1) false) (fk .i64 0 1) 0)/\f.box 2=some (Tm.av a0).cells) (λx a=>?_) ?_
 ·refine wj 999 999 (λf h=>h=H/\f.1 1=sI a1/\f.1 2=AV.eD 2 (f.gen 2) 0/\f.1 5=sI 0/\f.1 16=sB (fW (eH a0.acM 1) (eH a0.acP a1) false)/\f.box 2=some (Tm.av a0).cells) (λy b=>?_) ?_
  ·rcases Pb (eH a0.acM 1) e with e|e
   ·simp[e];exact b _ _ (by simp[e])
   simp[e];exact b _ _ (by simp[e])
  rintro o z E;have e:=Aj e E;rcases Pb (fW (eH a0.acM 1) (eH a0.acP a1) false) e with e|e
  ·simp[e];exact a _ _ (by simp[e])
  simp[e];exact a _ _ (by simp[e])
 rintro p A E;have e:=Aj e E;simp[e];refine Wr e hm 999 (λk d f h=>h=H/\f.1 1=sI a1/\f.1 2=AV.eD 2 (f.gen 2) 0/\f.1 5=sI d/\f.1 20=sL Tm.av a0.acN/\f.1 21=sI (eN a0.acN)/\f.1 22=sI k/\f.box 2=some (Tm.av a0).cells) (by simp[e]) (λd g q i E m=>?_) (λk s d g q i t u E e m j c=>?_)
 ·have e:=Aj e E;dsimp only[en]at m;cases m;simp[e]
 have e:=Aj e E;have⟨v,e,m⟩:=ep e m;simp[e];refine Cs (q4 e.2) ?_;have⟨w,e,m⟩:=ep e m;simp[e];refine Cs (l e.2) ?_;simp[e];cases m;exact c _ _ _ (by simp[e]) j
def Bf{n:Nat}:C2 prog 173 (mK n) sI Tm.av sI:=(GC n)
def Gi:C1 prog 290 sk sI Tm.av:=by
 intro T H a0 r hm;rw[sk] at hm;have e:=trivial;refine wi acR func290 [] [] 999 ?_;have⟨y,e,m⟩:=ep e hm;simp[e];refine Cf (hB e.2) ?_;rcases Io e m with⟨e,m⟩|⟨e,m⟩
 ·have⟨z,e,m⟩:=ep e m;have⟨A,e,m⟩:=ep e m;have⟨B,e,m⟩:=ep e m;have⟨C,e,m⟩:=ep e m;simp[e];refine Cs (hB e.2) ?_;have⟨D,e,m⟩:=ep e m;simp[e];refine Cs (Bf e.2) ?_;have⟨E,e,m⟩:=ep e m;simp[e];refine Cs (hB e.2) ?_;cases m;simp[e]
 rcases Io e m with⟨e,m⟩|⟨e,m⟩
 ·have⟨F,e,m⟩:=ep e m;rcases Io e m with⟨e,m⟩|⟨e,m⟩
  ·have⟨G,e,m⟩:=ep e m;have⟨a,e,m⟩:=ep e m;simp[e];refine Cf (hB e.2) ?_;cases m;simp[e]
  have⟨b,e,m⟩:=ep e m;have⟨c,e,m⟩:=ep e m;simp[e];refine Cs (hB e.2) ?_;have⟨d,e,m⟩:=ep e m;have⟨f,e,m⟩:=ep e m;simp[e];refine Cs (hB e.2) ?_;cases m;simp[e]
 rcases Io e m with⟨e,m⟩|⟨e,m⟩;rotate_left
 ·rcases Io e m with⟨e,m⟩|⟨e,m⟩
  ·have⟨g,e,m⟩:=ep e m;have⟨h,e,m⟩:=ep e m;have⟨i,e,m⟩:=ep e m;simp[e];refine Cf (hB e.2) ?_;cases m;simp[e]
  have⟨j,e,m⟩:=ep e m;have⟨k,e,m⟩:=ep e m;have⟨l,e,m⟩:=ep e m;simp[e];refine Cf (hB e.2) ?_;cases m;simp[e]
 have⟨n,e,m⟩:=ep e m;rcases Io e m with⟨e,m⟩|⟨e,m⟩
 ·have⟨o,e,m⟩:=ep e m;have⟨p,e,m⟩:=ep e m;simp[e];refine Cf (hB e.2) ?_;cases m;simp[e]
 have⟨q,e,m⟩:=ep e m;have⟨s,e,m⟩:=ep e m;have⟨t,e,m⟩:=ep e m;have⟨u,e,m⟩:=ep e m;simp[e];refine Cs (hB e.2) ?_;have⟨v,e,m⟩:=ep e m;simp[e];refine Cs (hB e.2) ?_;have⟨w,e,m⟩:=ep e m;simp[e];refine Cs (hB e.2) ?_;have⟨x,e,m⟩:=ep e m;simp[e];refine Cs (hB e.2) ?_;cases m;simp[e]
def LK:∀(n:Nat),C3 prog 90 (qj n) Tm.av Tm.av sI sI:=by
  intro n
  induction n with
  |zero=>
    skip
    all_goals(intro _ _;intros;rename_i hm;cases hm)
  |succ n q=>
 intro T H a0 a1 a2 r hm;rw[qj] at hm;have e:=trivial;refine wi acR func90 [] [] 4 ?_;simp[e];refine wj 0 999 (λf h=>h=H/\f.1 1=sI a1/\f.1 2=sI a2/\f.1 3=AV.eD 3 (f.gen 3) 0/\f.1 6=AV.eD 6 (f.gen 6) 0/\f.1 7=AV.eD 7 (f.gen 7) 0/\f.box 3=some (Tm.av a0).cells/\f.box 6=some [sI 0,sI 0,sI 0,AV.slice .full [],AV.slice .full []]/\f.box 7=some [sI a0.acM,sI (fW (fW (eH a0.acM 1) (ue a0.acP a1) false) (fk .i64 a0.acP a2) a0.acP),sI a0.dv.acM,sL Ty.av a0.dv.acN,AV.slice .full []]) (λz c=>?_) ?_
 ·refine wj 999 999 (λf h=>h=H/\f.1 1=sI a1/\f.1 2=sI a2/\f.1 3=AV.eD 3 (f.gen 3) 0/\f.1 6=AV.eD 6 (f.gen 6) 0/\f.1 7=AV.eD 7 (f.gen 7) 0/\f.1 25=sB (fW (eH a0.acM 1) (ue a0.acP a1) false)/\f.box 3=some (Tm.av a0).cells/\f.box 6=some [sI 0,sI 0,sI 0,AV.slice .full [],AV.slice .full []]/\f.box 7=some [sI a0.acM,sI a0.acP,sI a0.dv.acM,sL Ty.av a0.dv.acN,AV.slice .full []]) (λA d=>?_) ?_
  ·rcases Pb (eH a0.acM 1) e with e|e
   ·simp[e];exact d _ _ (by simp[e])
   simp[e];exact d _ _ (by simp[e])
  rintro s B E;have e:=Aj e E;rcases Pb (fW (eH a0.acM 1) (ue a0.acP a1) false) e with e|e
  ·simp[e];exact c _ _ (by simp[e])
  simp[e];exact c _ _ (by simp[e])
 rintro t C E;have e:=Aj e E;simp[e];refine Wr e hm 999 (λp g f h=>∃(a:Tag),(h=H/\f.1 1=sI a1/\f.1 2=sI a2/\f.1 3=AV.eD 3 (f.gen 3) 0/\f.1 6=AV.eD 6 (f.gen 6) 0/\f.1 7=AV.eD 7 (f.gen 7) 0/\f.1 32=sL Tm.av a0.acN/\f.1 33=sI (eN a0.acN)/\f.1 34=sI p/\f.box 3=some (Tm.av a0).cells/\f.box 6=some [sI 0,sI 0,sI 0,AV.slice .full [],AV.slice .full []]/\f.box 7=some [sI a0.acM,sI (fW (fW (eH a0.acM 1) (ue a0.acP a1) false) (fk .i64 a0.acP a2) a0.acP),sI a0.dv.acM,sL Ty.av a0.dv.acN,sT a Tm.av g])/\Ow f [48] a g) (by exact⟨.full,by simp[e],js.full⟩) (λg i u k E m=>?_) (λp v g i u k w x E e m l j=>?_)
 ·have⟨a,E,b⟩:=E;have e:=Aj e E;dsimp only[en]at m;cases m;simp[e]
 have⟨a,E,b⟩:=E;have e:=Aj e E;have⟨y,e,m⟩:=ep e m;simp[e];refine Cs (q4 e.2) ?_;have⟨o,e,m⟩:=ep e m;simp[e];refine Cs (q e.2) ?_;have⟨e,m⟩:=Ck e m;simp[e];refine Ad (f:=Tm.av) g [o] b CX e.2 ?_;simp[e];cases m;exact j _ _ _ ⟨(.loc 48 (i.fP 48+1)),by simp[e],(On 48)⟩ l
def BU{n:Nat}:C3 prog 90 (qj n) Tm.av Tm.av sI sI:=(LK n)
def LN:∀(n:Nat),C4 prog 174 (tO n) Tm.av Tm.av sI sI Tm.av:=by
  intro n
  induction n with
  |zero=>
    skip
    all_goals(intro _ _;intros;rename_i hm;cases hm)
  |succ n l=>
 intro T H a0 a1 a2 a3 r hm;rw[tO] at hm;have e:=trivial;refine wi acR func174 [] [] 999 ?_;rcases Io e hm with⟨e,m⟩|⟨e,m⟩
 ·rcases Io e m with⟨e,m⟩|⟨e,m⟩
  ·have⟨s,e,m⟩:=ep e m;simp[e];refine Cf (BU e.2) ?_;cases m;simp[e]
  rcases Io e m with⟨e,m⟩|⟨e,m⟩;rotate_left
  ·cases m;simp[e]
  have⟨t,e,m⟩:=ep e m;simp[e];refine Cf (fI e.2) ?_;cases m;simp[e]
 simp[e];refine Wr e m 999 (λk c f h=>∃(a:Tag),(h=H/\f.1 1=sI a1/\f.1 2=sI a2/\f.1 4=AV.eD 4 (f.gen 4) 0/\f.1 7=AV.eD 7 (f.gen 7) 0/\f.1 8=AV.eD 8 (f.gen 8) 0/\f.1 9=AV.eD 9 (f.gen 9) 0/\f.1 45=sL Tm.av a0.acN/\f.1 46=sI (eN a0.acN)/\f.1 47=sI k/\f.box 4=some (Tm.av a0).cells/\f.box 7=some (Tm.av a3).cells/\f.box 8=some [sI 0,sI 0,sI 0,AV.slice .full [],AV.slice .full []]/\f.box 9=some [sI a0.acM,sI a0.acP,sI a0.dv.acM,sL Ty.av a0.dv.acN,sT a Tm.av c])/\Ow f [62] a c) (by exact⟨.full,by simp[e],js.full⟩) (λc d o p E m=>?_) (λk u c d o p v w E e m i g=>?_)
 ·have⟨a,E,b⟩:=E;have e:=Aj e E;dsimp only[en]at m;cases m;simp[e]
 have⟨a,E,b⟩:=E;have e:=Aj e E;have⟨q,e,m⟩:=ep e m;simp[e];refine Cs (q4 e.2) ?_;have⟨j,e,m⟩:=ep e m;simp[e];refine Cs (l e.2) ?_;have⟨e,m⟩:=Ck e m;simp[e];refine Ad (f:=Tm.av) c [j] b CX e.2 ?_;simp[e];cases m;exact g _ _ _ ⟨(.loc 62 (d.fP 62+1)),by simp[e],(On 62)⟩ i
def Hf{n:Nat}:C4 prog 174 (tO n) Tm.av Tm.av sI sI Tm.av:=(LN n)
def Fq:C1 prog 291 rb Tm.av Tm.av:=by
 intro T H a0 r hm;rw[rb] at hm;have e:=trivial;refine wi acR func291 [] [] 999 ?_;rcases Io e hm with⟨e,m⟩|⟨e,m⟩
 ·have⟨u,e,m⟩:=ep e m;have⟨v,e,m⟩:=ep e m;have⟨w,e,m⟩:=ep e m;have⟨x,e,m⟩:=ep e m;simp[e];refine Cs (Hf e.2) ?_;cases m;simp[e]
 rcases Io e m with⟨e,m⟩|⟨e,m⟩
 ·have⟨y,e,m⟩:=ep e m;rcases Io e m with⟨e,m⟩|⟨e,m⟩
  ·have⟨z,e,m⟩:=ep e m;cases m;simp[e]
  have⟨A,e,m⟩:=ep e m;have⟨B,e,m⟩:=ep e m;have⟨C,e,m⟩:=ep e m;simp[e];refine Cs (gB e.2) ?_;have⟨a,e,m⟩:=ep e m;have⟨b,e,m⟩:=ep e m;simp[e];refine Cs (mi e.2) ?_;have⟨c,e,m⟩:=ep e m;simp[e];refine Cs (gB e.2) ?_;cases m;simp[e]
 rcases Io e m with⟨e,m⟩|⟨e,m⟩;rotate_left
 ·rcases Io e m with⟨e,m⟩|⟨e,m⟩
  ·have⟨d,e,m⟩:=ep e m;have⟨f,e,m⟩:=ep e m;cases m;simp[e]
  have⟨g,e,m⟩:=ep e m;have⟨h,e,m⟩:=ep e m;cases m;simp[e]
 have⟨i,e,m⟩:=ep e m;rcases Io e m with⟨e,m⟩|⟨e,m⟩
 ·have⟨j,e,m⟩:=ep e m;cases m;simp[e]
 have⟨k,e,m⟩:=ep e m;have⟨l,e,m⟩:=ep e m;have⟨n,e,m⟩:=ep e m;have⟨o,e,m⟩:=ep e m;simp[e];refine Cs (gB e.2) ?_;have⟨p,e,m⟩:=ep e m;simp[e];refine Cs (gB e.2) ?_;have⟨q,e,m⟩:=ep e m;have⟨s,e,m⟩:=ep e m;simp[e];refine Cs (mi e.2) ?_;have⟨t,e,m⟩:=ep e m;simp[e];refine Cs (gB e.2) ?_;cases m;simp[e]
def Q5:su prog 265=true:=by kernel_rfl
def Ir:∀(n:Nat),C2 prog 265 (o6 n) (t3 Tm.av sB sB) Tm.av sI:=by
  intro n
  induction n with
  |zero=>
    skip
    all_goals(intro _ _;intros;rename_i hm;cases hm)
  |succ n ih=>
 rintro T H a0 a1 ⟨r0,r1,r2⟩ hm;rw[o6] at hm;refine fQ.intro (fn:=f265) func265 rfl Q5 (Sf rfl) ?_;refine gJ.sr [] λK1 aP=>?_;simp;apply aP;refine gJ.ux λK3 aQ=>?_;refine gJ.sr [] λK5 aR=>?_;have⟨x7,aS,G⟩:=eO hm;clear hm
 try dsimp only at G
 simp;refine m0.fn (J3 aS) ?_;simp;apply aR;refine gJ.tS λbh bj ah ai=>?_;rcases jr G with⟨a,I⟩|⟨a,J⟩
 ·clear G;simp[a];apply ah;refine gJ.ux λbk aj=>?_;refine gJ.sr [] λbl ak=>?_;have⟨bm,al,w⟩:=eO I;clear I
  try dsimp only at w
  simp[a];refine m0.fn (Gi al) ?_;simp[a];apply ak;refine gJ.tS λbn bo an ao=>?_;rcases jr w with⟨p,K⟩|⟨p,M⟩
  ·clear w;simp[a,p];apply an;refine gJ.sr [] λbp aq=>?_;simp[a,p];apply aq;refine gJ.ret ?_;simp only[tC,GP] at K;obtain⟨rfl,rfl,rfl⟩:=K;simp[vR,a,p]
  clear w;simp[a,p];apply ao;refine gJ.skip ?_;apply aj;refine gJ.sr [] λbq ar=>?_;have⟨br,au,B⟩:=eO M;clear M
  try dsimp only at B
  simp[a,p];refine m0.fn (Fq au) ?_;simp[a,p];apply ar;refine gJ.ret ?_;simp only[tC,GP] at B;obtain⟨rfl,rfl,rfl⟩:=B;simp[vR,a,p]
 clear G;simp[a];apply ai;refine gJ.skip ?_;apply aQ;refine gJ.ux λbs aw=>?_;refine gJ.sr [] λbt ax=>?_;simp[a];apply ax;have⟨P,N⟩:=m9 J;clear J;have⟨aT,ay,C⟩:=mu N;clear N
 try dsimp only at C
 have⟨Q,q,o⟩:=eO C;clear C;refine gJ.z_ λbu aU az aV aA=>?_;refine gJ.Nb (λn55 fr h=>∃(i56:Nat) (A:Int) (r:Nat) (s:Nat),H=h/\(fr.env 1=sI a1/\fr.env 2=AV.eD 2 r 0/\fr.env 4=AV.eD 4 s 0/\fr.env 23=sL Tm.av a0.acN/\fr.env 24=sI (eN a0.acN)/\fr.env 25=sI A/\fr.gen 2=r/\fr.box 2=some [sI a0.acM,sI a0.acP,sI a0.dv.acM,sL Ty.av a0.dv.acN,sL Tm.av a0.acN]/\fr.gen 4=s/\fr.box 4=some [sI 0,sI 0,sI 0,AV.slice .full [],AV.slice .full []])/\A=(i56:Int)/\i56+n55=List.length a0.acN/\fo aT (List.drop i56 a0.acN) i56 ()=some Q) (List.length a0.acN) ?_ ?_
 ·refine⟨0,0,1,1,?_,⟨?_,?_,?_,?_,?_,?_,?_,?_,?_,?_⟩,rfl,(by simp),q⟩<;>first|rfl|simp[a]
 rintro n55 O bw ⟨i56,A,r,s,rfl,i,v,aW,q⟩ bx aB;rcases n55 with _|n55
 ·have b:=M1 (l:=a0.acN) v (by omega);refine gJ.sr [] λbz aC=>?_;simp[i,b,a];apply aC;refine gJ.ux λbA aX=>?_;refine gJ.tS λbB bC aY aD=>?_;simp[i,b,a];apply aD;refine gJ.exit ?_;apply az;rw[Iz (by omega),pw] at q;obtain rfl:=iD q;rw[en] at o
  try dsimp only at o
  apply aw;refine gJ.sr [] λbD aE=>?_;simp[i,b,a];apply aE;refine gJ.ret ?_;simp only[tC,GP] at o;obtain⟨rfl,rfl,rfl⟩:=o;simp[vR,i,b,a]
 have b:=Pn (l:=a0.acN) v (by omega);have⟨bE,R,e⟩:=LC (l:=a0.acN) v (by omega);rw[R,fl] at q;have⟨bF,y,z⟩:=eO q;clear q;rw[ay,<-v] at y
 try dsimp only at y
 refine gJ.sr [] λbG aF=>?_;simp[i,b,e,a];apply aF;refine gJ.ux λbH aG=>?_;refine gJ.tS λbI bJ aH aZ=>?_;simp[i,b,e,a];apply aH;refine gJ.skip ?_;apply aG;refine gJ.ux λbK aI=>?_;refine gJ.z_ λbL a6 aJ a7 aK=>?_;refine gJ.sr [] λbM aL=>?_;simp[i,b,e,a];apply aL;refine gJ.sr [] λbN aM=>?_;have⟨S,bO,a8,U,t⟩:=Bn y;clear y
 try dsimp only at t
 simp[i,b,e,a];refine m0.fn (ih U) ?_;simp[i,b,e,a];apply aM;refine gJ.ux λa_ V=>?_;refine gJ.sr [] λa' W=>?_;simp[i,b,e,a];apply W;refine gJ.tS λba bb X Y=>?_;rcases jr t with⟨c,D⟩|⟨c,Z⟩;rotate_left
 ·clear t;simp[i,b,e,a,c];apply X;refine gJ.exit ?_;apply aJ;apply aI;refine gJ.region [] (by decide+kernel) ?_;simp[i,b,e,a,c];obtain rfl:=iD Z;rw[fv] at z
  refine aB _ _ n55 (ZM _) ⟨(i56+1),(fk .i64 A 1),r,s,?_,⟨?_,?_,?_,?_,?_,?_,?_,?_,?_,?_⟩,(JN v (by omega) P),(by omega),z⟩<;>first|rfl|simp[i,b,e,a,c]
 clear t;simp[i,b,e,a,c];apply Y;refine gJ.skip ?_;apply V;refine gJ.sr [] λbc aa=>?_;simp[i,b,e,a,c];apply aa;refine gJ.sr [] λbd ab=>?_;have⟨ad,E⟩:=m9 D;clear D;simp[i,b,e,a,c];refine sC.Xk (f:=Tm.av) a0.acN CX ⟨_,XE⟩ (by intro x;simp) ad (by first|rfl|simp) (by first|rfl|simp) λu aN=>?_;simp[i,b,e,a,c];apply ab;refine gJ.sr [] λbf ae=>?_;have⟨aO,j,F⟩:=eO E;clear E
 try dsimp only at F
 have m:=HI j;simp[i,b,e,j,m,a,c];refine zN.arr (f:=Tm.av) (L:=a0.acN) (k:=((u-List.length a0.acN)*5)) S Wk (by intro x;simp) (by simp[i,b,e,j,m,a,c]) (x:=aO) (by assumption) (by simp[i,b,e,j,m,a,c]) (by simp[i,b,e,j,m,a,c]) (by simp[i,b,e,j,m,a,c]) ?_;simp[i,b,e,j,m,a,c];apply ae;refine gJ.ux λbg af=>?_;refine gJ.ace 12 4 (cs2:=[sI a0.acM,sI a0.acP,sI a0.dv.acM,sL Ty.av a0.dv.acN,AV.xe 42 (O.gen 42+1) (List.length (xj a0.acN A S)) u]) (f:=Tm.av) (L:=(xj a0.acN A S)) (k:=((u-List.length a0.acN)*5)) (sz:=5) (d:=42) (g:=(O.gen 42+1)) (cap:=u) (by intro x;simp) (by intro x;simp) (by decide) (by simp[i,b,e,j,m,a,c]) (by simp[i,b,e,j,m,a,c]) (by simp[i,b,e,j,m,a,c]) (by simp[i,b,e,j,m,a,c]) ?_;refine gJ.region [] (by decide+kernel) ?_;simp[i,b,e,j,m,a,c];apply af;refine gJ.ret ?_;apply aK;apply aA;obtain rfl:=iD F;rw[zD] at z;obtain rfl:=iD z;rw[qs] at o
 try dsimp only at o
 simp only[tC,GP] at o;obtain⟨rfl,rfl,rfl⟩:=o;simp[vR,i,b,e,j,m,a,c]
def Ks{n:Nat}:C2 prog 265 (o6 n) (t3 Tm.av sB sB) Tm.av sI:=(Ir n)
def vX:C2 prog 229 mE (t3 Tm.av sI sI) Tm.av sI:=by
 intro T H a0 a1 r hm;rw[mE] at hm;have e:=trivial;refine wi acR func229 [] [] 7 ?_;have⟨A,e,m⟩:=ep e hm;simp[e];refine Cf (og e.2) ?_;simp[e];rcases Io e m with⟨e,m⟩|⟨e,m⟩
 ·apply wg 999;cases m;simp[e]
 apply wg 3;simp[e];refine Wj m 999 999 (λg f h=>∃(v3:Bool),(h=H/\f.1 1=sI a1/\f.1 2=AV.eD 2 (f.gen 2) 0/\f.1 4=AV.eD 4 (f.gen 4) 0/\f.1 28=sB v3/\f.box 2=some (Tm.av a0).cells/\f.box 4=some [sI 0,sI 0,sI 0,AV.slice .full [],AV.slice .full []])/\g v3=some r) (λg B c m=>?_) ?_
 ·rcases Io e m with⟨e,m⟩|⟨e,m⟩
  ·simp[e];exact c _ _ ⟨true,by simp[e],m⟩
  rcases Io e m with⟨e,m⟩|⟨e,m⟩
  ·simp[e];exact c _ _ ⟨true,by simp[e],m⟩
  have⟨i,e,m⟩:=ep e m;simp[e];refine Cf (w5 e.2) ?_;simp[e];exact c _ _ ⟨(nB i),by simp[e],m⟩
 rintro j C ⟨v3,E,m⟩;have e:=Aj e E;rcases Io e m with⟨e,m⟩|⟨e,m⟩
 ·cases m;simp[e]
 simp[e];refine Wn m 999 (λb f h=>h=H/\f.1 1=sI a1/\f.1 2=AV.eD 2 (f.gen 2) 0/\f.1 4=AV.eD 4 (f.gen 4) 0/\f.1 8=sI b.1/\f.box 2=some [sI b.2.1,sI b.2.2.1,sI b.2.2.2.1,sL Ty.av b.2.2.2.2.1,sL Tm.av b.2.2.2.2.2]/\f.box 4=some [sI 0,sI 0,sI 0,AV.slice .full [],AV.slice .full []]) (by simp[e]) (λb k D l n o E m a d=>?_);have⟨p,q,s,t,u,v20⟩:=b;have e:=Aj e E;dsimp only[wT]at m;have⟨v,e,m⟩:=ep e m;simp[e];refine Cs (hB e.2) ?_;have⟨w,x,y,e,m⟩:=Le e m;simp[e];refine Cs (Ks e.2) ?_;rcases Io e m with⟨e,m⟩|⟨e,m⟩;rotate_left
 ·have⟨z,e,m⟩:=ep e m;simp[e];refine Cf (mC e.2) ?_;cases m;cases a;simp[e]
 rcases Io e m with⟨e,m⟩|⟨e,m⟩
 ·cases m;cases a;simp[e]
 rcases Io e m with⟨e,m⟩|⟨e,m⟩;rotate_left
 ·cases m;cases a;simp[e]
 simp[e];cases m;exact d _ _ _ (by simp[e]) a
def IE:C3 prog 163 rX sI Tm.av Tm.av sI:=by
 intro T H a0 a1 a2 r hm;rw[rX] at hm;have e:=trivial;refine wi acR func163 [] [] 999 ?_;have⟨b,e,m⟩:=ep e hm;simp[e];refine Cf (og e.2) ?_;rcases Io e m with⟨e,m⟩|⟨e,m⟩
 ·cases m;simp[e]
 have⟨c,e,m⟩:=ep e m;simp[e];refine Cf (og e.2) ?_;rcases Io e m with⟨e,m⟩|⟨e,m⟩
 ·cases m;simp[e]
 have⟨d,e,m⟩:=ep e m;simp[e];refine Cf (yb e.2) ?_;rcases Io e m with⟨e,m⟩|⟨e,m⟩
 ·cases m;simp[e]
 have⟨f,g,h,e,m⟩:=Le e m;simp[e];refine Cf (vX e.2) ?_;rcases Io e m with⟨e,m⟩|⟨e,m⟩
 ·cases m;simp[e]
 have⟨i,j,k,e,m⟩:=Le e m;simp[e];refine Cf (vX e.2) ?_;rcases Io e m with⟨e,m⟩|⟨e,m⟩
 ·cases m;simp[e]
 have⟨a,e,m⟩:=ep e m;simp[e];refine Cf (yb e.2) ?_;rcases Io e m with⟨e,m⟩|⟨e,m⟩
 ·cases m;simp[e]
 cases m;simp[e]
def Gs:∀(n:Nat),C2 prog 94 (oM n) sI Fm.av Fm.av:=by
  intro n
  induction n with
  |zero=>
    skip
    all_goals(intro _ _;intros;rename_i hm;cases hm)
  |succ n v=>
 intro T H a0 a1 r hm;rw[oM] at hm;have e:=trivial;refine wi acR func94 [] [] 3 ?_;simp[e];refine Wj hm 999 999 (λs f h=>∃(v2:Bool),(h=H/\f.1 2=AV.eD 2 (f.gen 2) 0/\f.1 3=AV.eD 3 (f.gen 3) 0/\f.1 21=sB v2/\f.box 2=some (Fm.av a0).cells/\f.box 3=some (Fm.av a1).cells)/\s v2=some r) (λs L a m=>?_) ?_
 ·rcases Io e m with⟨e,m⟩|⟨e,m⟩
  ·simp[e];exact a _ _ ⟨true,by simp[e],m⟩
  have⟨w,e,m⟩:=ep e m;simp[e];refine Cf (iw e.2) ?_;simp[e];exact a _ _ ⟨(nB w),by simp[e],m⟩
 rintro x M ⟨v2,E,m⟩;have e:=Aj e E;rcases Io e m with⟨e,m⟩|⟨e,m⟩
 ·cases m;simp[e]
 simp[e];refine Wr e m 999 (λt u f h=>h=H/\f.1 2=AV.eD 2 (f.gen 2) 0/\f.1 3=AV.eD 3 (f.gen 3) 0/\f.1 24=sI (eN a0.ek)/\f.1 25=sI t/\f.box 2=some (Fm.av a0).cells/\f.box 3=some (Fm.av a1).cells) (by simp[e]) (λu l y o E m=>?_) (λt z u l y o A B E e m b c=>?_);rotate_left
 ·have e:=Aj e E;have⟨C,e,m⟩:=ep e m;have⟨D,e,m⟩:=ep e m;simp[e];refine Cs (IE e.2) ?_;rcases Io e m with⟨e,m⟩|⟨e,m⟩
  ·cases m;cases b;simp[e]
  simp[e];cases m;exact c _ _ _ (by simp[e]) b
 have e:=Aj e E;dsimp only[en]at m;simp[e];refine Wr e m 999 (λd g f h=>h=H/\f.1 2=AV.eD 2 (f.gen 2) 0/\f.1 3=AV.eD 3 (f.gen 3) 0/\f.1 45=sI (eN a0.acN)/\f.1 46=sI d/\f.box 2=some (Fm.av a0).cells/\f.box 3=some (Fm.av a1).cells) (by simp[e]) (λg i p q E m=>?_) (λd F g i p q G I E e m j k=>?_)
 ·have e:=Aj e E;dsimp only[en]at m;cases m;simp[e]
 have e:=Aj e E;have⟨J,e,m⟩:=ep e m;have⟨K,e,m⟩:=ep e m;simp[e];refine Cs (v e.2) ?_;rcases Io e m with⟨e,m⟩|⟨e,m⟩
 ·cases m;cases j;simp[e]
 simp[e];cases m;exact k _ _ _ (by simp[e]) j
def I5{n:Nat}:C2 prog 94 (oM n) sI Fm.av Fm.av:=(Gs n)
def Bb:C2 prog 31 oQ sI Fm.av Fm.av:=by
 intro T H a0 a1 r hm;rw[oQ] at hm;have e:=trivial;refine wi acR func31 [] [] 999 ?_;have⟨a,e,m⟩:=ep e hm;simp[e];refine Cf (oc e.2) ?_;rcases Io e m with⟨e,m⟩|⟨e,m⟩
 ·cases m;simp[e]
 have⟨b,e,m⟩:=ep e m;simp[e];refine Cf (oc e.2) ?_;rcases Io e m with⟨e,m⟩|⟨e,m⟩
 ·cases m;simp[e]
 have⟨c,e,m⟩:=ep e m;simp[e];refine Cf (I5 e.2) ?_;cases m;simp[e]
def tK:C1 prog 95 nY sI Fm.av:=by
 intro T H a0 r hm;rw[nY] at hm;have e:=trivial;refine wi acR func95 [] [] 999 ?_;have⟨a,e,m⟩:=ep e hm;simp[e];refine Cf (rD e.2) ?_;rcases Io e m with⟨e,m⟩|⟨e,m⟩
 ·cases m;simp[e]
 cases m;simp[e]
def L1:∀(n:Nat),C3 prog 32 (hI n) Fm.av Fm.av sI sI:=by
  intro n
  induction n with
  |zero=>
   skip
   all_goals(intro _ _;intros;rename_i hm;cases hm)
  |succ n y=>
 intro T H a0 a1 a2 r hm;rw[hI] at hm;have e:=trivial;refine wi acR func32 [] [] 999 ?_;simp[e];refine Wr e hm 999 (λx s2 f h=>∃(c:Tag),(h=H/\f.1 1=sI a1/\f.1 2=sI a2/\f.1 3=AV.eD 3 (f.gen 3) 0/\f.1 6=AV.eD 6 (f.gen 6) 0/\f.1 7=AV.eD 7 (f.gen 7) 0/\f.1 18=sL Tm.av a0.ek/\f.1 19=sI (eN a0.ek)/\f.1 20=sI x/\f.box 3=some (Fm.av a0).cells/\f.box 6=some [sI 0,sI 0,AV.slice .full [],AV.slice .full [],AV.slice .full []]/\f.box 7=some [sI a0.acM,sI a0.dv.acM,sL Ty.av a0.dv.acN,sT c Tm.av s2,AV.slice .full []])/\Ow f [31] c s2) (by exact⟨.full,by simp[e],js.full⟩) (λs2 l z A E m=>?_) (λx I s2 l z A n6 J E e m B q=>?_);rotate_left
 ·have⟨c,E,g⟩:=E;have e:=Aj e E;have⟨s,e,m⟩:=ep e m;simp[e];refine Cs (BU e.2) ?_;have⟨e,m⟩:=Ck e m;simp[e];refine Ad (f:=Tm.av) s2 [s] g CX e.2 ?_;simp[e];cases m;exact q _ _ _ ⟨(.loc 31 (l.fP 31+1)),by simp[e],(On 31)⟩ B
 have⟨c,E,g⟩:=E;have e:=Aj e E;dsimp only[en]at m;simp[e];refine Wr e m 999 (λo i f h=>∃(a:Tag) (b:Tag),(h=H/\f.1 1=sI a1/\f.1 2=sI a2/\f.1 3=AV.eD 3 (f.gen 3) 0/\f.1 6=AV.eD 6 (f.gen 6) 0/\f.1 7=AV.eD 7 (f.gen 7) 0/\f.1 35=sL Fm.av a0.acN/\f.1 36=sI (eN a0.acN)/\f.1 37=sI o/\f.box 3=some (Fm.av a0).cells/\f.box 6=some [sI 0,sI 0,AV.slice .full [],AV.slice .full [],AV.slice .full []]/\f.box 7=some [sI a0.acM,sI a0.dv.acM,sL Ty.av a0.dv.acN,sT a Tm.av s2,sT b Fm.av i])/\Ow f [31] a s2/\Ow f [51] b i) (by exact⟨c,.full,by simp[e],g,js.full⟩) (λi k t u E m=>?_) (λo C i k t u D F E e m v p=>?_)
 ·have⟨a,b,E,j,d⟩:=E;have e:=Aj e E;dsimp only[en]at m;cases m;simp[e]
 have⟨a,b,E,j,d⟩:=E;have e:=Aj e E;have⟨G,e,m⟩:=ep e m;simp[e];refine Cs (tK e.2) ?_;have⟨w,e,m⟩:=ep e m;simp[e];refine Cs (y e.2) ?_;have⟨e,m⟩:=Ck e m;simp[e];refine Ad (f:=Fm.av) i [w] d Gq e.2 ?_;simp[e];cases m;exact p _ _ _ ⟨a,(.loc 51 (k.fP 51+1)),by simp[e],(js.other j d (by decide) (by decide)),(On 51)⟩ v
def mr{n:Nat}:C3 prog 32 (hI n) Fm.av Fm.av sI sI:=(L1 n)
def np:C2 prog 256 fJ ei.av ei.av (sL Ty.av):=by
 intro T H a0 a1 r hm;rw[fJ] at hm;have e:=trivial;refine wi acR func256 [] [] 999 ?_;have⟨e,m⟩:=Ck e hm;simp[e];refine Ad (f:=Ty.av) a0.acQ a1 (js.full (D:=[])) GM e.2 ?_;simp[e];refine Wr e m 999 (λk s2 f h=>∃(a:Tag) (b:Tag),(h=H/\f.1 1=sL Ty.av a1/\f.1 4=AV.eD 4 (f.gen 4) 0/\f.1 5=AV.eD 5 (f.gen 5) 0/\f.1 23=sL Fm.av a0.acT/\f.1 24=sI (eN a0.acT)/\f.1 25=sI k/\f.box 4=some [AV.slice .full [],AV.slice .full [],AV.slice .full []]/\f.box 5=some [sL Fm.av a0.lemmas,sT a Ty.av (gU a0.acQ a1),sT b Fm.av s2])/\Ow f [20] a (gU a0.acQ a1)/\Ow f [36] b s2) (by exact⟨(.loc 20 1),.full,by simp[e],(On 20),js.full⟩) (λs2 g l n E m=>?_) (λk p s2 g l n n6 q E e m o i=>?_)
 ·have⟨a,b,E,d,c⟩:=E;have e:=Aj e E;dsimp only[en]at m;cases m;simp[e]
 have⟨a,b,E,d,c⟩:=E;have e:=Aj e E;have⟨j,e,m⟩:=ep e m;simp[e];refine Cs (mr e.2) ?_;have⟨e,m⟩:=Ck e m;simp[e];refine Ad (f:=Fm.av) s2 [j] c Gq e.2 ?_;simp[e];cases m;exact i _ _ _ ⟨a,(.loc 36 (g.fP 36+1)),by simp[e],(js.other d c (by decide) (by decide)),(On 36)⟩ o
def pq:C2 prog 257 gS (sL sI) (sL sI) sI:=by
 intro T H a0 a1 r hm;rw[gS] at hm;have e:=trivial;refine wi acR func257 [] [] 999 ?_;simp[e];refine Wr e hm 0 (λk s2 f h=>∃(b:Tag),(h=H/\f.1 1=sI a1/\f.1 5=sT b sI s2/\f.1 8=sL sI a0/\f.1 9=sI (eN a0)/\f.1 10=sI k)/\Ow f [22] b s2) (by exact⟨.full,by simp[e],js.full⟩) (λs2 i p q E m=>?_) (λk n s2 i p q n6 s E e m t l=>?_)
 ·have⟨b,E,c⟩:=E;have e:=Aj e E;apply wg 999;dsimp only[en]at m;cases m;simp[e]
 have⟨b,E,c⟩:=E;have e:=Aj e E;apply wg 5;simp[e];refine Wj m 999 999 (λj f h=>∃(v11:List Int) (a:Tag),(h=H/\f.1 1=sI a1/\f.1 5=sT a sI v11/\f.1 8=sL sI a0/\f.1 9=sI (eN a0)/\f.1 10=sI k)/\Ow f [22] a v11/\j v11=some s) (λj u d m=>?_) ?_;rotate_left
 ·rintro o v ⟨v11,a,E,g,m⟩;have e:=Aj e E;simp[e];cases m;exact l _ _ _ ⟨a,by simp[e],g⟩ t
 rcases Io e m with⟨e,m⟩|⟨e,m⟩;rotate_left
 ·simp[e];exact d _ _ ⟨s2,b,by simp[e],c,m⟩
 have⟨e,m⟩:=Ck e m;simp[e];refine Ao (f:=sI) s2 [(fG .i64 n a1)] c P6 e.2 ?_;simp[e];exact d _ _ ⟨(gU s2 [(fG .i64 n a1)]),(.loc 22 (i.fP 22+1)),by simp[e],(On 22),m⟩
def Ey:C1 prog 258 rR sB (sL sI):=by
 intro T H a0 r hm;rw[rR] at hm;have e:=trivial;refine wi acR func258 [] [] 2 ?_;simp[e];refine Wj hm 999 999 (λb f h=>∃(v2:Bool),(h=H/\f.1 2=sB v2)/\b v2=some r) (λb g a m=>?_) ?_;rotate_left
 ·rintro c i ⟨v2,E,m⟩;have e:=Aj e E;cases m;simp[e]
 rcases Io e m with⟨e,m⟩|⟨e,m⟩;rotate_left
 ·simp[e];exact a _ _ ⟨false,by simp[e],m⟩
 have⟨d,e,m⟩:=ep e m;simp[e];exact a _ _ ⟨(eH d 0),by simp[e],m⟩
def vT:C2 prog 259 k4 (t2 Ty.av sI) (sL Ty.av) Tm.av:=by
 intro T H a0 a1 r hm;rw[k4] at hm;have e:=trivial;refine wi acR func259 [] [] 999 ?_;have⟨a,e,m⟩:=ep e hm;simp[e];refine Cf (uv e.2) ?_;rcases Io e m with⟨e,m⟩|⟨e,m⟩
 ·cases m;simp[e]
 have⟨b,c,e,m⟩:=gr e m;simp[e];refine Cf (A9 e.2) ?_;cases m;simp[e]
def IM(T:fh):∀(n:Nat),(∀{H:eB} {a0:Tm} {a1:Int} {a2:(List (Int×Bool))} {a:(List (Int×Bool))} {o2:Nat} (b:H[o2]?=some [ti sB a2]) (hm:qf n a0 a1 a2=some a),e_ prog T 129 [Tm.av a0,sI a1,AV.om o2] H (AV.tuple []) (gC H o2 [ti sB a])):=by
  intro n
  induction n with
  |zero=>
    skip
    all_goals(intro _ _;intros;rename_i hm;cases hm)
  |succ n s=>
 intro H a0 a1 a2 a o2 b hm;rw[qf] at hm;have k:=gn b;refine fQ.Nq b ?_;have e:=k;refine wi acR func129 [] [] 2 ?_;simp[e];refine Wj hm 0 999 (λq f h=>∃(v2:(List (Int×Bool))),(h=gC H o2 [ti sB v2]/\f.1 1=sI a1/\f.1 2=AV.om o2/\f.1 3=AV.eD 3 (f.gen 3) 0/\f.box 3=some (Tm.av a0).cells)/\q v2=some a) (λq z d m=>?_) ?_
 ·refine wj 999 999 (λf h=>h=gC H o2 [ti sB a2]/\f.1 1=sI a1/\f.1 2=AV.om o2/\f.1 3=AV.eD 3 (f.gen 3) 0/\f.1 16=sB (fW (eH a0.acM 1) (ue a0.acP a1) false)/\f.box 3=some (Tm.av a0).cells) (λA g=>?_) ?_
  ·rcases Pb (eH a0.acM 1) e with e|e
   ·simp[e];exact g _ _ (by simp[e])
   simp[e];exact g _ _ (by simp[e])
  rintro t B E;have e:=Aj e E;rcases Io e m with⟨e,m⟩|⟨e,m⟩;rotate_left
  ·simp[e];exact d _ _ ⟨a2,by simp[e],m⟩
  simp[e];refine uk.i64 (f:=sB) a2 true Ox uI (by simp[e]) (by simp[e]) ?_;simp[e];exact d _ _ ⟨(uO a2 (fG .i64 a0.acP a1) true),by simp[e],m⟩
 rintro u C ⟨v2,E,m⟩;have e:=Aj e E;simp[e];refine Wr e m 999 (λr c f h=>h=gC H o2 [ti sB c]/\f.1 1=sI a1/\f.1 2=AV.om o2/\f.1 3=AV.eD 3 (f.gen 3) 0/\f.1 23=sL Tm.av a0.acN/\f.1 24=sI (eN a0.acN)/\f.1 25=sI r/\f.box 3=some (Tm.av a0).cells) (by simp[e]) (λc i l o E m=>?_) (λr v c i l o w x E e m p j=>?_)
 ·have e:=Aj e E;dsimp only[en]at m;cases m;simp[e]
 have e:=Aj e E;have⟨y,e,m⟩:=ep e m;simp[e];refine Cs (q4 e.2) ?_;have⟨d19,e,m⟩:=ep e m;simp[e];refine Cs (s (by simp[e]) e.2) ?_;simp[e];cases m;exact j _ _ _ (by simp[e]) p
def Lg(T:fh){H:eB}{a0:Tm}{a1:Int}{a2:(List (Int×Bool))}{a:(List (Int×Bool))}{o2:Nat}(b:H[o2]?=some [ti sB a2]){n:Nat}(hm:qf n a0 a1 a2=some a):e_ prog T 129 [Tm.av a0,sI a1,AV.om o2] H (AV.tuple []) (gC H o2 [ti sB a]):=(IM T n) b hm
def Cg(T:fh){H:eB}{a0:Tm}{a:List Int}{b:Int}(hm:tc a0=some (a,b)):e_ prog T 58 [Tm.av a0] H (AV.tuple [sL sI a,sI b]) H:=by
 rw[tc] at hm;refine fQ.uC (Post:=λx K=>x=AV.tuple [sL sI a,sI b]/\∃X,K=H++X) ?_ (λ_ _ h=>⟨_,h.2.choose_spec,by rw[h.1];simp[AV.low,AV.jj],h.1,rfl⟩);have e:=trivial;refine wi acR func58 [] [] 999 ?_;have⟨c,e,m⟩:=ep e hm;simp[e];refine Cf (og e.2) ?_;rcases Io e m with⟨e,m⟩|⟨e,m⟩
 ·cases m;simp[e]
 have⟨d2,e,m⟩:=ep e m;simp[e];refine Cf (Lg T (by simp[e]) e.2) ?_;have⟨d,d4,e,m⟩:=gr e m;simp[e];refine Cf (zF T (by simp[e]) e.2) ?_;cases m;simp[e]
def uS:C1 prog 260 kY (sL sI) Tm.av:=by
 intro T H a0 r hm;rw[kY] at hm;have e:=trivial;refine wi acR func260 [] [] 999 ?_;have⟨a,b,e,m⟩:=gr e hm;simp[e];refine Cf (Cg T e.2) ?_;cases m;simp[e]
def F7:∀(n:Nat),C2 prog 113 (oR n) sB Fm.av sI:=by
  intro n
  induction n with
  |zero=>
    skip
    all_goals(intro _ _;intros;rename_i hm;cases hm)
  |succ n q=>
 intro T H a0 a1 r hm;rw[oR] at hm;have e:=trivial;refine wi acR func113 [] [] 999 ?_;simp[e];refine Wr e hm 999 (λo s2 f h=>h=H/\f.1 1=sI a1/\f.1 2=AV.eD 2 (f.gen 2) 0/\f.1 10=sL Tm.av a0.ek/\f.1 11=sI (eN a0.ek)/\f.1 12=sI o/\f.box 2=some (Fm.av a0).cells) (by simp[e]) (λs2 i s t E m=>?_) (λo z s2 i s t n6 A E e m p j=>?_);rotate_left
 ·have e:=Aj e E;have⟨u,e,m⟩:=ep e m;simp[e];refine Cf (w5 e.2) ?_;rcases Io e m with⟨e,m⟩|⟨e,m⟩;rotate_left
  ·cases m;cases p;simp[e]
  simp[e];cases m;exact j _ _ _ (by simp[e]) p
 have e:=Aj e E;dsimp only[en]at m;simp[e];refine Wr e m 999 (λa b f h=>h=H/\f.1 1=sI a1/\f.1 22=sL Fm.av a0.acN/\f.1 23=sI (eN a0.acN)/\f.1 24=sI a) (by simp[e]) (λb c k l E m=>?_) (λa v b c k l w x E e m d g=>?_)
 ·have e:=Aj e E;dsimp only[en]at m;cases m;simp[e]
 have e:=Aj e E;have⟨y,e,m⟩:=ep e m;simp[e];refine Cf (q e.2) ?_;rcases Io e m with⟨e,m⟩|⟨e,m⟩;rotate_left
 ·cases m;cases d;simp[e]
 simp[e];cases m;exact g _ _ _ (by simp[e]) d
def Jh{n:Nat}:C2 prog 113 (oR n) sB Fm.av sI:=(F7 n)
def Ht:∀(n:Nat),C2 prog 116 (oN n) sI Fm.av sI:=by
  intro n
  induction n with
  |zero=>
   skip
   all_goals(intro _ _;intros;rename_i hm;cases hm)
  |succ n p=>
 intro T H a0 a1 r hm;rw[oN] at hm;have e:=trivial;refine wi acR func116 [] [] 999 ?_;simp[e];refine Wr e hm 999 (λo s2 f h=>h=H/\f.1 1=sI a1/\f.1 2=AV.eD 2 (f.gen 2) 0/\f.1 5=sI s2/\f.1 11=sL Tm.av a0.ek/\f.1 12=sI (eN a0.ek)/\f.1 13=sI o/\f.box 2=some (Fm.av a0).cells) (by simp[e]) (λs2 g q s E m=>?_) (λo A s2 g q s n6 B E e m t i=>?_);rotate_left
 ·have e:=Aj e E;have⟨u,e,m⟩:=ep e m;simp[e];refine Cf (Bf e.2) ?_;simp[e];cases m;exact i _ _ _ (by simp[e]) t
 have e:=Aj e E;dsimp only[en]at m;simp[e];refine Wr e m 999 (λb a f h=>h=H/\f.1 1=sI a1/\f.1 2=AV.eD 2 (f.gen 2) 0/\f.1 5=sI a/\f.1 24=sL Fm.av a0.acN/\f.1 25=sI (eN a0.acN)/\f.1 26=sI b/\f.box 2=some (Fm.av a0).cells) (by simp[e]) (λa c j k E m=>?_) (λb v a c j k w x E e m l d=>?_)
 ·have e:=Aj e E;dsimp only[en]at m;cases m;simp[e]
 have e:=Aj e E;have⟨y,e,m⟩:=ep e m;simp[e];refine Cs (tK e.2) ?_;have⟨z,e,m⟩:=ep e m;simp[e];refine Cs (p e.2) ?_;simp[e];cases m;exact d _ _ _ (by simp[e]) l
def H9{n:Nat}:C2 prog 116 (oN n) sI Fm.av sI:=(Ht n)
def LG:∀(n:Nat),C4 prog 118 (vy n) Fm.av Fm.av sI sI Tm.av:=by
  intro n
  induction n with
  |zero=>
   skip
   all_goals(intro _ _;intros;rename_i hm;cases hm)
  |succ n y=>
 intro T H a0 a1 a2 a3 r hm;rw[vy] at hm;have e:=trivial;refine wi acR func118 [] [] 999 ?_;simp[e];refine Wr e hm 999 (λx s2 f h=>∃(c:Tag),(h=H/\f.1 1=sI a1/\f.1 2=sI a2/\f.1 4=AV.eD 4 (f.gen 4) 0/\f.1 7=AV.eD 7 (f.gen 7) 0/\f.1 8=AV.eD 8 (f.gen 8) 0/\f.1 9=AV.eD 9 (f.gen 9) 0/\f.1 20=sL Tm.av a0.ek/\f.1 21=sI (eN a0.ek)/\f.1 22=sI x/\f.box 4=some (Fm.av a0).cells/\f.box 7=some (Tm.av a3).cells/\f.box 8=some [sI 0,sI 0,AV.slice .full [],AV.slice .full [],AV.slice .full []]/\f.box 9=some [sI a0.acM,sI a0.dv.acM,sL Ty.av a0.dv.acN,sT c Tm.av s2,AV.slice .full []])/\Ow f [34] c s2) (by exact⟨.full,by simp[e],js.full⟩) (λs2 l z A E m=>?_) (λx I s2 l z A n6 J E e m B q=>?_);rotate_left
 ·have⟨c,E,g⟩:=E;have e:=Aj e E;have⟨s,e,m⟩:=ep e m;simp[e];refine Cs (Hf e.2) ?_;have⟨e,m⟩:=Ck e m;simp[e];refine Ad (f:=Tm.av) s2 [s] g CX e.2 ?_;simp[e];cases m;exact q _ _ _ ⟨(.loc 34 (l.fP 34+1)),by simp[e],(On 34)⟩ B
 have⟨c,E,g⟩:=E;have e:=Aj e E;dsimp only[en]at m;simp[e];refine Wr e m 999 (λo i f h=>∃(a:Tag) (b:Tag),(h=H/\f.1 1=sI a1/\f.1 2=sI a2/\f.1 4=AV.eD 4 (f.gen 4) 0/\f.1 7=AV.eD 7 (f.gen 7) 0/\f.1 8=AV.eD 8 (f.gen 8) 0/\f.1 9=AV.eD 9 (f.gen 9) 0/\f.1 38=sL Fm.av a0.acN/\f.1 39=sI (eN a0.acN)/\f.1 40=sI o/\f.box 4=some (Fm.av a0).cells/\f.box 7=some (Tm.av a3).cells/\f.box 8=some [sI 0,sI 0,AV.slice .full [],AV.slice .full [],AV.slice .full []]/\f.box 9=some [sI a0.acM,sI a0.dv.acM,sL Ty.av a0.dv.acN,sT a Tm.av s2,sT b Fm.av i])/\Ow f [34] a s2/\Ow f [55] b i) (by exact⟨c,.full,by simp[e],g,js.full⟩) (λi k t u E m=>?_) (λo C i k t u D F E e m v p=>?_)
 ·have⟨a,b,E,j,d⟩:=E;have e:=Aj e E;dsimp only[en]at m;cases m;simp[e]
 have⟨a,b,E,j,d⟩:=E;have e:=Aj e E;have⟨G,e,m⟩:=ep e m;simp[e];refine Cs (tK e.2) ?_;have⟨w,e,m⟩:=ep e m;simp[e];refine Cs (y e.2) ?_;have⟨e,m⟩:=Ck e m;simp[e];refine Ad (f:=Fm.av) i [w] d Gq e.2 ?_;simp[e];cases m;exact p _ _ _ ⟨a,(.loc 55 (k.fP 55+1)),by simp[e],(js.other j d (by decide) (by decide)),(On 55)⟩ v
def Ob{n:Nat}:C4 prog 118 (vy n) Fm.av Fm.av sI sI Tm.av:=(LG n)
def MU:C3 prog 45 xG (t2 Fm.av sI) Fm.av sI Tm.av:=by
 intro T H a0 a1 a2 r hm;rw[xG] at hm;have e:=trivial;refine wi acR func45 [] [] 7 ?_;have⟨t,e,m⟩:=ep e hm;simp[e];refine Cf (oc e.2) ?_;simp[e];rcases Io e m with⟨e,m⟩|⟨e,m⟩
 ·apply wg 999;cases m;simp[e]
 apply wg 3;simp[e];refine wj 999 0 (λf h=>h=H/\f.1 1=sI a1/\f.1 3=AV.eD 3 (f.gen 3) 0/\f.1 5=AV.eD 5 (f.gen 5) 0/\f.1 6=AV.eD 6 (f.gen 6) 0/\f.1 21=sB (fW (uX a1 0) true (pc a1 4096))/\f.box 3=some (Fm.av a0).cells/\f.box 5=some (Tm.av a2).cells/\f.box 6=some [sI 0,sI 0,AV.slice .full [],AV.slice .full [],AV.slice .full []]) (λu a=>?_) ?_
 ·rcases Pb (uX a1 0) e with e|e
  ·simp[e];exact a _ _ (by simp[e])
  simp[e];exact a _ _ (by simp[e])
 rintro j v E;have e:=Aj e E;rcases Io e m with⟨e,m⟩|⟨e,m⟩
 ·apply wg 999;cases m;simp[e]
 apply wg 7;have⟨w,e,m⟩:=ep e m;simp[e];refine Cf (og e.2) ?_;simp[e];rcases Io e m with⟨e,m⟩|⟨e,m⟩
 ·apply wg 999;cases m;simp[e]
 apply wg 3;simp[e];refine Wj m 999 999 (λg f h=>∃(c:Bool),(h=H/\f.1 1=sI a1/\f.1 3=AV.eD 3 (f.gen 3) 0/\f.1 5=AV.eD 5 (f.gen 5) 0/\f.1 6=AV.eD 6 (f.gen 6) 0/\f.1 36=sB c/\f.box 3=some (Fm.av a0).cells/\f.box 5=some (Tm.av a2).cells/\f.box 6=some [sI 0,sI 0,AV.slice .full [],AV.slice .full [],AV.slice .full []])/\g c=some r) (λg x b m=>?_) ?_
 ·have⟨k,e,m⟩:=ep e m;simp[e];refine Cf (Jh e.2) ?_;rcases Io e m with⟨e,m⟩|⟨e,m⟩;rotate_left
  ·simp[e];exact b _ _ ⟨true,by simp[e],m⟩
  have⟨d,e,m⟩:=ep e m;simp[e];refine Cf (w5 e.2) ?_;simp[e];exact b _ _ ⟨(nB d),by simp[e],m⟩
 rintro i l ⟨c,E,m⟩;have e:=Aj e E;rcases Io e m with⟨e,m⟩|⟨e,m⟩
 ·cases m;simp[e]
 have⟨n,e,m⟩:=ep e m;simp[e];refine Cs (tI e.2) ?_;have⟨o,e,m⟩:=ep e m;simp[e];refine Cs (H9 e.2) ?_;have⟨p,e,m⟩:=ep e m;simp[e];refine Cs (hB e.2) ?_;rcases Io e m with⟨e,m⟩|⟨e,m⟩
 ·cases m;simp[e]
 have⟨q,e,m⟩:=ep e m;simp[e];refine Cf (Ob e.2) ?_;have⟨s,e,m⟩:=ep e m;simp[e];refine Cf (kS e.2) ?_;cases m;simp[e]
def rV:C2 prog 261 j4 (t2 Fm.av sI) Fm.av Tm.av:=by
 intro T H a0 a1 r hm;rw[j4] at hm;have e:=trivial;refine wi acR func261 [] [] 999 ?_;have⟨a,b,e,m⟩:=gr e hm;simp[e];refine Cf (MU e.2) ?_;cases m;simp[e]
def Kh:∀(n:Nat),C2 prog 288 (tA n) sB Tm.av sI:=by
  intro n
  induction n with
  |zero=>
    skip
    all_goals(intro _ _;intros;rename_i hm;cases hm)
  |succ n j=>
 intro T H a0 a1 r hm;rw[tA] at hm;have e:=trivial;refine wi acR func288 [] [] 3 ?_;simp[e];refine wj 999 999 (λf h=>h=H/\f.1 1=sI a1/\f.1 2=AV.eD 2 (f.gen 2) 0/\f.1 15=sB (fW (eH a0.acM 1) (eH a0.acP a1) false)/\f.box 2=some (Tm.av a0).cells) (λt a=>?_) ?_
 ·rcases Pb (eH a0.acM 1) e with e|e
  ·simp[e];exact a _ _ (by simp[e])
  simp[e];exact a _ _ (by simp[e])
 rintro k u E;have e:=Aj e E;rcases Io e hm with⟨e,m⟩|⟨e,m⟩
 ·cases m;simp[e]
 simp[e];refine Wr e m 999 (λg i f h=>h=H/\f.1 1=sI a1/\f.1 2=AV.eD 2 (f.gen 2) 0/\f.1 17=sL Tm.av a0.acN/\f.1 18=sI (eN a0.acN)/\f.1 19=sI g/\f.box 2=some (Tm.av a0).cells) (by simp[e]) (λi d l o E m=>?_) (λg v i d l o w p E e m b c=>?_)
 ·have e:=Aj e E;dsimp only[en]at m;cases m;simp[e]
 have e:=Aj e E;have⟨q,e,m⟩:=ep e m;simp[e];refine Cs (q4 e.2) ?_;have⟨s,e,m⟩:=ep e m;simp[e];refine Cs (j e.2) ?_;rcases Io e m with⟨e,m⟩|⟨e,m⟩
 ·cases m;cases b;simp[e]
 simp[e];cases m;exact c _ _ _ (by simp[e]) b
def MH{n:Nat}:C2 prog 288 (tA n) sB Tm.av sI:=(Kh n)
def KG:∀(n:Nat),C2 prog 263 (pG n) sB Fm.av sI:=by
  intro n
  induction n with
  |zero=>
    skip
    all_goals(intro _ _;intros;rename_i hm;cases hm)
  |succ n q=>
 intro T H a0 a1 r hm;rw[pG] at hm;have e:=trivial;refine wi acR func263 [] [] 999 ?_;simp[e];refine Wr e hm 999 (λo s2 f h=>h=H/\f.1 1=sI a1/\f.1 2=AV.eD 2 (f.gen 2) 0/\f.1 10=sL Tm.av a0.ek/\f.1 11=sI (eN a0.ek)/\f.1 12=sI o/\f.box 2=some (Fm.av a0).cells) (by simp[e]) (λs2 i s t E m=>?_) (λo A s2 i s t n6 B E e m p j=>?_);rotate_left
 ·have e:=Aj e E;have⟨u,e,m⟩:=ep e m;simp[e];refine Cf (MH e.2) ?_;rcases Io e m with⟨e,m⟩|⟨e,m⟩
  ·cases m;cases p;simp[e]
  simp[e];cases m;exact j _ _ _ (by simp[e]) p
 have e:=Aj e E;dsimp only[en]at m;simp[e];refine Wr e m 999 (λa b f h=>h=H/\f.1 1=sI a1/\f.1 2=AV.eD 2 (f.gen 2) 0/\f.1 21=sL Fm.av a0.acN/\f.1 22=sI (eN a0.acN)/\f.1 23=sI a/\f.box 2=some (Fm.av a0).cells) (by simp[e]) (λb c k l E m=>?_) (λa v b c k l w x E e m d g=>?_)
 ·have e:=Aj e E;dsimp only[en]at m;cases m;simp[e]
 have e:=Aj e E;have⟨y,e,m⟩:=ep e m;simp[e];refine Cs (tK e.2) ?_;have⟨z,e,m⟩:=ep e m;simp[e];refine Cs (q e.2) ?_;rcases Io e m with⟨e,m⟩|⟨e,m⟩
 ·cases m;cases d;simp[e]
 simp[e];cases m;exact g _ _ _ (by simp[e]) d
def EG{n:Nat}:C2 prog 263 (pG n) sB Fm.av sI:=(KG n)
def Fi:∀(n:Nat),C1 prog 264 (mI n) (t2 Fm.av sI) Fm.av:=by
  intro n
  induction n with
  |zero=>
    skip
    all_goals(intro _ _;intros;rename_i hm;cases hm)
  |succ n y=>
 intro T H a0 r hm;rw[mI] at hm;have e:=trivial;refine wi acR func264 [] [] 999 ?_;simp[e];refine Wr e hm 999 (λw s2 f h=>∃(c:Tag),(h=H/\f.1 1=AV.eD 1 (f.gen 1) 0/\f.1 2=AV.eD 2 (f.gen 2) 0/\f.1 4=AV.eD 4 (f.gen 4) 0/\f.1 20=sL Tm.av a0.ek/\f.1 21=sI (eN a0.ek)/\f.1 22=sI w/\f.box 1=some (Fm.av a0).cells/\f.box 2=some [sI 0,sI 0,AV.slice .full [],AV.slice .full [],AV.slice .full []]/\f.box 4=some [sI a0.acM,sI a0.dv.acM,sL Ty.av a0.dv.acN,sT c Tm.av s2,AV.slice .full []])/\Ow f [40] c s2) (by exact⟨.full,by simp[e],js.full⟩) (λs2 l z A E m=>?_) (λw J s2 l z A n6 K E e m x q=>?_);rotate_left
 ·have⟨c,E,g⟩:=E;have e:=Aj e E;have⟨s,B,C,e,m⟩:=Le e m;simp[e];refine Cf (vX e.2) ?_;rcases Io e m with⟨e,m⟩|⟨e,m⟩
  ·cases m;cases x;simp[e]
  have⟨e,m⟩:=Ck e m;simp[e];refine Ao (f:=Tm.av) s2 [s] g CX e.2 ?_;simp[e];cases m;exact q _ _ _ ⟨(.loc 40 (l.fP 40+1)),by simp[e],(On 40)⟩ x
 have⟨c,E,g⟩:=E;have e:=Aj e E;dsimp only[en]at m;simp[e];refine Wr e m 999 (λo i f h=>∃(a:Tag) (b:Tag),(h=H/\f.1 2=AV.eD 2 (f.gen 2) 0/\f.1 4=AV.eD 4 (f.gen 4) 0/\f.1 44=sL Fm.av a0.acN/\f.1 45=sI (eN a0.acN)/\f.1 46=sI o/\f.box 2=some [sI 0,sI 0,AV.slice .full [],AV.slice .full [],AV.slice .full []]/\f.box 4=some [sI a0.acM,sI a0.dv.acM,sL Ty.av a0.dv.acN,sT a Tm.av s2,sT b Fm.av i])/\Ow f [40] a s2/\Ow f [63] b i) (by exact⟨c,.full,by simp[e],g,js.full⟩) (λi k t u E m=>?_) (λo D i k t u F G E e m z20 p=>?_)
 ·have⟨a,b,E,j,d⟩:=E;have e:=Aj e E;dsimp only[en]at m;cases m;simp[e]
 have⟨a,b,E,j,d⟩:=E;have e:=Aj e E;have⟨v,I,e,m⟩:=gr e m;simp[e];refine Cf (y e.2) ?_;rcases Io e m with⟨e,m⟩|⟨e,m⟩
 ·cases m;cases z20;simp[e]
 have⟨e,m⟩:=Ck e m;simp[e];refine Ao (f:=Fm.av) i [v] d Gq e.2 ?_;simp[e];cases m;exact p _ _ _ ⟨a,(.loc 63 (k.fP 63+1)),by simp[e],(js.other j d (by decide) (by decide)),(On 63)⟩ z20
def G4{n:Nat}:C1 prog 264 (mI n) (t2 Fm.av sI) Fm.av:=(Fi n)
def pO:C3 prog 226 ik sI ei.av Tm.av sI:=by
 intro T H a0 a1 a2 r hm;rw[ik] at hm;have e:=trivial;refine wi acR func226 [] [] 999 ?_;have⟨a,b,e,m⟩:=gr e hm;simp[e];refine Cf (vT e.2) ?_;rcases Io e m with⟨e,m⟩|⟨e,m⟩
 ·cases m;simp[e]
 rcases Io e m with⟨e,m⟩|⟨e,m⟩
 ·cases m;simp[e]
 cases m;simp[e]
def Ef:∀(n:Nat),C1 prog 110 (jO n) sB Fm.av:=by
  intro n
  induction n with
  |zero=>
    skip
    all_goals(intro _ _;intros;rename_i hm;cases hm)
  |succ n b=>
 intro T H a0 r hm;rw[jO] at hm;have e:=trivial;refine wi acR func110 [] [] 8 ?_;simp[e];rcases Io e hm with⟨e,m⟩|⟨e,m⟩
 ·apply wg 999;cases m;simp[e]
 apply wg 3;simp[e];rcases Io e m with⟨e,m⟩|⟨e,m⟩;rotate_left
 ·apply wg 999;rcases Io e m with⟨e,m⟩|⟨e,m⟩
  ·cases m;simp[e]
  have⟨j,e,m⟩:=ep e m;have⟨k,e,m⟩:=ep e m;simp[e];refine Cf (b e.2) ?_;cases m;simp[e]
 apply wg 1;simp[e];refine Wj m 999 999 (λd f h=>∃(v4:Bool),(h=H/\f.1 2=sB v4)/\d v4=some r) (λd l a m=>?_) ?_;rotate_left
 ·rintro g o ⟨v4,E,m⟩;have e:=Aj e E;cases m;simp[e]
 have⟨p,e,m⟩:=ep e m;have⟨q,e,m⟩:=ep e m;simp[e];refine Cf (b e.2) ?_;rcases Io e m with⟨e,m⟩|⟨e,m⟩
 ·simp[e];exact a _ _ ⟨true,by simp[e],m⟩
 have⟨i,e,m⟩:=ep e m;have⟨c,e,m⟩:=ep e m;simp[e];refine Cf (b e.2) ?_;simp[e];exact a _ _ ⟨c,by simp[e],m⟩
def Fj{n:Nat}:C1 prog 110 (jO n) sB Fm.av:=(Ef n)
def FD:C1 prog 43 pH (t2 sB sI) Fm.av:=by
 intro T H a0 r hm;rw[pH] at hm;have e:=trivial;refine wi acR func43 [] [] 999 ?_;have⟨a,e,m⟩:=ep e hm;simp[e];refine Cf (oc e.2) ?_;rcases Io e m with⟨e,m⟩|⟨e,m⟩
 ·cases m;simp[e]
 have⟨b,e,m⟩:=ep e m;simp[e];refine Cf (Fj e.2) ?_;cases m;simp[e]
def yt:∀(n:Nat),C2 prog 86 (eK n) (t2 sX.av sI) ei.av Pf.av/\C2 prog 160 (eE n) (t3 Fm.av (sL sI) sI) ei.av Pf.av/\C2 prog 220 (kQ n) (t3 Fm.av (sL sI) sI) ei.av Pf.av/\C2 prog 221 (lA n) (t3 Fm.av (sL sI) sI) ei.av Pf.av/\C2 prog 222 (lz n) (t3 Fm.av (sL sI) sI) ei.av Pf.av/\C2 prog 223 (km n) (t3 Fm.av (sL sI) sI) ei.av Pf.av/\C2 prog 224 (nM n) (t3 Fm.av (sL sI) sI) ei.av Pf.av/\C2 prog 225 (mA n) (t3 Fm.av (sL sI) sI) ei.av Pf.av/\C2 prog 227 (mx n) (t3 Fm.av (sL sI) sI) ei.av Pf.av/\C2 prog 228 (lY n) (t3 Fm.av (sL sI) sI) ei.av Pf.av/\C4 prog 262 (fw n) (t2 (sL sI) sI) ei.av Pf.av Fm.av Tm.av:=by
  intro n
  induction n with
  |zero=>
    refine⟨?_,?_,?_,?_,?_,?_,?_,?_,?_,?_,?_⟩
    all_goals(intro _ _;intros;rename_i hm;cases hm)
  |succ n c=>
 refine⟨?_,?_,?_,?_,?_,?_,?_,?_,?_,?_,?_⟩
 ·intro T H a0 a1 r hm;rw[eK] at hm;have e:=trivial;refine wi acR func86 [] [] 7 ?_;have⟨x1,x2,x3,e,m⟩:=Le e hm;simp[e];refine Cf (c.2.1 e.2) ?_;simp[e];rcases Io e m with⟨e,m⟩|⟨e,m⟩
  ·apply wg 999;cases m;simp[e]
  apply wg 5;have⟨x4,e,m⟩:=ep e m;simp[e];refine Cf (oc e.2) ?_;simp[e];rcases Io e m with⟨e,m⟩|⟨e,m⟩
  ·apply wg 999;cases m;simp[e]
  apply wg 2;simp[e];refine Wj m 999 999 (λj5 f h=>∃(v6:List Int) (o:Tag),(h=H/\f.1 4=AV.eD 4 (f.gen 4) 0/\f.1 6=AV.eD 6 (f.gen 6) 0/\f.1 7=sT o sI v6/\f.box 4=some [sI 0,sI 0,AV.slice .full [],AV.slice .full [],AV.slice .full [],AV.slice .full []]/\f.box 6=some (Fm.av x1).cells)/\j5 v6=some r) (λj5 K7 X m=>?_) ?_;rotate_left
  ·rintro bU h9 ⟨v6,o,E,m⟩;have e:=Aj e E;cases m;simp[e]
  have⟨ao,Y,e,m⟩:=gr e m;simp[e];refine Cf (FD e.2) ?_;rcases Io e m with⟨e,m⟩|⟨e,m⟩
  ·simp[e];exact X _ _ ⟨x2,.iR,by simp[e],m⟩
  simp[e];exact X _ _ ⟨[],.full,by simp[e],m⟩
 ·intro T H a0 a1 r hm;rw[eE] at hm;have e:=trivial;refine wi acR func160 [] [] 10 ?_;simp[e];rcases Io e hm with⟨e,m⟩|⟨e,m⟩
  ·apply wg 999;rcases Io e m with⟨e,m⟩|⟨e,m⟩
   ·cases m;simp[e]
   have⟨bV,e,m⟩:=ep e m;cases m;simp[e]
  apply wg 3;simp[e];rcases Io e m with⟨e,m⟩|⟨e,m⟩
  ·apply wg 999;rcases Io e m with⟨e,m⟩|⟨e,m⟩
   ·cases m;simp[e]
   have⟨bW,e,m⟩:=ep e m;cases m;simp[e]
  apply wg 3;simp[e];rcases Io e m with⟨e,m⟩|⟨e,m⟩
  ·apply wg 999;have⟨bX,e,m⟩:=ep e m;have⟨bY,bZ,e,m⟩:=gr e m;simp[e];refine Cs (c.1 e.2) ?_;rcases Io e m with⟨e,m⟩|⟨e,m⟩
   ·cases m;simp[e]
   have⟨b0,e,m⟩:=ep e m;have⟨b1,b2,e,m⟩:=gr e m;simp[e];refine Cs (c.1 e.2) ?_;have⟨b3,e,m⟩:=ep e m;simp[e];refine Cs (wO e.2) ?_;have⟨b4,e,m⟩:=ep e m;simp[e];refine Cs (lK T e.2) ?_;cases m;simp[e]
  apply wg 1;simp[e];refine wj 999 0 (λf h=>h=H/\f.1 2=AV.eD 2 (f.gen 2) 0/\f.1 3=AV.eD 3 (f.gen 3) 0/\f.1 4=AV.eD 4 (f.gen 4) 0/\f.1 7=AV.eD 7 (f.gen 7) 0/\f.1 22=sI a1.acM/\f.1 93=sB (fW (eH a1.acM 4) true (eH a1.acM 5))/\f.box 2=some (ei.av a0).cells/\f.box 3=some (Pf.av a1).cells/\f.box 4=some [sI 0,sI 0,AV.slice .full [],AV.slice .full [],AV.slice .full []]/\f.box 7=some [sI 0,sI 0,AV.slice .full [],AV.slice .full [],AV.slice .full []]) (λb5 z=>?_) ?_
  ·rcases Pb (eH a1.acM 4) e with e|e
   ·simp[e];exact z _ _ (by simp[e])
   simp[e];exact z _ _ (by simp[e])
  rintro aB b6 E;have e:=Aj e E;rcases Io e m with⟨e,m⟩|⟨e,m⟩
  ·apply wg 999;have⟨b7,e,m⟩:=ep e m;have⟨b8,b9,e,m⟩:=gr e m;simp[e];refine Cs (c.1 e.2) ?_;rcases Io e m with⟨e,m⟩|⟨e,m⟩
   ·cases m;simp[e]
   rcases Io e m with⟨e,m⟩|⟨e,m⟩
   ·cases m;simp[e]
   have⟨b_,e,m⟩:=ep e m;cases m;simp[e]
  apply wg 3;simp[e];rcases Io e m with⟨e,m⟩|⟨e,m⟩
  ·apply wg 999;have⟨b',e,m⟩:=ep e m;have⟨ca,e,m⟩:=ep e m;simp[e];refine Cs (tJ e.2) ?_;rcases Io e m with⟨e,m⟩|⟨e,m⟩
   ·cases m;simp[e]
   have⟨cb,e,m⟩:=ep e m;simp[e];refine Cf (l0 e.2) ?_;rcases Io e m with⟨e,m⟩|⟨e,m⟩
   ·cases m;simp[e]
   have⟨cc,e,m⟩:=ep e m;simp[e];refine Cs (nZ e.2) ?_;have⟨cd,e,m⟩:=ep e m;have⟨cf,cg,e,m⟩:=gr e m;simp[e];refine Cs (c.1 e.2) ?_;have⟨ch,e,m⟩:=ep e m;simp[e];refine Cs (wO e.2) ?_;cases m;simp[e]
  apply wg 3;simp[e];rcases Io e m with⟨e,m⟩|⟨e,m⟩
  ·apply wg 999;have⟨cj,e,m⟩:=ep e m;have⟨ck,cm,e,m⟩:=gr e m;simp[e];refine Cs (c.1 e.2) ?_;rcases Io e m with⟨e,m⟩|⟨e,m⟩
   ·cases m;simp[e]
   rcases Io e m with⟨e,m⟩|⟨e,m⟩
   ·cases m;simp[e]
   have⟨cn,e,m⟩:=ep e m;have⟨cp,cq,e,m⟩:=gr e m;simp[e];refine Cs (c.1 e.2) ?_;rcases Io e m with⟨e,m⟩|⟨e,m⟩
   ·cases m;simp[e]
   have⟨cr,e,m⟩:=ep e m;have⟨cu,e,m⟩:=ep e m;simp[e];refine Cs (lK T e.2) ?_;have⟨cw,e,m⟩:=ep e m;have⟨cx,e,m⟩:=ep e m;simp[e];refine Cs (Bb e.2) ?_;cases m;simp[e]
  apply wg 1;simp[e];refine wj 999 0 (λf h=>h=H/\f.1 2=AV.eD 2 (f.gen 2) 0/\f.1 3=AV.eD 3 (f.gen 3) 0/\f.1 4=AV.eD 4 (f.gen 4) 0/\f.1 22=sI a1.acM/\f.1 218=sB (fW (eH a1.acM 8) true (eH a1.acM 12))/\f.box 2=some (ei.av a0).cells/\f.box 3=some (Pf.av a1).cells/\f.box 4=some [sI 0,sI 0,AV.slice .full [],AV.slice .full [],AV.slice .full []]) (λcy A=>?_) ?_
  ·rcases Pb (eH a1.acM 8) e with e|e
   ·simp[e];exact A _ _ (by simp[e])
   simp[e];exact A _ _ (by simp[e])
  rintro aC cz E;have e:=Aj e E;rcases Io e m with⟨e,m⟩|⟨e,m⟩
  ·apply wg 999;have⟨cA,cB,cD,e,m⟩:=Le e m;simp[e];refine Cf (c.2.2.1 e.2) ?_;cases m;simp[e]
  apply wg 1;simp[e];refine wj 999 0 (λf h=>h=H/\f.1 2=AV.eD 2 (f.gen 2) 0/\f.1 3=AV.eD 3 (f.gen 3) 0/\f.1 4=AV.eD 4 (f.gen 4) 0/\f.1 22=sI a1.acM/\f.1 227=sB (fW (eH a1.acM 9) true (eH a1.acM 13))/\f.box 2=some (ei.av a0).cells/\f.box 3=some (Pf.av a1).cells/\f.box 4=some [sI 0,sI 0,AV.slice .full [],AV.slice .full [],AV.slice .full []]) (λcE B=>?_) ?_
  ·rcases Pb (eH a1.acM 9) e with e|e
   ·simp[e];exact B _ _ (by simp[e])
   simp[e];exact B _ _ (by simp[e])
  rintro aD cF E;have e:=Aj e E;rcases Io e m with⟨e,m⟩|⟨e,m⟩
  ·apply wg 999;have⟨cG,cH,cI,e,m⟩:=Le e m;simp[e];refine Cf (c.2.2.2.1 e.2) ?_;cases m;simp[e]
  apply wg 1;simp[e];refine wj 999 0 (λf h=>h=H/\f.1 2=AV.eD 2 (f.gen 2) 0/\f.1 3=AV.eD 3 (f.gen 3) 0/\f.1 4=AV.eD 4 (f.gen 4) 0/\f.1 22=sI a1.acM/\f.1 236=sB (fW (eH a1.acM 10) true (eH a1.acM 14))/\f.box 2=some (ei.av a0).cells/\f.box 3=some (Pf.av a1).cells/\f.box 4=some [sI 0,sI 0,AV.slice .full [],AV.slice .full [],AV.slice .full []]) (λcJ C=>?_) ?_
  ·rcases Pb (eH a1.acM 10) e with e|e
   ·simp[e];exact C _ _ (by simp[e])
   simp[e];exact C _ _ (by simp[e])
  rintro aE cK E;have e:=Aj e E;rcases Io e m with⟨e,m⟩|⟨e,m⟩
  ·apply wg 999;have⟨cL,cM,cN,e,m⟩:=Le e m;simp[e];refine Cf (c.2.2.2.2.1 e.2) ?_;cases m;simp[e]
  apply wg 1;simp[e];refine wj 999 999 (λf h=>h=H/\f.1 2=AV.eD 2 (f.gen 2) 0/\f.1 3=AV.eD 3 (f.gen 3) 0/\f.1 4=AV.eD 4 (f.gen 4) 0/\f.1 22=sI a1.acM/\f.1 245=sB (fW (eH a1.acM 11) true (eH a1.acM 15))/\f.box 2=some (ei.av a0).cells/\f.box 3=some (Pf.av a1).cells/\f.box 4=some [sI 0,sI 0,AV.slice .full [],AV.slice .full [],AV.slice .full []]) (λcO F=>?_) ?_
  ·rcases Pb (eH a1.acM 11) e with e|e
   ·simp[e];exact F _ _ (by simp[e])
   simp[e];exact F _ _ (by simp[e])
  rintro aF cP E;have e:=Aj e E;rcases Io e m with⟨e,m⟩|⟨e,m⟩
  ·have⟨cQ,cR,cS,e,m⟩:=Le e m;simp[e];refine Cf (c.2.2.2.2.2.1 e.2) ?_;cases m;simp[e]
  rcases Io e m with⟨e,m⟩|⟨e,m⟩
  ·have⟨cT,cU,cV,e,m⟩:=Le e m;simp[e];refine Cf (c.2.2.2.2.2.2.1 e.2) ?_;cases m;simp[e]
  rcases Io e m with⟨e,m⟩|⟨e,m⟩
  ·have⟨cW,cX,cY,e,m⟩:=Le e m;simp[e];refine Cf (c.2.2.2.2.2.2.2.1 e.2) ?_;cases m;simp[e]
  rcases Io e m with⟨e,m⟩|⟨e,m⟩
  ·have⟨cZ,e,m⟩:=ep e m;have⟨c0,e,m⟩:=ep e m;simp[e];refine Cs (lE e.2) ?_;have⟨c1,e,m⟩:=ep e m;simp[e];refine Cs (pO e.2) ?_;cases m;simp[e]
  rcases Io e m with⟨e,m⟩|⟨e,m⟩
  ·have⟨c2,c4,c6,e,m⟩:=Le e m;simp[e];refine Cf (c.2.2.2.2.2.2.2.2.1 e.2) ?_;cases m;simp[e]
  have⟨c7,c8,c9,e,m⟩:=Le e m;simp[e];refine Cf (c.2.2.2.2.2.2.2.2.2.1 e.2) ?_;cases m;simp[e]
 ·intro T H a0 a1 r hm;rw[kQ] at hm;have e:=trivial;refine wi acR func220 [] [] 999 ?_;have⟨x3,e,m⟩:=ep e hm;simp[e];refine Cf (l0 e.2) ?_;rcases Io e m with⟨e,m⟩|⟨e,m⟩
  ·cases m;simp[e]
  have⟨aq,e,m⟩:=ep e m;simp[e];refine Cs (np e.2) ?_;have⟨Y,e,m⟩:=ep e m;have⟨c_,c',e,m⟩:=gr e m;simp[e];refine Cs (c.1 e.2) ?_;rcases Io e m with⟨e,m⟩|⟨e,m⟩
  ·cases m;simp[e]
  rcases Io e m with⟨e,m⟩|⟨e,m⟩
  ·have⟨Z,e,m⟩:=ep e m;simp[e];refine Cs (me e.2) ?_;have⟨U,e,m⟩:=ep e m;simp[e];refine Cs (pq e.2) ?_;cases m;simp[e]
  have⟨ar,e,m⟩:=ep e m;simp[e];refine Cf (Ey e.2) ?_;rcases Io e m with⟨e,m⟩|⟨e,m⟩
  ·cases m;simp[e]
  have⟨da,e,m⟩:=ep e m;simp[e];refine Cs (me e.2) ?_;have⟨V,e,m⟩:=ep e m;simp[e];refine Cs (pq e.2) ?_;cases m;simp[e]
 ·intro T H a0 a1 r hm;rw[lA] at hm;have e:=trivial;refine wi acR func221 [] [] 9 ?_;have⟨aa,e,m⟩:=ep e hm;have⟨au,db,e,m⟩:=gr e m;simp[e];refine Cf (vT e.2) ?_;simp[e];rcases Io e m with⟨e,m⟩|⟨e,m⟩
  ·apply wg 999;cases m;simp[e]
  apply wg 7;have⟨x6,e,m⟩:=ep e m;have⟨g,dc,e,m⟩:=gr e m;simp[e];refine Cs (c.1 e.2) ?_;simp[e];rcases Io e m with⟨e,m⟩|⟨e,m⟩
  ·apply wg 999;cases m;simp[e]
  apply wg 4;have⟨aw,e,m⟩:=ep e m;simp[e];refine Cs (uS e.2) ?_;have⟨G,e,m⟩:=ep e m;simp[e];refine Cs (lK T e.2) ?_;simp[e];refine wj 999 999 (λf h=>h=H/\f.1 4=AV.eD 4 (f.gen 4) 0/\f.1 7=AV.eD 7 (f.gen 7) 0/\f.1 8=AV.eD 8 (f.gen 8) 0/\f.1 10=AV.eD 10 (f.gen 10) 0/\f.1 11=sI (fW (eH a1.acM 13) 6 4)/\f.1 12=sL sI (fW (eH a1.acM 13) g.gP G)/\f.box 4=some [sI 0,sI 0,AV.slice .full [],AV.slice .full [],AV.slice .full []]/\f.box 7=some (Tm.av aa).cells/\f.box 8=some (Ty.av au).cells/\f.box 10=some [sI g.eh.acM,sI g.eh.dv.acM,sL Ty.av g.eh.dv.acN,sL Tm.av g.eh.ek,sL Fm.av g.eh.acN,sL sI g.gP]) (λaG p=>?_) ?_
  ·rcases Pb (eH a1.acM 13) e with e|e
   ·simp[e];exact p _ _ (by simp[e])
   simp[e];exact p _ _ (by simp[e])
  rintro ax aH E;have e:=Aj e E;rcases Io e m with⟨e,m⟩|⟨e,m⟩
  ·cases m;simp[e]
  have⟨aI,e,m⟩:=ep e m;simp[e];refine Cf (iw e.2) ?_;rcases Io e m with⟨e,m⟩|⟨e,m⟩;rotate_left
  ·cases m;simp[e]
  have⟨b,e,m⟩:=ep e m;have⟨ar,ab,e,m⟩:=gr e m;simp[e];refine Cs (rV e.2) ?_;cases m;simp[e]
 ·intro T H a0 a1 r hm;rw[lz] at hm;have e:=trivial;refine wi acR func222 [] [] 9 ?_;have⟨i,e,m⟩:=ep e hm;have⟨x4,e,m⟩:=ep e m;have⟨x7,e,m⟩:=ep e m;simp[e];refine Cf (tJ e.2) ?_;simp[e];rcases Io e m with⟨e,m⟩|⟨e,m⟩
  ·apply wg 999;cases m;simp[e]
  apply wg 4;simp[e];refine wj 999 3 (λf h=>h=H/\f.1 2=AV.eD 2 (f.gen 2) 0/\f.1 3=AV.eD 3 (f.gen 3) 0/\f.1 4=AV.eD 4 (f.gen 4) 0/\f.1 7=AV.eD 7 (f.gen 7) 0/\f.1 8=AV.eD 8 (f.gen 8) 0/\f.1 10=sI (fW (eH a1.acM 14) 7 5)/\f.box 2=some (ei.av a0).cells/\f.box 3=some (Pf.av a1).cells/\f.box 4=some [sI 0,sI 0,AV.slice .full [],AV.slice .full [],AV.slice .full []]/\f.box 7=some (Fm.av i).cells/\f.box 8=some (Tm.av x4).cells) (λK9 ad=>?_) ?_
  ·rcases Pb (eH a1.acM 14) e with e|e
   ·simp[e];exact ad _ _ (by simp[e])
   simp[e];exact ad _ _ (by simp[e])
  rintro dd h5 E;have e:=Aj e E;simp[e];rcases Io e m with⟨e,m⟩|⟨e,m⟩
  ·apply wg 999;cases m;simp[e]
  apply wg 7;have⟨ao,Y,e,m⟩:=gr e m;simp[e];refine Cf (vT e.2) ?_;simp[e];rcases Io e m with⟨e,m⟩|⟨e,m⟩
  ·apply wg 999;cases m;simp[e]
  apply wg 5;have⟨I,e,m⟩:=ep e m;simp[e];refine Cf (iw e.2) ?_;simp[e];rcases Io e m with⟨e,m⟩|⟨e,m⟩;rotate_left
  ·apply wg 999;cases m;simp[e]
  apply wg 4;have⟨q,e,m⟩:=ep e m;have⟨Z,e,m⟩:=ep e m;have⟨U,ae,e,m⟩:=gr e m;simp[e];refine Cs (c.2.2.2.2.2.2.2.2.2.2 e.2) ?_;simp[e];refine Wj m 999 999 (λJ f h=>∃(s:List Int),(h=H/\f.1 4=AV.eD 4 (f.gen 4) 0/\f.1 7=AV.eD 7 (f.gen 7) 0/\f.1 12=sI ae/\f.1 13=sL sI s/\f.box 4=some [sI 0,sI 0,AV.slice .full [],AV.slice .full [],AV.slice .full []]/\f.box 7=some (Fm.av i).cells)/\J s=some r) (λJ aJ K m=>?_) ?_;rotate_left
  ·rintro ay aK ⟨s,E,m⟩;have e:=Aj e E;cases m;simp[e]
  rcases Io e m with⟨e,m⟩|⟨e,m⟩;rotate_left
  ·simp[e];exact K _ _ ⟨U,by simp[e],m⟩
  have⟨aL,e,m⟩:=ep e m;simp[e];refine Cf (uS e.2) ?_;have⟨af,e,m⟩:=ep e m;simp[e];refine Cf (lK T e.2) ?_;simp[e];exact K _ _ ⟨af,by simp[e],m⟩
 ·intro T H a0 a1 r hm;rw[km] at hm;have e:=trivial;refine wi acR func223 [] [] 7 ?_;have⟨ah,e,m⟩:=ep e hm;have⟨a,L,e,m⟩:=gr e m;simp[e];refine Cs (c.1 e.2) ?_;simp[e];rcases Io e m with⟨e,m⟩|⟨e,m⟩
  ·apply wg 999;cases m;simp[e]
  apply wg 4;simp[e];refine wj 999 3 (λf h=>h=H/\f.1 2=AV.eD 2 (f.gen 2) 0/\f.1 3=AV.eD 3 (f.gen 3) 0/\f.1 4=AV.eD 4 (f.gen 4) 0/\f.1 7=AV.eD 7 (f.gen 7) 0/\f.1 9=sI (fW (eH a1.acM 15) 7 5)/\f.box 2=some (ei.av a0).cells/\f.box 3=some (Pf.av a1).cells/\f.box 4=some [sI 0,sI 0,AV.slice .full [],AV.slice .full [],AV.slice .full []]/\f.box 7=some [sI a.eh.acM,sI a.eh.dv.acM,sL Ty.av a.eh.dv.acN,sL Tm.av a.eh.ek,sL Fm.av a.eh.acN,sL sI a.gP]) (λaM t=>?_) ?_
  ·rcases Pb (eH a1.acM 15) e with e|e
   ·simp[e];exact t _ _ (by simp[e])
   simp[e];exact t _ _ (by simp[e])
  rintro de h7 E;have e:=Aj e E;simp[e];rcases Io e m with⟨e,m⟩|⟨e,m⟩
  ·apply wg 999;cases m;simp[e]
  apply wg 7;have⟨aq,e,m⟩:=ep e m;simp[e];refine Cf (l0 e.2) ?_;simp[e];rcases Io e m with⟨e,m⟩|⟨e,m⟩
  ·apply wg 999;cases m;simp[e]
  apply wg 7;have⟨Z,e,m⟩:=ep e m;simp[e];refine Cs (np e.2) ?_;have⟨U,e,m⟩:=ep e m;have⟨aN,e,m⟩:=ep e m;simp[e];refine Cs (nZ e.2) ?_;have⟨aO,e,m⟩:=ep e m;have⟨b,ai,e,m⟩:=gr e m;simp[e];refine Cs (c.1 e.2) ?_;simp[e];rcases Io e m with⟨e,m⟩|⟨e,m⟩
  ·apply wg 999;cases m;simp[e]
  apply wg 4;simp[e];refine Wj m 999 1 (λM f h=>∃(v124:Int) (j:Int) (k:List Ty) (v127:List Tm) (l:List Fm),(h=H/\f.1 4=AV.eD 4 (f.gen 4) 0/\f.1 7=AV.eD 7 (f.gen 7) 0/\f.1 9=sI (fW (eH a1.acM 15) 7 5)/\f.1 11=AV.eD 11 (f.gen 11) 0/\f.1 12=AV.eD 12 (f.gen 12) 0/\f.box 4=some [sI 0,sI 0,AV.slice .full [],AV.slice .full [],AV.slice .full []]/\f.box 7=some [sI a.eh.acM,sI a.eh.dv.acM,sL Ty.av a.eh.dv.acN,sL Tm.av a.eh.ek,sL Fm.av a.eh.acN,sL sI a.gP]/\f.box 11=some [sI b.eh.acM,sI b.eh.dv.acM,sL Ty.av b.eh.dv.acN,sL Tm.av b.eh.ek,sL Fm.av b.eh.acN,sL sI b.gP]/\f.box 12=some [sI v124,sI j,sL Ty.av k,sL Tm.av v127,sL Fm.av l])/\M v124 j k v127 l=some r) (λM aP u m=>?_) ?_
  ·have⟨aQ,e,m⟩:=ep e m;simp[e];refine Cf (EG e.2) ?_;rcases Io e m with⟨e,m⟩|⟨e,m⟩;rotate_left
   ·simp[e];exact u _ _ ⟨b.eh.acM,b.eh.dv.acM,b.eh.dv.acN,b.eh.ek,b.eh.acN,by simp[e],m⟩
   have⟨d,aR,e,m⟩:=gr e m;simp[e];refine Cf (G4 e.2) ?_;rcases Io e m with⟨e,m⟩|⟨e,m⟩
   ·cases m;simp[e]
   have⟨aS,e,m⟩:=ep e m;simp[e];refine Cf (EG e.2) ?_;rcases Io e m with⟨e,m⟩|⟨e,m⟩
   ·cases m;simp[e]
   simp[e];exact u _ _ ⟨d.acM,d.dv.acM,d.dv.acN,d.ek,d.acN,by simp[e],m⟩
  rintro az aT ⟨v124,j,k,v127,l,E,m⟩;have e:=Aj e E;simp[e];refine Wj m 999 999 (λN f h=>∃(v:Bool),(h=H/\f.1 4=AV.eD 4 (f.gen 4) 0/\f.1 7=AV.eD 7 (f.gen 7) 0/\f.1 11=AV.eD 11 (f.gen 11) 0/\f.1 12=AV.eD 12 (f.gen 12) 0/\f.1 87=sB v/\f.box 4=some [sI 0,sI 0,AV.slice .full [],AV.slice .full [],AV.slice .full []]/\f.box 7=some [sI a.eh.acM,sI a.eh.dv.acM,sL Ty.av a.eh.dv.acN,sL Tm.av a.eh.ek,sL Fm.av a.eh.acN,sL sI a.gP]/\f.box 11=some [sI b.eh.acM,sI b.eh.dv.acM,sL Ty.av b.eh.dv.acN,sL Tm.av b.eh.ek,sL Fm.av b.eh.acN,sL sI b.gP]/\f.box 12=some [sI v124,sI j,sL Ty.av k,sL Tm.av v127,sL Fm.av l])/\N v=some r) (λN aU w m=>?_) ?_
  ·rcases Io e m with⟨e,m⟩|⟨e,m⟩;rotate_left
   ·simp[e];exact w _ _ ⟨false,by simp[e],m⟩
   have⟨aj,e,m⟩:=ep e m;simp[e];refine Cf (Ey e.2) ?_;simp[e];exact w _ _ ⟨aj,by simp[e],m⟩
  rintro aA aV ⟨v,E,m⟩;have e:=Aj e E;rcases Io e m with⟨e,m⟩|⟨e,m⟩
  ·cases m;simp[e]
  have⟨aW,e,m⟩:=ep e m;simp[e];refine Cs (mr e.2) ?_;have⟨aX,e,m⟩:=ep e m;simp[e];refine Cs (pq e.2) ?_;have⟨aY,e,m⟩:=ep e m;simp[e];refine Cs (lK T e.2) ?_;cases m;simp[e]
 ·intro T H a0 a1 r hm;rw[nM] at hm;have e:=trivial;refine wi acR func224 [] [] 999 ?_;have⟨i,e,m⟩:=ep e hm;have⟨x4,e,m⟩:=ep e m;have⟨x,e,m⟩:=ep e m;simp[e];refine Cs (hR e.2) ?_;have⟨e,m⟩:=Ck e m;simp[e];refine Ad (f:=Ty.av) a0.acQ [x] (js.full (D:=[])) GM e.2 ?_;have⟨ak,e,m⟩:=ep e m;simp[e];refine Cs (tD e.2) ?_;rcases Io e m with⟨e,m⟩|⟨e,m⟩
  ·cases m;simp[e]
  have⟨q,e,m⟩:=ep e m;simp[e];refine Cf (pO e.2) ?_;rcases Io e m with⟨e,m⟩|⟨e,m⟩
  ·cases m;simp[e]
  have⟨O,e,m⟩:=ep e m;have⟨P,e,m⟩:=ep e m;simp[e];refine Cs (gB e.2) ?_;have⟨Q,V,e,m⟩:=gr e m;simp[e];refine Cs (c.2.2.2.2.2.2.2.2.2.2 e.2) ?_;rcases Io e m with⟨e,m⟩|⟨e,m⟩
  ·cases m;simp[e]
  have⟨R,e,m⟩:=ep e m;simp[e];refine Cf (l0 e.2) ?_;rcases Io e m with⟨e,m⟩|⟨e,m⟩
  ·cases m;simp[e]
  have⟨aZ,e,m⟩:=ep e m;simp[e];refine Cs (hR e.2) ?_;have⟨a6,e,m⟩:=ep e m;simp[e];refine Cs (np e.2) ?_;have⟨a7,e,m⟩:=ep e m;simp[e];refine Cs (nZ e.2) ?_;have⟨a8,e,m⟩:=ep e m;have⟨a_,e,m⟩:=ep e m;simp[e];refine Cs (mr e.2) ?_;have⟨a',e,m⟩:=ep e m;simp[e];refine Cs (fI e.2) ?_;have⟨ba,e,m⟩:=ep e m;simp[e];refine Cs (gB e.2) ?_;have⟨bb,bc,e,m⟩:=gr e m;simp[e];refine Cs (c.2.2.2.2.2.2.2.2.2.2 e.2) ?_;rcases Io e m with⟨e,m⟩|⟨e,m⟩
  ·cases m;simp[e]
  have⟨al,bd,e,m⟩:=gr e m;simp[e];refine Cf (rV e.2) ?_;have⟨bf,e,m⟩:=ep e m;simp[e];refine Cs (uS e.2) ?_;have⟨bg,e,m⟩:=ep e m;simp[e];refine Cs (lK T e.2) ?_;have⟨bh,e,m⟩:=ep e m;simp[e];refine Cs (pq e.2) ?_;have⟨bj,e,m⟩:=ep e m;simp[e];refine Cs (lK T e.2) ?_;cases m;simp[e]
 ·intro T H a0 a1 r hm;rw[mA] at hm;have e:=trivial;refine wi acR func225 [] [] 999 ?_;have⟨i,e,m⟩:=ep e hm;have⟨x4,e,m⟩:=ep e m;have⟨x,e,m⟩:=ep e m;simp[e];refine Cs (nW e.2) ?_;have⟨e,m⟩:=Ck e m;simp[e];refine Ad (f:=Ty.av) a0.acQ [x] (js.full (D:=[])) GM e.2 ?_;have⟨ak,e,m⟩:=ep e m;simp[e];refine Cs (tD e.2) ?_;rcases Io e m with⟨e,m⟩|⟨e,m⟩
  ·cases m;simp[e]
  have⟨q,e,m⟩:=ep e m;simp[e];refine Cf (pO e.2) ?_;rcases Io e m with⟨e,m⟩|⟨e,m⟩
  ·cases m;simp[e]
  have⟨O,e,m⟩:=ep e m;have⟨P,e,m⟩:=ep e m;simp[e];refine Cs (gB e.2) ?_;have⟨Q,V,e,m⟩:=gr e m;simp[e];refine Cs (c.2.2.2.2.2.2.2.2.2.2 e.2) ?_;rcases Io e m with⟨e,m⟩|⟨e,m⟩
  ·cases m;simp[e]
  have⟨R,e,m⟩:=ep e m;simp[e];refine Cf (l0 e.2) ?_;rcases Io e m with⟨e,m⟩|⟨e,m⟩
  ·cases m;simp[e]
  have⟨bk,e,m⟩:=ep e m;simp[e];refine Cs (hR e.2) ?_;have⟨al,e,m⟩:=ep e m;simp[e];refine Cs (nW e.2) ?_;have⟨bl,e,m⟩:=ep e m;simp[e];refine Cs (np e.2) ?_;have⟨bm,e,m⟩:=ep e m;simp[e];refine Cs (mr e.2) ?_;have⟨bn,e,m⟩:=ep e m;simp[e];refine Cs (nZ e.2) ?_;have⟨bo,e,m⟩:=ep e m;have⟨bp,e,m⟩:=ep e m;simp[e];refine Cs (mr e.2) ?_;have⟨bq,e,m⟩:=ep e m;simp[e];refine Cs (fI e.2) ?_;have⟨br,e,m⟩:=ep e m;simp[e];refine Cs (fI e.2) ?_;have⟨bs,e,m⟩:=ep e m;simp[e];refine Cs (gB e.2) ?_;have⟨bt,bu,e,m⟩:=gr e m;simp[e];refine Cs (c.2.2.2.2.2.2.2.2.2.2 e.2) ?_;rcases Io e m with⟨e,m⟩|⟨e,m⟩
  ·cases m;simp[e]
  have⟨bw,bx,e,m⟩:=gr e m;simp[e];refine Cf (rV e.2) ?_;have⟨bz,e,m⟩:=ep e m;simp[e];refine Cs (uS e.2) ?_;have⟨bA,e,m⟩:=ep e m;simp[e];refine Cs (lK T e.2) ?_;have⟨bB,e,m⟩:=ep e m;simp[e];refine Cs (pq e.2) ?_;have⟨bC,e,m⟩:=ep e m;simp[e];refine Cs (lK T e.2) ?_;cases m;simp[e]
 ·intro T H a0 a1 r hm;rw[mx] at hm;have e:=trivial;refine wi acR func227 [] [] 999 ?_;have⟨aa,e,m⟩:=ep e hm;have⟨I,e,m⟩:=ep e m;simp[e];refine Cs (hR e.2) ?_;have⟨e,m⟩:=Ck e m;simp[e];refine Ad (f:=Ty.av) a0.acQ [I] (js.full (D:=[])) GM e.2 ?_;have⟨aw,e,m⟩:=ep e m;simp[e];refine Cs (tD e.2) ?_;rcases Io e m with⟨e,m⟩|⟨e,m⟩
  ·cases m;simp[e]
  have⟨bD,e,m⟩:=ep e m;have⟨bE,q,e,m⟩:=gr e m;simp[e];refine Cs (c.1 e.2) ?_;rcases Io e m with⟨e,m⟩|⟨e,m⟩
  ·cases m;simp[e]
  rcases Io e m with⟨e,m⟩|⟨e,m⟩
  ·cases m;simp[e]
  have⟨O,e,m⟩:=ep e m;have⟨P,e,m⟩:=ep e m;have⟨Q,V,e,m⟩:=gr e m;simp[e];refine Cs (c.2.2.2.2.2.2.2.2.2.2 e.2) ?_;rcases Io e m with⟨e,m⟩|⟨e,m⟩
  ·cases m;simp[e]
  have⟨bF,e,m⟩:=ep e m;have⟨bG,bH,e,m⟩:=gr e m;simp[e];refine Cs (rV e.2) ?_;cases m;simp[e]
 ·intro T H a0 a1 r hm;rw[lY] at hm;have e:=trivial;refine wi acR func228 [] [] 7 ?_;have⟨ah,e,m⟩:=ep e hm;have⟨a,L,e,m⟩:=gr e m;simp[e];refine Cs (c.1 e.2) ?_;simp[e];rcases Io e m with⟨e,m⟩|⟨e,m⟩
  ·apply wg 999;cases m;simp[e]
  apply wg 3;simp[e];refine Wj m 999 999 (λS f h=>∃(W:Bool),(h=H/\f.1 4=AV.eD 4 (f.gen 4) 0/\f.1 7=AV.eD 7 (f.gen 7) 0/\f.1 38=sB W/\f.box 4=some [sI 0,sI 0,AV.slice .full [],AV.slice .full [],AV.slice .full []]/\f.box 7=some [sI a.eh.acM,sI a.eh.dv.acM,sL Ty.av a.eh.dv.acN,sL Tm.av a.eh.ek,sL Fm.av a.eh.acN,sL sI a.gP])/\S W=some r) (λS df y m=>?_) ?_
  ·rcases Io e m with⟨e,m⟩|⟨e,m⟩
   ·simp[e];exact y _ _ ⟨true,by simp[e],m⟩
   have⟨an,e,m⟩:=ep e m;simp[e];exact y _ _ ⟨(eW an.acM 5),by simp[e],m⟩
  rintro bI dg ⟨W,E,m⟩;have e:=Aj e E;rcases Io e m with⟨e,m⟩|⟨e,m⟩
  ·cases m;simp[e]
  have⟨G,e,m⟩:=ep e m;have⟨bJ,e,m⟩:=ep e m;simp[e];refine Cf (oK e.2) ?_;have⟨bK,e,m⟩:=ep e m;simp[e];refine Cf (pI e.2) ?_;rcases Io e m with⟨e,m⟩|⟨e,m⟩
  ·cases m;simp[e]
  have⟨bL,e,m⟩:=ep e m;have⟨ai,e,m⟩:=ep e m;simp[e];refine Cf (mr e.2) ?_;have⟨ab,e,m⟩:=ep e m;simp[e];refine Cf (fI e.2) ?_;have⟨bM,e,m⟩:=ep e m;simp[e];refine Cf (fI e.2) ?_;have⟨bN,e,m⟩:=ep e m;simp[e];refine Cf (gB e.2) ?_;have⟨bO,bP,e,m⟩:=gr e m;simp[e];refine Cf (rV e.2) ?_;have⟨bQ,e,m⟩:=ep e m;simp[e];refine Cs (me e.2) ?_;have⟨R,e,m⟩:=ep e m;simp[e];refine Cs (me e.2) ?_;cases m;simp[e]
 ·intro T H a0 a1 a2 a3 r hm;rw[fw] at hm;have e:=trivial;refine wi acR func262 [] [] 999 ?_;have⟨bR,x1,e,m⟩:=gr e hm;simp[e];refine Cf (c.1 e.2) ?_;rcases Io e m with⟨e,m⟩|⟨e,m⟩
  ·cases m;simp[e]
  have⟨bS,bT,e,m⟩:=gr e m;simp[e];refine Cf (rV e.2) ?_;rcases Io e m with⟨e,m⟩|⟨e,m⟩
  ·cases m;simp[e]
  have⟨L,e,m⟩:=ep e m;simp[e];refine Cs (Bb e.2) ?_;cases m;simp[e]
def yR{n:Nat}:C2 prog 86 (eK n) (t2 sX.av sI) ei.av Pf.av:=(yt n).1
def tH:C3 prog 24 lS (t2 sX.av sI) (sL Fm.av) Sq.av Pf.av:=by
 intro T H a0 a1 a2 r hm;rw[lS] at hm;have e:=trivial;refine wi acR func24 [] [] 999 ?_;have⟨b,e,m⟩:=ep e hm;simp[e];refine Cf (Fe e.2) ?_;rcases Io e m with⟨e,m⟩|⟨e,m⟩
 ·cases m;simp[e]
 have⟨c,e,m⟩:=ep e m;simp[e];refine Cf (Ba e.2) ?_;rcases Io e m with⟨e,m⟩|⟨e,m⟩
 ·cases m;simp[e]
 have⟨a,d,e,m⟩:=gr e m;simp[e];refine Cf (yR e.2) ?_;rcases Io e m with⟨e,m⟩|⟨e,m⟩
 ·cases m;simp[e]
 have⟨g,e,m⟩:=ep e m;simp[e];refine Cs (kS e.2) ?_;have⟨e,m⟩:=Ck e m;simp[e];refine Ad (f:=sI) [] a.gP (js.full (D:=[])) P6 e.2 ?_;cases m;simp[e]
def s6:C2 prog 67 qz Sq.av Sq.av (sL Ty.av):=by
 intro T H a0 a1 r hm;rw[qz] at hm;have e:=trivial;refine wi acR func67 [] [] 999 ?_;have⟨k,e,m⟩:=ep e hm;simp[e];refine Cf (oJ e.2) ?_;simp[e];refine Wr e m 999 (λj c f h=>∃(a:Tag),(h=H/\f.1 1=sL Ty.av a1/\f.1 4=AV.eD 4 (f.gen 4) 0/\f.1 5=AV.eD 5 (f.gen 5) 0/\f.1 14=sL Fm.av a0.acT/\f.1 15=sI (eN a0.acT)/\f.1 16=sI j/\f.box 4=some [AV.slice .full [],AV.slice .full []]/\f.box 5=some [sL Ty.av k,sT a Fm.av c])/\Ow f [27] a c) (by exact⟨.full,by simp[e],js.full⟩) (λc d l n E m=>?_) (λj o c d l n p q E e m z9 g=>?_)
 ·have⟨a,E,b⟩:=E;have e:=Aj e E;dsimp only[en]at m;cases m;simp[e]
 have⟨a,E,b⟩:=E;have e:=Aj e E;have⟨i,e,m⟩:=ep e m;simp[e];refine Cs (mr e.2) ?_;have⟨e,m⟩:=Ck e m;simp[e];refine Ad (f:=Fm.av) c [i] b Gq e.2 ?_;simp[e];cases m;exact g _ _ _ ⟨(.loc 27 (d.fP 27+1)),by simp[e],(On 27)⟩ z9
def yD:C3 prog 36 t_ Pf.av sI Tm.av Pf.av:=by
 intro T H a0 a1 a2 r hm;rw[t_] at hm;have e:=trivial;refine wi acR func36 [] [] 999 ?_;have⟨a,e,m⟩:=ep e hm;simp[e];refine Cf (nH e.2) ?_;have⟨b,e,m⟩:=ep e m;simp[e];refine Cf (mC e.2) ?_;have e:=Aj e (show AV.agg [sI a.acM,sI a.acP,sI a.dv.acM,sL Ty.av a.dv.acN,AV.slice .iR [Tm.av b],sL Fm.av a.fj,sL Pf.av a.acN]=Pf.av (Pf.mk a.acM a.acP a.dv [b] a.fj a.acN) by rw[Pf.fL];rfl);cases m;simp[e]
section
attribute [-simp] Go.nd.BQ
@[local simp] theorem aba(x:Fm):BQ prog 46 x.av 2=some (sL Tm.av x.ek):=by rw[Fm.gX];kernel_rfl
def ov:C1 prog 68 kg Tm.av Tm.av:=by
 intro T H a0 r hm;rw[kg] at hm;have e:=trivial;refine wi acR func68 [] [] 999 ?_;have⟨a,e,m⟩:=ep e hm;simp[e];refine Cf (lE e.2) ?_;have⟨b,e,m⟩:=ep e m;simp[e];refine Cf (mr e.2) ?_;have⟨c,e,m⟩:=ep e m;cases m;simp[e]
end
def tB:C4 prog 49 q_ Pf.av sI Fm.av Tm.av Pf.av:=by
 intro T H a0 a1 a2 a3 r hm;rw[q_] at hm;have e:=trivial;refine wi acR func49 [] [] 999 ?_;have⟨a,e,m⟩:=ep e hm;simp[e];refine Cf (yD e.2) ?_;have⟨b,e,m⟩:=ep e m;simp[e];refine Cf (kS e.2) ?_;have e:=Aj e (show AV.agg [sI a.acM,sI a.acP,sI a.dv.acM,sL Ty.av a.dv.acN,sL Tm.av a.ek,AV.slice .iR [Fm.av b],sL Pf.av a.acN]=Pf.av (Pf.mk a.acM a.acP a.dv a.ek [b] a.acN) by rw[Pf.fL];rfl);cases m;simp[e]
def F4(T:fh){H:eB}{a0:Int}{a1:Fm}{a2:Tm}{a3 a:Pf}{f0:Fm}(hm:sR a0 a1 a2 a3=some (a,f0)):e_ prog T 49 [sI a0,Fm.av a1,Tm.av a2,Pf.av a3] H (AV.agg [sI a.acM,sI a.acP,sI a.dv.acM,sL Ty.av a.dv.acN,sL Tm.av a.ek,AV.zo (List.length H) 0 1 1,sL Pf.av a.acN]) (H++[[sI f0.acM,sI f0.dv.acM,sL Ty.av f0.dv.acN,sL Tm.av f0.ek,sL Fm.av f0.acN]]):=by
 rw[sR] at hm;have e:=trivial;refine wi acR func49 [16] [] 999 ?_;have⟨b,e,m⟩:=ep e hm;simp[e];refine Cf (yD e.2) ?_;have⟨c,e,m⟩:=ep e m;simp[e];refine Cf (kS e.2) ?_;cases m;simp[e]
def Iw(T:fh){H:eB}{a0:eG}{a1:Sq}{a:Pf}{f0:Fm}{b:eG}{d:Nat}(c:H[d]?=some [sL sI a0.l,sI a0.r'])(hm:tZ a0 a1=some (a,f0,b)):e_ prog T 74 [AV.fT d 0,Sq.av a1] H (AV.agg [sI a.acM,sI a.acP,sI a.dv.acM,sL Ty.av a.dv.acN,sL Tm.av a.ek,AV.zo (List.length H) 0 1 1,sL Pf.av a.acN]) ((gC H d [sL sI b.l,sI b.r'])++[[sI f0.acM,sI f0.dv.acM,sL Ty.av f0.dv.acN,sL Tm.av f0.ek,sL Fm.av f0.acN]]):=by
 rw[tZ] at hm;have f:=gn c;refine fQ.Nq c ?_;have e:=f;refine wi acR func74 [] [] 999 ?_;have⟨h,e,m⟩:=ep e hm;simp[e];refine Cf (hR e.2) ?_;have⟨i,d3,e,m⟩:=gr e m;simp[e];refine Cf (ma T (by simp[e]) e.2) ?_;have⟨j,e,m⟩:=ep e m;simp[e];refine Cs (ov e.2) ?_;have⟨k,e,m⟩:=ep e m;simp[e];refine Cs (fI e.2) ?_;have⟨n,e,m⟩:=ep e m;simp[e];refine Cs (lE e.2) ?_;have⟨o,e,m⟩:=ep e m;simp[e];refine Cs (me e.2) ?_;have⟨p,e,m⟩:=ep e m;simp[e];refine Cs (kT e.2) ?_;have⟨q,g,e,m⟩:=gr e m;simp[e];refine Cs (F4 T e.2) ?_;cases m;simp[e]
def rK:C1 prog 57 mV Pf.av sI:=by
 intro T H a0 r hm;rw[mV] at hm;have e:=trivial;refine wi acR func57 [] [] 999 ?_;cases hm;simp[e]
def y8:C5 prog 70 s8 Pf.av sI Fm.av Tm.av Pf.av Pf.av:=by
 intro T H a0 a1 a2 a3 a4 r hm;rw[s8] at hm;have e:=trivial;refine wi acR func70 [] [] 999 ?_;have⟨a,e,m⟩:=ep e hm;simp[e];refine Cf (nH e.2) ?_;have⟨b,e,m⟩:=ep e m;simp[e];refine Cf (mC e.2) ?_;have⟨c,e,m⟩:=ep e m;simp[e];refine Cf (kS e.2) ?_;have e:=Aj e (show AV.agg [sI a.acM,sI a.acP,sI a.dv.acM,sL Ty.av a.dv.acN,AV.slice .iR [Tm.av b],AV.slice .iR [Fm.av c],sL Pf.av a.acN]=Pf.av (Pf.mk a.acM a.acP a.dv [b] [c] a.acN) by rw[Pf.fL];rfl);cases m;simp[e]
def Bv:C2 prog 234 vA Tm.av Tm.av sI:=by
 intro T H a0 a1 r hm;rw[vA] at hm;have e:=trivial;refine wi acR func234 [] [] 999 ?_;have⟨a,e,m⟩:=ep e hm;simp[e];refine Cf (BU e.2) ?_;cases m;simp[e]
def Bh:C3 prog 73 rI Pf.av Fm.av Pf.av Pf.av:=by
 intro T H a0 a1 a2 r hm;rw[rI] at hm;have e:=trivial;refine wi acR func73 [] [] 999 ?_;have⟨a,e,m⟩:=ep e hm;simp[e];refine Cf (nH e.2) ?_;have⟨b,e,m⟩:=ep e m;simp[e];refine Cf (kS e.2) ?_;have e:=Aj e (show AV.agg [sI a.acM,sI a.acP,sI a.dv.acM,sL Ty.av a.dv.acN,sL Tm.av a.ek,AV.slice .iR [Fm.av b],sL Pf.av a.acN]=Pf.av (Pf.mk a.acM a.acP a.dv a.ek [b] a.acN) by rw[Pf.fL];rfl);cases m;simp[e]
def Ka:C3 prog 180 ve Pf.av Tm.av Tm.av Pf.av:=by
 intro T H a0 a1 a2 r hm;rw[ve] at hm;have e:=trivial;refine wi acR func180 [] [] 999 ?_;have⟨b,e,m⟩:=ep e hm;simp[e];refine Cs (Bv e.2) ?_;have⟨c,e,m⟩:=ep e m;simp[e];refine Cs (Bv e.2) ?_;have⟨d,e,m⟩:=ep e m;simp[e];refine Cs (gB e.2) ?_;have⟨f,e,m⟩:=ep e m;simp[e];refine Cs (Bv e.2) ?_;have⟨g,e,m⟩:=ep e m;simp[e];refine Cs (fI e.2) ?_;have⟨h,e,m⟩:=ep e m;simp[e];refine Cs (gB e.2) ?_;have⟨i,e,m⟩:=ep e m;simp[e];refine Cs (lE e.2) ?_;have⟨j,e,m⟩:=ep e m;simp[e];refine Cs (gB e.2) ?_;have⟨k,e,m⟩:=ep e m;simp[e];refine Cs (kT e.2) ?_;have⟨a,e,m⟩:=ep e m;simp[e];refine Cs (Bh e.2) ?_;cases m;simp[e]
def G9:C3 prog 181 sJ sI (sL Tm.av) (sL Fm.av) (sL Pf.av):=by
 intro T H a0 a1 a2 r hm;rw[sJ] at hm;have e:=trivial;refine wi acR func181 [] [] 999 ?_;simp[e];refine Wr e hm 999 (λu s2 f h=>h=H/\f.1 1=sL Fm.av a1/\f.1 2=sL Pf.av a2/\f.1 16=sL Tm.av a0/\f.1 17=sI (eN a0)/\f.1 18=sI u) (by simp[e]) (λs2 n w x E m=>?_) (λu J s2 n w x n6 K E e m v o=>?_);rotate_left
 ·have e:=Aj e E;have⟨y,e,m⟩:=ep e m;simp[e];refine Cf (og e.2) ?_;rcases Io e m with⟨e,m⟩|⟨e,m⟩
  ·cases m;cases v;simp[e]
  simp[e];cases m;exact o _ _ _ (by simp[e]) v
 have e:=Aj e E;dsimp only[en]at m;simp[e];refine Wr e m 999 (λa b f h=>h=H/\f.1 2=sL Pf.av a2/\f.1 28=sL Fm.av a1/\f.1 29=sI (eN a1)/\f.1 30=sI a) (by simp[e]) (λb c p q E m=>?_) (λa z b c p q A B E e m d g=>?_);rotate_left
 ·have e:=Aj e E;have⟨C,e,m⟩:=ep e m;simp[e];refine Cf (oc e.2) ?_;rcases Io e m with⟨e,m⟩|⟨e,m⟩
  ·cases m;cases d;simp[e]
  simp[e];cases m;exact g _ _ _ (by simp[e]) d
 have e:=Aj e E;dsimp only[en]at m;simp[e];refine Wr e m 999 (λi j f h=>h=H/\f.1 40=sL Pf.av a2/\f.1 41=sI (eN a2)/\f.1 42=sI i) (by simp[e]) (λj k s t E m=>?_) (λi D j k s t F G E e m z28 l=>?_)
 ·have e:=Aj e E;dsimp only[en]at m;cases m;simp[e]
 have e:=Aj e E;have⟨I,e,m⟩:=ep e m;simp[e];refine Cf (Ba e.2) ?_;rcases Io e m with⟨e,m⟩|⟨e,m⟩
 ·cases m;cases z28;simp[e]
 simp[e];cases m;exact l _ _ _ (by simp[e]) z28
def IV:C2 prog 179 tX (t2 Pf.av sI) Pf.av sI:=by
 intro T H a0 a1 r hm;rw[tX] at hm;have e:=trivial;refine wi acR func179 [] [] 999 ?_;rcases Io e hm with⟨e,m⟩|⟨e,m⟩
 ·cases m;simp[e]
 have⟨a,e,m⟩:=ep e m;simp[e];refine Cf (CT e.2) ?_;rcases Io e m with⟨e,m⟩|⟨e,m⟩;rotate_left
 ·cases m;simp[e]
 have⟨b,e,m⟩:=ep e m;simp[e];refine Cf (Dl e.2) ?_;cases m;simp[e]
def KR:C4 prog 132 vk (t2 Pf.av sI) Tm.av Tm.av Tm.av Pf.av:=by
 intro T H a0 a1 a2 a3 r hm;rw[vk] at hm;have e:=trivial;refine wi acR func132 [] [] 999 ?_;have⟨a,e,m⟩:=ep e hm;simp[e];refine Cs (Ka e.2) ?_;have⟨b,e,m⟩:=ep e m;simp[e];refine Cs (G9 e.2) ?_;have⟨c,d,e,m⟩:=gr e m;simp[e];refine Cs (IV e.2) ?_;cases m;simp[e]
def ND:C1 prog 72 zJ Pf.av Tm.av:=by
 intro T H a0 r hm;rw[zJ] at hm;have e:=trivial;refine wi acR func72 [] [] 999 ?_;have⟨j,e,m⟩:=ep e hm;simp[e];refine Cf (Ci e.2) ?_;have⟨k,e,m⟩:=ep e m;simp[e];refine Cf (xx e.2) ?_;have⟨l,e,m⟩:=ep e m;simp[e];refine Cf (fI e.2) ?_;have⟨n,e,m⟩:=ep e m;simp[e];refine Cf (Gr e.2) ?_;have⟨o,e,m⟩:=ep e m;simp[e];refine Cs (fI e.2) ?_;have⟨p,e,m⟩:=ep e m;simp[e];refine Cs (lE e.2) ?_;have⟨q,e,m⟩:=ep e m;simp[e];refine Cs (hR e.2) ?_;have⟨s,e,m⟩:=ep e m;simp[e];refine Cs (fI e.2) ?_;have⟨t,e,m⟩:=ep e m;simp[e];refine Cs (gB e.2) ?_;have⟨a,e,m⟩:=ep e m;simp[e];refine Cs (mi e.2) ?_;have⟨b,e,m⟩:=ep e m;simp[e];refine Cs (fI e.2) ?_;have⟨c,e,m⟩:=ep e m;simp[e];refine Cs (rK e.2) ?_;have⟨d,f,e,m⟩:=gr e m;simp[e];refine Cs (KR e.2) ?_;have⟨g,e,m⟩:=ep e m;simp[e];refine Cs (xx e.2) ?_;have⟨h,e,m⟩:=ep e m;simp[e];refine Cs (kT e.2) ?_;have⟨i,e,m⟩:=ep e m;simp[e];refine Cs (y8 e.2) ?_;cases m;simp[e]
def Qr(T:fh){H:eB}{a0:eG}{a1:Sq}{f:Pf}{a:eG}{c:Nat}(b:H[c]?=some [sL sI a0.l,sI a0.r'])(hm:CU a0 a1=some (f,a)):e_ prog T 74 [AV.fT c 0,Sq.av a1] H (Pf.av f) (gC H c [sL sI a.l,sI a.r']):=by
 rw[CU] at hm;have d:=gn b;refine fQ.Nq b ?_;have e:=d;refine wi acR func74 [] [] 999 ?_;have⟨g,e,m⟩:=ep e hm;simp[e];refine Cf (hR e.2) ?_;have⟨h,d3,e,m⟩:=gr e m;simp[e];refine Cf (ma T (by simp[e]) e.2) ?_;have⟨i,e,m⟩:=ep e m;simp[e];refine Cs (ov e.2) ?_;have⟨j,e,m⟩:=ep e m;simp[e];refine Cs (fI e.2) ?_;have⟨k,e,m⟩:=ep e m;simp[e];refine Cs (lE e.2) ?_;have⟨n,e,m⟩:=ep e m;simp[e];refine Cs (me e.2) ?_;have⟨o,e,m⟩:=ep e m;simp[e];refine Cs (kT e.2) ?_;have⟨p,e,m⟩:=ep e m;simp[e];refine Cs (tB e.2) ?_;cases m;simp[e]
def MO(T:fh):∀(n:Nat),(∀{H:eB} {a0:eG} {a1:List Fm} {a2:Sq} {a3:Int} {u:Pf} {c:eG} {k:Nat} (q:H[k]?=some [sL sI a0.l,sI a0.r']) (hm:jn n a0 a1 a2 a3=some (u,c)),e_ prog T 19 [AV.fT k 0,sL Fm.av a1,Sq.av a2,sI a3] H (Pf.av u) (gC H k [sL sI c.l,sI c.r']))/\(∀{H:eB} {a0:eG} {a1:List Fm} {a2:Sq} {a3:Int} {u:Pf} {c:eG} {k:Nat} (q:H[k]?=some [sL sI a0.l,sI a0.r']) (hm:xP n a0 a1 a2 a3=some (u,c)),e_ prog T 69 [AV.fT k 0,sL Fm.av a1,Sq.av a2,sI a3] H (Pf.av u) (gC H k [sL sI c.l,sI c.r'])):=by
  intro n
  induction n with
  |zero=>
    refine⟨?_,?_⟩
    all_goals(intro _ _;intros;rename_i hm;cases hm)
  |succ n p=>
 refine⟨?_,?_⟩
 ·intro H a0 a1 a2 a3 u c k q hm;rw[jn] at hm;have J:=gn q;refine fQ.Nq q ?_;have e:=J;refine wi acR func19 [] [] 4 ?_;have⟨Q,e,m⟩:=ep e hm;simp[e];refine Cf (hR e.2) ?_;simp[e];refine Wj m 0 0 (λZ f h=>∃(v3:eG),(h=gC H k [sL sI v3.l,sI v3.r']/\f.1 0=AV.fT k 0/\f.1 1=sL Fm.av a1/\f.1 6=AV.eD 6 (f.gen 6) 0/\f.1 8=AV.eD 8 (f.gen 8) 0/\f.1 9=AV.eD 9 (f.gen 9) 0/\f.box 6=some (Sq.av a2).cells/\f.box 8=some [sI 0,sI 0,sI 0,AV.slice .full [],AV.slice .full [],AV.slice .full [],AV.slice .full []]/\f.box 9=some (Ty.av Q).cells)/\Z v3=some (u,c)) (λZ K4 t m=>?_) ?_;rotate_left
  ·rintro bm h6 ⟨v3,E,m⟩;have e:=Aj e E;refine Wj m 999 999 (λj7 f h=>∃(P:eG),(h=gC H k [sL sI P.l,sI P.r']/\f.1 0=AV.fT k 0/\f.1 6=AV.eD 6 (f.gen 6) 0/\f.1 8=AV.eD 8 (f.gen 8) 0/\f.1 9=AV.eD 9 (f.gen 9) 0/\f.box 6=some (Sq.av a2).cells/\f.box 8=some [sI 0,sI 0,sI 0,AV.slice .full [],AV.slice .full [],AV.slice .full [],AV.slice .full []]/\f.box 9=some (Ty.av Q).cells)/\j7 P=some (u,c)) (λj7 K9 v m=>?_) ?_;rotate_left
   ·rintro aa bn ⟨P,E,m⟩;have e:=Aj e E;have⟨bo,d13,e,m⟩:=gr e m;simp[e];refine Cf (ma T (by simp[e]) e.2) ?_;have⟨bp,e,m⟩:=ep e m;simp[e];refine Cf (kT e.2) ?_;cases m;simp[e]
   have⟨bq,d16,e,m⟩:=gr e m;simp[e];refine Cf (gv T (by simp[e]) e.2) ?_;rcases Io e m with⟨e,m⟩|⟨e,m⟩
   ·rcases Io e m with⟨e,m⟩|⟨e,m⟩;rotate_left
    ·simp[e];exact v _ _ ⟨d16,by simp[e],m⟩
    have⟨br,d18,e,m⟩:=gr e m;simp[e];refine Cf (gv T (by simp[e]) e.2) ?_;have⟨bs,e,m⟩:=ep e m;simp[e];refine Cf (rK e.2) ?_;cases m;simp[e]
   rcases Io e m with⟨e,m⟩|⟨e,m⟩;rotate_left
   ·simp[e];exact v _ _ ⟨d16,by simp[e],m⟩
   rcases Io e m with⟨e,m⟩|⟨e,m⟩;rotate_left
   ·simp[e];exact v _ _ ⟨d16,by simp[e],m⟩
   have⟨bt,d21,e,m⟩:=gr e m;simp[e];refine Cf (gv T (by simp[e]) e.2) ?_;cases m;simp[e]
  refine wj 999 999 (λf h=>h=gC H k [sL sI a0.l,sI a0.r']/\f.1 0=AV.fT k 0/\f.1 1=sL Fm.av a1/\f.1 3=sI a3/\f.1 6=AV.eD 6 (f.gen 6) 0/\f.1 8=AV.eD 8 (f.gen 8) 0/\f.1 9=AV.eD 9 (f.gen 9) 0/\f.1 50=sB (fW (pc a3 0) (fW (uX (eN a2.acQ) 10) (uX (eN a2.acT) 10) false) false)/\f.box 6=some (Sq.av a2).cells/\f.box 8=some [sI 0,sI 0,sI 0,AV.slice .full [],AV.slice .full [],AV.slice .full [],AV.slice .full []]/\f.box 9=some (Ty.av Q).cells) (λbu w=>?_) ?_
  ·rcases Pb (pc a3 0) e with e|e;rotate_left
   ·simp[e];exact w _ _ (by simp[e])
   rcases Pb (uX (eN a2.acQ) 10) e with e|e
   ·simp[e];exact w _ _ (by simp[e])
   simp[e];exact w _ _ (by simp[e])
  rintro ab bw E;have e:=Aj e E;rcases Io e m with⟨e,m⟩|⟨e,m⟩;rotate_left
  ·simp[e];exact t _ _ ⟨a0,by simp[e],m⟩
  have⟨bx,d26,e,m⟩:=gr e m;simp[e];refine Cf (gv T (by simp[e]) e.2) ?_;rcases Io e m with⟨e,m⟩|⟨e,m⟩
  ·have⟨bz,d28,e,m⟩:=gr e m;simp[e];refine Cs (p.1 (by simp[e]) e.2) ?_;have⟨bA,d30,e,m⟩:=gr e m;simp[e];refine Cs (p.1 (by simp[e]) e.2) ?_;have⟨bB,e,m⟩:=ep e m;simp[e];refine Cs (nH e.2) ?_;cases m;simp[e]
  rcases Io e m with⟨e,m⟩|⟨e,m⟩
  ·have⟨bC,d33,e,m⟩:=gr e m;simp[e];refine Cs (gv T (by simp[e]) e.2) ?_;have⟨bD,d35,e,m⟩:=gr e m;simp[e];refine Cs (p.1 (by simp[e]) e.2) ?_;have⟨bE,d37,e,m⟩:=gr e m;simp[e];refine Cs (p.1 (by simp[e]) e.2) ?_;have⟨bF,e,m⟩:=ep e m;simp[e];refine Cs (nH e.2) ?_;have⟨bG,e,m⟩:=ep e m;simp[e];refine Cs (nH e.2) ?_;cases m;simp[e]
  rcases Io e m with⟨e,m⟩|⟨e,m⟩
  ·have⟨bH,d41,e,m⟩:=gr e m;simp[e];refine Cf (Ko T (by simp[e]) e.2) ?_;have⟨bI,e,m⟩:=ep e m;simp[e];refine Cs (DX e.2) ?_;have⟨bJ,d44,e,m⟩:=gr e m;simp[e];refine Cs (p.1 (by simp[e]) e.2) ?_;have⟨bK,e,m⟩:=ep e m;simp[e];refine Cs (EI e.2) ?_;cases m;simp[e]
  rcases Io e m with⟨e,m⟩|⟨e,m⟩
  ·have⟨bL,d47,e,m⟩:=gr e m;simp[e];refine Cf (p.1 (by simp[e]) e.2) ?_;have⟨bM,bN,e,m⟩:=gr e m;simp[e];refine Cf (tH e.2) ?_;rcases Io e m with⟨e,m⟩|⟨e,m⟩;rotate_left
   ·simp[e];exact t _ _ ⟨d47,by simp[e],m⟩
   have⟨bO,e,m⟩:=ep e m;simp[e];refine Cs (DX e.2) ?_;have⟨bP,d52,e,m⟩:=gr e m;simp[e];refine Cs (p.1 (by simp[e]) e.2) ?_;have⟨bQ,e,m⟩:=ep e m;simp[e];refine Cs (EI e.2) ?_;have⟨bR,e,m⟩:=ep e m;simp[e];refine Cs (nH e.2) ?_;cases m;simp[e]
  rcases Io e m with⟨e,m⟩|⟨e,m⟩
  ·have⟨bS,d56,e,m⟩:=gr e m;simp[e];refine Cf (nD T (by simp[e]) e.2) ?_;have⟨bT,e,m⟩:=ep e m;simp[e];refine Cs (s6 e.2) ?_;have⟨bU,d59,e,m⟩:=gr e m;simp[e];refine Cs (p.1 (by simp[e]) e.2) ?_;have⟨bV,e,m⟩:=ep e m;simp[e];refine Cs (oL e.2) ?_;cases m;simp[e]
  rcases Io e m with⟨e,m⟩|⟨e,m⟩
  ·have⟨bW,d62,e,m⟩:=gr e m;simp[e];refine Cf (nD T (by simp[e]) e.2) ?_;have⟨bX,d64,e,m⟩:=gr e m;simp[e];refine Cs (ma T (by simp[e]) e.2) ?_;have⟨bY,e,m⟩:=ep e m;simp[e];refine Cs (s6 e.2) ?_;have⟨bZ,d67,e,m⟩:=gr e m;simp[e];refine Cs (p.1 (by simp[e]) e.2) ?_;have⟨b0,e,m⟩:=ep e m;simp[e];refine Cs (oL e.2) ?_;have⟨b1,e,m⟩:=ep e m;simp[e];refine Cs (yD e.2) ?_;cases m;simp[e]
  rcases Io e m with⟨e,m⟩|⟨e,m⟩
  ·have⟨b2,d71,e,m⟩:=gr e m;simp[e];refine Cf (ma T (by simp[e]) e.2) ?_;have⟨b3,d73,e,m⟩:=gr e m;simp[e];refine Cf (gv T (by simp[e]) e.2) ?_;have⟨R,M,m⟩:=mu m;have e:=Aj e (show[sI 5,sI 7]=List.map sI R by rw[M];rfl);have⟨b4,e,m⟩:=ep e m;have⟨b5,e,m⟩:=ep e m;simp[e];refine Cs (ov e.2) ?_;have⟨b6,e,m⟩:=ep e m;simp[e];refine Cs (fI e.2) ?_;have⟨b7,e,m⟩:=ep e m;simp[e];refine Cs (lE e.2) ?_;have⟨b8,e,m⟩:=ep e m;simp[e];refine Cs (me e.2) ?_;have⟨S,N,m⟩:=mu m;have e:=Aj e (show[sI 10,sI 14]=List.map sI S by rw[N];rfl);have⟨b9,e,m⟩:=ep e m;have⟨b_,e,m⟩:=ep e m;simp[e];refine Cs (kT e.2) ?_;have⟨b',e,m⟩:=ep e m;simp[e];refine Cs (tB e.2) ?_;cases m;simp[e]
  rcases Io e m with⟨e,m⟩|⟨e,m⟩
  ·have⟨ca,d87,e,m⟩:=gr e m;simp[e];refine Cf (p.1 (by simp[e]) e.2) ?_;have⟨cb,cc,e,m⟩:=gr e m;simp[e];refine Cf (tH e.2) ?_;rcases Io e m with⟨e,m⟩|⟨e,m⟩;rotate_left
   ·simp[e];exact t _ _ ⟨d87,by simp[e],m⟩
   have⟨cd,d91,e,m⟩:=gr e m;simp[e];refine Cf (nD T (by simp[e]) e.2) ?_;have⟨cf,d93,e,m⟩:=gr e m;simp[e];refine Cf (gv T (by simp[e]) e.2) ?_;have⟨U,O,m⟩:=mu m;have e:=Aj e (show[sI 5,sI 7]=List.map sI U by rw[O];rfl);have⟨cg,e,m⟩:=ep e m;have⟨ch,e,m⟩:=ep e m;simp[e];refine Cs (mr e.2) ?_;have⟨cj,e,m⟩:=ep e m;simp[e];refine Cs (me e.2) ?_;have⟨V,L,m⟩:=mu m;have e:=Aj e (show[sI 10,sI 14]=List.map sI V by rw[L];rfl);have⟨ad,e,m⟩:=ep e m;have⟨ae,d103,e,m⟩:=gr e m;simp[e];refine Cs (ma T (by simp[e]) e.2) ?_;have⟨af,e,m⟩:=ep e m;simp[e];refine Cs (tB e.2) ?_;cases m;simp[e]
  rcases Io e m with⟨e,m⟩|⟨e,m⟩
  ·have⟨ah,d106,e,m⟩:=gr e m;simp[e];refine Cf (p.2 (by simp[e]) e.2) ?_;cases m;simp[e]
  rcases Io e m with⟨e,m⟩|⟨e,m⟩
  ·have⟨ai,d108,e,m⟩:=gr e m;simp[e];refine Cf (p.1 (by simp[e]) e.2) ?_;have⟨aj,ak,e,m⟩:=gr e m;simp[e];refine Cf (tH e.2) ?_;rcases Io e m with⟨e,m⟩|⟨e,m⟩;rotate_left
   ·simp[e];exact t _ _ ⟨d108,by simp[e],m⟩
   have⟨al,e,m⟩:=ep e m;simp[e];refine Cs (mr e.2) ?_;have⟨an,d113,e,m⟩:=gr e m;simp[e];refine Cs (ma T (by simp[e]) e.2) ?_;have⟨ao,e,m⟩:=ep e m;simp[e];refine Cs (rK e.2) ?_;have⟨aq,e,m⟩:=ep e m;simp[e];refine Cs (y8 e.2) ?_;cases m;simp[e]
  rcases Io e m with⟨e,m⟩|⟨e,m⟩
  ·have⟨ar,d117,e,m⟩:=gr e m;simp[e];refine Cf (p.1 (by simp[e]) e.2) ?_;have⟨au,aw,e,m⟩:=gr e m;simp[e];refine Cf (tH e.2) ?_;rcases Io e m with⟨e,m⟩|⟨e,m⟩;rotate_left
   ·simp[e];exact t _ _ ⟨d117,by simp[e],m⟩
   have⟨ax,e,m⟩:=ep e m;simp[e];refine Cs (mr e.2) ?_;have⟨ay,e,m⟩:=ep e m;simp[e];refine Cs (nW e.2) ?_;have⟨az,d123,e,m⟩:=gr e m;simp[e];refine Cs (ma T (by simp[e]) e.2) ?_;have⟨aA,e,m⟩:=ep e m;simp[e];refine Cs (rK e.2) ?_;have⟨aB,e,m⟩:=ep e m;simp[e];refine Cs (y8 e.2) ?_;cases m;simp[e]
  rcases Io e m with⟨e,m⟩|⟨e,m⟩
  ·have⟨aC,d127,e,m⟩:=gr e m;simp[e];refine Cf (ma T (by simp[e]) e.2) ?_;have⟨aD,e,m⟩:=ep e m;simp[e];refine Cf (ND e.2) ?_;cases m;simp[e]
  rcases Io e m with⟨e,m⟩|⟨e,m⟩
  ·have⟨aE,d130,e,m⟩:=gr e m;simp[e];refine Cs (ma T (by simp[e]) e.2) ?_;have⟨aF,d132,e,m⟩:=gr e m;simp[e];refine Cs (ma T (by simp[e]) e.2) ?_;have⟨aG,e,m⟩:=ep e m;simp[e];refine Cs (ov e.2) ?_;have⟨aH,e,m⟩:=ep e m;simp[e];refine Cs (ov e.2) ?_;have⟨aI,e,m⟩:=ep e m;simp[e];refine Cs (lE e.2) ?_;have⟨aJ,e,m⟩:=ep e m;simp[e];refine Cs (kT e.2) ?_;have⟨aK,e,m⟩:=ep e m;simp[e];refine Cs (kT e.2) ?_;have⟨aL,e,m⟩:=ep e m;simp[e];refine Cs (Bh e.2) ?_;cases m;simp[e]
  rcases Io e m with⟨e,m⟩|⟨e,m⟩
  ·have⟨aM,d140,e,m⟩:=gr e m;simp[e];refine Cf (nD T (by simp[e]) e.2) ?_;have⟨aN,e,m⟩:=ep e m;simp[e];refine Cs (s6 e.2) ?_;have⟨aO,d143,e,m⟩:=gr e m;simp[e];refine Cs (Qr T (by simp[e]) e.2) ?_;have⟨aP,e,m⟩:=ep e m;simp[e];refine Cs (oL e.2) ?_;have⟨aQ,e,m⟩:=ep e m;simp[e];refine Cs (nH e.2) ?_;cases m;simp[e]
  rcases Io e m with⟨e,m⟩|⟨e,m⟩
  ·have⟨aR,d147,e,m⟩:=gr e m;simp[e];refine Cf (nD T (by simp[e]) e.2) ?_;have⟨aS,e,m⟩:=ep e m;simp[e];refine Cs (s6 e.2) ?_;have⟨aT,d150,e,m⟩:=gr e m;simp[e];refine Cs (p.1 (by simp[e]) e.2) ?_;have⟨aU,e,m⟩:=ep e m;simp[e];refine Cs (oL e.2) ?_;cases m;simp[e]
  rcases Io e m with⟨e,m⟩|⟨e,m⟩;rotate_left
  ·simp[e];exact t _ _ ⟨d26,by simp[e],m⟩
  have⟨aV,d153,e,m⟩:=gr e m;simp[e];refine Cf (nD T (by simp[e]) e.2) ?_;have⟨aW,d155,e,m⟩:=gr e m;simp[e];refine Cs (ma T (by simp[e]) e.2) ?_;have⟨aX,e,m⟩:=ep e m;simp[e];refine Cs (s6 e.2) ?_;have⟨aY,d158,e,m⟩:=gr e m;simp[e];refine Cs (p.1 (by simp[e]) e.2) ?_;have⟨aZ,e,m⟩:=ep e m;simp[e];refine Cs (oL e.2) ?_;have⟨a6,e,m⟩:=ep e m;simp[e];refine Cs (yD e.2) ?_;cases m;simp[e]
 ·intro H a0 a1 a2 a3 u c k q hm;rw[xP] at hm;have J:=gn q;refine fQ.Wi (Post:=λx K=>x=Pf.av u/\∃X,K=(gC H k [sL sI c.l,sI c.r'])++X) ?_ (λ_ _ h=>⟨_,h.2.choose,h.2.choose_spec,by simp,by rw[h.1];simp[AV.low,AV.jj],λcs h=>by rcases SI h with h|h<;>first|exact .inl h|(rw[h];simp[AV.low,AV.jj]),h.1,rfl⟩);refine fQ.Nq q ?_;have e:=J;refine wi acR func69 [] [] 6 ?_;have⟨a,b,d163,e,m⟩:=Le e hm;simp[e];refine Cf (Iw T (by simp[e]) e.2) ?_;simp[e];refine Wj m 999 4 (λG f h=>∃(r:Int) (g:Int) (v167:eG) (v168:Int),(h=(gC H k [sL sI v167.l,sI v167.r'])++[[sI v168,sI b.dv.acM,sL Ty.av b.dv.acN,sL Tm.av b.ek,sL Fm.av b.acN]]/\f.1 0=AV.fT k 0/\f.1 1=sL Fm.av a1/\f.1 3=sI a3/\f.1 6=AV.eD 6 (f.gen 6) 0/\f.1 8=AV.eD 8 (f.gen 8) 0/\f.1 9=AV.eD 9 (f.gen 9) 0/\f.1 10=sI r/\f.box 6=some (Sq.av a2).cells/\f.box 8=some [sI 0,sI 0,sI 0,AV.slice .full [],AV.slice .full [],AV.slice .full [],AV.slice .full []]/\f.box 9=some [sI g,sI a.acP,sI a.dv.acM,sL Ty.av a.dv.acN,sL Tm.av a.ek,AV.zo (List.length H) 0 1 1,sL Pf.av a.acN])/\G r g v167 v168=some (u,c)) (λG a7 y m=>?_) ?_
  ·have⟨a8,d172,e,m⟩:=gr e m;simp[e];refine Cf (gv T (by simp[e]) e.2) ?_;rcases Io e m with⟨e,m⟩|⟨e,m⟩
   ·simp[e];exact y _ _ ⟨15,14,d172,7,by simp[e],m⟩
   simp[e];exact y _ _ ⟨11,a.acM,d172,b.acM,by simp[e],m⟩
  rintro W a_ ⟨r,g,v167,v168,E,m⟩;have e:=Aj e E;have⟨a',e,m⟩:=ep e m;have⟨ba,e,m⟩:=ep e m;simp[e];refine Cs (hR e.2) ?_;have⟨bb,e,m⟩:=ep e m;simp[e];refine Cs (s6 e.2) ?_;have⟨bc,e,m⟩:=ep e m;simp[e];refine Cs (DX e.2) ?_;have⟨i,d179,e,m⟩:=gr e m;simp[e];refine Cs (p.1 (by simp[e]) e.2) ?_;simp[e];refine Wj m 999 1 (λI f h=>∃(z:Int) (v182:Int) (v183:Int) (A:List Ty) (B:List Tm) (C:List Fm) (D:List Pf) (s:eG),(h=(gC H k [sL sI s.l,sI s.r'])++[[sI v168,sI b.dv.acM,sL Ty.av b.dv.acN,sL Tm.av b.ek,sL Fm.av b.acN]]/\f.1 8=AV.eD 8 (f.gen 8) 0/\f.1 9=AV.eD 9 (f.gen 9) 0/\f.1 10=sI r/\f.1 12=AV.eD 12 (f.gen 12) 0/\f.box 8=some [sI 0,sI 0,sI 0,AV.slice .full [],AV.slice .full [],AV.slice .full [],AV.slice .full []]/\f.box 9=some [sI g,sI a.acP,sI a.dv.acM,sL Ty.av a.dv.acN,sL Tm.av a.ek,AV.zo (List.length H) 0 1 1,sL Pf.av a.acN]/\f.box 12=some [sI z,sI v182,sI v183,sL Ty.av A,sL Tm.av B,sL Fm.av C,sL Pf.av D])/\I z v182 v183 A B C D s=some (u,c)) (λI bd F m=>?_) ?_
  ·have⟨bf,d192,e,m⟩:=gr e m;simp[e];refine Cf (gv T (by simp[e]) e.2) ?_;rcases Io e m with⟨e,m⟩|⟨e,m⟩;rotate_left
   ·simp[e];exact F _ _ ⟨i.acM,i.acP,i.dv.acM,i.dv.acN,i.ek,i.fj,i.acN,d192,by simp[e],m⟩
   have⟨bg,e,m⟩:=ep e m;simp[e];refine Cf (mr e.2) ?_;have⟨bh,e,m⟩:=ep e m;simp[e];refine Cs (fI e.2) ?_;have⟨bj,e,m⟩:=ep e m;simp[e];refine Cs (rK e.2) ?_;have⟨j,e,m⟩:=ep e m;simp[e];refine Cs (tB e.2) ?_;simp[e];exact F _ _ ⟨j.acM,j.acP,j.dv.acM,j.dv.acN,j.ek,j.fj,j.acN,d192,by simp[e],m⟩
  rintro Y bk ⟨z,v182,v183,A,B,C,D,s,E,m⟩;have e:=Aj e E;simp[e];refine Z7 999 (o:=(List.length H)) (d:=9) (pre:=[sI g,sI a.acP,sI a.dv.acM,sL Ty.av a.dv.acN,sL Tm.av a.ek]) (post:=[sL Pf.av a.acN]) (x:=Fm.av (Fm.mk v168 b.dv b.ek b.acN)) (by simp[e]) (by simp[e]) (by simp) (by simp;rfl) ?_;have e:=Aj e (show AV.agg [sI g,sI a.acP,sI a.dv.acM,sL Ty.av a.dv.acN,sL Tm.av a.ek,AV.slice .iR [Fm.av (Fm.mk v168 b.dv b.ek b.acN)],sL Pf.av a.acN]=Pf.av (Pf.mk g a.acP a.dv a.ek [(Fm.mk v168 b.dv b.ek b.acN)] a.acN) by rw[Pf.fL];rfl);have⟨bl,e,m⟩:=ep e m;simp[e];refine Cf (nH e.2) ?_;cases m;simp[e]
def OR(T:fh){H:eB}{a0:eG}{a1:List Fm}{a2:Sq}{a3:Int}{d:Pf}{a:eG}{b:Nat}(c:H[b]?=some [sL sI a0.l,sI a0.r']){n:Nat}(hm:jn n a0 a1 a2 a3=some (d,a)):e_ prog T 19 [AV.fT b 0,sL Fm.av a1,Sq.av a2,sI a3] H (Pf.av d) (gC H b [sL sI a.l,sI a.r']):=(MO T n).1 c hm
def IC:C0 prog 39 tT Fm.av:=by
 intro T H r hm;rw[tT] at hm;have e:=trivial;refine wi acR func39 [] [] 999 ?_;have⟨a,e,m⟩:=ep e hm;simp[e];refine Cf (gB e.2) ?_;have⟨b,e,m⟩:=ep e m;simp[e];refine Cf (gB e.2) ?_;have⟨c,e,m⟩:=ep e m;simp[e];refine Cf (gB e.2) ?_;have⟨d,e,m⟩:=ep e m;simp[e];refine Cf (lE e.2) ?_;cases m;simp[e]
def D4(T:fh)(a:qv T){H:eB}{a0:List Fm}{a1:Sq}{a2:Pf}{a3:Fm}{b:Int}(hm:nc a0 a1 a2 a3=some b):e_ prog T 40 [sL Fm.av a0,Sq.av a1,Pf.av a2,Fm.av a3] H (sI b) H:=by
 rw[nc] at hm;have e:=a;refine wi acR func40 [] [] 999 ?_;have⟨c,d,e,m⟩:=gr e hm;simp[e];refine Cf (qy T a e.2) ?_;rcases Io e m with⟨e,m⟩|⟨e,m⟩
 ·cases m;simp[e]
 have⟨f,e,m⟩:=ep e m;simp[e];refine Cf (uu T a e.2) ?_;rcases Io e m with⟨e,m⟩|⟨e,m⟩
 ·cases m;simp[e]
 have⟨g,e,m⟩:=ep e m;simp[e];refine Cf (uy T a e.2) ?_;cases m;simp[e]
def yV(T:fh)(d:qv T){a0:List Int}{k:Bool}(hm:ot a0=some k):fQ prog T 10 [sL sI a0] [] (λx _=>x=sB k):=by
 rw[ot] at hm;have e:=d;refine wi acR func10 [] [] 5 ?_;have⟨Q,e,m⟩:=ep e hm;simp[e];refine Cf (J8 T d e.2) ?_;simp[e];rcases Io e m with⟨e,m⟩|⟨e,m⟩;rotate_left
 ·apply wg 999;cases m;simp[e]
 apply wg 5;have⟨R,e,m⟩:=ep e m;simp[e];refine Cf (Ta e.2) ?_;simp[e];rcases Io e m with⟨e,m⟩|⟨e,m⟩;rotate_left
 ·apply wg 999;cases m;simp[e]
 apply wg 9;have⟨S,e,m⟩:=ep e m;simp[e];refine Cf (TW T e.2) ?_;have⟨U,d5,e,m⟩:=gr e m;simp[e];refine Cf (OR T (by simp[e]) e.2) ?_;have⟨V,e,m⟩:=ep e m;simp[e];refine Cs (IC e.2) ?_;have⟨W,e,m⟩:=ep e m;simp[e];refine Cs (D4 T d e.2) ?_;simp[e];rcases Io e m with⟨e,m⟩|⟨e,m⟩
 ·apply wg 999;cases m;simp[e]
 apply wg 16;have⟨X,e,m⟩:=ep e m;simp[e];refine Cf (hR e.2) ?_;have⟨Y,e,m⟩:=ep e m;simp[e];refine Cs (fI e.2) ?_;have⟨o,e,m⟩:=ep e m;simp[e];refine Cs (fI e.2) ?_;have⟨p,e,m⟩:=ep e m;simp[e];refine Cs (lE e.2) ?_;have⟨q,e,m⟩:=ep e m;simp[e];refine Cs (me e.2) ?_;have⟨r,e,m⟩:=ep e m;simp[e];refine Cs (fI e.2) ?_;have⟨s,e,m⟩:=ep e m;simp[e];refine Cs (fI e.2) ?_;have⟨t,e,m⟩:=ep e m;simp[e];refine Cs (kT e.2) ?_;have⟨u,e,m⟩:=ep e m;simp[e];refine Cs (tB e.2) ?_;have⟨v,e,m⟩:=ep e m;simp[e];refine Cf (oL e.2) ?_;have⟨w,g,e,m⟩:=gr e m;simp[e];refine Cf (qy T d e.2) ?_;have⟨y,e,m⟩:=ep e m;simp[e];refine Cf (oL e.2) ?_;have⟨z,i,e,m⟩:=gr e m;simp[e];refine Cf (qy T d e.2) ?_;have⟨A,e,m⟩:=ep e m;simp[e];refine Cs (fI e.2) ?_;have⟨B,e,m⟩:=ep e m;simp[e];refine Cs (fI e.2) ?_;have⟨C,e,m⟩:=ep e m;simp[e];refine Cs (lE e.2) ?_;have⟨D,e,m⟩:=ep e m;simp[e];refine Cs (me e.2) ?_;have⟨F,d28,e,m⟩:=gr e m;simp[e];refine Cs (gv T (by simp[e]) e.2) ?_;have⟨G,e,m⟩:=ep e m;simp[e];refine Cs (xx e.2) ?_;have⟨H,e,m⟩:=ep e m;simp[e];refine Cs (xx e.2) ?_;have⟨I,e,m⟩:=ep e m;simp[e];refine Cs (kT e.2) ?_;have⟨J,e,m⟩:=ep e m;simp[e];refine Cs (tB e.2) ?_;have⟨K,e,m⟩:=ep e m;simp[e];refine Cs (rK e.2) ?_;have⟨L,e,m⟩:=ep e m;simp[e];refine Cs (nH e.2) ?_;have⟨M,b,e,m⟩:=gr e m;simp[e];refine Cs (qy T d e.2) ?_;have⟨N,e,m⟩:=ep e m;simp[e];refine Cf (fI e.2) ?_;have⟨j,c,e,m⟩:=gr e m;simp[e];refine Cf (Cg T e.2) ?_;simp[e];refine wj 999 999 (λf h=>h=gC [[]] 0 [sL sI d28.l,sI d28.r']/\f.1 2=sB (fW (eH g 12) (fW (eH i 0) (fW (eH b 6) (fW (eH c 0) (eH (eN j) 1) false) (fW (eH b 11) (fW (eH c 0) (eH (eN j) 1) false) false)) false) false)) (λO a=>?_) ?_;rotate_left
 ·rintro n P E;have e:=Aj e E;cases m;simp[e]
 rcases Pb (eH g 12) e with e|e;rotate_left
 ·simp[e];exact a _ _ (by simp[e])
 rcases Pb (eH i 0) e with e|e;rotate_left
 ·simp[e];exact a _ _ (by simp[e])
 rcases Pb (eH b 6) e with e|e
 ·rcases Pb (eH c 0) e with e|e
  ·simp[e];exact a _ _ (by simp[e])
  simp[e];exact a _ _ (by simp[e])
 rcases Pb (eH b 11) e with e|e;rotate_left
 ·simp[e];exact a _ _ (by simp[e])
 rcases Pb (eH c 0) e with e|e
 ·simp[e];exact a _ _ (by simp[e])
 simp[e];exact a _ _ (by simp[e])
end Go.Proofs.YtobcafblgapgfaaGreatDoor
