/- Part of the proof of TranslateStable: walks. -/
import Derived.Test.YtffcgfpaakhbjaaGreatDoorW1
import Derived.Test.YtffcgfpaakhbjaaGreatDoorL19
set_option linter.all false
set_option maxRecDepth 20000
set_option maxHeartbeats 4000000
namespace Go.Proofs.YtffcgfpaakhbjaaGreatDoor
open Go Go.jN Go.dG Tryz
def zE(T:cV){H:cc}{a0:Fm}{a1 a:Int}(hm:hQ a0 a1=some a):dr prog T 213 [Fm.av a0,sI a1] H (sI a) H:=by
 rw[hQ] at hm;refine dj.sH (Post:=λx K=>x=sI a/\∃X,K=H++X) ?_ (λ_ _ h=>⟨_,h.2.choose_spec,by rw[h.1];simp[AV.low,AV.gw],h.1,rfl⟩);have e:=trivial;refine wi aee func213 [3,5] [] 999 ?_;simp[e];refine dL hm (xG T (st:=λs:Int=>H++[[sI a1],[sI s]]) (Bn.UP H (λs:Int=>[[sI a1],[sI s]]) 2 (λ_=>rfl) (by simp[AV.low,AV.gw])) (λX s _ _ b h=>by have:=xR T (H:=H++[[sI a1],[sI s]]++X) (q0:=(List.length H+1)) (q1:=(List.length H)) aau aau aau h;simpa using this)) λ_ m=>?_;exact au
def JZ(T:cV){H:cc}{a0 a1 b:Int}{a i:Tm}{q0 q1:Nat}(c:H[q0]?=some [sI b])(d:H[q1]?=some [sI a.ad',sI a.aec,sI a.b8.ad',sL Ty.av a.b8.aea,sL Tm.av a.aea])(hm:mN a0 a1 b a=some i):dr prog T 249 [sI a0,sI a1,AV.di q0 0,AV.di q1 0] H (Tm.av i) H:=by
 rw[mN] at hm;have f:=eo c;have h:=eo d;have e:=Aj (Aj (Aj f c) h) d;refine wi aee func249 [] [] 999 ?_;apply Iq e hm<;>intro e m
 ·simp[e];refine dL m (yQ T) λ_ m=>?_;exact au
 apply Iq e m<;>intro e m
 ·simp[e];refine dL m ud λ_ m=>?_;exact au
 simp[e];refine dL m ud λ_ m=>?_;exact au
def MH(T:cV){H:cc}{a0:Tm}{a1:Int}{a2 a:Tm}(hm:yF a0 a1 a2=some a):dr prog T 238 [Tm.av a0,sI a1,Tm.av a2] H (Tm.av a) H:=by
 rw[yF] at hm;refine dj.sH (Post:=λx K=>x=Tm.av a/\∃X,K=H++X) ?_ (λ_ _ h=>⟨_,h.2.choose_spec,by rw[h.1];simp[AV.low,AV.gw],h.1,rfl⟩);have e:=trivial;refine wi aee func238 [4,5] [] 999 ?_;simp[e];refine k5 hm (x5 T (st:=λ_:Unit=>H++[[sI a1],[sI a2.ad',sI a2.aec,sI a2.b8.ad',sL Ty.av a2.b8.aea,sL Tm.av a2.aea]]) (Bn.const _) (λX _ _ _ _ _ h=>by obtain⟨b,rfl⟩:=tC h;exact JZ T (q0:=(List.length H)) (q1:=(List.length H+1)) aau aau b)) λ_ _ m=>?_;exact au
def zD(T:cV){H:cc}{a0:Tm}{a1 b:Int}{a i:Tm}{q0 q1:Nat}(c:H[q0]?=some [sI b])(d:H[q1]?=some [sI a.ad',sI a.aec,sI a.b8.ad',sL Ty.av a.b8.aea,sL Tm.av a.aea])(hm:gB a0 a1 b a=some i):dr prog T 237 [Tm.av a0,sI a1,AV.di q0 0,AV.di q1 0] H (Tm.av i) H:=by
 rw[gB] at hm;have f:=eo c;have h:=eo d;have e:=Aj (Aj (Aj f c) h) d;refine wi aee func237 [] [] 999 ?_;simp[e];refine dL hm (MH T) λ_ m=>?_;exact au
def BT(T:cV){H:cc}{a0:Fm}{a1:Int}{a2:Tm}{a:Fm}(hm:il a0 a1 a2=some a):dr prog T 214 [Fm.av a0,sI a1,Tm.av a2] H (Fm.av a) H:=by
 rw[il] at hm;refine dj.sH (Post:=λx K=>x=Fm.av a/\∃X,K=H++X) ?_ (λ_ _ h=>⟨_,h.2.choose_spec,by rw[h.1];simp[AV.low,AV.gw],h.1,rfl⟩);have e:=trivial;refine wi aee func214 [4,5] [] 999 ?_;simp[e];refine k5 hm (nB T (st:=λ_:Unit=>H++[[sI a1],[sI a2.ad',sI a2.aec,sI a2.b8.ad',sL Ty.av a2.b8.aea,sL Tm.av a2.aea]]) (Bn.const _) (λX _ _ _ _ _ h=>by obtain⟨b,rfl⟩:=tC h;exact zD T (q0:=(List.length H)) (q1:=(List.length H+1)) aau aau b)) λ_ _ m=>?_;exact au
def G3(T:cV)(a:mA T){H:cc}{a0:Fm}{a1:Int}{a2:Tm}{b:Fm}{c:Int}(hm:pU a0 a1 a2=some (b,c)):dr prog T 171 [Fm.av a0,sI a1,Tm.av a2] H (AV.tuple [Fm.av b,sI c]) H:=by
 rw[pU] at hm;have e:=a;refine wi aee func171 [] [] 7 ?_;simp[e];refine k5 hm (E1 T a) λj _ m=>?_;simp[e];apply Iq e m<;>intro e m
 ·apply wg 999;exact au
 apply wg 5;simp[e];refine dL m rC λ_ m=>?_;simp[e];apply Ir e m<;>intro e m
 ·apply wg 999;exact au
 apply wg 7;simp[e];refine k5 m (JE T a) λk _ m=>?_;simp[e];apply Iq e m<;>intro e m
 ·apply wg 999;exact au
 apply wg 3;simp[e];refine Wj m 999 999 (λi f h=>∃d,(h=H/\f.1 1=sI a1/\f.1 8=sI j/\f.1 10=sI k/\f.1 40=sB d/\bx f 3 (Fm.av a0).cells/\bx f 5 (Tm.av a2).cells/\bx f 6 [sI 0,sI 0,nL,nL,nL])/\i d=some (b,c)) (λi _ g m=>?_) ?_
 ·simp[e];refine dL m (tQ T) λ_ m=>?_;apply Ir e m<;>intro e m
  ·exact k8
  simp[e];refine dL m (DT T) λ_ m=>?_;exact k8
 rintro _ _ ⟨d,E,m⟩;have e:=Aj e E;refine Il e m λe m=>?_;simp[e];refine dL m (zE T) λ_ m=>?_;refine Il e m λe m=>?_;simp[e];refine dL m (BT T) λ_ m=>?_;exact au
def J1:C3 prog 172 Aa Pf.av Fm.av Tm.av Pf.av:=by
 refine v3 func172 λT H a0 a1 a2 r m e=>?_;rw[Aa] at m;have e:=Aj e (show AV.agg [sI 10,sI 0,sI 0,AV.slice .gY [],AV.slice .gY [Tm.av a1],AV.slice .gY [Fm.av a0],AV.slice .gY [Pf.av a2]]=Pf.av (Pf.mk 10 0 (Ty.mk 0 []) [a1] [a0] [a2]) by rw[Pf.eH];rfl);exact au
def uN:C2 prog 174 p5 Tm.av Tm.av sI:=by
 refine v2 func174 λT H a0 a1 r m e=>?_;rw[p5] at m;simp[e];refine dL m (yQ T) λ_ m=>?_;exact au
def D0:C3 prog 175 rP Tm.av Tm.av Tm.av Tm.av:=by
 refine v3 func175 λT H a0 a1 a2 r m e=>?_;rw[rP] at m;simp[e];refine dY m AP λ_ m=>?_;simp[e];refine dY m uN λ_ m=>?_;simp[e];refine dY m AP λ_ m=>?_;simp[e];refine dY m AP λ_ m=>?_;simp[e];refine dY m Gd λ_ m=>?_;simp[e];refine dY m MO λ_ m=>?_;exact au
def GH:C1 prog 176 yh Pf.av Tm.av:=by
 refine v1 func176 λT H a0 r m e=>?_;rw[yh] at m;have e:=Aj e (show AV.agg [sI 18,sI 0,sI 0,AV.slice .gY [],AV.slice .gY [Tm.av a0],AV.slice .gY [],AV.slice .gY []]=Pf.av (Pf.mk 18 0 (Ty.mk 0 []) [a0] [] []) by rw[Pf.eH];rfl);exact au
def FB:C3 prog 173 wV Pf.av Fm.av Pf.av Pf.av:=by
 refine v3 func173 λT H a0 a1 a2 r m e=>?_;rw[wV] at m;have e:=Aj e (show AV.agg [sI 19,sI 0,sI 0,AV.slice .gY [],AV.slice .gY [],AV.slice .gY [Fm.av a0],AV.slice .gY [Pf.av a1,Pf.av a2]]=Pf.av (Pf.mk 19 0 (Ty.mk 0 []) [] [a0] [a1,a2]) by rw[Pf.eH];rfl);exact au
def wa(T:cV)(l:mA T):∀(n:Nat),(∀{H:cc} {a0:cL} {a1:Fm} {a2:Int} {o:Pf} {d:cL} {c:Nat} (i:H[c]?=some [sI a0.room]) (hm:eN n a0 a1 a2=some (o,d)),dr prog T 140 [AV.di c 0,Fm.av a1,sI a2] H (Pf.av o) (dx H c [sI d.room])):=by
  intro n
  induction n with
  |zero=>
    skip
    all_goals(intro _ _;intros;rename_i hm;cases hm)
  |succ n j=>
 intro H a0 a1 a2 o d c i hm;rw[eN] at hm;have q:=eo i;refine dj.PS i ?_;have e:=Aj l q;refine wi aee func140 [] [] 7 ?_;simp[e];refine k5 hm (hH T l) λk r m=>?_;simp[e];refine wj 999 0 (λf h=>h=dx H c [sI (dh .i64 a0.room k)]/\f.1 0=AV.di c 0/\f.1 2=sI a2/\f.1 38=sB (df (sg (dh .i64 a0.room k) 0) true (cF r 0))/\bx f 4 (Fm.av a1).cells/\bx f 6 [sI 0,sI 0,sI 0,nL,nL,nL,nL]) (λ_ g=>?_) ?_
 ·rcases Pb (sg (dh .i64 a0.room k) 0) e with e|e
  ·exact aj
  exact aj
 rintro _ _ E;have e:=Aj e E;apply Iq e m<;>intro e m
 ·apply wg 999;simp[e];refine dL m wS λ_ m=>?_;exact au
 apply wg 8;simp[e];apply Iq e m<;>intro e m
 ·apply wg 999;have⟨A,e,m⟩:=gu e m;simp[e];refine qX m (j aau) λ_ d9 m=>?_;have⟨s,e,m⟩:=gu e m;simp[e];refine qX m (j aau) λ_ d12 m=>?_;simp[e];refine dY m z6 λ_ m=>?_;exact au
 apply wg 3;simp[e];apply Iq e m<;>intro e m
 ·apply wg 999;have⟨t,e,m⟩:=gu e m;have⟨u,e,m⟩:=gu e m;simp[e];refine qX m (j aau) λ_ d17 m=>?_;simp[e];refine dY m zS λ_ m=>?_;exact au
 apply wg 1;simp[e];refine wj 999 0 (λf h=>h=dx H c [sI (dh .i64 a0.room k)]/\f.1 0=AV.di c 0/\f.1 2=sI a2/\f.1 45=sI a1.ad'/\f.1 79=sB (df (cn a1.ad' 4) true (cn a1.ad' 6))/\bx f 4 (Fm.av a1).cells/\bx f 6 [sI 0,sI 0,sI 0,nL,nL,nL,nL]) (λ_ g=>?_) ?_
 ·rcases Pb (cn a1.ad' 4) e with e|e
  ·exact aj
  exact aj
 rintro _ _ E;have e:=Aj e E;apply Iq e m<;>intro e m
 ·apply wg 3;have⟨v,e,m⟩:=gu e m;simp[e];refine qX m (j aau) λ_ d24 m=>?_;simp[e];refine dY m HK λa m=>?_;simp[e];refine IV 2 999 (λf h=>h=dx H c [sI d24.room]/\bx f 6 [sI 0,sI 0,sI 0,nL,nL,nL,nL]/\bx f 9 [sI (df (cn a1.ad' 6) 12 a.ad'),sI a.aec,sI a.b8.ad',sL Ty.av a.b8.aea,sL Tm.av a.cx,sL Fm.av a.dy,sL Pf.av a.aea]) ?_ (λ_ g=>?_)
  ·rintro _ _ E;have e:=Aj e E;exact au
  simp[e];rcases Pb (cn a1.ad' 6) e with e|e
  ·apply wg 999;exact aj
  apply wg 999;exact aj
 apply wg 1;simp[e];refine wj 999 0 (λf h=>h=dx H c [sI (dh .i64 a0.room k)]/\f.1 0=AV.di c 0/\f.1 2=sI a2/\f.1 97=sB (df (cn a1.ad' 5) true (cn a1.ad' 7))/\bx f 4 (Fm.av a1).cells/\bx f 6 [sI 0,sI 0,sI 0,nL,nL,nL,nL]) (λ_ g=>?_) ?_
 ·rcases Pb (cn a1.ad' 5) e with e|e
  ·exact aj
  exact aj
 rintro _ _ E;have e:=Aj e E;apply Ir e m<;>intro e m
 ·apply wg 999;have⟨w,e,m⟩:=gu e m;have⟨x,e,m⟩:=gu e m;simp[e];refine dY m uN λ_ m=>?_;simp[e];refine dY m uN λ_ m=>?_;simp[e];refine dY m uN λ_ m=>?_;simp[e];refine dY m ud λ_ m=>?_;simp[e];refine dY m D0 λ_ m=>?_;simp[e];refine dY m xF λ_ m=>?_;simp[e];refine dY m wS λ_ m=>?_;simp[e];refine dY m GH λ_ m=>?_;simp[e];refine dY m FB λ_ m=>?_;exact au
 apply wg 8;simp[e];refine k5 m D8 λ_ _ m=>?_;have⟨y,e,m⟩:=gu e m;simp[e];refine qX m (G3 T l) λ_ _ m=>?_;simp[e];apply Iq e m<;>intro e m
 ·apply wg 999;simp[e];refine dL m wS λ_ m=>?_;exact au
 apply wg 4;simp[e];refine qX m (j aau) λ_ d50 m=>?_;simp[e];refine dY m J1 λb m=>?_;simp[e];refine IV 2 999 (λf h=>h=dx H c [sI d50.room]/\bx f 6 [sI 0,sI 0,sI 0,nL,nL,nL,nL]/\bx f 14 [sI (df (cn a1.ad' 7) 14 b.ad'),sI b.aec,sI b.b8.ad',sL Ty.av b.b8.aea,sL Tm.av b.cx,sL Fm.av b.dy,sL Pf.av b.aea]) ?_ (λ_ g=>?_)
 ·rintro _ _ E;have e:=Aj e E;exact au
 simp[e];rcases Pb (cn a1.ad' 7) e with e|e
 ·apply wg 999;exact aj
 apply wg 999;exact aj
def wX(T:cV)(e:mA T){H:cc}{a0:cL}{a1:Fm}{a2:Int}{d:Pf}{a:cL}{b:Nat}(c:H[b]?=some [sI a0.room]){n:Nat}(hm:eN n a0 a1 a2=some (d,a)):dr prog T 140 [AV.di b 0,Fm.av a1,sI a2] H (Pf.av d) (dx H b [sI a.room]):=(wa T e n) c hm
def oF:C0 prog 68 rD Fm.av:=by
 refine v0 func68 λT H r m e=>?_;rw[rD] at m;simp[e];refine dL m q_ λ_ m=>?_;simp[e];refine dL m q_ λ_ m=>?_;simp[e];refine dL m q_ λ_ m=>?_;simp[e];refine dL m xF λ_ m=>?_;exact au
def HB:C2 prog 141 uz Pf.av Pf.av Pf.av:=by
 refine v2 func141 λT H a0 a1 r m e=>?_;rw[uz] at m;simp[e];refine dL m z6 λ_ m=>?_;exact au
def CD(T:cV)(c:mA T){H:cc}{a0:Fm}{a1 a:Pf}{b:Bool}(hm:qQ a0 a1=some (a,b)):dr prog T 114 [Fm.av a0,Pf.av a1] H (AV.tuple [Pf.av a,sB b]) H:=by
 rw[qQ] at hm;refine dj.sH (Post:=λx K=>x=AV.tuple [Pf.av a,sB b]/\∃X,K=H++X) ?_ (λ_ _ h=>⟨_,h.2.choose_spec,by rw[h.1];simp[AV.low,AV.gw],h.1,rfl⟩);have e:=c;refine wi aee func114 [9] [(3,true,[])] 999 ?_;simp[e];refine k5 hm (wX T c aau) λ_ d2 m=>?_;simp[e];refine dY m oF λ_ m=>?_;simp[e];refine dY m zS λ_ m=>?_;simp[e];refine dY m HB λ_ m=>?_;exact au
def GM(T:cV)(a:mA T){H:cc}{a0 b:Pf}{c:Int}(hm:uP a0=some (b,c)):dr prog T 115 [Pf.av a0] H (AV.tuple [Pf.av b,sI c]) H:=by
 rw[uP] at hm;have e:=a;refine wi aee func115 [] [] 999 ?_;simp[e];refine dL hm (ve T a) λ_ m=>?_;refine Il e m λe m=>?_;simp[e];refine dL m (xD T a) λ_ m=>?_;exact au
def Cd(T:cV)(a:mA T){H:cc}{a0:Fm}{a1 b:Pf}{c:Int}(hm:mw a0 a1=some (b,c)):dr prog T 69 [Fm.av a0,Pf.av a1] H (AV.tuple [Pf.av b,sI c]) H:=by
 rw[mw] at hm;have e:=a;refine wi aee func69 [] [] 999 ?_;simp[e];refine dL hm (DV T a) λ_ m=>?_;refine Il e m λe m=>?_;simp[e];refine k5 m (CD T a) λ_ _ m=>?_;refine Im e m λe m=>?_;simp[e];refine k5 m (GM T a) λ_ _ m=>?_;exact au
def aaZ(T:cV)(h:Fm->Int->Option (Pf×Int))(a f:Fm)(k:Nat):Prop:=∀{H0 X:cc} {i j:Nat} {rm rm':Int} {L:List Fm} {qe t:Fm} {b c d e g:Nat} {ii ad':Int} {r:Pf},Bi H0.length i j a rm X L->(X[b]?=some [AV.di (H0.length+i) 0]/\b≠i/\b≠j)->(X[c]?=some f.av.cells/\c≠i/\c≠j)->(X[d]?=some [sI k]/\d≠i/\d≠j)->(X[e]?=some qe.av.cells/\e≠i/\e≠j)->(X[g]?=some t.av.cells/\g≠i/\g≠j)->BP h a f k qe t ii ad' rm=some (r,rm')->k<=1000000000->dj prog T 109 [sI ii,sI ad',AV.di (H0.length+b) 0,AV.di (H0.length+c) 0,AV.di (H0.length+d) 0,AV.di (H0.length+e) 0,AV.di (H0.length+g) 0] (H0++X) (UW H0 i j a rm' X r.av)
def KI(T:cV)(n:Nat):Prop:=∀{H0 X:cc} {i j:Nat} {a:Fm} {rm rm':Int} {L:List Fm} {f:Fm} {k:Nat} {r:Pf},Bi H0.length i j a rm X L->iC n a f k rm=some (r,rm')->k+n<=1000000000->dj prog T 66 [AV.di (H0.length+i) 0,f.av,sI k] (H0++X) (UW H0 i j a rm' X r.av)
def VK(B a b c d x o:Nat):Bool:=decide (o=B+a\/o=B+b\/o=B+c\/o=B+d\/o=B+x)
def Yv{B a b c d x:Nat}:VK B a b c d x (B+a)=true/\VK B a b c d x (B+b)=true/\VK B a b c d x (B+c)=true/\VK B a b c d x (B+d)=true/\VK B a b c d x (B+x)=true:=by
 unfold VK;simp
def Ig(T:cV){n:Nat}{a f:Fm}{k:Nat}(S:KI T n)(hn:k+n<=1000000000):aaZ T (λx r=>iC n a x k r) a f k:=by
 intro H0 X i j rm rm' L qe t u v w z A ii ad' r M C D E F G hm hk;have U:=(jj.1 C.1).1;have V:=(jj.1 D.1).1;have W:=(jj.1 E.1).1;have Y:=(jj.1 F.1).1;have Z:=(jj.1 G.1).1
 have l:∀o,VK H0.length u v w z A o=true->∃o',o=H0.length+o'/\o'<X.length/\o'≠i/\o'≠j:=by
  intro o H;rcases XK H with h|h|h|h|h
  ·exact⟨u,h,U,C.2⟩
  ·exact⟨v,h,V,D.2⟩
  ·exact⟨w,h,W,E.2⟩
  ·exact⟨z,h,Y,F.2⟩
  ·exact⟨A,h,Z,G.2⟩
 rw[BP] at hm;have⟨x,I,m⟩:=cE hm;have⟨y,hy,m⟩:=cE m;have⟨p,aa,hp,m⟩:=iR m;obtain⟨m1,rfl⟩:=fI (fS m);have e:=Aj (Aj (Aj (Aj (Aj (Aj trivial I) (o6 (H0:=H0) C.1)) (o6 (H0:=H0) D.1)) (o6 (H0:=H0) E.1)) (o6 (H0:=H0) F.1)) (o6 (H0:=H0) G.1);have es:=Yv (B:=H0.length) (a:=u) (b:=v) (c:=w) (d:=z) (x:=A);have e:=Aj e es;refine wiS (λo=>VK H0.length u v w z A o) (λ_=>0) aee func109 [19,37] [(1,false,[]),(2,false,[]),(3,false,[])] 999 ?_;simp[e];refine dX.rel (kN FU M hy (by rw[cP];omega)) M.hex abC ?_;rintro _ _ ⟨X1,L1,j1,rfl,q,g,rfl⟩;refine⟨g.qk l,?_⟩;have N:=g.at C;have O:=g.at D;have P:=g.at E;have Q:=g.at F;have R:=g.at G;have e:=Aj (Aj (Aj (Aj (Aj (Aj trivial I) (o6 (H0:=H0) N.1)) (o6 (H0:=H0) O.1)) (o6 (H0:=H0) P.1)) (o6 (H0:=H0) Q.1)) (o6 (H0:=H0) R.1);have e:=Aj e es;simp[e];refine Cs (ea (show dJ y qe=some (nj y qe)from rfl)) ?_;simp[e];refine Cs (dN (show ec 1=some (dU 1)from rfl)) ?_;simp[e];refine Cs (dN (show ec 0=some (dU 0)from rfl)) ?_;simp[e];refine Cs (rj (show nU ad' [dU 0]=some (DE ad' [dU 0])from rfl)) ?_;simp[e];refine Cs (eh (show ew (dU 1) (DE ad' [dU 0])=some (fP (dU 1) (DE ad' [dU 0]))from rfl)) ?_;simp[e];refine Cs (dH (show dW t (fP (dU 1) (DE ad' [dU 0]))=some (gL t (fP (dU 1) (DE ad' [dU 0])))from rfl)) ?_;simp[e];refine dX.rel (S q hp hn) q.hex abC ?_;rintro _ _ ⟨X2,L2,j2,rfl,J,k2,rfl⟩;refine⟨k2.qk λo H=>?_,?_⟩
 ·have⟨o',h1,h2,s,K⟩:=l o H;obtain⟨c,hc⟩:∃c,X[o']?=some c:=⟨_,mi h2⟩;have⟨q1,q2⟩:=g.get hc s K;exact⟨o',h1,(jj.1 q1).1,s,q2⟩
 have w3:=k2.at N;have w4:=k2.at O;have w5:=k2.at P;have w7:=k2.at Q;have w8:=k2.at R;have e:=Aj (Aj (Aj (Aj (Aj (Aj trivial I) (o6 (H0:=H0) w3.1)) (o6 (H0:=H0) w4.1)) (o6 (H0:=H0) w5.1)) (o6 (H0:=H0) w7.1)) (o6 (H0:=H0) w8.1);have e:=Aj e es;simp[e];refine Cs (dN (show ec 1=some (dU 1)from rfl)) ?_;simp[e];refine Cs (eh (show ew (dU 1) (gL t (fP (dU 1) (DE ad' [dU 0])))=some (fP (dU 1) (gL t (fP (dU 1) (DE ad' [dU 0]))))from rfl)) ?_;simp[e];refine Cs (dH (show dW (nj y qe) (fP (dU 1) (gL t (fP (dU 1) (DE ad' [dU 0]))))=some (gL (nj y qe) (fP (dU 1) (gL t (fP (dU 1) (DE ad' [dU 0])))))from rfl)) ?_;simp[e];refine Cs (eh (show ew p (gL (nj y qe) (fP (dU 1) (gL t (fP (dU 1) (DE ad' [dU 0])))))=some (fP p (gL (nj y qe) (fP (dU 1) (gL t (fP (dU 1) (DE ad' [dU 0]))))))from rfl)) ?_;simp[e];subst m1;exact⟨X2,L2,j2,rfl,J,g.trans k2,rfl⟩
def MN(T:cV)(K:mA T)(n:Nat)(C:KI T n){H0 X:cc}{i j:Nat}{a:Fm}{rm rm':Int}{L:List Fm}{f:Fm}{k:Nat}{r:Pf}(M:Bi H0.length i j a rm X L)(hm:iC (n+1) a f k rm=some (r,rm'))(hk:k+(n+1)<=1000000000)(D:cn f.ad' 2=true):dj prog T 66 [AV.di (H0.length+i) 0,f.av,sI k] (H0++X) (UW H0 i j a rm' X r.av):=by
 rw[iC] at hm;have⟨ok,y,l,m⟩:=iR hm;have e:=D;refine wi aee func66 [25,29,42,44] [] 18 ?_;simp[e];refine ic.Wx (IK T K M l) ?_;rintro _ _ ⟨N,O,P,rfl,c,E,rfl⟩;rcases Io e m with⟨e,m⟩|⟨e,m⟩
 ·obtain⟨z,rfl⟩:=fI (fS m);simp[e];refine Cf (dN (show ec 0=some (dU 0)from rfl)) ?_;simp[e];subst z;exact⟨N,O,P,rfl,c,E,rfl⟩
 have⟨qe,o,m⟩:=cE m;have⟨t,Q,m⟩:=cE m;rw[bX D] at m;have⟨p,R,S,m⟩:=iR m;have⟨q,U,V,m⟩:=iR m;obtain⟨z,rfl⟩:=fI (fS m);simp[e];refine dX.rel (od c o VW) c.hex abC ?_;rintro _ _ ⟨X2,L2,j2,rfl,s,k2,rfl⟩;refine⟨by simp[QK],?_⟩;simp[e];refine dX.rel (kN FU s Q (by rw[cP];omega)) s.hex abC ?_;rintro _ _ ⟨b,W,g,rfl,u,Y,rfl⟩;refine⟨by simp[QK],?_⟩;have Z:=u.lt;have A:Kp X i j b g:=(E.trans k2).trans Y;simp[e];refine Cs (ea (show dJ t qe=some (nj t qe)from rfl)) ?_;simp[e];refine Cs (ea (show dJ (nj t qe) qe=some (B7 t qe)from rfl)) ?_;simp[e];refine GF 0 (d:=3) (cs:=[AV.di (H0.length+i) 0]) aas aas ?_;refine GF 0 (d:=4) (cs:=f.av.cells) aas aas ?_;refine GF 0 (d:=5) (cs:=[sI k]) aas aas ?_;refine GF 0 (d:=7) (cs:=qe.av.cells) aas aas ?_;refine GF 999 (d:=8) (cs:=t.av.cells) aas aas ?_;simp[e];have F:(b++[[AV.di (H0.length+i) 0],f.av.cells,[sI k],qe.av.cells,t.av.cells])[b.length]?=some [AV.di (H0.length+i) 0]/\b.length≠i/\b.length≠g:=⟨aas,VW,VW⟩;have G:(b++[[AV.di (H0.length+i) 0],f.av.cells,[sI k],qe.av.cells,t.av.cells])[b.length+1]?=some f.av.cells/\b.length+1≠i/\b.length+1≠g:=⟨aas,VW,VW⟩;have H:(b++[[AV.di (H0.length+i) 0],f.av.cells,[sI k],qe.av.cells,t.av.cells])[b.length+2]?=some [sI k]/\b.length+2≠i/\b.length+2≠g:=⟨aas,VW,VW⟩;have I:(b++[[AV.di (H0.length+i) 0],f.av.cells,[sI k],qe.av.cells,t.av.cells])[b.length+3]?=some qe.av.cells/\b.length+3≠i/\b.length+3≠g:=⟨aas,VW,VW⟩;have J:(b++[[AV.di (H0.length+i) 0],f.av.cells,[sI k],qe.av.cells,t.av.cells])[b.length+4]?=some t.av.cells/\b.length+4≠i/\b.length+4≠g:=⟨aas,VW,VW⟩;have v:Bi H0.length i g a y (b++[[AV.di (H0.length+i) 0],f.av.cells,[sI k],qe.av.cells,t.av.cells]) W:=u.app;have w:=Ig T C VW v F G H I J S VW;rw[show H0++(b++[[AV.di (H0.length+i) 0],f.av.cells,[sI k],qe.av.cells,t.av.cells])=H0++(b++[[AV.di (H0.length+i) 0],[AV.sc (.int .i64 f.ad'),AV.sc (.int .i64 f.b8.ad'),AV.slice .gY (List.map Ty.av f.b8.aea),AV.slice .gY (List.map Tm.av f.cx),AV.slice .gY (List.map Fm.av f.aea)],[sI k],[AV.sc (.int .i64 qe.ad'),AV.sc (.int .i64 qe.b8.ad'),AV.slice .gY (List.map Ty.av qe.b8.aea),AV.slice .gY (List.map Tm.av qe.cx),AV.slice .gY (List.map Fm.av qe.aea)],[AV.sc (.int .i64 t.ad'),AV.sc (.int .i64 t.b8.ad'),AV.slice .gY (List.map Ty.av t.b8.aea),AV.slice .gY (List.map Tm.av t.cx),AV.slice .gY (List.map Fm.av t.aea)]]) by simp] at w;refine dX.aa4 (SY (aa:=[sI 0,sI 4]) w) v.hex abC ?_;rintro _ _ ⟨X5,L5,j5,rfl,x,h,rfl⟩;refine⟨by simp[QK],?_⟩;simp[e];refine dX.aa4 (SY (aa:=[sI 1,sI 5]) (Ig T C VW x (h.at F) (h.at G) (h.at H) (h.at I) (h.at J) V VW)) x.hex abC ?_;rintro _ _ ⟨X6,L6,j6,rfl,B,k6,rfl⟩;refine⟨by simp[QK],?_⟩;simp[e];refine Cs (rj (show nU 3 [p,q]=some (DE 3 [p,q])from rfl)) ?_;simp[e];refine Cs (dH (show dW (B7 t qe) (DE 3 [p,q])=some (gL (B7 t qe) (DE 3 [p,q]))from rfl)) ?_;simp[e];subst z;exact⟨X6,L6,j6,rfl,B,((A.trans .app).trans h).trans k6,rfl⟩
def La(T:cV)(N:mA T)(n:Nat)(C:KI T n):KI T (n+1):=by
 intro H0 X i j a rm rm' L f k r O hm S;cases D:cn f.ad' 2 with
 |true=>exact MN T N n C O hm S D|false=>
  rw[iC] at hm;have⟨ok,U,w,m⟩:=iR hm;have e:=Aj D (NS (k:=k) VW);refine wi aee func66 [25,29,56,72,86,99,103,120] [] 999 ?_;simp[e];refine ic.Wx (IK T N O w) ?_;rintro _ _ ⟨V,W,Y,rfl,l,P,rfl⟩;rcases Io e m with⟨e,m⟩|⟨e,m⟩
  ·obtain⟨o,rfl⟩:=fI (fS m);simp[e];refine Cf (dN (show ec 0=some (dU 0)from rfl)) ?_;simp[e];subst o;exact⟨V,W,Y,rfl,l,P,rfl⟩
  have⟨qe,z,m⟩:=cE m;have⟨t,Z,m⟩:=cE m;rw[bV (by rw[D];decide)] at m;simp[e];refine dX.rel (od l z VW) l.hex abC ?_;rintro _ _ ⟨X2,L2,j2,rfl,A,k2,rfl⟩;refine⟨by simp[QK],?_⟩;simp[e];refine dX.rel (kN FU A Z (by rw[cP];omega)) A.hex abC ?_;rintro _ _ ⟨Q,L3,R,rfl,d,k3,rfl⟩;refine⟨by simp[QK],?_⟩;have q:Kp X i j Q R:=(P.trans k2).trans k3;simp[e];refine Cs (ea (show dJ t qe=some (nj t qe)from rfl)) ?_;simp[e];refine Cs (ea (show dJ (nj t qe) qe=some (B7 t qe)from rfl)) ?_;rcases Io e m with⟨e,m⟩|⟨e,m⟩
  ·--an c
   have⟨x,B,m⟩:=cE m;have⟨y,hy,m⟩:=cE m;have⟨p,E,F,m⟩:=iR m;have⟨u,hu,m⟩:=cE m;have⟨v,hv,m⟩:=cE m;obtain⟨o,rfl⟩:=fI (fS m);have e:=Aj (Aj e B) hu;simp[e];refine dX.rel (kN FU d hy (by rw[cP];omega)) d.hex abC ?_;rintro _ _ ⟨X4,L4,j4,rfl,g,G,rfl⟩;refine⟨by simp[QK],?_⟩;simp[e];refine Cs (ea (show dJ y qe=some (nj y qe)from rfl)) ?_;simp[e];refine Cs (dN (show ec 1=some (dU 1)from rfl)) ?_;simp[e];refine Cs (dN (show ec 0=some (dU 0)from rfl)) ?_;simp[e];refine Cs (dN (show ec 2=some (dU 2)from rfl)) ?_;simp[e];refine Cs (eh (show ew (dU 0) (dU 2)=some (fP (dU 0) (dU 2))from rfl)) ?_;simp[e];refine Cs (eh (show ew (dU 1) (fP (dU 0) (dU 2))=some (fP (dU 1) (fP (dU 0) (dU 2)))from rfl)) ?_;simp[e];refine Cs (dH (show dW t (fP (dU 1) (fP (dU 0) (dU 2)))=some (gL t (fP (dU 1) (fP (dU 0) (dU 2))))from rfl)) ?_;simp[e];refine dX.rel (C g F VW) g.hex abC ?_;rintro _ _ ⟨X5,L5,j5,rfl,h,H,rfl⟩;refine⟨by simp[QK],?_⟩;simp[e];refine Cs (dN (show ec 2=some (dU 2)from rfl)) ?_;simp[e];refine Cs (eh (show ew (dU 2) (gL t (fP (dU 1) (fP (dU 0) (dU 2))))=some (fP (dU 2) (gL t (fP (dU 1) (fP (dU 0) (dU 2)))))from rfl)) ?_;simp[e];refine Cs (dH (show dW (nj y qe) (fP (dU 2) (gL t (fP (dU 1) (fP (dU 0) (dU 2)))))=some (gL (nj y qe) (fP (dU 2) (gL t (fP (dU 1) (fP (dU 0) (dU 2))))))from rfl)) ?_;simp[e];refine Cs (eh (show ew p (gL (nj y qe) (fP (dU 2) (gL t (fP (dU 1) (fP (dU 0) (dU 2))))))=some (fP p (gL (nj y qe) (fP (dU 2) (gL t (fP (dU 1) (fP (dU 0) (dU 2)))))))from rfl)) ?_;simp[e];refine dX.rel (kN FU h hv (by rw[cP];omega)) h.hex abC ?_;rintro _ _ ⟨I,J,K,rfl,s,M,rfl⟩;refine⟨by simp[QK],?_⟩;simp[e];refine Cs (dH (show dW v (fP p (gL (nj y qe) (fP (dU 2) (gL t (fP (dU 1) (fP (dU 0) (dU 2)))))))=some (gL v (fP p (gL (nj y qe) (fP (dU 2) (gL t (fP (dU 1) (fP (dU 0) (dU 2))))))))from rfl)) ?_;simp[e];refine Cs (dH (show dW (B7 t qe) (gL v (fP p (gL (nj y qe) (fP (dU 2) (gL t (fP (dU 1) (fP (dU 0) (dU 2))))))))=some r by rw[<-o];rfl)) ?_;simp[e];exact⟨I,J,K,rfl,s,((q.trans G).trans H).trans M,rfl⟩
  rcases Io e m with⟨e,m⟩|⟨e,m⟩
  ·--for all
   have⟨x,B,m⟩:=cE m;have⟨y,hy,m⟩:=cE m;have⟨b,hb,m⟩:=cE m;have⟨u,hu,m⟩:=cE m;have⟨p,E,F,m⟩:=iR m;obtain⟨o,rfl⟩:=fI (fS m);have e:=Aj e B;simp[e];refine dX.rel (kN FU (k:=k+1) d hy (by rw[cP];omega)) d.hex abC ?_;rintro _ _ ⟨X4,L4,j4,rfl,g,G,rfl⟩;refine⟨by simp[QK],?_⟩;simp[e];refine dX.rel (od (k:=k+1) g hb VW) g.hex abC ?_;rintro _ _ ⟨X5,L5,j5,rfl,h,H,rfl⟩;refine⟨by simp[QK],?_⟩;simp[e];refine Cs (ea (show dJ y b=some (nj y b)from rfl)) ?_;simp[e];refine Cf (pM T hu) ?_;simp[e];refine Cf (dN (show ec 1=some (dU 1)from rfl)) ?_;simp[e];refine Cf (ud (show fu 0=some (Tm.mk 1 0 (Ty.mk 0 []) [])from rfl)) ?_;simp[e];refine Cf (dN (show ec 0=some (dU 0)from rfl)) ?_;simp[e];refine Cf (CU (show tD (Tm.mk 1 0 (Ty.mk 0 []) []) (dU 0)=some (.mk 9 0 (Ty.mk 0 []) [.mk 1 0 (Ty.mk 0 []) []] [] [dU 0])from rfl)) ?_;simp[e];refine Cf (eh (show ew (dU 1) (.mk 9 0 (Ty.mk 0 []) [.mk 1 0 (Ty.mk 0 []) []] [] [dU 0])=some (fP (dU 1) (.mk 9 0 (Ty.mk 0 []) [.mk 1 0 (Ty.mk 0 []) []] [] [dU 0]))from rfl)) ?_;simp[e];refine Cf (dH (show dW u (fP (dU 1) (.mk 9 0 (Ty.mk 0 []) [.mk 1 0 (Ty.mk 0 []) []] [] [dU 0]))=some (gL u (fP (dU 1) (.mk 9 0 (Ty.mk 0 []) [.mk 1 0 (Ty.mk 0 []) []] [] [dU 0])))from rfl)) ?_;simp[e];refine dX.rel (C (k:=k+1) h F VW) h.hex abC ?_;rintro _ _ ⟨I,J,K,rfl,s,M,rfl⟩;refine⟨by simp[QK],?_⟩;simp[e];refine Cs (dN (show ec 1=some (dU 1)from rfl)) ?_;simp[e];refine Cs (eh (show ew (dU 1) (gL u (fP (dU 1) (.mk 9 0 (Ty.mk 0 []) [.mk 1 0 (Ty.mk 0 []) []] [] [dU 0])))=some (fP (dU 1) (gL u (fP (dU 1) (.mk 9 0 (Ty.mk 0 []) [.mk 1 0 (Ty.mk 0 []) []] [] [dU 0]))))from rfl)) ?_;simp[e];refine Cs (dH (show dW (nj y b) (fP (dU 1) (gL u (fP (dU 1) (.mk 9 0 (Ty.mk 0 []) [.mk 1 0 (Ty.mk 0 []) []] [] [dU 0]))))=some (gL (nj y b) (fP (dU 1) (gL u (fP (dU 1) (.mk 9 0 (Ty.mk 0 []) [.mk 1 0 (Ty.mk 0 []) []] [] [dU 0])))))from rfl)) ?_;simp[e];refine Cs (eh (show ew p (gL (nj y b) (fP (dU 1) (gL u (fP (dU 1) (.mk 9 0 (Ty.mk 0 []) [.mk 1 0 (Ty.mk 0 []) []] [] [dU 0])))))=some (fP p (gL (nj y b) (fP (dU 1) (gL u (fP (dU 1) (.mk 9 0 (Ty.mk 0 []) [.mk 1 0 (Ty.mk 0 []) []] [] [dU 0]))))))from rfl)) ?_;simp[e];refine Cs (Co (show uf f.b8 (fP p (gL (nj y b) (fP (dU 1) (gL u (fP (dU 1) (.mk 9 0 (Ty.mk 0 []) [.mk 1 0 (Ty.mk 0 []) []] [] [dU 0]))))))=some (.mk 8 0 f.b8 [] [] [fP p (gL (nj y b) (fP (dU 1) (gL u (fP (dU 1) (.mk 9 0 (Ty.mk 0 []) [.mk 1 0 (Ty.mk 0 []) []] [] [dU 0])))))])from rfl)) ?_;simp[e];refine Cs (dH (show dW (B7 t qe) (.mk 8 0 f.b8 [] [] [fP p (gL (nj y b) (fP (dU 1) (gL u (fP (dU 1) (.mk 9 0 (Ty.mk 0 []) [.mk 1 0 (Ty.mk 0 []) []] [] [dU 0])))))])=some r by rw[<-o];rfl)) ?_;simp[e];exact⟨I,J,K,rfl,s,((q.trans G).trans H).trans M,rfl⟩
  ·--an c of aa answer
   have⟨x,B,m⟩:=cE m;obtain⟨o,rfl⟩:=fI (fS m);have e:=Aj e B;simp[e];refine Cs (dN (show ec 1=some (dU 1)from rfl)) ?_;simp[e];refine Cs (dN (show ec 0=some (dU 0)from rfl)) ?_;simp[e];refine Cs (dN (show ec 1=some (dU 1)from rfl)) ?_;simp[e];refine Cs (eh (show ew (dU 0) (dU 1)=some (fP (dU 0) (dU 1))from rfl)) ?_;simp[e];refine Cs (dH (show dW t (fP (dU 0) (dU 1))=some (gL t (fP (dU 0) (dU 1)))from rfl)) ?_;simp[e];refine Cs (eh (show ew (dU 1) (gL t (fP (dU 0) (dU 1)))=some (fP (dU 1) (gL t (fP (dU 0) (dU 1))))from rfl)) ?_;simp[e];refine Cs (dH (show dW x (fP (dU 1) (gL t (fP (dU 0) (dU 1))))=some (gL x (fP (dU 1) (gL t (fP (dU 0) (dU 1)))))from rfl)) ?_;simp[e];refine Cs (dH (show dW (B7 t qe) (gL x (fP (dU 1) (gL t (fP (dU 0) (dU 1)))))=some r by rw[<-o];rfl)) ?_;simp[e];exact⟨Q,L3,R,rfl,d,q,rfl⟩
def z'(T:cV)(a:mA T):∀n,KI T n
 |0=>λ_ hm _=>by cases hm
 |n+1=>La T a n (z' T a n)
def AD(T:cV)(a:mA T){H:cc}{a0 a1:Fm}{b:Pf}{d:Int}(hm:jy a0 a1=some (b,d)):dr prog T 21 [Fm.av a0,Fm.av a1] H (AV.tuple [Pf.av b,sI d]) H:=by
 rw[jy] at hm;refine dj.sH (Post:=λx K=>x=AV.tuple [Pf.av b,sI d]/\∃X,K=H++X) ?_ (λ_ _ h=>⟨_,h.2.choose_spec,by rw[h.1];simp[AV.low,AV.gw],h.1,rfl⟩);have e:=a;refine wi aee func21 [] [] 999 ?_;have⟨c,g,m⟩:=cE hm;simp[e];refine Cf (rG T a g) ?_;rcases Io e m with⟨e,m⟩|⟨e,m⟩
 ·cases m;simp[e,xO]
 ·have⟨p,rm,i,m⟩:=iR m;simp[e];refine Cf JD ?_;simp[e];refine ic.Wx (z' T a FU (k:=0) Bi.start i (by rw[cP];omega)) ?_;rintro _ _ ⟨j,l,n,rfl,f,o,rfl⟩;simp[e];refine Cf (HX T a f m) ?_;simp[e]
def xN(T:cV)(b:mA T){H:cc}{a0 a1:Fm}{i:Pf}{j:Int}(hm:hO a0 a1=some (i,j)):dr prog T 23 [Fm.av a0,Fm.av a1] H (AV.tuple [Pf.av i,sI j]) H:=by
 rw[hO] at hm;have⟨x,I,m⟩:=cE hm;refine dj.sH (Post:=λx K=>x=AV.tuple [Pf.av i,sI j]/\∃X,K=H++X) ?_ (λ_ _ h=>⟨_,h.2.choose_spec,by rw[h.1];simp[AV.low,AV.gw],h.1,rfl⟩);have e:=Aj b (show sg (0:Int) 2=true/\sg (1:Int) 2=true/\c8 .i64 0 1=1/\c8 .i64 1 1=2 from⟨rfl,rfl,by kernel_rfl,by kernel_rfl⟩);refine wi aee func23 [90] [] 999 ?_;simp[e];refine wl 999 (λn f h=>h=H/\f.1 2=AV.gx 2 (f.gen 2) 0/\f.1 3=AV.gx 3 (f.gen 3) 0/\f.1 4=AV.gx 4 (f.gen 4) 0/\f.box 2=some a0.av.cells/\f.box 3=some a1.av.cells/\f.box 4=some [sI 0,sI 0,sI 0,AV.slice .full [],AV.slice .full [],AV.slice .full [],AV.slice .full []]/\f.1 21=AV.slice .full [a0.av,a1.av]/\f.1 22=sI 2/\(n=2/\f.1 23=sI 0\/n=1/\f.1 23=sI 1/\x=0\/n=0/\f.1 23=sI 2/\x=0/\e9 a1=some 0)) 2 aau ?_;rintro n f h ⟨l,o,r,s,v,w,z,A,B,⟨rfl,d⟩|⟨rfl,d,rfl⟩|⟨rfl,d,rfl,hy⟩⟩ K G
 ·have e:=Aj (Aj (Aj (Aj (Aj (Aj (Aj (Aj (Aj (Aj e l) o) r) s) v) w) z) A) B) d;simp[e];refine Cf (lq T b I) ?_;rcases Io e m with⟨e,m⟩|⟨e,m⟩
  ·cases m;simp[e,xO]
  ·have C:x=0:=by simpa[cF] using e.2
   subst C;simp[e];exact G _ _ 1 VW ⟨aau,aau,aau,aau,aau,aau,aau,aau,aau,.inr (.inl ⟨rfl,aau,rfl⟩)⟩
 ·have e:=Aj (Aj (Aj (Aj (Aj (Aj (Aj (Aj (Aj (Aj e l) o) r) s) v) w) z) A) B) d;rw[bV aaq] at m;have⟨y,hy,m⟩:=cE m;simp[e];refine Cf (lq T b hy) ?_;rcases Io e m with⟨e,m⟩|⟨e,m⟩
  ·cases m;simp[e,xO]
  ·have D:y=0:=by simpa[cF] using e.2
   subst D;simp[e];exact G _ _ 0 VW ⟨aau,aau,aau,aau,aau,aau,aau,aau,aau,.inr (.inr ⟨rfl,aau,rfl,hy⟩)⟩
 ·have e:=Aj (Aj (Aj (Aj (Aj (Aj (Aj (Aj (Aj (Aj e l) o) r) s) v) w) z) A) B) d;rw[bV aaq,hy,bT,bV aaq] at m;have⟨no,a,m⟩:=cE m;have⟨c,J,m⟩:=cE m;simp[e];refine Cs (oF a) ?_;simp[e];refine Cs (ea (show dJ a1 no=some (nj a1 no)from rfl)) ?_;simp[e];refine Cs (oF a) ?_;simp[e];refine Cs (ea (show dJ (nj a1 no) no=some (B7 a1 no)from rfl)) ?_;simp[e];refine Cs (ea (show dJ (B7 a1 no) a1=some (nj (B7 a1 no) a1)from rfl)) ?_;simp[e];refine Cs (rG T b J) ?_;rcases Io e m with⟨e,m⟩|⟨e,m⟩
  ·cases m;simp[e,xO]
  have⟨t,L,m⟩:=cE m;have⟨u,hu,m⟩:=cE m;simp[e];refine Cf JD ?_;simp[e];refine ic.Wx (kN FU (k:=0) Bi.start L (by rw[cP];omega)) ?_;rintro _ _ ⟨O,P,Q,rfl,E,R,rfl⟩;simp[e];refine Cf (oF a) ?_;simp[e];refine ic.Wx (kN FU (k:=0) E hu (by rw[cP];omega)) ?_;rintro _ _ ⟨S,U,V,rfl,g,k2,rfl⟩;simp[e];refine Cs (ea (show dJ t u=some (nj t u)from rfl)) ?_;simp[e];refine Cs (ea (show dJ (nj t u) u=some (B7 t u)from rfl)) ?_;simp[e];refine Cs (oF a) ?_;simp[e];refine Cs (ea (show dJ no a0=some (nj no a0)from rfl)) ?_;simp[e];refine Cs (dN (show ec 2=some (dU 2)from rfl)) ?_;simp[e];refine Cs (dN (show ec 1=some (dU 1)from rfl)) ?_;simp[e];refine Cs (eh (show ew (dU 2) (dU 1)=some (fP (dU 2) (dU 1))from rfl)) ?_;simp[e];refine Cs (dH (show dW (nj no a0) (fP (dU 2) (dU 1))=some (gL (nj no a0) (fP (dU 2) (dU 1)))from rfl)) ?_;simp[e];refine Cs (dN (show ec 0=some (dU 0)from rfl)) ?_;have⟨p,W,M,m⟩:=iR m;simp[e];refine Cs (Cd T b M) ?_;rcases Io e m with⟨e,m⟩|⟨e,m⟩
  ·cases m;simp[e,xO]
  have⟨q,rm,N,m⟩:=iR m;simp[e];refine Cs (dN (show ec 1=some (dU 1)from rfl)) ?_;simp[e];refine Cs (dH (show dW t (gL (nj no a0) (fP (dU 2) (dU 1)))=some (gL t (gL (nj no a0) (fP (dU 2) (dU 1))))from rfl)) ?_;simp[e];refine Cs (eh (show ew (dU 1) (gL t (gL (nj no a0) (fP (dU 2) (dU 1))))=some (fP (dU 1) (gL t (gL (nj no a0) (fP (dU 2) (dU 1)))))from rfl)) ?_;simp[e];refine Cs (oF a) ?_;simp[e];refine Cs (dH (show dW no p=some (gL no p)from rfl)) ?_;simp[e];refine Cs (eh (show ew (fP (dU 1) (gL t (gL (nj no a0) (fP (dU 2) (dU 1))))) (gL no p)=some (fP (fP (dU 1) (gL t (gL (nj no a0) (fP (dU 2) (dU 1))))) (gL no p))from rfl)) ?_;simp[e];refine dX.rel (z' T b FU (k:=0) g N (by rw[cP];omega)) g.hex abC ?_;rintro _ _ ⟨Y,Z,j3,rfl,F,k3,rfl⟩;refine⟨by simp[QK],?_⟩;simp[e];refine Cs (ea (show dJ t a0=some (nj t a0)from rfl)) ?_;simp[e];refine Cs (dH (show dW (nj t a0) (fP (fP (dU 1) (gL t (gL (nj no a0) (fP (dU 2) (dU 1))))) (gL no p))=some (gL (nj t a0) (fP (fP (dU 1) (gL t (gL (nj no a0) (fP (dU 2) (dU 1))))) (gL no p)))from rfl)) ?_;simp[e];refine Cs (eh (show ew q (gL (nj t a0) (fP (fP (dU 1) (gL t (gL (nj no a0) (fP (dU 2) (dU 1))))) (gL no p)))=some (fP q (gL (nj t a0) (fP (fP (dU 1) (gL t (gL (nj no a0) (fP (dU 2) (dU 1))))) (gL no p))))from rfl)) ?_;simp[e];refine Cs (dH (show dW (B7 t u) (fP q (gL (nj t a0) (fP (fP (dU 1) (gL t (gL (nj no a0) (fP (dU 2) (dU 1))))) (gL no p))))=some (gL (B7 t u) (fP q (gL (nj t a0) (fP (fP (dU 1) (gL t (gL (nj no a0) (fP (dU 2) (dU 1))))) (gL no p)))))from rfl)) ?_;simp[e];refine Cs (HX T b F m) ?_;simp[e]
def vR(T:cV)(i:mA T){a0:List Int}{q:Bool}(hm:k9 a0=some q):dj prog T 4 [sL sI a0] [] (λx _=>x=sB q):=by
 rw[k9] at hm;have e:=i;refine wi aee func4 [] [] 5 ?_;simp[e];refine dL hm (I' T i) λ_ m=>?_;simp[e];apply Ir e m<;>intro e m
 ·apply wg 999;exact au
 apply wg 5;simp[e];refine dL m Sa λ_ m=>?_;simp[e];apply Ir e m<;>intro e m
 ·apply wg 999;exact au
 apply wg 13;simp[e];refine dL m (S8 T) λ_ m=>?_;simp[e];refine k5 m (Jr T aau) λr d5 m=>?_;simp[e];refine k5 m (Is T aau) λs d7 m=>?_;simp[e];refine k5 m (Is T aau) λt d9 m=>?_;simp[e];refine k5 m xx λj c m=>?_;simp[e];refine k5 m (AD T i) λk a m=>?_;simp[e];refine wj 999 0 (λf h=>h=dx [[]] 0 [sL sI d9.l,sI d9.sE]/\f.1 4=sL Ty.av r/\f.1 8=sI c/\f.1 10=sI a/\f.1 49=sB (df (cF c 0) true (cF a 0))/\bx f 5 (Fm.av s).cells/\bx f 6 (Fm.av t).cells/\bx f 7 (Fm.av j).cells/\bx f 9 (Pf.av k).cells) (λ_ g=>?_) ?_
 ·rcases Pb (cF c 0) e with e|e
  ·exact aj
  exact aj
 rintro _ _ E;have e:=Aj e E;apply Iq e m<;>intro e m
 ·apply wg 1;simp[e];refine IV 999 999 (λf h=>h=dx [[]] 0 [sL sI d9.l,sI d9.sE]/\f.1 2=sB (df (cn c 0) (df (cn a 0) true (cn a 4)) (df (cn c 4) (df (cn a 0) true (cn a 4)) false))) ?_ (λ_ g=>?_)
  ·rintro _ _ E;have e:=Aj e E;exact au
  rcases Pb (cn c 0) e with e|e
  ·rcases Pb (cn a 0) e with e|e
   ·exact aj
   exact aj
  rcases Pb (cn c 4) e with e|e;rotate_left
  ·exact aj
  rcases Pb (cn a 0) e with e|e
  ·exact aj
  exact aj
 apply wg 7;simp[e];refine dY m hR λ_ m=>?_;simp[e];refine dY m hR λ_ m=>?_;simp[e];refine dY m hR λ_ m=>?_;simp[e];refine dY m zO λ_ m=>?_;simp[e];apply Ir e m<;>intro e m
 ·apply wg 999;exact au
 apply wg 9;simp[e];refine dY m zU λ_ m=>?_;simp[e];refine dY m hR λ_ m=>?_;simp[e];refine dY m zU λ_ m=>?_;simp[e];refine dY m hR λ_ m=>?_;simp[e];refine dY m hR λ_ m=>?_;simp[e];refine qX m xx λn d m=>?_;simp[e];refine k5 m (xN T i) λo b m=>?_;simp[e];refine wj 999 0 (λf h=>h=dx [[]] 0 [sL sI d9.l,sI d9.sE]/\f.1 14=sI d/\f.1 16=sI b/\f.1 101=sB (df (cF d 0) true (cF b 0))/\bx f 11 [sL Ty.av r,nL]/\bx f 13 (Fm.av n).cells/\bx f 15 (Pf.av o).cells) (λ_ g=>?_) ?_
 ·rcases Pb (cF d 0) e with e|e
  ·exact aj
  exact aj
 rintro _ _ E;have e:=Aj e E;apply Ir e m<;>intro e m
 ·apply wg 999;simp[e];refine dL m zO λ_ m=>?_;exact au
 apply wg 1;simp[e];refine IV 999 999 (λf h=>h=dx [[]] 0 [sL sI d9.l,sI d9.sE]/\f.1 2=sB (df (cn d 0) (df (cn b 0) true (cn b 4)) (df (cn d 4) (df (cn b 0) true (cn b 4)) false))) ?_ (λ_ g=>?_)
 ·rintro _ _ E;have e:=Aj e E;exact au
 rcases Pb (cn d 0) e with e|e
 ·rcases Pb (cn b 0) e with e|e
  ·exact aj
  exact aj
 rcases Pb (cn d 4) e with e|e;rotate_left
 ·exact aj
 rcases Pb (cn b 0) e with e|e
 ·exact aj
 exact aj
end Go.Proofs.YtffcgfpaakhbjaaGreatDoor
