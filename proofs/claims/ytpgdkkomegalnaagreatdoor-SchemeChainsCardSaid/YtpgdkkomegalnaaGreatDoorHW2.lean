/- Part of the proof of SchemeChains: walks. -/
import Derived.Test.YtpgdkkomegalnaaGreatDoorHW1
import Derived.Test.YtpgdkkomegalnaaGreatDoorHL20
set_option linter.all false
set_option maxRecDepth 20000
set_option maxHeartbeats 4000000
namespace Go.Proofs.YtpgdkkomegalnaaGreatDoor
open Go Go.lD Go.fP Tryz
def DT(T:eK)(c:n8 T){H:dV}{a0:Fm}{a1:Tm}{a:Fm}{b:Int}(hm:rT a0 a1=some (a,b)):eG prog T 249 [Fm.av a0,Tm.av a1] H (AV.tuple [Fm.av a,sI b]) H:=by
 rw[rT] at hm;have e:=c;refine wi aou func249 [] [] 999 ?_;have m:=hm;exact aa
@[reducible,instance] def acu:=gl 249 @DT
def zk:C1 prog 250 qo (λn=>AV.sc (Value.int .u32 n)) Tm.av:=by
 intro T H a0 r hm;rw[qo] at hm;have e:=trivial;refine wi aou func250 [] [] 999 ?_;cases hm;simp[e]
@[reducible,instance] def Pc:=gl 250 @zk
def Ho{n:Nat}:C2 prog 298 (jq n) sB Tm.av Tm.av:=by
 refine i2 λn ih=>u2 3 func298 λT H a0 a1 r m e=>?_;rw[jq] at m;simp[e];refine WA m 999 999 [] [2,3] (λv2 f=>f.1 35=sB v2) [7,0] (λa _ g m=>?_) ?_
 .apply Iq e m<;>intro e m
  .exact iJ
  apply Iq e m<;>intro e m
  .exact iJ
  simp[e];refine pX m pC λ_ m=>?_;apply Ir e m<;>intro e m
  .exact iJ
  exact iJ
 intro _ v2 e m;exact Wb e m 999 39 [37,38] [3] nI
@[reducible,instance] def XG:=gl 298 @Ho
def N_:C2 prog 265 rW sB Tm.av Tm.av:=by
 refine v2 func265 λT H a0 a1 r m e=>?_;rw[rW] at m;exact aa
@[reducible,instance] def adv:=gl 265 @N_
def KB(T:eK){H:dV}{a0 a1:Int}{a b:Bool}{q0:Nat}(c:H[q0]?=some [sB a])(hm:rZ a0 a1 a=some b):eG prog T 320 [sI a0,sI a1,AV.fg q0 0] H (AV.tuple []) (gk H q0 [sB b]):=by
 rw[rZ] at hm;have d:=eZ c;refine fv.Kw c ?_;have e:=d;refine wi aou func320 [] [] 999 ?_;have m:=hm;exact aa
def Qz(T:eK){H:dV}{a0:Tm}{a:Bool}(hm:yH a0=some a):eG prog T 299 [Tm.av a0] H (sB a) H:=by
 rw[yH] at hm;refine fv.rB (Post:=λx K=>x=sB a/\∃X,K=H++X) ?_ (λ_ _ h=>⟨_,h.2.choose_spec,by rw[h.1];simp[AV.low,AV.iy],h.1,rfl⟩);have e:=trivial;refine wi aou func299 [3] [] 999 ?_;simp[e];refine pX hm (A0 T (st:=λs:Bool=>H++[[sB s]]) (DC.Ym H (λs:Bool=>[[sB s]]) 1 (λ_=>rfl) (by simp[AV.low,AV.iy])) (λX s _ _ b h=>by have:=KB T (H:=H++[[sB s]]++X) (q0:=(List.length H)) abq h;simpa using this)) λ_ m=>?_;exact au
def LX(T:eK){H:dV}{a0 a1:Int}{a2:Ty}{a3:(List (Option Nat))}{nh:List HC}{D:Option Nat}{q:List HC}(hm:ku a0 a1 a2 a3 nh=some (D,q)):eG prog T 321 [sI a0,sI a1,Ty.av a2,sL (m8 (List.length H)) a3] (H++iH (List.length H) nh) (m8 (List.length H) D) (H++iH (List.length H) q):=by
 rw[ku] at hm;have e:=trivial;refine wi aou func321 [17] [(5,false,[true,true,true,false,true,true,true,false,true,true,true,false]),(6,false,[true,true,true,true,false,true,true,true,false,true,true,true,false])] 999 ?_;have F:iH (List.length H) nh++[[sI a0,sI a1,sI a2.aop,sL Ty.av a2.aoq,sL (m8 (List.length H)) a3,sI 1,sI 0,sB false]]=iH (List.length H) (nh++[HC.eJ (eI.mk a0 a1 a2 a3 1 0 false)]):=MX rfl;have e:=Aj e F;have G:(nh++[HC.eJ (eI.mk a0 a1 a2 a3 1 0 false)])[(List.length nh)]?=some (HC.eJ (eI.mk a0 a1 a2 a3 1 0 false)):=Vq;have e:=Aj e G;simp[e];refine XZ e hm 0 (λI i f h=>h=H++iH (List.length H) i/\f.1 0=sI a0/\f.1 1=sI a1/\f.1 9=AV.fg (List.length H+(List.length nh)) 0/\f.1 18=sL (m8 (List.length H)) a3/\f.1 19=sI (eE a3)/\f.1 20=sI I) abq (λI _ i _ _ _ _ _ E e m z p=>?_) (λi _ _ _ E m=>?_)
 .have e:=Aj e E;have J:=e;refine sg 999 [8] ?_;intro a e m;have k:=HC.ed e.2;have e:=Aj e.1 k;refine sw [8,8] ?_;intro K d e m;have s:=HC.ed e.2;have e:=Aj e.1 s;have t:gk (iH (List.length H) i) (List.length nh) [sI a.aop,sI a.aos,sI a.p0.aop,sL Ty.av a.p0.aoq,sL (m8 (List.length H)) a.aoq,sI (eH .i64 a.size d.size),sI a.free,sB a.normal]=iH (List.length H) (kB i (List.length nh) (HC.eJ (eI.mk a.aop a.aos a.p0 a.aoq (eH .i64 a.size d.size) a.free a.normal))):=qy rfl;have e:=Aj e t;have l:(kB i (List.length nh) (HC.eJ (eI.mk a.aop a.aos a.p0 a.aoq (eH .i64 a.size d.size) a.free a.normal)))[(List.length nh)]?=some (HC.eJ (eI.mk a.aop a.aos a.p0 a.aoq (eH .i64 a.size d.size) a.free a.normal)):=xr k;have e:=Aj e l;have⟨j,e,m⟩:=Kv e m;have u:=HC.ed e.2;have e:=Aj e.1 u;have v:gk (iH (List.length H) (kB i (List.length nh) (HC.eJ (eI.mk a.aop a.aos a.p0 a.aoq (eH .i64 a.size d.size) a.free a.normal)))) (List.length nh) [sI a.aop,sI a.aos,sI a.p0.aop,sL Ty.av a.p0.aoq,sL (m8 (List.length H)) a.aoq,sI (eH .i64 a.size d.size),sI (imax a.free j.free),sB a.normal]=iH (List.length H) (kB (kB i (List.length nh) (HC.eJ (eI.mk a.aop a.aos a.p0 a.aoq (eH .i64 a.size d.size) a.free a.normal))) (List.length nh) (HC.eJ (eI.mk a.aop a.aos a.p0 a.aoq (eH .i64 a.size d.size) (imax a.free j.free) a.normal))):=qy rfl;have e:=Aj e v;have w:(kB (kB i (List.length nh) (HC.eJ (eI.mk a.aop a.aos a.p0 a.aoq (eH .i64 a.size d.size) a.free a.normal))) (List.length nh) (HC.eJ (eI.mk a.aop a.aos a.p0 a.aoq (eH .i64 a.size d.size) (imax a.free j.free) a.normal)))[(List.length nh)]?=some (HC.eJ (eI.mk a.aop a.aos a.p0 a.aoq (eH .i64 a.size d.size) (imax a.free j.free) a.normal)):=xr l;have e:=Aj e w;exact al
 have e:=Aj e E;refine sg 5 [11,0] ?_;intro e m;refine C9 m 999 999 (λx f h=>∃r,(h=H++iH (List.length H) r/\f.1 9=AV.fg (List.length H+(List.length nh)) 0)/\x r=some (D,q)) ?_ (λx _ g m=>?_)
 .rintro _ _ ⟨r,E,m⟩;exact aa
 apply Iq e m<;>intro e m
 .have⟨c,e,m⟩:=Kv e m;have n:=HC.ed e.2;have e:=Aj e.1 n;have y:gk (iH (List.length H) i) (List.length nh) [sI c.aop,sI c.aos,sI c.p0.aop,sL Ty.av c.p0.aoq,sL (m8 (List.length H)) c.aoq,sI c.size,sI (eH .i64 a1 1),sB c.normal]=iH (List.length H) (kB i (List.length nh) (HC.eJ (eI.mk c.aop c.aos c.p0 c.aoq c.size (eH .i64 a1 1) c.normal))):=qy rfl;have e:=Aj e y;have A:(kB i (List.length nh) (HC.eJ (eI.mk c.aop c.aos c.p0 c.aoq c.size (eH .i64 a1 1) c.normal)))[(List.length nh)]?=some (HC.eJ (eI.mk c.aop c.aos c.p0 c.aoq c.size (eH .i64 a1 1) c.normal)):=xr n;have e:=Aj e A;exact iJ
 apply Ir e m<;>intro e m
 .exact iJ
 have⟨b,e,m⟩:=Kv e m;have o:=HC.ed e.2;have e:=Aj e.1 o;have B:gk (iH (List.length H) i) (List.length nh) [sI b.aop,sI b.aos,sI b.p0.aop,sL Ty.av b.p0.aoq,sL (m8 (List.length H)) b.aoq,sI b.size,sI (imax 0 (fD .i64 b.free 1)),sB b.normal]=iH (List.length H) (kB i (List.length nh) (HC.eJ (eI.mk b.aop b.aos b.p0 b.aoq b.size (imax 0 (fD .i64 b.free 1)) b.normal))):=qy rfl;have e:=Aj e B;have C:(kB i (List.length nh) (HC.eJ (eI.mk b.aop b.aos b.p0 b.aoq b.size (imax 0 (fD .i64 b.free 1)) b.normal)))[(List.length nh)]?=some (HC.eJ (eI.mk b.aop b.aos b.p0 b.aoq b.size (imax 0 (fD .i64 b.free 1)) b.normal)):=xr o;have e:=Aj e C;exact iJ
@[reducible,instance] def abp:=gl 321 @LX
def Mb(T:eK):∀(n:Nat),(∀{H:dV} {a0:Tm} {nh:List HC} {i:Option Nat} {c:List HC} (hm:qw n a0 nh=some (i,c)),eG prog T 300 [Tm.av a0] (H++iH (List.length H) nh) (m8 (List.length H) i) (H++iH (List.length H) c)):=by
  intro n
  induction n with
  |zero=>
   skip
   all_goals(intro _ _;intros;rename_i hm;cases hm)
  |succ n ih=>
 intro H a0 nh i c hm;rw[qw] at hm;have e:=trivial;refine wi aou func300 [] [] 999 ?_;simp[e];refine Wr e hm 999 (λk s2 f h=>∃a,(h=H++iH (List.length H) s2.2/\f.1 3=sT a (m8 (List.length H)) s2.1/\f.1 7=sL Tm.av a0.aoq/\f.1 8=sI (eE a0.aoq)/\f.1 9=sI k/\bx f 1 (Tm.av a0).cells)/\Ow f [17] a s2.1) (by exact⟨.full,abq,hI.full⟩) (λs2 d _ _ E m=>?_) (λk _ s2 d _ _ _ _ E e m z p=>?_)
 .have⟨v11,v12⟩:=s2;have⟨a,E,b⟩:=E;have e:=Aj e E;dsimp only[ew,iB]at m;refine sw [0,2] ?_;intro _ l e m;exact au
 have⟨v11,v12⟩:=s2;have⟨a,E,b⟩:=E;have e:=Aj e E;have o:=e;dsimp only[iB]at m;simp[e];refine Ar m (ih (H:=H)) λj q m=>?_;refine sw [9,0] ?_;intro e m;refine Ao (f:=(m8 (List.length H))) v11 [j] b Vy e.2 ?_;simp[e];cases m;exact p _ _ _ ⟨(.loc 17 (d.fy 17+1)),abq,(On 17)⟩ z
def N7(T:eK){H:dV}{a0:Tm}{nh:List HC}{b:Option Nat}{a:List HC}{n:Nat}(hm:qw n a0 nh=some (b,a)):eG prog T 300 [Tm.av a0] (H++iH (List.length H) nh) (m8 (List.length H) b) (H++iH (List.length H) a):=(Mb T n) hm
@[reducible,instance] def aex:=gl 300 @N7
def Ey(T:eK){H:dV}{a0:Option Nat}{nh:List HC}{b:Int}(hm:rJ a0 nh=some b):eG prog T 323 [m8 (List.length H) a0] (H++iH (List.length H) nh) (sI b) (H++iH (List.length H) nh):=by
 rw[rJ] at hm;have e:=trivial;refine wi aou func323 [] [] 999 ?_;have m:=hm;refine sw [8,8] ?_;intro c d e m;have a:=HC.ed e.2;have e:=Aj e.1 a;exact au
@[reducible,instance] def VH:=gl 323 @Ey
def vS(T:eK){H:dV}{a0:Option Nat}{nh:List HC}{k:Bool}(hm:mD a0 nh=some k):eG prog T 324 [m8 (List.length H) a0] (H++iH (List.length H) nh) (sB k) (H++iH (List.length H) nh):=by
 rw[mD] at hm;have e:=trivial;refine wi aou func324 [] [] 8 ?_;have m:=hm;refine sw [8,8] ?_;intro x d e m;have h:=HC.ed e.2;have e:=Aj e.1 h;simp[e];apply Iq e m<;>intro e m
 .refine sg 999 [8,8,8] ?_;intro y A B e m;have i:=HC.ed e.2;have e:=Aj e.1 i;exact au
 apply wg 3;simp[e];apply Iq e m<;>intro e m
 .apply wg 1;simp[e];refine WB m 999 999 [] [] (λv9 f=>f.1 2=sB v9) λC _ g m=>?_;refine sw [8,8,8] ?_;intro l n o e m;have a:=HC.ed e.2;have e:=Aj e.1 a;apply Iq e m<;>intro e m
  .exact iJ
  exact iJ
 apply wg 4;apply Iq e m<;>intro e m
 .simp[e];refine WB m 999 999 [] [] (λj f=>f.1 2=sB j) λq _ g m=>?_;refine sw [8,8,8] ?_;intro r s t e m;have b:=HC.ed e.2;have e:=Aj e.1 b;apply Iq e m<;>intro e m
  .exact iJ
  exact iJ
 simp[e];refine wA 999 999 [0] [] (λf=>f.1 67=sB (fq (eo d.aop 11) true (eo d.aop 12))) [12,8,8,8] (λ_ g=>?_) ?_
 .rcases Pb (eo d.aop 11) e with e|e
  .exact aj
  exact aj
 intro _ u v w e m;have c:=HC.ed e.2;have e:=Aj e.1 c;exact au
@[reducible,instance] def Tj:=gl 324 @vS
def CV(T:eK){H:dV}{a0:Option Nat}{nh:List HC}{b:Int}(hm:iT a0 nh=some b):eG prog T 350 [m8 (List.length H) a0] (H++iH (List.length H) nh) (sI b) (H++iH (List.length H) nh):=by
 rw[iT] at hm;have e:=trivial;refine wi aou func350 [] [] 999 ?_;have m:=hm;refine sw [8,8] ?_;intro c d e m;have a:=HC.ed e.2;have e:=Aj e.1 a;exact aa
@[reducible,instance] def SJ:=gl 350 @CV
def B3(T:eK):∀(n:Nat),(∀{H:dV} {a0:Option Nat} {a1:Int} {nh:List HC} {a:Int} (hm:kv n a0 a1 nh=some a),eG prog T 344 [m8 (List.length H) a0,sI a1] (H++iH (List.length H) nh) (sI a) (H++iH (List.length H) nh)):=by
  intro n
  induction n with
  |zero=>
   skip
   all_goals(intro _ _;intros;rename_i hm;cases hm)
  |succ n ih=>
 intro H a0 a1 nh a hm;rw[kv] at hm;have e:=trivial;refine wi aou func344 [] [] 999 ?_;have m:=hm;refine sw [8,8] ?_;intro h i e m;have b:=HC.ed e.2;have e:=Aj e.1 b;refine sw [7,13,0] ?_;intro e m;refine Wd e m 999 30 [0,1,28,29] [] (λc f=>f.1 5=sI c) λj _ c _ _ _ _ _ E e m z p=>?_;simp[e]at E;have e:=Aj e E;have d:=e;exact aa
def CS(T:eK){H:dV}{a0:Option Nat}{a1:Int}{nh:List HC}{a:Int}{n:Nat}(hm:kv n a0 a1 nh=some a):eG prog T 344 [m8 (List.length H) a0,sI a1] (H++iH (List.length H) nh) (sI a) (H++iH (List.length H) nh):=(B3 T n) hm
@[reducible,instance] def Ur:=gl 344 @CS
def w_(T:eK){H:dV}{a0:Option Nat}{a1:(List (Option Nat))}{nh:List HC}{c:Option Nat}{a:List HC}(hm:gE a0 a1 nh=some (c,a)):eG prog T 340 [m8 (List.length H) a0,sL (m8 (List.length H)) a1] (H++iH (List.length H) nh) (m8 (List.length H) c) (H++iH (List.length H) a):=by
 rw[gE] at hm;have e:=trivial;refine wi aou func340 [] [(1,false,[true,true,true,false,true,true,true,false,true,true,true,false,true,true,true])] 999 ?_;have m:=hm;refine sw [8,8] ?_;intro f h e m;have b:=HC.ed e.2;have e:=Aj e.1 b;refine sw [0,5] ?_;intro _ d e m;exact au
@[reducible,instance] def Vc:=gl 340 @w_
def CE(T:eK):∀(n:Nat),(∀{H:dV} {a0:Option Nat} {a1:Int} {a2:Int} {nh:List HC} {o:Option Nat} {i:List HC} (hm:js n a0 a1 a2 nh=some (o,i)),eG prog T 351 [m8 (List.length H) a0,sI a1,sI a2] (H++iH (List.length H) nh) (m8 (List.length H) o) (H++iH (List.length H) i)):=by
  intro n
  induction n with
  |zero=>
    skip
    all_goals(intro _ _;intros;rename_i hm;cases hm)
  |succ n ih=>
 intro H a0 a1 a2 nh o i hm;rw[js] at hm;have e:=trivial;refine wi aou func351 [] [(4,false,[true,true,true,false,true,true,true,false,true,true,true,true,true,false,true,true])] 3 ?_;simp[e];refine WA hm 999 999 [1,2] [] (λv2 f=>f.1 0=m8 (List.length H) a0/\f.1 19=sB v2) [7,8,8] (λy _ g m=>?_) ?_
 .refine sw [8,8] ?_;intro A B e m;have q:=HC.ed e.2;have e:=Aj e.1 q;apply Iq e m<;>intro e m
  .exact iJ
  exact iJ
 intro _ v2 x j e m;have k:=HC.ed e.2;have e:=Aj e.1 k;apply Iq e m<;>intro e m
 .refine sw [0,5] ?_;intro _ t e m;exact au
 simp[e];refine Wr e m 999 (λl b f h=>∃a,(h=H++iH (List.length H) b.2/\f.1 0=m8 (List.length H) a0/\f.1 1=sI a1/\f.1 2=sI a2/\f.1 7=sT a (m8 (List.length H)) b.1/\f.1 44=sL (m8 (List.length H)) j.aoq/\f.1 45=sI (eE j.aoq)/\f.1 46=sI l)/\Ow f [59] a b.1) (by exact⟨.full,abq,hI.full⟩) (λb d _ _ E m=>?_) (λl _ b d _ _ _ _ E e m z p=>?_)
 .have⟨v24,r⟩:=b;have⟨a,E,c⟩:=E;have e:=Aj e E;dsimp only[ew,iB]at m;refine sw [0,2] ?_;intro _ u e m;exact au
 have⟨v24,r⟩:=b;have⟨a,E,c⟩:=E;have e:=Aj e E;have v:=e;dsimp only[iB]at m;refine sw [0,1,0] ?_;intro _ e m;refine Ar m (ih (H:=H)) λs w m=>?_;refine sw [9,0] ?_;intro e m;refine Ao (f:=(m8 (List.length H))) v24 [s] c Vy e.2 ?_;simp[e];cases m;exact p _ _ _ ⟨(.loc 59 (d.fy 59+1)),abq,(On 59)⟩ z
def E2(T:eK){H:dV}{a0:Option Nat}{a1 a2:Int}{nh:List HC}{b:Option Nat}{a:List HC}{n:Nat}(hm:js n a0 a1 a2 nh=some (b,a)):eG prog T 351 [m8 (List.length H) a0,sI a1,sI a2] (H++iH (List.length H) nh) (m8 (List.length H) b) (H++iH (List.length H) a):=(CE T n) hm
@[reducible,instance] def VL:=gl 351 @E2
def EO(T:eK):∀(n:Nat),(∀{H:dV} {a0:Option Nat} {a1:Int} {a2:Option Nat} {nh:List HC} {k:Option Nat} {d:List HC} (hm:jT n a0 a1 a2 nh=some (k,d)),eG prog T 345 [m8 (List.length H) a0,sI a1,m8 (List.length H) a2] (H++iH (List.length H) nh) (m8 (List.length H) k) (H++iH (List.length H) d)):=by
  intro n
  induction n with
  |zero=>
    skip
    all_goals(intro _ _;intros;rename_i hm;cases hm)
  |succ n ih=>
 intro H a0 a1 a2 nh k d hm;rw[jT] at hm;have e:=trivial;refine wi aou func345 [] [(6,false,[true,true,true,false,true,true,true,false,true,true,true,true,false,true,true])] 999 ?_;have m:=hm;refine sw [8,8] ?_;intro y r e m;have l:=HC.ed e.2;have e:=Aj e.1 l;refine Il e m λe m=>?_;apply Iq e m<;>intro e m
 .apply Ir e m<;>intro e m
  .refine sw [0,5] ?_;intro _ w e m;exact au
  refine sw [0,2] ?_;intro _ x e m;exact au
 simp[e];refine Wr e m 999 (λs i f h=>∃a,(h=H++iH (List.length H) i.2/\f.1 0=m8 (List.length H) a0/\f.1 1=sI a1/\f.1 2=m8 (List.length H) a2/\f.1 7=sT a (m8 (List.length H)) i.1/\f.1 48=sL (m8 (List.length H)) r.aoq/\f.1 49=sI (eE r.aoq)/\f.1 50=sI s)/\Ow f [63] a i.1) (by exact⟨.full,abq,hI.full⟩) (λi c _ _ E m=>?_) (λs _ i c _ _ _ _ E e m z p=>?_)
 .have⟨j,o⟩:=i;have⟨a,E,b⟩:=E;have e:=Aj e E;dsimp only[ew,iB]at m;refine sw [0,2] ?_;intro _ t e m;exact au
 have⟨j,o⟩:=i;have⟨a,E,b⟩:=E;have e:=Aj e E;have u:=e;dsimp only[iB]at m;refine sw [0,1,0] ?_;intro _ e m;refine Ar m (ih (H:=H)) λq v m=>?_;refine sw [9,0] ?_;intro e m;refine Ao (f:=(m8 (List.length H))) j [q] b Vy e.2 ?_;simp[e];cases m;exact p _ _ _ ⟨(.loc 63 (c.fy 63+1)),abq,(On 63)⟩ z
def FE(T:eK){H:dV}{a0:Option Nat}{a1:Int}{a2:Option Nat}{nh:List HC}{b:Option Nat}{a:List HC}{n:Nat}(hm:jT n a0 a1 a2 nh=some (b,a)):eG prog T 345 [m8 (List.length H) a0,sI a1,m8 (List.length H) a2] (H++iH (List.length H) nh) (m8 (List.length H) b) (H++iH (List.length H) a):=(EO T n) hm
@[reducible,instance] def WK:=gl 345 @FE
def R7(T:eK){H:dV}{a0:Option Nat}{a1:(List (Option Nat))}{nh:List HC}{b:Option Nat}{a:List HC}(hm:sn a0 a1 nh=some (b,a)):eG prog T 346 [m8 (List.length H) a0,sL (m8 (List.length H)) a1] (H++iH (List.length H) nh) (m8 (List.length H) b) (H++iH (List.length H) a):=by
 rw[sn] at hm;have e:=trivial;refine wi aou func346 [] [] 999 ?_;simp[e];refine Wr e hm 999 (λc s2 f h=>h=H++iH (List.length H) s2.2/\f.1 0=m8 (List.length H) s2.1/\f.1 7=sL (m8 (List.length H)) a1/\f.1 8=sI (eE a1)/\f.1 9=sI c) abq (λs2 _ _ _ E m=>?_) (λc _ s2 _ _ _ _ _ E e m z p=>?_)
 .have⟨v11,v12⟩:=s2;have e:=Aj e E;dsimp only[ew,iB]at m;exact au
 have⟨v11,v12⟩:=s2;have e:=Aj e E;have d:=e;dsimp only[iB]at m;refine sw [0,2] ?_;intro _ i e m;exact al
@[reducible,instance] def afV:=gl 346 @R7
def tr(T:eK){H:dV}{a0:Option Nat}{nh:List HC}{j:Option Nat}{a:List HC}(hm:iX a0 nh=some (j,a)):eG prog T 339 [m8 (List.length H) a0] (H++iH (List.length H) nh) (m8 (List.length H) j) (H++iH (List.length H) a):=by
 rw[iX] at hm;have e:=trivial;refine wi aou func339 [] [(3,false,[true,true,true,false,true,true,true,true,false,true,true,true,true,true,false,true,true,true,true]),(8,true,[]),(11,false,[true,true,true,true,true,true,false,true,true,true,false,true,true,true,true,true,true,true])] 999 ?_;have m:=hm;refine sw [8,8] ?_;intro F G e m;have h:=HC.ed e.2;have e:=Aj e.1 h;apply Iq e m<;>intro e m
 .refine sw [8,8,8] ?_;intro I J K e m;have i:=HC.ed e.2;have e:=Aj e.1 i;refine sw [8,8] ?_;intro L M e m;simp-implicitDefEqProofs[e];refine sw [5] ?_;intro _ k e m;exact au
 apply Iq e m<;>intro e m
 .refine sw [8,8,8] ?_;intro q r s e m;have b:=HC.ed e.2;have e:=Aj e.1 b;exact aa
 apply Iq e m<;>intro e m
 .refine sw [8,8,8] ?_;intro t u v e m;have c:=HC.ed e.2;have e:=Aj e.1 c;exact aa
 refine sw [8,8,8,8,8] ?_;intro w x y A B e m;have d:=HC.ed e.2;have e:=Aj e.1 d;refine sw [7,8,0,5,8] ?_;intro C _ l D e m;have f:=HC.ed e.2;have e:=Aj e.1 f;refine sw [0,2,0,2] ?_;intro _ n _ o e m;exact au
@[reducible,instance] def Pm:=gl 339 @tr
def Dl(T:eK){H:dV}{a0:Option Nat}{nh:List HC}{v:Int}{a:List HC}(hm:mE a0 nh=some (v,a)):eG prog T 338 [m8 (List.length H) a0] (H++iH (List.length H) nh) (sI v) (H++iH (List.length H) a):=by
 rw[mE] at hm;have e:=trivial;refine wi aou func338 [] [(4,true,[]),(7,true,[]),(12,true,[])] 999 ?_;have m:=hm;refine sw [8,8] ?_;intro x1 x2 e m;have t:=HC.ed e.2;have e:=Aj e.1 t;apply Iq e m<;>intro e m
 .refine sw [8,8,8] ?_;intro x4 x5 x6 e m;have u:=HC.ed e.2;have e:=Aj e.1 u;refine sw [8,8,8] ?_;intro x8 x9 x e m;have b:=HC.ed e.2;have e:=Aj e.1 b;refine sw [0,4,8,8,8] ?_;intro _ y A B e m;have c:=HC.ed e.2;have e:=Aj e.1 c;exact au
 apply Iq e m<;>intro e m
 .refine sw [8,8,8] ?_;intro C D F e m;have d:=HC.ed e.2;have e:=Aj e.1 d;apply Ir e m<;>intro e m
  .refine sw [8,8,8] ?_;intro G I J e m;have f:=HC.ed e.2;have e:=Aj e.1 f;exact au
  refine sw [8,8,8] ?_;intro K L M e m;have h:=HC.ed e.2;have e:=Aj e.1 h;refine sw [8,8,8] ?_;intro N O P e m;have i:=HC.ed e.2;have e:=Aj e.1 i;refine sw [8,8,8] ?_;intro Q R S e m;have j:=HC.ed e.2;have e:=Aj e.1 j;exact au
 apply Ir e m<;>intro e m
 .refine sw [0,2,8,8] ?_;intro _ w U V e m;have k:=HC.ed e.2;have e:=Aj e.1 k;exact au
 refine sw [8,8,8] ?_;intro W X Y e m;have l:=HC.ed e.2;have e:=Aj e.1 l;apply Ir e m<;>intro e m
 .refine sw [8,8,8] ?_;intro Z ad ae e m;have n:=HC.ed e.2;have e:=Aj e.1 n;exact au
 refine sw [8,8,8] ?_;intro af ah ai e m;have o:=HC.ed e.2;have e:=Aj e.1 o;refine sw [8,8,8] ?_;intro ak an ao e m;have q:=HC.ed e.2;have e:=Aj e.1 q;refine sw [8,8,8] ?_;intro aq ar aw e m;have r:=HC.ed e.2;have e:=Aj e.1 r;refine sw [8,8,8] ?_;intro ax ay az e m;have s:=HC.ed e.2;have e:=Aj e.1 s;exact au
def BW(T:eK){H:dV}{a0:Option Nat}{nh:List HC}{a:Int}(hm:pR a0 nh=some a):eG prog T 338 [m8 (List.length H) a0] (H++iH (List.length H) nh) (sI a) (H++iH (List.length H) nh):=by
 have⟨r,c,b,d⟩:=iw hm;obtain rfl:=hU d;obtain⟨X,rfl⟩:=D0 b;exact fv.rB (Dl T b) (λ_ _ h=>⟨iH (List.length H) X,by rw[h.2];simp[w9],by rw[h.1];rfl,h.1,rfl⟩)
def WX:kK prog 322=true:=by kernel_rfl
def Ds(T:eK):∀(n:Nat),(∀{H:dV} {a0:Option Nat} {a1:Int} {nh:List HC} {r0:Option Nat} {r1:Int} {aA:List HC} (hm:jo n a0 a1 nh=some (r0,r1,aA)),eG prog T 322 [m8 (List.length H) a0,sI a1] (H++iH (List.length H) nh) (AV.tuple [m8 (List.length H) r0,sI r1]) (H++iH (List.length H) aA)):=by
  intro n
  induction n with
  |zero=>
    skip
    all_goals(intro _ _;intros;rename_i hm;cases hm)
  |succ n ih=>
 intro H a0 a1 nh r0 r1 aA hm;rw[jo] at hm;refine fv.intro (fn:=f322) func322 rfl WX (Dg rfl) ?_;refine gv.sr [] λK1 bF=>?_;simp;apply bF;refine gv.uU λK3 bG=>?_;refine gv.sr [] λK5 bH=>?_;have⟨x7,o,aB⟩:=eB hm;clear hm
 try dsimp only at aB
 have⟨I,a,Q⟩:=eB aB;replace a:=HC.ed a;clear aB
 try dsimp only at Q
 simp[o,a];apply bH;refine gv.uL λcg ch a' ba=>?_;rcases jb Q with⟨b,ak⟩|⟨b,an⟩
 .clear Q;simp[o,a,b];apply a';refine gv.sr [] λcj bb=>?_;simp[o,a,b];apply bb;refine gv.ret ?_;simp only[w5,HL] at ak;obtain⟨rfl,rfl,rfl⟩:=ak;simp[wG,o,a,b]
 clear Q;simp[o,a,b];apply ba;refine gv.skip ?_;apply bG;refine gv.uU λck bc=>?_;refine gv.sr [] λcm bd=>?_;have⟨cn,bf,R⟩:=eB an;clear an
 try dsimp only at R
 simp[o,a,b];refine kN.fn (vS T (H:=H) bf) ?_;simp[o,a,b];apply bd;refine gv.uL λcp cq bg bh=>?_;rcases jb R with⟨c,ao⟩|⟨c,aq⟩
 .clear R;simp[o,a,b,c];apply bg;refine gv.uU λcr bj=>?_;refine gv.uU λcu bk=>?_;refine gv.ad' [] true aou abx abx ?_;have⟨cw,bl,S⟩:=eB ao;clear ao
  try dsimp only at S
  simp[o,a,b,c];refine vn.fn (BW T (H:=H) bl) abm ?_;simp[o,a,b,c];apply bk;refine gv.uL λcx cy bm bn=>?_;rcases jb S with⟨B,ar⟩|⟨B,aw⟩
  .clear S;simp[o,a,b,c,B];apply bm;refine gv.sr [] λcz bo=>?_;simp[o,a,b,c,B];apply bo;refine gv.ret ?_;simp only[w5,HL] at ar;obtain⟨rfl,rfl,rfl⟩:=ar;simp[wG,o,a,b,c,B]
  clear S;simp[o,a,b,c,B];apply bn;refine gv.skip ?_;apply bj;refine gv.sr [] λcA bp=>?_;have⟨cB,bN,bq,V⟩:=iw aw;clear aw
  try dsimp only at V
  simp[o,a,b,c,B];refine kN.fn (tr T (H:=H) bq) ?_;simp[o,a,b,c,B];apply bp;refine gv.ret ?_;simp only[w5,HL] at V;obtain⟨rfl,rfl,rfl⟩:=V;simp[wG,o,a,b,c,B]
 clear R;simp[o,a,b,c];apply bh;refine gv.skip ?_;apply bc;refine gv.uU λcD br=>?_;refine gv.sr [] λcE bs=>?_;simp[o,a,b,c];apply bs;have⟨aC,ax⟩:=lI aq;clear aq;have⟨bI,bt,W⟩:=nS ax;clear ax
 try dsimp only at W
 have⟨aD,C,v⟩:=eB W;clear W;refine gv.Ab λcF bO bu bP ay=>?_;refine gv.Rx (λn75 fr h=>∃(i76:Nat) (X:Int) (U:List HC),H++iH (List.length H) U=h/\(fr.env 0=m8 (List.length H) a0/\fr.env 1=sI a1/\fr.env 31=sL (m8 (List.length H)) I.aoq/\fr.env 32=sI (eE I.aoq)/\fr.env 33=sI X)/\X=(i76:Int)/\i76+n75=List.length I.aoq/\fa bI (List.drop i76 I.aoq) i76 U=some aD) (List.length I.aoq) ?_ ?_
 .refine⟨0,0,nh,?_,⟨?_,?_,?_,?_,?_⟩,rfl,abm,C⟩<;>first|rfl|simp[o,a,b,c]
 rintro n75 bw cG ⟨i76,X,U,rfl,s,J,bQ,C⟩ cH bz;rcases n75 with _|n75
 .have i:=PM (l:=I.aoq) J VW;refine gv.sr [] λcI bA=>?_;simp[s,o,a,i,b,c];apply bA;refine gv.uU λcJ bR=>?_;refine gv.uL λcK cL bS bB=>?_;simp[s,o,a,i,b,c];apply bB;refine gv.exit ?_;apply bu;rw[LI VW,oz] at C;obtain rfl:=hU C;rw[ew] at v
  try dsimp only at v
  apply br;refine gv.sr [] λcM bC=>?_;have⟨w,D,Y⟩:=eB v;replace D:=HC.ed D;clear v
  try dsimp only at Y
  have Z:gk (iH (List.length H) U) x7 [sI w.aop,sI w.aos,sI w.p0.aop,sL Ty.av w.p0.aoq,sL (m8 (List.length H)) w.aoq,sI w.size,sI w.free,sB true]=iH (List.length H) (kB U x7 (HC.eJ (eI.mk w.aop w.aos w.p0 w.aoq w.size w.free true))):=qy rfl;have ad:(kB U x7 (HC.eJ (eI.mk w.aop w.aos w.p0 w.aoq w.size w.free true)))[x7]?=some (HC.eJ (eI.mk w.aop w.aos w.p0 w.aoq w.size w.free true)):=xr D;simp[s,o,a,i,D,Z,ad,b,c];apply bC;refine gv.sr [] λbT aE=>?_;simp[s,o,a,i,D,Z,ad,b,c];apply aE;refine gv.ret ?_;simp only[w5,HL] at Y;obtain⟨rfl,rfl,rfl⟩:=Y;simp[wG,s,o,a,i,D,Z,ad,b,c]
 have i:=Vk (l:=I.aoq) J VW;have⟨bU,aF,j⟩:=Qa (l:=I.aoq) J VW;rw[aF,eV] at C;have⟨bV,F,A⟩:=eB C;clear C;rw[bt,<-J] at F
 try dsimp only at F
 refine gv.sr [] λbW aG=>?_;simp[s,o,a,i,j,b,c];apply aG;refine gv.uU λbX aH=>?_;refine gv.uL λbY bZ aI bJ=>?_;simp[s,o,a,i,j,b,c];apply aI;refine gv.skip ?_;apply aH;refine gv.uU λb0 aJ=>?_;refine gv.Ab λb1 aK bK bL ae=>?_;refine gv.sr [] λb2 aL=>?_;simp[s,o,a,i,j,b,c];apply aL;refine gv.sr [] λb3 aM=>?_;have⟨az,b4,aN,aO,G⟩:=wD F;clear F
 try dsimp only at G
 simp[s,o,a,i,j,b,c];refine kN.fn (ih (H:=H) aO) ?_;simp[s,o,a,i,j,b,c];apply aM;refine gv.uU λb5 aP=>?_;refine gv.sr [] λb6 aQ=>?_;simp[s,o,a,i,j,b,c];apply aQ;refine gv.uL λb7 b8 aR aS=>?_;rcases jb G with⟨q,aT⟩|⟨q,M⟩
 .clear G;simp[s,o,a,i,j,b,c,q];apply aR;refine gv.sr [] λb9 aU=>?_;simp[s,o,a,i,j,b,c,q];apply aU;refine gv.ret ?_;apply ae;apply ay;obtain rfl:=hU aT;rw[AB] at A;obtain rfl:=hU A;rw[p9] at v
  try dsimp only at v
  simp only[w5,HL] at v;obtain⟨rfl,rfl,rfl⟩:=v;simp[wG,s,o,a,i,j,b,c,q]
 clear G;simp[s,o,a,i,j,b,c,q];apply aS;refine gv.skip ?_;apply aP;refine gv.sr [] λb_ aV=>?_;simp[s,o,a,i,j,b,c,q];apply aV;refine gv.uL λb' ca aW aX=>?_;rcases jb M with⟨r,af⟩|⟨r,aY⟩;rotate_left
 .clear M;simp[s,o,a,i,j,b,c,q,r];apply aX;refine gv.skip ?_;apply aK;apply aJ;refine gv.region [] abx ?_;simp[s,o,a,i,j,b,c,q,r];obtain rfl:=hU aY;rw[eQ] at A
  refine bz _ _ n75 (aa6 _) ⟨(i76+1),(eH .i64 X 1),aN,?_,⟨?_,?_,?_,?_,?_⟩,(M' J VW aC),VW,A⟩<;>first|rfl|simp[s,o,a,i,j,b,c,q,r]
 clear M;simp[s,o,a,i,j,b,c,q,r];apply aW;refine gv.sr [] λcb aZ=>?_;have⟨K,t,N⟩:=eB af;replace t:=HC.ed t;clear af
 try dsimp only at N
 have⟨a6,ah⟩:=lI N;clear N;simp[s,o,a,i,j,t,b,c,q,r];refine sV.ago (f:=(m8 (List.length H))) K.aoq Vy ⟨_,adW⟩ (by intro x;simp) a6 (by first|rfl|simp) (by first|rfl|simp) λO bD=>?_;simp[s,o,a,i,j,t,b,c,q,r];apply aZ;refine gv.sr [] λcc a7=>?_;have⟨bE,u,P⟩:=eB ah;clear ah
 try dsimp only at P
 have y:=Kf u;simp[s,o,a,i,j,t,u,y,b,c,q,r];refine AF.arr (f:=(m8 (List.length H))) (L:=K.aoq) (k:=((O-List.length K.aoq)*1)) az agd (by intro x;simp) (by simp[s,o,a,i,j,t,u,y,b,c,q,r]) (x:=bE) (by assumption) (by simp[s,o,a,i,j,t,u,y,b,c,q,r]) (by simp[s,o,a,i,j,t,u,y,b,c,q,r]) (by simp[s,o,a,i,j,t,u,y,b,c,q,r]) ?_;simp[s,o,a,i,j,t,u,y,b,c,q,r];apply a7;refine gv.uU λcd a8=>?_;refine gv.ajs 10 (f:=(m8 (List.length H))) (L:=(yb K.aoq X az)) (k:=((O-List.length K.aoq)*1)) (sz:=1) (d:=53) (g:=(bw.gen 53+1)) (cap:=O) (by intro x;simp) (by intro x;simp) (by simp[s,o,a,i,j,t,u,y,b,c,q,r]) (by simp[s,o,a,i,j,t,u,y,b,c,q,r]) (by simp[s,o,a,i,j,t,u,y,b,c,q,r]) ?_;refine gv.region [] abx ?_;have⟨cf,bM,a_,ai⟩:=iw P;clear P
 try dsimp only at ai
 simp[s,o,a,i,j,t,u,y,b,c,q,r];refine kN.fn (w_ T (H:=H) a_) ?_;simp[s,o,a,i,j,t,u,y,b,c,q,r];apply a8;refine gv.ret ?_;apply ae;apply ay;obtain rfl:=hU ai;rw[AB] at A;obtain rfl:=hU A;rw[p9] at v
 try dsimp only at v
 simp only[w5,HL] at v;obtain⟨rfl,rfl,rfl⟩:=v;simp[wG,s,o,a,i,j,t,u,y,b,c,q,r]
def E1(T:eK){H:dV}{a0:Option Nat}{a1:Int}{nh:List HC}{b:Option Nat}{c:Int}{a:List HC}{n:Nat}(hm:jo n a0 a1 nh=some (b,c,a)):eG prog T 322 [m8 (List.length H) a0,sI a1] (H++iH (List.length H) nh) (AV.tuple [m8 (List.length H) b,sI c]) (H++iH (List.length H) a):=(Ds T n) hm
def B8(T:eK){H:dV}{a0:Option Nat}{nh:List HC}{q:Bool}{r:Int}{j:List HC}(hm:jE a0 nh=some (q,r,j)):eG prog T 301 [m8 (List.length H) a0] (H++iH (List.length H) nh) (AV.tuple [sB q,sI r]) (H++iH (List.length H) j):=by
 rw[jE] at hm;have e:=trivial;refine wi aou func301 [] [(1,true,[true,true,true,true,true,true,true,true,true,true,false,true,true,true,true,true])] 5 ?_;have m:=hm;refine sw [8,8] ?_;intro d t e m;have o:=HC.gH e.2;have e:=Aj e.1 o;refine sw [0,4] ?_;intro _ e m;have⟨c,s,b,e,m⟩:=Bo3 e m;simp[e];refine vb.fn (E1 T (H:=H) e.2) ?_;simp[e];refine wA 999 999 [4,5] [] (λf=>f.1 0=m8 (List.length H) a0/\f.1 25=sB (fq (eR s 0) true (Option.isNone c))) [7,8] (λ_ g=>?_) ?_
 .exact aa
 intro _ a e m;have h:=HC.gH e.2;have e:=Aj e.1 h;have k:gk (iH (List.length H) b) d [m8 (List.length H) c,sI a.steps]=iH (List.length H) (kB b d (HC.fZ (fT.mk c a.steps))):=qy rfl;have e:=Aj e k;have i:(kB b d (HC.fZ (fT.mk c a.steps)))[d]?=some (HC.fZ (fT.mk c a.steps)):=xr h;have e:=Aj e i;have l:gk (iH (List.length H) (kB b d (HC.fZ (fT.mk c a.steps)))) d [m8 (List.length H) c,sI (eH .i64 a.steps 1)]=iH (List.length H) (kB (kB b d (HC.fZ (fT.mk c a.steps))) d (HC.fZ (fT.mk c (eH .i64 a.steps 1)))):=qy rfl;have e:=Aj e l;have n:(kB (kB b d (HC.fZ (fT.mk c a.steps))) d (HC.fZ (fT.mk c (eH .i64 a.steps 1))))[d]?=some (HC.fZ (fT.mk c (eH .i64 a.steps 1))):=xr i;have e:=Aj e n;exact au
@[reducible,instance] def Si:=gl 301 @B8
def CY(T:eK):∀(n:Nat),(∀{H:dV} {a0:Option Nat} {nh:List HC} {d:Tm} (hm:iN n a0 nh=some d),eG prog T 302 [m8 (List.length H) a0] (H++iH (List.length H) nh) (Tm.av d) (H++iH (List.length H) nh)):=by
  intro n
  induction n with
  |zero=>
   skip
   all_goals(intro _ _;intros;rename_i hm;cases hm)
  |succ n ih=>
 intro H a0 nh d hm;rw[iN] at hm;have e:=trivial;refine wi aou func302 [] [(1,true,[])] 999 ?_;have m:=hm;refine sw [8,8] ?_;intro q k e m;have h:=HC.ed e.2;have e:=Aj e.1 h;refine sw [0,4,0] ?_;intro l e m;refine Td e m 999 25 [23,24] [2] [34] (λb=>b) (λb a f=>bx f 3 [sI k.aop,sI k.aos,sI l.aop,sL Ty.av l.aoq,sT a Tm.av b]) λr _ b i _ _ _ _ E e m z p=>?_;have⟨a,E,c⟩:=E;simp[e]at E;have e:=Aj e E;have o:=e;simp[e];refine rm m (ih (H:=H)) λj m=>?_;refine sw [9,0] ?_;intro e m;refine Ad (f:=Tm.av) b [j] c x' e.2 ?_;simp[e];cases m;exact p _ _ _ ⟨(.loc 34 (i.fy 34+1)),abq,(On 34)⟩ z
def Ed(T:eK){H:dV}{a0:Option Nat}{nh:List HC}{a:Tm}{n:Nat}(hm:iN n a0 nh=some a):eG prog T 302 [m8 (List.length H) a0] (H++iH (List.length H) nh) (Tm.av a) (H++iH (List.length H) nh):=(CY T n) hm
@[reducible,instance] def VK:=gl 302 @Ed
def Bf(T:eK):∀(n:Nat),(∀{H:dV} {a0:Option Nat} {nh:List HC} {l:Bool} {c:List HC} (hm:jc n a0 nh=some (l,c)),eG prog T 303 [m8 (List.length H) a0] (H++iH (List.length H) nh) (sB l) (H++iH (List.length H) c)):=by
  intro n
  induction n with
  |zero=>
   skip
   all_goals(intro _ _;intros;rename_i hm;cases hm)
  |succ n ih=>
 intro H a0 nh l c hm;rw[jc] at hm;have e:=trivial;refine wi aou func303 [] [] 999 ?_;have m:=hm;refine sw [8,8] ?_;intro k q e m;have o:=HC.ed e.2;have e:=Aj e.1 o;refine sw [7,0,1,7,0] ?_;intro _ e m;refine XZ e m 999 (λr d f h=>h=H++iH (List.length H) d/\f.1 0=m8 (List.length H) a0/\f.1 14=sL (m8 (List.length H)) q.aoq/\f.1 15=sI (eE q.aoq)/\f.1 16=sI r) abq (λr _ d _ _ _ _ _ E e m z p=>?_) (λd _ _ _ E m=>?_)
 .have e:=Aj e E;have s:=e;simp[e];refine Ar m (ih (H:=H)) λ_ t m=>?_;exact aa
 refine sw [10,11,8] ?_;intro a e m;have b:=HC.ed e.2;have e:=Aj e.1 b;have i:gk (iH (List.length H) d) k [sI a.aop,sI a.aos,sI a.p0.aop,sL Ty.av a.p0.aoq,sL (m8 (List.length H)) a.aoq,sI a.size,sI a.free,sB true]=iH (List.length H) (kB d k (HC.eJ (eI.mk a.aop a.aos a.p0 a.aoq a.size a.free true))):=qy rfl;have e:=Aj e i;have j:(kB d k (HC.eJ (eI.mk a.aop a.aos a.p0 a.aoq a.size a.free true)))[k]?=some (HC.eJ (eI.mk a.aop a.aos a.p0 a.aoq a.size a.free true)):=xr b;have e:=Aj e j;exact au
def BX(T:eK){H:dV}{a0:Option Nat}{nh:List HC}{b:Bool}{a:List HC}{n:Nat}(hm:jc n a0 nh=some (b,a)):eG prog T 303 [m8 (List.length H) a0] (H++iH (List.length H) nh) (sB b) (H++iH (List.length H) a):=(Bf T n) hm
@[reducible,instance] def Sf:=gl 303 @BX
def Hs(T:eK)(w:n8 T){H:dV}{a0:Tm}{a1:Int}{r:Tm}{s t:Int}(hm:mv a0 a1=some (r,s,t)):eG prog T 266 [Tm.av a0,sI a1] H (AV.tuple [Tm.av r,sI s,sI t]) H:=by
 rw[mv] at hm;refine fv.rB (Post:=λx K=>x=AV.tuple [Tm.av r,sI s,sI t]/\∃X,K=H++X) ?_ (λ_ _ h=>⟨_,h.2.choose_spec,by rw[h.1];simp[AV.low,AV.iy],h.1,rfl⟩);refine fv.nh0 (c:=HC.cells) ?_;have e:=w;refine wi aou func266 [32] [(12,true,[]),(15,true,[])] 7 ?_;have m:=hm;refine sw [0,1,0,13] ?_;intro _ e m;apply wg 3;simp[e];refine WA m 999 999 [] [2,4] (λv3 f=>f.1 1=sI a1/\f.1 27=sB v3) [7,0,2] (λD _ g m=>?_) ?_
 .apply Iq e m<;>intro e m
  .exact iJ
  apply Iq e m<;>intro e m
  .exact iJ
  simp[e];refine pX m (Qz T) λ_ m=>?_;exact iJ
 intro _ v3 q a e m;have b:iH (List.length H) a++[[m8 (List.length H) q,sI 0]]=iH (List.length H) (a++[HC.fZ (fT.mk q 0)]):=MX rfl;have e:=Aj e b;have d:(a++[HC.fZ (fT.mk q 0)])[(List.length a)]?=some (HC.fZ (fT.mk q 0)):=Vq;have e:=Aj e d;simp[e];refine Wn m 3 (λi f h=>h=H++iH (List.length H) i/\f.1 1=sI a1/\f.1 8=AV.fg (List.length H+(List.length a)) 0/\bx f 4 [sI 0,sI 0,sI 0,nL,nL]) abq (λi _ _ _ _ _ E m z p=>?_);have e:=Aj e E;have j:=e;have⟨y,e,m⟩:=Kv e m;have k:=HC.gH e.2;have e:=Aj e.1 k;simp[e];apply Iq e m<;>intro e m
 .refine sg 999 [0,3,7] ?_;intro _ _ u e m;apply Iq e m<;>intro e m
  .exact al
  have⟨A,e,m⟩:=Kv e m;have l:=HC.gH e.2;have e:=Aj e.1 l;exact aa
 apply wg 2;simp[e];cases m;have m:=Qb z
 try dsimp only at m
 have e:=j;refine sg 999 [8] ?_;intro B e m;have n:=HC.gH e.2;have e:=Aj e.1 n;refine sw [0,2,12,8] ?_;intro _ v C e m;have o:=HC.gH e.2;have e:=Aj e.1 o;exact aa
@[reducible,instance] def X8:=gl 266 @Hs
def I1(T:eK)(b:n8 T){H:dV}{a0 a1:Tm}{a2 a:Int}(hm:qP a0 a1 a2=some a):eG prog T 194 [Tm.av a0,Tm.av a1,sI a2] H (sI a) H:=by
 rw[qP] at hm;have e:=b;refine wi aou func194 [] [] 999 ?_;have m:=hm;exact aa
@[reducible,instance] def Yi:=gl 194 @I1
def Fc(T:eK)(b:n8 T):∀(n:Nat),(∀{H:dV} {a0:Fm} {a1:Fm} {a:Int} (hm:mm n a0 a1=some a),eG prog T 142 [Fm.av a0,Fm.av a1] H (sI a) H):=by
  intro n
  induction n with
  |zero=>
    skip
    all_goals(intro _ _;intros;rename_i hm;cases hm)
  |succ n ih=>
 intro H a0 a1 a hm;rw[mm] at hm;have e:=b;refine wi aou func142 [] [] 3 ?_;simp[e];refine WA hm 999 999 [] [2,3] (λv2 f=>f.1 23=sB v2) [7,0] (λc _ g m=>?_) ?_
 .apply Iq e m<;>intro e m
  .exact iJ
  simp[e];refine pX m pC λ_ m=>?_;exact iJ
 intro _ v2 e m;refine Wa e m 999 27 [25,26] [2,3] nI [11,0] ?_;intro _ _ e m;exact Wb e m 999 46 [44,45] [3] nI
def G_(T:eK)(b:n8 T){H:dV}{a0 a1:Fm}{a:Int}{n:Nat}(hm:mm n a0 a1=some a):eG prog T 142 [Fm.av a0,Fm.av a1] H (sI a) H:=(Fc T b n) hm
@[reducible,instance] def XD:=gl 142 @G_
def HA(T:eK)(b:n8 T){H:dV}{a0 a1:Fm}{a:Int}(hm:lB a0 a1=some a):eG prog T 102 [Fm.av a0,Fm.av a1] H (sI a) H:=by
 rw[lB] at hm;have e:=b;refine wi aou func102 [] [] 999 ?_;have m:=hm;exact aa
@[reducible,instance] def XC:=gl 102 @HA
def Dx(T:eK)(h:n8 T){H:dV}{a0:Tm}{a1 a:Int}{f:Tm}{b:Int}{q0:Nat}(c:H[q0]?=some [sI a])(hm:tO a0 a1 a=some (f,b)):eG prog T 293 [Tm.av a0,sI a1,AV.fg q0 0] H (Tm.av f) (gk H q0 [sI b]):=by
 rw[tO] at hm;have d:=eZ c;refine fv.Kw c ?_;have e:=Aj h d;refine wi aou func293 [] [] 999 ?_;have m:=hm;exact aa
def F5(T:eK)(c:n8 T){H:dV}{a0 a:Fm}{b:Int}(hm:oy a0=some (a,b)):eG prog T 252 [Fm.av a0] H (AV.tuple [Fm.av a,sI b]) H:=by
 rw[oy] at hm;refine fv.rB (Post:=λx K=>x=AV.tuple [Fm.av a,sI b]/\∃X,K=H++X) ?_ (λ_ _ h=>⟨_,h.2.choose_spec,by rw[h.1];simp[AV.low,AV.iy],h.1,rfl⟩);have e:=c;refine wi aou func252 [4] [(6,true,[])] 999 ?_;simp[e];refine pX hm (rb T) λ_ m=>?_;apply Iq e m<;>intro e m
 .simp[e];refine pX m (sN T) λ_ m=>?_;exact au
 simp[e];refine Ar m (mT T (st:=λs:Int=>H++[[sI s]]) (DC.Ym H (λs:Int=>[[sI s]]) 1 (λ_=>rfl) (by simp[AV.low,AV.iy])) (λX s _ _ _ d h=>by have:=Dx T c (H:=H++[[sI s]]++X) (q0:=(List.length H)) abq h;simpa using this)) λ_ _ m=>?_;refine sw [7,0] ?_;intro e m;refine pX m (rb T) λ_ m=>?_;refine sw [7,0] ?_;intro e m;refine pX m (sN T) λ_ m=>?_;exact au
@[reducible,instance] def WH:=gl 252 @F5
def G3:C2 prog 258 ri Fm.av Tm.av Tm.av:=by
 refine v2 func258 λT H a0 a1 r m e=>?_;rw[ri] at m;have e:=Aj e (show AV.agg [sI 1,sI 0,AV.slice .gK [],AV.slice .gK [Tm.av a0,Tm.av a1],AV.slice .gK []]=Fm.av (Fm.mk 1 (Ty.mk 0 []) [a0,a1] []) by rw[Fm.fi];rfl);exact au
@[reducible,instance] def X4:=gl 258 @G3
def zR(T:eK){H:dV}{a0:List Fm}{a1:Pf}{a2:dZ}{b:dQ}{c:Int}{d:Nat}(a:KC H d a0)(hm:kU a0 a1 a2=some (b,c)):eG prog T 185 [AV.fg d 0,Pf.av a1,dZ.av a2] H (AV.tuple [dQ.av b,sI c]) H:=by
 rw[kU] at hm;have e:=a;refine wi aou func185 [] [] 999 ?_;have m:=hm;exact aa
def LP:C1 prog 335 uw (t2 sI sI) sB:=by
 refine v1 func335 λT H a0 r m e=>?_;rw[uw] at m;exact aa
@[reducible,instance] def abT:=gl 335 @LP
def W2:C2 prog 294 xC Tm.av sI (sL Tm.av):=by
 refine v2 func294 λT H a0 a1 r m e=>?_;rw[xC] at m;exact au
@[reducible,instance] def aje:=gl 294 @W2
def SU:C2 prog 352 wy Tm.av Tm.av (sL Ty.av):=by
 refine v2 func352 λT H a0 a1 r m e=>?_;rw[wy] at m;simp[e];refine Wn m 999 (λs1 f h=>∃a,h=H/\f.1 1=sL Ty.av a1/\f.1 5=sI s1.1/\bx f 2 [sI s1.2.1,sI s1.2.2.1,sI s1.2.2.2.1,sL Ty.av s1.2.2.2.2.1,sT a Tm.av s1.2.2.2.2.2]/\bx f 4 [sI 0,sI 0,sI 0,nL,nL]) ⟨.gK,abq⟩ (λs1 _ _ _ _ _ E m z p=>?_);have⟨v9,v10,v11,v12,b,c⟩:=s1;have⟨a,E⟩:=E;have e:=Aj e E;dsimp only[Bb]at m;apply Ir e m<;>intro e m
 .cases m;have m:=Qb z;dsimp only[Bb]at m;exact au
 refine sw [8,0] ?_;intro d e m;cases m;exact p _ _ _ ⟨.full,abq⟩ z
@[reducible,instance] def ah3:=gl 352 @SU
def TQ:C5 prog 353 Ba Tm.av sI Ty.av Tm.av Tm.av Tm.av:=by
 refine v5 func353 λT H a0 a1 a2 a3 a4 r m e=>?_;rw[Ba] at m;have e:=Aj e (show AV.agg [sI a0,sI 0,sI a1.aop,sL Ty.av a1.aoq,AV.slice .gK [Tm.av a2,Tm.av a3,Tm.av a4]]=Tm.av (Tm.mk a0 0 a1 [a2,a3,a4]) by rw[Tm.fi];rfl);exact au
@[reducible,instance] def ahS:=gl 353 @TQ
def EF:C3 prog 348 m9 Tm.av Tm.av Tm.av Tm.av:=by
 refine v3 func348 λT H a0 a1 a2 r m e=>?_;rw[m9] at m;exact aa
@[reducible,instance] def VR:=gl 348 @EF
def OV:C0 prog 349 wx Tm.av:=by
 refine v0 func349 λT H r m e=>?_;rw[wx] at m;exact aa
@[reducible,instance] def acO:=gl 349 @OV
def S9:C2 prog 261 yu Tm.av Tm.av (sL Tm.av):=by
 refine v2 func261 λT H a0 a1 r m e=>?_;rw[yu] at m;simp[e];refine Wr e m 999 (λd s2 f h=>h=H/\f.1 7=sL Tm.av a1/\f.1 8=sI (eE a1)/\f.1 9=sI d/\bx f 2 [sI s2.1,sI s2.2.1,sI s2.2.2.1,sL Ty.av s2.2.2.2.1,sL Tm.av s2.2.2.2.2]/\bx f 4 [sI 0,sI 0,sI 0,nL,nL]) abq (λs2 _ _ _ E m=>?_) (λd _ s2 _ _ _ _ _ E e m z p=>?_)
 .have⟨v11,v12,a,b,c⟩:=s2;have e:=Aj e E;dsimp only[ew,CH]at m;exact au
 have⟨v11,v12,a,b,c⟩:=s2;have e:=Aj e E;dsimp only[CH]at m;exact aa
@[reducible,instance] def afZ:=gl 261 @S9
def Q9:C1 prog 347 Bt Tm.av Tm.av:=by
 refine v1 func347 λT H a0 r m e=>?_;rw[Bt] at m;exact aa
@[reducible,instance] def afL:=gl 347 @Q9
def PT:C0 prog 343 yr Tm.av:=by
 refine v0 func343 λT H r m e=>?_;rw[yr] at m;exact aa
@[reducible,instance] def ae8:=gl 343 @PT
def NS:C2 prog 337 wO Fm.av Tm.av Tm.av:=by
 refine v2 func337 λT H a0 a1 r m e=>?_;rw[wO] at m;exact aa
def C7{n:Nat}:C2 prog 336 (lp n) sB Fm.av Fm.av:=by
 refine i2 λn ih=>u2 3 func336 λT H a0 a1 r m e=>?_;rw[lp] at m;simp[e];refine WA m 999 999 [] [2,3] (λv2 f=>f.1 39=sB v2) [7,0] (λa _ g m=>?_) ?_
 .apply Iq e m<;>intro e m
  .exact iJ
  simp[e];refine pX m pC λ_ m=>?_;apply Ir e m<;>intro e m
  .exact iJ
  apply Iq e m<;>intro e m
  .exact iJ
  exact iJ
 intro _ v2 e m;refine Wa e m 999 43 [41,42] [2,3] nI [11,0] ?_;intro _ _ e m;exact Wb e m 999 60 [58,59] [3] nI
def KM(T:eK){H:dV}{a0:Fm}{b:Bool}{c:Tm}{d:Fm}{h:Bool}(hm:uq a0=some (b,c,d,h)):eG prog T 319 [Fm.av a0] H (AV.tuple [sB b,Tm.av c,Fm.av d,sB h]) H:=by
 rw[uq] at hm;have e:=trivial;refine wi aou func319 [] [] 7 ?_;have m:=hm;refine sw [0,2,0] ?_;intro _ _ e m;refine WA m 999 0 [6] [1,3,4] (λv4 f=>f.1 48=sB v4) [13] (λo _ g m=>?_) ?_
 .apply Iq e m<;>intro e m
  .exact iJ
  apply Iq e m<;>intro e m
  .exact iJ
  have⟨q,e,m⟩:=Kv e m;apply Iq e m<;>intro e m
  .exact iJ
  have⟨r,e,m⟩:=Kv e m;exact iJ
 intro _ v4 e m;refine sg 7 [8,8,8,0] ?_;intro i j k e m;refine WB m 999 999 [6] [1,3,4,10] (λa f=>f.1 83=sB a) λl _ g m=>?_;apply Iq e m<;>intro e m
 .exact iJ
 refine sw [8,0] ?_;intro n e m;refine rm m (ER T) λ_ m=>?_;apply Iq e m<;>intro e m
 .exact iJ
 simp[e];refine rm m Jq λ_ m=>?_;simp[e];refine rm m NS λ_ m=>?_;simp[e];refine rm m C7 λ_ m=>?_;exact iJ
def P1:∀(n:Nat),C1 prog 297 (nd n) (λn=>AV.sc (Value.int .u8 n)) Fm.av:=by
  intro n
  induction n with
  |zero=>
    skip
    all_goals(intro _ _;intros;rename_i hm;cases hm)
  |succ n ih=>
 intro T H a0 r hm;rw[nd] at hm;have e:=trivial;refine wi aou func297 [] [] 5 ?_;have m:=hm;refine sw [0,13] ?_;intro e m;refine sg 4 [8,0,15,0] ?_;intro o b e m;refine C9 m 3 2 (λc f h=>∃v4,(h=H/\f.1 3=AV.sc (.int .u8 v4)/\bx f 1 (Fm.av a0).cells)/\c v4=some r) ?_ (λc _ g m=>?_)
 .rintro _ _ ⟨v4,E,m⟩;have e:=Aj e E;simp[e];refine WB m 999 999 [] [] (λv9 f=>f.1 6=AV.sc (.int .u8 v9)) λq _ g m=>?_;have⟨d,i,j,k,e,m⟩:=Bo4 e m;simp[e];refine Cf (KM T e.2) ?_;apply Ir e m<;>intro e m
  .exact iJ
  refine sw [0,15] ?_;intro _ e m;exact iJ
 simp[e];refine wj 999 0 (λf h=>h=H/\f.1 3=AV.sc (.int .u8 b)/\f.1 24=sI a0.aop/\f.1 25=sB (fq (eo a0.aop 2) true (eo a0.aop 3))/\bx f 1 (Fm.av a0).cells) (λ_ g=>?_) ?_
 .rcases Pb (eo a0.aop 2) e with e|e
  .exact aj
  exact aj
 rintro _ _ E;have e:=Aj e E;apply Ir e m<;>intro e m
 .apply wg 999;apply Ir e m<;>intro e m
  .exact iJ
  exact iJ
 refine sg 5 [8,0,15,0] ?_;intro l a e m;refine wjs 2 999 (λf h=>h=H/\f.1 3=AV.sc (.int .u8 (fq (eo a0.aop 2) (F8 .u8 b a) b))/\f.1 5=AV.sc (.int .u8 (um .u8 (um .u8 a b) 6))) ?_ (λ_ g=>?_)
 .rintro _ _ E;exact aa
 simp[e];rcases Pb (eo a0.aop 2) e with e|e
 .apply wg 999;exact aj
 apply wg 999;exact aj
def T6{n:Nat}:C1 prog 297 (nd n) (λn=>AV.sc (Value.int .u8 n)) Fm.av:=(P1 n)
@[reducible,instance] def ahZ:=gl 297 @T6
def QG(T:eK)(c:n8 T){H:dV}{a0:Fm}{a1:Int}{a:Bool}{b:Int}(hm:Bp a0 a1=some (a,b)):eG prog T 263 [Fm.av a0,AV.sc (.int .u8 a1)] H (AV.tuple [sB a,sI b]) H:=by
 rw[Bp] at hm;have e:=c;refine wi aou func263 [] [] 999 ?_;have m:=hm;exact aa
@[reducible,instance] def aeM:=gl 263 @QG
def G1(T:eK)(c:n8 T){H:dV}{a0:Fm}{a:Bool}{b:Int}(hm:rF a0=some (a,b)):eG prog T 188 [Fm.av a0] H (AV.tuple [sB a,sI b]) H:=by
 rw[rF] at hm;have e:=c;refine wi aou func188 [] [] 999 ?_;have m:=hm;exact aa
def yD(T:eK)(i:n8 T):∀(n:Nat),(∀{H:dV} {a0:List Fm} {a1:Pf} {a2:dZ} {c:dQ} {d:Int} {b:Nat} (a:KC H b a0) (hm:eC n a0 a1 a2=some (c,d)),eG prog T 138 [AV.fg b 0,Pf.av a1,dZ.av a2] H (AV.tuple [dQ.av c,sI d]) H)/\(∀{H:dV} {a0:List Fm} {a1:Pf} {a2:dZ} {c:dQ} {d:Int} {b:Nat} (a:KC H b a0) (hm:kS n a0 a1 a2=some (c,d)),eG prog T 180 [AV.fg b 0,Pf.av a1,dZ.av a2] H (AV.tuple [dQ.av c,sI d]) H)/\(∀{H:dV} {a0:List Fm} {a1:Pf} {a2:dZ} {c:dQ} {d:Int} {b:Nat} (a:KC H b a0) (hm:kW n a0 a1 a2=some (c,d)),eG prog T 181 [AV.fg b 0,Pf.av a1,dZ.av a2] H (AV.tuple [dQ.av c,sI d]) H)/\(∀{H:dV} {a0:List Fm} {a1:Pf} {a2:dZ} {c:dQ} {d:Int} {b:Nat} (a:KC H b a0) (hm:lr n a0 a1 a2=some (c,d)),eG prog T 182 [AV.fg b 0,Pf.av a1,dZ.av a2] H (AV.tuple [dQ.av c,sI d]) H)/\(∀{H:dV} {a0:List Fm} {a1:Pf} {a2:dZ} {c:dQ} {d:Int} {b:Nat} (a:KC H b a0) (hm:lu n a0 a1 a2=some (c,d)),eG prog T 183 [AV.fg b 0,Pf.av a1,dZ.av a2] H (AV.tuple [dQ.av c,sI d]) H)/\(∀{H:dV} {a0:List Fm} {a1:Pf} {a2:dZ} {c:dQ} {d:Int} {b:Nat} (a:KC H b a0) (hm:kn n a0 a1 a2=some (c,d)),eG prog T 186 [AV.fg b 0,Pf.av a1,dZ.av a2] H (AV.tuple [dQ.av c,sI d]) H)/\(∀{H:dV} {a0:List Fm} {a1:Pf} {a2:dZ} {a3:Int} {c:dQ} {d:Int} {b:Nat} (a:KC H b a0) (hm:gD n a0 a1 a2 a3=some (c,d)),eG prog T 242 [AV.fg b 0,Pf.av a1,dZ.av a2,sI a3] H (AV.tuple [dQ.av c,sI d]) H)/\(∀{H:dV} {a0:List Fm} {a1:Pf} {a2:dZ} {a3:Fm} {a4:Tm} {c:dQ} {d:Int} {b:Nat} (a:KC H b a0) (hm:iG n a0 a1 a2 a3 a4=some (c,d)),eG prog T 251 [AV.fg b 0,Pf.av a1,dZ.av a2,Fm.av a3,Tm.av a4] H (AV.tuple [dQ.av c,sI d]) H):=by
  intro n
  induction n with
  |zero=>
    refine⟨?_,?_,?_,?_,?_,?_,?_,?_⟩
    all_goals(intro _ _;intros;rename_i hm;cases hm)
  |succ n ih=>
 refine⟨?_,?_,?_,?_,?_,?_,?_,?_⟩
 .intro H a0 a1 a2 c d b a hm;rw[eC] at hm;have e:=Aj i a;refine wi aou func138 [] [(1,true,[])] 7 ?_;have t:ve prog H 158 (AV.n_ (b-1)) (sI a1.aop) false=some (N0 a1.aop):=SN a.2;have e:=Aj e t;have⟨j,A,e,m⟩:=Bo2 e hm;simp[e];refine gU.val (r:=AV.tuple [dQ.av j,sI A]) (H':=H) ?_ abm ?_
  .have h:=e.2;rcases Sr (eo a1.aop 1=true)with hk|hk
   .rw[dO hk] at h;rw[tE hk abE];exact CD (AI T a h)
   rw[dK hk] at h;rcases Sr (eo a1.aop 8=true)with hk|hk
   .rw[dO hk] at h;rw[tE hk abE];exact CD (ih.2.1 a h)
   rw[dK hk] at h;rcases Sr (eo a1.aop 9=true)with hk|hk
   .rw[dO hk] at h;rw[tE hk abE];exact CD (ih.2.2.1 a h)
   rw[dK hk] at h;rcases Sr (eo a1.aop 10=true)with hk|hk
   .rw[dO hk] at h;rw[tE hk abE];exact CD (ih.2.2.2.1 a h)
   rw[dK hk] at h;rcases Sr (eo a1.aop 11=true)with hk|hk
   .rw[dO hk] at h;rw[tE hk abE];exact CD (ih.2.2.2.2.1 a h)
   rw[dK hk] at h;rcases Sr (eo a1.aop 18=true)with hk|hk
   .rw[dO hk] at h;rw[tE hk abE];exact CD (zR T a h)
   rw[dK hk] at h;rcases Sr (eo a1.aop 19=true)with hk|hk
   .rw[dO hk] at h;rw[tE hk abE];exact CD (ih.2.2.2.2.2.1 a h)
   rw[dK hk] at h;cases h
  refine sw [0,13] ?_;intro e m;refine sg 5 [0,1,0,13] ?_;intro y e m;apply wg 2;simp[e];refine WB m 999 999 [] [6] (λB f=>bx f 8 [sI j.eh.aop,sI j.eh.dM.aop,sL Ty.av j.eh.dM.aoq,sL Tm.av j.eh.ek,sL Fm.av j.eh.aoq,AV.sc (.int .u32 B)]) λV _ g m=>?_;simp[e];refine Ar m (G1 T i) λ_ _ m=>?_;apply Ir e m<;>intro e m
  .exact iJ
  exact iJ
 .intro H a0 a1 a2 c d b a hm;rw[kS] at hm;have e:=Aj i a;refine wi aou func180 [] [] 7 ?_;have m:=hm;refine sw [0,1,0,13] ?_;intro _ e m;refine sg 7 [8,0,4,0] ?_;intro C _ e m;refine sh m (ih.1 a) λD _ m=>?_;refine sw [0,13] ?_;intro e m;apply wg 4;simp[e];refine WA m 999 999 [] [4,6,9] (λk f=>f.1 11=sI k) [] (λF _ g m=>?_) ?_
  .apply Ir e m<;>intro e m
   .exact iJ
   refine Il e m λe m=>?_;exact iJ
  intro _ k e m;exact aa
 .intro H a0 a1 a2 c d b a hm;rw[kW] at hm;have e:=Aj i a;refine wi aou func181 [] [] 9 ?_;have m:=hm;refine sw [8,0,2,0,13] ?_;intro u G _ e m;refine sg 4 [0,1,0] ?_;intro l e m;refine wA 999 999 [] [4,5,6,8,9] (λf=>f.1 0=AV.fg b 0/\f.1 11=sI (fq (eo a1.aop 13) 6 4)/\f.1 12=AV.sc (.int .u32 (fq (eo a1.aop 13) 0 l))) [8,0] (λ_ g=>?_) ?_
  .rcases Pb (eo a1.aop 13) e with e|e
   .exact aj
   exact aj
  intro _ I e m;refine sh m (ih.2.2.2.2.2.2.1 a) λ_ _ m=>?_;refine sw [7,0] ?_;intro e m;refine pX m ra λ_ m=>?_;refine sw [12,8,0] ?_;intro J e m;refine sh m (DT T i) λ_ _ m=>?_;exact au
 .intro H a0 a1 a2 c d b a hm;rw[lr] at hm;have e:=Aj i a;refine wi aou func182 [] [] 999 ?_;have m:=hm;refine sw [8,8] ?_;intro l K e m;apply Ir e m<;>intro e m
  .simp[e];refine pX m rD λ_ m=>?_;refine sw [7,7,0] ?_;intro e m;refine Ar m so λ_ _ m=>?_;refine sw [7,0] ?_;intro e m;refine pX m ra λ_ m=>?_;refine sw [12,8,8,0] ?_;intro v L e m;refine sh m (ih.2.2.2.2.2.2.2 a) λ_ _ m=>?_;refine sw [7,0] ?_;intro e m;refine rm m (Cq T) λ_ m=>?_;exact au
  refine sw [0,1,7,7,0,2,7,0,1,12,8,8,0] ?_;intro _ _ _ _ M N e m;refine sh m (ih.2.2.2.2.2.2.2 a) λ_ w m=>?_;refine sw [7,0,4] ?_;intro o e m;exact au
 .intro H a0 a1 a2 c d b a hm;rw[lu] at hm;have e:=Aj i a;refine wi aou func183 [] [] 6 ?_;simp[e];refine wA 999 5 [8] [4,5,6] (λf=>f.1 0=AV.fg b 0/\f.1 9=sI (fq (eo a1.aop 15) 7 5)) [8,0] (λ_ g=>?_) ?_
  .rcases Pb (eo a1.aop 15) e with e|e
   .exact aj
   exact aj
  intro _ y e m;refine sh m (ih.2.2.2.2.2.2.1 a) λO _ m=>?_;refine sw [0,13] ?_;intro e m;refine sg 7 [0,1,0,13] ?_;intro C e m;refine sg 7 [8,0,4,8,0,4,0] ?_;intro w _ P _ e m;refine sh m (ih.1 a) λo _ m=>?_;refine sw [0,13] ?_;intro e m;refine sg 7 [0,2,0,13] ?_;intro Q _ e m;apply wg 3;simp[e];refine wA 999 999 [] [6,10,13,14] (λf=>f.1 82=sB (fq (eo a1.aop 15) (eR (um .u32 o.lx 1) 0) false)) [7,0,4] (λ_ g=>?_) ?_
  .rcases Pb (eo a1.aop 15) e with e|e
   .exact aj
   exact aj
  intro _ x e m;exact au
 .intro H a0 a1 a2 c d b a hm;rw[kn] at hm;have e:=Aj i a;refine wi aou func186 [] [] 999 ?_;have m:=hm;refine sw [8,0,4,0,4,0,4,7,8,0] ?_;intro u _ _ _ R e m;refine sh m (ih.2.2.2.2.2.2.1 a) λ_ _ m=>?_;refine sw [7,8,8,0] ?_;intro x S e m;refine sh m (ih.2.2.2.2.2.2.2 a) λ_ _ m=>?_;refine sw [7,8,0,5] ?_;intro U v _ e m;exact au
 .intro H a0 a1 a2 a3 c d b a hm;rw[gD] at hm;have e:=Aj i a;refine wi aou func242 [] [] 5 ?_;simp[e];refine Ar hm (ih.1 a) λq s m=>?_;simp[e];refine wB 999 999 [11] [8,10] (λf=>f.1 27=sB (fq (eo s 0) (eR q.eh.aop a3) false)) λ_ g=>?_;exact aa
 .intro H a0 a1 a2 a3 a4 c d b a hm;rw[iG] at hm;have e:=Aj i a;refine wi aou func251 [] [] 999 ?_;simp[e];refine Ar hm (ih.1 a) λq s m=>?_;refine sw [7,0,2,7,0,4] ?_;intro _ j y e m;exact au
def yY(T:eK)(f:n8 T){H:dV}{a0:List Fm}{a1:Pf}{a2:dZ}{b:dQ}{c:Int}{d:Nat}(a:KC H d a0){n:Nat}(hm:eC n a0 a1 a2=some (b,c)):eG prog T 138 [AV.fg d 0,Pf.av a1,dZ.av a2] H (AV.tuple [dQ.av b,sI c]) H:=(yD T f n).1 a hm
def Sx{n:Nat}:C1 prog 192 (yn n) Tm.av Tm.av:=by
 refine i1 λn ih=>v1 func192 λT H a0 r m e=>?_;rw[yn] at m;refine sw [0,4,0] ?_;intro i e m;refine Td e m 999 17 [15,16] [2] [26] (λb=>b) (λb a f=>bx f 3 [sI a0.aop,sI a0.aos,sI i.aop,sL Ty.av i.aoq,sT a Tm.av b]) λj _ b d _ _ _ _ E e m z p=>?_;have⟨a,E,c⟩:=E;refine sw [20,0,18,9,0] ?_;intro h e m;refine Ad (f:=Tm.av) b [h] c x' e.2 ?_;simp[e];cases m;exact p _ _ _ ⟨(.loc 26 (d.fy 26+1)),abq,(On 26)⟩ z
@[reducible,instance] def agh:=gl 192 @Sx
def B9:C2 prog 191 nM Tm.av Tm.av sI:=by
 refine v2 func191 λT H a0 a1 r m e=>?_;rw[nM] at m;exact aa
def D8:C1 prog 140 pz Fm.av Fm.av:=by
 refine v1 func140 λT H a0 r m e=>?_;rw[pz] at m;simp[e];refine Ar m (mT T (st:=λ_:Unit=>H) (DC.const _) (λX _ _ _ _ _ h=>by obtain⟨a,rfl⟩:=vH h;exact B9 a)) λ_ _ m=>?_;exact au
def We:kK prog 193=true:=by kernel_rfl
set_option maxHeartbeats 4000000 in
def acx(x k idx:Nat)(w:World)(b:((x:Int)==0)=false)
  (key:bits BinOp.and IntKind.u32 (x:Int) (-(x:Int)%4294967296)*125613361%4294967296/134217728=(idx:Int))
  (hi:idx<32) (c:k<32) (a:w.cell? ⟨0,idx,none⟩=some (.int .u8 k)):Calls prog 193 #[.int .u32 x] w λe w'=>e=.returned (.int .i64 k)/\w'=w:=by
 go_enter func193,ntmps193
 go_wp2_with (simp only[key])
 go_ret
 exact⟨rfl,rfl⟩
set_option maxHeartbeats 4000000 in
def adE(w:World):Calls prog 193 #[.int .u32 0] w λe w'=>e=.returned (.int .i64 32)/\w'=w:=by
 go_enter func193,ntmps193
 go_wp2
 go_ret
 exact⟨rfl,rfl⟩
def acU(n:Int):IntKind.u32.wrap n=n%4294967296:=by simp[IntKind.wrap,IntKind.signed,IntKind.bits]
def agX(a b:Nat)(f:a<4294967296)(h:b<4294967296):bits .and .u32 (a:Int) (b:Int)=((a&&&b:Nat):Int):=by
 have i:a&&&b<2^32:=Nat.and_lt_two_pow _ VW
 have c:(BitVec.ofInt 32 (a:Int)).toNat=a:=by
  rw[akU];omega
 have d:(BitVec.ofInt 32 (b:Int)).toNat=b:=by
  rw[akU];omega
 show IntKind.u32.wrap ((BitVec.ofInt 32 (a:Int)&&&BitVec.ofInt 32 (b:Int)).toNat:Int)=_;rw[BitVec.toNat_and,c,d,acU];omega
def ag6(x a:Nat)(c:x<4294967296)(d:x≠0)(b:x&&&(4294967296-x)=a):bits BinOp.and IntKind.u32 (x:Int) (-(x:Int)%4294967296)*125613361%4294967296/134217728=((a*125613361%4294967296/134217728:Nat):Int):=by
 have f:-(x:Int)%4294967296=((4294967296-x:Nat):Int):=VW
 rw[f,agX x _ c VW,b];omega
def agx:∀j,j<32->lO[j]?=some ((Lib.deBruijn32tab.getD j 0:Nat):Int):=by decide+kernel
def vj(T:eK)(q:n8 T){H:dV}{a0 h:Int}(hm:mY a0=some h):eG prog T 193 [AV.sc (.int .u32 a0)] H (sI h) H:=by
 unfold mY at hm
 split at hm
 case isFalse=>cases hm
 rename_i j;obtain⟨x,rfl⟩:∃x:Nat,a0=(x:Int):=⟨a0.toNat,VW⟩;obtain rfl:=hU hm
 have k:x<2^32:=VW
 rw[BS];refine eG.ad6 We λG F w vs hg r=>?_
 obtain⟨v1,rfl,a⟩:∃v,vs=[v]/\gT F G H.length (AV.sc (.int .u32 (x:Int))) v:=by
  cases r with
  |cons a b=>cases b;exact⟨_,rfl,a⟩
 cases a;refine⟨_,.sc rfl,?_⟩
 by_cases c:x=0
 .subst c;exact(adE w).mono λe w' ⟨a,b⟩=>⟨a,by rw[b];exact akR _ _⟩
 .have⟨d,l⟩:=Lib.lowest_bit 32 x c k;have⟨hi,f⟩:=Lib.deBruijn32_at _ l;have s:=hg.CO 0 _ q.2.2;cases s with
  |mQ a b u=>
   have n:=agx _ hi;rw[f] at n;have⟨v,t,j⟩:=a.get (i:=2^Lib.ctz 32 x*125613361%4294967296/134217728) (x:=.sc (.int .u8 (Lib.ctz 32 x:Int))) (by simp[AV.cells,n]);cases j;have o:=hg.GL _ _ _ (b _ _ t);rw[vo] at o;exact(acx x (Lib.ctz 32 x) _ w abv (ag6 x _ k c d) hi l o).mono λe w' ⟨a,b⟩=>⟨a,by rw[b];exact akR _ _⟩
@[reducible,instance] def H6:=gl 193 @vj
def w4(T:eK)(i:n8 T){H:dV}{a0:Int}{d:List Int}(hm:lU a0=some d):eG prog T 141 [AV.sc (.int .u32 a0)] H (sL sI d) H:=by
 rw[lU] at hm;have e:=i;refine wi aou func141 [] [] 999 ?_;simp[e];refine Wn hm 999 (λs1 f h=>∃a,(h=H/\f.1 0=AV.sc (.int .u32 s1.1)/\f.1 3=sT a sI s1.2)/\Ow f [14] a s1.2) (by exact⟨.full,abq,hI.full⟩) (λs1 fr2 _ _ _ _ E m z p=>?_);have⟨j,v9⟩:=s1;have⟨a,E,b⟩:=E;have e:=Aj e E;dsimp only[iB]at m;apply Ir e m<;>intro e m
 .cases m;have m:=Qb z;dsimp only[iB]at m;exact au
 refine sw [0,1,9,0] ?_;intro c e m;refine Ao (f:=sI) v9 [c] b E9 e.2 ?_;simp[e];cases m;exact p _ _ _ ⟨(.loc 14 (fr2.fy 14+1)),abq,(On 14)⟩ z
def Iy(T:eK)(a:n8 T){H:dV}{a0:List Fm}{a1:Sq}{a2:Pf}{b:tk}{c:Int}(hm:nG a0 a1 a2=some (b,c)):eG prog T 101 [sL Fm.av a0,Sq.av a1,Pf.av a2] H (AV.tuple [tk.av b,sI c]) H:=by
 rw[nG] at hm;refine fv.rB (Post:=λx K=>x=AV.tuple [tk.av b,sI c]/\∃X,K=H++X) ?_ (λ_ _ h=>⟨_,h.2.choose_spec,by rw[h.1];simp[AV.low,AV.iy],h.1,rfl⟩);have e:=a;refine wi aou func101 [29] [] 999 ?_;simp[e];refine pX hm (Gc T a) λ_ m=>?_;refine sw [7,0] ?_;intro e m;refine pX m (Cy T a) λ_ m=>?_;refine sw [7,0] ?_;intro e m;refine pX m (IE T) λ_ m=>?_;simp[e];refine rm m Km λ_ m=>?_;simp[e];refine sh m (yY T a ⟨abq,abq⟩) λ_ _ m=>?_;refine sw [7,0] ?_;intro e m;refine rm m D8 λ_ m=>?_;simp[e];refine rm m (w4 T a) λ_ m=>?_;exact au
@[reducible,instance] def Yf:=gl 101 @Iy
def HD(T:eK)(b:n8 T){H:dV}{a0:Tm}{a1:Pf}{a:Int}(hm:kE a0 a1=some a):eG prog T 46 [Tm.av a0,Pf.av a1] H (sI a) H:=by
 rw[kE] at hm;have e:=b;refine wi aou func46 [] [] 999 ?_;have m:=hm;exact aa
@[reducible,instance] def XM:=gl 46 @HD
def NI:C1 prog 49 kM Pf.av sI:=by
 refine v1 func49 λT H a0 r m e=>?_;rw[kM] at m;exact au
@[reducible,instance] def adi:=gl 49 @NI
def El:C3 prog 47 jZ Pf.av Fm.av Pf.av Pf.av:=by
 refine v3 func47 λT H a0 a1 a2 r m e=>?_;rw[jZ] at m;have e:=Aj e (show AV.agg [sI 19,sI 0,sI 0,AV.slice .gK [],AV.slice .gK [],AV.slice .gK [Fm.av a0],AV.slice .gK [Pf.av a1,Pf.av a2]]=Pf.av (Pf.mk 19 0 (Ty.mk 0 []) [] [a0] [a1,a2]) by rw[Pf.fi];rfl);exact au
@[reducible,instance] def Vh:=gl 47 @El
def Ns:C2 prog 51 vT Pf.av Tm.av Pf.av:=by
 refine v2 func51 λT H a0 a1 r m e=>?_;rw[vT] at m;have e:=Aj e (show AV.agg [sI 9,sI 0,sI 0,AV.slice .gK [],AV.slice .gK [Tm.av a0],AV.slice .gK [],AV.slice .gK [Pf.av a1]]=Pf.av (Pf.mk 9 0 (Ty.mk 0 []) [a0] [] [a1]) by rw[Pf.fi];rfl);exact au
@[reducible,instance] def acY:=gl 51 @Ns
def T7:C2 prog 50 mL Pf.av sI (sL Pf.av):=by
 refine v2 func50 λT H a0 a1 r m e=>?_;rw[mL] at m;exact au
@[reducible,instance] def ahX:=gl 50 @T7
def IK(T:eK)(k:n8 T){H:dV}{a0:Tm}{a1:Pf}{a2:Tm}{a3:Pf}{b:Fm}{c:Pf}{d:Int}(hm:mh a0 a1 a2 a3=some (b,c,d)):eG prog T 12 [Tm.av a0,Pf.av a1,Tm.av a2,Pf.av a3] H (AV.tuple [Fm.av b,Pf.av c,sI d]) H:=by
 rw[mh] at hm;have e:=k;refine wi aou func12 [] [] 999 ?_;simp[e];have⟨i,a,m⟩:=nS hm;refine Wr e m 999 (λj _ f h=>h=H/\f.1 20=sT .full Tm.av i/\f.1 21=sI (eE i)/\f.1 22=sI j/\bx f 4 (Tm.av a0).cells/\bx f 5 (Pf.av a1).cells/\bx f 6 (Tm.av a2).cells/\bx f 7 (Pf.av a3).cells/\bx f 8 [sI 0,sI 0,nL,nL,nL]/\bx f 9 [sI 0,sI 0,sI 0,nL,nL,nL,nL]) (by(repeat' apply And.intro)<;>first|rfl|(rw[a];rfl)|simp[e,a,eE]) (λ_ _ _ _ E m=>?_) (λj _ _ _ _ _ _ _ E e m z p=>?_);rotate_left
 .exact aa
 exact aa
@[reducible,instance] def aaN:=gl 12 @IK
def OE{n:Nat}:C1 prog 127 (jm n) Ty.av Ty.av:=by
 refine i1 λn ih=>v1 func127 λT H a0 r m e=>?_;rw[jm] at m;simp[e];refine Td e m 999 9 [7,8] [1,2] [17] (λs2=>s2) (λs2 a f=>f.1 3=sT a Ty.av s2) λh _ s2 c _ _ _ _ E e m z p=>?_;have⟨a,E,b⟩:=E;refine sw [20,0,15,9,0] ?_;intro d e m;refine Ao (f:=Ty.av) s2 [d] b Fp e.2 ?_;simp[e];cases m;exact p _ _ _ ⟨(.loc 17 (c.fy 17+1)),abq,(On 17)⟩ z
@[reducible,instance] def adg:=gl 127 @OE
def NK{n:Nat}:C1 prog 123 (l6 n) Tm.av Tm.av:=by
 refine i1 λn ih=>v1 func123 λT H a0 r m e=>?_;rw[l6] at m;simp[e];refine Td e m 999 9 [7,8] [1,2] [17] (λs2=>s2) (λs2 a f=>f.1 3=sT a Tm.av s2) λh _ s2 c _ _ _ _ E e m z p=>?_;have⟨a,E,b⟩:=E;refine sw [20,0,15,9,0] ?_;intro d e m;refine Ao (f:=Tm.av) s2 [d] b x' e.2 ?_;simp[e];cases m;exact p _ _ _ ⟨(.loc 17 (c.fy 17+1)),abq,(On 17)⟩ z
@[reducible,instance] def adN:=gl 123 @NK
def F9:C2 prog 89 gV Tm.av sI (sL Tm.av):=by
 refine v2 func89 λT H a0 a1 r m e=>?_;rw[gV] at m;simp[e];refine Td e m 999 10 [0,8,9] [4] [18] (λs2=>s2) (λs2 a f=>f.1 5=sT a Tm.av s2) λh _ s2 c _ _ _ _ E e m z p=>?_;have⟨a,E,b⟩:=E;refine sw [20,0,1,9,0] ?_;intro d e m;refine Ao (f:=Tm.av) s2 [d] b x' e.2 ?_;simp[e];cases m;exact p _ _ _ ⟨(.loc 18 (c.fy 18+1)),abq,(On 18)⟩ z
@[reducible,instance] def aiH:=gl 89 @F9
def Hi:C1 prog 107 rv Tm.av sI:=by
 refine v1 func107 λT H a0 r m e=>?_;rw[rv] at m;refine sw [0,1,0] ?_;intro _ e m;refine Wn m 999 (λs2 f h=>∃a b,h=H/\f.1 0=sI s2.1/\bx f 2 [sI 0,sI 0,sI 0,nL,nL]/\bx f 3 [sI s2.2.1,sI s2.2.2.1,sI s2.2.2.2.1,sT a Ty.av s2.2.2.2.2.1,sT b Tm.av s2.2.2.2.2.2]) ⟨.gK,.gK,abq⟩ (λs2 _ _ _ _ _ E m z p=>?_);have⟨v10,v11,v12,c,d,i⟩:=s2;have⟨a,b,E⟩:=E;have e:=Aj e E;dsimp only[Bb]at m;apply Ir e m<;>intro e m
 .cases m;have m:=Qb z;dsimp only[Bb]at m;exact au
 simp[e];cases m;exact p _ _ _ ⟨.full,.full,abq⟩ z
@[reducible,instance] def X6:=gl 107 @Hi
def IZ:C1 prog 69 vw (t2 Tm.av sI) sI:=by
 refine v1 func69 λT H a0 r m e=>?_;rw[vw] at m;exact aa
@[reducible,instance] def abe:=gl 69 @IZ
def aae:C1 prog 21 xN Tm.av sI:=by
 refine v1 func21 λT H a0 r m e=>?_;rw[xN] at m;exact aa
@[reducible,instance] def ajE:=gl 21 @aae
def qQ(T:eK){H:dV}{a0 a b j:Tm}{q0 q1:Nat}(c:H[q0]?=some [sI a.aop,sI a.aos,sI a.dM.aop,sL Ty.av a.dM.aoq,sL Tm.av a.aoq])(d:H[q1]?=some [sI b.aop,sI b.aos,sI b.dM.aop,sL Ty.av b.dM.aoq,sL Tm.av b.aoq])(hm:ou a0 a b=some j):eG prog T 54 [Tm.av a0,AV.fg q0 0,AV.fg q1 0] H (Tm.av j) H:=by
 rw[ou] at hm;have f:=eZ c;have h:=eZ d;have e:=Aj (Aj (Aj f c) h) d;refine wi aou func54 [] [(1,true,[])] 999 ?_;have m:=hm;refine sw [0,4] ?_;intro i e m;have e:=Aj e (show AV.agg [sI 6,sI 0,sI i.aop,sL Ty.av i.aoq,AV.slice .gK [Tm.av a,Tm.av b,Tm.av a0]]=Tm.av (Tm.mk 6 0 i [a,b,a0]) by rw[Tm.fi];rfl);exact au
def De:C5 prog 57 og Pf.av sI Fm.av Tm.av Pf.av Pf.av:=by
 refine v5 func57 λT H a0 a1 a2 a3 a4 r m e=>?_;rw[og] at m;have e:=Aj e (show AV.agg [sI a0,sI 0,sI 0,AV.slice .gK [],AV.slice .gK [Tm.av a2],AV.slice .gK [Fm.av a1],AV.slice .gK [Pf.av a3,Pf.av a4]]=Pf.av (Pf.mk a0 0 (Ty.mk 0 []) [a2] [a1] [a3,a4]) by rw[Pf.fi];rfl);exact au
@[reducible,instance] def Ua:=gl 57 @De
def Kl(T:eK)(d:n8 T){H:dV}{a0 a1:Tm}{a:Fm}{b:Pf}{c:Int}(hm:zu a0 a1=some (a,b,c)):eG prog T 15 [Tm.av a0,Tm.av a1] H (AV.tuple [Fm.av a,Pf.av b,sI c]) H:=by
 rw[zu] at hm;refine fv.rB (Post:=λx K=>x=AV.tuple [Fm.av a,Pf.av b,sI c]/\∃X,K=H++X) ?_ (λ_ _ h=>⟨_,h.2.choose_spec,by rw[h.1];simp[AV.low,AV.iy],h.1,rfl⟩);have e:=d;refine wi aou func15 [2,3] [(1,true,[]),(4,true,[]),(8,true,[]),(9,true,[]),(10,true,[])] 999 ?_;have m:=hm;refine sw [0,4,0,4,13,0,4,0,4,0,4,0,4,0,4,13,0,4,0,4,0,4,0,4,0,4,8,0] ?_;intro _ _ _ _ _ _ _ _ _ _ _ _ f e m;refine gU.GP abE (qQ T abq abq e.2) abm ?_;refine sw [0,4,0,4,0,4,0,4,0,4,0,4,0,4,0,4,0,4,0,4,0,4,8,0] ?_;intro _ _ _ _ _ _ _ _ _ _ _ i e m;refine gU.GP abE (qQ T abq abq e.2) abm ?_;refine sw [0,4,0,4,0,4,0,4,8,0] ?_;intro _ _ _ _ j e m;refine gU.GP abE (qQ T abq abq e.2) abm ?_;refine sw [0,4,0,4,0,4,0,4,0,4,0,4,0,4,8,0] ?_;intro _ _ _ _ _ _ _ k e m;refine gU.GP abE (qQ T abq abq e.2) abm ?_;exact aa
@[reducible,instance] def Y3:=gl 15 @Kl
def ON:C0 prog 62 wC Ty.av:=by
 refine v0 func62 λT H r m e=>?_;rw[wC] at m;exact au
@[reducible,instance] def ade:=gl 62 @ON
def nK(T:eK){H:dV}{a0 a b j:Tm}{q0 q1:Nat}(c:H[q0]?=some [sI a.aop,sI a.aos,sI a.dM.aop,sL Ty.av a.dM.aoq,sL Tm.av a.aoq])(d:H[q1]?=some [sI b.aop,sI b.aos,sI b.dM.aop,sL Ty.av b.dM.aoq,sL Tm.av b.aoq])(hm:ll a0 a b=some j):eG prog T 63 [Tm.av a0,AV.fg q0 0,AV.fg q1 0] H (Tm.av j) H:=by
 rw[ll] at hm;have f:=eZ c;have h:=eZ d;have e:=Aj (Aj (Aj f c) h) d;refine wi aou func63 [] [(1,true,[])] 999 ?_;have m:=hm;refine sw [0,4] ?_;intro i e m;have e:=Aj e (show AV.agg [sI 9,sI 0,sI i.aop,sL Ty.av i.aoq,AV.slice .gK [Tm.av a,Tm.av b,Tm.av a0]]=Tm.av (Tm.mk 9 0 i [a,b,a0]) by rw[Tm.fi];rfl);exact au
def DA(T:eK)(d:n8 T){H:dV}{a0 a1:Tm}{a:Fm}{b:Pf}{c:Int}(hm:tV a0 a1=some (a,b,c)):eG prog T 18 [Tm.av a0,Tm.av a1] H (AV.tuple [Fm.av a,Pf.av b,sI c]) H:=by
 rw[tV] at hm;refine fv.rB (Post:=λx K=>x=AV.tuple [Fm.av a,Pf.av b,sI c]/\∃X,K=H++X) ?_ (λ_ _ h=>⟨_,h.2.choose_spec,by rw[h.1];simp[AV.low,AV.iy],h.1,rfl⟩);have e:=d;refine wi aou func18 [2,3] [(1,true,[]),(4,true,[]),(8,true,[]),(9,true,[]),(10,true,[])] 999 ?_;have m:=hm;refine sw [0,4,0,4,13,0,4,0,4,0,4,0,4,0,4,0,4,13,0,4,0,4,0,4,0,4,0,4,0,4,0,4,8,0] ?_;intro _ _ _ _ _ _ _ _ _ _ _ _ _ _ _ f e m;refine gU.GP abE (nK T abq abq e.2) abm ?_;refine sw [0,4,0,4,0,4,0,4,0,4,0,4,0,4,0,4,0,4,0,4,0,4,0,4,8,0] ?_;intro _ _ _ _ _ _ _ _ _ _ _ _ i e m;refine gU.GP abE (nK T abq abq e.2) abm ?_;refine sw [0,4,0,4,0,4,0,4,8,0] ?_;intro _ _ _ _ j e m;refine gU.GP abE (nK T abq abq e.2) abm ?_;refine sw [0,4,0,4,0,4,0,4,0,4,0,4,0,4,8,0] ?_;intro _ _ _ _ _ _ _ k e m;refine gU.GP abE (nK T abq abq e.2) abm ?_;exact aa
@[reducible,instance] def T0:=gl 18 @DA
def xe:C1 prog 88 gZ Tm.av sI:=by
 refine v1 func88 λT H a0 r m e=>?_;rw[gZ] at m;exact au
@[reducible,instance] def aeQ:=gl 88 @xe
def A5:C0 prog 94 jP Ty.av:=by
 refine v0 func94 λT H r m e=>?_;rw[jP] at m;exact au
@[reducible,instance] def aeV:=gl 94 @A5
def Xg:C3 prog 92 lS Tm.av sI Ty.av (sL Tm.av):=by
 refine v3 func92 λT H a0 a1 a2 r m e=>?_;rw[lS] at m;exact aa
@[reducible,instance] def aiY:=gl 92 @Xg
def P4:C1 prog 86 lv Tm.av Tm.av:=by
 refine v1 func86 λT H a0 r m e=>?_;rw[lv] at m;exact aa
@[reducible,instance] def ae1:=gl 86 @P4
def Qi:C3 prog 87 tH Tm.av Tm.av Tm.av Tm.av:=by
 refine v3 func87 λT H a0 a1 a2 r m e=>?_;rw[tH] at m;exact aa
@[reducible,instance] def aeU:=gl 87 @Qi
def OI:C0 prog 32 tK Tm.av:=by
 refine v0 func32 λT H r m e=>?_;rw[tK] at m;exact aa
@[reducible,instance] def adC:=gl 32 @OI
def En:C2 prog 66 rK Tm.av Ty.av Tm.av:=by
 refine v2 func66 λT H a0 a1 r m e=>?_;rw[rK] at m;have e:=Aj e (show AV.agg [sI 2,sI 0,sI a0.aop,sL Ty.av a0.aoq,AV.slice .gK [Tm.av a1]]=Tm.av (Tm.mk 2 0 a0 [a1]) by rw[Tm.fi];rfl);exact au
@[reducible,instance] def UL:=gl 66 @En
def lT(T:eK){H:dV}{a0:Tm}{a:Ty}{b c d s:Tm}{q0 q1 t u v:Nat}(f:H[q0]?=some [sI a.aop,sL Ty.av a.aoq])(h:H[q1]?=some [sI b.aop,sI b.aos,sI b.dM.aop,sL Ty.av b.dM.aoq,sL Tm.av b.aoq])(i:H[t]?=some [sI c.aop,sI c.aos,sI c.dM.aop,sL Ty.av c.dM.aoq,sL Tm.av c.aoq])(j:H[u]?=some [AV.func (.func 66) [] []])(k:H[v]?=some [sI d.aop,sI d.aos,sI d.dM.aop,sL Ty.av d.dM.aoq,sL Tm.av d.aoq])(hm:k_ a0 a b c d=some s):eG prog T 67 [Tm.av a0,AV.fg q0 0,AV.fg q1 0,AV.fg t 0,AV.fg u 0,AV.fg v 0] H (Tm.av s) H:=by
 rw[k_] at hm;have l:=eZ f;have n:=eZ h;have o:=eZ i;have q:=eZ j;have r:=eZ k;have e:=Aj (Aj (Aj (Aj (Aj (Aj (Aj (Aj (Aj l f) n) h) o) i) q) j) r) k;refine wi aou func67 [] [(1,true,[])] 999 ?_;have m:=hm;refine sw [0,4,0,4,0,4,0,4] ?_;intro w _ _ x e m;have e:=Aj e (show AV.agg [sI 6,sI 0,sI a.aop,sL Ty.av a.aoq,AV.slice .gK [Tm.av w,Tm.av x,Tm.av a0]]=Tm.av (Tm.mk 6 0 a [w,x,a0]) by rw[Tm.fi];rfl);exact au
def Eg:C1 prog 64 iM Tm.av Tm.av:=by
 refine v1 func64 λT H a0 r m e=>?_;rw[iM] at m;exact aa
@[reducible,instance] def Vv:=gl 64 @Eg
def DV:C1 prog 65 iL Tm.av Tm.av:=by
 refine v1 func65 λT H a0 r m e=>?_;rw[iL] at m;exact aa
@[reducible,instance] def VN:=gl 65 @DV
def s5(T:eK){H:dV}{a0:Tm}{a:Ty}{j:Fm}{q0 q1 k:Nat}(b:H[q0]?=some [AV.func (.func 64) [] []])(c:H[q1]?=some [AV.func (.func 65) [] []])(d:H[k]?=some [sI a.aop,sL Ty.av a.aoq])(hm:px a0 a=some j):eG prog T 68 [Tm.av a0,AV.fg q0 0,AV.fg q1 0,AV.fg k 0] H (Fm.av j) H:=by
 rw[px] at hm;have f:=eZ b;have h:=eZ c;have i:=eZ d;have e:=Aj (Aj (Aj (Aj (Aj f b) h) c) i) d;refine wi aou func68 [] [(2,true,[])] 999 ?_;have m:=hm;refine sw [0,1,0,4,0,4,0,4,0,4,0,4,0,4,0,4,0,4] ?_;intro _ _ _ _ l _ _ _ n e m;have e:=Aj e (show AV.agg [sI 2,sI 0,AV.slice .gK [],AV.slice .gK [],AV.slice .gK [Fm.av l,Fm.av n]]=Fm.av (Fm.mk 2 (Ty.mk 0 []) [] [l,n]) by rw[Fm.fi];rfl);exact aa
def G7(T:eK)(t:n8 T){H:dV}{a0 a1 a2:Tm}{c:Fm}{i:Pf}{j:Int}(hm:xT a0 a1 a2=some (c,i,j)):eG prog T 20 [Tm.av a0,Tm.av a1,Tm.av a2] H (AV.tuple [Fm.av c,Pf.av i,sI j]) H:=by
 rw[xT] at hm;refine fv.rB (Post:=λx K=>x=AV.tuple [Fm.av c,Pf.av i,sI j]/\∃X,K=H++X) ?_ (λ_ _ h=>⟨_,h.2.choose_spec,by rw[h.1];simp[AV.low,AV.iy],h.1,rfl⟩);have e:=t;refine wi aou func20 [] [(18,true,[]),(19,true,[]),(20,true,[]),(21,true,[]),(22,true,[]),(23,true,[]),(24,true,[]),(26,true,[])] 999 ?_;simp[e];have⟨n,b,m⟩:=nS hm;refine Wr e m 0 (λo _ f h=>h=H/\f.1 30=sT .full Tm.av n/\f.1 31=sI (eE n)/\f.1 32=sI o/\bx f 3 (Tm.av a0).cells/\bx f 4 (Tm.av a1).cells/\bx f 5 (Tm.av a2).cells/\bx f 6 [sI 0,sI 0,nL,nL,nL]/\bx f 7 [sI 0,sI 0,sI 0,nL,nL,nL,nL]) (by(repeat' apply And.intro)<;>first|rfl|(rw[b];rfl)|simp[e,b,eE]) (λ_ _ _ _ E m=>?_) (λo _ _ _ _ _ _ _ E e m z p=>?_);rotate_left
 .exact aa
 have e:=Aj e E;refine sg 10 [11,0,4,0,4,0,4,0,4,0,4,0,13] ?_;intro _ _ _ _ _ e m;refine sg 13 [0,1,0,1,0,4,0,4,0,4,0,4,0,4,0,4,0,4,0,4,0] ?_;intro k l _ _ _ _ _ _ _ a e m;refine CF 0 (d:=15) (cs:=[sI 3,AV.slice .full [Ty.av k,Ty.av l]]) abq abq ?_;refine CF 0 (d:=3) (cs:=[sI a0.aop,sI a0.aos,sI a0.dM.aop,sL Ty.av a0.dM.aoq,sL Tm.av a0.aoq]) abq abq ?_;refine CF 0 (d:=4) (cs:=[sI a1.aop,sI a1.aos,sI a1.dM.aop,sL Ty.av a1.dM.aoq,sL Tm.av a1.aoq]) abq abq ?_;refine CF 0 (d:=16) (cs:=[AV.func (.func 66) [] []]) abq abq ?_;refine CF 2 (d:=17) (cs:=[sI a.aop,sI a.aos,sI a.dM.aop,sL Ty.av a.dM.aoq,sL Tm.av a.aoq]) abq abq ?_;simp[e];refine CF 0 (d:=13) (cs:=[AV.func (.func 64) [] []]) abq abq ?_;refine CF 999 (d:=14) (cs:=[AV.func (.func 65) [] []]) abq abq ?_;refine sw [0,4,8,0] ?_;intro _ u e m;refine gU.GP abE (lT T abq abq abq abq abq e.2) abm ?_;refine sw [8,0] ?_;intro v e m;refine gU.GP abE (s5 T abq abq abq e.2) abm ?_;simp[e];refine zZ m λ_ m=>?_;simp[e];refine zZ m λ_ m=>?_;simp[e];refine zZ m λ_ m=>?_;simp[e];refine zZ m λ_ m=>?_;simp[e];refine zZ m λ_ m=>?_;simp[e];refine zZ m λ_ m=>?_;simp[e];refine zZ m λ_ m=>?_;simp[e];refine zZ m λ_ m=>?_;simp[e];refine zZ m λ_ m=>?_;simp[e];refine zZ m λ_ m=>?_;simp[e];refine zZ m λ_ m=>?_;simp[e];refine zZ m λ_ m=>?_;simp[e];refine zZ m λ_ m=>?_;simp[e];refine zZ m λ_ m=>?_;simp[e];refine zZ m λ_ m=>?_;simp[e];refine zZ m λ_ m=>?_;simp[e];refine zZ m λ_ m=>?_;simp[e];refine zZ m λ_ m=>?_;simp[e];refine zZ m λ_ m=>?_;simp[e];refine zZ m λ_ m=>?_;refine sw [0,4,0,4,0,4,0,4,0,4,0,4,0,4,0,4,0,4,0,4,0,4,0,4,0,4,0,4,0,4,8,0] ?_;intro _ _ _ _ _ _ _ _ _ _ _ _ _ _ _ w e m;refine gU.GP abE (lT T abq abq abq abq abq e.2) abm ?_;refine sw [0,4,0,4,0,4,0,4,0,4,0,4,0,4,0,4,0,4,0,4,8,0] ?_;intro _ _ _ _ _ _ _ _ _ _ y e m;refine gU.GP abE (lT T abq abq abq abq abq e.2) abm ?_;refine sw [8,0] ?_;intro A e m;refine gU.GP abE (s5 T abq abq abq e.2) abm ?_;refine sw [0,4,0,4,0,4,0,4,8,0] ?_;intro _ _ _ _ B e m;refine gU.GP abE (lT T abq abq abq abq abq e.2) abm ?_;refine sw [0,4,0,4,0,4,0,4,0,4,0,4,0,4,0,4,0,4,8,0] ?_;intro _ _ _ _ _ _ _ _ _ q e m;refine gU.GP abE (lT T abq abq abq abq abq e.2) abm ?_;refine sw [8,0] ?_;intro r e m;refine gU.GP abE (s5 T abq abq abq e.2) abm ?_;refine sw [0,4,0,4,0,4,0,4,0,4,0,4,8,0] ?_;intro _ _ _ _ _ _ s e m;refine gU.GP abE (lT T abq abq abq abq abq e.2) abm ?_;exact aa
@[reducible,instance] def XO:=gl 20 @G7
def LJ{n:Nat}:C1 prog 164 (qj n) sB Ty.av:=by
 refine i1 λn ih=>u1 4 func164 λT H a0 r m e=>?_;rw[qj] at m;simp[e];refine C9 m 3 999 (λa f h=>∃v2,(h=H/\f.1 3=sI v2/\bx f 1 (Ty.av a0).cells)/\a v2=some r) ?_ (λa _ g m=>?_)
 .rintro _ _ ⟨v2,E,m⟩;refine sw [10,7,0] ?_;intro e m;refine Wr e m 999 (λb _ f h=>h=H/\f.1 21=sL Ty.av a0.aoq/\f.1 22=sI (eE a0.aoq)/\f.1 23=sI b) abq (λ_ _ _ _ E m=>?_) (λb _ _ _ _ _ _ _ E e m z p=>?_)
  .exact aa
  exact aa
 simp[e];refine wj 999 0 (λf h=>h=H/\f.1 3=sI 0/\f.1 7=sI a0.aop/\f.1 8=sB (fq (eo a0.aop 1) true (fq (eo a0.aop 2) true (eo a0.aop 5)))/\bx f 1 (Ty.av a0).cells) (λ_ g=>?_) ?_
 .rcases Pb (eo a0.aop 1) e with e|e
  .exact aj
  rcases Pb (eo a0.aop 2) e with e|e
  .exact aj
  exact aj
 rintro _ _ E;have e:=Aj e E;apply Iq e m<;>intro e m
 .apply wg 999;exact iJ
 apply wg 1;simp[e];refine wj 999 999 (λf h=>h=H/\f.1 12=sB (fq (eo a0.aop 3) true (eo a0.aop 4))/\bx f 1 (Ty.av a0).cells) (λ_ g=>?_) ?_
 .rcases Pb (eo a0.aop 3) e with e|e
  .exact aj
  exact aj
 rintro _ _ E;refine sw [10,12] ?_;intro e m;exact iJ
@[reducible,instance] def ab_:=gl 164 @LJ
def NX{n:Nat}:C1 prog 165 (qp n) sI Ty.av:=by
 refine i1 λn ih=>v1 func165 λT H a0 r m e=>?_;rw[qp] at m;simp[e];exact Wb e m 999 9 [7,8] [] (λs2 f=>f.1 3=sI s2)
@[reducible,instance] def ad9:=gl 165 @NX
def uk:C1 prog 121 jj sI Ty.av:=by
 refine v1 func121 λT H a0 r m e=>?_;rw[jj] at m;exact aa
@[reducible,instance] def abw:=gl 121 @uk
def Hb:C1 prog 117 mq sI (sL Ty.av):=by
 refine v1 func117 λT H a0 r m e=>?_;rw[mq] at m;refine sw [7,0] ?_;intro e m;exact Wb e m 999 11 [9,10] [] nI
@[reducible,instance] def XI:=gl 117 @Hb
def vq:C1 prog 200 qa sB Ty.av:=by
 refine u1 2 func200 λT H a0 r m e=>?_;rw[qa] at m;simp[e];refine wB 999 999 [] [] (λf=>f.1 2=sB (fq (eo a0.aop 0) (eo (eE a0.aoq) 0) false)) λ_ g=>?_;exact aa
def NC:C1 prog 270 vZ sI sI:=by
 refine u1 6 func270 λT H a0 r m e=>?_;rw[vZ] at m;simp[e];refine wA 999 0 [3] [] (λf=>f.1 4=sB (fq (eo a0 1) true (fq (eo a0 4) true (fq (eo a0 7) true (eo a0 13))))) [13] (λ_ g=>?_) ?_
 .rcases Pb (eo a0 1) e with e|e
  .exact aj
  rcases Pb (eo a0 4) e with e|e
  .exact aj
  rcases Pb (eo a0 7) e with e|e
  .exact aj
  exact aj
 intro _ e m;apply wg 1;simp[e];refine wA 999 0 [3] [] (λf=>f.1 9=sB (fq (eo a0 2) true (fq (eo a0 5) true (fq (eo a0 11) true (eo a0 12))))) [13] (λ_ g=>?_) ?_
 .rcases Pb (eo a0 2) e with e|e
  .exact aj
  rcases Pb (eo a0 5) e with e|e
  .exact aj
  rcases Pb (eo a0 11) e with e|e
  .exact aj
  exact aj
 intro _ e m;apply wg 1;simp[e];refine wA 999 0 [3] [] (λf=>f.1 14=sB (fq (eo a0 3) true (fq (eo a0 8) true (eo a0 10)))) [13] (λ_ g=>?_) ?_
 .rcases Pb (eo a0 3) e with e|e
  .exact aj
  rcases Pb (eo a0 8) e with e|e
  .exact aj
  exact aj
 intro _ e m;apply wg 1;simp[e];refine wB 999 999 [] [] (λf=>f.1 18=sB (fq (eo a0 6) true (eo a0 9))) λ_ g=>?_;rcases Pb (eo a0 6) e with e|e
 .exact aj
 exact aj
def xU{n:Nat}:C1 prog 201 (k9 n) sB Tm.av:=by
 refine i1 λn ih=>u1 3 func201 λT H a0 r m e=>?_;rw[k9] at m;simp[e];refine WA m 999 0 [] [1] (λv2 f=>f.1 26=sB v2) [13] (λd _ g m=>?_) ?_
 .simp[e];refine rm m NC λ_ m=>?_;apply Iq e m<;>intro e m
  .exact iJ
  apply Iq e m<;>intro e m
  .exact iJ
  apply Ir e m<;>intro e m
  .exact iJ
  exact iJ
 intro _ v2 e m;apply wg 2;simp[e];refine C9 m 3 999 (λb f h=>(h=H/\f.1 1=AV.h9 1 (f.gen 1) 0/\f.box 1=some (Tm.av a0).cells)/\b=some r) ?_ (λb _ g m=>?_)
 .rintro _ _ ⟨E,m⟩;have e:=Aj e E;simp[e];refine Wr e m 999 (λa _ f h=>h=H/\f.1 42=sL Tm.av a0.aoq/\f.1 43=sI (eE a0.aoq)/\f.1 44=sI a) abq (λ_ _ _ _ E m=>?_) (λa _ _ _ _ _ _ _ E e m z p=>?_)
  .exact aa
  exact aa
 simp[e];refine wj 999 999 (λf h=>h=H/\f.1 33=sB (fq (eo a0.aop 2) true (fq (eo a0.aop 6) true (eo a0.aop 9)))/\bx f 1 (Tm.av a0).cells) (λc g=>?_) ?_
 .rcases Pb (eo a0.aop 2) e with e|e
  .exact aj
  rcases Pb (eo a0.aop 6) e with e|e
  .exact aj
  exact aj
 rintro _ _ E;have e:=Aj e E;apply Iq e m<;>intro e m
 .simp[e];refine pX m uk λ_ m=>?_;refine Il e m λe m=>?_;exact ak0
 simp[e];refine pX m vq λ_ m=>?_;refine Im e m λe m=>?_;exact ak0
@[reducible,instance] def acm:=gl 201 @xU
def wL:C1 prog 267 lA sB sI:=by
 refine u1 2 func267 λT H a0 r m e=>?_;rw[lA] at m;simp[e];refine wB 999 999 [] [] (λf=>f.1 2=sB (fq (eo a0 4) true (fq (eo a0 5) true (fq (eo a0 6) true (eo a0 7))))) λ_ g=>?_;rcases Pb (eo a0 4) e with e|e
 .exact aj
 rcases Pb (eo a0 5) e with e|e
 .exact aj
 rcases Pb (eo a0 6) e with e|e
 .exact aj
 exact aj
@[reducible,instance] def Sj:=gl 267 @wL
def LB{n:Nat}:C1 prog 196 (ml n) sB Fm.av:=by
 refine i1 λn ih=>u1 7 func196 λT H a0 r m e=>?_;rw[ml] at m;apply Iq e m<;>intro e m
 .simp[e];refine WB m 999 999 [] [] (λv2 f=>f.1 2=sB v2) λj _ g m=>?_;apply Ir e m<;>intro e m
  .exact iJ
  simp[e];refine pX m vq λ_ m=>?_;apply Ir e m<;>intro e m
  .exact iJ
  apply Ir e m<;>intro e m
  .exact iJ
  refine sw [8,0] ?_;intro k e m;refine pX m xU λ_ m=>?_;apply Ir e m<;>intro e m
  .exact iJ
  refine sw [8,0] ?_;intro l e m;refine pX m xU λ_ m=>?_;exact iJ
 simp[e];refine wA 999 0 [] [1] (λf=>f.1 36=sB (fq (eo a0.aop 2) true (eo a0.aop 3))) [] (λ_ g=>?_) ?_
 .exact aa
 intro _ e m;apply Ir e m<;>intro e m
 .refine sg 3 [0,1,0,14] ?_;intro _ e m;apply wg 1;simp[e];refine WB m 999 999 [] [] (λa f=>f.1 2=sB a) λb _ g m=>?_;apply Ir e m<;>intro e m
  .exact iJ
  simp[e];refine pX m uk λ_ m=>?_;apply Ir e m<;>intro e m
  .exact iJ
  apply Ir e m<;>intro e m
  .exact iJ
  refine sw [8,0,15] ?_;intro c _ e m;exact iJ
 apply wg 1;simp[e];refine WB m 999 999 [] [] (λv24 f=>f.1 2=sB v24) λd _ g m=>?_;apply Ir e m<;>intro e m
 .exact iJ
 simp[e];refine pX m vq λ_ m=>?_;apply Ir e m<;>intro e m
 .exact iJ
 apply Ir e m<;>intro e m
 .exact iJ
 refine sw [8,0,15] ?_;intro h _ e m;apply Ir e m<;>intro e m
 .exact iJ
 refine sw [8,0,15] ?_;intro i _ e m;exact iJ
@[reducible,instance] def aby:=gl 196 @LB
def Ly{n:Nat}:C1 prog 226 (gj n) sI Tm.av:=by
 refine i1 λn ih=>v1 func226 λT H a0 r m e=>?_;rw[gj] at m;simp[e];exact Wb e m 999 9 [7,8] [] (λs2 f=>f.1 3=sI s2)
@[reducible,instance] def abn:=gl 226 @Ly
def Lj{n:Nat}:C1 prog 197 (my n) sI Fm.av:=by
 refine i1 λn ih=>v1 func197 λT H a0 r m e=>?_;rw[my] at m;simp[e];refine Wa e m 999 11 [9,10] [1] (λs2 f=>f.1 3=sI s2) [11,0] ?_;intro _ s2 e m;exact Wb e m 999 23 [21,22] [] (λa f=>f.1 3=sI a)
@[reducible,instance] def acf:=gl 197 @Lj
def KJ:C1 prog 144 km sI Fm.av:=by
 refine v1 func144 λT H a0 r m e=>?_;rw[km] at m;exact aa
@[reducible,instance] def abu:=gl 144 @KJ
def Cz:C1 prog 160 mr sI Tm.av:=by
 refine v1 func160 λT H a0 r m e=>?_;rw[mr] at m;exact aa
@[reducible,instance] def ab7:=gl 160 @Cz
def su:C2 prog 126 m5 Ty.av Ty.av Ty.av:=by
 refine v2 func126 λT H a0 a1 r m e=>?_;rw[m5] at m;refine sw [0,4,0,4] ?_;intro a b e m;have e:=Aj e (show AV.agg [sI 4,AV.slice .gK [Ty.av a,Ty.av b]]=Ty.av (Ty.mk 4 [a,b]) by rw[Ty.fi];rfl);exact au
@[reducible,instance] def afW:=gl 126 @su
def TV:C1 prog 227 uE (t2 Ty.av sI) Ty.av:=by
 refine v1 func227 λT H a0 r m e=>?_;rw[uE] at m;exact aa
@[reducible,instance] def ahC:=gl 227 @TV
def DE:C0 prog 95 mO Ty.av:=by
 refine v0 func95 λT H r m e=>?_;rw[mO] at m;exact au
@[reducible,instance] def adr:=gl 95 @DE
def jv{n:Nat}:C2 prog 79 (fO n) sB Ty.av Ty.av:=by
 refine i2 λn ih=>u2 3 func79 λT H a0 a1 r m e=>?_;rw[fO] at m;simp[e];refine wA 999 999 [] [2,3] (λf=>f.1 19=sB (fq (eR a0.aop a1.aop) true (eR (eE a0.aoq) (eE a1.aoq)))) [7,0] (λ_ g=>?_) ?_
 .exact aa
 intro _ e m;exact Wb e m 999 23 [22] [2,3] nI
@[reducible,instance] def aed:=gl 79 @jv
def PQ:C2 prog 125 tP Ty.av Ty.av Ty.av:=by
 refine v2 func125 λT H a0 a1 r m e=>?_;rw[tP] at m;refine sw [0,4,0,4] ?_;intro a b e m;have e:=Aj e (show AV.agg [sI 3,AV.slice .gK [Ty.av a,Ty.av b]]=Ty.av (Ty.mk 3 [a,b]) by rw[Ty.fi];rfl);exact au
@[reducible,instance] def afE:=gl 125 @PQ
def OZ:C0 prog 124 tU Ty.av:=by
 refine v0 func124 λT H r m e=>?_;rw[tU] at m;exact au
@[reducible,instance] def adK:=gl 124 @OZ
def LN{n:Nat}:C2 prog 161 (fU n) (t2 Ty.av sI) (sL Ty.av) Tm.av:=by
 refine i2 λn ih=>v2 func161 λT H a0 a1 r m e=>?_;rw[fU] at m;refine sw [13] ?_;intro e m;apply Iq e m<;>intro e m
 .refine sw [9,0] ?_;intro e m;refine Ad (f:=Ty.av) a0 [a1.dM] (hI.full (D:=[])) Fp e.2 ?_;exact aa
 simp[e];refine XZ e m 0 (λA c f h=>∃a,(h=H/\f.1 0=sL Ty.av a0/\f.1 8=sT a Ty.av c/\f.1 67=sL Tm.av a1.aoq/\f.1 68=sI (eE a1.aoq)/\f.1 69=sI A/\bx f 3 (Tm.av a1).cells/\bx f 4 [sI 0,nL])/\Ow f [86] a c) (by exact⟨.full,abq,hI.full⟩) (λA _ c j _ _ _ _ E e m z p=>?_) (λc j _ _ E m=>?_)
 .have⟨a,E,b⟩:=E;have e:=Aj e E;refine sg 999 [0,16,7,9,0] ?_;intro u _ e m;refine Ao (f:=Ty.av) c [u] b Fp e.2 ?_;simp[e];cases m;exact p _ _ _ ⟨(.loc 86 (j.fy 86+1)),abq,(On 86)⟩ z
 have⟨a,E,b⟩:=E;have e:=Aj e E;refine sg 13 [11,0,1,0,1,0] ?_;intro _ v e m;apply Iq e m<;>intro e m
 .apply wg 2;simp[e];refine C9 m 999 999 (λo f h=>∃v24 d,(h=H/\f.1 8=sT d Ty.av c/\f.1 111=sB v24/\bx f 4 [sI 0,nL])/\Ow f [86] d c/\o v24=some r) ?_ (λo _ g m=>?_)
  .rintro _ _ ⟨v24,d,E,w,m⟩;exact aa
  have⟨B,e,m⟩:=Kv e m;apply Iq e m<;>intro e m
  .simp[e];exact g _ _ ⟨true,a,abq,b,m⟩
  refine sw [8,8,0,4,0] ?_;intro C F x e m;exact g _ _ ⟨(lF x),a,abq,b,m⟩
 refine sg 3 [0,13] ?_;intro e m;refine sg 3 [0,13] ?_;intro e m;apply wg 3;simp[e];apply Iq e m<;>intro e m
 .apply wg 2;simp[e];refine C9 m 999 999 (λq f h=>∃v37,(h=H/\f.1 162=sB v37/\bx f 3 (Tm.av a1).cells/\bx f 4 [sI 0,nL])/\q v37=some r) ?_ (λq _ g m=>?_)
  .rintro _ _ ⟨v37,E,m⟩;exact aa
  refine sw [8,0] ?_;intro G e m;refine rm m jv λ_ m=>?_;apply Ir e m<;>intro e m
  .exact iJ
  refine sw [8,0] ?_;intro I e m;refine rm m su λ_ m=>?_;simp[e];refine rm m su λ_ m=>?_;simp[e];refine rm m jv λ_ m=>?_;apply Ir e m<;>intro e m
  .exact iJ
  refine sw [8,0] ?_;intro J e m;refine rm m jv λ_ m=>?_;exact iJ
 refine sg 3 [0,13] ?_;intro e m;apply wg 3;simp[e];apply Iq e m<;>intro e m
 .apply wg 2;simp[e];refine C9 m 999 999 (λs f h=>∃k,(h=H/\f.1 185=sB k/\bx f 4 [sI 0,nL]/\bx f 14 (Ty.av v).cells)/\s k=some r) ?_ (λs _ g m=>?_)
  .rintro _ _ ⟨k,E,m⟩;exact aa
  refine sw [8,0] ?_;intro K e m;refine rm m jv λ_ m=>?_;apply Ir e m<;>intro e m
  .exact iJ
  refine sw [8,0] ?_;intro L e m;refine rm m jv λ_ m=>?_;exact iJ
 apply wg 3;simp[e];apply Iq e m<;>intro e m
 .apply wg 2;simp[e];refine C9 m 999 999 (λt f h=>∃l,(h=H/\f.1 220=sB l/\bx f 3 (Tm.av a1).cells/\bx f 4 [sI 0,nL])/\t l=some r) ?_ (λt _ g m=>?_)
  .rintro _ _ ⟨l,E,m⟩;exact aa
  refine sw [8,0] ?_;intro M e m;refine rm m jv λ_ m=>?_;apply Ir e m<;>intro e m
  .exact iJ
  refine sw [8,0] ?_;intro N e m;refine rm m su λ_ m=>?_;simp[e];refine rm m su λ_ m=>?_;simp[e];refine rm m su λ_ m=>?_;simp[e];refine rm m jv λ_ m=>?_;apply Ir e m<;>intro e m
  .exact iJ
  refine sw [8,0] ?_;intro O e m;refine rm m jv λ_ m=>?_;exact iJ
 refine sg 3 [0,13] ?_;intro e m;apply wg 1;simp[e];refine wj 999 0 (λf h=>∃i,(h=H/\f.1 8=sT i Ty.av c/\f.1 237=sB (fq (eo a1.aop 11) true (eo a1.aop 12))/\bx f 3 (Tm.av a1).cells/\bx f 4 [sI 0,nL])/\Ow f [86] i c) (λ_ g=>?_) ?_
 .rcases Pb (eo a1.aop 11) e with e|e
  .simp[e];exact g _ _ ⟨a,abq,b⟩
  simp[e];exact g _ _ ⟨a,abq,b⟩
 rintro _ _ ⟨i,E,y⟩;exact aa
@[reducible,instance] def abL:=gl 161 @LN
def L3:C2 prog 118 qx (t2 Ty.av sI) (sL Ty.av) Tm.av:=by
 refine v2 func118 λT H a0 a1 r m e=>?_;rw[qx] at m;exact aa
@[reducible,instance] def acn:=gl 118 @L3
def Lo{n:Nat}:C2 prog 195 (ns n) sI (sL Ty.av) Fm.av:=by
 refine i2 λn ih=>v2 func195 λT H a0 a1 r m e=>?_;rw[ns] at m;simp[e];refine XZ e m 0 (λk _ f h=>h=H/\f.1 0=sL Ty.av a0/\f.1 13=sL Tm.av a1.ek/\f.1 14=sI (eE a1.ek)/\f.1 15=sI k/\bx f 3 (Fm.av a1).cells) abq (λk _ _ d _ _ _ _ E e m z p=>?_) (λ_ d _ _ E m=>?_)
 .exact aa
 have e:=Aj e E;refine sg 5 [11,0] ?_;intro e m;refine Wj m 999 999 (λi f h=>∃c b,(h=H/\f.1 0=sT b Ty.av c/\f.1 3=AV.h9 3 (f.gen 3) 0/\f.box 3=some (Fm.av a1).cells)/\i c=some r) (λi _ g m=>?_) ?_
 .refine sw [0,1] ?_;intro _ e m;apply Ir e m<;>intro e m
  .simp[e];exact g _ _ ⟨_,.gK,abq,m⟩
  refine sw [9,0] ?_;intro e m;refine Ad (f:=Ty.av) a0 [a1.dM] (hI.full (D:=[])) Fp e.2 ?_;simp[e];exact g _ _ ⟨_,(.loc 44 (d.fy 44+1)),abq,m⟩
 rintro _ _ ⟨c,b,E,m⟩;have e:=Aj e E;simp[e];refine Wr e m 999 (λj _ f h=>∃a,h=H/\f.1 0=sT a Ty.av c/\f.1 46=sL Fm.av a1.aoq/\f.1 47=sI (eE a1.aoq)/\f.1 48=sI j) ⟨b,abq⟩ (λ_ _ _ _ E m=>?_) (λj _ _ _ _ _ _ _ E e m z p=>?_)
 .have⟨a,E⟩:=E;exact aa
 have⟨a,E⟩:=E;refine sw [10,0,15,7,0] ?_;intro _ e m;cases m;exact p _ _ _ ⟨a,abq⟩ z
@[reducible,instance] def ab3:=gl 195 @Lo
def Lb:C2 prog 143 mu sI (sL Ty.av) Fm.av:=by
 refine v2 func143 λT H a0 a1 r m e=>?_;rw[mu] at m;exact aa
@[reducible,instance] def acj:=gl 143 @Lb
def CC:C2 prog 103 lL sI (sL Ty.av) Fm.av:=by
 refine v2 func103 λT H a0 a1 r m e=>?_;rw[lL] at m;exact aa
@[reducible,instance] def ab':=gl 103 @CC
def G6:C2 prog 108 ue sI (sL Fm.av) Sq.av:=by
 refine v2 func108 λT H a0 a1 r m e=>?_;rw[ue] at m;refine sw [7,0] ?_;intro e m;refine Wa e m 999 17 [15,16] [3] nI [11,0,1,7,7,0] ?_;intro _ _ _ e m;exact Wb e m 999 40 [38,39] [3] nI
@[reducible,instance] def XY:=gl 108 @G6
def LO:C1 prog 199 qf (t2 fw.av sB) sI:=by
 refine u1 6 func199 λT H a0 r m e=>?_;rw[qf] at m;simp[e];refine wA 999 0 [4] [2] (λf=>f.1 5=sB (fq (eo a0 1) true (eo a0 2))) [13] (λ_ g=>?_) ?_
 .rcases Pb (eo a0 1) e with e|e
  .exact aj
  exact aj
 intro _ e m;apply wg 1;simp[e];refine wA 999 0 [4] [2] (λf=>f.1 9=sB (fq (eo a0 3) true (eo a0 7))) [13] (λ_ g=>?_) ?_
 .rcases Pb (eo a0 3) e with e|e
  .exact aj
  exact aj
 intro _ e m;apply wg 1;simp[e];refine wA 999 0 [4] [2] (λf=>f.1 13=sB (fq (eo a0 4) true (fq (eo a0 5) true (eo a0 20)))) [13] (λ_ g=>?_) ?_
 .rcases Pb (eo a0 4) e with e|e
  .exact aj
  rcases Pb (eo a0 5) e with e|e
  .exact aj
  exact aj
 intro _ e m;refine sg 3 [0,13] ?_;intro e m;apply wg 1;simp[e];refine wA 999 0 [4] [2] (λf=>f.1 21=sB (fq (eo a0 8) true (eo a0 12))) [13] (λ_ g=>?_) ?_
 .rcases Pb (eo a0 8) e with e|e
  .exact aj
  exact aj
 intro _ e m;apply wg 1;simp[e];refine wA 999 0 [4] [2] (λf=>f.1 25=sB (fq (eo a0 9) true (eo a0 13))) [13] (λ_ g=>?_) ?_
 .rcases Pb (eo a0 9) e with e|e
  .exact aj
  exact aj
 intro _ e m;apply wg 1;simp[e];refine wA 999 0 [4] [2] (λf=>f.1 29=sB (fq (eo a0 10) true (eo a0 14))) [13] (λ_ g=>?_) ?_
 .rcases Pb (eo a0 10) e with e|e
  .exact aj
  exact aj
 intro _ e m;apply wg 1;simp[e];refine wA 999 0 [4] [2] (λf=>f.1 33=sB (fq (eo a0 11) true (eo a0 15))) [13] (λ_ g=>?_) ?_
 .rcases Pb (eo a0 11) e with e|e
  .exact aj
  exact aj
 intro _ e m;apply wg 1;simp[e];refine wA 999 999 [4] [2] (λf=>f.1 37=sB (fq (eo a0 16) true (eo a0 17))) [] (λ_ g=>?_) ?_
 .rcases Pb (eo a0 16) e with e|e
  .exact aj
  exact aj
 intro _ e m;exact aa
@[reducible,instance] def abI:=gl 199 @LO
def L0{n:Nat}:C1 prog 146 (oH n) sB Pf.av:=by
 refine i1 λn ih=>u1 5 func146 λT H a0 r m e=>?_;rw[oH] at m;refine sw [0,2,0] ?_;intro a b e m;refine wA 999 0 [] [1,3] (λf=>f.1 57=sB (fq b (fq (eR (eE a0.ek) a.ek) true (fq (eR (eE a0.gh) a.gh) true (fq (eR (eE a0.aoq) a.aoq) true (fq (pH a0.aos 0) true (fq a.aos false (eR a0.aos 0)))))) true)) [13] (λ_ g=>?_) ?_
 .rcases Pb b e with e|e;rotate_left
  .exact aj
  rcases Pb (eR (eE a0.ek) a.ek) e with e|e
  .exact aj
  rcases Pb (eR (eE a0.gh) a.gh) e with e|e
  .exact aj
  rcases Pb (eR (eE a0.aoq) a.aoq) e with e|e
  .exact aj
  rcases Pb (pH a0.aos 0) e with e|e
  .exact aj
  rcases Pb a.aos e with e|e
  .exact aj
  exact aj
 intro _ e m;apply wg 3;simp[e];refine WA m 999 999 [] [1] (λc f=>f.1 76=sB c) [7,0] (λd _ g m=>?_) ?_
 .apply Ir e m<;>intro e m
  .simp[e];refine pX m vq λ_ m=>?_;exact iJ
  simp[e];refine pX m uk λ_ m=>?_;apply Iq e m<;>intro e m
  .exact iJ
  exact iJ
 intro _ c e m;refine Wa e m 999 80 [78,79] [1] nI [11,0] ?_;intro _ _ e m;refine Wa e m 999 91 [89,90] [1] nI [11,0] ?_;intro _ _ e m;exact Wb e m 999 102 [100,101] [] nI
@[reducible,instance] def ab2:=gl 146 @L0
def KT{n:Nat}:C1 prog 202 (r_ n) sB Pf.av:=by
 refine i1 λn ih=>v1 func202 λT H a0 r m e=>?_;rw[r_] at m;simp[e];refine Wa e m 999 12 [10,11] [1] nI [11,0] ?_;intro _ _ e m;refine Wa e m 999 23 [21,22] [1] nI [11,0] ?_;intro _ _ e m;exact Wb e m 999 34 [32,33] [] nI
def KZ{n:Nat}:C1 prog 203 (sd n) sI Pf.av:=by
 refine i1 λn ih=>v1 func203 λT H a0 r m e=>?_;rw[sd] at m;simp[e];refine Wa e m 999 13 [11,12] [1] (λs2 f=>f.1 3=sI s2) [11,0] ?_;intro _ s2 e m;refine Wa e m 999 25 [23,24] [1] (λa f=>f.1 3=sI a) [11,0] ?_;intro _ a e m;exact Wb e m 999 37 [35,36] [] (λb f=>f.1 3=sI b)
def Ou:C1 prog 147 y5 sB Pf.av:=by
 refine u1 2 func147 λT H a0 r m e=>?_;rw[y5] at m;simp[e];refine WB m 999 999 [] [] (λv2 f=>f.1 2=sB v2) λa _ g m=>?_;simp[e];refine pX m KT λ_ m=>?_;apply Ir e m<;>intro e m
 .exact iJ
 simp[e];refine pX m KZ λ_ m=>?_;exact iJ
@[reducible,instance] def ad2:=gl 147 @Ou
def KQ:C1 prog 109 uN sI Pf.av:=by
 refine v1 func109 λT H a0 r m e=>?_;rw[uN] at m;exact aa
@[reducible,instance] def abC:=gl 109 @KQ
def Nl{n:Nat}:C1 prog 111 (l0 n) Fm.av Fm.av:=by
 refine i1 λn ih=>v1 func111 λT H a0 r m e=>?_;rw[l0] at m;refine sw [0,4,0] ?_;intro t e m;refine Tc e m 999 17 [15,16] [1,2] [26] (λl=>l) (λl c f=>bx f 3 [sI a0.aop,sI t.aop,sL Ty.av t.aoq,sT c Tm.av l,nL]) [11,0] (λw _ l q _ _ _ _ E e m z p=>?_) ?_
 .have⟨c,E,i⟩:=E;refine sw [20,0,4,9,0] ?_;intro u e m;refine Ad (f:=Tm.av) l [u] i x' e.2 ?_;simp[e];cases m;exact p _ _ _ ⟨(.loc 26 (q.fy 26+1)),abq,(On 26)⟩ z
 intro q l c i e m;refine Wr e m 999 (λs j f h=>∃a b,(h=H/\f.1 30=sL Fm.av a0.aoq/\f.1 31=sI (eE a0.aoq)/\f.1 32=sI s/\bx f 2 [sI 0,sI 0,nL,nL,nL]/\bx f 3 [sI a0.aop,sI t.aop,sL Ty.av t.aoq,sT a Tm.av l,sT b Fm.av j])/\Ow f [26] a l/\Ow f [41] b j) (by exact⟨c,.full,abq,i,hI.full⟩) (λj o _ _ E m=>?_) (λs _ j o _ _ _ _ E e m z p=>?_)
 .have⟨a,b,E,k,d⟩:=E;exact aa
 have⟨a,b,E,k,d⟩:=E;refine sw [10,0,18,9,0] ?_;intro v e m;refine Ad (f:=Fm.av) j [v] d La e.2 ?_;simp[e];cases m;exact p _ _ _ ⟨a,(.loc 41 (o.fy 41+1)),abq,(hI.other k d aal aal),(On 41)⟩ z
@[reducible,instance] def ad5:=gl 111 @Nl
def Gz:C3 prog 204 BI Fm.av sI Fm.av Fm.av:=by
 refine v3 func204 λT H a0 a1 a2 r m e=>?_;rw[BI] at m;refine sw [0,4,0,4] ?_;intro a b e m;have e:=Aj e (show AV.agg [sI a0,sI 0,AV.slice .gK [],AV.slice .gK [],AV.slice .gK [Fm.av a,Fm.av b]]=Fm.av (Fm.mk a0 (Ty.mk 0 []) [] [a,b]) by rw[Fm.fi];rfl);exact au
def WS:kK prog 271=true:=by kernel_rfl
def amA(fr:Fr)(L:List Int):Prop:=
 (L=[]/\fr.env 3=.slice .full [])\/∃cap,fr.env 3=.xQ 17 (fr.gen 17) L.length cap/\fr.box 17=some (vi (λn=>AV.sc (Value.int .i64 n)) L ((cap-L.length)*1))/\L.length<=cap
def AP(T:eK){H:dV}{a0:List (Int×Bool)}{r0:List Int}{ak:List (Int×Bool)}{u:Nat}(G:H[u]?=some [tQ (λb=>AV.sc (Value.bool b)) a0])(hm:qG a0=some (r0,ak)):eG prog T 271 [AV.n_ u] H (AV.slice .gK (List.map (λn=>AV.sc (Value.int .i64 n)) r0)) (gk H u [tQ (λb=>AV.sc (Value.bool b)) ak]):=by
 unfold qG at hm;have⟨aF,hm⟩:=lI hm;have⟨V,hm⟩:=lI hm;have an:=eZ G;simp only[w5,HL] at hm;have⟨e1,e2⟩:=hm;subst e2;rw[M3 G]
 have V:(a0.map (·.1)).Nodup:=by simpa[x_] using V
 refine fv.rB (Post:=λx K=>x=AV.slice .gK (List.map (λn=>AV.sc (Value.int .i64 n)) r0)/\∃X,K=H++X) ?_ (λ_ _ h=>⟨_,h.2.choose_spec,by rw[h.1];simp[AV.low,AV.iy],h.1,rfl⟩);refine fv.intro (fn:=f271) func271 rfl WS (Dg rfl) ?_;refine gv.sr [] λK1 I=>?_;simp;apply I;refine gv.sr [] λK1 I=>?_;simp;apply I;refine gv.uU λK1 I=>?_;refine gv.sr [] λK2 aG=>?_;simp[JK,G,tQ];apply aG;refine gv.Ab λQ nn ex x r=>?_
 refine gv.Rx (λm fr h=>∃(seen:List Nat) (L:List Int),m=Ji a0.length seen/\L.length+m<=a0.length/\HH L/\(∀x,x∈L↔∃j∈seen,∃p,a0[j]?=some p/\p.1=x)/\H++[[.mV u a0.length seen]]=h/\fr.env 7=.fg H.length 0/\amA fr L) a0.length ?_ ?_
 .exact⟨[],[],(Ue _).symm,abm,.nil,abm,abm,rfl,.inl ⟨rfl,rfl⟩⟩
 rintro m fr h ⟨seen,L,aH,aV,hA,hL,rfl,J,hs⟩ K3 aI
 have hi:(H++[[AV.mV u a0.length seen]])[H.length]?=some [AV.mV u a0.length seen]:=abm
 have ho:(H++[[AV.mV u a0.length seen]])[u]?=some [tQ (λb=>AV.sc (Value.bool b)) a0]:=by simp[an,G]
 refine gv.sr [] λK4 ao=>?_;simp only[Xf,ev,J];refine SE a0 hi ho (λaq=>?_) (λj p W hj=>?_)
 .--aW end
  simp;apply ao;refine gv.uU λK5 ar=>?_;refine gv.uL λA B ga Y=>?_;simp;apply Y;refine gv.exit ?_;apply ex;apply I
  have hr:zN [] (a0.map (·.1))=L:=by
   refine HH.eq (Bq _ [] .nil V abm) hA λx=>?_;rw[Bu,hL];simp only[ry,false_or,ql];constructor
   .rintro⟨p,W,rfl⟩;have⟨j,hj⟩:=adq.1 W;exact⟨j,aq j (ru.1 hj).1,p,hj,rfl⟩
   .rintro⟨j,_,p,W,rfl⟩;exact⟨p,HP W,rfl⟩
  rw[hr] at e1;subst e1;rcases hs with⟨rfl,o⟩|⟨cap,o,l,hle⟩
  .refine gv.sr [] λK6 s=>?_;simp[o];apply s;refine gv.ret ?_;simp[wG,o]
  .refine gv.ajs 3 (f:=λn=>AV.sc (Value.int .i64 n)) (L:=L) (k:=(cap-L.length)*1) (sz:=1) (d:=17) (g:=fr.gen 17) (cap:=cap) (by intro x;simp) (by intro x;simp) (by simp[o]) abm (by simp[l]) ?_;refine gv.sr [] λK6 s=>?_;simp;apply s;refine gv.ret ?_;simp[wG]
 have aw:j<a0.length:=(ru.1 W).1;have aJ:=Wv aw hj
 have aK:(H++[[AV.mV u a0.length (seen++[j])]])[H.length]?=some [AV.mV u a0.length (seen++[j])]:=abm
 have aL:(H++[[AV.mV u a0.length (seen++[j])]])[u]?=some [tQ (λb=>AV.sc (Value.bool b)) a0]:=by simp[an,G]
 have gk:gk (H++[[AV.mV u a0.length seen]]) H.length [AV.mV u a0.length (seen++[j])]=H++[[AV.mV u a0.length (seen++[j])]]:=abm
 rw[gk];have ax:=R2 (f:=λb=>AV.sc (Value.bool b)) a0 aK aL W
 have af:p.1∉L:=by
  rw[hL];rintro⟨j',aM,p',aN,he⟩
  have h1:(a0.map (·.1))[j]?=some p.1:=by rw[y',W];rfl
  have h2:(a0.map (·.1))[j']?=some p.1:=by rw[y',aN];simp[he]
  have:j=j':=by
   have aO:j<(a0.map (·.1)).length:=by simpa using aw
   exact(List.getElem?_inj aO V).1 (h1.trans h2.symm)
  subst this;exact hj aM
 have aU:a0.length<=BR:=Pu aF;simp;apply ao;refine gv.uU λK5 ar=>?_;refine gv.uL λA B ga Y=>?_;simp;apply ga;refine gv.skip ?_;apply ar;refine gv.Ab λQ1 aP aX x1 r1=>?_;refine gv.sr [] λK6 s=>?_;simp[J,ax];apply s;refine gv.sr [] λK6 s=>?_
 have hlen:∃y,fr.env 3=y/\HK prog 22 y=some (.sc (.int .i64 L.length)):=by
  rcases hs with⟨rfl,o⟩|⟨cap,o,l,hle⟩
  .exact⟨_,o,abm⟩
  .exact⟨_,o,abm⟩
 have⟨y,hy,ay⟩:=hlen;simp[hy,ay];apply s
 refine gv.ajR (λfr h=>H++[[.mV u a0.length (seen++[j])]]=h/\fr.env 7=.fg H.length 0/\fr.env 4=.sc (.int .i64 p.1)/\fr.env 5=.sc (.int .i64 (L.length:Int))/\∃cap,fr.env 3=.xQ 17 (fr.gen 17) (L.length+1) cap/\fr.box 17=some (vi (λn=>AV.sc (Value.int .i64 n)) (L.take L.length++p.1::L.drop L.length) ((cap-(L.length+1))*1))/\L.length+1<=cap) (λK6 s=>?_) ?_
 .refine gv.region [] abx ?_
  have az:fW L [p.1]=L.take L.length++p.1::L.drop L.length:=by simp[fW]
  have aY:(fW L [p.1]).length=L.length+1:=by simp[fW]
  rcases hs with⟨rfl,o⟩|⟨cap,o,l,hle⟩
  .simp[o];refine sV.ago (f:=λn=>AV.sc (Value.int .i64 n)) [p.1] E9 ⟨_,ae'⟩ (by intro x;simp) (by simp[zP,BR]) rfl (by first|rfl|simp) λcap BT=>?_;simp;apply s;refine⟨rfl,?_,?_,?_,cap,?_,?_,by simpa using BT⟩<;>simp[J]
  .simp[o];refine sV.kC (f:=λn=>AV.sc (Value.int .i64 n)) L [p.1] (cap:=cap) E9 ⟨_,ae'⟩ (by intro x;simp) (by simp[fM];omega) abm rfl (by first|rfl|simp) (by simp[l]) hle λg' aA BT=>?_;rw[az] at BT;simp only[az];simp;apply s;refine⟨rfl,?_,?_,?_,aA,?_,?_,by simpa using BT⟩<;>simp[J]
 rintro aZ h6 ⟨rfl,f7,f4,f5,cap,f3,f17,aB⟩
 refine gv.ajR (λfr h=>H++[[.mV u a0.length (seen++[j])]]=h/\fr.env 7=.fg H.length 0/\fr.env 4=.sc (.int .i64 p.1)/\∃(i:Nat) (z:Int),fr.env 5=.sc (.int .i64 (i:Int))/\i<=L.length/\(∀a∈L.drop i,a>p.1)/\(i=0\/∃a,L[i-1]?=some a/\¬a>p.1)/\∃cap,fr.env 3=.xQ 17 (fr.gen 17) (L.length+1) cap/\fr.box 17=some (vi (λn=>AV.sc (Value.int .i64 n)) (L.take i++z::L.drop i) ((cap-(L.length+1))*1))/\L.length+1<=cap) (λK7 aQ=>?_) ?_
 .refine gv.Ab λQ2 a1 aC x2 r2=>?_
  refine gv.Rx (λi fr h=>H++[[.mV u a0.length (seen++[j])]]=h/\fr.env 7=.fg H.length 0/\fr.env 4=.sc (.int .i64 p.1)/\∃(z:Int),fr.env 5=.sc (.int .i64 (i:Int))/\i<=L.length/\(∀a∈L.drop i,a>p.1)/\∃cap,fr.env 3=.xQ 17 (fr.gen 17) (L.length+1) cap/\fr.box 17=some (vi (λn=>AV.sc (Value.int .i64 n)) (L.take i++z::L.drop i) ((cap-(L.length+1))*1))/\L.length+1<=cap) L.length ?_ ?_
  .exact⟨rfl,f7,f4,p.1,f5,gY _,abm,cap,f3,f17,aB⟩
  clear f7 f4 f5 f3 f17 aB hy ay J hs;rintro i fr h ⟨rfl,J,e4,z,U,C,O,cap,o,l,hle⟩ K8 aR
  have stop:∀fr':Fr,fr'.env 7=.fg H.length 0->fr'.env 4=.sc (.int .i64 p.1)->fr'.env 5=.sc (.int .i64 (i:Int))->fr'.env 3=fr.env 3->fr'.gen=fr.gen->fr'.box=fr.box->(i=0\/∃a,L[i-1]?=some a/\¬a>p.1)->K7 fr' (H++[[.mV u a0.length (seen++[j])]]):=by
   intro fr' g7 g4 g5 g3 gg Y Z;exact aQ _ _ ⟨rfl,g7,g4,i,z,g5,C,O,Z,cap,by rw[g3,o,gg],by rw[Y,l],hle⟩
  refine gv.uU λK9 aS=>?_;refine gv.sr [] λa6 ad=>?_;obtain⟨c,F⟩:∃c:Int,c=(i:Int):=⟨_,rfl⟩;rw[<-F] at U;cases i with
  |zero=>
   have Z:pw c 0=false:=by rw[F];decide
   simp[U,Z];apply ad;refine gv.uL λA B ga Y=>?_;simp;apply Y;refine gv.exit ?_;apply aC;refine stop _ ?_ ?_ ?_ ?_ ?_ ?_ (.inl rfl)<;>simp[J,e4,U,F]
  |succ i=>
   have Z:pw c 0=true:=by rw[F];simp[pw]
   obtain⟨c',ah⟩:∃c':Int,c'=(i:Int):=⟨_,rfl⟩
   have R:fD .i64 c 1=c':=by rw[F,ah];exact YI VW
   obtain⟨x,hx⟩:∃x,L[i]?=some x:=⟨_,pE VW⟩
   have D:(L.take (i+1)++z::L.drop (i+1)).length=L.length+1:=abv
   have ae:dW (L.take (i+1)++z::L.drop (i+1)) c'=some x:=by
    unfold dW;rw[dO VW,ah,BS,uJ (by rw[Dy];omega),TC,dO VW,hx]
   have S:0<=c'/\c'<((L.length+1:Nat):Int):=VW
   have q:0<=c/\c<((L.length+1:Nat):Int):=VW
   have ai:=Ql (P:=prog) (t:=3) (f:=λn=>AV.sc (Value.int .i64 n)) (k:=(cap-(L.length+1))*1) aaS (by intro x;simp) ae;generalize hM:L.take (i+1)++z::L.drop (i+1)=M at l D ae ai;generalize hN:L.length+1=N at o l hle D S q ai
   have aD:∀fr':Fr,fr'.gen 17=fr.gen 17->fr'.box 17=fr.box 17->uy prog fr' (H++[[AV.mV u a0.length (seen++[j])]]) 3 (.h9 17 (fr.gen 17) (QX c'.toNat 1))=some (.sc (.int .i64 x)):=by
    intro fr' g1 g2;show(if fr.gen 17=fr'.gen 17 then(match fr'.box 17 with|some cs=>mR prog 3 cs (QX c'.toNat 1)|none=>none)else none)=_;rw[dO g1.symm,g2,l];exact ai
   simp[U,o,Z,R,S,aD,e4,-uy];apply ad;have a7:M.length=N:=D
   have v:dW M c=some z:=by
    unfold dW;rw[dO VW,F,BS,<-hM,tS abv];simp[Dy,show min (i+1) L.length=i+1 from by omega]
   have w:yb M c x=L.take i++x::L.drop i:=by
    have hd:L.drop i=x::L.drop (i+1):=by
     rw[K0 (by omega:i<L.length)]
     congr 1
     exact(ru.1 hx).2
    have ht:L.take (i+1)=L.take i++[x]:=by rw[ahQ,hx];rfl
    unfold yb;rw[F,BS,<-hM,hd,akc _ _ abv];rw[Dy,show min (i+1) L.length=i+1 from by omega,Nat.sub_self,alh,ht,tv];rfl
   refine gv.uL λA B ga Y=>?_;rcases Bool.eq_false_or_eq_true (pw x p.1)with hgx|hgx
   .simp[hgx];apply ga;refine gv.skip ?_;apply aS;refine gv.Ab λQ3 aT a8 x3 r3=>?_;refine gv.sr [] λa_ aE=>?_;simp[U,o,R,S,q,aD,e4,-uy];refine AF.arr (f:=λn=>AV.sc (Value.int .i64 n)) (L:=M) (k:=(cap-N)*1) x aaS (by intro x;simp) abm (x:=z) v abm (by simp[l]) abm ?_;simp;apply aE;refine gv.region [] abx ?_;simp[U,R];apply aT;rw[w];refine aR _ _ i (aa6 _) ⟨rfl,?_,?_,x,?_,VW,?_,cap,?_,?_,by rw[hN];exact hle⟩
    .simp[J]
    .simp[e4]
    .simp[ah]
    .intro a ha
     have hd:L.drop i=x::L.drop (i+1):=by
      rw[K0 (by omega:i<L.length)]
      congr 1
      exact(ru.1 hx).2
     rw[hd] at ha;rcases kX.1 ha with rfl|ha
     .simpa[pw] using hgx
     .exact O a ha
    .simp[o,hN]
    .simp[hN]
   .simp[hgx];apply Y;refine gv.exit ?_;apply aC;refine stop _ ?_ ?_ ?_ ?_ ?_ ?_ (.inr ⟨x,by simpa using hx,by simpa[pw] using hgx⟩)<;>simp[J,e4,U,o,F]
 rintro fr h ⟨rfl,J,e4,i,z,U,C,O,Z,cap,o,l,hle⟩;refine gv.region [] abx ?_;obtain⟨c,F⟩:∃c:Int,c=(i:Int):=⟨_,rfl⟩;rw[<-F] at U
 have D:(L.take i++z::L.drop i).length=L.length+1:=abv
 have v:dW (L.take i++z::L.drop i) c=some z:=by
  unfold dW;rw[dO VW,F,BS,tS abv];simp[Dy,YJ C]
 have w:yb (L.take i++z::L.drop i) c p.1=Da p.1 L:=by
  rw[Uj L i hA af C O Z];unfold yb;rw[F,BS,akc _ _ abv,Dy,YJ C,Nat.sub_self,alh]
 have q:0<=c/\c<((L.length+1:Nat):Int):=VW
 have hlen:(Da p.1 L).length=L.length+1:=by rw[Uj L i hA af C O Z];simp;omega
 generalize hM:L.take i++z::L.drop i=M at l D v w;generalize hN:L.length+1=N at o l hle D q hlen;simp[U,o,e4,q];refine AF.arr (f:=λn=>AV.sc (Value.int .i64 n)) (L:=M) (k:=(cap-N)*1) p.1 aaS (by intro x;simp) abm (x:=z) v abm (by simp[l]) abm ?_;simp;apply aP;rw[w];refine aI _ _ _ (by rw[aH];exact aJ) ⟨seen++[j],Da p.1 L,rfl,VW,IB p.1 L af hA,?_,rfl,?_,.inr ⟨cap,?_,?_,by rw[hlen];exact hle⟩⟩
 .intro x;rw[z',hL];constructor
  .rintro(rfl|⟨j',h1,p',h2,h3⟩)
   .exact⟨j,abm,p,W,rfl⟩
   .exact⟨j',by simp[h1],p',h2,h3⟩
  .rintro⟨j',h1,p',h2,h3⟩;rcases tl.1 h1 with h1|h1
   .exact .inr ⟨j',h1,p',h2,h3⟩
   .simp only[Hf] at h1;subst h1;rw[W] at h2;obtain rfl:=hU h2;exact .inl h3.symm
 .simp[J]
 .simp[o,hlen]
 .simp[hlen]
def lE(T:eK){H:dV}{a0 a1 c:List Int}(hm:iD a0 a1=some c):eG prog T 205 [sL sI a0,sL sI a1] H (sL sI c) H:=by
 rw[iD] at hm;refine fv.rB (Post:=λx K=>x=sL sI c/\∃X,K=H++X) ?_ (λ_ _ h=>⟨_,h.2.choose_spec,by rw[h.1];simp[AV.low,AV.iy],h.1,rfl⟩);have e:=trivial;refine wi aou func205 [] [] 999 ?_;simp[e];refine XZ e hm 999 (λd s2 f h=>h=H++[[tQ sB s2]]/\f.1 1=sL sI a1/\f.1 5=AV.n_ (List.length H)/\f.1 11=sL sI a0/\f.1 12=sI (eE a0)/\f.1 13=sI d) abq (λd _ s2 _ _ _ _ _ E e m z p=>?_) (λs2 _ _ _ E m=>?_)
 .have e:=Aj e E;simp[e];refine uO.i64 (f:=sB) s2 true Ul vu abq abq ?_;exact al
 have e:=Aj e E;refine sw [11,0] ?_;intro e m;refine Wr e m 999 (λb a f h=>h=H++[[tQ sB a]]/\f.1 5=AV.n_ (List.length H)/\f.1 20=sL sI a1/\f.1 21=sI (eE a1)/\f.1 22=sI b) abq (λa _ _ _ E m=>?_) (λb _ a _ _ _ _ _ E e m z p=>?_)
 .have e:=Aj e E;dsimp only[ew]at m;simp[e];refine Ar m (AP T abq) λ_ d22 m=>?_;exact au
 have e:=Aj e E;simp[e];refine uO.i64 (f:=sB) a true Ul vu abq abq ?_;exact al
@[reducible,instance] def ab6:=gl 205 @lE
def ni:C3 prog 206 gb sI dT.av sI sI:=by
 refine u3 3 func206 λT H a0 a1 a2 r m e=>?_;rw[gb] at m;simp[e];refine wB 999 999 [] [] (λf=>f.1 20=sB (fq (pw (eH .i64 (eE a0.aot) a1) 16) true (pw (eH .i64 (eE a0.aow) a2) 16))) λ_ g=>?_;exact aa
@[reducible,instance] def Rw:=gl 206 @ni
def nF:C2 prog 207 ia dT.av dT.av Fm.av:=by
 refine v2 func207 λT H a0 a1 r m e=>?_;rw[ia] at m;refine sw [9,0] ?_;intro e m;refine Ad (f:=Fm.av) a0.aow [a1] (hI.full (D:=[])) La e.2 ?_;exact au
@[reducible,instance] def Qv:=gl 207 @nF
def OX{n:Nat}:C2 prog 268 (lX n) sB Tm.av Tm.av:=by
 refine i2 λn ih=>u2 3 func268 λT H a0 a1 r m e=>?_;rw[lX] at m;simp[e];refine WA m 999 999 [] [2,3] (λv2 f=>f.1 34=sB v2) [7,0] (λa _ g m=>?_) ?_
 .apply Iq e m<;>intro e m
  .exact iJ
  apply Iq e m<;>intro e m
  .exact iJ
  simp[e];refine pX m jv λ_ m=>?_;apply Ir e m<;>intro e m
  .exact iJ
  exact iJ
 intro _ v2 e m;exact Wb e m 999 38 [37] [2,3] nI
@[reducible,instance] def aer:=gl 268 @OX
end Go.Proofs.YtpgdkkomegalnaaGreatDoor
