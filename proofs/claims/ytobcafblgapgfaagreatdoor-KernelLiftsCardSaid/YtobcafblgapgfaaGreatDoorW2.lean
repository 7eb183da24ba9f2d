/- Part of the proof of KernelLifts, KernelPuts, KernelCuts: walks. -/
import Derived.Test.YtobcafblgapgfaaGreatDoorW1
set_option linter.all false
set_option maxRecDepth 20000
set_option maxHeartbeats 4000000
namespace Go.Proofs.YtobcafblgapgfaaGreatDoor
open Go Go.tq Go.eD Tryz
def HA:C1 prog 123 nW sB Pf.av:=by
 refine u1 2 func123 λT H a0 r m e=>?_;rw[nW] at m;simp[e];refine Gc m 999 999 (λa f h=>∃v2,(h=H/\f.1 2=sB v2)/\a v2=some r) ?_ (λa _ g m=>?_)
 ·rintro _ _ ⟨v2,E,m⟩;have e:=Aj e E;exact au
 simp[e];refine gj m Qv λ_ m=>?_;apply Ir e m<;>intro e m
 ·exact nP
 simp[e];refine gj m B8 λ_ m=>?_;exact nP
def zN:C1 prog 85 pH sI Pf.av:=by
 refine v1 func85 λT H a0 r m e=>?_;rw[pH] at m;simp[e];refine gj m QQ λ_ m=>?_;refine Im e m λe m=>?_;simp[e];refine gj m HA λ_ m=>?_;refine Il e m λe m=>?_;exact au
def Vt:qx prog 109=true:=by kernel_rfl
def aem(fr:Fr)(L:List Int):Prop:=
 (L=[]/\fr.env 3=.slice .full [])\/∃cap,fr.env 3=.FZ 17 (fr.gen 17) L.length cap/\fr.box 17=some (CG (λn=>AV.sc (Value.int .i64 n)) L ((cap-L.length)*1))/\L.length<=cap
def Iz(T:fx){H:dM}{a0:List (Int×Bool)}{r0:List Int}{af:List (Int×Bool)}{s:Nat}(E:H[s]?=some [B3 (λb=>AV.sc (Value.bool b)) a0])(hm:ru a0=some (r0,af)):fg prog T 109 [AV.vu s] H (AV.slice .pw (List.map (λn=>AV.sc (Value.int .i64 n)) r0)) (iE H s [B3 (λb=>AV.sc (Value.bool b)) af]):=by
 unfold ru at hm;have⟨aC,hm⟩:=tZ hm;have⟨S,hm⟩:=tZ hm;have ah:=ie E;simp only[zq,Ln] at hm;have⟨e1,e2⟩:=hm;subst e2;rw[Q4 E]
 have S:(a0.map (·.1)).Nodup:=by simpa[vW] using S
 refine gG.Dq (Post:=λx K=>x=AV.slice .pw (List.map (λn=>AV.sc (Value.int .i64 n)) r0)/\∃X,K=H++X) ?_ (λ_ _ h=>⟨_,h.2.choose_spec,by rw[h.1];simp[AV.low,AV.nk],h.1,rfl⟩);refine gG.intro (fn:=f109) func109 rfl Vt (Kz rfl) ?_;refine jF.sr [] λK1 F=>?_;simp;apply F;refine jF.sr [] λK1 F=>?_;simp;apply F;refine jF.Dh λK1 F=>?_;refine jF.sr [] λK2 aD=>?_;simp[OS,E,B3];apply aD;refine jF.JE λQ nn ex x r=>?_
 refine jF.TC (λm fr h=>∃(seen:List Nat) (L:List Int),m=Ot a0.length seen/\L.length+m<=a0.length/\Dk L/\(∀x,x∈L↔∃j∈seen,∃p,a0[j]?=some p/\p.1=x)/\H++[[.ue s a0.length seen]]=h/\fr.env 7=.gS H.length 0/\aem fr L) a0.length ?_ ?_
 ·exact⟨[],[],(UX _).symm,aae,.nil,aae,aae,rfl,.inl ⟨rfl,rfl⟩⟩
 rintro m fr h ⟨seen,L,aE,aS,hA,hL,rfl,G,hs⟩ K3 aF
 have hi:(H++[[AV.ue s a0.length seen]])[H.length]?=some [AV.ue s a0.length seen]:=aae
 have ho:(H++[[AV.ue s a0.length seen]])[s]?=some [B3 (λb=>AV.sc (Value.bool b)) a0]:=by simp[ah,E]
 refine jF.sr [] λK4 ai=>?_;simp only[VH,ev,G];refine UU a0 hi ho (λak=>?_) (λj p U hj=>?_)
 ·--aT end
  simp;apply ai;refine jF.Dh λK5 an=>?_;refine jF.Cq λA B ga V=>?_;simp;apply V;refine jF.exit ?_;apply ex;apply F
  have hr:zk [] (a0.map (·.1))=L:=by
   refine Dk.eq (AM _ [] .nil S aae) hA λx=>?_;rw[AN,hL];simp only[lZ,YS,nj];constructor
   ·rintro⟨p,U,rfl⟩;have⟨j,hj⟩:=Yv.1 U;exact⟨j,ak j (qR.1 hj).1,p,hj,rfl⟩
   ·rintro⟨j,_,p,U,rfl⟩;exact⟨p,AY U,rfl⟩
  rw[hr] at e1;subst e1;rcases hs with⟨rfl,l⟩|⟨cap,l,e,hle⟩
  ·refine jF.sr [] λK6 q=>?_;simp[l];apply q;refine jF.ret ?_;simp[DU,l]
  ·refine jF.adp 3 (f:=λn=>AV.sc (Value.int .i64 n)) (L:=L) (k:=(cap-L.length)*1) (sz:=1) (d:=17) (g:=fr.gen 17) (cap:=cap) (by intro x;simp) (by intro x;simp) (by simp[l]) aae aav ?_;refine jF.sr [] λK6 q=>?_;simp;apply q;refine jF.ret ?_;simp[DU]
 have ao:j<a0.length:=(qR.1 U).1;have aG:=VB ao hj
 have aH:(H++[[AV.ue s a0.length (seen++[j])]])[H.length]?=some [AV.ue s a0.length (seen++[j])]:=aae
 have aI:(H++[[AV.ue s a0.length (seen++[j])]])[s]?=some [B3 (λb=>AV.sc (Value.bool b)) a0]:=by simp[ah,E]
 have iE:iE (H++[[AV.ue s a0.length seen]]) H.length [AV.ue s a0.length (seen++[j])]=H++[[AV.ue s a0.length (seen++[j])]]:=aae
 rw[iE];have aq:=SM (f:=λb=>AV.sc (Value.bool b)) a0 aH aI U
 have ab:p.1∉L:=by
  rw[hL];rintro⟨j',aJ,p',aK,he⟩
  have h1:(a0.map (·.1))[j]?=some p.1:=by rw[x_,U];rfl
  have h2:(a0.map (·.1))[j']?=some p.1:=by rw[x_,aK];simp[he]
  have:j=j':=by
   have aL:j<(a0.map (·.1)).length:=by simpa using ao
   exact(List.getElem?_inj aL S).1 (h1.trans h2.symm)
  subst this;exact hj aJ
 have aR:a0.length<=m0:=Tj aC;simp;apply ai;refine jF.Dh λK5 an=>?_;refine jF.Cq λA B ga V=>?_;simp;apply ga;refine jF.skip ?_;apply an;refine jF.JE λQ1 aM aU x1 r1=>?_;refine jF.sr [] λK6 q=>?_;simp[G,aq];apply q;refine jF.sr [] λK6 q=>?_
 have hlen:∃y,fr.env 3=y/\Qu prog 22 y=some (.sc (.int .i64 L.length)):=by
  rcases hs with⟨rfl,l⟩|⟨cap,l,e,hle⟩
  ·exact⟨_,l,aae⟩
  ·exact⟨_,l,aae⟩
 have⟨y,hy,ar⟩:=hlen;simp[hy,ar];apply q
 refine jF.ace (λfr h=>H++[[.ue s a0.length (seen++[j])]]=h/\fr.env 7=.gS H.length 0/\fr.env 4=.sc (.int .i64 p.1)/\fr.env 5=.sc (.int .i64 (L.length:Int))/\∃cap,fr.env 3=.FZ 17 (fr.gen 17) (L.length+1) cap/\fr.box 17=some (CG (λn=>AV.sc (Value.int .i64 n)) (L.take L.length++p.1::L.drop L.length) ((cap-(L.length+1))*1))/\L.length+1<=cap) (λK6 q=>?_) ?_
 ·refine jF.region [] abn ?_
  have aw:fK L [p.1]=L.take L.length++p.1::L.drop L.length:=by simp[fK]
  have aV:(fK L [p.1]).length=L.length+1:=by simp[fK]
  rcases hs with⟨rfl,l⟩|⟨cap,l,e,hle⟩
  ·simp[l];refine Bf.ZR (f:=λn=>AV.sc (Value.int .i64 n)) [p.1] Vs ⟨_,YY⟩ (by intro x;simp) (by simp[wM,m0]) rfl (by first|rfl|simp) λcap Lr=>?_;simp;apply q;refine⟨rfl,?_,?_,?_,cap,?_,?_,by simpa using Lr⟩<;>simp[G]
  ·simp[l];refine Bf.gA (f:=λn=>AV.sc (Value.int .i64 n)) L [p.1] (cap:=cap) Vs ⟨_,YY⟩ (by intro x;simp) (by simp[eZ];omega) aae rfl (by first|rfl|simp) aav hle λg' ax Lr=>?_;rw[aw] at Lr;simp only[aw];simp;apply q;refine⟨rfl,?_,?_,?_,ax,?_,?_,by simpa using Lr⟩<;>simp[G]
 rintro aW h6 ⟨rfl,f7,f4,f5,cap,f3,f17,ay⟩
 refine jF.ace (λfr h=>H++[[.ue s a0.length (seen++[j])]]=h/\fr.env 7=.gS H.length 0/\fr.env 4=.sc (.int .i64 p.1)/\∃(i:Nat) (z:Int),fr.env 5=.sc (.int .i64 (i:Int))/\i<=L.length/\(∀a∈L.drop i,a>p.1)/\(i=0\/∃a,L[i-1]?=some a/\¬a>p.1)/\∃cap,fr.env 3=.FZ 17 (fr.gen 17) (L.length+1) cap/\fr.box 17=some (CG (λn=>AV.sc (Value.int .i64 n)) (L.take i++z::L.drop i) ((cap-(L.length+1))*1))/\L.length+1<=cap) (λK7 aN=>?_) ?_
 ·refine jF.JE λQ2 aX az x2 r2=>?_
  refine jF.TC (λi fr h=>H++[[.ue s a0.length (seen++[j])]]=h/\fr.env 7=.gS H.length 0/\fr.env 4=.sc (.int .i64 p.1)/\∃(z:Int),fr.env 5=.sc (.int .i64 (i:Int))/\i<=L.length/\(∀a∈L.drop i,a>p.1)/\∃cap,fr.env 3=.FZ 17 (fr.gen 17) (L.length+1) cap/\fr.box 17=some (CG (λn=>AV.sc (Value.int .i64 n)) (L.take i++z::L.drop i) ((cap-(L.length+1))*1))/\L.length+1<=cap) L.length ?_ ?_
  ·exact⟨rfl,f7,f4,p.1,f5,jM _,aae,cap,f3,f17,ay⟩
  clear f7 f4 f5 f3 f17 ay hy ar G hs;rintro i fr h ⟨rfl,G,e4,z,R,w,I,cap,l,e,hle⟩ K8 aO
  have stop:∀fr':Fr,fr'.env 7=.gS H.length 0->fr'.env 4=.sc (.int .i64 p.1)->fr'.env 5=.sc (.int .i64 (i:Int))->fr'.env 3=fr.env 3->fr'.gen=fr.gen->fr'.box=fr.box->(i=0\/∃a,L[i-1]?=some a/\¬a>p.1)->K7 fr' (H++[[.ue s a0.length (seen++[j])]]):=by
   intro fr' g7 g4 g5 g3 gg V W;exact aN _ _ ⟨rfl,g7,g4,i,z,g5,w,I,W,cap,by rw[g3,l,gg],by rw[V,e],hle⟩
  refine jF.Dh λK9 aP=>?_;refine jF.sr [] λaY Y=>?_;obtain⟨c,D⟩:∃c:Int,c=(i:Int):=⟨_,rfl⟩;rw[<-D] at R;cases i with
  |zero=>
   have W:pc c 0=false:=by rw[D];decide
   simp[R,W];apply Y;refine jF.Cq λA B ga V=>?_;simp;apply V;refine jF.exit ?_;apply az;refine stop _ ?_ ?_ ?_ ?_ ?_ ?_ (.inl rfl)<;>simp[G,e4,R,D]
  |succ i=>
   have W:pc c 0=true:=by rw[D];simp[pc]
   obtain⟨Z,ad⟩:∃Z:Int,Z=(i:Int):=⟨_,rfl⟩
   have J:eH .i64 c 1=Z:=by rw[D,ad];exact Xt Zb
   obtain⟨x,hx⟩:∃x,L[i]?=some x:=⟨_,mr Zb⟩
   have C:(L.take (i+1)++z::L.drop (i+1)).length=L.length+1:=aaV
   have aa:du (L.take (i+1)++z::L.drop (i+1)) Z=some x:=by
    unfold du;rw[cL Zb,ad,AZ,uj (by rw[Kn];omega),VG,cL Zb,hx]
   have O:0<=Z/\Z<((L.length+1:Nat):Int):=Zb
   have o:0<=c/\c<((L.length+1:Nat):Int):=Zb
   have ae:=S5 (P:=prog) (t:=3) (f:=λn=>AV.sc (Value.int .i64 n)) (k:=(cap-(L.length+1))*1) W_ (by intro x;simp) aa;generalize hM:L.take (i+1)++z::L.drop (i+1)=M at e C aa ae;generalize hN:L.length+1=N at l e hle C O o ae
   have aA:∀fr':Fr,fr'.gen 17=fr.gen 17->fr'.box 17=fr.box 17->Ds prog fr' (H++[[AV.ue s a0.length (seen++[j])]]) 3 (.mD 17 (fr.gen 17) (Ua Z.toNat 1))=some (.sc (.int .i64 x)):=by
    intro fr' g1 g2;show(if fr.gen 17=fr'.gen 17 then(match fr'.box 17 with|some cs=>tH prog 3 cs (Ua Z.toNat 1)|none=>none)else none)=_;rw[cL g1.symm,g2,e];exact ae
   simp[R,l,W,J,O,aA,e4,-Ds];apply Y;have aZ:M.length=N:=C
   have u:du M c=some z:=by
    unfold du;rw[cL Zb,D,AZ,<-hM,xo aaV];simp[Kn,show min (i+1) L.length=i+1 from by omega]
   have v:ya M c x=L.take i++x::L.drop i:=by
    have hd:L.drop i=x::L.drop (i+1):=by
     rw[MC (by omega:i<L.length)]
     congr 1
     exact(qR.1 hx).2
    have ht:L.take (i+1)=L.take i++[x]:=by rw[UE,hx];rfl
    unfold ya;rw[D,AZ,<-hM,hd,adi _ _ aaV];rw[Kn,show min (i+1) L.length=i+1 from by omega,TJ,acK,ht,ml];rfl
   refine jF.Cq λA B ga V=>?_;rcases Bool.eq_false_or_eq_true (pc x p.1)with hgx|hgx
   ·simp[hgx];apply ga;refine jF.skip ?_;apply aP;refine jF.JE λQ3 aQ a1 x3 r3=>?_;refine jF.sr [] λa6 aB=>?_;simp[R,l,J,O,o,aA,e4,-Ds];refine Ie.arr (f:=λn=>AV.sc (Value.int .i64 n)) (L:=M) (k:=(cap-N)*1) x W_ (by intro x;simp) aae (x:=z) u aae aav aae ?_;simp;apply aB;refine jF.region [] abn ?_;simp[R,J];apply aQ;rw[v];refine aO _ _ i (XD _) ⟨rfl,?_,?_,x,?_,Zb,?_,cap,?_,?_,by rw[hN];exact hle⟩
    ·simp[G]
    ·simp[e4]
    ·simp[ad]
    ·intro a ha
     have hd:L.drop i=x::L.drop (i+1):=by
      rw[MC (by omega:i<L.length)]
      congr 1
      exact(qR.1 hx).2
     rw[hd] at ha;rcases gT.1 ha with rfl|ha
     ·simpa[pc] using hgx
     ·exact I a ha
    ·simp[l,hN]
    ·simp[hN]
   ·simp[hgx];apply V;refine jF.exit ?_;apply az;refine stop _ ?_ ?_ ?_ ?_ ?_ ?_ (.inr ⟨x,by simpa using hx,by simpa[pc] using hgx⟩)<;>simp[G,e4,R,l,D]
 rintro fr h ⟨rfl,G,e4,i,z,R,w,I,W,cap,l,e,hle⟩;refine jF.region [] abn ?_;obtain⟨c,D⟩:∃c:Int,c=(i:Int):=⟨_,rfl⟩;rw[<-D] at R
 have C:(L.take i++z::L.drop i).length=L.length+1:=aaV
 have u:du (L.take i++z::L.drop i) c=some z:=by
  unfold du;rw[cL Zb,D,AZ,xo aaV];simp[Kn,R7 w]
 have v:ya (L.take i++z::L.drop i) c p.1=HE p.1 L:=by
  rw[Ue L i hA ab w I W];unfold ya;rw[D,AZ,adi _ _ aaV,Kn,R7 w,TJ,acK]
 have o:0<=c/\c<((L.length+1:Nat):Int):=Zb
 have hlen:(HE p.1 L).length=L.length+1:=by rw[Ue L i hA ab w I W];simp;omega
 generalize hM:L.take i++z::L.drop i=M at e C u v;generalize hN:L.length+1=N at l e hle C o hlen;simp[R,l,e4,o];refine Ie.arr (f:=λn=>AV.sc (Value.int .i64 n)) (L:=M) (k:=(cap-N)*1) p.1 W_ (by intro x;simp) aae (x:=z) u aae aav aae ?_;simp;apply aM;rw[v];refine aF _ _ _ (by rw[aE];exact aG) ⟨seen++[j],HE p.1 L,rfl,Zb,OX p.1 L ab hA,?_,rfl,?_,.inr ⟨cap,?_,?_,by rw[hlen];exact hle⟩⟩
 ·intro x;rw[Jx,hL];constructor
  ·rintro(rfl|⟨j',h1,p',h2,h3⟩)
   ·exact⟨j,aae,p,U,rfl⟩
   ·exact⟨j',by simp[h1],p',h2,h3⟩
  ·rintro⟨j',h1,p',h2,h3⟩;rcases tA.1 h1 with h1|h1
   ·exact .inr ⟨j',h1,p',h2,h3⟩
   ·simp only[qn] at h1;subst h1;rw[U] at h2;obtain rfl:=hZ h2;exact .inl h3.symm
 ·simp[G]
 ·simp[l,hlen]
 ·simp[hlen]
def rn(T:fx){H:dM}{a0 a1 c:List Int}(hm:e_ a0 a1=some c):fg prog T 217 [sL sI a0,sL sI a1] H (sL sI c) H:=by
 rw[e_] at hm;refine gG.Dq (Post:=λx K=>x=sL sI c/\∃X,K=H++X) ?_ (λ_ _ h=>⟨_,h.2.choose_spec,by rw[h.1];simp[AV.low,AV.nk],h.1,rfl⟩);have e:=trivial;refine wi aft func217 [] [] 999 ?_;simp[e];refine F7 e hm 999 (λd s2 f h=>h=H++[[B3 sB s2]]/\f.1 1=sL sI a1/\f.1 5=AV.vu (List.length H)/\f.1 11=sL sI a0/\f.1 12=sI (dT a0)/\f.1 13=sI d) aav (λd _ s2 _ _ _ _ _ E e m z p=>?_) (λs2 _ _ _ E m=>?_)
 ·have e:=Aj e E;simp[e];refine CO.i64 (f:=sB) s2 true Uj DA aav aav ?_;exact al
 have e:=Aj e E;dsimp only[cR]at m;simp[e];refine Wr e m 999 (λb a f h=>h=H++[[B3 sB a]]/\f.1 5=AV.vu (List.length H)/\f.1 20=sL sI a1/\f.1 21=sI (dT a1)/\f.1 22=sI b) aav (λa _ _ _ E m=>?_) (λb _ a _ _ _ _ _ E e m z p=>?_)
 ·have e:=Aj e E;dsimp only[cR]at m;simp[e];refine mM m (Iz T aav) λ_ d20 m=>?_;exact au
 have e:=Aj e E;simp[e];refine CO.i64 (f:=sB) a true Uj DA aav aav ?_;exact al
def r7:C3 prog 218 df sI cY.av sI sI:=by
 refine u3 3 func218 λT H a0 a1 a2 r m e=>?_;rw[df] at m;simp[e];refine QY 999 999 (λf h=>h=H/\f.1 20=sB (fp (pc (ep .i64 (dT a0.afs) a1) 16) true (pc (ep .i64 (dT a0.afv) a2) 16))) ?_ (λ_ g=>?_)
 ·rintro _ _ E;have e:=Aj e E;refine Il e m λe m=>?_;exact au
 rcases Pb (pc (ep .i64 (dT a0.afs) a1) 16) e with e|e
 ·exact aj
 exact aj
def uw:C2 prog 219 eV cY.av cY.av Fm.av:=by
 refine v2 func219 λT H a0 a1 r m e=>?_;rw[eV] at m;have⟨e,m⟩:=Ck e m;simp[e];refine Ad (f:=Fm.av) a0.afv [a1] (kG.full (D:=[])) E5 e.2 ?_;exact au
def z7{n:Nat}:C2 prog 114 (kc n) sB Tm.av sI:=by
 refine i2 λn b=>v2 func114 λT H a0 a1 r m e=>?_;rw[kc] at m;refine Il e m λe m=>?_;simp[e];refine Wr e m 999 (λa _ f h=>h=H/\f.1 1=sI a1/\f.1 12=sL Tm.av a0.afp/\f.1 13=sI (dT a0.afp)/\f.1 14=sI a) aav (λ_ _ _ _ E m=>?_) (λa _ _ _ _ _ _ _ E e m z p=>?_)
 ·have e:=Aj e E;dsimp only[cR]at m;exact au
 have e:=Aj e E;simp[e];refine gj m b λ_ m=>?_;refine Im e m λe m=>?_;exact al
def RB:C1 prog 289 wZ sB Tm.av:=by
 refine u1 8 func289 λT H a0 r m e=>?_;rw[wZ] at m;simp[e];apply Iq e m<;>intro e m
 ·apply wg 999;have⟨i,e,m⟩:=g_ e m;exact au
 apply wg 3;simp[e];apply Iq e m<;>intro e m
 ·apply wg 1;simp[e];refine Gc m 999 999 (λa f h=>∃v3,(h=H/\f.1 2=sB v3)/\a v3=some r) ?_ (λa _ g m=>?_)
  ·rintro _ _ ⟨v3,E,m⟩;have e:=Aj e E;exact au
  have⟨j,e,m⟩:=g_ e m;apply Iq e m<;>intro e m
  ·exact nP
  exact nP
 apply wg 4;apply Iq e m<;>intro e m
 ·simp[e];refine Gc m 999 999 (λb f h=>∃v9,(h=H/\f.1 2=sB v9)/\b v9=some r) ?_ (λb _ g m=>?_)
  ·rintro _ _ ⟨v9,E,m⟩;have e:=Aj e E;exact au
  have⟨c,e,m⟩:=g_ e m;apply Iq e m<;>intro e m
  ·exact nP
  exact nP
 simp[e];refine wj 999 999 (λf h=>h=H/\f.1 45=sB (fp (dC a0.afo 11) true (dC a0.afo 12))/\bx f 1 (Tm.av a0).cells) (λ_ g=>?_) ?_
 ·rcases Pb (dC a0.afo 11) e with e|e
  ·exact aj
  exact aj
 rintro _ _ E;have e:=Aj e E;refine Im e m λe m=>?_;have⟨d,e,m⟩:=g_ e m;exact au
def z8:C1 prog 161 lW sI Tm.av:=by
 refine v1 func161 λT H a0 r m e=>?_;rw[lW] at m;refine Il e m λe m=>?_;exact au
def F_{n:Nat}:C2 prog 173 (lR n) sI Tm.av sI:=by
 refine i2 λn c=>u2 4 func173 λT H a0 a1 r m e=>?_;rw[lR] at m;simp[e];refine wj 0 999 (λf h=>h=H/\f.1 1=sI a1/\f.1 5=sI (fp (fp (dC a0.afo 1) (dC a0.afr a1) false) (ep .i64 0 1) 0)/\bx f 2 (Tm.av a0).cells) (λ_ g=>?_) ?_
 ·refine wj 999 999 (λf h=>h=H/\f.1 1=sI a1/\f.1 5=sI 0/\f.1 16=sB (fp (dC a0.afo 1) (dC a0.afr a1) false)/\bx f 2 (Tm.av a0).cells) (λ_ g=>?_) ?_
  ·rcases Pb (dC a0.afo 1) e with e|e
   ·exact aj
   exact aj
  rintro _ _ E;have e:=Aj e E;rcases Pb (fp (dC a0.afo 1) (dC a0.afr a1) false) e with e|e
  ·exact aj
  exact aj
 rintro _ _ E;have e:=Aj e E;simp[e];refine Wr e m 999 (λb a f h=>h=H/\f.1 1=sI a1/\f.1 5=sI a/\f.1 20=sL Tm.av a0.afp/\f.1 21=sI (dT a0.afp)/\f.1 22=sI b/\bx f 2 (Tm.av a0).cells) aav (λa _ _ _ E m=>?_) (λb _ a _ _ _ _ _ E e m z p=>?_)
 ·have e:=Aj e E;dsimp only[cR]at m;exact au
 have e:=Aj e E;simp[e];refine fQ m z8 λ_ m=>?_;simp[e];refine fQ m c λ_ m=>?_;exact al
def P5:C1 prog 290 tc sI Tm.av:=by
 refine v1 func290 λT H a0 r m e=>?_;rw[tc] at m;simp[e];refine gj m jQ λ_ m=>?_;apply Iq e m<;>intro e m
 ·have⟨o,e,m⟩:=g_ e m;have⟨q,e,m⟩:=g_ e m;have⟨s,e,m⟩:=g_ e m;simp[e];refine fQ m jQ λ_ m=>?_;simp[e];refine fQ m F_ λ_ m=>?_;simp[e];refine fQ m jQ λ_ m=>?_;exact au
 apply Iq e m<;>intro e m
 ·have⟨t,e,m⟩:=g_ e m;apply Iq e m<;>intro e m
  ·have⟨u,e,m⟩:=g_ e m;simp[e];refine gj m jQ λ_ m=>?_;exact au
  have⟨a,e,m⟩:=g_ e m;simp[e];refine fQ m jQ λ_ m=>?_;have⟨b,e,m⟩:=g_ e m;simp[e];refine fQ m jQ λ_ m=>?_;exact au
 apply Ir e m<;>intro e m
 ·apply Iq e m<;>intro e m
  ·have⟨c,e,m⟩:=g_ e m;have⟨d,e,m⟩:=g_ e m;simp[e];refine gj m jQ λ_ m=>?_;exact au
  have⟨f,e,m⟩:=g_ e m;have⟨h,e,m⟩:=g_ e m;simp[e];refine gj m jQ λ_ m=>?_;exact au
 have⟨i,e,m⟩:=g_ e m;apply Iq e m<;>intro e m
 ·have⟨j,e,m⟩:=g_ e m;simp[e];refine gj m jQ λ_ m=>?_;exact au
 have⟨k,e,m⟩:=g_ e m;have⟨l,e,m⟩:=g_ e m;have⟨n,e,m⟩:=g_ e m;simp[e];refine fQ m jQ λ_ m=>?_;simp[e];refine fQ m jQ λ_ m=>?_;simp[e];refine fQ m jQ λ_ m=>?_;simp[e];refine fQ m jQ λ_ m=>?_;exact au
def HR{n:Nat}:C3 prog 90 (ql n) Tm.av Tm.av sI sI:=by
 refine i3 λn k=>u3 4 func90 λT H a0 a1 a2 r m e=>?_;rw[ql] at m;simp[e];refine wj 0 999 (λf h=>h=H/\f.1 1=sI a1/\f.1 2=sI a2/\bx f 3 (Tm.av a0).cells/\bx f 6 [sI 0,sI 0,sI 0,nL,nL]/\bx f 7 [sI a0.afo,sI (fp (fp (dC a0.afo 1) (sS a0.afr a1) false) (ep .i64 a0.afr a2) a0.afr),sI a0.cW.afo,sL Ty.av a0.cW.afp,nL]) (λ_ g=>?_) ?_
 ·refine wj 999 999 (λf h=>h=H/\f.1 1=sI a1/\f.1 2=sI a2/\f.1 25=sB (fp (dC a0.afo 1) (sS a0.afr a1) false)/\bx f 3 (Tm.av a0).cells/\bx f 6 [sI 0,sI 0,sI 0,nL,nL]/\bx f 7 [sI a0.afo,sI a0.afr,sI a0.cW.afo,sL Ty.av a0.cW.afp,nL]) (λ_ g=>?_) ?_
  ·rcases Pb (dC a0.afo 1) e with e|e
   ·exact aj
   exact aj
  rintro _ _ E;have e:=Aj e E;rcases Pb (fp (dC a0.afo 1) (sS a0.afr a1) false) e with e|e
  ·exact aj
  exact aj
 rintro _ _ E;have e:=Aj e E;simp[e];refine Wr e m 999 (λj c f h=>∃a,(h=H/\f.1 1=sI a1/\f.1 2=sI a2/\f.1 32=sL Tm.av a0.afp/\f.1 33=sI (dT a0.afp)/\f.1 34=sI j/\bx f 3 (Tm.av a0).cells/\bx f 6 [sI 0,sI 0,sI 0,nL,nL]/\bx f 7 [sI a0.afo,sI (fp (fp (dC a0.afo 1) (sS a0.afr a1) false) (ep .i64 a0.afr a2) a0.afr),sI a0.cW.afo,sL Ty.av a0.cW.afp,sT a Tm.av c])/\Ow f [48] a c) (by exact⟨.full,aav,kG.full⟩) (λc d _ _ E m=>?_) (λj _ c d _ _ _ _ E e m z p=>?_)
 ·have⟨a,E,b⟩:=E;have e:=Aj e E;dsimp only[cR]at m;exact au
 have⟨a,E,b⟩:=E;have e:=Aj e E;simp[e];refine fQ m z8 λ_ m=>?_;simp[e];refine fQ m k λi m=>?_;have⟨e,m⟩:=Ck e m;simp[e];refine Ad (f:=Tm.av) c [i] b JY e.2 ?_;simp[e];cases m;exact p _ _ _ ⟨(.loc 48 (d.gN 48+1)),aav,(On 48)⟩ z
def KM{n:Nat}:C4 prog 174 (xc n) Tm.av Tm.av sI sI Tm.av:=by
 refine i4 λn k=>v4 func174 λT H a0 a1 a2 a3 r m e=>?_;rw[xc] at m;apply Iq e m<;>intro e m
 ·apply Iq e m<;>intro e m
  ·simp[e];refine gj m HR λ_ m=>?_;exact au
  refine Im e m λe m=>?_;simp[e];refine gj m i_ λ_ m=>?_;exact au
 simp[e];refine Wr e m 999 (λj c f h=>∃a,(h=H/\f.1 1=sI a1/\f.1 2=sI a2/\f.1 45=sL Tm.av a0.afp/\f.1 46=sI (dT a0.afp)/\f.1 47=sI j/\bx f 4 (Tm.av a0).cells/\bx f 7 (Tm.av a3).cells/\bx f 8 [sI 0,sI 0,sI 0,nL,nL]/\bx f 9 [sI a0.afo,sI a0.afr,sI a0.cW.afo,sL Ty.av a0.cW.afp,sT a Tm.av c])/\Ow f [62] a c) (by exact⟨.full,aav,kG.full⟩) (λc d _ _ E m=>?_) (λj _ c d _ _ _ _ E e m z p=>?_)
 ·have⟨a,E,b⟩:=E;have e:=Aj e E;dsimp only[cR]at m;exact au
 have⟨a,E,b⟩:=E;have e:=Aj e E;simp[e];refine fQ m z8 λ_ m=>?_;simp[e];refine fQ m k λi m=>?_;have⟨e,m⟩:=Ck e m;simp[e];refine Ad (f:=Tm.av) c [i] b JY e.2 ?_;simp[e];cases m;exact p _ _ _ ⟨(.loc 62 (d.gN 62+1)),aav,(On 62)⟩ z
def N3:C1 prog 291 rq Tm.av Tm.av:=by
 refine v1 func291 λT H a0 r m e=>?_;rw[rq] at m;apply Iq e m<;>intro e m
 ·have⟨o,e,m⟩:=g_ e m;have⟨q,e,m⟩:=g_ e m;have⟨s,e,m⟩:=g_ e m;simp[e];refine fQ m KM λ_ m=>?_;exact au
 apply Iq e m<;>intro e m
 ·have⟨t,e,m⟩:=g_ e m;apply Iq e m<;>intro e m
  ·have⟨u,e,m⟩:=g_ e m;exact au
  have⟨v,e,m⟩:=g_ e m;have⟨w,e,m⟩:=g_ e m;simp[e];refine fQ m jE λ_ m=>?_;have⟨a,e,m⟩:=g_ e m;simp[e];refine fQ m sy λ_ m=>?_;simp[e];refine fQ m jE λ_ m=>?_;exact au
 apply Ir e m<;>intro e m
 ·apply Iq e m<;>intro e m
  ·have⟨b,e,m⟩:=g_ e m;have⟨c,e,m⟩:=g_ e m;exact au
  have⟨d,e,m⟩:=g_ e m;have⟨f,e,m⟩:=g_ e m;exact au
 have⟨h,e,m⟩:=g_ e m;apply Iq e m<;>intro e m
 ·have⟨i,e,m⟩:=g_ e m;exact au
 have⟨j,e,m⟩:=g_ e m;have⟨k,e,m⟩:=g_ e m;have⟨l,e,m⟩:=g_ e m;simp[e];refine fQ m jE λ_ m=>?_;simp[e];refine fQ m jE λ_ m=>?_;have⟨n,e,m⟩:=g_ e m;simp[e];refine fQ m sy λ_ m=>?_;simp[e];refine fQ m jE λ_ m=>?_;exact au
def VZ:qx prog 265=true:=by kernel_rfl
def QK:∀(n:Nat),C2 prog 265 (nZ n) (t3 Tm.av sB sB) Tm.av sI:=by
  intro n
  induction n with
  |zero=>
    skip
    all_goals(intro _ _;intros;rename_i hm;cases hm)
  |succ n ih=>
 rintro T H a0 a1 ⟨r0,r1,r2⟩ hm;rw[nZ] at hm;refine gG.intro (fn:=f265) func265 rfl VZ (Kz rfl) ?_;refine jF.sr [] λK1 aS=>?_;simp;apply aS;refine jF.Dh λK3 aT=>?_;refine jF.sr [] λK5 aU=>?_;have⟨x7,aV,G⟩:=ez hm;clear hm
 try dsimp only at G
 simp;refine sM.fn (RB aV) ?_;simp;apply aU;refine jF.Cq λbl bm ah ai=>?_;rcases nx G with⟨a,I⟩|⟨a,J⟩
 ·clear G;simp[a];apply ah;refine jF.Dh λbn ak=>?_;refine jF.sr [] λbo an=>?_;have⟨bp,ao,w⟩:=ez I;clear I
  try dsimp only at w
  simp[a];refine sM.fn (P5 ao) ?_;simp[a];apply an;refine jF.Cq λbq br aq ar=>?_;rcases nx w with⟨p,K⟩|⟨p,M⟩
  ·clear w;simp[a,p];apply aq;refine jF.sr [] λbs aw=>?_;simp[a,p];apply aw;refine jF.ret ?_;simp only[zq,Ln] at K;obtain⟨rfl,rfl,rfl⟩:=K;simp[DU,a,p]
  clear w;simp[a,p];apply ar;refine jF.skip ?_;apply ak;refine jF.sr [] λbt ax=>?_;have⟨bu,ay,B⟩:=ez M;clear M
  try dsimp only at B
  simp[a,p];refine sM.fn (N3 ay) ?_;simp[a,p];apply ax;refine jF.ret ?_;simp only[zq,Ln] at B;obtain⟨rfl,rfl,rfl⟩:=B;simp[DU,a,p]
 clear G;simp[a];apply ai;refine jF.skip ?_;apply aT;refine jF.Dh λbw az=>?_;refine jF.sr [] λbz aA=>?_;simp[a];apply aA;have⟨P,N⟩:=tZ J;clear J;have⟨aW,aB,C⟩:=sR N;clear N
 try dsimp only at C
 have⟨Q,q,o⟩:=ez C;clear C;refine jF.JE λbA aX aC aY aD=>?_;refine jF.TC (λn55 fr h=>∃(i56:Nat) (A:Int) (r:Nat) (s:Nat),H=h/\(fr.env 1=sI a1/\fr.env 2=AV.mD 2 r 0/\fr.env 4=AV.mD 4 s 0/\fr.env 23=sL Tm.av a0.afp/\fr.env 24=sI (dT a0.afp)/\fr.env 25=sI A/\fr.gen 2=r/\fr.box 2=some [sI a0.afo,sI a0.afr,sI a0.cW.afo,sL Ty.av a0.cW.afp,sL Tm.av a0.afp]/\fr.gen 4=s/\fr.box 4=some [sI 0,sI 0,sI 0,nL,nL])/\A=(i56:Int)/\i56+n55=List.length a0.afp/\eg aW (List.drop i56 a0.afp) i56 ()=some Q) (List.length a0.afp) ?_ ?_
 ·refine⟨0,0,1,1,?_,⟨?_,?_,?_,?_,?_,?_,?_,?_,?_,?_⟩,rfl,aae,q⟩<;>first|rfl|simp[a]
 rintro n55 O bB ⟨i56,A,r,s,rfl,i,v,aZ,q⟩ bC aE;rcases n55 with _|n55
 ·have b:=S6 (l:=a0.afp) v Zb;refine jF.sr [] λbD aF=>?_;simp[i,b,a];apply aF;refine jF.Dh λbE a6=>?_;refine jF.Cq λbF bG a7 aG=>?_;simp[i,b,a];apply aG;refine jF.exit ?_;apply aC;rw[Od Zb,lz] at q;obtain rfl:=hZ q;rw[cR] at o
  try dsimp only at o
  apply az;refine jF.sr [] λbH aH=>?_;simp[i,b,a];apply aH;refine jF.ret ?_;simp only[zq,Ln] at o;obtain⟨rfl,rfl,rfl⟩:=o;simp[DU,i,b,a]
 have b:=U0 (l:=a0.afp) v Zb;have⟨bI,R,e⟩:=Tn (l:=a0.afp) v Zb;rw[R,dq] at q;have⟨bJ,y,z⟩:=ez q;clear q;rw[aB,<-v] at y
 try dsimp only at y
 refine jF.sr [] λbK aI=>?_;simp[i,b,e,a];apply aI;refine jF.Dh λbL aJ=>?_;refine jF.Cq λbM bN aK a8=>?_;simp[i,b,e,a];apply aK;refine jF.skip ?_;apply aJ;refine jF.Dh λbO aL=>?_;refine jF.JE λbP a_ aM a' aN=>?_;refine jF.sr [] λbQ aO=>?_;simp[i,b,e,a];apply aO;refine jF.sr [] λbR aP=>?_;have⟨S,bS,ba,U,t⟩:=Eh y;clear y
 try dsimp only at t
 simp[i,b,e,a];refine sM.fn (ih U) ?_;simp[i,b,e,a];apply aP;refine jF.Dh λbb V=>?_;refine jF.sr [] λbc W=>?_;simp[i,b,e,a];apply W;refine jF.Cq λbd bf X Y=>?_;rcases nx t with⟨c,D⟩|⟨c,Z⟩;rotate_left
 ·clear t;simp[i,b,e,a,c];apply X;refine jF.exit ?_;apply aM;apply aL;refine jF.region [] abn ?_;simp[i,b,e,a,c];obtain rfl:=hZ Z;rw[dt] at z
  refine aE _ _ n55 (XD _) ⟨(i56+1),(ep .i64 A 1),r,s,?_,⟨?_,?_,?_,?_,?_,?_,?_,?_,?_,?_⟩,(Q6 v Zb P),Zb,z⟩<;>first|rfl|simp[i,b,e,a,c]
 clear t;simp[i,b,e,a,c];apply Y;refine jF.skip ?_;apply V;refine jF.sr [] λbg aa=>?_;simp[i,b,e,a,c];apply aa;refine jF.sr [] λbh ab=>?_;have⟨ad,E⟩:=tZ D;clear D;simp[i,b,e,a,c];refine Bf.ZR (f:=Tm.av) a0.afp JY ⟨_,Z1⟩ (by intro x;simp) ad (by first|rfl|simp) (by first|rfl|simp) λu aQ=>?_;simp[i,b,e,a,c];apply ab;refine jF.sr [] λbj ae=>?_;have⟨aR,j,F⟩:=ez E;clear E
 try dsimp only at F
 have m:=Pr j;simp[i,b,e,j,m,a,c];refine Ie.arr (f:=Tm.av) (L:=a0.afp) (k:=((u-List.length a0.afp)*5)) S Y9 (by intro x;simp) (by simp[i,b,e,j,m,a,c]) (x:=aR) (by assumption) (by simp[i,b,e,j,m,a,c]) (by simp[i,b,e,j,m,a,c]) (by simp[i,b,e,j,m,a,c]) ?_;simp[i,b,e,j,m,a,c];apply ae;refine jF.Dh λbk af=>?_;refine jF.aek 12 4 (cs2:=[sI a0.afo,sI a0.afr,sI a0.cW.afo,sL Ty.av a0.cW.afp,AV.FZ 42 (O.gen 42+1) (List.length (ya a0.afp A S)) u]) (f:=Tm.av) (L:=(ya a0.afp A S)) (k:=((u-List.length a0.afp)*5)) (sz:=5) (d:=42) (g:=(O.gen 42+1)) (cap:=u) (by intro x;simp) (by intro x;simp) Zk (by simp[i,b,e,j,m,a,c]) (by simp[i,b,e,j,m,a,c]) (by simp[i,b,e,j,m,a,c]) (by simp[i,b,e,j,m,a,c]) ?_;refine jF.region [] abn ?_;simp[i,b,e,j,m,a,c];apply af;refine jF.ret ?_;apply aN;apply aD;obtain rfl:=hZ F;rw[BG] at z;obtain rfl:=hZ z;rw[mA] at o
 try dsimp only at o
 simp only[zq,Ln] at o;obtain⟨rfl,rfl,rfl⟩:=o;simp[DU,i,b,e,j,m,a,c]
def RK{n:Nat}:C2 prog 265 (nZ n) (t3 Tm.av sB sB) Tm.av sI:=(QK n)
def EN:C2 prog 229 lF (t3 Tm.av sI sI) Tm.av sI:=by
 refine u2 7 func229 λT H a0 a1 r m e=>?_;rw[lF] at m;simp[e];refine gj m tn λ_ m=>?_;simp[e];apply Iq e m<;>intro e m
 ·apply wg 999;exact au
 apply wg 3;simp[e];refine Wj m 999 999 (λb f h=>∃v3,(h=H/\f.1 1=sI a1/\f.1 28=sB v3/\bx f 2 (Tm.av a0).cells/\bx f 4 [sI 0,sI 0,sI 0,nL,nL])/\b v3=some r) (λb _ g m=>?_) ?_
 ·apply Iq e m<;>intro e m
  ·exact nP
  apply Iq e m<;>intro e m
  ·exact nP
  simp[e];refine gj m z7 λ_ m=>?_;exact nP
 rintro _ _ ⟨v3,E,m⟩;have e:=Aj e E;refine Il e m λe m=>?_;simp[e];refine Wn m 999 (λa f h=>h=H/\f.1 1=sI a1/\f.1 8=sI a.1/\bx f 2 [sI a.2.1,sI a.2.2.1,sI a.2.2.2.1,sL Ty.av a.2.2.2.2.1,sL Tm.av a.2.2.2.2.2]/\bx f 4 [sI 0,sI 0,sI 0,nL,nL]) aav (λa _ _ _ _ _ E m z p=>?_);have⟨c,d,i,j,k,v20⟩:=a;have e:=Aj e E;dsimp only[Bn]at m;simp[e];refine fQ m jQ λ_ m=>?_;simp[e];refine Cs3 m RK λ_ _ _ m=>?_;apply Ir e m<;>intro e m
 ·simp[e];refine gj m ti λ_ m=>?_;exact au
 refine Il e m λe m=>?_;refine Im e m λe m=>?_;exact al
def Qj:C3 prog 163 qO sI Tm.av Tm.av sI:=by
 refine v3 func163 λT H a0 a1 a2 r m e=>?_;rw[qO] at m;simp[e];refine gj m tn λ_ m=>?_;refine Il e m λe m=>?_;simp[e];refine gj m tn λ_ m=>?_;refine Il e m λe m=>?_;simp[e];refine gj m Hq λ_ m=>?_;refine Il e m λe m=>?_;simp[e];refine QA m EN λ_ _ _ m=>?_;refine Il e m λe m=>?_;simp[e];refine QA m EN λ_ _ _ m=>?_;refine Il e m λe m=>?_;simp[e];refine gj m Hq λ_ m=>?_;refine Il e m λe m=>?_;exact au
def Qh{n:Nat}:C2 prog 94 (pN n) sI Fm.av Fm.av:=by
 refine i2 λn d=>u2 3 func94 λT H a0 a1 r m e=>?_;rw[pN] at m;simp[e];refine Wj m 999 999 (λb f h=>∃v2,(h=H/\f.1 21=sB v2/\bx f 2 (Fm.av a0).cells/\bx f 3 (Fm.av a1).cells)/\b v2=some r) (λb _ g m=>?_) ?_
 ·apply Iq e m<;>intro e m
  ·exact nP
  simp[e];refine gj m lL λ_ m=>?_;exact nP
 rintro _ _ ⟨v2,E,m⟩;have e:=Aj e E;refine Il e m λe m=>?_;simp[e];refine F7 e m 999 (λc _ f h=>h=H/\f.1 24=sI (dT a0.dy)/\f.1 25=sI c/\bx f 2 (Fm.av a0).cells/\bx f 3 (Fm.av a1).cells) aav (λc _ _ _ _ _ _ _ E e m z p=>?_) (λ_ _ _ _ E m=>?_)
 ·have e:=Aj e E;have⟨i,e,m⟩:=g_ e m;simp[e];refine fQ m Qj λ_ m=>?_;refine Il e m λe m=>?_;exact al
 have e:=Aj e E;dsimp only[cR]at m;simp[e];refine Wr e m 999 (λa _ f h=>h=H/\f.1 45=sI (dT a0.afp)/\f.1 46=sI a/\bx f 2 (Fm.av a0).cells/\bx f 3 (Fm.av a1).cells) aav (λ_ _ _ _ E m=>?_) (λa _ _ _ _ _ _ _ E e m z p=>?_)
 ·have e:=Aj e E;dsimp only[cR]at m;exact au
 have e:=Aj e E;have⟨j,e,m⟩:=g_ e m;simp[e];refine fQ m d λ_ m=>?_;refine Il e m λe m=>?_;exact al
def Ge:C2 prog 31 mc sI Fm.av Fm.av:=by
 refine v2 func31 λT H a0 a1 r m e=>?_;rw[mc] at m;simp[e];refine gj m vl λ_ m=>?_;refine Il e m λe m=>?_;simp[e];refine gj m vl λ_ m=>?_;refine Il e m λe m=>?_;simp[e];refine gj m Qh λ_ m=>?_;exact au
def B_:C1 prog 95 n8 sI Fm.av:=by
 refine v1 func95 λT H a0 r m e=>?_;rw[n8] at m;simp[e];refine gj m Af λ_ m=>?_;refine Il e m λe m=>?_;exact au
def py{n:Nat}:C3 prog 32 (fl n) Fm.av Fm.av sI sI:=by
 refine i3 λn v=>v3 func32 λT H a0 a1 a2 r m e=>?_;rw[fl] at m;simp[e];refine F7 e m 999 (λu s2 f h=>∃c,(h=H/\f.1 1=sI a1/\f.1 2=sI a2/\f.1 18=sL Tm.av a0.dy/\f.1 19=sI (dT a0.dy)/\f.1 20=sI u/\bx f 3 (Fm.av a0).cells/\bx f 6 [sI 0,sI 0,nL,nL,nL]/\bx f 7 [sI a0.afo,sI a0.cW.afo,sL Ty.av a0.cW.afp,sT c Tm.av s2,nL])/\Ow f [31] c s2) (by exact⟨.full,aav,kG.full⟩) (λu _ s2 o _ _ _ _ E e m z p=>?_) (λs2 o _ _ E m=>?_)
 ·have⟨c,E,i⟩:=E;have e:=Aj e E;simp[e];refine fQ m HR λs m=>?_;have⟨e,m⟩:=Ck e m;simp[e];refine Ad (f:=Tm.av) s2 [s] i JY e.2 ?_;simp[e];cases m;exact p _ _ _ ⟨(.loc 31 (o.gN 31+1)),aav,(On 31)⟩ z
 have⟨c,E,i⟩:=E;have e:=Aj e E;dsimp only[cR]at m;simp[e];refine Wr e m 999 (λq j f h=>∃a b,(h=H/\f.1 1=sI a1/\f.1 2=sI a2/\f.1 35=sL Fm.av a0.afp/\f.1 36=sI (dT a0.afp)/\f.1 37=sI q/\bx f 3 (Fm.av a0).cells/\bx f 6 [sI 0,sI 0,nL,nL,nL]/\bx f 7 [sI a0.afo,sI a0.cW.afo,sL Ty.av a0.cW.afp,sT a Tm.av s2,sT b Fm.av j])/\Ow f [31] a s2/\Ow f [51] b j) (by exact⟨c,.full,aav,i,kG.full⟩) (λj l _ _ E m=>?_) (λq _ j l _ _ _ _ E e m z p=>?_)
 ·have⟨a,b,E,k,d⟩:=E;have e:=Aj e E;dsimp only[cR]at m;exact au
 have⟨a,b,E,k,d⟩:=E;have e:=Aj e E;simp[e];refine fQ m B_ λ_ m=>?_;simp[e];refine fQ m v λt m=>?_;have⟨e,m⟩:=Ck e m;simp[e];refine Ad (f:=Fm.av) j [t] d E5 e.2 ?_;simp[e];cases m;exact p _ _ _ ⟨a,(.loc 51 (l.gN 51+1)),aav,(kG.other k d Zk Zk),(On 51)⟩ z
def uc:C2 prog 256 ed cY.av cY.av (sL Ty.av):=by
 refine v2 func256 λT H a0 a1 r m e=>?_;rw[ed] at m;have⟨e,m⟩:=Ck e m;simp[e];refine Ad (f:=Ty.av) a0.afs a1 (kG.full (D:=[])) Lx e.2 ?_;simp[e];refine Wr e m 999 (λk s2 f h=>∃a b,(h=H/\f.1 1=sL Ty.av a1/\f.1 23=sL Fm.av a0.afv/\f.1 24=sI (dT a0.afv)/\f.1 25=sI k/\bx f 4 [nL,nL,nL]/\bx f 5 [sL Fm.av a0.lemmas,sT a Ty.av (fK a0.afs a1),sT b Fm.av s2])/\Ow f [20] a (fK a0.afs a1)/\Ow f [36] b s2) (by exact⟨(.loc 20 1),.full,aav,(On 20),kG.full⟩) (λs2 i _ _ E m=>?_) (λk _ s2 i _ _ _ _ E e m z p=>?_)
 ·have⟨a,b,E,d,c⟩:=E;have e:=Aj e E;dsimp only[cR]at m;exact au
 have⟨a,b,E,d,c⟩:=E;have e:=Aj e E;simp[e];refine fQ m py λj m=>?_;have⟨e,m⟩:=Ck e m;simp[e];refine Ad (f:=Fm.av) s2 [j] c E5 e.2 ?_;simp[e];cases m;exact p _ _ _ ⟨a,(.loc 36 (i.gN 36+1)),aav,(kG.other d c Zk Zk),(On 36)⟩ z
def xg:C2 prog 257 eT (sL sI) (sL sI) sI:=by
 refine v2 func257 λT H a0 a1 r m e=>?_;rw[eT] at m;simp[e];refine Wr e m 0 (λk s2 f h=>∃b,(h=H/\f.1 1=sI a1/\f.1 5=sT b sI s2/\f.1 8=sL sI a0/\f.1 9=sI (dT a0)/\f.1 10=sI k)/\Ow f [22] b s2) (by exact⟨.full,aav,kG.full⟩) (λs2 i _ _ E m=>?_) (λk l s2 i _ _ _ n E e m z p=>?_)
 ·have⟨b,E,c⟩:=E;have e:=Aj e E;apply wg 999;dsimp only[cR]at m;exact au
 have⟨b,E,c⟩:=E;have e:=Aj e E;apply wg 5;simp[e];refine Gc m 999 999 (λj f h=>∃v11 a,(h=H/\f.1 1=sI a1/\f.1 5=sT a sI v11/\f.1 8=sL sI a0/\f.1 9=sI (dT a0)/\f.1 10=sI k)/\Ow f [22] a v11/\j v11=some n) ?_ (λj _ g m=>?_)
 ·rintro _ _ ⟨v11,a,E,d,m⟩;have e:=Aj e E;simp[e];cases m;exact p _ _ _ ⟨a,aav,d⟩ z
 apply Ir e m<;>intro e m
 ·simp[e];exact g _ _ ⟨s2,b,aav,c,m⟩
 have⟨e,m⟩:=Ck e m;simp[e];refine Ao (f:=sI) s2 [(eH .i64 l a1)] c Vs e.2 ?_;simp[e];exact g _ _ ⟨(fK s2 [(eH .i64 l a1)]),(.loc 22 (i.gN 22+1)),aav,(On 22),m⟩
def Nz:C1 prog 258 qI sB (sL sI):=by
 refine u1 2 func258 λT H a0 r m e=>?_;rw[qI] at m;simp[e];refine Gc m 999 999 (λa f h=>∃v2,(h=H/\f.1 2=sB v2)/\a v2=some r) ?_ (λa _ g m=>?_)
 ·rintro _ _ ⟨v2,E,m⟩;have e:=Aj e E;exact au
 apply Ir e m<;>intro e m
 ·exact nP
 have⟨b,e,m⟩:=g_ e m;exact nP
def EX:C2 prog 259 jz (t2 Ty.av sI) (sL Ty.av) Tm.av:=by
 refine v2 func259 λT H a0 a1 r m e=>?_;rw[jz] at m;simp[e];refine gj m Dj λ_ m=>?_;refine Il e m λe m=>?_;simp[e];refine mM m Kk λ_ _ m=>?_;exact au
def Qk(T:fx):∀(n:Nat),(∀{H:dM} {a0:Tm} {a1:Int} {a2:(List (Int×Bool))} {a:(List (Int×Bool))} {o2:Nat} (b:H[o2]?=some [B3 sB a2]) (hm:qt n a0 a1 a2=some a),fg prog T 129 [Tm.av a0,sI a1,AV.vu o2] H (AV.tuple []) (iE H o2 [B3 sB a])):=by
  intro n
  induction n with
  |zero=>
    skip
    all_goals(intro _ _;intros;rename_i hm;cases hm)
  |succ n k=>
 intro H a0 a1 a2 a o2 b hm;rw[qt] at hm;have d:=ie b;refine gG.Qi b ?_;have e:=d;refine wi aft func129 [] [] 2 ?_;simp[e];refine Wj hm 0 999 (λi f h=>∃(v2:(List (Int×Bool))),(h=iE H o2 [B3 sB v2]/\f.1 1=sI a1/\f.1 2=AV.vu o2/\f.1 3=AV.mD 3 (f.gen 3) 0/\f.box 3=some (Tm.av a0).cells)/\i v2=some a) (λi _ g m=>?_) ?_
 ·refine wj 999 999 (λf h=>h=iE H o2 [B3 sB a2]/\f.1 1=sI a1/\f.1 2=AV.vu o2/\f.1 16=sB (fp (dC a0.afo 1) (sS a0.afr a1) false)/\bx f 3 (Tm.av a0).cells) (λ_ g=>?_) ?_
  ·rcases Pb (dC a0.afo 1) e with e|e
   ·exact aj
   exact aj
  rintro _ _ E;have e:=Aj e E;apply Ir e m<;>intro e m
  ·exact nP
  simp[e];refine CO.i64 (f:=sB) a2 true Uj DA aav aav ?_;exact nP
 rintro _ _ ⟨v2,E,m⟩;have e:=Aj e E;simp[e];refine Wr e m 999 (λj c f h=>h=iE H o2 [B3 sB c]/\f.1 1=sI a1/\f.1 2=AV.vu o2/\f.1 23=sL Tm.av a0.afp/\f.1 24=sI (dT a0.afp)/\f.1 25=sI j/\bx f 3 (Tm.av a0).cells) aav (λc _ _ _ E m=>?_) (λj _ c _ _ _ _ _ E e m z p=>?_)
 ·have e:=Aj e E;dsimp only[cR]at m;exact au
 have e:=Aj e E;simp[e];refine fQ m z8 λ_ m=>?_;simp[e];refine fQ m (k aav) λd19 m=>?_;exact al
def Sw(T:fx){H:dM}{a0:Tm}{a1:Int}{a2:(List (Int×Bool))}{a:(List (Int×Bool))}{o2:Nat}(b:H[o2]?=some [B3 sB a2]){n:Nat}(hm:qt n a0 a1 a2=some a):fg prog T 129 [Tm.av a0,sI a1,AV.vu o2] H (AV.tuple []) (iE H o2 [B3 sB a]):=(Qk T n) b hm
def RJ(T:fx){H:dM}{a0:Tm}{a:List Int}{b:Int}(hm:wV a0=some (a,b)):fg prog T 58 [Tm.av a0] H (AV.tuple [sL sI a,sI b]) H:=by
 rw[wV] at hm;refine gG.Dq (Post:=λx K=>x=AV.tuple [sL sI a,sI b]/\∃X,K=H++X) ?_ (λ_ _ h=>⟨_,h.2.choose_spec,by rw[h.1];simp[AV.low,AV.nk],h.1,rfl⟩);have e:=trivial;refine wi aft func58 [] [] 999 ?_;simp[e];refine gj hm tn λ_ m=>?_;refine Il e m λe m=>?_;simp[e];refine gj m (Sw T aav) λd2 m=>?_;simp[e];refine mM m (Iz T aav) λ_ d4 m=>?_;exact au
def DG:C1 prog 260 jl (sL sI) Tm.av:=by
 refine v1 func260 λT H a0 r m e=>?_;rw[jl] at m;simp[e];refine mM m (RJ T) λ_ _ m=>?_;exact au
def Kh{n:Nat}:C2 prog 113 (oV n) sB Fm.av sI:=by
 refine i2 λn c=>v2 func113 λT H a0 a1 r m e=>?_;rw[oV] at m;simp[e];refine F7 e m 999 (λb _ f h=>h=H/\f.1 1=sI a1/\f.1 10=sL Tm.av a0.dy/\f.1 11=sI (dT a0.dy)/\f.1 12=sI b/\bx f 2 (Fm.av a0).cells) aav (λb _ _ _ _ _ _ _ E e m z p=>?_) (λ_ _ _ _ E m=>?_)
 ·have e:=Aj e E;simp[e];refine gj m z7 λ_ m=>?_;refine Im e m λe m=>?_;exact al
 have e:=Aj e E;dsimp only[cR]at m;simp[e];refine Wr e m 999 (λa _ f h=>h=H/\f.1 1=sI a1/\f.1 22=sL Fm.av a0.afp/\f.1 23=sI (dT a0.afp)/\f.1 24=sI a) aav (λ_ _ _ _ E m=>?_) (λa _ _ _ _ _ _ _ E e m z p=>?_)
 ·have e:=Aj e E;dsimp only[cR]at m;exact au
 have e:=Aj e E;simp[e];refine gj m c λ_ m=>?_;refine Im e m λe m=>?_;exact al
def QM{n:Nat}:C2 prog 116 (pJ n) sI Fm.av sI:=by
 refine i2 λn d=>v2 func116 λT H a0 a1 r m e=>?_;rw[pJ] at m;simp[e];refine F7 e m 999 (λc s2 f h=>h=H/\f.1 1=sI a1/\f.1 5=sI s2/\f.1 11=sL Tm.av a0.dy/\f.1 12=sI (dT a0.dy)/\f.1 13=sI c/\bx f 2 (Fm.av a0).cells) aav (λc _ s2 _ _ _ _ _ E e m z p=>?_) (λs2 _ _ _ E m=>?_)
 ·have e:=Aj e E;simp[e];refine gj m F_ λ_ m=>?_;exact al
 have e:=Aj e E;dsimp only[cR]at m;simp[e];refine Wr e m 999 (λb a f h=>h=H/\f.1 1=sI a1/\f.1 5=sI a/\f.1 24=sL Fm.av a0.afp/\f.1 25=sI (dT a0.afp)/\f.1 26=sI b/\bx f 2 (Fm.av a0).cells) aav (λa _ _ _ E m=>?_) (λb _ a _ _ _ _ _ E e m z p=>?_)
 ·have e:=Aj e E;dsimp only[cR]at m;exact au
 have e:=Aj e E;simp[e];refine fQ m B_ λ_ m=>?_;simp[e];refine fQ m d λ_ m=>?_;exact al
def KN{n:Nat}:C4 prog 118 (vY n) Fm.av Fm.av sI sI Tm.av:=by
 refine i4 λn v=>v4 func118 λT H a0 a1 a2 a3 r m e=>?_;rw[vY] at m;simp[e];refine F7 e m 999 (λu s2 f h=>∃c,(h=H/\f.1 1=sI a1/\f.1 2=sI a2/\f.1 20=sL Tm.av a0.dy/\f.1 21=sI (dT a0.dy)/\f.1 22=sI u/\bx f 4 (Fm.av a0).cells/\bx f 7 (Tm.av a3).cells/\bx f 8 [sI 0,sI 0,nL,nL,nL]/\bx f 9 [sI a0.afo,sI a0.cW.afo,sL Ty.av a0.cW.afp,sT c Tm.av s2,nL])/\Ow f [34] c s2) (by exact⟨.full,aav,kG.full⟩) (λu _ s2 o _ _ _ _ E e m z p=>?_) (λs2 o _ _ E m=>?_)
 ·have⟨c,E,i⟩:=E;have e:=Aj e E;simp[e];refine fQ m KM λs m=>?_;have⟨e,m⟩:=Ck e m;simp[e];refine Ad (f:=Tm.av) s2 [s] i JY e.2 ?_;simp[e];cases m;exact p _ _ _ ⟨(.loc 34 (o.gN 34+1)),aav,(On 34)⟩ z
 have⟨c,E,i⟩:=E;have e:=Aj e E;dsimp only[cR]at m;simp[e];refine Wr e m 999 (λq j f h=>∃a b,(h=H/\f.1 1=sI a1/\f.1 2=sI a2/\f.1 38=sL Fm.av a0.afp/\f.1 39=sI (dT a0.afp)/\f.1 40=sI q/\bx f 4 (Fm.av a0).cells/\bx f 7 (Tm.av a3).cells/\bx f 8 [sI 0,sI 0,nL,nL,nL]/\bx f 9 [sI a0.afo,sI a0.cW.afo,sL Ty.av a0.cW.afp,sT a Tm.av s2,sT b Fm.av j])/\Ow f [34] a s2/\Ow f [55] b j) (by exact⟨c,.full,aav,i,kG.full⟩) (λj l _ _ E m=>?_) (λq _ j l _ _ _ _ E e m z p=>?_)
 ·have⟨a,b,E,k,d⟩:=E;have e:=Aj e E;dsimp only[cR]at m;exact au
 have⟨a,b,E,k,d⟩:=E;have e:=Aj e E;simp[e];refine fQ m B_ λ_ m=>?_;simp[e];refine fQ m v λt m=>?_;have⟨e,m⟩:=Ck e m;simp[e];refine Ad (f:=Fm.av) j [t] d E5 e.2 ?_;simp[e];cases m;exact p _ _ _ ⟨a,(.loc 55 (l.gN 55+1)),aav,(kG.other k d Zk Zk),(On 55)⟩ z
def IN:C3 prog 45 qG (t2 Fm.av sI) Fm.av sI Tm.av:=by
 refine u3 7 func45 λT H a0 a1 a2 r m e=>?_;rw[qG] at m;simp[e];refine gj m vl λ_ m=>?_;simp[e];apply Iq e m<;>intro e m
 ·apply wg 999;exact au
 apply wg 3;simp[e];refine wj 999 0 (λf h=>h=H/\f.1 1=sI a1/\f.1 21=sB (fp (xT a1 0) true (pc a1 4096))/\bx f 3 (Fm.av a0).cells/\bx f 5 (Tm.av a2).cells/\bx f 6 [sI 0,sI 0,nL,nL,nL]) (λ_ g=>?_) ?_
 ·rcases Pb (xT a1 0) e with e|e
  ·exact aj
  exact aj
 rintro _ _ E;have e:=Aj e E;apply Iq e m<;>intro e m
 ·apply wg 999;exact au
 apply wg 7;simp[e];refine gj m tn λ_ m=>?_;simp[e];apply Iq e m<;>intro e m
 ·apply wg 999;exact au
 apply wg 3;simp[e];refine Wj m 999 999 (λb f h=>∃a,(h=H/\f.1 1=sI a1/\f.1 36=sB a/\bx f 3 (Fm.av a0).cells/\bx f 5 (Tm.av a2).cells/\bx f 6 [sI 0,sI 0,nL,nL,nL])/\b a=some r) (λb _ g m=>?_) ?_
 ·simp[e];refine gj m Kh λ_ m=>?_;apply Ir e m<;>intro e m
  ·exact nP
  simp[e];refine gj m z7 λ_ m=>?_;exact nP
 rintro _ _ ⟨a,E,m⟩;have e:=Aj e E;refine Il e m λe m=>?_;simp[e];refine fQ m xz λ_ m=>?_;simp[e];refine fQ m QM λ_ m=>?_;simp[e];refine fQ m jQ λ_ m=>?_;refine Il e m λe m=>?_;simp[e];refine gj m KN λ_ m=>?_;simp[e];refine gj m qi λ_ m=>?_;exact au
def AO:C2 prog 261 iF (t2 Fm.av sI) Fm.av Tm.av:=by
 refine v2 func261 λT H a0 a1 r m e=>?_;rw[iF] at m;simp[e];refine mM m IN λ_ _ m=>?_;exact au
def SO{n:Nat}:C2 prog 288 (xr n) sB Tm.av sI:=by
 refine i2 λn b=>u2 3 func288 λT H a0 a1 r m e=>?_;rw[xr] at m;simp[e];refine wj 999 999 (λf h=>h=H/\f.1 1=sI a1/\f.1 15=sB (fp (dC a0.afo 1) (dC a0.afr a1) false)/\bx f 2 (Tm.av a0).cells) (λ_ g=>?_) ?_
 ·rcases Pb (dC a0.afo 1) e with e|e
  ·exact aj
  exact aj
 rintro _ _ E;have e:=Aj e E;refine Il e m λe m=>?_;simp[e];refine Wr e m 999 (λa _ f h=>h=H/\f.1 1=sI a1/\f.1 17=sL Tm.av a0.afp/\f.1 18=sI (dT a0.afp)/\f.1 19=sI a/\bx f 2 (Tm.av a0).cells) aav (λ_ _ _ _ E m=>?_) (λa _ _ _ _ _ _ _ E e m z p=>?_)
 ·have e:=Aj e E;dsimp only[cR]at m;exact au
 have e:=Aj e E;simp[e];refine fQ m z8 λ_ m=>?_;simp[e];refine fQ m b λ_ m=>?_;refine Il e m λe m=>?_;exact al
def Nw{n:Nat}:C2 prog 263 (pP n) sB Fm.av sI:=by
 refine i2 λn c=>v2 func263 λT H a0 a1 r m e=>?_;rw[pP] at m;simp[e];refine F7 e m 999 (λb _ f h=>h=H/\f.1 1=sI a1/\f.1 10=sL Tm.av a0.dy/\f.1 11=sI (dT a0.dy)/\f.1 12=sI b/\bx f 2 (Fm.av a0).cells) aav (λb _ _ _ _ _ _ _ E e m z p=>?_) (λ_ _ _ _ E m=>?_)
 ·have e:=Aj e E;simp[e];refine gj m SO λ_ m=>?_;refine Il e m λe m=>?_;exact al
 have e:=Aj e E;dsimp only[cR]at m;simp[e];refine Wr e m 999 (λa _ f h=>h=H/\f.1 1=sI a1/\f.1 21=sL Fm.av a0.afp/\f.1 22=sI (dT a0.afp)/\f.1 23=sI a/\bx f 2 (Fm.av a0).cells) aav (λ_ _ _ _ E m=>?_) (λa _ _ _ _ _ _ _ E e m z p=>?_)
 ·have e:=Aj e E;dsimp only[cR]at m;exact au
 have e:=Aj e E;simp[e];refine fQ m B_ λ_ m=>?_;simp[e];refine fQ m c λ_ m=>?_;refine Il e m λe m=>?_;exact al
def Pq{n:Nat}:C1 prog 264 (mf n) (t2 Fm.av sI) Fm.av:=by
 refine i1 λn v=>v1 func264 λT H a0 r m e=>?_;rw[mf] at m;simp[e];refine F7 e m 999 (λu s2 f h=>∃c,(h=H/\f.1 20=sL Tm.av a0.dy/\f.1 21=sI (dT a0.dy)/\f.1 22=sI u/\bx f 1 (Fm.av a0).cells/\bx f 2 [sI 0,sI 0,nL,nL,nL]/\bx f 4 [sI a0.afo,sI a0.cW.afo,sL Ty.av a0.cW.afp,sT c Tm.av s2,nL])/\Ow f [40] c s2) (by exact⟨.full,aav,kG.full⟩) (λu _ s2 o _ _ _ _ E e m z p=>?_) (λs2 o _ _ E m=>?_)
 ·have⟨c,E,i⟩:=E;have e:=Aj e E;simp[e];refine QA m EN λs _ _ m=>?_;refine Il e m λe m=>?_;have⟨e,m⟩:=Ck e m;simp[e];refine Ao (f:=Tm.av) s2 [s] i JY e.2 ?_;simp[e];cases m;exact p _ _ _ ⟨(.loc 40 (o.gN 40+1)),aav,(On 40)⟩ z
 have⟨c,E,i⟩:=E;have e:=Aj e E;dsimp only[cR]at m;simp[e];refine Wr e m 999 (λq j f h=>∃a b,(h=H/\f.1 44=sL Fm.av a0.afp/\f.1 45=sI (dT a0.afp)/\f.1 46=sI q/\bx f 2 [sI 0,sI 0,nL,nL,nL]/\bx f 4 [sI a0.afo,sI a0.cW.afo,sL Ty.av a0.cW.afp,sT a Tm.av s2,sT b Fm.av j])/\Ow f [40] a s2/\Ow f [63] b j) (by exact⟨c,.full,aav,i,kG.full⟩) (λj l _ _ E m=>?_) (λq _ j l _ _ _ _ E e m z p=>?_)
 ·have⟨a,b,E,k,d⟩:=E;have e:=Aj e E;dsimp only[cR]at m;exact au
 have⟨a,b,E,k,d⟩:=E;have e:=Aj e E;simp[e];refine mM m v λt _ m=>?_;refine Il e m λe m=>?_;have⟨e,m⟩:=Ck e m;simp[e];refine Ao (f:=Fm.av) j [t] d E5 e.2 ?_;simp[e];cases m;exact p _ _ _ ⟨a,(.loc 63 (l.gN 63+1)),aav,(kG.other k d Zk Zk),(On 63)⟩ z
def xG:C3 prog 226 gB sI cY.av Tm.av sI:=by
 refine v3 func226 λT H a0 a1 a2 r m e=>?_;rw[gB] at m;simp[e];refine mM m EX λ_ _ m=>?_;refine Il e m λe m=>?_;refine Il e m λe m=>?_;exact au
def NU{n:Nat}:C1 prog 110 (jr n) sB Fm.av:=by
 refine i1 λn a=>u1 8 func110 λT H a0 r m e=>?_;rw[jr] at m;simp[e];apply Iq e m<;>intro e m
 ·apply wg 999;exact au
 apply wg 3;simp[e];apply Ir e m<;>intro e m
 ·apply wg 999;refine Il e m λe m=>?_;have⟨d,e,m⟩:=g_ e m;simp[e];refine gj m a λ_ m=>?_;exact au
 apply wg 1;simp[e];refine Gc m 999 999 (λb f h=>∃v4,(h=H/\f.1 2=sB v4)/\b v4=some r) ?_ (λb _ g m=>?_)
 ·rintro _ _ ⟨v4,E,m⟩;have e:=Aj e E;exact au
 have⟨i,e,m⟩:=g_ e m;simp[e];refine gj m a λ_ m=>?_;apply Iq e m<;>intro e m
 ·exact nP
 have⟨c,e,m⟩:=g_ e m;simp[e];refine gj m a λ_ m=>?_;exact nP
def N8:C1 prog 43 ou (t2 sB sI) Fm.av:=by
 refine v1 func43 λT H a0 r m e=>?_;rw[ou] at m;simp[e];refine gj m vl λ_ m=>?_;refine Il e m λe m=>?_;simp[e];refine gj m NU λ_ m=>?_;exact au
def HI:∀(n:Nat),C2 prog 86 (dg n) (t2 xt.av sI) cY.av Pf.av/\C2 prog 160 (c6 n) (t3 Fm.av (sL sI) sI) cY.av Pf.av/\C2 prog 220 (nu n) (t3 Fm.av (sL sI) sI) cY.av Pf.av/\C2 prog 221 (oy n) (t3 Fm.av (sL sI) sI) cY.av Pf.av/\C2 prog 222 (oz n) (t3 Fm.av (sL sI) sI) cY.av Pf.av/\C2 prog 223 (mS n) (t3 Fm.av (sL sI) sI) cY.av Pf.av/\C2 prog 224 (sw n) (t3 Fm.av (sL sI) sI) cY.av Pf.av/\C2 prog 225 (qJ n) (t3 Fm.av (sL sI) sI) cY.av Pf.av/\C2 prog 227 (qE n) (t3 Fm.av (sL sI) sI) cY.av Pf.av/\C2 prog 228 (pR n) (t3 Fm.av (sL sI) sI) cY.av Pf.av/\C4 prog 262 (dY n) (t2 (sL sI) sI) cY.av Pf.av Fm.av Tm.av:=by
  intro n
  induction n with
  |zero=>
    refine⟨?_,?_,?_,?_,?_,?_,?_,?_,?_,?_,?_⟩
    all_goals(intro _ _;intros;rename_i hm;cases hm)
  |succ n c=>
 refine⟨?_,?_,?_,?_,?_,?_,?_,?_,?_,?_,?_⟩
 ·intro T H a0 a1 r hm;rw[dg] at hm;have e:=trivial;refine wi aft func86 [] [] 7 ?_;simp[e];refine QA hm c.2.1 λQ _ _ m=>?_;simp[e];apply Iq e m<;>intro e m
  ·apply wg 999;exact au
  apply wg 5;simp[e];refine gj m vl λO m=>?_;simp[e];apply Iq e m<;>intro e m
  ·apply wg 999;exact au
  apply wg 2;simp[e];refine Gc m 999 999 (λR f h=>∃v6 o,(h=H/\f.1 7=sT o sI v6/\bx f 4 [sI 0,sI 0,nL,nL,nL,nL]/\bx f 6 (Fm.av Q).cells)/\R v6=some r) ?_ (λR _ g m=>?_)
  ·rintro _ _ ⟨v6,o,E,m⟩;have e:=Aj e E;exact au
  simp[e];refine mM m N8 λ_ I m=>?_;apply Iq e m<;>intro e m
  ·simp[e];exact g _ _ ⟨_,.pw,aav,m⟩
  simp[e];exact g _ _ ⟨_,.full,aav,m⟩
 ·intro T H a0 a1 r hm;rw[c6] at hm;have e:=trivial;refine wi aft func160 [] [] 10 ?_;simp[e];apply Iq e hm<;>intro e m
  ·apply wg 999;refine Il e m λe m=>?_;have⟨aa,e,m⟩:=g_ e m;exact au
  apply wg 3;simp[e];apply Iq e m<;>intro e m
  ·apply wg 999;refine Il e m λe m=>?_;have⟨ab,e,m⟩:=g_ e m;exact au
  apply wg 3;simp[e];apply Iq e m<;>intro e m
  ·apply wg 999;have⟨ad,e,m⟩:=g_ e m;simp[e];refine sa m c.1 λ_ _ m=>?_;refine Il e m λe m=>?_;have⟨ae,e,m⟩:=g_ e m;simp[e];refine sa m c.1 λ_ _ m=>?_;simp[e];refine fQ m Fi λ_ m=>?_;simp[e];refine fQ m (rn T) λ_ m=>?_;exact au
  apply wg 1;simp[e];refine wj 999 0 (λf h=>h=H/\f.1 22=sI a1.afo/\f.1 93=sB (fp (dC a1.afo 4) true (dC a1.afo 5))/\bx f 2 (cY.av a0).cells/\bx f 3 (Pf.av a1).cells/\bx f 4 [sI 0,sI 0,nL,nL,nL]/\bx f 7 [sI 0,sI 0,nL,nL,nL]) (λ_ g=>?_) ?_
  ·rcases Pb (dC a1.afo 4) e with e|e
   ·exact aj
   exact aj
  rintro _ _ E;have e:=Aj e E;apply Iq e m<;>intro e m
  ·apply wg 999;have⟨af,e,m⟩:=g_ e m;simp[e];refine sa m c.1 λ_ _ m=>?_;refine Il e m λe m=>?_;refine Il e m λe m=>?_;have⟨ah,e,m⟩:=g_ e m;exact au
  apply wg 3;simp[e];apply Iq e m<;>intro e m
  ·apply wg 999;have⟨ai,e,m⟩:=g_ e m;simp[e];refine fQ m B9 λ_ m=>?_;refine Il e m λe m=>?_;simp[e];refine gj m r7 λ_ m=>?_;refine Il e m λe m=>?_;simp[e];refine fQ m uw λ_ m=>?_;have⟨ak,e,m⟩:=g_ e m;simp[e];refine sa m c.1 λ_ _ m=>?_;simp[e];refine fQ m Fi λ_ m=>?_;exact au
  apply wg 3;simp[e];apply Iq e m<;>intro e m
  ·apply wg 999;have⟨an,e,m⟩:=g_ e m;simp[e];refine sa m c.1 λ_ _ m=>?_;refine Il e m λe m=>?_;refine Il e m λe m=>?_;have⟨ao,e,m⟩:=g_ e m;simp[e];refine sa m c.1 λ_ _ m=>?_;refine Il e m λe m=>?_;have⟨aq,e,m⟩:=g_ e m;simp[e];refine fQ m (rn T) λ_ m=>?_;have⟨ar,e,m⟩:=g_ e m;simp[e];refine fQ m Ge λ_ m=>?_;exact au
  apply wg 1;simp[e];refine wj 999 0 (λf h=>h=H/\f.1 22=sI a1.afo/\f.1 218=sB (fp (dC a1.afo 8) true (dC a1.afo 12))/\bx f 2 (cY.av a0).cells/\bx f 3 (Pf.av a1).cells/\bx f 4 [sI 0,sI 0,nL,nL,nL]) (λ_ g=>?_) ?_
  ·rcases Pb (dC a1.afo 8) e with e|e
   ·exact aj
   exact aj
  rintro _ _ E;have e:=Aj e E;apply Iq e m<;>intro e m
  ·apply wg 999;simp[e];refine QA m c.2.2.1 λ_ _ _ m=>?_;exact au
  apply wg 1;simp[e];refine wj 999 0 (λf h=>h=H/\f.1 22=sI a1.afo/\f.1 227=sB (fp (dC a1.afo 9) true (dC a1.afo 13))/\bx f 2 (cY.av a0).cells/\bx f 3 (Pf.av a1).cells/\bx f 4 [sI 0,sI 0,nL,nL,nL]) (λ_ g=>?_) ?_
  ·rcases Pb (dC a1.afo 9) e with e|e
   ·exact aj
   exact aj
  rintro _ _ E;have e:=Aj e E;apply Iq e m<;>intro e m
  ·apply wg 999;simp[e];refine QA m c.2.2.2.1 λ_ _ _ m=>?_;exact au
  apply wg 1;simp[e];refine wj 999 0 (λf h=>h=H/\f.1 22=sI a1.afo/\f.1 236=sB (fp (dC a1.afo 10) true (dC a1.afo 14))/\bx f 2 (cY.av a0).cells/\bx f 3 (Pf.av a1).cells/\bx f 4 [sI 0,sI 0,nL,nL,nL]) (λ_ g=>?_) ?_
  ·rcases Pb (dC a1.afo 10) e with e|e
   ·exact aj
   exact aj
  rintro _ _ E;have e:=Aj e E;apply Iq e m<;>intro e m
  ·apply wg 999;simp[e];refine QA m c.2.2.2.2.1 λ_ _ _ m=>?_;exact au
  apply wg 1;simp[e];refine wj 999 999 (λf h=>h=H/\f.1 22=sI a1.afo/\f.1 245=sB (fp (dC a1.afo 11) true (dC a1.afo 15))/\bx f 2 (cY.av a0).cells/\bx f 3 (Pf.av a1).cells/\bx f 4 [sI 0,sI 0,nL,nL,nL]) (λ_ g=>?_) ?_
  ·rcases Pb (dC a1.afo 11) e with e|e
   ·exact aj
   exact aj
  rintro _ _ E;have e:=Aj e E;apply Iq e m<;>intro e m
  ·simp[e];refine QA m c.2.2.2.2.2.1 λ_ _ _ m=>?_;exact au
  apply Iq e m<;>intro e m
  ·simp[e];refine QA m c.2.2.2.2.2.2.1 λ_ _ _ m=>?_;exact au
  apply Iq e m<;>intro e m
  ·simp[e];refine QA m c.2.2.2.2.2.2.2.1 λ_ _ _ m=>?_;exact au
  apply Iq e m<;>intro e m
  ·have⟨aw,e,m⟩:=g_ e m;simp[e];refine fQ m vq λ_ m=>?_;simp[e];refine fQ m xG λ_ m=>?_;exact au
  apply Iq e m<;>intro e m
  ·simp[e];refine QA m c.2.2.2.2.2.2.2.2.1 λ_ _ _ m=>?_;exact au
  simp[e];refine QA m c.2.2.2.2.2.2.2.2.2.1 λ_ _ _ m=>?_;exact au
 ·intro T H a0 a1 r hm;rw[nu] at hm;have e:=trivial;refine wi aft func220 [] [] 999 ?_;simp[e];refine gj hm r7 λ_ m=>?_;refine Il e m λe m=>?_;simp[e];refine fQ m uc λ_ m=>?_;have⟨I,e,m⟩:=g_ e m;simp[e];refine sa m c.1 λ_ _ m=>?_;refine Il e m λe m=>?_;apply Iq e m<;>intro e m
  ·simp[e];refine fQ m uv λJ m=>?_;simp[e];refine fQ m xg λK m=>?_;exact au
  simp[e];refine gj m Nz λ_ m=>?_;refine Il e m λe m=>?_;simp[e];refine fQ m uv λ_ m=>?_;simp[e];refine fQ m xg λ_ m=>?_;exact au
 ·intro T H a0 a1 r hm;rw[oy] at hm;have e:=trivial;refine wi aft func221 [] [] 9 ?_;have⟨L,e,m⟩:=g_ e hm;simp[e];refine mM m EX λP _ m=>?_;simp[e];apply Iq e m<;>intro e m
  ·apply wg 999;exact au
  apply wg 7;have⟨x6,e,m⟩:=g_ e m;simp[e];refine sa m c.1 λd _ m=>?_;simp[e];apply Iq e m<;>intro e m
  ·apply wg 999;exact au
  apply wg 4;simp[e];refine fQ m DG λ_ m=>?_;simp[e];refine fQ m (rn T) λv m=>?_;simp[e];refine wj 999 999 (λf h=>h=H/\f.1 11=sI (fp (dC a1.afo 13) 6 4)/\f.1 12=sL sI (fp (dC a1.afo 13) d.fF v)/\bx f 4 [sI 0,sI 0,nL,nL,nL]/\bx f 7 (Tm.av L).cells/\bx f 8 (Ty.av P).cells/\bx f 10 [sI d.cZ.afo,sI d.cZ.cW.afo,sL Ty.av d.cZ.cW.afp,sL Tm.av d.cZ.dy,sL Fm.av d.cZ.afp,sL sI d.fF]) (λ_ g=>?_) ?_
  ·rcases Pb (dC a1.afo 13) e with e|e
   ·exact aj
   exact aj
  rintro _ _ E;have e:=Aj e E;refine Il e m λe m=>?_;simp[e];refine gj m lL λ_ m=>?_;refine Im e m λe m=>?_;have⟨b,e,m⟩:=g_ e m;simp[e];refine sa m AO λ_ _ m=>?_;exact au
 ·intro T H a0 a1 r hm;rw[oz] at hm;have e:=trivial;refine wi aft func222 [] [] 9 ?_;have⟨i,e,m⟩:=g_ e hm;have⟨O,e,m⟩:=g_ e m;simp[e];refine gj m B9 λ_ m=>?_;simp[e];apply Iq e m<;>intro e m
  ·apply wg 999;exact au
  apply wg 4;simp[e];refine wj 999 3 (λf h=>h=H/\f.1 10=sI (fp (dC a1.afo 14) 7 5)/\bx f 2 (cY.av a0).cells/\bx f 3 (Pf.av a1).cells/\bx f 4 [sI 0,sI 0,nL,nL,nL]/\bx f 7 (Fm.av i).cells/\bx f 8 (Tm.av O).cells) (λ_ g=>?_) ?_
  ·rcases Pb (dC a1.afo 14) e with e|e
   ·exact aj
   exact aj
  rintro _ _ E;have e:=Aj e E;simp[e];apply Iq e m<;>intro e m
  ·apply wg 999;exact au
  apply wg 7;simp[e];refine mM m EX λ_ I m=>?_;simp[e];apply Iq e m<;>intro e m
  ·apply wg 999;exact au
  apply wg 5;simp[e];refine gj m lL λw m=>?_;simp[e];apply Ir e m<;>intro e m
  ·apply wg 999;exact au
  apply wg 4;have⟨q,e,m⟩:=g_ e m;have⟨J,e,m⟩:=g_ e m;simp[e];refine sa m c.2.2.2.2.2.2.2.2.2.2 λK M m=>?_;simp[e];refine Gc m 999 999 (λx f h=>∃s,(h=H/\f.1 12=sI M/\f.1 13=sL sI s/\bx f 4 [sI 0,sI 0,nL,nL,nL]/\bx f 7 (Fm.av i).cells)/\x s=some r) ?_ (λx _ g m=>?_)
  ·rintro _ _ ⟨s,E,m⟩;have e:=Aj e E;exact au
  apply Ir e m<;>intro e m
  ·exact nP
  simp[e];refine gj m DG λ_ m=>?_;simp[e];refine gj m (rn T) λ_ m=>?_;exact nP
 ·intro T H a0 a1 r hm;rw[mS] at hm;have e:=trivial;refine wi aft func223 [] [] 7 ?_;have⟨N,e,m⟩:=g_ e hm;simp[e];refine sa m c.1 λa _ m=>?_;simp[e];apply Iq e m<;>intro e m
  ·apply wg 999;exact au
  apply wg 4;simp[e];refine wj 999 3 (λf h=>h=H/\f.1 9=sI (fp (dC a1.afo 15) 7 5)/\bx f 2 (cY.av a0).cells/\bx f 3 (Pf.av a1).cells/\bx f 4 [sI 0,sI 0,nL,nL,nL]/\bx f 7 [sI a.cZ.afo,sI a.cZ.cW.afo,sL Ty.av a.cZ.cW.afp,sL Tm.av a.cZ.dy,sL Fm.av a.cZ.afp,sL sI a.fF]) (λ_ g=>?_) ?_
  ·rcases Pb (dC a1.afo 15) e with e|e
   ·exact aj
   exact aj
  rintro _ _ E;have e:=Aj e E;simp[e];apply Iq e m<;>intro e m
  ·apply wg 999;exact au
  apply wg 7;simp[e];refine gj m r7 λ_ m=>?_;simp[e];apply Iq e m<;>intro e m
  ·apply wg 999;exact au
  apply wg 7;simp[e];refine fQ m uc λJ m=>?_;have⟨K,e,m⟩:=g_ e m;simp[e];refine fQ m uw λ_ m=>?_;have⟨S,e,m⟩:=g_ e m;simp[e];refine sa m c.1 λb _ m=>?_;simp[e];apply Iq e m<;>intro e m
  ·apply wg 999;exact au
  apply wg 4;simp[e];refine Wj m 999 1 (λy f h=>∃v124 j k v127 l,(h=H/\f.1 9=sI (fp (dC a1.afo 15) 7 5)/\bx f 4 [sI 0,sI 0,nL,nL,nL]/\bx f 7 [sI a.cZ.afo,sI a.cZ.cW.afo,sL Ty.av a.cZ.cW.afp,sL Tm.av a.cZ.dy,sL Fm.av a.cZ.afp,sL sI a.fF]/\bx f 11 [sI b.cZ.afo,sI b.cZ.cW.afo,sL Ty.av b.cZ.cW.afp,sL Tm.av b.cZ.dy,sL Fm.av b.cZ.afp,sL sI b.fF]/\bx f 12 [sI v124,sI j,sL Ty.av k,sL Tm.av v127,sL Fm.av l])/\y v124 j k v127 l=some r) (λy _ g m=>?_) ?_
  ·simp[e];refine gj m Nw λ_ m=>?_;apply Ir e m<;>intro e m
   ·simp[e];exact g _ _ ⟨_,_,_,_,_,aav,m⟩
   simp[e];refine mM m Pq λ_ _ m=>?_;refine Il e m λe m=>?_;simp[e];refine gj m Nw λ_ m=>?_;refine Il e m λe m=>?_;simp[e];exact g _ _ ⟨_,_,_,_,_,aav,m⟩
  rintro _ _ ⟨v124,j,k,v127,l,E,m⟩;have e:=Aj e E;simp[e];refine Wj m 999 999 (λA f h=>∃t,(h=H/\f.1 87=sB t/\bx f 4 [sI 0,sI 0,nL,nL,nL]/\bx f 7 [sI a.cZ.afo,sI a.cZ.cW.afo,sL Ty.av a.cZ.cW.afp,sL Tm.av a.cZ.dy,sL Fm.av a.cZ.afp,sL sI a.fF]/\bx f 11 [sI b.cZ.afo,sI b.cZ.cW.afo,sL Ty.av b.cZ.cW.afp,sL Tm.av b.cZ.dy,sL Fm.av b.cZ.afp,sL sI b.fF]/\bx f 12 [sI v124,sI j,sL Ty.av k,sL Tm.av v127,sL Fm.av l])/\A t=some r) (λA _ g m=>?_) ?_
  ·apply Ir e m<;>intro e m
   ·exact nP
   simp[e];refine gj m Nz λ_ m=>?_;exact nP
  rintro _ _ ⟨t,E,m⟩;have e:=Aj e E;refine Il e m λe m=>?_;simp[e];refine fQ m py λ_ m=>?_;simp[e];refine fQ m xg λ_ m=>?_;simp[e];refine fQ m (rn T) λ_ m=>?_;exact au
 ·intro T H a0 a1 r hm;rw[sw] at hm;have e:=trivial;refine wi aft func224 [] [] 999 ?_;have⟨i,e,m⟩:=g_ e hm;have⟨O,e,m⟩:=g_ e m;simp[e];refine fQ m k0 λu m=>?_;have⟨e,m⟩:=Ck e m;simp[e];refine Ad (f:=Ty.av) a0.afs [u] (kG.full (D:=[])) Lx e.2 ?_;simp[e];refine fQ m Cd λ_ m=>?_;refine Il e m λe m=>?_;simp[e];refine gj m xG λq m=>?_;refine Il e m λe m=>?_;have⟨B,e,m⟩:=g_ e m;simp[e];refine fQ m jE λC m=>?_;simp[e];refine sa m c.2.2.2.2.2.2.2.2.2.2 λ_ _ m=>?_;refine Il e m λe m=>?_;simp[e];refine gj m r7 λ_ m=>?_;refine Il e m λe m=>?_;simp[e];refine fQ m k0 λ_ m=>?_;simp[e];refine fQ m uc λ_ m=>?_;simp[e];refine fQ m uw λ_ m=>?_;have⟨U,e,m⟩:=g_ e m;simp[e];refine fQ m py λ_ m=>?_;simp[e];refine fQ m i_ λ_ m=>?_;simp[e];refine fQ m jE λ_ m=>?_;simp[e];refine sa m c.2.2.2.2.2.2.2.2.2.2 λ_ _ m=>?_;refine Il e m λe m=>?_;simp[e];refine mM m AO λ_ _ m=>?_;simp[e];refine fQ m DG λ_ m=>?_;simp[e];refine fQ m (rn T) λ_ m=>?_;simp[e];refine fQ m xg λ_ m=>?_;simp[e];refine fQ m (rn T) λ_ m=>?_;exact au
 ·intro T H a0 a1 r hm;rw[qJ] at hm;have e:=trivial;refine wi aft func225 [] [] 999 ?_;have⟨i,e,m⟩:=g_ e hm;have⟨O,e,m⟩:=g_ e m;simp[e];refine fQ m vi λu m=>?_;have⟨e,m⟩:=Ck e m;simp[e];refine Ad (f:=Ty.av) a0.afs [u] (kG.full (D:=[])) Lx e.2 ?_;simp[e];refine fQ m Cd λ_ m=>?_;refine Il e m λe m=>?_;simp[e];refine gj m xG λq m=>?_;refine Il e m λe m=>?_;have⟨B,e,m⟩:=g_ e m;simp[e];refine fQ m jE λC m=>?_;simp[e];refine sa m c.2.2.2.2.2.2.2.2.2.2 λ_ _ m=>?_;refine Il e m λe m=>?_;simp[e];refine gj m r7 λ_ m=>?_;refine Il e m λe m=>?_;simp[e];refine fQ m k0 λ_ m=>?_;simp[e];refine fQ m vi λ_ m=>?_;simp[e];refine fQ m uc λ_ m=>?_;simp[e];refine fQ m py λ_ m=>?_;simp[e];refine fQ m uw λ_ m=>?_;have⟨V,e,m⟩:=g_ e m;simp[e];refine fQ m py λ_ m=>?_;simp[e];refine fQ m i_ λ_ m=>?_;simp[e];refine fQ m i_ λ_ m=>?_;simp[e];refine fQ m jE λ_ m=>?_;simp[e];refine sa m c.2.2.2.2.2.2.2.2.2.2 λ_ _ m=>?_;refine Il e m λe m=>?_;simp[e];refine mM m AO λ_ _ m=>?_;simp[e];refine fQ m DG λ_ m=>?_;simp[e];refine fQ m (rn T) λ_ m=>?_;simp[e];refine fQ m xg λ_ m=>?_;simp[e];refine fQ m (rn T) λ_ m=>?_;exact au
 ·intro T H a0 a1 r hm;rw[qE] at hm;have e:=trivial;refine wi aft func227 [] [] 999 ?_;have⟨L,e,m⟩:=g_ e hm;simp[e];refine fQ m k0 λw m=>?_;have⟨e,m⟩:=Ck e m;simp[e];refine Ad (f:=Ty.av) a0.afs [w] (kG.full (D:=[])) Lx e.2 ?_;simp[e];refine fQ m Cd λ_ m=>?_;refine Il e m λe m=>?_;have⟨W,e,m⟩:=g_ e m;simp[e];refine sa m c.1 λ_ q m=>?_;refine Il e m λe m=>?_;refine Il e m λe m=>?_;have⟨B,e,m⟩:=g_ e m;have⟨C,e,m⟩:=g_ e m;simp[e];refine sa m c.2.2.2.2.2.2.2.2.2.2 λ_ _ m=>?_;refine Il e m λe m=>?_;have⟨X,e,m⟩:=g_ e m;simp[e];refine sa m AO λ_ _ m=>?_;exact au
 ·intro T H a0 a1 r hm;rw[pR] at hm;have e:=trivial;refine wi aft func228 [] [] 7 ?_;have⟨N,e,m⟩:=g_ e hm;simp[e];refine sa m c.1 λa _ m=>?_;simp[e];apply Iq e m<;>intro e m
  ·apply wg 999;exact au
  apply wg 3;simp[e];refine Wj m 999 999 (λF f h=>∃G,(h=H/\f.1 38=sB G/\bx f 4 [sI 0,sI 0,nL,nL,nL]/\bx f 7 [sI a.cZ.afo,sI a.cZ.cW.afo,sL Ty.av a.cZ.cW.afp,sL Tm.av a.cZ.dy,sL Fm.av a.cZ.afp,sL sI a.fF])/\F G=some r) (λF _ g m=>?_) ?_
  ·apply Iq e m<;>intro e m
   ·exact nP
   have⟨Y,e,m⟩:=g_ e m;exact nP
  rintro _ _ ⟨G,E,m⟩;have e:=Aj e E;refine Il e m λe m=>?_;have⟨v,e,m⟩:=g_ e m;simp[e];refine gj m wC λ_ m=>?_;simp[e];refine gj m xx λ_ m=>?_;refine Il e m λe m=>?_;have⟨Z,e,m⟩:=g_ e m;simp[e];refine gj m py λ_ m=>?_;simp[e];refine gj m i_ λ_ m=>?_;simp[e];refine gj m i_ λ_ m=>?_;simp[e];refine gj m jE λ_ m=>?_;simp[e];refine mM m AO λ_ _ m=>?_;simp[e];refine fQ m uv λ_ m=>?_;simp[e];refine fQ m uv λ_ m=>?_;exact au
 ·intro T H a0 a1 a2 a3 r hm;rw[dY] at hm;have e:=trivial;refine wi aft func262 [] [] 999 ?_;simp[e];refine mM hm c.1 λ_ Q m=>?_;refine Il e m λe m=>?_;simp[e];refine mM m AO λ_ _ m=>?_;refine Il e m λe m=>?_;simp[e];refine fQ m Ge λ_ m=>?_;exact au
def Ic{n:Nat}:C2 prog 86 (dg n) (t2 xt.av sI) cY.av Pf.av:=(HI n).1
def xy:C3 prog 24 jq (t2 xt.av sI) (sL Fm.av) Sq.av Pf.av:=by
 refine v3 func24 λT H a0 a1 a2 r m e=>?_;rw[jq] at m;simp[e];refine gj m N2 λ_ m=>?_;refine Il e m λe m=>?_;simp[e];refine gj m zN λ_ m=>?_;refine Il e m λe m=>?_;simp[e];refine mM m Ic λa _ m=>?_;refine Il e m λe m=>?_;simp[e];refine fQ m qi λ_ m=>?_;have⟨e,m⟩:=Ck e m;simp[e];refine Ad (f:=sI) [] a.fF (kG.full (D:=[])) Vs e.2 ?_;exact au
def B5:C2 prog 67 r5 Sq.av Sq.av (sL Ty.av):=by
 refine v2 func67 λT H a0 a1 r m e=>?_;rw[r5] at m;simp[e];refine gj m wI λk m=>?_;simp[e];refine Wr e m 999 (λj c f h=>∃a,(h=H/\f.1 1=sL Ty.av a1/\f.1 14=sL Fm.av a0.afv/\f.1 15=sI (dT a0.afv)/\f.1 16=sI j/\bx f 4 [nL,nL]/\bx f 5 [sL Ty.av k,sT a Fm.av c])/\Ow f [27] a c) (by exact⟨.full,aav,kG.full⟩) (λc d _ _ E m=>?_) (λj _ c d _ _ _ _ E e m z p=>?_)
 ·have⟨a,E,b⟩:=E;have e:=Aj e E;dsimp only[cR]at m;exact au
 have⟨a,E,b⟩:=E;have e:=Aj e E;simp[e];refine fQ m py λi m=>?_;have⟨e,m⟩:=Ck e m;simp[e];refine Ad (f:=Fm.av) c [i] b E5 e.2 ?_;simp[e];cases m;exact p _ _ _ ⟨(.loc 27 (d.gN 27+1)),aav,(On 27)⟩ z
def HB:C3 prog 36 xa Pf.av sI Tm.av Pf.av:=by
 refine v3 func36 λT H a0 a1 a2 r m e=>?_;rw[xa] at m;simp[e];refine gj m vJ λa m=>?_;simp[e];refine gj m ti λb m=>?_;have e:=Aj e (show AV.agg [sI a.afo,sI a.afr,sI a.cW.afo,sL Ty.av a.cW.afp,AV.slice .pw [Tm.av b],sL Fm.av a.fP,sL Pf.av a.afp]=Pf.av (Pf.mk a.afo a.afr a.cW [b] a.fP a.afp) by rw[Pf.jf];rfl);exact au
section
attribute [-simp] Go.tq.Kt
@[local simp] theorem adV(x:Fm):Kt prog 46 x.av 2=some (sL Tm.av x.dy):=by rw[Fm.j1];kernel_rfl
def vD:C1 prog 68 kO Tm.av Tm.av:=by
 refine v1 func68 λT H a0 r m e=>?_;rw[kO] at m;simp[e];refine gj m vq λ_ m=>?_;simp[e];refine gj m py λ_ m=>?_;have⟨a,e,m⟩:=g_ e m;exact au
end
def Hu:C4 prog 49 xi Pf.av sI Fm.av Tm.av Pf.av:=by
 refine v4 func49 λT H a0 a1 a2 a3 r m e=>?_;rw[xi] at m;simp[e];refine gj m HB λa m=>?_;simp[e];refine gj m qi λb m=>?_;have e:=Aj e (show AV.agg [sI a.afo,sI a.afr,sI a.cW.afo,sL Ty.av a.cW.afp,sL Tm.av a.dy,AV.slice .pw [Fm.av b],sL Pf.av a.afp]=Pf.av (Pf.mk a.afo a.afr a.cW a.dy [b] a.afp) by rw[Pf.jf];rfl);exact au
def PW(T:fx){H:dM}{a0:Int}{a1:Fm}{a2:Tm}{a3 a:Pf}{f0:Fm}(hm:tg a0 a1 a2 a3=some (a,f0)):fg prog T 49 [sI a0,Fm.av a1,Tm.av a2,Pf.av a3] H (AV.agg [sI a.afo,sI a.afr,sI a.cW.afo,sL Ty.av a.cW.afp,sL Tm.av a.dy,AV.Iv (List.length H) 0 1 1,sL Pf.av a.afp]) (H++[[sI f0.afo,sI f0.cW.afo,sL Ty.av f0.cW.afp,sL Tm.av f0.dy,sL Fm.av f0.afp]]):=by
 rw[tg] at hm;have e:=trivial;refine wi aft func49 [16] [] 999 ?_;simp[e];refine gj hm HB λ_ m=>?_;simp[e];refine gj m qi λ_ m=>?_;exact au
def Qx(T:fx){H:dM}{a0:db}{a1:Sq}{a:Pf}{f0:Fm}{b:db}{d:Nat}(c:H[d]?=some [sL sI a0.l,sI a0.vr])(hm:vg a0 a1=some (a,f0,b)):fg prog T 74 [AV.gS d 0,Sq.av a1] H (AV.agg [sI a.afo,sI a.afr,sI a.cW.afo,sL Ty.av a.cW.afp,sL Tm.av a.dy,AV.Iv (List.length H) 0 1 1,sL Pf.av a.afp]) ((iE H d [sL sI b.l,sI b.vr])++[[sI f0.afo,sI f0.cW.afo,sL Ty.av f0.cW.afp,sL Tm.av f0.dy,sL Fm.av f0.afp]]):=by
 rw[vg] at hm;have f:=ie c;refine gG.Qi c ?_;have e:=f;refine wi aft func74 [] [] 999 ?_;simp[e];refine gj hm k0 λ_ m=>?_;simp[e];refine mM m (qV T aav) λ_ d3 m=>?_;simp[e];refine fQ m vD λ_ m=>?_;simp[e];refine fQ m i_ λ_ m=>?_;simp[e];refine fQ m vq λ_ m=>?_;simp[e];refine fQ m uv λ_ m=>?_;simp[e];refine fQ m rf λ_ m=>?_;simp[e];refine sa m (PW T) λ_ _ m=>?_;exact au
def Ci:C1 prog 57 mQ Pf.av sI:=by
 refine v1 func57 λT H a0 r m e=>?_;rw[mQ] at m;exact au
def Ih:C5 prog 70 vX Pf.av sI Fm.av Tm.av Pf.av Pf.av:=by
 refine v5 func70 λT H a0 a1 a2 a3 a4 r m e=>?_;rw[vX] at m;simp[e];refine gj m vJ λa m=>?_;simp[e];refine gj m ti λb m=>?_;simp[e];refine gj m qi λc m=>?_;have e:=Aj e (show AV.agg [sI a.afo,sI a.afr,sI a.cW.afo,sL Ty.av a.cW.afp,AV.slice .pw [Tm.av b],AV.slice .pw [Fm.av c],sL Pf.av a.afp]=Pf.av (Pf.mk a.afo a.afr a.cW [b] [c] a.afp) by rw[Pf.jf];rfl);exact au
def KL:C2 prog 234 yJ Tm.av Tm.av sI:=by
 refine v2 func234 λT H a0 a1 r m e=>?_;rw[yJ] at m;simp[e];refine gj m HR λ_ m=>?_;exact au
def Kd:C3 prog 73 tl Pf.av Fm.av Pf.av Pf.av:=by
 refine v3 func73 λT H a0 a1 a2 r m e=>?_;rw[tl] at m;simp[e];refine gj m vJ λa m=>?_;simp[e];refine gj m qi λb m=>?_;have e:=Aj e (show AV.agg [sI a.afo,sI a.afr,sI a.cW.afo,sL Ty.av a.cW.afp,sL Tm.av a.dy,AV.slice .pw [Fm.av b],sL Pf.av a.afp]=Pf.av (Pf.mk a.afo a.afr a.cW a.dy [b] a.afp) by rw[Pf.jf];rfl);exact au
def Sd:C3 prog 180 wX Pf.av Tm.av Tm.av Pf.av:=by
 refine v3 func180 λT H a0 a1 a2 r m e=>?_;rw[wX] at m;simp[e];refine fQ m KL λ_ m=>?_;simp[e];refine fQ m KL λ_ m=>?_;simp[e];refine fQ m jE λ_ m=>?_;simp[e];refine fQ m KL λ_ m=>?_;simp[e];refine fQ m i_ λ_ m=>?_;simp[e];refine fQ m jE λ_ m=>?_;simp[e];refine fQ m vq λ_ m=>?_;simp[e];refine fQ m jE λ_ m=>?_;simp[e];refine fQ m rf λ_ m=>?_;simp[e];refine fQ m Kd λ_ m=>?_;exact au
def PJ:C3 prog 181 th sI (sL Tm.av) (sL Fm.av) (sL Pf.av):=by
 refine v3 func181 λT H a0 a1 a2 r m e=>?_;rw[th] at m;simp[e];refine F7 e m 999 (λc _ f h=>h=H/\f.1 1=sL Fm.av a1/\f.1 2=sL Pf.av a2/\f.1 16=sL Tm.av a0/\f.1 17=sI (dT a0)/\f.1 18=sI c) aav (λc _ _ _ _ _ _ _ E e m z p=>?_) (λ_ _ _ _ E m=>?_)
 ·have e:=Aj e E;simp[e];refine gj m tn λ_ m=>?_;refine Il e m λe m=>?_;exact al
 have e:=Aj e E;dsimp only[cR]at m;simp[e];refine F7 e m 999 (λa _ f h=>h=H/\f.1 2=sL Pf.av a2/\f.1 28=sL Fm.av a1/\f.1 29=sI (dT a1)/\f.1 30=sI a) aav (λa _ _ _ _ _ _ _ E e m z p=>?_) (λ_ _ _ _ E m=>?_)
 ·have e:=Aj e E;simp[e];refine gj m vl λ_ m=>?_;refine Il e m λe m=>?_;exact al
 have e:=Aj e E;dsimp only[cR]at m;simp[e];refine Wr e m 999 (λb _ f h=>h=H/\f.1 40=sL Pf.av a2/\f.1 41=sI (dT a2)/\f.1 42=sI b) aav (λ_ _ _ _ E m=>?_) (λb _ _ _ _ _ _ _ E e m z p=>?_)
 ·have e:=Aj e E;dsimp only[cR]at m;exact au
 have e:=Aj e E;simp[e];refine gj m zN λ_ m=>?_;refine Il e m λe m=>?_;exact al
def Qr:C2 prog 179 uy (t2 Pf.av sI) Pf.av sI:=by
 refine v2 func179 λT H a0 a1 r m e=>?_;rw[uy] at m;refine Il e m λe m=>?_;simp[e];refine gj m HA λ_ m=>?_;refine Im e m λe m=>?_;simp[e];refine gj m Dw λ_ m=>?_;exact au
def RY:C4 prog 132 wQ (t2 Pf.av sI) Tm.av Tm.av Tm.av Pf.av:=by
 refine v4 func132 λT H a0 a1 a2 a3 r m e=>?_;rw[wQ] at m;simp[e];refine fQ m Sd λ_ m=>?_;simp[e];refine fQ m PJ λ_ m=>?_;simp[e];refine sa m Qr λ_ _ m=>?_;exact au
def UO:C1 prog 72 By Pf.av Tm.av:=by
 refine v1 func72 λT H a0 r m e=>?_;rw[By] at m;simp[e];refine gj m KZ λ_ m=>?_;simp[e];refine gj m Jl λ_ m=>?_;simp[e];refine gj m i_ λ_ m=>?_;simp[e];refine gj m PY λ_ m=>?_;simp[e];refine fQ m i_ λ_ m=>?_;simp[e];refine fQ m vq λ_ m=>?_;simp[e];refine fQ m k0 λ_ m=>?_;simp[e];refine fQ m i_ λ_ m=>?_;simp[e];refine fQ m jE λ_ m=>?_;simp[e];refine fQ m sy λ_ m=>?_;simp[e];refine fQ m i_ λ_ m=>?_;simp[e];refine fQ m Ci λ_ m=>?_;simp[e];refine sa m RY λ_ _ m=>?_;simp[e];refine fQ m Jl λ_ m=>?_;simp[e];refine fQ m rf λ_ m=>?_;simp[e];refine fQ m Ih λ_ m=>?_;exact au
def We(T:fx){H:dM}{a0:db}{a1:Sq}{f:Pf}{a:db}{c:Nat}(b:H[c]?=some [sL sI a0.l,sI a0.vr])(hm:DM a0 a1=some (f,a)):fg prog T 74 [AV.gS c 0,Sq.av a1] H (Pf.av f) (iE H c [sL sI a.l,sI a.vr]):=by
 rw[DM] at hm;have d:=ie b;refine gG.Qi b ?_;have e:=d;refine wi aft func74 [] [] 999 ?_;simp[e];refine gj hm k0 λ_ m=>?_;simp[e];refine mM m (qV T aav) λ_ d3 m=>?_;simp[e];refine fQ m vD λ_ m=>?_;simp[e];refine fQ m i_ λ_ m=>?_;simp[e];refine fQ m vq λ_ m=>?_;simp[e];refine fQ m uv λ_ m=>?_;simp[e];refine fQ m rf λ_ m=>?_;simp[e];refine fQ m Hu λ_ m=>?_;exact au
def TO(T:fx):∀(n:Nat),(∀{H:dM} {a0:db} {a1:List Fm} {a2:Sq} {a3:Int} {t:Pf} {c:db} {j:Nat} (q:H[j]?=some [sL sI a0.l,sI a0.vr]) (hm:kF n a0 a1 a2 a3=some (t,c)),fg prog T 19 [AV.gS j 0,sL Fm.av a1,Sq.av a2,sI a3] H (Pf.av t) (iE H j [sL sI c.l,sI c.vr]))/\(∀{H:dM} {a0:db} {a1:List Fm} {a2:Sq} {a3:Int} {t:Pf} {c:db} {j:Nat} (q:H[j]?=some [sL sI a0.l,sI a0.vr]) (hm:zi n a0 a1 a2 a3=some (t,c)),fg prog T 69 [AV.gS j 0,sL Fm.av a1,Sq.av a2,sI a3] H (Pf.av t) (iE H j [sL sI c.l,sI c.vr])):=by
  intro n
  induction n with
  |zero=>
    refine⟨?_,?_⟩
    all_goals(intro _ _;intros;rename_i hm;cases hm)
  |succ n k=>
 refine⟨?_,?_⟩
 ·intro H a0 a1 a2 a3 t c j q hm;rw[kF] at hm;have D:=ie q;refine gG.Qi q ?_;have e:=D;refine wi aft func19 [] [] 4 ?_;simp[e];refine gj hm k0 λM m=>?_;simp[e];refine Gc m 0 0 (λR f h=>∃v3,(h=iE H j [sL sI v3.l,sI v3.vr]/\f.1 0=AV.gS j 0/\f.1 1=sL Fm.av a1/\bx f 6 (Sq.av a2).cells/\bx f 8 [sI 0,sI 0,sI 0,nL,nL,nL,nL]/\bx f 9 (Ty.av M).cells)/\R v3=some (t,c)) ?_ (λR _ g m=>?_)
  ·rintro _ _ ⟨v3,E,m⟩;have e:=Aj e E;refine Gc m 999 999 (λS f h=>∃L,(h=iE H j [sL sI L.l,sI L.vr]/\f.1 0=AV.gS j 0/\bx f 6 (Sq.av a2).cells/\bx f 8 [sI 0,sI 0,sI 0,nL,nL,nL,nL]/\bx f 9 (Ty.av M).cells)/\S L=some (t,c)) ?_ (λS _ g m=>?_)
   ·rintro _ _ ⟨L,E,m⟩;have e:=Aj e E;simp[e];refine mM m (qV T aav) λ_ d13 m=>?_;simp[e];refine gj m rf λ_ m=>?_;exact au
   simp[e];refine mM m (iq T aav) λ_ d16 m=>?_;apply Iq e m<;>intro e m
   ·apply Ir e m<;>intro e m
    ·exact nP
    simp[e];refine mM m (iq T aav) λ_ d18 m=>?_;simp[e];refine gj m Ci λ_ m=>?_;exact au
   apply Ir e m<;>intro e m
   ·exact nP
   apply Ir e m<;>intro e m
   ·exact nP
   simp[e];refine mM m (iq T aav) λ_ d21 m=>?_;exact au
  refine wj 999 999 (λf h=>h=iE H j [sL sI a0.l,sI a0.vr]/\f.1 0=AV.gS j 0/\f.1 1=sL Fm.av a1/\f.1 3=sI a3/\f.1 50=sB (fp (pc a3 0) (fp (xT (dT a2.afs) 10) (xT (dT a2.afv) 10) false) false)/\bx f 6 (Sq.av a2).cells/\bx f 8 [sI 0,sI 0,sI 0,nL,nL,nL,nL]/\bx f 9 (Ty.av M).cells) (λ_ g=>?_) ?_
  ·rcases Pb (pc a3 0) e with e|e;rotate_left
   ·exact aj
   rcases Pb (xT (dT a2.afs) 10) e with e|e
   ·exact aj
   exact aj
  rintro _ _ E;have e:=Aj e E;apply Ir e m<;>intro e m
  ·exact nP
  simp[e];refine mM m (iq T aav) λ_ d26 m=>?_;apply Iq e m<;>intro e m
  ·simp[e];refine sa m (k.1 aav) λ_ d28 m=>?_;simp[e];refine sa m (k.1 aav) λ_ d30 m=>?_;simp[e];refine fQ m vJ λ_ m=>?_;exact au
  apply Iq e m<;>intro e m
  ·simp[e];refine sa m (iq T aav) λ_ d33 m=>?_;simp[e];refine sa m (k.1 aav) λ_ d35 m=>?_;simp[e];refine sa m (k.1 aav) λ_ d37 m=>?_;simp[e];refine fQ m vJ λ_ m=>?_;simp[e];refine fQ m vJ λ_ m=>?_;exact au
  apply Iq e m<;>intro e m
  ·simp[e];refine mM m (A3 T aav) λ_ d41 m=>?_;simp[e];refine fQ m MV λ_ m=>?_;simp[e];refine sa m (k.1 aav) λ_ d44 m=>?_;simp[e];refine fQ m Nl λ_ m=>?_;exact au
  apply Iq e m<;>intro e m
  ·simp[e];refine mM m (k.1 aav) λ_ d47 m=>?_;simp[e];refine mM m xy λ_ _ m=>?_;apply Ir e m<;>intro e m
   ·exact nP
   simp[e];refine fQ m MV λ_ m=>?_;simp[e];refine sa m (k.1 aav) λ_ d52 m=>?_;simp[e];refine fQ m Nl λ_ m=>?_;simp[e];refine fQ m vJ λ_ m=>?_;exact au
  apply Iq e m<;>intro e m
  ·simp[e];refine mM m (sq T aav) λ_ d56 m=>?_;simp[e];refine fQ m B5 λ_ m=>?_;simp[e];refine sa m (k.1 aav) λ_ d59 m=>?_;simp[e];refine fQ m Ap λ_ m=>?_;exact au
  apply Iq e m<;>intro e m
  ·simp[e];refine mM m (sq T aav) λ_ d62 m=>?_;simp[e];refine sa m (qV T aav) λ_ d64 m=>?_;simp[e];refine fQ m B5 λ_ m=>?_;simp[e];refine sa m (k.1 aav) λ_ d67 m=>?_;simp[e];refine fQ m Ap λ_ m=>?_;simp[e];refine fQ m HB λ_ m=>?_;exact au
  apply Iq e m<;>intro e m
  ·simp[e];refine mM m (qV T aav) λ_ d71 m=>?_;simp[e];refine mM m (iq T aav) λ_ d73 m=>?_;have⟨N,G,m⟩:=sR m;have e:=Aj e (show[sI 5,sI 7]=List.map sI N by rw[G];rfl);have⟨W,e,m⟩:=g_ e m;simp[e];refine fQ m vD λ_ m=>?_;simp[e];refine fQ m i_ λ_ m=>?_;simp[e];refine fQ m vq λ_ m=>?_;simp[e];refine fQ m uv λ_ m=>?_;have⟨O,I,m⟩:=sR m;have e:=Aj e (show[sI 10,sI 14]=List.map sI O by rw[I];rfl);have⟨Y,e,m⟩:=g_ e m;simp[e];refine fQ m rf λ_ m=>?_;simp[e];refine fQ m Hu λ_ m=>?_;exact au
  apply Iq e m<;>intro e m
  ·simp[e];refine mM m (k.1 aav) λ_ d87 m=>?_;simp[e];refine mM m xy λ_ _ m=>?_;apply Ir e m<;>intro e m
   ·exact nP
   simp[e];refine mM m (sq T aav) λ_ d91 m=>?_;simp[e];refine mM m (iq T aav) λ_ d93 m=>?_;have⟨P,J,m⟩:=sR m;have e:=Aj e (show[sI 5,sI 7]=List.map sI P by rw[J];rfl);have⟨Z,e,m⟩:=g_ e m;simp[e];refine fQ m py λ_ m=>?_;simp[e];refine fQ m uv λ_ m=>?_;have⟨Q,F,m⟩:=sR m;have e:=Aj e (show[sI 10,sI 14]=List.map sI Q by rw[F];rfl);have⟨U,e,m⟩:=g_ e m;simp[e];refine sa m (qV T aav) λ_ d103 m=>?_;simp[e];refine fQ m Hu λ_ m=>?_;exact au
  apply Iq e m<;>intro e m
  ·simp[e];refine mM m (k.2 aav) λ_ d106 m=>?_;exact au
  apply Iq e m<;>intro e m
  ·simp[e];refine mM m (k.1 aav) λ_ d108 m=>?_;simp[e];refine mM m xy λ_ _ m=>?_;apply Ir e m<;>intro e m
   ·exact nP
   simp[e];refine fQ m py λ_ m=>?_;simp[e];refine sa m (qV T aav) λ_ d113 m=>?_;simp[e];refine fQ m Ci λ_ m=>?_;simp[e];refine fQ m Ih λ_ m=>?_;exact au
  apply Iq e m<;>intro e m
  ·simp[e];refine mM m (k.1 aav) λ_ d117 m=>?_;simp[e];refine mM m xy λ_ _ m=>?_;apply Ir e m<;>intro e m
   ·exact nP
   simp[e];refine fQ m py λ_ m=>?_;simp[e];refine fQ m vi λ_ m=>?_;simp[e];refine sa m (qV T aav) λ_ d123 m=>?_;simp[e];refine fQ m Ci λ_ m=>?_;simp[e];refine fQ m Ih λ_ m=>?_;exact au
  apply Iq e m<;>intro e m
  ·simp[e];refine mM m (qV T aav) λ_ d127 m=>?_;simp[e];refine gj m UO λ_ m=>?_;exact au
  apply Iq e m<;>intro e m
  ·simp[e];refine sa m (qV T aav) λ_ d130 m=>?_;simp[e];refine sa m (qV T aav) λ_ d132 m=>?_;simp[e];refine fQ m vD λ_ m=>?_;simp[e];refine fQ m vD λ_ m=>?_;simp[e];refine fQ m vq λ_ m=>?_;simp[e];refine fQ m rf λ_ m=>?_;simp[e];refine fQ m rf λ_ m=>?_;simp[e];refine fQ m Kd λ_ m=>?_;exact au
  apply Iq e m<;>intro e m
  ·simp[e];refine mM m (sq T aav) λ_ d140 m=>?_;simp[e];refine fQ m B5 λ_ m=>?_;simp[e];refine sa m (We T aav) λ_ d143 m=>?_;simp[e];refine fQ m Ap λ_ m=>?_;simp[e];refine fQ m vJ λ_ m=>?_;exact au
  apply Iq e m<;>intro e m
  ·simp[e];refine mM m (sq T aav) λ_ d147 m=>?_;simp[e];refine fQ m B5 λ_ m=>?_;simp[e];refine sa m (k.1 aav) λ_ d150 m=>?_;simp[e];refine fQ m Ap λ_ m=>?_;exact au
  apply Ir e m<;>intro e m
  ·exact nP
  simp[e];refine mM m (sq T aav) λ_ d153 m=>?_;simp[e];refine sa m (qV T aav) λ_ d155 m=>?_;simp[e];refine fQ m B5 λ_ m=>?_;simp[e];refine sa m (k.1 aav) λ_ d158 m=>?_;simp[e];refine fQ m Ap λ_ m=>?_;simp[e];refine fQ m HB λ_ m=>?_;exact au
 ·intro H a0 a1 a2 a3 t c j q hm;rw[zi] at hm;have D:=ie q;refine gG.Zm (Post:=λx K=>x=Pf.av t/\∃X,K=(iE H j [sL sI c.l,sI c.vr])++X) ?_ (λ_ _ h=>⟨_,h.2.choose,h.2.choose_spec,aae,by rw[h.1];simp[AV.low,AV.nk],λcs h=>by rcases XO h with h|h<;>first|exact .inl h|(rw[h];simp[AV.low,AV.nk]),h.1,rfl⟩);refine gG.Qi q ?_;have e:=D;refine wi aft func69 [] [] 6 ?_;simp[e];refine QA hm (Qx T aav) λa b d163 m=>?_;simp[e];refine Wj m 999 4 (λB f h=>∃r i v167 v168,(h=(iE H j [sL sI v167.l,sI v167.vr])++[[sI v168,sI b.cW.afo,sL Ty.av b.cW.afp,sL Tm.av b.dy,sL Fm.av b.afp]]/\f.1 0=AV.gS j 0/\f.1 1=sL Fm.av a1/\f.1 3=sI a3/\f.1 10=sI r/\bx f 6 (Sq.av a2).cells/\bx f 8 [sI 0,sI 0,sI 0,nL,nL,nL,nL]/\bx f 9 [sI i,sI a.afr,sI a.cW.afo,sL Ty.av a.cW.afp,sL Tm.av a.dy,AV.Iv (List.length H) 0 1 1,sL Pf.av a.afp])/\B r i v167 v168=some (t,c)) (λB _ g m=>?_) ?_
  ·simp[e];refine mM m (iq T aav) λ_ d172 m=>?_;apply Iq e m<;>intro e m
   ·simp[e];exact g _ _ ⟨_,_,_,_,aav,m⟩
   simp[e];exact g _ _ ⟨_,_,_,_,aav,m⟩
  rintro _ _ ⟨r,i,v167,v168,E,m⟩;have e:=Aj e E;have⟨V,e,m⟩:=g_ e m;simp[e];refine fQ m k0 λ_ m=>?_;simp[e];refine fQ m B5 λ_ m=>?_;simp[e];refine fQ m MV λ_ m=>?_;simp[e];refine sa m (k.1 aav) λ_ d179 m=>?_;simp[e];refine Wj m 999 1 (λC f h=>∃u v182 v183 v w y A s,(h=(iE H j [sL sI s.l,sI s.vr])++[[sI v168,sI b.cW.afo,sL Ty.av b.cW.afp,sL Tm.av b.dy,sL Fm.av b.afp]]/\f.1 10=sI r/\bx f 8 [sI 0,sI 0,sI 0,nL,nL,nL,nL]/\bx f 9 [sI i,sI a.afr,sI a.cW.afo,sL Ty.av a.cW.afp,sL Tm.av a.dy,AV.Iv (List.length H) 0 1 1,sL Pf.av a.afp]/\bx f 12 [sI u,sI v182,sI v183,sL Ty.av v,sL Tm.av w,sL Fm.av y,sL Pf.av A])/\C u v182 v183 v w y A s=some (t,c)) (λC _ g m=>?_) ?_
  ·simp[e];refine mM m (iq T aav) λ_ d192 m=>?_;apply Ir e m<;>intro e m
   ·simp[e];exact g _ _ ⟨_,_,_,_,_,_,_,_,aav,m⟩
   simp[e];refine gj m py λ_ m=>?_;simp[e];refine fQ m i_ λ_ m=>?_;simp[e];refine fQ m Ci λ_ m=>?_;simp[e];refine fQ m Hu λ_ m=>?_;simp[e];exact g _ _ ⟨_,_,_,_,_,_,_,_,aav,m⟩
  rintro _ _ ⟨u,v182,v183,v,w,y,A,s,E,m⟩;have e:=Aj e E;simp[e];refine acM 999 (o:=(List.length H)) (d:=9) (pre:=[sI i,sI a.afr,sI a.cW.afo,sL Ty.av a.cW.afp,sL Tm.av a.dy]) (post:=[sL Pf.av a.afp]) (x:=Fm.av (Fm.mk v168 b.cW b.dy b.afp)) aav aav aae (by simp;rfl) ?_;have e:=Aj e (show AV.agg [sI i,sI a.afr,sI a.cW.afo,sL Ty.av a.cW.afp,sL Tm.av a.dy,AV.slice .pw [Fm.av (Fm.mk v168 b.cW b.dy b.afp)],sL Pf.av a.afp]=Pf.av (Pf.mk i a.afr a.cW a.dy [(Fm.mk v168 b.cW b.dy b.afp)] a.afp) by rw[Pf.jf];rfl);simp[e];refine gj m vJ λ_ m=>?_;exact au
def UH(T:fx){H:dM}{a0:db}{a1:List Fm}{a2:Sq}{a3:Int}{d:Pf}{a:db}{b:Nat}(c:H[b]?=some [sL sI a0.l,sI a0.vr]){n:Nat}(hm:kF n a0 a1 a2 a3=some (d,a)):fg prog T 19 [AV.gS b 0,sL Fm.av a1,Sq.av a2,sI a3] H (Pf.av d) (iE H b [sL sI a.l,sI a.vr]):=(TO T n).1 c hm
def HK(T:fx){H:dM}{a0:db}{a1:List Fm}{a2:Sq}{a3:Int}{i:Pf}{j:xt}{a:db}{b:Nat}(c:H[b]?=some [sL sI a0.l,sI a0.vr])(hm:sU a0 a1 a2 a3=some (i,j,a)):fg prog T 26 [AV.gS b 0,sL Fm.av a1,Sq.av a2,sI a3] H (AV.tuple [Pf.av i,xt.av j]) (iE H b [sL sI a.l,sI a.vr]):=by
 rw[sU] at hm;have d:=ie c;refine gG.Qi c ?_;have e:=d;refine wi aft func26 [] [] 999 ?_;simp[e];refine Wn hm 999 (λs1 f h=>h=iE H b [sL sI s1.2.l,sI s1.2.vr]/\f.1 0=AV.gS b 0/\f.1 1=sL Fm.av a1/\f.1 3=sI a3/\f.1 16=sI s1.1/\bx f 6 (Sq.av a2).cells/\bx f 8 [sI 0,sI 0,sI 0,nL,nL,nL,nL]/\bx f 9 [sI 0,sI 0,nL,nL,nL,nL]) aav (λs1 _ _ _ _ _ E m z p=>?_);have⟨k,v9⟩:=s1;have e:=Aj e E;dsimp only[mW]at m;apply Iq e m<;>intro e m
 ·simp[e];refine mM m (UH T aav) λ_ d11 m=>?_;simp[e];refine mM m xy λ_ _ m=>?_;refine Il e m λe m=>?_;exact al
 cases m;have m:=Qb z;dsimp only[mW]at m;simp[e];refine mM m (iq T aav) λ_ d15 m=>?_;simp[e];refine gj m Jl λ_ m=>?_;simp[e];refine gj m rf λ_ m=>?_;simp[e];refine mM m xy λ_ _ m=>?_;exact au
def PS(T:fx){H:dM}{a0:db}{a1 u:Sq}{j:db}{q:Nat}(k:H[q]?=some [sL sI a0.l,sI a0.vr])(hm:BK a0 a1=some (u,j)):fg prog T 27 [AV.gS q 0,Sq.av a1] H (Sq.av u) (iE H q [sL sI j.l,sI j.vr]):=by
 rw[BK] at hm;have r:=ie k;refine gG.Qi k ?_;have e:=r;refine wi aft func27 [] [] 999 ?_;simp[e];refine mM hm (sq T aav) λs d2 m=>?_;have⟨e,m⟩:=Ck e m;simp[e];refine Ad (f:=Ty.av) [] a1.afs (kG.full (D:=[])) Lx e.2 ?_;have⟨e,m⟩:=Ck e m;simp[e];refine Ad (f:=Ty.av) (fK [] a1.afs) [s] (kG.new (D:=[13]) (d:=13) Zk) Lx e.2 ?_;simp[e];refine sa m (A3 T aav) λw d4 m=>?_;have⟨e,m⟩:=Ck e m;simp[e];refine Ad (f:=Fm.av) [] [w] (kG.full (D:=[])) E5 e.2 ?_;simp[e];refine Wr e m 999 (λv n f h=>∃a b,(h=iE H q [sL sI d4.l,sI d4.vr]/\f.1 28=sL Fm.av a1.afv/\f.1 29=sI (dT a1.afv)/\f.1 30=sI v/\bx f 4 [nL,nL]/\bx f 6 [sT a Ty.av (fK (fK [] a1.afs) [s]),sT b Fm.av n])/\Ow f [16] a (fK (fK [] a1.afs) [s])/\Ow f [25,39] b n) (by exact⟨(.loc 16 1),(.loc 25 1),aav,(kG.other (D':=[]) (n':=0) (kG.new (D:=[16]) (d:=16) Zk) kG.full Zk Zk),(On 25)⟩) (λn o _ _ E m=>?_) (λv _ n o _ _ _ _ E e m z p=>?_)
 ·have⟨a,b,E,i,c⟩:=E;have e:=Aj e E;dsimp only[cR]at m;exact au
 have⟨a,b,E,i,c⟩:=E;have e:=Aj e E;simp[e];refine fQ m py λt m=>?_;have⟨e,m⟩:=Ck e m;simp[e];refine Ad (f:=Fm.av) n [t] c E5 e.2 ?_;simp[e];cases m;exact p _ _ _ ⟨a,(.loc 39 (o.gN 39+1)),aav,(kG.other i c Zk Zk),(On 39)⟩ z
def Es:C1 prog 91 pq sI sI:=by
 refine u1 6 func91 λT H a0 r m e=>?_;rw[pq] at m;simp[e];refine QY 999 999 (λf h=>h=H/\f.1 4=sB (fp (dC a0 16) true (fp (dC a0 17) true (dC a0 19)))) ?_ (λ_ g=>?_)
 ·rintro _ _ E;have e:=Aj e E;refine Il e m λe m=>?_;exact au
 rcases Pb (dC a0 16) e with e|e
 ·exact aj
 rcases Pb (dC a0 17) e with e|e
 ·exact aj
 exact aj
def DE:C2 prog 92 qX sI sI sI:=by
 refine u2 6 func92 λT H a0 a1 r m e=>?_;rw[qX] at m;simp[e];refine wj 999 0 (λf h=>h=H/\f.1 1=sI a1/\f.1 5=sI a0/\f.1 6=sB (fp (dC a0 8) true (dC a0 12))) (λ_ g=>?_) ?_
 ·rcases Pb (dC a0 8) e with e|e
  ·exact aj
  exact aj
 rintro _ _ E;have e:=Aj e E;apply Iq e m<;>intro e m
 ·apply wg 999;exact au
 apply wg 1;simp[e];refine QY 999 999 (λf h=>h=H/\f.1 1=sI a1/\f.1 5=sI a0/\f.1 9=sB (fp (dC a0 11) true (fp (dC a0 15) true (dC a0 16)))) ?_ (λ_ g=>?_)
 ·rintro _ _ E;have e:=Aj e E;refine Il e m λe m=>?_;refine Il e m λe m=>?_;exact au
 rcases Pb (dC a0 11) e with e|e
 ·exact aj
 rcases Pb (dC a0 15) e with e|e
 ·exact aj
 exact aj
def P'{n:Nat}:C3 prog 29 (zW n) Pf.av Pf.av sI sI:=by
 refine i3 λn I=>v3 func29 λT H a0 a1 a2 r m e=>?_;rw[zW] at m;simp[e];refine F7 e m 999 (λG s2 f h=>∃j,(h=H/\f.1 1=sI a1/\f.1 2=sI a2/\f.1 22=sL Tm.av a0.dy/\f.1 23=sI (dT a0.dy)/\f.1 24=sI G/\bx f 3 (Pf.av a0).cells/\bx f 6 [sI 0,sI 0,sI 0,nL,nL,nL,nL]/\bx f 7 [sI a0.afo,sI a0.afr,sI a0.cW.afo,sL Ty.av a0.cW.afp,sT j Tm.av s2,nL,nL])/\Ow f [35] j s2) (by exact⟨.full,aav,kG.full⟩) (λG _ s2 y _ _ _ _ E e m z p=>?_) (λs2 y _ _ E m=>?_)
 ·have⟨j,E,s⟩:=E;have e:=Aj e E;simp[e];refine fQ m HR λC m=>?_;have⟨e,m⟩:=Ck e m;simp[e];refine Ad (f:=Tm.av) s2 [C] s JY e.2 ?_;simp[e];cases m;exact p _ _ _ ⟨(.loc 35 (y.gN 35+1)),aav,(On 35)⟩ z
 have⟨j,E,s⟩:=E;have e:=Aj e E;dsimp only[cR]at m;simp[e];refine F7 e m 999 (λA o f h=>∃a b,(h=H/\f.1 1=sI a1/\f.1 2=sI a2/\f.1 39=sL Fm.av a0.fP/\f.1 40=sI (dT a0.fP)/\f.1 41=sI A/\bx f 3 (Pf.av a0).cells/\bx f 6 [sI 0,sI 0,sI 0,nL,nL,nL,nL]/\bx f 7 [sI a0.afo,sI a0.afr,sI a0.cW.afo,sL Ty.av a0.cW.afp,sT a Tm.av s2,sT b Fm.av o,nL])/\Ow f [35] a s2/\Ow f [56] b o) (by exact⟨j,.full,aav,s,kG.full⟩) (λA _ o w _ _ _ _ E e m z p=>?_) (λo w _ _ E m=>?_)
 ·have⟨a,b,E,q,k⟩:=E;have e:=Aj e E;simp[e];refine fQ m Es λ_ m=>?_;simp[e];refine fQ m py λD m=>?_;have⟨e,m⟩:=Ck e m;simp[e];refine Ad (f:=Fm.av) o [D] k E5 e.2 ?_;simp[e];cases m;exact p _ _ _ ⟨a,(.loc 56 (w.gN 56+1)),aav,(kG.other q k Zk Zk),(On 56)⟩ z
 have⟨a,b,E,q,k⟩:=E;have e:=Aj e E;dsimp only[cR]at m;simp[e];refine Wr e m 999 (λB t f h=>∃c d i,(h=H/\f.1 1=sI a1/\f.1 2=sI a2/\f.1 60=sL Pf.av a0.afp/\f.1 61=sI (dT a0.afp)/\f.1 62=sI B/\bx f 3 (Pf.av a0).cells/\bx f 6 [sI 0,sI 0,sI 0,nL,nL,nL,nL]/\bx f 7 [sI a0.afo,sI a0.afr,sI a0.cW.afo,sL Ty.av a0.cW.afp,sT c Tm.av s2,sT d Fm.av o,sT i Pf.av t])/\Ow f [35] c s2/\Ow f [56] d o/\Ow f [79] i t) (by exact⟨a,b,.full,aav,q,k,kG.full⟩) (λt x _ _ E m=>?_) (λB _ t x _ _ _ _ E e m z p=>?_)
 ·have⟨c,d,i,E,u,v,l⟩:=E;have e:=Aj e E;dsimp only[cR]at m;exact au
 have⟨c,d,i,E,u,v,l⟩:=E;have e:=Aj e E;simp[e];refine fQ m DE λ_ m=>?_;simp[e];refine fQ m I λF m=>?_;have⟨e,m⟩:=Ck e m;simp[e];refine Ad (f:=Pf.av) t [F] l V7 e.2 ?_;simp[e];cases m;exact p _ _ _ ⟨c,d,(.loc 79 (x.gN 79+1)),aav,(kG.other u l Zk Zk),(kG.other v l Zk Zk),(On 79)⟩ z
def Ca:C1 prog 30 ux sB sI:=by
 refine u1 2 func30 λT H a0 r m e=>?_;rw[ux] at m;simp[e];refine QY 999 999 (λf h=>h=H/\f.1 2=sB (fp (dC a0 0) true (fp (dC a0 4) true (fp (dC a0 5) true (dC a0 3))))) ?_ (λ_ g=>?_)
 ·rintro _ _ E;have e:=Aj e E;exact au
 rcases Pb (dC a0 0) e with e|e
 ·exact aj
 rcases Pb (dC a0 4) e with e|e
 ·exact aj
 rcases Pb (dC a0 5) e with e|e
 ·exact aj
 exact aj
def J5(T:fx)(i:w5 T){a0:List Int}{k:Bool}(hm:xS a0=some k):gG prog T 4 [sL sI a0] [] (λx _=>x=sB k):=by
 rw[xS] at hm;have e:=i;refine wi aft func4 [] [] 999 ?_;simp[e];refine gj hm (Hw T i) λ_ m=>?_;refine Im e m λe m=>?_;simp[e];refine gj m P4 λ_ m=>?_;refine Im e m λe m=>?_;simp[e];refine gj m (PK T) λ_ m=>?_;simp[e];refine mM m (JD T aav) λn d5 m=>?_;simp[e];refine mM m (HS T aav) λ_ d7 m=>?_;simp[e];refine QA m (HK T aav) λ_ b d10 m=>?_;simp[e];refine mM m (PS T aav) λ_ d12 m=>?_;have⟨e,m⟩:=Ck e m;simp[e];refine Ad (f:=Fm.av) [] n (kG.full (D:=[])) E5 e.2 ?_;simp[e];refine sa m (A3 T aav) λj d14 m=>?_;have⟨e,m⟩:=Ck e m;simp[e];refine Ad (f:=Fm.av) (fK [] n) [j] (kG.new (D:=[35]) (d:=35) Zk) E5 e.2 ?_;simp[e];refine fQ m P' λ_ m=>?_;simp[e];refine sa m (Ez T i) λa _ m=>?_;apply Iq e m<;>intro e m
 ·simp[e];refine gj m Ca λ_ m=>?_;exact au
 refine Il e m λe m=>?_;simp[e];refine F7 e m 999 (λc _ f h=>h=iE [[]] 0 [sL sI d14.l,sI d14.vr]/\f.1 59=sI (dT a.fF)/\f.1 60=sI c/\bx f 7 [sI b.cZ.afo,sI b.cZ.cW.afo,sL Ty.av b.cZ.cW.afp,sL Tm.av b.cZ.dy,sL Fm.av b.cZ.afp,sL sI b.fF]/\bx f 9 [sI a.cZ.afo,sI a.cZ.cW.afo,sL Ty.av a.cZ.cW.afp,sL Tm.av a.cZ.dy,sL Fm.av a.cZ.afp,sL sI a.fF]) aav (λc _ _ _ _ _ _ _ E e m z p=>?_) (λ_ _ _ _ E m=>?_)
 ·have e:=Aj e E;have⟨o,e,m⟩:=g_ e m;refine Il e m λe m=>?_;exact al
 have e:=Aj e E;dsimp only[cR]at m;simp[e];refine fQ m py λ_ m=>?_;simp[e];refine fQ m Ge λ_ m=>?_;simp[e];refine fQ m Ca λ_ m=>?_;exact au
def GZ(T:fx)(a:w5 T){H:dM}{a0:List Fm}{a1:Sq}{a2:Pf}{a3:Fm}{b:Int}(hm:lK a0 a1 a2 a3=some b):fg prog T 40 [sL Fm.av a0,Sq.av a1,Pf.av a2,Fm.av a3] H (sI b) H:=by
 rw[lK] at hm;have e:=a;refine wi aft func40 [] [] 999 ?_;simp[e];refine mM hm (Ez T a) λ_ _ m=>?_;refine Il e m λe m=>?_;simp[e];refine gj m (Dg T a) λ_ m=>?_;refine Il e m λe m=>?_;simp[e];refine gj m (Dl T a) λ_ m=>?_;exact au
def Kg{n:Nat}:C2 prog 119 (u7 n) sB Pf.av sI:=by
 refine i2 λn d=>v2 func119 λT H a0 a1 r m e=>?_;rw[u7] at m;simp[e];refine F7 e m 999 (λc _ f h=>h=H/\f.1 1=sI a1/\f.1 12=sL Tm.av a0.dy/\f.1 13=sI (dT a0.dy)/\f.1 14=sI c/\bx f 2 (Pf.av a0).cells) aav (λc _ _ _ _ _ _ _ E e m z p=>?_) (λ_ _ _ _ E m=>?_)
 ·have e:=Aj e E;simp[e];refine gj m z7 λ_ m=>?_;refine Im e m λe m=>?_;exact al
 have e:=Aj e E;dsimp only[cR]at m;simp[e];refine F7 e m 999 (λa _ f h=>h=H/\f.1 1=sI a1/\f.1 24=sL Fm.av a0.fP/\f.1 25=sI (dT a0.fP)/\f.1 26=sI a/\bx f 2 (Pf.av a0).cells) aav (λa _ _ _ _ _ _ _ E e m z p=>?_) (λ_ _ _ _ E m=>?_)
 ·have e:=Aj e E;simp[e];refine gj m Kh λ_ m=>?_;refine Im e m λe m=>?_;exact al
 have e:=Aj e E;dsimp only[cR]at m;simp[e];refine Wr e m 999 (λb _ f h=>h=H/\f.1 1=sI a1/\f.1 36=sL Pf.av a0.afp/\f.1 37=sI (dT a0.afp)/\f.1 38=sI b) aav (λ_ _ _ _ E m=>?_) (λb _ _ _ _ _ _ _ E e m z p=>?_)
 ·have e:=Aj e E;dsimp only[cR]at m;exact au
 have e:=Aj e E;simp[e];refine gj m d λ_ m=>?_;refine Im e m λe m=>?_;exact al
def QP{n:Nat}:C2 prog 121 (rR n) sI Pf.av sI:=by
 refine i2 λn j=>v2 func121 λT H a0 a1 r m e=>?_;rw[rR] at m;simp[e];refine F7 e m 999 (λi s2 f h=>h=H/\f.1 1=sI a1/\f.1 5=sI s2/\f.1 13=sL Tm.av a0.dy/\f.1 14=sI (dT a0.dy)/\f.1 15=sI i/\bx f 2 (Pf.av a0).cells) aav (λi _ s2 _ _ _ _ _ E e m z p=>?_) (λs2 _ _ _ E m=>?_)
 ·have e:=Aj e E;simp[e];refine gj m F_ λ_ m=>?_;exact al
 have e:=Aj e E;dsimp only[cR]at m;simp[e];refine F7 e m 999 (λc a f h=>h=H/\f.1 1=sI a1/\f.1 5=sI a/\f.1 26=sL Fm.av a0.fP/\f.1 27=sI (dT a0.fP)/\f.1 28=sI c/\bx f 2 (Pf.av a0).cells) aav (λc _ a _ _ _ _ _ E e m z p=>?_) (λa _ _ _ E m=>?_)
 ·have e:=Aj e E;simp[e];refine fQ m Es λ_ m=>?_;simp[e];refine fQ m jE λ_ m=>?_;simp[e];refine fQ m jE λ_ m=>?_;simp[e];refine fQ m KN λ_ m=>?_;simp[e];refine fQ m xz λ_ m=>?_;simp[e];refine fQ m xz λ_ m=>?_;exact al
 have e:=Aj e E;dsimp only[cR]at m;simp[e];refine Wr e m 999 (λd b f h=>h=H/\f.1 1=sI a1/\f.1 5=sI b/\f.1 50=sL Pf.av a0.afp/\f.1 51=sI (dT a0.afp)/\f.1 52=sI d/\bx f 2 (Pf.av a0).cells) aav (λb _ _ _ E m=>?_) (λd _ b _ _ _ _ _ E e m z p=>?_)
 ·have e:=Aj e E;dsimp only[cR]at m;exact au
 have e:=Aj e E;simp[e];refine fQ m DE λ_ m=>?_;simp[e];refine fQ m j λ_ m=>?_;exact al
def Uo{n:Nat}:C4 prog 122 (xe n) Pf.av Pf.av sI sI Tm.av:=by
 refine i4 λn I=>v4 func122 λT H a0 a1 a2 a3 r m e=>?_;rw[xe] at m;simp[e];refine F7 e m 999 (λG s2 f h=>∃j,(h=H/\f.1 1=sI a1/\f.1 2=sI a2/\f.1 24=sL Tm.av a0.dy/\f.1 25=sI (dT a0.dy)/\f.1 26=sI G/\bx f 4 (Pf.av a0).cells/\bx f 7 (Tm.av a3).cells/\bx f 8 [sI 0,sI 0,sI 0,nL,nL,nL,nL]/\bx f 9 [sI a0.afo,sI a0.afr,sI a0.cW.afo,sL Ty.av a0.cW.afp,sT j Tm.av s2,nL,nL])/\Ow f [38] j s2) (by exact⟨.full,aav,kG.full⟩) (λG _ s2 y _ _ _ _ E e m z p=>?_) (λs2 y _ _ E m=>?_)
 ·have⟨j,E,s⟩:=E;have e:=Aj e E;simp[e];refine fQ m KM λC m=>?_;have⟨e,m⟩:=Ck e m;simp[e];refine Ad (f:=Tm.av) s2 [C] s JY e.2 ?_;simp[e];cases m;exact p _ _ _ ⟨(.loc 38 (y.gN 38+1)),aav,(On 38)⟩ z
 have⟨j,E,s⟩:=E;have e:=Aj e E;dsimp only[cR]at m;simp[e];refine F7 e m 999 (λA o f h=>∃a b,(h=H/\f.1 1=sI a1/\f.1 2=sI a2/\f.1 42=sL Fm.av a0.fP/\f.1 43=sI (dT a0.fP)/\f.1 44=sI A/\bx f 4 (Pf.av a0).cells/\bx f 7 (Tm.av a3).cells/\bx f 8 [sI 0,sI 0,sI 0,nL,nL,nL,nL]/\bx f 9 [sI a0.afo,sI a0.afr,sI a0.cW.afo,sL Ty.av a0.cW.afp,sT a Tm.av s2,sT b Fm.av o,nL])/\Ow f [38] a s2/\Ow f [60] b o) (by exact⟨j,.full,aav,s,kG.full⟩) (λA _ o w _ _ _ _ E e m z p=>?_) (λo w _ _ E m=>?_)
 ·have⟨a,b,E,q,k⟩:=E;have e:=Aj e E;simp[e];refine fQ m Es λ_ m=>?_;simp[e];refine fQ m KN λD m=>?_;have⟨e,m⟩:=Ck e m;simp[e];refine Ad (f:=Fm.av) o [D] k E5 e.2 ?_;simp[e];cases m;exact p _ _ _ ⟨a,(.loc 60 (w.gN 60+1)),aav,(kG.other q k Zk Zk),(On 60)⟩ z
 have⟨a,b,E,q,k⟩:=E;have e:=Aj e E;dsimp only[cR]at m;simp[e];refine Wr e m 999 (λB t f h=>∃c d i,(h=H/\f.1 1=sI a1/\f.1 2=sI a2/\f.1 64=sL Pf.av a0.afp/\f.1 65=sI (dT a0.afp)/\f.1 66=sI B/\bx f 4 (Pf.av a0).cells/\bx f 7 (Tm.av a3).cells/\bx f 8 [sI 0,sI 0,sI 0,nL,nL,nL,nL]/\bx f 9 [sI a0.afo,sI a0.afr,sI a0.cW.afo,sL Ty.av a0.cW.afp,sT c Tm.av s2,sT d Fm.av o,sT i Pf.av t])/\Ow f [38] c s2/\Ow f [60] d o/\Ow f [84] i t) (by exact⟨a,b,.full,aav,q,k,kG.full⟩) (λt x _ _ E m=>?_) (λB _ t x _ _ _ _ E e m z p=>?_)
 ·have⟨c,d,i,E,u,v,l⟩:=E;have e:=Aj e E;dsimp only[cR]at m;exact au
 have⟨c,d,i,E,u,v,l⟩:=E;have e:=Aj e E;simp[e];refine fQ m DE λ_ m=>?_;simp[e];refine fQ m I λF m=>?_;have⟨e,m⟩:=Ck e m;simp[e];refine Ad (f:=Pf.av) t [F] l V7 e.2 ?_;simp[e];cases m;exact p _ _ _ ⟨c,d,(.loc 84 (x.gN 84+1)),aav,(kG.other u l Zk Zk),(kG.other v l Zk Zk),(On 84)⟩ z
def SJ:C3 prog 46 DR (t2 Pf.av sI) Pf.av sI Tm.av:=by
 refine u3 7 func46 λT H a0 a1 a2 r m e=>?_;rw[DR] at m;simp[e];refine gj m zN λ_ m=>?_;simp[e];apply Iq e m<;>intro e m
 ·apply wg 999;exact au
 apply wg 3;simp[e];refine wj 999 0 (λf h=>h=H/\f.1 1=sI a1/\f.1 22=sB (fp (xT a1 0) true (pc a1 4096))/\bx f 3 (Pf.av a0).cells/\bx f 5 (Tm.av a2).cells/\bx f 6 [sI 0,sI 0,sI 0,nL,nL,nL,nL]) (λ_ g=>?_) ?_
 ·rcases Pb (xT a1 0) e with e|e
  ·exact aj
  exact aj
 rintro _ _ E;have e:=Aj e E;apply Iq e m<;>intro e m
 ·apply wg 999;exact au
 apply wg 7;simp[e];refine gj m tn λ_ m=>?_;simp[e];apply Iq e m<;>intro e m
 ·apply wg 999;exact au
 apply wg 3;simp[e];refine Wj m 999 999 (λb f h=>∃a,(h=H/\f.1 1=sI a1/\f.1 37=sB a/\bx f 3 (Pf.av a0).cells/\bx f 5 (Tm.av a2).cells/\bx f 6 [sI 0,sI 0,sI 0,nL,nL,nL,nL])/\b a=some r) (λb _ g m=>?_) ?_
 ·simp[e];refine gj m Kg λ_ m=>?_;apply Ir e m<;>intro e m
  ·exact nP
  simp[e];refine gj m z7 λ_ m=>?_;exact nP
 rintro _ _ ⟨a,E,m⟩;have e:=Aj e E;refine Il e m λe m=>?_;simp[e];refine fQ m B8 λ_ m=>?_;simp[e];refine fQ m QP λ_ m=>?_;simp[e];refine fQ m jQ λ_ m=>?_;refine Il e m λe m=>?_;simp[e];refine gj m Uo λ_ m=>?_;simp[e];refine gj m HA λ_ m=>?_;refine Im e m λe m=>?_;simp[e];refine gj m Dw λ_ m=>?_;exact au
def KD(T:fx)(q:w5 T){a0:List Int}{y:Bool}(hm:za a0=some y):gG prog T 8 [sL sI a0] [] (λx _=>x=sB y):=by
 rw[za] at hm;have e:=q;refine wi aft func8 [] [] 999 ?_;simp[e];refine gj hm (Hw T q) λ_ m=>?_;refine Im e m λe m=>?_;simp[e];refine gj m P4 λ_ m=>?_;refine Im e m λe m=>?_;simp[e];refine gj m (PK T) λ_ m=>?_;simp[e];refine mM m (JD T aav) λA d5 m=>?_;simp[e];refine mM m (HS T aav) λB d7 m=>?_;refine Il e m λe m=>?_;simp[e];refine QA m (HK T aav) λC j d10 m=>?_;have⟨k,e,m⟩:=g_ e m;have⟨D,e,m⟩:=g_ e m;simp[e];refine sa m (qV T aav) λr d14 m=>?_;simp[e];refine F7 e m 0 (λn d f h=>∃a,(h=iE [[]] 0 [sL sI d14.l,sI d14.vr]/\f.1 4=sL Fm.av A/\f.1 61=sL Fm.av B.afv/\f.1 62=sI (dT B.afv)/\f.1 63=sI n/\bx f 6 (Pf.av C).cells/\bx f 7 [sI j.cZ.afo,sI j.cZ.cW.afo,sL Ty.av j.cZ.cW.afp,sL Tm.av j.cZ.dy,sL Fm.av j.cZ.afp,sL sI j.fF]/\bx f 8 [sL Ty.av k,sT a Fm.av d]/\bx f 9 (Tm.av r).cells)/\Ow f [79] a d) (by exact⟨.full,aav,kG.full⟩) (λn _ d i _ _ _ _ E e m z p=>?_) (λd i _ _ E m=>?_)
 ·have⟨a,E,b⟩:=E;have e:=Aj e E;apply wg 999;simp[e];refine mM m IN λs _ m=>?_;refine Il e m λe m=>?_;have⟨e,m⟩:=Ck e m;simp[e];refine Ao (f:=Fm.av) d [s] b E5 e.2 ?_;simp[e];cases m;exact p _ _ _ ⟨(.loc 79 (i.gN 79+1)),aav,(On 79)⟩ z
 have⟨a,E,b⟩:=E;have e:=Aj e E;apply wg 10;dsimp only[cR]at m;simp[e];refine mM m SJ λt o m=>?_;simp[e];refine mM m IN λu v m=>?_;simp[e];refine wj 999 999 (λf h=>∃c,(h=iE [[]] 0 [sL sI d14.l,sI d14.vr]/\f.1 4=sL Fm.av A/\f.1 100=sB (fp (dI o 0) true (dI v 0))/\bx f 8 [sL Ty.av k,sT c Fm.av d]/\bx f 14 (Pf.av t).cells/\bx f 16 (Fm.av u).cells)/\Ow f [79] c d) (λ_ g=>?_) ?_
 ·rcases Pb (dI o 0) e with e|e
  ·simp[e];exact g _ _ ⟨a,aav,b⟩
  simp[e];exact g _ _ ⟨a,aav,b⟩
 rintro _ _ ⟨c,E,w⟩;have e:=Aj e E;refine Il e m λe m=>?_;simp[e];refine gj m (GZ T q) λ_ m=>?_;simp[e];refine gj m Ca λ_ m=>?_;exact au
def Hl{n:Nat}:C3 prog 124 (ua n) sB Pf.av sI sI:=by
 refine i3 λn b=>u3 3 func124 λT H a0 a1 a2 r m e=>?_;rw[ua] at m;simp[e];refine wj 999 999 (λf h=>h=H/\f.1 1=sI a1/\f.1 2=sI a2/\f.1 18=sB (fp (dC a0.afo a1) (pc a0.afr a2) false)/\bx f 3 (Pf.av a0).cells) (λ_ g=>?_) ?_
 ·rcases Pb (dC a0.afo a1) e with e|e
  ·exact aj
  exact aj
 rintro _ _ E;have e:=Aj e E;refine Il e m λe m=>?_;simp[e];refine Wr e m 999 (λa _ f h=>h=H/\f.1 1=sI a1/\f.1 2=sI a2/\f.1 20=sL Pf.av a0.afp/\f.1 21=sI (dT a0.afp)/\f.1 22=sI a) aav (λ_ _ _ _ E m=>?_) (λa _ _ _ _ _ _ _ E e m z p=>?_)
 ·have e:=Aj e E;dsimp only[cR]at m;exact au
 have e:=Aj e E;simp[e];refine gj m b λ_ m=>?_;refine Im e m λe m=>?_;exact al
def F8:C2 prog 176 wK sI sI sI:=by
 refine u2 8 func176 λT H a0 a1 r m e=>?_;rw[wK] at m;simp[e];apply Iq e m<;>intro e m
 ·apply wg 999;exact au
 apply wg 1;simp[e];refine QY 999 999 (λf h=>h=H/\f.1 1=sI a1/\f.1 8=sB (fp (dC a0 11) true (fp (dC a0 15) true (fp (dC a0 16) true (dC a0 17))))) ?_ (λ_ g=>?_)
 ·rintro _ _ E;have e:=Aj e E;refine Il e m λe m=>?_;exact au
 rcases Pb (dC a0 11) e with e|e
 ·exact aj
 rcases Pb (dC a0 15) e with e|e
 ·exact aj
 rcases Pb (dC a0 16) e with e|e
 ·exact aj
 exact aj
def MT{n:Nat}:C2 prog 125 (qg n) sI Pf.av sI:=by
 refine i2 λn c=>u2 4 func125 λT H a0 a1 r m e=>?_;rw[qg] at m;simp[e];refine wj 0 999 (λf h=>h=H/\f.1 1=sI a1/\f.1 5=sI (fp (fp (dC a0.afo 1) (dC a0.afr a1) false) (ep .i64 0 1) 0)/\bx f 2 (Pf.av a0).cells) (λ_ g=>?_) ?_
 ·refine wj 999 999 (λf h=>h=H/\f.1 1=sI a1/\f.1 5=sI 0/\f.1 16=sB (fp (dC a0.afo 1) (dC a0.afr a1) false)/\bx f 2 (Pf.av a0).cells) (λ_ g=>?_) ?_
  ·rcases Pb (dC a0.afo 1) e with e|e
   ·exact aj
   exact aj
  rintro _ _ E;have e:=Aj e E;rcases Pb (fp (dC a0.afo 1) (dC a0.afr a1) false) e with e|e
  ·exact aj
  exact aj
 rintro _ _ E;have e:=Aj e E;simp[e];refine Wr e m 999 (λb a f h=>h=H/\f.1 1=sI a1/\f.1 5=sI a/\f.1 20=sL Pf.av a0.afp/\f.1 21=sI (dT a0.afp)/\f.1 22=sI b/\bx f 2 (Pf.av a0).cells) aav (λa _ _ _ E m=>?_) (λb _ a _ _ _ _ _ E e m z p=>?_)
 ·have e:=Aj e E;dsimp only[cR]at m;exact au
 have e:=Aj e E;simp[e];refine fQ m F8 λ_ m=>?_;simp[e];refine fQ m c λ_ m=>?_;exact al
def OA{n:Nat}:C3 prog 177 (ze n) Pf.av Pf.av sI sI:=by
 refine i3 λn k=>u3 4 func177 λT H a0 a1 a2 r m e=>?_;rw[ze] at m;simp[e];refine wj 0 999 (λf h=>h=H/\f.1 1=sI a1/\f.1 2=sI a2/\bx f 3 (Pf.av a0).cells/\bx f 6 [sI 0,sI 0,sI 0,nL,nL,nL,nL]/\bx f 7 [sI a0.afo,sI (fp (fp (dC a0.afo 1) (sS a0.afr a1) false) (ep .i64 a0.afr a2) a0.afr),sI a0.cW.afo,sL Ty.av a0.cW.afp,sL Tm.av a0.dy,sL Fm.av a0.fP,sL Pf.av a0.afp]) (λ_ g=>?_) ?_
 ·refine wj 999 999 (λf h=>h=H/\f.1 1=sI a1/\f.1 2=sI a2/\f.1 19=sB (fp (dC a0.afo 1) (sS a0.afr a1) false)/\bx f 3 (Pf.av a0).cells/\bx f 6 [sI 0,sI 0,sI 0,nL,nL,nL,nL]/\bx f 7 (Pf.av a0).cells) (λ_ g=>?_) ?_
  ·rcases Pb (dC a0.afo 1) e with e|e
   ·exact aj
   exact aj
  rintro _ _ E;have e:=Aj e E;rcases Pb (fp (dC a0.afo 1) (sS a0.afr a1) false) e with e|e
  ·exact aj
  exact aj
 rintro _ _ E;have e:=Aj e E;simp[e];refine Wr e m 999 (λj c f h=>∃a,(h=H/\f.1 1=sI a1/\f.1 2=sI a2/\f.1 27=sL Pf.av a0.afp/\f.1 28=sI (dT a0.afp)/\f.1 29=sI j/\bx f 3 (Pf.av a0).cells/\bx f 6 [sI 0,sI 0,sI 0,nL,nL,nL,nL]/\bx f 7 [sI a0.afo,sI (fp (fp (dC a0.afo 1) (sS a0.afr a1) false) (ep .i64 a0.afr a2) a0.afr),sI a0.cW.afo,sL Ty.av a0.cW.afp,sL Tm.av a0.dy,sL Fm.av a0.fP,sT a Pf.av c])/\Ow f [46] a c) (by exact⟨.full,aav,kG.full⟩) (λc d _ _ E m=>?_) (λj _ c d _ _ _ _ E e m z p=>?_)
 ·have⟨a,E,b⟩:=E;have e:=Aj e E;dsimp only[cR]at m;exact au
 have⟨a,E,b⟩:=E;have e:=Aj e E;simp[e];refine fQ m F8 λ_ m=>?_;simp[e];refine fQ m k λi m=>?_;have⟨e,m⟩:=Ck e m;simp[e];refine Ad (f:=Pf.av) c [i] b V7 e.2 ?_;simp[e];cases m;exact p _ _ _ ⟨(.loc 46 (d.gN 46+1)),aav,(On 46)⟩ z
def Qe{n:Nat}:C5 prog 126 (uQ n) Pf.av Pf.av sI sI sI Pf.av:=by
 refine i5 λn k=>v5 func126 λT H a0 a1 a2 a3 a4 r m e=>?_;rw[uQ] at m;apply Iq e m<;>intro e m
 ·apply Ir e m<;>intro e m
  ·refine Il e m λe m=>?_;exact au
  simp[e];refine gj m P' λ_ m=>?_;simp[e];refine gj m OA λ_ m=>?_;exact au
 simp[e];refine Wr e m 999 (λj c f h=>∃a,(h=H/\f.1 1=sI a1/\f.1 2=sI a2/\f.1 3=sI a3/\f.1 44=sL Pf.av a0.afp/\f.1 45=sI (dT a0.afp)/\f.1 46=sI j/\bx f 5 (Pf.av a0).cells/\bx f 9 (Pf.av a4).cells/\bx f 10 [sI 0,sI 0,sI 0,nL,nL,nL,nL]/\bx f 11 [sI a0.afo,sI a0.afr,sI a0.cW.afo,sL Ty.av a0.cW.afp,sL Tm.av a0.dy,sL Fm.av a0.fP,sT a Pf.av c])/\Ow f [70] a c) (by exact⟨.full,aav,kG.full⟩) (λc d _ _ E m=>?_) (λj _ c d _ _ _ _ E e m z p=>?_)
 ·have⟨a,E,b⟩:=E;have e:=Aj e E;dsimp only[cR]at m;exact au
 have⟨a,E,b⟩:=E;have e:=Aj e E;simp[e];refine fQ m DE λ_ m=>?_;simp[e];refine fQ m F8 λ_ m=>?_;simp[e];refine fQ m k λi m=>?_;have⟨e,m⟩:=Ck e m;simp[e];refine Ad (f:=Pf.av) c [i] b V7 e.2 ?_;simp[e];cases m;exact p _ _ _ ⟨(.loc 70 (d.gN 70+1)),aav,(On 70)⟩ z
def O6:C3 prog 47 wW (t2 Pf.av sI) Pf.av sI Pf.av:=by
 refine u3 7 func47 λT H a0 a1 a2 r m e=>?_;rw[wW] at m;simp[e];refine gj m zN λ_ m=>?_;simp[e];apply Iq e m<;>intro e m
 ·apply wg 999;exact au
 apply wg 3;simp[e];refine wj 999 0 (λf h=>h=H/\f.1 1=sI a1/\f.1 21=sB (fp (xT a1 0) true (pc a1 16384))/\bx f 3 (Pf.av a0).cells/\bx f 5 (Pf.av a2).cells/\bx f 6 [sI 0,sI 0,sI 0,nL,nL,nL,nL]) (λ_ g=>?_) ?_
 ·rcases Pb (xT a1 0) e with e|e
  ·exact aj
  exact aj
 rintro _ _ E;have e:=Aj e E;apply Iq e m<;>intro e m
 ·apply wg 999;exact au
 apply wg 7;simp[e];refine gj m zN λ_ m=>?_;simp[e];apply Iq e m<;>intro e m
 ·apply wg 999;exact au
 apply wg 3;simp[e];refine Wj m 999 999 (λb f h=>∃a,(h=H/\f.1 1=sI a1/\f.1 41=sB a/\bx f 3 (Pf.av a0).cells/\bx f 5 (Pf.av a2).cells/\bx f 6 [sI 0,sI 0,sI 0,nL,nL,nL,nL])/\b a=some r) (λb _ g m=>?_) ?_
 ·simp[e];refine gj m Hl λ_ m=>?_;apply Ir e m<;>intro e m
  ·exact nP
  simp[e];refine gj m Hl λ_ m=>?_;apply Ir e m<;>intro e m
  ·exact nP
  simp[e];refine gj m Kg λ_ m=>?_;exact nP
 rintro _ _ ⟨a,E,m⟩;have e:=Aj e E;refine Il e m λe m=>?_;simp[e];refine fQ m B8 λ_ m=>?_;simp[e];refine fQ m MT λ_ m=>?_;simp[e];refine fQ m B8 λ_ m=>?_;refine Il e m λe m=>?_;simp[e];refine gj m Qe λ_ m=>?_;simp[e];refine gj m Dw λ_ m=>?_;exact au
def KR(T:fx)(a:w5 T){a0:List Int}{b:Bool}(hm:zg a0=some b):gG prog T 9 [sL sI a0] [] (λx _=>x=sB b):=by
 rw[zg] at hm;have e:=a;refine wi aft func9 [] [] 999 ?_;simp[e];refine gj hm (Hw T a) λ_ m=>?_;refine Im e m λe m=>?_;simp[e];refine gj m P4 λ_ m=>?_;refine Im e m λe m=>?_;simp[e];refine gj m (PK T) λ_ m=>?_;simp[e];refine mM m (JD T aav) λ_ d5 m=>?_;simp[e];refine mM m (HS T aav) λc d7 m=>?_;simp[e];refine QA m (HK T aav) λ_ h d10 m=>?_;have⟨e,m⟩:=Ck e m;simp[e];refine Ad (f:=Fm.av) [] c.afv (kG.full (D:=[])) E5 e.2 ?_;have⟨e,m⟩:=Ck e m;simp[e];refine Ad (f:=Fm.av) (fK [] c.afv) [h.cZ] (kG.new (D:=[35]) (d:=35) Zk) E5 e.2 ?_;simp[e];refine QA m (HK T aav) λ_ _ d13 m=>?_;simp[e];refine mM m O6 λ_ _ m=>?_;refine Il e m λe m=>?_;simp[e];refine gj m (GZ T a) λ_ m=>?_;simp[e];refine gj m Ca λ_ m=>?_;exact au
end Go.Proofs.YtobcafblgapgfaaGreatDoor
