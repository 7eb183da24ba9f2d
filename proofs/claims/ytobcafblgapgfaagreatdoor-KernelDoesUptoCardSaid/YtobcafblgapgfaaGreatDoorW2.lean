/- Part of the proof of KernelAccepts, KernelDoes: walks. -/
import Derived.Test.YtobcafblgapgfaaGreatDoorW1
set_option linter.all false
set_option maxRecDepth 20000
set_option maxHeartbeats 4000000
namespace Go.Proofs.YtobcafblgapgfaaGreatDoor
open Go Go.ke Go.fB Tryz
def B2:C1 prog 123 sE sB Pf.av:=by
 refine u1 2 func123 λT H a0 r m e=>?_;rw[sE] at m;simp[e];refine wm m 999 999 (λa f h=>∃v2,(h=H/\f.1 2=sB v2)/\a v2=some r) ?_ (λa _ g m=>?_)
 ·rintro _ _ ⟨v2,E,m⟩;have e:=Aj e E;exact au
 simp[e];refine dX m HY λ_ m=>?_;apply Ir e m<;>intro e m
 ·exact iC
 simp[e];refine dX m HB λ_ m=>?_;exact iC
def Aw:C1 prog 85 ri sI Pf.av:=by
 refine v1 func85 λT H a0 r m e=>?_;rw[ri] at m;simp[e];refine dX m H_ λ_ m=>?_;refine Im e m λe m=>?_;simp[e];refine dX m B2 λ_ m=>?_;refine Il e m λe m=>?_;exact au
def Qo:jm prog 109=true:=by kernel_rfl
def acf(fr:Fr)(L:List Int):Prop:=
 (L=[]/\fr.env 3=.slice .full [])\/∃cap,fr.env 3=.vM 17 (fr.gen 17) L.length cap/\fr.box 17=some (gO (λn=>AV.sc (Value.int .i64 n)) L ((cap-L.length)*1))/\L.length<=cap
def yW(T:dx){H:cW}{a0:List (Int×Bool)}{r0:List Int}{af:List (Int×Bool)}{s:Nat}(E:H[s]?=some [sw (λb=>AV.sc (Value.bool b)) a0])(hm:pS a0=some (r0,af)):du prog T 109 [AV.mU s] H (AV.slice .hY (List.map (λn=>AV.sc (Value.int .i64 n)) r0)) (dH H s [sw (λb=>AV.sc (Value.bool b)) af]):=by
 unfold pS at hm;have⟨aD,hm⟩:=lK hm;have⟨S,hm⟩:=lK hm;have ah:=eB E;simp only[sy,GQ] at hm;have⟨e1,e2⟩:=hm;subst e2;rw[I0 E]
 have S:(a0.map (·.1)).Nodup:=by simpa[wG] using S
 refine dL.tJ (Post:=λx K=>x=AV.slice .hY (List.map (λn=>AV.sc (Value.int .i64 n)) r0)/\∃X,K=H++X) ?_ (λ_ _ h=>⟨_,h.2.choose_spec,by rw[h.1];simp[AV.low,AV.gA],h.1,rfl⟩);refine dL.intro (fn:=f109) func109 rfl Qo (Tb rfl) ?_;refine fg.sr [] λK1 F=>?_;simp;apply F;refine fg.sr [] λK1 F=>?_;simp;apply F;refine fg.tx λK1 F=>?_;refine fg.sr [] λK2 aE=>?_;simp[GN,E,sw];apply aE;refine fg.zx λQ nn ex x r=>?_
 refine fg.Ma (λm fr h=>∃(seen:List Nat) (L:List Int),m=FT a0.length seen/\L.length+m<=a0.length/\EC L/\(∀x,x∈L↔∃j∈seen,∃p,a0[j]?=some p/\p.1=x)/\H++[[.l_ s a0.length seen]]=h/\fr.env 7=.dM H.length 0/\acf fr L) a0.length ?_ ?_
 ·exact⟨[],[],(NY _).symm,aa4,.nil,aa4,aa4,rfl,.inl ⟨rfl,rfl⟩⟩
 rintro m fr h ⟨seen,L,aF,aT,hA,hL,rfl,G,hs⟩ K3 aG
 have hi:(H++[[AV.l_ s a0.length seen]])[H.length]?=some [AV.l_ s a0.length seen]:=aa4
 have ho:(H++[[AV.l_ s a0.length seen]])[s]?=some [sw (λb=>AV.sc (Value.bool b)) a0]:=by simp[ah,E]
 refine fg.sr [] λK4 ai=>?_;simp only[Qv,ev,G];refine Nv a0 hi ho (λak=>?_) (λj p U hj=>?_)
 ·--aU end
  simp;apply ai;refine fg.tx λK5 an=>?_;refine fg.s9 λA B ga V=>?_;simp;apply V;refine fg.exit ?_;apply ex;apply F
  have hr:yg [] (a0.map (·.1))=L:=by
   refine EC.eq (zT _ [] .nil S aa4) hA λx=>?_;rw[zQ,hL];simp only[tw,Xb,l8];constructor
   ·rintro⟨p,U,rfl⟩;have⟨j,hj⟩:=Wd.1 U;exact⟨j,ak j (kj.1 hj).1,p,hj,rfl⟩
   ·rintro⟨j,_,p,U,rfl⟩;exact⟨p,z6 U,rfl⟩
  rw[hr] at e1;subst e1;rcases hs with⟨rfl,l⟩|⟨cap,l,e,hle⟩
  ·refine fg.sr [] λK6 q=>?_;simp[l];apply q;refine fg.ret ?_;simp[uL,l]
  ·refine fg.Zp 3 (f:=λn=>AV.sc (Value.int .i64 n)) (L:=L) (k:=(cap-L.length)*1) (sz:=1) (d:=17) (g:=fr.gen 17) (cap:=cap) (by intro x;simp) (by intro x;simp) (by simp[l]) aa4 aa8 ?_;refine fg.sr [] λK6 q=>?_;simp;apply q;refine fg.ret ?_;simp[uL]
 have aq:j<a0.length:=(kj.1 U).1;have aH:=Ql aq hj
 have aI:(H++[[AV.l_ s a0.length (seen++[j])]])[H.length]?=some [AV.l_ s a0.length (seen++[j])]:=aa4
 have aJ:(H++[[AV.l_ s a0.length (seen++[j])]])[s]?=some [sw (λb=>AV.sc (Value.bool b)) a0]:=by simp[ah,E]
 have dH:dH (H++[[AV.l_ s a0.length seen]]) H.length [AV.l_ s a0.length (seen++[j])]=H++[[AV.l_ s a0.length (seen++[j])]]:=aa4
 rw[dH];have ar:=Lp (f:=λb=>AV.sc (Value.bool b)) a0 aI aJ U
 have ab:p.1∉L:=by
  rw[hL];rintro⟨j',aK,p',aL,he⟩
  have h1:(a0.map (·.1))[j]?=some p.1:=by rw[tM,U];rfl
  have h2:(a0.map (·.1))[j']?=some p.1:=by rw[tM,aL];simp[he]
  have:j=j':=by
   have aM:j<(a0.map (·.1)).length:=by simpa using aq
   exact(List.getElem?_inj aM S).1 (h1.trans h2.symm)
  subst this;exact hj aK
 have aS:a0.length<=JV:=LN aD;simp;apply ai;refine fg.tx λK5 an=>?_;refine fg.s9 λA B ga V=>?_;simp;apply ga;refine fg.skip ?_;apply an;refine fg.zx λQ1 aN aV x1 r1=>?_;refine fg.sr [] λK6 q=>?_;simp[G,ar];apply q;refine fg.sr [] λK6 q=>?_
 have hlen:∃y,fr.env 3=y/\Cz prog 22 y=some (.sc (.int .i64 L.length)):=by
  rcases hs with⟨rfl,l⟩|⟨cap,l,e,hle⟩
  ·exact⟨_,l,aa4⟩
  ·exact⟨_,l,aa4⟩
 have⟨y,hy,aw⟩:=hlen;simp[hy,aw];apply q
 refine fg.Z9 (λfr h=>H++[[.l_ s a0.length (seen++[j])]]=h/\fr.env 7=.dM H.length 0/\fr.env 4=.sc (.int .i64 p.1)/\fr.env 5=.sc (.int .i64 (L.length:Int))/\∃cap,fr.env 3=.vM 17 (fr.gen 17) (L.length+1) cap/\fr.box 17=some (gO (λn=>AV.sc (Value.int .i64 n)) (L.take L.length++p.1::L.drop L.length) ((cap-(L.length+1))*1))/\L.length+1<=cap) (λK6 q=>?_) ?_
 ·refine fg.region [] abl ?_
  have ax:fa L [p.1]=L.take L.length++p.1::L.drop L.length:=by simp[fa]
  have aW:(fa L [p.1]).length=L.length+1:=by simp[fa]
  rcases hs with⟨rfl,l⟩|⟨cap,l,e,hle⟩
  ·simp[l];refine rC.X_ (f:=λn=>AV.sc (Value.int .i64 n)) [p.1] Pc ⟨_,Vg⟩ (by intro x;simp) (by simp[yk,JV]) rfl (by first|rfl|simp) λcap xt=>?_;simp;apply q;refine⟨rfl,?_,?_,?_,cap,?_,?_,by simpa using xt⟩<;>simp[G]
  ·simp[l];refine rC.lA (f:=λn=>AV.sc (Value.int .i64 n)) L [p.1] (cap:=cap) Pc ⟨_,Vg⟩ (by intro x;simp) (by simp[eJ];omega) aa4 rfl (by first|rfl|simp) aa8 hle λg' ay xt=>?_;rw[ax] at xt;simp only[ax];simp;apply q;refine⟨rfl,?_,?_,?_,ay,?_,?_,by simpa using xt⟩<;>simp[G]
 rintro aX h6 ⟨rfl,f7,f4,f5,cap,f3,f17,az⟩
 refine fg.Z9 (λfr h=>H++[[.l_ s a0.length (seen++[j])]]=h/\fr.env 7=.dM H.length 0/\fr.env 4=.sc (.int .i64 p.1)/\∃(i:Nat) (z:Int),fr.env 5=.sc (.int .i64 (i:Int))/\i<=L.length/\(∀a∈L.drop i,a>p.1)/\(i=0\/∃a,L[i-1]?=some a/\¬a>p.1)/\∃cap,fr.env 3=.vM 17 (fr.gen 17) (L.length+1) cap/\fr.box 17=some (gO (λn=>AV.sc (Value.int .i64 n)) (L.take i++z::L.drop i) ((cap-(L.length+1))*1))/\L.length+1<=cap) (λK7 aO=>?_) ?_
 ·refine fg.zx λQ2 aY aA x2 r2=>?_
  refine fg.Ma (λi fr h=>H++[[.l_ s a0.length (seen++[j])]]=h/\fr.env 7=.dM H.length 0/\fr.env 4=.sc (.int .i64 p.1)/\∃(z:Int),fr.env 5=.sc (.int .i64 (i:Int))/\i<=L.length/\(∀a∈L.drop i,a>p.1)/\∃cap,fr.env 3=.vM 17 (fr.gen 17) (L.length+1) cap/\fr.box 17=some (gO (λn=>AV.sc (Value.int .i64 n)) (L.take i++z::L.drop i) ((cap-(L.length+1))*1))/\L.length+1<=cap) L.length ?_ ?_
  ·exact⟨rfl,f7,f4,p.1,f5,gu _,aa4,cap,f3,f17,az⟩
  clear f7 f4 f5 f3 f17 az hy aw G hs;rintro i fr h ⟨rfl,G,e4,z,R,w,I,cap,l,e,hle⟩ K8 aP
  have stop:∀fr':Fr,fr'.env 7=.dM H.length 0->fr'.env 4=.sc (.int .i64 p.1)->fr'.env 5=.sc (.int .i64 (i:Int))->fr'.env 3=fr.env 3->fr'.gen=fr.gen->fr'.box=fr.box->(i=0\/∃a,L[i-1]?=some a/\¬a>p.1)->K7 fr' (H++[[.l_ s a0.length (seen++[j])]]):=by
   intro fr' g7 g4 g5 g3 gg V W;exact aO _ _ ⟨rfl,g7,g4,i,z,g5,w,I,W,cap,by rw[g3,l,gg],by rw[V,e],hle⟩
  refine fg.tx λK9 aQ=>?_;refine fg.sr [] λaZ Y=>?_;obtain⟨c,D⟩:∃c:Int,c=(i:Int):=⟨_,rfl⟩;rw[<-D] at R;cases i with
  |zero=>
   have W:kZ c 0=false:=by rw[D];decide
   simp[R,W];apply Y;refine fg.s9 λA B ga V=>?_;simp;apply V;refine fg.exit ?_;apply aA;refine stop _ ?_ ?_ ?_ ?_ ?_ ?_ (.inl rfl)<;>simp[G,e4,R,D]
  |succ i=>
   have W:kZ c 0=true:=by rw[D];simp[kZ]
   obtain⟨Z,ad⟩:∃Z:Int,Z=(i:Int):=⟨_,rfl⟩
   have J:dZ .i64 c 1=Z:=by rw[D,ad];exact RY VW
   obtain⟨x,hx⟩:∃x,L[i]?=some x:=⟨_,oO VW⟩
   have C:(L.take (i+1)++z::L.drop (i+1)).length=L.length+1:=aa_
   have aa:de (L.take (i+1)++z::L.drop (i+1)) Z=some x:=by
    unfold de;rw[cO VW,ad,AN,p4 (by rw[xZ];omega),DG,cO VW,hx]
   have O:0<=Z/\Z<((L.length+1:Nat):Int):=VW
   have o:0<=c/\c<((L.length+1:Nat):Int):=VW
   have ae:=ME (P:=prog) (t:=3) (f:=λn=>AV.sc (Value.int .i64 n)) (k:=(cap-(L.length+1))*1) Rh (by intro x;simp) aa;generalize hM:L.take (i+1)++z::L.drop (i+1)=M at e C aa ae;generalize hN:L.length+1=N at l e hle C O o ae
   have aB:∀fr':Fr,fr'.gen 17=fr.gen 17->fr'.box 17=fr.box 17->sY prog fr' (H++[[AV.l_ s a0.length (seen++[j])]]) 3 (.fC 17 (fr.gen 17) (Mu Z.toNat 1))=some (.sc (.int .i64 x)):=by
    intro fr' g1 g2;show(if fr.gen 17=fr'.gen 17 then(match fr'.box 17 with|some cs=>lH prog 3 cs (Mu Z.toNat 1)|none=>none)else none)=_;rw[cO g1.symm,g2,e];exact ae
   simp[R,l,W,J,O,aB,e4,-sY];apply Y;have a1:M.length=N:=C
   have u:de M c=some z:=by
    unfold de;rw[cO VW,D,AN,<-hM,wc aa_];simp[xZ,show min (i+1) L.length=i+1 from by omega]
   have v:wy M c x=L.take i++x::L.drop i:=by
    have hd:L.drop i=x::L.drop (i+1):=by
     rw[JK (by omega:i<L.length)]
     congr 1
     exact(kj.1 hx).2
    have ht:L.take (i+1)=L.take i++[x]:=by rw[Y1,hx];rfl
    unfold wy;rw[D,AN,<-hM,hd,Rn _ _ aa_];rw[xZ,show min (i+1) L.length=i+1 from by omega,SZ,Jx,ht,tE];rfl
   refine fg.s9 λA B ga V=>?_;rcases Bool.eq_false_or_eq_true (kZ x p.1)with hgx|hgx
   ·simp[hgx];apply ga;refine fg.skip ?_;apply aQ;refine fg.zx λQ3 aR a6 x3 r3=>?_;refine fg.sr [] λa7 aC=>?_;simp[R,l,J,O,o,aB,e4,-sY];refine yN.arr (f:=λn=>AV.sc (Value.int .i64 n)) (L:=M) (k:=(cap-N)*1) x Rh (by intro x;simp) aa4 (x:=z) u aa4 aa8 aa4 ?_;simp;apply aC;refine fg.region [] abl ?_;simp[R,J];apply aR;rw[v];refine aP _ _ i (QI _) ⟨rfl,?_,?_,x,?_,VW,?_,cap,?_,?_,by rw[hN];exact hle⟩
    ·simp[G]
    ·simp[e4]
    ·simp[ad]
    ·intro a ha
     have hd:L.drop i=x::L.drop (i+1):=by
      rw[JK (by omega:i<L.length)]
      congr 1
      exact(kj.1 hx).2
     rw[hd] at ha;rcases j0.1 ha with rfl|ha
     ·simpa[kZ] using hgx
     ·exact I a ha
    ·simp[l,hN]
    ·simp[hN]
   ·simp[hgx];apply V;refine fg.exit ?_;apply aA;refine stop _ ?_ ?_ ?_ ?_ ?_ ?_ (.inr ⟨x,by simpa using hx,by simpa[kZ] using hgx⟩)<;>simp[G,e4,R,l,D]
 rintro fr h ⟨rfl,G,e4,i,z,R,w,I,W,cap,l,e,hle⟩;refine fg.region [] abl ?_;obtain⟨c,D⟩:∃c:Int,c=(i:Int):=⟨_,rfl⟩;rw[<-D] at R
 have C:(L.take i++z::L.drop i).length=L.length+1:=aa_
 have u:de (L.take i++z::L.drop i) c=some z:=by
  unfold de;rw[cO VW,D,AN,wc aa_];simp[xZ,GS w]
 have v:wy (L.take i++z::L.drop i) c p.1=A3 p.1 L:=by
  rw[MU L i hA ab w I W];unfold wy;rw[D,AN,Rn _ _ aa_,xZ,GS w,SZ,Jx]
 have o:0<=c/\c<((L.length+1:Nat):Int):=VW
 have hlen:(A3 p.1 L).length=L.length+1:=by rw[MU L i hA ab w I W];simp;omega
 generalize hM:L.take i++z::L.drop i=M at e C u v;generalize hN:L.length+1=N at l e hle C o hlen;simp[R,l,e4,o];refine yN.arr (f:=λn=>AV.sc (Value.int .i64 n)) (L:=M) (k:=(cap-N)*1) p.1 Rh (by intro x;simp) aa4 (x:=z) u aa4 aa8 aa4 ?_;simp;apply aN;rw[v];refine aG _ _ _ (by rw[aF];exact aH) ⟨seen++[j],A3 p.1 L,rfl,VW,Gz p.1 L ab hA,?_,rfl,?_,.inr ⟨cap,?_,?_,by rw[hlen];exact hle⟩⟩
 ·intro x;rw[yz,hL];constructor
  ·rintro(rfl|⟨j',h1,p',h2,h3⟩)
   ·exact⟨j,aa4,p,U,rfl⟩
   ·exact⟨j',by simp[h1],p',h2,h3⟩
  ·rintro⟨j',h1,p',h2,h3⟩;rcases qA.1 h1 with h1|h1
   ·exact .inr ⟨j',h1,p',h2,h3⟩
   ·simp only[yo] at h1;subst h1;rw[U] at h2;obtain rfl:=gh h2;exact .inl h3.symm
 ·simp[G]
 ·simp[l,hlen]
 ·simp[hlen]
def kq(T:dx){H:cW}{a0 a1 c:List Int}(hm:fj a0 a1=some c):du prog T 217 [sL sI a0,sL sI a1] H (sL sI c) H:=by
 rw[fj] at hm;refine dL.tJ (Post:=λx K=>x=sL sI c/\∃X,K=H++X) ?_ (λ_ _ h=>⟨_,h.2.choose_spec,by rw[h.1];simp[AV.low,AV.gA],h.1,rfl⟩);have e:=trivial;refine wi acX func217 [] [] 999 ?_;simp[e];refine Ap e hm 999 (λd s2 f h=>h=H++[[sw sB s2]]/\f.1 1=sL sI a1/\f.1 5=AV.mU (List.length H)/\f.1 11=sL sI a0/\f.1 12=sI (di a0)/\f.1 13=sI d) aa8 (λd _ s2 _ _ _ _ _ E e m z p=>?_) (λs2 _ _ _ E m=>?_)
 ·have e:=Aj e E;simp[e];refine th.i64 (f:=sB) s2 true N6 tZ aa8 aa8 ?_;exact al
 have e:=Aj e E;dsimp only[cU]at m;simp[e];refine Wr e m 999 (λb a f h=>h=H++[[sw sB a]]/\f.1 5=AV.mU (List.length H)/\f.1 20=sL sI a1/\f.1 21=sI (di a1)/\f.1 22=sI b) aa8 (λa _ _ _ E m=>?_) (λb _ a _ _ _ _ _ E e m z p=>?_)
 ·have e:=Aj e E;dsimp only[cU]at m;simp[e];refine g_ m (yW T aa8) λ_ d20 m=>?_;exact au
 have e:=Aj e E;simp[e];refine th.i64 (f:=sB) a true N6 tZ aa8 aa8 ?_;exact al
def kB:C3 prog 218 dq sI cS.av sI sI:=by
 refine u3 3 func218 λT H a0 a1 a2 r m e=>?_;rw[dq] at m;simp[e];refine Ke 999 999 (λf h=>h=H/\f.1 20=sB (eu (kZ (dF .i64 (di a0.acW) a1) 16) true (kZ (dF .i64 (di a0.acZ) a2) 16))) ?_ (λ_ g=>?_)
 ·rintro _ _ E;have e:=Aj e E;refine Il e m λe m=>?_;exact au
 rcases Pb (kZ (dF .i64 (di a0.acW) a1) 16) e with e|e
 ·exact aj
 exact aj
def mu:C2 prog 219 eZ cS.av cS.av Fm.av:=by
 refine v2 func219 λT H a0 a1 r m e=>?_;rw[eZ] at m;have⟨e,m⟩:=Ck e m;simp[e];refine Ad (f:=Fm.av) a0.acZ [a1] (gM.full (D:=[])) BW e.2 ?_;exact au
def vR{n:Nat}:C2 prog 114 (ky n) sB Tm.av sI:=by
 refine i2 λn b=>v2 func114 λT H a0 a1 r m e=>?_;rw[ky] at m;refine Il e m λe m=>?_;simp[e];refine Wr e m 999 (λa _ f h=>h=H/\f.1 1=sI a1/\f.1 12=sL Tm.av a0.acT/\f.1 13=sI (di a0.acT)/\f.1 14=sI a) aa8 (λ_ _ _ _ E m=>?_) (λa _ _ _ _ _ _ _ E e m z p=>?_)
 ·have e:=Aj e E;dsimp only[cU]at m;exact au
 have e:=Aj e E;simp[e];refine dX m b λ_ m=>?_;refine Im e m λe m=>?_;exact al
def Ky:C1 prog 289 u_ sB Tm.av:=by
 refine u1 8 func289 λT H a0 r m e=>?_;rw[u_] at m;simp[e];apply Iq e m<;>intro e m
 ·apply wg 999;have⟨i,e,m⟩:=ee e m;exact au
 apply wg 3;simp[e];apply Iq e m<;>intro e m
 ·apply wg 1;simp[e];refine wm m 999 999 (λa f h=>∃v3,(h=H/\f.1 2=sB v3)/\a v3=some r) ?_ (λa _ g m=>?_)
  ·rintro _ _ ⟨v3,E,m⟩;have e:=Aj e E;exact au
  have⟨j,e,m⟩:=ee e m;apply Iq e m<;>intro e m
  ·exact iC
  exact iC
 apply wg 4;apply Iq e m<;>intro e m
 ·simp[e];refine wm m 999 999 (λb f h=>∃v9,(h=H/\f.1 2=sB v9)/\b v9=some r) ?_ (λb _ g m=>?_)
  ·rintro _ _ ⟨v9,E,m⟩;have e:=Aj e E;exact au
  have⟨c,e,m⟩:=ee e m;apply Iq e m<;>intro e m
  ·exact iC
  exact iC
 simp[e];refine wj 999 999 (λf h=>h=H/\f.1 45=sB (eu (dg a0.acS 11) true (dg a0.acS 12))/\bx f 1 (Tm.av a0).cells) (λ_ g=>?_) ?_
 ·rcases Pb (dg a0.acS 11) e with e|e
  ·exact aj
  exact aj
 rintro _ _ E;have e:=Aj e E;refine Im e m λe m=>?_;have⟨d,e,m⟩:=ee e m;exact au
def qo:C1 prog 161 kC sI Tm.av:=by
 refine v1 func161 λT H a0 r m e=>?_;rw[kC] at m;refine Il e m λe m=>?_;exact au
def Au{n:Nat}:C2 prog 173 (mv n) sI Tm.av sI:=by
 refine i2 λn c=>u2 4 func173 λT H a0 a1 r m e=>?_;rw[mv] at m;simp[e];refine wj 0 999 (λf h=>h=H/\f.1 1=sI a1/\f.1 5=sI (eu (eu (dg a0.acS 1) (dg a0.acV a1) false) (dF .i64 0 1) 0)/\bx f 2 (Tm.av a0).cells) (λ_ g=>?_) ?_
 ·refine wj 999 999 (λf h=>h=H/\f.1 1=sI a1/\f.1 5=sI 0/\f.1 16=sB (eu (dg a0.acS 1) (dg a0.acV a1) false)/\bx f 2 (Tm.av a0).cells) (λ_ g=>?_) ?_
  ·rcases Pb (dg a0.acS 1) e with e|e
   ·exact aj
   exact aj
  rintro _ _ E;have e:=Aj e E;rcases Pb (eu (dg a0.acS 1) (dg a0.acV a1) false) e with e|e
  ·exact aj
  exact aj
 rintro _ _ E;have e:=Aj e E;simp[e];refine Wr e m 999 (λb a f h=>h=H/\f.1 1=sI a1/\f.1 5=sI a/\f.1 20=sL Tm.av a0.acT/\f.1 21=sI (di a0.acT)/\f.1 22=sI b/\bx f 2 (Tm.av a0).cells) aa8 (λa _ _ _ E m=>?_) (λb _ a _ _ _ _ _ E e m z p=>?_)
 ·have e:=Aj e E;dsimp only[cU]at m;exact au
 have e:=Aj e E;simp[e];refine dT m qo λ_ m=>?_;simp[e];refine dT m c λ_ m=>?_;exact al
def F5:C1 prog 290 rK sI Tm.av:=by
 refine v1 func290 λT H a0 r m e=>?_;rw[rK] at m;simp[e];refine dX m fy λ_ m=>?_;apply Iq e m<;>intro e m
 ·have⟨o,e,m⟩:=ee e m;have⟨q,e,m⟩:=ee e m;have⟨s,e,m⟩:=ee e m;simp[e];refine dT m fy λ_ m=>?_;simp[e];refine dT m Au λ_ m=>?_;simp[e];refine dT m fy λ_ m=>?_;exact au
 apply Iq e m<;>intro e m
 ·have⟨t,e,m⟩:=ee e m;apply Iq e m<;>intro e m
  ·have⟨u,e,m⟩:=ee e m;simp[e];refine dX m fy λ_ m=>?_;exact au
  have⟨a,e,m⟩:=ee e m;simp[e];refine dT m fy λ_ m=>?_;have⟨b,e,m⟩:=ee e m;simp[e];refine dT m fy λ_ m=>?_;exact au
 apply Ir e m<;>intro e m
 ·apply Iq e m<;>intro e m
  ·have⟨c,e,m⟩:=ee e m;have⟨d,e,m⟩:=ee e m;simp[e];refine dX m fy λ_ m=>?_;exact au
  have⟨f,e,m⟩:=ee e m;have⟨h,e,m⟩:=ee e m;simp[e];refine dX m fy λ_ m=>?_;exact au
 have⟨i,e,m⟩:=ee e m;apply Iq e m<;>intro e m
 ·have⟨j,e,m⟩:=ee e m;simp[e];refine dX m fy λ_ m=>?_;exact au
 have⟨k,e,m⟩:=ee e m;have⟨l,e,m⟩:=ee e m;have⟨n,e,m⟩:=ee e m;simp[e];refine dT m fy λ_ m=>?_;simp[e];refine dT m fy λ_ m=>?_;simp[e];refine dT m fy λ_ m=>?_;simp[e];refine dT m fy λ_ m=>?_;exact au
def A2{n:Nat}:C3 prog 90 (qs n) Tm.av Tm.av sI sI:=by
 refine i3 λn k=>u3 4 func90 λT H a0 a1 a2 r m e=>?_;rw[qs] at m;simp[e];refine wj 0 999 (λf h=>h=H/\f.1 1=sI a1/\f.1 2=sI a2/\bx f 3 (Tm.av a0).cells/\bx f 6 [sI 0,sI 0,sI 0,nL,nL]/\bx f 7 [sI a0.acS,sI (eu (eu (dg a0.acS 1) (sM a0.acV a1) false) (dF .i64 a0.acV a2) a0.acV),sI a0.cP.acS,sL Ty.av a0.cP.acT,nL]) (λ_ g=>?_) ?_
 ·refine wj 999 999 (λf h=>h=H/\f.1 1=sI a1/\f.1 2=sI a2/\f.1 25=sB (eu (dg a0.acS 1) (sM a0.acV a1) false)/\bx f 3 (Tm.av a0).cells/\bx f 6 [sI 0,sI 0,sI 0,nL,nL]/\bx f 7 [sI a0.acS,sI a0.acV,sI a0.cP.acS,sL Ty.av a0.cP.acT,nL]) (λ_ g=>?_) ?_
  ·rcases Pb (dg a0.acS 1) e with e|e
   ·exact aj
   exact aj
  rintro _ _ E;have e:=Aj e E;rcases Pb (eu (dg a0.acS 1) (sM a0.acV a1) false) e with e|e
  ·exact aj
  exact aj
 rintro _ _ E;have e:=Aj e E;simp[e];refine Wr e m 999 (λj c f h=>∃a,(h=H/\f.1 1=sI a1/\f.1 2=sI a2/\f.1 32=sL Tm.av a0.acT/\f.1 33=sI (di a0.acT)/\f.1 34=sI j/\bx f 3 (Tm.av a0).cells/\bx f 6 [sI 0,sI 0,sI 0,nL,nL]/\bx f 7 [sI a0.acS,sI (eu (eu (dg a0.acS 1) (sM a0.acV a1) false) (dF .i64 a0.acV a2) a0.acV),sI a0.cP.acS,sL Ty.av a0.cP.acT,sT a Tm.av c])/\Ow f [48] a c) (by exact⟨.full,aa8,gM.full⟩) (λc d _ _ E m=>?_) (λj _ c d _ _ _ _ E e m z p=>?_)
 ·have⟨a,E,b⟩:=E;have e:=Aj e E;dsimp only[cU]at m;exact au
 have⟨a,E,b⟩:=E;have e:=Aj e E;simp[e];refine dT m qo λ_ m=>?_;simp[e];refine dT m k λi m=>?_;have⟨e,m⟩:=Ck e m;simp[e];refine Ad (f:=Tm.av) c [i] b A1 e.2 ?_;simp[e];cases m;exact p _ _ _ ⟨(.loc 48 (d.ei 48+1)),aa8,(On 48)⟩ z
def FB{n:Nat}:C4 prog 174 (uR n) Tm.av Tm.av sI sI Tm.av:=by
 refine i4 λn k=>v4 func174 λT H a0 a1 a2 a3 r m e=>?_;rw[uR] at m;apply Iq e m<;>intro e m
 ·apply Iq e m<;>intro e m
  ·simp[e];refine dX m A2 λ_ m=>?_;exact au
  refine Im e m λe m=>?_;simp[e];refine dX m eN λ_ m=>?_;exact au
 simp[e];refine Wr e m 999 (λj c f h=>∃a,(h=H/\f.1 1=sI a1/\f.1 2=sI a2/\f.1 45=sL Tm.av a0.acT/\f.1 46=sI (di a0.acT)/\f.1 47=sI j/\bx f 4 (Tm.av a0).cells/\bx f 7 (Tm.av a3).cells/\bx f 8 [sI 0,sI 0,sI 0,nL,nL]/\bx f 9 [sI a0.acS,sI a0.acV,sI a0.cP.acS,sL Ty.av a0.cP.acT,sT a Tm.av c])/\Ow f [62] a c) (by exact⟨.full,aa8,gM.full⟩) (λc d _ _ E m=>?_) (λj _ c d _ _ _ _ E e m z p=>?_)
 ·have⟨a,E,b⟩:=E;have e:=Aj e E;dsimp only[cU]at m;exact au
 have⟨a,E,b⟩:=E;have e:=Aj e E;simp[e];refine dT m qo λ_ m=>?_;simp[e];refine dT m k λi m=>?_;have⟨e,m⟩:=Ck e m;simp[e];refine Ad (f:=Tm.av) c [i] b A1 e.2 ?_;simp[e];cases m;exact p _ _ _ ⟨(.loc 62 (d.ei 62+1)),aa8,(On 62)⟩ z
def E0:C1 prog 291 qp Tm.av Tm.av:=by
 refine v1 func291 λT H a0 r m e=>?_;rw[qp] at m;apply Iq e m<;>intro e m
 ·have⟨o,e,m⟩:=ee e m;have⟨q,e,m⟩:=ee e m;have⟨s,e,m⟩:=ee e m;simp[e];refine dT m FB λ_ m=>?_;exact au
 apply Iq e m<;>intro e m
 ·have⟨t,e,m⟩:=ee e m;apply Iq e m<;>intro e m
  ·have⟨u,e,m⟩:=ee e m;exact au
  have⟨v,e,m⟩:=ee e m;have⟨w,e,m⟩:=ee e m;simp[e];refine dT m eX λ_ m=>?_;have⟨a,e,m⟩:=ee e m;simp[e];refine dT m kH λ_ m=>?_;simp[e];refine dT m eX λ_ m=>?_;exact au
 apply Ir e m<;>intro e m
 ·apply Iq e m<;>intro e m
  ·have⟨b,e,m⟩:=ee e m;have⟨c,e,m⟩:=ee e m;exact au
  have⟨d,e,m⟩:=ee e m;have⟨f,e,m⟩:=ee e m;exact au
 have⟨h,e,m⟩:=ee e m;apply Iq e m<;>intro e m
 ·have⟨i,e,m⟩:=ee e m;exact au
 have⟨j,e,m⟩:=ee e m;have⟨k,e,m⟩:=ee e m;have⟨l,e,m⟩:=ee e m;simp[e];refine dT m eX λ_ m=>?_;simp[e];refine dT m eX λ_ m=>?_;have⟨n,e,m⟩:=ee e m;simp[e];refine dT m kH λ_ m=>?_;simp[e];refine dT m eX λ_ m=>?_;exact au
def O4:jm prog 265=true:=by kernel_rfl
def HU:∀(n:Nat),C2 prog 265 (nW n) (t3 Tm.av sB sB) Tm.av sI:=by
  intro n
  induction n with
  |zero=>
    skip
    all_goals(intro _ _;intros;rename_i hm;cases hm)
  |succ n ih=>
 rintro T H a0 a1 ⟨r0,r1,r2⟩ hm;rw[nW] at hm;refine dL.intro (fn:=f265) func265 rfl O4 (Tb rfl) ?_;refine fg.sr [] λK1 aT=>?_;simp;apply aT;refine fg.tx λK3 aU=>?_;refine fg.sr [] λK5 aV=>?_;have⟨x7,aW,G⟩:=dm hm;clear hm
 try dsimp only at G
 simp;refine h9.fn (Ky aW) ?_;simp;apply aV;refine fg.s9 λbm bn ah ai=>?_;rcases hZ G with⟨a,I⟩|⟨a,J⟩
 ·clear G;simp[a];apply ah;refine fg.tx λbo ak=>?_;refine fg.sr [] λbp an=>?_;have⟨bq,aq,w⟩:=dm I;clear I
  try dsimp only at w
  simp[a];refine h9.fn (F5 aq) ?_;simp[a];apply an;refine fg.s9 λbr bs ar aw=>?_;rcases hZ w with⟨p,K⟩|⟨p,M⟩
  ·clear w;simp[a,p];apply ar;refine fg.sr [] λbt ax=>?_;simp[a,p];apply ax;refine fg.ret ?_;simp only[sy,GQ] at K;obtain⟨rfl,rfl,rfl⟩:=K;simp[uL,a,p]
  clear w;simp[a,p];apply aw;refine fg.skip ?_;apply ak;refine fg.sr [] λbu ay=>?_;have⟨bw,az,B⟩:=dm M;clear M
  try dsimp only at B
  simp[a,p];refine h9.fn (E0 az) ?_;simp[a,p];apply ay;refine fg.ret ?_;simp only[sy,GQ] at B;obtain⟨rfl,rfl,rfl⟩:=B;simp[uL,a,p]
 clear G;simp[a];apply ai;refine fg.skip ?_;apply aU;refine fg.tx λbz aA=>?_;refine fg.sr [] λbA aB=>?_;simp[a];apply aB;have⟨P,N⟩:=lK J;clear J;have⟨aX,aC,C⟩:=jw N;clear N
 try dsimp only at C
 have⟨Q,q,o⟩:=dm C;clear C;refine fg.zx λbB aY aD aZ aE=>?_;refine fg.Ma (λn55 fr h=>∃(i56:Nat) (A:Int) (r:Nat) (s:Nat),H=h/\(fr.env 1=sI a1/\fr.env 2=AV.fC 2 r 0/\fr.env 4=AV.fC 4 s 0/\fr.env 23=sL Tm.av a0.acT/\fr.env 24=sI (di a0.acT)/\fr.env 25=sI A/\fr.gen 2=r/\fr.box 2=some [sI a0.acS,sI a0.acV,sI a0.cP.acS,sL Ty.av a0.cP.acT,sL Tm.av a0.acT]/\fr.gen 4=s/\fr.box 4=some [sI 0,sI 0,sI 0,nL,nL])/\A=(i56:Int)/\i56+n55=List.length a0.acT/\dN aX (List.drop i56 a0.acT) i56 ()=some Q) (List.length a0.acT) ?_ ?_
 ·refine⟨0,0,1,1,?_,⟨?_,?_,?_,?_,?_,?_,?_,?_,?_,?_⟩,rfl,aa4,q⟩<;>first|rfl|simp[a]
 rintro n55 O bC ⟨i56,A,r,s,rfl,i,v,a6,q⟩ bD aF;rcases n55 with _|n55
 ·have b:=Li (l:=a0.acT) v VW;refine fg.sr [] λbE aG=>?_;simp[i,b,a];apply aG;refine fg.tx λbF a7=>?_;refine fg.s9 λbG bH a8 aH=>?_;simp[i,b,a];apply aH;refine fg.exit ?_;apply aD;rw[Da VW,om] at q;obtain rfl:=gh q;rw[cU] at o
  try dsimp only at o
  apply aA;refine fg.sr [] λbI aI=>?_;simp[i,b,a];apply aI;refine fg.ret ?_;simp only[sy,GQ] at o;obtain⟨rfl,rfl,rfl⟩:=o;simp[uL,i,b,a]
 have b:=OD (l:=a0.acT) v VW;have⟨bJ,R,e⟩:=L' (l:=a0.acT) v VW;rw[R,dJ] at q;have⟨bK,y,z⟩:=dm q;clear q;rw[aC,<-v] at y
 try dsimp only at y
 refine fg.sr [] λbL aJ=>?_;simp[i,b,e,a];apply aJ;refine fg.tx λbM aK=>?_;refine fg.s9 λbN bO aL a_=>?_;simp[i,b,e,a];apply aL;refine fg.skip ?_;apply aK;refine fg.tx λbP aM=>?_;refine fg.zx λbQ a' aN ba aO=>?_;refine fg.sr [] λbR aP=>?_;simp[i,b,e,a];apply aP;refine fg.sr [] λbS aQ=>?_;have⟨S,bT,bb,U,t⟩:=vh y;clear y
 try dsimp only at t
 simp[i,b,e,a];refine h9.fn (ih U) ?_;simp[i,b,e,a];apply aQ;refine fg.tx λbc V=>?_;refine fg.sr [] λbd W=>?_;simp[i,b,e,a];apply W;refine fg.s9 λbf bg X Y=>?_;rcases hZ t with⟨c,D⟩|⟨c,Z⟩;rotate_left
 ·clear t;simp[i,b,e,a,c];apply X;refine fg.exit ?_;apply aN;apply aM;refine fg.region [] abl ?_;simp[i,b,e,a,c];obtain rfl:=gh Z;rw[dW] at z
  refine aF _ _ n55 (QI _) ⟨(i56+1),(dF .i64 A 1),r,s,?_,⟨?_,?_,?_,?_,?_,?_,?_,?_,?_,?_⟩,(Iu v VW P),VW,z⟩<;>first|rfl|simp[i,b,e,a,c]
 clear t;simp[i,b,e,a,c];apply Y;refine fg.skip ?_;apply V;refine fg.sr [] λbh aa=>?_;simp[i,b,e,a,c];apply aa;refine fg.sr [] λbj ab=>?_;have⟨ad,E⟩:=lK D;clear D;simp[i,b,e,a,c];refine rC.X_ (f:=Tm.av) a0.acT A1 ⟨_,Se⟩ (by intro x;simp) ad (by first|rfl|simp) (by first|rfl|simp) λu aR=>?_;simp[i,b,e,a,c];apply ab;refine fg.sr [] λbk ae=>?_;have⟨aS,j,F⟩:=dm E;clear E
 try dsimp only at F
 have m:=G2 j;simp[i,b,e,j,m,a,c];refine yN.arr (f:=Tm.av) (L:=a0.acT) (k:=((u-List.length a0.acT)*5)) S VO (by intro x;simp) (by simp[i,b,e,j,m,a,c]) (x:=aS) (by assumption) (by simp[i,b,e,j,m,a,c]) (by simp[i,b,e,j,m,a,c]) (by simp[i,b,e,j,m,a,c]) ?_;simp[i,b,e,j,m,a,c];apply ae;refine fg.tx λbl af=>?_;refine fg.ace 12 4 (cs2:=[sI a0.acS,sI a0.acV,sI a0.cP.acS,sL Ty.av a0.cP.acT,AV.vM 42 (O.gen 42+1) (List.length (wy a0.acT A S)) u]) (f:=Tm.av) (L:=(wy a0.acT A S)) (k:=((u-List.length a0.acT)*5)) (sz:=5) (d:=42) (g:=(O.gen 42+1)) (cap:=u) (by intro x;simp) (by intro x;simp) aaK (by simp[i,b,e,j,m,a,c]) (by simp[i,b,e,j,m,a,c]) (by simp[i,b,e,j,m,a,c]) (by simp[i,b,e,j,m,a,c]) ?_;refine fg.region [] abl ?_;simp[i,b,e,j,m,a,c];apply af;refine fg.ret ?_;apply aO;apply aE;obtain rfl:=gh F;rw[BB] at z;obtain rfl:=gh z;rw[pK] at o
 try dsimp only at o
 simp only[sy,GQ] at o;obtain⟨rfl,rfl,rfl⟩:=o;simp[uL,i,b,e,j,m,a,c]
def Kr{n:Nat}:C2 prog 265 (nW n) (t3 Tm.av sB sB) Tm.av sI:=(HU n)
def va:C2 prog 229 la (t3 Tm.av sI sI) Tm.av sI:=by
 refine u2 7 func229 λT H a0 a1 r m e=>?_;rw[la] at m;simp[e];refine dX m mZ λ_ m=>?_;simp[e];apply Iq e m<;>intro e m
 ·apply wg 999;exact au
 apply wg 3;simp[e];refine Wj m 999 999 (λb f h=>∃v3,(h=H/\f.1 1=sI a1/\f.1 28=sB v3/\bx f 2 (Tm.av a0).cells/\bx f 4 [sI 0,sI 0,sI 0,nL,nL])/\b v3=some r) (λb _ g m=>?_) ?_
 ·apply Iq e m<;>intro e m
  ·exact iC
  apply Iq e m<;>intro e m
  ·exact iC
  simp[e];refine dX m vR λ_ m=>?_;exact iC
 rintro _ _ ⟨v3,E,m⟩;have e:=Aj e E;refine Il e m λe m=>?_;simp[e];refine Wn m 999 (λa f h=>h=H/\f.1 1=sI a1/\f.1 8=sI a.1/\bx f 2 [sI a.2.1,sI a.2.2.1,sI a.2.2.2.1,sL Ty.av a.2.2.2.2.1,sL Tm.av a.2.2.2.2.2]/\bx f 4 [sI 0,sI 0,sI 0,nL,nL]) aa8 (λa _ _ _ _ _ E m z p=>?_);have⟨c,d,i,j,k,v20⟩:=a;have e:=Aj e E;dsimp only[y9]at m;simp[e];refine dT m fy λ_ m=>?_;simp[e];refine Cs3 m Kr λ_ _ _ m=>?_;apply Ir e m<;>intro e m
 ·simp[e];refine dX m kr λ_ m=>?_;exact au
 refine Il e m λe m=>?_;refine Im e m λe m=>?_;exact al
def G8:C3 prog 163 rp sI Tm.av Tm.av sI:=by
 refine v3 func163 λT H a0 a1 a2 r m e=>?_;rw[rp] at m;simp[e];refine dX m mZ λ_ m=>?_;refine Il e m λe m=>?_;simp[e];refine dX m mZ λ_ m=>?_;refine Il e m λe m=>?_;simp[e];refine dX m xq λ_ m=>?_;refine Il e m λe m=>?_;simp[e];refine MI m va λ_ _ _ m=>?_;refine Il e m λe m=>?_;simp[e];refine MI m va λ_ _ _ m=>?_;refine Il e m λe m=>?_;simp[e];refine dX m xq λ_ m=>?_;refine Il e m λe m=>?_;exact au
def Hv{n:Nat}:C2 prog 94 (pq n) sI Fm.av Fm.av:=by
 refine i2 λn d=>u2 3 func94 λT H a0 a1 r m e=>?_;rw[pq] at m;simp[e];refine Wj m 999 999 (λb f h=>∃v2,(h=H/\f.1 21=sB v2/\bx f 2 (Fm.av a0).cells/\bx f 3 (Fm.av a1).cells)/\b v2=some r) (λb _ g m=>?_) ?_
 ·apply Iq e m<;>intro e m
  ·exact iC
  simp[e];refine dX m gl λ_ m=>?_;exact iC
 rintro _ _ ⟨v2,E,m⟩;have e:=Aj e E;refine Il e m λe m=>?_;simp[e];refine Ap e m 999 (λc _ f h=>h=H/\f.1 24=sI (di a0.c9)/\f.1 25=sI c/\bx f 2 (Fm.av a0).cells/\bx f 3 (Fm.av a1).cells) aa8 (λc _ _ _ _ _ _ _ E e m z p=>?_) (λ_ _ _ _ E m=>?_)
 ·have e:=Aj e E;have⟨i,e,m⟩:=ee e m;simp[e];refine dT m G8 λ_ m=>?_;refine Il e m λe m=>?_;exact al
 have e:=Aj e E;dsimp only[cU]at m;simp[e];refine Wr e m 999 (λa _ f h=>h=H/\f.1 45=sI (di a0.acT)/\f.1 46=sI a/\bx f 2 (Fm.av a0).cells/\bx f 3 (Fm.av a1).cells) aa8 (λ_ _ _ _ E m=>?_) (λa _ _ _ _ _ _ _ E e m z p=>?_)
 ·have e:=Aj e E;dsimp only[cU]at m;exact au
 have e:=Aj e E;have⟨j,e,m⟩:=ee e m;simp[e];refine dT m d λ_ m=>?_;refine Il e m λe m=>?_;exact al
def vX:C2 prog 31 lx sI Fm.av Fm.av:=by
 refine v2 func31 λT H a0 a1 r m e=>?_;rw[lx] at m;simp[e];refine dX m mT λ_ m=>?_;refine Il e m λe m=>?_;simp[e];refine dX m mT λ_ m=>?_;refine Il e m λe m=>?_;simp[e];refine dX m Hv λ_ m=>?_;exact au
def sQ:C1 prog 95 mJ sI Fm.av:=by
 refine v1 func95 λT H a0 r m e=>?_;rw[mJ] at m;simp[e];refine dX m qO λ_ m=>?_;refine Il e m λe m=>?_;exact au
def kP{n:Nat}:C3 prog 32 (fH n) Fm.av Fm.av sI sI:=by
 refine i3 λn v=>v3 func32 λT H a0 a1 a2 r m e=>?_;rw[fH] at m;simp[e];refine Ap e m 999 (λu s2 f h=>∃c,(h=H/\f.1 1=sI a1/\f.1 2=sI a2/\f.1 18=sL Tm.av a0.c9/\f.1 19=sI (di a0.c9)/\f.1 20=sI u/\bx f 3 (Fm.av a0).cells/\bx f 6 [sI 0,sI 0,nL,nL,nL]/\bx f 7 [sI a0.acS,sI a0.cP.acS,sL Ty.av a0.cP.acT,sT c Tm.av s2,nL])/\Ow f [31] c s2) (by exact⟨.full,aa8,gM.full⟩) (λu _ s2 o _ _ _ _ E e m z p=>?_) (λs2 o _ _ E m=>?_)
 ·have⟨c,E,i⟩:=E;have e:=Aj e E;simp[e];refine dT m A2 λs m=>?_;have⟨e,m⟩:=Ck e m;simp[e];refine Ad (f:=Tm.av) s2 [s] i A1 e.2 ?_;simp[e];cases m;exact p _ _ _ ⟨(.loc 31 (o.ei 31+1)),aa8,(On 31)⟩ z
 have⟨c,E,i⟩:=E;have e:=Aj e E;dsimp only[cU]at m;simp[e];refine Wr e m 999 (λq j f h=>∃a b,(h=H/\f.1 1=sI a1/\f.1 2=sI a2/\f.1 35=sL Fm.av a0.acT/\f.1 36=sI (di a0.acT)/\f.1 37=sI q/\bx f 3 (Fm.av a0).cells/\bx f 6 [sI 0,sI 0,nL,nL,nL]/\bx f 7 [sI a0.acS,sI a0.cP.acS,sL Ty.av a0.cP.acT,sT a Tm.av s2,sT b Fm.av j])/\Ow f [31] a s2/\Ow f [51] b j) (by exact⟨c,.full,aa8,i,gM.full⟩) (λj l _ _ E m=>?_) (λq _ j l _ _ _ _ E e m z p=>?_)
 ·have⟨a,b,E,k,d⟩:=E;have e:=Aj e E;dsimp only[cU]at m;exact au
 have⟨a,b,E,k,d⟩:=E;have e:=Aj e E;simp[e];refine dT m sQ λ_ m=>?_;simp[e];refine dT m v λt m=>?_;have⟨e,m⟩:=Ck e m;simp[e];refine Ad (f:=Fm.av) j [t] d BW e.2 ?_;simp[e];cases m;exact p _ _ _ ⟨a,(.loc 51 (l.ei 51+1)),aa8,(gM.other k d aaK aaK),(On 51)⟩ z
def l6:C2 prog 256 eh cS.av cS.av (sL Ty.av):=by
 refine v2 func256 λT H a0 a1 r m e=>?_;rw[eh] at m;have⟨e,m⟩:=Ck e m;simp[e];refine Ad (f:=Ty.av) a0.acW a1 (gM.full (D:=[])) EV e.2 ?_;simp[e];refine Wr e m 999 (λk s2 f h=>∃a b,(h=H/\f.1 1=sL Ty.av a1/\f.1 23=sL Fm.av a0.acZ/\f.1 24=sI (di a0.acZ)/\f.1 25=sI k/\bx f 4 [nL,nL,nL]/\bx f 5 [sL Fm.av a0.lemmas,sT a Ty.av (fa a0.acW a1),sT b Fm.av s2])/\Ow f [20] a (fa a0.acW a1)/\Ow f [36] b s2) (by exact⟨(.loc 20 1),.full,aa8,(On 20),gM.full⟩) (λs2 i _ _ E m=>?_) (λk _ s2 i _ _ _ _ E e m z p=>?_)
 ·have⟨a,b,E,d,c⟩:=E;have e:=Aj e E;dsimp only[cU]at m;exact au
 have⟨a,b,E,d,c⟩:=E;have e:=Aj e E;simp[e];refine dT m kP λj m=>?_;have⟨e,m⟩:=Ck e m;simp[e];refine Ad (f:=Fm.av) s2 [j] c BW e.2 ?_;simp[e];cases m;exact p _ _ _ ⟨a,(.loc 36 (i.ei 36+1)),aa8,(gM.other d c aaK aaK),(On 36)⟩ z
def oq:C2 prog 257 fm (sL sI) (sL sI) sI:=by
 refine v2 func257 λT H a0 a1 r m e=>?_;rw[fm] at m;simp[e];refine Wr e m 0 (λk s2 f h=>∃b,(h=H/\f.1 1=sI a1/\f.1 5=sT b sI s2/\f.1 8=sL sI a0/\f.1 9=sI (di a0)/\f.1 10=sI k)/\Ow f [22] b s2) (by exact⟨.full,aa8,gM.full⟩) (λs2 i _ _ E m=>?_) (λk l s2 i _ _ _ n E e m z p=>?_)
 ·have⟨b,E,c⟩:=E;have e:=Aj e E;apply wg 999;dsimp only[cU]at m;exact au
 have⟨b,E,c⟩:=E;have e:=Aj e E;apply wg 5;simp[e];refine wm m 999 999 (λj f h=>∃v11 a,(h=H/\f.1 1=sI a1/\f.1 5=sT a sI v11/\f.1 8=sL sI a0/\f.1 9=sI (di a0)/\f.1 10=sI k)/\Ow f [22] a v11/\j v11=some n) ?_ (λj _ g m=>?_)
 ·rintro _ _ ⟨v11,a,E,d,m⟩;have e:=Aj e E;simp[e];cases m;exact p _ _ _ ⟨a,aa8,d⟩ z
 apply Ir e m<;>intro e m
 ·simp[e];exact g _ _ ⟨s2,b,aa8,c,m⟩
 have⟨e,m⟩:=Ck e m;simp[e];refine Ao (f:=sI) s2 [(dZ .i64 l a1)] c Pc e.2 ?_;simp[e];exact g _ _ ⟨(fa s2 [(dZ .i64 l a1)]),(.loc 22 (i.ei 22+1)),aa8,(On 22),m⟩
def Et:C1 prog 258 rn sB (sL sI):=by
 refine u1 2 func258 λT H a0 r m e=>?_;rw[rn] at m;simp[e];refine wm m 999 999 (λa f h=>∃v2,(h=H/\f.1 2=sB v2)/\a v2=some r) ?_ (λa _ g m=>?_)
 ·rintro _ _ ⟨v2,E,m⟩;have e:=Aj e E;exact au
 apply Ir e m<;>intro e m
 ·exact iC
 have⟨b,e,m⟩:=ee e m;exact iC
def vm:C2 prog 259 jC (t2 Ty.av sI) (sL Ty.av) Tm.av:=by
 refine v2 func259 λT H a0 a1 r m e=>?_;rw[jC] at m;simp[e];refine dX m tC λ_ m=>?_;refine Il e m λe m=>?_;simp[e];refine g_ m AF λ_ _ m=>?_;exact au
def Hj(T:dx):∀(n:Nat),(∀{H:cW} {a0:Tm} {a1:Int} {a2:(List (Int×Bool))} {a:(List (Int×Bool))} {o2:Nat} (b:H[o2]?=some [sw sB a2]) (hm:pB n a0 a1 a2=some a),du prog T 129 [Tm.av a0,sI a1,AV.mU o2] H (AV.tuple []) (dH H o2 [sw sB a])):=by
  intro n
  induction n with
  |zero=>
    skip
    all_goals(intro _ _;intros;rename_i hm;cases hm)
  |succ n k=>
 intro H a0 a1 a2 a o2 b hm;rw[pB] at hm;have d:=eB b;refine dL.Je b ?_;have e:=d;refine wi acX func129 [] [] 2 ?_;simp[e];refine Wj hm 0 999 (λi f h=>∃(v2:(List (Int×Bool))),(h=dH H o2 [sw sB v2]/\f.1 1=sI a1/\f.1 2=AV.mU o2/\f.1 3=AV.fC 3 (f.gen 3) 0/\f.box 3=some (Tm.av a0).cells)/\i v2=some a) (λi _ g m=>?_) ?_
 ·refine wj 999 999 (λf h=>h=dH H o2 [sw sB a2]/\f.1 1=sI a1/\f.1 2=AV.mU o2/\f.1 16=sB (eu (dg a0.acS 1) (sM a0.acV a1) false)/\bx f 3 (Tm.av a0).cells) (λ_ g=>?_) ?_
  ·rcases Pb (dg a0.acS 1) e with e|e
   ·exact aj
   exact aj
  rintro _ _ E;have e:=Aj e E;apply Ir e m<;>intro e m
  ·exact iC
  simp[e];refine th.i64 (f:=sB) a2 true N6 tZ aa8 aa8 ?_;exact iC
 rintro _ _ ⟨v2,E,m⟩;have e:=Aj e E;simp[e];refine Wr e m 999 (λj c f h=>h=dH H o2 [sw sB c]/\f.1 1=sI a1/\f.1 2=AV.mU o2/\f.1 23=sL Tm.av a0.acT/\f.1 24=sI (di a0.acT)/\f.1 25=sI j/\bx f 3 (Tm.av a0).cells) aa8 (λc _ _ _ E m=>?_) (λj _ c _ _ _ _ _ E e m z p=>?_)
 ·have e:=Aj e E;dsimp only[cU]at m;exact au
 have e:=Aj e E;simp[e];refine dT m qo λ_ m=>?_;simp[e];refine dT m (k aa8) λd19 m=>?_;exact al
def J7(T:dx){H:cW}{a0:Tm}{a1:Int}{a2:(List (Int×Bool))}{a:(List (Int×Bool))}{o2:Nat}(b:H[o2]?=some [sw sB a2]){n:Nat}(hm:pB n a0 a1 a2=some a):du prog T 129 [Tm.av a0,sI a1,AV.mU o2] H (AV.tuple []) (dH H o2 [sw sB a]):=(Hj T n) b hm
def Jl(T:dx){H:cW}{a0:Tm}{a:List Int}{b:Int}(hm:ve a0=some (a,b)):du prog T 58 [Tm.av a0] H (AV.tuple [sL sI a,sI b]) H:=by
 rw[ve] at hm;refine dL.tJ (Post:=λx K=>x=AV.tuple [sL sI a,sI b]/\∃X,K=H++X) ?_ (λ_ _ h=>⟨_,h.2.choose_spec,by rw[h.1];simp[AV.low,AV.gA],h.1,rfl⟩);have e:=trivial;refine wi acX func58 [] [] 999 ?_;simp[e];refine dX hm mZ λ_ m=>?_;refine Il e m λe m=>?_;simp[e];refine dX m (J7 T aa8) λd2 m=>?_;simp[e];refine g_ m (yW T aa8) λ_ d4 m=>?_;exact au
def tX:C1 prog 260 jA (sL sI) Tm.av:=by
 refine v1 func260 λT H a0 r m e=>?_;rw[jA] at m;simp[e];refine g_ m (Jl T) λ_ _ m=>?_;exact au
def Ik{n:Nat}:C2 prog 113 (pM n) sB Fm.av sI:=by
 refine i2 λn c=>v2 func113 λT H a0 a1 r m e=>?_;rw[pM] at m;simp[e];refine Ap e m 999 (λb _ f h=>h=H/\f.1 1=sI a1/\f.1 10=sL Tm.av a0.c9/\f.1 11=sI (di a0.c9)/\f.1 12=sI b/\bx f 2 (Fm.av a0).cells) aa8 (λb _ _ _ _ _ _ _ E e m z p=>?_) (λ_ _ _ _ E m=>?_)
 ·have e:=Aj e E;simp[e];refine dX m vR λ_ m=>?_;refine Im e m λe m=>?_;exact al
 have e:=Aj e E;dsimp only[cU]at m;simp[e];refine Wr e m 999 (λa _ f h=>h=H/\f.1 1=sI a1/\f.1 22=sL Fm.av a0.acT/\f.1 23=sI (di a0.acT)/\f.1 24=sI a) aa8 (λ_ _ _ _ E m=>?_) (λa _ _ _ _ _ _ _ E e m z p=>?_)
 ·have e:=Aj e E;dsimp only[cU]at m;exact au
 have e:=Aj e E;simp[e];refine dX m c λ_ m=>?_;refine Im e m λe m=>?_;exact al
def Ht{n:Nat}:C2 prog 116 (pe n) sI Fm.av sI:=by
 refine i2 λn d=>v2 func116 λT H a0 a1 r m e=>?_;rw[pe] at m;simp[e];refine Ap e m 999 (λc s2 f h=>h=H/\f.1 1=sI a1/\f.1 5=sI s2/\f.1 11=sL Tm.av a0.c9/\f.1 12=sI (di a0.c9)/\f.1 13=sI c/\bx f 2 (Fm.av a0).cells) aa8 (λc _ s2 _ _ _ _ _ E e m z p=>?_) (λs2 _ _ _ E m=>?_)
 ·have e:=Aj e E;simp[e];refine dX m Au λ_ m=>?_;exact al
 have e:=Aj e E;dsimp only[cU]at m;simp[e];refine Wr e m 999 (λb a f h=>h=H/\f.1 1=sI a1/\f.1 5=sI a/\f.1 24=sL Fm.av a0.acT/\f.1 25=sI (di a0.acT)/\f.1 26=sI b/\bx f 2 (Fm.av a0).cells) aa8 (λa _ _ _ E m=>?_) (λb _ a _ _ _ _ _ E e m z p=>?_)
 ·have e:=Aj e E;dsimp only[cU]at m;exact au
 have e:=Aj e E;simp[e];refine dT m sQ λ_ m=>?_;simp[e];refine dT m d λ_ m=>?_;exact al
def Nx{n:Nat}:C4 prog 118 (wX n) Fm.av Fm.av sI sI Tm.av:=by
 refine i4 λn v=>v4 func118 λT H a0 a1 a2 a3 r m e=>?_;rw[wX] at m;simp[e];refine Ap e m 999 (λu s2 f h=>∃c,(h=H/\f.1 1=sI a1/\f.1 2=sI a2/\f.1 20=sL Tm.av a0.c9/\f.1 21=sI (di a0.c9)/\f.1 22=sI u/\bx f 4 (Fm.av a0).cells/\bx f 7 (Tm.av a3).cells/\bx f 8 [sI 0,sI 0,nL,nL,nL]/\bx f 9 [sI a0.acS,sI a0.cP.acS,sL Ty.av a0.cP.acT,sT c Tm.av s2,nL])/\Ow f [34] c s2) (by exact⟨.full,aa8,gM.full⟩) (λu _ s2 o _ _ _ _ E e m z p=>?_) (λs2 o _ _ E m=>?_)
 ·have⟨c,E,i⟩:=E;have e:=Aj e E;simp[e];refine dT m FB λs m=>?_;have⟨e,m⟩:=Ck e m;simp[e];refine Ad (f:=Tm.av) s2 [s] i A1 e.2 ?_;simp[e];cases m;exact p _ _ _ ⟨(.loc 34 (o.ei 34+1)),aa8,(On 34)⟩ z
 have⟨c,E,i⟩:=E;have e:=Aj e E;dsimp only[cU]at m;simp[e];refine Wr e m 999 (λq j f h=>∃a b,(h=H/\f.1 1=sI a1/\f.1 2=sI a2/\f.1 38=sL Fm.av a0.acT/\f.1 39=sI (di a0.acT)/\f.1 40=sI q/\bx f 4 (Fm.av a0).cells/\bx f 7 (Tm.av a3).cells/\bx f 8 [sI 0,sI 0,nL,nL,nL]/\bx f 9 [sI a0.acS,sI a0.cP.acS,sL Ty.av a0.cP.acT,sT a Tm.av s2,sT b Fm.av j])/\Ow f [34] a s2/\Ow f [55] b j) (by exact⟨c,.full,aa8,i,gM.full⟩) (λj l _ _ E m=>?_) (λq _ j l _ _ _ _ E e m z p=>?_)
 ·have⟨a,b,E,k,d⟩:=E;have e:=Aj e E;dsimp only[cU]at m;exact au
 have⟨a,b,E,k,d⟩:=E;have e:=Aj e E;simp[e];refine dT m sQ λ_ m=>?_;simp[e];refine dT m v λt m=>?_;have⟨e,m⟩:=Ck e m;simp[e];refine Ad (f:=Fm.av) j [t] d BW e.2 ?_;simp[e];cases m;exact p _ _ _ ⟨a,(.loc 55 (l.ei 55+1)),aa8,(gM.other k d aaK aaK),(On 55)⟩ z
def Lu:C3 prog 45 wK (t2 Fm.av sI) Fm.av sI Tm.av:=by
 refine u3 7 func45 λT H a0 a1 a2 r m e=>?_;rw[wK] at m;simp[e];refine dX m mT λ_ m=>?_;simp[e];apply Iq e m<;>intro e m
 ·apply wg 999;exact au
 apply wg 3;simp[e];refine wj 999 0 (λf h=>h=H/\f.1 1=sI a1/\f.1 21=sB (eu (qj a1 0) true (kZ a1 4096))/\bx f 3 (Fm.av a0).cells/\bx f 5 (Tm.av a2).cells/\bx f 6 [sI 0,sI 0,nL,nL,nL]) (λ_ g=>?_) ?_
 ·rcases Pb (qj a1 0) e with e|e
  ·exact aj
  exact aj
 rintro _ _ E;have e:=Aj e E;apply Iq e m<;>intro e m
 ·apply wg 999;exact au
 apply wg 7;simp[e];refine dX m mZ λ_ m=>?_;simp[e];apply Iq e m<;>intro e m
 ·apply wg 999;exact au
 apply wg 3;simp[e];refine Wj m 999 999 (λb f h=>∃a,(h=H/\f.1 1=sI a1/\f.1 36=sB a/\bx f 3 (Fm.av a0).cells/\bx f 5 (Tm.av a2).cells/\bx f 6 [sI 0,sI 0,nL,nL,nL])/\b a=some r) (λb _ g m=>?_) ?_
 ·simp[e];refine dX m Ik λ_ m=>?_;apply Ir e m<;>intro e m
  ·exact iC
  simp[e];refine dX m vR λ_ m=>?_;exact iC
 rintro _ _ ⟨a,E,m⟩;have e:=Aj e E;refine Il e m λe m=>?_;simp[e];refine dT m sR λ_ m=>?_;simp[e];refine dT m Ht λ_ m=>?_;simp[e];refine dT m fy λ_ m=>?_;refine Il e m λe m=>?_;simp[e];refine dX m Nx λ_ m=>?_;simp[e];refine dX m i_ λ_ m=>?_;exact au
def rj:C2 prog 261 iQ (t2 Fm.av sI) Fm.av Tm.av:=by
 refine v2 func261 λT H a0 a1 r m e=>?_;rw[iQ] at m;simp[e];refine g_ m Lu λ_ _ m=>?_;exact au
def MH{n:Nat}:C2 prog 288 (uj n) sB Tm.av sI:=by
 refine i2 λn b=>u2 3 func288 λT H a0 a1 r m e=>?_;rw[uj] at m;simp[e];refine wj 999 999 (λf h=>h=H/\f.1 1=sI a1/\f.1 15=sB (eu (dg a0.acS 1) (dg a0.acV a1) false)/\bx f 2 (Tm.av a0).cells) (λ_ g=>?_) ?_
 ·rcases Pb (dg a0.acS 1) e with e|e
  ·exact aj
  exact aj
 rintro _ _ E;have e:=Aj e E;refine Il e m λe m=>?_;simp[e];refine Wr e m 999 (λa _ f h=>h=H/\f.1 1=sI a1/\f.1 17=sL Tm.av a0.acT/\f.1 18=sI (di a0.acT)/\f.1 19=sI a/\bx f 2 (Tm.av a0).cells) aa8 (λ_ _ _ _ E m=>?_) (λa _ _ _ _ _ _ _ E e m z p=>?_)
 ·have e:=Aj e E;dsimp only[cU]at m;exact au
 have e:=Aj e E;simp[e];refine dT m qo λ_ m=>?_;simp[e];refine dT m b λ_ m=>?_;refine Il e m λe m=>?_;exact al
def Ek{n:Nat}:C2 prog 263 (pR n) sB Fm.av sI:=by
 refine i2 λn c=>v2 func263 λT H a0 a1 r m e=>?_;rw[pR] at m;simp[e];refine Ap e m 999 (λb _ f h=>h=H/\f.1 1=sI a1/\f.1 10=sL Tm.av a0.c9/\f.1 11=sI (di a0.c9)/\f.1 12=sI b/\bx f 2 (Fm.av a0).cells) aa8 (λb _ _ _ _ _ _ _ E e m z p=>?_) (λ_ _ _ _ E m=>?_)
 ·have e:=Aj e E;simp[e];refine dX m MH λ_ m=>?_;refine Il e m λe m=>?_;exact al
 have e:=Aj e E;dsimp only[cU]at m;simp[e];refine Wr e m 999 (λa _ f h=>h=H/\f.1 1=sI a1/\f.1 21=sL Fm.av a0.acT/\f.1 22=sI (di a0.acT)/\f.1 23=sI a/\bx f 2 (Fm.av a0).cells) aa8 (λ_ _ _ _ E m=>?_) (λa _ _ _ _ _ _ _ E e m z p=>?_)
 ·have e:=Aj e E;dsimp only[cU]at m;exact au
 have e:=Aj e E;simp[e];refine dT m sQ λ_ m=>?_;simp[e];refine dT m c λ_ m=>?_;refine Il e m λe m=>?_;exact al
def GA{n:Nat}:C1 prog 264 (mC n) (t2 Fm.av sI) Fm.av:=by
 refine i1 λn v=>v1 func264 λT H a0 r m e=>?_;rw[mC] at m;simp[e];refine Ap e m 999 (λu s2 f h=>∃c,(h=H/\f.1 20=sL Tm.av a0.c9/\f.1 21=sI (di a0.c9)/\f.1 22=sI u/\bx f 1 (Fm.av a0).cells/\bx f 2 [sI 0,sI 0,nL,nL,nL]/\bx f 4 [sI a0.acS,sI a0.cP.acS,sL Ty.av a0.cP.acT,sT c Tm.av s2,nL])/\Ow f [40] c s2) (by exact⟨.full,aa8,gM.full⟩) (λu _ s2 o _ _ _ _ E e m z p=>?_) (λs2 o _ _ E m=>?_)
 ·have⟨c,E,i⟩:=E;have e:=Aj e E;simp[e];refine MI m va λs _ _ m=>?_;refine Il e m λe m=>?_;have⟨e,m⟩:=Ck e m;simp[e];refine Ao (f:=Tm.av) s2 [s] i A1 e.2 ?_;simp[e];cases m;exact p _ _ _ ⟨(.loc 40 (o.ei 40+1)),aa8,(On 40)⟩ z
 have⟨c,E,i⟩:=E;have e:=Aj e E;dsimp only[cU]at m;simp[e];refine Wr e m 999 (λq j f h=>∃a b,(h=H/\f.1 44=sL Fm.av a0.acT/\f.1 45=sI (di a0.acT)/\f.1 46=sI q/\bx f 2 [sI 0,sI 0,nL,nL,nL]/\bx f 4 [sI a0.acS,sI a0.cP.acS,sL Ty.av a0.cP.acT,sT a Tm.av s2,sT b Fm.av j])/\Ow f [40] a s2/\Ow f [63] b j) (by exact⟨c,.full,aa8,i,gM.full⟩) (λj l _ _ E m=>?_) (λq _ j l _ _ _ _ E e m z p=>?_)
 ·have⟨a,b,E,k,d⟩:=E;have e:=Aj e E;dsimp only[cU]at m;exact au
 have⟨a,b,E,k,d⟩:=E;have e:=Aj e E;simp[e];refine g_ m v λt _ m=>?_;refine Il e m λe m=>?_;have⟨e,m⟩:=Ck e m;simp[e];refine Ao (f:=Fm.av) j [t] d BW e.2 ?_;simp[e];cases m;exact p _ _ _ ⟨a,(.loc 63 (l.ei 63+1)),aa8,(gM.other k d aaK aaK),(On 63)⟩ z
def oL:C3 prog 226 fX sI cS.av Tm.av sI:=by
 refine v3 func226 λT H a0 a1 a2 r m e=>?_;rw[fX] at m;simp[e];refine g_ m vm λ_ _ m=>?_;refine Il e m λe m=>?_;refine Il e m λe m=>?_;exact au
def EI{n:Nat}:C1 prog 110 (iU n) sB Fm.av:=by
 refine i1 λn a=>u1 8 func110 λT H a0 r m e=>?_;rw[iU] at m;simp[e];apply Iq e m<;>intro e m
 ·apply wg 999;exact au
 apply wg 3;simp[e];apply Ir e m<;>intro e m
 ·apply wg 999;refine Il e m λe m=>?_;have⟨d,e,m⟩:=ee e m;simp[e];refine dX m a λ_ m=>?_;exact au
 apply wg 1;simp[e];refine wm m 999 999 (λb f h=>∃v4,(h=H/\f.1 2=sB v4)/\b v4=some r) ?_ (λb _ g m=>?_)
 ·rintro _ _ ⟨v4,E,m⟩;have e:=Aj e E;exact au
 have⟨i,e,m⟩:=ee e m;simp[e];refine dX m a λ_ m=>?_;apply Iq e m<;>intro e m
 ·exact iC
 have⟨c,e,m⟩:=ee e m;simp[e];refine dX m a λ_ m=>?_;exact iC
def EM:C1 prog 43 oE (t2 sB sI) Fm.av:=by
 refine v1 func43 λT H a0 r m e=>?_;rw[oE] at m;simp[e];refine dX m mT λ_ m=>?_;refine Il e m λe m=>?_;simp[e];refine dX m EI λ_ m=>?_;exact au
def xy:∀(n:Nat),C2 prog 86 (dj n) (t2 p_.av sI) cS.av Pf.av/\C2 prog 160 (dc n) (t3 Fm.av (sL sI) sI) cS.av Pf.av/\C2 prog 220 (mE n) (t3 Fm.av (sL sI) sI) cS.av Pf.av/\C2 prog 221 (ni n) (t3 Fm.av (sL sI) sI) cS.av Pf.av/\C2 prog 222 (ny n) (t3 Fm.av (sL sI) sI) cS.av Pf.av/\C2 prog 223 (lR n) (t3 Fm.av (sL sI) sI) cS.av Pf.av/\C2 prog 224 (oY n) (t3 Fm.av (sL sI) sI) cS.av Pf.av/\C2 prog 225 (m5 n) (t3 Fm.av (sL sI) sI) cS.av Pf.av/\C2 prog 227 (m8 n) (t3 Fm.av (sL sI) sI) cS.av Pf.av/\C2 prog 228 (mx n) (t3 Fm.av (sL sI) sI) cS.av Pf.av/\C4 prog 262 (d_ n) (t2 (sL sI) sI) cS.av Pf.av Fm.av Tm.av:=by
  intro n
  induction n with
  |zero=>
    refine⟨?_,?_,?_,?_,?_,?_,?_,?_,?_,?_,?_⟩
    all_goals(intro _ _;intros;rename_i hm;cases hm)
  |succ n c=>
 refine⟨?_,?_,?_,?_,?_,?_,?_,?_,?_,?_,?_⟩
 ·intro T H a0 a1 r hm;rw[dj] at hm;have e:=trivial;refine wi acX func86 [] [] 7 ?_;simp[e];refine MI hm c.2.1 λQ _ _ m=>?_;simp[e];apply Iq e m<;>intro e m
  ·apply wg 999;exact au
  apply wg 5;simp[e];refine dX m mT λO m=>?_;simp[e];apply Iq e m<;>intro e m
  ·apply wg 999;exact au
  apply wg 2;simp[e];refine wm m 999 999 (λR f h=>∃v6 o,(h=H/\f.1 7=sT o sI v6/\bx f 4 [sI 0,sI 0,nL,nL,nL,nL]/\bx f 6 (Fm.av Q).cells)/\R v6=some r) ?_ (λR _ g m=>?_)
  ·rintro _ _ ⟨v6,o,E,m⟩;have e:=Aj e E;exact au
  simp[e];refine g_ m EM λ_ I m=>?_;apply Iq e m<;>intro e m
  ·simp[e];exact g _ _ ⟨_,.hY,aa8,m⟩
  simp[e];exact g _ _ ⟨_,.full,aa8,m⟩
 ·intro T H a0 a1 r hm;rw[dc] at hm;have e:=trivial;refine wi acX func160 [] [] 10 ?_;simp[e];apply Iq e hm<;>intro e m
  ·apply wg 999;refine Il e m λe m=>?_;have⟨aa,e,m⟩:=ee e m;exact au
  apply wg 3;simp[e];apply Iq e m<;>intro e m
  ·apply wg 999;refine Il e m λe m=>?_;have⟨ab,e,m⟩:=ee e m;exact au
  apply wg 3;simp[e];apply Iq e m<;>intro e m
  ·apply wg 999;have⟨ad,e,m⟩:=ee e m;simp[e];refine kU m c.1 λ_ _ m=>?_;refine Il e m λe m=>?_;have⟨ae,e,m⟩:=ee e m;simp[e];refine kU m c.1 λ_ _ m=>?_;simp[e];refine dT m vE λ_ m=>?_;simp[e];refine dT m (kq T) λ_ m=>?_;exact au
  apply wg 1;simp[e];refine wj 999 0 (λf h=>h=H/\f.1 22=sI a1.acS/\f.1 93=sB (eu (dg a1.acS 4) true (dg a1.acS 5))/\bx f 2 (cS.av a0).cells/\bx f 3 (Pf.av a1).cells/\bx f 4 [sI 0,sI 0,nL,nL,nL]/\bx f 7 [sI 0,sI 0,nL,nL,nL]) (λ_ g=>?_) ?_
  ·rcases Pb (dg a1.acS 4) e with e|e
   ·exact aj
   exact aj
  rintro _ _ E;have e:=Aj e E;apply Iq e m<;>intro e m
  ·apply wg 999;have⟨af,e,m⟩:=ee e m;simp[e];refine kU m c.1 λ_ _ m=>?_;refine Il e m λe m=>?_;refine Il e m λe m=>?_;have⟨ah,e,m⟩:=ee e m;exact au
  apply wg 3;simp[e];apply Iq e m<;>intro e m
  ·apply wg 999;have⟨ai,e,m⟩:=ee e m;simp[e];refine dT m qm λ_ m=>?_;refine Il e m λe m=>?_;simp[e];refine dX m kB λ_ m=>?_;refine Il e m λe m=>?_;simp[e];refine dT m mu λ_ m=>?_;have⟨ak,e,m⟩:=ee e m;simp[e];refine kU m c.1 λ_ _ m=>?_;simp[e];refine dT m vE λ_ m=>?_;exact au
  apply wg 3;simp[e];apply Iq e m<;>intro e m
  ·apply wg 999;have⟨an,e,m⟩:=ee e m;simp[e];refine kU m c.1 λ_ _ m=>?_;refine Il e m λe m=>?_;refine Il e m λe m=>?_;have⟨aq,e,m⟩:=ee e m;simp[e];refine kU m c.1 λ_ _ m=>?_;refine Il e m λe m=>?_;have⟨ar,e,m⟩:=ee e m;simp[e];refine dT m (kq T) λ_ m=>?_;have⟨aw,e,m⟩:=ee e m;simp[e];refine dT m vX λ_ m=>?_;exact au
  apply wg 1;simp[e];refine wj 999 0 (λf h=>h=H/\f.1 22=sI a1.acS/\f.1 218=sB (eu (dg a1.acS 8) true (dg a1.acS 12))/\bx f 2 (cS.av a0).cells/\bx f 3 (Pf.av a1).cells/\bx f 4 [sI 0,sI 0,nL,nL,nL]) (λ_ g=>?_) ?_
  ·rcases Pb (dg a1.acS 8) e with e|e
   ·exact aj
   exact aj
  rintro _ _ E;have e:=Aj e E;apply Iq e m<;>intro e m
  ·apply wg 999;simp[e];refine MI m c.2.2.1 λ_ _ _ m=>?_;exact au
  apply wg 1;simp[e];refine wj 999 0 (λf h=>h=H/\f.1 22=sI a1.acS/\f.1 227=sB (eu (dg a1.acS 9) true (dg a1.acS 13))/\bx f 2 (cS.av a0).cells/\bx f 3 (Pf.av a1).cells/\bx f 4 [sI 0,sI 0,nL,nL,nL]) (λ_ g=>?_) ?_
  ·rcases Pb (dg a1.acS 9) e with e|e
   ·exact aj
   exact aj
  rintro _ _ E;have e:=Aj e E;apply Iq e m<;>intro e m
  ·apply wg 999;simp[e];refine MI m c.2.2.2.1 λ_ _ _ m=>?_;exact au
  apply wg 1;simp[e];refine wj 999 0 (λf h=>h=H/\f.1 22=sI a1.acS/\f.1 236=sB (eu (dg a1.acS 10) true (dg a1.acS 14))/\bx f 2 (cS.av a0).cells/\bx f 3 (Pf.av a1).cells/\bx f 4 [sI 0,sI 0,nL,nL,nL]) (λ_ g=>?_) ?_
  ·rcases Pb (dg a1.acS 10) e with e|e
   ·exact aj
   exact aj
  rintro _ _ E;have e:=Aj e E;apply Iq e m<;>intro e m
  ·apply wg 999;simp[e];refine MI m c.2.2.2.2.1 λ_ _ _ m=>?_;exact au
  apply wg 1;simp[e];refine wj 999 999 (λf h=>h=H/\f.1 22=sI a1.acS/\f.1 245=sB (eu (dg a1.acS 11) true (dg a1.acS 15))/\bx f 2 (cS.av a0).cells/\bx f 3 (Pf.av a1).cells/\bx f 4 [sI 0,sI 0,nL,nL,nL]) (λ_ g=>?_) ?_
  ·rcases Pb (dg a1.acS 11) e with e|e
   ·exact aj
   exact aj
  rintro _ _ E;have e:=Aj e E;apply Iq e m<;>intro e m
  ·simp[e];refine MI m c.2.2.2.2.2.1 λ_ _ _ m=>?_;exact au
  apply Iq e m<;>intro e m
  ·simp[e];refine MI m c.2.2.2.2.2.2.1 λ_ _ _ m=>?_;exact au
  apply Iq e m<;>intro e m
  ·simp[e];refine MI m c.2.2.2.2.2.2.2.1 λ_ _ _ m=>?_;exact au
  apply Iq e m<;>intro e m
  ·have⟨ax,e,m⟩:=ee e m;simp[e];refine dT m lY λ_ m=>?_;simp[e];refine dT m oL λ_ m=>?_;exact au
  apply Iq e m<;>intro e m
  ·simp[e];refine MI m c.2.2.2.2.2.2.2.2.1 λ_ _ _ m=>?_;exact au
  simp[e];refine MI m c.2.2.2.2.2.2.2.2.2.1 λ_ _ _ m=>?_;exact au
 ·intro T H a0 a1 r hm;rw[mE] at hm;have e:=trivial;refine wi acX func220 [] [] 999 ?_;simp[e];refine dX hm kB λ_ m=>?_;refine Il e m λe m=>?_;simp[e];refine dT m l6 λ_ m=>?_;have⟨I,e,m⟩:=ee e m;simp[e];refine kU m c.1 λ_ _ m=>?_;refine Il e m λe m=>?_;apply Iq e m<;>intro e m
  ·simp[e];refine dT m mh λJ m=>?_;simp[e];refine dT m oq λK m=>?_;exact au
  simp[e];refine dX m Et λ_ m=>?_;refine Il e m λe m=>?_;simp[e];refine dT m mh λ_ m=>?_;simp[e];refine dT m oq λ_ m=>?_;exact au
 ·intro T H a0 a1 r hm;rw[ni] at hm;have e:=trivial;refine wi acX func221 [] [] 9 ?_;have⟨L,e,m⟩:=ee e hm;simp[e];refine g_ m vm λP _ m=>?_;simp[e];apply Iq e m<;>intro e m
  ·apply wg 999;exact au
  apply wg 7;have⟨x6,e,m⟩:=ee e m;simp[e];refine kU m c.1 λd _ m=>?_;simp[e];apply Iq e m<;>intro e m
  ·apply wg 999;exact au
  apply wg 4;simp[e];refine dT m tX λ_ m=>?_;simp[e];refine dT m (kq T) λv m=>?_;simp[e];refine wj 999 999 (λf h=>h=H/\f.1 11=sI (eu (dg a1.acS 13) 6 4)/\f.1 12=sL sI (eu (dg a1.acS 13) d.fk v)/\bx f 4 [sI 0,sI 0,nL,nL,nL]/\bx f 7 (Tm.av L).cells/\bx f 8 (Ty.av P).cells/\bx f 10 [sI d.cR.acS,sI d.cR.cP.acS,sL Ty.av d.cR.cP.acT,sL Tm.av d.cR.c9,sL Fm.av d.cR.acT,sL sI d.fk]) (λ_ g=>?_) ?_
  ·rcases Pb (dg a1.acS 13) e with e|e
   ·exact aj
   exact aj
  rintro _ _ E;have e:=Aj e E;refine Il e m λe m=>?_;simp[e];refine dX m gl λ_ m=>?_;refine Im e m λe m=>?_;have⟨b,e,m⟩:=ee e m;simp[e];refine kU m rj λ_ _ m=>?_;exact au
 ·intro T H a0 a1 r hm;rw[ny] at hm;have e:=trivial;refine wi acX func222 [] [] 9 ?_;have⟨i,e,m⟩:=ee e hm;have⟨O,e,m⟩:=ee e m;simp[e];refine dX m qm λ_ m=>?_;simp[e];apply Iq e m<;>intro e m
  ·apply wg 999;exact au
  apply wg 4;simp[e];refine wj 999 3 (λf h=>h=H/\f.1 10=sI (eu (dg a1.acS 14) 7 5)/\bx f 2 (cS.av a0).cells/\bx f 3 (Pf.av a1).cells/\bx f 4 [sI 0,sI 0,nL,nL,nL]/\bx f 7 (Fm.av i).cells/\bx f 8 (Tm.av O).cells) (λ_ g=>?_) ?_
  ·rcases Pb (dg a1.acS 14) e with e|e
   ·exact aj
   exact aj
  rintro _ _ E;have e:=Aj e E;simp[e];apply Iq e m<;>intro e m
  ·apply wg 999;exact au
  apply wg 7;simp[e];refine g_ m vm λ_ I m=>?_;simp[e];apply Iq e m<;>intro e m
  ·apply wg 999;exact au
  apply wg 5;simp[e];refine dX m gl λw m=>?_;simp[e];apply Ir e m<;>intro e m
  ·apply wg 999;exact au
  apply wg 4;have⟨q,e,m⟩:=ee e m;have⟨J,e,m⟩:=ee e m;simp[e];refine kU m c.2.2.2.2.2.2.2.2.2.2 λK M m=>?_;simp[e];refine wm m 999 999 (λx f h=>∃s,(h=H/\f.1 12=sI M/\f.1 13=sL sI s/\bx f 4 [sI 0,sI 0,nL,nL,nL]/\bx f 7 (Fm.av i).cells)/\x s=some r) ?_ (λx _ g m=>?_)
  ·rintro _ _ ⟨s,E,m⟩;have e:=Aj e E;exact au
  apply Ir e m<;>intro e m
  ·exact iC
  simp[e];refine dX m tX λ_ m=>?_;simp[e];refine dX m (kq T) λ_ m=>?_;exact iC
 ·intro T H a0 a1 r hm;rw[lR] at hm;have e:=trivial;refine wi acX func223 [] [] 7 ?_;have⟨N,e,m⟩:=ee e hm;simp[e];refine kU m c.1 λa _ m=>?_;simp[e];apply Iq e m<;>intro e m
  ·apply wg 999;exact au
  apply wg 4;simp[e];refine wj 999 3 (λf h=>h=H/\f.1 9=sI (eu (dg a1.acS 15) 7 5)/\bx f 2 (cS.av a0).cells/\bx f 3 (Pf.av a1).cells/\bx f 4 [sI 0,sI 0,nL,nL,nL]/\bx f 7 [sI a.cR.acS,sI a.cR.cP.acS,sL Ty.av a.cR.cP.acT,sL Tm.av a.cR.c9,sL Fm.av a.cR.acT,sL sI a.fk]) (λ_ g=>?_) ?_
  ·rcases Pb (dg a1.acS 15) e with e|e
   ·exact aj
   exact aj
  rintro _ _ E;have e:=Aj e E;simp[e];apply Iq e m<;>intro e m
  ·apply wg 999;exact au
  apply wg 7;simp[e];refine dX m kB λ_ m=>?_;simp[e];apply Iq e m<;>intro e m
  ·apply wg 999;exact au
  apply wg 7;simp[e];refine dT m l6 λJ m=>?_;have⟨K,e,m⟩:=ee e m;simp[e];refine dT m mu λ_ m=>?_;have⟨S,e,m⟩:=ee e m;simp[e];refine kU m c.1 λb _ m=>?_;simp[e];apply Iq e m<;>intro e m
  ·apply wg 999;exact au
  apply wg 4;simp[e];refine Wj m 999 1 (λy f h=>∃v124 j k v127 l,(h=H/\f.1 9=sI (eu (dg a1.acS 15) 7 5)/\bx f 4 [sI 0,sI 0,nL,nL,nL]/\bx f 7 [sI a.cR.acS,sI a.cR.cP.acS,sL Ty.av a.cR.cP.acT,sL Tm.av a.cR.c9,sL Fm.av a.cR.acT,sL sI a.fk]/\bx f 11 [sI b.cR.acS,sI b.cR.cP.acS,sL Ty.av b.cR.cP.acT,sL Tm.av b.cR.c9,sL Fm.av b.cR.acT,sL sI b.fk]/\bx f 12 [sI v124,sI j,sL Ty.av k,sL Tm.av v127,sL Fm.av l])/\y v124 j k v127 l=some r) (λy _ g m=>?_) ?_
  ·simp[e];refine dX m Ek λ_ m=>?_;apply Ir e m<;>intro e m
   ·simp[e];exact g _ _ ⟨_,_,_,_,_,aa8,m⟩
   simp[e];refine g_ m GA λ_ _ m=>?_;refine Il e m λe m=>?_;simp[e];refine dX m Ek λ_ m=>?_;refine Il e m λe m=>?_;simp[e];exact g _ _ ⟨_,_,_,_,_,aa8,m⟩
  rintro _ _ ⟨v124,j,k,v127,l,E,m⟩;have e:=Aj e E;simp[e];refine Wj m 999 999 (λA f h=>∃t,(h=H/\f.1 87=sB t/\bx f 4 [sI 0,sI 0,nL,nL,nL]/\bx f 7 [sI a.cR.acS,sI a.cR.cP.acS,sL Ty.av a.cR.cP.acT,sL Tm.av a.cR.c9,sL Fm.av a.cR.acT,sL sI a.fk]/\bx f 11 [sI b.cR.acS,sI b.cR.cP.acS,sL Ty.av b.cR.cP.acT,sL Tm.av b.cR.c9,sL Fm.av b.cR.acT,sL sI b.fk]/\bx f 12 [sI v124,sI j,sL Ty.av k,sL Tm.av v127,sL Fm.av l])/\A t=some r) (λA _ g m=>?_) ?_
  ·apply Ir e m<;>intro e m
   ·exact iC
   simp[e];refine dX m Et λ_ m=>?_;exact iC
  rintro _ _ ⟨t,E,m⟩;have e:=Aj e E;refine Il e m λe m=>?_;simp[e];refine dT m kP λ_ m=>?_;simp[e];refine dT m oq λ_ m=>?_;simp[e];refine dT m (kq T) λ_ m=>?_;exact au
 ·intro T H a0 a1 r hm;rw[oY] at hm;have e:=trivial;refine wi acX func224 [] [] 999 ?_;have⟨i,e,m⟩:=ee e hm;have⟨O,e,m⟩:=ee e m;simp[e];refine dT m fQ λu m=>?_;have⟨e,m⟩:=Ck e m;simp[e];refine Ad (f:=Ty.av) a0.acW [u] (gM.full (D:=[])) EV e.2 ?_;simp[e];refine dT m sS λ_ m=>?_;refine Il e m λe m=>?_;simp[e];refine dX m oL λq m=>?_;refine Il e m λe m=>?_;have⟨B,e,m⟩:=ee e m;simp[e];refine dT m eX λC m=>?_;simp[e];refine kU m c.2.2.2.2.2.2.2.2.2.2 λ_ _ m=>?_;refine Il e m λe m=>?_;simp[e];refine dX m kB λ_ m=>?_;refine Il e m λe m=>?_;simp[e];refine dT m fQ λ_ m=>?_;simp[e];refine dT m l6 λ_ m=>?_;simp[e];refine dT m mu λ_ m=>?_;have⟨U,e,m⟩:=ee e m;simp[e];refine dT m kP λ_ m=>?_;simp[e];refine dT m eN λ_ m=>?_;simp[e];refine dT m eX λ_ m=>?_;simp[e];refine kU m c.2.2.2.2.2.2.2.2.2.2 λ_ _ m=>?_;refine Il e m λe m=>?_;simp[e];refine g_ m rj λ_ _ m=>?_;simp[e];refine dT m tX λ_ m=>?_;simp[e];refine dT m (kq T) λ_ m=>?_;simp[e];refine dT m oq λ_ m=>?_;simp[e];refine dT m (kq T) λ_ m=>?_;exact au
 ·intro T H a0 a1 r hm;rw[m5] at hm;have e:=trivial;refine wi acX func225 [] [] 999 ?_;have⟨i,e,m⟩:=ee e hm;have⟨O,e,m⟩:=ee e m;simp[e];refine dT m mK λu m=>?_;have⟨e,m⟩:=Ck e m;simp[e];refine Ad (f:=Ty.av) a0.acW [u] (gM.full (D:=[])) EV e.2 ?_;simp[e];refine dT m sS λ_ m=>?_;refine Il e m λe m=>?_;simp[e];refine dX m oL λq m=>?_;refine Il e m λe m=>?_;have⟨B,e,m⟩:=ee e m;simp[e];refine dT m eX λC m=>?_;simp[e];refine kU m c.2.2.2.2.2.2.2.2.2.2 λ_ _ m=>?_;refine Il e m λe m=>?_;simp[e];refine dX m kB λ_ m=>?_;refine Il e m λe m=>?_;simp[e];refine dT m fQ λ_ m=>?_;simp[e];refine dT m mK λ_ m=>?_;simp[e];refine dT m l6 λ_ m=>?_;simp[e];refine dT m kP λ_ m=>?_;simp[e];refine dT m mu λ_ m=>?_;have⟨V,e,m⟩:=ee e m;simp[e];refine dT m kP λ_ m=>?_;simp[e];refine dT m eN λ_ m=>?_;simp[e];refine dT m eN λ_ m=>?_;simp[e];refine dT m eX λ_ m=>?_;simp[e];refine kU m c.2.2.2.2.2.2.2.2.2.2 λ_ _ m=>?_;refine Il e m λe m=>?_;simp[e];refine g_ m rj λ_ _ m=>?_;simp[e];refine dT m tX λ_ m=>?_;simp[e];refine dT m (kq T) λ_ m=>?_;simp[e];refine dT m oq λ_ m=>?_;simp[e];refine dT m (kq T) λ_ m=>?_;exact au
 ·intro T H a0 a1 r hm;rw[m8] at hm;have e:=trivial;refine wi acX func227 [] [] 999 ?_;have⟨L,e,m⟩:=ee e hm;simp[e];refine dT m fQ λw m=>?_;have⟨e,m⟩:=Ck e m;simp[e];refine Ad (f:=Ty.av) a0.acW [w] (gM.full (D:=[])) EV e.2 ?_;simp[e];refine dT m sS λ_ m=>?_;refine Il e m λe m=>?_;have⟨W,e,m⟩:=ee e m;simp[e];refine kU m c.1 λ_ q m=>?_;refine Il e m λe m=>?_;refine Il e m λe m=>?_;have⟨B,e,m⟩:=ee e m;have⟨C,e,m⟩:=ee e m;simp[e];refine kU m c.2.2.2.2.2.2.2.2.2.2 λ_ _ m=>?_;refine Il e m λe m=>?_;have⟨X,e,m⟩:=ee e m;simp[e];refine kU m rj λ_ _ m=>?_;exact au
 ·intro T H a0 a1 r hm;rw[mx] at hm;have e:=trivial;refine wi acX func228 [] [] 7 ?_;have⟨N,e,m⟩:=ee e hm;simp[e];refine kU m c.1 λa _ m=>?_;simp[e];apply Iq e m<;>intro e m
  ·apply wg 999;exact au
  apply wg 3;simp[e];refine Wj m 999 999 (λF f h=>∃G,(h=H/\f.1 38=sB G/\bx f 4 [sI 0,sI 0,nL,nL,nL]/\bx f 7 [sI a.cR.acS,sI a.cR.cP.acS,sL Ty.av a.cR.cP.acT,sL Tm.av a.cR.c9,sL Fm.av a.cR.acT,sL sI a.fk])/\F G=some r) (λF _ g m=>?_) ?_
  ·apply Iq e m<;>intro e m
   ·exact iC
   have⟨Y,e,m⟩:=ee e m;exact iC
  rintro _ _ ⟨G,E,m⟩;have e:=Aj e E;refine Il e m λe m=>?_;have⟨v,e,m⟩:=ee e m;simp[e];refine dX m nM λ_ m=>?_;simp[e];refine dX m oD λ_ m=>?_;refine Il e m λe m=>?_;have⟨Z,e,m⟩:=ee e m;simp[e];refine dX m kP λ_ m=>?_;simp[e];refine dX m eN λ_ m=>?_;simp[e];refine dX m eN λ_ m=>?_;simp[e];refine dX m eX λ_ m=>?_;simp[e];refine g_ m rj λ_ _ m=>?_;simp[e];refine dT m mh λ_ m=>?_;simp[e];refine dT m mh λ_ m=>?_;exact au
 ·intro T H a0 a1 a2 a3 r hm;rw[d_] at hm;have e:=trivial;refine wi acX func262 [] [] 999 ?_;simp[e];refine g_ hm c.1 λ_ Q m=>?_;refine Il e m λe m=>?_;simp[e];refine g_ m rj λ_ _ m=>?_;refine Il e m λe m=>?_;simp[e];refine dT m vX λ_ m=>?_;exact au
def yp{n:Nat}:C2 prog 86 (dj n) (t2 p_.av sI) cS.av Pf.av:=(xy n).1
def mS:C3 prog 24 ij (t2 p_.av sI) (sL Fm.av) Sq.av Pf.av:=by
 refine v3 func24 λT H a0 a1 a2 r m e=>?_;rw[ij] at m;simp[e];refine dX m EH λ_ m=>?_;refine Il e m λe m=>?_;simp[e];refine dX m Aw λ_ m=>?_;refine Il e m λe m=>?_;simp[e];refine g_ m yp λa _ m=>?_;refine Il e m λe m=>?_;simp[e];refine dT m i_ λ_ m=>?_;have⟨e,m⟩:=Ck e m;simp[e];refine Ad (f:=sI) [] a.fk (gM.full (D:=[])) Pc e.2 ?_;exact au
def sh:C2 prog 67 pJ Sq.av Sq.av (sL Ty.av):=by
 refine v2 func67 λT H a0 a1 r m e=>?_;rw[pJ] at m;simp[e];refine dX m nP λk m=>?_;simp[e];refine Wr e m 999 (λj c f h=>∃a,(h=H/\f.1 1=sL Ty.av a1/\f.1 14=sL Fm.av a0.acZ/\f.1 15=sI (di a0.acZ)/\f.1 16=sI j/\bx f 4 [nL,nL]/\bx f 5 [sL Ty.av k,sT a Fm.av c])/\Ow f [27] a c) (by exact⟨.full,aa8,gM.full⟩) (λc d _ _ E m=>?_) (λj _ c d _ _ _ _ E e m z p=>?_)
 ·have⟨a,E,b⟩:=E;have e:=Aj e E;dsimp only[cU]at m;exact au
 have⟨a,E,b⟩:=E;have e:=Aj e E;simp[e];refine dT m kP λi m=>?_;have⟨e,m⟩:=Ck e m;simp[e];refine Ad (f:=Fm.av) c [i] b BW e.2 ?_;simp[e];cases m;exact p _ _ _ ⟨(.loc 27 (d.ei 27+1)),aa8,(On 27)⟩ z
def xJ:C3 prog 36 tf Pf.av sI Tm.av Pf.av:=by
 refine v3 func36 λT H a0 a1 a2 r m e=>?_;rw[tf] at m;simp[e];refine dX m nk λa m=>?_;simp[e];refine dX m kr λb m=>?_;have e:=Aj e (show AV.agg [sI a.acS,sI a.acV,sI a.cP.acS,sL Ty.av a.cP.acT,AV.slice .hY [Tm.av b],sL Fm.av a.dV,sL Pf.av a.acT]=Pf.av (Pf.mk a.acS a.acV a.cP [b] a.dV a.acT) by rw[Pf.eT];rfl);exact au
section
attribute [-simp] Go.ke.Bc
@[local simp] theorem abo(x:Fm):Bc prog 46 x.av 2=some (sL Tm.av x.c9):=by rw[Fm.fp];kernel_rfl
def na:C1 prog 68 iY Tm.av Tm.av:=by
 refine v1 func68 λT H a0 r m e=>?_;rw[iY] at m;simp[e];refine dX m lY λ_ m=>?_;simp[e];refine dX m kP λ_ m=>?_;have⟨a,e,m⟩:=ee e m;exact au
end
def xF:C4 prog 49 s_ Pf.av sI Fm.av Tm.av Pf.av:=by
 refine v4 func49 λT H a0 a1 a2 a3 r m e=>?_;rw[s_] at m;simp[e];refine dX m xJ λa m=>?_;simp[e];refine dX m i_ λb m=>?_;have e:=Aj e (show AV.agg [sI a.acS,sI a.acV,sI a.cP.acS,sL Ty.av a.cP.acT,sL Tm.av a.c9,AV.slice .hY [Fm.av b],sL Pf.av a.acT]=Pf.av (Pf.mk a.acS a.acV a.cP a.c9 [b] a.acT) by rw[Pf.eT];rfl);exact au
def Gr(T:dx){H:cW}{a0:Int}{a1:Fm}{a2:Tm}{a3 a:Pf}{f0:Fm}(hm:rZ a0 a1 a2 a3=some (a,f0)):du prog T 49 [sI a0,Fm.av a1,Tm.av a2,Pf.av a3] H (AV.agg [sI a.acS,sI a.acV,sI a.cP.acS,sL Ty.av a.cP.acT,sL Tm.av a.c9,AV.pQ (List.length H) 0 1 1,sL Pf.av a.acT]) (H++[[sI f0.acS,sI f0.cP.acS,sL Ty.av f0.cP.acT,sL Tm.av f0.c9,sL Fm.av f0.acT]]):=by
 rw[rZ] at hm;have e:=trivial;refine wi acX func49 [16] [] 999 ?_;simp[e];refine dX hm xJ λ_ m=>?_;simp[e];refine dX m i_ λ_ m=>?_;exact au
def HZ(T:dx){H:cW}{a0:cV}{a1:Sq}{a:Pf}{f0:Fm}{b:cV}{d:Nat}(c:H[d]?=some [sL sI a0.l,sI a0.oU])(hm:tp a0 a1=some (a,f0,b)):du prog T 74 [AV.dM d 0,Sq.av a1] H (AV.agg [sI a.acS,sI a.acV,sI a.cP.acS,sL Ty.av a.cP.acT,sL Tm.av a.c9,AV.pQ (List.length H) 0 1 1,sL Pf.av a.acT]) ((dH H d [sL sI b.l,sI b.oU])++[[sI f0.acS,sI f0.cP.acS,sL Ty.av f0.cP.acT,sL Tm.av f0.c9,sL Fm.av f0.acT]]):=by
 rw[tp] at hm;have f:=eB c;refine dL.Je c ?_;have e:=f;refine wi acX func74 [] [] 999 ?_;simp[e];refine dX hm fQ λ_ m=>?_;simp[e];refine g_ m (j6 T aa8) λ_ d3 m=>?_;simp[e];refine dT m na λ_ m=>?_;simp[e];refine dT m eN λ_ m=>?_;simp[e];refine dT m lY λ_ m=>?_;simp[e];refine dT m mh λ_ m=>?_;simp[e];refine dT m kn λ_ m=>?_;simp[e];refine kU m (Gr T) λ_ _ m=>?_;exact au
def s5:C1 prog 57 me Pf.av sI:=by
 refine v1 func57 λT H a0 r m e=>?_;rw[me] at m;exact au
def y_:C5 prog 70 sG Pf.av sI Fm.av Tm.av Pf.av Pf.av:=by
 refine v5 func70 λT H a0 a1 a2 a3 a4 r m e=>?_;rw[sG] at m;simp[e];refine dX m nk λa m=>?_;simp[e];refine dX m kr λb m=>?_;simp[e];refine dX m i_ λc m=>?_;have e:=Aj e (show AV.agg [sI a.acS,sI a.acV,sI a.cP.acS,sL Ty.av a.cP.acT,AV.slice .hY [Tm.av b],AV.slice .hY [Fm.av c],sL Pf.av a.acT]=Pf.av (Pf.mk a.acS a.acV a.cP [b] [c] a.acT) by rw[Pf.eT];rfl);exact au
def Be:C2 prog 234 u7 Tm.av Tm.av sI:=by
 refine v2 func234 λT H a0 a1 r m e=>?_;rw[u7] at m;simp[e];refine dX m A2 λ_ m=>?_;exact au
def Ax:C3 prog 73 q9 Pf.av Fm.av Pf.av Pf.av:=by
 refine v3 func73 λT H a0 a1 a2 r m e=>?_;rw[q9] at m;simp[e];refine dX m nk λa m=>?_;simp[e];refine dX m i_ λb m=>?_;have e:=Aj e (show AV.agg [sI a.acS,sI a.acV,sI a.cP.acS,sL Ty.av a.cP.acT,sL Tm.av a.c9,AV.slice .hY [Fm.av b],sL Pf.av a.acT]=Pf.av (Pf.mk a.acS a.acV a.cP a.c9 [b] a.acT) by rw[Pf.eT];rfl);exact au
def Jk:C3 prog 180 uU Pf.av Tm.av Tm.av Pf.av:=by
 refine v3 func180 λT H a0 a1 a2 r m e=>?_;rw[uU] at m;simp[e];refine dT m Be λ_ m=>?_;simp[e];refine dT m Be λ_ m=>?_;simp[e];refine dT m eX λ_ m=>?_;simp[e];refine dT m Be λ_ m=>?_;simp[e];refine dT m eN λ_ m=>?_;simp[e];refine dT m eX λ_ m=>?_;simp[e];refine dT m lY λ_ m=>?_;simp[e];refine dT m eX λ_ m=>?_;simp[e];refine dT m kn λ_ m=>?_;simp[e];refine dT m Ax λ_ m=>?_;exact au
def Fz:C3 prog 181 rA sI (sL Tm.av) (sL Fm.av) (sL Pf.av):=by
 refine v3 func181 λT H a0 a1 a2 r m e=>?_;rw[rA] at m;simp[e];refine Ap e m 999 (λc _ f h=>h=H/\f.1 1=sL Fm.av a1/\f.1 2=sL Pf.av a2/\f.1 16=sL Tm.av a0/\f.1 17=sI (di a0)/\f.1 18=sI c) aa8 (λc _ _ _ _ _ _ _ E e m z p=>?_) (λ_ _ _ _ E m=>?_)
 ·have e:=Aj e E;simp[e];refine dX m mZ λ_ m=>?_;refine Il e m λe m=>?_;exact al
 have e:=Aj e E;dsimp only[cU]at m;simp[e];refine Ap e m 999 (λa _ f h=>h=H/\f.1 2=sL Pf.av a2/\f.1 28=sL Fm.av a1/\f.1 29=sI (di a1)/\f.1 30=sI a) aa8 (λa _ _ _ _ _ _ _ E e m z p=>?_) (λ_ _ _ _ E m=>?_)
 ·have e:=Aj e E;simp[e];refine dX m mT λ_ m=>?_;refine Il e m λe m=>?_;exact al
 have e:=Aj e E;dsimp only[cU]at m;simp[e];refine Wr e m 999 (λb _ f h=>h=H/\f.1 40=sL Pf.av a2/\f.1 41=sI (di a2)/\f.1 42=sI b) aa8 (λ_ _ _ _ E m=>?_) (λb _ _ _ _ _ _ _ E e m z p=>?_)
 ·have e:=Aj e E;dsimp only[cU]at m;exact au
 have e:=Aj e E;simp[e];refine dX m Aw λ_ m=>?_;refine Il e m λe m=>?_;exact al
def HL:C2 prog 179 ti (t2 Pf.av sI) Pf.av sI:=by
 refine v2 func179 λT H a0 a1 r m e=>?_;rw[ti] at m;refine Il e m λe m=>?_;simp[e];refine dX m B2 λ_ m=>?_;refine Im e m λe m=>?_;simp[e];refine dX m Cb λ_ m=>?_;exact au
def Jt:C4 prog 132 uP (t2 Pf.av sI) Tm.av Tm.av Tm.av Pf.av:=by
 refine v4 func132 λT H a0 a1 a2 a3 r m e=>?_;rw[uP] at m;simp[e];refine dT m Jk λ_ m=>?_;simp[e];refine dT m Fz λ_ m=>?_;simp[e];refine kU m HL λ_ _ m=>?_;exact au
def N8:C1 prog 72 zA Pf.av Tm.av:=by
 refine v1 func72 λT H a0 r m e=>?_;rw[zA] at m;simp[e];refine dX m BD λ_ m=>?_;simp[e];refine dX m yE λ_ m=>?_;simp[e];refine dX m eN λ_ m=>?_;simp[e];refine dX m GR λ_ m=>?_;simp[e];refine dT m eN λ_ m=>?_;simp[e];refine dT m lY λ_ m=>?_;simp[e];refine dT m fQ λ_ m=>?_;simp[e];refine dT m eN λ_ m=>?_;simp[e];refine dT m eX λ_ m=>?_;simp[e];refine dT m kH λ_ m=>?_;simp[e];refine dT m eN λ_ m=>?_;simp[e];refine dT m s5 λ_ m=>?_;simp[e];refine kU m Jt λ_ _ m=>?_;simp[e];refine dT m yE λ_ m=>?_;simp[e];refine dT m kn λ_ m=>?_;simp[e];refine dT m y_ λ_ m=>?_;exact au
def PM(T:dx){H:cW}{a0:cV}{a1:Sq}{f:Pf}{a:cV}{c:Nat}(b:H[c]?=some [sL sI a0.l,sI a0.oU])(hm:B9 a0 a1=some (f,a)):du prog T 74 [AV.dM c 0,Sq.av a1] H (Pf.av f) (dH H c [sL sI a.l,sI a.oU]):=by
 rw[B9] at hm;have d:=eB b;refine dL.Je b ?_;have e:=d;refine wi acX func74 [] [] 999 ?_;simp[e];refine dX hm fQ λ_ m=>?_;simp[e];refine g_ m (j6 T aa8) λ_ d3 m=>?_;simp[e];refine dT m na λ_ m=>?_;simp[e];refine dT m eN λ_ m=>?_;simp[e];refine dT m lY λ_ m=>?_;simp[e];refine dT m mh λ_ m=>?_;simp[e];refine dT m kn λ_ m=>?_;simp[e];refine dT m xF λ_ m=>?_;exact au
def Lr(T:dx):∀(n:Nat),(∀{H:cW} {a0:cV} {a1:List Fm} {a2:Sq} {a3:Int} {t:Pf} {c:cV} {j:Nat} (q:H[j]?=some [sL sI a0.l,sI a0.oU]) (hm:gN n a0 a1 a2 a3=some (t,c)),du prog T 19 [AV.dM j 0,sL Fm.av a1,Sq.av a2,sI a3] H (Pf.av t) (dH H j [sL sI c.l,sI c.oU]))/\(∀{H:cW} {a0:cV} {a1:List Fm} {a2:Sq} {a3:Int} {t:Pf} {c:cV} {j:Nat} (q:H[j]?=some [sL sI a0.l,sI a0.oU]) (hm:wU n a0 a1 a2 a3=some (t,c)),du prog T 69 [AV.dM j 0,sL Fm.av a1,Sq.av a2,sI a3] H (Pf.av t) (dH H j [sL sI c.l,sI c.oU])):=by
  intro n
  induction n with
  |zero=>
    refine⟨?_,?_⟩
    all_goals(intro _ _;intros;rename_i hm;cases hm)
  |succ n k=>
 refine⟨?_,?_⟩
 ·intro H a0 a1 a2 a3 t c j q hm;rw[gN] at hm;have D:=eB q;refine dL.Je q ?_;have e:=D;refine wi acX func19 [] [] 4 ?_;simp[e];refine dX hm fQ λM m=>?_;simp[e];refine wm m 0 0 (λR f h=>∃v3,(h=dH H j [sL sI v3.l,sI v3.oU]/\f.1 0=AV.dM j 0/\f.1 1=sL Fm.av a1/\bx f 6 (Sq.av a2).cells/\bx f 8 [sI 0,sI 0,sI 0,nL,nL,nL,nL]/\bx f 9 (Ty.av M).cells)/\R v3=some (t,c)) ?_ (λR _ g m=>?_)
  ·rintro _ _ ⟨v3,E,m⟩;have e:=Aj e E;refine wm m 999 999 (λS f h=>∃L,(h=dH H j [sL sI L.l,sI L.oU]/\f.1 0=AV.dM j 0/\bx f 6 (Sq.av a2).cells/\bx f 8 [sI 0,sI 0,sI 0,nL,nL,nL,nL]/\bx f 9 (Ty.av M).cells)/\S L=some (t,c)) ?_ (λS _ g m=>?_)
   ·rintro _ _ ⟨L,E,m⟩;have e:=Aj e E;simp[e];refine g_ m (j6 T aa8) λ_ d13 m=>?_;simp[e];refine dX m kn λ_ m=>?_;exact au
   simp[e];refine g_ m (et T aa8) λ_ d16 m=>?_;apply Iq e m<;>intro e m
   ·apply Ir e m<;>intro e m
    ·exact iC
    simp[e];refine g_ m (et T aa8) λ_ d18 m=>?_;simp[e];refine dX m s5 λ_ m=>?_;exact au
   apply Ir e m<;>intro e m
   ·exact iC
   apply Ir e m<;>intro e m
   ·exact iC
   simp[e];refine g_ m (et T aa8) λ_ d21 m=>?_;exact au
  refine wj 999 999 (λf h=>h=dH H j [sL sI a0.l,sI a0.oU]/\f.1 0=AV.dM j 0/\f.1 1=sL Fm.av a1/\f.1 3=sI a3/\f.1 50=sB (eu (kZ a3 0) (eu (qj (di a2.acW) 10) (qj (di a2.acZ) 10) false) false)/\bx f 6 (Sq.av a2).cells/\bx f 8 [sI 0,sI 0,sI 0,nL,nL,nL,nL]/\bx f 9 (Ty.av M).cells) (λ_ g=>?_) ?_
  ·rcases Pb (kZ a3 0) e with e|e;rotate_left
   ·exact aj
   rcases Pb (qj (di a2.acW) 10) e with e|e
   ·exact aj
   exact aj
  rintro _ _ E;have e:=Aj e E;apply Ir e m<;>intro e m
  ·exact iC
  simp[e];refine g_ m (et T aa8) λ_ d26 m=>?_;apply Iq e m<;>intro e m
  ·simp[e];refine kU m (k.1 aa8) λ_ d28 m=>?_;simp[e];refine kU m (k.1 aa8) λ_ d30 m=>?_;simp[e];refine dT m nk λ_ m=>?_;exact au
  apply Iq e m<;>intro e m
  ·simp[e];refine kU m (et T aa8) λ_ d33 m=>?_;simp[e];refine kU m (k.1 aa8) λ_ d35 m=>?_;simp[e];refine kU m (k.1 aa8) λ_ d37 m=>?_;simp[e];refine dT m nk λ_ m=>?_;simp[e];refine dT m nk λ_ m=>?_;exact au
  apply Iq e m<;>intro e m
  ·simp[e];refine g_ m (rY T aa8) λ_ d41 m=>?_;simp[e];refine dT m Dt λ_ m=>?_;simp[e];refine kU m (k.1 aa8) λ_ d44 m=>?_;simp[e];refine dT m El λ_ m=>?_;exact au
  apply Iq e m<;>intro e m
  ·simp[e];refine g_ m (k.1 aa8) λ_ d47 m=>?_;simp[e];refine g_ m mS λ_ _ m=>?_;apply Ir e m<;>intro e m
   ·exact iC
   simp[e];refine dT m Dt λ_ m=>?_;simp[e];refine kU m (k.1 aa8) λ_ d52 m=>?_;simp[e];refine dT m El λ_ m=>?_;simp[e];refine dT m nk λ_ m=>?_;exact au
  apply Iq e m<;>intro e m
  ·simp[e];refine g_ m (kF T aa8) λ_ d56 m=>?_;simp[e];refine dT m sh λ_ m=>?_;simp[e];refine kU m (k.1 aa8) λ_ d59 m=>?_;simp[e];refine dT m ru λ_ m=>?_;exact au
  apply Iq e m<;>intro e m
  ·simp[e];refine g_ m (kF T aa8) λ_ d62 m=>?_;simp[e];refine kU m (j6 T aa8) λ_ d64 m=>?_;simp[e];refine dT m sh λ_ m=>?_;simp[e];refine kU m (k.1 aa8) λ_ d67 m=>?_;simp[e];refine dT m ru λ_ m=>?_;simp[e];refine dT m xJ λ_ m=>?_;exact au
  apply Iq e m<;>intro e m
  ·simp[e];refine g_ m (j6 T aa8) λ_ d71 m=>?_;simp[e];refine g_ m (et T aa8) λ_ d73 m=>?_;have⟨N,G,m⟩:=jw m;have e:=Aj e (show[sI 5,sI 7]=List.map sI N by rw[G];rfl);have⟨W,e,m⟩:=ee e m;simp[e];refine dT m na λ_ m=>?_;simp[e];refine dT m eN λ_ m=>?_;simp[e];refine dT m lY λ_ m=>?_;simp[e];refine dT m mh λ_ m=>?_;have⟨O,I,m⟩:=jw m;have e:=Aj e (show[sI 10,sI 14]=List.map sI O by rw[I];rfl);have⟨Y,e,m⟩:=ee e m;simp[e];refine dT m kn λ_ m=>?_;simp[e];refine dT m xF λ_ m=>?_;exact au
  apply Iq e m<;>intro e m
  ·simp[e];refine g_ m (k.1 aa8) λ_ d87 m=>?_;simp[e];refine g_ m mS λ_ _ m=>?_;apply Ir e m<;>intro e m
   ·exact iC
   simp[e];refine g_ m (kF T aa8) λ_ d91 m=>?_;simp[e];refine g_ m (et T aa8) λ_ d93 m=>?_;have⟨P,J,m⟩:=jw m;have e:=Aj e (show[sI 5,sI 7]=List.map sI P by rw[J];rfl);have⟨Z,e,m⟩:=ee e m;simp[e];refine dT m kP λ_ m=>?_;simp[e];refine dT m mh λ_ m=>?_;have⟨Q,F,m⟩:=jw m;have e:=Aj e (show[sI 10,sI 14]=List.map sI Q by rw[F];rfl);have⟨U,e,m⟩:=ee e m;simp[e];refine kU m (j6 T aa8) λ_ d103 m=>?_;simp[e];refine dT m xF λ_ m=>?_;exact au
  apply Iq e m<;>intro e m
  ·simp[e];refine g_ m (k.2 aa8) λ_ d106 m=>?_;exact au
  apply Iq e m<;>intro e m
  ·simp[e];refine g_ m (k.1 aa8) λ_ d108 m=>?_;simp[e];refine g_ m mS λ_ _ m=>?_;apply Ir e m<;>intro e m
   ·exact iC
   simp[e];refine dT m kP λ_ m=>?_;simp[e];refine kU m (j6 T aa8) λ_ d113 m=>?_;simp[e];refine dT m s5 λ_ m=>?_;simp[e];refine dT m y_ λ_ m=>?_;exact au
  apply Iq e m<;>intro e m
  ·simp[e];refine g_ m (k.1 aa8) λ_ d117 m=>?_;simp[e];refine g_ m mS λ_ _ m=>?_;apply Ir e m<;>intro e m
   ·exact iC
   simp[e];refine dT m kP λ_ m=>?_;simp[e];refine dT m mK λ_ m=>?_;simp[e];refine kU m (j6 T aa8) λ_ d123 m=>?_;simp[e];refine dT m s5 λ_ m=>?_;simp[e];refine dT m y_ λ_ m=>?_;exact au
  apply Iq e m<;>intro e m
  ·simp[e];refine g_ m (j6 T aa8) λ_ d127 m=>?_;simp[e];refine dX m N8 λ_ m=>?_;exact au
  apply Iq e m<;>intro e m
  ·simp[e];refine kU m (j6 T aa8) λ_ d130 m=>?_;simp[e];refine kU m (j6 T aa8) λ_ d132 m=>?_;simp[e];refine dT m na λ_ m=>?_;simp[e];refine dT m na λ_ m=>?_;simp[e];refine dT m lY λ_ m=>?_;simp[e];refine dT m kn λ_ m=>?_;simp[e];refine dT m kn λ_ m=>?_;simp[e];refine dT m Ax λ_ m=>?_;exact au
  apply Iq e m<;>intro e m
  ·simp[e];refine g_ m (kF T aa8) λ_ d140 m=>?_;simp[e];refine dT m sh λ_ m=>?_;simp[e];refine kU m (PM T aa8) λ_ d143 m=>?_;simp[e];refine dT m ru λ_ m=>?_;simp[e];refine dT m nk λ_ m=>?_;exact au
  apply Iq e m<;>intro e m
  ·simp[e];refine g_ m (kF T aa8) λ_ d147 m=>?_;simp[e];refine dT m sh λ_ m=>?_;simp[e];refine kU m (k.1 aa8) λ_ d150 m=>?_;simp[e];refine dT m ru λ_ m=>?_;exact au
  apply Ir e m<;>intro e m
  ·exact iC
  simp[e];refine g_ m (kF T aa8) λ_ d153 m=>?_;simp[e];refine kU m (j6 T aa8) λ_ d155 m=>?_;simp[e];refine dT m sh λ_ m=>?_;simp[e];refine kU m (k.1 aa8) λ_ d158 m=>?_;simp[e];refine dT m ru λ_ m=>?_;simp[e];refine dT m xJ λ_ m=>?_;exact au
 ·intro H a0 a1 a2 a3 t c j q hm;rw[wU] at hm;have D:=eB q;refine dL.U6 (Post:=λx K=>x=Pf.av t/\∃X,K=(dH H j [sL sI c.l,sI c.oU])++X) ?_ (λ_ _ h=>⟨_,h.2.choose,h.2.choose_spec,aa4,by rw[h.1];simp[AV.low,AV.gA],λcs h=>by rcases QJ h with h|h<;>first|exact .inl h|(rw[h];simp[AV.low,AV.gA]),h.1,rfl⟩);refine dL.Je q ?_;have e:=D;refine wi acX func69 [] [] 6 ?_;simp[e];refine MI hm (HZ T aa8) λa b d163 m=>?_;simp[e];refine Wj m 999 4 (λB f h=>∃r i v167 v168,(h=(dH H j [sL sI v167.l,sI v167.oU])++[[sI v168,sI b.cP.acS,sL Ty.av b.cP.acT,sL Tm.av b.c9,sL Fm.av b.acT]]/\f.1 0=AV.dM j 0/\f.1 1=sL Fm.av a1/\f.1 3=sI a3/\f.1 10=sI r/\bx f 6 (Sq.av a2).cells/\bx f 8 [sI 0,sI 0,sI 0,nL,nL,nL,nL]/\bx f 9 [sI i,sI a.acV,sI a.cP.acS,sL Ty.av a.cP.acT,sL Tm.av a.c9,AV.pQ (List.length H) 0 1 1,sL Pf.av a.acT])/\B r i v167 v168=some (t,c)) (λB _ g m=>?_) ?_
  ·simp[e];refine g_ m (et T aa8) λ_ d172 m=>?_;apply Iq e m<;>intro e m
   ·simp[e];exact g _ _ ⟨_,_,_,_,aa8,m⟩
   simp[e];exact g _ _ ⟨_,_,_,_,aa8,m⟩
  rintro _ _ ⟨r,i,v167,v168,E,m⟩;have e:=Aj e E;have⟨V,e,m⟩:=ee e m;simp[e];refine dT m fQ λ_ m=>?_;simp[e];refine dT m sh λ_ m=>?_;simp[e];refine dT m Dt λ_ m=>?_;simp[e];refine kU m (k.1 aa8) λ_ d179 m=>?_;simp[e];refine Wj m 999 1 (λC f h=>∃u v182 v183 v w y A s,(h=(dH H j [sL sI s.l,sI s.oU])++[[sI v168,sI b.cP.acS,sL Ty.av b.cP.acT,sL Tm.av b.c9,sL Fm.av b.acT]]/\f.1 10=sI r/\bx f 8 [sI 0,sI 0,sI 0,nL,nL,nL,nL]/\bx f 9 [sI i,sI a.acV,sI a.cP.acS,sL Ty.av a.cP.acT,sL Tm.av a.c9,AV.pQ (List.length H) 0 1 1,sL Pf.av a.acT]/\bx f 12 [sI u,sI v182,sI v183,sL Ty.av v,sL Tm.av w,sL Fm.av y,sL Pf.av A])/\C u v182 v183 v w y A s=some (t,c)) (λC _ g m=>?_) ?_
  ·simp[e];refine g_ m (et T aa8) λ_ d192 m=>?_;apply Ir e m<;>intro e m
   ·simp[e];exact g _ _ ⟨_,_,_,_,_,_,_,_,aa8,m⟩
   simp[e];refine dX m kP λ_ m=>?_;simp[e];refine dT m eN λ_ m=>?_;simp[e];refine dT m s5 λ_ m=>?_;simp[e];refine dT m xF λ_ m=>?_;simp[e];exact g _ _ ⟨_,_,_,_,_,_,_,_,aa8,m⟩
  rintro _ _ ⟨u,v182,v183,v,w,y,A,s,E,m⟩;have e:=Aj e E;simp[e];refine aav 999 (o:=(List.length H)) (d:=9) (pre:=[sI i,sI a.acV,sI a.cP.acS,sL Ty.av a.cP.acT,sL Tm.av a.c9]) (post:=[sL Pf.av a.acT]) (x:=Fm.av (Fm.mk v168 b.cP b.c9 b.acT)) aa8 aa8 aa4 (by simp;rfl) ?_;have e:=Aj e (show AV.agg [sI i,sI a.acV,sI a.cP.acS,sL Ty.av a.cP.acT,sL Tm.av a.c9,AV.slice .hY [Fm.av (Fm.mk v168 b.cP b.c9 b.acT)],sL Pf.av a.acT]=Pf.av (Pf.mk i a.acV a.cP a.c9 [(Fm.mk v168 b.cP b.c9 b.acT)] a.acT) by rw[Pf.eT];rfl);simp[e];refine dX m nk λ_ m=>?_;exact au
def GG(T:dx){H:cW}{a0:cV}{a1:List Fm}{a2:Sq}{a3:Int}{d:Pf}{a:cV}{b:Nat}(c:H[b]?=some [sL sI a0.l,sI a0.oU]){n:Nat}(hm:gN n a0 a1 a2 a3=some (d,a)):du prog T 19 [AV.dM b 0,sL Fm.av a1,Sq.av a2,sI a3] H (Pf.av d) (dH H b [sL sI a.l,sI a.oU]):=(Lr T n).1 c hm
def ac6:C2 prog 25 ac1 sB p_.av p_.av:=by
 refine u2 3 func25 λT H a0 a1 r m e=>?_;rw[ac1] at m;simp[e];refine Wj m 999 999 (λa f h=>∃v2,(h=H/\f.1 20=sB v2/\bx f 2 [sI a0.cR.acS,sI a0.cR.cP.acS,sL Ty.av a0.cR.cP.acT,sL Tm.av a0.cR.c9,sL Fm.av a0.cR.acT,sL sI a0.fk]/\bx f 3 [sI a1.cR.acS,sI a1.cR.cP.acS,sL Ty.av a1.cR.cP.acT,sL Tm.av a1.cR.c9,sL Fm.av a1.cR.acT,sL sI a1.fk])/\a v2=some r) (λa _ g m=>?_) ?_
 ·simp[e];refine dX m Kw λ_ m=>?_;apply Ir e m<;>intro e m
  ·exact iC
  exact iC
 rintro _ _ ⟨v2,E,m⟩;have e:=Aj e E;refine Il e m λe m=>?_;simp[e];refine Wr e m 999 (λb _ f h=>h=H/\f.1 23=sI (di a0.fk)/\f.1 24=sI b/\bx f 2 [sI a0.cR.acS,sI a0.cR.cP.acS,sL Ty.av a0.cR.cP.acT,sL Tm.av a0.cR.c9,sL Fm.av a0.cR.acT,sL sI a0.fk]/\bx f 3 [sI a1.cR.acS,sI a1.cR.cP.acS,sL Ty.av a1.cR.cP.acT,sL Tm.av a1.cR.c9,sL Fm.av a1.cR.acT,sL sI a1.fk]) aa8 (λ_ _ _ _ E m=>?_) (λb _ _ _ _ _ _ _ E e m z p=>?_)
 ·have e:=Aj e E;dsimp only[cU]at m;exact au
 have e:=Aj e E;have⟨c,e,m⟩:=ee e m;refine Il e m λe m=>?_;exact al
def NO(T:dx){H:cW}{a0:cV}{a1:List Fm}{a2:Sq}{a3:Int}{i:Pf}{j:p_}{a:cV}{b:Nat}(c:H[b]?=some [sL sI a0.l,sI a0.oU])(hm:wB a0 a1 a2 a3=some (i,j,a)):du prog T 26 [AV.dM b 0,sL Fm.av a1,Sq.av a2,sI a3] H (AV.tuple [Pf.av i,p_.av j]) (dH H b [sL sI a.l,sI a.oU]):=by
 rw[wB] at hm;have d:=eB c;refine dL.Je c ?_;have e:=d;refine wi acX func26 [] [] 999 ?_;simp[e];refine Wn hm 999 (λs1 f h=>h=dH H b [sL sI s1.2.l,sI s1.2.oU]/\f.1 0=AV.dM b 0/\f.1 1=sL Fm.av a1/\f.1 3=sI a3/\f.1 16=sI s1.1/\bx f 6 (Sq.av a2).cells/\bx f 8 [sI 0,sI 0,sI 0,nL,nL,nL,nL]/\bx f 9 [sI 0,sI 0,nL,nL,nL,nL]) aa8 (λs1 _ _ _ _ _ E m z p=>?_);have⟨k,v9⟩:=s1;have e:=Aj e E;dsimp only[h7]at m;apply Iq e m<;>intro e m
 ·simp[e];refine g_ m (GG T aa8) λ_ d11 m=>?_;simp[e];refine g_ m mS λ_ _ m=>?_;refine Il e m λe m=>?_;exact al
 cases m;have m:=Qb z;dsimp only[h7]at m;simp[e];refine g_ m (et T aa8) λ_ d15 m=>?_;simp[e];refine dX m yE λ_ m=>?_;simp[e];refine dX m kn λ_ m=>?_;simp[e];refine g_ m mS λ_ _ m=>?_;exact au
def HD:C0 prog 39 q5 Fm.av:=by
 refine v0 func39 λT H r m e=>?_;rw[q5] at m;simp[e];refine dX m eX λ_ m=>?_;simp[e];refine dX m eX λ_ m=>?_;simp[e];refine dX m eX λ_ m=>?_;simp[e];refine dX m lY λ_ m=>?_;exact au
def CT(T:dx)(a:pE T){H:cW}{a0:List Fm}{a1:Sq}{a2:Pf}{a3:Fm}{b:Int}(hm:pO a0 a1 a2 a3=some b):du prog T 40 [sL Fm.av a0,Sq.av a1,Pf.av a2,Fm.av a3] H (sI b) H:=by
 rw[pO] at hm;have e:=a;refine wi acX func40 [] [] 999 ?_;simp[e];refine g_ hm (yR T a) λ_ _ m=>?_;refine Il e m λe m=>?_;simp[e];refine dX m (tA T a) λ_ m=>?_;refine Il e m λe m=>?_;simp[e];refine dX m (tr T a) λ_ m=>?_;exact au
def ES:C4 prog 41 qq sI (sL Fm.av) Sq.av Pf.av Fm.av:=by
 refine v4 func41 λT H a0 a1 a2 a3 r m e=>?_;rw[qq] at m;simp[e];refine g_ m mS λ_ _ m=>?_;refine Il e m λe m=>?_;simp[e];refine dX m qm λ_ m=>?_;refine Il e m λe m=>?_;simp[e];refine dX m vX λ_ m=>?_;exact au
end Go.Proofs.YtobcafblgapgfaaGreatDoor
