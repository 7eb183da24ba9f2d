/- Part of the proof of TheoryBegins: walks. -/
import Derived.Test.YtjgjcpnoaeljkaaGreatDoorAW2
set_option linter.all false
set_option maxRecDepth 20000
set_option maxHeartbeats 4000000
namespace Go.Proofs.YtjgjcpnoaeljkaaGreatDoor
open Go Go.kQ Go.eZ Tryz
def E2:C2 prog 85 sk sI (sL Fm.av) Sq.av:=by
 refine v2 func85 λT H a0 a1 r m e=>?_;rw[sk] at m;refine sw [7,0] ?_;intro e m;refine Wa e m 999 17 [15,16] [3] nI [11,0,1,7,7,0] ?_;intro _ _ _ e m;exact Wb e m 999 40 [38,39] [3] nI
@[reducible,instance] def TM:=fM 85 @E2
def HY:C1 prog 92 o7 (t2 d_.av sB) sI:=by
 refine u1 6 func92 λT H a0 r m e=>?_;rw[o7] at m;simp[e];refine wA 999 0 [4] [2] (λf=>f.1 5=sB (ep (dj a0 1) true (dj a0 2))) [13] (λ_ g=>?_) ?_
 .rcases Pb (dj a0 1) e with e|e
  .exact aj
  exact aj
 intro _ e m;apply wg 1;simp[e];refine wA 999 0 [4] [2] (λf=>f.1 9=sB (ep (dj a0 3) true (dj a0 7))) [13] (λ_ g=>?_) ?_
 .rcases Pb (dj a0 3) e with e|e
  .exact aj
  exact aj
 intro _ e m;apply wg 1;simp[e];refine wA 999 0 [4] [2] (λf=>f.1 13=sB (ep (dj a0 4) true (ep (dj a0 5) true (dj a0 20)))) [13] (λ_ g=>?_) ?_
 .rcases Pb (dj a0 4) e with e|e
  .exact aj
  rcases Pb (dj a0 5) e with e|e
  .exact aj
  exact aj
 intro _ e m;refine sg 3 [0,13] ?_;intro e m;apply wg 1;simp[e];refine wA 999 0 [4] [2] (λf=>f.1 21=sB (ep (dj a0 8) true (dj a0 12))) [13] (λ_ g=>?_) ?_
 .rcases Pb (dj a0 8) e with e|e
  .exact aj
  exact aj
 intro _ e m;apply wg 1;simp[e];refine wA 999 0 [4] [2] (λf=>f.1 25=sB (ep (dj a0 9) true (dj a0 13))) [13] (λ_ g=>?_) ?_
 .rcases Pb (dj a0 9) e with e|e
  .exact aj
  exact aj
 intro _ e m;apply wg 1;simp[e];refine wA 999 0 [4] [2] (λf=>f.1 29=sB (ep (dj a0 10) true (dj a0 14))) [13] (λ_ g=>?_) ?_
 .rcases Pb (dj a0 10) e with e|e
  .exact aj
  exact aj
 intro _ e m;apply wg 1;simp[e];refine wA 999 0 [4] [2] (λf=>f.1 33=sB (ep (dj a0 11) true (dj a0 15))) [13] (λ_ g=>?_) ?_
 .rcases Pb (dj a0 11) e with e|e
  .exact aj
  exact aj
 intro _ e m;apply wg 1;simp[e];refine wA 999 999 [4] [2] (λf=>f.1 37=sB (ep (dj a0 16) true (dj a0 17))) [] (λ_ g=>?_) ?_
 .rcases Pb (dj a0 16) e with e|e
  .exact aj
  exact aj
 intro _ e m;exact aa
@[reducible,instance] def Xx:=fM 92 @HY
def H3{n:Nat}:C1 prog 44 (nw n) sB Pf.av:=by
 refine i1 λn ih=>u1 5 func44 λT H a0 r m e=>?_;rw[nw] at m;refine sw [0,2,0] ?_;intro a b e m;refine wA 999 0 [] [1,3] (λf=>f.1 57=sB (ep b (ep (dw (dq a0.dc) a.dc) true (ep (dw (dq a0.eg) a.eg) true (ep (dw (dq a0.aiv) a.aiv) true (ep (pR a0.aix 0) true (ep a.aix false (dw a0.aix 0)))))) true)) [13] (λ_ g=>?_) ?_
 .rcases Pb b e with e|e;rotate_left
  .exact aj
  rcases Pb (dw (dq a0.dc) a.dc) e with e|e
  .exact aj
  rcases Pb (dw (dq a0.eg) a.eg) e with e|e
  .exact aj
  rcases Pb (dw (dq a0.aiv) a.aiv) e with e|e
  .exact aj
  rcases Pb (pR a0.aix 0) e with e|e
  .exact aj
  rcases Pb a.aix e with e|e
  .exact aj
  exact aj
 intro _ e m;apply wg 3;simp[e];refine WA m 999 999 [] [1] (λc f=>f.1 76=sB c) [7,0] (λd _ g m=>?_) ?_
 .apply Ir e m<;>intro e m
  .simp[e];refine p_ m tB λ_ m=>?_;exact hU
  simp[e];refine p_ m sl λ_ m=>?_;apply Iq e m<;>intro e m
  .exact hU
  exact hU
 intro _ c e m;refine Wa e m 999 80 [78,79] [1] nI [11,0] ?_;intro _ _ e m;refine Wa e m 999 91 [89,90] [1] nI [11,0] ?_;intro _ _ e m;exact Wb e m 999 102 [100,101] [] nI
@[reducible,instance] def Xc:=fM 44 @H3
def I5{n:Nat}:C1 prog 93 (qG n) sB Pf.av:=by
 refine i1 λn ih=>v1 func93 λT H a0 r m e=>?_;rw[qG] at m;simp[e];refine Wa e m 999 12 [10,11] [1] nI [11,0] ?_;intro _ _ e m;refine Wa e m 999 23 [21,22] [1] nI [11,0] ?_;intro _ _ e m;exact Wb e m 999 34 [32,33] [] nI
def H6{n:Nat}:C1 prog 94 (qz n) sI Pf.av:=by
 refine i1 λn ih=>v1 func94 λT H a0 r m e=>?_;rw[qz] at m;simp[e];refine Wa e m 999 13 [11,12] [1] (λs2 f=>f.1 3=sI s2) [11,0] ?_;intro _ s2 e m;refine Wa e m 999 25 [23,24] [1] (λa f=>f.1 3=sI a) [11,0] ?_;intro _ a e m;exact Wb e m 999 37 [35,36] [] (λb f=>f.1 3=sI b)
def Ls:C1 prog 45 r_ sB Pf.av:=by
 refine u1 2 func45 λT H a0 r m e=>?_;rw[r_] at m;simp[e];refine WB m 999 999 [] [] (λv2 f=>f.1 2=sB v2) λa _ g m=>?_;simp[e];refine p_ m I5 λ_ m=>?_;apply Ir e m<;>intro e m
 .exact hU
 simp[e];refine p_ m H6 λ_ m=>?_;exact hU
@[reducible,instance] def Y4:=fM 45 @Ls
def HN:C1 prog 23 nx sI Pf.av:=by
 refine v1 func23 λT H a0 r m e=>?_;rw[nx] at m;exact aa
@[reducible,instance] def W4:=fM 23 @HN
def Te:iX prog 224=true:=by kernel_rfl
def ahs(fr:Fr)(L:List Int):Prop:=
 (L=[]/\fr.env 3=.slice .full [])\/∃cap,fr.env 3=.vM 17 (fr.gen 17) L.length cap/\fr.box 17=some (tz (λn=>AV.sc (Value.int .i64 n)) L ((cap-L.length)*1))/\L.length<=cap
def yP(T:dt){H:cZ}{a0:List (Int×Bool)}{r0:List Int}{ak:List (Int×Bool)}{u:Nat}(G:H[u]?=some [om (λb=>AV.sc (Value.bool b)) a0])(hm:pA a0=some (r0,ak)):ds prog T 224 [AV.kT u] H (AV.slice .iB (List.map (λn=>AV.sc (Value.int .i64 n)) r0)) (eR H u [om (λb=>AV.sc (Value.bool b)) ak]):=by
 unfold pA at hm;have⟨aF,hm⟩:=j1 hm;have⟨V,hm⟩:=j1 hm;have an:=en G;simp only[u9,GJ] at hm;have⟨e1,e2⟩:=hm;subst e2;rw[Jr G]
 have V:(a0.map (·.1)).Nodup:=by simpa[w5] using V
 refine ea.qT (Post:=λx K=>x=AV.slice .iB (List.map (λn=>AV.sc (Value.int .i64 n)) r0)/\∃X,K=H++X) ?_ (λ_ _ h=>⟨_,h.2.choose_spec,by rw[h.1];simp[AV.low,AV.gH],h.1,rfl⟩);refine ea.intro (fn:=f224) func224 rfl Te (AU rfl) ?_;refine fl.sr [] λK1 I=>?_;simp;apply I;refine fl.sr [] λK1 I=>?_;simp;apply I;refine fl.td λK1 I=>?_;refine fl.sr [] λK2 aG=>?_;simp[FR,G,om];apply aG;refine fl.yo λQ nn ex x r=>?_
 refine fl.Nj (λm fr h=>∃(seen:List Nat) (L:List Int),m=GK a0.length seen/\L.length+m<=a0.length/\FA L/\(∀x,x∈L↔∃j∈seen,∃p,a0[j]?=some p/\p.1=x)/\H++[[.lU u a0.length seen]]=h/\fr.env 7=.eb H.length 0/\ahs fr L) a0.length ?_ ?_
 .exact⟨[],[],(Pz _).symm,acZ,.nil,acZ,acZ,rfl,.inl ⟨rfl,rfl⟩⟩
 rintro m fr h ⟨seen,L,aH,aV,hA,hL,rfl,J,hs⟩ K3 aI
 have hi:(H++[[AV.lU u a0.length seen]])[H.length]?=some [AV.lU u a0.length seen]:=acZ
 have ho:(H++[[AV.lU u a0.length seen]])[u]?=some [om (λb=>AV.sc (Value.bool b)) a0]:=by simp[an,G]
 refine fl.sr [] λK4 ao=>?_;simp only[Tr,ev,J];refine OG a0 hi ho (λaq=>?_) (λj p W hj=>?_)
 .--aW end
  simp;apply ao;refine fl.td λK5 ar=>?_;refine fl.sE λA B ga Y=>?_;simp;apply Y;refine fl.exit ?_;apply ex;apply I
  have hr:xT [] (a0.map (·.1))=L:=by
   refine FA.eq (zW _ [] .nil V acZ) hA λx=>?_;rw[zC,hL];simp only[v_,false_or,nj];constructor
   .rintro⟨p,W,rfl⟩;have⟨j,hj⟩:=Ye.1 W;exact⟨j,aq j (mH.1 hj).1,p,hj,rfl⟩
   .rintro⟨j,_,p,W,rfl⟩;exact⟨p,Gt W,rfl⟩
  rw[hr] at e1;subst e1;rcases hs with⟨rfl,o⟩|⟨cap,o,l,hle⟩
  .refine fl.sr [] λK6 s=>?_;simp[o];apply s;refine fl.ret ?_;simp[uB,o]
  .refine fl.ae1 3 (f:=λn=>AV.sc (Value.int .i64 n)) (L:=L) (k:=(cap-L.length)*1) (sz:=1) (d:=17) (g:=fr.gen 17) (cap:=cap) (by intro x;simp) (by intro x;simp) (by simp[o]) acZ (by simp[l]) ?_;refine fl.sr [] λK6 s=>?_;simp;apply s;refine fl.ret ?_;simp[uB]
 have aw:j<a0.length:=(mH.1 W).1;have aJ:=SF aw hj
 have aK:(H++[[AV.lU u a0.length (seen++[j])]])[H.length]?=some [AV.lU u a0.length (seen++[j])]:=acZ
 have aL:(H++[[AV.lU u a0.length (seen++[j])]])[u]?=some [om (λb=>AV.sc (Value.bool b)) a0]:=by simp[an,G]
 have eR:eR (H++[[AV.lU u a0.length seen]]) H.length [AV.lU u a0.length (seen++[j])]=H++[[AV.lU u a0.length (seen++[j])]]:=acZ
 rw[eR];have ax:=MI (f:=λb=>AV.sc (Value.bool b)) a0 aK aL W
 have af:p.1∉L:=by
  rw[hL];rintro⟨j',aM,p',aN,he⟩
  have h1:(a0.map (·.1))[j]?=some p.1:=by rw[yA,W];rfl
  have h2:(a0.map (·.1))[j']?=some p.1:=by rw[yA,aN];simp[he]
  have:j=j':=by
   have aO:j<(a0.map (·.1)).length:=by simpa using aw
   exact(List.getElem?_inj aO V).1 (h1.trans h2.symm)
  subst this;exact hj aM
 have aU:a0.length<=lim:=L_ aF;simp;apply ao;refine fl.td λK5 ar=>?_;refine fl.sE λA B ga Y=>?_;simp;apply ga;refine fl.skip ?_;apply ar;refine fl.yo λQ1 aP aX x1 r1=>?_;refine fl.sr [] λK6 s=>?_;simp[J,ax];apply s;refine fl.sr [] λK6 s=>?_
 have hlen:∃y,fr.env 3=y/\B1 prog 22 y=some (.sc (.int .i64 L.length)):=by
  rcases hs with⟨rfl,o⟩|⟨cap,o,l,hle⟩
  .exact⟨_,o,acZ⟩
  .exact⟨_,o,acZ⟩
 have⟨y,hy,ay⟩:=hlen;simp[hy,ay];apply s
 refine fl.af6 (λfr h=>H++[[.lU u a0.length (seen++[j])]]=h/\fr.env 7=.eb H.length 0/\fr.env 4=.sc (.int .i64 p.1)/\fr.env 5=.sc (.int .i64 (L.length:Int))/\∃cap,fr.env 3=.vM 17 (fr.gen 17) (L.length+1) cap/\fr.box 17=some (tz (λn=>AV.sc (Value.int .i64 n)) (L.take L.length++p.1::L.drop L.length) ((cap-(L.length+1))*1))/\L.length+1<=cap) (λK6 s=>?_) ?_
 .refine fl.region [] adD ?_
  have az:fu L [p.1]=L.take L.length++p.1::L.drop L.length:=by simp[fu]
  have aY:(fu L [p.1]).length=L.length+1:=by simp[fu]
  rcases hs with⟨rfl,o⟩|⟨cap,o,l,hle⟩
  .simp[o];refine rf.aaZ (f:=λn=>AV.sc (Value.int .i64 n)) [p.1] Qa ⟨_,ZN⟩ (by intro x;simp) (by simp[xW,lim]) rfl (by first|rfl|simp) λcap Af=>?_;simp;apply s;refine⟨rfl,?_,?_,?_,cap,?_,?_,by simpa using Af⟩<;>simp[J]
  .simp[o];refine rf.lv (f:=λn=>AV.sc (Value.int .i64 n)) L [p.1] (cap:=cap) Qa ⟨_,ZN⟩ (by intro x;simp) (by simp[eO];omega) acZ rfl (by first|rfl|simp) (by simp[l]) hle λg' aA Af=>?_;rw[az] at Af;simp only[az];simp;apply s;refine⟨rfl,?_,?_,?_,aA,?_,?_,by simpa using Af⟩<;>simp[J]
 rintro aZ h6 ⟨rfl,f7,f4,f5,cap,f3,f17,aB⟩
 refine fl.af6 (λfr h=>H++[[.lU u a0.length (seen++[j])]]=h/\fr.env 7=.eb H.length 0/\fr.env 4=.sc (.int .i64 p.1)/\∃(i:Nat) (z:Int),fr.env 5=.sc (.int .i64 (i:Int))/\i<=L.length/\(∀a∈L.drop i,a>p.1)/\(i=0\/∃a,L[i-1]?=some a/\¬a>p.1)/\∃cap,fr.env 3=.vM 17 (fr.gen 17) (L.length+1) cap/\fr.box 17=some (tz (λn=>AV.sc (Value.int .i64 n)) (L.take i++z::L.drop i) ((cap-(L.length+1))*1))/\L.length+1<=cap) (λK7 aQ=>?_) ?_
 .refine fl.yo λQ2 a1 aC x2 r2=>?_
  refine fl.Nj (λi fr h=>H++[[.lU u a0.length (seen++[j])]]=h/\fr.env 7=.eb H.length 0/\fr.env 4=.sc (.int .i64 p.1)/\∃(z:Int),fr.env 5=.sc (.int .i64 (i:Int))/\i<=L.length/\(∀a∈L.drop i,a>p.1)/\∃cap,fr.env 3=.vM 17 (fr.gen 17) (L.length+1) cap/\fr.box 17=some (tz (λn=>AV.sc (Value.int .i64 n)) (L.take i++z::L.drop i) ((cap-(L.length+1))*1))/\L.length+1<=cap) L.length ?_ ?_
  .exact⟨rfl,f7,f4,p.1,f5,gV _,acZ,cap,f3,f17,aB⟩
  clear f7 f4 f5 f3 f17 aB hy ay J hs;rintro i fr h ⟨rfl,J,e4,z,U,C,O,cap,o,l,hle⟩ K8 aR
  have stop:∀fr':Fr,fr'.env 7=.eb H.length 0->fr'.env 4=.sc (.int .i64 p.1)->fr'.env 5=.sc (.int .i64 (i:Int))->fr'.env 3=fr.env 3->fr'.gen=fr.gen->fr'.box=fr.box->(i=0\/∃a,L[i-1]?=some a/\¬a>p.1)->K7 fr' (H++[[.lU u a0.length (seen++[j])]]):=by
   intro fr' g7 g4 g5 g3 gg Y Z;exact aQ _ _ ⟨rfl,g7,g4,i,z,g5,C,O,Z,cap,by rw[g3,o,gg],by rw[Y,l],hle⟩
  refine fl.td λK9 aS=>?_;refine fl.sr [] λa6 ad=>?_;obtain⟨c,F⟩:∃c:Int,c=(i:Int):=⟨_,rfl⟩;rw[<-F] at U;cases i with
  |zero=>
   have Z:lQ c 0=false:=by rw[F];decide
   simp[U,Z];apply ad;refine fl.sE λA B ga Y=>?_;simp;apply Y;refine fl.exit ?_;apply aC;refine stop _ ?_ ?_ ?_ ?_ ?_ ?_ (.inl rfl)<;>simp[J,e4,U,F]
  |succ i=>
   have Z:lQ c 0=true:=by rw[F];simp[lQ]
   obtain⟨c',ah⟩:∃c':Int,c'=(i:Int):=⟨_,rfl⟩
   have R:ed .i64 c 1=c':=by rw[F,ah];exact VS VW
   obtain⟨x,hx⟩:∃x,L[i]?=some x:=⟨_,l9 VW⟩
   have D:(L.take (i+1)++z::L.drop (i+1)).length=L.length+1:=ado
   have ae:dg (L.take (i+1)++z::L.drop (i+1)) c'=some x:=by
    unfold dg;rw[cS VW,ah,z_,tJ (by rw[yg];omega),NB,cS VW,hx]
   have S:0<=c'/\c'<((L.length+1:Nat):Int):=VW
   have q:0<=c/\c<((L.length+1:Nat):Int):=VW
   have ai:=ND (P:=prog) (t:=3) (f:=λn=>AV.sc (Value.int .i64 n)) (k:=(cap-(L.length+1))*1) T2 (by intro x;simp) ae;generalize hM:L.take (i+1)++z::L.drop (i+1)=M at l D ae ai;generalize hN:L.length+1=N at o l hle D S q ai
   have aD:∀fr':Fr,fr'.gen 17=fr.gen 17->fr'.box 17=fr.box 17->sH prog fr' (H++[[AV.lU u a0.length (seen++[j])]]) 3 (.gv 17 (fr.gen 17) (LU c'.toNat 1))=some (.sc (.int .i64 x)):=by
    intro fr' g1 g2;show(if fr.gen 17=fr'.gen 17 then(match fr'.box 17 with|some cs=>lH prog 3 cs (LU c'.toNat 1)|none=>none)else none)=_;rw[cS g1.symm,g2,l];exact ai
   simp[U,o,Z,R,S,aD,e4,-sH];apply ad;have a7:M.length=N:=D
   have v:dg M c=some z:=by
    unfold dg;rw[cS VW,F,z_,<-hM,yf ado];simp[yg,show min (i+1) L.length=i+1 from by omega]
   have w:wF M c x=L.take i++x::L.drop i:=by
    have hd:L.drop i=x::L.drop (i+1):=by
     rw[KR (by omega:i<L.length)]
     congr 1
     exact(mH.1 hx).2
    have ht:L.take (i+1)=L.take i++[x]:=by rw[acj,hx];rfl
    unfold wF;rw[F,z_,<-hM,hd,afe _ _ ado];rw[yg,show min (i+1) L.length=i+1 from by omega,Yg,afV,ht,tD];rfl
   refine fl.sE λA B ga Y=>?_;rcases Bool.eq_false_or_eq_true (lQ x p.1)with hgx|hgx
   .simp[hgx];apply ga;refine fl.skip ?_;apply aS;refine fl.yo λQ3 aT a8 x3 r3=>?_;refine fl.sr [] λa_ aE=>?_;simp[U,o,R,S,q,aD,e4,-sH];refine zd.arr (f:=λn=>AV.sc (Value.int .i64 n)) (L:=M) (k:=(cap-N)*1) x T2 (by intro x;simp) acZ (x:=z) v acZ (by simp[l]) acZ ?_;simp;apply aE;refine fl.region [] adD ?_;simp[U,R];apply aT;rw[w];refine aR _ _ i (Vy _) ⟨rfl,?_,?_,x,?_,VW,?_,cap,?_,?_,by rw[hN];exact hle⟩
    .simp[J]
    .simp[e4]
    .simp[ah]
    .intro a ha
     have hd:L.drop i=x::L.drop (i+1):=by
      rw[KR (by omega:i<L.length)]
      congr 1
      exact(mH.1 hx).2
     rw[hd] at ha;rcases j8.1 ha with rfl|ha
     .simpa[lQ] using hgx
     .exact O a ha
    .simp[o,hN]
    .simp[hN]
   .simp[hgx];apply Y;refine fl.exit ?_;apply aC;refine stop _ ?_ ?_ ?_ ?_ ?_ ?_ (.inr ⟨x,by simpa using hx,by simpa[lQ] using hgx⟩)<;>simp[J,e4,U,o,F]
 rintro fr h ⟨rfl,J,e4,i,z,U,C,O,Z,cap,o,l,hle⟩;refine fl.region [] adD ?_;obtain⟨c,F⟩:∃c:Int,c=(i:Int):=⟨_,rfl⟩;rw[<-F] at U
 have D:(L.take i++z::L.drop i).length=L.length+1:=ado
 have v:dg (L.take i++z::L.drop i) c=some z:=by
  unfold dg;rw[cS VW,F,z_,yf ado];simp[yg,Ti C]
 have w:wF (L.take i++z::L.drop i) c p.1=AP p.1 L:=by
  rw[PU L i hA af C O Z];unfold wF;rw[F,z_,afe _ _ ado,yg,Ti C,Yg,afV]
 have q:0<=c/\c<((L.length+1:Nat):Int):=VW
 have hlen:(AP p.1 L).length=L.length+1:=by rw[PU L i hA af C O Z];simp;omega
 generalize hM:L.take i++z::L.drop i=M at l D v w;generalize hN:L.length+1=N at o l hle D q hlen;simp[U,o,e4,q];refine zd.arr (f:=λn=>AV.sc (Value.int .i64 n)) (L:=M) (k:=(cap-N)*1) p.1 T2 (by intro x;simp) acZ (x:=z) v acZ (by simp[l]) acZ ?_;simp;apply aP;rw[w];refine aI _ _ _ (by rw[aH];exact aJ) ⟨seen++[j],AP p.1 L,rfl,VW,F4 p.1 L af hA,?_,rfl,?_,.inr ⟨cap,?_,?_,by rw[hlen];exact hle⟩⟩
 .intro x;rw[yw,hL];constructor
  .rintro(rfl|⟨j',h1,p',h2,h3⟩)
   .exact⟨j,acZ,p,W,rfl⟩
   .exact⟨j',by simp[h1],p',h2,h3⟩
  .rintro⟨j',h1,p',h2,h3⟩;rcases rl.1 h1 with h1|h1
   .exact .inr ⟨j',h1,p',h2,h3⟩
   .simp only[yy] at h1;subst h1;rw[W] at h2;obtain rfl:=fU h2;exact .inl h3.symm
 .simp[J]
 .simp[o,hlen]
 .simp[hlen]
def km(T:dt){H:cZ}{a0 a1 c:List Int}(hm:fq a0 a1=some c):ds prog T 172 [sL sI a0,sL sI a1] H (sL sI c) H:=by
 rw[fq] at hm;refine ea.qT (Post:=λx K=>x=sL sI c/\∃X,K=H++X) ?_ (λ_ _ h=>⟨_,h.2.choose_spec,by rw[h.1];simp[AV.low,AV.gH],h.1,rfl⟩);have e:=trivial;refine wi aiz func172 [] [] 999 ?_;simp[e];refine XC e hm 999 (λd s2 f h=>h=H++[[om sB s2]]/\f.1 1=sL sI a1/\f.1 5=AV.kT (List.length H)/\f.1 11=sL sI a0/\f.1 12=sI (dq a0)/\f.1 13=sI d) adg (λd _ s2 _ _ _ _ _ E e m z p=>?_) (λs2 _ _ _ E m=>?_)
 .have e:=Aj e E;simp[e];refine se.i64 (f:=sB) s2 true T5 tm adg adg ?_;exact al
 have e:=Aj e E;refine sw [11,0] ?_;intro e m;refine Wr e m 999 (λb a f h=>h=H++[[om sB a]]/\f.1 5=AV.kT (List.length H)/\f.1 20=sL sI a1/\f.1 21=sI (dq a1)/\f.1 22=sI b) adg (λa _ _ _ E m=>?_) (λb _ a _ _ _ _ _ E e m z p=>?_)
 .have e:=Aj e E;dsimp only[dk]at m;simp[e];refine sy m (yP T adg) λ_ d22 m=>?_;exact au
 have e:=Aj e E;simp[e];refine se.i64 (f:=sB) a true T5 tm adg adg ?_;exact al
@[reducible,instance] def W9:=fM 172 @km
def my:C3 prog 173 du sI cX.av sI sI:=by
 refine u3 3 func173 λT H a0 a1 a2 r m e=>?_;rw[du] at m;simp[e];refine wB 999 999 [] [] (λf=>f.1 20=sB (ep (lQ (dF .i64 (dq a0.aiy) a1) 16) true (lQ (dF .i64 (dq a0.aiB) a2) 16))) λ_ g=>?_;exact aa
@[reducible,instance] def Of:=fM 173 @my
def ml:C2 prog 174 fg cX.av cX.av Fm.av:=by
 refine v2 func174 λT H a0 a1 r m e=>?_;rw[fg] at m;refine sw [9,0] ?_;intro e m;refine Ad (f:=Fm.av) a0.aiB [a1] (ik.full (D:=[])) C6 e.2 ?_;exact au
@[reducible,instance] def M5:=fM 174 @ml
def Lc{n:Nat}:C2 prog 61 (jD n) sB Tm.av Tm.av:=by
 refine i2 λn ih=>u2 3 func61 λT H a0 a1 r m e=>?_;rw[jD] at m;simp[e];refine WA m 999 999 [] [2,3] (λv2 f=>f.1 34=sB v2) [7,0] (λa _ g m=>?_) ?_
 .apply Iq e m<;>intro e m
  .exact hU
  apply Iq e m<;>intro e m
  .exact hU
  simp[e];refine p_ m ir λ_ m=>?_;apply Ir e m<;>intro e m
  .exact hU
  exact hU
 intro _ v2 e m;exact Wb e m 999 38 [37] [2,3] nI
@[reducible,instance] def YA:=fM 61 @Lc
def vO{n:Nat}:C2 prog 306 (kB n) sB Tm.av sI:=by
 refine i2 λn ih=>v2 func306 λT H a0 a1 r m e=>?_;rw[kB] at m;refine sw [7,0] ?_;intro e m;exact Wb e m 999 14 [1,12,13] [] nI
@[reducible,instance] def Xf:=fM 306 @vO
def KH:C1 prog 328 uF sB Tm.av:=by
 refine u1 8 func328 λT H a0 r m e=>?_;rw[uF] at m;refine sw [0,13] ?_;intro e m;apply wg 3;simp[e];apply Iq e m<;>intro e m
 .apply wg 1;simp[e];refine WB m 999 999 [] [] (λv3 f=>f.1 2=sB v3) λb _ g m=>?_;have⟨c,e,m⟩:=Ah e m;apply Iq e m<;>intro e m
  .exact hU
  exact hU
 apply wg 4;apply Iq e m<;>intro e m
 .simp[e];refine WB m 999 999 [] [] (λv9 f=>f.1 2=sB v9) λd _ g m=>?_;have⟨a,e,m⟩:=Ah e m;apply Iq e m<;>intro e m
  .exact hU
  exact hU
 simp[e];refine wA 999 999 [] [1] (λf=>f.1 45=sB (ep (dj a0.aiu 11) true (dj a0.aiu 12))) [] (λ_ g=>?_) ?_
 .rcases Pb (dj a0.aiu 11) e with e|e
  .exact aj
  exact aj
 intro _ e m;exact aa
def IW:C1 prog 167 kC sI Tm.av:=by
 refine v1 func167 λT H a0 r m e=>?_;rw[kC] at m;exact aa
@[reducible,instance] def XB:=fM 167 @IW
def IH{n:Nat}:C2 prog 326 (mo n) sI Tm.av sI:=by
 refine i2 λn ih=>u2 4 func326 λT H a0 a1 r m e=>?_;rw[mo] at m;simp[e];refine wA 0 999 [1] [2] (λf=>f.1 5=sI (ep (ep (dj a0.aiu 1) (dj a0.aix a1) false) (dF .i64 0 1) 0)) [0] (λ_ g=>?_) ?_
 .refine wA 999 999 [1,5] [2] (λf=>f.1 16=sB (ep (dj a0.aiu 1) (dj a0.aix a1) false)) [] (λ_ g=>?_) ?_
  .exact aa
  intro _ e m;rcases Pb (ep (dj a0.aiu 1) (dj a0.aix a1) false) e with e|e
  .exact aj
  exact aj
 intro _ e m;exact Wb e m 999 22 [1,20,21] [2] (λa f=>f.1 5=sI a)
@[reducible,instance] def W6:=fM 326 @IH
def Gw:C1 prog 329 re sI Tm.av:=by
 refine v1 func329 λT H a0 r m e=>?_;rw[re] at m;exact aa
def PB{n:Nat}:C3 prog 123 (pY n) Tm.av Tm.av sI sI:=by
 refine i3 λn ih=>u3 4 func123 λT H a0 a1 a2 r m e=>?_;rw[pY] at m;simp[e];refine wA 0 999 [1,2] [3,6] (λf=>bx f 7 [sI a0.aiu,sI (ep (ep (dj a0.aiu 1) (pH a0.aix a1) false) (dF .i64 a0.aix a2) a0.aix),sI a0.cT.aiu,sL Ty.av a0.cT.aiv,nL]) [0] (λ_ g=>?_) ?_
 .refine wA 999 999 [1,2] [3,6,7] (λf=>f.1 25=sB (ep (dj a0.aiu 1) (pH a0.aix a1) false)) [] (λ_ g=>?_) ?_
  .exact aa
  intro _ e m;rcases Pb (ep (dj a0.aiu 1) (pH a0.aix a1) false) e with e|e
  .exact aj
  exact aj
 intro _ e m;refine Td e m 999 34 [1,2,32,33] [3,6] [48] (λc=>c) (λc a f=>bx f 7 [sI a0.aiu,sI (ep (ep (dj a0.aiu 1) (pH a0.aix a1) false) (dF .i64 a0.aix a2) a0.aix),sI a0.cT.aiu,sL Ty.av a0.cT.aiv,sT a Tm.av c]) λi _ c d _ _ _ _ E e m z p=>?_;have⟨a,E,b⟩:=E;refine sw [20,0,4,0,18,9,0] ?_;intro _ h e m;refine Ad (f:=Tm.av) c [h] b BC e.2 ?_;simp[e];cases m;exact p _ _ _ ⟨(.loc 48 (d.ef 48+1)),adg,(On 48)⟩ z
@[reducible,instance] def aa7:=fM 123 @PB
def Pg{n:Nat}:C4 prog 327 (uA n) Tm.av Tm.av sI sI Tm.av:=by
 refine i4 λn ih=>v4 func327 λT H a0 a1 a2 a3 r m e=>?_;rw[uA] at m;refine sw [13,0] ?_;intro e m;refine Td e m 999 47 [1,2,45,46] [4,7,8] [62] (λb=>b) (λb a f=>bx f 9 [sI a0.aiu,sI a0.aix,sI a0.cT.aiu,sL Ty.av a0.cT.aiv,sT a Tm.av b]) λi _ b d _ _ _ _ E e m z p=>?_;have⟨a,E,c⟩:=E;refine sw [20,0,4,0,18,9,0] ?_;intro _ h e m;refine Ad (f:=Tm.av) b [h] c BC e.2 ?_;simp[e];cases m;exact p _ _ _ ⟨(.loc 62 (d.ef 62+1)),adg,(On 62)⟩ z
@[reducible,instance] def abV:=fM 327 @Pg
def EI:C1 prog 330 p8 Tm.av Tm.av:=by
 refine v1 func330 λT H a0 r m e=>?_;rw[p8] at m;exact aa
def SP:iX prog 309=true:=by kernel_rfl
def IL:∀(n:Nat),C2 prog 309 (o0 n) (t3 Tm.av sB sB) Tm.av sI:=by
  intro n
  induction n with
  |zero=>
    skip
    all_goals(intro _ _;intros;rename_i hm;cases hm)
  |succ n ih=>
 rintro T H a0 a1 ⟨r0,r1,r2⟩ hm;rw[o0] at hm;refine ea.intro (fn:=f309) func309 rfl SP (AU rfl) ?_;refine fl.sr [] λK1 aZ=>?_;simp;apply aZ;refine fl.td λK3 a6=>?_;refine fl.sr [] λK5 a7=>?_;have⟨x7,a8,N⟩:=dm hm;clear hm
 try dsimp only at N
 simp;refine iq.fn (KH a8) ?_;simp;apply a7;refine fl.sE λbs bt aw ax=>?_;rcases gS N with⟨a,O⟩|⟨a,P⟩
 .clear N;simp[a];apply aw;refine fl.td λbu ay=>?_;refine fl.sr [] λbw az=>?_;have⟨bz,aA,B⟩:=dm O;clear O
  try dsimp only at B
  simp[a];refine iq.fn (Gw aA) ?_;simp[a];apply az;refine fl.sE λbA bB aB aC=>?_;rcases gS B with⟨s,Q⟩|⟨s,R⟩
  .clear B;simp[a,s];apply aB;refine fl.sr [] λbC aD=>?_;simp[a,s];apply aD;refine fl.ret ?_;simp only[u9,GJ] at Q;obtain⟨rfl,rfl,rfl⟩:=Q;simp[uB,a,s]
  clear B;simp[a,s];apply aC;refine fl.skip ?_;apply ay;refine fl.sr [] λbD aE=>?_;have⟨bE,aF,G⟩:=dm R;clear R
  try dsimp only at G
  simp[a,s];refine iq.fn (EI aF) ?_;simp[a,s];apply aE;refine fl.ret ?_;simp only[u9,GJ] at G;obtain⟨rfl,rfl,rfl⟩:=G;simp[uB,a,s]
 clear N;simp[a];apply ax;refine fl.skip ?_;apply a6;refine fl.td λbF aG=>?_;refine fl.sr [] λbG aH=>?_;simp[a];apply aH;have⟨V,S⟩:=j1 P;clear P;have⟨a_,aI,I⟩:=kV S;clear S
 try dsimp only at I
 have⟨W,t,r⟩:=dm I;clear I;refine fl.yo λbH a' aJ ba aK=>?_;refine fl.Nj (λn55 fr h=>∃(i56:Nat) (F:Int) (u:Nat) (v:Nat),H=h/\(fr.env 1=sI a1/\fr.env 2=AV.gv 2 u 0/\fr.env 4=AV.gv 4 v 0/\fr.env 23=sL Tm.av a0.aiv/\fr.env 24=sI (dq a0.aiv)/\fr.env 25=sI F/\fr.gen 2=u/\fr.box 2=some [sI a0.aiu,sI a0.aix,sI a0.cT.aiu,sL Ty.av a0.cT.aiv,sL Tm.av a0.aiv]/\fr.gen 4=v/\fr.box 4=some [sI 0,sI 0,sI 0,nL,nL])/\F=(i56:Int)/\i56+n55=List.length a0.aiv/\dH a_ (List.drop i56 a0.aiv) i56 ()=some W) (List.length a0.aiv) ?_ ?_
 .refine⟨0,0,1,1,?_,⟨?_,?_,?_,?_,?_,?_,?_,?_,?_,?_⟩,rfl,acZ,t⟩<;>first|rfl|simp[a]
 rintro n55 U bI ⟨i56,F,u,v,rfl,j,A,bb,t⟩ bJ aL;rcases n55 with _|n55
 .have b:=Nc (l:=a0.aiv) A VW;refine fl.sr [] λbK aM=>?_;simp[j,b,a];apply aM;refine fl.td λbL bc=>?_;refine fl.sE λbM bN bd aN=>?_;simp[j,b,a];apply aN;refine fl.exit ?_;apply aJ;rw[IB VW,nY] at t;obtain rfl:=fU t;rw[dk] at r
  try dsimp only at r
  apply aG;refine fl.sr [] λbO aO=>?_;simp[j,b,a];apply aO;refine fl.ret ?_;simp only[u9,GJ] at r;obtain⟨rfl,rfl,rfl⟩:=r;simp[uB,j,b,a]
 have b:=QV (l:=a0.aiv) A VW;have⟨bP,X,i⟩:=N7 (l:=a0.aiv) A VW;rw[X,dJ] at t;have⟨bQ,C,D⟩:=dm t;clear t;rw[aI,<-A] at C
 try dsimp only at C
 refine fl.sr [] λbR aP=>?_;simp[j,b,i,a];apply aP;refine fl.td λbS aQ=>?_;refine fl.sE λbT bU aR bf=>?_;simp[j,b,i,a];apply aR;refine fl.skip ?_;apply aQ;refine fl.td λbV aS=>?_;refine fl.yo λbW bg aT bh aU=>?_;refine fl.sr [] λbX aV=>?_;simp[j,b,i,a];apply aV;refine fl.sr [] λbY aW=>?_;have⟨Y,bZ,bj,Z,w⟩:=uN C;clear C
 try dsimp only at w
 simp[j,b,i,a];refine iq.fn (ih Z) ?_;simp[j,b,i,a];apply aW;refine fl.td λbk ad=>?_;refine fl.sr [] λbl ae=>?_;simp[j,b,i,a];apply ae;refine fl.sE λbm bn af ah=>?_;rcases gS w with⟨c,J⟩|⟨c,ai⟩;rotate_left
 .clear w;simp[j,b,i,a,c];apply af;refine fl.exit ?_;apply aT;apply aS;refine fl.region [] adD ?_;simp[j,b,i,a,c];obtain rfl:=fU ai;rw[dQ] at D
  refine aL _ _ n55 (Vy _) ⟨(i56+1),(dF .i64 F 1),u,v,?_,⟨?_,?_,?_,?_,?_,?_,?_,?_,?_,?_⟩,(JI A VW V),VW,D⟩<;>first|rfl|simp[j,b,i,a,c]
 clear w;simp[j,b,i,a,c];apply ah;refine fl.skip ?_;apply ad;refine fl.sr [] λbo ak=>?_;simp[j,b,i,a,c];apply ak;refine fl.sr [] λbp an=>?_;have⟨ao,K⟩:=j1 J;clear J;simp[j,b,i,a,c];refine rf.aaZ (f:=Tm.av) a0.aiv BC ⟨_,ab'⟩ (by intro x;simp) ao (by first|rfl|simp) (by first|rfl|simp) λy aX=>?_;simp[j,b,i,a,c];apply an;refine fl.sr [] λbq aq=>?_;have⟨aY,o,M⟩:=dm K;clear K
 try dsimp only at M
 have q:=FK o;simp[j,b,i,o,q,a,c];refine zd.arr (f:=Tm.av) (L:=a0.aiv) (k:=((y-List.length a0.aiv)*5)) Y ZP (by intro x;simp) (by simp[j,b,i,o,q,a,c]) (x:=aY) (by assumption) (by simp[j,b,i,o,q,a,c]) (by simp[j,b,i,o,q,a,c]) (by simp[j,b,i,o,q,a,c]) ?_;simp[j,b,i,o,q,a,c];apply aq;refine fl.td λbr ar=>?_;refine fl.ahk 12 4 (cs2:=[sI a0.aiu,sI a0.aix,sI a0.cT.aiu,sL Ty.av a0.cT.aiv,AV.vM 42 (U.gen 42+1) (List.length (wF a0.aiv F Y)) y]) (f:=Tm.av) (L:=(wF a0.aiv F Y)) (k:=((y-List.length a0.aiv)*5)) (sz:=5) (d:=42) (g:=(U.gen 42+1)) (cap:=y) (by intro x;simp) (by intro x;simp) ab9 (by simp[j,b,i,o,q,a,c]) (by simp[j,b,i,o,q,a,c]) (by simp[j,b,i,o,q,a,c]) (by simp[j,b,i,o,q,a,c]) ?_;refine fl.region [] adD ?_;simp[j,b,i,o,q,a,c];apply ar;refine fl.ret ?_;apply aU;apply aK;obtain rfl:=fU M;rw[zu] at D;obtain rfl:=fU D;rw[pd] at r
 try dsimp only at r
 simp only[u9,GJ] at r;obtain⟨rfl,rfl,rfl⟩:=r;simp[uB,j,b,i,o,q,a,c]
def Ke{n:Nat}:=@IL n
@[reducible,instance] def YN:=fM 309 @Ke
def GG:C2 prog 271 k8 (t3 Tm.av sI sI) Tm.av sI:=by
 refine u2 7 func271 λT H a0 a1 r m e=>?_;rw[k8] at m;refine sw [0,1,0,13] ?_;intro _ e m;apply wg 3;simp[e];refine WA m 999 999 [] [2,4] (λv3 f=>f.1 1=sI a1/\f.1 28=sB v3) [7,0] (λi _ g m=>?_) ?_
 .apply Iq e m<;>intro e m
  .exact hU
  apply Iq e m<;>intro e m
  .exact hU
  simp[e];refine p_ m vO λ_ m=>?_;exact hU
 intro _ v3 e m;refine Wn m 999 (λa f h=>h=H/\f.1 1=sI a1/\f.1 8=sI a.1/\bx f 2 [sI a.2.1,sI a.2.2.1,sI a.2.2.2.1,sL Ty.av a.2.2.2.2.1,sL Tm.av a.2.2.2.2.2]/\bx f 4 [sI 0,sI 0,sI 0,nL,nL]) adg (λa _ _ _ _ _ E m z p=>?_);have⟨b,v17,c,d,v20,v21⟩:=a;have e:=Aj e E;dsimp only[yu]at m;exact aa
@[reducible,instance] def Vj:=fM 271 @GG
def Iw:C3 prog 267 qM sI Tm.av Tm.av sI:=by
 refine v3 func267 λT H a0 a1 a2 r m e=>?_;rw[qM] at m;exact aa
@[reducible,instance] def Xi:=fM 267 @Iw
def II{n:Nat}:C2 prog 225 (pk n) sI Fm.av Fm.av:=by
 refine i2 λn ih=>u2 3 func225 λT H a0 a1 r m e=>?_;rw[pk] at m;simp[e];refine WA m 999 999 [] [2,3] (λv2 f=>f.1 21=sB v2) [7,0] (λa _ g m=>?_) ?_
 .apply Iq e m<;>intro e m
  .exact hU
  simp[e];refine p_ m ir λ_ m=>?_;exact hU
 intro _ v2 e m;refine Wa e m 999 25 [24] [2,3] nI [11,0] ?_;intro _ _ e m;exact Wb e m 999 46 [45] [2,3] nI
@[reducible,instance] def Xa:=fM 225 @II
def AG:C2 prog 175 nu sI Fm.av Fm.av:=by
 refine v2 func175 λT H a0 a1 r m e=>?_;rw[nu] at m;exact aa
@[reducible,instance] def Xu:=fM 175 @AG
def IK:C1 prog 124 mj sI Fm.av:=by
 refine v1 func124 λT H a0 r m e=>?_;rw[mj] at m;simp[e];refine p_ m uS λ_ m=>?_;refine Il e m λe m=>?_;exact au
@[reducible,instance] def Xw:=fM 124 @IK
def si{n:Nat}:C3 prog 77 (fN n) Fm.av Fm.av sI sI:=by
 refine i3 λn ih=>v3 func77 λT H a0 a1 a2 r m e=>?_;rw[fN] at m;simp[e];refine Tc e m 999 20 [1,2,18,19] [3,6] [31] (λs2=>s2) (λs2 c f=>bx f 7 [sI a0.aiu,sI a0.cT.aiu,sL Ty.av a0.cT.aiv,sT c Tm.av s2,nL]) [11,0] (λu _ s2 o _ _ _ _ E e m z p=>?_) ?_
 .have⟨c,E,i⟩:=E;refine sw [20,0,4,9,0] ?_;intro s e m;refine Ad (f:=Tm.av) s2 [s] i BC e.2 ?_;simp[e];cases m;exact p _ _ _ ⟨(.loc 31 (o.ef 31+1)),adg,(On 31)⟩ z
 intro o s2 c i e m;refine Wr e m 999 (λq j f h=>∃a b,(h=H/\f.1 1=sI a1/\f.1 2=sI a2/\f.1 35=sL Fm.av a0.aiv/\f.1 36=sI (dq a0.aiv)/\f.1 37=sI q/\bx f 3 (Fm.av a0).cells/\bx f 6 [sI 0,sI 0,nL,nL,nL]/\bx f 7 [sI a0.aiu,sI a0.cT.aiu,sL Ty.av a0.cT.aiv,sT a Tm.av s2,sT b Fm.av j])/\Ow f [31] a s2/\Ow f [51] b j) (by exact⟨c,.full,adg,i,ik.full⟩) (λj l _ _ E m=>?_) (λq _ j l _ _ _ _ E e m z p=>?_)
 .have⟨a,b,E,k,d⟩:=E;exact aa
 have⟨a,b,E,k,d⟩:=E;refine sw [10,0,4,0,18,9,0] ?_;intro _ t e m;refine Ad (f:=Fm.av) j [t] d C6 e.2 ?_;simp[e];cases m;exact p _ _ _ ⟨a,(.loc 51 (l.ef 51+1)),adg,(ik.other k d ab9 ab9),(On 51)⟩ z
@[reducible,instance] def aaN:=fM 77 @si
def oi:C2 prog 226 ei cX.av cX.av (sL Ty.av):=by
 refine v2 func226 λT H a0 a1 r m e=>?_;rw[ei] at m;refine sw [9,0] ?_;intro e m;refine Ad (f:=Ty.av) a0.aiy a1 (ik.full (D:=[])) Hi e.2 ?_;simp[e];refine Wr e m 999 (λk s2 f h=>∃a b,(h=H/\f.1 1=sL Ty.av a1/\f.1 23=sL Fm.av a0.aiB/\f.1 24=sI (dq a0.aiB)/\f.1 25=sI k/\bx f 4 [nL,nL,nL]/\bx f 5 [sL Fm.av a0.lemmas,sT a Ty.av (fu a0.aiy a1),sT b Fm.av s2])/\Ow f [20] a (fu a0.aiy a1)/\Ow f [36] b s2) (by exact⟨(.loc 20 1),.full,adg,(On 20),ik.full⟩) (λs2 i _ _ E m=>?_) (λk _ s2 i _ _ _ _ E e m z p=>?_)
 .have⟨a,b,E,d,c⟩:=E;exact aa
 have⟨a,b,E,d,c⟩:=E;refine sw [10,0,4,9,0] ?_;intro j e m;refine Ad (f:=Fm.av) s2 [j] c C6 e.2 ?_;simp[e];cases m;exact p _ _ _ ⟨a,(.loc 36 (i.ef 36+1)),adg,(ik.other d c ab9 ab9),(On 36)⟩ z
@[reducible,instance] def LS:=fM 226 @oi
def qb:C2 prog 227 fv (sL sI) (sL sI) sI:=by
 refine v2 func227 λT H a0 a1 r m e=>?_;rw[fv] at m;simp[e];refine Td e m 0 10 [1,8,9] [] [22] (λs2=>s2) (λs2 b f=>f.1 5=sT b sI s2) λl k s2 j _ _ _ n E e m z p=>?_;have⟨b,E,c⟩:=E;simp[e]at E;have e:=Aj e E;apply wg 5;simp[e];refine Ep m 999 999 (λi f h=>∃v12 a,(h=H/\f.1 1=sI a1/\f.1 5=sT a sI v12/\f.1 8=sL sI a0/\f.1 9=sI (dq a0)/\f.1 10=sI l)/\Ow f [22] a v12/\i v12=some n) ?_ (λi _ g m=>?_)
 .rintro _ _ ⟨v12,a,E,d,m⟩;have e:=Aj e E;simp[e];cases m;exact p _ _ _ ⟨a,adg,d⟩ z
 apply Ir e m<;>intro e m
 .simp[e];exact g _ _ ⟨s2,b,adg,c,m⟩
 refine sw [9,0] ?_;intro e m;refine Ao (f:=sI) s2 [(ed .i64 k a1)] c Qa e.2 ?_;simp[e];exact g _ _ ⟨(fu s2 [(ed .i64 k a1)]),(.loc 22 (j.ef 22+1)),adg,(On 22),m⟩
@[reducible,instance] def TI:=fM 227 @qb
def Ei:C1 prog 228 qI sB (sL sI):=by
 refine u1 2 func228 λT H a0 r m e=>?_;rw[qI] at m;simp[e];refine WB m 999 999 [] [] (λv2 f=>f.1 2=sB v2) λa _ g m=>?_;apply Ir e m<;>intro e m
 .exact hU
 have⟨b,e,m⟩:=Ah e m;exact hU
@[reducible,instance] def aar:=fM 228 @Ei
def Hz:C2 prog 229 jz (t2 Ty.av sI) (sL Ty.av) Tm.av:=by
 refine v2 func229 λT H a0 a1 r m e=>?_;rw[jz] at m;exact aa
@[reducible,instance] def Wz:=fM 229 @Hz
def H4(T:dt):∀(n:Nat),(∀{H:cZ} {a0:Tm} {a1:Int} {a2:(List (Int×Bool))} {a:(List (Int×Bool))} {o2:Nat} (b:H[o2]?=some [om sB a2]) (hm:qp n a0 a1 a2=some a),ds prog T 304 [Tm.av a0,sI a1,AV.kT o2] H (AV.tuple []) (eR H o2 [om sB a])):=by
  intro n
  induction n with
  |zero=>
    skip
    all_goals(intro _ _;intros;rename_i hm;cases hm)
  |succ n ih=>
 intro H a0 a1 a2 a o2 b hm;rw[qp] at hm;have i:=en b;refine ea.IC b ?_;have e:=i;refine wi aiz func304 [] [] 2 ?_;simp[e];refine Wj hm 0 999 (λj f h=>∃(v2:(List (Int×Bool))),(h=eR H o2 [om sB v2]/\f.1 1=sI a1/\f.1 2=AV.kT o2/\f.1 3=AV.gv 3 (f.gen 3) 0/\f.box 3=some (Tm.av a0).cells)/\j v2=some a) (λj _ g m=>?_) ?_
 .refine wj 999 999 (λf h=>h=eR H o2 [om sB a2]/\f.1 1=sI a1/\f.1 2=AV.kT o2/\f.1 16=sB (ep (dj a0.aiu 1) (pH a0.aix a1) false)/\bx f 3 (Tm.av a0).cells) (λ_ g=>?_) ?_
  .exact aa
  rintro _ _ E;have e:=Aj e E;apply Ir e m<;>intro e m
  .exact hU
  simp[e];refine se.i64 (f:=sB) a2 true T5 tm adg adg ?_;exact hU
 rintro _ _ ⟨v2,E,m⟩;have e:=Aj e E;simp[e];refine Wr e m 999 (λd c f h=>h=eR H o2 [om sB c]/\f.1 1=sI a1/\f.1 2=AV.kT o2/\f.1 23=sL Tm.av a0.aiv/\f.1 24=sI (dq a0.aiv)/\f.1 25=sI d/\bx f 3 (Tm.av a0).cells) adg (λc _ _ _ E m=>?_) (λd _ c _ _ _ _ _ E e m z p=>?_)
 .exact aa
 refine sw [10,0,4,0] ?_;intro _ e m;refine lI m (ih adg) λd20 m=>?_;exact al
def Lb(T:dt){n:Nat}:=@H4 T n
def Lr(T:dt){H:cZ}{a0:Tm}{a:List Int}{b:Int}(hm:uu a0=some (a,b)):ds prog T 268 [Tm.av a0] H (AV.tuple [sL sI a,sI b]) H:=by
 rw[uu] at hm;refine ea.qT (Post:=λx K=>x=AV.tuple [sL sI a,sI b]/\∃X,K=H++X) ?_ (λ_ _ h=>⟨_,h.2.choose_spec,by rw[h.1];simp[AV.low,AV.gH],h.1,rfl⟩);have e:=trivial;refine wi aiz func268 [] [] 999 ?_;simp[e];refine p_ hm AA λ_ m=>?_;refine Il e m λe m=>?_;simp[e];refine p_ m (Lb T adg) λd2 m=>?_;simp[e];refine sy m (yP T adg) λ_ d4 m=>?_;exact au
@[reducible,instance] def XJ:=fM 268 @Lr
def tH:C1 prog 230 jJ (sL sI) Tm.av:=by
 refine v1 func230 λT H a0 r m e=>?_;rw[jJ] at m;exact aa
@[reducible,instance] def ZC:=fM 230 @tH
def IU{n:Nat}:C2 prog 305 (oJ n) sB Fm.av sI:=by
 refine i2 λn ih=>v2 func305 λT H a0 a1 r m e=>?_;rw[oJ] at m;simp[e];refine Wa e m 999 12 [1,10,11] [2] nI [11,0] ?_;intro _ _ e m;exact Wb e m 999 24 [1,22,23] [] nI
def H8{n:Nat}:C2 prog 307 (pg n) sI Fm.av sI:=by
 refine i2 λn ih=>v2 func307 λT H a0 a1 r m e=>?_;rw[pg] at m;simp[e];refine Wa e m 999 13 [1,11,12] [2] (λs2 f=>f.1 5=sI s2) [11,0] ?_;intro _ s2 e m;exact Wb e m 999 26 [1,24,25] [2] (λa f=>f.1 5=sI a)
@[reducible,instance] def Xe:=fM 307 @H8
def PH{n:Nat}:C4 prog 308 (wh n) Fm.av Fm.av sI sI Tm.av:=by
 refine i4 λn ih=>v4 func308 λT H a0 a1 a2 a3 r m e=>?_;rw[wh] at m;simp[e];refine Tc e m 999 22 [1,2,20,21] [4,7,8] [34] (λs2=>s2) (λs2 c f=>bx f 9 [sI a0.aiu,sI a0.cT.aiu,sL Ty.av a0.cT.aiv,sT c Tm.av s2,nL]) [11,0] (λu _ s2 o _ _ _ _ E e m z p=>?_) ?_
 .have⟨c,E,i⟩:=E;refine sw [20,0,4,9,0] ?_;intro s e m;refine Ad (f:=Tm.av) s2 [s] i BC e.2 ?_;simp[e];cases m;exact p _ _ _ ⟨(.loc 34 (o.ef 34+1)),adg,(On 34)⟩ z
 intro o s2 c i e m;refine Wr e m 999 (λq j f h=>∃a b,(h=H/\f.1 1=sI a1/\f.1 2=sI a2/\f.1 38=sL Fm.av a0.aiv/\f.1 39=sI (dq a0.aiv)/\f.1 40=sI q/\bx f 4 (Fm.av a0).cells/\bx f 7 (Tm.av a3).cells/\bx f 8 [sI 0,sI 0,nL,nL,nL]/\bx f 9 [sI a0.aiu,sI a0.cT.aiu,sL Ty.av a0.cT.aiv,sT a Tm.av s2,sT b Fm.av j])/\Ow f [34] a s2/\Ow f [55] b j) (by exact⟨c,.full,adg,i,ik.full⟩) (λj l _ _ E m=>?_) (λq _ j l _ _ _ _ E e m z p=>?_)
 .have⟨a,b,E,k,d⟩:=E;exact aa
 have⟨a,b,E,k,d⟩:=E;refine sw [10,0,4,0,18,9,0] ?_;intro _ t e m;refine Ad (f:=Fm.av) j [t] d C6 e.2 ?_;simp[e];cases m;exact p _ _ _ ⟨a,(.loc 55 (l.ef 55+1)),adg,(ik.other k d ab9 ab9),(On 55)⟩ z
@[reducible,instance] def acO:=fM 308 @PH
def ME:C3 prog 269 wT (t2 Fm.av sI) Fm.av sI Tm.av:=by
 refine u3 7 func269 λT H a0 a1 a2 r m e=>?_;rw[wT] at m;refine sw [0,1,0,13] ?_;intro _ e m;apply wg 3;simp[e];refine wA 999 0 [] [3,5,6] (λf=>f.1 1=sI a1/\f.1 21=sB (ep (pR a1 0) true (lQ a1 4096))) [13] (λ_ g=>?_) ?_
 .rcases Pb (pR a1 0) e with e|e
  .exact aj
  exact aj
 intro _ e m;refine sg 7 [0,1,0,13] ?_;intro _ e m;apply wg 3;simp[e];refine WA m 999 999 [] [3,5,6] (λa f=>f.1 1=sI a1/\f.1 36=sB a) [] (λb _ g m=>?_) ?_
 .simp[e];refine p_ m IU λ_ m=>?_;apply Ir e m<;>intro e m
  .exact hU
  simp[e];refine p_ m vO λ_ m=>?_;exact hU
 intro _ a e m;exact aa
@[reducible,instance] def Z6:=fM 269 @ME
def vo:C2 prog 231 iL (t2 Fm.av sI) Fm.av Tm.av:=by
 refine v2 func231 λT H a0 a1 r m e=>?_;rw[iL] at m;exact aa
@[reducible,instance] def Z5:=fM 231 @vo
def N5{n:Nat}:C2 prog 270 (tU n) sB Tm.av sI:=by
 refine i2 λn ih=>u2 3 func270 λT H a0 a1 r m e=>?_;rw[tU] at m;simp[e];refine wA 999 999 [1] [2] (λf=>f.1 15=sB (ep (dj a0.aiu 1) (dj a0.aix a1) false)) [7,0] (λ_ g=>?_) ?_
 .exact aa
 intro _ e m;exact Wb e m 999 19 [1,17,18] [2] nI
@[reducible,instance] def aau:=fM 270 @N5
def Od{n:Nat}:C2 prog 233 (pG n) sB Fm.av sI:=by
 refine i2 λn ih=>v2 func233 λT H a0 a1 r m e=>?_;rw[pG] at m;simp[e];refine Wa e m 999 12 [1,10,11] [2] nI [11,0] ?_;intro _ _ e m;exact Wb e m 999 23 [1,21,22] [2] nI
@[reducible,instance] def Z':=fM 233 @Od
def G_{n:Nat}:C1 prog 234 (ma n) (t2 Fm.av sI) Fm.av:=by
 refine i1 λn ih=>v1 func234 λT H a0 r m e=>?_;rw[ma] at m;simp[e];refine Tc e m 999 22 [20,21] [1,2] [40] (λs2=>s2) (λs2 c f=>bx f 4 [sI a0.aiu,sI a0.cT.aiu,sL Ty.av a0.cT.aiv,sT c Tm.av s2,nL]) [11,0] (λu _ s2 o _ _ _ _ E e m z p=>?_) ?_
 .have⟨c,E,i⟩:=E;refine sw [20,0,3,7,9,0] ?_;intro s _ _ e m;refine Ao (f:=Tm.av) s2 [s] i BC e.2 ?_;simp[e];cases m;exact p _ _ _ ⟨(.loc 40 (o.ef 40+1)),adg,(On 40)⟩ z
 intro o s2 c i e m;refine Wr e m 999 (λq j f h=>∃a b,(h=H/\f.1 44=sL Fm.av a0.aiv/\f.1 45=sI (dq a0.aiv)/\f.1 46=sI q/\bx f 2 [sI 0,sI 0,nL,nL,nL]/\bx f 4 [sI a0.aiu,sI a0.cT.aiu,sL Ty.av a0.cT.aiv,sT a Tm.av s2,sT b Fm.av j])/\Ow f [40] a s2/\Ow f [63] b j) (by exact⟨c,.full,adg,i,ik.full⟩) (λj l _ _ E m=>?_) (λq _ j l _ _ _ _ E e m z p=>?_)
 .have⟨a,b,E,k,d⟩:=E;exact aa
 have⟨a,b,E,k,d⟩:=E;refine sw [10,0,16,7,9,0] ?_;intro t _ e m;refine Ao (f:=Fm.av) j [t] d C6 e.2 ?_;simp[e];cases m;exact p _ _ _ ⟨a,(.loc 63 (l.ef 63+1)),adg,(ik.other k d ab9 ab9),(On 63)⟩ z
@[reducible,instance] def VA:=fM 234 @G_
def rK:C3 prog 182 fZ sI cX.av Tm.av sI:=by
 refine v3 func182 λT H a0 a1 a2 r m e=>?_;rw[fZ] at m;exact aa
@[reducible,instance] def LO:=fM 182 @rK
def EV{n:Nat}:C1 prog 185 (iM n) sB Fm.av:=by
 refine i1 λn ih=>u1 8 func185 λT H a0 r m e=>?_;rw[iM] at m;refine sw [0,13] ?_;intro e m;refine sg 3 [0,14] ?_;intro e m;apply wg 1;simp[e];refine WB m 999 999 [] [] (λv4 f=>f.1 2=sB v4) λb _ g m=>?_;refine sw [8,0,15] ?_;intro c _ e m;apply Iq e m<;>intro e m
 .exact hU
 refine sw [8,0,15] ?_;intro a _ e m;exact hU
@[reducible,instance] def TJ:=fM 185 @EV
def EP:C1 prog 129 oe (t2 sB sI) Fm.av:=by
 refine v1 func129 λT H a0 r m e=>?_;rw[oe] at m;exact aa
@[reducible,instance] def TO:=fM 129 @EP
def xu:∀(n:Nat),C2 prog 86 (dp n) (t2 qZ.av sI) cX.av Pf.av/\C2 prog 128 (df n) (t3 Fm.av (sL sI) sI) cX.av Pf.av/\C2 prog 176 (mD n) (t3 Fm.av (sL sI) sI) cX.av Pf.av/\C2 prog 177 (na n) (t3 Fm.av (sL sI) sI) cX.av Pf.av/\C2 prog 178 (mT n) (t3 Fm.av (sL sI) sI) cX.av Pf.av/\C2 prog 179 (lM n) (t3 Fm.av (sL sI) sI) cX.av Pf.av/\C2 prog 180 (oy n) (t3 Fm.av (sL sI) sI) cX.av Pf.av/\C2 prog 181 (mP n) (t3 Fm.av (sL sI) sI) cX.av Pf.av/\C2 prog 183 (mQ n) (t3 Fm.av (sL sI) sI) cX.av Pf.av/\C2 prog 184 (mz n) (t3 Fm.av (sL sI) sI) cX.av Pf.av/\C4 prog 232 (dZ n) (t2 (sL sI) sI) cX.av Pf.av Fm.av Tm.av:=by
  intro n
  induction n with
  |zero=>
    refine⟨?_,?_,?_,?_,?_,?_,?_,?_,?_,?_,?_⟩
    all_goals(intro _ _;intros;rename_i hm;cases hm)
  |succ n ih=>
 refine⟨?_,?_,?_,?_,?_,?_,?_,?_,?_,?_,?_⟩
 .intro T H a0 a1 r hm;rw[dp] at hm;have e:=trivial;refine wi aiz func86 [] [] 7 ?_;simp[e];refine Tp hm ih.2.1 λK _ _ m=>?_;refine sw [0,13] ?_;intro e m;refine sg 5 [0,1,0,13] ?_;intro G e m;apply wg 2;simp[e];refine Ep m 999 999 (λL f h=>∃v6 c,(h=H/\f.1 7=sT c sI v6/\bx f 4 [sI 0,sI 0,nL,nL,nL,nL]/\bx f 6 (Fm.av K).cells)/\L v6=some r) ?_ (λL _ g m=>?_)
  .rintro _ _ ⟨v6,c,E,m⟩;exact aa
  refine sw [0,2] ?_;intro _ w e m;apply Iq e m<;>intro e m
  .simp[e];exact g _ _ ⟨_,.iB,adg,m⟩
  simp[e];exact g _ _ ⟨_,.full,adg,m⟩
 .intro T H a0 a1 r hm;rw[df] at hm;have e:=trivial;refine wi aiz func128 [] [] 10 ?_;have m:=hm;refine sw [0,13] ?_;intro e m;refine sg 3 [0,13] ?_;intro e m;apply wg 3;simp[e];apply Iq e m<;>intro e m
  .refine sg 999 [8,0] ?_;intro W e m;refine oa m ih.1 λ_ _ m=>?_;refine sw [7,8,0] ?_;intro X e m;refine oa m ih.1 λ_ _ m=>?_;simp[e];refine lI m zp λ_ m=>?_;simp[e];refine lI m (km T) λ_ m=>?_;exact au
  apply wg 1;simp[e];refine wj 999 0 (λf h=>h=H/\f.1 22=sI a1.aiu/\f.1 93=sB (ep (dj a1.aiu 4) true (dj a1.aiu 5))/\bx f 2 (cX.av a0).cells/\bx f 3 (Pf.av a1).cells/\bx f 4 [sI 0,sI 0,nL,nL,nL]/\bx f 7 [sI 0,sI 0,nL,nL,nL]) (λ_ g=>?_) ?_
  .rcases Pb (dj a1.aiu 4) e with e|e
   .exact aj
   exact aj
  rintro _ _ E;have e:=Aj e E;apply Iq e m<;>intro e m
  .refine sg 999 [8,0] ?_;intro Y e m;refine oa m ih.1 λ_ _ m=>?_;refine sw [7,7,8] ?_;intro Z e m;exact au
  apply wg 3;simp[e];apply Iq e m<;>intro e m
  .refine sg 999 [8,0] ?_;intro ad e m;refine lI m Az λ_ m=>?_;refine sw [7,0] ?_;intro e m;refine p_ m my λ_ m=>?_;refine sw [7,0] ?_;intro e m;refine lI m ml λ_ m=>?_;refine sw [8,0] ?_;intro ae e m;refine oa m ih.1 λ_ _ m=>?_;simp[e];refine lI m zp λ_ m=>?_;exact au
  apply wg 3;simp[e];apply Iq e m<;>intro e m
  .refine sg 999 [8,0] ?_;intro af e m;refine oa m ih.1 λ_ _ m=>?_;refine sw [7,7,8,0] ?_;intro ah e m;refine oa m ih.1 λ_ _ m=>?_;refine sw [7,8,0] ?_;intro ai e m;refine lI m (km T) λ_ m=>?_;refine sw [8,0] ?_;intro ak e m;refine lI m AG λ_ m=>?_;exact au
  apply wg 1;simp[e];refine wj 999 0 (λf h=>h=H/\f.1 22=sI a1.aiu/\f.1 218=sB (ep (dj a1.aiu 8) true (dj a1.aiu 12))/\bx f 2 (cX.av a0).cells/\bx f 3 (Pf.av a1).cells/\bx f 4 [sI 0,sI 0,nL,nL,nL]) (λ_ g=>?_) ?_
  .rcases Pb (dj a1.aiu 8) e with e|e
   .exact aj
   exact aj
  rintro _ _ E;have e:=Aj e E;apply Iq e m<;>intro e m
  .apply wg 999;simp[e];refine Tp m ih.2.2.1 λ_ _ _ m=>?_;exact au
  apply wg 1;simp[e];refine wj 999 0 (λf h=>h=H/\f.1 22=sI a1.aiu/\f.1 227=sB (ep (dj a1.aiu 9) true (dj a1.aiu 13))/\bx f 2 (cX.av a0).cells/\bx f 3 (Pf.av a1).cells/\bx f 4 [sI 0,sI 0,nL,nL,nL]) (λ_ g=>?_) ?_
  .rcases Pb (dj a1.aiu 9) e with e|e
   .exact aj
   exact aj
  rintro _ _ E;have e:=Aj e E;apply Iq e m<;>intro e m
  .apply wg 999;simp[e];refine Tp m ih.2.2.2.1 λ_ _ _ m=>?_;exact au
  apply wg 1;simp[e];refine wj 999 0 (λf h=>h=H/\f.1 22=sI a1.aiu/\f.1 236=sB (ep (dj a1.aiu 10) true (dj a1.aiu 14))/\bx f 2 (cX.av a0).cells/\bx f 3 (Pf.av a1).cells/\bx f 4 [sI 0,sI 0,nL,nL,nL]) (λ_ g=>?_) ?_
  .rcases Pb (dj a1.aiu 10) e with e|e
   .exact aj
   exact aj
  rintro _ _ E;have e:=Aj e E;apply Iq e m<;>intro e m
  .apply wg 999;simp[e];refine Tp m ih.2.2.2.2.1 λ_ _ _ m=>?_;exact au
  apply wg 1;simp[e];refine wj 999 999 (λf h=>h=H/\f.1 22=sI a1.aiu/\f.1 245=sB (ep (dj a1.aiu 11) true (dj a1.aiu 15))/\bx f 2 (cX.av a0).cells/\bx f 3 (Pf.av a1).cells/\bx f 4 [sI 0,sI 0,nL,nL,nL]) (λ_ g=>?_) ?_
  .rcases Pb (dj a1.aiu 11) e with e|e
   .exact aj
   exact aj
  rintro _ _ E;have e:=Aj e E;apply Iq e m<;>intro e m
  .simp[e];refine Tp m ih.2.2.2.2.2.1 λ_ _ _ m=>?_;exact au
  apply Iq e m<;>intro e m
  .simp[e];refine Tp m ih.2.2.2.2.2.2.1 λ_ _ _ m=>?_;exact au
  apply Iq e m<;>intro e m
  .simp[e];refine Tp m ih.2.2.2.2.2.2.2.1 λ_ _ _ m=>?_;exact au
  apply Iq e m<;>intro e m
  .refine sw [8,0] ?_;intro an e m;refine lI m A9 λ_ m=>?_;simp[e];refine lI m rK λ_ m=>?_;exact au
  apply Iq e m<;>intro e m
  .simp[e];refine Tp m ih.2.2.2.2.2.2.2.2.1 λ_ _ _ m=>?_;exact au
  simp[e];refine Tp m ih.2.2.2.2.2.2.2.2.2.1 λ_ _ _ m=>?_;exact au
 .intro T H a0 a1 r hm;rw[mD] at hm;have e:=trivial;refine wi aiz func176 [] [] 999 ?_;have m:=hm;refine sw [0,1,7,0,4,8,0] ?_;intro _ _ w e m;refine oa m ih.1 λ_ _ m=>?_;refine Il e m λe m=>?_;apply Iq e m<;>intro e m
  .refine sw [0,4,0,4] ?_;intro x y e m;exact au
  exact aa
 .intro T H a0 a1 r hm;rw[na] at hm;have e:=trivial;refine wi aiz func177 [] [] 9 ?_;have m:=hm;refine sw [8,0,2,0,13] ?_;intro I ao _ e m;refine sg 7 [8,0] ?_;intro x6 e m;refine oa m ih.1 λJ _ m=>?_;refine sw [0,13] ?_;intro e m;refine sg 4 [0,4,0,4,0] ?_;intro _ A e m;refine wA 999 999 [] [4,7,8,10] (λf=>f.1 11=sI (ep (dj a1.aiu 13) 6 4)/\f.1 12=sL sI (ep (dj a1.aiu 13) J.uses A)) [] (λ_ g=>?_) ?_
  .rcases Pb (dj a1.aiu 13) e with e|e
   .exact aj
   exact aj
  intro _ e m;exact aa
 .intro T H a0 a1 r hm;rw[mT] at hm;have e:=trivial;refine wi aiz func178 [] [] 9 ?_;have m:=hm;refine sw [8,8,0,1,0,13] ?_;intro o G _ e m;apply wg 4;simp[e];refine wA 999 3 [] [2,3,4,7,8] (λf=>f.1 10=sI (ep (dj a1.aiu 14) 7 5)) [0,13] (λ_ g=>?_) ?_
  .rcases Pb (dj a1.aiu 14) e with e|e
   .exact aj
   exact aj
  intro _ e m;refine sg 7 [0,2,0,13] ?_;intro _ w e m;refine sg 5 [0,1,0,14] ?_;intro q e m;refine sg 4 [8,8,0] ?_;intro k x e m;refine oa m ih.2.2.2.2.2.2.2.2.2.2 λy M m=>?_;simp[e];refine WB m 999 999 [12] [4,7] (λB f=>f.1 13=sL sI B) λN _ g m=>?_;apply Ir e m<;>intro e m
  .exact hU
  simp[e];refine p_ m tH λ_ m=>?_;simp[e];refine p_ m (km T) λ_ m=>?_;exact hU
 .intro T H a0 a1 r hm;rw[lM] at hm;have e:=trivial;refine wi aiz func179 [] [] 7 ?_;have⟨C,e,m⟩:=Ah e hm;simp[e];refine oa m ih.1 λa _ m=>?_;refine sw [0,13] ?_;intro e m;apply wg 4;simp[e];refine wA 999 3 [] [2,3,4,7] (λf=>f.1 9=sI (ep (dj a1.aiu 15) 7 5)) [0,13] (λ_ g=>?_) ?_
  .rcases Pb (dj a1.aiu 15) e with e|e
   .exact aj
   exact aj
  intro _ e m;refine sg 7 [0,1,0,13] ?_;intro _ e m;refine sg 7 [0,4,8,0,4,8,0] ?_;intro x y _ O e m;refine oa m ih.1 λb _ m=>?_;refine sw [0,13] ?_;intro e m;apply wg 4;simp[e];refine Wj m 999 1 (λs f h=>∃d v127 i j v130,(h=H/\f.1 9=sI (ep (dj a1.aiu 15) 7 5)/\bx f 4 [sI 0,sI 0,nL,nL,nL]/\bx f 7 [sI a.cU.aiu,sI a.cU.cT.aiu,sL Ty.av a.cU.cT.aiv,sL Tm.av a.cU.dc,sL Fm.av a.cU.aiv,sL sI a.uses]/\bx f 11 [sI b.cU.aiu,sI b.cU.cT.aiu,sL Ty.av b.cU.cT.aiv,sL Tm.av b.cU.dc,sL Fm.av b.cU.aiv,sL sI b.uses]/\bx f 12 [sI d,sI v127,sL Ty.av i,sL Tm.av j,sL Fm.av v130])/\s d v127 i j v130=some r) (λs _ g m=>?_) ?_
  .refine sw [0,1] ?_;intro _ e m;apply Ir e m<;>intro e m
   .simp[e];exact g _ _ ⟨_,_,_,_,_,adg,m⟩
   refine sw [0,2,7,0,1,7] ?_;intro _ _ _ e m;simp[e];exact g _ _ ⟨_,_,_,_,_,adg,m⟩
  rintro _ _ ⟨d,v127,i,j,v130,E,m⟩;have e:=Aj e E;simp[e];refine Wj m 999 999 (λt f h=>∃v139,(h=H/\f.1 87=sB v139/\bx f 4 [sI 0,sI 0,nL,nL,nL]/\bx f 7 [sI a.cU.aiu,sI a.cU.cT.aiu,sL Ty.av a.cU.cT.aiv,sL Tm.av a.cU.dc,sL Fm.av a.cU.aiv,sL sI a.uses]/\bx f 11 [sI b.cU.aiu,sI b.cU.cT.aiu,sL Ty.av b.cU.cT.aiv,sL Tm.av b.cU.dc,sL Fm.av b.cU.aiv,sL sI b.uses]/\bx f 12 [sI d,sI v127,sL Ty.av i,sL Tm.av j,sL Fm.av v130])/\t v139=some r) (λt _ g m=>?_) ?_
  .apply Ir e m<;>intro e m
   .exact hU
   simp[e];refine p_ m Ei λ_ m=>?_;exact hU
  rintro _ _ ⟨v139,E,m⟩;refine sw [10,7,0] ?_;intro e m;refine lI m si λ_ m=>?_;simp[e];refine lI m qb λ_ m=>?_;simp[e];refine lI m (km T) λ_ m=>?_;exact au
 .intro T H a0 a1 r hm;rw[oy] at hm;have e:=trivial;refine wi aiz func180 [] [] 999 ?_;have m:=hm;refine sw [8,8,0,4,9,0] ?_;intro o G l e m;refine Ad (f:=Ty.av) a0.aiy [l] (ik.full (D:=[])) Hi e.2 ?_;refine sw [0,4,7,0,1,7,8,0,4,0] ?_;intro _ k u v e m;refine oa m ih.2.2.2.2.2.2.2.2.2.2 λ_ _ m=>?_;refine sw [7,0] ?_;intro e m;refine p_ m my λ_ m=>?_;refine sw [7,0] ?_;intro e m;refine lI m vq λ_ m=>?_;simp[e];refine lI m oi λ_ m=>?_;simp[e];refine lI m ml λ_ m=>?_;refine sw [8,0] ?_;intro P e m;refine lI m si λ_ m=>?_;simp[e];refine lI m oH λ_ m=>?_;simp[e];refine lI m CU λ_ m=>?_;simp[e];refine oa m ih.2.2.2.2.2.2.2.2.2.2 λ_ _ m=>?_;refine sw [7,0] ?_;intro e m;refine sy m vo λ_ _ m=>?_;simp[e];refine lI m tH λ_ m=>?_;simp[e];refine lI m (km T) λ_ m=>?_;simp[e];refine lI m qb λ_ m=>?_;simp[e];refine lI m (km T) λ_ m=>?_;exact au
 .intro T H a0 a1 r hm;rw[mP] at hm;have e:=trivial;refine wi aiz func181 [] [] 999 ?_;have m:=hm;refine sw [8,8,0,4,9,0] ?_;intro o G l e m;refine Ad (f:=Ty.av) a0.aiy [l] (ik.full (D:=[])) Hi e.2 ?_;refine sw [0,4,7,0,1,7,8,0,4,0] ?_;intro _ k u v e m;refine oa m ih.2.2.2.2.2.2.2.2.2.2 λ_ _ m=>?_;refine sw [7,0] ?_;intro e m;refine p_ m my λ_ m=>?_;refine sw [7,0] ?_;intro e m;refine lI m vq λ_ m=>?_;simp[e];refine lI m CB λ_ m=>?_;simp[e];refine lI m oi λ_ m=>?_;simp[e];refine lI m si λ_ m=>?_;simp[e];refine lI m ml λ_ m=>?_;refine sw [8,0] ?_;intro Q e m;refine lI m si λ_ m=>?_;simp[e];refine lI m oH λ_ m=>?_;simp[e];refine lI m oH λ_ m=>?_;simp[e];refine lI m CU λ_ m=>?_;simp[e];refine oa m ih.2.2.2.2.2.2.2.2.2.2 λ_ _ m=>?_;refine sw [7,0] ?_;intro e m;refine sy m vo λ_ _ m=>?_;simp[e];refine lI m tH λ_ m=>?_;simp[e];refine lI m (km T) λ_ m=>?_;simp[e];refine lI m qb λ_ m=>?_;simp[e];refine lI m (km T) λ_ m=>?_;exact au
 .intro T H a0 a1 r hm;rw[mQ] at hm;have e:=trivial;refine wi aiz func183 [] [] 999 ?_;have m:=hm;refine sw [8,0,4,9,0] ?_;intro I q e m;refine Ad (f:=Ty.av) a0.aiy [q] (ik.full (D:=[])) Hi e.2 ?_;refine sw [0,4,7,8,0] ?_;intro _ R e m;refine oa m ih.1 λ_ k m=>?_;refine sw [7,7,8,8,0] ?_;intro u v e m;refine oa m ih.2.2.2.2.2.2.2.2.2.2 λ_ _ m=>?_;refine sw [7,8,0] ?_;intro S e m;refine oa m vo λ_ _ m=>?_;exact au
 .intro T H a0 a1 r hm;rw[mz] at hm;have e:=trivial;refine wi aiz func184 [] [] 7 ?_;have⟨C,e,m⟩:=Ah e hm;simp[e];refine oa m ih.1 λa _ m=>?_;refine sw [0,13] ?_;intro e m;apply wg 3;simp[e];refine WA m 999 999 [] [4,7] (λF f=>f.1 38=sB F) [] (λU _ g m=>?_) ?_
  .apply Iq e m<;>intro e m
   .exact hU
   have⟨V,e,m⟩:=Ah e m;exact hU
  intro _ F e m;exact aa
 .intro T H a0 a1 a2 a3 r hm;rw[dZ] at hm;have e:=trivial;refine wi aiz func232 [] [] 999 ?_;simp[e];refine sy hm ih.1 λ_ K m=>?_;exact aa
def yc{n:Nat}:=@And.left _ _ (xu n)
@[reducible,instance] def LQ:=fM 86 @yc
def Ip:C3 prog 39 iI (t2 qZ.av sI) (sL Fm.av) Sq.av Pf.av:=by
 refine v3 func39 λT H a0 a1 a2 r m e=>?_;rw[iI] at m;refine sw [0,1,7,0,1,7,0,2,7,0,4,9,0] ?_;intro _ _ a _ _ e m;refine Ad (f:=sI) [] a.uses (ik.full (D:=[])) Qa e.2 ?_;exact au
@[reducible,instance] def WY:=fM 39 @Ip
def A0:C2 prog 70 oL Sq.av Sq.av (sL Ty.av):=by
 refine v2 func70 λT H a0 a1 r m e=>?_;rw[oL] at m;refine sw [0,1,0] ?_;intro i e m;refine Td e m 999 16 [1,14,15] [4] [27] (λb=>b) (λb a f=>bx f 5 [sL Ty.av i,sT a Fm.av b]) λj _ b d _ _ _ _ E e m z p=>?_;have⟨a,E,c⟩:=E;refine sw [20,0,4,9,0] ?_;intro h e m;refine Ad (f:=Fm.av) b [h] c C6 e.2 ?_;simp[e];cases m;exact p _ _ _ ⟨(.loc 27 (d.ef 27+1)),adg,(On 27)⟩ z
@[reducible,instance] def abA:=fM 70 @A0
def MQ:C3 prog 69 pB Pf.av sI Ty.av Pf.av:=by
 refine v3 func69 λT H a0 a1 a2 r m e=>?_;rw[pB] at m;exact aa
@[reducible,instance] def aax:=fM 69 @MQ
def QG:C3 prog 71 sD Pf.av sI Tm.av Pf.av:=by
 refine v3 func71 λT H a0 a1 a2 r m e=>?_;rw[sD] at m;refine sw [0,1,0,1] ?_;intro a b e m;have e:=Aj e (show AV.agg [sI a.aiu,sI a.aix,sI a.cT.aiu,sL Ty.av a.cT.aiv,AV.slice .iB [Tm.av b],sL Fm.av a.eg,sL Pf.av a.aiv]=Pf.av (Pf.mk a.aiu a.aix a.cT [b] a.eg a.aiv) by rw[Pf.eJ];rfl);exact au
@[reducible,instance] def ack:=fM 71 @QG
section
attribute [-simp] Go.kQ.Be
@[local simp] theorem agC(x:Fm):Be prog 49 x.av 2=some (sL Tm.av x.dc):=by rw[Fm.eS];kernel_rfl
def wC:C1 prog 74 iO Tm.av Tm.av:=by
 refine v1 func74 λT H a0 r m e=>?_;rw[iO] at m;exact aa
@[reducible,instance] def Ts:=fM 74 @wC
end
def xA:C4 prog 76 sJ Pf.av sI Fm.av Tm.av Pf.av:=by
 refine v4 func76 λT H a0 a1 a2 a3 r m e=>?_;rw[sJ] at m;refine sw [0,1,0,1] ?_;intro a b e m;have e:=Aj e (show AV.agg [sI a.aiu,sI a.aix,sI a.cT.aiu,sL Ty.av a.cT.aiv,sL Tm.av a.dc,AV.slice .iB [Fm.av b],sL Pf.av a.aiv]=Pf.av (Pf.mk a.aiu a.aix a.cT a.dc [b] a.aiv) by rw[Pf.eJ];rfl);exact au
def Hk(T:dt){H:cZ}{a0:Int}{a1:Fm}{a2:Tm}{a3 a:Pf}{f0:Fm}(hm:rj a0 a1 a2 a3=some (a,f0)):ds prog T 76 [sI a0,Fm.av a1,Tm.av a2,Pf.av a3] H (AV.agg [sI a.aiu,sI a.aix,sI a.cT.aiu,sL Ty.av a.cT.aiv,sL Tm.av a.dc,AV.qY (List.length H) 0 1 1,sL Pf.av a.aiv]) (H++[[sI f0.aiu,sI f0.cT.aiu,sL Ty.av f0.cT.aiv,sL Tm.av f0.dc,sL Fm.av f0.aiv]]):=by
 rw[rj] at hm;have e:=trivial;refine wi aiz func76 [16] [] 999 ?_;have m:=hm;exact aa
@[reducible,instance] def Vp:=fM 76 @Hk
def IV(T:dt){H:cZ}{a0:dd}{a1:Sq}{a:Pf}{f0:Fm}{b:dd}{d:Nat}(c:H[d]?=some [sL sI a0.l,sI a0.rG])(hm:s6 a0 a1=some (a,f0,b)):ds prog T 84 [AV.eb d 0,Sq.av a1] H (AV.agg [sI a.aiu,sI a.aix,sI a.cT.aiu,sL Ty.av a.cT.aiv,sL Tm.av a.dc,AV.qY (List.length H) 0 1 1,sL Pf.av a.aiv]) ((eR H d [sL sI b.l,sI b.rG])++[[sI f0.aiu,sI f0.cT.aiu,sL Ty.av f0.cT.aiv,sL Tm.av f0.dc,sL Fm.av f0.aiv]]):=by
 rw[s6] at hm;have f:=en c;refine ea.IC c ?_;have e:=f;refine wi aiz func84 [] [] 999 ?_;have m:=hm;refine sw [0,1,0,2] ?_;intro _ _ d3 e m;exact aa
def D1:C1 prog 80 l7 Pf.av sI:=by
 refine v1 func80 λT H a0 r m e=>?_;rw[l7] at m;exact au
@[reducible,instance] def aaD:=fM 80 @D1
def NN:C5 prog 79 rU Pf.av sI Fm.av Tm.av Pf.av Pf.av:=by
 refine v5 func79 λT H a0 a1 a2 a3 a4 r m e=>?_;rw[rU] at m;refine sw [0,1,0,1,0,1] ?_;intro a b c e m;have e:=Aj e (show AV.agg [sI a.aiu,sI a.aix,sI a.cT.aiu,sL Ty.av a.cT.aiv,AV.slice .iB [Tm.av b],AV.slice .iB [Fm.av c],sL Pf.av a.aiv]=Pf.av (Pf.mk a.aiu a.aix a.cT [b] [c] a.aiv) by rw[Pf.eJ];rfl);exact au
@[reducible,instance] def aag:=fM 79 @NN
def P2:C2 prog 221 uy Tm.av Tm.av sI:=by
 refine v2 func221 λT H a0 a1 r m e=>?_;rw[uy] at m;exact aa
@[reducible,instance] def aa8:=fM 221 @P2
def Ix:C3 prog 83 qS Pf.av Fm.av Pf.av Pf.av:=by
 refine v3 func83 λT H a0 a1 a2 r m e=>?_;rw[qS] at m;refine sw [0,1,0,1] ?_;intro a b e m;have e:=Aj e (show AV.agg [sI a.aiu,sI a.aix,sI a.cT.aiu,sL Ty.av a.cT.aiv,sL Tm.av a.dc,AV.slice .iB [Fm.av b],sL Pf.av a.aiv]=Pf.av (Pf.mk a.aiu a.aix a.cT a.dc [b] a.aiv) by rw[Pf.eJ];rfl);exact au
@[reducible,instance] def Xo:=fM 83 @Ix
def Lt:C3 prog 169 uK Pf.av Tm.av Tm.av Pf.av:=by
 refine v3 func169 λT H a0 a1 a2 r m e=>?_;rw[uK] at m;exact aa
@[reducible,instance] def Za:=fM 169 @Lt
def Gy:C3 prog 170 rv sI (sL Tm.av) (sL Fm.av) (sL Pf.av):=by
 refine v3 func170 λT H a0 a1 a2 r m e=>?_;rw[rv] at m;simp[e];refine Wa e m 999 18 [1,2,16,17] [] nI [11,0] ?_;intro _ _ e m;refine Wa e m 999 30 [2,28,29] [] nI [11,0] ?_;intro _ _ e m;exact Wb e m 999 42 [40,41] [] nI
@[reducible,instance] def T':=fM 170 @Gy
def ID:C2 prog 168 sX (t2 Pf.av sI) Pf.av sI:=by
 refine v2 func168 λT H a0 a1 r m e=>?_;rw[sX] at m;exact aa
@[reducible,instance] def W1:=fM 168 @ID
def Km:C4 prog 125 uG (t2 Pf.av sI) Tm.av Tm.av Tm.av Pf.av:=by
 refine v4 func125 λT H a0 a1 a2 a3 r m e=>?_;rw[uG] at m;exact aa
@[reducible,instance] def XU:=fM 125 @Km
def PD:C1 prog 82 yJ Pf.av Tm.av:=by
 refine v1 func82 λT H a0 r m e=>?_;rw[yJ] at m;exact aa
@[reducible,instance] def abL:=fM 82 @PD
def Si(T:dt){H:cZ}{a0:dd}{a1:Sq}{f:Pf}{a:dd}{c:Nat}(b:H[c]?=some [sL sI a0.l,sI a0.rG])(hm:Bs a0 a1=some (f,a)):ds prog T 84 [AV.eb c 0,Sq.av a1] H (Pf.av f) (eR H c [sL sI a.l,sI a.rG]):=by
 rw[Bs] at hm;have d:=en b;refine ea.IC b ?_;have e:=d;refine wi aiz func84 [] [] 999 ?_;have m:=hm;refine sw [0,1,0,2,0] ?_;intro _ _ d3 e m;refine lI m wC λ_ m=>?_;simp[e];refine lI m oH λ_ m=>?_;simp[e];refine lI m A9 λ_ m=>?_;simp[e];refine lI m Jj λ_ m=>?_;simp[e];refine lI m xl λ_ m=>?_;simp[e];refine lI m xA λ_ m=>?_;exact au
@[reducible,instance] def adx:=fM 84 @Si
def Mo(T:dt):∀(n:Nat),(∀{H:cZ} {a0:dd} {a1:List Fm} {a2:Sq} {a3:Int} {s:Pf} {c:dd} {j:Nat} (k:H[j]?=some [sL sI a0.l,sI a0.rG]) (hm:hW n a0 a1 a2 a3=some (s,c)),ds prog T 38 [AV.eb j 0,sL Fm.av a1,Sq.av a2,sI a3] H (Pf.av s) (eR H j [sL sI c.l,sI c.rG]))/\(∀{H:cZ} {a0:dd} {a1:List Fm} {a2:Sq} {a3:Int} {s:Pf} {c:dd} {j:Nat} (k:H[j]?=some [sL sI a0.l,sI a0.rG]) (hm:wZ n a0 a1 a2 a3=some (s,c)),ds prog T 78 [AV.eb j 0,sL Fm.av a1,Sq.av a2,sI a3] H (Pf.av s) (eR H j [sL sI c.l,sI c.rG])):=by
  intro n
  induction n with
  |zero=>
    refine⟨?_,?_⟩
    all_goals(intro _ _;intros;rename_i hm;cases hm)
  |succ n ih=>
 refine⟨?_,?_⟩
 .intro H a0 a1 a2 a3 s c j k hm;rw[hW] at hm;have C:=en k;refine ea.IC k ?_;have e:=C;refine wi aiz func38 [] [] 4 ?_;simp[e];refine Kf1 hm λL m=>?_;simp[e];refine Ep m 0 0 (λP f h=>∃v3,(h=eR H j [sL sI v3.l,sI v3.rG]/\f.1 0=AV.eb j 0/\f.1 1=sL Fm.av a1/\bx f 6 (Sq.av a2).cells/\bx f 8 [sI 0,sI 0,sI 0,nL,nL,nL,nL]/\bx f 9 (Ty.av L).cells)/\P v3=some (s,c)) ?_ (λP _ g m=>?_)
  .rintro _ _ ⟨v3,E,m⟩;have e:=Aj e E;refine Ep m 999 999 (λQ f h=>∃v9,(h=eR H j [sL sI v9.l,sI v9.rG]/\f.1 0=AV.eb j 0/\bx f 6 (Sq.av a2).cells/\bx f 8 [sI 0,sI 0,sI 0,nL,nL,nL,nL]/\bx f 9 (Ty.av L).cells)/\Q v9=some (s,c)) ?_ (λQ _ g m=>?_)
   .rintro _ _ ⟨v9,E,m⟩;have e:=Aj e E;simp[e];refine HA m λ_ d14 m=>?_;exact aa
   simp[e];refine HA m λ_ d17 m=>?_;apply Iq e m<;>intro e m
   .apply Ir e m<;>intro e m
    .exact hU
    simp[e];refine HA m λ_ d19 m=>?_;exact aa
   apply Ir e m<;>intro e m
   .exact hU
   apply Ir e m<;>intro e m
   .exact hU
   simp[e];refine HA m λ_ d22 m=>?_;exact au
  refine wj 999 999 (λf h=>h=eR H j [sL sI a0.l,sI a0.rG]/\f.1 0=AV.eb j 0/\f.1 1=sL Fm.av a1/\f.1 3=sI a3/\f.1 50=sB (ep (lQ a3 0) (ep (pR (dq a2.aiy) 10) (pR (dq a2.aiB) 10) false) false)/\bx f 6 (Sq.av a2).cells/\bx f 8 [sI 0,sI 0,sI 0,nL,nL,nL,nL]/\bx f 9 (Ty.av L).cells) (λ_ g=>?_) ?_
  .rcases Pb (lQ a3 0) e with e|e;rotate_left
   .exact aj
   rcases Pb (pR (dq a2.aiy) 10) e with e|e
   .exact aj
   exact aj
  rintro _ _ E;have e:=Aj e E;apply Ir e m<;>intro e m
  .exact hU
  simp[e];refine HA m λ_ d27 m=>?_;apply Iq e m<;>intro e m
  .simp[e];refine oa m (ih.1 adg) λ_ d29 m=>?_;simp[e];refine oa m (ih.1 adg) λ_ d31 m=>?_;exact aa
  apply Iq e m<;>intro e m
  .simp[e];refine TF m λ_ d34 m=>?_;simp[e];refine oa m (ih.1 adg) λ_ d36 m=>?_;simp[e];refine oa m (ih.1 adg) λ_ d38 m=>?_;exact aa
  apply Iq e m<;>intro e m
  .simp[e];refine HA m λ_ d42 m=>?_;simp[e];refine Oj m λ_ m=>?_;simp[e];refine oa m (ih.1 adg) λ_ d45 m=>?_;exact aa
  apply Iq e m<;>intro e m
  .simp[e];refine sy m (ih.1 adg) λ_ d48 m=>?_;simp[e];refine HA m λ_ _ m=>?_;apply Ir e m<;>intro e m
   .exact hU
   simp[e];refine Oj m λ_ m=>?_;simp[e];refine oa m (ih.1 adg) λ_ d53 m=>?_;exact aa
  apply Iq e m<;>intro e m
  .simp[e];refine HA m λ_ d57 m=>?_;simp[e];refine Oj m λ_ m=>?_;simp[e];refine oa m (ih.1 adg) λ_ d60 m=>?_;exact aa
  apply Iq e m<;>intro e m
  .simp[e];refine HA m λ_ d63 m=>?_;simp[e];refine TF m λ_ d65 m=>?_;simp[e];refine Oj m λ_ m=>?_;simp[e];refine oa m (ih.1 adg) λ_ d68 m=>?_;exact aa
  apply Iq e m<;>intro e m
  .simp[e];refine HA m λ_ d72 m=>?_;simp[e];refine HA m λ_ d74 m=>?_;have⟨M,F,m⟩:=kV m;have e:=Aj e (show[sI 5,sI 7]=List.map sI M by rw[F];rfl);have⟨U,e,m⟩:=Ah e m;simp[e];refine Oj m λ_ m=>?_;simp[e];refine lI m oH λ_ m=>?_;simp[e];refine Oj m λ_ m=>?_;simp[e];refine Oj m λ_ m=>?_;have⟨N,G,m⟩:=kV m;have e:=Aj e (show[sI 10,sI 14]=List.map sI N by rw[G];rfl);have⟨V,e,m⟩:=Ah e m;simp[e];refine lI m xl λ_ m=>?_;simp[e];refine lI m xA λ_ m=>?_;exact au
  apply Iq e m<;>intro e m
  .simp[e];refine sy m (ih.1 adg) λ_ d88 m=>?_;simp[e];refine HA m λ_ _ m=>?_;apply Ir e m<;>intro e m
   .exact hU
   simp[e];refine HA m λ_ d92 m=>?_;simp[e];refine HA m λ_ d94 m=>?_;have⟨O,I,m⟩:=kV m;have e:=Aj e (show[sI 5,sI 7]=List.map sI O by rw[I];rfl);have⟨W,e,m⟩:=Ah e m;simp[e];refine Oj m λ_ m=>?_;simp[e];refine Oj m λ_ m=>?_;have⟨J,D,m⟩:=kV m;have e:=Aj e (show[sI 10,sI 14]=List.map sI J by rw[D];rfl);have⟨R,e,m⟩:=Ah e m;simp[e];refine TF m λ_ d104 m=>?_;simp[e];refine lI m xA λ_ m=>?_;exact au
  apply Iq e m<;>intro e m
  .simp[e];refine sy m (ih.2 adg) λ_ d107 m=>?_;exact au
  apply Iq e m<;>intro e m
  .simp[e];refine sy m (ih.1 adg) λ_ d109 m=>?_;simp[e];refine HA m λ_ _ m=>?_;apply Ir e m<;>intro e m
   .exact hU
   simp[e];refine Oj m λ_ m=>?_;simp[e];refine TF m λ_ d114 m=>?_;exact aa
  apply Iq e m<;>intro e m
  .simp[e];refine sy m (ih.1 adg) λ_ d118 m=>?_;simp[e];refine HA m λ_ _ m=>?_;apply Ir e m<;>intro e m
   .exact hU
   simp[e];refine Oj m λ_ m=>?_;simp[e];refine Oj m λ_ m=>?_;simp[e];refine TF m λ_ d124 m=>?_;exact aa
  apply Iq e m<;>intro e m
  .simp[e];refine HA m λ_ d128 m=>?_;exact aa
  apply Iq e m<;>intro e m
  .simp[e];refine TF m λ_ d131 m=>?_;simp[e];refine TF m λ_ d133 m=>?_;exact aa
  apply Iq e m<;>intro e m
  .simp[e];refine HA m λ_ d141 m=>?_;simp[e];refine Oj m λ_ m=>?_;simp[e];refine TF m λ_ d144 m=>?_;exact aa
  apply Iq e m<;>intro e m
  .simp[e];refine HA m λ_ d148 m=>?_;simp[e];refine Oj m λ_ m=>?_;simp[e];refine oa m (ih.1 adg) λ_ d151 m=>?_;exact aa
  apply Ir e m<;>intro e m
  .exact hU
  simp[e];refine HA m λ_ d154 m=>?_;simp[e];refine TF m λ_ d156 m=>?_;simp[e];refine lI m A0 λ_ m=>?_;simp[e];refine oa m (ih.1 adg) λ_ d159 m=>?_;exact aa
 .intro H a0 a1 a2 a3 s c j k hm;rw[wZ] at hm;have C:=en k;refine ea.aaI (Post:=λx K=>x=Pf.av s/\∃X,K=(eR H j [sL sI c.l,sI c.rG])++X) ?_ (λ_ _ h=>⟨_,h.2.choose,h.2.choose_spec,acZ,by rw[h.1];simp[AV.low,AV.gH],λcs h=>by rcases Ur h with h|h<;>first|exact .inl h|(rw[h];simp[AV.low,AV.gH]),h.1,rfl⟩);refine ea.IC k ?_;have e:=C;refine wi aiz func78 [] [] 6 ?_;simp[e];refine Tp hm (IV T adg) λa b d164 m=>?_;simp[e];refine Wj m 999 4 (λA f h=>∃q v167 v168 i,(h=(eR H j [sL sI v168.l,sI v168.rG])++[[sI i,sI b.cT.aiu,sL Ty.av b.cT.aiv,sL Tm.av b.dc,sL Fm.av b.aiv]]/\f.1 0=AV.eb j 0/\f.1 1=sL Fm.av a1/\f.1 3=sI a3/\f.1 10=sI q/\bx f 6 (Sq.av a2).cells/\bx f 8 [sI 0,sI 0,sI 0,nL,nL,nL,nL]/\bx f 9 [sI v167,sI a.aix,sI a.cT.aiu,sL Ty.av a.cT.aiv,sL Tm.av a.dc,AV.qY (List.length H) 0 1 1,sL Pf.av a.aiv])/\A q v167 v168 i=some (s,c)) (λA _ g m=>?_) ?_
  .simp[e];refine sy m (uM T adg) λ_ d173 m=>?_;apply Iq e m<;>intro e m
   .simp[e];exact g _ _ ⟨_,_,_,_,adg,m⟩
   simp[e];exact g _ _ ⟨_,_,_,_,adg,m⟩
  rintro _ _ ⟨q,v167,v168,i,E,m⟩;have e:=Aj e E;have⟨S,e,m⟩:=Ah e m;simp[e];refine lI m vq λ_ m=>?_;simp[e];refine lI m A0 λ_ m=>?_;simp[e];refine lI m J3 λ_ m=>?_;simp[e];refine oa m (ih.1 adg) λ_ d180 m=>?_;simp[e];refine Wj m 999 1 (λB f h=>∃v182 v183 t u v w y r,(h=(eR H j [sL sI r.l,sI r.rG])++[[sI i,sI b.cT.aiu,sL Ty.av b.cT.aiv,sL Tm.av b.dc,sL Fm.av b.aiv]]/\f.1 10=sI q/\bx f 8 [sI 0,sI 0,sI 0,nL,nL,nL,nL]/\bx f 9 [sI v167,sI a.aix,sI a.cT.aiu,sL Ty.av a.cT.aiv,sL Tm.av a.dc,AV.qY (List.length H) 0 1 1,sL Pf.av a.aiv]/\bx f 12 [sI v182,sI v183,sI t,sL Ty.av u,sL Tm.av v,sL Fm.av w,sL Pf.av y])/\B v182 v183 t u v w y r=some (s,c)) (λB _ g m=>?_) ?_
  .simp[e];refine sy m (uM T adg) λ_ d194 m=>?_;apply Ir e m<;>intro e m
   .simp[e];exact g _ _ ⟨_,_,_,_,_,_,_,_,adg,m⟩
   simp[e];refine p_ m si λ_ m=>?_;simp[e];refine lI m oH λ_ m=>?_;simp[e];refine lI m D1 λ_ m=>?_;simp[e];refine lI m xA λ_ m=>?_;simp[e];exact g _ _ ⟨_,_,_,_,_,_,_,_,adg,m⟩
  rintro _ _ ⟨v182,v183,t,u,v,w,y,r,E,m⟩;have e:=Aj e E;simp[e];refine afh 999 (o:=(List.length H)) (d:=9) (pre:=[sI v167,sI a.aix,sI a.cT.aiu,sL Ty.av a.cT.aiv,sL Tm.av a.dc]) (post:=[sL Pf.av a.aiv]) (x:=Fm.av (Fm.mk i b.cT b.dc b.aiv)) adg adg acZ (by simp;rfl) ?_;have e:=Aj e (show AV.agg [sI v167,sI a.aix,sI a.cT.aiu,sL Ty.av a.cT.aiv,sL Tm.av a.dc,AV.slice .iB [Fm.av (Fm.mk i b.cT b.dc b.aiv)],sL Pf.av a.aiv]=Pf.av (Pf.mk v167 a.aix a.cT a.dc [(Fm.mk i b.cT b.dc b.aiv)] a.aiv) by rw[Pf.eJ];rfl);simp[e];refine p_ m Jw λ_ m=>?_;exact au
def Po(T:dt){n:Nat}:=@And.left _ _ (Mo T n)
@[reducible,instance] def ac8:=fM 38 @Po
def QE(T:dt){H:cZ}{a0:dd}{a1:List Fm}{a2:Sq}{a3:Int}{i:Pf}{j:qZ}{a:dd}{b:Nat}(c:H[b]?=some [sL sI a0.l,sI a0.rG])(hm:uD a0 a1 a2 a3=some (i,j,a)):ds prog T 19 [AV.eb b 0,sL Fm.av a1,Sq.av a2,sI a3] H (AV.tuple [Pf.av i,qZ.av j]) (eR H b [sL sI a.l,sI a.rG]):=by
 rw[uD] at hm;have d:=en c;refine ea.IC c ?_;have e:=d;refine wi aiz func19 [] [] 999 ?_;simp[e];refine Wn hm 999 (λs1 f h=>h=eR H b [sL sI s1.2.l,sI s1.2.rG]/\f.1 0=AV.eb b 0/\f.1 1=sL Fm.av a1/\f.1 3=sI a3/\f.1 16=sI s1.1/\bx f 6 (Sq.av a2).cells/\bx f 8 [sI 0,sI 0,sI 0,nL,nL,nL,nL]/\bx f 9 [sI 0,sI 0,nL,nL,nL,nL]) adg (λs1 _ _ _ _ _ E m z p=>?_);have⟨v9,v10⟩:=s1;have e:=Aj e E;dsimp only[kX]at m;apply Iq e m<;>intro e m
 .refine sw [0,2] ?_;intro _ d12 e m;exact aa
 cases m;have m:=Qb z;dsimp only[kX]at m;refine sw [0,2] ?_;intro _ d16 e m;exact aa
@[reducible,instance] def acx:=fM 19 @QE
def HW(T:dt){H:cZ}{a0:dd}{D:ry}{q:dd}{k:Nat}(u:H[k]?=some [sL sI a0.l,sI a0.rG])(hm:sK a0=some (D,q)):ds prog T 7 [AV.eb k 0] H (ry.av D) (eR H k [sL sI q.l,sI q.rG]):=by
 rw[sK] at hm;have y:=en u;refine ea.IC u ?_;have e:=y;refine wi aiz func7 [] [] 999 ?_;simp[e];refine Wn hm 999 (λs1 f h=>∃d,(h=eR H k [sL sI s1.2.2.l,sI s1.2.2.rG]/\f.1 0=AV.eb k 0/\f.1 4=sI s1.1/\bx f 2 [nL]/\bx f 3 [sT d gK.av s1.2.1])/\Ow f [75] d s1.2.1) (by exact⟨.full,adg,ik.full⟩) (λs1 _ _ _ _ F E m A B=>?_);have⟨v9,v10,v11⟩:=s1;have⟨d,E,v⟩:=E;have e:=Aj e E;dsimp only[Hm]at m;refine sw [0,2] ?_;intro _ d13 e m;apply Ir e m<;>intro e m
 .cases m;have m:=Qb A;dsimp only[Hm]at m;exact au
 refine sw [0,3,0,2,0] ?_;intro _ _ d16 _ d18 e m;refine Wn m 1 (λa f h=>∃c,(h=eR H k [sL sI a.2.2.2.2.2.2.2.2.2.2.2.2.2.l,sI a.2.2.2.2.2.2.2.2.2.2.2.2.2.rG]/\f.1 0=AV.eb k 0/\f.1 4=sI v9/\f.1 9=sI a.1/\bx f 2 [nL]/\bx f 3 [sT c gK.av v10]/\bx f 5 [sS (E_ [(conv .u8 (dF .i64 97 v9))]),sI 0,sI 0,nL,nL,nL,sI 0,sI 0,sI 0,nL,nL,nL,nL]/\bx f 6 [sI a.2.1,sI a.2.2.1,sI a.2.2.2.1,sL Ty.av a.2.2.2.2.1,sL Tm.av a.2.2.2.2.2.1,sL Fm.av a.2.2.2.2.2.2.1,sL Pf.av a.2.2.2.2.2.2.2.1]/\bx f 8 [sI a.2.2.2.2.2.2.2.2.1,sI a.2.2.2.2.2.2.2.2.2.1,sL Ty.av a.2.2.2.2.2.2.2.2.2.2.1,sL Tm.av a.2.2.2.2.2.2.2.2.2.2.2.1,sL Fm.av a.2.2.2.2.2.2.2.2.2.2.2.2.1])/\Ow f [75] c v10) (by exact⟨d,adg,v⟩) (λa _ _ _ _ _ E m z p=>?_);have⟨v26,v27,v28,v29,v30,v31,v32,v33,r,v35,v36,v37,s,o⟩:=a;have⟨c,E,n⟩:=E;have e:=Aj e E;dsimp only[zU]at m;simp[e];refine wj 999 0 (λf h=>∃b,(h=eR H k [sL sI o.l,sI o.rG]/\f.1 0=AV.eb k 0/\f.1 4=sI v9/\f.1 9=sI v26/\f.1 39=sB (ep (lQ v26 0) (lQ v9 0) false)/\bx f 2 [nL]/\bx f 3 [sT b gK.av v10]/\bx f 5 [sS (E_ [(conv .u8 (dF .i64 97 v9))]),sI 0,sI 0,nL,nL,nL,sI 0,sI 0,sI 0,nL,nL,nL,nL]/\bx f 6 [sI v27,sI v28,sI v29,sL Ty.av v30,sL Tm.av v31,sL Fm.av v32,sL Pf.av v33]/\bx f 8 [sI r,sI v35,sL Ty.av v36,sL Tm.av v37,sL Fm.av s])/\Ow f [75] b v10) (λ_ g=>?_) ?_
 .rcases Pb (lQ v26 0) e with e|e
  .simp[e];exact g _ _ ⟨c,adg,n⟩
  simp[e];exact g _ _ ⟨c,adg,n⟩
 rintro _ _ ⟨b,E,j⟩;have e:=Aj e E;apply Iq e m<;>intro e m
 .refine sg 999 [0,2,0,1,8,0,4,0] ?_;intro _ d44 _ G _ e m;cases m;exact p _ _ _ ⟨b,adg,j⟩ z
 apply wg 3;cases m;have m:=Qb z;dsimp only[zU]at m;simp[e];refine Wj m 999 999 (λw f h=>∃v49 i,(h=eR H k [sL sI o.l,sI o.rG]/\f.1 0=AV.eb k 0/\f.1 4=sI v9/\f.1 65=sB v49/\bx f 2 [nL]/\bx f 3 [sT i gK.av v10]/\bx f 5 [sS (E_ [(conv .u8 (dF .i64 97 v9))]),sI 0,sI 0,nL,nL,nL,sI 0,sI 0,sI 0,nL,nL,nL,nL]/\bx f 6 [sI v27,sI v28,sI v29,sL Ty.av v30,sL Tm.av v31,sL Fm.av v32,sL Pf.av v33]/\bx f 8 [sI r,sI v35,sL Ty.av v36,sL Tm.av v37,sL Fm.av s])/\Ow f [75] i v10/\w v49=some F) (λw _ g m=>?_) ?_
 .refine sw [0,1] ?_;intro _ e m;apply Iq e m<;>intro e m
  .simp[e];exact g _ _ ⟨true,b,adg,j,m⟩
  refine sw [0,1,0] ?_;intro C e m;exact g _ _ ⟨(dw C 0),b,adg,j,m⟩
 rintro x _ ⟨v49,i,E,t,m⟩;have e:=Aj e E;apply Iq e m<;>intro e m
 .cases m;cases A;simp[e]
 refine sw [9,0] ?_;intro e m;refine Ao (f:=gK.av) v10 [(gK.mk (E_ [(conv .u8 (dF .i64 97 v9))]) (Fm.mk r (Ty.mk v35 v36) v37 s) (Pf.mk v27 v28 (Ty.mk v29 v30) v31 v32 v33))] t ag4 e.2 ?_;simp[e];cases m;exact B _ _ _ ⟨(.loc 75 (x.ef 75+1)),adg,(On 75)⟩ A
def Fc:C2 prog 12 p5 (t2 (sL Fm.av) sI) ry.av sI:=by
 refine u2 3 func12 λT H a0 a1 r m e=>?_;rw[p5] at m;simp[e];refine wA 999 999 [1] [2] (λf=>f.1 17=sB (ep (pR a1 0) true (lQ a1 (dq a0.dB)))) [7,8,0,1,0] (λ_ g=>?_) ?_
 .exact aa
 intro _ i j e m;refine Td e m 999 24 [22,23] [] [32] (λc=>c) (λc a f=>f.1 6=sT a Fm.av c) λk _ c d _ _ _ _ E e m z p=>?_;have⟨a,E,b⟩:=E;refine sw [20,0,1,9,0] ?_;intro h e m;refine Ao (f:=Fm.av) c [h] b C6 e.2 ?_;simp[e];cases m;exact p _ _ _ ⟨(.loc 32 (d.ef 32+1)),adg,(On 32)⟩ z
def ER(T:dt){H:cZ}{a0:gK}{a:ByteArray}{d:Bool}{q0:Nat}(b:H[q0]?=some [sS a])(hm:sn a0 a=some d):ds prog T 32 [gK.av a0,AV.eb q0 0] H (sB d) H:=by
 rw[sn] at hm;have c:=en b;have e:=Aj c b;refine wi aiz func32 [] [] 999 ?_;cases hm;simp[e]
def vJ(T:dt){H:cZ}{a0:ry}{a1:ByteArray}{a:Int}{b:Bool}(hm:kF a0 a1=some (a,b)):ds prog T 13 [ry.av a0,sS a1] H (AV.tuple [sI a,sB b]) H:=by
 rw[kF] at hm;refine ea.qT (Post:=λx K=>x=AV.tuple [sI a,sB b]/\∃X,K=H++X) ?_ (λ_ _ h=>⟨_,h.2.choose_spec,by rw[h.1];simp[AV.low,AV.gH],h.1,rfl⟩);have e:=trivial;refine wi aiz func13 [3] [] 999 ?_;simp[e];refine sy hm (hX T (st:=λ_:Unit=>H++[[sS a1]]) (y7.const _) (λX _ _ _ _ h=>by obtain⟨c,rfl⟩:=oZ h;exact ER T (q0:=(List.length H)) adg c)) λ_ _ m=>?_;exact au
def E0:C2 prog 34 pW sB (sL Tm.av) (sL Tm.av):=by
 refine v2 func34 λT H a0 a1 r m e=>?_;rw[pW] at m;refine sw [7,0] ?_;intro e m;exact Wb e m 999 13 [0,1,12] [] nI
def KM{n:Nat}:C2 prog 14 (qh n) sB Fm.av Fm.av:=by
 refine i2 λn ih=>u2 3 func14 λT H a0 a1 r m e=>?_;rw[qh] at m;simp[e];refine WA m 999 999 [] [2,3] (λv2 f=>f.1 35=sB v2) [7,0] (λa _ g m=>?_) ?_
 .apply Iq e m<;>intro e m
  .exact hU
  simp[e];refine p_ m ir λ_ m=>?_;apply Ir e m<;>intro e m
  .exact hU
  simp[e];refine p_ m E0 λ_ m=>?_;apply Ir e m<;>intro e m
  .exact hU
  exact hU
 intro _ v2 e m;exact Wb e m 999 39 [38] [2,3] nI
def zq(T:dt)(j:lT T){a0:List Int}{a1:Int}{o:Bool}(hm:nA a0 a1=some o):ea prog T 4 [sL sI a0,AV.sc (.int .u8 a1)] [] (λx _=>x=sB o):=by
 rw[nA] at hm;have e:=j;refine wi aiz func4 [] [] 5 ?_;simp[e];refine p_ hm (KJ T j) λ_ m=>?_;simp[e];apply Ir e m<;>intro e m
 .apply wg 999;exact au
 apply wg 5;simp[e];refine p_ m Ue λ_ m=>?_;simp[e];apply Ir e m<;>intro e m
 .apply wg 999;exact au
 apply wg 13;simp[e];refine p_ m (V0 T) λ_ m=>?_;simp[e];refine sy m (HW T adg) λa d5 m=>?_;have⟨e,m⟩:=Ck e m;have⟨k,e,m⟩:=Ah e m;simp[e];refine sy m (zv T j) λq r m=>?_;simp[e];refine sy m Fc λi c m=>?_;simp[e];refine wj 999 999 (λf h=>h=eR [[]] 0 [sL sI d5.l,sI d5.rG]/\f.1 6=sI (wq .i64 (conv .i64 a1) (dF .i64 (dq a.dB) 1))/\f.1 10=sL Fm.av i/\f.1 67=sB (ep (dw r 0) true (ep (dw c 0) true (ep (dw q (wq .i64 (conv .i64 a1) (dF .i64 (dq a.dB) 1))) true (dw (dq i) (wq .i64 (conv .i64 a1) (dF .i64 (dq a.dB) 1))))))/\bx f 5 [sL gK.av a.dB]/\bx f 7 [sL gK.av k]) (λ_ g=>?_) ?_
 .rcases Pb (dw r 0) e with e|e
  .exact aj
  rcases Pb (dw c 0) e with e|e
  .exact aj
  rcases Pb (dw q (wq .i64 (conv .i64 a1) (dF .i64 (dq a.dB) 1))) e with e|e
  .exact aj
  exact aj
 rintro _ _ E;have e:=Aj e E;refine Il e m λe m=>?_;simp[e];refine Wr e m 0 (λb _ f h=>h=eR [[]] 0 [sL sI d5.l,sI d5.rG]/\f.1 6=sI (wq .i64 (conv .i64 a1) (dF .i64 (dq a.dB) 1))/\f.1 10=sL Fm.av i/\f.1 69=sL gK.av a.dB/\f.1 70=sI (dq a.dB)/\f.1 71=sI b/\bx f 5 [sL gK.av a.dB]/\bx f 7 [sL gK.av k]) adg (λ_ _ _ _ E m=>?_) (λb _ _ _ _ _ _ n E e m z p=>?_)
 .have e:=Aj e E;apply wg 999;dsimp only[dk]at m;simp[e];refine sy m (vJ T) λ_ _ m=>?_;exact au
 have e:=Aj e E;apply wg 13;simp[e];refine sy m (vJ T) λ_ _ m=>?_;simp[e];refine sy m (vJ T) λ_ _ m=>?_;simp[e];refine Ep m 999 999 (λd f h=>∃v31,(h=eR [[]] 0 [sL sI d5.l,sI d5.rG]/\f.1 6=sI (wq .i64 (conv .i64 a1) (dF .i64 (dq a.dB) 1))/\f.1 10=sL Fm.av i/\f.1 69=sL gK.av a.dB/\f.1 70=sI (dq a.dB)/\f.1 71=sI b/\f.1 118=sB v31/\bx f 5 [sL gK.av a.dB]/\bx f 7 [sL gK.av k])/\d v31=some n) ?_ (λd _ g m=>?_)
 .rintro _ _ ⟨v31,E,m⟩;have e:=Aj e E;refine Il e m λe m=>?_;exact al
 apply Ir e m<;>intro e m
 .exact hU
 apply Iq e m<;>intro e m
 .exact hU
 apply Iq e m<;>intro e m
 .exact hU
 apply Ir e m<;>intro e m
 .have e:=Aj e (show P3 _ false=false by have h:=e.1.2;rw[e.2]at h;exact h);simp(maxSteps:=4000000) [e];exact g _ _ ⟨_,adg,m⟩
 have e:=Aj e (show P3 _ true=false by have h:=e.1.2;rw[e.2]at h;exact h);have⟨s,e,m⟩:=Ah e m;simp(maxSteps:=4000000) [e];refine lI m KM λ_ m=>?_;simp(maxSteps:=4000000) [e];exact g _ _ ⟨_,adg,m⟩
end Go.Proofs.YtjgjcpnoaeljkaaGreatDoor
