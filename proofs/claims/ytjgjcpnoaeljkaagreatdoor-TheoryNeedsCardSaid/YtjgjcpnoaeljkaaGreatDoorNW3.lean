/- Part of the proof of TheoryNeeds: walks. -/
import Derived.Test.YtjgjcpnoaeljkaaGreatDoorNW2
import Derived.Test.YtjgjcpnoaeljkaaGreatDoorNL22
set_option linter.all false
set_option maxRecDepth 20000
set_option maxHeartbeats 4000000
namespace Go.Proofs.YtjgjcpnoaeljkaaGreatDoor
open Go Go.kC Go.eU Tryz
def EN:C2 prog 85 sq sI (sL Fm.av) Sq.av:=by
 refine v2 func85 λT H a0 a1 r m e=>?_;rw[sq] at m;refine sw [7,0] ?_;intro e m;refine Wa e m 999 17 [15,16] [3] nI [11,0,1,7,7,0] ?_;intro _ _ _ e m;exact Wb e m 999 40 [38,39] [3] nI
@[reducible,instance] def Tz:=fK 85 @EN
def IZ:C1 prog 92 pj (t2 dZ.av sB) sI:=by
 refine u1 6 func92 λT H a0 r m e=>?_;rw[pj] at m;simp[e];refine wA 999 0 [4] [2] (λf=>f.1 5=sB (en (dj a0 1) true (dj a0 2))) [13] (λ_ g=>?_) ?_
 .rcases Pb (dj a0 1) e with e|e
  .exact aj
  exact aj
 intro _ e m;apply wg 1;simp[e];refine wA 999 0 [4] [2] (λf=>f.1 9=sB (en (dj a0 3) true (dj a0 7))) [13] (λ_ g=>?_) ?_
 .rcases Pb (dj a0 3) e with e|e
  .exact aj
  exact aj
 intro _ e m;apply wg 1;simp[e];refine wA 999 0 [4] [2] (λf=>f.1 13=sB (en (dj a0 4) true (en (dj a0 5) true (dj a0 20)))) [13] (λ_ g=>?_) ?_
 .rcases Pb (dj a0 4) e with e|e
  .exact aj
  rcases Pb (dj a0 5) e with e|e
  .exact aj
  exact aj
 intro _ e m;refine sg 3 [0,13] ?_;intro e m;apply wg 1;simp[e];refine wA 999 0 [4] [2] (λf=>f.1 21=sB (en (dj a0 8) true (dj a0 12))) [13] (λ_ g=>?_) ?_
 .rcases Pb (dj a0 8) e with e|e
  .exact aj
  exact aj
 intro _ e m;apply wg 1;simp[e];refine wA 999 0 [4] [2] (λf=>f.1 25=sB (en (dj a0 9) true (dj a0 13))) [13] (λ_ g=>?_) ?_
 .rcases Pb (dj a0 9) e with e|e
  .exact aj
  exact aj
 intro _ e m;apply wg 1;simp[e];refine wA 999 0 [4] [2] (λf=>f.1 29=sB (en (dj a0 10) true (dj a0 14))) [13] (λ_ g=>?_) ?_
 .rcases Pb (dj a0 10) e with e|e
  .exact aj
  exact aj
 intro _ e m;apply wg 1;simp[e];refine wA 999 0 [4] [2] (λf=>f.1 33=sB (en (dj a0 11) true (dj a0 15))) [13] (λ_ g=>?_) ?_
 .rcases Pb (dj a0 11) e with e|e
  .exact aj
  exact aj
 intro _ e m;apply wg 1;simp[e];refine wA 999 999 [4] [2] (λf=>f.1 37=sB (en (dj a0 16) true (dj a0 17))) [] (λ_ g=>?_) ?_
 .rcases Pb (dj a0 16) e with e|e
  .exact aj
  exact aj
 intro _ e m;exact aa
@[reducible,instance] def W5:=fK 92 @IZ
def HR{n:Nat}:C1 prog 44 (ng n) sB Pf.av:=by
 refine i1 λn ih=>u1 5 func44 λT H a0 r m e=>?_;rw[ng] at m;refine sw [0,2,0] ?_;intro a b e m;refine wA 999 0 [] [1,3] (λf=>f.1 57=sB (en b (en (dx (dp a0.dc) a.dc) true (en (dx (dp a0.eh) a.eh) true (en (dx (dp a0.aim) a.aim) true (en (qT a0.aio 0) true (en a.aio false (dx a0.aio 0)))))) true)) [13] (λ_ g=>?_) ?_
 .rcases Pb b e with e|e;rotate_left
  .exact aj
  rcases Pb (dx (dp a0.dc) a.dc) e with e|e
  .exact aj
  rcases Pb (dx (dp a0.eh) a.eh) e with e|e
  .exact aj
  rcases Pb (dx (dp a0.aim) a.aim) e with e|e
  .exact aj
  rcases Pb (qT a0.aio 0) e with e|e
  .exact aj
  rcases Pb a.aio e with e|e
  .exact aj
  exact aj
 intro _ e m;apply wg 3;simp[e];refine WA m 999 999 [] [1] (λc f=>f.1 76=sB c) [7,0] (λd _ g m=>?_) ?_
 .apply Ir e m<;>intro e m
  .simp[e];refine qc m tJ λ_ m=>?_;exact ij
  simp[e];refine qc m so λ_ m=>?_;apply Iq e m<;>intro e m
  .exact ij
  exact ij
 intro _ c e m;refine Wa e m 999 80 [78,79] [1] nI [11,0] ?_;intro _ _ e m;refine Wa e m 999 91 [89,90] [1] nI [11,0] ?_;intro _ _ e m;exact Wb e m 999 102 [100,101] [] nI
@[reducible,instance] def WX:=fK 44 @HR
def Ik{n:Nat}:C1 prog 93 (qR n) sB Pf.av:=by
 refine i1 λn ih=>v1 func93 λT H a0 r m e=>?_;rw[qR] at m;simp[e];refine Wa e m 999 12 [10,11] [1] nI [11,0] ?_;intro _ _ e m;refine Wa e m 999 23 [21,22] [1] nI [11,0] ?_;intro _ _ e m;exact Wb e m 999 34 [32,33] [] nI
def IK{n:Nat}:C1 prog 94 (qw n) sI Pf.av:=by
 refine i1 λn ih=>v1 func94 λT H a0 r m e=>?_;rw[qw] at m;simp[e];refine Wa e m 999 13 [11,12] [1] (λs2 f=>f.1 3=sI s2) [11,0] ?_;intro _ s2 e m;refine Wa e m 999 25 [23,24] [1] (λa f=>f.1 3=sI a) [11,0] ?_;intro _ a e m;exact Wb e m 999 37 [35,36] [] (λb f=>f.1 3=sI b)
def KR:C1 prog 45 sh sB Pf.av:=by
 refine u1 2 func45 λT H a0 r m e=>?_;rw[sh] at m;simp[e];refine WB m 999 999 [] [] (λv2 f=>f.1 2=sB v2) λa _ g m=>?_;simp[e];refine qc m Ik λ_ m=>?_;apply Ir e m<;>intro e m
 .exact ij
 simp[e];refine qc m IK λ_ m=>?_;exact ij
@[reducible,instance] def YK:=fK 45 @KR
def IH:C1 prog 23 np sI Pf.av:=by
 refine v1 func23 λT H a0 r m e=>?_;rw[np] at m;exact aa
@[reducible,instance] def Wz:=fK 23 @IH
def Rs:iS prog 224=true:=by kernel_rfl
def aho(fr:Fr)(L:List Int):Prop:=
 (L=[]/\fr.env 3=.slice .full [])\/∃cap,fr.env 3=.vH 17 (fr.gen 17) L.length cap/\fr.box 17=some (tu (λn=>AV.sc (Value.int .i64 n)) L ((cap-L.length)*1))/\L.length<=cap
def y'(T:dt){H:cZ}{a0:List (Int×Bool)}{r0:List Int}{ak:List (Int×Bool)}{u:Nat}(G:H[u]?=some [lP (λb=>AV.sc (Value.bool b)) a0])(hm:pA a0=some (r0,ak)):ds prog T 224 [AV.iR u] H (AV.slice .iw (List.map (λn=>AV.sc (Value.int .i64 n)) r0)) (eO H u [lP (λb=>AV.sc (Value.bool b)) ak]):=by
 unfold pA at hm;have⟨aF,hm⟩:=j0 hm;have⟨V,hm⟩:=j0 hm;have an:=er G;simp only[uV,GA] at hm;have⟨e1,e2⟩:=hm;subst e2;rw[I7 G]
 have V:(a0.map (·.1)).Nodup:=by simpa[vS] using V
 refine ec.ra (Post:=λx K=>x=AV.slice .iw (List.map (λn=>AV.sc (Value.int .i64 n)) r0)/\∃X,K=H++X) ?_ (λ_ _ h=>⟨_,h.2.choose_spec,by rw[h.1];simp[AV.low,AV.gE],h.1,rfl⟩);refine ec.intro (fn:=f224) func224 rfl Rs (A3 rfl) ?_;refine fa.sr [] λK1 I=>?_;simp;apply I;refine fa.sr [] λK1 I=>?_;simp;apply I;refine fa.tc λK1 I=>?_;refine fa.sr [] λK2 aG=>?_;simp[GC,G,lP];apply aG;refine fa.ya λQ nn ex x r=>?_
 refine fa.NB (λm fr h=>∃(seen:List Nat) (L:List Int),m=GB a0.length seen/\L.length+m<=a0.length/\Fb L/\(∀x,x∈L↔∃j∈seen,∃p,a0[j]?=some p/\p.1=x)/\H++[[.lM u a0.length seen]]=h/\fr.env 7=.eb H.length 0/\aho fr L) a0.length ?_ ?_
 .exact⟨[],[],(OL _).symm,aaL,.nil,aaL,aaL,rfl,.inl ⟨rfl,rfl⟩⟩
 rintro m fr h ⟨seen,L,aH,aV,hA,hL,rfl,J,hs⟩ K3 aI
 have hi:(H++[[AV.lM u a0.length seen]])[H.length]?=some [AV.lM u a0.length seen]:=aaL
 have ho:(H++[[AV.lM u a0.length seen]])[u]?=some [lP (λb=>AV.sc (Value.bool b)) a0]:=by simp[an,G]
 refine fa.sr [] λK4 ao=>?_;simp only[Su,ev,J];refine PW a0 hi ho (λaq=>?_) (λj p W hj=>?_)
 .--aW end
  simp;apply ao;refine fa.tc λK5 ar=>?_;refine fa.sx λA B ga Y=>?_;simp;apply Y;refine fa.exit ?_;apply ex;apply I
  have hr:xP [] (a0.map (·.1))=L:=by
   refine Fb.eq (zE _ [] .nil V aaL) hA λx=>?_;rw[zH,hL];simp only[vW,false_or,nw];constructor
   .rintro⟨p,W,rfl⟩;have⟨j,hj⟩:=Y4.1 W;exact⟨j,aq j (mI.1 hj).1,p,hj,rfl⟩
   .rintro⟨j,_,p,W,rfl⟩;exact⟨p,CO W,rfl⟩
  rw[hr] at e1;subst e1;rcases hs with⟨rfl,o⟩|⟨cap,o,l,hle⟩
  .refine fa.sr [] λK6 s=>?_;simp[o];apply s;refine fa.ret ?_;simp[uo,o]
  .refine fa.aeV 3 (f:=λn=>AV.sc (Value.int .i64 n)) (L:=L) (k:=(cap-L.length)*1) (sz:=1) (d:=17) (g:=fr.gen 17) (cap:=cap) (by intro x;simp) (by intro x;simp) (by simp[o]) aaL (by simp[l]) ?_;refine fa.sr [] λK6 s=>?_;simp;apply s;refine fa.ret ?_;simp[uo]
 have aw:j<a0.length:=(mI.1 W).1;have aJ:=Sa aw hj
 have aK:(H++[[AV.lM u a0.length (seen++[j])]])[H.length]?=some [AV.lM u a0.length (seen++[j])]:=aaL
 have aL:(H++[[AV.lM u a0.length (seen++[j])]])[u]?=some [lP (λb=>AV.sc (Value.bool b)) a0]:=by simp[an,G]
 have eO:eO (H++[[AV.lM u a0.length seen]]) H.length [AV.lM u a0.length (seen++[j])]=H++[[AV.lM u a0.length (seen++[j])]]:=aaL
 rw[eO];have ax:=Mb (f:=λb=>AV.sc (Value.bool b)) a0 aK aL W
 have af:p.1∉L:=by
  rw[hL];rintro⟨j',aM,p',aN,he⟩
  have h1:(a0.map (·.1))[j]?=some p.1:=by rw[yq,W];rfl
  have h2:(a0.map (·.1))[j']?=some p.1:=by rw[yq,aN];simp[he]
  have:j=j':=by
   have aO:j<(a0.map (·.1)).length:=by simpa using aw
   exact(List.getElem?_inj aO V).1 (h1.trans h2.symm)
  subst this;exact hj aM
 have aU:a0.length<=lim:=Nf aF;simp;apply ao;refine fa.tc λK5 ar=>?_;refine fa.sx λA B ga Y=>?_;simp;apply ga;refine fa.skip ?_;apply ar;refine fa.ya λQ1 aP aX x1 r1=>?_;refine fa.sr [] λK6 s=>?_;simp[J,ax];apply s;refine fa.sr [] λK6 s=>?_
 have hlen:∃y,fr.env 3=y/\Cd prog 22 y=some (.sc (.int .i64 L.length)):=by
  rcases hs with⟨rfl,o⟩|⟨cap,o,l,hle⟩
  .exact⟨_,o,aaL⟩
  .exact⟨_,o,aaL⟩
 have⟨y,hy,ay⟩:=hlen;simp[hy,ay];apply s
 refine fa.aeH (λfr h=>H++[[.lM u a0.length (seen++[j])]]=h/\fr.env 7=.eb H.length 0/\fr.env 4=.sc (.int .i64 p.1)/\fr.env 5=.sc (.int .i64 (L.length:Int))/\∃cap,fr.env 3=.vH 17 (fr.gen 17) (L.length+1) cap/\fr.box 17=some (tu (λn=>AV.sc (Value.int .i64 n)) (L.take L.length++p.1::L.drop L.length) ((cap-(L.length+1))*1))/\L.length+1<=cap) (λK6 s=>?_) ?_
 .refine fa.region [] adm ?_
  have az:fk L [p.1]=L.take L.length++p.1::L.drop L.length:=by simp[fk]
  have aY:(fk L [p.1]).length=L.length+1:=by simp[fk]
  rcases hs with⟨rfl,o⟩|⟨cap,o,l,hle⟩
  .simp[o];refine rp.abv (f:=λn=>AV.sc (Value.int .i64 n)) [p.1] OB ⟨_,Z'⟩ (by intro x;simp) (by simp[xN,lim]) rfl (by first|rfl|simp) λcap zO=>?_;simp;apply s;refine⟨rfl,?_,?_,?_,cap,?_,?_,by simpa using zO⟩<;>simp[J]
  .simp[o];refine rp.lh (f:=λn=>AV.sc (Value.int .i64 n)) L [p.1] (cap:=cap) OB ⟨_,Z'⟩ (by intro x;simp) (by simp[eI];omega) aaL rfl (by first|rfl|simp) (by simp[l]) hle λg' aA zO=>?_;rw[az] at zO;simp only[az];simp;apply s;refine⟨rfl,?_,?_,?_,aA,?_,?_,by simpa using zO⟩<;>simp[J]
 rintro aZ h6 ⟨rfl,f7,f4,f5,cap,f3,f17,aB⟩
 refine fa.aeH (λfr h=>H++[[.lM u a0.length (seen++[j])]]=h/\fr.env 7=.eb H.length 0/\fr.env 4=.sc (.int .i64 p.1)/\∃(i:Nat) (z:Int),fr.env 5=.sc (.int .i64 (i:Int))/\i<=L.length/\(∀a∈L.drop i,a>p.1)/\(i=0\/∃a,L[i-1]?=some a/\¬a>p.1)/\∃cap,fr.env 3=.vH 17 (fr.gen 17) (L.length+1) cap/\fr.box 17=some (tu (λn=>AV.sc (Value.int .i64 n)) (L.take i++z::L.drop i) ((cap-(L.length+1))*1))/\L.length+1<=cap) (λK7 aQ=>?_) ?_
 .refine fa.ya λQ2 a1 aC x2 r2=>?_
  refine fa.NB (λi fr h=>H++[[.lM u a0.length (seen++[j])]]=h/\fr.env 7=.eb H.length 0/\fr.env 4=.sc (.int .i64 p.1)/\∃(z:Int),fr.env 5=.sc (.int .i64 (i:Int))/\i<=L.length/\(∀a∈L.drop i,a>p.1)/\∃cap,fr.env 3=.vH 17 (fr.gen 17) (L.length+1) cap/\fr.box 17=some (tu (λn=>AV.sc (Value.int .i64 n)) (L.take i++z::L.drop i) ((cap-(L.length+1))*1))/\L.length+1<=cap) L.length ?_ ?_
  .exact⟨rfl,f7,f4,p.1,f5,gO _,aaL,cap,f3,f17,aB⟩
  clear f7 f4 f5 f3 f17 aB hy ay J hs;rintro i fr h ⟨rfl,J,e4,z,U,C,O,cap,o,l,hle⟩ K8 aR
  have stop:∀fr':Fr,fr'.env 7=.eb H.length 0->fr'.env 4=.sc (.int .i64 p.1)->fr'.env 5=.sc (.int .i64 (i:Int))->fr'.env 3=fr.env 3->fr'.gen=fr.gen->fr'.box=fr.box->(i=0\/∃a,L[i-1]?=some a/\¬a>p.1)->K7 fr' (H++[[.lM u a0.length (seen++[j])]]):=by
   intro fr' g7 g4 g5 g3 gg Y Z;exact aQ _ _ ⟨rfl,g7,g4,i,z,g5,C,O,Z,cap,by rw[g3,o,gg],by rw[Y,l],hle⟩
  refine fa.tc λK9 aS=>?_;refine fa.sr [] λa6 ad=>?_;obtain⟨c,F⟩:∃c:Int,c=(i:Int):=⟨_,rfl⟩;rw[<-F] at U;cases i with
  |zero=>
   have Z:ly c 0=false:=by rw[F];decide
   simp[U,Z];apply ad;refine fa.sx λA B ga Y=>?_;simp;apply Y;refine fa.exit ?_;apply aC;refine stop _ ?_ ?_ ?_ ?_ ?_ ?_ (.inl rfl)<;>simp[J,e4,U,F]
  |succ i=>
   have Z:ly c 0=true:=by rw[F];simp[ly]
   obtain⟨c',ah⟩:∃c':Int,c'=(i:Int):=⟨_,rfl⟩
   have R:ea .i64 c 1=c':=by rw[F,ah];exact U1 VW
   obtain⟨x,hx⟩:∃x,L[i]?=some x:=⟨_,l5 VW⟩
   have D:(L.take (i+1)++z::L.drop (i+1)).length=L.length+1:=acz
   have ae:dg (L.take (i+1)++z::L.drop (i+1)) c'=some x:=by
    unfold dg;rw[cS VW,ah,zP,tz (by rw[xS];omega),Nu,cS VW,hx]
   have S:0<=c'/\c'<((L.length+1:Nat):Int):=VW
   have q:0<=c/\c<((L.length+1:Nat):Int):=VW
   have ai:=Me (P:=prog) (t:=3) (f:=λn=>AV.sc (Value.int .i64 n)) (k:=(cap-(L.length+1))*1) Ux (by intro x;simp) ae;generalize hM:L.take (i+1)++z::L.drop (i+1)=M at l D ae ai;generalize hN:L.length+1=N at o l hle D S q ai
   have aD:∀fr':Fr,fr'.gen 17=fr.gen 17->fr'.box 17=fr.box 17->sP prog fr' (H++[[AV.lM u a0.length (seen++[j])]]) 3 (.gx 17 (fr.gen 17) (Ma c'.toNat 1))=some (.sc (.int .i64 x)):=by
    intro fr' g1 g2;show(if fr.gen 17=fr'.gen 17 then(match fr'.box 17 with|some cs=>lB prog 3 cs (Ma c'.toNat 1)|none=>none)else none)=_;rw[cS g1.symm,g2,l];exact ai
   simp[U,o,Z,R,S,aD,e4,-sP];apply ad;have a7:M.length=N:=D
   have v:dg M c=some z:=by
    unfold dg;rw[cS VW,F,zP,<-hM,xT acz];simp[xS,show min (i+1) L.length=i+1 from by omega]
   have w:wy M c x=L.take i++x::L.drop i:=by
    have hd:L.drop i=x::L.drop (i+1):=by
     rw[Ko (by omega:i<L.length)]
     congr 1
     exact(mI.1 hx).2
    have ht:L.take (i+1)=L.take i++[x]:=by rw[aby,hx];rfl
    unfold wy;rw[F,zP,<-hM,hd,afg _ _ acz];rw[xS,show min (i+1) L.length=i+1 from by omega,X7,af1,ht,s6];rfl
   refine fa.sx λA B ga Y=>?_;rcases Bool.eq_false_or_eq_true (ly x p.1)with hgx|hgx
   .simp[hgx];apply ga;refine fa.skip ?_;apply aS;refine fa.ya λQ3 aT a8 x3 r3=>?_;refine fa.sr [] λa_ aE=>?_;simp[U,o,R,S,q,aD,e4,-sP];refine y_.arr (f:=λn=>AV.sc (Value.int .i64 n)) (L:=M) (k:=(cap-N)*1) x Ux (by intro x;simp) aaL (x:=z) v aaL (by simp[l]) aaL ?_;simp;apply aE;refine fa.region [] adm ?_;simp[U,R];apply aT;rw[w];refine aR _ _ i (Vl _) ⟨rfl,?_,?_,x,?_,VW,?_,cap,?_,?_,by rw[hN];exact hle⟩
    .simp[J]
    .simp[e4]
    .simp[ah]
    .intro a ha
     have hd:L.drop i=x::L.drop (i+1):=by
      rw[Ko (by omega:i<L.length)]
      congr 1
      exact(mI.1 hx).2
     rw[hd] at ha;rcases jr.1 ha with rfl|ha
     .simpa[ly] using hgx
     .exact O a ha
    .simp[o,hN]
    .simp[hN]
   .simp[hgx];apply Y;refine fa.exit ?_;apply aC;refine stop _ ?_ ?_ ?_ ?_ ?_ ?_ (.inr ⟨x,by simpa using hx,by simpa[ly] using hgx⟩)<;>simp[J,e4,U,o,F]
 rintro fr h ⟨rfl,J,e4,i,z,U,C,O,Z,cap,o,l,hle⟩;refine fa.region [] adm ?_;obtain⟨c,F⟩:∃c:Int,c=(i:Int):=⟨_,rfl⟩;rw[<-F] at U
 have D:(L.take i++z::L.drop i).length=L.length+1:=acz
 have v:dg (L.take i++z::L.drop i) c=some z:=by
  unfold dg;rw[cS VW,F,zP,xT acz];simp[xS,T1 C]
 have w:wy (L.take i++z::L.drop i) c p.1=AY p.1 L:=by
  rw[Oo L i hA af C O Z];unfold wy;rw[F,zP,afg _ _ acz,xS,T1 C,X7,af1]
 have q:0<=c/\c<((L.length+1:Nat):Int):=VW
 have hlen:(AY p.1 L).length=L.length+1:=by rw[Oo L i hA af C O Z];simp;omega
 generalize hM:L.take i++z::L.drop i=M at l D v w;generalize hN:L.length+1=N at o l hle D q hlen;simp[U,o,e4,q];refine y_.arr (f:=λn=>AV.sc (Value.int .i64 n)) (L:=M) (k:=(cap-N)*1) p.1 Ux (by intro x;simp) aaL (x:=z) v aaL (by simp[l]) aaL ?_;simp;apply aP;rw[w];refine aI _ _ _ (by rw[aH];exact aJ) ⟨seen++[j],AY p.1 L,rfl,VW,F3 p.1 L af hA,?_,rfl,?_,.inr ⟨cap,?_,?_,by rw[hlen];exact hle⟩⟩
 .intro x;rw[yC,hL];constructor
  .rintro(rfl|⟨j',h1,p',h2,h3⟩)
   .exact⟨j,aaL,p,W,rfl⟩
   .exact⟨j',by simp[h1],p',h2,h3⟩
  .rintro⟨j',h1,p',h2,h3⟩;rcases rA.1 h1 with h1|h1
   .exact .inr ⟨j',h1,p',h2,h3⟩
   .simp only[xV] at h1;subst h1;rw[W] at h2;obtain rfl:=fQ h2;exact .inl h3.symm
 .simp[J]
 .simp[o,hlen]
 .simp[hlen]
def ku(T:dt){H:cZ}{a0 a1 c:List Int}(hm:fo a0 a1=some c):ds prog T 172 [sL sI a0,sL sI a1] H (sL sI c) H:=by
 rw[fo] at hm;refine ec.ra (Post:=λx K=>x=sL sI c/\∃X,K=H++X) ?_ (λ_ _ h=>⟨_,h.2.choose_spec,by rw[h.1];simp[AV.low,AV.gE],h.1,rfl⟩);have e:=trivial;refine wi aiq func172 [] [] 999 ?_;simp[e];refine Xn e hm 999 (λd s2 f h=>h=H++[[lP sB s2]]/\f.1 1=sL sI a1/\f.1 5=AV.iR (List.length H)/\f.1 11=sL sI a0/\f.1 12=sI (dp a0)/\f.1 13=sI d) aaQ (λd _ s2 _ _ _ _ _ E e m z p=>?_) (λs2 _ _ _ E m=>?_)
 .have e:=Aj e E;simp[e];refine ry.i64 (f:=sB) s2 true I4 rE aaQ aaQ ?_;exact al
 have e:=Aj e E;refine sw [11,0] ?_;intro e m;refine Wr e m 999 (λb a f h=>h=H++[[lP sB a]]/\f.1 5=AV.iR (List.length H)/\f.1 20=sL sI a1/\f.1 21=sI (dp a1)/\f.1 22=sI b) aaQ (λa _ _ _ E m=>?_) (λb _ a _ _ _ _ _ E e m z p=>?_)
 .have e:=Aj e E;dsimp only[dh]at m;simp[e];refine s8 m (y' T aaQ) λ_ d22 m=>?_;exact au
 have e:=Aj e E;simp[e];refine ry.i64 (f:=sB) a true I4 rE aaQ aaQ ?_;exact al
@[reducible,instance] def W4:=fK 172 @ku
def mf:C3 prog 173 du sI cX.av sI sI:=by
 refine u3 3 func173 λT H a0 a1 a2 r m e=>?_;rw[du] at m;simp[e];refine wB 999 999 [] [] (λf=>f.1 20=sB (en (ly (dJ .i64 (dp a0.aip) a1) 16) true (ly (dJ .i64 (dp a0.ais) a2) 16))) λ_ g=>?_;exact aa
@[reducible,instance] def Mu:=fK 173 @mf
def mu:C2 prog 174 fh cX.av cX.av Fm.av:=by
 refine v2 func174 λT H a0 a1 r m e=>?_;rw[fh] at m;refine sw [9,0] ?_;intro e m;refine Ad (f:=Fm.av) a0.ais [a1] (ig.full (D:=[])) ES e.2 ?_;exact au
@[reducible,instance] def MO:=fK 174 @mu
def Lo{n:Nat}:C2 prog 61 (kR n) sB Tm.av Tm.av:=by
 refine i2 λn ih=>u2 3 func61 λT H a0 a1 r m e=>?_;rw[kR] at m;simp[e];refine WA m 999 999 [] [2,3] (λv2 f=>f.1 34=sB v2) [7,0] (λa _ g m=>?_) ?_
 .apply Iq e m<;>intro e m
  .exact ij
  apply Iq e m<;>intro e m
  .exact ij
  simp[e];refine qc m iU λ_ m=>?_;apply Ir e m<;>intro e m
  .exact ij
  exact ij
 intro _ v2 e m;exact Wb e m 999 38 [37] [2,3] nI
@[reducible,instance] def X9:=fK 61 @Lo
def vJ{n:Nat}:C2 prog 306 (kE n) sB Tm.av sI:=by
 refine i2 λn ih=>v2 func306 λT H a0 a1 r m e=>?_;rw[kE] at m;refine sw [7,0] ?_;intro e m;exact Wb e m 999 14 [1,12,13] [] nI
@[reducible,instance] def Xj:=fK 306 @vJ
def Kk:C1 prog 328 ux sB Tm.av:=by
 refine u1 8 func328 λT H a0 r m e=>?_;rw[ux] at m;refine sw [0,13] ?_;intro e m;apply wg 3;simp[e];apply Iq e m<;>intro e m
 .apply wg 1;simp[e];refine WB m 999 999 [] [] (λv3 f=>f.1 2=sB v3) λb _ g m=>?_;have⟨c,e,m⟩:=Ac e m;apply Iq e m<;>intro e m
  .exact ij
  exact ij
 apply wg 4;apply Iq e m<;>intro e m
 .simp[e];refine WB m 999 999 [] [] (λv9 f=>f.1 2=sB v9) λd _ g m=>?_;have⟨a,e,m⟩:=Ac e m;apply Iq e m<;>intro e m
  .exact ij
  exact ij
 simp[e];refine wA 999 999 [] [1] (λf=>f.1 45=sB (en (dj a0.ail 11) true (dj a0.ail 12))) [] (λ_ g=>?_) ?_
 .rcases Pb (dj a0.ail 11) e with e|e
  .exact aj
  exact aj
 intro _ e m;exact aa
def H0:C1 prog 167 kv sI Tm.av:=by
 refine v1 func167 λT H a0 r m e=>?_;rw[kv] at m;exact aa
@[reducible,instance] def W8:=fK 167 @H0
def HY{n:Nat}:C2 prog 326 (mo n) sI Tm.av sI:=by
 refine i2 λn ih=>u2 4 func326 λT H a0 a1 r m e=>?_;rw[mo] at m;simp[e];refine wA 0 999 [1] [2] (λf=>f.1 5=sI (en (en (dj a0.ail 1) (dj a0.aio a1) false) (dJ .i64 0 1) 0)) [0] (λ_ g=>?_) ?_
 .refine wA 999 999 [1,5] [2] (λf=>f.1 16=sB (en (dj a0.ail 1) (dj a0.aio a1) false)) [] (λ_ g=>?_) ?_
  .exact aa
  intro _ e m;rcases Pb (en (dj a0.ail 1) (dj a0.aio a1) false) e with e|e
  .exact aj
  exact aj
 intro _ e m;exact Wb e m 999 22 [1,20,21] [2] (λa f=>f.1 5=sI a)
@[reducible,instance] def W0:=fK 326 @HY
def GJ:C1 prog 329 qY sI Tm.av:=by
 refine v1 func329 λT H a0 r m e=>?_;rw[qY] at m;exact aa
def Om{n:Nat}:C3 prog 123 (pZ n) Tm.av Tm.av sI sI:=by
 refine i3 λn ih=>u3 4 func123 λT H a0 a1 a2 r m e=>?_;rw[pZ] at m;simp[e];refine wA 0 999 [1,2] [3,6] (λf=>bx f 7 [sI a0.ail,sI (en (en (dj a0.ail 1) (og a0.aio a1) false) (dJ .i64 a0.aio a2) a0.aio),sI a0.cT.ail,sL Ty.av a0.cT.aim,nL]) [0] (λ_ g=>?_) ?_
 .refine wA 999 999 [1,2] [3,6,7] (λf=>f.1 25=sB (en (dj a0.ail 1) (og a0.aio a1) false)) [] (λ_ g=>?_) ?_
  .exact aa
  intro _ e m;rcases Pb (en (dj a0.ail 1) (og a0.aio a1) false) e with e|e
  .exact aj
  exact aj
 intro _ e m;refine Td e m 999 34 [1,2,32,33] [3,6] [48] (λc=>c) (λc a f=>bx f 7 [sI a0.ail,sI (en (en (dj a0.ail 1) (og a0.aio a1) false) (dJ .i64 a0.aio a2) a0.aio),sI a0.cT.ail,sL Ty.av a0.cT.aim,sT a Tm.av c]) λi _ c d _ _ _ _ E e m z p=>?_;have⟨a,E,b⟩:=E;refine sw [20,0,4,0,18,9,0] ?_;intro _ h e m;refine Ad (f:=Tm.av) c [h] b BV e.2 ?_;simp[e];cases m;exact p _ _ _ ⟨(.loc 48 (d.eg 48+1)),aaQ,(On 48)⟩ z
@[reducible,instance] def acZ:=fK 123 @Om
def PA{n:Nat}:C4 prog 327 (uz n) Tm.av Tm.av sI sI Tm.av:=by
 refine i4 λn ih=>v4 func327 λT H a0 a1 a2 a3 r m e=>?_;rw[uz] at m;refine sw [13,0] ?_;intro e m;refine Td e m 999 47 [1,2,45,46] [4,7,8] [62] (λb=>b) (λb a f=>bx f 9 [sI a0.ail,sI a0.aio,sI a0.cT.ail,sL Ty.av a0.cT.aim,sT a Tm.av b]) λi _ b d _ _ _ _ E e m z p=>?_;have⟨a,E,c⟩:=E;refine sw [20,0,4,0,18,9,0] ?_;intro _ h e m;refine Ad (f:=Tm.av) b [h] c BV e.2 ?_;simp[e];cases m;exact p _ _ _ ⟨(.loc 62 (d.eg 62+1)),aaQ,(On 62)⟩ z
@[reducible,instance] def acD:=fK 327 @PA
def Ey:C1 prog 330 p4 Tm.av Tm.av:=by
 refine v1 func330 λT H a0 r m e=>?_;rw[p4] at m;exact aa
def RK:iS prog 309=true:=by kernel_rfl
def Ie:∀(n:Nat),C2 prog 309 (oY n) (t3 Tm.av sB sB) Tm.av sI:=by
  intro n
  induction n with
  |zero=>
    skip
    all_goals(intro _ _;intros;rename_i hm;cases hm)
  |succ n ih=>
 rintro T H a0 a1 ⟨r0,r1,r2⟩ hm;rw[oY] at hm;refine ec.intro (fn:=f309) func309 rfl RK (A3 rfl) ?_;refine fa.sr [] λK1 aZ=>?_;simp;apply aZ;refine fa.tc λK3 a6=>?_;refine fa.sr [] λK5 a7=>?_;have⟨x7,a8,N⟩:=dm hm;clear hm
 try dsimp only at N
 simp;refine il.fn (Kk a8) ?_;simp;apply a7;refine fa.sx λbs bt aw ax=>?_;rcases gR N with⟨a,O⟩|⟨a,P⟩
 .clear N;simp[a];apply aw;refine fa.tc λbu ay=>?_;refine fa.sr [] λbw az=>?_;have⟨bz,aA,B⟩:=dm O;clear O
  try dsimp only at B
  simp[a];refine il.fn (GJ aA) ?_;simp[a];apply az;refine fa.sx λbA bB aB aC=>?_;rcases gR B with⟨s,Q⟩|⟨s,R⟩
  .clear B;simp[a,s];apply aB;refine fa.sr [] λbC aD=>?_;simp[a,s];apply aD;refine fa.ret ?_;simp only[uV,GA] at Q;obtain⟨rfl,rfl,rfl⟩:=Q;simp[uo,a,s]
  clear B;simp[a,s];apply aC;refine fa.skip ?_;apply ay;refine fa.sr [] λbD aE=>?_;have⟨bE,aF,G⟩:=dm R;clear R
  try dsimp only at G
  simp[a,s];refine il.fn (Ey aF) ?_;simp[a,s];apply aE;refine fa.ret ?_;simp only[uV,GA] at G;obtain⟨rfl,rfl,rfl⟩:=G;simp[uo,a,s]
 clear N;simp[a];apply ax;refine fa.skip ?_;apply a6;refine fa.tc λbF aG=>?_;refine fa.sr [] λbG aH=>?_;simp[a];apply aH;have⟨V,S⟩:=j0 P;clear P;have⟨a_,aI,I⟩:=kL S;clear S
 try dsimp only at I
 have⟨W,t,r⟩:=dm I;clear I;refine fa.ya λbH a' aJ ba aK=>?_;refine fa.NB (λn55 fr h=>∃(i56:Nat) (F:Int) (u:Nat) (v:Nat),H=h/\(fr.env 1=sI a1/\fr.env 2=AV.gx 2 u 0/\fr.env 4=AV.gx 4 v 0/\fr.env 23=sL Tm.av a0.aim/\fr.env 24=sI (dp a0.aim)/\fr.env 25=sI F/\fr.gen 2=u/\fr.box 2=some [sI a0.ail,sI a0.aio,sI a0.cT.ail,sL Ty.av a0.cT.aim,sL Tm.av a0.aim]/\fr.gen 4=v/\fr.box 4=some [sI 0,sI 0,sI 0,nL,nL])/\F=(i56:Int)/\i56+n55=List.length a0.aim/\dF a_ (List.drop i56 a0.aim) i56 ()=some W) (List.length a0.aim) ?_ ?_
 .refine⟨0,0,1,1,?_,⟨?_,?_,?_,?_,?_,?_,?_,?_,?_,?_⟩,rfl,aaL,t⟩<;>first|rfl|simp[a]
 rintro n55 U bI ⟨i56,F,u,v,rfl,j,A,bb,t⟩ bJ aL;rcases n55 with _|n55
 .have b:=MG (l:=a0.aim) A VW;refine fa.sr [] λbK aM=>?_;simp[j,b,a];apply aM;refine fa.tc λbL bc=>?_;refine fa.sx λbM bN bd aN=>?_;simp[j,b,a];apply aN;refine fa.exit ?_;apply aJ;rw[HE VW,nT] at t;obtain rfl:=fQ t;rw[dh] at r
  try dsimp only at r
  apply aG;refine fa.sr [] λbO aO=>?_;simp[j,b,a];apply aO;refine fa.ret ?_;simp only[uV,GA] at r;obtain⟨rfl,rfl,rfl⟩:=r;simp[uo,j,b,a]
 have b:=Q_ (l:=a0.aim) A VW;have⟨bP,X,i⟩:=M6 (l:=a0.aim) A VW;rw[X,dB] at t;have⟨bQ,C,D⟩:=dm t;clear t;rw[aI,<-A] at C
 try dsimp only at C
 refine fa.sr [] λbR aP=>?_;simp[j,b,i,a];apply aP;refine fa.tc λbS aQ=>?_;refine fa.sx λbT bU aR bf=>?_;simp[j,b,i,a];apply aR;refine fa.skip ?_;apply aQ;refine fa.tc λbV aS=>?_;refine fa.ya λbW bg aT bh aU=>?_;refine fa.sr [] λbX aV=>?_;simp[j,b,i,a];apply aV;refine fa.sr [] λbY aW=>?_;have⟨Y,bZ,bj,Z,w⟩:=uB C;clear C
 try dsimp only at w
 simp[j,b,i,a];refine il.fn (ih Z) ?_;simp[j,b,i,a];apply aW;refine fa.tc λbk ad=>?_;refine fa.sr [] λbl ae=>?_;simp[j,b,i,a];apply ae;refine fa.sx λbm bn af ah=>?_;rcases gR w with⟨c,J⟩|⟨c,ai⟩;rotate_left
 .clear w;simp[j,b,i,a,c];apply af;refine fa.exit ?_;apply aT;apply aS;refine fa.region [] adm ?_;simp[j,b,i,a,c];obtain rfl:=fQ ai;rw[dR] at D
  refine aL _ _ n55 (Vl _) ⟨(i56+1),(dJ .i64 F 1),u,v,?_,⟨?_,?_,?_,?_,?_,?_,?_,?_,?_,?_⟩,(JS A VW V),VW,D⟩<;>first|rfl|simp[j,b,i,a,c]
 clear w;simp[j,b,i,a,c];apply ah;refine fa.skip ?_;apply ad;refine fa.sr [] λbo ak=>?_;simp[j,b,i,a,c];apply ak;refine fa.sr [] λbp an=>?_;have⟨ao,K⟩:=j0 J;clear J;simp[j,b,i,a,c];refine rp.abv (f:=Tm.av) a0.aim BV ⟨_,acq⟩ (by intro x;simp) ao (by first|rfl|simp) (by first|rfl|simp) λy aX=>?_;simp[j,b,i,a,c];apply an;refine fa.sr [] λbq aq=>?_;have⟨aY,o,M⟩:=dm K;clear K
 try dsimp only at M
 have q:=FE o;simp[j,b,i,o,q,a,c];refine y_.arr (f:=Tm.av) (L:=a0.aim) (k:=((y-List.length a0.aim)*5)) Y aai (by intro x;simp) (by simp[j,b,i,o,q,a,c]) (x:=aY) (by assumption) (by simp[j,b,i,o,q,a,c]) (by simp[j,b,i,o,q,a,c]) (by simp[j,b,i,o,q,a,c]) ?_;simp[j,b,i,o,q,a,c];apply aq;refine fa.tc λbr ar=>?_;refine fa.ahy 12 4 (cs2:=[sI a0.ail,sI a0.aio,sI a0.cT.ail,sL Ty.av a0.cT.aim,AV.vH 42 (U.gen 42+1) (List.length (wy a0.aim F Y)) y]) (f:=Tm.av) (L:=(wy a0.aim F Y)) (k:=((y-List.length a0.aim)*5)) (sz:=5) (d:=42) (g:=(U.gen 42+1)) (cap:=y) (by intro x;simp) (by intro x;simp) aaB (by simp[j,b,i,o,q,a,c]) (by simp[j,b,i,o,q,a,c]) (by simp[j,b,i,o,q,a,c]) (by simp[j,b,i,o,q,a,c]) ?_;refine fa.region [] adm ?_;simp[j,b,i,o,q,a,c];apply ar;refine fa.ret ?_;apply aU;apply aK;obtain rfl:=fQ M;rw[yz] at D;obtain rfl:=fQ D;rw[oG] at r
 try dsimp only at r
 simp only[uV,GA] at r;obtain⟨rfl,rfl,rfl⟩:=r;simp[uo,j,b,i,o,q,a,c]
def Ke{n:Nat}:=@Ie n
@[reducible,instance] def Ye:=fK 309 @Ke
def G2:C2 prog 271 k1 (t3 Tm.av sI sI) Tm.av sI:=by
 refine u2 7 func271 λT H a0 a1 r m e=>?_;rw[k1] at m;refine sw [0,1,0,13] ?_;intro _ e m;apply wg 3;simp[e];refine WA m 999 999 [] [2,4] (λv3 f=>f.1 1=sI a1/\f.1 28=sB v3) [7,0] (λi _ g m=>?_) ?_
 .apply Iq e m<;>intro e m
  .exact ij
  apply Iq e m<;>intro e m
  .exact ij
  simp[e];refine qc m vJ λ_ m=>?_;exact ij
 intro _ v3 e m;refine Wn m 999 (λa f h=>h=H/\f.1 1=sI a1/\f.1 8=sI a.1/\bx f 2 [sI a.2.1,sI a.2.2.1,sI a.2.2.2.1,sL Ty.av a.2.2.2.2.1,sL Tm.av a.2.2.2.2.2]/\bx f 4 [sI 0,sI 0,sI 0,nL,nL]) aaQ (λa _ _ _ _ _ E m z p=>?_);have⟨b,v17,c,d,v20,v21⟩:=a;have e:=Aj e E;dsimp only[yN]at m;exact aa
@[reducible,instance] def Wh:=fK 271 @G2
def Iy:C3 prog 267 qI sI Tm.av Tm.av sI:=by
 refine v3 func267 λT H a0 a1 a2 r m e=>?_;rw[qI] at m;exact aa
@[reducible,instance] def Xq:=fK 267 @Iy
def HU{n:Nat}:C2 prog 225 (oF n) sI Fm.av Fm.av:=by
 refine i2 λn ih=>u2 3 func225 λT H a0 a1 r m e=>?_;rw[oF] at m;simp[e];refine WA m 999 999 [] [2,3] (λv2 f=>f.1 21=sB v2) [7,0] (λa _ g m=>?_) ?_
 .apply Iq e m<;>intro e m
  .exact ij
  simp[e];refine qc m iU λ_ m=>?_;exact ij
 intro _ v2 e m;refine Wa e m 999 25 [24] [2,3] nI [11,0] ?_;intro _ _ e m;exact Wb e m 999 46 [45] [2,3] nI
@[reducible,instance] def WS:=fK 225 @HU
def Af:C2 prog 175 nr sI Fm.av Fm.av:=by
 refine v2 func175 λT H a0 a1 r m e=>?_;rw[nr] at m;exact aa
@[reducible,instance] def W':=fK 175 @Af
def Ii:C1 prog 124 me sI Fm.av:=by
 refine v1 func124 λT H a0 r m e=>?_;rw[me] at m;simp[e];refine qc m uR λ_ m=>?_;refine Il e m λe m=>?_;exact au
@[reducible,instance] def Xp:=fK 124 @Ii
def r_{n:Nat}:C3 prog 77 (fL n) Fm.av Fm.av sI sI:=by
 refine i3 λn ih=>v3 func77 λT H a0 a1 a2 r m e=>?_;rw[fL] at m;simp[e];refine Tc e m 999 20 [1,2,18,19] [3,6] [31] (λs2=>s2) (λs2 c f=>bx f 7 [sI a0.ail,sI a0.cT.ail,sL Ty.av a0.cT.aim,sT c Tm.av s2,nL]) [11,0] (λu _ s2 o _ _ _ _ E e m z p=>?_) ?_
 .have⟨c,E,i⟩:=E;refine sw [20,0,4,9,0] ?_;intro s e m;refine Ad (f:=Tm.av) s2 [s] i BV e.2 ?_;simp[e];cases m;exact p _ _ _ ⟨(.loc 31 (o.eg 31+1)),aaQ,(On 31)⟩ z
 intro o s2 c i e m;refine Wr e m 999 (λq j f h=>∃a b,(h=H/\f.1 1=sI a1/\f.1 2=sI a2/\f.1 35=sL Fm.av a0.aim/\f.1 36=sI (dp a0.aim)/\f.1 37=sI q/\bx f 3 (Fm.av a0).cells/\bx f 6 [sI 0,sI 0,nL,nL,nL]/\bx f 7 [sI a0.ail,sI a0.cT.ail,sL Ty.av a0.cT.aim,sT a Tm.av s2,sT b Fm.av j])/\Ow f [31] a s2/\Ow f [51] b j) (by exact⟨c,.full,aaQ,i,ig.full⟩) (λj l _ _ E m=>?_) (λq _ j l _ _ _ _ E e m z p=>?_)
 .have⟨a,b,E,k,d⟩:=E;exact aa
 have⟨a,b,E,k,d⟩:=E;refine sw [10,0,4,0,18,9,0] ?_;intro _ t e m;refine Ad (f:=Fm.av) j [t] d ES e.2 ?_;simp[e];cases m;exact p _ _ _ ⟨a,(.loc 51 (l.eg 51+1)),aaQ,(ig.other k d aaB aaB),(On 51)⟩ z
@[reducible,instance] def abQ:=fK 77 @r_
def oa:C2 prog 226 ej cX.av cX.av (sL Ty.av):=by
 refine v2 func226 λT H a0 a1 r m e=>?_;rw[ej] at m;refine sw [9,0] ?_;intro e m;refine Ad (f:=Ty.av) a0.aip a1 (ig.full (D:=[])) F9 e.2 ?_;simp[e];refine Wr e m 999 (λk s2 f h=>∃a b,(h=H/\f.1 1=sL Ty.av a1/\f.1 23=sL Fm.av a0.ais/\f.1 24=sI (dp a0.ais)/\f.1 25=sI k/\bx f 4 [nL,nL,nL]/\bx f 5 [sL Fm.av a0.lemmas,sT a Ty.av (fk a0.aip a1),sT b Fm.av s2])/\Ow f [20] a (fk a0.aip a1)/\Ow f [36] b s2) (by exact⟨(.loc 20 1),.full,aaQ,(On 20),ig.full⟩) (λs2 i _ _ E m=>?_) (λk _ s2 i _ _ _ _ E e m z p=>?_)
 .have⟨a,b,E,d,c⟩:=E;exact aa
 have⟨a,b,E,d,c⟩:=E;refine sw [10,0,4,9,0] ?_;intro j e m;refine Ad (f:=Fm.av) s2 [j] c ES e.2 ?_;simp[e];cases m;exact p _ _ _ ⟨a,(.loc 36 (i.eg 36+1)),aaQ,(ig.other d c aaB aaB),(On 36)⟩ z
@[reducible,instance] def Ly:=fK 226 @oa
def qa:C2 prog 227 fq (sL sI) (sL sI) sI:=by
 refine v2 func227 λT H a0 a1 r m e=>?_;rw[fq] at m;simp[e];refine Td e m 0 10 [1,8,9] [] [22] (λs2=>s2) (λs2 b f=>f.1 5=sT b sI s2) λl k s2 j _ _ _ n E e m z p=>?_;have⟨b,E,c⟩:=E;simp[e]at E;have e:=Aj e E;apply wg 5;simp[e];refine D5 m 999 999 (λi f h=>∃v12 a,(h=H/\f.1 1=sI a1/\f.1 5=sT a sI v12/\f.1 8=sL sI a0/\f.1 9=sI (dp a0)/\f.1 10=sI l)/\Ow f [22] a v12/\i v12=some n) ?_ (λi _ g m=>?_)
 .rintro _ _ ⟨v12,a,E,d,m⟩;have e:=Aj e E;simp[e];cases m;exact p _ _ _ ⟨a,aaQ,d⟩ z
 apply Ir e m<;>intro e m
 .simp[e];exact g _ _ ⟨s2,b,aaQ,c,m⟩
 refine sw [9,0] ?_;intro e m;refine Ao (f:=sI) s2 [(ea .i64 k a1)] c OB e.2 ?_;simp[e];exact g _ _ ⟨(fk s2 [(ea .i64 k a1)]),(.loc 22 (j.eg 22+1)),aaQ,(On 22),m⟩
@[reducible,instance] def Tx:=fK 227 @qa
def DG:C1 prog 228 qM sB (sL sI):=by
 refine u1 2 func228 λT H a0 r m e=>?_;rw[qM] at m;simp[e];refine WB m 999 999 [] [] (λv2 f=>f.1 2=sB v2) λa _ g m=>?_;apply Ir e m<;>intro e m
 .exact ij
 have⟨b,e,m⟩:=Ac e m;exact ij
@[reducible,instance] def aah:=fK 228 @DG
def GG:C2 prog 229 jy (t2 Ty.av sI) (sL Ty.av) Tm.av:=by
 refine v2 func229 λT H a0 a1 r m e=>?_;rw[jy] at m;exact aa
@[reducible,instance] def U5:=fK 229 @GG
def IW(T:dt):∀(n:Nat),(∀{H:cZ} {a0:Tm} {a1:Int} {a2:(List (Int×Bool))} {a:(List (Int×Bool))} {o2:Nat} (b:H[o2]?=some [lP sB a2]) (hm:qm n a0 a1 a2=some a),ds prog T 304 [Tm.av a0,sI a1,AV.iR o2] H (AV.tuple []) (eO H o2 [lP sB a])):=by
  intro n
  induction n with
  |zero=>
    skip
    all_goals(intro _ _;intros;rename_i hm;cases hm)
  |succ n ih=>
 intro H a0 a1 a2 a o2 b hm;rw[qm] at hm;have i:=er b;refine ec.HQ b ?_;have e:=i;refine wi aiq func304 [] [] 2 ?_;simp[e];refine Wj hm 0 999 (λj f h=>∃(v2:(List (Int×Bool))),(h=eO H o2 [lP sB v2]/\f.1 1=sI a1/\f.1 2=AV.iR o2/\f.1 3=AV.gx 3 (f.gen 3) 0/\f.box 3=some (Tm.av a0).cells)/\j v2=some a) (λj _ g m=>?_) ?_
 .refine wj 999 999 (λf h=>h=eO H o2 [lP sB a2]/\f.1 1=sI a1/\f.1 2=AV.iR o2/\f.1 16=sB (en (dj a0.ail 1) (og a0.aio a1) false)/\bx f 3 (Tm.av a0).cells) (λ_ g=>?_) ?_
  .exact aa
  rintro _ _ E;have e:=Aj e E;apply Ir e m<;>intro e m
  .exact ij
  simp[e];refine ry.i64 (f:=sB) a2 true I4 rE aaQ aaQ ?_;exact ij
 rintro _ _ ⟨v2,E,m⟩;have e:=Aj e E;simp[e];refine Wr e m 999 (λd c f h=>h=eO H o2 [lP sB c]/\f.1 1=sI a1/\f.1 2=AV.iR o2/\f.1 23=sL Tm.av a0.aim/\f.1 24=sI (dp a0.aim)/\f.1 25=sI d/\bx f 3 (Tm.av a0).cells) aaQ (λc _ _ _ E m=>?_) (λd _ c _ _ _ _ _ E e m z p=>?_)
 .exact aa
 refine sw [10,0,4,0] ?_;intro _ e m;refine lI m (ih aaQ) λd20 m=>?_;exact al
def KT(T:dt){n:Nat}:=@IW T n
def Ks(T:dt){H:cZ}{a0:Tm}{a:List Int}{b:Int}(hm:uD a0=some (a,b)):ds prog T 268 [Tm.av a0] H (AV.tuple [sL sI a,sI b]) H:=by
 rw[uD] at hm;refine ec.ra (Post:=λx K=>x=AV.tuple [sL sI a,sI b]/\∃X,K=H++X) ?_ (λ_ _ h=>⟨_,h.2.choose_spec,by rw[h.1];simp[AV.low,AV.gE],h.1,rfl⟩);have e:=trivial;refine wi aiq func268 [] [] 999 ?_;simp[e];refine qc hm Ai λ_ m=>?_;refine Il e m λe m=>?_;simp[e];refine qc m (KT T aaQ) λd2 m=>?_;simp[e];refine s8 m (y' T aaQ) λ_ d4 m=>?_;exact au
@[reducible,instance] def XO:=fK 268 @Ks
def tC:C1 prog 230 jA (sL sI) Tm.av:=by
 refine v1 func230 λT H a0 r m e=>?_;rw[jA] at m;exact aa
@[reducible,instance] def XX:=fK 230 @tC
def IQ{n:Nat}:C2 prog 305 (o9 n) sB Fm.av sI:=by
 refine i2 λn ih=>v2 func305 λT H a0 a1 r m e=>?_;rw[o9] at m;simp[e];refine Wa e m 999 12 [1,10,11] [2] nI [11,0] ?_;intro _ _ e m;exact Wb e m 999 24 [1,22,23] [] nI
def HK{n:Nat}:C2 prog 307 (oW n) sI Fm.av sI:=by
 refine i2 λn ih=>v2 func307 λT H a0 a1 r m e=>?_;rw[oW] at m;simp[e];refine Wa e m 999 13 [1,11,12] [2] (λs2 f=>f.1 5=sI s2) [11,0] ?_;intro _ s2 e m;exact Wb e m 999 26 [1,24,25] [2] (λa f=>f.1 5=sI a)
@[reducible,instance] def Xe:=fK 307 @HK
def OD{n:Nat}:C4 prog 308 (vX n) Fm.av Fm.av sI sI Tm.av:=by
 refine i4 λn ih=>v4 func308 λT H a0 a1 a2 a3 r m e=>?_;rw[vX] at m;simp[e];refine Tc e m 999 22 [1,2,20,21] [4,7,8] [34] (λs2=>s2) (λs2 c f=>bx f 9 [sI a0.ail,sI a0.cT.ail,sL Ty.av a0.cT.aim,sT c Tm.av s2,nL]) [11,0] (λu _ s2 o _ _ _ _ E e m z p=>?_) ?_
 .have⟨c,E,i⟩:=E;refine sw [20,0,4,9,0] ?_;intro s e m;refine Ad (f:=Tm.av) s2 [s] i BV e.2 ?_;simp[e];cases m;exact p _ _ _ ⟨(.loc 34 (o.eg 34+1)),aaQ,(On 34)⟩ z
 intro o s2 c i e m;refine Wr e m 999 (λq j f h=>∃a b,(h=H/\f.1 1=sI a1/\f.1 2=sI a2/\f.1 38=sL Fm.av a0.aim/\f.1 39=sI (dp a0.aim)/\f.1 40=sI q/\bx f 4 (Fm.av a0).cells/\bx f 7 (Tm.av a3).cells/\bx f 8 [sI 0,sI 0,nL,nL,nL]/\bx f 9 [sI a0.ail,sI a0.cT.ail,sL Ty.av a0.cT.aim,sT a Tm.av s2,sT b Fm.av j])/\Ow f [34] a s2/\Ow f [55] b j) (by exact⟨c,.full,aaQ,i,ig.full⟩) (λj l _ _ E m=>?_) (λq _ j l _ _ _ _ E e m z p=>?_)
 .have⟨a,b,E,k,d⟩:=E;exact aa
 have⟨a,b,E,k,d⟩:=E;refine sw [10,0,4,0,18,9,0] ?_;intro _ t e m;refine Ad (f:=Fm.av) j [t] d ES e.2 ?_;simp[e];cases m;exact p _ _ _ ⟨a,(.loc 55 (l.eg 55+1)),aaQ,(ig.other k d aaB aaB),(On 55)⟩ z
@[reducible,instance] def acG:=fK 308 @OD
def Nq:C3 prog 269 vU (t2 Fm.av sI) Fm.av sI Tm.av:=by
 refine u3 7 func269 λT H a0 a1 a2 r m e=>?_;rw[vU] at m;refine sw [0,1,0,13] ?_;intro _ e m;apply wg 3;simp[e];refine wA 999 0 [] [3,5,6] (λf=>f.1 1=sI a1/\f.1 21=sB (en (qT a1 0) true (ly a1 4096))) [13] (λ_ g=>?_) ?_
 .rcases Pb (qT a1 0) e with e|e
  .exact aj
  exact aj
 intro _ e m;refine sg 7 [0,1,0,13] ?_;intro _ e m;apply wg 3;simp[e];refine WA m 999 999 [] [3,5,6] (λa f=>f.1 1=sI a1/\f.1 36=sB a) [] (λb _ g m=>?_) ?_
 .simp[e];refine qc m IQ λ_ m=>?_;apply Ir e m<;>intro e m
  .exact ij
  simp[e];refine qc m vJ λ_ m=>?_;exact ij
 intro _ a e m;exact aa
@[reducible,instance] def aar:=fK 269 @Nq
def uY:C2 prog 231 iJ (t2 Fm.av sI) Fm.av Tm.av:=by
 refine v2 func231 λT H a0 a1 r m e=>?_;rw[iJ] at m;exact aa
@[reducible,instance] def ZO:=fK 231 @uY
def LZ{n:Nat}:C2 prog 270 (tK n) sB Tm.av sI:=by
 refine i2 λn ih=>u2 3 func270 λT H a0 a1 r m e=>?_;rw[tK] at m;simp[e];refine wA 999 999 [1] [2] (λf=>f.1 15=sB (en (dj a0.ail 1) (dj a0.aio a1) false)) [7,0] (λ_ g=>?_) ?_
 .exact aa
 intro _ e m;exact Wb e m 999 19 [1,17,18] [2] nI
@[reducible,instance] def aal:=fK 270 @LZ
def M3{n:Nat}:C2 prog 233 (pC n) sB Fm.av sI:=by
 refine i2 λn ih=>v2 func233 λT H a0 a1 r m e=>?_;rw[pC] at m;simp[e];refine Wa e m 999 12 [1,10,11] [2] nI [11,0] ?_;intro _ _ e m;exact Wb e m 999 23 [1,21,22] [2] nI
@[reducible,instance] def Z6:=fK 233 @M3
def G4{n:Nat}:C1 prog 234 (mc n) (t2 Fm.av sI) Fm.av:=by
 refine i1 λn ih=>v1 func234 λT H a0 r m e=>?_;rw[mc] at m;simp[e];refine Tc e m 999 22 [20,21] [1,2] [40] (λs2=>s2) (λs2 c f=>bx f 4 [sI a0.ail,sI a0.cT.ail,sL Ty.av a0.cT.aim,sT c Tm.av s2,nL]) [11,0] (λu _ s2 o _ _ _ _ E e m z p=>?_) ?_
 .have⟨c,E,i⟩:=E;refine sw [20,0,3,7,9,0] ?_;intro s _ _ e m;refine Ao (f:=Tm.av) s2 [s] i BV e.2 ?_;simp[e];cases m;exact p _ _ _ ⟨(.loc 40 (o.eg 40+1)),aaQ,(On 40)⟩ z
 intro o s2 c i e m;refine Wr e m 999 (λq j f h=>∃a b,(h=H/\f.1 44=sL Fm.av a0.aim/\f.1 45=sI (dp a0.aim)/\f.1 46=sI q/\bx f 2 [sI 0,sI 0,nL,nL,nL]/\bx f 4 [sI a0.ail,sI a0.cT.ail,sL Ty.av a0.cT.aim,sT a Tm.av s2,sT b Fm.av j])/\Ow f [40] a s2/\Ow f [63] b j) (by exact⟨c,.full,aaQ,i,ig.full⟩) (λj l _ _ E m=>?_) (λq _ j l _ _ _ _ E e m z p=>?_)
 .have⟨a,b,E,k,d⟩:=E;exact aa
 have⟨a,b,E,k,d⟩:=E;refine sw [10,0,16,7,9,0] ?_;intro t _ e m;refine Ao (f:=Fm.av) j [t] d ES e.2 ?_;simp[e];cases m;exact p _ _ _ ⟨a,(.loc 63 (l.eg 63+1)),aaQ,(ig.other k d aaB aaB),(On 63)⟩ z
@[reducible,instance] def Ue:=fK 234 @G4
def rK:C3 prog 182 gd sI cX.av Tm.av sI:=by
 refine v3 func182 λT H a0 a1 a2 r m e=>?_;rw[gd] at m;exact aa
@[reducible,instance] def Lz:=fK 182 @rK
def Ep{n:Nat}:C1 prog 185 (iK n) sB Fm.av:=by
 refine i1 λn ih=>u1 8 func185 λT H a0 r m e=>?_;rw[iK] at m;refine sw [0,13] ?_;intro e m;refine sg 3 [0,14] ?_;intro e m;apply wg 1;simp[e];refine WB m 999 999 [] [] (λv4 f=>f.1 2=sB v4) λb _ g m=>?_;refine sw [8,0,15] ?_;intro c _ e m;apply Iq e m<;>intro e m
 .exact ij
 refine sw [8,0,15] ?_;intro a _ e m;exact ij
@[reducible,instance] def Tq:=fK 185 @Ep
def ED:C1 prog 129 n_ (t2 sB sI) Fm.av:=by
 refine v1 func129 λT H a0 r m e=>?_;rw[n_] at m;exact aa
@[reducible,instance] def Tu:=fK 129 @ED
def wY:∀(n:Nat),C2 prog 86 (dn n) (t2 qV.av sI) cX.av Pf.av/\C2 prog 128 (df n) (t3 Fm.av (sL sI) sI) cX.av Pf.av/\C2 prog 176 (mv n) (t3 Fm.av (sL sI) sI) cX.av Pf.av/\C2 prog 177 (mQ n) (t3 Fm.av (sL sI) sI) cX.av Pf.av/\C2 prog 178 (mS n) (t3 Fm.av (sL sI) sI) cX.av Pf.av/\C2 prog 179 (lG n) (t3 Fm.av (sL sI) sI) cX.av Pf.av/\C2 prog 180 (oy n) (t3 Fm.av (sL sI) sI) cX.av Pf.av/\C2 prog 181 (mN n) (t3 Fm.av (sL sI) sI) cX.av Pf.av/\C2 prog 183 (mP n) (t3 Fm.av (sL sI) sI) cX.av Pf.av/\C2 prog 184 (mb n) (t3 Fm.av (sL sI) sI) cX.av Pf.av/\C4 prog 232 (dY n) (t2 (sL sI) sI) cX.av Pf.av Fm.av Tm.av:=by
  intro n
  induction n with
  |zero=>
    refine⟨?_,?_,?_,?_,?_,?_,?_,?_,?_,?_,?_⟩
    all_goals(intro _ _;intros;rename_i hm;cases hm)
  |succ n ih=>
 refine⟨?_,?_,?_,?_,?_,?_,?_,?_,?_,?_,?_⟩
 .intro T H a0 a1 r hm;rw[dn] at hm;have e:=trivial;refine wi aiq func86 [] [] 7 ?_;simp[e];refine RM hm ih.2.1 λK _ _ m=>?_;refine sw [0,13] ?_;intro e m;refine sg 5 [0,1,0,13] ?_;intro G e m;apply wg 2;simp[e];refine D5 m 999 999 (λL f h=>∃v6 c,(h=H/\f.1 7=sT c sI v6/\bx f 4 [sI 0,sI 0,nL,nL,nL,nL]/\bx f 6 (Fm.av K).cells)/\L v6=some r) ?_ (λL _ g m=>?_)
  .rintro _ _ ⟨v6,c,E,m⟩;exact aa
  refine sw [0,2] ?_;intro _ w e m;apply Iq e m<;>intro e m
  .simp[e];exact g _ _ ⟨_,.iw,aaQ,m⟩
  simp[e];exact g _ _ ⟨_,.full,aaQ,m⟩
 .intro T H a0 a1 r hm;rw[df] at hm;have e:=trivial;refine wi aiq func128 [] [] 10 ?_;have m:=hm;refine sw [0,13] ?_;intro e m;refine sg 3 [0,13] ?_;intro e m;apply wg 3;simp[e];apply Iq e m<;>intro e m
  .refine sg 999 [8,0] ?_;intro W e m;refine nW m ih.1 λ_ _ m=>?_;refine sw [7,8,0] ?_;intro X e m;refine nW m ih.1 λ_ _ m=>?_;simp[e];refine lI m yi λ_ m=>?_;simp[e];refine lI m (ku T) λ_ m=>?_;exact au
  apply wg 1;simp[e];refine wj 999 0 (λf h=>h=H/\f.1 22=sI a1.ail/\f.1 93=sB (en (dj a1.ail 4) true (dj a1.ail 5))/\bx f 2 (cX.av a0).cells/\bx f 3 (Pf.av a1).cells/\bx f 4 [sI 0,sI 0,nL,nL,nL]/\bx f 7 [sI 0,sI 0,nL,nL,nL]) (λ_ g=>?_) ?_
  .rcases Pb (dj a1.ail 4) e with e|e
   .exact aj
   exact aj
  rintro _ _ E;have e:=Aj e E;apply Iq e m<;>intro e m
  .refine sg 999 [8,0] ?_;intro Y e m;refine nW m ih.1 λ_ _ m=>?_;refine sw [7,7,8] ?_;intro Z e m;exact au
  apply wg 3;simp[e];apply Iq e m<;>intro e m
  .refine sg 999 [8,0] ?_;intro ad e m;refine lI m Ap λ_ m=>?_;refine sw [7,0] ?_;intro e m;refine qc m mf λ_ m=>?_;refine sw [7,0] ?_;intro e m;refine lI m mu λ_ m=>?_;refine sw [8,0] ?_;intro ae e m;refine nW m ih.1 λ_ _ m=>?_;simp[e];refine lI m yi λ_ m=>?_;exact au
  apply wg 3;simp[e];apply Iq e m<;>intro e m
  .refine sg 999 [8,0] ?_;intro af e m;refine nW m ih.1 λ_ _ m=>?_;refine sw [7,7,8,0] ?_;intro ah e m;refine nW m ih.1 λ_ _ m=>?_;refine sw [7,8,0] ?_;intro ai e m;refine lI m (ku T) λ_ m=>?_;refine sw [8,0] ?_;intro ak e m;refine lI m Af λ_ m=>?_;exact au
  apply wg 1;simp[e];refine wj 999 0 (λf h=>h=H/\f.1 22=sI a1.ail/\f.1 218=sB (en (dj a1.ail 8) true (dj a1.ail 12))/\bx f 2 (cX.av a0).cells/\bx f 3 (Pf.av a1).cells/\bx f 4 [sI 0,sI 0,nL,nL,nL]) (λ_ g=>?_) ?_
  .rcases Pb (dj a1.ail 8) e with e|e
   .exact aj
   exact aj
  rintro _ _ E;have e:=Aj e E;apply Iq e m<;>intro e m
  .apply wg 999;simp[e];refine RM m ih.2.2.1 λ_ _ _ m=>?_;exact au
  apply wg 1;simp[e];refine wj 999 0 (λf h=>h=H/\f.1 22=sI a1.ail/\f.1 227=sB (en (dj a1.ail 9) true (dj a1.ail 13))/\bx f 2 (cX.av a0).cells/\bx f 3 (Pf.av a1).cells/\bx f 4 [sI 0,sI 0,nL,nL,nL]) (λ_ g=>?_) ?_
  .rcases Pb (dj a1.ail 9) e with e|e
   .exact aj
   exact aj
  rintro _ _ E;have e:=Aj e E;apply Iq e m<;>intro e m
  .apply wg 999;simp[e];refine RM m ih.2.2.2.1 λ_ _ _ m=>?_;exact au
  apply wg 1;simp[e];refine wj 999 0 (λf h=>h=H/\f.1 22=sI a1.ail/\f.1 236=sB (en (dj a1.ail 10) true (dj a1.ail 14))/\bx f 2 (cX.av a0).cells/\bx f 3 (Pf.av a1).cells/\bx f 4 [sI 0,sI 0,nL,nL,nL]) (λ_ g=>?_) ?_
  .rcases Pb (dj a1.ail 10) e with e|e
   .exact aj
   exact aj
  rintro _ _ E;have e:=Aj e E;apply Iq e m<;>intro e m
  .apply wg 999;simp[e];refine RM m ih.2.2.2.2.1 λ_ _ _ m=>?_;exact au
  apply wg 1;simp[e];refine wj 999 999 (λf h=>h=H/\f.1 22=sI a1.ail/\f.1 245=sB (en (dj a1.ail 11) true (dj a1.ail 15))/\bx f 2 (cX.av a0).cells/\bx f 3 (Pf.av a1).cells/\bx f 4 [sI 0,sI 0,nL,nL,nL]) (λ_ g=>?_) ?_
  .rcases Pb (dj a1.ail 11) e with e|e
   .exact aj
   exact aj
  rintro _ _ E;have e:=Aj e E;apply Iq e m<;>intro e m
  .simp[e];refine RM m ih.2.2.2.2.2.1 λ_ _ _ m=>?_;exact au
  apply Iq e m<;>intro e m
  .simp[e];refine RM m ih.2.2.2.2.2.2.1 λ_ _ _ m=>?_;exact au
  apply Iq e m<;>intro e m
  .simp[e];refine RM m ih.2.2.2.2.2.2.2.1 λ_ _ _ m=>?_;exact au
  apply Iq e m<;>intro e m
  .refine sw [8,0] ?_;intro an e m;refine lI m AA λ_ m=>?_;simp[e];refine lI m rK λ_ m=>?_;exact au
  apply Iq e m<;>intro e m
  .simp[e];refine RM m ih.2.2.2.2.2.2.2.2.1 λ_ _ _ m=>?_;exact au
  simp[e];refine RM m ih.2.2.2.2.2.2.2.2.2.1 λ_ _ _ m=>?_;exact au
 .intro T H a0 a1 r hm;rw[mv] at hm;have e:=trivial;refine wi aiq func176 [] [] 999 ?_;have m:=hm;refine sw [0,1,7,0,4,8,0] ?_;intro _ _ w e m;refine nW m ih.1 λ_ _ m=>?_;refine Il e m λe m=>?_;apply Iq e m<;>intro e m
  .refine sw [0,4,0,4] ?_;intro x y e m;exact au
  exact aa
 .intro T H a0 a1 r hm;rw[mQ] at hm;have e:=trivial;refine wi aiq func177 [] [] 9 ?_;have m:=hm;refine sw [8,0,2,0,13] ?_;intro I ao _ e m;refine sg 7 [8,0] ?_;intro x6 e m;refine nW m ih.1 λJ _ m=>?_;refine sw [0,13] ?_;intro e m;refine sg 4 [0,4,0,4,0] ?_;intro _ A e m;refine wA 999 999 [] [4,7,8,10] (λf=>f.1 11=sI (en (dj a1.ail 13) 6 4)/\f.1 12=sL sI (en (dj a1.ail 13) J.uses A)) [] (λ_ g=>?_) ?_
  .rcases Pb (dj a1.ail 13) e with e|e
   .exact aj
   exact aj
  intro _ e m;exact aa
 .intro T H a0 a1 r hm;rw[mS] at hm;have e:=trivial;refine wi aiq func178 [] [] 9 ?_;have m:=hm;refine sw [8,8,0,1,0,13] ?_;intro o G _ e m;apply wg 4;simp[e];refine wA 999 3 [] [2,3,4,7,8] (λf=>f.1 10=sI (en (dj a1.ail 14) 7 5)) [0,13] (λ_ g=>?_) ?_
  .rcases Pb (dj a1.ail 14) e with e|e
   .exact aj
   exact aj
  intro _ e m;refine sg 7 [0,2,0,13] ?_;intro _ w e m;refine sg 5 [0,1,0,14] ?_;intro q e m;refine sg 4 [8,8,0] ?_;intro k x e m;refine nW m ih.2.2.2.2.2.2.2.2.2.2 λy M m=>?_;simp[e];refine WB m 999 999 [12] [4,7] (λB f=>f.1 13=sL sI B) λN _ g m=>?_;apply Ir e m<;>intro e m
  .exact ij
  simp[e];refine qc m tC λ_ m=>?_;simp[e];refine qc m (ku T) λ_ m=>?_;exact ij
 .intro T H a0 a1 r hm;rw[lG] at hm;have e:=trivial;refine wi aiq func179 [] [] 7 ?_;have⟨C,e,m⟩:=Ac e hm;simp[e];refine nW m ih.1 λa _ m=>?_;refine sw [0,13] ?_;intro e m;apply wg 4;simp[e];refine wA 999 3 [] [2,3,4,7] (λf=>f.1 9=sI (en (dj a1.ail 15) 7 5)) [0,13] (λ_ g=>?_) ?_
  .rcases Pb (dj a1.ail 15) e with e|e
   .exact aj
   exact aj
  intro _ e m;refine sg 7 [0,1,0,13] ?_;intro _ e m;refine sg 7 [0,4,8,0,4,8,0] ?_;intro x y _ O e m;refine nW m ih.1 λb _ m=>?_;refine sw [0,13] ?_;intro e m;apply wg 4;simp[e];refine Wj m 999 1 (λs f h=>∃d v127 i j v130,(h=H/\f.1 9=sI (en (dj a1.ail 15) 7 5)/\bx f 4 [sI 0,sI 0,nL,nL,nL]/\bx f 7 [sI a.cU.ail,sI a.cU.cT.ail,sL Ty.av a.cU.cT.aim,sL Tm.av a.cU.dc,sL Fm.av a.cU.aim,sL sI a.uses]/\bx f 11 [sI b.cU.ail,sI b.cU.cT.ail,sL Ty.av b.cU.cT.aim,sL Tm.av b.cU.dc,sL Fm.av b.cU.aim,sL sI b.uses]/\bx f 12 [sI d,sI v127,sL Ty.av i,sL Tm.av j,sL Fm.av v130])/\s d v127 i j v130=some r) (λs _ g m=>?_) ?_
  .refine sw [0,1] ?_;intro _ e m;apply Ir e m<;>intro e m
   .simp[e];exact g _ _ ⟨_,_,_,_,_,aaQ,m⟩
   refine sw [0,2,7,0,1,7] ?_;intro _ _ _ e m;simp[e];exact g _ _ ⟨_,_,_,_,_,aaQ,m⟩
  rintro _ _ ⟨d,v127,i,j,v130,E,m⟩;have e:=Aj e E;simp[e];refine Wj m 999 999 (λt f h=>∃v139,(h=H/\f.1 87=sB v139/\bx f 4 [sI 0,sI 0,nL,nL,nL]/\bx f 7 [sI a.cU.ail,sI a.cU.cT.ail,sL Ty.av a.cU.cT.aim,sL Tm.av a.cU.dc,sL Fm.av a.cU.aim,sL sI a.uses]/\bx f 11 [sI b.cU.ail,sI b.cU.cT.ail,sL Ty.av b.cU.cT.aim,sL Tm.av b.cU.dc,sL Fm.av b.cU.aim,sL sI b.uses]/\bx f 12 [sI d,sI v127,sL Ty.av i,sL Tm.av j,sL Fm.av v130])/\t v139=some r) (λt _ g m=>?_) ?_
  .apply Ir e m<;>intro e m
   .exact ij
   simp[e];refine qc m DG λ_ m=>?_;exact ij
  rintro _ _ ⟨v139,E,m⟩;refine sw [10,7,0] ?_;intro e m;refine lI m r_ λ_ m=>?_;simp[e];refine lI m qa λ_ m=>?_;simp[e];refine lI m (ku T) λ_ m=>?_;exact au
 .intro T H a0 a1 r hm;rw[oy] at hm;have e:=trivial;refine wi aiq func180 [] [] 999 ?_;have m:=hm;refine sw [8,8,0,4,9,0] ?_;intro o G l e m;refine Ad (f:=Ty.av) a0.aip [l] (ig.full (D:=[])) F9 e.2 ?_;refine sw [0,4,7,0,1,7,8,0,4,0] ?_;intro _ k u v e m;refine nW m ih.2.2.2.2.2.2.2.2.2.2 λ_ _ m=>?_;refine sw [7,0] ?_;intro e m;refine qc m mf λ_ m=>?_;refine sw [7,0] ?_;intro e m;refine lI m ve λ_ m=>?_;simp[e];refine lI m oa λ_ m=>?_;simp[e];refine lI m mu λ_ m=>?_;refine sw [8,0] ?_;intro P e m;refine lI m r_ λ_ m=>?_;simp[e];refine lI m oJ λ_ m=>?_;simp[e];refine lI m DC λ_ m=>?_;simp[e];refine nW m ih.2.2.2.2.2.2.2.2.2.2 λ_ _ m=>?_;refine sw [7,0] ?_;intro e m;refine s8 m uY λ_ _ m=>?_;simp[e];refine lI m tC λ_ m=>?_;simp[e];refine lI m (ku T) λ_ m=>?_;simp[e];refine lI m qa λ_ m=>?_;simp[e];refine lI m (ku T) λ_ m=>?_;exact au
 .intro T H a0 a1 r hm;rw[mN] at hm;have e:=trivial;refine wi aiq func181 [] [] 999 ?_;have m:=hm;refine sw [8,8,0,4,9,0] ?_;intro o G l e m;refine Ad (f:=Ty.av) a0.aip [l] (ig.full (D:=[])) F9 e.2 ?_;refine sw [0,4,7,0,1,7,8,0,4,0] ?_;intro _ k u v e m;refine nW m ih.2.2.2.2.2.2.2.2.2.2 λ_ _ m=>?_;refine sw [7,0] ?_;intro e m;refine qc m mf λ_ m=>?_;refine sw [7,0] ?_;intro e m;refine lI m ve λ_ m=>?_;simp[e];refine lI m By λ_ m=>?_;simp[e];refine lI m oa λ_ m=>?_;simp[e];refine lI m r_ λ_ m=>?_;simp[e];refine lI m mu λ_ m=>?_;refine sw [8,0] ?_;intro Q e m;refine lI m r_ λ_ m=>?_;simp[e];refine lI m oJ λ_ m=>?_;simp[e];refine lI m oJ λ_ m=>?_;simp[e];refine lI m DC λ_ m=>?_;simp[e];refine nW m ih.2.2.2.2.2.2.2.2.2.2 λ_ _ m=>?_;refine sw [7,0] ?_;intro e m;refine s8 m uY λ_ _ m=>?_;simp[e];refine lI m tC λ_ m=>?_;simp[e];refine lI m (ku T) λ_ m=>?_;simp[e];refine lI m qa λ_ m=>?_;simp[e];refine lI m (ku T) λ_ m=>?_;exact au
 .intro T H a0 a1 r hm;rw[mP] at hm;have e:=trivial;refine wi aiq func183 [] [] 999 ?_;have m:=hm;refine sw [8,0,4,9,0] ?_;intro I q e m;refine Ad (f:=Ty.av) a0.aip [q] (ig.full (D:=[])) F9 e.2 ?_;refine sw [0,4,7,8,0] ?_;intro _ R e m;refine nW m ih.1 λ_ k m=>?_;refine sw [7,7,8,8,0] ?_;intro u v e m;refine nW m ih.2.2.2.2.2.2.2.2.2.2 λ_ _ m=>?_;refine sw [7,8,0] ?_;intro S e m;refine nW m uY λ_ _ m=>?_;exact au
 .intro T H a0 a1 r hm;rw[mb] at hm;have e:=trivial;refine wi aiq func184 [] [] 7 ?_;have⟨C,e,m⟩:=Ac e hm;simp[e];refine nW m ih.1 λa _ m=>?_;refine sw [0,13] ?_;intro e m;apply wg 3;simp[e];refine WA m 999 999 [] [4,7] (λF f=>f.1 38=sB F) [] (λU _ g m=>?_) ?_
  .apply Iq e m<;>intro e m
   .exact ij
   have⟨V,e,m⟩:=Ac e m;exact ij
  intro _ F e m;exact aa
 .intro T H a0 a1 a2 a3 r hm;rw[dY] at hm;have e:=trivial;refine wi aiq func232 [] [] 999 ?_;simp[e];refine s8 hm ih.1 λ_ K m=>?_;exact aa
def xW{n:Nat}:=@And.left _ _ (wY n)
@[reducible,instance] def Lw:=fK 86 @xW
def IV:C3 prog 39 iC (t2 qV.av sI) (sL Fm.av) Sq.av Pf.av:=by
 refine v3 func39 λT H a0 a1 a2 r m e=>?_;rw[iC] at m;refine sw [0,1,7,0,1,7,0,2,7,0,4,9,0] ?_;intro _ _ a _ _ e m;refine Ad (f:=sI) [] a.uses (ig.full (D:=[])) OB e.2 ?_;exact au
@[reducible,instance] def Xo:=fK 39 @IV
def Ax:C2 prog 70 pg Sq.av Sq.av (sL Ty.av):=by
 refine v2 func70 λT H a0 a1 r m e=>?_;rw[pg] at m;refine sw [0,1,0] ?_;intro i e m;refine Td e m 999 16 [1,14,15] [4] [27] (λb=>b) (λb a f=>bx f 5 [sL Ty.av i,sT a Fm.av b]) λj _ b d _ _ _ _ E e m z p=>?_;have⟨a,E,c⟩:=E;refine sw [20,0,4,9,0] ?_;intro h e m;refine Ad (f:=Fm.av) b [h] c ES e.2 ?_;simp[e];cases m;exact p _ _ _ ⟨(.loc 27 (d.eg 27+1)),aaQ,(On 27)⟩ z
@[reducible,instance] def acI:=fK 70 @Ax
def NL:C3 prog 69 pF Pf.av sI Ty.av Pf.av:=by
 refine v3 func69 λT H a0 a1 a2 r m e=>?_;rw[pF] at m;exact aa
@[reducible,instance] def aao:=fK 69 @NL
def O':C3 prog 71 sV Pf.av sI Tm.av Pf.av:=by
 refine v3 func71 λT H a0 a1 a2 r m e=>?_;rw[sV] at m;refine sw [0,1,0,1] ?_;intro a b e m;have e:=Aj e (show AV.agg [sI a.ail,sI a.aio,sI a.cT.ail,sL Ty.av a.cT.aim,AV.slice .iw [Tm.av b],sL Fm.av a.eh,sL Pf.av a.aim]=Pf.av (Pf.mk a.ail a.aio a.cT [b] a.eh a.aim) by rw[Pf.eG];rfl);exact au
@[reducible,instance] def abf:=fK 71 @O'
section
attribute [-simp] Go.kC.A_
@[local simp] theorem agn(x:Fm):A_ prog 49 x.av 2=some (sL Tm.av x.dc):=by rw[Fm.eS];kernel_rfl
def v7:C1 prog 74 iP Tm.av Tm.av:=by
 refine v1 func74 λT H a0 r m e=>?_;rw[iP] at m;exact aa
@[reducible,instance] def Rz:=fK 74 @v7
end
def xD:C4 prog 76 sQ Pf.av sI Fm.av Tm.av Pf.av:=by
 refine v4 func76 λT H a0 a1 a2 a3 r m e=>?_;rw[sQ] at m;refine sw [0,1,0,1] ?_;intro a b e m;have e:=Aj e (show AV.agg [sI a.ail,sI a.aio,sI a.cT.ail,sL Ty.av a.cT.aim,sL Tm.av a.dc,AV.slice .iw [Fm.av b],sL Pf.av a.aim]=Pf.av (Pf.mk a.ail a.aio a.cT a.dc [b] a.aim) by rw[Pf.eG];rfl);exact au
def G9(T:dt){H:cZ}{a0:Int}{a1:Fm}{a2:Tm}{a3 a:Pf}{f0:Fm}(hm:rv a0 a1 a2 a3=some (a,f0)):ds prog T 76 [sI a0,Fm.av a1,Tm.av a2,Pf.av a3] H (AV.agg [sI a.ail,sI a.aio,sI a.cT.ail,sL Ty.av a.cT.aim,sL Tm.av a.dc,AV.qU (List.length H) 0 1 1,sL Pf.av a.aim]) (H++[[sI f0.ail,sI f0.cT.ail,sL Ty.av f0.cT.aim,sL Tm.av f0.dc,sL Fm.av f0.aim]]):=by
 rw[rv] at hm;have e:=trivial;refine wi aiq func76 [16] [] 999 ?_;have m:=hm;exact aa
@[reducible,instance] def V1:=fK 76 @G9
def ID(T:dt){H:cZ}{a0:dd}{a1:Sq}{a:Pf}{f0:Fm}{b:dd}{d:Nat}(c:H[d]?=some [sL sI a0.l,sI a0.qS])(hm:sG a0 a1=some (a,f0,b)):ds prog T 84 [AV.eb d 0,Sq.av a1] H (AV.agg [sI a.ail,sI a.aio,sI a.cT.ail,sL Ty.av a.cT.aim,sL Tm.av a.dc,AV.qU (List.length H) 0 1 1,sL Pf.av a.aim]) ((eO H d [sL sI b.l,sI b.qS])++[[sI f0.ail,sI f0.cT.ail,sL Ty.av f0.cT.aim,sL Tm.av f0.dc,sL Fm.av f0.aim]]):=by
 rw[sG] at hm;have f:=er c;refine ec.HQ c ?_;have e:=f;refine wi aiq func84 [] [] 999 ?_;have m:=hm;refine sw [0,1,0,2] ?_;intro _ _ d3 e m;exact aa
def Eb:C1 prog 80 lT Pf.av sI:=by
 refine v1 func80 λT H a0 r m e=>?_;rw[lT] at m;exact au
@[reducible,instance] def Zy:=fK 80 @Eb
def LY:C5 prog 79 rY Pf.av sI Fm.av Tm.av Pf.av Pf.av:=by
 refine v5 func79 λT H a0 a1 a2 a3 a4 r m e=>?_;rw[rY] at m;refine sw [0,1,0,1,0,1] ?_;intro a b c e m;have e:=Aj e (show AV.agg [sI a.ail,sI a.aio,sI a.cT.ail,sL Ty.av a.cT.aim,AV.slice .iw [Tm.av b],AV.slice .iw [Fm.av c],sL Pf.av a.aim]=Pf.av (Pf.mk a.ail a.aio a.cT [b] [c] a.aim) by rw[Pf.eG];rfl);exact au
@[reducible,instance] def Zz:=fK 79 @LY
def Py:C2 prog 221 tY Tm.av Tm.av sI:=by
 refine v2 func221 λT H a0 a1 r m e=>?_;rw[tY] at m;exact aa
@[reducible,instance] def abH:=fK 221 @Py
def IJ:C3 prog 83 qJ Pf.av Fm.av Pf.av Pf.av:=by
 refine v3 func83 λT H a0 a1 a2 r m e=>?_;rw[qJ] at m;refine sw [0,1,0,1] ?_;intro a b e m;have e:=Aj e (show AV.agg [sI a.ail,sI a.aio,sI a.cT.ail,sL Ty.av a.cT.aim,sL Tm.av a.dc,AV.slice .iw [Fm.av b],sL Pf.av a.aim]=Pf.av (Pf.mk a.ail a.aio a.cT a.dc [b] a.aim) by rw[Pf.eG];rfl);exact au
@[reducible,instance] def WU:=fK 83 @IJ
def Lr:C3 prog 169 uO Pf.av Tm.av Tm.av Pf.av:=by
 refine v3 func169 λT H a0 a1 a2 r m e=>?_;rw[uO] at m;exact aa
@[reducible,instance] def Zm:=fK 169 @Lr
def GY:C3 prog 170 rh sI (sL Tm.av) (sL Fm.av) (sL Pf.av):=by
 refine v3 func170 λT H a0 a1 a2 r m e=>?_;rw[rh] at m;simp[e];refine Wa e m 999 18 [1,2,16,17] [] nI [11,0] ?_;intro _ _ e m;refine Wa e m 999 30 [2,28,29] [] nI [11,0] ?_;intro _ _ e m;exact Wb e m 999 42 [40,41] [] nI
@[reducible,instance] def TW:=fK 170 @GY
def IP:C2 prog 168 sZ (t2 Pf.av sI) Pf.av sI:=by
 refine v2 func168 λT H a0 a1 r m e=>?_;rw[sZ] at m;exact aa
@[reducible,instance] def WT:=fK 168 @IP
def Km:C4 prog 125 ua (t2 Pf.av sI) Tm.av Tm.av Tm.av Pf.av:=by
 refine v4 func125 λT H a0 a1 a2 a3 r m e=>?_;rw[ua] at m;exact aa
@[reducible,instance] def YG:=fK 125 @Km
def OJ:C1 prog 82 yd Pf.av Tm.av:=by
 refine v1 func82 λT H a0 r m e=>?_;rw[yd] at m;exact aa
@[reducible,instance] def aa9:=fK 82 @OJ
def S5(T:dt){H:cZ}{a0:dd}{a1:Sq}{f:Pf}{a:dd}{c:Nat}(b:H[c]?=some [sL sI a0.l,sI a0.qS])(hm:B1 a0 a1=some (f,a)):ds prog T 84 [AV.eb c 0,Sq.av a1] H (Pf.av f) (eO H c [sL sI a.l,sI a.qS]):=by
 rw[B1] at hm;have d:=er b;refine ec.HQ b ?_;have e:=d;refine wi aiq func84 [] [] 999 ?_;have m:=hm;refine sw [0,1,0,2,0] ?_;intro _ _ d3 e m;refine lI m v7 λ_ m=>?_;simp[e];refine lI m oJ λ_ m=>?_;simp[e];refine lI m AA λ_ m=>?_;simp[e];refine lI m Jp λ_ m=>?_;simp[e];refine lI m xw λ_ m=>?_;simp[e];refine lI m xD λ_ m=>?_;exact au
@[reducible,instance] def adZ:=fK 84 @S5
def NX(T:dt):∀(n:Nat),(∀{H:cZ} {a0:dd} {a1:List Fm} {a2:Sq} {a3:Int} {s:Pf} {c:dd} {j:Nat} (k:H[j]?=some [sL sI a0.l,sI a0.qS]) (hm:h7 n a0 a1 a2 a3=some (s,c)),ds prog T 38 [AV.eb j 0,sL Fm.av a1,Sq.av a2,sI a3] H (Pf.av s) (eO H j [sL sI c.l,sI c.qS]))/\(∀{H:cZ} {a0:dd} {a1:List Fm} {a2:Sq} {a3:Int} {s:Pf} {c:dd} {j:Nat} (k:H[j]?=some [sL sI a0.l,sI a0.qS]) (hm:v_ n a0 a1 a2 a3=some (s,c)),ds prog T 78 [AV.eb j 0,sL Fm.av a1,Sq.av a2,sI a3] H (Pf.av s) (eO H j [sL sI c.l,sI c.qS])):=by
  intro n
  induction n with
  |zero=>
    refine⟨?_,?_⟩
    all_goals(intro _ _;intros;rename_i hm;cases hm)
  |succ n ih=>
 refine⟨?_,?_⟩
 .intro H a0 a1 a2 a3 s c j k hm;rw[h7] at hm;have C:=er k;refine ec.HQ k ?_;have e:=C;refine wi aiq func38 [] [] 4 ?_;simp[e];refine Kf1 hm λL m=>?_;simp[e];refine D5 m 0 0 (λP f h=>∃v3,(h=eO H j [sL sI v3.l,sI v3.qS]/\f.1 0=AV.eb j 0/\f.1 1=sL Fm.av a1/\bx f 6 (Sq.av a2).cells/\bx f 8 [sI 0,sI 0,sI 0,nL,nL,nL,nL]/\bx f 9 (Ty.av L).cells)/\P v3=some (s,c)) ?_ (λP _ g m=>?_)
  .rintro _ _ ⟨v3,E,m⟩;have e:=Aj e E;refine D5 m 999 999 (λQ f h=>∃v9,(h=eO H j [sL sI v9.l,sI v9.qS]/\f.1 0=AV.eb j 0/\bx f 6 (Sq.av a2).cells/\bx f 8 [sI 0,sI 0,sI 0,nL,nL,nL,nL]/\bx f 9 (Ty.av L).cells)/\Q v9=some (s,c)) ?_ (λQ _ g m=>?_)
   .rintro _ _ ⟨v9,E,m⟩;have e:=Aj e E;simp[e];refine Hm m λ_ d14 m=>?_;exact aa
   simp[e];refine Hm m λ_ d17 m=>?_;apply Iq e m<;>intro e m
   .apply Ir e m<;>intro e m
    .exact ij
    simp[e];refine Hm m λ_ d19 m=>?_;exact aa
   apply Ir e m<;>intro e m
   .exact ij
   apply Ir e m<;>intro e m
   .exact ij
   simp[e];refine Hm m λ_ d22 m=>?_;exact au
  refine wj 999 999 (λf h=>h=eO H j [sL sI a0.l,sI a0.qS]/\f.1 0=AV.eb j 0/\f.1 1=sL Fm.av a1/\f.1 3=sI a3/\f.1 50=sB (en (ly a3 0) (en (qT (dp a2.aip) 10) (qT (dp a2.ais) 10) false) false)/\bx f 6 (Sq.av a2).cells/\bx f 8 [sI 0,sI 0,sI 0,nL,nL,nL,nL]/\bx f 9 (Ty.av L).cells) (λ_ g=>?_) ?_
  .rcases Pb (ly a3 0) e with e|e;rotate_left
   .exact aj
   rcases Pb (qT (dp a2.aip) 10) e with e|e
   .exact aj
   exact aj
  rintro _ _ E;have e:=Aj e E;apply Ir e m<;>intro e m
  .exact ij
  simp[e];refine Hm m λ_ d27 m=>?_;apply Iq e m<;>intro e m
  .simp[e];refine nW m (ih.1 aaQ) λ_ d29 m=>?_;simp[e];refine nW m (ih.1 aaQ) λ_ d31 m=>?_;exact aa
  apply Iq e m<;>intro e m
  .simp[e];refine TA m λ_ d34 m=>?_;simp[e];refine nW m (ih.1 aaQ) λ_ d36 m=>?_;simp[e];refine nW m (ih.1 aaQ) λ_ d38 m=>?_;exact aa
  apply Iq e m<;>intro e m
  .simp[e];refine Hm m λ_ d42 m=>?_;simp[e];refine N9 m λ_ m=>?_;simp[e];refine nW m (ih.1 aaQ) λ_ d45 m=>?_;exact aa
  apply Iq e m<;>intro e m
  .simp[e];refine s8 m (ih.1 aaQ) λ_ d48 m=>?_;simp[e];refine Hm m λ_ _ m=>?_;apply Ir e m<;>intro e m
   .exact ij
   simp[e];refine N9 m λ_ m=>?_;simp[e];refine nW m (ih.1 aaQ) λ_ d53 m=>?_;exact aa
  apply Iq e m<;>intro e m
  .simp[e];refine Hm m λ_ d57 m=>?_;simp[e];refine N9 m λ_ m=>?_;simp[e];refine nW m (ih.1 aaQ) λ_ d60 m=>?_;exact aa
  apply Iq e m<;>intro e m
  .simp[e];refine Hm m λ_ d63 m=>?_;simp[e];refine TA m λ_ d65 m=>?_;simp[e];refine N9 m λ_ m=>?_;simp[e];refine nW m (ih.1 aaQ) λ_ d68 m=>?_;exact aa
  apply Iq e m<;>intro e m
  .simp[e];refine Hm m λ_ d72 m=>?_;simp[e];refine Hm m λ_ d74 m=>?_;have⟨M,F,m⟩:=kL m;have e:=Aj e (show[sI 5,sI 7]=List.map sI M by rw[F];rfl);have⟨U,e,m⟩:=Ac e m;simp[e];refine N9 m λ_ m=>?_;simp[e];refine lI m oJ λ_ m=>?_;simp[e];refine N9 m λ_ m=>?_;simp[e];refine N9 m λ_ m=>?_;have⟨N,G,m⟩:=kL m;have e:=Aj e (show[sI 10,sI 14]=List.map sI N by rw[G];rfl);have⟨V,e,m⟩:=Ac e m;simp[e];refine lI m xw λ_ m=>?_;simp[e];refine lI m xD λ_ m=>?_;exact au
  apply Iq e m<;>intro e m
  .simp[e];refine s8 m (ih.1 aaQ) λ_ d88 m=>?_;simp[e];refine Hm m λ_ _ m=>?_;apply Ir e m<;>intro e m
   .exact ij
   simp[e];refine Hm m λ_ d92 m=>?_;simp[e];refine Hm m λ_ d94 m=>?_;have⟨O,I,m⟩:=kL m;have e:=Aj e (show[sI 5,sI 7]=List.map sI O by rw[I];rfl);have⟨W,e,m⟩:=Ac e m;simp[e];refine N9 m λ_ m=>?_;simp[e];refine N9 m λ_ m=>?_;have⟨J,D,m⟩:=kL m;have e:=Aj e (show[sI 10,sI 14]=List.map sI J by rw[D];rfl);have⟨R,e,m⟩:=Ac e m;simp[e];refine TA m λ_ d104 m=>?_;simp[e];refine lI m xD λ_ m=>?_;exact au
  apply Iq e m<;>intro e m
  .simp[e];refine s8 m (ih.2 aaQ) λ_ d107 m=>?_;exact au
  apply Iq e m<;>intro e m
  .simp[e];refine s8 m (ih.1 aaQ) λ_ d109 m=>?_;simp[e];refine Hm m λ_ _ m=>?_;apply Ir e m<;>intro e m
   .exact ij
   simp[e];refine N9 m λ_ m=>?_;simp[e];refine TA m λ_ d114 m=>?_;exact aa
  apply Iq e m<;>intro e m
  .simp[e];refine s8 m (ih.1 aaQ) λ_ d118 m=>?_;simp[e];refine Hm m λ_ _ m=>?_;apply Ir e m<;>intro e m
   .exact ij
   simp[e];refine N9 m λ_ m=>?_;simp[e];refine N9 m λ_ m=>?_;simp[e];refine TA m λ_ d124 m=>?_;exact aa
  apply Iq e m<;>intro e m
  .simp[e];refine Hm m λ_ d128 m=>?_;exact aa
  apply Iq e m<;>intro e m
  .simp[e];refine TA m λ_ d131 m=>?_;simp[e];refine TA m λ_ d133 m=>?_;exact aa
  apply Iq e m<;>intro e m
  .simp[e];refine Hm m λ_ d141 m=>?_;simp[e];refine N9 m λ_ m=>?_;simp[e];refine TA m λ_ d144 m=>?_;exact aa
  apply Iq e m<;>intro e m
  .simp[e];refine Hm m λ_ d148 m=>?_;simp[e];refine N9 m λ_ m=>?_;simp[e];refine nW m (ih.1 aaQ) λ_ d151 m=>?_;exact aa
  apply Ir e m<;>intro e m
  .exact ij
  simp[e];refine Hm m λ_ d154 m=>?_;simp[e];refine TA m λ_ d156 m=>?_;simp[e];refine lI m Ax λ_ m=>?_;simp[e];refine nW m (ih.1 aaQ) λ_ d159 m=>?_;exact aa
 .intro H a0 a1 a2 a3 s c j k hm;rw[v_] at hm;have C:=er k;refine ec.ZN (Post:=λx K=>x=Pf.av s/\∃X,K=(eO H j [sL sI c.l,sI c.qS])++X) ?_ (λ_ _ h=>⟨_,h.2.choose,h.2.choose_spec,aaL,by rw[h.1];simp[AV.low,AV.gE],λcs h=>by rcases Va h with h|h<;>first|exact .inl h|(rw[h];simp[AV.low,AV.gE]),h.1,rfl⟩);refine ec.HQ k ?_;have e:=C;refine wi aiq func78 [] [] 6 ?_;simp[e];refine RM hm (ID T aaQ) λa b d164 m=>?_;simp[e];refine Wj m 999 4 (λA f h=>∃q v167 v168 i,(h=(eO H j [sL sI v168.l,sI v168.qS])++[[sI i,sI b.cT.ail,sL Ty.av b.cT.aim,sL Tm.av b.dc,sL Fm.av b.aim]]/\f.1 0=AV.eb j 0/\f.1 1=sL Fm.av a1/\f.1 3=sI a3/\f.1 10=sI q/\bx f 6 (Sq.av a2).cells/\bx f 8 [sI 0,sI 0,sI 0,nL,nL,nL,nL]/\bx f 9 [sI v167,sI a.aio,sI a.cT.ail,sL Ty.av a.cT.aim,sL Tm.av a.dc,AV.qU (List.length H) 0 1 1,sL Pf.av a.aim])/\A q v167 v168 i=some (s,c)) (λA _ g m=>?_) ?_
  .simp[e];refine s8 m (tZ T aaQ) λ_ d173 m=>?_;apply Iq e m<;>intro e m
   .simp[e];exact g _ _ ⟨_,_,_,_,aaQ,m⟩
   simp[e];exact g _ _ ⟨_,_,_,_,aaQ,m⟩
  rintro _ _ ⟨q,v167,v168,i,E,m⟩;have e:=Aj e E;have⟨S,e,m⟩:=Ac e m;simp[e];refine lI m ve λ_ m=>?_;simp[e];refine lI m Ax λ_ m=>?_;simp[e];refine lI m Je λ_ m=>?_;simp[e];refine nW m (ih.1 aaQ) λ_ d180 m=>?_;simp[e];refine Wj m 999 1 (λB f h=>∃v182 v183 t u v w y r,(h=(eO H j [sL sI r.l,sI r.qS])++[[sI i,sI b.cT.ail,sL Ty.av b.cT.aim,sL Tm.av b.dc,sL Fm.av b.aim]]/\f.1 10=sI q/\bx f 8 [sI 0,sI 0,sI 0,nL,nL,nL,nL]/\bx f 9 [sI v167,sI a.aio,sI a.cT.ail,sL Ty.av a.cT.aim,sL Tm.av a.dc,AV.qU (List.length H) 0 1 1,sL Pf.av a.aim]/\bx f 12 [sI v182,sI v183,sI t,sL Ty.av u,sL Tm.av v,sL Fm.av w,sL Pf.av y])/\B v182 v183 t u v w y r=some (s,c)) (λB _ g m=>?_) ?_
  .simp[e];refine s8 m (tZ T aaQ) λ_ d194 m=>?_;apply Ir e m<;>intro e m
   .simp[e];exact g _ _ ⟨_,_,_,_,_,_,_,_,aaQ,m⟩
   simp[e];refine qc m r_ λ_ m=>?_;simp[e];refine lI m oJ λ_ m=>?_;simp[e];refine lI m Eb λ_ m=>?_;simp[e];refine lI m xD λ_ m=>?_;simp[e];exact g _ _ ⟨_,_,_,_,_,_,_,_,aaQ,m⟩
  rintro _ _ ⟨v182,v183,t,u,v,w,y,r,E,m⟩;have e:=Aj e E;simp[e];refine aeK 999 (o:=(List.length H)) (d:=9) (pre:=[sI v167,sI a.aio,sI a.cT.ail,sL Ty.av a.cT.aim,sL Tm.av a.dc]) (post:=[sL Pf.av a.aim]) (x:=Fm.av (Fm.mk i b.cT b.dc b.aim)) aaQ aaQ aaL (by simp;rfl) ?_;have e:=Aj e (show AV.agg [sI v167,sI a.aio,sI a.cT.ail,sL Ty.av a.cT.aim,sL Tm.av a.dc,AV.slice .iw [Fm.av (Fm.mk i b.cT b.dc b.aim)],sL Pf.av a.aim]=Pf.av (Pf.mk v167 a.aio a.cT a.dc [(Fm.mk i b.cT b.dc b.aim)] a.aim) by rw[Pf.eG];rfl);simp[e];refine qc m JB λ_ m=>?_;exact au
def O_(T:dt){n:Nat}:=@And.left _ _ (NX T n)
@[reducible,instance] def aaU:=fK 38 @O_
def OW(T:dt){H:cZ}{a0:dd}{a1:List Fm}{a2:Sq}{a3:Int}{i:Pf}{j:qV}{a:dd}{b:Nat}(c:H[b]?=some [sL sI a0.l,sI a0.qS])(hm:uu a0 a1 a2 a3=some (i,j,a)):ds prog T 19 [AV.eb b 0,sL Fm.av a1,Sq.av a2,sI a3] H (AV.tuple [Pf.av i,qV.av j]) (eO H b [sL sI a.l,sI a.qS]):=by
 rw[uu] at hm;have d:=er c;refine ec.HQ c ?_;have e:=d;refine wi aiq func19 [] [] 999 ?_;simp[e];refine Wn hm 999 (λs1 f h=>h=eO H b [sL sI s1.2.l,sI s1.2.qS]/\f.1 0=AV.eb b 0/\f.1 1=sL Fm.av a1/\f.1 3=sI a3/\f.1 16=sI s1.1/\bx f 6 (Sq.av a2).cells/\bx f 8 [sI 0,sI 0,sI 0,nL,nL,nL,nL]/\bx f 9 [sI 0,sI 0,nL,nL,nL,nL]) aaQ (λs1 _ _ _ _ _ E m z p=>?_);have⟨v9,v10⟩:=s1;have e:=Aj e E;dsimp only[kO]at m;apply Iq e m<;>intro e m
 .refine sw [0,2] ?_;intro _ d12 e m;exact aa
 cases m;have m:=Qb z;dsimp only[kO]at m;refine sw [0,2] ?_;intro _ d16 e m;exact aa
@[reducible,instance] def aa1:=fK 19 @OW
def H7(T:dt){H:cZ}{a0:dd}{D:sJ}{q:dd}{k:Nat}(u:H[k]?=some [sL sI a0.l,sI a0.qS])(hm:ss a0=some (D,q)):ds prog T 7 [AV.eb k 0] H (sJ.av D) (eO H k [sL sI q.l,sI q.qS]):=by
 rw[ss] at hm;have y:=er u;refine ec.HQ u ?_;have e:=y;refine wi aiq func7 [] [] 999 ?_;simp[e];refine Wn hm 999 (λs1 f h=>∃d,(h=eO H k [sL sI s1.2.2.l,sI s1.2.2.qS]/\f.1 0=AV.eb k 0/\f.1 4=sI s1.1/\bx f 2 [nL]/\bx f 3 [sT d iz.av s1.2.1])/\Ow f [75] d s1.2.1) (by exact⟨.full,aaQ,ig.full⟩) (λs1 _ _ _ _ F E m A B=>?_);have⟨v9,v10,v11⟩:=s1;have⟨d,E,v⟩:=E;have e:=Aj e E;dsimp only[Hi]at m;refine sw [0,2] ?_;intro _ d13 e m;apply Ir e m<;>intro e m
 .cases m;have m:=Qb A;dsimp only[Hi]at m;exact au
 refine sw [0,3,0,2,0] ?_;intro _ _ d16 _ d18 e m;refine Wn m 1 (λa f h=>∃c,(h=eO H k [sL sI a.2.2.2.2.2.2.2.2.2.2.2.2.2.l,sI a.2.2.2.2.2.2.2.2.2.2.2.2.2.qS]/\f.1 0=AV.eb k 0/\f.1 4=sI v9/\f.1 9=sI a.1/\bx f 2 [nL]/\bx f 3 [sT c iz.av v10]/\bx f 5 [sS (En [(conv .u8 (dJ .i64 97 v9))]),sI 0,sI 0,nL,nL,nL,sI 0,sI 0,sI 0,nL,nL,nL,nL]/\bx f 6 [sI a.2.1,sI a.2.2.1,sI a.2.2.2.1,sL Ty.av a.2.2.2.2.1,sL Tm.av a.2.2.2.2.2.1,sL Fm.av a.2.2.2.2.2.2.1,sL Pf.av a.2.2.2.2.2.2.2.1]/\bx f 8 [sI a.2.2.2.2.2.2.2.2.1,sI a.2.2.2.2.2.2.2.2.2.1,sL Ty.av a.2.2.2.2.2.2.2.2.2.2.1,sL Tm.av a.2.2.2.2.2.2.2.2.2.2.2.1,sL Fm.av a.2.2.2.2.2.2.2.2.2.2.2.2.1])/\Ow f [75] c v10) (by exact⟨d,aaQ,v⟩) (λa _ _ _ _ _ E m z p=>?_);have⟨v26,v27,v28,v29,v30,v31,v32,v33,r,v35,v36,v37,s,o⟩:=a;have⟨c,E,n⟩:=E;have e:=Aj e E;dsimp only[zI]at m;simp[e];refine wj 999 0 (λf h=>∃b,(h=eO H k [sL sI o.l,sI o.qS]/\f.1 0=AV.eb k 0/\f.1 4=sI v9/\f.1 9=sI v26/\f.1 39=sB (en (ly v26 0) (ly v9 0) false)/\bx f 2 [nL]/\bx f 3 [sT b iz.av v10]/\bx f 5 [sS (En [(conv .u8 (dJ .i64 97 v9))]),sI 0,sI 0,nL,nL,nL,sI 0,sI 0,sI 0,nL,nL,nL,nL]/\bx f 6 [sI v27,sI v28,sI v29,sL Ty.av v30,sL Tm.av v31,sL Fm.av v32,sL Pf.av v33]/\bx f 8 [sI r,sI v35,sL Ty.av v36,sL Tm.av v37,sL Fm.av s])/\Ow f [75] b v10) (λ_ g=>?_) ?_
 .rcases Pb (ly v26 0) e with e|e
  .simp[e];exact g _ _ ⟨c,aaQ,n⟩
  simp[e];exact g _ _ ⟨c,aaQ,n⟩
 rintro _ _ ⟨b,E,j⟩;have e:=Aj e E;apply Iq e m<;>intro e m
 .refine sg 999 [0,2,0,1,8,0,4,0] ?_;intro _ d44 _ G _ e m;cases m;exact p _ _ _ ⟨b,aaQ,j⟩ z
 apply wg 3;cases m;have m:=Qb z;dsimp only[zI]at m;simp[e];refine Wj m 999 999 (λw f h=>∃v49 i,(h=eO H k [sL sI o.l,sI o.qS]/\f.1 0=AV.eb k 0/\f.1 4=sI v9/\f.1 65=sB v49/\bx f 2 [nL]/\bx f 3 [sT i iz.av v10]/\bx f 5 [sS (En [(conv .u8 (dJ .i64 97 v9))]),sI 0,sI 0,nL,nL,nL,sI 0,sI 0,sI 0,nL,nL,nL,nL]/\bx f 6 [sI v27,sI v28,sI v29,sL Ty.av v30,sL Tm.av v31,sL Fm.av v32,sL Pf.av v33]/\bx f 8 [sI r,sI v35,sL Ty.av v36,sL Tm.av v37,sL Fm.av s])/\Ow f [75] i v10/\w v49=some F) (λw _ g m=>?_) ?_
 .refine sw [0,1] ?_;intro _ e m;apply Iq e m<;>intro e m
  .simp[e];exact g _ _ ⟨true,b,aaQ,j,m⟩
  refine sw [0,1,0] ?_;intro C e m;exact g _ _ ⟨(dx C 0),b,aaQ,j,m⟩
 rintro x _ ⟨v49,i,E,t,m⟩;have e:=Aj e E;apply Iq e m<;>intro e m
 .cases m;cases A;simp[e]
 refine sw [9,0] ?_;intro e m;refine Ao (f:=iz.av) v10 [(iz.mk (En [(conv .u8 (dJ .i64 97 v9))]) (Fm.mk r (Ty.mk v35 v36) v37 s) (Pf.mk v27 v28 (Ty.mk v29 v30) v31 v32 v33))] t agV e.2 ?_;simp[e];cases m;exact B _ _ _ ⟨(.loc 75 (x.eg 75+1)),aaQ,(On 75)⟩ A
def z_(T:dt)(q:lK T){a0:List Int}{a1:Int}{w:Bool}(hm:om a0 a1=some w):ec prog T 3 [sL sI a0,AV.sc (.int .u8 a1)] [] (λx _=>x=sB w):=by
 rw[om] at hm;have e:=q;refine wi aiq func3 [] [] 5 ?_;simp[e];refine qc hm (J3 T q) λ_ m=>?_;simp[e];apply Ir e m<;>intro e m
 .apply wg 999;exact au
 apply wg 5;simp[e];refine qc m TD λ_ m=>?_;simp[e];apply Ir e m<;>intro e m
 .apply wg 999;exact au
 apply wg 7;simp[e];refine qc m (VK T) λ_ m=>?_;simp[e];refine s8 m (H7 T aaQ) λc d5 m=>?_;simp[e];apply Iq e m<;>intro e m
 .apply wg 999;exact au
 apply wg 9;have⟨e,m⟩:=Ck e m;simp[e];refine s8 m (Ar T q) λy A m=>?_;simp[e];refine s8 m (uN T q) λd B m=>?_;simp[e];refine wj 999 999 (λf h=>h=eO [[]] 0 [sL sI d5.l,sI d5.qS]/\f.1 6=sI (yw .i64 (conv .i64 a1) (dp c.dO))/\f.1 7=sL (sL sI) y/\f.1 9=sL sI d/\f.1 62=sB (en (dx A 0) true (en (dx B 0) true (dx (dp y) (dp c.dO))))/\bx f 5 [sL iz.av c.dO]) (λ_ g=>?_) ?_
 .rcases Pb (dx A 0) e with e|e
  .exact aj
  rcases Pb (dx B 0) e with e|e
  .exact aj
  exact aj
 rintro _ _ E;have e:=Aj e E;refine Il e m λe m=>?_;simp[e];refine ry.i64 (f:=sB) [] true I4 rE aaQ aaQ ?_;have⟨b,e,m⟩:=Ac e m;simp[e];refine Wr e m 0 (λi a f h=>h=(eO [[]] 0 [sL sI d5.l,sI d5.qS])++[[lP sB a]]/\f.1 6=sI (yw .i64 (conv .i64 a1) (dp c.dO))/\f.1 9=sL sI d/\f.1 11=AV.iR 1/\f.1 69=sL sI b/\f.1 70=sI (dp b)/\f.1 71=sI i/\bx f 5 [sL iz.av c.dO]) aaQ (λa _ _ _ E m=>?_) (λi u a _ _ _ _ _ E e m z p=>?_)
 .have e:=Aj e E;apply wg 999;dsimp only[dh]at m;simp[e];refine Wr e m 0 (λk _ f h=>h=(eO [[]] 0 [sL sI d5.l,sI d5.qS])++[[lP sB a]]/\f.1 9=sL sI d/\f.1 11=AV.iR 1/\f.1 98=sL sI d/\f.1 99=sI (dp d)/\f.1 100=sI k) aaQ (λ_ _ _ _ E m=>?_) (λk _ _ _ _ _ _ v E e m z p=>?_)
  .have e:=Aj e E;apply wg 6;dsimp only[dh]at m;simp[e];refine aga 999 (x:=11) (d0:=123) (d1:=124) (tm:=37) (o:=1) (ks:=a.map λp=>Value.int .i64 p.1) (xs:=a.map λp=>sB p.2) aaQ (by simp[e,lP]) (by kernel_rfl) ?_;cases m;simp[e]
  have e:=Aj e E;apply wg 9;simp[e];refine D5 m 999 999 (λr f h=>∃v37,(h=(eO [[]] 0 [sL sI d5.l,sI d5.qS])++[[lP sB a]]/\f.1 9=sL sI d/\f.1 11=AV.iR 1/\f.1 98=sL sI d/\f.1 99=sI (dp d)/\f.1 100=sI k/\f.1 121=sB v37)/\r v37=some v) ?_ (λr _ g m=>?_)
  .rintro _ _ ⟨v37,E,m⟩;have e:=Aj e E;refine Il e m λe m=>?_;exact al
  simp[e];refine FC.i64 (f:=sB) a false I4 rE aaQ aes ?_;apply Ir e m<;>intro e m
  .exact ij
  apply Ir e m<;>intro e m
  .exact ij
  have⟨C,e,m⟩:=Ac e m;exact ij
 have e:=Aj e E;apply wg 12;simp[e];refine s8 m (uN T q) λn s m=>?_;simp[e];refine wj 999 999 (λf h=>h=(eO [[]] 0 [sL sI d5.l,sI d5.qS])++[[lP sB a]]/\f.1 6=sI (yw .i64 (conv .i64 a1) (dp c.dO))/\f.1 9=sL sI d/\f.1 11=AV.iR 1/\f.1 14=sL sI n/\f.1 69=sL sI b/\f.1 70=sI (dp b)/\f.1 71=sI i/\f.1 87=sB (en (dx s 0) true (og u (yw .i64 (conv .i64 a1) (dp c.dO))))/\bx f 5 [sL iz.av c.dO]) (λ_ g=>?_) ?_
 .rcases Pb (dx s 0) e with e|e
  .exact aj
  exact aj
 rintro _ _ E;have e:=Aj e E;refine Il e m λe m=>?_;simp[e];refine Wr e m 999 (λt j f h=>h=(eO [[]] 0 [sL sI d5.l,sI d5.qS])++[[lP sB j]]/\f.1 6=sI (yw .i64 (conv .i64 a1) (dp c.dO))/\f.1 9=sL sI d/\f.1 11=AV.iR 1/\f.1 69=sL sI b/\f.1 70=sI (dp b)/\f.1 71=sI i/\f.1 88=sL sI n/\f.1 89=sI (dp n)/\f.1 90=sI t/\bx f 5 [sL iz.av c.dO]) aaQ (λj _ _ _ E m=>?_) (λt _ j _ _ _ _ _ E e m z p=>?_)
 .have e:=Aj e E;dsimp only[dh]at m;exact al
 have e:=Aj e E;simp[e];refine ry.i64 (f:=sB) j true I4 rE aaQ aaQ ?_;exact al
end Go.Proofs.YtjgjcpnoaeljkaaGreatDoor
