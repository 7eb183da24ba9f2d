/- Part of the proof of TranslateStable: plain facts. -/
import Derived.Test.YtffcgfpaakhbjaaGreatDoorPT2
set_option linter.all false
namespace Go.dG
open Go
def Tm.rK{t:Tm}(h:t.ok=true)(hn:t.aeb<=4096):t.err=0:=by grind[Tm.err]
def Xc(n:Nat)(c:bZ)(t:Tm):cu (n+1) c (.mk 18 0 .z [t] [] [])=bU (o_ t t) λa=>bU (fp c t 1) λb=>some (a,[],b):=by rw[cu];rfl
def MQ(L:List Fm)(t:Tm)(g:List Ty)(hs:List Fm):ov L 18 0 .z [t] [] (Pf.sN L []) g hs=jk (mT t g 1) (.inl (.mk 1 .z [t,t] [],0)):=rfl
def VY(n:Nat)(L:List Fm)(t:Tm)(p:cp):oU n L (.mk 18 0 .z [t] [] []) p=bU (hY p.aed t) λa=>if(cF a 0) then some (⟨eI,0⟩,a)else some (⟨.mk 1 .z [t,t] [],0⟩,0):=rfl
def PT{L:List Fm}{t:Tm}(a:t.err=0):gV L (.mk 18 0 .z [t] [] []) 5:=by
 refine gV.of (N:=0) λn n' _ _ p c h=>?_;have e:=h.pl.nv;have f:=h.pl.ctx;obtain⟨a1,a2⟩:=Tm.d_ a;have hw:=t.er a1;rw[show n'+4=n'+3+1 from rfl,Xc,MQ,VY,h.pl.aed,vz a1 f VW,(has_both f e rfl a 1).2,KL VW VW,bT,bT,bT]
 by_cases b:mT t c.aed 1=0
 ·have d:cJ c.aed t .nat:=zd f a (.inl rfl) b;rw[bV (by rw[cf];simpa using b),eU b,b];refine kl.yes rfl rfl rfl .nil (.eq d d) ?_;rw[Fm.bY];simp only[cm];omega
 ·rw[bX (by rw[cf];exact b),gG b];exact kl.no b rfl rfl rfl
def Tu(n:Nat)(c:bZ)(F:Fm)(a b:Pf):cu (n+2) c (.mk 19 0 .z [] [F] [a,b])=hU (eB (dZ c.aed [.nat])<|bU (jd (eA c.aed [.nat]) F) λe=>if(cF e 0) then some (eI,[],e)else b7 (cA n c a) λd f=>if(cF f 0) then some (eI,[],f)else if(cF d.cd.ad' 1) then some (eI,[],10)else bU (cr d.cd.cx 0) λo=>b7 (dc n c b F o) λp g=>if(cF g 0) then some (eI,[],g)else bU (cr d.cd.cx 1) λh=>b7 (hZ F h) λi j=>some (i,p,j)) λk l m=>some (k,l,m):=by
 rw[cu];rw[ma];rfl
def IX(L:List Fm)(F:Fm)(a b:Pf)(g:List Ty)(hs:List Fm):ov L 19 0 .z [] [F] (Pf.sN L [a,b]) g hs=jk (F.ti (g++[.nat])) (pbind (Ca (a.inf L g hs) 1) λa _=>pbind (B9 (b.inf L g hs) F (a.cx.getD 0 Tm.z)) λ_ n=>jk (k4 F (a.cx.getD 1 Tm.z)).2 (.inl ((k4 F (a.cx.getD 1 Tm.z)).1,n))):=rfl
def U2(n:Nat)(L:List Fm)(F:Fm)(a b:Pf)(p:cp):oU (n+1) L (.mk 19 0 .z [] [F] [a,b]) p=bU (eW p.aed [.nat]) λj=>bU (cR FU j F) λc=>if(cF c 0) then some (⟨eI,0⟩,c)else b7 (cW n L a p 1) λd e=>if(cF e 0) then some (⟨eI,0⟩,e)else bU (cr d.cd.cx 0) λk=>b7 (c6 n L b p F k) λl f=>if(cF f 0) then some (⟨eI,0⟩,f)else bU (cr d.cd.cx 1) λg=>b7 (hE F g) λh i=>some (⟨h,l.eX⟩,i):=by
 show ly (n+1) L (.mk 19 0 .z [] [F] [a,b]) p=_;rw[ly];rfl
def NQ{L:List Fm}{F:Fm}(hF:F.err=0){a b:Pf}{N:Nat}(E:gV L a N)(G:gV L b N):gV L (.mk 19 0 .z [] [F] [a,b]) (N+5):=by
 refine gV.of λn n' hn H p c h=>?_;have r:=h.pl.nv;have B:=h.pl.ctx;have I:=(Fm.d_ hF).2;obtain⟨t1,t2,_⟩:=rF B.nat aaQ hF;rw[show n'+4=n'+2+2 from rfl,Tu,IX,U2,h.pl.aed,qy Ty.fC VW,bT,t1,bT,de aaQ,b9,eP,t2,bT]
 by_cases i:F.ti (c.aed++[.nat])=0
 ·have s:=i;rw[<-vd (a:=_=_),<-ne_eq,<-cf] at s;rw[bV s,bV s,eU i];have g:=p6 F (Fm.d_ hF).1 _ B.nat i;rcases lG (E (n+2) (n'+2) VW VW p c h) 1 with⟨e,he,j,k,d⟩|⟨f,m,l,j,k,d,hu,C,t⟩
  ·rw[j,k,bW,bX (by rw[cf];exact he)];rcases d with d|⟨f,l,m,d,t,rfl,_⟩
   ·rw[d,bW,bX (by rw[cf];exact he)];exact kl.no he rfl rfl rfl
   ·rw[d,bW,bV nz,bX (by rw[cf];exact t)];exact kl.no he rfl rfl rfl
  ·obtain⟨x,y,rfl,D,hy⟩:=C.ty.Sz t;have q:=C.aeb;rw[Fm.bY] at q;simp only[cm] at q;have u:x.err=0:=Tm.rK D.ok VW;have v:y.err=0:=Tm.rK hy.ok VW;have w:qY c.aed F x:=⟨hF,u,.nat,g,D⟩;have o:qY c.aed F y:=⟨hF,v,.nat,g,hy⟩;rw[j,k,d,bW,bW,bV nz,bV nz,bV aas,dS];simp only[Fm.eY,cD,dV,gf,kW,bT,qK,AK];rcases rb r (G (n+2) (n'+1) VW VW p c h) w with⟨e,z,l,m,he,j,k,d,hu⟩|⟨f,m,l,j,k,d,hu⟩
   ·rw[j,k,d,bW,bW,bX (by rw[cf];exact he),bX (by rw[cf];exact he)];exact kl.no he rfl rfl rfl
   ·rw[j,k,d,bW,bW,bV nz,bV nz,dS,(o.both VW).1,(o.both VW).2];rcases kZ F y with A|⟨J,A⟩
    ·rw[A,bW,bW,gG aaq];exact kl.no aaq rfl rfl rfl
    ·rw[A,bW,bW,eU rfl];exact kl.yes (f:=Fm.eG 0 F y) rfl rfl rfl hu o.put VW
 ·rw[bX (by rw[cf];exact i),bX (by rw[cf];exact i),gG i];exact kl.no i rfl rfl rfl
def YZ(f:Fm)(l:List Int):Option (Fm×List Int×Int):=
 cB (λ(d:Bool)=>if d then some (eI,[],10)else bU (cr f.aea 0) λa=>bU (jv f.b8 a.b8) λb=>bU (gO b) λe=>if(cF e 0) then some (eI,[],4)else bU (cr a.aea 0) λg=>bU (fQ FU g 2 1) λh=>bU (dO 3 [v1,v0]) λi=>b7 (hZ h i) λj k=>bU (iW 4 f.b8 j) λm=>bU (iW 5 b m) λn=>some (n,l,k)) λc=>if(cF f.ad' 4) then c true else bU (cr f.aea 0) λo=>c (cF o.ad' 5)
def Uc{f:Fm}{l:List Int}(h:f.ad'≠4):YZ f l=some (eI,[],10):=by grind[cF,cf,YZ,cg]
def T4{s:Ty}{x:Fm}{l:List Int}(h:x.ad'≠5):YZ (.mk 4 s [] [x]) l=some (eI,[],10):=by
 have o:cF x.ad' 5=true:=by rw[cf];exact h
 have e:YZ (.mk 4 s [] [x]) l=(λ(c:Bool)=>if c then some (eI,[],10)else bU (cr [x] 0) λa=>bU (jv s a.b8) λb=>bU (gO b) λd=>if(cF d 0) then some (eI,[],4)else bU (cr a.aea 0) λf=>bU (fQ FU f 2 1) λg=>bU (dO 3 [v1,v0]) λi=>b7 (hZ g i) λj k=>bU (iW 4 s j) λm=>bU (iW 5 b m) λn=>some (n,l,k)) (cF x.ad' 5):=rfl
 grind
def aa6{s u:Ty}{y:Fm}{l:List Int}:YZ (.mk 4 s [] [.mk 5 u [] [y]]) l=bU (jv s u) λa=>bU (gO a) λb=>if(cF b 0) then some (eI,[],4)else bU (fQ FU y 2 1) λc=>bU (dO 3 [v1,v0]) λd=>b7 (hZ c d) λe f=>bU (iW 4 s e) λg=>bU (iW 5 a g) λh=>some (h,l,f):=rfl
def Q4(n:Nat)(c:bZ)(a:Pf):cu (n+2) c (.mk 20 0 .z [] [] [a])=hU (b7 (cA n c a) λb d=>if(cF d 0) then some (eI,[],d)else YZ b.cd b.eX) λe f g=>some (e,f,g):=by
 rw[cu];rw[lT];rfl
def Kt(L:List Fm)(a:Pf)(g:List Ty)(hs:List Fm):ov L 20 0 .z [] [] (Pf.sN L [a]) g hs=pbind (Ca (a.inf L g hs) 4) λa m=>uk ((a.aea.getD 0 eI).ad'≠5) 10 (uk ((Ty.fn a.b8 (a.aea.getD 0 eI).b8).err≠0) 4 (uk ((k4 (((a.aea.getD 0 eI).aea.getD 0 eI).up 2 1) (qW v1 v0)).2≠0) 4 (.inl (.mk 5 (Ty.fn a.b8 (a.aea.getD 0 eI).b8) [] [.mk 4 a.b8 [] [(k4 (((a.aea.getD 0 eI).aea.getD 0 eI).up 2 1) (qW v1 v0)).1]],m)))):=rfl
def Zr(f:Fm)(u:Int):Option (b0×Int):=
 bU (cr f.aea 0) λa=>if(cF a.ad' 5) then some (⟨eI,0⟩,10)else bU (pj a.b8 [f.b8]) λb=>bU (cr a.aea 0) λd=>bU (da d 2 1) λe=>bU (fu 1) λg=>bU (fu 0) λh=>bU (ua g [h]) λi=>b7 (hE e i) λj k=>cB (λ(l:Bool)=>if l then some (⟨eI,0⟩,4)else bU (fx 4 f.b8 j) λm=>bU (fx 5 b m) λn=>some (⟨n,u⟩,0)) λc=>if(cF k 0) then c true else bU (jV b) λo=>c (cF o 0)
def Up{s:Ty}{x:Fm}{u:Int}(h:x.ad'≠5):Zr (.mk 4 s [] [x]) u=some (⟨eI,0⟩,10):=by grind[cF,cf,Zr,Fm.ck,cD,bT]
def Sw(n:Nat)(L:List Fm)(a:Pf)(p:cp):oU (n+1) L (.mk 20 0 .z [] [] [a]) p=b7 (cW n L a p 4) λb c=>if(cF c 0) then some (⟨eI,0⟩,c)else Zr b.cd b.eX:=by
 show nD (n+1) L (.mk 20 0 .z [] [] [a]) p=_;rfl
def ZA{s u:Ty}{y b:Fm}{m:Int}{q:Fm×Int}(v:da y 2 1=some b)(x:hE b (qW v1 v0)=some q)(z:jV (.fn s u)=some (Ty.fn s u).err):Zr (.mk 4 s [] [.mk 5 u [] [y]]) m=if q.2=0/\(Ty.fn s u).err=0 then some (⟨.mk 5 (.fn s u) [] [.mk 4 s [] [q.1]],m⟩,0)else some (⟨eI,0⟩,4):=by
 obtain⟨w,e⟩:=q
 have A:Zr (.mk 4 s [] [.mk 5 u [] [y]]) m=bU (pj u [s]) λa=>bU (da y 2 1) λf=>bU (fu 1) λg=>bU (fu 0) λi=>bU (ua g [i]) λj=>b7 (hE f j) λk l=>cB (λ(n:Bool)=>if n then some (⟨eI,0⟩,4)else bU (fx 4 s k) λo=>bU (fx 5 a o) λp=>some (⟨p,m⟩,0)) λc=>if(cF l 0) then c true else bU (jV a) λr=>c (cF r 0):=by
  rfl
 rw[A,Pk,bT,v,bT,show fu 1=some v1 from rfl,bT,show fu 0=some v0 from rfl,bT,BD,bT,show Tm.mk 3 0 (.mk 0 []) [v1,v0]=qW v1 v0 from rfl,x,bW,cg,z,bT]
 by_cases he:e=0
 ·subst he;rw[bV nz]
  by_cases d:(Ty.fn s u).err=0
  ·have t:cF (Ty.fn s u).err 0=false:=by rw[d];rfl
   rw[t,bX ⟨rfl,d⟩];rfl
  ·have t:cF (Ty.fn s u).err 0=true:=by rw[cf];exact d
   rw[t,bV (λh=>d h.2)];rfl
 ·rw[bX (by rw[cf];exact he),bV (λh=>he h.1)];rfl
def KA{L:List Fm}{a:Pf}{N:Nat}(E:gV L a N):gV L (.mk 20 0 .z [] [] [a]) (N+5):=by
 refine gV.of λn n' hn F p c h=>?_;have G:=h.pl.nv;rw[show n'+4=n'+2+2 from rfl,Q4,Kt,Sw];rcases lG (E (n+2) (n'+2) VW VW p c h) 4 with⟨e,he,k,o,i⟩|⟨f,m,l,k,o,i,hu,C,r⟩
 ·rw[k,o,bW,bX (by rw[cf];exact he)];rcases i with i|⟨f,l,m,i,r,rfl,_⟩
  ·rw[i,bW,bX (by rw[cf];exact he)];exact kl.no he rfl rfl rfl
  ·rw[i,bW,bV nz,Uc r];exact kl.no he rfl rfl rfl
 ·obtain⟨s,x,rfl,hs,D⟩:=C.ty.ux r (.inl rfl);have t:=C.sub (x:=x) aas D;rw[k,o,i,bW,bW,bV nz,bV nz,dS]
  by_cases d:x.ad'=5
  ·obtain⟨u,y,rfl,v,hy⟩:=D.ux d (.inr (.inl rfl));have g:=t.sub (x:=y) aas hy;have H:=dd hs;have I:=dd v;have J:=g.aeb
   have K:(Ty.fn s u).aeb<=1000:=by rw[Ty.ie];omega
   have j:y.aef 1000000000=true:=hy.aef _ aaQ;have M:da y 2 1=some (y.up 2 1):=(sS g.err j (f:=2) (c:=1) VW VW).1;have O:fQ FU y 2 1=some (y.up 2 1):=(sS g.err j (f:=2) (c:=1) VW VW).2
   have w:qY (c.aed++[.fn s u]++[s]) (y.up 2 1) (qW v1 v0):=⟨Ac g.err VW VW,aaq,u,by
    have:=hy.up c.aed [s,u] [.fn s u] aas
    simpa using this,.app EU uC⟩
   obtain⟨P,Q⟩:=w.both aaQ;have R:=M7;have hw:=Fm.er _ w.put.ok;simp only[Fm.ck,Fm.cQ,Fm.cq,qK];rw[jn aaq,ZA M P (tN VW),aa6,gC VW VW,bT,kU VW,bT]
   by_cases b:(Ty.fn s u).err=0
   ·have A:¬cF (Ty.fn s u).err 0=true:=by rw[cf];simpa using b
    rw[bV A,jn (by simpa using b),O,bT,show dO 3 [v1,v0]=some (qW v1 v0)from uE aaq aaq,bT,Q];rcases kZ (y.up 2 1) (qW v1 v0)with B|⟨S,B⟩
    ·rw[B,bV (λh=>by cases h.1),bW,iP aaq,MC VW VW,bT];rw[MC VW (by rw[Fm.fj];simp only[cm];omega),bT];exact kl.no aaq rfl rfl rfl
    ·rw[B,bX ⟨rfl,b⟩,bW,jn (λh=>h rfl),MC VW VW,bT];rw[MC VW (by rw[Fm.fj];simp only[cm];omega),bT];refine kl.yes (f:=.mk 5 (.fn s u) [] [.mk 4 s [] [Fm.eG 0 (y.up 2 1) (qW v1 v0)]]) rfl rfl rfl hu (.q (.inr (.inl rfl)) b (.q (.inl rfl) hs w.put)) ?_;rw[Fm.bY];simp only[cm];rw[Fm.bY];simp only[cm];omega
   ·have A:cF (Ty.fn s u).err 0=true:=by rw[cf];exact b
    rw[bX A,iP b,bV (λh=>b h.2)];exact kl.no aaq rfl rfl rfl
  ·simp only[Fm.ck,qK];rw[Up d,T4 d,iP d];exact kl.no aaq rfl rfl rfl
inductive yX:Pf->Prop
 |hyp {i}:0<=i->yX (.mk 1 i .z [] [] [])|I_ {i}:0<=i->yX (.mk 2 i .z [] [] [])|Lc {a b}:yX a->yX b->yX (.mk 3 0 .z [] [] [a,b])|and {k a}:k=4\/k=5->yX a->yX (.mk k 0 .z [] [] [a])|qV {F a}:F.err=0->yX a->yX (.mk 6 0 .z [] [F] [a])|sh {a b}:yX a->yX b->yX (.mk 7 0 .z [] [] [a,b])|all {k s a}:k=8\/k=12->s.err=0->yX a->yX (.mk k 0 s [] [] [a])|W4 {k t a}:k=9\/k=13->t.err=0->yX a->yX (.mk k 0 .z [t] [] [a])|ex {k t F a}:k=10\/k=14->t.err=0->F.err=0->yX a->yX (.mk k 0 .z [t] [F] [a])|XQ {k a b}:k=11\/k=15->yX a->yX b->yX (.mk k 0 .z [] [] [a,b])|ind {k t F a b}:k=16\/k=17->t.err=0->F.err=0->yX a->yX b->yX (.mk k 0 .z [t] [F] [a,b])|refl {t}:t.err=0->yX (.mk 18 0 .z [t] [] [])|subst {F a b}:F.err=0->yX a->yX b->yX (.mk 19 0 .z [] [F] [a,b])|choice {a}:yX a->yX (.mk 20 0 .z [] [] [a])
mutual
def Pf.xU:Pf->Nat
 |.mk _ _ _ _ _ l=>1+Pf.ur l
def Pf.ur:List Pf->Nat
 |[]=>0|p::l=>p.xU+Pf.ur l
end
def gV.mono{L:List Fm}{P:Pf}{N M:Nat}(h:gV L P N)(a:N<=M):gV L P M:=λn n' b c=>h n n' VW VW
def R6{L:List Fm}{P:Pf}(h:yX P):gV L P (5*P.xU):=by
 induction h with
 |hyp hi=>exact SW hi|I_ hi=>exact RV hi|Lc _ _ a b=>exact(Pv (a.mono (Nc _ _)) (b.mono (Mz _ _))).mono (by simp only[Pf.xU,Pf.ur];omega)|and c _ a=>
  rcases c with rfl|rfl
  ·exact(PQ a).mono (by simp only[Pf.xU,Pf.ur];omega)
  ·exact(Qx a).mono (by simp only[Pf.xU,Pf.ur];omega)
 |qV hF _ a=>exact(Py hF a).mono (by simp only[Pf.xU,Pf.ur];omega)|sh _ _ a b=>exact(Qk (a.mono (Nc _ _)) (b.mono (Mz _ _))).mono (by simp only[Pf.xU,Pf.ur];omega)|all c hs _ a=>
  rcases c with rfl|rfl
  ·exact(Qg hs a).mono (by simp only[Pf.xU,Pf.ur];omega)
  ·exact(Mv hs a).mono (by simp only[Pf.xU,Pf.ur];omega)
 |W4 c d _ a=>
  rcases c with rfl|rfl
  ·exact(SU d a).mono (by simp only[Pf.xU,Pf.ur];omega)
  ·exact(Ph d a).mono (by simp only[Pf.xU,Pf.ur];omega)
 |ex c d hF _ a=>
  rcases c with rfl|rfl
  ·exact(P0 d hF a).mono (by simp only[Pf.xU,Pf.ur];omega)
  ·exact(Qi d hF a).mono (by simp only[Pf.xU,Pf.ur];omega)
 |XQ c _ _ a b=>
  rcases c with rfl|rfl
  ·exact(Ku (a.mono (Nc _ _)) (b.mono (Mz _ _))).mono (by simp only[Pf.xU,Pf.ur];omega)
  ·exact(Mb (a.mono (Nc _ _)) (b.mono (Mz _ _))).mono (by simp only[Pf.xU,Pf.ur];omega)
 |ind c d hF _ _ a b=>
  rcases c with rfl|rfl
  ·exact(Nd d hF (a.mono (Nc _ _)) (b.mono (Mz _ _))).mono (by simp only[Pf.xU,Pf.ur];omega)
  ·exact(Ns d hF (a.mono (Nc _ _)) (b.mono (Mz _ _))).mono (by simp only[Pf.xU,Pf.ur];omega)
 |refl d=>exact PT d|subst hF _ _ a b=>exact(NQ hF (a.mono (Nc _ _)) (b.mono (Mz _ _))).mono (by simp only[Pf.xU,Pf.ur];omega)|choice _ a=>exact(KA a).mono (by simp only[Pf.xU,Pf.ur];omega)
mutual
def Pf.aeb:Pf->Nat
 |.mk _ _ _ ts fs l=>1+cm Tm.aeb ts+cm Fm.aeb fs+Pf.mz l
def Pf.mz:List Pf->Nat
 |[]=>0|p::l=>p.aeb+Pf.mz l
end
def Pf.pR:∀l:List Pf,Pf.mz l=cm Pf.aeb l
 |[]=>by rw[Pf.mz];rfl|p::l=>by rw[Pf.mz,Pf.pR l];rfl
theorem Pf.bY(k i:Int)(s:Ty)(ts:List Tm)(fs:List Fm)(l:List Pf):(Pf.mk k i s ts fs l).aeb=1+cm Tm.aeb ts+cm Fm.aeb fs+cm Pf.aeb l:=by rw[Pf.aeb,Pf.pR]
mutual
def Pf.wt:Pf->Nat
 |.mk _ _ s ts fs l=>1+s.aeb+cm Tm.wt ts+cm Fm.wt fs+Pf.MK l
def Pf.MK:List Pf->Nat
 |[]=>0|p::l=>p.wt+Pf.MK l
end
def Pf.Cc:∀l:List Pf,Pf.MK l=cm Pf.wt l
 |[]=>by rw[Pf.MK];rfl|p::l=>by rw[Pf.MK,Pf.Cc l];rfl
def Pf.fj(k i:Int)(s:Ty)(ts:List Tm)(fs:List Fm)(l:List Pf):(Pf.mk k i s ts fs l).wt=1+s.aeb+cm Tm.wt ts+cm Fm.wt fs+cm Pf.wt l:=by rw[Pf.wt,Pf.Cc]
def Pf.hD(p:Pf):1<=p.wt:=by cases p;rw[Pf.fj];omega
def Pf.ind{p:Pf->Prop}(h:∀k i s ts fs l,(∀t∈l,p t)->p (.mk k i s ts fs l))(t:Pf):p t:=by
 match t with
 |.mk k i s ts fs l=>exact h k i s ts fs l λx a=>Pf.ind h x
termination_by SizeOf.sizeOf t
decreasing_by
 have:=W' a;simp only[Pf.mk.sizeOf_spec];omega
def Pf.fX(p:Pf):p.aeb<=p.wt:=by
 induction p using Pf.ind with
 |h k i s ts fs l a=>
  rw[Pf.bY,Pf.fj];have b:=iO (l:=ts) (λx _=>Tm.fX x);have c:=iO (l:=fs) (λx _=>Fm.fX x);have d:=iO (l:=l) a;omega
def Pf.sig(k:Int):Option (Bool×Bool×Nat×Nat×Nat):=
 if k=1\/k=2 then some (true,false,0,0,0)
 else if k=3\/k=7\/k=11\/k=15 then some (false,false,0,0,2)
 else if k=4\/k=5\/k=20 then some (false,false,0,0,1)
 else if k=6 then some (false,false,0,1,1)
 else if k=8\/k=12 then some (false,true,0,0,1)
 else if k=9\/k=13 then some (false,false,1,0,1)
 else if k=10\/k=14 then some (false,false,1,1,1)
 else if k=16\/k=17 then some (false,false,1,1,2)
 else if k=18 then some (false,false,1,0,0)
 else if k=19 then some (false,false,0,1,2)
 else none
def Pf.node(k i:Int)(s:Ty)(d nf e:Nat):Bool:=
 match Pf.sig k with
 |none=>false|some (f,ty,a,b,c)=>decide (d=a)&&decide (nf=b)&&decide (e=c)&&decide (0<=i)&&(f||decide (i=0))&&(if ty then decide (s.err=0)else s.o9)
mutual
def Pf.ok:Pf->Bool
 |.mk k i s ts fs l=>Pf.node k i s ts.length fs.length l.length&&ts.all Tm.ok&&fs.all Fm.ok&&Pf.H6 l
def Pf.H6:List Pf->Bool
 |[]=>true|p::l=>p.ok&&Pf.H6 l
end
def Pf.yD:∀l:List Pf,Pf.H6 l=l.all Pf.ok
 |[]=>by rw[Pf.H6];rfl|p::l=>by rw[Pf.H6,Pf.yD l];rfl
theorem Pf.ei(k i:Int)(s:Ty)(ts:List Tm)(fs:List Fm)(l:List Pf):(Pf.mk k i s ts fs l).ok=(Pf.node k i s ts.length fs.length l.length&&ts.all Tm.ok&&fs.all Fm.ok&&l.all Pf.ok):=by rw[Pf.ok,Pf.yD]
def QG(t:Tm):Bool:=decide (t.aeb<=4096)
def QJ(f:Fm):Bool:=decide (f.aeb<=4096)
mutual
def Pf.small:Pf->Bool
 |.mk _ _ _ ts fs l=>ts.all QG&&fs.all QJ&&Pf.Gz l
def Pf.Gz:List Pf->Bool
 |[]=>true|p::l=>p.small&&Pf.Gz l
end
def Pf.HU:∀l:List Pf,Pf.Gz l=l.all Pf.small
 |[]=>by rw[Pf.Gz];rfl|p::l=>by rw[Pf.Gz,Pf.HU l];rfl
def Pf.BQ(k i:Int)(s:Ty)(ts:List Tm)(fs:List Fm)(l:List Pf):(Pf.mk k i s ts fs l).small=(ts.all QG&&fs.all QJ&&l.all Pf.small):=by rw[Pf.small,Pf.HU]
def Pf.err(p:Pf):Int:=if p.ok then(if p.small=true/\p.aeb<=16384 then 0 else 4)else 2
def Yg{k:Int}(h:Pf.sig k≠none):k=1\/k=2\/k=3\/k=4\/k=5\/k=6\/k=7\/k=8\/k=9\/k=10\/k=11\/k=12\/k=13\/k=14\/k=15\/k=16\/k=17\/k=18\/k=19\/k=20:=by
 refine aad λhn=>h ?_;unfold Pf.sig;simp only[not_or] at hn;rw[bV VW,bV VW,bV VW,bV VW,bV VW,bV VW,bV VW,bV VW,bV VW,bV VW]
def Kx{k:Int}(h:k<1\/20<k):Pf.sig k=none:=by
 unfold Pf.sig;rw[bV VW,bV VW,bV VW,bV VW,bV VW,bV VW,bV VW,bV VW,bV VW,bV VW]
def Pw(k:Int):(Pf.sig k=none/\∃r,kJ k=some (r,false))\/∃d ty a b c r,Pf.sig k=some (d,ty,a,b,c)/\kJ k=some (r,true)/\r.aec=d/\r.typed=ty/\r.cx=((a:Nat):Int)/\r.dy=((b:Nat):Int)/\r.aea=((c:Nat):Int):=by
 by_cases h:k<1\/20<k
 ·refine .inl ⟨Kx h,?_⟩;unfold kJ;rw[bX (by rw[jB,o0,jC,fN];omega)];exact⟨_,rfl⟩
 ·have e:k=1\/k=2\/k=3\/k=4\/k=5\/k=6\/k=7\/k=8\/k=9\/k=10\/k=11\/k=12\/k=13\/k=14\/k=15\/k=16\/k=17\/k=18\/k=19\/k=20:=VW
  refine .inr ?_;rcases e with rfl|rfl|rfl|rfl|rfl|rfl|rfl|rfl|rfl|rfl|rfl|rfl|rfl|rfl|rfl|rfl|rfl|rfl|rfl|rfl<;>exact⟨_,_,_,_,_,_,rfl,rfl,rfl,rfl,rfl,rfl,rfl⟩
def MW(k:Int):(Pf.sig k=none/\∃r,nW k=some (r,false))\/∃d ty a b c r,Pf.sig k=some (d,ty,a,b,c)/\nW k=some (r,true)/\r.aec=d/\r.yn=ty/\r.cx=((a:Nat):Int)/\r.dy=((b:Nat):Int)/\r.aea=((c:Nat):Int):=by
 by_cases h:k<1\/20<k
 ·refine .inl ⟨Kx h,?_⟩;unfold nW;simp only[jB,o0,eu];rw[bV VW,bV VW,bV VW,bV VW,bV VW,bV VW,bV VW,bV VW,bV VW,bV VW,bV VW];exact⟨_,rfl⟩
 ·have e:k=1\/k=2\/k=3\/k=4\/k=5\/k=6\/k=7\/k=8\/k=9\/k=10\/k=11\/k=12\/k=13\/k=14\/k=15\/k=16\/k=17\/k=18\/k=19\/k=20:=VW
  refine .inr ?_;rcases e with rfl|rfl|rfl|rfl|rfl|rfl|rfl|rfl|rfl|rfl|rfl|rfl|rfl|rfl|rfl|rfl|rfl|rfl|rfl|rfl<;>exact⟨_,_,_,_,_,_,rfl,rfl,rfl,rfl,rfl,rfl,rfl⟩
def h_{k i:Int}{s:Ty}{f nf g:Nat}(h:Pf.node k i s f nf g=true){j ty:Bool}{a b c:Nat}(hs:Pf.sig k=some (j,ty,a,b,c)):(f:Int)=a/\(nf:Int)=b/\(g:Int)=c/\0<=i/\(j=false->i=0)/\(ty=true->s.err=0)/\(ty=false->s=.mk 0 []):=by
 unfold Pf.node at h;rw[hs] at h;simp only[eg,m0,o0] at h;obtain⟨⟨⟨⟨⟨o,p⟩,q⟩,l⟩,m⟩,d⟩:=h;refine⟨VW,VW,VW,l,λn=>m.resolve_left (by simp[n]),λe=>?_,λe=>?_⟩
 ·rw[bX e] at d;simpa using d
 ·rw[bV aau] at d;exact(Ty.i_ s).1 d
def Pf.w(p:Pf):p.ok=true->p.small=true->yX p:=by
 induction p using Pf.ind with
 |h k i s ts fs l y=>
  intro v hs;rw[Pf.ei] at v;rw[Pf.BQ] at hs;simp only[eg,im] at v hs;obtain⟨⟨⟨m,z⟩,A⟩,B⟩:=v;obtain⟨⟨s1,s2⟩,C⟩:=hs;have r:∀t∈ts,t.err=0:=λt q=>Tm.rK (z t q) (by have:=s1 t q;simpa[QG] using this)
  have u:∀f∈fs,f.err=0:=λf q=>by
   have:=s2 f q;simp only[QJ,m0] at this;unfold Fm.err;rw[bX (A f q),bV VW]
  have j:∀x∈l,yX x:=λx q=>y x q (B x q) (C x q);clear y z A B s1 s2 C;have D:=Yg (k:=k) (λhn=>by unfold Pf.node at m;rw[hn] at m;cases m);rcases D with rfl|rfl|rfl|rfl|rfl|rfl|rfl|rfl|rfl|rfl|rfl|rfl|rfl|rfl|rfl|rfl|rfl|rfl|rfl|rfl
  ·obtain⟨q1,c,d,n,e,o,g⟩:=h_ m rfl;obtain rfl:=ek.1 q1;obtain rfl:=ek.1 c;obtain rfl:=ek.1 d;obtain rfl:=g rfl;exact .hyp n
  ·obtain⟨q1,c,d,n,e,o,g⟩:=h_ m rfl;obtain rfl:=ek.1 q1;obtain rfl:=ek.1 c;obtain rfl:=ek.1 d;obtain rfl:=g rfl;exact .I_ n
  ·obtain⟨q1,c,d,n,e,o,g⟩:=h_ m rfl;obtain rfl:=ek.1 q1;obtain rfl:=ek.1 c;obtain⟨a,b,rfl⟩:=oz d;obtain rfl:=e rfl;obtain rfl:=g rfl;exact .Lc (j a aas) (j b aas)
  ·obtain⟨q1,c,d,n,e,o,g⟩:=h_ m rfl;obtain rfl:=ek.1 q1;obtain rfl:=ek.1 c;obtain⟨a,rfl⟩:=hV d;obtain rfl:=e rfl;obtain rfl:=g rfl;exact .and (.inl rfl) (j a aas)
  ·obtain⟨q1,c,d,n,e,o,g⟩:=h_ m rfl;obtain rfl:=ek.1 q1;obtain rfl:=ek.1 c;obtain⟨a,rfl⟩:=hV d;obtain rfl:=e rfl;obtain rfl:=g rfl;exact .and (.inr rfl) (j a aas)
  ·obtain⟨q1,c,d,n,e,o,g⟩:=h_ m rfl;obtain rfl:=ek.1 q1;obtain⟨F,rfl⟩:=hV c;obtain⟨a,rfl⟩:=hV d;obtain rfl:=e rfl;obtain rfl:=g rfl;exact .qV (u F aas) (j a aas)
  ·obtain⟨q1,c,d,n,e,o,g⟩:=h_ m rfl;obtain rfl:=ek.1 q1;obtain rfl:=ek.1 c;obtain⟨a,b,rfl⟩:=oz d;obtain rfl:=e rfl;obtain rfl:=g rfl;exact .sh (j a aas) (j b aas)
  ·obtain⟨q1,c,d,n,e,o,g⟩:=h_ m rfl;obtain rfl:=ek.1 q1;obtain rfl:=ek.1 c;obtain⟨a,rfl⟩:=hV d;obtain rfl:=e rfl;exact .all (.inl rfl) (o rfl) (j a aas)
  ·obtain⟨q1,c,d,n,e,o,g⟩:=h_ m rfl;obtain⟨t,rfl⟩:=hV q1;obtain rfl:=ek.1 c;obtain⟨a,rfl⟩:=hV d;obtain rfl:=e rfl;obtain rfl:=g rfl;exact .W4 (.inl rfl) (r t aas) (j a aas)
  ·obtain⟨q1,c,d,n,e,o,g⟩:=h_ m rfl;obtain⟨t,rfl⟩:=hV q1;obtain⟨F,rfl⟩:=hV c;obtain⟨a,rfl⟩:=hV d;obtain rfl:=e rfl;obtain rfl:=g rfl;exact .ex (.inl rfl) (r t aas) (u F aas) (j a aas)
  ·obtain⟨q1,c,d,n,e,o,g⟩:=h_ m rfl;obtain rfl:=ek.1 q1;obtain rfl:=ek.1 c;obtain⟨a,b,rfl⟩:=oz d;obtain rfl:=e rfl;obtain rfl:=g rfl;exact .XQ (.inl rfl) (j a aas) (j b aas)
  ·obtain⟨q1,c,d,n,e,o,g⟩:=h_ m rfl;obtain rfl:=ek.1 q1;obtain rfl:=ek.1 c;obtain⟨a,rfl⟩:=hV d;obtain rfl:=e rfl;exact .all (.inr rfl) (o rfl) (j a aas)
  ·obtain⟨q1,c,d,n,e,o,g⟩:=h_ m rfl;obtain⟨t,rfl⟩:=hV q1;obtain rfl:=ek.1 c;obtain⟨a,rfl⟩:=hV d;obtain rfl:=e rfl;obtain rfl:=g rfl;exact .W4 (.inr rfl) (r t aas) (j a aas)
  ·obtain⟨q1,c,d,n,e,o,g⟩:=h_ m rfl;obtain⟨t,rfl⟩:=hV q1;obtain⟨F,rfl⟩:=hV c;obtain⟨a,rfl⟩:=hV d;obtain rfl:=e rfl;obtain rfl:=g rfl;exact .ex (.inr rfl) (r t aas) (u F aas) (j a aas)
  ·obtain⟨q1,c,d,n,e,o,g⟩:=h_ m rfl;obtain rfl:=ek.1 q1;obtain rfl:=ek.1 c;obtain⟨a,b,rfl⟩:=oz d;obtain rfl:=e rfl;obtain rfl:=g rfl;exact .XQ (.inr rfl) (j a aas) (j b aas)
  ·obtain⟨q1,c,d,n,e,o,g⟩:=h_ m rfl;obtain⟨t,rfl⟩:=hV q1;obtain⟨F,rfl⟩:=hV c;obtain⟨a,b,rfl⟩:=oz d;obtain rfl:=e rfl;obtain rfl:=g rfl;exact .ind (.inl rfl) (r t aas) (u F aas) (j a aas) (j b aas)
  ·obtain⟨q1,c,d,n,e,o,g⟩:=h_ m rfl;obtain⟨t,rfl⟩:=hV q1;obtain⟨F,rfl⟩:=hV c;obtain⟨a,b,rfl⟩:=oz d;obtain rfl:=e rfl;obtain rfl:=g rfl;exact .ind (.inr rfl) (r t aas) (u F aas) (j a aas) (j b aas)
  ·obtain⟨q1,c,d,n,e,o,g⟩:=h_ m rfl;obtain⟨t,rfl⟩:=hV q1;obtain rfl:=ek.1 c;obtain rfl:=ek.1 d;obtain rfl:=e rfl;obtain rfl:=g rfl;exact .refl (r t aas)
  ·obtain⟨q1,c,d,n,e,o,g⟩:=h_ m rfl;obtain rfl:=ek.1 q1;obtain⟨F,rfl⟩:=hV c;obtain⟨a,b,rfl⟩:=oz d;obtain rfl:=e rfl;obtain rfl:=g rfl;exact .subst (u F aas) (j a aas) (j b aas)
  ·obtain⟨q1,c,d,n,e,o,g⟩:=h_ m rfl;obtain rfl:=ek.1 q1;obtain rfl:=ek.1 c;obtain⟨a,rfl⟩:=hV d;obtain rfl:=e rfl;obtain rfl:=g rfl;exact .choice (j a aas)
structure TR (d d':cb) (s:Bool) (n:Nat):Prop where
 lo:d.aeb<=d'.aeb
 hi:d'.aeb<=d.aeb+n
 eq:s=true->d'.aeb=d.aeb+n
 gb:d'.gb=(d.gb||!s)
def TR.trans{d c a:cb}{s e:Bool}{n n':Nat}(h:TR d c s n)(b:TR c a e n'):TR d a (s&&e) (n+n'):=by
 refine⟨by have:=h.lo;have:=b.lo;omega,by have:=h.hi;have:=b.hi;omega,λhs=>?_,?_⟩
 ·rw[eg] at hs;have:=h.eq hs.1;have:=b.eq hs.2;omega
 ·rw[b.gb,h.gb,Bool.not_and,Bool.or_assoc]
def xd{α:Type}{F:Int->α->cb->Option (dP cb (Bool×cb))}(ok small:α->Bool)(sz:α->Nat):∀(l:List α) (i:Nat) (d:cb),0<=d.aeb->d.aeb+cm sz l<=4000000000->(∀(j:Int) (x:α) (d:cb),x∈l->0<=d.aeb->d.aeb+sz x<=4000000000->if ok x then∃a,F j x d=some (.next a)/\TR d a (small x) (sz x)else∃a,F j x d=some (.ret (false,a)))->if l.all ok then∃a,cY F l i d=some (.inl a)/\TR d a (l.all small) (cm sz l)else∃a,cY F l i d=some (.inr (false,a))
 |[],i,d,_,_,_=>⟨d,rfl,⟨VW,by simp[cm],λ_=>by simp[cm],aas⟩⟩|x::l,i,d,m,n,h=>by
  simp only[cm] at n;have b:=h i x d aas m VW;rw[vq]
  by_cases c:ok x=true
  ·rw[bX c] at b;obtain⟨d1,e,f⟩:=b;have g:=xd ok small sz l (i+1) d1 (by have:=f.lo;omega) (by have:=f.hi;omega) (λj y d hy=>h j y d (by simp[hy]));rw[cO,e];simp only[bT,cU,cm]
   by_cases k:l.all ok=true
   ·rw[bX k] at g;obtain⟨d2,o,p⟩:=g;rw[bX (by rw[eg];exact⟨c,k⟩)];exact⟨d2,o,f.trans p⟩
   ·grind
  ·rw[bV c] at b;obtain⟨d1,e⟩:=b;rw[bV (by rw[eg];exactλh=>c h.1),cO,e];exact⟨d1,rfl⟩
def HW{d:cb}{n e:Int}(a:-1000000000000<=d.aeb+n)(b:d.aeb+n<=1000000000000):fy d n e=some (cF e 2,⟨d.aeb+n,d.gb||cn e 4⟩):=by
 unfold fy;rw[cX VW VW];cases d.gb<;>rfl
def Tm.CO(t:Tm):t.err=2/\t.ok=false\/t.ok=true/\QG t=true/\t.err=0\/t.ok=true/\QG t=false/\t.err=4:=by
 unfold Tm.err QG;cases h:t.ok with
 |false=>grind|true=>grind
def Fm.CO(t:Fm):t.err=2/\t.ok=false\/t.ok=true/\QJ t=true/\t.err=0\/t.ok=true/\QJ t=false/\t.err=4:=by
 unfold Fm.err QJ;cases h:t.ok with
 |false=>grind|true=>grind
def GB{sz:Nat}{e:Int}{ok small:Bool}(c:e=2/\ok=false\/ok=true/\small=true/\e=0\/ok=true/\small=false/\e=4)(hs:sz<=1000000000){d:cb}(f:0<=d.aeb)(g:d.aeb+sz<=4000000000):if ok then∃b,(b7 (fy d (if e=0 then(sz:Int)else 0) e) λa d179=>if a then some (.next d179)else some ((.ret (false,d179)):dP cb (Bool×cb)))=some (.next b)/\TR d b small sz else∃b,(b7 (fy d (if e=0 then(sz:Int)else 0) e) λa d179=>if a then some (.next d179)else some ((.ret (false,d179)):dP cb (Bool×cb)))=some (.ret (false,b)):=by
 rcases c with⟨rfl,rfl⟩|⟨rfl,rfl,rfl⟩|⟨rfl,rfl,rfl⟩
 ·exact⟨_,rfl⟩
 ·rw[bX rfl,bX rfl,HW VW VW,bW,bX aaq];refine⟨_,rfl,⟨?_,?_,λ_=>rfl,?_⟩⟩
  all_goals grind[cn]
 ·rw[bX rfl,bV aaq,HW VW VW,bW,bX aaq];refine⟨_,rfl,⟨?_,?_,λh=>by(cases h),?_⟩⟩
  all_goals grind[cn]
def GD{f:Bool}{i a b c d nf e:Int}:df true (df (sg i 0) true (df (cF i 0) (df f (df (cF d a) true (df (cF nf b) true (cF e c))) true) (df (cF d a) true (df (cF nf b) true (cF e c))))) true=true↔¬(d=a/\nf=b/\e=c/\0<=i/\(f=true\/i=0)):=by
 grind[BA,jB,cF,y',jC]
def Fa{d:Bool}{i a b c e nf f:Int}:df true (df (cF e a) true (df (cF nf b) true (df (cF f c) true (df (sg i 0) true (df d false (cF i 0)))))) true=true↔¬(e=a/\nf=b/\f=c/\0<=i/\(d=true\/i=0)):=by
 cases d with
 |true=>
  grind[BA,jB,jC,cf]
 |false=>grind[BA,y',jB,jC,cf]
def QM(ty:Bool)(s:Ty):Bool:=if ty then decide (s.err=0)else s.o9
theorem ER{k i:Int}{s:Ty}{d nf e:Nat}{f ty:Bool}{a b c:Nat}(hs:Pf.sig k=some (f,ty,a,b,c)):Pf.node k i s d nf e=true↔((d:Int)=a/\(nf:Int)=b/\(e:Int)=c/\0<=i/\(f=true\/i=0))/\QM ty s=true:=by
 grind[Pf.node,QM]
def TG(d:cb)(A s:Bool)(n:Nat)(o:Option (Bool×cb)):Prop:=(A=true->∃a,o=some (true,a)/\TR d a s n)/\(A=false->∃a,o=some (false,a))
theorem TG.no{d a:cb}{A s:Bool}{n:Nat}(h:A=false):TG d A s n (some (false,a)):=⟨λb=>(by rw[h] at b;cases b),λ_=>⟨a,rfl⟩⟩
def Qh(n:Nat)(d:cb)(k i:Int)(s:Ty)(ts:List Tm)(fs:List Fm)(l:List Pf):gi (n+1) d (.mk k i s ts fs l)=(b7 (kJ k) λe F=>
 if(df F (df (sg i 0) true (df (cF i 0) (df e.aec (df (cF (cI ts) e.cx) true (df (cF (cI fs) e.dy) true (cF (cI l) e.aea))) true) (df (cF (cI ts) e.cx) true (df (cF (cI fs) e.dy) true (cF (cI l) e.aea))))) true) then(
 some (false,d))
 else(cB (λ(z:cb)=>
 eB (cZ ts)<|cB (λ(G:Int) (A:Tm)=>(λ(a:cb)=>
 b7 (ib A) λg h=>
 b7 (fy a g h) λj d179=>
 if j then(
 some (.next d179))
 else(some (.ret (false,d179)))):Int->Tm->(cb)->(Option (dP (cb) (Bool×cb)))) λm=>
 bU (cY m ts 0 z) (dR (λ(a:cb)=>
 eB (cZ fs)<|cB (λ(D:Int) (o:Fm)=>(λ(b:cb)=>
 b7 (ez o) λp q=>
 b7 (fy b p q) λt d322=>
 if t then(
 some (.next d322))
 else(some (.ret (false,d322)))):Int->Fm->(cb)->(Option (dP (cb) (Bool×cb)))) λu=>
 bU (cY u fs 0 a) (dR (λ(b:cb)=>
 eB (cZ l)<|cB (λ(E:Int) (v:Pf)=>(λ(c:cb)=>
 b7 (gi n c v) λw f=>
 if w then(
 some (.next f))
 else(some (.ret (false,f)))):Int->Pf->(cb)->(Option (dP (cb) (Bool×cb)))) λx=>
 bU (cY x l 0 b) (dR (λ(c:cb)=>
 some (true,c)) (λr=>some r))) (λr=>some r))) (λr=>some r))) λy=>
 if e.typed then(
 b7 (gH s) λH B=>
 if(cF B 0) then(
 some (false,(cb.mk (c8 .i64 d.aeb 1) d.gb)))
 else(y (cb.mk (c8 .i64 d.aeb 1) d.gb)))
 else(bU (mC s) λC=>
 if C then(
 y (cb.mk (c8 .i64 d.aeb 1) d.gb))
 else(some (false,(cb.mk (c8 .i64 d.aeb 1) d.gb)))))):=by
 rw[gi];rfl
def R_:∀(n:Nat) (P:Pf) (d:cb),P.wt<=n->P.wt<=1000000000->0<=d.aeb->d.aeb+P.aeb<=4000000000->TG d P.ok P.small P.aeb (gi n d P):=by
 intro n
 induction n with
 |zero=>intro P d h;have:=P.hD;omega
 |succ n Z=>
  intro P d hn hb h0 hd;cases P with
  |mk k i s ts fs l=>
   rw[Pf.fj] at hn hb;rw[Pf.bY] at hd|-;have aa:=eV Tm.wt ts λt _=>t.hD;have ab:=eV Fm.wt fs λt _=>t.hD;have ad:=eV Pf.wt l λt _=>t.hD;have m1:=iO (l:=ts) (λx _=>Tm.fX x);have m2:=iO (l:=fs) (λx _=>Fm.fX x);have m3:=iO (l:=l) (λx _=>Pf.fX x);rw[Pf.ei,Pf.BQ,Qh];rcases Pw k with⟨H,r,J⟩|⟨ix,ty,a,b,c,r,H,J,g1,g2,g3,g4,g5⟩
   ·rw[J,bW,y',bX rfl];exact TG.no (by simp[Pf.node,H])
   ·rw[J,bW,g1,g2,g3,g4,g5,dI,dI,dI]
    by_cases I:(ts.length:Int)=a/\(fs.length:Int)=b/\(l.length:Int)=c/\0<=i/\(ix=true\/i=0)
    ·rw[bV (λh=>GD.1 h I)]
     have p:Pf.node k i s ts.length fs.length l.length=QM ty s:=by
      rw[A_,ER H];exact⟨λh=>h.2,λh=>⟨I,h⟩⟩
     rw[p];cases f:QM ty s with
     |false=>
      have e:∀j:cb->Option (Bool×cb),(if ty then b7 (gH s) λae K=>if(cF K 0) then some (false,(cb.mk (c8 .i64 d.aeb 1) d.gb))else j (cb.mk (c8 .i64 d.aeb 1) d.gb)else bU (mC s) λL=>if L then j (cb.mk (c8 .i64 d.aeb 1) d.gb)else some (false,(cb.mk (c8 .i64 d.aeb 1) d.gb)))=some (false,(cb.mk (c8 .i64 d.aeb 1) d.gb)):=by grind[QM,cF,cf,ka,bW,qE,bT]
      refine rf (λ_=>False) (λ_ h=>h.elim) (λj _=>?_);rw[e j];exact TG.no aas
     |true=>
      refine rf (λd1=>d1.aeb=d.aeb+1/\d1.gb=d.gb) (λd1 g=>?_) (λj hj=>?_)
      ·have t1:=xd (F:=λ(af:Int) (M:Tm)=>(λ(q:cb)=>b7 (ib M) λu v=>b7 (fy q u v) λw d179=>if w then some (.next d179)else some (.ret (false,d179)))) Tm.ok QG Tm.aeb ts 0 d1 VW VW (λj x d m q0 q1=>by
        have:=cy Tm.wt m;have:=x.fX;rw[nI VW,bW]
        exact GB x.CO VW q0 q1)
       rw[ch VW,b9,cg];cases a1:ts.all Tm.ok with
       |false=>
        rw[a1,bV aaq] at t1;obtain⟨d2,N⟩:=t1;rw[N,bT,qm];exact TG.no aas
       |true=>
        rw[a1,bX rfl] at t1;obtain⟨d2,N,O⟩:=t1;have u1:=O.lo;have u2:=O.hi;rw[N,bT,ca,ch VW,b9,cg]
        have t2:=xd (F:=λ(V:Int) (y:Fm)=>(λ(z:cb)=>b7 (ez y) λA B=>b7 (fy z A B) λC d322=>if C then some (.next d322)else some (.ret (false,d322)))) Fm.ok QJ Fm.aeb fs 0 d2 VW VW (λj x d m q0 q1=>by
         have:=cy Fm.wt m;have:=x.fX;rw[eM VW,bW]
         exact GB x.CO VW q0 q1)
        cases a2:fs.all Fm.ok with
        |false=>
         rw[a2,bV aaq] at t2;obtain⟨d3,Q⟩:=t2;rw[Q,bT,qm];exact TG.no aas
        |true=>
         rw[a2,bX rfl] at t2;obtain⟨d3,Q,R⟩:=t2;have u3:=R.lo;have u4:=R.hi;rw[Q,bT,ca,ch VW,b9,cg]
         have t3:=xd (F:=λ(W:Int) (D:Pf)=>(λ(E:cb)=>b7 (gi n E D) λG o=>if G then some (.next o)else some (.ret (false,o)))) Pf.ok Pf.small Pf.aeb l 0 d3 VW VW (λj x d m q0 q1=>by
          have:=cy Pf.wt m;have:=cy Pf.aeb m;have:=x.fX;have m:=Z x d VW VW q0 VW;cases X:x.ok with
          |true=>
           obtain⟨S,T,w2⟩:=m.1 X;rw[bX rfl,T,bW,bX rfl];exact⟨S,rfl,w2⟩
          |false=>
           obtain⟨S,T⟩:=m.2 X;rw[bV aaq,T,bW,bV aaq]
           exact⟨S,rfl⟩)
         cases a3:l.all Pf.ok with
         |false=>
          rw[a3,bV aaq] at t3;obtain⟨d4,U⟩:=t3;rw[U,bT,qm];exact TG.no aas
         |true=>
          rw[a3,bX rfl] at t3;obtain⟨d4,U,r4⟩:=t3;rw[U,bT,ca];refine⟨λ_=>⟨d4,rfl,?_⟩,λh=>by simp at h⟩;have r0:TR d d1 true 1:=⟨VW,VW,λ_=>by omega,by simp[g.2]⟩;have:=((r0.trans O).trans R).trans r4;rw[zK] at this;exact this
      ·have g:=hj (cb.mk (c8 .i64 d.aeb 1) d.gb) ⟨by show c8 .i64 d.aeb 1=_;rw[cX VW VW],rfl⟩;unfold QM at f
       by_cases Y:ty=true
       ·rw[bX Y] at f|-
        have hz:¬cF s.err 0=true:=by rw[cf];simpa using f
        rw[ka VW,bW,bV hz];exact g
       ·rw[bV Y] at f|-;rw[qE,bT,f,bX rfl];exact g
    ·rw[bX (GD.2 I)];refine TG.no ?_
     have:Pf.node k i s ts.length fs.length l.length=false:=by
      rw[P3]
      exactλh=>I ((ER H).1 h).1
     rw[this];simp
def qg{P:Pf}(h:P.wt<=1000000000):mD P=some P.err:=by
 have hn:=P.fX;have b:=R_ FU P (cb.mk 0 false) (by rw[cP];omega) h (by show(0:Int)<=0;omega) (by show(0:Int)+_<=_;omega);unfold mD pB Pf.err;cases c:P.ok with
 |false=>
  obtain⟨a,e⟩:=b.2 c
  grind[bW]
 |true=>
  obtain⟨a,e,r⟩:=b.1 c;rw[e,bW,bX rfl,bX rfl];have d:a.gb=!P.small:=r.gb;rw[d,jB];cases hs:P.small with
  |false=>grind[bW]|true=>
   have f:a.aeb=(0:Int)+P.aeb:=r.eq hs
   grind[eE,bW]
def PK(n:Nat)(k i:Int)(s:Ty)(ts:List Tm)(fs:List Fm)(l:List Pf):mH (n+1) (.mk k i s ts fs l)=(b7 (nW k) λb v=>
 if(df v (df (cF (cI ts) b.cx) true (df (cF (cI fs) b.dy) true (df (cF (cI l) b.aea) true (df (sg i 0) true (df b.aec false (cF i 0)))))) true) then(
 some false)
 else(cB (λ(h:Bool)=>
 if h then(
 some false)
 else(eB (cZ ts)<|cB (λ(w:Int) (j:Tm)=>(λ(_:Unit)=>
 bU (je FU j) λm=>
 if m then(
 some (.next ()))
 else(some (.ret false))):Int->Tm->(Unit)->(Option (dP (Unit) (Bool)))) λo=>
 bU (cY o ts 0 ()) (dR (λ(_:Unit)=>
 eB (cZ fs)<|cB (λ(x:Int) (p:Fm)=>(λ(_:Unit)=>
 bU (kE FU p) λc=>
 if c then(
 some (.next ()))
 else(some (.ret false))):Int->Fm->(Unit)->(Option (dP (Unit) (Bool)))) λd=>
 bU (cY d fs 0 ()) (dR (λ(_:Unit)=>
 eB (cZ l)<|cB (λ(u:Int) (e:Pf)=>(λ(_:Unit)=>
 bU (mH n e) λf=>
 if f then(
 some (.next ()))
 else(some (.ret false))):Int->Pf->(Unit)->(Option (dP (Unit) (Bool)))) λg=>
 bU (cY g l 0 ()) (dR (λ(_:Unit)=>
 some true) (λr=>some r))) (λr=>some r))) (λr=>some r)))) λa=>
 if b.yn then(
 bU (gO s) λq=>
 if(cF q 0) then(
 a true)
 else(a false))
 else(bU (oq s) λt=>
 a (nT t)))):=by
 rw[mH];rfl
def Fv:∀(n:Nat) (P:Pf),P.wt<=n->P.wt<=1000000000->mH n P=some P.ok:=by
 intro n
 induction n with
 |zero=>intro P h;have:=P.hD;omega
 |succ n u=>
  intro P hn w;cases P with
  |mk k i s ts fs l=>
   rw[Pf.fj] at hn w;have y:=eV Tm.wt ts λt _=>t.hD;have z:=eV Fm.wt fs λt _=>t.hD;have A:=eV Pf.wt l λt _=>t.hD;rw[Pf.ei,PK];rcases MW k with⟨m,r,p⟩|⟨B,ty,a,b,c,r,m,p,g1,g2,g3,g4,g5⟩
   ·rw[p,bW,y',bX rfl];simp[Pf.node,m]
   ·rw[p,bW,g1,g2,g3,g4,g5,dI,dI,dI]
    by_cases q:(ts.length:Int)=a/\(fs.length:Int)=b/\(l.length:Int)=c/\0<=i/\(B=true\/i=0)
    ·rw[bV (λh=>Fa.1 h q)]
     have e:Pf.node k i s ts.length fs.length l.length=QM ty s:=by
      rw[A_,ER m];exact⟨λh=>h.2,λh=>⟨q,h⟩⟩
     rw[e];refine rf (G:=λo=>o=some (QM ty s&&ts.all Tm.ok&&fs.all Fm.ok&&l.all Pf.ok)) (λv=>v=!QM ty s) (λv C=>?_) (λj D=>?_)
     ·rw[C];cases QM ty s with
      |false=>rfl|true=>
       rw[bV aaq,ch VW,b9,cg,oH Tm.ok false ts 0 (λj x g=>by
        have:=cy Tm.wt g
        rw[xr VW,bT]),zK]
       cases ts.all Tm.ok with
       |false=>rfl|true=>
        rw[bX rfl,bT,ca,ch VW,b9,cg,oH Fm.ok false fs 0 (λj x g=>by
         have:=cy Fm.wt g
         rw[yu FU x (by rw[cP];omega) VW,bT]),zK]
        cases fs.all Fm.ok with
        |false=>rfl|true=>
         rw[bX rfl,bT,ca,ch VW,b9,cg,oH Pf.ok false l 0 (λj x g=>by
          have:=cy Pf.wt g
          rw[u x VW VW,bT]),zK]
         cases l.all Pf.ok with
         |false=>rfl|true=>rfl
     ·have d:=D (!QM ty s) rfl;unfold QM at d|-
      by_cases f:ty=true
      ·rw[bX f] at d;rw[bX f,bX f,kU VW,bT]
       grind[cF,cf]
      ·rw[bV f] at d;rw[bV f,bV f,u9,bT,Oq];exact d
    ·rw[bX (Fa.2 q)]
     grind[Pf.node,ER]
def Gh:∀(n:Nat) (P:Pf),P.wt<=n->P.wt<=1000000000->pW n P=some P.small:=by
 intro n
 induction n with
 |zero=>intro P h;have:=P.hD;omega
 |succ n b=>
  intro P hn c;cases P with
  |mk k i s ts fs l=>
   rw[Pf.fj] at hn c;have d:=eV Tm.wt ts λt _=>t.hD;have e:=eV Fm.wt fs λt _=>t.hD;have f:=eV Pf.wt l λt _=>t.hD;rw[Pf.BQ,pW];simp only[Pf.eY,Pf.ET,Pf.ck,cg]
   rw[ch VW,b9,oH QG false ts 0 (λj x a=>by
    have:=cy Tm.wt a;have:=x.fX;rw[mf FU x (by rw[cP];omega) VW,bT]
    by_cases hs:x.aeb<=4096
    ·grind[eE,QG]
    ·rw[bX (by rw[eE];omega),bV (by simpa[QG] using hs)])]
   cases ts.all QG with
   |false=>rfl|true=>
    rw[bX rfl,bT,ca,ch VW,b9,oH QJ false fs 0 (λj x a=>by
     have:=cy Fm.wt a;have:=x.fX;rw[mx FU x (by rw[cP];omega) VW,bT]
     by_cases hs:x.aeb<=4096
     ·rw[bV (by rw[eE];omega),bX (show QJ x=true from tB hs)]
     ·rw[bX (by rw[eE];omega),bV (by simpa[QJ] using hs)]),zK]
    cases fs.all QJ with
    |false=>rfl|true=>
     rw[bX rfl,bT,ca,ch VW,b9,oH Pf.small false l 0 (λj x a=>by
      have:=cy Pf.wt a
      rw[b x VW VW,bT]),zK]
     cases l.all Pf.small with
     |false=>rfl|true=>rfl
theorem F1:∀(n:Nat) (P:Pf),P.wt<=n->P.wt<=1000000000->p_ n P=some (P.aeb:Int):=by
 intro n
 induction n with
 |zero=>intro P h;have:=P.hD;omega
 |succ n b=>
  intro P hn c;cases P with
  |mk k i s ts fs l=>
   rw[Pf.fj] at hn c;have d:=eV Tm.wt ts λt _=>t.hD;have e:=eV Fm.wt fs λt _=>t.hD;have f:=eV Pf.wt l λt _=>t.hD;have g:=iO (l:=ts) (λx _=>Tm.fX x);have m:=iO (l:=fs) (λx _=>Fm.fX x);have o:=iO (l:=l) (λx _=>Pf.fX x);rw[Pf.bY,p_];simp only[Pf.eY,Pf.ET,Pf.ck,cg]
   rw[ch VW,b9,show(1:Int)=((1:Nat):Int)from rfl,oe Tm.aeb ts 0 1 VW (λj x v a=>by
    have:=cy Tm.wt a;have:=x.fX
    rw[mf FU x (by rw[cP];omega) VW,bT]),bT,ca,ch VW,b9,oe Fm.aeb fs 0 _ VW (λj x v a=>by
    have:=cy Fm.wt a;have:=x.fX
    rw[mx FU x (by rw[cP];omega) VW,bT]),bT,ca,ch VW,b9,oe Pf.aeb l 0 _ VW (λj x v a=>by
    have:=cy Pf.wt a
    rw[b x VW VW,bT]),bT,ca]
def FW{P:Pf}(h:P.wt<=1000000000):rZ P=some P.err:=by
 unfold rZ w_ Pf.err;rw[Fv FU P (by rw[cP];omega) h,bT];cases P.ok with
 |false=>rfl|true=>
  rw[bX rfl,bX rfl,cg,Gh FU P (by rw[cP];omega) h,bT];cases P.small with
  |false=>rfl|true=>grind[F1,FU,cP,bT,A2]
def Pf.aaj{P:Pf}(h:P.err=0):yX P/\P.aeb<=16384:=by
 unfold Pf.err at h;cases b:P.ok with
 |false=>grind|true=>
  by_cases a:P.small=true/\P.aeb<=16384
  ·exact⟨P.w b a.1,a.2⟩
  ·grind
def RP{k q m:Nat}(hm:m=2^(k+1)*q+2^k)(j:Nat):(m&&&(m-1)).testBit j=(m.testBit j&&!decide (j=k)):=by
 have c:2^k<2^(k+1):=TM aaq VW;have d:0<2^k:=Nat.two_pow_pos k
 have e:m-1=2^(k+1)*q+(2^k-1):=VW
 rw[Nat.testBit_and,e,hm,Xx _ c,Xx _ VW]
 by_cases a:j<k+1
 ·rw[bX a,bX a,Uz,Nat.testBit_two_pow_sub_one]
  by_cases b:j=k
  ·simp[b]
  ·rw[Bo (show¬k=j by omega)];simp
 ·rw[bV a,bV a,Bo (show¬j=k by omega)];simp
def Un{a:Int}{l:List Int}{m:Nat}(h:Us (a::l) m):m≠0/\((Lib.ctz 32 m:Nat):Int)=a/\Us l (m&&&(m-1)):=by
 have s:=h.pos a aas;obtain⟨k,rfl⟩:∃k:Nat,a=k:=⟨a.toNat,VW⟩;have d:m.testBit k=true:=(h.mem k).1 aas
 have f:m≠0:=by rintro rfl;simp at d
 cases h.srt with
 |cons s1 s2=>
  have g:∀i,i<k->m.testBit i=false:=λi hi=>by
   rw[P3];intro t;rcases jW.1 ((h.mem i).2 t)with e|e
   ·omega
   ·have:=s1 _ e;omega
  have n:Lib.ctz 32 m=Lib.ctzFrom 32 m:=by unfold Lib.ctz;rw[bV f]
  obtain⟨q,p,_⟩:=Lib.ctzFrom_spec 32 m VW (by have:=h.lt;omega);rw[<-n] at p
  have c:m=2^(Lib.ctz 32 m+1)*q+2^Lib.ctz 32 m:=by
   rw[Nat.pow_succ,Nat.mul_assoc,<-Nat.mul_succ];exact p
  have r:Lib.ctz 32 m=k:=by
   have b:∀j,j<=Lib.ctz 32 m->m.testBit j=decide (Lib.ctz 32 m=j):=λj y=>by
    have u:2^Lib.ctz 32 m<2^(Lib.ctz 32 m+1):=TM aaq VW
    conv=>lhs;rw[c]
    rw[Xx _ u,bX VW,Uz]
   rcases aah (Lib.ctz 32 m) k with o|heq|hgt
   ·have:=b _ (fT _);rw[g _ o] at this;simp at this
   ·exact heq
   ·have:=b k VW;rw[d,Bo VW] at this;cases this
  rw[r] at c;refine⟨f,by rw[r],⟨aaB Nat.and_le_left h.lt,λx v=>h.pos x (by simp[v]),s2,λi=>?_⟩⟩;rw[RP c,eg,<-h.mem i];simp only[T6,M6];constructor
  ·intro hi;refine⟨by simp[hi],?_⟩;rintro rfl;have:=s1 _ hi;omega
  ·rintro⟨hi,w⟩;rcases jW.1 hi with e|e
   ·omega
   ·exact e
def Us.zero{m:Nat}(h:Us [] m):m=0:=by
 refine aaU λi=>?_;rw[Nat.zero_testBit,P3];intro a;have:=(h.mem i).2 a;simp at this
def DQ:∀(l:List Int) (m:Nat) (v:List Int) (n:Nat),Us l m->l.length<n->v.length+l.length<=1000000->nY (sa λ(v37:Int) (b:List Int)=>
   if(cF v37 0) then(
   bU (jq v37) λc=>
   eB (dZ b [c])<|some ((.next ((r' .u32 v37 (dh .u32 v37 1)),(eA b [c]))):dP (Int×List Int) (List Int)))
   else(some (.H9 (v37,b)))) n ((m:Int),v)=some (.inl (0,v++l))
 |l,m,v,0,_,hn,_=>by omega|[],m,v,n+1,h,_,_=>by
  rw[h.zero,nY];simp only[sa];rw[bV (show¬cF ((0:Nat):Int) 0=true by decide)];simp
 |a::l,m,v,n+1,h,hn,e=>by
  simp only[j0] at hn e;obtain⟨i,f,hu⟩:=Un h;have d:=h.lt
  have g:cF (m:Int) 0=true:=by rw[cf];omega
  rw[nY];simp only[sa];rw[bX g];rw[show jq (m:Int)=some a by unfold jq;rw[bX VW,AM,f],bT,de aaQ,b9,bT,cU,eP];rw[show dh .u32 (m:Int) 1=((m-1:Nat):Int) by unfold dh;rw[EB VW VW];omega,LP d VW];rw[DQ l _ (v++[a]) n hu VW aaQ];simp
def PX{l:List Int}{m:Nat}(h:Us l m):my (m:Int)=some l:=by
 have a:=h.len;unfold my;rw[cg,DQ l m [] FU h (by rw[cP];omega) aaQ,bT];simp[sa]
def y5:∀(n:Nat) (t:Tm),t.aeb<=n->t.aeb<=50000000->t.ok=true->tf n t=some t:=by
 intro n
 induction n with
 |zero=>intro t h;have:=t.cw;omega
 |succ n c=>
  intro t hn d a;cases t with
  |mk k i s l=>
   rw[Tm.bY] at hn d;have g:=Tm.dm l;have hi:=Tm.jz a;rw[Tm.ei,eg] at a;have e:=Ty.va a.1;rw[tf];simp only[Tm.cq,Tm.dQ,Tm.cQ,Tm.ck,cg]
   rw[jJ VW,bT,ch VW,b9,gZ id l 0 [] aaQ (λj x v b f=>by
    have:=cy Tm.aeb b
    rw[c x VW VW (hi.2.2.2.1 x b),bT,de (by simpa using f),b9,eP];rfl)]
   simp
def Fm.Rt:∀(f:Fm) (b:Int),f.B_ (λt _=>t) b=f:=by
 intro f
 induction f using Fm.ind with
 |h k s ts l a=>
  intro b;rw[Fm.xj,qf (g:=id) (λx c=>a x c _)];simp
def Ai{f:Fm}(h:f.err=0)(c:f.aef 1000000000000=true):iq f=some f:=by
 obtain⟨d,hn⟩:=Fm.d_ h;unfold iq;rw[mU (h:=λe g=>iS e g) (ψ:=λt _=>t) (λt b a _ _=>?_) FU f 0 (by rw[cP];omega) VW d c VW VW]
 ·rw[bW,Fm.Rt]
 ·have:=a.aeb;unfold iS;rw[y5 FU t (by rw[cP];omega) a.aeb a.ok];rfl
noncomputable def GK (L:List Fm) (q:Sq):Int:=if 32<L.length then 3 else if dq (L.map λf=>DG f [])≠0 then dq (L.map λf=>DG f [])else if uZ q.aed≠0 then uZ q.aed else if 16<q.aeg.length then 3 else dq (q.aeg.map λf=>DG f q.aed)
structure SqB (L:List Fm) (q:Sq):Prop where
 I_:∀f∈L,f.wt<=1000000000
 N4:∀t∈q.aed,t.aeb<=1000000000
 tyl:q.aed.length<=1000000
 aeg:∀f∈q.aeg,f.wt<=1000000000
def FR{e:Int}:(bU (some e) λa=>if(cF a 0) then some (.ret a)else some ((.next ()):dP Unit Int))=if e≠0 then some (.ret e)else some (.next ()):=by
 rw[bT]
 by_cases h:e=0
 ·subst h;rfl
 ·rw[bX (by rw[cf];exact h),bX h]
def OX{C:List Ty->Option Int}{T:List Ty->Fm->Option Int}{L:List Fm}{q:Sq}(o:C q.aed=some (uZ q.aed))(p:∀f∈L,T [] f=some (DG f []))(s:∀f∈q.aeg,T q.aed f=some (DG f q.aed)):(if(nG (cI L) 32) then some 3 else eB (cZ L)<|cB (λ(t:Int) (e:Fm)=>(λ(_:Unit)=>bU (T [] e) λa=>if(cF a 0) then some (.ret a)else some ((.next ()):dP Unit Int))) λg=>
   bU (cY g L 0 ()) (dR (λ(_:Unit)=>bU (C q.aed) λb=>if(cF b 0) then some b else if(nG (cI q.aeg) 16) then some 3 else eB (cZ q.aeg)<|cB (λ(u:Int) (i:Fm)=>(λ(_:Unit)=>bU (T q.aed i) λc=>if(cF c 0) then some (.ret c)else some ((.next ()):dP Unit Int))) λk=>
    bU (cY k q.aeg 0 ()) (dR (λ(_:Unit)=>some 0) (λr=>some r))) (λr=>some r)))=some (GK L q):=by
 unfold GK;rw[dI]
 by_cases m:32<L.length
 ·rw[bX (by rw[eE];omega),bX m]
 ·have v:¬nG (L.length:Int) 32=true:=by rw[eE];omega
  rw[bV v,bV m,ch VW,b9,cg];rw[kV (λf=>DG f []) L 0 (λj x l=>by rw[p x l];exact FR)]
  by_cases d:dq (L.map λf=>DG f [])=0
  ·rw[bX d,bV (show¬(dq (L.map λf=>DG f [])≠0)fromλh=>h d),bT,ca,o,bT]
   by_cases c3:uZ q.aed=0
   ·have z2:¬cF (uZ q.aed) 0=true:=by rw[cf];simpa using c3
    rw[bV z2,bV (show¬(uZ q.aed≠0)fromλh=>h c3),dI]
    by_cases n:16<q.aeg.length
    ·rw[bX (by rw[eE];omega),bX n]
    ·have z3:¬nG (q.aeg.length:Int) 16=true:=by rw[eE];omega
     rw[bV z3,bV n,ch VW,b9,cg];rw[kV (λf=>DG f q.aed) q.aeg 0 (λj x l=>by rw[s x l];exact FR)]
     by_cases c5:dq (q.aeg.map λf=>DG f q.aed)=0
     ·rw[bX c5,c5];rfl
     ·rw[bV c5];rfl
   ·have z2:cF (uZ q.aed) 0=true:=by rw[cf];exact c3
    rw[bX z2,bX c3]
  ·rw[bV d,bX d];rfl
def BV{L:List Fm}{q:Sq}(h:SqB L q):x4 L q=some (GK L q)/\rM L q=some (GK L q):=by
 have a:∀t∈([]:List Ty),t.aeb<=1000000000:=λt c=>by simp at c
 exact⟨OX (C:=py) (T:=pe) (vU q.aed h.tyl h.N4) (λx b=>v8 (h.I_ x b) aas a) (λx b=>v8 (h.aeg x b) h.tyl h.N4),OX (C:=kF) (T:=hW) (rE q.aed h.tyl h.N4) (λx b=>qG (h.I_ x b) aas a) (λx b=>qG (h.aeg x b) h.tyl h.N4)⟩
def yN:∀{l:List Int},(∀e∈l,e=0)->dq l=0
 |[],_=>rfl|a::l,h=>by
  rw[dq,bX (h a aas)];exact yN λe he=>h e (by simp[he])
def yY:∀{l:List Int},dq l=0->∀e∈l,e=0
 |[],_,e,he=>by simp at he
 |a::l,h,e,he=>by
  rw[dq] at h
  by_cases b:a=0
  ·rw[bX b] at h;rcases jW.1 he with rfl|he
   ·exact b
   ·exact yY h e he
  ·rw[bV b] at h;exact absurd h b
def QN{f:Fm}{g:List Ty}(h:DG f g=0):Hg g f:=by
 unfold DG at h
 by_cases b:uZ g=0
 ·rw[bV (λh=>h b)] at h
  by_cases a:f.err=0
  ·rw[bV (λh=>h a)] at h;exact⟨a,p6 f (Fm.d_ a).1 g (gd.of b).1 h⟩
  ·rw[bX a] at h;exact absurd h a
 ·rw[bX b] at h;exact absurd h b
structure AW (L:List Fm) (q:Sq):Prop where
 ln:L.length<=32
 I_:∀f∈L,Hg [] f
 ctx:gd q.aed
 nv:q.aed.length<=16
 nh:q.aeg.length<=16
 aeg:∀f∈q.aeg,Hg q.aed f
def Ql{L:List Fm}{q:Sq}(h:GK L q=0):AW L q:=by
 unfold GK at h
 by_cases d:32<L.length
 ·rw[bX d] at h;cases h
 ·rw[bV d] at h
  by_cases a:dq (L.map λf=>DG f [])=0
  ·rw[bV (λh=>h a)] at h
   by_cases b:uZ q.aed=0
   ·rw[bV (λh=>h b)] at h
    by_cases e:16<q.aeg.length
    ·rw[bX e] at h;cases h
    ·rw[bV e] at h;obtain⟨g,i⟩:=gd.of b;exact⟨VW,λf c=>QN (yY a _ (ll.2 ⟨f,c,rfl⟩)),g,i,VW,λf c=>QN (yY h _ (ll.2 ⟨f,c,rfl⟩))⟩
   ·rw[bX b] at h;exact absurd h b
  ·rw[bX a] at h;exact absurd h a
def AW.zero{L:List Fm}{q:Sq}(h:AW L q):GK L q=0:=by
 have c:∀{g:List Ty} {f:Fm},gd g->g.length<=16->Hg g f->DG f g=0:=λhg b a=>by
  unfold DG;rw[zo hg b,bV aaq,bV (λh=>h a.err)];exact qL a.ty hg (by have:=a.aeb;omega)
 have d:dq (L.map λf=>DG f [])=0:=yN λe he=>by
  obtain⟨f,a,rfl⟩:=ll.1 he;exact c (λ_ h=>by simp at h) aas (h.I_ f a)
 have i:dq (q.aeg.map λf=>DG f q.aed)=0:=yN λe he=>by
  obtain⟨f,a,rfl⟩:=ll.1 he;exact c h.ctx h.nv (h.aeg f a)
 unfold GK;have:=h.ln;have:=h.nh;rw[bV VW,d,bV aaq,zo h.ctx h.nv,bV aaq,bV VW,i]
def Gr{T:List cj}{N:Nat}(g:N<=1000000):∀(l:List Fm) (j:Nat) (k:List c0),k.length+l.length<=1000000->cY (λ(i:Int) (b:Fm)=>(Zk λ(c:Int) (v46:Int) (d:List cj) (e:List c0)=>
   bU (ef (cp.mk (fR.mk c v46) d e) b) λa=>
   some ((.next (a.eT.vars,a.eT.aeg,a.aed,a.known)):dP (Int×Int×(List cj)×(List c0)) (cp)))) l j ((N:Int),(k.length:Int),T,k)=some (.inl ((N:Int),((k.length+l.length:Nat):Int),T,k++l.map λf=>c0.mk f N))
 |[],j,k,_=>by simp|f::l,j,k,h=>by
  simp only[j0] at h;rw[cO];simp only[Zk];unfold ef;rw[de aaQ,b9,bT];simp only[bT,cU,eP];rw[cX VW VW];have:=Gr (T:=T) g l (j+1) (k++[c0.mk f N]) aaQ;rw[show(k.length:Int)+1=((k++[c0.mk f N]).length:Int) by simp];unfold ef at this;simp only[eP] at this;rw[this];simp;omega
def start_eq{L:List Fm}{q:Sq}(h:AW L q):∃p,wN q=some p/\PG L p (bZ.mk L q.aed q.aeg):=by
 have d:=h.nh;have a:=h.nv;refine⟨cp.mk (fR.mk (q.aed.length:Int) (q.aeg.length:Int)) (q.aed.map ra) (q.aeg.map λf=>c0.mk f q.aed.length),?_,⟨⟨rfl,rfl,rfl,h.ctx,a,d,aas,?_⟩,rfl,h.I_,h.aeg⟩⟩
 ·unfold wN;rw[ue h.ctx VW,bT,ch VW,b9,cg,dI];have:=Gr (T:=q.aed.map ra) (N:=q.aed.length) VW q.aeg 0 [] aaQ;rw[show(([]:List c0).length:Int)=0 from rfl] at this;rw[this,bT];simp[Zk]
 ·intro i x g b c;have b:(q.aeg.map λf=>c0.mk f q.aed.length)[i]?=some x:=b;have c:q.aeg[i]?=some g:=c;rw[sw,c] at b;obtain rfl:=fS b;have hg:=h.aeg g (Bh c);refine⟨hg.hy a,by show(0:Int)<=(q.aed.length:Int);omega,by show((q.aed.length:Nat):Int)<=(q.aed.length:Int);omega,?_⟩;show g=g.up 0 ((q.aed.length:Int)-(q.aed.length:Int));rw[Int.sub_self,Fm.pD]
def Pf.ON:∀(l:List Pf),(∀x∈l,x.xU<=x.aeb)->Pf.ur l<=cm Pf.aeb l
 |[],_=>by simp[Pf.ur]|a::l,b=>by
  have d:=b a aas;have e:=Pf.ON l (λx c=>b x (by simp[c]));simp only[Pf.ur,cm];omega
def Pf.Qn(p:Pf):p.xU<=p.aeb:=by
 induction p using Pf.ind with
 |h k i s ts fs l a=>
  rw[Pf.bY,Pf.xU];have:=Pf.ON l a;omega
noncomputable def MY (L:List Fm) (q:Sq) (P:Pf):PR:=jk (GK L q) (jk P.err (P.inf L q.aed q.aeg))
def AH{L:List Fm}{q:Sq}{P:Pf}(h:SqB L q)(j:P.wt<=1000000000):(∃e,e≠0/\MY L q P=.inr e/\wP L q P=some (⟨eI,[]⟩,e)/\kK L q P=some (⟨eI,[]⟩,e))\/∃(f:Fm) (m:Nat) (l:List Int),MY L q P=.inl (f,m)/\wP L q P=some (⟨f,l⟩,0)/\kK L q P=some (⟨f,l⟩,0)/\Us l m/\Hg q.aed f/\AW L q/\P.err=0:=by
 unfold wP kK MY;rw[(BV h).1,(BV h).2,bT,bT]
 by_cases b:GK L q=0
 ·have d:=Ql b;rw[b,bV nz,bV nz,eU rfl,qg j,FW j,bT,bT]
  by_cases c:P.err=0
  ·obtain⟨hw,hn⟩:=Pf.aaj c;obtain⟨p,k,n⟩:=start_eq d;have o:=P.Qn;rw[c,bV nz,bV nz,eU rfl,show B1=some ()from rfl,bT,k,bT];rcases R6 hw FU FU (by rw[cP];omega) (by rw[cP];omega) p _ n with⟨e,he,q1,g,i⟩|⟨f,m,l,q1,g,i,hu,a⟩
   ·rw[g,i,bW,bW,bX (by rw[cf];exact he),bX (by rw[cf];exact he)];exact .inl ⟨e,he,q1,rfl,rfl⟩
   ·have a:Hg q.aed f:=a;have r:=hu.len;have s:=f.er a.ok;have t:=a.aeb;rw[g,i,bW,bW,bV nz,bV nz];simp only[];rw[Ai a.err (a.aef d.nv VW),bT,PX hu,bT,nZ VW,bT,de aaQ,b9,eP,m6];exact .inr ⟨f,m,l,q1,rfl,rfl,hu,a,d,by trivial⟩
  ·rw[bX (by rw[cf];exact c),bX (by rw[cf];exact c),gG c];exact .inl ⟨_,c,rfl,rfl,rfl⟩
 ·rw[bX (by rw[cf];exact b),bX (by rw[cf];exact b),gG b];exact .inl ⟨_,b,rfl,rfl,rfl⟩
def AW.below{L:List Fm}{q:Sq}(h:AW L q){l:List Ty}(b:gd l)(hn:q.aed.length+l.length<=16):AW L ⟨q.aed++l,q.aeg.map (Fm.up 0 l.length)⟩:=by
 refine⟨h.ln,h.I_,h.ctx.append b,by simpa using hn,by simpa using h.nh,λf c=>?_⟩;obtain⟨f0,a,rfl⟩:=ll.1 c;exact(h.aeg f0 a).up l
def AW.with{L:List Fm}{q:Sq}(h:AW L q){f:Fm}(a:Hg q.aed f)(hn:q.aeg.length+1<=16):AW L ⟨q.aed,q.aeg++[f]⟩:=by
 refine⟨h.ln,h.I_,h.ctx,h.nv,by simpa using hn,λx hx=>?_⟩;rcases qO.1 hx with hx|hx
 ·exact h.aeg x hx
 ·rw[AL.1 hx];exact a
def Hg.wt{g:List Ty}{f:Fm}(h:Hg g f):f.wt<=266240:=by
 have:=f.er h.ok;have:=h.aeb;omega
def AW.b{L:List Fm}{q:Sq}(h:AW L q):SqB L q:=by
 refine⟨λf a=>by have:=(h.I_ f a).wt;omega,λt c=>by have:=dd (h.ctx t c);omega,by have:=h.nv;omega,λf a=>by have:=(h.aeg f a).wt;omega⟩
def pb:Nat->Nat
 |0=>10000|k+1=>3*pb k+1000000
def cJ.lift{g:List Ty}{x:Tm}{t:Ty}(h:cJ g x t)(e:List Ty):cJ (g++e) (x.up 0 e.length) t:=by
 have:=h.up g [] e aas
 grind
def Fm.rK{f:Fm}(h:f.ok=true)(hn:f.aeb<=4096):f.err=0:=by
 unfold Fm.err;rw[bX h,bV VW]
theorem fV{P:Pf}(h:P.err=0):P.ok=true/\P.small=true/\P.aeb<=16384:=by
 unfold Pf.err at h;cases b:P.ok with
 |false=>rw[b] at h;cases h
 |true=>
  rw[b,bX rfl] at h
  by_cases a:P.small=true/\P.aeb<=16384
  ·exact⟨rfl,a.1,a.2⟩
  ·rw[bV a] at h;cases h
def Ey{L:List Fm}{q:Sq}(h:AW L q){P:Pf}(a:P.err=0):MY L q P=P.inf L q.aed q.aeg:=by
 unfold MY;rw[eU h.zero,eU a]
def JY{f:Fm}{m:Nat}(h:f.err=0):yr (.inl (f,m))=.inl (f,if f.has then m else 0):=by
 unfold yr;rw[dS,bX h]
theorem OE{f:Fm}{m:Nat}(h:f.err≠0):yr (.inl (f,m))=.inr 4:=by
 unfold yr;rw[dS,bV h]
@[simp] theorem ZL(e:Int):yr (.inr e)=.inr e:=rfl
noncomputable def su (a b:Tm):Int:=@ite Int (a=b) (Classical.propDecidable _) 0 (if(a.norm 1000 0).2.2≠0 then(a.norm 1000 0).2.2 else if(b.norm 1000 0).2.2≠0 then(b.norm 1000 0).2.2 else@ite Int ((a.norm 1000 0).1=(b.norm 1000 0).1) (Classical.propDecidable _) 0 11)
def HT(a:Tm):su a a=0:=bX rfl
def OH{a b:Tm}(h:a≠b):su a b=if(a.norm 1000 0).2.2≠0 then(a.norm 1000 0).2.2 else if(b.norm 1000 0).2.2≠0 then(b.norm 1000 0).2.2 else@ite Int ((a.norm 1000 0).1=(b.norm 1000 0).1) (Classical.propDecidable _) 0 11:=bV h
def Nm.Tx{a:Tm}(h:Nm a)(b:(a.norm 1000 0).2.2=0):(a.norm 1000 0).1.ok=true/\(a.norm 1000 0).1.aeb<=4096:=by
 obtain⟨p,n,e,c⟩:∃p n e,a.norm 1000 0=(p,n,e):=⟨_,_,_,rfl⟩;rw[c] at b|-;have b:e=0:=b;subst b;have:=EG 1000 536870912 0 a p n VW (Sm.start h.err h.aef) (nr h.err).2 c;exact⟨this.1.ok,this.2⟩
def En{a b:Tm}(f:Nm a)(g:Nm b):lJ a b 1000=some (su a b):=by
 have v:=a.er (nr f.err).1;have w:=b.er (nr g.err).1;have x:=(nr f.err).2;have y:=(nr g.err).2;unfold lJ;rw[n_ VW,f.err,bT,bV nz,n_ VW,g.err,bT,bV nz];obtain⟨r,s,l⟩:=u6 (a:=a) (b:=b) VW;rw[s,bT]
 by_cases c:a=b
 ·rw[bX (l.2 c),c,HT]
 ·rw[bV (λh=>c (l.1 h)),OH c,f.both.1,g.both.1];obtain⟨p,n,e,t⟩:∃p n e,a.norm 1000 0=(p,n,e):=⟨_,_,_,rfl⟩;obtain⟨m,n',u,k⟩:∃p n e,b.norm 1000 0=(p,n,e):=⟨_,_,_,rfl⟩;have i:=f.Tx;rw[t] at i|-;rw[k,na];simp only[] at i|-
  by_cases he:e=0
  ·subst he;rw[bV nz,bV aaq,na]
   by_cases d:u=0
   ·subst d;rw[bV nz,bV aaq];have z:=p.er (i rfl).1;have A:=(i rfl).2;obtain⟨q,q1,o⟩:=u6 (a:=p) (b:=m) VW;rw[q1,bT]
    by_cases j:p=m
    ·rw[bX (o.2 j),bX j]
    ·rw[bV (λh=>j (o.1 h)),bV j]
   ·rw[bX (by rw[cf];exact d),bX d]
  ·rw[bX (by rw[cf];exact he),bX he]
mutual
noncomputable def Fm.B8:Fm->Fm->Int
 |.mk k s ts l,b=>if k≠b.ad'\/s.jc b.b8=false then 11 else if dq (List.zipWith su ts b.cx)≠0 then dq (List.zipWith su ts b.cx)else dq (Fm.Qm l b.aea)
noncomputable def Fm.Qm:List Fm->List Fm->List Int
 |a::l,b::m=>a.B8 b::Fm.Qm l m|_,_=>[]
end
def Fm.OJ:∀(l m:List Fm),Fm.Qm l m=List.zipWith Fm.B8 l m
 |[],m=>by rw[Fm.Qm];rfl;intros;simp_all|a::l,[]=>by rw[Fm.Qm];rfl;intros;simp_all|a::l,b::m=>by rw[Fm.Qm,Fm.OJ l m];rfl
def Fm.Jb(k k':Int)(s b:Ty)(ts a:List Tm)(l c:List Fm):(Fm.mk k s ts l).B8 (.mk k' b a c)=if k≠k'\/s.jc b=false then 11 else if dq (List.zipWith su ts a)≠0 then dq (List.zipWith su ts a)else dq (List.zipWith Fm.B8 l c):=by rw[Fm.B8,Fm.OJ];rfl
def FT{α:Type}{E:α->α->Option Int}{e:α->α->Int}{M:List α}:∀(l:List α) (i:Nat),l.length+i=M.length->(∀x∈l,∀y∈M,E x y=some (e x y))->cY (λ(d:Int) (f:α)=>(λ(_:Unit)=>bU (cr M d) λb=>bU (E f b) λa=>if(cF a 0) then(some (.ret a))else(some ((.next ()):dP Unit Int)))) l i ()=some (if dq (List.zipWith e l (M.drop i))=0 then .inl ()else .inr (dq (List.zipWith e l (M.drop i))))
 |[],i,_,_=>by simp[dq]|x::l,i,k,h=>by
  simp only[j0] at k
  have hi:i<M.length:=VW
  have m:=FT (E:=E) (e:=e) (M:=M) l (i+1) VW (λy hy=>h y (by simp[hy]));have n:M.drop i=M[i]::M.drop (i+1):=(Ma hi)
  have o:List.zipWith e (x::l) (M.drop i)=e x M[i]::List.zipWith e l (M.drop (i+1)):=by rw[n];rfl
  rw[o,cO,gQ,mi hi,bT,h x aas _ (BB hi),bT]
  by_cases c:e x M[i]=0
  ·have g:¬cF (e x M[i]) 0=true:=by rw[cf];simpa using c
   have j:dq (e x M[i]::List.zipWith e l (M.drop (i+1)))=dq (List.zipWith e l (M.drop (i+1))):=by rw[dq,bX c]
   rw[bV g,bT,cU,j];exact m
  ·have g:cF (e x M[i]) 0=true:=by rw[cf];exact c
   have j:dq (e x M[i]::List.zipWith e l (M.drop (i+1)))=e x M[i]:=by rw[dq,bV c]
   rw[bX g,bT,Gi,j,bV c]
def CP:∀(n:Nat) (a b:Fm),a.aeb<=n->a.aeb<=4096->b.aeb<=4096->a.ok=true->b.ok=true->P7 a->P7 b->jE n a b=some (a.B8 b):=by
 intro n
 induction n with
 |zero=>intro a b h;have:=a.cw;omega
 |succ n S=>
  intro a b hn z A O P T U;cases a with
  |mk k s ts l=>
  cases b with
  |mk k' t c B=>
   cases T with
   |mk C D=>
   cases U with
   |mk F H=>
   rw[Fm.bY] at hn z A;obtain⟨a1,a2,a3⟩:=Fm.m_ O;obtain⟨W,X,V⟩:=Fm.m_ P;have Y:=Tm.dm ts;have Z:=Fm.dm l;rw[jE,Fm.Jb];refine rf (G:=λo=>o=some (if k≠k'\/s.jc t=false then 11 else if dq (List.zipWith su ts c)≠0 then dq (List.zipWith su ts c)else dq (List.zipWith Fm.B8 l B))) (λv=>v=true↔(k≠k'\/s.jc t=false)) (λv Q=>?_) (λj R=>?_)
   ·by_cases g:k≠k'\/s.jc t=false
    ·rw[bX (Q.2 g),bX g]
    ·rw[bV (λh=>g (Q.1 h)),bV g];have I:k=k':=aad λh=>g (.inl h);subst I;obtain⟨e1,e2⟩:=Fm.shape O P;show(eB (cZ ts) _:Option Int)=_;rw[ch VW,b9,cg];show bU (cY (λ(J:Int) (K:Tm)=>(λ(_:Unit)=>bU (cr c J) λi=>bU (lJ K i 1000) λd=>if(cF d 0) then(some (.ret d))else(some ((.next ()):dP Unit Int)))) ts 0 ()) _=_;rw[FT (E:=λx y=>lJ x y 1000) (e:=su) ts 0 VW (λx m y hy=>En (C x m) (F y hy)),Rw]
     by_cases u:dq (List.zipWith su ts c)=0
     ·rw[bX u,bT,ca,bV (λh=>h u)];show(eB (cZ l) _:Option Int)=_;rw[ch VW,b9,cg];show bU (cY (λ(p:Int) (q:Fm)=>(λ(_:Unit)=>bU (cr B p) λr=>bU (jE n q r) λf=>if(cF f 0) then(some (.ret f))else(some ((.next ()):dP Unit Int)))) l 0 ()) _=_
      rw[FT (E:=λx y=>jE n x y) (e:=Fm.B8) l 0 VW (λx m y hy=>by
       have m1:=cy Fm.aeb m;have m2:=cy Fm.aeb hy
       exact S x y VW VW VW (a3 x m) (V y hy) (D x m) (H y hy)),Rw]
      by_cases L:dq (List.zipWith Fm.B8 l B)=0
      ·rw[bX L,L];rfl
      ·rw[bV L];rfl
     ·rw[bV u,bX u];rfl
   ·show(if(cF k k') then j true else bU (fo FU s t) λM=>j (nT M))=_
    by_cases w:k=k'
    ·have N:¬cF k k'=true:=by rw[cf];simpa using w
     rw[bV N,om VW,bT];exact R _ (by rw[Oq];simp[w])
    ·have N:cF k k'=true:=by rw[cf];exact w
     rw[bX N];exact R _ (by simp[w])
def Hg.nmF{g:List Ty}{f:Fm}(h:Hg g f)(hg:g.length<=1000000):P7 f:=P7.of f h.aeb h.ok (h.ty.aef _ (by have:=h.aeb;omega))
theorem FH{g f:List Ty}{a b:Fm}(c:Hg g a)(d:Hg f b)(h:g.length<=1000000)(i:f.length<=1000000):vF a b=a.B8 b:=by
 have j:=c.wt;have k:=d.wt
 have e:jF a b=some (a.B8 b):=by
  unfold jF;rw[fh VW,c.err,bT,bV nz,fh VW,d.err,bT,bV nz,CP FU a b (by rw[cP];have:=c.aeb;omega) c.aeb d.aeb c.ok d.ok (c.nmF h) (d.nmF i)];rfl
 unfold vF;rw[e];rfl
def Gn(a b:Tm):Prop:=a.ok=true/\b.ok=true/\∃c,oL a c/\oL b c
def Gn.refl{a:Tm}(h:a.ok=true):Gn a a:=⟨h,h,a,.refl a,.refl a⟩
def Gn.symm{a b:Tm}(h:Gn a b):Gn b a:=⟨h.2.1,h.1,let⟨c,p,q⟩:=h.2.2;⟨c,q,p⟩⟩
def Gn.trans{a b c:Tm}(h:Gn a b)(d:Gn b c):Gn a c:=by
 obtain⟨e,f,x,g,i⟩:=h;obtain⟨_,j,y,k,l⟩:=d;obtain⟨w,m,n⟩:=i.meet y f k;exact⟨e,j,w,g.trans m,l.trans n⟩
def Gn.star{a b:Tm}(c:a.ok=true)(h:oL a b):Gn a b:=⟨c,h.ok c,b,h,.refl b⟩
def oL.D6{t u:Tm}(h:oL t u){x:Tm}(a:x.ok=true):t.ok=true->∀n:Int,0<=n->oL (Tm.eG n t x) (Tm.eG n u x):=by
 induction h with
 |refl t=>intro _ n _;exact .refl _|step b _ d=>intro c n hn;exact .step (b.eG (kh.refl x a) a c n hn) (d (b.ok c) n hn)
def oL.Z'{x y:Tm}(h:oL x y){t:Tm}(a:t.ok=true):x.ok=true->∀n:Int,0<=n->oL (Tm.eG n t x) (Tm.eG n t y):=by
 induction h with
 |refl t=>intro _ n _;exact .refl _|step b _ d=>intro c n hn;exact .step ((kh.refl t a).eG b c a n hn) (d (b.ok c) n hn)
theorem Gn.eG{a b x y:Tm}(h:Gn a b)(k:Gn x y){n:Int}(hn:0<=n):Gn (Tm.eG n a x) (Tm.eG n b y):=by
 obtain⟨e,f,c,i,j⟩:=h;obtain⟨g,hy,d,d1,d2⟩:=k;refine⟨Tm.yp x g a n hn e,Tm.yp y hy b n hn f,Tm.eG n c d,?_,?_⟩
 ·exact(i.D6 g e n hn).trans (d1.Z' (i.ok e) g n hn)
 ·exact(j.D6 hy f n hn).trans (d2.Z' (j.ok f) hy n hn)
def sn(e:Int):Prop:=e=3\/e=4\/e=5
def O3{a p:Tm}{n:Int}(h:a.norm 1000 0=(p,n,0))(b:a.ok=true):p.nf=true/\oL a p:=⟨(O1 1000 0 a p n h).1,Ia 1000 0 a p n b h⟩
def OU{a b:Tm}(h:Gn a b):su a b=0\/sn (su a b):=by
 by_cases g:a=b
 ·rw[g,HT];exact .inl rfl
 ·rw[OH g];obtain⟨j,m,c,o,r⟩:=h;have s:=BZ 1000 0 a;have t:=BZ 1000 0 b
  by_cases d:(a.norm 1000 0).2.2=0
  ·rw[bV (λh=>h d)]
   by_cases f:(b.norm 1000 0).2.2=0
   ·rw[bV (λh=>h f)];obtain⟨p,n,e,q⟩:∃p n e,a.norm 1000 0=(p,n,e):=⟨_,_,_,rfl⟩;obtain⟨y,n',u,i⟩:∃p n e,b.norm 1000 0=(p,n,e):=⟨_,_,_,rfl⟩;rw[q] at d|-;rw[i] at f|-;have d:e=0:=d;have f:u=0:=f;subst d;subst f;obtain⟨n1,s1⟩:=O3 q j;obtain⟨n2,s2⟩:=O3 i m;obtain⟨w,v,x⟩:=s1.meet c j o;obtain⟨w',k,l⟩:=s2.meet c m r;have:=v.nf n1;subst this;have:=k.nf n2;subst this;have:w=w':=oL.unique (o.ok j) x l n1 n2;rw[bX this];exact .inl rfl
   ·rw[bX f];rcases t with h|h|h
    ·exact absurd h f
    ·exact .inr (.inr (.inl h))
    ·exact .inr (.inr (.inr h))
  ·rw[bX d];rcases s with h|h|h
   ·exact absurd h d
   ·exact .inr (.inr (.inl h))
   ·exact .inr (.inr (.inr h))
inductive wz:Fm->Fm->Prop
 |eq {a a' b b'}:Gn a a'->Gn b b'->wz (.mk 1 .z [a,b] []) (.mk 1 .z [a',b'] [])|two {k a a' b b'}:wz a a'->wz b b'->wz (.mk k .z [] [a,b]) (.mk k .z [] [a',b'])|q {k s a a'}:wz a a'->wz (.mk k s [] [a]) (.mk k s [] [a'])
def wz.refl{g:List Ty}{f:Fm}(h:fg g f):wz f f:=by
 induction h with
 |eq c d=>exact .eq (.refl c.ok) (.refl d.ok)|two _ _ _ a b=>exact .two a b|q _ _ _ e=>exact .q e
def wz.symm{a b:Fm}(h:wz a b):wz b a:=by
 induction h with
 |eq e f=>exact .eq e.symm f.symm|two _ _ c d=>exact .two c d|q _ g=>exact .q g
def wz.trans{a b:Fm}(h:wz a b):∀{c:Fm},wz b c->wz a c:=by
 induction h with
 |eq i j=>intro c h;cases h with|eq d e=>exact .eq (i.trans d) (j.trans e)
 |two _ _ f g=>intro c h;cases h with|two d e=>exact .two (f d) (g e)
 |q _ k=>intro c h;cases h with|q d=>exact .q (k d)
theorem wz.eG{a b:Fm}(h:wz a b){x y:Tm}(c:Gn x y):∀{n:Int},0<=n->wz (Fm.eG n a x) (Fm.eG n b y):=by
 induction h with
 |eq f g=>intro n hn;rw[Fm.ey,Fm.ey];exact .eq (f.eG c hn) (g.eG c hn)|@two k _ _ _ _ _ _ d e=>intro n hn;have:=vV k;rw[Fm.ey,Fm.ey];exact .two (d VW) (e VW)
 |@q k _ _ _ _ i=>intro n hn;have:=vV k;rw[Fm.ey,Fm.ey];exact .q (i VW)
def wW:∀{l:List Int},(∀e∈l,e=0\/sn e)->dq l=0\/sn (dq l)
 |[],_=>.inl rfl|e::l,h=>by
  rw[dq]
  by_cases he:e=0
  ·rw[bX he];exact wW λx a=>h x (by simp[a])
  ·rw[bV he];exact .inr ((h e aas).resolve_left he)
def wz.B8{a b:Fm}(h:wz a b):a.B8 b=0\/sn (a.B8 b):=by
 have hs:∀(k:Int) (s:Ty),¬(k≠k\/s.jc s=false):=λk s h=>by
  rcases h with h|h
  ·exact h rfl
  ·rw[(Ty.ja s s).2 rfl] at h;cases h
 induction h with
 |@eq a c b d m n=>
  rw[Fm.Jb,bV (hs _ _)]
  have f:=wW (l:=[su a c,su b d]) (λe he=>by
   simp only[jW,uo,qZ] at he;rcases he with rfl|rfl
   ·exact OU m
   ·exact OU n)
  show(if dq [su a c,su b d]≠0 then dq [su a c,su b d] else dq [])=0\/_
  by_cases g:dq [su a c,su b d]=0
  ·rw[bV (λh=>h g)];exact .inl rfl
  ·show _\/sn (if dq [su a c,su b d]≠0 then dq [su a c,su b d] else dq []);rw[bX g];exact .inr (f.resolve_left g)
 |@two k a c b d _ _ i j=>
  have f:=wW (l:=[a.B8 c,b.B8 d]) (λe he=>by
   simp only[jW,uo,qZ] at he;rcases he with rfl|rfl
   ·exact i
   ·exact j)
  rw[Fm.Jb,bV (hs _ _)];exact f
 |@q k s a c _ o=>
  have f:=wW (l:=[a.B8 c]) (λe he=>by
   simp only[jW,uo,qZ] at he
   rw[he];exact o)
  rw[Fm.Jb,bV (hs _ _)];exact f
def fin(f:Fm)(m:Nat):Nat:=if f.has then m else 0
def iB{r:PR}{f:Fm}{m:Nat}(h:yr r=.inl (f,m)):∃a,r=.inl (f,a)/\f.err=0/\m=fin f a:=by
 cases r with
 |inr e=>cases h
 |inl p=>
  obtain⟨f0,a⟩:=p
  by_cases b:f0.err=0
  ·rw[JY b] at h;obtain⟨rfl,rfl⟩:=fI (wx h);exact⟨a,rfl,b,rfl⟩
  ·grind[OE]
def fG{r:PR}{k:Fm->Nat->PR}{p:Fm×Nat}(h:pbind r k=.inl p):∃f m,r=.inl (f,m)/\k f m=.inl p:=by
 cases r with
 |inr e=>cases h
 |inl q=>exact⟨q.1,q.2,rfl,h⟩
theorem jr{e:Int}{r:PR}{p:Fm×Nat}(h:jk e r=.inl p):e=0/\r=.inl p:=by grind[eU,gG]
def lP{c:Prop}[Decidable c]{e:Int}{r:PR}{p:Fm×Nat}(h:uk c e r=.inl p):¬c/\r=.inl p:=by grind[iP,jn]
def uO{r:PR}{k:Int}{f:Fm}{m:Nat}(h:Ca r k=.inl (f,m)):r=.inl (f,m)/\f.ad'=k:=by
 obtain⟨f0,a,rfl,b⟩:=fG h
 grind
theorem vu{F:Fm}{t:Tm}(h:(k4 F t).2=0):k4 F t=(Fm.eG 0 F t,0)/\(Fm.eG 0 F t).aeb<=4096:=by grind[kZ]
def y8{r:PR}{F:Fm}{t:Tm}{f:Fm}{m:Nat}(h:B9 r F t=.inl (f,m)):r=.inl (f,m)/\(Fm.eG 0 F t).aeb<=4096/\vF (Fm.eG 0 F t) f=0:=by
 obtain⟨f0,a,rfl,b⟩:=fG h
 grind[jr,vu]
inductive Dv (L:List Fm):List Ty->List Fm->Pf->Fm->Nat->Prop
 |hyp {g hs i f}:0<=i->i<(hs.length:Int)->hs[hs.length-1-i.toNat]?=some f->Hg g f->Dv L g hs (.mk 1 i .z [] [] []) f 0|I_ {g hs i f}:0<=i->L[i.toNat]?=some f->Hg [] f->Dv L g hs (.mk 2 i .z [] [] []) f 0|Lc {g hs a b x y m n}:Dv L g hs a x m->Dv L g hs b y n->Hg g (.mk 2 .z [] [x,y])->Dv L g hs (.mk 3 0 .z [] [] [a,b]) (.mk 2 .z [] [x,y]) (fin (.mk 2 .z [] [x,y]) (m|||n))|ac3 {g hs a x y m}:Dv L g hs a (.mk 2 .z [] [x,y]) m->Hg g x->Dv L g hs (.mk 4 0 .z [] [] [a]) x (fin x m)|ab9 {g hs a x y m}:Dv L g hs a (.mk 2 .z [] [x,y]) m->Hg g y->Dv L g hs (.mk 5 0 .z [] [] [a]) y (fin y m)|qV {g hs F a y m}:Hg g F->hs.length+1<=16->Dv L g (hs++[F]) a y m->Hg g (.mk 3 .z [] [F,y])->Dv L g hs (.mk 6 0 .z [] [F] [a]) (.mk 3 .z [] [F,y]) (fin (.mk 3 .z [] [F,y]) m)|sh {g hs a b x y f m n}:Dv L g hs a (.mk 3 .z [] [x,y]) m->Dv L g hs b f n->Hg g x->Hg g f->x.B8 f=0->Hg g y->Dv L g hs (.mk 7 0 .z [] [] [a,b]) y (fin y (m|||n))|all {g hs k k' s a f m}:(k=8/\k'=4\/k=12/\k'=6/\m.testBit 0=false)->s.err=0->g.length+1<=16->Dv L (g++[s]) (hs.map (Fm.up 0 1)) a f m->Hg g (.mk k' s [] [f])->Dv L g hs (.mk k 0 s [] [] [a]) (.mk k' s [] [f]) (fin (.mk k' s [] [f]) (m/2))|W4 {g hs k k' t s a x m u}:(k=9/\k'=4/\u=m|||pX t\/k=13/\k'=6/\u=m)->cJ g t s->t.err=0->Dv L g hs a (.mk k' s [] [x]) m->Hg (g++[s]) x->(Fm.eG 0 x t).aeb<=4096->Dv L g hs (.mk k 0 .z [t] [] [a]) (Fm.eG 0 x t) (fin (Fm.eG 0 x t) u)|ex {g hs k k' t s a x f m u}:(k=10/\k'=5/\u=m|||pX t\/k=14/\k'=7/\u=m)->Hg g (.mk k' s [] [x])->cJ g t s->t.err=0->Hg (g++[s]) x->Dv L g hs a f m->Hg g f->(Fm.eG 0 x t).aeb<=4096->(Fm.eG 0 x t).B8 f=0->Dv L g hs (.mk k 0 .z [t] [.mk k' s [] [x]] [a]) (.mk k' s [] [x]) (fin (.mk k' s [] [x]) u)|XQ {g hs k k' s a b x f m n}:(k=11/\k'=5\/k=15/\k'=7/\n.testBit 0=false)->Dv L g hs a (.mk k' s [] [x]) m->s.err=0->g.length+1<=16->hs.length+1<=16->Hg (g++[s]) x->Dv L (g++[s]) (hs.map (Fm.up 0 1)++[x]) b f n->Hg (g++[s]) f->(Bc f).2=0->Hg g (Bc f).1->Dv L g hs (.mk k 0 .z [] [] [a,b]) (Bc f).1 (fin (Bc f).1 (m|||n/2))|ind {g hs t F a b x y m n}:Hg (g++[.nat]) F->cJ g t .nat->t.err=0->Dv L g hs a x m->Hg g x->(Fm.eG 0 F gv).aeb<=4096->(Fm.eG 0 F gv).B8 x=0->g.length+1<=16->hs.length+1<=16->Dv L (g++[.nat]) (hs.map (Fm.up 0 1)++[F]) b y n->Hg (g++[.nat]) y->(Fm.eG 0 (F.up 1 1) (nE v0)).aeb<=4096->(Fm.eG 0 (F.up 1 1) (nE v0)).B8 y=0->(Fm.eG 0 F t).aeb<=4096->Dv L g hs (.mk 16 0 .z [t] [F] [a,b]) (Fm.eG 0 F t) (fin (Fm.eG 0 F t) ((pX t|||m)|||n/2))|lists {g hs t F a b x y m n}:Hg (g++[.lV]) F->cJ g t .lV->t.err=0->Dv L g hs a x m->Hg g x->(Fm.eG 0 F (.mk 7 0 .z [])).aeb<=4096->(Fm.eG 0 F (.mk 7 0 .z [])).B8 x=0->g.length+2<=16->hs.length+1<=16->Dv L (g++[.nat]++[.lV]) (hs.map (Fm.up 0 2)++[F.up 1 1]) b y n->Hg (g++[.nat]++[.lV]) y->(Fm.eG 0 (F.up 1 2) (.mk 8 0 .z [v1,v0])).aeb<=4096->(Fm.eG 0 (F.up 1 2) (.mk 8 0 .z [v1,v0])).B8 y=0->(Fm.eG 0 F t).aeb<=4096->Dv L g hs (.mk 17 0 .z [t] [F] [a,b]) (Fm.eG 0 F t) (fin (Fm.eG 0 F t) ((pX t|||m)|||n/4))|refl {g hs t}:cJ g t .nat->t.err=0->Hg g (.mk 1 .z [t,t] [])->Dv L g hs (.mk 18 0 .z [t] [] []) (.mk 1 .z [t,t] []) 0|subst {g hs F a b t u f m n}:Hg (g++[.nat]) F->Dv L g hs a (.mk 1 .z [t,u] []) m->cJ g t .nat->cJ g u .nat->t.err=0->u.err=0->Dv L g hs b f n->Hg g f->(Fm.eG 0 F t).aeb<=4096->(Fm.eG 0 F t).B8 f=0->(Fm.eG 0 F u).aeb<=4096->Dv L g hs (.mk 19 0 .z [] [F] [a,b]) (Fm.eG 0 F u) (fin (Fm.eG 0 F u) n)|choice {g hs a s u y m}:Dv L g hs a (.mk 4 s [] [.mk 5 u [] [y]]) m->s.err=0->u.err=0->Hg (g++[s]++[u]) y->(Ty.fn s u).err=0->(Fm.eG 0 (y.up 2 1) (qW v1 v0)).aeb<=4096->Hg g (.mk 5 (.fn s u) [] [.mk 4 s [] [Fm.eG 0 (y.up 2 1) (qW v1 v0)]])->Dv L g hs (.mk 20 0 .z [] [] [a]) (.mk 5 (.fn s u) [] [.mk 4 s [] [Fm.eG 0 (y.up 2 1) (qW v1 v0)]]) (fin (.mk 5 (.fn s u) [] [.mk 4 s [] [Fm.eG 0 (y.up 2 1) (qW v1 v0)]]) m)
def FK(f:Fm):fin f 0=0:=by grind[fin]
def Az{g c:List Ty}{a b:Fm}(d:Hg g a)(e:Hg c b)(f:g.length<=1000000)(i:c.length<=1000000)(h:vF a b=0):a.B8 b=0:=by grind[FH]
def ss{g:List Ty}{s:Ty}{F:Fm}{t:Tm}(hF:fg (g++[s]) F)(a:cJ g t s)(hn:(Fm.eG 0 F t).aeb<=4096):Hg g (Fm.eG 0 F t):=⟨Fm.rK (hF.put a).ok hn,hF.put a⟩
def Hg.XF{g:List Ty}{F:Fm}(h:Hg (g++[.nat]) F):Hg (g++[.nat]++[.nat]) (F.up 1 1):=⟨Ac h.err VW VW,by have:=h.ty.up g [.nat] [.nat] rfl;simpa using this⟩
def Hg.Ww{g:List Ty}{F:Fm}(h:Hg (g++[.lV]) F):Hg (g++[.nat]++[.lV]++[.lV]) (F.up 1 2):=⟨Ac h.err VW VW,by have:=h.ty.up g [.lV] [.nat,.lV] rfl;simpa using this⟩
def Hg.upl{g:List Ty}{F:Fm}(h:Hg (g++[.lV]) F):Hg (g++[.nat]++[.lV]) (F.up 1 1):=⟨Ac h.err VW VW,by have:=h.ty.up g [.lV] [.nat] rfl;simpa using this⟩
def AW.Ch{L:List Fm}{g:List Ty}{hs:List Fm}(h:AW L ⟨g,hs⟩){s:Ty}(a:s.err=0)(hn:g.length+1<=16):AW L ⟨g++[s],hs.map (Fm.up 0 1)⟩:=h.below (l:=[s]) (λx b=>by rw[AL.1 b];exact a) hn
def AW.Xi{L:List Fm}{g:List Ty}{hs:List Fm}(h:AW L ⟨g,hs⟩)(hn:g.length+2<=16):AW L ⟨g++[.nat]++[.lV],hs.map (Fm.up 0 2)⟩:=by
 have:=h.below (l:=[.nat,.lV]) (λx hx=>by
  rcases jW.1 hx with rfl|hx
  ·exact Ty.fC
  ·rw[AL.1 hx];exact Ty.nF) hn
 grind
def yL{F:Fm}(hF:F.err=0){g:List Ty}(a:gd g)(h:F.ti g=0):Hg g F:=⟨hF,p6 F (Fm.d_ hF).1 g a h⟩
def Dv.of{L:List Fm}{P:Pf}(hP:yX P):∀(g:List Ty) (hs:List Fm) (f:Fm) (m:Nat),AW L ⟨g,hs⟩->P.inf L g hs=.inl (f,m)->Dv L g hs P f m/\Hg g f:=by
 induction hP with
 |@hyp i hi=>
  intro g hs f m d h;have D:gd g:=d.ctx;rw[Pf.iy,Re] at h;obtain⟨J,o,he,c⟩:=iB h;rw[c];clear h c;have h:=o;clear o;obtain⟨j,E⟩:=lP h;obtain⟨T,rfl⟩:=fI (wx E)
  have N:hs.length-1-i.toNat<hs.length:=VW
  rw[P_,mi N] at T;have T:hs[hs.length-1-i.toNat]=f:=T;have A:Hg g f:=d.aeg f (by rw[<-T];exact BB N);rw[FK];exact⟨.hyp hi VW (by rw[mi N,T]) A,A⟩
 |@I_ i hi=>
  intro g hs f m d h;have D:gd g:=d.ctx;rw[Pf.iy,Vh] at h;obtain⟨J,o,he,c⟩:=iB h;rw[c];clear h c;have h:=o;clear o;obtain⟨j,E⟩:=lP h;obtain⟨T,rfl⟩:=fI (wx E)
  have N:i.toNat<L.length:=VW
  rw[P_,mi N] at T;have T:L[i.toNat]=f:=T;have A:Hg [] f:=d.I_ f (by rw[<-T];exact BB N);rw[FK];exact⟨.I_ hi (by rw[mi N,T]) A,he,by simpa using A.ty.front g⟩
 |@Lc a b _ _ l G=>
  intro g hs f m d h;have D:gd g:=d.ctx;rw[Pf.iy,Np] at h;obtain⟨J,o,he,c⟩:=iB h;rw[c];clear h c;have h:=o;clear o;obtain⟨x,n1,j,h⟩:=fG h;obtain⟨y,n2,E,h⟩:=fG h;obtain⟨rfl,rfl⟩:=fI (wx h);obtain⟨B,v⟩:=l g hs x n1 d j;obtain⟨R,tb⟩:=G g hs y n2 d E;have A:Hg g (.mk 2 .z [] [x,y]):=⟨he,.two (.inl rfl) v.ty tb.ty⟩;exact⟨.Lc B R A,A⟩
 |@and k a w _ l=>
  intro g hs f m d h;have D:gd g:=d.ctx;rcases w with rfl|rfl
  ·rw[Pf.iy,NK] at h;obtain⟨J,o,he,c⟩:=iB h;rw[c];clear h c;have h:=o;clear o;obtain⟨x,n1,j,h⟩:=fG h;obtain⟨j,w⟩:=uO j;obtain⟨rfl,rfl⟩:=fI (wx h);obtain⟨B,v⟩:=l g hs x n1 d j;obtain⟨x,y,rfl,O,hy⟩:=v.ty.F2 w (.inl rfl);exact⟨.ac3 B ⟨he,O⟩,he,O⟩
  ·rw[Pf.iy,N0] at h;obtain⟨J,o,he,c⟩:=iB h;rw[c];clear h c;have h:=o;clear o;obtain⟨x,n1,j,h⟩:=fG h;obtain⟨j,w⟩:=uO j;obtain⟨rfl,rfl⟩:=fI (wx h);obtain⟨B,v⟩:=l g hs x n1 d j;obtain⟨x,y,rfl,O,hy⟩:=v.ty.F2 w (.inl rfl);exact⟨.ab9 B ⟨he,hy⟩,he,hy⟩
 |@qV F a hF _ l=>
  intro g hs f m d h;have D:gd g:=d.ctx;rw[Pf.iy,ML] at h;obtain⟨J,o,he,c⟩:=iB h;rw[c];clear h c;have h:=o;clear o;obtain⟨I,h⟩:=jr h;obtain⟨hn,h⟩:=lP h;obtain⟨y,n1,j,h⟩:=fG h;obtain⟨rfl,rfl⟩:=fI (wx h);have p:=yL hF D I;obtain⟨B,v⟩:=l g _ y n1 (d.with p (by show hs.length+1<=16;omega)) j;have A:Hg g (.mk 3 .z [] [F,y]):=⟨he,.two (.inr rfl) p.ty v.ty⟩;exact⟨.qV p VW B A,A⟩
 |@sh a b _ _ l G=>
  intro g hs f m d h;have D:gd g:=d.ctx;have S:=d.nv;have S:g.length<=16:=S;rw[Pf.iy,NX] at h;obtain⟨J,o,he,c⟩:=iB h;rw[c];clear h c;have h:=o;clear o;obtain⟨x,n1,j,h⟩:=fG h;obtain⟨j,w⟩:=uO j;obtain⟨z,n2,E,h⟩:=fG h;obtain⟨hm,h⟩:=jr h;obtain⟨rfl,rfl⟩:=fI (wx h);obtain⟨B,v⟩:=l g hs x n1 d j;obtain⟨R,tb⟩:=G g hs z n2 d E;obtain⟨x,y,rfl,O,hy⟩:=v.ty.F2 w (.inr rfl);have C:=v.sub (x:=x) aas O;exact⟨.sh B R C tb (Az C tb VW VW hm) ⟨he,hy⟩,he,hy⟩
 |@all k s a w r _ l=>
  intro g hs f m d h;have D:gd g:=d.ctx;rcases w with rfl|rfl
  ·rw[Pf.iy,Gv] at h;obtain⟨J,o,he,c⟩:=iB h;rw[c];clear h c;have h:=o;clear o;obtain⟨hn,h⟩:=lP h;obtain⟨x,n1,j,h⟩:=fG h;obtain⟨rfl,rfl⟩:=fI (wx h);obtain⟨B,v⟩:=l _ _ x n1 (d.Ch r VW) j;have A:Hg g (.mk 4 s [] [x]):=⟨he,.q (.inl rfl) r v.ty⟩;exact⟨.all (.inl ⟨rfl,rfl⟩) r VW B A,A⟩
  ·rw[Pf.iy,OQ] at h;obtain⟨J,o,he,c⟩:=iB h;rw[c];clear h c;have h:=o;clear o;obtain⟨hn,h⟩:=lP h;obtain⟨x,n1,j,h⟩:=fG h;obtain⟨hb,h⟩:=lP h;obtain⟨rfl,rfl⟩:=fI (wx h);obtain⟨B,v⟩:=l _ _ x n1 (d.Ch r VW) j;have A:Hg g (.mk 6 s [] [x]):=⟨he,.q (.inr (.inr (.inl rfl))) r v.ty⟩;exact⟨.all (.inr ⟨rfl,rfl,by simpa using hb⟩) r VW B A,A⟩
 |@W4 k t a w I _ l=>
  intro g hs f m d h;have D:gd g:=d.ctx
  have key:∀(k':Int) (f:Fm) (m:Nat),(k'=4\/k'=6)->∀u:Nat->Nat,(jk (t.ty g).2 (pbind (Ca (a.inf L g hs) k') λa m=>uk ((t.ty g).1.jc a.b8=false) 7 (jk (k4 (a.aea.getD 0 eI) t).2 (.inl ((k4 (a.aea.getD 0 eI) t).1,u m)))))=.inl (f,m)->∃s x n,cJ g t s/\Dv L g hs a (.mk k' s [] [x]) n/\Hg (g++[s]) x/\(Fm.eG 0 x t).aeb<=4096/\f=Fm.eG 0 x t/\m=u n:=by
   intro k' f m ah u h;obtain⟨ad,h⟩:=jr h;obtain⟨x,n1,j,h⟩:=fG h;obtain⟨j,w⟩:=uO j;obtain⟨U,h⟩:=lP h;obtain⟨X,h⟩:=jr h;obtain⟨rfl,rfl⟩:=fI (wx h);obtain⟨B,v⟩:=l g hs x n1 d j;obtain⟨s,y,rfl,r,hy⟩:=v.ty.ux w VW;have ae:=v.sub (x:=y) aas hy;obtain⟨V,K⟩:=vu X;rcases tg I D with⟨e,he,q1,_⟩|⟨s1,q1,M,ai⟩
   ·exact absurd (q1.symm.trans ad) he
   ·have q1:t.ty g=(s1,0):=q1;rw[q1] at U;have:s1=s:=(Ty.ja _ _).1 (by simpa using U);subst this;have V:k4 y t=(Fm.eG 0 y t,0):=V;refine⟨s1,y,n1,M,B,ae,K,?_,rfl⟩;show(k4 y t).1=_;rw[V]
  rcases w with rfl|rfl
  ·rw[Pf.iy,Q5] at h;obtain⟨J,o,he,c⟩:=iB h;rw[c];clear h c;have h:=o;clear o;obtain⟨s,x,n,q1,q2,Y,Z,rfl,rfl⟩:=key 4 _ _ (.inl rfl) (λm=>m|||pX t) h;exact⟨.W4 (.inl ⟨rfl,rfl,rfl⟩) q1 I q2 Y Z,ss Y.ty q1 Z⟩
  ·rw[Pf.iy,Rh] at h;obtain⟨J,o,he,c⟩:=iB h;rw[c];obtain⟨s,x,n,q1,q2,Y,Z,rfl,rfl⟩:=key 6 _ _ (.inr rfl) (λm=>m) o;exact⟨.W4 (.inr ⟨rfl,rfl,rfl⟩) q1 I q2 Y Z,ss Y.ty q1 Z⟩
 |@ex k t F a w I hF _ l=>
  intro g hs f m d h;have D:gd g:=d.ctx;have S:g.length<=16:=d.nv
  have key:∀(k':Int) (f:Fm) (m:Nat),(k'=5\/k'=7)->∀u:Nat->Nat,(jk (F.ti g) (uk (F.ad'≠k') 10 (jk (t.ty g).2 (uk ((t.ty g).1.jc F.b8=false) 7 (pbind (B9 (a.inf L g hs) (F.aea.getD 0 eI) t) λ_ m=>.inl (F,u m))))))=.inl (f,m)->∃s x y n,F=.mk k' s [] [x]/\Hg g F/\cJ g t s/\Hg (g++[s]) x/\Dv L g hs a y n/\Hg g y/\(Fm.eG 0 x t).aeb<=4096/\(Fm.eG 0 x t).B8 y=0/\f=F/\m=u n:=by
   intro k' f m ah u h;obtain⟨M,h⟩:=jr h;obtain⟨w,h⟩:=lP h;obtain⟨ad,h⟩:=jr h;obtain⟨U,h⟩:=lP h;obtain⟨y,n,j,h⟩:=fG h;obtain⟨rfl,rfl⟩:=fI (wx h);have p:=yL hF D M;obtain⟨s,x,rfl,r,O⟩:=p.ty.ux (vd.1 w) VW;have C:=p.sub (x:=x) aas O;obtain⟨j,K,hm⟩:=y8 j;obtain⟨B,v⟩:=l g hs y n d j;rcases tg I D with⟨e,he,q1,_⟩|⟨s1,q1,ab,ai⟩
   ·exact absurd (q1.symm.trans ad) he
   ·rw[q1] at U;have:s1=s:=(Ty.ja _ _).1 (by simpa using U);subst this;exact⟨s1,x,y,n,rfl,p,ab,C,B,v,K,Az (ss O ab K) v VW VW hm,rfl,rfl⟩
  rcases w with rfl|rfl
  ·rw[Pf.iy,NB] at h;obtain⟨J,o,he,c⟩:=iB h;rw[c];obtain⟨s,x,y,n,rfl,q1,q2,Y,Z,q5,q6,q7,rfl,rfl⟩:=key 5 _ _ (.inl rfl) (λm=>m|||pX t) o;exact⟨.ex (.inl ⟨rfl,rfl,rfl⟩) q1 q2 I Y Z q5 q6 q7,q1⟩
  ·rw[Pf.iy,Q7] at h;obtain⟨J,o,he,c⟩:=iB h;rw[c];obtain⟨s,x,y,n,rfl,q1,q2,Y,Z,q5,q6,q7,rfl,rfl⟩:=key 7 _ _ (.inr rfl) (λm=>m) o;exact⟨.ex (.inr ⟨rfl,rfl,rfl⟩) q1 q2 I Y Z q5 q6 q7,q1⟩
 |@XQ k a b w _ _ l G=>
  intro g hs f m d h;have D:gd g:=d.ctx;have S:g.length<=16:=d.nv;rcases w with rfl|rfl
  ·rw[Pf.iy,LQ] at h;obtain⟨J,o,he,c⟩:=iB h;rw[c];clear h c;obtain⟨x,n1,j,h⟩:=fG o;obtain⟨j,w⟩:=uO j;obtain⟨hn,h⟩:=lP h;obtain⟨y,n2,E,h⟩:=fG h;obtain⟨hw,h⟩:=jr h;obtain⟨rfl,rfl⟩:=fI (wx h);obtain⟨B,v⟩:=l g hs x n1 d j;obtain⟨s,x,rfl,r,O⟩:=v.ty.ux w (.inr (.inl rfl));have C:=v.sub (x:=x) aas O;have Q:=(d.Ch r VW).with (f:=x) C (by show(hs.map (Fm.up 0 1)).length+1<=16;simp;omega);obtain⟨R,tb⟩:=G _ _ y n2 Q E;have A:Hg g (Bc y).1:=⟨he,(Jq tb VW r hw).1⟩;exact⟨.XQ (.inl ⟨rfl,rfl⟩) B r VW VW C R tb hw A,A⟩
  ·rw[Pf.iy,Mh] at h;obtain⟨J,o,he,c⟩:=iB h;rw[c];clear h c;obtain⟨x,n1,j,h⟩:=fG o;obtain⟨j,w⟩:=uO j;obtain⟨hn,h⟩:=lP h;obtain⟨y,n2,E,h⟩:=fG h;obtain⟨hw,h⟩:=jr h;obtain⟨hb,h⟩:=lP h;obtain⟨rfl,rfl⟩:=fI (wx h);obtain⟨B,v⟩:=l g hs x n1 d j;obtain⟨s,x,rfl,r,O⟩:=v.ty.ux w (.inr (.inr (.inr rfl)));have C:=v.sub (x:=x) aas O;have Q:=(d.Ch r VW).with (f:=x) C (by show(hs.map (Fm.up 0 1)).length+1<=16;simp;omega);obtain⟨R,tb⟩:=G _ _ y n2 Q E;have A:Hg g (Bc y).1:=⟨he,(Jq tb VW r hw).1⟩;exact⟨.XQ (.inr ⟨rfl,rfl,by simpa using hb⟩) B r VW VW C R tb hw A,A⟩
 |@ind k t F a b w I hF _ _ l G=>
  intro g hs f m d h;have D:gd g:=d.ctx;have S:g.length<=16:=d.nv;rcases w with rfl|rfl
  ·rw[Pf.iy,OK] at h;obtain⟨J,o,he,c⟩:=iB h;rw[c];clear h c;obtain⟨M,h⟩:=jr o;obtain⟨w,h⟩:=jr h;obtain⟨x,n1,j,h⟩:=fG h;obtain⟨hn,h⟩:=lP h;obtain⟨y,n2,E,h⟩:=fG h;obtain⟨X,h⟩:=jr h;obtain⟨V,K⟩:=vu X;rw[V] at h;obtain⟨rfl,rfl⟩:=fI (wx h);have p:=yL hF D.nat M;have H:cJ g t .nat:=zd D I (.inl rfl) w;obtain⟨j,a2,a3⟩:=y8 j;obtain⟨E,W,b3⟩:=y8 E;obtain⟨B,v⟩:=l g hs x n1 d j;have Q:=(d.Ch Ty.fC VW).with (f:=F) p (by show(hs.map (Fm.up 0 1)).length+1<=16;simp;omega);obtain⟨R,tb⟩:=G _ _ y n2 Q E;have hz:=ss p.ty (t:=gv) .zero a2;have af:=ss (Hg.XF p).ty (t:=nE v0) (.succ uC) W;have A:Hg g (Fm.eG 0 F t):=ss p.ty H K;exact⟨.ind p H I B v a2 (Az hz v VW VW a3) VW VW R tb W (Az af tb aaQ aaQ b3) K,A⟩
  ·rw[Pf.iy,OA] at h;obtain⟨J,o,he,c⟩:=iB h;rw[c];clear h c;obtain⟨M,h⟩:=jr o;obtain⟨w,h⟩:=jr h;obtain⟨x,n1,j,h⟩:=fG h;obtain⟨hn,h⟩:=lP h;obtain⟨y,n2,E,h⟩:=fG h;obtain⟨X,h⟩:=jr h;obtain⟨V,K⟩:=vu X;rw[V] at h;obtain⟨rfl,rfl⟩:=fI (wx h);have p:=yL hF D.lV M;have H:cJ g t .lV:=zd D I (.inr rfl) w;obtain⟨j,a2,a3⟩:=y8 j;obtain⟨E,W,b3⟩:=y8 E;obtain⟨B,v⟩:=l g hs x n1 d j;have Q:=(d.Xi VW).with (f:=F.up 1 1) (Hg.upl p) (by show(hs.map (Fm.up 0 2)).length+1<=16;simp;omega);obtain⟨R,tb⟩:=G _ _ y n2 Q E;have hz:=ss p.ty (t:=.mk 7 0 .z []) .nil a2;have af:=ss (Hg.Ww p).ty (t:=.mk 8 0 .z [v1,v0]) (.cons EU uC) W;have A:Hg g (Fm.eG 0 F t):=ss p.ty H K;exact⟨.lists p H I B v a2 (Az hz v VW VW a3) VW VW R tb W (Az af tb aaQ aaQ b3) K,A⟩
 |@refl t I=>
  intro g hs f m d h;have D:gd g:=d.ctx;rw[Pf.iy,MQ] at h;obtain⟨J,o,he,c⟩:=iB h;rw[c];clear h c;obtain⟨w,h⟩:=jr o;obtain⟨rfl,rfl⟩:=fI (wx h);have H:cJ g t .nat:=zd D I (.inl rfl) w;rw[FK];exact⟨.refl H I ⟨he,.eq H H⟩,he,.eq H H⟩
 |@subst F a b hF _ _ l G=>
  intro g hs f m d h;have D:gd g:=d.ctx;have S:g.length<=16:=d.nv;rw[Pf.iy,IX] at h;obtain⟨J,o,he,c⟩:=iB h;rw[c];clear h c;obtain⟨M,h⟩:=jr o;obtain⟨x,n1,j,h⟩:=fG h;obtain⟨j,w⟩:=uO j;obtain⟨y,n2,E,h⟩:=fG h;obtain⟨X,h⟩:=jr h;obtain⟨V,K⟩:=vu X;rw[V] at h;obtain⟨rfl,rfl⟩:=fI (wx h);have p:=yL hF D.nat M;obtain⟨B,v⟩:=l g hs x n1 d j;obtain⟨t,u,rfl,I,hu⟩:=v.ty.Sz w;have hn:=v.aeb;rw[Fm.bY] at hn;simp only[cm] at hn;obtain⟨E,W,b3⟩:=y8 E;obtain⟨R,tb⟩:=G g hs y n2 d E;have W:(Fm.eG 0 F t).aeb<=4096:=W;have b3:vF (Fm.eG 0 F t) y=0:=b3;have K:(Fm.eG 0 F u).aeb<=4096:=K;have A:Hg g (Fm.eG 0 F u):=ss p.ty hu K;show Dv L g hs _ (Fm.eG 0 F u) (fin (Fm.eG 0 F u) n2)/\Hg g (Fm.eG 0 F u);exact⟨.subst p B I hu (Tm.rK I.ok VW) (Tm.rK hu.ok VW) R tb W (Az (ss p.ty I W) tb VW VW b3) K,A⟩
 |@choice a _ l=>
  intro g hs f m d h;have D:gd g:=d.ctx;rw[Pf.iy,Kt] at h;obtain⟨J,o,he,c⟩:=iB h;rw[c];clear h c;obtain⟨x,n1,j,h⟩:=fG o;obtain⟨j,w⟩:=uO j;obtain⟨h5,h⟩:=lP h;obtain⟨aa,h⟩:=lP h;obtain⟨X,h⟩:=lP h;obtain⟨V,K⟩:=vu (vd.1 X);rw[V] at h;obtain⟨rfl,rfl⟩:=fI (wx h);obtain⟨B,v⟩:=l g hs x n1 d j;obtain⟨s,x,rfl,r,O⟩:=v.ty.ux w (.inl rfl);have C:=v.sub (x:=x) aas O;obtain⟨u,y,rfl,ak,hy⟩:=O.ux (vd.1 h5) (.inr (.inl rfl));have ae:=C.sub (x:=y) aas hy;have K:(Fm.eG 0 (y.up 2 1) (qW v1 v0)).aeb<=4096:=K;have aa:(Ty.fn s u).err=0:=vd.1 aa
  have an:fg (g++[.fn s u]++[s]++[u]) (y.up 2 1):=by
   have:=hy.up g [s,u] [.fn s u] aas;simpa using this
  have ao:cJ (g++[.fn s u]++[s]) (qW v1 v0) u:=.app EU uC;have A:Hg g (.mk 5 (.fn s u) [] [.mk 4 s [] [Fm.eG 0 (y.up 2 1) (qW v1 v0)]]):=⟨he,.q (.inr (.inl rfl)) aa (.q (.inl rfl) r (an.put ao))⟩;exact⟨.choice B r ak ae aa K A,A⟩
def FI(s:Ty):s.jc s=true:=(Ty.ja s s).2 rfl
def vrs(k:Int)(i:Nat):Nat:=if k=8\/k=12 then 1 else if k=11\/k=15\/k=16 then i else if k=17 then 2*i else 0
def mot(k:Int):Nat:=if k=16\/k=17\/k=19 then 1 else 0
mutual
def Pf.aef(m:Int):Pf->Bool
 |.mk _ _ _ ts fs l=>ts.all (Tm.aef m)&&fs.all (Fm.aef m)&&Pf.sq m l
def Pf.sq(m:Int):List Pf->Bool
 |[]=>true|p::l=>p.aef m&&Pf.sq m l
end
end Go.dG
namespace Go.dG
open Go
section
variable{G G':List Ty} {ψ:Tm->Int->Tm}
def RC(k:Int)(i:Nat):Nat:=if k=6 then 1 else if k=11\/k=15\/k=16\/k=17 then i else 0
mutual
def Pf.B_(ψ:Tm->Int->Tm)(η:Nat->Nat->Int->Pf):Nat->Nat->Pf->Pf
 |d,h,.mk k i s ts fs l=>if k=1 then η d h i else .mk k i s (ts.map λt=>ψ t d) (fs.map λf=>f.B_ ψ ((d+mot k:Nat):Int)) (Pf.aaa ψ η k 0 d h l)
def Pf.aaa(ψ:Tm->Int->Tm)(η:Nat->Nat->Int->Pf)(k:Int):Nat->Nat->Nat->List Pf->List Pf
 |_,_,_,[]=>[]|i,d,h,p::l=>p.B_ ψ η (d+vrs k i) (h+RC k i)::Pf.aaa ψ η k (i+1) d h l
end
def Pf.Ws(P:Pf):Prop:=P.ok=true/\P.small=true
def S1:sn 3:=.inl rfl
def Db:sn 4:=.inr (.inl rfl)
def wz.eq_inv{c:Fm}{a b:Tm}(h:wz c (.mk 1 .z [a,b] [])):∃d e,c=.mk 1 .z [d,e] []/\Gn d a/\Gn e b:=by
 generalize hy:Fm.mk 1 .z [a,b] []=y at h;cases h with
 |eq f g=>simp at hy;obtain⟨rfl,rfl⟩:=hy;exact⟨_,_,rfl,f,g⟩
 |two=>simp at hy
 |q=>simp at hy
def wz.Jv{k:Int}{c a b:Fm}(h:wz c (.mk k .z [] [a,b])):∃d e,c=.mk k .z [] [d,e]/\wz d a/\wz e b:=by
 generalize hy:Fm.mk k .z [] [a,b]=y at h;cases h with
 |eq=>simp at hy
 |two f g=>simp at hy;obtain⟨rfl,rfl,rfl⟩:=hy;exact⟨_,_,rfl,f,g⟩
 |q=>simp at hy
def wz.ZE{k:Int}{s:Ty}{b a:Fm}(h:wz b (.mk k s [] [a])):∃c,b=.mk k s [] [c]/\wz c a:=by
 generalize hy:Fm.mk k s [] [a]=y at h;cases h with
 |eq=>simp at hy
 |two=>simp at hy
 |q d=>simp at hy;obtain⟨rfl,rfl,rfl⟩:=hy;exact⟨_,rfl,d⟩
end
def Qz{g:List Ty}{x:Tm}{s:Ty}(h:cJ g x s)(hg:gd g)(a:g.length+x.aeb<=1000000):mT x g s.ad'=0:=by
 unfold mT;rw[uQ h hg a,bV (λh=>h.2 rfl)]
def Oz{g c:List Ty}{a b:Fm}(d:Hg g a)(e:Hg c b)(f:g.length<=1000000)(i:c.length<=1000000)(h:wz a b):vF a b=0\/sn (vF a b):=by rw[FH d e f i];exact h.B8
end Go.dG
namespace Go.dG
open Go
def Pf.Ws.parts{k i:Int}{s:Ty}{ts:List Tm}{fs:List Fm}{l:List Pf}(h:(Pf.mk k i s ts fs l).Ws):(∀t∈ts,t.err=0)/\(∀f∈fs,f.err=0)/\∀p∈l,p.Ws:=by
 obtain⟨a,b⟩:=h;rw[Pf.ei] at a;rw[Pf.BQ] at b;simp only[eg,im] at a b;refine⟨λt d=>Tm.rK (a.1.1.2 t d) ?_,λf e=>Fm.rK (a.1.2 f e) ?_,λp c=>⟨a.2 p c,b.2 p c⟩⟩
 ·grind[QG]
 ·grind[QJ]
def Tt{g:List Ty}{s:Ty}{F f:Fm}{t:Tm}{m:Nat}(hF:fg (g++[s]) F)(b:cJ g t s)(c:Hg g f)(hg:g.length<=1000000)(d:wz (Fm.eG 0 F t) f):(∃e,sn e/\B9 (.inl (f,m)) F t=.inr e)\/B9 (.inl (f,m)) F t=.inl (f,m):=by
 unfold B9;rw[dS];rcases kZ F t with a|⟨hn,a⟩
 ·rw[a];exact .inl ⟨4,Db,rfl⟩
 ·rw[a,eU rfl];rcases Oz (ss hF b hn) c hg hg d with e|e
  ·grind[eU]
  ·rw[gG (by rcases e with e|e|e<;>rw[e]<;>decide)];exact .inl ⟨_,e,rfl⟩
def Uy{L:List Fm}{g:List Ty}{hs:List Fm}(a:AW L ⟨g,hs⟩){i:Nat}{f:Fm}(h:hs.reverse[i]?=some f):(Pf.mk 1 (i:Int) .z [] [] []).inf L g hs=.inl (f,0):=by
 have hi:i<hs.length:=by simpa using(jj.1 h).1
 rw[List.getElem?_reverse hi] at h;have b:Hg g f:=a.aeg f (Bh h);rw[Pf.iy,Re,jn VW,show((i:Nat):Int).toNat=i from rfl,P_,h];show yr (.inl (f,0))=_;rw[JY b.err]
 split<;>rfl
end Go.dG
namespace Go.dG
open Go
section
variable{L:List Fm} {g:List Ty} {hs:List Fm}
def JU(r:PR)(f:Fm):Prop:=(∃e,sn e/\r=.inr e)\/∃a b,r=.inl (a,b)/\wz a f
def Tk(L:List Fm)(g:List Ty)(hs:List Fm)(P:Pf)(f:Fm):Prop:=AW L ⟨g,hs⟩->P.Ws->(∃e,sn e/\P.inf L g hs=.inr e)\/∃a b,P.inf L g hs=.inl (a,b)/\wz a f/\Hg g a
def JU.xy{e:Int}{f:Fm}(h:sn e):JU (yr (.inr e)) f:=.inl ⟨e,h,rfl⟩
def JU.eB{a f:Fm}{m:Nat}(h:wz a f):JU (yr (.inl (a,m))) f:=by
 by_cases he:a.err=0
 ·rw[JY he];exact .inr ⟨_,_,rfl,h⟩
 ·rw[OE he];exact .inl ⟨4,Db,rfl⟩
def Tk.of{P:Pf}{f:Fm}(h:AW L ⟨g,hs⟩->P.Ws->JU (P.inf L g hs) f):Tk L g hs P f:=λa hw=>by
 rcases h a hw with h|⟨b,c,d,e⟩
 ·exact .inl h
 ·exact .inr ⟨b,c,d,e,(Dv.of (P.w hw.1 hw.2) g hs b c a d).2⟩
def Tk.cv{P:Pf}{f a:Fm}(h:Tk L g hs P f)(b:wz f a):Tk L g hs P a:=λc hw=>by
 rcases h c hw with h|⟨x,m,d,e,i⟩
 ·exact .inl h
 ·exact .inr ⟨x,m,d,e.trans b,i⟩
def RE{e:Int}(h:sn e):e≠0:=by rcases h with h|h|h<;>rw[h]<;>decide
def LM{g:List Ty}{s:Ty}{F f:Fm}{t:Tm}{m:Nat}(hF:fg (g++[s]) F)(a:cJ g t s)(b:Hg g f)(hg:g.length<=1000000)(c:wz (Fm.eG 0 F t) f):(∃e,sn e/\B9 (.inl (f,m)) F t=.inr e)\/B9 (.inl (f,m)) F t=.inl (f,m):=Tt hF a b hg c
def Tk.hyp{i:Nat}{a f:Fm}(h:hs.reverse[i]?=some a)(b:wz a f):Tk L g hs (.mk 1 (i:Int) .z [] [] []) f:=
 .of λc _=>.inr ⟨a,0,Uy c h,b⟩
def Tk.Lc{a b:Pf}{x y:Fm}(f:Tk L g hs a x)(h:Tk L g hs b y):Tk L g hs (.mk 3 0 .z [] [] [a,b]) (.mk 2 .z [] [x,y]):=.of λd hw=>by
 obtain⟨_,_,wp⟩:=hw.parts;rw[Pf.iy,Np];rcases f d (wp _ aas)with⟨e,he,q⟩|⟨k,l,q,i,t1⟩
 ·rw[q];exact .xy he
 rcases h d (wp _ aas)with⟨e,he,c⟩|⟨m,n',c,j,t2⟩
 ·rw[q,c];exact .xy he
 rw[q,c];exact .eB (.two i j)
def Tk.acy{a:Pf}{x y:Fm}(c:Tk L g hs a (.mk 2 .z [] [x,y])):Tk L g hs (.mk 4 0 .z [] [] [a]) x:=.of λd hw=>by
 obtain⟨_,_,wp⟩:=hw.parts;rw[Pf.iy,NK];rcases c d (wp _ aas)with⟨e,he,q⟩|⟨f,h,q,b,t1⟩
 ·rw[q];exact .xy he
 obtain⟨i,j,rfl,b,k⟩:=b.Jv;rw[q,Gu (Fm.cq 2 .z [] _),dS];exact .eB b
def Tk.ab8{a:Pf}{x y:Fm}(c:Tk L g hs a (.mk 2 .z [] [x,y])):Tk L g hs (.mk 5 0 .z [] [] [a]) y:=.of λd hw=>by
 obtain⟨_,_,wp⟩:=hw.parts;rw[Pf.iy,N0];rcases c d (wp _ aas)with⟨e,he,q⟩|⟨h,i,q,b,t1⟩
 ·rw[q];exact .xy he
 obtain⟨j,k,rfl,b,f⟩:=b.Jv;rw[q,Gu (Fm.cq 2 .z [] _),dS];exact .eB f
def Tk.qV{F:Fm}{a:Pf}{y:Fm}(hF:fg g F)(f:Tk L g (hs++[F]) a y):Tk L g hs (.mk 6 0 .z [] [F] [a]) (.mk 3 .z [] [F,y]):=.of λc hw=>by
 obtain⟨_,wf,wp⟩:=hw.parts;have b:Hg g F:=⟨wf _ aas,hF⟩;have:=b.aeb;have h:g.length<=16:=c.nv;rw[Pf.iy,ML,eU (qL b.ty c.ctx VW)]
 by_cases d:16<hs.length+1
 ·rw[iP d];exact .xy S1
 rw[jn d];rcases f (c.with b (by show hs.length+1<=16;omega)) (wp _ aas)with⟨e,he,q⟩|⟨j,k,q,i,t1⟩
 ·rw[q];exact .xy he
 rw[q,dS];exact .eB (.two (.refl hF) i)
def Tk.sh{a b:Pf}{x y:Fm}(j:Tk L g hs a (.mk 3 .z [] [x,y]))(l:Tk L g hs b x):Tk L g hs (.mk 7 0 .z [] [] [a,b]) y:=.of λc hw=>by
 obtain⟨_,_,wp⟩:=hw.parts;have m:g.length<=16:=c.nv;rw[Pf.iy,NX];rcases j c (wp _ aas)with⟨e,he,q⟩|⟨t,n,q,d,t1⟩
 ·rw[q];exact .xy he
 obtain⟨i,o,rfl,d,p⟩:=d.Jv;rw[q,Gu (Fm.cq 3 .z [] _),dS];rcases l c (wp _ aas)with⟨e,he,f⟩|⟨r,n',f,c3,t2⟩
 ·rw[f];exact .xy he
 rw[f,dS]
 have h:Hg g i:=by
  obtain⟨u,v,e,s,w⟩:=t1.ty.F2 (k:=3) (Fm.cq _ _ _ _) (.inr rfl);simp at e;obtain⟨rfl,rfl⟩:=e;exact t1.sub aas s
 show JU (yr (jk (vF i r) (.inl (o,n|||n')))) y;rcases Oz h t2 VW VW (d.trans c3.symm)with e|e
 ·rw[eU e];exact .eB p
 ·rw[gG (RE e)];exact .xy e
def Tk.allI{s:Ty}{a:Pf}{f:Fm}(b:s.err=0)(d:Tk L (g++[s]) (hs.map (Fm.up 0 1)) a f):Tk L g hs (.mk 8 0 s [] [] [a]) (.mk 4 s [] [f]):=.of λh hw=>by
 obtain⟨_,_,wp⟩:=hw.parts;rw[Pf.iy]
 by_cases c:16<g.length+1
 ·rw[Gv,iP c];exact .xy S1
 rcases d (h.Ch b VW) (wp _ aas)with⟨e,he,q⟩|⟨j,k,q,i,t1⟩
 ·rw[Gv,jn c,q];exact .xy he
 rw[Gv,jn c,q,dS];exact .eB (.q i)
def Tk.acN{t:Tm}{s:Ty}{a:Pf}{x:Fm}(h:cJ g t s)(i:Tk L g hs a (.mk 4 s [] [x])):Tk L g hs (.mk 9 0 .z [t] [] [a]) (Fm.eG 0 x t):=.of λb hw=>by
 obtain⟨wt,_,wp⟩:=hw.parts;have j:g.length<=16:=b.nv;have c:t.err=0:=wt _ aas;obtain⟨k,l⟩:=nr c;rw[Pf.iy,Q5,uQ h b.ctx VW,eU rfl];rcases i b (wp _ aas)with⟨e,he,q⟩|⟨r,m,q,o,t1⟩
 ·rw[q];exact .xy he
 obtain⟨d,rfl,p⟩:=o.ZE;rw[q,Gu (Fm.cq 4 s [] _),dS,jn (by show¬s.jc s=false;rw[FI];decide)];show JU (yr (jk (k4 d t).2 (.inl ((k4 d t).1,m|||pX t)))) _;rcases kZ d t with f|⟨_,f⟩
 ·rw[f];exact .xy Db
 rw[f,eU rfl];exact .eB (p.eG (n:=0) (.refl k) (PY 0))
def Tk.refl{t:Tm}(e:cJ g t .nat):Tk L g hs (.mk 18 0 .z [t] [] []) (.mk 1 .z [t,t] []):=.of λb hw=>by
 obtain⟨wt,_,wp⟩:=hw.parts;have f:g.length<=16:=b.nv;have a:t.err=0:=wt _ aas;obtain⟨c,h⟩:=nr a;have d:=Qz e b.ctx VW;rw[show Ty.nat.ad'=1 from rfl] at d;rw[Pf.iy,MQ,eU d];exact .eB (.eq (.refl c) (.refl c))
def Tk.exI{t:Tm}{s:Ty}{a:Pf}{x:Fm}(f:cJ g t s)(hF:fg g (.mk 5 s [] [x]))(h:fg (g++[s]) x)(i:Tk L g hs a (Fm.eG 0 x t)):Tk L g hs (.mk 10 0 .z [t] [.mk 5 s [] [x]] [a]) (.mk 5 s [] [x]):=.of λc hw=>by
 obtain⟨wt,wf,wp⟩:=hw.parts;have j:g.length<=16:=c.nv;have d:t.err=0:=wt _ aas;obtain⟨p,k⟩:=nr d;have b:Hg g (.mk 5 s [] [x]):=⟨wf _ aas,hF⟩;have:=b.aeb;rw[Pf.iy,NB,eU (qL b.ty c.ctx VW),jn aas,uQ f c.ctx VW,eU rfl,jn (by show¬s.jc s=false;rw[FI];decide)];rcases i c (wp _ aas)with⟨e,he,q⟩|⟨l,n,q,o,t1⟩
 ·rw[q];exact .xy he
 rw[q];show JU (yr (pbind (B9 (.inl (l,n)) x t) λ_ m=>.inl (.mk 5 s [] [x],m|||pX t))) _;rcases LM h f t1 VW o.symm with⟨e,he,q2⟩|q2
 ·rw[q2];exact .xy he
 ·rw[q2,dS];exact .eB (.refl hF)
def Tk.subst{F:Fm}{a b:Pf}{t u:Tm}(hF:fg (g++[.nat]) F)(l:Tk L g hs a (.mk 1 .z [t,u] []))(m:Tk L g hs b (Fm.eG 0 F t)):Tk L g hs (.mk 19 0 .z [] [F] [a,b]) (Fm.eG 0 F u):=.of λd hw=>by
 obtain⟨_,wf,wp⟩:=hw.parts;have o:g.length<=16:=d.nv;have c:Hg (g++[.nat]) F:=⟨wf _ aas,hF⟩;have p:=c.aeb;rw[Pf.iy,IX,eU (qL c.ty d.ctx.nat (by simp only[ni,j0,tP];omega))];rcases l d (wp _ aas)with⟨e,he,q⟩|⟨E,G,q,r,t1⟩
 ·rw[q];exact .xy he
 obtain⟨h,f,rfl,ct,s⟩:=r.eq_inv
 obtain⟨i,v⟩:cJ g h .nat/\cJ g f .nat:=by
  obtain⟨x,y,e,w,A⟩:=t1.ty.Sz (Fm.cq _ _ _ _);simp at e;obtain⟨rfl,rfl⟩:=e;exact⟨w,A⟩
 rw[q,Gu (Fm.cq 1 .z _ _),dS];show JU (yr (pbind (B9 (b.inf L g hs) F h) λ_ n=>jk (k4 F f).2 (.inl ((k4 F f).1,n)))) _;rcases m d (wp _ aas)with⟨e,he,j⟩|⟨B,n',j,C,t2⟩
 ·rw[j];exact .xy he
 have D:wz (Fm.eG 0 F h) B:=((wz.refl hF).eG ct VW).trans C.symm;rw[j];rcases LM hF i t2 VW D with⟨e,he,q3⟩|q3
 ·rw[q3];exact .xy he
 rw[q3,dS];rcases kZ F f with k|⟨_,k⟩
 ·rw[k];exact .xy Db
 rw[k,eU rfl];exact .eB ((wz.refl hF).eG s VW)
end
end Go.dG
namespace Go.dG
open Go
def L7:∀(t:Tm) (n:Int),t.ok=true->0<=n->Tm.eG n (t.up (n+1) 1) v0=t:=by
 intro t
 induction t using Tm.ind with
 |h k i s l j=>
  intro n b hn;have hi:=Tm.jz b;rw[Tm.fD,Tm.ey]
  by_cases a:k=1
  ·subst a;obtain⟨rfl,rfl⟩:=Tm.NM b;rw[bX rfl]
   by_cases c:n+1<=i
   ·have e:(if(1:Int)=1/\n+1<=i then i+1 else i)=i+1:=bX ⟨rfl,c⟩;rw[e];unfold Tm.m4;rw[bV VW,bX VW,show i+1-1=i by omega]
   ·have e:(if(1:Int)=1/\n+1<=i then i+1 else i)=i:=bV (λh=>c h.2);rw[e];unfold Tm.m4
    by_cases d:i=n
    ·rw[bX d];unfold v0;rw[Tm.fD]
     have m:(if(1:Int)=1/\(0:Int)<=0 then 0+n else 0)=i:=by rw[bX ⟨rfl,VW⟩];omega
     rw[m];rfl
    ·rw[bV d,bV VW];rfl
  ·rw[bV a,bV (λh=>a h.1)];have o:=gE k
   congr 1
   rw[D4];refine qf (g:=id) (λx f=>?_)|>.trans aas;show Tm.eG (n+dB k) (x.up (n+1+dB k) 1) v0=x;rw[show n+1+dB k=n+dB k+1 by omega];exact j x f (n+dB k) (hi.2.2.2.1 x f) VW
end Go.dG
set_option maxRecDepth 20000
namespace Go.dG
open Go
def dt(x y:Fm):Fm:=.mk 3 .z [] [x,y]
def lz(i:Int):Pf:=.mk 1 i .z [] [] []
def ld(F:Fm)(p:Pf):Pf:=.mk 6 0 .z [] [F] [p]
def mr(p q:Pf):Pf:=.mk 7 0 .z [] [] [p,q]
inductive yl:List Ty->Fm->Prop
 |eq {g a b}:cJ g a .nat->cJ g b .nat->yl g (.mk 1 .z [a,b] [])|two {g k a b}:k=2\/k=3->yl g a->yl g b->yl g (.mk k .z [] [a,b])|q {g k s a}:k=4\/k=5->s.err=0->yl (g++[s]) a->yl g (.mk k s [] [a])
def yl.ty{g:List Ty}{f:Fm}(h:yl g f):fg g f:=by
 induction h with
 |eq d e=>exact .eq d e|two c _ _ a b=>exact .two c a b|q c hs _ i=>exact .q VW hs i
mutual
def ku(a:Fm):Fm->Nat->Fm
 |.mk k s ts l,n=>if k=1 then dt (dt (.mk k s ts l) (a.up 0 n)) (a.up 0 n)else if k=5 then dt (.mk 4 s [] [dt ((xQ a l (n+1)).getD 0 eI) (a.up 0 ((n+1:Nat):Int))]) (a.up 0 n)
  else if k=4 then .mk 4 s [] (xQ a l (n+1))else .mk k .z [] (xQ a l n)
def xQ(a:Fm):List Fm->Nat->List Fm
 |[],_=>[]|x::l,n=>ku a x n::xQ a l n
end
mutual
def AU(a:Fm):Fm->Nat->Pf
 |.mk k s ts l,n=>
  if k=2 then
   ld (dt (dt (ku a (.mk k s ts l) n) (a.up 0 n)) (a.up 0 n)) (.mk 3 0 .z [] [] [mr ((Fu a l n).getD 0 (lz 0)) (ld (dt ((xQ a l n).getD 0 eI) (a.up 0 n)) (mr (lz 1) (ld (ku a (.mk k s ts l) n) (mr (lz 1) (.mk 4 0 .z [] [] [lz 0]))))),mr ((Fu a l n).getD 1 (lz 0)) (ld (dt ((xQ a l n).getD 1 eI) (a.up 0 n)) (mr (lz 1) (ld (ku a (.mk k s ts l) n) (mr (lz 1) (.mk 5 0 .z [] [] [lz 0])))))])
  else if k=3 then
   ld (dt (dt (ku a (.mk k s ts l) n) (a.up 0 n)) (a.up 0 n)) (ld ((xQ a l n).getD 0 eI)
    (mr ((Fu a l n).getD 1 (lz 0)) (ld (dt ((xQ a l n).getD 1 eI) (a.up 0 n)) (mr (lz 2) (ld (ku a (.mk k s ts l) n) (mr (lz 1) (mr (lz 0) (lz 2))))))))
  else if k=4 then
   ld (dt (dt (ku a (.mk k s ts l) n) (a.up 0 n)) (a.up 0 n)) (.mk 8 0 s [] [] [mr ((Fu a l (n+1)).getD 0 (lz 0)) (ld (dt ((xQ a l (n+1)).getD 0 eI) (a.up 0 ((n+1:Nat):Int))) (mr (lz 1) (ld ((ku a (.mk k s ts l) n).up 0 1) (mr (lz 1) (.mk 9 0 .z [v0] [] [lz 0])))))])
  else ld (dt (dt (ku a (.mk k s ts l) n) (a.up 0 n)) (a.up 0 n)) (ld ((ku a (.mk k s ts l) n).aea.getD 0 eI) (mr (lz 1) (ld (ku a (.mk k s ts l) n) (mr (lz 0) (lz 1)))))
def Fu(a:Fm):List Fm->Nat->List Pf
 |[],_=>[]|x::l,n=>AU a x n::Fu a l n
end
def Ar(a:Fm)(s:Ty)(ts:List Tm)(l:List Fm)(n:Nat):ku a (.mk 1 s ts l) n=dt (dt (.mk 1 s ts l) (a.up 0 n)) (a.up 0 n):=by rw[ku,bX rfl]
def wI{a:Fm}{k:Int}(b:k=2\/k=3)(x y:Fm)(n:Nat):ku a (.mk k .z [] [x,y]) n=.mk k .z [] [ku a x n,ku a y n]:=by
 rw[ku,bV VW,bV VW,bV VW];simp[xQ]
def JJ(a:Fm)(s:Ty)(x:Fm)(n:Nat):ku a (.mk 4 s [] [x]) n=.mk 4 s [] [ku a x (n+1)]:=by
 rw[ku,bV aaq,bV aaq,bX rfl];simp[xQ]
def F5(a:Fm)(s:Ty)(x:Fm)(n:Nat):ku a (.mk 5 s [] [x]) n=dt (.mk 4 s [] [dt (ku a x (n+1)) (a.up 0 ((n+1:Nat):Int))]) (a.up 0 n):=by
 rw[ku,bV aaq,bX rfl];simp[xQ]
section
variable{a:Fm} {g:List Ty}
def jt{g:List Ty}{x y:Fm}(a:fg g x)(hy:fg g y):fg g (dt x y):=.two (.inr rfl) a hy
def w6(b:fg g a)(e:List Ty):fg (g++e) (a.up 0 e.length):=b.lift e
def yV(d:fg g a){g0:List Ty}{f:Fm}(h:yl g0 f):∀e,g0=g++e->fg g0 (ku a f e.length):=by
 induction h with
 |eq b c=>
  rintro e rfl;rw[Ar];exact jt (jt (.eq b c) (w6 d e)) (w6 d e)
 |two i _ _ j l=>
  rintro e rfl;rw[wI i];exact .two i (j e rfl) (l e rfl)
 |@q g0 k s x i hs _ m=>
  rintro e rfl;have b:=m (e++[s]) aas;have c:=w6 d (e++[s]);rw[ni] at b c;rw[<-pQ] at c;rcases i with rfl|rfl
  ·rw[JJ];exact .q (.inl rfl) hs b
  ·rw[F5];exact jt (.q (.inl rfl) hs (jt b c)) (w6 d e)
def Yo(x y:Fm)(f c:Int):(dt x y).up f c=dt (x.up f c) (y.up f c):=by
 unfold dt;rw[Fm.fD,show qB 3=0 from rfl];simp
def TZ{g:List Ty}{f:Fm}(h:fg g f):∀n:Int,0<=n->Fm.eG n (f.up (n+1) 1) v0=f:=by
 induction h with
 |eq e i=>
  intro n hn;rw[Fm.fD,Fm.ey];simp[L7 _ n e.ok hn,L7 _ n i.ok hn]
 |@two g k x y a _ _ b c=>
  intro n hn
  have d:qB k=0:=by rcases a with rfl|rfl<;>rfl
  rw[Fm.fD,Fm.ey,d];simp[b n hn,c n hn]
 |@q g k s x a _ _ j=>
  intro n hn
  have d:qB k=1:=by rcases a with rfl|rfl|rfl|rfl<;>rfl
  rw[Fm.fD,Fm.ey,d];simp[j (n+1) VW]
section
variable{L:List Fm} {g:List Ty} {hs:List Fm} {F G K:Fm}
def Tk.Pj(hF:fg g F):Tk L g (hs++[F]) (lz 0) F:=Tk.hyp (i:=0) aas (.refl hF)
def Tk.FE(hF:fg g F):Tk L g (hs++[F]++[G]) (lz 1) F:=Tk.hyp (i:=1) aas (.refl hF)
def Tk.XI(hF:fg g F):Tk L g (hs++[F]++[G]++[K]) (lz 2) F:=Tk.hyp (i:=2) aas (.refl hF)
end
def Xk{L:List Fm}(m:fg g a){g0:List Ty}{f:Fm}(h:yl g0 f):∀e,g0=g++e->∀hs,Tk L g0 hs (AU a f e.length) (dt (dt (dt (ku a f e.length) (a.up 0 e.length)) (a.up 0 e.length)) (ku a f e.length)):=by
 have last:∀(k:Int) (s:Ty) (ts:List Tm) (l:List Fm) (n:Nat),¬k=2->¬k=3->¬k=4->AU a (.mk k s ts l) n=ld (dt (dt (ku a (.mk k s ts l) n) (a.up 0 n)) (a.up 0 n)) (ld ((ku a (.mk k s ts l) n).aea.getD 0 eI) (mr (lz 1) (ld (ku a (.mk k s ts l) n) (mr (lz 0) (lz 1))))):=by
  intro k s ts l n w J K;rw[AU,bV w,bV J,bV K]
 have fin:∀(g0:List Ty) (hs:List Fm) (P A:Fm),fg g0 P->fg g0 A->Tk L g0 hs (ld (dt (dt (dt P A) A) A) (ld P (mr (lz 1) (ld (dt P A) (mr (lz 0) (lz 1)))))) (dt (dt (dt (dt P A) A) A) (dt P A)):=by
  intro g0 hs P A D i;have b:=jt D i;have d:=jt (jt b i) i;exact .qV d (.qV D (.sh (.FE d) (.qV b (.sh (.Pj b) (.FE D)))))
 induction h with
 |@eq g0 x y r w=>
  rintro e rfl hs;rw[last 1 _ _ _ _ aaq aaq aaq,Ar];exact fin _ hs _ _ (jt (.eq r w) (w6 m e)) (w6 m e)
 |@two g0 k x y B r w E C=>
  rintro e rfl hs;have o:=yV m r e rfl;have hy:=yV m w e rfl;have i:=w6 m e;have b:fg (g++e) (ku a (.mk k .z [] [x,y]) e.length):=yV m (.two B r w) e rfl;have d:=jt (jt b i) i;have j:=jt o i;have p:=jt hy i;rcases B with rfl|rfl
  ·rw[AU,bX rfl];simp only[Fu,xQ,qK,AK];rw[wI (.inl rfl)] at b d|-
   exact .qV d (.Lc (.sh (E e rfl _) (.qV j (.sh (.FE d) (.qV b (.sh (.FE j) (.acy (.Pj b)))))))
    (.sh (C e rfl _) (.qV p (.sh (.FE d) (.qV b (.sh (.FE p) (.ab8 (.Pj b))))))))
  ·rw[AU,bV aaq,bX rfl];simp only[Fu,xQ,qK,AK];rw[wI (.inr rfl)] at b d|-;exact .qV d (.qV o (.sh (C e rfl _) (.qV p (.sh (.XI d) (.qV b (.sh (.FE p) (.sh (.Pj b) (.XI o))))))))
 |@q g0 k s x B t r M=>
  rintro e rfl hs;have i:=w6 m e;have o:=yV m r (e++[s]) aas;have c:=w6 m (e++[s]);have u:=M (e++[s]) aas;rw[<-pQ] at c;rw[ni] at o c u;simp only[TI] at o c u;have b:=yV m (.q B t r) e rfl;have d:=jt (jt b i) i;rcases B with rfl|rfl
  ·rw[AU,bV aaq,bV aaq,bX rfl];simp only[Fu,xQ,qK];rw[JJ] at b d|-
   have F:(Fm.mk 4 s [] [ku a x (e.length+1)]).up 0 1=.mk 4 s [] [(ku a x (e.length+1)).up 1 1]:=by rw[Fm.fD,show qB 4=1 from rfl];rfl
   have N:(a.up 0 (e.length:Int)).up 0 1=a.up 0 ((e.length+1:Nat):Int):=by
    rw[Fm.JG _ VW];rfl
   have v:fg ((g++e)++[s]) (.mk 4 s [] [(ku a x (e.length+1)).up 1 1]):=by
    have:=b.lift [s];rw[show(([s]:List Ty).length:Int)=1 from rfl,F] at this;exact this
   have G:fg ((g++e)++[s]) (dt (dt (.mk 4 s [] [(ku a x (e.length+1)).up 1 1]) (a.up 0 ((e.length+1:Nat):Int))) (a.up 0 ((e.length+1:Nat):Int))):=jt (jt v c) c;have j:=jt o c;have O:cJ ((g++e)++[s]) v0 s:=uC
   have H:Tk L ((g++e)++[s]) (((hs++[dt (dt (.mk 4 s [] [ku a x (e.length+1)]) (a.up 0 e.length)) (a.up 0 e.length)]).map (Fm.up 0 1)++[dt (ku a x (e.length+1)) (a.up 0 ((e.length+1:Nat):Int))])++[.mk 4 s [] [(ku a x (e.length+1)).up 1 1]]) (.mk 9 0 .z [v0] [] [lz 0]) (ku a x (e.length+1)):=by
    have:=Tk.acN O (Tk.Pj (L:=L) (hs:=(hs++[dt (dt (.mk 4 s [] [ku a x (e.length+1)]) (a.up 0 e.length)) (a.up 0 e.length)]).map (Fm.up 0 1)++[dt (ku a x (e.length+1)) (a.up 0 ((e.length+1:Nat):Int))]) v);have I:=TZ o 0 (PY 0);rw[show(0:Int)+1=1 from rfl] at I
    rwa [I] at this
   rw[F];refine .qV d (.allI t (.sh (u _) (.qV j (.sh (y:=a.up 0 ((e.length+1:Nat):Int)) (x:=dt (.mk 4 s [] [(ku a x (e.length+1)).up 1 1]) (a.up 0 ((e.length+1:Nat):Int))) ?_ (.qV v (.sh (.FE j) H))))));rw[TC];simp only[k_,m7,Yo,F,N];exact .FE G
  ·rw[last 5 _ _ _ _ aaq aaq aaq,F5];exact fin _ hs _ _ (.q (.inl rfl) t (jt o c)) i
end
end Go.dG
set_option maxRecDepth 20000
namespace Go.dG
open Go
def Aw(t:Tm):∀f,t.up f 0=t:=by
 induction t using Tm.ind with
 |h k i s l a=>
  intro f
  have:l.map (Tm.up (f+dB k) 0)=l:=by
   refine(qf (g:=id) λx b=>?_).trans aas;exact a x b _
  rw[Tm.fD,this]
  congr 1
  split<;>omega
def vJ(s t n:Tm):Tm:=.mk 6 0 .nat [s,.mk 2 0 .nat [.mk 2 0 .nat [t.up 0 2]],n]
def J_(s t:Tm):Fm:=.mk 1 .z [s.up 0 1,vJ (s.up 0 1) (t.up 0 1) v0] []
def Jx{g:List Ty}{t:Tm}{s:Ty}(h:cJ g t s)(x:Tm):Tm.eG 0 (t.up 0 1) x=t:=by
 have:=IZ x t 0 0 0 h.ok VW VW VW
 rwa [show(0:Int)+1=1 from rfl,Aw] at this
def SL{g:List Ty}{s t:Tm}(hs:cJ g s .nat)(a:cJ g t .nat)(w:Tm):Fm.eG 0 (J_ s t) w=.mk 1 .z [s,vJ s t w] []:=by
 have b:Tm.eG 2 ((t.up 0 1).up 0 2) w=t.up 0 2:=by
  have hu:=VU t 0 2 2 1 VW VW VW VW;rw[show(2:Int)-2=0 from rfl] at hu;rw[<-hu];have:=IZ w (t.up 0 2) 2 2 0 (by rw[Tm.xM _ _ _ VW VW];exact a.ok) VW VW VW;rw[show(0:Int)+1=1 from rfl,Aw] at this;exact this
 have c:Tm.eG 0 v0 w=w:=by
  unfold v0;rw[Tm.ey,bX rfl];unfold Tm.m4;rw[bX rfl,Aw]
 unfold J_ vJ;rw[Fm.ey];simp only[k_,m7,Jx hs];rw[Tm.ey,bV aaq];simp only[k_,m7,show dB 6=0 from rfl,wo,Jx hs,c];rw[Tm.ey,bV aaq];simp only[k_,m7,show dB 2=1 from rfl];rw[Tm.ey,bV aaq];simp only[k_,m7,show dB 2=1 from rfl,show(0:Int)+1+1=2 from rfl,b]
def Pq{g:List Ty}{s t:Tm}(hs:cJ g s .nat)(a:(vJ s t gv).ok=true):Gn (vJ s t gv) s:=
 .star a (.step (.IW 0 .nat 0 .z _ (kh.refl s hs.ok)) (.refl s))
def Pn{g:List Ty}{s t:Tm}(hs:cJ g s .nat)(c:cJ g t .nat)(a:(vJ s t (nE gv)).ok=true):Gn (vJ s t (nE gv)) t:=by
 have i:(t.up 0 2).ok=true:=by rw[Tm.xM _ _ _ VW VW];exact c.ok
 have d:gv.ok=true:=aaq
 have b:(Tm.mk 2 0 .nat [t.up 0 2]).ok=true:=by rw[Tm.ei];simp[i,Tm.node,eS,hB,Ty.fC]
 have e:(Tm.mk 2 0 .nat [.mk 2 0 .nat [t.up 0 2]]).ok=true:=by rw[Tm.ei];simp[b,Tm.node,eS,hB,Ty.fC]
 have j:kh (vJ s t (nE gv)) (iH (.mk 2 0 .nat [.mk 2 0 .nat [t.up 0 2]]) [gv,.mk 6 0 .nat [s,.mk 2 0 .nat [.mk 2 0 .nat [t.up 0 2]],gv]]):=.Kb 0 .nat 0 .z (kh.refl s hs.ok) (kh.refl _ e) (kh.refl _ d)
 have k:Tm.eG 0 (.mk 2 0 .nat [t.up 0 2]) gv=.mk 2 0 .nat [t.up 0 1]:=by
  rw[Tm.ey,bV aaq];simp only[k_,m7,show dB 2=1 from rfl];have:=IZ gv t 0 1 1 c.ok VW VW VW;rw[show(1:Int)+1=2 from rfl] at this;rw[show(0:Int)+1=1 from rfl,this]
 have h:(Tm.mk 6 0 .nat [s,.mk 2 0 .nat [.mk 2 0 .nat [t.up 0 2]],gv]).ok=true:=by
  have:(vJ s t gv).ok=true:=by
   unfold vJ at a|-;rw[Tm.ei] at a|-;simp only[vq,Nz,Fi,eg] at a|-;exact⟨a.1,a.2.1,a.2.2.1,d⟩
  exact this
 have l:kh (iH (.mk 2 0 .nat [.mk 2 0 .nat [t.up 0 2]]) [gv,.mk 6 0 .nat [s,.mk 2 0 .nat [.mk 2 0 .nat [t.up 0 2]],gv]]) (.mk 3 0 (.mk 0 []) [.mk 2 0 .nat [t.up 0 1],.mk 6 0 .nat [s,.mk 2 0 .nat [.mk 2 0 .nat [t.up 0 2]],gv]]):=by
  have f:kh (.mk 3 0 (.mk 0 []) [.mk 2 0 .nat [.mk 2 0 .nat [t.up 0 2]],gv]) (.mk 2 0 .nat [t.up 0 1]):=by
   have:=kh.beta 0 (.mk 0 []) 0 .nat (kh.refl _ b) (kh.refl _ d)
   rwa [k] at this
  exact .n2 _ _ _ f (kh.refl _ h)
 have m:kh (.mk 3 0 (.mk 0 []) [.mk 2 0 .nat [t.up 0 1],.mk 6 0 .nat [s,.mk 2 0 .nat [.mk 2 0 .nat [t.up 0 2]],gv]]) t:=by
  have f:(t.up 0 1).ok=true:=by rw[Tm.xM _ _ _ VW VW];exact c.ok
  have:=kh.beta 0 (.mk 0 []) 0 .nat (kh.refl _ f) (kh.refl _ h)
  rwa [Jx c] at this
 exact .star a (.step j (.step l (.step m (.refl t))))
def lp:Fm:=.mk 1 .z [gv,nE gv] []
def Q6(g:List Ty):fg g lp:=.eq .zero (.succ .zero)
def Yq(f c:Int):lp.up f c=lp:=by
 unfold lp gv nE;rw[Fm.fD];simp[Tm.fD]
inductive Ke:Nat->List Ty->Fm->Prop
 |eq {n g a b}:cJ g a .nat->cJ g b .nat->Ke (n+1) g (.mk 1 .z [a,b] [])|two {n g k a b}:k=2\/k=3->Ke n g a->Ke n g b->Ke (n+1) g (.mk k .z [] [a,b])|q {n g k s a}:k=4\/k=5->s.err=0->Ke n (g++[s]) a->Ke (n+1) g (.mk k s [] [a])
def Ke.ty{n:Nat}{g:List Ty}{f:Fm}(h:Ke n g f):fg g f:=by
 induction h with
 |eq d e=>exact .eq d e|two c _ _ a b=>exact .two c a b|q c hs _ i=>exact .q VW hs i
theorem Ke.eG{n:Nat}{g:List Ty}{f:Fm}(h:Ke n g f):∀(g1:List Ty) (s:Ty) (g2:List Ty) (a:Tm),g=g1++[s]++g2->cJ g1 a s->Ke n (g1++g2) (Fm.eG g2.length f a):=by
 induction h with
 |eq j l=>
  rintro g1 s g2 a rfl b;rw[Fm.ey];exact .eq (j.eG g1 s g2 a rfl b) (l.eG g1 s g2 a rfl b)
 |@two n g k x y c _ _ d e=>
  rintro g1 s g2 a rfl b
  have i:qB k=0:=by rcases c with rfl|rfl<;>rfl
  rw[Fm.ey,i];simp only[k_,m7,wo];exact .two c (d g1 s g2 a rfl b) (e g1 s g2 a rfl b)
 |@q n g k u x c hu _ m=>
  rintro g1 s g2 a rfl b
  have i:qB k=1:=by rcases c with rfl|rfl<;>rfl
  rw[Fm.ey,i];simp only[k_,m7];refine .q c hu ?_;have:=m g1 s (g2++[u]) a aas b;rw[ni,<-pQ] at this;exact this
def pK(wA:Ty->Tm):Nat->Fm->Nat->Pf
 |0,_,h=>lz h|n+1,.mk k s ts l,h=>
  if k=2 then .mk 3 0 .z [] [] [pK wA n (l.getD 0 eI) h,pK wA n (l.getD 1 eI) h]
  else if k=3 then ld (l.getD 0 eI) (pK wA n (l.getD 1 eI) (h+1))
  else if k=4 then .mk 8 0 s [] [] [pK wA n (l.getD 0 eI) h]
  else if k=5 then .mk 10 0 .z [wA s] [.mk k s ts l] [pK wA n (Fm.eG 0 (l.getD 0 eI) (wA s)) h]
  else .mk 19 0 .z [] [J_ (ts.getD 0 Tm.z) (ts.getD 1 Tm.z)] [lz h,.mk 18 0 .z [ts.getD 0 Tm.z] [] []]
def zh{L:List Fm}{wA:Ty->Tm}(d:∀(g:List Ty) (s:Ty),s.err=0->cJ g (wA s) s):∀(n:Nat) (g:List Ty) (f:Fm) (h:Nat) (hs:List Fm),Ke n g f->hs.reverse[h]?=some lp->Tk L g hs (pK wA n f h) f
 |0,g,f,h,hs,o,_=>by cases o
 |n+1,g,f,h,hs,o,e=>by
  cases o with
  |@eq _ _ s t b i=>
   rw[pK,bV aaq,bV aaq,bV aaq,bV aaq];simp only[qK,AK]
   have hF:fg (g++[.nat]) (J_ s t):=by
    have j:cJ (g++[.nat]) (s.up 0 1) .nat:=b.lift [.nat];have p:cJ (g++[.nat]) (t.up 0 1) .nat:=i.lift [.nat];have r:=p.lift [.nat,.nat];refine .eq j (.r9 Ty.fC j (.lam aaq (.lam aaq ?_)) uC);rw[pQ];exact r
   have w:Tk L g hs (lz h) lp:=Tk.hyp e (.refl (Q6 g));have hi:=SL b i
   have A:Tk L g hs (.mk 18 0 .z [s] [] []) (Fm.eG 0 (J_ s t) gv):=by
    rw[hi];have l:=hF.put (a:=gv) .zero;rw[hi] at l
    have u:(vJ s t gv).ok=true:=by cases l with|eq _ h=>exact h.ok
    exact(Tk.refl b).cv (.eq (.refl b.ok) (Pq b u).symm)
   have m:=hF.put (a:=nE gv) (.succ .zero);have:=Tk.subst hF w A;rw[hi] at this m
   have u:(vJ s t (nE gv)).ok=true:=by cases m with|eq _ h=>exact h.ok
   exact this.cv (.eq (.refl b.ok) (Pn b i u))
  |@two _ _ k x y v b i=>
   rcases v with rfl|rfl
   ·rw[pK,bX rfl];simp only[qK,AK];exact .Lc (zh d n g x h hs b e) (zh d n g y h hs i e)
   ·rw[pK,bV aaq,bX rfl];simp only[qK,AK];exact .qV b.ty (zh d n g y (h+1) (hs++[x]) i (by rw[List.reverse_append];simpa using e))
  |@q _ _ k s x v c b=>
   rcases v with rfl|rfl
   ·rw[pK,bV aaq,bV aaq,bX rfl];simp only[qK];refine .allI c (zh d n (g++[s]) x h _ b ?_);rw[<-List.map_reverse,sw,e];simp[Yq]
   ·rw[pK,bV aaq,bV aaq,bV aaq,bX rfl];simp only[qK]
    have B:Ke n g (Fm.eG 0 x (wA s)):=by
     have:=b.eG g s [] (wA s) aas (d g s c);simpa using this
    exact .exI (d g s c) (.q VW c b.ty) b.ty (zh d n g _ h hs B e)
def ZJ(a:Fm)(st ex:Pf)(T:Fm):Pf:=
 ld (dt (dt T (dt (dt lp a) a)) (dt (dt lp a) a)) (mr st (ld (dt T a)
  (mr (mr (lz 1) (ld T (ld (dt lp a) (mr (lz 2) (lz 1))))) (ld lp (mr (ld lp ex) (lz 0))))))
def Yb{L:List Fm}{g:List Ty}{hs:List Fm}{a T:Fm}{st ex:Pf}(c:fg g a)(d:fg g T)(e:∀hs,Tk L g hs st (dt (dt (dt T a) a) T))(hex:∀hs,Tk L g (hs++[lp]) ex a):Tk L g hs (ZJ a st ex T) (dt (dt (dt T (dt (dt lp a) a)) (dt (dt lp a) a)) T):=by
 have hF:=Q6 g;have h:=jt (jt hF c) c;have i:=jt (jt d h) h;have j:=jt d c;have f:=jt hF c;have b:∀hs,Tk L g (hs++[dt T a]++[T]++[dt lp a]) (mr (lz 2) (lz 1)) a:=λhs=>.sh (.XI j) (.FE d);have k:∀hs,Tk L g (hs++[dt (dt T (dt (dt lp a) a)) (dt (dt lp a) a)]++[dt T a]) (mr (lz 1) (ld T (ld (dt lp a) (mr (lz 2) (lz 1))))) (dt (dt lp a) a):=λhs=>.sh (.FE i) (.qV d (.qV f (b _)));exact .qV i (.sh (e _) (.qV j (.sh (k _) (.qV hF (.sh (.qV hF (hex _)) (.Pj hF))))))
def Ya{a f:Fm}(b:a.up 0 0=a):ku a (dt (dt (dt f lp) lp) f) 0=dt (dt (dt (ku a f 0) (dt (dt lp a) a)) (dt (dt lp a) a)) (ku a f 0):=by
 have c:ku a lp 0=dt (dt lp a) a:=by
  unfold lp;rw[Ar,show((0:Nat):Int)=0 from rfl,b]
 unfold dt at*;rw[wI (.inr rfl),wI (.inr rfl),wI (.inr rfl),c]
end Go.dG
namespace Go.dG
open Go
def Wc{L:List Fm}{q:Sq}{P:Pf}(h:AW L q)(a:P.wt<=1000000000)(he:P.err≠0):kK L q P=some (⟨eI,[]⟩,P.err):=by
 have e:MY L q P=.inr P.err:=by unfold MY;rw[eU h.zero,gG he]
 rcases AH h.b a with⟨d,_,q1,_,c⟩|⟨f,m,l,q1,_⟩
 ·rw[e] at q1;rw[c,Sum.inr.inj q1]
 ·rw[e] at q1;cases q1
def abm{L:List Fm}{q:Sq}{P:Pf}(h:AW L q)(a:P.wt<=1000000000)(he:P.err=0){e:Int}(hi:P.inf L q.aed q.aeg=.inr e):kK L q P=some (⟨eI,[]⟩,e):=by
 rcases AH h.b a with⟨d,_,q1,_,c⟩|⟨f,m,l,q1,_⟩
 ·rw[Ey h he,hi] at q1;rw[c,Sum.inr.inj q1]
 ·rw[Ey h he,hi] at q1;cases q1
def XU{L:List Fm}{q:Sq}{P:Pf}(h:AW L q)(c:P.wt<=1000000000)(he:P.err=0){f:Fm}{m:Nat}(hi:P.inf L q.aed q.aeg=.inl (f,m)):∃l,kK L q P=some (⟨f,l⟩,0)/\Us l m/\Hg q.aed f:=by
 rcases AH h.b c with⟨e,_,q1,_,a⟩|⟨g,i,l,q1,_,a,hu,d,_⟩
 ·rw[Ey h he,hi] at q1;cases q1
 ·rw[Ey h he,hi] at q1;obtain⟨rfl,rfl⟩:=fI (wx q1);exact⟨l,a,hu,d⟩
def Fm.TH{f:Fm}(h:f.ok=true):f.err=0\/f.err=4:=by
 unfold Fm.err;rw[bX h]
 split
 ·exact .inr rfl
 ·exact .inl rfl
def Tk.acc{L:List Fm}{q:Sq}(c:AW L q){P:Pf}(hw:P.wt<=1000000000)(n:P.ok=true){b:Fm}(i:fg q.aed b)(d:b.wt<=1000000000)(h:Tk L q.aed q.aeg P b):∃e,lZ L q P b=some e/\(e=0\/sn e):=by
 have no:∀e,sn e->kK L q P=some (⟨eI,[]⟩,e)->∃e,lZ L q P b=some e/\(e=0\/sn e):=by
  intro e he p;refine⟨e,?_,.inr he⟩;unfold lZ;rw[p,bW,bX (by rw[cf];exact RE he)]
 by_cases he:P.err=0
 ·obtain⟨_,r,_⟩:=fV he;rcases h c ⟨n,r⟩with⟨e,j,k⟩|⟨o,z,j,k,A⟩
  ·exact no e j (abm c hw he k)
  ·obtain⟨l,s,_,g1⟩:=XU c hw he j;have f:=c.nv;have u:=g1.wt;unfold lZ;rw[s,bW,bV nz,qG d VW (λt v=>by have:=dd (c.ctx t v);omega),bT];rcases Fm.TH i.ok with hbe|hbe
   ·have g:Hg q.aed b:=⟨hbe,i⟩
    have w:DG b q.aed=0:=by
     unfold DG;rw[zo c.ctx f,bV aaq,bV (λh=>h hbe)];exact qL i c.ctx (by have:=g.aeb;omega)
    rw[w,bV nz];show∃e,(bU (kI o b) λm=>some m)=some e/\_;rw[(JC (a:=o) (b:=b) VW d).2,FH g1 g VW VW];exact⟨_,rfl,k.B8⟩
   ·have x:DG b q.aed=4:=by
     unfold DG;rw[zo c.ctx f,bV aaq,bX (by rw[hbe];decide),hbe]
    rw[x,bX aaq];exact⟨4,rfl,.inr Db⟩
 ·have y:P.err=4:=by
   unfold Pf.err at he|-;rw[bX n] at he|-
   split
   ·rename_i h;rw[bX h] at he;exact absurd rfl he
   ·rfl
  exact no 4 Db (by rw[<-y];exact Wc c hw he)
end Go.dG
set_option maxRecDepth 20000
namespace Go.dG
open Go
inductive Cj where
 |eq (a b:Tm)|and (x y:Cj)
def Cj.fm:Cj->Fm
 |.eq a b=>.mk 1 .z [a,b] []|.and x y=>.mk 2 .z [] [x.fm,y.fm]
def Cj.Ty(g:List Ty):Cj->Prop
 |.eq a b=>cJ g a .nat/\cJ g b .nat|.and x y=>x.Ty g/\y.Ty g
def Cj.pu{g:List dG.Ty}:∀{c:Cj},c.Ty g->yl g c.fm
 |.eq a b,h=>.eq h.1 h.2|.and x y,h=>.two (.inl rfl) (Cj.pu h.1) (Cj.pu h.2)
section
variable{L:List Fm} {g:List Ty}
end
end Go.dG
set_option maxRecDepth 20000
namespace Go.dG
open Go
def RY(i b:Int)(s:Bool):kH i b s=some (s&&decide (i<=536870912)):=by
 unfold kH DU;cases s<;>simp
def P8:∀(n:Nat) (t:Tm) (b:Int) (s:Bool),t.aeb<=n->t.aeb<=10000000->t.ok=true->fU n t b (λ(s:Bool) (e:Int) (f:Int)=>kH e f s) s=some (s&&t.aef 536870912):=by
 intro n
 induction n with
 |zero=>intro t b s h;have:=t.cw;omega
 |succ n w=>
  intro t b s hn x d;cases t with
  |mk k i ty l=>
   rw[Tm.bY] at hn x;have y:=eV Tm.aeb l λt _=>t.cw;rw[Tm.ei] at d;simp only[eg,im] at d
   have loop:∀(us:List Tm) (g:Int) (j:Nat) (v:Bool),(∀t∈us,t∈l)->cY (λ(z:Int) (m:Tm)=>(λ(v28:Bool)=>
      bU (fU n m g (λ(s:Bool) (e:Int) (f:Int)=>kH e f s) v28) λo=>
      some ((.next o):dP Bool Bool))) us j v=some (.inl (v&&us.all (Tm.aef 536870912))):=by
    intro us g
    induction us with
    |nil=>intro j v _;simp|cons t us p=>
     intro j v hm;have c:=hm t aas;have A:=cy Tm.aeb c;rw[cO,w t g v VW VW (d.2 t c)];simp only[bT,cU];rw[p (j+1) _ (λu hu=>hm u (by simp[hu])),vq,No]
   rw[fU,Tm.dp];have hinv:=Tm.jz (k:=k) (i:=i) (s:=ty) (l:=l) (by rw[Tm.ei];simp only[eg,im];exact d);simp only[Tm.ck,Tm.cq,Tm.dQ,cg,ch (l:=l) VW,b9,bT];have a:=loop l (df (cn k 2) (c8 .i64 b 1) b) 0
   by_cases q:k=1
   ·have r:cn k 1=true:=by rw[q];rfl
    simp only[r,if_true];rw[RY];simp only[bT];rw[a _ (λt h=>h)];simp[No]
   ·have r:cn k 1=false:=by simpa[cn] using q
    have hi:=hinv.2.2.1 q;simp only[r,gX,fL];rw[a _ (λt h=>h)];simp[hi]
def Oc{t:Tm}(a:t.ok=true)(hn:t.aeb<=10000000):oC t=some (t.aef 536870912):=by
 unfold oC oI;rw[P8 FU t 0 true (by rw[cP];omega) hn a];simp
def GL:∀(n:Nat) (f:Fm) (b:Int) (s:Bool),f.aeb<=n->f.aeb<=10000000->f.ok=true->gU n f b (λ(s:Bool) (i:Tm) (m:Int)=>gM i m s) s=some (s&&f.aef 536870912):=by
 intro n
 induction n with
 |zero=>intro f b s h;have:=f.cw;omega
 |succ n C=>
  intro f b s hn D E;cases f with
  |mk k ty ts l=>
   rw[Fm.bY] at hn D;have F:=eV Tm.aeb ts λt _=>t.cw;have G:=eV Fm.aeb l λt _=>t.cw;obtain⟨_,o,p⟩:=Fm.m_ E
   have one:∀t∈ts,∀(e:Int) (v:Bool),gM t e v=some (v&&t.aef 536870912):=by
    intro t A e v;have q:=cy Tm.aeb A;unfold gM;cases v with
    |true=>simp[Oc (o t A) VW]|false=>simp
   have c:∀(us:List Tm) (j:Nat) (v:Bool),(∀t∈us,t∈ts)->cY (λ(H:Int) (r:Tm)=>(λ(w:Bool)=>
      bU (gM r b w) λx=>
      some ((.next x):dP Bool Bool))) us j v=some (.inl (v&&us.all (Tm.aef 536870912))):=by
    intro us
    induction us with
    |nil=>intro j v _;simp|cons t us d=>
     intro j v hm;rw[cO,one t (hm t aas)];simp only[bT,cU];rw[d (j+1) _ (λu hu=>hm u (by simp[hu])),vq,No]
   have a:∀(e:Int) (us:List Fm) (j:Nat) (v:Bool),(∀t∈us,t∈l)->cY (λ(I:Int) (y:Fm)=>(λ(v72:Bool)=>
      bU (gU n y e (λ(s:Bool) (i:Tm) (m:Int)=>gM i m s) v72) λz=>
      some ((.next z):dP Bool Bool))) us j v=some (.inl (v&&us.all (Fm.aef 536870912))):=by
    intro e us
    induction us with
    |nil=>intro j v _;simp|cons t us d=>
     intro j v hm;have g:=hm t aas;have q:=cy Fm.aeb g;rw[cO,C t e v VW VW (p t g)];simp only[bT,cU];rw[d (j+1) _ (λu hu=>hm u (by simp[hu])),vq,No]
   rw[gU,Fm.dp];simp only[Fm.ck,Fm.cq,Fm.eY,cg];rw[ch VW,b9,c ts 0 s (λt h=>h)];simp only[bT,ca];rw[jw,bT]
   by_cases B:hI k=true
   ·rw[bX B,ch VW,b9,a _ l 0 _ (λt h=>h)];simp[No]
   ·rw[bV B,ch VW,b9,a _ l 0 _ (λt h=>h)];simp[No]
def Mi{f:Fm}(a:f.ok=true)(hn:f.aeb<=10000000):kR f=some (f.aef 536870912):=by
 unfold kR;rw[GL FU f 0 true (by rw[cP];omega) hn a];simp
def Po{M b:Int}(a:0<=b)(t:Tm):∀f,t.aef M=true->(t.up f b).aef (M+b)=true:=yT a t
def Fm.yT{M b:Int}(c:0<=b)(t:Fm):∀f,t.aef M=true->(t.up f b).aef (M+b)=true:=by
 induction t using Fm.ind with
 |h k s ts l d=>
  intro f h;rw[Fm.dp] at h;simp only[eg,im] at h;rw[Fm.fD,Fm.dp];simp only[eg,im,ll,forall_exists_index,and_imp];refine⟨?_,?_⟩
  ·rintro _ x a rfl;exact Po c x f (h.1 x a)
  ·rintro _ x a rfl;exact d x a _ (h.2 x a)
def LU:∀n,j9 n=jD n:=by
 intro n
 induction n with
 |zero=>funext a;rfl|succ n b=>funext a;rw[j9,jD,b]
structure QI (a:Fm):Prop where
 ok:a.ok=true
 aeb:a.aeb<=4096
 aef:a.aef 536870912=true
def QI.up{a:Fm}(h:QI a){k:Nat}:(a.up 0 k).ok=true/\(a.up 0 k).aeb=a.aeb/\(a.up 0 k).aef (536870912+k)=true:=⟨by rw[Fm.xM _ _ _ VW VW];exact h.ok,Fm.lS _ _ _,Fm.yT VW a 0 h.aef⟩
def wT{a:Fm}(h:QI a):∀(k:Nat),k<=10000000->lj k a=some (a.up 0 k)
 |0,_=>by rw[lj];exact congrArg some (Fm.pD a).symm|k+1,d=>by
  obtain⟨b,e,c⟩:=h.up (k:=k);rw[lj,wT h k VW];simp only[bT];rw[kn b (by have:=h.aeb;omega) (Fm.gT _ VW c) VW VW VW VW,Fm.JG a VW];rfl
def P'{a:Fm}(h:QI a){k:Nat}(c:k<=10000000):tz (a.up 0 k)=some (a.up 0 ((k+1:Nat):Int)):=by
 obtain⟨d,e,b⟩:=h.up (k:=k);have:=h.aeb;unfold tz;rw[yv FU (a.up 0 k) 0 1 (by rw[cP];omega) VW VW VW VW VW (Fm.gT _ VW b),Fm.JG a VW];rfl
mutual
def Fm.tr(c:Nat):Fm->Nat
 |.mk k _ ts l=>if k=1 then 3+cm Tm.aeb ts+2*c else if k=5 then 3+2*c+Fm.TE c l else 1+Fm.TE c l
def Fm.TE(c:Nat):List Fm->Nat
 |[]=>0|x::l=>Fm.tr c x+Fm.TE c l
end
def Fm.uR(c:Nat)(k:Int)(s:Ty)(ts:List Tm)(l:List Fm):(Fm.mk k s ts l).tr c=if k=1 then 3+cm Tm.aeb ts+2*c else if k=5 then 3+2*c+Fm.TE c l else 1+Fm.TE c l:=by rw[Fm.tr]
def Fm.y9(c:Nat)(x:Fm):Fm.TE c [x]=x.tr c:=by simp[Fm.TE]
def Fm.I5(c:Nat)(x y:Fm):Fm.TE c [x,y]=x.tr c+y.tr c:=by simp[Fm.TE]
mutual
def Fm.B5:Fm->Bool
 |.mk k _ _ l=>decide (k=6\/k=7)||Fm.u_ l
def Fm.u_:List Fm->Bool
 |[]=>false|x::l=>Fm.B5 x||Fm.u_ l
end
def Fm.qT(k:Int)(s:Ty)(ts:List Tm)(l:List Fm):(Fm.mk k s ts l).B5=(decide (k=6\/k=7)||Fm.u_ l):=by rw[Fm.B5]
def vB{k:Int}{x y:Fm}(a:k=2\/k=3)(b:x.ok=true)(hy:y.ok=true):(Fm.mk k (Ty.mk 0 []) [] [x,y]).ok=true:=by
 rw[Fm.ei];rcases a with rfl|rfl<;>simp[b,hy,Fm.node,Ty.i_]
def MG{s:Ty}{x:Fm}(hs:s.err=0)(a:x.ok=true):(Fm.mk 4 s [] [x]).ok=true:=by
 rw[Fm.ei];simp[a,hs,Fm.node,hI]
def gm{k:Int}{s:Ty}{x y:Fm}:(Fm.mk k s [] [x,y]).aeb=1+x.aeb+y.aeb:=by rw[Fm.bY];simp[cm];omega
def mm{k:Int}{s:Ty}{x:Fm}:(Fm.mk k s [] [x]).aeb=1+x.aeb:=by rw[Fm.bY];simp[cm]
def pP{x:Fm}(a:x.ok=true)(hn:x.aeb<=10000000):x.wt<=1000000000:=by have:=Fm.er x a;omega
def wK{x y:Fm}(c:x.ok=true)(hy:y.ok=true)(a:x.aeb<=10000000)(b:y.aeb<=10000000):dJ x y=some (Fm.mk 3 (Ty.mk 0 []) [] [x,y])/\pZ x y=some (Fm.mk 3 (Ty.mk 0 []) [] [x,y]):=by
 refine⟨rfl,?_⟩;unfold pZ;rw[vj (pP c a) (pP hy b)];rfl
def KH{s:Ty}{x:Fm}(hs:s.err=0)(b:x.ok=true)(a:x.aeb<=10000000):fx 4 s x=some (Fm.mk 4 s [] [x])/\iW 4 s x=some (Fm.mk 4 s [] [x]):=by
 refine⟨rfl,?_⟩;have:=(Ty.fV hs).2;unfold iW;rw[gI VW,nZ (pP b a)];rfl
def TEq(a f:Fm):Prop:=f.B5=false->∀(k b c:Nat),k+f.aeb<=1000000->f.aeb<=b->2*f.aeb<=c->f.tr a.aeb<=10000000->∃r,ep b a f k=some r/\nM c (a.up 0 k) f=some r/\r.ok=true/\r.aeb=f.tr a.aeb
def aaV{a:Fm}(g:QI a)(f:Fm)(C:f.ok=true):TEq a f:=by
 have D:=g.aeb;refine Fm.lC (p:=TEq a) ?_ ?_ ?_ f C
 ·intro x y z hy _ k c d t u v l;obtain⟨u1,u2,u3⟩:=g.up (k:=k)
  have q:(Fm.mk 1 (Ty.mk 0 []) [x,y] []).ok=true:=by rw[Fm.ei];simp[z,hy,Fm.node,Ty.i_]
  have hn:(Fm.mk 1 (Ty.mk 0 []) [x,y] []).aeb=1+cm Tm.aeb [x,y]:=by rw[Fm.bY];simp[cm]
  have b:(Fm.mk 1 (Ty.mk 0 []) [x,y] []).tr a.aeb=3+cm Tm.aeb [x,y]+2*a.aeb:=by rw[Fm.uR];simp
  rw[b] at l;obtain⟨c,rfl⟩:∃m,c=m+1:=⟨c-1,VW⟩;obtain⟨d,rfl⟩:∃m,d=m+1:=⟨d-1,VW⟩;obtain⟨i1,i2⟩:=wK q u1 VW VW;have o1:=vB (.inr rfl) q u1
  have n1:(Fm.mk 3 (Ty.mk 0 []) [] [Fm.mk 1 (Ty.mk 0 []) [x,y] [],a.up 0 k]).aeb=2+cm Tm.aeb [x,y]+a.aeb:=by rw[gm,hn,u2];omega
  obtain⟨i3,i4⟩:=wK o1 u1 VW VW;refine⟨_,?_,?_,vB (.inr rfl) o1 u1,?_⟩
  ·rw[ep];simp only[Fm.cq,eu,if_true];rw[wT g k VW];simp only[bT];rw[i1];simp only[bT];rw[i3];rfl
  ·rw[nM];simp only[Fm.cq,eu,if_true];rw[i2];simp only[bT];rw[i4];rfl
  ·rw[gm,n1,u2,b];omega
 ·intro n x y o z hy w E hu k c d t u v l
  have e:x.B5=false/\y.B5=false:=by
   rw[Fm.qT] at hu;simpa[Fm.u_] using(Jg.1 hu).2
  have b:(Fm.mk n (Ty.mk 0 []) [] [x,y]).tr a.aeb=1+(x.tr a.aeb+y.tr a.aeb):=by
   rw[Fm.uR,Fm.I5];rcases o with rfl|rfl<;>simp
  rw[b] at l;rw[gm] at t u v;have:=x.cw;have:=y.cw;obtain⟨c,rfl⟩:∃m,c=m+1:=⟨c-1,VW⟩;obtain⟨d,rfl⟩:∃m,d=m+1:=⟨d-1,VW⟩;obtain⟨F,a1,a2,a3,a4⟩:=w e.1 k c d VW VW VW VW;obtain⟨G,H,I,B,J⟩:=E e.2 k c d VW VW VW VW
  have h:df (cn n 2) true (cn n 3)=true:=by rcases o with rfl|rfl<;>rfl
  have i:cn n 1=false:=by rcases o with rfl|rfl<;>rfl
  refine⟨Fm.mk n (Ty.mk 0 []) [] [F,G],?_,?_,vB o a3 B,?_⟩
  ·rw[ep];simp only[Fm.cq,Fm.ck,i,h,gX,fL,if_true];simp only[cD,dV,gf,kW,bT];rw[a1];simp only[bT];rw[H];rfl
  ·rw[nM];simp only[Fm.cq,Fm.ck,i,h,gX,fL,if_true];simp only[cD,dV,gf,kW,bT];rw[a2];simp only[bT];rw[I];simp only[bT];rw[vj (pP a3 VW) (pP B VW)];rfl
  ·rw[gm,a4,J,b];omega
 ·intro n s x o hs z w hu k c d t u v l;rw[Fm.qT] at hu;have j:=(Jg.1 hu).1
  have e:x.B5=false:=by simpa[Fm.u_] using(Jg.1 hu).2
  simp only[M6] at j;rw[mm] at t u v;have:=x.cw;obtain⟨u1,u2,u3⟩:=g.up (k:=k);obtain⟨v1,v2,v3⟩:=g.up (k:=k+1);have up:=P' g (k:=k) VW;obtain⟨c,rfl⟩:∃m,c=m+1:=⟨c-1,VW⟩;obtain⟨d,rfl⟩:∃m,d=m+1+1:=⟨d-2,VW⟩;rcases o with rfl|rfl|rfl|rfl
  ·have b:(Fm.mk 4 s [] [x]).tr a.aeb=1+x.tr a.aeb:=by rw[Fm.uR,Fm.y9];simp
   rw[b] at l;obtain⟨r,a1,a2,a3,a4⟩:=w e (k+1) c (d+1) VW VW VW VW;obtain⟨q1,A⟩:=KH hs a3 VW;refine⟨_,?_,?_,MG hs a3,?_⟩
   ·rw[ep];simp only[Fm.cq,Fm.ck,Fm.cQ,show cn 4 1=false from rfl,show df (cn 4 2) true (cn 4 3)=false from rfl,show cn 4 4=true from rfl,gX,fL,if_true];simp only[cD,gf,bT];rw[a1];simp only[bT];rw[q1];rfl
   ·rw[nM];simp only[Fm.cq,Fm.ck,Fm.cQ,show cn 4 1=false from rfl,show df (cn 4 2) true (cn 4 3)=false from rfl,show cn 4 4=true from rfl,gX,fL,if_true];rw[up];simp only[cD,gf,bT];rw[a2];simp only[bT];rw[A];rfl
   ·rw[mm,a4,b]
  ·have b:(Fm.mk 5 s [] [x]).tr a.aeb=3+2*a.aeb+x.tr a.aeb:=by rw[Fm.uR,Fm.y9];simp
   rw[b] at l;obtain⟨r,a1,a2,a3,a4⟩:=w e (k+1) c d VW VW VW VW;obtain⟨i1,i2⟩:=wK a3 v1 VW VW;have o1:=vB (.inr rfl) a3 v1
   have n1:(Fm.mk 3 (Ty.mk 0 []) [] [r,a.up 0 ((k+1:Nat):Int)]).aeb=1+r.aeb+a.aeb:=by rw[gm,v2]
   obtain⟨q1,A⟩:=KH hs o1 VW;have o2:=MG hs o1
   have n2:(Fm.mk 4 s [] [Fm.mk 3 (Ty.mk 0 []) [] [r,a.up 0 ((k+1:Nat):Int)]]).aeb=2+r.aeb+a.aeb:=by rw[mm,n1];omega
   obtain⟨i3,i4⟩:=wK o2 u1 VW VW;refine⟨_,?_,?_,vB (.inr rfl) o2 u1,?_⟩
   ·rw[ep];simp only[Fm.cq,Fm.ck,Fm.cQ,show cn 5 1=false from rfl,show df (cn 5 2) true (cn 5 3)=false from rfl,show cn 5 4=false from rfl,gX,fL,if_true];simp only[cD,gf,bT];rw[a1];simp only[bT];rw[wT g (k+1) VW];simp only[bT];rw[i1];simp only[bT];rw[q1];simp only[bT];rw[wT g k VW];simp only[bT];rw[i3];rfl
   ·rw[nM];simp only[Fm.cq,show cn 5 1=false from rfl,show df (cn 5 2) true (cn 5 3)=false from rfl,show cn 5 4=false from rfl,gX,fL,if_true];rw[rI,up];simp only[Fm.ck,Fm.cQ,cD,gf,bT];rw[a2];simp only[bT];rw[i2];simp only[bT];rw[A];simp only[bT];rw[i4];rfl
   ·rw[gm,n2,u2,a4,b];omega
  ·exact(j (.inl rfl)).elim
  ·exact(j (.inr rfl)).elim
def RT{h:Tm->Int->Option Tm}{ψ:Tm->Int->Tm}(I:∀t b,t.ok=true->t.aeb<=10000000->h t b=some (ψ t b)):∀(n:Nat) (f:Fm) (b:Int),f.aeb<=n->f.aeb<=10000000->f.ok=true->0<=b->b+f.aeb<=1000000000->cN n f b (λ(s:Unit) (q:Tm) (w:Int)=>nc (h q w) s) ()=some (f.B_ ψ b,()):=by
 intro n
 induction n with
 |zero=>intro f b h;have:=f.cw;omega
 |succ n J=>
  intro f b hn K L R A;cases f with
  |mk k s ts l=>
   rw[Fm.bY] at hn K A;have M:=eV Tm.aeb ts λt _=>t.cw;have N:=eV Fm.aeb l λt _=>t.cw;obtain⟨O,B,C⟩:=Fm.m_ L;rw[cN,Fm.xj];simp only[Fm.cQ,Fm.ck,Fm.cq,Fm.eY,cg];rw[jJ VW,bT,ch VW,b9];have P:=vV k
   have m:∀(us:List Tm) (j:Nat) (v:List Tm),(∀t∈us,t∈ts)->v.length+us.length<=50000000->cY (λ(Q:Int) (D:Tm)=>(sa λ(v91:List Tm) (E:Unit)=>
      b7 (nc (h D b) E) λi x=>
      eB (dZ v91 [i])<|some ((.next ((eA v91 [i]),x)):dP ((List Tm)×Unit) (Fm×Unit)))) us j (v,())=some (.inl (v++us.map (λt=>ψ t b),())):=by
    intro us
    induction us with
    |nil=>intro j v _ _;simp|cons t us o=>
     intro j v hm F;simp only[j0] at F;have d:=hm t aas;have G:=cy Tm.aeb d;rw[cO];simp only[sa];rw[I t b (B t d) VW,y0,bW,de aaQ,b9];simp only[bT,cU];rw[eP];have:=o (j+1) (v++[ψ t b]) (λu hu=>hm u (by simp[hu])) aaQ;rw[this];simp
   rw[m ts 0 [] (λt h=>h) aaQ,bT];simp only[ca,sa];rw[jw,bT]
   have p:∀(us:List Fm) (j:Nat) (v:List Fm),(∀t∈us,t∈l)->v.length+us.length<=50000000->cY (λ(y:Int) (e:Fm)=>(sa λ(a:List Fm) (v212:Unit)=>
      b7 (cN n e (b+qB k) (λ(s:Unit) (q:Tm) (w:Int)=>nc (h q w) s) v212) λc g=>
      eB (dZ a [c])<|some ((.next ((eA a [c]),g)):dP ((List Fm)×Unit) (Fm×Unit)))) us j (v,())=some (.inl (v++us.map (Fm.B_ ψ (b+qB k)),())):=by
    intro us
    induction us with
    |nil=>intro j v _ _;simp|cons t us o=>
     intro j v hm F;simp only[j0] at F;have d:=hm t aas;have G:=cy Fm.aeb d;rw[cO];simp only[sa];rw[J t (b+qB k) VW VW (C t d) VW VW,bW,de aaQ,b9];simp only[bT,cU];rw[eP];have:=o (j+1) (v++[t.B_ ψ (b+qB k)]) (λu hu=>hm u (by simp[hu])) aaQ;rw[this];simp
   have fin:(eB (cZ l)<|bU (cY (λ(y:Int) (e:Fm)=>(sa λ(a:List Fm) (v212:Unit)=>
      b7 (cN n e (b+qB k) (λ(s:Unit) (q:Tm) (w:Int)=>nc (h q w) s) v212) λc g=>
      eB (dZ a [c])<|some ((.next ((eA a [c]),g)):dP ((List Fm)×Unit) (Fm×Unit)))) l 0 ([],())) (dR (sa λ(a:List Fm) (v212:Unit)=>some ((Fm.mk k s ([]++ts.map λt=>ψ t b) a),v212)) (λr=>some r)))=some (Fm.mk k s (ts.map λt=>ψ t b) (l.map (Fm.B_ ψ (b+qB k))),()):=by
    rw[ch VW,b9,p l 0 [] (λt h=>h) aaQ,bT];simp
   by_cases z:hI k=true
   ·rw[bX z]
    have H:b+qB k=b+1:=by unfold qB;rw[bX z]
    rw[H] at fin|-;rw[cX VW VW];exact fin
   ·rw[bV z]
    have H:b+qB k=b:=by unfold qB;rw[bV z];omega
    rw[H] at fin|-;exact fin
def SS{f:Fm}(a:f.ok=true)(hn:f.aeb<=10000000):iq f=some f:=by
 unfold iq;rw[RT (h:=iS) (ψ:=λt _=>t) (λt b h c=>?_) FU f 0 (by have:=cP;omega) hn a VW VW]
 ·rw[bW,Fm.Rt]
 ·unfold iS;have:=Tm.er t h;rw[y5 FU t (by rw[cP];omega) VW h];rfl
def QO{c:Nat}(a:c<=1000000):zL .i64 2 (c:Int)=((2*c:Nat):Int):=by unfold zL;rw[IntKind.wrap_i64];omega
def IF{a b c:Int}(g:0<=a)(d:a<=1000000000000)(h:0<=b)(e:b<=1000000000000)(i:0<=c)(f:c<=1000000000000):c8 .i64 (c8 .i64 a b) c=a+b+c:=by
 rw[cX (a:=a) (b:=b) VW VW,cX VW VW]
def G4(n:Nat):Int:=if n<=4097 then(n:Int)else 4097
def S0(n:Nat):Pe (n:Int) 4097=G4 n:=by unfold Pe G4;split<;>split<;>omega
def By(n:Nat):0<=G4 n/\G4 n<=4097/\(G4 n=n/\n<=4097\/G4 n=4097/\4097<n):=by unfold G4;split<;>omega
def FL{n:Nat}{v:Int}(a:v<=n)(b:v=n\/4097<=v):Pe v 4097=G4 n:=by unfold Pe G4;split<;>split<;>omega
def abv(c:Nat)(f:Fm):Prop:=f.B5=false->f.aeb<=4096->∀n,f.aeb<=n->gh n f c=some (f.tr c:Int)/\kG n f c=some (G4 (f.tr c))/\f.tr c<=10000*f.aeb
def size_eq{c:Nat}(H:c<=4096)(f:Fm)(B:f.ok=true):abv c f:=by
 have h:=QO (c:=c) VW
 have e:∀{g:Fm},g.ok=true->g.aeb<=4096->g.err=0:=λ{g} C I=>by unfold Fm.err;rw[bX C,bV VW]
 refine Fm.lC (p:=abv c) ?_ ?_ ?_ f B
 ·intro x y k hy _ q n hn
  have b:(Fm.mk 1 (Ty.mk 0 []) [x,y] []).ok=true:=by rw[Fm.ei];simp[k,hy,Fm.node,Ty.i_]
  have d:(Fm.mk 1 (Ty.mk 0 []) [x,y] []).aeb=1+cm Tm.aeb [x,y]:=by rw[Fm.bY];simp[cm]
  have a:(Fm.mk 1 (Ty.mk 0 []) [x,y] []).tr c=3+cm Tm.aeb [x,y]+2*c:=by rw[Fm.uR];simp
  have hw:=Fm.er _ b;have he:=e b q;have J:=(Fm.mk 1 (Ty.mk 0 []) [x,y] []).cw;obtain⟨n,rfl⟩:∃m,n=m+1:=⟨n-1,VW⟩;refine⟨?_,?_,by rw[a];omega⟩
  ·rw[gh,eM VW,he];simp only[bW,if_true,Fm.cq,show cn 1 1=true from rfl];rw[h,a,d,IF VW VW VW VW VW VW];exact congrArg some VW
  ·rw[kG];simp only[cg,Fm.cq,show cn 1 1=true from rfl,if_true];rw[mx FU _ (by rw[cP];omega) VW];simp only[bT];rw[h,d,IF VW VW VW VW VW VW,a];rw[show((1+cm Tm.aeb [x,y]:Nat):Int)+((2*c:Nat):Int)+2=((3+cm Tm.aeb [x,y]+2*c:Nat):Int) by omega,S0]
 ·intro r x y o k hy t D hu q n hn;have b:=vB o k hy;rw[gm] at q hn
  have i:x.B5=false/\y.B5=false:=by
   rw[Fm.qT] at hu;simpa[Fm.u_] using(Jg.1 hu).2
  have a:(Fm.mk r (Ty.mk 0 []) [] [x,y]).tr c=1+(x.tr c+y.tr c):=by
   rw[Fm.uR,Fm.I5];rcases o with rfl|rfl<;>simp
  have u:=x.cw;have E:=y.cw;have d:(Fm.mk r (Ty.mk 0 []) [] [x,y]).aeb=1+x.aeb+y.aeb:=gm;have hw:=Fm.er _ b;have he:=e b VW;obtain⟨n,rfl⟩:∃m,n=m+1:=⟨n-1,VW⟩;obtain⟨a1,a2,a3⟩:=t i.1 VW n VW;obtain⟨F,G,K⟩:=D i.2 VW n VW
  have v:cn r 1=false:=by rcases o with rfl|rfl<;>rfl
  have w:cn r 5=false:=by rcases o with rfl|rfl<;>rfl
  refine⟨?_,?_,by rw[a,d];omega⟩
  ·rw[gh,eM VW,he];simp only[bW,if_true,Fm.cq,Fm.ck,v,w,gX,fL,cg,ch (l:=[x,y]) aas,b9];simp only[cO,lx,a1,F,bT,cU,ca];rw[a,IF VW VW VW VW VW VW];exact congrArg some VW
  ·rw[kG];simp only[cg,Fm.cq,Fm.ck,v,w,gX,fL,ch (l:=[x,y]) aas,b9];simp only[cO,lx,a2,G,bT,cU,ca];rw[a];obtain⟨z,A,c3⟩:=By (x.tr c);obtain⟨d1,d2,d3⟩:=By (y.tr c);rw[IF VW VW VW VW VW VW,FL (n:=1+(x.tr c+y.tr c)) VW VW]
 ·intro r s x o hs k t hu q n hn;rw[mm] at q hn;have u:=x.cw;rw[Fm.qT] at hu;have j:=(Jg.1 hu).1
  have i:x.B5=false:=by simpa[Fm.u_] using(Jg.1 hu).2
  simp only[M6] at j;obtain⟨n,rfl⟩:∃m,n=m+1:=⟨n-1,VW⟩;obtain⟨a1,a2,a3⟩:=t i VW n VW;rcases o with rfl|rfl|rfl|rfl
  ·have a:(Fm.mk 4 s [] [x]).tr c=1+x.tr c:=by rw[Fm.uR,Fm.y9];simp
   have d:(Fm.mk 4 s [] [x]).aeb=1+x.aeb:=mm;have b:=MG hs k;have hw:=Fm.er _ b;have he:=e b VW;refine⟨?_,?_,by rw[a,d];omega⟩
   ·rw[gh,eM VW,he];simp only[bW,if_true,Fm.cq,Fm.ck,show cn 4 1=false from rfl,show cn 4 5=false from rfl,gX,fL,cg,ch (l:=[x]) aas,b9];simp only[cO,lx,a1,bT,cU,ca];rw[a,cX VW VW];exact congrArg some VW
   ·rw[kG];simp only[cg,Fm.cq,Fm.ck,show cn 4 1=false from rfl,show cn 4 5=false from rfl,gX,fL,ch (l:=[x]) aas,b9];simp only[cO,lx,a2,bT,cU,ca];obtain⟨z,A,c3⟩:=By (x.tr c);rw[a,cX VW VW,FL (n:=1+x.tr c) VW VW]
  ·have a:(Fm.mk 5 s [] [x]).tr c=3+2*c+x.tr c:=by rw[Fm.uR,Fm.y9];simp
   have d:(Fm.mk 5 s [] [x]).aeb=1+x.aeb:=mm
   have b:(Fm.mk 5 s [] [x]).ok=true:=by rw[Fm.ei];simp[k,hs,Fm.node,hI]
   have hw:=Fm.er _ b;have he:=e b VW;refine⟨?_,?_,by rw[a,d];omega⟩
   ·rw[gh,eM VW,he];simp only[bW,if_true,Fm.cq,Fm.ck,show cn 5 1=false from rfl,show cn 5 5=true from rfl,gX,fL,cD,gf,bT,a1];rw[h,a,IF VW VW VW VW VW VW];exact congrArg some VW
   ·rw[kG];simp only[cg,Fm.cq,Fm.ck,show cn 5 1=false from rfl,show cn 5 5=true from rfl,gX,fL,if_true,cD,gf,bT,a2];obtain⟨z,A,c3⟩:=By (x.tr c);rw[h,a,IF VW VW VW VW VW VW,FL (n:=3+2*c+x.tr c) VW VW]
  ·exact(j (.inl rfl)).elim
  ·exact(j (.inr rfl)).elim
def XE:∀(n:Nat) (f:Fm),f.aeb<=n->f.aeb<=10000000->jD n f=some f.B5:=by
 intro n
 induction n with
 |zero=>intro f h;have:=f.cw;omega
 |succ n a=>
  intro f h g;cases f with
  |mk k s ts l=>
   rw[Fm.bY] at h g;have c:=eV Fm.aeb l λt _=>t.cw
   have d:∀us:List Fm,Fm.u_ us=us.any Fm.B5:=by
    intro us
    induction us with
    |nil=>rfl|cons x us a=>rw[Fm.u_,List.any_cons,a]
   rw[jD,Fm.qT,d]
   have hs:df (cn k 6) true (cn k 7)=decide (k=6\/k=7):=by
    by_cases m:k=6<;>by_cases o:k=7<;>simp[df,cn,m,o]
   simp only[Fm.ck,Fm.cq,cg,hs]
   have key:=oH (ρ:=Bool) (F:=λ(j:Int) (x:Fm) (_:Unit)=>bU (jD n x) λb=>if b then some (.ret true)else some (.next ())) (λx=>!x.B5) true l 0 (by
    intro j x p;have:=cy Fm.aeb p;rw[a x VW VW];simp only[bT]
    cases x.B5<;>rfl)
   cases q:decide (k=6\/k=7)with
   |true=>simp|false=>
    simp only[gX,fL,ch (l:=l) VW,b9,S7];rw[key]
    have:l.all (λx=>!x.B5)=!(l.any Fm.B5):=by
     clear key c h g
     induction l with
     |nil=>rfl|cons x l e=>rw[vq,List.any_cons,e,Bool.not_or]
    cases i:l.any Fm.B5 with
    |true=>rw[this,i];rfl|false=>rw[this,i];rfl
def nd(a f:Fm):Int:=
 if a.err=0 then if f.err=0 then if f.B5 then 10 else if a.aef 536870912 then if 4096<f.tr a.aeb then 4 else 0 else 1 else f.err else a.err
def W_{a:Fm}(he:a.err=0)(hw:a.wt<=1000000000):∃x,qt a 0 1=some (x,if a.aef 536870912 then 0 else 1):=by
 obtain⟨b,hn⟩:=Fm.d_ he;unfold qt;rw[fh hw,bT,he];simp only[show cF (0:Int) 0=false from rfl,gX,fL,cg];rw[show jZ 0=some true from rfl,show jZ 1=some true from rfl];simp only[bT,if_true];rw[Mi b VW,bT];cases c:a.aef 536870912 with
 |true=>
  simp only[show nT true=false from rfl,gX,fL,if_true];rw[kn b VW (Fm.gT _ VW c) VW VW VW VW];exact⟨_,rfl⟩
 |false=>exact⟨_,rfl⟩
def vW{e:Int}(h:¬e=0):cF e 0=true:=by simpa[cF] using h
def zu{a f:Fm}(e:a.wt<=1000000000)(j:f.wt<=1000000000):jY a f=some (nd a f)/\pk a f=some (nd a f):=by
 unfold jY pk nd;rw[fh e,fh j,iU e,iU j];simp only[bT]
 by_cases b:a.err=0
 ·by_cases d:f.err=0
  ·obtain⟨k,g⟩:=Fm.d_ b;obtain⟨h,i⟩:=Fm.d_ d;rw[LU,XE FU f (by rw[cP];omega) VW];simp only[b,d,show cF (0:Int) 0=false from rfl,gX,fL,if_true,bT];cases hu:f.B5 with
   |true=>exact⟨rfl,rfl⟩|false=>
    simp only[gX,fL];obtain⟨x,l⟩:=W_ b e;rw[l,yi FU a 536870912 (by rw[cP];omega) VW];simp only[bW,bT];cases m:a.aef 536870912 with
    |false=>exact⟨rfl,rfl⟩|true=>
     simp only[if_true,show cF (0:Int) 0=false from rfl,gX,fL];rw[eM e,bX b,mx FU a (by rw[cP];omega) VW];simp only[bW,bT];obtain⟨s1,s2,n⟩:=size_eq (c:=a.aeb) g f h hu i FU (by rw[cP];omega);rw[s1,s2];simp only[bT,eE];have o:=By (f.tr a.aeb)
     by_cases hs:4096<f.tr a.aeb
     ·rw[bX hs,bX VW,bX VW];exact⟨rfl,rfl⟩
     ·rw[bV hs,bV VW,bV VW];exact⟨rfl,rfl⟩
  ·simp only[b,show cF (0:Int) 0=false from rfl,gX,fL,if_true,vW d,d];exact⟨trivial,trivial⟩
 ·simp only[vW b,b,if_true,fL];exact⟨trivial,trivial⟩
def xq{a f:Fm}(h:nd a f=0):QI a/\f.err=0/\f.B5=false/\f.tr a.aeb<=4096:=by
 unfold nd at h
 split at h
 ·rename_i b
  split at h
  ·rename_i c
   split at h
   ·cases h
   ·rename_i hu
    split at h
    ·rename_i d
     split at h
     ·cases h
     ·exact⟨⟨(Fm.d_ b).1,(Fm.d_ b).2,d⟩,c,by simpa using hu,VW⟩
    ·cases h
  ·exact absurd h (by assumption)
 ·exact absurd h (by assumption)
def Se{a f:Fm}(b:QI a)(c:f.err=0)(hu:f.B5=false)(d:f.tr a.aeb<=4096):nd a f=0:=by
 unfold nd;rw[bX (Fm.nA b.ok b.aeb),bX c,bV (by simp[hu]),bX b.aef,bV VW]
def Dt{a f:Fm}(g:a.wt<=1000000000)(i:f.wt<=1000000000)(h:nd a f=0):∃r,ep FU a f 0=some r/\nM FU a f=some r/\iV a f=some (r,0)/\jI a f=some (r,0)/\r.ok=true/\r.aeb=f.tr a.aeb:=by
 obtain⟨j,k,l,q⟩:=xq h;obtain⟨b,m⟩:=Fm.d_ k;obtain⟨n,o⟩:=zu g i;obtain⟨r,e,c,d,p⟩:=aaV j f b l 0 FU FU VW (by rw[cP];omega) (by rw[cP];omega) VW;rw[show((0:Nat):Int)=0 from rfl,Fm.pD] at c;refine⟨r,e,c,?_,?_,d,p⟩
 ·unfold iV;rw[n,h,e];simp only[bT,show cF (0:Int) 0=false from rfl,gX,fL];rw[SS d VW];rfl
 ·unfold jI;rw[o,h,c];simp only[bT,show cF (0:Int) 0=false from rfl,gX,fL];rw[nZ (pP d VW)];rfl
def GA{a f:Fm}(b:a.wt<=1000000000)(c:f.wt<=1000000000)(h:¬nd a f=0):iV a f=some (Fm.mk 0 (Ty.mk 0 []) [] [],nd a f)/\jI a f=some (Fm.mk 0 (Ty.mk 0 []) [] [],nd a f):=by
 obtain⟨d,e⟩:=zu b c;unfold iV jI;rw[d,e];simp only[bT,vW h,if_true];exact⟨trivial,trivial⟩
def Ks{x:Fm}(h:x.wt<=1000000000):n8 FU x x=some true:=by
 obtain⟨r,a,b⟩:=GP FU x x (by rw[cP];omega) h;rw[a,b.2 rfl]
def Hl:tY=some true:=by
 obtain⟨n0,a1,a2⟩:=vP 0 VW VW;obtain⟨n1,g,a⟩:=vP 1 VW VW;obtain⟨n2,h,b⟩:=vP 2 VW VW;have w0:=n0.er (a2 []).1.ok;have l:=n1.er (a []).1.ok;have n:=n2.er (b []).1.ok;have o:=(a2 []).2;have p:=(a []).2;have q:=(b []).2;unfold tY;rw[a1,g,h];simp only[bT,cg];rw[KL VW VW,KL VW VW];simp only[bT];have t0:fg [] (.mk 1 .z [n0,n0] []):=.eq (a2 []).1 (a2 []).1;have t1:fg [] (.mk 1 .z [n1,n2] []):=.eq (a []).1 (b []).1
 have s:(Fm.mk 1 .z [n0,n0] []).aeb=3:=by rw[Fm.bY];simp only[cm];omega
 have c:(Fm.mk 1 .z [n1,n2] []).aeb=6:=by rw[Fm.bY];simp only[cm];omega
 have q0:(Fm.mk 1 .z [n0,n0] []).wt<=1000000:=by have:=Fm.er _ t0.ok;omega
 have q1:(Fm.mk 1 .z [n1,n2] []).wt<=1000000:=by have:=Fm.er _ t1.ok;omega
 have i:nd (.mk 1 .z [n1,n2] []) (.mk 1 .z [n0,n0] [])=0:=by
  refine Se ⟨t1.ok,VW,t1.aef _ (by rw[c];simp)⟩ (Fm.nA t0.ok VW) ?_ ?_
  ·rw[Fm.qT];simp[Fm.u_]
  ·rw[Fm.uR,bX rfl,c];simp only[cm];omega
 obtain⟨r,d,t,j,u,k,f⟩:=Dt VW VW i;rw[j];simp only[bW,show cn (0:Int) 0=true from rfl,if_true];obtain⟨m,hm⟩:∃m,FU=m+1:=⟨FU-1,by rw[cP]⟩
 have e:r=Fm.mk 3 .z [] [Fm.mk 3 .z [] [.mk 1 .z [n0,n0] [],.mk 1 .z [n1,n2] []],.mk 1 .z [n1,n2] []]:=by
  rw[hm,ep] at d;simp only[Fm.cq,show cn (1:Int) 1=true from rfl,if_true,lj,bT,dJ,rv,uq] at d;exact d.symm
 rw[vj VW VW,bT];rw[vj (by rw[Fm.fj];simp only[cm];have:Ty.z.aeb=1:=rfl;omega) VW,bT,<-e,Ks (pP k (by rw[e] at f;rw[e,f,Fm.uR,bX rfl,c];simp only[cm];omega))];rfl
def fg.pu{g:List Ty}{f:Fm}(h:fg g f):f.B5=false->yl g f:=by
 induction h with
 |eq d e=>intro _;exact .eq d e|two c _ _ a b=>
  intro hu;rw[Fm.qT] at hu;simp only[Fm.u_,TN,Jg] at hu;exact .two c (a hu.2.1) (b hu.2.2)
 |q c hs _ i=>
  intro hu;rw[Fm.qT] at hu;simp only[Fm.u_,TN,Jg,M6] at hu;exact .q VW hs (i hu.2)
def yl.nu{g:List Ty}{f:Fm}(h:yl g f):f.B5=false:=by
 induction h with
 |eq _ _=>rw[Fm.qT];simp[Fm.u_]|two a _ _ b c=>rw[Fm.qT];rcases a with rfl|rfl<;>simp[Fm.u_,b,c]
 |q a _ _ d=>rw[Fm.qT];rcases a with rfl|rfl<;>simp[Fm.u_,d]
def LY(s:Ty)(x y:Tm):(Fm.mk 1 s [x,y] []).aeb=1+x.aeb+y.aeb:=by rw[Fm.bY];simp only[cm];omega
def uM{a:Fm}(i:QI a){g:List Ty}{f:Fm}(h:yl g f):∀(k n:Nat),k+f.aeb<=1000000->f.aeb<=n->ep n a f k=some (ku a f k):=by
 induction h with
 |@eq g x y t u=>
  intro k n c hn;have:=(Fm.mk 1 .z [x,y] []).cw;obtain⟨n,rfl⟩:∃m,n=m+1:=⟨n-1,VW⟩;rw[ep,Ar,wT i k VW];rfl
 |@two g e x y c _ _ j l=>
  intro k n b hn;rw[gm] at b hn;obtain⟨n,rfl⟩:∃m,n=m+1:=⟨n-1,VW⟩
  have o:cn e 1=false:=by rcases c with rfl|rfl<;>rfl
  have p:df (cn e 2) true (cn e 3)=true:=by rcases c with rfl|rfl<;>rfl
  rw[ep,wI c];simp only[Fm.cq,Fm.ck,o,p,gX,fL,if_true];rw[show cr [x,y] 0=some x from rfl,show cr [x,y] 1=some y from rfl];simp only[bT];rw[j k n VW VW,l k n VW VW];rfl
 |@q g e s x c hs _ r=>
  intro k n b hn;rw[mm] at b hn;obtain⟨n,rfl⟩:∃m,n=m+1:=⟨n-1,VW⟩;have d:=r (k+1) n VW VW;rcases c with rfl|rfl
  ·rw[ep,JJ];simp only[Fm.cq,Fm.ck,Fm.cQ,show cn (4:Int) 1=false from rfl,show df (cn (4:Int) 2) true (cn (4:Int) 3)=false from rfl,show cn (4:Int) 4=true from rfl,gX,fL,if_true];rw[show cr [x] 0=some x from rfl];simp only[bT];rw[d];rfl
  ·rw[ep,F5];simp only[Fm.cq,Fm.ck,Fm.cQ,show cn (5:Int) 1=false from rfl,show df (cn (5:Int) 2) true (cn (5:Int) 3)=false from rfl,show cn (5:Int) 4=false from rfl,gX,fL,if_true];rw[show cr [x] 0=some x from rfl];simp only[bT];rw[d,wT i (k+1) VW,wT i k VW];rfl
def sZ{a:Fm}(b:QI a){g:List Ty}{f:Fm}(h:yl g f){k:Nat}(c:k+f.aeb<=1000000)(e:f.tr a.aeb<=10000000):(ku a f k).ok=true/\(ku a f k).aeb=f.tr a.aeb:=by
 obtain⟨r,d,_,i,j⟩:=aaV b f h.ty.ok h.nu k f.aeb (2*f.aeb) c (fT _) (fT _) e;rw[uM b h k f.aeb c (fT _)] at d;obtain rfl:=fS d;exact⟨i,j⟩
def Um{a f:Fm}(b:QI a)(d:f.ok=true)(hu:f.B5=false)(hn:f.aeb<=4096){rm:Int}(e:-1000000000000<=rm)(g:rm<=1048576):zk a f rm=some (decide (f.tr a.aeb<=4096/\(f.tr a.aeb:Int)<=rm),rm-f.tr a.aeb):=by
 have hw:=Fm.er a b.ok;have h:=b.aeb;obtain⟨s1,_,i⟩:=size_eq (c:=a.aeb) b.aeb f d hu hn FU (by rw[cP];omega);unfold zk;rw[eM VW,Fm.nA b.ok b.aeb,bX rfl,bW,s1,bT,ds VW VW,qi]
 have:(DU (f.tr a.aeb:Int) 4096&&qJ (rm-(f.tr a.aeb:Int)) 0)=decide (f.tr a.aeb<=4096/\(f.tr a.aeb:Int)<=rm):=by
  rw[A_];simp only[eg,A2,fN,m0];omega
 rw[this]
def Cp(F:Fm)(p:Pf):(gL F p).wt=2+F.wt+p.wt:=by
 unfold gL;rw[Pf.fj,show(Ty.mk 0 []).aeb=1 from rfl];simp only[cm];omega
def Ez(p q:Pf):(fP p q).wt=2+p.wt+q.wt:=by
 unfold fP DE;rw[Pf.fj,show(Ty.mk 0 []).aeb=1 from rfl];simp only[cm];omega
def Ef(i:Int):(dU i).wt=2:=by
 unfold dU;rw[Pf.fj,show(Ty.mk 0 []).aeb=1 from rfl];simp only[cm]
def ZT(k:Int)(p:Pf):(DE k [p]).wt=2+p.wt:=by
 unfold DE;rw[Pf.fj,show(Ty.mk 0 []).aeb=1 from rfl];simp only[cm];omega
def aaR(k:Int)(p q:Pf):(DE k [p,q]).wt=2+p.wt+q.wt:=by
 unfold DE;rw[Pf.fj,show(Ty.mk 0 []).aeb=1 from rfl];simp only[cm];omega
def Mm(x y:Fm):(nj x y).wt=2+x.wt+y.wt:=by
 unfold nj;rw[Fm.fj,show(Ty.mk 0 []).aeb=1 from rfl];simp only[cm];omega
def Zo(x y:Fm):(B7 x y).wt=4+x.wt+2*y.wt:=by
 unfold B7;rw[Mm,Mm];omega
def Uh(a x y:Fm)(n:Nat):AU a (.mk 2 .z [] [x,y]) n=gL (B7 (ku a (.mk 2 .z [] [x,y]) n) (a.up 0 n)) (DE 3 [fP (AU a x n) (gL (nj (ku a x n) (a.up 0 n)) (fP (dU 1) (gL (ku a (.mk 2 .z [] [x,y]) n) (fP (dU 1) (DE 4 [dU 0]))))),fP (AU a y n) (gL (nj (ku a y n) (a.up 0 n)) (fP (dU 1) (gL (ku a (.mk 2 .z [] [x,y]) n) (fP (dU 1) (DE 5 [dU 0])))))]):=by
 rw[AU,bX rfl];simp only[Fu,xQ,qK,AK];rfl
def T0(a x y:Fm)(n:Nat):AU a (.mk 3 .z [] [x,y]) n=gL (B7 (ku a (.mk 3 .z [] [x,y]) n) (a.up 0 n)) (gL (ku a x n)
  (fP (AU a y n) (gL (nj (ku a y n) (a.up 0 n)) (fP (dU 2) (gL (ku a (.mk 3 .z [] [x,y]) n) (fP (dU 1) (fP (dU 0) (dU 2)))))))):=by
 rw[AU,bV aaq,bX rfl];simp only[Fu,xQ,qK,AK];rfl
def UQ(a:Fm)(s:Ty)(x:Fm)(n:Nat):AU a (.mk 4 s [] [x]) n=gL (B7 (ku a (.mk 4 s [] [x]) n) (a.up 0 n)) (.mk 8 0 s [] [] [fP (AU a x (n+1)) (gL (nj (ku a x (n+1)) (a.up 0 ((n+1:Nat):Int))) (fP (dU 1) (gL ((ku a (.mk 4 s [] [x]) n).up 0 1) (fP (dU 1) (.mk 9 0 (Ty.mk 0 []) [.mk 1 0 (Ty.mk 0 []) []] [] [dU 0])))))]):=by
 rw[AU,bV aaq,bV aaq,bX rfl];simp only[Fu,xQ,qK,AK];rfl
def W7(a:Fm)(s:Ty)(ts:List Tm)(l:List Fm)(n:Nat):AU a (.mk 1 s ts l) n=gL (B7 (ku a (.mk 1 s ts l) n) (a.up 0 n)) (gL ((ku a (.mk 1 s ts l) n).aea.getD 0 eI) (fP (dU 1) (gL (ku a (.mk 1 s ts l) n) (fP (dU 0) (dU 1))))):=by
 rw[AU,bV aaq,bV aaq,bV aaq];rfl
def XX(a:Fm)(s:Ty)(ts:List Tm)(l:List Fm)(n:Nat):AU a (.mk 5 s ts l) n=gL (B7 (ku a (.mk 5 s ts l) n) (a.up 0 n)) (gL ((ku a (.mk 5 s ts l) n).aea.getD 0 eI) (fP (dU 1) (gL (ku a (.mk 5 s ts l) n) (fP (dU 0) (dU 1))))):=by
 rw[AU,bV aaq,bV aaq,bV aaq];rfl
def XL(c:Nat)(s:Ty)(x y:Tm):(Fm.mk 1 s [x,y] []).tr c=3+x.aeb+y.aeb+2*c:=by rw[Fm.uR,bX rfl];simp only[cm];omega
def Jn(c:Nat){k:Int}(a:k=2\/k=3)(s:Ty)(ts:List Tm)(x y:Fm):(Fm.mk k s ts [x,y]).tr c=1+x.tr c+y.tr c:=by rw[Fm.uR,bV VW,bV VW,Fm.I5];omega
def OV(c:Nat)(s:Ty)(ts:List Tm)(x:Fm):(Fm.mk 4 s ts [x]).tr c=1+x.tr c:=by rw[Fm.uR,bV aaq,bV aaq,Fm.y9]
def Sx(c:Nat)(s:Ty)(ts:List Tm)(x:Fm):(Fm.mk 5 s ts [x]).tr c=3+2*c+x.tr c:=by rw[Fm.uR,bV aaq,bX rfl,Fm.y9]
def yl.Of{g:List Ty}{f:Fm}(h:yl g f)(c:Nat):3+2*c<=f.tr c:=by
 induction h with
 |eq _ _=>rw[XL];omega|two a _ _ b _=>rw[Jn c a];omega|q a _ _ d=>
  rcases a with rfl|rfl
  ·rw[OV];omega
  ·rw[Sx];omega
def Xb(a f:Fm)(k:Nat)(rm:Int)(o:Option (Pf×Int)):Prop:=∃p rm',o=some (p,rm')/\rm'<=rm/\rm-4096*(f.aeb:Int)<=rm'/\(0<=rm'->p=AU a f k/\(p.wt:Int)<=900*(rm-rm'))
def Xb.head{a:Fm}(c:QI a){g:List Ty}{f:Fm}(h:yl g f){k n:Nat}{rm:Int}(i:f.aeb<=4096)(j:f.tr a.aeb<=4096)(p:k+f.aeb<=100000)(l:rm<=1048576)(m:-1000000000<=rm-4096*(f.aeb:Int)){body:Fm->Fm->Int->Option (Pf×Int)}
  (d:iC (n+1) a f k rm=b7 (zk a f rm) λok e=>if(nT ok) then some (dU 0,e)else bU (lj k a) λqe=>bU (ep FU a f k) λt=>body qe t e)
  (o:(f.tr a.aeb:Int)<=rm->(ku a f k).wt<=65*f.tr a.aeb->(a.up 0 k).wt<=65*a.aeb->Xb a f k rm (body (a.up 0 k) (ku a f k) (rm-f.tr a.aeb))):Xb a f k rm (iC (n+1) a f k rm):=by
 have q:=f.cw;rw[d,Um c h.ty.ok h.nu i VW l,bW]
 by_cases b:f.tr a.aeb<=4096/\(f.tr a.aeb:Int)<=rm
 ·rw[tB b,bV aaq,wT c k VW,bT,uM c h k FU VW (by rw[cP];omega),bT];obtain⟨t1,t2⟩:=sZ c h (k:=k) VW VW;obtain⟨u1,u2,_⟩:=c.up (k:=k);refine o b.2 ?_ ?_
  ·have:=Fm.er _ t1;rw[t2] at this;exact this
  ·have:=Fm.er _ u1;rw[u2] at this;exact this
 ·rw[Bo b,bX (show nT false=true from rfl)];exact⟨_,_,rfl,VW,VW,λr=>absurd ⟨j,VW⟩ b⟩
def Ix{g:List Ty}{a:Fm}(c:QI a)(F:fg g a)(hg:g.length<=100000){g0:List Ty}{f:Fm}(h:yl g0 f):∀e,g0=g++e->f.aeb<=4096->f.tr a.aeb<=4096->∀(n:Nat) (rm:Int),e.length+f.aeb<=100000->f.aeb<=n->rm<=1048576->-1000000000<=rm-4096*(f.aeb:Int)->Xb a f e.length rm (iC n a f e.length rm):=by
 induction h with
 |@eq g0 x y S T=>
  intro e b r t n rm j hn u d;have h:=yl.eq S T;have hp:=(Fm.mk 1 .z [x,y] []).cw;have b:=h.Of a.aeb;obtain⟨n,rfl⟩:∃m,n=m+1:=⟨n-1,VW⟩;refine Xb.head c h r t j u d (by rw[iC]) λv w A=>?_;simp only[Fm.cq,show cn (1:Int) 2=false from rfl,show cn (1:Int) 3=false from rfl,show cn (1:Int) 4=false from rfl,gX,fL]
  have G:cr (ku a (.mk 1 .z [x,y] []) e.length).aea 0=some ((ku a (.mk 1 .z [x,y] []) e.length).aea.getD 0 eI):=by rw[Ar];rfl
  have U:((ku a (.mk 1 .z [x,y] []) e.length).aea.getD 0 eI).wt<=(ku a (.mk 1 .z [x,y] []) e.length).wt:=by
   rw[Ar];show(dt (.mk 1 .z [x,y] []) (a.up 0 e.length)).wt<=(nj (dt (.mk 1 .z [x,y] []) (a.up 0 e.length)) (a.up 0 e.length)).wt;rw[Mm];omega
  rw[G,bT];refine⟨_,_,rfl,VW,VW,λl=>⟨(W7 a .z [x,y] [] e.length).symm,?_⟩⟩;rw[Cp,Zo,Cp,Ez,Ef,Cp,Ez,Ef,Ef];omega
 |@two g0 k x y j i hy H B=>
  intro e b r t n rm o hn u d;have h:=yl.two j i hy;have I:(Fm.mk k .z [] [x,y]).aeb=1+x.aeb+y.aeb:=gm;have C:=Jn a.aeb j .z [] x y;have V:=i.Of a.aeb;have gy:=hy.Of a.aeb;obtain⟨n,rfl⟩:∃m,n=m+1:=⟨n-1,VW⟩;refine Xb.head c h r t o u d (by rw[iC]) λv w A=>?_;obtain⟨J,K⟩:=sZ c i (k:=e.length) VW VW;obtain⟨W,X⟩:=sZ c hy (k:=e.length) VW VW;have L:=Fm.er _ J;have Y:=Fm.er _ W;rw[K] at L;rw[X] at Y;have rx:=uM c i e.length FU VW (by rw[cP];omega);have R:=uM c hy e.length FU VW (by rw[cP];omega);rcases j with rfl|rfl
  ·simp only[Fm.cq,Fm.ck,show cn (2:Int) 2=true from rfl,if_true,BP];obtain⟨p,D,M,Z,p3,N⟩:=H e b VW VW n (rm-((Fm.mk 2 .z [] [x,y]).tr a.aeb:Int)) VW VW VW VW;obtain⟨q,O,q1,q2,q3,P⟩:=B e b VW VW n D VW VW VW VW;rw[show cr [x,y] 0=some x from rfl,show cr [x,y] 1=some y from rfl];simp only[bT];rw[rx,R];simp only[bT];rw[M];simp only[bW];rw[q1];refine⟨_,_,rfl,VW,VW,λl=>?_⟩;obtain⟨rfl,pw⟩:=N VW;obtain⟨rfl,qw⟩:=P l;refine⟨(Uh a x y e.length).symm,?_⟩;rw[Cp,Zo,aaR,Ez,Cp,Mm,Ez,Ef,Cp,Ez,Ef,ZT,Ef,Ez,Cp,Mm,Ez,Ef,Cp,Ez,Ef,ZT,Ef];omega
  ·simp only[Fm.cq,Fm.ck,show cn (3:Int) 2=false from rfl,show cn (3:Int) 3=true from rfl,gX,fL,if_true];obtain⟨q,O,q1,q2,q3,P⟩:=B e b VW VW n (rm-((Fm.mk 3 .z [] [x,y]).tr a.aeb:Int)) VW VW VW VW;rw[show cr [x,y] 0=some x from rfl,show cr [x,y] 1=some y from rfl];simp only[bT];rw[R];simp only[bT];rw[q1];simp only[bW];rw[rx];refine⟨_,_,rfl,VW,VW,λl=>?_⟩;obtain⟨rfl,qw⟩:=P l;refine⟨(T0 a x y e.length).symm,?_⟩;rw[Cp,Zo,Cp,Ez,Cp,Mm,Ez,Ef,Cp,Ez,Ef,Ez,Ef,Ef];omega
 |@q g0 k s x j hs i ih=>
  intro e b r t n rm o hn u d;have h:=yl.q j hs i;have I:(Fm.mk k s [] [x]).aeb=1+x.aeb:=mm;have V:=i.Of a.aeb;obtain⟨n,rfl⟩:∃m,n=m+1:=⟨n-1,VW⟩;refine Xb.head c h r t o u d (by rw[iC]) λv w A=>?_;rcases j with rfl|rfl
  ·have C:=OV a.aeb s [] x;obtain⟨J,K⟩:=sZ c i (k:=e.length+1) VW VW;have L:=Fm.er _ J;rw[K] at L;have rx:=uM c i (e.length+1) FU VW (by rw[cP];omega);have aa:=(Ty.fV hs).2;obtain⟨u1,u2,_⟩:=c.up (k:=e.length+1);have wu:=Fm.er _ u1;rw[u2] at wu;obtain⟨t1,t2⟩:=sZ c h (k:=e.length) VW VW;have Q:fg g0 (ku a (.mk 4 s [] [x]) e.length):=yV F h e b;have tl:=Q.aef 1000000000000 (by rw[b,ni,t2];omega)
   have lo:((ku a (.mk 4 s [] [x]) e.length).up 0 1).ok=true:=by rw[Fm.xM _ _ _ VW VW];exact t1
   have wl:=Fm.er _ lo;rw[Fm.lS,t2] at wl;simp only[Fm.cq,Fm.ck,Fm.cQ,show cn (4:Int) 2=false from rfl,show cn (4:Int) 3=false from rfl,show cn (4:Int) 4=true from rfl,gX,fL,if_true];have E:=ih (e++[s]) (by rw[b,pQ]) VW VW n (rm-((Fm.mk 4 s [] [x]).tr a.aeb:Int)) aaQ VW VW VW;rw[ni,TI] at E;obtain⟨p,D,M,Z,p3,N⟩:=E;rw[show cr [x] 0=some x from rfl];simp only[bT];rw[rx];simp only[bT];rw[wT c (e.length+1) VW];simp only[bT];rw[kn t1 VW tl VW VW VW VW];simp only[bT];rw[M];refine⟨_,_,rfl,VW,VW,λl=>?_⟩;obtain⟨rfl,pw⟩:=N l;refine⟨(UQ a s x e.length).symm,?_⟩;rw[Cp,Zo,Pf.fj];simp only[cm];rw[Ez,Cp,Mm,Ez,Ef,Cp,Ez,Ef,Pf.fj];simp only[cm];rw[Ef,show(Ty.mk 0 []).aeb=1 from rfl,show(Tm.mk 1 0 (Ty.mk 0 []) []).wt=2 by rw[Tm.fj];rfl];omega
  ·have C:=Sx a.aeb s [] x;simp only[Fm.cq,show cn (5:Int) 2=false from rfl,show cn (5:Int) 3=false from rfl,show cn (5:Int) 4=false from rfl,gX,fL]
   have G:cr (ku a (.mk 5 s [] [x]) e.length).aea 0=some ((ku a (.mk 5 s [] [x]) e.length).aea.getD 0 eI):=by rw[F5];rfl
   have U:((ku a (.mk 5 s [] [x]) e.length).aea.getD 0 eI).wt<=(ku a (.mk 5 s [] [x]) e.length).wt:=by
    rw[F5];have:=Mm (.mk 4 s [] [dt (ku a x (e.length+1)) (a.up 0 ((e.length+1:Nat):Int))]) (a.up 0 e.length);show(Fm.mk 4 s [] [dt (ku a x (e.length+1)) (a.up 0 ((e.length+1:Nat):Int))]).wt<=(nj (.mk 4 s [] [dt (ku a x (e.length+1)) (a.up 0 ((e.length+1:Nat):Int))]) (a.up 0 e.length)).wt;omega
   rw[G,bT];refine⟨_,_,rfl,VW,VW,λl=>⟨(XX a s [] [x] e.length).symm,?_⟩⟩;rw[Cp,Zo,Cp,Ez,Ef,Cp,Ez,Ef,Ef];omega
def vh(g:List Ty)(b:Nat)(o:Option (Fm×cH)):Prop:=∃x a,o=some (x,a)/\a.wf/\W3 g x b/\x.B5=false
def vh.of{g:List Ty}{b:Nat}{x:Fm}{d:cH}(a:d.wf)(h:fg g x)(hn:x.aeb<=b)(hu:x.B5=false):vh g b (some (x,d)):=⟨x,d,rfl,a,⟨h,hn⟩,hu⟩
def E9:∀(n k:Nat) (g:List Ty) (d:cH),k<n->k<=5->g.length+k<=500->se 3 g->d.wf->vh g (fb k) (lL n d g (k:Int)):=by
 intro n
 induction n with
 |zero=>intro k g d h;omega|succ n F=>
  intro k g d P H hlen hg L;rw[lL];refine rf (G:=vh g (fb k)) cH.wf ?_ ?_
  ·intro d1 I;rw[ed];simp only[bT];obtain⟨a,d2,a1,a2,a3⟩:=Lj 3 VW VW 1 VW g .nat d1 VW hg Ty.fC (by rw[Ty.gk];omega) I;rw[show((1:Nat):Int)=1 from rfl] at a1;rw[a1];simp only[bW];obtain⟨b,d3,B,J,f⟩:=Lj 3 VW VW 1 VW g .nat d2 VW hg Ty.fC (by rw[Ty.gk];omega) a2;rw[show((1:Nat):Int)=1 from rfl] at B;rw[B];simp only[bW];have e:tb 3 1=57:=rfl;rw[e] at a3 f;rw[KL (by have:=a3.wt;omega) (by have:=f.wt;omega)];refine vh.of J (.eq a3.ty f.ty) ?_ (by rw[Fm.qT];simp[Fm.u_]);have:=a3.aeb;have:=f.aeb
   have U:115<=fb k:=by
    clear P H hlen F
    induction k with
    |zero=>simp[fb]|succ k F=>simp only[fb];omega
   rw[Fm.bY];simp only[cm];omega
  ·intro j M;simp only[eE]
   split
   ·rename_i N;obtain⟨m,rfl⟩:∃m,k=m+1:=⟨k-1,VW⟩
    have Q:dh .i64 ((m+1:Nat):Int) 1=(m:Int):=by rw[ds VW VW];omega
    have R:=aaD m VW
    have deep:∀l C,l.length<=g.length+1->se 3 l->C.wf->vh l (fb m) (lL n C l (dh .i64 ((m+1:Nat):Int) 1)):=by
     intro l C D E O;rw[Q];exact F m l C VW VW VW E O
    have ctx:∀s:Ty,s.err=0->s.aeb<=3->se 3 (g++[s]):=λs D E=>hg.app (by intro u hu;rw[AL] at hu;subst hu;exact⟨D,E⟩);obtain⟨x,d2,D,E,O,K⟩:=rQ d L 7 VW VW;rw[D];simp only[bW,jB,o0,eu]
    have two:∀c:Int,c=2\/c=3->vh g (fb (m+1)) (b7 (lL n d2 g (dh .i64 ((m+1:Nat):Int) 1)) λo d317=>b7 (lL n d317 g (dh .i64 ((m+1:Nat):Int) 1)) λp d321=>bU (fZ c o p) λr=>some (r,d321)):=by
     intro c t;obtain⟨a,d3,a1,a2,a3,a4⟩:=deep g d2 VW hg K;rw[a1];simp only[bW];obtain⟨b,d4,B,J,f,S⟩:=deep g d3 VW hg a2;rw[B];simp only[bW];rw[vj (by have:=a3.wt;omega) (by have:=f.wt;omega)];refine vh.of J (.two t a3.ty f.ty) ?_ (by rw[Fm.qT,Fm.u_,Fm.u_,Fm.u_,a4,S];simp;omega);have:=a3.aeb;have:=f.aeb;rw[Fm.bY];simp only[cm,fb];omega
    split
    ·exact two 2 (.inl rfl)
    split
    ·exact two 3 (.inr rfl)
    have one:∀c:Int,c=4\/c=5->vh g (fb (m+1)) (b7 (jM FU d2 0) λi v=>bU (ml g [i]) λw=>b7 (lL n v w (dh .i64 ((m+1:Nat):Int) 1)) λy z=>bU (iW c i y) λA=>some (A,z)):=by
     intro c t;obtain⟨s,d3,s1,s2,V,T⟩:=Fb d2 K 0 VW;rw[show((0:Nat):Int)=0 from rfl] at s1;rw[s1];simp only[bW];rw[qH g [s] aaQ];simp only[bT];obtain⟨a,d4,a1,a2,a3,a4⟩:=deep (g++[s]) d3 aas (ctx s s2 VW) T;rw[a1];simp only[bW];rw[MC VW (by have:=a3.wt;omega)];refine vh.of a2 (.q VW s2 a3.ty) ?_ (by rw[Fm.qT,Fm.u_,Fm.u_,a4];simp;omega);have:=a3.aeb;rw[Fm.bY];simp only[cm,fb];omega
    split
    ·exact one 4 (.inl rfl)
    split
    ·exact one 5 (.inr rfl)
    ·exact M d2 K
   ·exact M d L
end Go.dG
namespace Go.dG
open Go
structure PfP (k j:Int) (u:Ty) (us:List Tm) (gs:List Fm) (ps:List Pf):Prop where
 s:u.aeb<=64
 n:ps.length<=2
 i:0<=j
 ts:∀t∈us,t.ok=true
 fs:∀f∈gs,f.ok=true
 l:∀p∈ps,p.ok=true
 hyp:k=1->u=.z/\us=[]/\gs=[]/\ps=[]
def Pf.okP{k i:Int}{s:Ty}{ts:List Tm}{fs:List Fm}{l:List Pf}(h:(Pf.mk k i s ts fs l).ok=true):PfP k i s ts fs l:=by
 rw[Pf.ei] at h;simp only[eg,im] at h;obtain⟨⟨⟨e,j⟩,m⟩,n⟩:=h;cases d:Pf.sig k with
 |none=>unfold Pf.node at e;rw[d] at e;cases e
 |some r=>
  obtain⟨v,ty,a,b,c⟩:=r;obtain⟨q1,o,p,q,w,t,f⟩:=h_ e d
  have u:c<=2/\(k=1->a=0/\b=0/\c=0/\ty=false):=by
   unfold Pf.sig at d
   repeat' split at d
   all_goals first
    |(cases d;done)
    |(simp only[uq,Pl] at d
      obtain⟨rfl,rfl,rfl,rfl,rfl⟩:=d;refine⟨VW,λg=>?_⟩
      first|(refine⟨rfl,rfl,rfl,rfl⟩;done)|omega)
  refine⟨?_,VW,q,j,m,n,λg=>?_⟩
  ·cases ty with
   |true=>exact dd (t rfl)|false=>rw[f rfl];decide
  ·obtain⟨rfl,rfl,rfl,rfl⟩:=u.2 g;exact⟨f rfl,ek.1 q1,ek.1 o,ek.1 p⟩
def Pf.er(P:Pf):P.ok=true->P.wt<=65*P.aeb:=by
 induction P using Pf.ind with
 |h k i s ts fs l d=>
  intro e;have b:=Pf.okP e;rw[Pf.fj,Pf.bY];have j:=wm (f:=Tm.wt) (g:=Tm.aeb) (c:=65) (l:=ts) λx a=>x.er (b.ts x a);have m:=wm (f:=Fm.wt) (g:=Fm.aeb) (c:=65) (l:=fs) λx a=>x.er (b.fs x a);have n:=wm (f:=Pf.wt) (g:=Pf.aeb) (c:=65) (l:=l) λx a=>d x a (b.l x a);have:=b.s;omega
end Go.dG
set_option maxRecDepth 20000
namespace Go.dG
open Go
def Mg(k:Int):∃r b,kJ k=some (r,b):=by
 unfold kJ
 by_cases h:k<1\/21<=k
 ·rw[bX (by simp only[jB,o0,jC,fN];omega)];exact⟨_,_,rfl⟩
 ·rw[bV (by simp only[jB,o0,jC,fN];omega)];obtain⟨s,hs,_⟩:=Cw (l:=lY) (i:=k) VW (by show k<((21:Nat):Int);omega);rw[hs];exact⟨_,_,rfl⟩
def N6:∀(n:Nat) (P:Pf) (pl:c9),P.wt<=n->P.wt<=1000000000->P.aeb<=10000000->P.ok=true->iM n P pl 0=some P
 |0,P,_,h,_,_,_=>by have:=P.hD;omega
 |n+1,.mk k i s ts fs l,pl,hn,e,hs,c=>by
  rw[Pf.fj] at hn e;rw[Pf.bY] at hs;rw[Pf.ei] at c;simp only[eg,im] at c;obtain⟨r,b,f⟩:=Mg k;have m:=Tm.m5 ts;have o:=Fm.m5 fs;have p:l.length<=cm Pf.wt l:=eV _ _ λt _=>t.hD;rw[iM];simp only[Pf.cq,Pf.cQ,Pf.eY,Pf.ET,Pf.ck,Pf.dQ,cg]
  rw[f,bW,jJ VW,bT,ch VW,b9,gZ id ts 0 [] aaQ (λj x v a d=>by
   have:=cy Tm.aeb a;rw[y5 FU x (by rw[cP];omega) VW (c.1.1.2 x a),bT,de (by simpa using d),b9,eP]
   rfl),bT,ca,ch VW,b9,gZ id fs 0 [] aaQ (λj x v a d=>by
   have:=cy Fm.aeb a;rw[SS (c.1.2 x a) VW,bT,de (by simpa using d),b9,eP]
   rfl),bT,ca,ch VW,b9,gZ id l 0 [] aaQ (λj x v a d=>by
   have q:=cy Pf.wt a;have u:=cy Pf.aeb a;obtain⟨z,g⟩:∃z,oR pl r j=some z:=⟨_,rfl⟩;rw[g,bT,N6 n x _ VW VW VW (c.2 x a),bT,de (by simpa using d),b9,eP]
   rfl),bT,ca]
  simp
def N'{P:Pf}{rm:Int}(h:0<=rm->P.wt<=1000000000):xw P rm=some (xO,4)\/(0<=rm/\P.err=0/\P.wt<=1000000000/\xw P rm=some (P,0)):=by
 unfold xw
 by_cases a:rm<0
 ·rw[bX (by rw[jC];exact a)];exact .inl rfl
 ·have hw:=h VW;rw[bV (by rw[jC];exact a),qg hw,bT]
  by_cases he:P.err=0
  ·obtain⟨b,_,hn⟩:=fV he;refine .inr ⟨VW,he,hw,?_⟩;rw[he,bV nz];unfold ns;rw[N6 FU P _ (by rw[cP];omega) hw VW b];rfl
  ·rw[bX (by rw[cf];exact he)];exact .inl rfl
def HZ{L:List Fm}{q:Sq}(c:AW L q){P:Pf}(hw:P.wt<=1000000000)(he:P.err=0){b:Fm}(d:fg q.aed b)(a:b.wt<=1000000000)(h:Tk L q.aed q.aeg P b):qa L q P b=some true:=by
 obtain⟨e,f,g⟩:=Tk.acc c hw (fV he).1 d a h;unfold qa;rw[f,bT];rcases g with rfl|rfl|rfl|rfl<;>rfl
def inh:∀(s:Ty),s.err=0->∃t:Tm,(∀m,s.aeb<=m->e_ m s=some t)/\(∀g,cJ g t s)/\t.aeb<=2*s.aeb:=by
 intro s
 induction s using Ty.ind with
 |h k l i=>
  intro he;have n:=(Ty.mk k l).cw;obtain⟨e,hn⟩:=Ty.fV he;rw[Ty.ei] at e;simp only[eg,m0] at e;have c:=e.1;unfold Ty.want at c
  by_cases f:k=1\/k=2\/k=5
  ·rw[bX f] at c;have:l=[]:=RB.1 (fS c).symm;subst this;rcases f with rfl|rfl|rfl
   ·refine⟨.mk 4 0 (.mk 0 []) [],λm hm=>?_,λg=>.zero,by rw[Tm.bY];simp only[cm];omega⟩;obtain⟨m,rfl⟩:∃j,m=j+1:=⟨m-1,VW⟩;rw[e_];rfl
   ·refine⟨.mk 7 0 (.mk 0 []) [],λm hm=>?_,λg=>.nil,by rw[Tm.bY];simp only[cm];omega⟩;obtain⟨m,rfl⟩:∃j,m=j+1:=⟨m-1,VW⟩;rw[e_];rfl
   ·refine⟨.mk 13 0 (.mk 0 []) [],λm hm=>?_,λg=>.unit,by rw[Tm.bY];simp only[cm];omega⟩;obtain⟨m,rfl⟩:∃j,m=j+1:=⟨m-1,VW⟩;rw[e_];rfl
  ·rw[bV f] at c
   by_cases d:k=3\/k=4
   ·rw[bX d] at c
    obtain⟨a,b,rfl⟩:∃a b,l=[a,b]:=by
     have r:=(fS c).symm
     match l,r with
     |[a,b],_=>exact⟨a,b,rfl⟩
    obtain⟨o,u⟩:=Ty.qd d he;have v:=Ty.wb k a b;obtain⟨w,a1,a2,a3⟩:=i a aas o;obtain⟨tb,p,q,x⟩:=i b aas u;rcases d with rfl|rfl
    ·refine⟨.mk 10 0 (.mk 0 []) [w,tb],λm hm=>?_,λg=>.pair he (a2 g) (q g),by rw[Tm.bY];simp only[cm];omega⟩;obtain⟨m,rfl⟩:∃j,m=j+1:=⟨m-1,VW⟩;rw[e_];simp only[Ty.cq,Ty.ck,show cn (3:Int) 2=false from rfl,show cn (3:Int) 5=false from rfl,show cn (3:Int) 3=true from rfl,gX,fL,if_true];rw[show cr [a,b] 0=some a from rfl,show cr [a,b] 1=some b from rfl,bT,a1 m VW,bT,bT,p m VW,bT];rfl
    ·refine⟨.mk 2 0 a [tb],λm hm=>?_,λg=>.lam he (q _),by rw[Tm.bY];simp only[cm];omega⟩;obtain⟨m,rfl⟩:∃j,m=j+1:=⟨m-1,VW⟩;rw[e_];simp only[Ty.cq,Ty.ck,show cn (4:Int) 2=false from rfl,show cn (4:Int) 5=false from rfl,show cn (4:Int) 3=false from rfl,show cn (4:Int) 4=true from rfl,gX,fL,if_true];rw[show cr [a,b] 0=some a from rfl,show cr [a,b] 1=some b from rfl,bT,p m VW,bT,bT,jJ (by have:=(Ty.fV o).2;omega),bT,so _ _ aas,bT];rfl
   ·rw[bV d] at c;cases c
def wA(s:Ty):Tm:=(e_ FU s).getD default
def R9{s:Ty}(he:s.err=0):pA s=some (wA s,0)/\(∀g,cJ g (wA s) s)/\(wA s).aeb<=2*s.aeb:=by
 obtain⟨t,a,b,c⟩:=inh s he;have hn:=(Ty.fV he).2
 have e:wA s=t:=by unfold wA;rw[a FU (by rw[cP];omega)];rfl
 refine⟨?_,by rw[e];exact b,by rw[e];exact c⟩;unfold pA;rw[tN VW,bT,he,bV nz,e,a FU (by rw[cP];omega)];rfl
def US{f:Fm}{s:Tm}(he:f.err=0)(c:s.err=0)(e:f.aef 536870912=true)(d:s.aef 536870912=true):(Fm.eG 0 f s).err=0/\pU f 0 s=some (Fm.eG 0 f s,0)\/∃x,pU f 0 s=some (x,4):=by
 obtain⟨a,hn⟩:=Fm.d_ he;obtain⟨b,g⟩:=Tm.d_ c;have h:=Fm.yp s b f 0 VW a;have hw:=f.er a;have j:=s.er b;have k:=s.cw;have l:=f.fW 0;have m:=Fm.oD s f 0 a
 have hmul:(f.aeh 0:Int)*((s.aeb:Int)-1)=((f.aeh 0*s.aeb:Nat):Int)-(f.aeh 0:Int):=by rw[S5,Su];push_cast;rfl
 have n:f.aeh 0*s.aeb<=4096*4096:=D2 VW g;have i:f.aeh 0<=f.aeh 0*s.aeb:=TW _ VW;unfold pU sQ wU
 rw[eM VW,he,bX rfl,bW,bW,bV nz,show jZ 0=some true from rfl,bT,bX rfl,nI VW,c,bX rfl,bW,bW,bV nz,cg,Mi a VW,e,bT,bX rfl,Oc b VW,d,bT,show nT true=false from rfl]
 simp only[gX,fL]
 rw[lu a VW (Fm.gT _ VW e) VW VW,bT,ds VW VW,wB (by rw[hmul];omega) (by rw[hmul];omega),hmul,cX VW VW]
 by_cases o:4096<(Fm.eG 0 f s).aeb
 ·rw[bX (by rw[eE];omega)];exact .inr ⟨_,rfl⟩
 ·rw[bV (by rw[eE];omega),pO a VW (Fm.gT _ VW e) (Bd.lift ⟨b,Tm.gT _ VW d,VW⟩) VW VW,bT];exact .inl ⟨Fm.nA h VW,rfl⟩
def yl.pud{g:List Ty}{f:Fm}(h:yl g f):∀n,f.aeb<=n->Ke n g f:=by
 induction h with
 |@eq g a b i j=>
  intro n hn;have:=(Fm.mk 1 .z [a,b] []).cw;obtain⟨n,rfl⟩:∃m,n=m+1:=⟨n-1,VW⟩;exact .eq i j
 |two c _ _ d e=>
  intro n hn;rw[gm] at hn;obtain⟨n,rfl⟩:∃m,n=m+1:=⟨n-1,VW⟩;exact .two c (d n VW) (e n VW)
 |q c hs _ k=>
  intro n hn;rw[mm] at hn;obtain⟨n,rfl⟩:∃m,n=m+1:=⟨n-1,VW⟩;exact .q c hs (k n VW)
def Ke.ge{n:Nat}{g:List Ty}{f:Fm}(h:Ke n g f):3<=f.aeb:=by
 induction h with
 |@eq _ _ a b _ _=>have:=a.cw;have:=b.cw;rw[LY];omega
 |two _ _ _ c _=>rw[gm];omega|q _ _ _ d=>rw[mm];omega
def NtO(n:Nat)(f:Fm)(h:Nat)(rm:Int)(o:Option (Pf×cL)):Prop:=∃p rm',o=some (p,⟨rm'⟩)/\-1<=rm'/\rm'<=rm/\(0<=rm'->p=pK wA n f h/\(p.wt:Int)<=3000*(rm-rm'))
def UX{g:List Ty}{s t:Tm}(hs:cJ g s .nat)(d:cJ g t .nat):fg (g++[.nat]) (J_ s t):=by
 have a:cJ (g++[.nat]) (s.up 0 1) .nat:=hs.lift [.nat];have b:cJ (g++[.nat]) (t.up 0 1) .nat:=d.lift [.nat];have c:=b.lift [.nat,.nat];refine .eq a (.r9 Ty.fC a (.lam aaq (.lam aaq ?_)) uC);rw[pQ];exact c
def NC(s t:Tm):(J_ s t).aeb=2*s.aeb+t.aeb+5:=by
 unfold J_ vJ v0;rw[Fm.bY];simp only[cm,Tm.bY,Tm.lS];omega
def rq:∀(n:Nat) (g:List Ty) (f:Fm) (h m:Nat) (rm:Int),Ke n g f->f.err=0->g.length+n<=100000->h+n<=100000->n<=m->-1<=rm->rm<=262144->NtO n f h rm (eN m ⟨rm⟩ f h)
 |0,_,_,_,_,_,h,_,_,_,_,_,_=>by cases h
 |n+1,g,f,h,m,rm,A,he,hg,N,hm,O,B=>by
  obtain⟨m,rfl⟩:∃j,m=j+1:=⟨m-1,VW⟩;obtain⟨C,P⟩:=Fm.d_ he;have hw:=f.er C;have Q:=f.cw;rw[eN,eM VW,he,bX rfl,bW];simp only[];rw[ds VW VW]
  by_cases e:rm-f.aeb<0
  ·rw[bX (by simp only[jB,o0,jC];exact .inl e)];exact⟨_,_,rfl,VW,VW,λb=>by omega⟩
  ·rw[bV (by simp only[jB,o0,jC,cf];omega)];cases A with
   |@eq _ _ s t a c=>
    have hn:=LY .z s t;simp only[Fm.cq,Fm.eY,show cn (1:Int) 2=false from rfl,show cn (1:Int) 3=false from rfl,show df (cn (1:Int) 4) true (cn (1:Int) 6)=false from rfl,show df (cn (1:Int) 5) true (cn (1:Int) 7)=false from rfl,gX,fL];have D:Bd s:=⟨a.ok,a.aef _ VW,VW⟩;have E:Bd t:=⟨c.ok,c.aef _ VW,VW⟩;have F:Bd (t.up 0 1):=⟨by rw[Tm.xM _ _ _ VW VW];exact c.ok,(c.lift [.nat]).aef _ (by rw[Tm.lS];simp;omega),by rw[Tm.lS];omega⟩;rw[show cr [s,t] 0=some s from rfl,show cr [s,t] 1=some t from rfl];simp only[bT];unfold p5 rP;rw[qo D VW VW VW VW,qo E VW VW VW VW];simp only[bT];unfold p5;rw[show fu 0=some v0 from rfl,sd,bT,bT,qo F VW VW VW VW];simp only[bT];rw[so _ _ aas];simp only[bT];have G:=Fm.er _ (UX a c).ok;rw[NC] at G;have H:=s.er a.ok;refine⟨_,_,rfl,VW,VW,λb=>⟨?_,?_⟩⟩
    ·rw[pK,bV aaq,bV aaq,bV aaq,bV aaq];rfl
    ·show((Pf.mk 19 0 .z [] [J_ s t] [lz h,.mk 18 0 .z [s] [] []]).wt:Int)<=_;rw[Pf.fj];simp only[cm];unfold lz;rw[Pf.fj,Pf.fj,show Ty.z.aeb=1 from rfl];simp only[cm];omega
   |@two _ _ k x y l a c=>
    have hn:(Fm.mk k .z [] [x,y]).aeb=1+x.aeb+y.aeb:=gm;have ex:x.err=0:=Fm.nA a.ty.ok VW;have w:y.err=0:=Fm.nA c.ty.ok VW;rcases l with rfl|rfl
    ·simp only[Fm.cq,Fm.ck,show cn (2:Int) 2=true from rfl,if_true];obtain⟨p,I,J,R,S,K⟩:=rq n g x h m (rm-((Fm.mk 2 .z [] [x,y]).aeb:Int)) a ex VW VW VW VW VW;obtain⟨q,o,q1,r,u,d⟩:=rq n g y h m I c w VW VW VW VW VW;rw[show cr [x,y] 0=some x from rfl,show cr [x,y] 1=some y from rfl,bT,J,bW,bT,q1,bW];refine⟨_,_,rfl,VW,VW,λb=>?_⟩;obtain⟨rfl,T⟩:=K VW;obtain⟨rfl,v⟩:=d b;refine⟨?_,?_⟩
     ·rw[pK,bX rfl];rfl
     ·show((DE 3 [pK wA n x h,pK wA n y h]).wt:Int)<=_;rw[aaR];omega
    ·simp only[Fm.cq,Fm.ck,show cn (3:Int) 2=false from rfl,show cn (3:Int) 3=true from rfl,gX,fL,if_true];obtain⟨q,o,q1,r,u,d⟩:=rq n g y (h+1) m (rm-((Fm.mk 3 .z [] [x,y]).aeb:Int)) c w VW VW VW VW VW;rw[show cr [x,y] 0=some x from rfl,show cr [x,y] 1=some y from rfl,bT,bT,cX VW VW,show(h:Int)+1=((h+1:Nat):Int) by omega,q1,bW];refine⟨_,_,rfl,VW,VW,λb=>?_⟩;obtain⟨rfl,v⟩:=d b;have L:=x.er a.ty.ok;refine⟨?_,?_⟩
     ·rw[pK,bV aaq,bX rfl];rfl
     ·show((gL x (pK wA n y (h+1))).wt:Int)<=_;rw[Cp];omega
   |@q _ _ k s x l hs a=>
    have hn:(Fm.mk k s [] [x]).aeb=1+x.aeb:=mm;have ex:x.err=0:=Fm.nA a.ty.ok VW;have M:=(Ty.fV hs).2;rcases l with rfl|rfl
    ·simp only[Fm.cq,Fm.ck,Fm.cQ,show cn (4:Int) 2=false from rfl,show cn (4:Int) 3=false from rfl,show df (cn (4:Int) 4) true (cn (4:Int) 6)=true from rfl,show cn (4:Int) 6=false from rfl,gX,fL,if_true];obtain⟨q,o,q1,r,u,d⟩:=rq n (g++[s]) x h m (rm-((Fm.mk 4 s [] [x]).aeb:Int)) a ex aaQ VW VW VW VW;rw[show cr [x] 0=some x from rfl,bT,q1,bW];refine⟨_,_,rfl,VW,VW,λb=>?_⟩;obtain⟨rfl,v⟩:=d b;refine⟨?_,?_⟩
     ·rw[pK,bV aaq,bV aaq,bX rfl];rfl
     ·show((Pf.mk 8 0 s [] [] [pK wA n x h]).wt:Int)<=_;rw[Pf.fj];simp only[cm];omega
    ·simp only[Fm.cq,Fm.ck,Fm.cQ,show cn (5:Int) 2=false from rfl,show cn (5:Int) 3=false from rfl,show df (cn (5:Int) 4) true (cn (5:Int) 6)=false from rfl,show df (cn (5:Int) 5) true (cn (5:Int) 7)=true from rfl,show cn (5:Int) 7=false from rfl,gX,fL,if_true];obtain⟨d1,d2,d3⟩:=R9 hs;have i:=d2 g;have U:=Tm.er _ i.ok;have V:=a.ge;rw[d1,bW,show cr [x] 0=some x from rfl,bT];rcases US (f:=x) (s:=wA s) ex (Tm.rK i.ok VW) (a.ty.aef _ aaQ) (i.aef _ VW)with⟨i1,i2⟩|⟨z,i2⟩
     ·have hi:Ke n g (Fm.eG 0 x (wA s)):=by
       have:=a.eG g s [] (wA s) aas i;simpa using this
      obtain⟨q,o,q1,r,u,d⟩:=rq n g (Fm.eG 0 x (wA s)) h m (rm-((Fm.mk 5 s [] [x]).aeb:Int)) hi i1 VW VW VW VW VW;rw[i2,bW,bV nz,q1,bW];refine⟨_,_,rfl,VW,VW,λb=>?_⟩;obtain⟨rfl,v⟩:=d b;refine⟨?_,?_⟩
      ·rw[pK,bV aaq,bV aaq,bV aaq,bX rfl];rfl
      ·show((Pf.mk 10 0 .z [wA s] [.mk 5 s [] [x]] [pK wA n (Fm.eG 0 x (wA s)) h]).wt:Int)<=_;rw[Pf.fj,show Ty.z.aeb=1 from rfl];simp only[cm];omega
     ·rw[i2,bW,bX aaq];exact⟨_,_,rfl,VW,VW,λb=>by omega⟩
def MZ{g:List Ty}{a:Fm}(h:yl g a)(he:a.err=0)(hg:g.length<=1000):(∃z,mw a (dU 0)=some (z,4))\/mw a (dU 0)=some (fP (gL lp (pK wA a.aeb a 0)) (dU 0),0)/\(pK wA a.aeb a 0).wt<=2000000:=by
 obtain⟨i,hn⟩:=Fm.d_ he;have hw:=a.er i;obtain⟨p,rm,e,l,m,j⟩:=rq a.aeb g a 0 FU 262144 (h.pud _ (fT _)) he VW VW (by rw[cP];omega) VW VW;rw[show((0:Nat):Int)=0 from rfl] at e
 have k:(dU 0).err=0:=aaq
 unfold mw rJ;rw[fh VW,he,bT,bV nz,qg (by rw[Ef];omega),k,bT,bT,bV nz];unfold qQ;rw[e,bW,show rD=some lp from rfl,bT,show sl lp p=some (gL lp p)from rfl,bT,show uz (gL lp p) (dU 0)=some (fP (gL lp p) (dU 0))from rfl,bT,bW];simp only[]
 by_cases b:0<=rm
 ·rw[bX (by rw[fN];exact b)];obtain⟨rfl,n⟩:=j b
  have o:lp.wt<=100:=aaq
  have f:(fP (gL lp (pK wA a.aeb a 0)) (dU 0)).wt<=1000000000:=by rw[Ez,Cp,Ef];omega
  unfold uP;rw[qg f,bT]
  by_cases c:(fP (gL lp (pK wA a.aeb a 0)) (dU 0)).err=0
  ·obtain⟨q1,_,q⟩:=fV c;have d:=Pf.er _ q1;rw[c,bV nz];unfold ns;rw[N6 FU _ _ (by rw[cP];omega) f VW q1];refine .inr ⟨rfl,?_⟩;rw[Ez,Cp] at d;omega
  ·rw[bX (by rw[cf];exact c)];exact .inl ⟨_,rfl⟩
 ·rw[bV (by rw[fN];exact b)];exact .inl ⟨_,rfl⟩
def H7{a f:Fm}(b:a.err=0)(c:f.err=0)(hu:f.B5=false)(d:a.aef 536870912=true):nd a f=0\/nd a f=4:=by
 unfold nd;rw[bX b,bX c,bV (by simp[hu]),bX d]
 split
 ·exact .inr rfl
 ·exact .inl rfl
def O0{g:List Ty}{a f:Fm}(e:yl g f)(b:a.wt<=1000000000)(c:f.wt<=1000000000)(h:nd a f=0):jI a f=some (ku a f 0,0)/\(ku a f 0).wt<=300000:=by
 obtain⟨r,d,_,_,i,j,l⟩:=Dt b c h;obtain⟨k,he,_,m⟩:=xq h;have hn:=(Fm.d_ he).2;rw[uM k e 0 FU VW (by rw[cP];omega)] at d;obtain rfl:=fS d;have:=Fm.er _ j;exact⟨i,VW⟩
def Pr{g:List Ty}{a f:Fm}(b:fg g a)(m:yl g f)(c:f.err=0)(d:a.wt<=1000000000)(e:f.wt<=1000000000)(hg:g.length<=16):(¬nd a f=0->jy a f=some (xO,nd a f))/\(nd a f=0->jy a f=some (xO,4)\/jy a f=some (AU a f 0,0)/\(AU a f 0).err=0/\(AU a f 0).wt<=1000000000):=by
 have hn:=(Fm.d_ c).2;unfold jy;rw[(zu d e).1,bT];refine⟨λh=>by rw[bX (vW h)],λh=>?_⟩;obtain⟨n,_,hu,o⟩:=xq h;rw[h,bV nz];obtain⟨p,rm,l,q,r,i⟩:=Ix n b VW m [] aas hn o FU 1048576 aaQ (by rw[cP];omega) VW VW;rw[tP] at l i;rw[l,bW];rcases N' (P:=p) (rm:=rm) (λj=>by obtain⟨_,w⟩:=i j;omega)with k|⟨j,he,hw,k⟩
 ·exact .inl k
 ·obtain⟨rfl,_⟩:=i j;exact .inr ⟨k,he,hw⟩
theorem yl.no{g:List Ty}{f:Fm}(a:yl g f):yl g (dt (dt (dt f lp) lp) f):=by
 have b:yl g lp:=.eq .zero (.succ .zero);exact .two (.inr rfl) (.two (.inr rfl) (.two (.inr rfl) a b) b) a
def Jt{g:List Ty}{a f:Fm}(d:yl g a)(b:a.err=0)(l:yl g f)(e:f.err=0)(hg:g.length<=16):(¬nd a (dt (dt (dt f lp) lp) f)=0->hO a f=some (xO,nd a (dt (dt (dt f lp) lp) f)))/\(nd a (dt (dt (dt f lp) lp) f)=0->(∃z,hO a f=some (z,4))\/hO a f=some (ZJ a (AU a f 0) (pK wA a.aeb a 0) (ku a f 0),0)/\(ZJ a (AU a f 0) (pK wA a.aeb a 0) (ku a f 0)).err=0/\(ZJ a (AU a f 0) (pK wA a.aeb a 0) (ku a f 0)).wt<=1000000000):=by
 obtain⟨t,hn⟩:=Fm.d_ e;obtain⟨m,u⟩:=Fm.d_ b;have v:=f.er t;have x:=a.er m
 have D:lp.wt<=100:=aaq
 have n:(dt (dt (dt f lp) lp) f).wt<=1000000000:=by
  have c:=Mm (dt (dt f lp) lp) f;have y:=Mm (dt f lp) lp;have A:=Mm f lp;show(nj (dt (dt f lp) lp) f).wt<=_;rw[c];show 2+(nj (dt f lp) lp).wt+f.wt<=_;rw[y];show 2+(2+(nj f lp).wt+lp.wt)+f.wt<=_;rw[A];omega
 unfold hO
 rw[fh VW,b,bT,bV nz,fh VW,e,bT,bV nz,show rD=some lp from rfl,bT,show jY a (nj (B7 f lp) f)=some (nd a (dt (dt (dt f lp) lp) f))from(zu VW n).1,bT]
 refine⟨λh=>by rw[bX (vW h)],λh=>?_⟩;obtain⟨j,_,hu,B⟩:=xq h
 have o:f.tr a.aeb<=4096:=by
  have c:=Jn a.aeb (.inr rfl) .z [] (dt (dt f lp) lp) f;unfold dt at B;unfold dt at c;omega
 have i:yl g lp:=.eq .zero (.succ .zero)
 have fn:lp.aeb=4:=aaq
 have C:ku a lp 0=dt (dt lp a) a:=by
  unfold lp;rw[Ar,show((0:Nat):Int)=0 from rfl,Fm.pD]
 obtain⟨t1,t2⟩:=sZ j l (k:=0) VW VW;have E:=Fm.er _ t1;obtain⟨p,rm,s,F,G,q⟩:=Ix j d.ty VW l [] aas hn o FU 1048576 aaQ (by rw[cP];omega) VW VW;rw[tP] at s q;rw[h,bV nz,uM j l 0 FU VW (by rw[cP];omega),bT,uM j i 0 FU VW (by rw[cP,fn];omega),bT,C];rcases MZ d b VW with⟨z,r⟩|⟨r,H⟩
 ·rw[r,bW,bX aaq];exact .inl ⟨_,rfl⟩
 ·rw[r,bW,bV nz,s,bW]
  have I:(dt (dt lp a) a).wt<=600000:=by
   show(nj (nj lp a) a).wt<=_;rw[Mm,Mm];omega
  rcases N' (P:=gL (B7 (ku a f 0) (dt (dt lp a) a)) (fP p (gL (nj (ku a f 0) a) (fP (fP (dU 1) (gL (ku a f 0) (gL (nj lp a) (fP (dU 2) (dU 1))))) (gL lp (fP (gL lp (pK wA a.aeb a 0)) (dU 0))))))) (rm:=rm) (λi=>by
   obtain⟨_,w⟩:=q i;rw[Cp,Zo,Ez,Cp,Mm,Ez,Ez,Ef,Cp,Cp,Mm,Ez,Ef,Ef,Cp,Ez,Cp,Ef]
   omega)with c|⟨i,he,hw,c⟩
  ·exact .inl ⟨_,c⟩
  ·obtain⟨rfl,_⟩:=q i;exact .inr ⟨c,he,hw⟩
def ZS{g:List Ty}(hg:se 3 g)(a:g.length<=3):AW [] ⟨g,[]⟩:=⟨aas,λf h=>by simp at h,λs hs=>(hg.all s hs).1,by show g.length<=16;omega,aas,λf h=>by simp at h⟩
def PV{x y:Fm}(a:x.wt<=1000000)(hy:y.wt<=1000000):fZ 3 x y=some (dt x y)/\(dt x y).wt=2+x.wt+y.wt:=⟨vj VW VW,Mm x y⟩
def zC(a0:List Int):k9 a0=some true:=by
 unfold k9;rw[Hl,bT,bX rfl,PW,bT]
 by_cases A:a0.length<=500
 ·rw[bX (tB A),show MI a0=some ⟨a0,0⟩from rfl,bT];obtain⟨g,d,D,E,c3,q⟩:=Hq ⟨a0,0⟩ (XS a0 VW);rw[D,bW];obtain⟨a,d1,a1,a2,a3,a4⟩:=E9 FU 1 g d (by rw[cP];omega) VW VW q E;rw[show((1:Nat):Int)=1 from rfl] at a1;rw[a1,bW];obtain⟨f,d2,f1,f2,f3,f4⟩:=E9 FU 2 g d1 (by rw[cP];omega) VW VW q a2;rw[show((2:Nat):Int)=2 from rfl] at f1;rw[f1,bW];have W:a.aeb<=231:=a3.aeb;have nf:f.aeb<=463:=f3.aeb;have b:=a3.ty.pu a4;have c:=f3.ty.pu f4;have j:a.err=0:=Fm.nA a3.ty.ok VW;have k:f.err=0:=Fm.nA f3.ty.ok VW;have F:=a.er a3.ty.ok;have G:=f.er f3.ty.ok;have l:a.aef 536870912=true:=a3.ty.aef _ VW;have B:=ZS q c3;obtain⟨s1,s2⟩:=Pr b.ty c k VW VW (by omega:g.length<=16);have e:=c.no;have i:=e.ty.ok
  have r:(dt (dt (dt f lp) lp) f).aeb<=4096:=by
   have fn:lp.aeb=4:=aaq
   unfold dt;rw[gm,gm,gm];omega
  have t:=Fm.nA i r;have H:=Fm.er _ i;obtain⟨I,k2⟩:=Jt b j c k (by omega:g.length<=16);have J:∀(g:List Ty) (s:Ty),s.err=0->cJ g (wA s) s:=λg s hs=>(R9 hs).2.1 g
  by_cases m:nd a f=0
  ·obtain⟨K,X⟩:=O0 c VW VW m;rw[K,bW];have u:fg g (ku a f 0):=yV b.ty c [] aas;rcases s2 m with v|⟨v,M,N⟩
   ·rw[v,bW];rfl
   ·rw[v,bW,bV aaq]
    have n:∀hs,Tk [] g hs (AU a f 0) (dt (dt (dt (ku a f 0) a) a) (ku a f 0)):=by
     intro hs;have:=Xk (L:=[]) b.ty c [] aas hs;rw[tP,show((0:Nat):Int)=0 from rfl,Fm.pD] at this;exact this
    obtain⟨O,Y⟩:=PV (x:=ku a f 0) (y:=a) VW VW;obtain⟨P,Z⟩:=PV (x:=dt (ku a f 0) a) (y:=a) VW VW;obtain⟨Q,b6⟩:=PV (x:=dt (dt (ku a f 0) a) a) (y:=ku a f 0) VW VW;rw[O,bT,P,bT,Q,bT,HZ B N M (jt (jt (jt u b.ty) b.ty) u) VW (n []),bT,bX rfl]
    have fw:lp.wt<=100:=aaq
    obtain⟨n1,n2⟩:=PV (x:=f) (y:=lp) VW VW;obtain⟨n3,n4⟩:=PV (x:=dt f lp) (y:=lp) VW VW;obtain⟨R,n6⟩:=PV (x:=dt (dt f lp) lp) (y:=f) VW VW;rw[show ot=some lp from Sb,bT,n1,bT,bT,n3,bT,R,bT];rcases H7 j t e.nu l with hx|hx
    ·obtain⟨S,y2⟩:=O0 e VW VW hx;rw[S,bW];rcases k2 hx with⟨z,q1⟩|⟨q1,T,U⟩
     ·rw[q1,bW];rfl
     ·rw[q1,bW,bV aaq];have V:fg g (ku a (dt (dt (dt f lp) lp) f) 0):=yV b.ty e [] aas
      have w:Tk [] g [] (ZJ a (AU a f 0) (pK wA a.aeb a 0) (ku a f 0)) (ku a (dt (dt (dt f lp) lp) f) 0):=by
       rw[Ya (Fm.pD a)];exact Yb b.ty u n λhs=>zh J a.aeb g a 0 _ (b.pud _ (fT _)) aas
      rw[HZ B U T V VW w];rfl
    ·have o:=(GA (a:=a) (f:=dt (dt (dt f lp) lp) f) VW VW (by rw[hx];decide)).2;rw[hx] at o;have p:=I (by rw[hx];decide);rw[hx] at p;rw[o,bW,p,bW];rfl
  ·have C:nd a f=4:=by
    rcases H7 j k f4 l with h|h
    ·exact absurd h m
    ·exact h
   have o:=(GA (a:=a) (f:=f) VW VW m).2;rw[C] at o;have p:=s1 m;rw[C] at p;rw[o,bW,p,bW];rfl
 ·rw[bV (by simpa using A)]
end Go.dG
