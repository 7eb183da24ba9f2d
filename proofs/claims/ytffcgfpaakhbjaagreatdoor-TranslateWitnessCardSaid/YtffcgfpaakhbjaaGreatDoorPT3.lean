/- Part of the proof of TranslateWitness: plain facts. -/
import Derived.Test.YtffcgfpaakhbjaaGreatDoorPT2
set_option linter.all false
namespace Go.dF
open Go
def Tm.r_{t:Tm}(h:t.ok=true)(hn:t.acJ<=4096):t.err=0:=by grind[Tm.err]
def Vd(n:Nat)(c:bZ)(t:Tm):cp (n+1) c (.mk 18 0 .z [t] [] [])=bU (nS t t) λa=>bU (eR c t 1) λb=>some (a,[],b):=by rw[cp];rfl
def Pp(L:List Fm)(t:Tm)(g:List Ty)(hs:List Fm):nE L 18 0 .z [t] [] (Pf.rV L []) g hs=jc (mU t g 1) (.inl (.mk 1 .z [t,t] [],0)):=rfl
def Wk(n:Nat)(L:List Fm)(t:Tm)(p:cm):om n L (.mk 18 0 .z [t] [] []) p=bU (gV p.acL t) λa=>if(cG a 0) then some (⟨eG,0⟩,a)else some (⟨.mk 1 .z [t,t] [],0⟩,0):=rfl
def OO{L:List Fm}{t:Tm}(a:t.err=0):gC L (.mk 18 0 .z [t] [] []) 5:=by
 refine gC.of (N:=0) λn n' _ _ p c h=>?_;have e:=h.pl.nv;have f:=h.pl.ctx;obtain⟨a1,a2⟩:=Tm.ea a;have hw:=t.eO a1;rw[show n'+4=n'+3+1 from rfl,Vd,Pp,Wk,h.pl.acL,uP a1 f cw,(has_both f e rfl a 1).2,I0 cw cw,bT,bT,bT]
 by_cases b:mU t c.acL 1=0
 ·have d:cQ c.acL t .nat:=ya f a (.inl rfl) b;rw[bV (by rw[cg];simpa using b),eX b,b];refine jR.yes rfl rfl rfl .nil (.eq d d) ?_;rw[Fm.bY];simp only[cn];omega
 ·rw[bX (by rw[cg];exact b),gj b];exact jR.no b rfl rfl rfl
def Tp(n:Nat)(c:bZ)(F:Fm)(a b:Pf):cp (n+2) c (.mk 19 0 .z [] [F] [a,b])=gM (ef (dP c.acL [.nat])<|bU (iL (dN c.acL [.nat]) F) λe=>if(cG e 0) then some (eG,[],e)else b8 (cA n c a) λd f=>if(cG f 0) then some (eG,[],f)else if(cG d.cf.acH 1) then some (eG,[],10)else bU (cq d.cf.cv 0) λo=>b8 (dd n c b F o) λp g=>if(cG g 0) then some (eG,[],g)else bU (cq d.cf.cv 1) λh=>b8 (gU F h) λi j=>some (i,p,j)) λk l m=>some (k,l,m):=by
 rw[cp];rw[lD];rfl
def Nn(L:List Fm)(F:Fm)(a b:Pf)(g:List Ty)(hs:List Fm):nE L 19 0 .z [] [F] (Pf.rV L [a,b]) g hs=jc (F.ta (g++[.nat])) (pbind (A9 (a.inf L g hs) 1) λa _=>pbind (Be (b.inf L g hs) F (a.cv.getD 0 Tm.z)) λ_ n=>jc (lr F (a.cv.getD 1 Tm.z)).2 (.inl ((lr F (a.cv.getD 1 Tm.z)).1,n))):=rfl
def Sf(n:Nat)(L:List Fm)(F:Fm)(a b:Pf)(p:cm):om (n+1) L (.mk 19 0 .z [] [F] [a,b]) p=bU (eC p.acL [.nat]) λj=>bU (cN FU j F) λc=>if(cG c 0) then some (⟨eG,0⟩,c)else b8 (cU n L a p 1) λd e=>if(cG e 0) then some (⟨eG,0⟩,e)else bU (cq d.cf.cv 0) λk=>b8 (c6 n L b p F k) λl f=>if(cG f 0) then some (⟨eG,0⟩,f)else bU (cq d.cf.cv 1) λg=>b8 (gI F g) λh i=>some (⟨h,l.eD⟩,i):=by
 show lb (n+1) L (.mk 19 0 .z [] [F] [a,b]) p=_;rw[lb];rfl
def Ms{L:List Fm}{F:Fm}(hF:F.err=0){a b:Pf}{N:Nat}(E:gC L a N)(G:gC L b N):gC L (.mk 19 0 .z [] [F] [a,b]) (N+5):=by
 refine gC.of λn n' hn H p c h=>?_;have r:=h.pl.nv;have B:=h.pl.ctx;have I:=(Fm.ea hF).2;obtain⟨t1,t2,_⟩:=qs B.nat aae hF;rw[show n'+4=n'+2+2 from rfl,Tp,Nn,Sf,h.pl.acL,pS Ty.fO cw,bT,t1,bT,dc aae,b6,ei,t2,bT]
 by_cases i:F.ta (c.acL++[.nat])=0
 ·have s:=i;rw[<-uu (a:=_=_),<-ne_eq,<-cg] at s;rw[bV s,bV s,eX i];have g:=pj F (Fm.ea hF).1 _ B.nat i;rcases k0 (E (n+2) (n'+2) cw cw p c h) 1 with⟨e,he,j,k,d⟩|⟨f,m,l,j,k,d,hu,C,t⟩
  ·rw[j,k,bW,bX (by rw[cg];exact he)];rcases d with d|⟨f,l,m,d,t,rfl,_⟩
   ·rw[d,bW,bX (by rw[cg];exact he)];exact jR.no he rfl rfl rfl
   ·rw[d,bW,bV nz,bX (by rw[cg];exact t)];exact jR.no he rfl rfl rfl
  ·obtain⟨x,y,rfl,D,hy⟩:=C.ty.TW t;have q:=C.acJ;rw[Fm.bY] at q;simp only[cn] at q;have u:x.err=0:=Tm.r_ D.ok cw;have v:y.err=0:=Tm.r_ hy.ok cw;have w:qk c.acL F x:=⟨hF,u,.nat,g,D⟩;have o:qk c.acL F y:=⟨hF,v,.nat,g,hy⟩;rw[j,k,d,bW,bW,bV nz,bV nz,bV th,dT];simp only[Fm.eI,cD,dQ,fM,kx,bT,wU,KY];rcases qO r (G (n+2) (n'+1) cw cw p c h) w with⟨e,z,l,m,he,j,k,d,hu⟩|⟨f,m,l,j,k,d,hu⟩
   ·rw[j,k,d,bW,bW,bX (by rw[cg];exact he),bX (by rw[cg];exact he)];exact jR.no he rfl rfl rfl
   ·rw[j,k,d,bW,bW,bV nz,bV nz,dT,(o.both cw).1,(o.both cw).2];rcases mo F y with A|⟨J,A⟩
    ·rw[A,bW,bW,gj gw];exact jR.no gw rfl rfl rfl
    ·rw[A,bW,bW,eX rfl];exact jR.yes (f:=Fm.e_ 0 F y) rfl rfl rfl hu o.put cw
 ·rw[bX (by rw[cg];exact i),bX (by rw[cg];exact i),gj i];exact jR.no i rfl rfl rfl
def XT(f:Fm)(l:List Int):Option (Fm×List Int×Int):=
 cB (λ(d:Bool)=>if d then some (eG,[],10)else bU (cq f.acI 0) λa=>bU (i_ f.b7 a.b7) λb=>bU (gk b) λe=>if(cG e 0) then some (eG,[],4)else bU (cq a.acI 0) λg=>bU (ft FU g 2 1) λh=>bU (dR 3 [v1,v0]) λi=>b8 (gU h i) λj k=>bU (ic 4 f.b7 j) λm=>bU (ic 5 b m) λn=>some (n,l,k)) λc=>if(cG f.acH 4) then c true else bU (cq f.acI 0) λo=>c (cG o.acH 5)
def Sh{f:Fm}{l:List Int}(h:f.acH≠4):XT f l=some (eG,[],10):=by grind[cG,cg,XT,cc]
def Tt{s:Ty}{x:Fm}{l:List Int}(h:x.acH≠5):XT (.mk 4 s [] [x]) l=some (eG,[],10):=by
 have o:cG x.acH 5=true:=by rw[cg];exact h
 have e:XT (.mk 4 s [] [x]) l=(λ(c:Bool)=>if c then some (eG,[],10)else bU (cq [x] 0) λa=>bU (i_ s a.b7) λb=>bU (gk b) λd=>if(cG d 0) then some (eG,[],4)else bU (cq a.acI 0) λf=>bU (ft FU f 2 1) λg=>bU (dR 3 [v1,v0]) λi=>b8 (gU g i) λj k=>bU (ic 4 s j) λm=>bU (ic 5 b m) λn=>some (n,l,k)) (cG x.acH 5):=rfl
 grind
def Ye{s u:Ty}{y:Fm}{l:List Int}:XT (.mk 4 s [] [.mk 5 u [] [y]]) l=bU (i_ s u) λa=>bU (gk a) λb=>if(cG b 0) then some (eG,[],4)else bU (ft FU y 2 1) λc=>bU (dR 3 [v1,v0]) λd=>b8 (gU c d) λe f=>bU (ic 4 s e) λg=>bU (ic 5 a g) λh=>some (h,l,f):=rfl
def Q7(n:Nat)(c:bZ)(a:Pf):cp (n+2) c (.mk 20 0 .z [] [] [a])=gM (b8 (cA n c a) λb d=>if(cG d 0) then some (eG,[],d)else XT b.cf b.eD) λe f g=>some (e,f,g):=by
 rw[cp];rw[kT];rfl
def Kv(L:List Fm)(a:Pf)(g:List Ty)(hs:List Fm):nE L 20 0 .z [] [] (Pf.rV L [a]) g hs=pbind (A9 (a.inf L g hs) 4) λa m=>tC ((a.acI.getD 0 eG).acH≠5) 10 (tC ((Ty.fn a.b7 (a.acI.getD 0 eG).b7).err≠0) 4 (tC ((lr (((a.acI.getD 0 eG).acI.getD 0 eG).up 2 1) (qj v1 v0)).2≠0) 4 (.inl (.mk 5 (Ty.fn a.b7 (a.acI.getD 0 eG).b7) [] [.mk 4 a.b7 [] [(lr (((a.acI.getD 0 eG).acI.getD 0 eG).up 2 1) (qj v1 v0)).1]],m)))):=rfl
def ZL(f:Fm)(u:Int):Option (b0×Int):=
 bU (cq f.acI 0) λa=>if(cG a.acH 5) then some (⟨eG,0⟩,10)else bU (oz a.b7 [f.b7]) λb=>bU (cq a.acI 0) λd=>bU (c_ d 2 1) λe=>bU (fk 1) λg=>bU (fk 0) λh=>bU (qe g [h]) λi=>b8 (gI e i) λj k=>cB (λ(l:Bool)=>if l then some (⟨eG,0⟩,4)else bU (eW 4 f.b7 j) λm=>bU (eW 5 b m) λn=>some (⟨n,u⟩,0)) λc=>if(cG k 0) then c true else bU (ma b) λo=>c (cG o 0)
def Se{s:Ty}{x:Fm}{u:Int}(h:x.acH≠5):ZL (.mk 4 s [] [x]) u=some (⟨eG,0⟩,10):=by grind[cG,cg,ZL,Fm.ck,cD,bT]
def Qi(n:Nat)(L:List Fm)(a:Pf)(p:cm):om (n+1) L (.mk 20 0 .z [] [] [a]) p=b8 (cU n L a p 4) λb c=>if(cG c 0) then some (⟨eG,0⟩,c)else ZL b.cf b.eD:=by
 show mT (n+1) L (.mk 20 0 .z [] [] [a]) p=_;rfl
def Y2{s u:Ty}{y b:Fm}{m:Int}{q:Fm×Int}(v:c_ y 2 1=some b)(x:gI b (qj v1 v0)=some q)(z:ma (.fn s u)=some (Ty.fn s u).err):ZL (.mk 4 s [] [.mk 5 u [] [y]]) m=if q.2=0/\(Ty.fn s u).err=0 then some (⟨.mk 5 (.fn s u) [] [.mk 4 s [] [q.1]],m⟩,0)else some (⟨eG,0⟩,4):=by
 obtain⟨w,e⟩:=q
 have A:ZL (.mk 4 s [] [.mk 5 u [] [y]]) m=bU (oz u [s]) λa=>bU (c_ y 2 1) λf=>bU (fk 1) λg=>bU (fk 0) λi=>bU (qe g [i]) λj=>b8 (gI f j) λk l=>cB (λ(n:Bool)=>if n then some (⟨eG,0⟩,4)else bU (eW 4 s k) λo=>bU (eW 5 a o) λp=>some (⟨p,m⟩,0)) λc=>if(cG l 0) then c true else bU (ma a) λr=>c (cG r 0):=by
  rfl
 rw[A,OL,bT,v,bT,show fk 1=some v1 from rfl,bT,show fk 0=some v0 from rfl,bT,Ag,bT,show Tm.mk 3 0 (.mk 0 []) [v1,v0]=qj v1 v0 from rfl,x,bW,cc,z,bT]
 by_cases he:e=0
 ·subst he;rw[bV nz]
  by_cases d:(Ty.fn s u).err=0
  ·have t:cG (Ty.fn s u).err 0=false:=by rw[d];rfl
   rw[t,bX ⟨rfl,d⟩];rfl
  ·have t:cG (Ty.fn s u).err 0=true:=by rw[cg];exact d
   rw[t,bV (λh=>d h.2)];rfl
 ·rw[bX (by rw[cg];exact he),bV (λh=>he h.1)];rfl
def Jd{L:List Fm}{a:Pf}{N:Nat}(E:gC L a N):gC L (.mk 20 0 .z [] [] [a]) (N+5):=by
 refine gC.of λn n' hn F p c h=>?_;have G:=h.pl.nv;rw[show n'+4=n'+2+2 from rfl,Q7,Kv,Qi];rcases k0 (E (n+2) (n'+2) cw cw p c h) 4 with⟨e,he,k,o,i⟩|⟨f,m,l,k,o,i,hu,C,r⟩
 ·rw[k,o,bW,bX (by rw[cg];exact he)];rcases i with i|⟨f,l,m,i,r,rfl,_⟩
  ·rw[i,bW,bX (by rw[cg];exact he)];exact jR.no he rfl rfl rfl
  ·rw[i,bW,bV nz,Sh r];exact jR.no he rfl rfl rfl
 ·obtain⟨s,x,rfl,hs,D⟩:=C.ty.tJ r (.inl rfl);have t:=C.sub (x:=x) th D;rw[k,o,i,bW,bW,bV nz,bV nz,dT]
  by_cases d:x.acH=5
  ·obtain⟨u,y,rfl,v,hy⟩:=D.tJ d (.inr (.inl rfl));have g:=t.sub (x:=y) th hy;have H:=df hs;have I:=df v;have J:=g.acJ
   have K:(Ty.fn s u).acJ<=1000:=by rw[Ty.g_];omega
   have j:y.acN 1000000000=true:=hy.acN _ aae;have M:c_ y 2 1=some (y.up 2 1):=(r7 g.err j (f:=2) (c:=1) cw cw).1;have O:ft FU y 2 1=some (y.up 2 1):=(r7 g.err j (f:=2) (c:=1) cw cw).2
   have w:qk (c.acL++[.fn s u]++[s]) (y.up 2 1) (qj v1 v0):=⟨zj g.err cw cw,gw,u,by
    have:=hy.up c.acL [s,u] [.fn s u] th
    simpa using this,.app DZ wL⟩
   obtain⟨P,Q⟩:=w.both aae;have R:=L7;have hw:=Fm.eO _ w.put.ok;simp only[Fm.ck,Fm.cT,Fm.cx,wU];rw[jd gw,Y2 M P (xm cw),Ye,f_ cw cw,bT,kz cw,bT]
   by_cases b:(Ty.fn s u).err=0
   ·have A:¬cG (Ty.fn s u).err 0=true:=by rw[cg];simpa using b
    rw[bV A,jd (by simpa using b),O,bT,show dR 3 [v1,v0]=some (qj v1 v0)from uf gw gw,bT,Q];rcases mo (y.up 2 1) (qj v1 v0)with B|⟨S,B⟩
    ·rw[B,bV (λh=>by cases h.1),bW,iy gw,KL cw cw,bT];rw[KL cw (by rw[Fm.fo];simp only[cn];omega),bT];exact jR.no gw rfl rfl rfl
    ·rw[B,bX ⟨rfl,b⟩,bW,jd (λh=>h rfl),KL cw cw,bT];rw[KL cw (by rw[Fm.fo];simp only[cn];omega),bT];refine jR.yes (f:=.mk 5 (.fn s u) [] [.mk 4 s [] [Fm.e_ 0 (y.up 2 1) (qj v1 v0)]]) rfl rfl rfl hu (.q (.inr (.inl rfl)) b (.q (.inl rfl) hs w.put)) ?_;rw[Fm.bY];simp only[cn];rw[Fm.bY];simp only[cn];omega
   ·have A:cG (Ty.fn s u).err 0=true:=by rw[cg];exact b
    rw[bX A,iy b,bV (λh=>b h.2)];exact jR.no gw rfl rfl rfl
  ·simp only[Fm.ck,wU];rw[Se d,Tt d,iy d];exact jR.no gw rfl rfl rfl
inductive xy:Pf->Prop
 |hyp {i}:0<=i->xy (.mk 1 i .z [] [] [])|Ib {i}:0<=i->xy (.mk 2 i .z [] [] [])|Mh {a b}:xy a->xy b->xy (.mk 3 0 .z [] [] [a,b])|and {k a}:k=4\/k=5->xy a->xy (.mk k 0 .z [] [] [a])|Ko {F a}:F.err=0->xy a->xy (.mk 6 0 .z [] [F] [a])|JJ {a b}:xy a->xy b->xy (.mk 7 0 .z [] [] [a,b])|all {k s a}:k=8\/k=12->s.err=0->xy a->xy (.mk k 0 s [] [] [a])|UY {k t a}:k=9\/k=13->t.err=0->xy a->xy (.mk k 0 .z [t] [] [a])|ex {k t F a}:k=10\/k=14->t.err=0->F.err=0->xy a->xy (.mk k 0 .z [t] [F] [a])|WJ {k a b}:k=11\/k=15->xy a->xy b->xy (.mk k 0 .z [] [] [a,b])|ind {k t F a b}:k=16\/k=17->t.err=0->F.err=0->xy a->xy b->xy (.mk k 0 .z [t] [F] [a,b])|refl {t}:t.err=0->xy (.mk 18 0 .z [t] [] [])|subst {F a b}:F.err=0->xy a->xy b->xy (.mk 19 0 .z [] [F] [a,b])|choice {a}:xy a->xy (.mk 20 0 .z [] [] [a])
mutual
def Pf.wW:Pf->Nat
 |.mk _ _ _ _ _ l=>1+Pf.tE l
def Pf.tE:List Pf->Nat
 |[]=>0|p::l=>p.wW+Pf.tE l
end
def gC.mono{L:List Fm}{P:Pf}{N M:Nat}(h:gC L P N)(a:N<=M):gC L P M:=λn n' b c=>h n n' cw cw
def Rm{L:List Fm}{P:Pf}(h:xy P):gC L P (5*P.wW):=by
 induction h with
 |hyp hi=>exact Qm hi|Ib hi=>exact Rr hi|Mh _ _ a b=>exact(OQ (a.mono (MD _ _)) (b.mono (ME _ _))).mono (by simp only[Pf.wW,Pf.tE];omega)|and c _ a=>
  rcases c with rfl|rfl
  ·exact(OU a).mono (by simp only[Pf.wW,Pf.tE];omega)
  ·exact(NZ a).mono (by simp only[Pf.wW,Pf.tE];omega)
 |Ko hF _ a=>exact(OI hF a).mono (by simp only[Pf.wW,Pf.tE];omega)|JJ _ _ a b=>exact(Og (a.mono (MD _ _)) (b.mono (ME _ _))).mono (by simp only[Pf.wW,Pf.tE];omega)|all c hs _ a=>
  rcases c with rfl|rfl
  ·exact(OB hs a).mono (by simp only[Pf.wW,Pf.tE];omega)
  ·exact(KP hs a).mono (by simp only[Pf.wW,Pf.tE];omega)
 |UY c d _ a=>
  rcases c with rfl|rfl
  ·exact(Rj d a).mono (by simp only[Pf.wW,Pf.tE];omega)
  ·exact(Ot d a).mono (by simp only[Pf.wW,Pf.tE];omega)
 |ex c d hF _ a=>
  rcases c with rfl|rfl
  ·exact(O9 d hF a).mono (by simp only[Pf.wW,Pf.tE];omega)
  ·exact(Od d hF a).mono (by simp only[Pf.wW,Pf.tE];omega)
 |WJ c _ _ a b=>
  rcases c with rfl|rfl
  ·exact(Jk (a.mono (MD _ _)) (b.mono (ME _ _))).mono (by simp only[Pf.wW,Pf.tE];omega)
  ·exact(Jm (a.mono (MD _ _)) (b.mono (ME _ _))).mono (by simp only[Pf.wW,Pf.tE];omega)
 |ind c d hF _ _ a b=>
  rcases c with rfl|rfl
  ·exact(LJ d hF (a.mono (MD _ _)) (b.mono (ME _ _))).mono (by simp only[Pf.wW,Pf.tE];omega)
  ·exact(Lo d hF (a.mono (MD _ _)) (b.mono (ME _ _))).mono (by simp only[Pf.wW,Pf.tE];omega)
 |refl d=>exact OO d|subst hF _ _ a b=>exact(Ms hF (a.mono (MD _ _)) (b.mono (ME _ _))).mono (by simp only[Pf.wW,Pf.tE];omega)|choice _ a=>exact(Jd a).mono (by simp only[Pf.wW,Pf.tE];omega)
mutual
def Pf.acJ:Pf->Nat
 |.mk _ _ _ ts fs l=>1+cn Tm.acJ ts+cn Fm.acJ fs+Pf.lP l
def Pf.lP:List Pf->Nat
 |[]=>0|p::l=>p.acJ+Pf.lP l
end
def Pf.pw:∀l:List Pf,Pf.lP l=cn Pf.acJ l
 |[]=>by rw[Pf.lP];rfl|p::l=>by rw[Pf.lP,Pf.pw l];rfl
theorem Pf.bY(k i:Int)(s:Ty)(ts:List Tm)(fs:List Fm)(l:List Pf):(Pf.mk k i s ts fs l).acJ=1+cn Tm.acJ ts+cn Fm.acJ fs+cn Pf.acJ l:=by rw[Pf.acJ,Pf.pw]
mutual
def Pf.wt:Pf->Nat
 |.mk _ _ s ts fs l=>1+s.acJ+cn Tm.wt ts+cn Fm.wt fs+Pf.LK l
def Pf.LK:List Pf->Nat
 |[]=>0|p::l=>p.wt+Pf.LK l
end
def Pf.BZ:∀l:List Pf,Pf.LK l=cn Pf.wt l
 |[]=>by rw[Pf.LK];rfl|p::l=>by rw[Pf.LK,Pf.BZ l];rfl
def Pf.fo(k i:Int)(s:Ty)(ts:List Tm)(fs:List Fm)(l:List Pf):(Pf.mk k i s ts fs l).wt=1+s.acJ+cn Tm.wt ts+cn Fm.wt fs+cn Pf.wt l:=by rw[Pf.wt,Pf.BZ]
def Pf.gK(p:Pf):1<=p.wt:=by cases p;rw[Pf.fo];omega
def Pf.ind{p:Pf->Prop}(h:∀k i s ts fs l,(∀t∈l,p t)->p (.mk k i s ts fs l))(t:Pf):p t:=by
 match t with
 |.mk k i s ts fs l=>exact h k i s ts fs l λx a=>Pf.ind h x
termination_by SizeOf.sizeOf t
decreasing_by
 have:=Vr a;simp only[Pf.mk.sizeOf_spec];omega
def Pf.fE(p:Pf):p.acJ<=p.wt:=by
 induction p using Pf.ind with
 |h k i s ts fs l a=>
  rw[Pf.bY,Pf.fo];have b:=iu (l:=ts) (λx _=>Tm.fE x);have c:=iu (l:=fs) (λx _=>Fm.fE x);have d:=iu (l:=l) a;omega
def Pf.sig(k:Int):Option (Bool×Bool×Nat×Nat×Nat):=
 if k=1\/k=2 then some (true,false,0,0,0)
 else if k=3\/k=7\/k=11\/k=15 then some (false,false,0,0,2)
 else if k=4\/k=5\/k=20 then some (false,false,0,0,1)
 else if k=6 then some (false,false,0,1,1)
 else if k=8\/k=12 then some (false,true,0,0,1)
 else if k=9\/k=13 then some (false,false,1,0,1)
 else if k=10\/k=14 then some (false,false,1,1,1)
 else if k=16\/k=17 then some (false,false,1,1,2)
 else if k=18 then some (false,false,1,0,0)
 else if k=19 then some (false,false,0,1,2)
 else none
def Pf.node(k i:Int)(s:Ty)(d nf e:Nat):Bool:=
 match Pf.sig k with
 |none=>false|some (f,ty,a,b,c)=>decide (d=a)&&decide (nf=b)&&decide (e=c)&&decide (0<=i)&&(f||decide (i=0))&&(if ty then decide (s.err=0)else s.oG)
mutual
def Pf.ok:Pf->Bool
 |.mk k i s ts fs l=>Pf.node k i s ts.length fs.length l.length&&ts.all Tm.ok&&fs.all Fm.ok&&Pf.GI l
def Pf.GI:List Pf->Bool
 |[]=>true|p::l=>p.ok&&Pf.GI l
end
def Pf.wZ:∀l:List Pf,Pf.GI l=l.all Pf.ok
 |[]=>by rw[Pf.GI];rfl|p::l=>by rw[Pf.GI,Pf.wZ l];rfl
theorem Pf.eo(k i:Int)(s:Ty)(ts:List Tm)(fs:List Fm)(l:List Pf):(Pf.mk k i s ts fs l).ok=(Pf.node k i s ts.length fs.length l.length&&ts.all Tm.ok&&fs.all Fm.ok&&l.all Pf.ok):=by rw[Pf.ok,Pf.wZ]
def Pd(t:Tm):Bool:=decide (t.acJ<=4096)
def Pj(f:Fm):Bool:=decide (f.acJ<=4096)
mutual
def Pf.small:Pf->Bool
 |.mk _ _ _ ts fs l=>ts.all Pd&&fs.all Pj&&Pf.E5 l
def Pf.E5:List Pf->Bool
 |[]=>true|p::l=>p.small&&Pf.E5 l
end
def Pf.Hj:∀l:List Pf,Pf.E5 l=l.all Pf.small
 |[]=>by rw[Pf.E5];rfl|p::l=>by rw[Pf.E5,Pf.Hj l];rfl
def Pf.AW(k i:Int)(s:Ty)(ts:List Tm)(fs:List Fm)(l:List Pf):(Pf.mk k i s ts fs l).small=(ts.all Pd&&fs.all Pj&&l.all Pf.small):=by rw[Pf.small,Pf.Hj]
def Pf.err(p:Pf):Int:=if p.ok then(if p.small=true/\p.acJ<=16384 then 0 else 4)else 2
def UM{k:Int}(h:Pf.sig k≠none):k=1\/k=2\/k=3\/k=4\/k=5\/k=6\/k=7\/k=8\/k=9\/k=10\/k=11\/k=12\/k=13\/k=14\/k=15\/k=16\/k=17\/k=18\/k=19\/k=20:=by
 refine Zv λhn=>h ?_;unfold Pf.sig;simp only[not_or] at hn;rw[bV cw,bV cw,bV cw,bV cw,bV cw,bV cw,bV cw,bV cw,bV cw,bV cw]
def KC{k:Int}(h:k<1\/20<k):Pf.sig k=none:=by
 unfold Pf.sig;rw[bV cw,bV cw,bV cw,bV cw,bV cw,bV cw,bV cw,bV cw,bV cw,bV cw]
def OR(k:Int):(Pf.sig k=none/\∃r,kh k=some (r,false))\/∃d ty a b c r,Pf.sig k=some (d,ty,a,b,c)/\kh k=some (r,true)/\r.acK=d/\r.typed=ty/\r.cv=((a:Nat):Int)/\r.dw=((b:Nat):Int)/\r.acI=((c:Nat):Int):=by
 by_cases h:k<1\/20<k
 ·refine .inl ⟨KC h,?_⟩;unfold kh;rw[bX (by rw[jY,pE,j6,fF];omega)];exact⟨_,rfl⟩
 ·have e:k=1\/k=2\/k=3\/k=4\/k=5\/k=6\/k=7\/k=8\/k=9\/k=10\/k=11\/k=12\/k=13\/k=14\/k=15\/k=16\/k=17\/k=18\/k=19\/k=20:=cw
  refine .inr ?_;rcases e with rfl|rfl|rfl|rfl|rfl|rfl|rfl|rfl|rfl|rfl|rfl|rfl|rfl|rfl|rfl|rfl|rfl|rfl|rfl|rfl<;>exact⟨_,_,_,_,_,_,rfl,rfl,rfl,rfl,rfl,rfl,rfl⟩
def Lg(k:Int):(Pf.sig k=none/\∃r,nt k=some (r,false))\/∃d ty a b c r,Pf.sig k=some (d,ty,a,b,c)/\nt k=some (r,true)/\r.acK=d/\r.xX=ty/\r.cv=((a:Nat):Int)/\r.dw=((b:Nat):Int)/\r.acI=((c:Nat):Int):=by
 by_cases h:k<1\/20<k
 ·refine .inl ⟨KC h,?_⟩;unfold nt;simp only[jY,pE,dX];rw[bV cw,bV cw,bV cw,bV cw,bV cw,bV cw,bV cw,bV cw,bV cw,bV cw,bV cw];exact⟨_,rfl⟩
 ·have e:k=1\/k=2\/k=3\/k=4\/k=5\/k=6\/k=7\/k=8\/k=9\/k=10\/k=11\/k=12\/k=13\/k=14\/k=15\/k=16\/k=17\/k=18\/k=19\/k=20:=cw
  refine .inr ?_;rcases e with rfl|rfl|rfl|rfl|rfl|rfl|rfl|rfl|rfl|rfl|rfl|rfl|rfl|rfl|rfl|rfl|rfl|rfl|rfl|rfl<;>exact⟨_,_,_,_,_,_,rfl,rfl,rfl,rfl,rfl,rfl,rfl⟩
def hV{k i:Int}{s:Ty}{f nf g:Nat}(h:Pf.node k i s f nf g=true){j ty:Bool}{a b c:Nat}(hs:Pf.sig k=some (j,ty,a,b,c)):(f:Int)=a/\(nf:Int)=b/\(g:Int)=c/\0<=i/\(j=false->i=0)/\(ty=true->s.err=0)/\(ty=false->s=.mk 0 []):=by
 unfold Pf.node at h;rw[hs] at h;simp only[ed,mH,pE] at h;obtain⟨⟨⟨⟨⟨o,p⟩,q⟩,l⟩,m⟩,d⟩:=h;refine⟨cw,cw,cw,l,λn=>m.resolve_left (by simp[n]),λe=>?_,λe=>?_⟩
 ·rw[bX e] at d;simpa using d
 ·rw[bV VW] at d;exact(Ty.iI s).1 d
def Pf.w(p:Pf):p.ok=true->p.small=true->xy p:=by
 induction p using Pf.ind with
 |h k i s ts fs l y=>
  intro v hs;rw[Pf.eo] at v;rw[Pf.AW] at hs;simp only[ed,ie] at v hs;obtain⟨⟨⟨m,z⟩,A⟩,B⟩:=v;obtain⟨⟨s1,s2⟩,C⟩:=hs;have r:∀t∈ts,t.err=0:=λt q=>Tm.r_ (z t q) (by have:=s1 t q;simpa[Pd] using this)
  have u:∀f∈fs,f.err=0:=λf q=>by
   have:=s2 f q;simp only[Pj,mH] at this;unfold Fm.err;rw[bX (A f q),bV cw]
  have j:∀x∈l,xy x:=λx q=>y x q (B x q) (C x q);clear y z A B s1 s2 C;have D:=UM (k:=k) (λhn=>by unfold Pf.node at m;rw[hn] at m;cases m);rcases D with rfl|rfl|rfl|rfl|rfl|rfl|rfl|rfl|rfl|rfl|rfl|rfl|rfl|rfl|rfl|rfl|rfl|rfl|rfl|rfl
  ·obtain⟨q1,c,d,n,e,o,g⟩:=hV m rfl;obtain rfl:=en.1 q1;obtain rfl:=en.1 c;obtain rfl:=en.1 d;obtain rfl:=g rfl;exact .hyp n
  ·obtain⟨q1,c,d,n,e,o,g⟩:=hV m rfl;obtain rfl:=en.1 q1;obtain rfl:=en.1 c;obtain rfl:=en.1 d;obtain rfl:=g rfl;exact .Ib n
  ·obtain⟨q1,c,d,n,e,o,g⟩:=hV m rfl;obtain rfl:=en.1 q1;obtain rfl:=en.1 c;obtain⟨a,b,rfl⟩:=od d;obtain rfl:=e rfl;obtain rfl:=g rfl;exact .Mh (j a th) (j b th)
  ·obtain⟨q1,c,d,n,e,o,g⟩:=hV m rfl;obtain rfl:=en.1 q1;obtain rfl:=en.1 c;obtain⟨a,rfl⟩:=gQ d;obtain rfl:=e rfl;obtain rfl:=g rfl;exact .and (.inl rfl) (j a th)
  ·obtain⟨q1,c,d,n,e,o,g⟩:=hV m rfl;obtain rfl:=en.1 q1;obtain rfl:=en.1 c;obtain⟨a,rfl⟩:=gQ d;obtain rfl:=e rfl;obtain rfl:=g rfl;exact .and (.inr rfl) (j a th)
  ·obtain⟨q1,c,d,n,e,o,g⟩:=hV m rfl;obtain rfl:=en.1 q1;obtain⟨F,rfl⟩:=gQ c;obtain⟨a,rfl⟩:=gQ d;obtain rfl:=e rfl;obtain rfl:=g rfl;exact .Ko (u F th) (j a th)
  ·obtain⟨q1,c,d,n,e,o,g⟩:=hV m rfl;obtain rfl:=en.1 q1;obtain rfl:=en.1 c;obtain⟨a,b,rfl⟩:=od d;obtain rfl:=e rfl;obtain rfl:=g rfl;exact .JJ (j a th) (j b th)
  ·obtain⟨q1,c,d,n,e,o,g⟩:=hV m rfl;obtain rfl:=en.1 q1;obtain rfl:=en.1 c;obtain⟨a,rfl⟩:=gQ d;obtain rfl:=e rfl;exact .all (.inl rfl) (o rfl) (j a th)
  ·obtain⟨q1,c,d,n,e,o,g⟩:=hV m rfl;obtain⟨t,rfl⟩:=gQ q1;obtain rfl:=en.1 c;obtain⟨a,rfl⟩:=gQ d;obtain rfl:=e rfl;obtain rfl:=g rfl;exact .UY (.inl rfl) (r t th) (j a th)
  ·obtain⟨q1,c,d,n,e,o,g⟩:=hV m rfl;obtain⟨t,rfl⟩:=gQ q1;obtain⟨F,rfl⟩:=gQ c;obtain⟨a,rfl⟩:=gQ d;obtain rfl:=e rfl;obtain rfl:=g rfl;exact .ex (.inl rfl) (r t th) (u F th) (j a th)
  ·obtain⟨q1,c,d,n,e,o,g⟩:=hV m rfl;obtain rfl:=en.1 q1;obtain rfl:=en.1 c;obtain⟨a,b,rfl⟩:=od d;obtain rfl:=e rfl;obtain rfl:=g rfl;exact .WJ (.inl rfl) (j a th) (j b th)
  ·obtain⟨q1,c,d,n,e,o,g⟩:=hV m rfl;obtain rfl:=en.1 q1;obtain rfl:=en.1 c;obtain⟨a,rfl⟩:=gQ d;obtain rfl:=e rfl;exact .all (.inr rfl) (o rfl) (j a th)
  ·obtain⟨q1,c,d,n,e,o,g⟩:=hV m rfl;obtain⟨t,rfl⟩:=gQ q1;obtain rfl:=en.1 c;obtain⟨a,rfl⟩:=gQ d;obtain rfl:=e rfl;obtain rfl:=g rfl;exact .UY (.inr rfl) (r t th) (j a th)
  ·obtain⟨q1,c,d,n,e,o,g⟩:=hV m rfl;obtain⟨t,rfl⟩:=gQ q1;obtain⟨F,rfl⟩:=gQ c;obtain⟨a,rfl⟩:=gQ d;obtain rfl:=e rfl;obtain rfl:=g rfl;exact .ex (.inr rfl) (r t th) (u F th) (j a th)
  ·obtain⟨q1,c,d,n,e,o,g⟩:=hV m rfl;obtain rfl:=en.1 q1;obtain rfl:=en.1 c;obtain⟨a,b,rfl⟩:=od d;obtain rfl:=e rfl;obtain rfl:=g rfl;exact .WJ (.inr rfl) (j a th) (j b th)
  ·obtain⟨q1,c,d,n,e,o,g⟩:=hV m rfl;obtain⟨t,rfl⟩:=gQ q1;obtain⟨F,rfl⟩:=gQ c;obtain⟨a,b,rfl⟩:=od d;obtain rfl:=e rfl;obtain rfl:=g rfl;exact .ind (.inl rfl) (r t th) (u F th) (j a th) (j b th)
  ·obtain⟨q1,c,d,n,e,o,g⟩:=hV m rfl;obtain⟨t,rfl⟩:=gQ q1;obtain⟨F,rfl⟩:=gQ c;obtain⟨a,b,rfl⟩:=od d;obtain rfl:=e rfl;obtain rfl:=g rfl;exact .ind (.inr rfl) (r t th) (u F th) (j a th) (j b th)
  ·obtain⟨q1,c,d,n,e,o,g⟩:=hV m rfl;obtain⟨t,rfl⟩:=gQ q1;obtain rfl:=en.1 c;obtain rfl:=en.1 d;obtain rfl:=e rfl;obtain rfl:=g rfl;exact .refl (r t th)
  ·obtain⟨q1,c,d,n,e,o,g⟩:=hV m rfl;obtain rfl:=en.1 q1;obtain⟨F,rfl⟩:=gQ c;obtain⟨a,b,rfl⟩:=od d;obtain rfl:=e rfl;obtain rfl:=g rfl;exact .subst (u F th) (j a th) (j b th)
  ·obtain⟨q1,c,d,n,e,o,g⟩:=hV m rfl;obtain rfl:=en.1 q1;obtain rfl:=en.1 c;obtain⟨a,rfl⟩:=gQ d;obtain rfl:=e rfl;obtain rfl:=g rfl;exact .choice (j a th)
structure TR (d d':cb) (s:Bool) (n:Nat):Prop where
 lo:d.acJ<=d'.acJ
 hi:d'.acJ<=d.acJ+n
 eq:s=true->d'.acJ=d.acJ+n
 fI:d'.fI=(d.fI||!s)
def TR.trans{d c a:cb}{s e:Bool}{n n':Nat}(h:TR d c s n)(b:TR c a e n'):TR d a (s&&e) (n+n'):=by
 refine⟨by have:=h.lo;have:=b.lo;omega,by have:=h.hi;have:=b.hi;omega,λhs=>?_,?_⟩
 ·rw[ed] at hs;have:=h.eq hs.1;have:=b.eq hs.2;omega
 ·rw[b.fI,h.fI,Bool.not_and,Bool.or_assoc]
def vZ{α:Type}{F:Int->α->cb->Option (dJ cb (Bool×cb))}(ok small:α->Bool)(sz:α->Nat):∀(l:List α) (i:Nat) (d:cb),0<=d.acJ->d.acJ+cn sz l<=4000000000->(∀(j:Int) (x:α) (d:cb),x∈l->0<=d.acJ->d.acJ+sz x<=4000000000->if ok x then∃a,F j x d=some (.next a)/\TR d a (small x) (sz x)else∃a,F j x d=some (.ret (false,a)))->if l.all ok then∃a,cY F l i d=some (.inl a)/\TR d a (l.all small) (cn sz l)else∃a,cY F l i d=some (.inr (false,a))
 |[],i,d,_,_,_=>⟨d,rfl,⟨cw,by simp[cn],λ_=>by simp[cn],th⟩⟩|x::l,i,d,m,n,h=>by
  simp only[cn] at n;have b:=h i x d th m cw;rw[we]
  by_cases c:ok x=true
  ·rw[bX c] at b;obtain⟨d1,e,f⟩:=b;have g:=vZ ok small sz l (i+1) d1 (by have:=f.lo;omega) (by have:=f.hi;omega) (λj y d hy=>h j y d (by simp[hy]));rw[cM,e];simp only[bT,cS,cn]
   by_cases k:l.all ok=true
   ·rw[bX k] at g;obtain⟨d2,o,p⟩:=g;rw[bX (by rw[ed];exact⟨c,k⟩)];exact⟨d2,o,f.trans p⟩
   ·grind
  ·rw[bV c] at b;obtain⟨d1,e⟩:=b;rw[bV (by rw[ed];exactλh=>c h.1),cM,e];exact⟨d1,rfl⟩
def GU{d:cb}{n e:Int}(a:-1000000000000<=d.acJ+n)(b:d.acJ+n<=1000000000000):eV d n e=some (cG e 2,⟨d.acJ+n,d.fI||cr e 4⟩):=by
 unfold eV;rw[cX cw cw];cases d.fI<;>rfl
def Tm.Bk(t:Tm):t.err=2/\t.ok=false\/t.ok=true/\Pd t=true/\t.err=0\/t.ok=true/\Pd t=false/\t.err=4:=by
 unfold Tm.err Pd;cases h:t.ok with
 |false=>grind|true=>grind
def Fm.Bk(t:Fm):t.err=2/\t.ok=false\/t.ok=true/\Pj t=true/\t.err=0\/t.ok=true/\Pj t=false/\t.err=4:=by
 unfold Fm.err Pj;cases h:t.ok with
 |false=>grind|true=>grind
def EG{sz:Nat}{e:Int}{ok small:Bool}(c:e=2/\ok=false\/ok=true/\small=true/\e=0\/ok=true/\small=false/\e=4)(hs:sz<=1000000000){d:cb}(f:0<=d.acJ)(g:d.acJ+sz<=4000000000):if ok then∃b,(b8 (eV d (if e=0 then(sz:Int)else 0) e) λa d179=>if a then some (.next d179)else some ((.ret (false,d179)):dJ cb (Bool×cb)))=some (.next b)/\TR d b small sz else∃b,(b8 (eV d (if e=0 then(sz:Int)else 0) e) λa d179=>if a then some (.next d179)else some ((.ret (false,d179)):dJ cb (Bool×cb)))=some (.ret (false,b)):=by
 rcases c with⟨rfl,rfl⟩|⟨rfl,rfl,rfl⟩|⟨rfl,rfl,rfl⟩
 ·exact⟨_,rfl⟩
 ·rw[bX rfl,bX rfl,GU cw cw,bW,bX gw];refine⟨_,rfl,⟨?_,?_,λ_=>rfl,?_⟩⟩
  all_goals grind[cr]
 ·rw[bX rfl,bV gw,GU cw cw,bW,bX gw];refine⟨_,rfl,⟨?_,?_,λh=>by(cases h),?_⟩⟩
  all_goals grind[cr]
def D_{f:Bool}{i a b c d nf e:Int}:dq true (dq (tD i 0) true (dq (cG i 0) (dq f (dq (cG d a) true (dq (cG nf b) true (cG e c))) true) (dq (cG d a) true (dq (cG nf b) true (cG e c))))) true=true↔¬(d=a/\nf=b/\e=c/\0<=i/\(f=true\/i=0)):=by
 grind[AP,jY,cG,yq,j6]
def EY{d:Bool}{i a b c e nf f:Int}:dq true (dq (cG e a) true (dq (cG nf b) true (dq (cG f c) true (dq (tD i 0) true (dq d false (cG i 0)))))) true=true↔¬(e=a/\nf=b/\f=c/\0<=i/\(d=true\/i=0)):=by
 cases d with
 |true=>
  grind[AP,jY,j6,cg]
 |false=>grind[AP,yq,jY,j6,cg]
def Pn(ty:Bool)(s:Ty):Bool:=if ty then decide (s.err=0)else s.oG
theorem Dr{k i:Int}{s:Ty}{d nf e:Nat}{f ty:Bool}{a b c:Nat}(hs:Pf.sig k=some (f,ty,a,b,c)):Pf.node k i s d nf e=true↔((d:Int)=a/\(nf:Int)=b/\(e:Int)=c/\0<=i/\(f=true\/i=0))/\Pn ty s=true:=by
 grind[Pf.node,Pn]
def TG(d:cb)(A s:Bool)(n:Nat)(o:Option (Bool×cb)):Prop:=(A=true->∃a,o=some (true,a)/\TR d a s n)/\(A=false->∃a,o=some (false,a))
theorem TG.no{d a:cb}{A s:Bool}{n:Nat}(h:A=false):TG d A s n (some (false,a)):=⟨λb=>(by rw[h] at b;cases b),λ_=>⟨a,rfl⟩⟩
def O3(n:Nat)(d:cb)(k i:Int)(s:Ty)(ts:List Tm)(fs:List Fm)(l:List Pf):fP (n+1) d (.mk k i s ts fs l)=(b8 (kh k) λe F=>
 if(dq F (dq (tD i 0) true (dq (cG i 0) (dq e.acK (dq (cG (cE ts) e.cv) true (dq (cG (cE fs) e.dw) true (cG (cE l) e.acI))) true) (dq (cG (cE ts) e.cv) true (dq (cG (cE fs) e.dw) true (cG (cE l) e.acI))))) true) then(
 some (false,d))
 else(cB (λ(z:cb)=>
 ef (c0 ts)<|cB (λ(G:Int) (A:Tm)=>(λ(a:cb)=>
 b8 (iC A) λg h=>
 b8 (eV a g h) λj d179=>
 if j then(
 some (.next d179))
 else(some (.ret (false,d179)))):Int->Tm->(cb)->(Option (dJ (cb) (Bool×cb)))) λm=>
 bU (cY m ts 0 z) (dI (λ(a:cb)=>
 ef (c0 fs)<|cB (λ(D:Int) (o:Fm)=>(λ(b:cb)=>
 b8 (eL o) λp q=>
 b8 (eV b p q) λt d322=>
 if t then(
 some (.next d322))
 else(some (.ret (false,d322)))):Int->Fm->(cb)->(Option (dJ (cb) (Bool×cb)))) λu=>
 bU (cY u fs 0 a) (dI (λ(b:cb)=>
 ef (c0 l)<|cB (λ(E:Int) (v:Pf)=>(λ(c:cb)=>
 b8 (fP n c v) λw f=>
 if w then(
 some (.next f))
 else(some (.ret (false,f)))):Int->Pf->(cb)->(Option (dJ (cb) (Bool×cb)))) λx=>
 bU (cY x l 0 b) (dI (λ(c:cb)=>
 some (true,c)) (λr=>some r))) (λr=>some r))) (λr=>some r))) λy=>
 if e.typed then(
 b8 (gp s) λH B=>
 if(cG B 0) then(
 some (false,(cb.mk (da .i64 d.acJ 1) d.fI)))
 else(y (cb.mk (da .i64 d.acJ 1) d.fI)))
 else(bU (l_ s) λC=>
 if C then(
 y (cb.mk (da .i64 d.acJ 1) d.fI))
 else(some (false,(cb.mk (da .i64 d.acJ 1) d.fI)))))):=by
 rw[fP];rfl
def Pz:∀(n:Nat) (P:Pf) (d:cb),P.wt<=n->P.wt<=1000000000->0<=d.acJ->d.acJ+P.acJ<=4000000000->TG d P.ok P.small P.acJ (fP n d P):=by
 intro n
 induction n with
 |zero=>intro P d h;have:=P.gK;omega
 |succ n Z=>
  intro P d hn hb h0 hd;cases P with
  |mk k i s ts fs l=>
   rw[Pf.fo] at hn hb;rw[Pf.bY] at hd|-;have aa:=eB Tm.wt ts λt _=>t.gK;have ab:=eB Fm.wt fs λt _=>t.gK;have ad:=eB Pf.wt l λt _=>t.gK;have m1:=iu (l:=ts) (λx _=>Tm.fE x);have m2:=iu (l:=fs) (λx _=>Fm.fE x);have m3:=iu (l:=l) (λx _=>Pf.fE x);rw[Pf.eo,Pf.AW,O3];rcases OR k with⟨H,r,J⟩|⟨ix,ty,a,b,c,r,H,J,g1,g2,g3,g4,g5⟩
   ·rw[J,bW,yq,bX rfl];exact TG.no (by simp[Pf.node,H])
   ·rw[J,bW,g1,g2,g3,g4,g5,dE,dE,dE]
    by_cases I:(ts.length:Int)=a/\(fs.length:Int)=b/\(l.length:Int)=c/\0<=i/\(ix=true\/i=0)
    ·rw[bV (λh=>D_.1 h I)]
     have p:Pf.node k i s ts.length fs.length l.length=Pn ty s:=by
      rw[AS,Dr H];exact⟨λh=>h.2,λh=>⟨I,h⟩⟩
     rw[p];cases f:Pn ty s with
     |false=>
      have e:∀j:cb->Option (Bool×cb),(if ty then b8 (gp s) λae K=>if(cG K 0) then some (false,(cb.mk (da .i64 d.acJ 1) d.fI))else j (cb.mk (da .i64 d.acJ 1) d.fI)else bU (l_ s) λL=>if L then j (cb.mk (da .i64 d.acJ 1) d.fI)else some (false,(cb.mk (da .i64 d.acJ 1) d.fI)))=some (false,(cb.mk (da .i64 d.acJ 1) d.fI)):=by grind[Pn,cG,cg,jJ,bW,p9,bT]
      refine sn (λ_=>False) (λ_ h=>h.elim) (λj _=>?_);rw[e j];exact TG.no th
     |true=>
      refine sn (λd1=>d1.acJ=d.acJ+1/\d1.fI=d.fI) (λd1 g=>?_) (λj hj=>?_)
      ·have t1:=vZ (F:=λ(af:Int) (M:Tm)=>(λ(q:cb)=>b8 (iC M) λu v=>b8 (eV q u v) λw d179=>if w then some (.next d179)else some (.ret (false,d179)))) Tm.ok Pd Tm.acJ ts 0 d1 cw cw (λj x d m q0 q1=>by
        have:=cy Tm.wt m;have:=x.fE;rw[pM cw,bW]
        exact EG x.Bk cw q0 q1)
       rw[ch cw,b6,cc];cases a1:ts.all Tm.ok with
       |false=>
        rw[a1,bV gw] at t1;obtain⟨d2,N⟩:=t1;rw[N,bT,pJ];exact TG.no th
       |true=>
        rw[a1,bX rfl] at t1;obtain⟨d2,N,O⟩:=t1;have u1:=O.lo;have u2:=O.hi;rw[N,bT,b9,ch cw,b6,cc]
        have t2:=vZ (F:=λ(V:Int) (y:Fm)=>(λ(z:cb)=>b8 (eL y) λA B=>b8 (eV z A B) λC d322=>if C then some (.next d322)else some (.ret (false,d322)))) Fm.ok Pj Fm.acJ fs 0 d2 cw cw (λj x d m q0 q1=>by
         have:=cy Fm.wt m;have:=x.fE;rw[e9 cw,bW]
         exact EG x.Bk cw q0 q1)
        cases a2:fs.all Fm.ok with
        |false=>
         rw[a2,bV gw] at t2;obtain⟨d3,Q⟩:=t2;rw[Q,bT,pJ];exact TG.no th
        |true=>
         rw[a2,bX rfl] at t2;obtain⟨d3,Q,R⟩:=t2;have u3:=R.lo;have u4:=R.hi;rw[Q,bT,b9,ch cw,b6,cc]
         have t3:=vZ (F:=λ(W:Int) (D:Pf)=>(λ(E:cb)=>b8 (fP n E D) λG o=>if G then some (.next o)else some (.ret (false,o)))) Pf.ok Pf.small Pf.acJ l 0 d3 cw cw (λj x d m q0 q1=>by
          have:=cy Pf.wt m;have:=cy Pf.acJ m;have:=x.fE;have m:=Z x d cw cw q0 cw;cases X:x.ok with
          |true=>
           obtain⟨S,T,w2⟩:=m.1 X;rw[bX rfl,T,bW,bX rfl];exact⟨S,rfl,w2⟩
          |false=>
           obtain⟨S,T⟩:=m.2 X;rw[bV gw,T,bW,bV gw]
           exact⟨S,rfl⟩)
         cases a3:l.all Pf.ok with
         |false=>
          rw[a3,bV gw] at t3;obtain⟨d4,U⟩:=t3;rw[U,bT,pJ];exact TG.no th
         |true=>
          rw[a3,bX rfl] at t3;obtain⟨d4,U,r4⟩:=t3;rw[U,bT,b9];refine⟨λ_=>⟨d4,rfl,?_⟩,λh=>by simp at h⟩;have r0:TR d d1 true 1:=⟨cw,cw,λ_=>by omega,by simp[g.2]⟩;have:=((r0.trans O).trans R).trans r4;rw[yH] at this;exact this
      ·have g:=hj (cb.mk (da .i64 d.acJ 1) d.fI) ⟨by show da .i64 d.acJ 1=_;rw[cX cw cw],rfl⟩;unfold Pn at f
       by_cases Y:ty=true
       ·rw[bX Y] at f|-
        have hz:¬cG s.err 0=true:=by rw[cg];simpa using f
        rw[jJ cw,bW,bV hz];exact g
       ·rw[bV Y] at f|-;rw[p9,bT,f,bX rfl];exact g
    ·rw[bX (D_.2 I)];refine TG.no ?_
     have:Pf.node k i s ts.length fs.length l.length=false:=by
      rw[NW]
      exactλh=>I ((Dr H).1 h).1
     rw[this];simp
def td{P:Pf}(h:P.wt<=1000000000):nw P=some P.err:=by
 have hn:=P.fE;have b:=Pz FU P (cb.mk 0 false) (by rw[cV];omega) h (by show(0:Int)<=0;omega) (by show(0:Int)+_<=_;omega);unfold nw oO Pf.err;cases c:P.ok with
 |false=>
  obtain⟨a,e⟩:=b.2 c
  grind[bW]
 |true=>
  obtain⟨a,e,r⟩:=b.1 c;rw[e,bW,bX rfl,bX rfl];have d:a.fI=!P.small:=r.fI;rw[d,jY];cases hs:P.small with
  |false=>grind[bW]|true=>
   have f:a.acJ=(0:Int)+P.acJ:=r.eq hs
   grind[ep,bW]
def N5(n:Nat)(k i:Int)(s:Ty)(ts:List Tm)(fs:List Fm)(l:List Pf):l8 (n+1) (.mk k i s ts fs l)=(b8 (nt k) λb v=>
 if(dq v (dq (cG (cE ts) b.cv) true (dq (cG (cE fs) b.dw) true (dq (cG (cE l) b.acI) true (dq (tD i 0) true (dq b.acK false (cG i 0)))))) true) then(
 some false)
 else(cB (λ(h:Bool)=>
 if h then(
 some false)
 else(ef (c0 ts)<|cB (λ(w:Int) (j:Tm)=>(λ(_:Unit)=>
 bU (iN FU j) λm=>
 if m then(
 some (.next ()))
 else(some (.ret false))):Int->Tm->(Unit)->(Option (dJ (Unit) (Bool)))) λo=>
 bU (cY o ts 0 ()) (dI (λ(_:Unit)=>
 ef (c0 fs)<|cB (λ(x:Int) (p:Fm)=>(λ(_:Unit)=>
 bU (km FU p) λc=>
 if c then(
 some (.next ()))
 else(some (.ret false))):Int->Fm->(Unit)->(Option (dJ (Unit) (Bool)))) λd=>
 bU (cY d fs 0 ()) (dI (λ(_:Unit)=>
 ef (c0 l)<|cB (λ(u:Int) (e:Pf)=>(λ(_:Unit)=>
 bU (l8 n e) λf=>
 if f then(
 some (.next ()))
 else(some (.ret false))):Int->Pf->(Unit)->(Option (dJ (Unit) (Bool)))) λg=>
 bU (cY g l 0 ()) (dI (λ(_:Unit)=>
 some true) (λr=>some r))) (λr=>some r))) (λr=>some r)))) λa=>
 if b.xX then(
 bU (gk s) λq=>
 if(cG q 0) then(
 a true)
 else(a false))
 else(bU (nq s) λt=>
 a (mq t)))):=by
 rw[l8];rfl
def Ec:∀(n:Nat) (P:Pf),P.wt<=n->P.wt<=1000000000->l8 n P=some P.ok:=by
 intro n
 induction n with
 |zero=>intro P h;have:=P.gK;omega
 |succ n u=>
  intro P hn w;cases P with
  |mk k i s ts fs l=>
   rw[Pf.fo] at hn w;have y:=eB Tm.wt ts λt _=>t.gK;have z:=eB Fm.wt fs λt _=>t.gK;have A:=eB Pf.wt l λt _=>t.gK;rw[Pf.eo,N5];rcases Lg k with⟨m,r,p⟩|⟨B,ty,a,b,c,r,m,p,g1,g2,g3,g4,g5⟩
   ·rw[p,bW,yq,bX rfl];simp[Pf.node,m]
   ·rw[p,bW,g1,g2,g3,g4,g5,dE,dE,dE]
    by_cases q:(ts.length:Int)=a/\(fs.length:Int)=b/\(l.length:Int)=c/\0<=i/\(B=true\/i=0)
    ·rw[bV (λh=>EY.1 h q)]
     have e:Pf.node k i s ts.length fs.length l.length=Pn ty s:=by
      rw[AS,Dr m];exact⟨λh=>h.2,λh=>⟨q,h⟩⟩
     rw[e];refine sn (G:=λo=>o=some (Pn ty s&&ts.all Tm.ok&&fs.all Fm.ok&&l.all Pf.ok)) (λv=>v=!Pn ty s) (λv C=>?_) (λj D=>?_)
     ·rw[C];cases Pn ty s with
      |false=>rfl|true=>
       rw[bV gw,ch cw,b6,cc,n8 Tm.ok false ts 0 (λj x g=>by
        have:=cy Tm.wt g
        rw[wh cw,bT]),yH]
       cases ts.all Tm.ok with
       |false=>rfl|true=>
        rw[bX rfl,bT,b9,ch cw,b6,cc,n8 Fm.ok false fs 0 (λj x g=>by
         have:=cy Fm.wt g
         rw[wX FU x (by rw[cV];omega) cw,bT]),yH]
        cases fs.all Fm.ok with
        |false=>rfl|true=>
         rw[bX rfl,bT,b9,ch cw,b6,cc,n8 Pf.ok false l 0 (λj x g=>by
          have:=cy Pf.wt g
          rw[u x cw cw,bT]),yH]
         cases l.all Pf.ok with
         |false=>rfl|true=>rfl
     ·have d:=D (!Pn ty s) rfl;unfold Pn at d|-
      by_cases f:ty=true
      ·rw[bX f] at d;rw[bX f,bX f,kz cw,bT]
       grind[cG,cg]
      ·rw[bV f] at d;rw[bV f,bV f,ux,bT,Ns];exact d
    ·rw[bX (EY.2 q)]
     grind[Pf.node,Dr]
def DT:∀(n:Nat) (P:Pf),P.wt<=n->P.wt<=1000000000->pq n P=some P.small:=by
 intro n
 induction n with
 |zero=>intro P h;have:=P.gK;omega
 |succ n b=>
  intro P hn c;cases P with
  |mk k i s ts fs l=>
   rw[Pf.fo] at hn c;have d:=eB Tm.wt ts λt _=>t.gK;have e:=eB Fm.wt fs λt _=>t.gK;have f:=eB Pf.wt l λt _=>t.gK;rw[Pf.AW,pq];simp only[Pf.eI,Pf.Ee,Pf.ck,cc]
   rw[ch cw,b6,n8 Pd false ts 0 (λj x a=>by
    have:=cy Tm.wt a;have:=x.fE;rw[lQ FU x (by rw[cV];omega) cw,bT]
    by_cases hs:x.acJ<=4096
    ·grind[ep,Pd]
    ·rw[bX (by rw[ep];omega),bV (by simpa[Pd] using hs)])]
   cases ts.all Pd with
   |false=>rfl|true=>
    rw[bX rfl,bT,b9,ch cw,b6,n8 Pj false fs 0 (λj x a=>by
     have:=cy Fm.wt a;have:=x.fE;rw[lI FU x (by rw[cV];omega) cw,bT]
     by_cases hs:x.acJ<=4096
     ·rw[bV (by rw[ep];omega),bX (show Pj x=true from r9 hs)]
     ·rw[bX (by rw[ep];omega),bV (by simpa[Pj] using hs)]),yH]
    cases fs.all Pj with
    |false=>rfl|true=>
     rw[bX rfl,bT,b9,ch cw,b6,n8 Pf.small false l 0 (λj x a=>by
      have:=cy Pf.wt a
      rw[b x cw cw,bT]),yH]
     cases l.all Pf.small with
     |false=>rfl|true=>rfl
theorem Fa:∀(n:Nat) (P:Pf),P.wt<=n->P.wt<=1000000000->pg n P=some (P.acJ:Int):=by
 intro n
 induction n with
 |zero=>intro P h;have:=P.gK;omega
 |succ n b=>
  intro P hn c;cases P with
  |mk k i s ts fs l=>
   rw[Pf.fo] at hn c;have d:=eB Tm.wt ts λt _=>t.gK;have e:=eB Fm.wt fs λt _=>t.gK;have f:=eB Pf.wt l λt _=>t.gK;have g:=iu (l:=ts) (λx _=>Tm.fE x);have m:=iu (l:=fs) (λx _=>Fm.fE x);have o:=iu (l:=l) (λx _=>Pf.fE x);rw[Pf.bY,pg];simp only[Pf.eI,Pf.Ee,Pf.ck,cc]
   rw[ch cw,b6,show(1:Int)=((1:Nat):Int)from rfl,nK Tm.acJ ts 0 1 cw (λj x v a=>by
    have:=cy Tm.wt a;have:=x.fE
    rw[lQ FU x (by rw[cV];omega) cw,bT]),bT,b9,ch cw,b6,nK Fm.acJ fs 0 _ cw (λj x v a=>by
    have:=cy Fm.wt a;have:=x.fE
    rw[lI FU x (by rw[cV];omega) cw,bT]),bT,b9,ch cw,b6,nK Pf.acJ l 0 _ cw (λj x v a=>by
    have:=cy Pf.wt a
    rw[b x cw cw,bT]),bT,b9]
def EO{P:Pf}(h:P.wt<=1000000000):rk P=some P.err:=by
 unfold rk vS Pf.err;rw[Ec FU P (by rw[cV];omega) h,bT];cases P.ok with
 |false=>rfl|true=>
  rw[bX rfl,bX rfl,cc,DT FU P (by rw[cV];omega) h,bT];cases P.small with
  |false=>rfl|true=>grind[Fa,FU,cV,bT,Am]
def Pf.YD{P:Pf}(h:P.err=0):xy P/\P.acJ<=16384:=by
 unfold Pf.err at h;cases b:P.ok with
 |false=>grind|true=>
  by_cases a:P.small=true/\P.acJ<=16384
  ·exact⟨P.w b a.1,a.2⟩
  ·grind
def Rb{k q m:Nat}(hm:m=2^(k+1)*q+2^k)(j:Nat):(m&&&(m-1)).testBit j=(m.testBit j&&!decide (j=k)):=by
 have c:2^k<2^(k+1):=Ti gw cw;have d:0<2^k:=Nat.two_pow_pos k
 have e:m-1=2^(k+1)*q+(2^k-1):=cw
 rw[Nat.testBit_and,e,hm,VU _ c,VU _ cw]
 by_cases a:j<k+1
 ·rw[bX a,bX a,R7,Nat.testBit_two_pow_sub_one]
  by_cases b:j=k
  ·simp[b]
  ·rw[AN (show¬k=j by omega)];simp
 ·rw[bV a,bV a,AN (show¬j=k by omega)];simp
def Th{a:Int}{l:List Int}{m:Nat}(h:Us (a::l) m):m≠0/\((Lib.ctz 32 m:Nat):Int)=a/\Us l (m&&&(m-1)):=by
 have s:=h.pos a th;obtain⟨k,rfl⟩:∃k:Nat,a=k:=⟨a.toNat,cw⟩;have d:m.testBit k=true:=(h.mem k).1 th
 have f:m≠0:=by rintro rfl;simp at d
 cases h.srt with
 |cons s1 s2=>
  have g:∀i,i<k->m.testBit i=false:=λi hi=>by
   rw[NW];intro t;rcases jA.1 ((h.mem i).2 t)with e|e
   ·omega
   ·have:=s1 _ e;omega
  have n:Lib.ctz 32 m=Lib.ctzFrom 32 m:=by unfold Lib.ctz;rw[bV f]
  obtain⟨q,p,_⟩:=Lib.ctzFrom_spec 32 m cw (by have:=h.lt;omega);rw[<-n] at p
  have c:m=2^(Lib.ctz 32 m+1)*q+2^Lib.ctz 32 m:=by
   rw[Nat.pow_succ,Nat.mul_assoc,<-Nat.mul_succ];exact p
  have r:Lib.ctz 32 m=k:=by
   have b:∀j,j<=Lib.ctz 32 m->m.testBit j=decide (Lib.ctz 32 m=j):=λj y=>by
    have u:2^Lib.ctz 32 m<2^(Lib.ctz 32 m+1):=Ti gw cw
    conv=>lhs;rw[c]
    rw[VU _ u,bX cw,R7]
   rcases Y6 (Lib.ctz 32 m) k with o|heq|hgt
   ·have:=b _ (fC _);rw[g _ o] at this;simp at this
   ·exact heq
   ·have:=b k cw;rw[d,AN cw] at this;cases this
  rw[r] at c;refine⟨f,by rw[r],⟨ZA Nat.and_le_left h.lt,λx v=>h.pos x (by simp[v]),s2,λi=>?_⟩⟩;rw[Rb c,ed,<-h.mem i];simp only[Tq,N9];constructor
  ·intro hi;refine⟨by simp[hi],?_⟩;rintro rfl;have:=s1 _ hi;omega
  ·rintro⟨hi,w⟩;rcases jA.1 hi with e|e
   ·omega
   ·exact e
def Us.zero{m:Nat}(h:Us [] m):m=0:=by
 refine YL λi=>?_;rw[Nat.zero_testBit,NW];intro a;have:=(h.mem i).2 a;simp at this
def Ct:∀(l:List Int) (m:Nat) (v:List Int) (n:Nat),Us l m->l.length<n->v.length+l.length<=1000000->mJ (rD λ(v37:Int) (b:List Int)=>
   if(cG v37 0) then(
   bU (iV v37) λc=>
   ef (dP b [c])<|some ((.next ((lX .u32 v37 (di .u32 v37 1)),(dN b [c]))):dJ (Int×List Int) (List Int)))
   else(some (.Fy (v37,b)))) n ((m:Int),v)=some (.inl (0,v++l))
 |l,m,v,0,_,hn,_=>by omega|[],m,v,n+1,h,_,_=>by
  rw[h.zero,mJ];simp only[rD];rw[bV (show¬cG ((0:Nat):Int) 0=true by decide)];simp
 |a::l,m,v,n+1,h,hn,e=>by
  simp only[jK] at hn e;obtain⟨i,f,hu⟩:=Th h;have d:=h.lt
  have g:cG (m:Int) 0=true:=by rw[cg];omega
  rw[mJ];simp only[rD];rw[bX g];rw[show iV (m:Int)=some a by unfold iV;rw[bX cw,za,f],bT,dc aae,b6,bT,cS,ei];rw[show di .u32 (m:Int) 1=((m-1:Nat):Int) by unfold di;rw[DK cw cw];omega,I7 d cw];rw[Ct l _ (v++[a]) n hu cw aae];simp
def NK{l:List Int}{m:Nat}(h:Us l m):lG (m:Int)=some l:=by
 have a:=h.len;unfold lG;rw[cc,Ct l m [] FU h (by rw[cV];omega) aae,bT];simp[rD]
def xL:∀(n:Nat) (t:Tm),t.acJ<=n->t.acJ<=50000000->t.ok=true->sC n t=some t:=by
 intro n
 induction n with
 |zero=>intro t h;have:=t.cu;omega
 |succ n c=>
  intro t hn d a;cases t with
  |mk k i s l=>
   rw[Tm.bY] at hn d;have g:=Tm.dm l;have hi:=Tm.jg a;rw[Tm.eo,ed] at a;have e:=Ty.uG a.1;rw[sC];simp only[Tm.cx,Tm.dK,Tm.cT,Tm.ck,cc]
   rw[kj cw,bT,ch cw,b6,gG id l 0 [] aae (λj x v b f=>by
    have:=cy Tm.acJ b
    rw[c x cw cw (hi.2.2.2.1 x b),bT,dc (by simpa using f),b6,ei];rfl)]
   simp
def Fm.RB:∀(f:Fm) (b:Int),f.A8 (λt _=>t) b=f:=by
 intro f
 induction f using Fm.ind with
 |h k s ts l a=>
  intro b;rw[Fm.wC,qg (g:=id) (λx c=>a x c _)];simp
def zG{f:Fm}(h:f.err=0)(c:f.acN 1000000000000=true):hH f=some f:=by
 obtain⟨d,hn⟩:=Fm.ea h;unfold hH;rw[me (h:=λe g=>iD e g) (ψ:=λt _=>t) (λt b a _ _=>?_) FU f 0 (by rw[cV];omega) cw d c cw cw]
 ·rw[bW,Fm.RB]
 ·have:=a.acJ;unfold iD;rw[xL FU t (by rw[cV];omega) a.acJ a.ok];rfl
noncomputable def F5 (L:List Fm) (q:Sq):Int:=if 32<L.length then 3 else if dp (L.map λf=>Cq f [])≠0 then dp (L.map λf=>Cq f [])else if uA q.acL≠0 then uA q.acL else if 16<q.acO.length then 3 else dp (q.acO.map λf=>Cq f q.acL)
structure SqB (L:List Fm) (q:Sq):Prop where
 Ib:∀f∈L,f.wt<=1000000000
 Mn:∀t∈q.acL,t.acJ<=1000000000
 tyl:q.acL.length<=1000000
 acO:∀f∈q.acO,f.wt<=1000000000
def EI{e:Int}:(bU (some e) λa=>if(cG a 0) then some (.ret a)else some ((.next ()):dJ Unit Int))=if e≠0 then some (.ret e)else some (.next ()):=by
 rw[bT]
 by_cases h:e=0
 ·subst h;rfl
 ·rw[bX (by rw[cg];exact h),bX h]
def Ny{C:List Ty->Option Int}{T:List Ty->Fm->Option Int}{L:List Fm}{q:Sq}(o:C q.acL=some (uA q.acL))(p:∀f∈L,T [] f=some (Cq f []))(s:∀f∈q.acO,T q.acL f=some (Cq f q.acL)):(if(m8 (cE L) 32) then some 3 else ef (c0 L)<|cB (λ(t:Int) (e:Fm)=>(λ(_:Unit)=>bU (T [] e) λa=>if(cG a 0) then some (.ret a)else some ((.next ()):dJ Unit Int))) λg=>
   bU (cY g L 0 ()) (dI (λ(_:Unit)=>bU (C q.acL) λb=>if(cG b 0) then some b else if(m8 (cE q.acO) 16) then some 3 else ef (c0 q.acO)<|cB (λ(u:Int) (i:Fm)=>(λ(_:Unit)=>bU (T q.acL i) λc=>if(cG c 0) then some (.ret c)else some ((.next ()):dJ Unit Int))) λk=>
    bU (cY k q.acO 0 ()) (dI (λ(_:Unit)=>some 0) (λr=>some r))) (λr=>some r)))=some (F5 L q):=by
 unfold F5;rw[dE]
 by_cases m:32<L.length
 ·rw[bX (by rw[ep];omega),bX m]
 ·have v:¬m8 (L.length:Int) 32=true:=by rw[ep];omega
  rw[bV v,bV m,ch cw,b6,cc];rw[kC (λf=>Cq f []) L 0 (λj x l=>by rw[p x l];exact EI)]
  by_cases d:dp (L.map λf=>Cq f [])=0
  ·rw[bX d,bV (show¬(dp (L.map λf=>Cq f [])≠0)fromλh=>h d),bT,b9,o,bT]
   by_cases c3:uA q.acL=0
   ·have z2:¬cG (uA q.acL) 0=true:=by rw[cg];simpa using c3
    rw[bV z2,bV (show¬(uA q.acL≠0)fromλh=>h c3),dE]
    by_cases n:16<q.acO.length
    ·rw[bX (by rw[ep];omega),bX n]
    ·have z3:¬m8 (q.acO.length:Int) 16=true:=by rw[ep];omega
     rw[bV z3,bV n,ch cw,b6,cc];rw[kC (λf=>Cq f q.acL) q.acO 0 (λj x l=>by rw[s x l];exact EI)]
     by_cases c5:dp (q.acO.map λf=>Cq f q.acL)=0
     ·rw[bX c5,c5];rfl
     ·rw[bV c5];rfl
   ·have z2:cG (uA q.acL) 0=true:=by rw[cg];exact c3
    rw[bX z2,bX c3]
  ·rw[bV d,bX d];rfl
def AA{L:List Fm}{q:Sq}(h:SqB L q):xe L q=some (F5 L q)/\qZ L q=some (F5 L q):=by
 have a:∀t∈([]:List Ty),t.acJ<=1000000000:=λt c=>by simp at c
 exact⟨Ny (C:=ow) (T:=oy) (u9 q.acL h.tyl h.Mn) (λx b=>vu (h.Ib x b) th a) (λx b=>vu (h.acO x b) h.tyl h.Mn),Ny (C:=kn) (T:=gP) (qv q.acL h.tyl h.Mn) (λx b=>pT (h.Ib x b) th a) (λx b=>pT (h.acO x b) h.tyl h.Mn)⟩
def xw:∀{l:List Int},(∀e∈l,e=0)->dp l=0
 |[],_=>rfl|a::l,h=>by
  rw[dp,bX (h a th)];exact xw λe he=>h e (by simp[he])
def xN:∀{l:List Int},dp l=0->∀e∈l,e=0
 |[],_,e,he=>by simp at he
 |a::l,h,e,he=>by
  rw[dp] at h
  by_cases b:a=0
  ·rw[bX b] at h;rcases jA.1 he with rfl|he
   ·exact b
   ·exact xN h e he
  ·rw[bV b] at h;exact absurd h b
def Pu{f:Fm}{g:List Ty}(h:Cq f g=0):Hg g f:=by
 unfold Cq at h
 by_cases b:uA g=0
 ·rw[bV (λh=>h b)] at h
  by_cases a:f.err=0
  ·rw[bV (λh=>h a)] at h;exact⟨a,pj f (Fm.ea a).1 g (fQ.of b).1 h⟩
  ·rw[bX a] at h;exact absurd h a
 ·rw[bX b] at h;exact absurd h b
structure zO (L:List Fm) (q:Sq):Prop where
 ln:L.length<=32
 Ib:∀f∈L,Hg [] f
 ctx:fQ q.acL
 nv:q.acL.length<=16
 nh:q.acO.length<=16
 acO:∀f∈q.acO,Hg q.acL f
def OP{L:List Fm}{q:Sq}(h:F5 L q=0):zO L q:=by
 unfold F5 at h
 by_cases d:32<L.length
 ·rw[bX d] at h;cases h
 ·rw[bV d] at h
  by_cases a:dp (L.map λf=>Cq f [])=0
  ·rw[bV (λh=>h a)] at h
   by_cases b:uA q.acL=0
   ·rw[bV (λh=>h b)] at h
    by_cases e:16<q.acO.length
    ·rw[bX e] at h;cases h
    ·rw[bV e] at h;obtain⟨g,i⟩:=fQ.of b;exact⟨cw,λf c=>Pu (xN a _ (kI.2 ⟨f,c,rfl⟩)),g,i,cw,λf c=>Pu (xN h _ (kI.2 ⟨f,c,rfl⟩))⟩
   ·rw[bX b] at h;exact absurd h b
  ·rw[bX a] at h;exact absurd h a
def zO.zero{L:List Fm}{q:Sq}(h:zO L q):F5 L q=0:=by
 have c:∀{g:List Ty} {f:Fm},fQ g->g.length<=16->Hg g f->Cq f g=0:=λhg b a=>by
  unfold Cq;rw[yb hg b,bV gw,bV (λh=>h a.err)];exact rX a.ty hg (by have:=a.acJ;omega)
 have d:dp (L.map λf=>Cq f [])=0:=xw λe he=>by
  obtain⟨f,a,rfl⟩:=kI.1 he;exact c (λ_ h=>by simp at h) th (h.Ib f a)
 have i:dp (q.acO.map λf=>Cq f q.acL)=0:=xw λe he=>by
  obtain⟨f,a,rfl⟩:=kI.1 he;exact c h.ctx h.nv (h.acO f a)
 unfold F5;have:=h.ln;have:=h.nh;rw[bV cw,d,bV gw,yb h.ctx h.nv,bV gw,bV cw,i]
def Fh{T:List cj}{N:Nat}(g:N<=1000000):∀(l:List Fm) (j:Nat) (k:List cZ),k.length+l.length<=1000000->cY (λ(i:Int) (b:Fm)=>(Xo λ(c:Int) (v46:Int) (d:List cj) (e:List cZ)=>
   bU (dV (cm.mk (fv.mk c v46) d e) b) λa=>
   some ((.next (a.ey.vars,a.ey.acO,a.acL,a.known)):dJ (Int×Int×(List cj)×(List cZ)) (cm)))) l j ((N:Int),(k.length:Int),T,k)=some (.inl ((N:Int),((k.length+l.length:Nat):Int),T,k++l.map λf=>cZ.mk f N))
 |[],j,k,_=>by simp|f::l,j,k,h=>by
  simp only[jK] at h;rw[cM];simp only[Xo];unfold dV;rw[dc aae,b6,bT];simp only[bT,cS,ei];rw[cX cw cw];have:=Fh (T:=T) g l (j+1) (k++[cZ.mk f N]) aae;rw[show(k.length:Int)+1=((k++[cZ.mk f N]).length:Int) by simp];unfold dV at this;simp only[ei] at this;rw[this];simp;omega
def start_eq{L:List Fm}{q:Sq}(h:zO L q):∃p,v8 q=some p/\PG L p (bZ.mk L q.acL q.acO):=by
 have d:=h.nh;have a:=h.nv;refine⟨cm.mk (fv.mk (q.acL.length:Int) (q.acO.length:Int)) (q.acL.map qw) (q.acO.map λf=>cZ.mk f q.acL.length),?_,⟨⟨rfl,rfl,rfl,h.ctx,a,d,th,?_⟩,rfl,h.Ib,h.acO⟩⟩
 ·unfold v8;rw[tw h.ctx cw,bT,ch cw,b6,cc,dE];have:=Fh (T:=q.acL.map qw) (N:=q.acL.length) cw q.acO 0 [] aae;rw[show(([]:List cZ).length:Int)=0 from rfl] at this;rw[this,bT];simp[Xo]
 ·intro i x g b c;have b:(q.acO.map λf=>cZ.mk f q.acL.length)[i]?=some x:=b;have c:q.acO[i]?=some g:=c;rw[rS,c] at b;obtain rfl:=gv b;have hg:=h.acO g (zT c);refine⟨hg.hy a,by show(0:Int)<=(q.acL.length:Int);omega,by show((q.acL.length:Nat):Int)<=(q.acL.length:Int);omega,?_⟩;show g=g.up 0 ((q.acL.length:Int)-(q.acL.length:Int));rw[Int.sub_self,Fm.q_]
def Pf.MU:∀(l:List Pf),(∀x∈l,x.wW<=x.acJ)->Pf.tE l<=cn Pf.acJ l
 |[],_=>by simp[Pf.tE]|a::l,b=>by
  have d:=b a th;have e:=Pf.MU l (λx c=>b x (by simp[c]));simp only[Pf.tE,cn];omega
def Pf.OD(p:Pf):p.wW<=p.acJ:=by
 induction p using Pf.ind with
 |h k i s ts fs l a=>
  rw[Pf.bY,Pf.wW];have:=Pf.MU l a;omega
noncomputable def KQ (L:List Fm) (q:Sq) (P:Pf):PR:=jc (F5 L q) (jc P.err (P.inf L q.acL q.acO))
def zo{L:List Fm}{q:Sq}{P:Pf}(h:SqB L q)(j:P.wt<=1000000000):(∃e,e≠0/\KQ L q P=.inr e/\wk L q P=some (⟨eG,[]⟩,e)/\j_ L q P=some (⟨eG,[]⟩,e))\/∃(f:Fm) (m:Nat) (l:List Int),KQ L q P=.inl (f,m)/\wk L q P=some (⟨f,l⟩,0)/\j_ L q P=some (⟨f,l⟩,0)/\Us l m/\Hg q.acL f/\zO L q/\P.err=0:=by
 unfold wk j_ KQ;rw[(AA h).1,(AA h).2,bT,bT]
 by_cases b:F5 L q=0
 ·have d:=OP b;rw[b,bV nz,bV nz,eX rfl,td j,EO j,bT,bT]
  by_cases c:P.err=0
  ·obtain⟨hw,hn⟩:=Pf.YD c;obtain⟨p,k,n⟩:=start_eq d;have o:=P.OD;rw[c,bV nz,bV nz,eX rfl,show AJ=some ()from rfl,bT,k,bT];rcases Rm hw FU FU (by rw[cV];omega) (by rw[cV];omega) p _ n with⟨e,he,q1,g,i⟩|⟨f,m,l,q1,g,i,hu,a⟩
   ·rw[g,i,bW,bW,bX (by rw[cg];exact he),bX (by rw[cg];exact he)];exact .inl ⟨e,he,q1,rfl,rfl⟩
   ·have a:Hg q.acL f:=a;have r:=hu.len;have s:=f.eO a.ok;have t:=a.acJ;rw[g,i,bW,bW,bV nz,bV nz];simp only[];rw[zG a.err (a.acN d.nv cw),bT,NK hu,bT,nj cw,bT,dc aae,b6,ei,mw];exact .inr ⟨f,m,l,q1,rfl,rfl,hu,a,d,by trivial⟩
  ·rw[bX (by rw[cg];exact c),bX (by rw[cg];exact c),gj c];exact .inl ⟨_,c,rfl,rfl,rfl⟩
 ·rw[bX (by rw[cg];exact b),bX (by rw[cg];exact b),gj b];exact .inl ⟨_,b,rfl,rfl,rfl⟩
def zO.below{L:List Fm}{q:Sq}(h:zO L q){l:List Ty}(b:fQ l)(hn:q.acL.length+l.length<=16):zO L ⟨q.acL++l,q.acO.map (Fm.up 0 l.length)⟩:=by
 refine⟨h.ln,h.Ib,h.ctx.append b,by simpa using hn,by simpa using h.nh,λf c=>?_⟩;obtain⟨f0,a,rfl⟩:=kI.1 c;exact(h.acO f0 a).up l
def zO.with{L:List Fm}{q:Sq}(h:zO L q){f:Fm}(a:Hg q.acL f)(hn:q.acO.length+1<=16):zO L ⟨q.acL,q.acO++[f]⟩:=by
 refine⟨h.ln,h.Ib,h.ctx,h.nv,by simpa using hn,λx hx=>?_⟩;rcases pX.1 hx with hx|hx
 ·exact h.acO x hx
 ·rw[yC.1 hx];exact a
def Hg.wt{g:List Ty}{f:Fm}(h:Hg g f):f.wt<=266240:=by
 have:=f.eO h.ok;have:=h.acJ;omega
def zO.b{L:List Fm}{q:Sq}(h:zO L q):SqB L q:=by
 refine⟨λf a=>by have:=(h.Ib f a).wt;omega,λt c=>by have:=df (h.ctx t c);omega,by have:=h.nv;omega,λf a=>by have:=(h.acO f a).wt;omega⟩
def pb:Nat->Nat
 |0=>10000|k+1=>3*pb k+1000000
def Fm.r_{f:Fm}(h:f.ok=true)(hn:f.acJ<=4096):f.err=0:=by
 unfold Fm.err;rw[bX h,bV cw]
theorem hB{P:Pf}(h:P.err=0):P.ok=true/\P.small=true/\P.acJ<=16384:=by
 unfold Pf.err at h;cases b:P.ok with
 |false=>rw[b] at h;cases h
 |true=>
  rw[b,bX rfl] at h
  by_cases a:P.small=true/\P.acJ<=16384
  ·exact⟨rfl,a.1,a.2⟩
  ·rw[bV a] at h;cases h
def DH{L:List Fm}{q:Sq}(h:zO L q){P:Pf}(a:P.err=0):KQ L q P=P.inf L q.acL q.acO:=by
 unfold KQ;rw[eX h.zero,eX a]
def Hr{f:Fm}{m:Nat}(h:f.err=0):zc (.inl (f,m))=.inl (f,if f.has then m else 0):=by
 unfold zc;rw[dT,bX h]
theorem MZ{f:Fm}{m:Nat}(h:f.err≠0):zc (.inl (f,m))=.inr 4:=by
 unfold zc;rw[dT,bV h]
@[simp] theorem ZU(e:Int):zc (.inr e)=.inr e:=rfl
noncomputable def rE (a b:Tm):Int:=@ite Int (a=b) (Classical.propDecidable _) 0 (if(a.norm 1000 0).2.2≠0 then(a.norm 1000 0).2.2 else if(b.norm 1000 0).2.2≠0 then(b.norm 1000 0).2.2 else@ite Int ((a.norm 1000 0).1=(b.norm 1000 0).1) (Classical.propDecidable _) 0 11)
def GX(a:Tm):rE a a=0:=bX rfl
def Nf{a b:Tm}(h:a≠b):rE a b=if(a.norm 1000 0).2.2≠0 then(a.norm 1000 0).2.2 else if(b.norm 1000 0).2.2≠0 then(b.norm 1000 0).2.2 else@ite Int ((a.norm 1000 0).1=(b.norm 1000 0).1) (Classical.propDecidable _) 0 11:=bV h
def Nm.Tx{a:Tm}(h:Nm a)(b:(a.norm 1000 0).2.2=0):(a.norm 1000 0).1.ok=true/\(a.norm 1000 0).1.acJ<=4096:=by
 obtain⟨p,n,e,c⟩:∃p n e,a.norm 1000 0=(p,n,e):=⟨_,_,_,rfl⟩;rw[c] at b|-;have b:e=0:=b;subst b;have:=DB 1000 536870912 0 a p n cw (Sm.start h.err h.acN) (pk h.err).2 c;exact⟨this.1.ok,this.2⟩
def Da{a b:Tm}(f:Nm a)(g:Nm b):kX a b 1000=some (rE a b):=by
 have v:=a.eO (pk f.err).1;have w:=b.eO (pk g.err).1;have x:=(pk f.err).2;have y:=(pk g.err).2;unfold kX;rw[nr cw,f.err,bT,bV nz,nr cw,g.err,bT,bV nz];obtain⟨r,s,l⟩:=uB (a:=a) (b:=b) cw;rw[s,bT]
 by_cases c:a=b
 ·rw[bX (l.2 c),c,GX]
 ·rw[bV (λh=>c (l.1 h)),Nf c,f.both.1,g.both.1];obtain⟨p,n,e,t⟩:∃p n e,a.norm 1000 0=(p,n,e):=⟨_,_,_,rfl⟩;obtain⟨m,n',u,k⟩:∃p n e,b.norm 1000 0=(p,n,e):=⟨_,_,_,rfl⟩;have i:=f.Tx;rw[t] at i|-;rw[k,mD];simp only[] at i|-
  by_cases he:e=0
  ·subst he;rw[bV nz,bV gw,mD]
   by_cases d:u=0
   ·subst d;rw[bV nz,bV gw];have z:=p.eO (i rfl).1;have A:=(i rfl).2;obtain⟨q,q1,o⟩:=uB (a:=p) (b:=m) cw;rw[q1,bT]
    by_cases j:p=m
    ·rw[bX (o.2 j),bX j]
    ·rw[bV (λh=>j (o.1 h)),bV j]
   ·rw[bX (by rw[cg];exact d),bX d]
  ·rw[bX (by rw[cg];exact he),bX he]
mutual
noncomputable def Fm.A_:Fm->Fm->Int
 |.mk k s ts l,b=>if k≠b.acH\/s.iY b.b7=false then 11 else if dp (List.zipWith rE ts b.cv)≠0 then dp (List.zipWith rE ts b.cv)else dp (Fm.NT l b.acI)
noncomputable def Fm.NT:List Fm->List Fm->List Int
 |a::l,b::m=>a.A_ b::Fm.NT l m|_,_=>[]
end
def Fm.ND:∀(l m:List Fm),Fm.NT l m=List.zipWith Fm.A_ l m
 |[],m=>by rw[Fm.NT];rfl;intros;simp_all|a::l,[]=>by rw[Fm.NT];rfl;intros;simp_all|a::l,b::m=>by rw[Fm.NT,Fm.ND l m];rfl
def Fm.IM(k k':Int)(s b:Ty)(ts a:List Tm)(l c:List Fm):(Fm.mk k s ts l).A_ (.mk k' b a c)=if k≠k'\/s.iY b=false then 11 else if dp (List.zipWith rE ts a)≠0 then dp (List.zipWith rE ts a)else dp (List.zipWith Fm.A_ l c):=by rw[Fm.A_,Fm.ND];rfl
def D4{α:Type}{E:α->α->Option Int}{e:α->α->Int}{M:List α}:∀(l:List α) (i:Nat),l.length+i=M.length->(∀x∈l,∀y∈M,E x y=some (e x y))->cY (λ(d:Int) (f:α)=>(λ(_:Unit)=>bU (cq M d) λb=>bU (E f b) λa=>if(cG a 0) then(some (.ret a))else(some ((.next ()):dJ Unit Int)))) l i ()=some (if dp (List.zipWith e l (M.drop i))=0 then .inl ()else .inr (dp (List.zipWith e l (M.drop i))))
 |[],i,_,_=>by simp[dp]|x::l,i,k,h=>by
  simp only[jK] at k
  have hi:i<M.length:=cw
  have m:=D4 (E:=E) (e:=e) (M:=M) l (i+1) cw (λy hy=>h y (by simp[hy]));have n:M.drop i=M[i]::M.drop (i+1):=(Je hi)
  have o:List.zipWith e (x::l) (M.drop i)=e x M[i]::List.zipWith e l (M.drop (i+1)):=by rw[n];rfl
  rw[o,cM,gu,lV hi,bT,h x th _ (AY hi),bT]
  by_cases c:e x M[i]=0
  ·have g:¬cG (e x M[i]) 0=true:=by rw[cg];simpa using c
   have j:dp (e x M[i]::List.zipWith e l (M.drop (i+1)))=dp (List.zipWith e l (M.drop (i+1))):=by rw[dp,bX c]
   rw[bV g,bT,cS,j];exact m
  ·have g:cG (e x M[i]) 0=true:=by rw[cg];exact c
   have j:dp (e x M[i]::List.zipWith e l (M.drop (i+1)))=e x M[i]:=by rw[dp,bV c]
   rw[bX g,bT,Eo,j,bV c]
def BL:∀(n:Nat) (a b:Fm),a.acJ<=n->a.acJ<=4096->b.acJ<=4096->a.ok=true->b.ok=true->O5 a->O5 b->js n a b=some (a.A_ b):=by
 intro n
 induction n with
 |zero=>intro a b h;have:=a.cu;omega
 |succ n S=>
  intro a b hn z A O P T U;cases a with
  |mk k s ts l=>
  cases b with
  |mk k' t c B=>
   cases T with
   |mk C D=>
   cases U with
   |mk F H=>
   rw[Fm.bY] at hn z A;obtain⟨a1,a2,a3⟩:=Fm.mz O;obtain⟨W,X,V⟩:=Fm.mz P;have Y:=Tm.dm ts;have Z:=Fm.dm l;rw[js,Fm.IM];refine sn (G:=λo=>o=some (if k≠k'\/s.iY t=false then 11 else if dp (List.zipWith rE ts c)≠0 then dp (List.zipWith rE ts c)else dp (List.zipWith Fm.A_ l B))) (λv=>v=true↔(k≠k'\/s.iY t=false)) (λv Q=>?_) (λj R=>?_)
   ·by_cases g:k≠k'\/s.iY t=false
    ·rw[bX (Q.2 g),bX g]
    ·rw[bV (λh=>g (Q.1 h)),bV g];have I:k=k':=Zv λh=>g (.inl h);subst I;obtain⟨e1,e2⟩:=Fm.shape O P;show(ef (c0 ts) _:Option Int)=_;rw[ch cw,b6,cc];show bU (cY (λ(J:Int) (K:Tm)=>(λ(_:Unit)=>bU (cq c J) λi=>bU (kX K i 1000) λd=>if(cG d 0) then(some (.ret d))else(some ((.next ()):dJ Unit Int)))) ts 0 ()) _=_;rw[D4 (E:=λx y=>kX x y 1000) (e:=rE) ts 0 cw (λx m y hy=>Da (C x m) (F y hy)),Pr]
     by_cases u:dp (List.zipWith rE ts c)=0
     ·rw[bX u,bT,b9,bV (λh=>h u)];show(ef (c0 l) _:Option Int)=_;rw[ch cw,b6,cc];show bU (cY (λ(p:Int) (q:Fm)=>(λ(_:Unit)=>bU (cq B p) λr=>bU (js n q r) λf=>if(cG f 0) then(some (.ret f))else(some ((.next ()):dJ Unit Int)))) l 0 ()) _=_
      rw[D4 (E:=λx y=>js n x y) (e:=Fm.A_) l 0 cw (λx m y hy=>by
       have m1:=cy Fm.acJ m;have m2:=cy Fm.acJ hy
       exact S x y cw cw cw (a3 x m) (V y hy) (D x m) (H y hy)),Pr]
      by_cases L:dp (List.zipWith Fm.A_ l B)=0
      ·rw[bX L,L];rfl
      ·rw[bV L];rfl
     ·rw[bV u,bX u];rfl
   ·show(if(cG k k') then j true else bU (eu FU s t) λM=>j (mq M))=_
    by_cases w:k=k'
    ·have N:¬cG k k'=true:=by rw[cg];simpa using w
     rw[bV N,nR cw,bT];exact R _ (by rw[Ns];simp[w])
    ·have N:cG k k'=true:=by rw[cg];exact w
     rw[bX N];exact R _ (by simp[w])
def Hg.nmF{g:List Ty}{f:Fm}(h:Hg g f)(hg:g.length<=1000000):O5 f:=O5.of f h.acJ h.ok (h.ty.acN _ (by have:=h.acJ;omega))
theorem Eh{g f:List Ty}{a b:Fm}(c:Hg g a)(d:Hg f b)(h:g.length<=1000000)(i:f.length<=1000000):vB a b=a.A_ b:=by
 have j:=c.wt;have k:=d.wt
 have e:jk a b=some (a.A_ b):=by
  unfold jk;rw[er cw,c.err,bT,bV nz,er cw,d.err,bT,bV nz,BL FU a b (by rw[cV];have:=c.acJ;omega) c.acJ d.acJ c.ok d.ok (c.nmF h) (d.nmF i)];rfl
 unfold vB;rw[e];rfl
def Pm(a b:Tm):Prop:=a.ok=true/\b.ok=true/\∃c,qz a c/\qz b c
def Pm.refl{a:Tm}(h:a.ok=true):Pm a a:=⟨h,h,a,.refl a,.refl a⟩
def Pm.symm{a b:Tm}(h:Pm a b):Pm b a:=⟨h.2.1,h.1,let⟨c,p,q⟩:=h.2.2;⟨c,q,p⟩⟩
def Pm.trans{a b c:Tm}(h:Pm a b)(d:Pm b c):Pm a c:=by
 obtain⟨e,f,x,g,i⟩:=h;obtain⟨_,j,y,k,l⟩:=d;obtain⟨w,m,n⟩:=i.meet y f k;exact⟨e,j,w,g.trans m,l.trans n⟩
def rh(e:Int):Prop:=e=3\/e=4\/e=5
def ML{a p:Tm}{n:Int}(h:a.norm 1000 0=(p,n,0))(b:a.ok=true):p.nf=true/\qz a p:=⟨(MQ 1000 0 a p n h).1,GZ 1000 0 a p n b h⟩
def Nw{a b:Tm}(h:Pm a b):rE a b=0\/rh (rE a b):=by
 by_cases g:a=b
 ·rw[g,GX];exact .inl rfl
 ·rw[Nf g];obtain⟨j,m,c,o,r⟩:=h;have s:=Ax 1000 0 a;have t:=Ax 1000 0 b
  by_cases d:(a.norm 1000 0).2.2=0
  ·rw[bV (λh=>h d)]
   by_cases f:(b.norm 1000 0).2.2=0
   ·rw[bV (λh=>h f)];obtain⟨p,n,e,q⟩:∃p n e,a.norm 1000 0=(p,n,e):=⟨_,_,_,rfl⟩;obtain⟨y,n',u,i⟩:∃p n e,b.norm 1000 0=(p,n,e):=⟨_,_,_,rfl⟩;rw[q] at d|-;rw[i] at f|-;have d:e=0:=d;have f:u=0:=f;subst d;subst f;obtain⟨n1,s1⟩:=ML q j;obtain⟨n2,s2⟩:=ML i m;obtain⟨w,v,x⟩:=s1.meet c j o;obtain⟨w',k,l⟩:=s2.meet c m r;have:=v.nf n1;subst this;have:=k.nf n2;subst this;have:w=w':=qz.unique (o.ok j) x l n1 n2;rw[bX this];exact .inl rfl
   ·rw[bX f];rcases t with h|h|h
    ·exact absurd h f
    ·exact .inr (.inr (.inl h))
    ·exact .inr (.inr (.inr h))
  ·rw[bX d];rcases s with h|h|h
   ·exact absurd h d
   ·exact .inr (.inr (.inl h))
   ·exact .inr (.inr (.inr h))
inductive A7:Fm->Fm->Prop
 |eq {a a' b b'}:Pm a a'->Pm b b'->A7 (.mk 1 .z [a,b] []) (.mk 1 .z [a',b'] [])|two {k a a' b b'}:A7 a a'->A7 b b'->A7 (.mk k .z [] [a,b]) (.mk k .z [] [a',b'])|q {k s a a'}:A7 a a'->A7 (.mk k s [] [a]) (.mk k s [] [a'])
def A7.refl{g:List Ty}{f:Fm}(h:eY g f):A7 f f:=by
 induction h with
 |eq c d=>exact .eq (.refl c.ok) (.refl d.ok)|two _ _ _ a b=>exact .two a b|q _ _ _ e=>exact .q e
def A7.symm{a b:Fm}(h:A7 a b):A7 b a:=by
 induction h with
 |eq e f=>exact .eq e.symm f.symm|two _ _ c d=>exact .two c d|q _ g=>exact .q g
def A7.trans{a b:Fm}(h:A7 a b):∀{c:Fm},A7 b c->A7 a c:=by
 induction h with
 |eq i j=>intro c h;cases h with|eq d e=>exact .eq (i.trans d) (j.trans e)
 |two _ _ f g=>intro c h;cases h with|two d e=>exact .two (f d) (g e)
 |q _ k=>intro c h;cases h with|q d=>exact .q (k d)
def vW:∀{l:List Int},(∀e∈l,e=0\/rh e)->dp l=0\/rh (dp l)
 |[],_=>.inl rfl|e::l,h=>by
  rw[dp]
  by_cases he:e=0
  ·rw[bX he];exact vW λx a=>h x (by simp[a])
  ·rw[bV he];exact .inr ((h e th).resolve_left he)
def A7.A_{a b:Fm}(h:A7 a b):a.A_ b=0\/rh (a.A_ b):=by
 have hs:∀(k:Int) (s:Ty),¬(k≠k\/s.iY s=false):=λk s h=>by
  rcases h with h|h
  ·exact h rfl
  ·rw[(Ty.iJ s s).2 rfl] at h;cases h
 induction h with
 |@eq a c b d m n=>
  rw[Fm.IM,bV (hs _ _)]
  have f:=vW (l:=[rE a c,rE b d]) (λe he=>by
   simp only[jA,tF,qC] at he;rcases he with rfl|rfl
   ·exact Nw m
   ·exact Nw n)
  show(if dp [rE a c,rE b d]≠0 then dp [rE a c,rE b d] else dp [])=0\/_
  by_cases g:dp [rE a c,rE b d]=0
  ·rw[bV (λh=>h g)];exact .inl rfl
  ·show _\/rh (if dp [rE a c,rE b d]≠0 then dp [rE a c,rE b d] else dp []);rw[bX g];exact .inr (f.resolve_left g)
 |@two k a c b d _ _ i j=>
  have f:=vW (l:=[a.A_ c,b.A_ d]) (λe he=>by
   simp only[jA,tF,qC] at he;rcases he with rfl|rfl
   ·exact i
   ·exact j)
  rw[Fm.IM,bV (hs _ _)];exact f
 |@q k s a c _ o=>
  have f:=vW (l:=[a.A_ c]) (λe he=>by
   simp only[jA,tF,qC] at he
   rw[he];exact o)
  rw[Fm.IM,bV (hs _ _)];exact f
def fin(f:Fm)(m:Nat):Nat:=if f.has then m else 0
def hX{r:PR}{f:Fm}{m:Nat}(h:zc r=.inl (f,m)):∃a,r=.inl (f,a)/\f.err=0/\m=fin f a:=by
 cases r with
 |inr e=>cases h
 |inl p=>
  obtain⟨f0,a⟩:=p
  by_cases b:f0.err=0
  ·rw[Hr b] at h;obtain⟨rfl,rfl⟩:=fH (vo h);exact⟨a,rfl,b,rfl⟩
  ·grind[MZ]
def fj{r:PR}{k:Fm->Nat->PR}{p:Fm×Nat}(h:pbind r k=.inl p):∃f m,r=.inl (f,m)/\k f m=.inl p:=by
 cases r with
 |inr e=>cases h
 |inl q=>exact⟨q.1,q.2,rfl,h⟩
theorem iW{e:Int}{r:PR}{p:Fm×Nat}(h:jc e r=.inl p):e=0/\r=.inl p:=by grind[eX,gj]
def k_{c:Prop}[Decidable c]{e:Int}{r:PR}{p:Fm×Nat}(h:tC c e r=.inl p):¬c/\r=.inl p:=by grind[iy,jd]
def tU{r:PR}{k:Int}{f:Fm}{m:Nat}(h:A9 r k=.inl (f,m)):r=.inl (f,m)/\f.acH=k:=by
 obtain⟨f0,a,rfl,b⟩:=fj h
 grind
theorem uL{F:Fm}{t:Tm}(h:(lr F t).2=0):lr F t=(Fm.e_ 0 F t,0)/\(Fm.e_ 0 F t).acJ<=4096:=by grind[mo]
def yl{r:PR}{F:Fm}{t:Tm}{f:Fm}{m:Nat}(h:Be r F t=.inl (f,m)):r=.inl (f,m)/\(Fm.e_ 0 F t).acJ<=4096/\vB (Fm.e_ 0 F t) f=0:=by
 obtain⟨f0,a,rfl,b⟩:=fj h
 grind[iW,uL]
inductive Dv (L:List Fm):List Ty->List Fm->Pf->Fm->Nat->Prop
 |hyp {g hs i f}:0<=i->i<(hs.length:Int)->hs[hs.length-1-i.toNat]?=some f->Hg g f->Dv L g hs (.mk 1 i .z [] [] []) f 0|Ib {g hs i f}:0<=i->L[i.toNat]?=some f->Hg [] f->Dv L g hs (.mk 2 i .z [] [] []) f 0|Mh {g hs a b x y m n}:Dv L g hs a x m->Dv L g hs b y n->Hg g (.mk 2 .z [] [x,y])->Dv L g hs (.mk 3 0 .z [] [] [a,b]) (.mk 2 .z [] [x,y]) (fin (.mk 2 .z [] [x,y]) (m|||n))|aaG {g hs a x y m}:Dv L g hs a (.mk 2 .z [] [x,y]) m->Hg g x->Dv L g hs (.mk 4 0 .z [] [] [a]) x (fin x m)|aaQ {g hs a x y m}:Dv L g hs a (.mk 2 .z [] [x,y]) m->Hg g y->Dv L g hs (.mk 5 0 .z [] [] [a]) y (fin y m)|Ko {g hs F a y m}:Hg g F->hs.length+1<=16->Dv L g (hs++[F]) a y m->Hg g (.mk 3 .z [] [F,y])->Dv L g hs (.mk 6 0 .z [] [F] [a]) (.mk 3 .z [] [F,y]) (fin (.mk 3 .z [] [F,y]) m)|JJ {g hs a b x y f m n}:Dv L g hs a (.mk 3 .z [] [x,y]) m->Dv L g hs b f n->Hg g x->Hg g f->x.A_ f=0->Hg g y->Dv L g hs (.mk 7 0 .z [] [] [a,b]) y (fin y (m|||n))|all {g hs k k' s a f m}:(k=8/\k'=4\/k=12/\k'=6/\m.testBit 0=false)->s.err=0->g.length+1<=16->Dv L (g++[s]) (hs.map (Fm.up 0 1)) a f m->Hg g (.mk k' s [] [f])->Dv L g hs (.mk k 0 s [] [] [a]) (.mk k' s [] [f]) (fin (.mk k' s [] [f]) (m/2))|UY {g hs k k' t s a x m u}:(k=9/\k'=4/\u=m|||pQ t\/k=13/\k'=6/\u=m)->cQ g t s->t.err=0->Dv L g hs a (.mk k' s [] [x]) m->Hg (g++[s]) x->(Fm.e_ 0 x t).acJ<=4096->Dv L g hs (.mk k 0 .z [t] [] [a]) (Fm.e_ 0 x t) (fin (Fm.e_ 0 x t) u)|ex {g hs k k' t s a x f m u}:(k=10/\k'=5/\u=m|||pQ t\/k=14/\k'=7/\u=m)->Hg g (.mk k' s [] [x])->cQ g t s->t.err=0->Hg (g++[s]) x->Dv L g hs a f m->Hg g f->(Fm.e_ 0 x t).acJ<=4096->(Fm.e_ 0 x t).A_ f=0->Dv L g hs (.mk k 0 .z [t] [.mk k' s [] [x]] [a]) (.mk k' s [] [x]) (fin (.mk k' s [] [x]) u)|WJ {g hs k k' s a b x f m n}:(k=11/\k'=5\/k=15/\k'=7/\n.testBit 0=false)->Dv L g hs a (.mk k' s [] [x]) m->s.err=0->g.length+1<=16->hs.length+1<=16->Hg (g++[s]) x->Dv L (g++[s]) (hs.map (Fm.up 0 1)++[x]) b f n->Hg (g++[s]) f->(A5 f).2=0->Hg g (A5 f).1->Dv L g hs (.mk k 0 .z [] [] [a,b]) (A5 f).1 (fin (A5 f).1 (m|||n/2))|ind {g hs t F a b x y m n}:Hg (g++[.nat]) F->cQ g t .nat->t.err=0->Dv L g hs a x m->Hg g x->(Fm.e_ 0 F uI).acJ<=4096->(Fm.e_ 0 F uI).A_ x=0->g.length+1<=16->hs.length+1<=16->Dv L (g++[.nat]) (hs.map (Fm.up 0 1)++[F]) b y n->Hg (g++[.nat]) y->(Fm.e_ 0 (F.up 1 1) (uw v0)).acJ<=4096->(Fm.e_ 0 (F.up 1 1) (uw v0)).A_ y=0->(Fm.e_ 0 F t).acJ<=4096->Dv L g hs (.mk 16 0 .z [t] [F] [a,b]) (Fm.e_ 0 F t) (fin (Fm.e_ 0 F t) ((pQ t|||m)|||n/2))|lists {g hs t F a b x y m n}:Hg (g++[.lk]) F->cQ g t .lk->t.err=0->Dv L g hs a x m->Hg g x->(Fm.e_ 0 F (.mk 7 0 .z [])).acJ<=4096->(Fm.e_ 0 F (.mk 7 0 .z [])).A_ x=0->g.length+2<=16->hs.length+1<=16->Dv L (g++[.nat]++[.lk]) (hs.map (Fm.up 0 2)++[F.up 1 1]) b y n->Hg (g++[.nat]++[.lk]) y->(Fm.e_ 0 (F.up 1 2) (.mk 8 0 .z [v1,v0])).acJ<=4096->(Fm.e_ 0 (F.up 1 2) (.mk 8 0 .z [v1,v0])).A_ y=0->(Fm.e_ 0 F t).acJ<=4096->Dv L g hs (.mk 17 0 .z [t] [F] [a,b]) (Fm.e_ 0 F t) (fin (Fm.e_ 0 F t) ((pQ t|||m)|||n/4))|refl {g hs t}:cQ g t .nat->t.err=0->Hg g (.mk 1 .z [t,t] [])->Dv L g hs (.mk 18 0 .z [t] [] []) (.mk 1 .z [t,t] []) 0|subst {g hs F a b t u f m n}:Hg (g++[.nat]) F->Dv L g hs a (.mk 1 .z [t,u] []) m->cQ g t .nat->cQ g u .nat->t.err=0->u.err=0->Dv L g hs b f n->Hg g f->(Fm.e_ 0 F t).acJ<=4096->(Fm.e_ 0 F t).A_ f=0->(Fm.e_ 0 F u).acJ<=4096->Dv L g hs (.mk 19 0 .z [] [F] [a,b]) (Fm.e_ 0 F u) (fin (Fm.e_ 0 F u) n)|choice {g hs a s u y m}:Dv L g hs a (.mk 4 s [] [.mk 5 u [] [y]]) m->s.err=0->u.err=0->Hg (g++[s]++[u]) y->(Ty.fn s u).err=0->(Fm.e_ 0 (y.up 2 1) (qj v1 v0)).acJ<=4096->Hg g (.mk 5 (.fn s u) [] [.mk 4 s [] [Fm.e_ 0 (y.up 2 1) (qj v1 v0)]])->Dv L g hs (.mk 20 0 .z [] [] [a]) (.mk 5 (.fn s u) [] [.mk 4 s [] [Fm.e_ 0 (y.up 2 1) (qj v1 v0)]]) (fin (.mk 5 (.fn s u) [] [.mk 4 s [] [Fm.e_ 0 (y.up 2 1) (qj v1 v0)]]) m)
def EU(f:Fm):fin f 0=0:=by grind[fin]
def zv{g c:List Ty}{a b:Fm}(d:Hg g a)(e:Hg c b)(f:g.length<=1000000)(i:c.length<=1000000)(h:vB a b=0):a.A_ b=0:=by grind[Eh]
def rK{g:List Ty}{s:Ty}{F:Fm}{t:Tm}(hF:eY (g++[s]) F)(a:cQ g t s)(hn:(Fm.e_ 0 F t).acJ<=4096):Hg g (Fm.e_ 0 F t):=⟨Fm.r_ (hF.put a).ok hn,hF.put a⟩
def Hg.VQ{g:List Ty}{F:Fm}(h:Hg (g++[.nat]) F):Hg (g++[.nat]++[.nat]) (F.up 1 1):=⟨zj h.err cw cw,by have:=h.ty.up g [.nat] [.nat] rfl;simpa using this⟩
def Hg.Wz{g:List Ty}{F:Fm}(h:Hg (g++[.lk]) F):Hg (g++[.nat]++[.lk]++[.lk]) (F.up 1 2):=⟨zj h.err cw cw,by have:=h.ty.up g [.lk] [.nat,.lk] rfl;simpa using this⟩
def Hg.upl{g:List Ty}{F:Fm}(h:Hg (g++[.lk]) F):Hg (g++[.nat]++[.lk]) (F.up 1 1):=⟨zj h.err cw cw,by have:=h.ty.up g [.lk] [.nat] rfl;simpa using this⟩
def zO.BG{L:List Fm}{g:List Ty}{hs:List Fm}(h:zO L ⟨g,hs⟩){s:Ty}(a:s.err=0)(hn:g.length+1<=16):zO L ⟨g++[s],hs.map (Fm.up 0 1)⟩:=h.below (l:=[s]) (λx b=>by rw[yC.1 b];exact a) hn
def zO.U8{L:List Fm}{g:List Ty}{hs:List Fm}(h:zO L ⟨g,hs⟩)(hn:g.length+2<=16):zO L ⟨g++[.nat]++[.lk],hs.map (Fm.up 0 2)⟩:=by
 have:=h.below (l:=[.nat,.lk]) (λx hx=>by
  rcases jA.1 hx with rfl|hx
  ·exact Ty.fO
  ·rw[yC.1 hx];exact Ty.m7) hn
 grind
def xA{F:Fm}(hF:F.err=0){g:List Ty}(a:fQ g)(h:F.ta g=0):Hg g F:=⟨hF,pj F (Fm.ea hF).1 g a h⟩
def Dv.of{L:List Fm}{P:Pf}(hP:xy P):∀(g:List Ty) (hs:List Fm) (f:Fm) (m:Nat),zO L ⟨g,hs⟩->P.inf L g hs=.inl (f,m)->Dv L g hs P f m/\Hg g f:=by
 induction hP with
 |@hyp i hi=>
  intro g hs f m d h;have D:fQ g:=d.ctx;rw[Pf.iT,QN] at h;obtain⟨J,o,he,c⟩:=hX h;rw[c];clear h c;have h:=o;clear o;obtain⟨j,E⟩:=k_ h;obtain⟨T,rfl⟩:=fH (vo E)
  have N:hs.length-1-i.toNat<hs.length:=cw
  rw[OG,lV N] at T;have T:hs[hs.length-1-i.toNat]=f:=T;have A:Hg g f:=d.acO f (by rw[<-T];exact AY N);rw[EU];exact⟨.hyp hi cw (by rw[lV N,T]) A,A⟩
 |@Ib i hi=>
  intro g hs f m d h;have D:fQ g:=d.ctx;rw[Pf.iT,TK] at h;obtain⟨J,o,he,c⟩:=hX h;rw[c];clear h c;have h:=o;clear o;obtain⟨j,E⟩:=k_ h;obtain⟨T,rfl⟩:=fH (vo E)
  have N:i.toNat<L.length:=cw
  rw[OG,lV N] at T;have T:L[i.toNat]=f:=T;have A:Hg [] f:=d.Ib f (by rw[<-T];exact AY N);rw[EU];exact⟨.Ib hi (by rw[lV N,T]) A,he,by simpa using A.ty.front g⟩
 |@Mh a b _ _ l G=>
  intro g hs f m d h;have D:fQ g:=d.ctx;rw[Pf.iT,L9] at h;obtain⟨J,o,he,c⟩:=hX h;rw[c];clear h c;have h:=o;clear o;obtain⟨x,n1,j,h⟩:=fj h;obtain⟨y,n2,E,h⟩:=fj h;obtain⟨rfl,rfl⟩:=fH (vo h);obtain⟨B,v⟩:=l g hs x n1 d j;obtain⟨R,tb⟩:=G g hs y n2 d E;have A:Hg g (.mk 2 .z [] [x,y]):=⟨he,.two (.inl rfl) v.ty tb.ty⟩;exact⟨.Mh B R A,A⟩
 |@and k a w _ l=>
  intro g hs f m d h;have D:fQ g:=d.ctx;rcases w with rfl|rfl
  ·rw[Pf.iT,MH] at h;obtain⟨J,o,he,c⟩:=hX h;rw[c];clear h c;have h:=o;clear o;obtain⟨x,n1,j,h⟩:=fj h;obtain⟨j,w⟩:=tU j;obtain⟨rfl,rfl⟩:=fH (vo h);obtain⟨B,v⟩:=l g hs x n1 d j;obtain⟨x,y,rfl,O,hy⟩:=v.ty.E1 w (.inl rfl);exact⟨.aaG B ⟨he,O⟩,he,O⟩
  ·rw[Pf.iT,L1] at h;obtain⟨J,o,he,c⟩:=hX h;rw[c];clear h c;have h:=o;clear o;obtain⟨x,n1,j,h⟩:=fj h;obtain⟨j,w⟩:=tU j;obtain⟨rfl,rfl⟩:=fH (vo h);obtain⟨B,v⟩:=l g hs x n1 d j;obtain⟨x,y,rfl,O,hy⟩:=v.ty.E1 w (.inl rfl);exact⟨.aaQ B ⟨he,hy⟩,he,hy⟩
 |@Ko F a hF _ l=>
  intro g hs f m d h;have D:fQ g:=d.ctx;rw[Pf.iT,KS] at h;obtain⟨J,o,he,c⟩:=hX h;rw[c];clear h c;have h:=o;clear o;obtain⟨I,h⟩:=iW h;obtain⟨hn,h⟩:=k_ h;obtain⟨y,n1,j,h⟩:=fj h;obtain⟨rfl,rfl⟩:=fH (vo h);have p:=xA hF D I;obtain⟨B,v⟩:=l g _ y n1 (d.with p (by show hs.length+1<=16;omega)) j;have A:Hg g (.mk 3 .z [] [F,y]):=⟨he,.two (.inr rfl) p.ty v.ty⟩;exact⟨.Ko p cw B A,A⟩
 |@JJ a b _ _ l G=>
  intro g hs f m d h;have D:fQ g:=d.ctx;have S:=d.nv;have S:g.length<=16:=S;rw[Pf.iT,Mj] at h;obtain⟨J,o,he,c⟩:=hX h;rw[c];clear h c;have h:=o;clear o;obtain⟨x,n1,j,h⟩:=fj h;obtain⟨j,w⟩:=tU j;obtain⟨z,n2,E,h⟩:=fj h;obtain⟨hm,h⟩:=iW h;obtain⟨rfl,rfl⟩:=fH (vo h);obtain⟨B,v⟩:=l g hs x n1 d j;obtain⟨R,tb⟩:=G g hs z n2 d E;obtain⟨x,y,rfl,O,hy⟩:=v.ty.E1 w (.inr rfl);have C:=v.sub (x:=x) th O;exact⟨.JJ B R C tb (zv C tb cw cw hm) ⟨he,hy⟩,he,hy⟩
 |@all k s a w r _ l=>
  intro g hs f m d h;have D:fQ g:=d.ctx;rcases w with rfl|rfl
  ·rw[Pf.iT,EB] at h;obtain⟨J,o,he,c⟩:=hX h;rw[c];clear h c;have h:=o;clear o;obtain⟨hn,h⟩:=k_ h;obtain⟨x,n1,j,h⟩:=fj h;obtain⟨rfl,rfl⟩:=fH (vo h);obtain⟨B,v⟩:=l _ _ x n1 (d.BG r cw) j;have A:Hg g (.mk 4 s [] [x]):=⟨he,.q (.inl rfl) r v.ty⟩;exact⟨.all (.inl ⟨rfl,rfl⟩) r cw B A,A⟩
  ·rw[Pf.iT,MN] at h;obtain⟨J,o,he,c⟩:=hX h;rw[c];clear h c;have h:=o;clear o;obtain⟨hn,h⟩:=k_ h;obtain⟨x,n1,j,h⟩:=fj h;obtain⟨hb,h⟩:=k_ h;obtain⟨rfl,rfl⟩:=fH (vo h);obtain⟨B,v⟩:=l _ _ x n1 (d.BG r cw) j;have A:Hg g (.mk 6 s [] [x]):=⟨he,.q (.inr (.inr (.inl rfl))) r v.ty⟩;exact⟨.all (.inr ⟨rfl,rfl,by simpa using hb⟩) r cw B A,A⟩
 |@UY k t a w I _ l=>
  intro g hs f m d h;have D:fQ g:=d.ctx
  have key:∀(k':Int) (f:Fm) (m:Nat),(k'=4\/k'=6)->∀u:Nat->Nat,(jc (t.ty g).2 (pbind (A9 (a.inf L g hs) k') λa m=>tC ((t.ty g).1.iY a.b7=false) 7 (jc (lr (a.acI.getD 0 eG) t).2 (.inl ((lr (a.acI.getD 0 eG) t).1,u m)))))=.inl (f,m)->∃s x n,cQ g t s/\Dv L g hs a (.mk k' s [] [x]) n/\Hg (g++[s]) x/\(Fm.e_ 0 x t).acJ<=4096/\f=Fm.e_ 0 x t/\m=u n:=by
   intro k' f m ah u h;obtain⟨ad,h⟩:=iW h;obtain⟨x,n1,j,h⟩:=fj h;obtain⟨j,w⟩:=tU j;obtain⟨U,h⟩:=k_ h;obtain⟨X,h⟩:=iW h;obtain⟨rfl,rfl⟩:=fH (vo h);obtain⟨B,v⟩:=l g hs x n1 d j;obtain⟨s,y,rfl,r,hy⟩:=v.ty.tJ w cw;have ae:=v.sub (x:=y) th hy;obtain⟨V,K⟩:=uL X;rcases tq I D with⟨e,he,q1,_⟩|⟨s1,q1,M,ai⟩
   ·exact absurd (q1.symm.trans ad) he
   ·have q1:t.ty g=(s1,0):=q1;rw[q1] at U;have:s1=s:=(Ty.iJ _ _).1 (by simpa using U);subst this;have V:lr y t=(Fm.e_ 0 y t,0):=V;refine⟨s1,y,n1,M,B,ae,K,?_,rfl⟩;show(lr y t).1=_;rw[V]
  rcases w with rfl|rfl
  ·rw[Pf.iT,T7] at h;obtain⟨J,o,he,c⟩:=hX h;rw[c];clear h c;have h:=o;clear o;obtain⟨s,x,n,q1,q2,Y,Z,rfl,rfl⟩:=key 4 _ _ (.inl rfl) (λm=>m|||pQ t) h;exact⟨.UY (.inl ⟨rfl,rfl,rfl⟩) q1 I q2 Y Z,rK Y.ty q1 Z⟩
  ·rw[Pf.iT,Py] at h;obtain⟨J,o,he,c⟩:=hX h;rw[c];obtain⟨s,x,n,q1,q2,Y,Z,rfl,rfl⟩:=key 6 _ _ (.inr rfl) (λm=>m) o;exact⟨.UY (.inr ⟨rfl,rfl,rfl⟩) q1 I q2 Y Z,rK Y.ty q1 Z⟩
 |@ex k t F a w I hF _ l=>
  intro g hs f m d h;have D:fQ g:=d.ctx;have S:g.length<=16:=d.nv
  have key:∀(k':Int) (f:Fm) (m:Nat),(k'=5\/k'=7)->∀u:Nat->Nat,(jc (F.ta g) (tC (F.acH≠k') 10 (jc (t.ty g).2 (tC ((t.ty g).1.iY F.b7=false) 7 (pbind (Be (a.inf L g hs) (F.acI.getD 0 eG) t) λ_ m=>.inl (F,u m))))))=.inl (f,m)->∃s x y n,F=.mk k' s [] [x]/\Hg g F/\cQ g t s/\Hg (g++[s]) x/\Dv L g hs a y n/\Hg g y/\(Fm.e_ 0 x t).acJ<=4096/\(Fm.e_ 0 x t).A_ y=0/\f=F/\m=u n:=by
   intro k' f m ah u h;obtain⟨M,h⟩:=iW h;obtain⟨w,h⟩:=k_ h;obtain⟨ad,h⟩:=iW h;obtain⟨U,h⟩:=k_ h;obtain⟨y,n,j,h⟩:=fj h;obtain⟨rfl,rfl⟩:=fH (vo h);have p:=xA hF D M;obtain⟨s,x,rfl,r,O⟩:=p.ty.tJ (uu.1 w) cw;have C:=p.sub (x:=x) th O;obtain⟨j,K,hm⟩:=yl j;obtain⟨B,v⟩:=l g hs y n d j;rcases tq I D with⟨e,he,q1,_⟩|⟨s1,q1,ab,ai⟩
   ·exact absurd (q1.symm.trans ad) he
   ·rw[q1] at U;have:s1=s:=(Ty.iJ _ _).1 (by simpa using U);subst this;exact⟨s1,x,y,n,rfl,p,ab,C,B,v,K,zv (rK O ab K) v cw cw hm,rfl,rfl⟩
  rcases w with rfl|rfl
  ·rw[Pf.iT,Mz] at h;obtain⟨J,o,he,c⟩:=hX h;rw[c];obtain⟨s,x,y,n,rfl,q1,q2,Y,Z,q5,q6,q7,rfl,rfl⟩:=key 5 _ _ (.inl rfl) (λm=>m|||pQ t) o;exact⟨.ex (.inl ⟨rfl,rfl,rfl⟩) q1 q2 I Y Z q5 q6 q7,q1⟩
  ·rw[Pf.iT,Qn] at h;obtain⟨J,o,he,c⟩:=hX h;rw[c];obtain⟨s,x,y,n,rfl,q1,q2,Y,Z,q5,q6,q7,rfl,rfl⟩:=key 7 _ _ (.inr rfl) (λm=>m) o;exact⟨.ex (.inr ⟨rfl,rfl,rfl⟩) q1 q2 I Y Z q5 q6 q7,q1⟩
 |@WJ k a b w _ _ l G=>
  intro g hs f m d h;have D:fQ g:=d.ctx;have S:g.length<=16:=d.nv;rcases w with rfl|rfl
  ·rw[Pf.iT,Ju] at h;obtain⟨J,o,he,c⟩:=hX h;rw[c];clear h c;obtain⟨x,n1,j,h⟩:=fj o;obtain⟨j,w⟩:=tU j;obtain⟨hn,h⟩:=k_ h;obtain⟨y,n2,E,h⟩:=fj h;obtain⟨hw,h⟩:=iW h;obtain⟨rfl,rfl⟩:=fH (vo h);obtain⟨B,v⟩:=l g hs x n1 d j;obtain⟨s,x,rfl,r,O⟩:=v.ty.tJ w (.inr (.inl rfl));have C:=v.sub (x:=x) th O;have Q:=(d.BG r cw).with (f:=x) C (by show(hs.map (Fm.up 0 1)).length+1<=16;simp;omega);obtain⟨R,tb⟩:=G _ _ y n2 Q E;have A:Hg g (A5 y).1:=⟨he,(Hw tb cw r hw).1⟩;exact⟨.WJ (.inl ⟨rfl,rfl⟩) B r cw cw C R tb hw A,A⟩
  ·rw[Pf.iT,Kd] at h;obtain⟨J,o,he,c⟩:=hX h;rw[c];clear h c;obtain⟨x,n1,j,h⟩:=fj o;obtain⟨j,w⟩:=tU j;obtain⟨hn,h⟩:=k_ h;obtain⟨y,n2,E,h⟩:=fj h;obtain⟨hw,h⟩:=iW h;obtain⟨hb,h⟩:=k_ h;obtain⟨rfl,rfl⟩:=fH (vo h);obtain⟨B,v⟩:=l g hs x n1 d j;obtain⟨s,x,rfl,r,O⟩:=v.ty.tJ w (.inr (.inr (.inr rfl)));have C:=v.sub (x:=x) th O;have Q:=(d.BG r cw).with (f:=x) C (by show(hs.map (Fm.up 0 1)).length+1<=16;simp;omega);obtain⟨R,tb⟩:=G _ _ y n2 Q E;have A:Hg g (A5 y).1:=⟨he,(Hw tb cw r hw).1⟩;exact⟨.WJ (.inr ⟨rfl,rfl,by simpa using hb⟩) B r cw cw C R tb hw A,A⟩
 |@ind k t F a b w I hF _ _ l G=>
  intro g hs f m d h;have D:fQ g:=d.ctx;have S:g.length<=16:=d.nv;rcases w with rfl|rfl
  ·rw[Pf.iT,M'] at h;obtain⟨J,o,he,c⟩:=hX h;rw[c];clear h c;obtain⟨M,h⟩:=iW o;obtain⟨w,h⟩:=iW h;obtain⟨x,n1,j,h⟩:=fj h;obtain⟨hn,h⟩:=k_ h;obtain⟨y,n2,E,h⟩:=fj h;obtain⟨X,h⟩:=iW h;obtain⟨V,K⟩:=uL X;rw[V] at h;obtain⟨rfl,rfl⟩:=fH (vo h);have p:=xA hF D.nat M;have H:cQ g t .nat:=ya D I (.inl rfl) w;obtain⟨j,a2,a3⟩:=yl j;obtain⟨E,W,b3⟩:=yl E;obtain⟨B,v⟩:=l g hs x n1 d j;have Q:=(d.BG Ty.fO cw).with (f:=F) p (by show(hs.map (Fm.up 0 1)).length+1<=16;simp;omega);obtain⟨R,tb⟩:=G _ _ y n2 Q E;have hz:=rK p.ty (t:=uI) .zero a2;have af:=rK (Hg.VQ p).ty (t:=uw v0) (.succ wL) W;have A:Hg g (Fm.e_ 0 F t):=rK p.ty H K;exact⟨.ind p H I B v a2 (zv hz v cw cw a3) cw cw R tb W (zv af tb aae aae b3) K,A⟩
  ·rw[Pf.iT,M3] at h;obtain⟨J,o,he,c⟩:=hX h;rw[c];clear h c;obtain⟨M,h⟩:=iW o;obtain⟨w,h⟩:=iW h;obtain⟨x,n1,j,h⟩:=fj h;obtain⟨hn,h⟩:=k_ h;obtain⟨y,n2,E,h⟩:=fj h;obtain⟨X,h⟩:=iW h;obtain⟨V,K⟩:=uL X;rw[V] at h;obtain⟨rfl,rfl⟩:=fH (vo h);have p:=xA hF D.lk M;have H:cQ g t .lk:=ya D I (.inr rfl) w;obtain⟨j,a2,a3⟩:=yl j;obtain⟨E,W,b3⟩:=yl E;obtain⟨B,v⟩:=l g hs x n1 d j;have Q:=(d.U8 cw).with (f:=F.up 1 1) (Hg.upl p) (by show(hs.map (Fm.up 0 2)).length+1<=16;simp;omega);obtain⟨R,tb⟩:=G _ _ y n2 Q E;have hz:=rK p.ty (t:=.mk 7 0 .z []) .nil a2;have af:=rK (Hg.Wz p).ty (t:=.mk 8 0 .z [v1,v0]) (.cons DZ wL) W;have A:Hg g (Fm.e_ 0 F t):=rK p.ty H K;exact⟨.lists p H I B v a2 (zv hz v cw cw a3) cw cw R tb W (zv af tb aae aae b3) K,A⟩
 |@refl t I=>
  intro g hs f m d h;have D:fQ g:=d.ctx;rw[Pf.iT,Pp] at h;obtain⟨J,o,he,c⟩:=hX h;rw[c];clear h c;obtain⟨w,h⟩:=iW o;obtain⟨rfl,rfl⟩:=fH (vo h);have H:cQ g t .nat:=ya D I (.inl rfl) w;rw[EU];exact⟨.refl H I ⟨he,.eq H H⟩,he,.eq H H⟩
 |@subst F a b hF _ _ l G=>
  intro g hs f m d h;have D:fQ g:=d.ctx;have S:g.length<=16:=d.nv;rw[Pf.iT,Nn] at h;obtain⟨J,o,he,c⟩:=hX h;rw[c];clear h c;obtain⟨M,h⟩:=iW o;obtain⟨x,n1,j,h⟩:=fj h;obtain⟨j,w⟩:=tU j;obtain⟨y,n2,E,h⟩:=fj h;obtain⟨X,h⟩:=iW h;obtain⟨V,K⟩:=uL X;rw[V] at h;obtain⟨rfl,rfl⟩:=fH (vo h);have p:=xA hF D.nat M;obtain⟨B,v⟩:=l g hs x n1 d j;obtain⟨t,u,rfl,I,hu⟩:=v.ty.TW w;have hn:=v.acJ;rw[Fm.bY] at hn;simp only[cn] at hn;obtain⟨E,W,b3⟩:=yl E;obtain⟨R,tb⟩:=G g hs y n2 d E;have W:(Fm.e_ 0 F t).acJ<=4096:=W;have b3:vB (Fm.e_ 0 F t) y=0:=b3;have K:(Fm.e_ 0 F u).acJ<=4096:=K;have A:Hg g (Fm.e_ 0 F u):=rK p.ty hu K;show Dv L g hs _ (Fm.e_ 0 F u) (fin (Fm.e_ 0 F u) n2)/\Hg g (Fm.e_ 0 F u);exact⟨.subst p B I hu (Tm.r_ I.ok cw) (Tm.r_ hu.ok cw) R tb W (zv (rK p.ty I W) tb cw cw b3) K,A⟩
 |@choice a _ l=>
  intro g hs f m d h;have D:fQ g:=d.ctx;rw[Pf.iT,Kv] at h;obtain⟨J,o,he,c⟩:=hX h;rw[c];clear h c;obtain⟨x,n1,j,h⟩:=fj o;obtain⟨j,w⟩:=tU j;obtain⟨h5,h⟩:=k_ h;obtain⟨aa,h⟩:=k_ h;obtain⟨X,h⟩:=k_ h;obtain⟨V,K⟩:=uL (uu.1 X);rw[V] at h;obtain⟨rfl,rfl⟩:=fH (vo h);obtain⟨B,v⟩:=l g hs x n1 d j;obtain⟨s,x,rfl,r,O⟩:=v.ty.tJ w (.inl rfl);have C:=v.sub (x:=x) th O;obtain⟨u,y,rfl,ak,hy⟩:=O.tJ (uu.1 h5) (.inr (.inl rfl));have ae:=C.sub (x:=y) th hy;have K:(Fm.e_ 0 (y.up 2 1) (qj v1 v0)).acJ<=4096:=K;have aa:(Ty.fn s u).err=0:=uu.1 aa
  have an:eY (g++[.fn s u]++[s]++[u]) (y.up 2 1):=by
   have:=hy.up g [s,u] [.fn s u] th;simpa using this
  have ao:cQ (g++[.fn s u]++[s]) (qj v1 v0) u:=.app DZ wL;have A:Hg g (.mk 5 (.fn s u) [] [.mk 4 s [] [Fm.e_ 0 (y.up 2 1) (qj v1 v0)]]):=⟨he,.q (.inr (.inl rfl)) aa (.q (.inl rfl) r (an.put ao))⟩;exact⟨.choice B r ak ae aa K A,A⟩
def L'(s:Ty):s.iY s=true:=(Ty.iJ s s).2 rfl
def vrs(k:Int)(i:Nat):Nat:=if k=8\/k=12 then 1 else if k=11\/k=15\/k=16 then i else if k=17 then 2*i else 0
def mot(k:Int):Nat:=if k=16\/k=17\/k=19 then 1 else 0
mutual
def Pf.acN(m:Int):Pf->Bool
 |.mk _ _ _ ts fs l=>ts.all (Tm.acN m)&&fs.all (Fm.acN m)&&Pf.rH m l
def Pf.rH(m:Int):List Pf->Bool
 |[]=>true|p::l=>p.acN m&&Pf.rH m l
end
end Go.dF
namespace Go.dF
open Go
section
variable{G G':List Ty} {ψ:Tm->Int->Tm}
def PJ(k:Int)(i:Nat):Nat:=if k=6 then 1 else if k=11\/k=15\/k=16\/k=17 then i else 0
mutual
def Pf.A8(ψ:Tm->Int->Tm)(η:Nat->Nat->Int->Pf):Nat->Nat->Pf->Pf
 |d,h,.mk k i s ts fs l=>if k=1 then η d h i else .mk k i s (ts.map λt=>ψ t d) (fs.map λf=>f.A8 ψ ((d+mot k:Nat):Int)) (Pf.ZZ ψ η k 0 d h l)
def Pf.ZZ(ψ:Tm->Int->Tm)(η:Nat->Nat->Int->Pf)(k:Int):Nat->Nat->Nat->List Pf->List Pf
 |_,_,_,[]=>[]|i,d,h,p::l=>p.A8 ψ η (d+vrs k i) (h+PJ k i)::Pf.ZZ ψ η k (i+1) d h l
end
def Pf.Ws(P:Pf):Prop:=P.ok=true/\P.small=true
def Pt:rh 3:=.inl rfl
def HW:rh 4:=.inr (.inl rfl)
def A7.Ik{k:Int}{c a b:Fm}(h:A7 c (.mk k .z [] [a,b])):∃d e,c=.mk k .z [] [d,e]/\A7 d a/\A7 e b:=by
 generalize hy:Fm.mk k .z [] [a,b]=y at h;cases h with
 |eq=>simp at hy
 |two f g=>simp at hy;obtain⟨rfl,rfl,rfl⟩:=hy;exact⟨_,_,rfl,f,g⟩
 |q=>simp at hy
end
def M5{g c:List Ty}{a b:Fm}(d:Hg g a)(e:Hg c b)(f:g.length<=1000000)(i:c.length<=1000000)(h:A7 a b):vB a b=0\/rh (vB a b):=by rw[Eh d e f i];exact h.A_
end Go.dF
namespace Go.dF
open Go
def Pf.Ws.parts{k i:Int}{s:Ty}{ts:List Tm}{fs:List Fm}{l:List Pf}(h:(Pf.mk k i s ts fs l).Ws):(∀t∈ts,t.err=0)/\(∀f∈fs,f.err=0)/\∀p∈l,p.Ws:=by
 obtain⟨a,b⟩:=h;rw[Pf.eo] at a;rw[Pf.AW] at b;simp only[ed,ie] at a b;refine⟨λt d=>Tm.r_ (a.1.1.2 t d) ?_,λf e=>Fm.r_ (a.1.2 f e) ?_,λp c=>⟨a.2 p c,b.2 p c⟩⟩
 ·grind[Pd]
 ·grind[Pj]
def R1{g:List Ty}{s:Ty}{F f:Fm}{t:Tm}{m:Nat}(hF:eY (g++[s]) F)(b:cQ g t s)(c:Hg g f)(hg:g.length<=1000000)(d:A7 (Fm.e_ 0 F t) f):(∃e,rh e/\Be (.inl (f,m)) F t=.inr e)\/Be (.inl (f,m)) F t=.inl (f,m):=by
 unfold Be;rw[dT];rcases mo F t with a|⟨hn,a⟩
 ·rw[a];exact .inl ⟨4,HW,rfl⟩
 ·rw[a,eX rfl];rcases M5 (rK hF b hn) c hg hg d with e|e
  ·grind[eX]
  ·rw[gj (by rcases e with e|e|e<;>rw[e]<;>decide)];exact .inl ⟨_,e,rfl⟩
def Sd{L:List Fm}{g:List Ty}{hs:List Fm}(a:zO L ⟨g,hs⟩){i:Nat}{f:Fm}(h:hs.reverse[i]?=some f):(Pf.mk 1 (i:Int) .z [] [] []).inf L g hs=.inl (f,0):=by
 have hi:i<hs.length:=by simpa using(jL.1 h).1
 rw[List.getElem?_reverse hi] at h;have b:Hg g f:=a.acO f (zT h);rw[Pf.iT,QN,jd cw,show((i:Nat):Int).toNat=i from rfl,OG,h];show zc (.inl (f,0))=_;rw[Hr b.err]
 split<;>rfl
end Go.dF
namespace Go.dF
open Go
section
variable{L:List Fm} {g:List Ty} {hs:List Fm}
def Mm(r:PR)(f:Fm):Prop:=(∃e,rh e/\r=.inr e)\/∃a b,r=.inl (a,b)/\A7 a f
def Tk(L:List Fm)(g:List Ty)(hs:List Fm)(P:Pf)(f:Fm):Prop:=zO L ⟨g,hs⟩->P.Ws->(∃e,rh e/\P.inf L g hs=.inr e)\/∃a b,P.inf L g hs=.inl (a,b)/\A7 a f/\Hg g a
def Mm.yX{e:Int}{f:Fm}(h:rh e):Mm (zc (.inr e)) f:=.inl ⟨e,h,rfl⟩
def Mm.ef{a f:Fm}{m:Nat}(h:A7 a f):Mm (zc (.inl (a,m))) f:=by
 by_cases he:a.err=0
 ·rw[Hr he];exact .inr ⟨_,_,rfl,h⟩
 ·rw[MZ he];exact .inl ⟨4,HW,rfl⟩
def Tk.of{P:Pf}{f:Fm}(h:zO L ⟨g,hs⟩->P.Ws->Mm (P.inf L g hs) f):Tk L g hs P f:=λa hw=>by
 rcases h a hw with h|⟨b,c,d,e⟩
 ·exact .inl h
 ·exact .inr ⟨b,c,d,e,(Dv.of (P.w hw.1 hw.2) g hs b c a d).2⟩
def QM{e:Int}(h:rh e):e≠0:=by rcases h with h|h|h<;>rw[h]<;>decide
def QH{g:List Ty}{s:Ty}{F f:Fm}{t:Tm}{m:Nat}(hF:eY (g++[s]) F)(a:cQ g t s)(b:Hg g f)(hg:g.length<=1000000)(c:A7 (Fm.e_ 0 F t) f):(∃e,rh e/\Be (.inl (f,m)) F t=.inr e)\/Be (.inl (f,m)) F t=.inl (f,m):=R1 hF a b hg c
def Tk.hyp{i:Nat}{a f:Fm}(h:hs.reverse[i]?=some a)(b:A7 a f):Tk L g hs (.mk 1 (i:Int) .z [] [] []) f:=
 .of λc _=>.inr ⟨a,0,Sd c h,b⟩
def Tk.Mh{a b:Pf}{x y:Fm}(f:Tk L g hs a x)(h:Tk L g hs b y):Tk L g hs (.mk 3 0 .z [] [] [a,b]) (.mk 2 .z [] [x,y]):=.of λd hw=>by
 obtain⟨_,_,wp⟩:=hw.parts;rw[Pf.iT,L9];rcases f d (wp _ th)with⟨e,he,q⟩|⟨k,l,q,i,t1⟩
 ·rw[q];exact .yX he
 rcases h d (wp _ th)with⟨e,he,c⟩|⟨m,n',c,j,t2⟩
 ·rw[q,c];exact .yX he
 rw[q,c];exact .ef (.two i j)
def Tk.abg{a:Pf}{x y:Fm}(c:Tk L g hs a (.mk 2 .z [] [x,y])):Tk L g hs (.mk 4 0 .z [] [] [a]) x:=.of λd hw=>by
 obtain⟨_,_,wp⟩:=hw.parts;rw[Pf.iT,MH];rcases c d (wp _ th)with⟨e,he,q⟩|⟨f,h,q,b,t1⟩
 ·rw[q];exact .yX he
 obtain⟨i,j,rfl,b,k⟩:=b.Ik;rw[q,LQ (Fm.cx 2 .z [] _),dT];exact .ef b
def Tk.aaB{a:Pf}{x y:Fm}(c:Tk L g hs a (.mk 2 .z [] [x,y])):Tk L g hs (.mk 5 0 .z [] [] [a]) y:=.of λd hw=>by
 obtain⟨_,_,wp⟩:=hw.parts;rw[Pf.iT,L1];rcases c d (wp _ th)with⟨e,he,q⟩|⟨h,i,q,b,t1⟩
 ·rw[q];exact .yX he
 obtain⟨j,k,rfl,b,f⟩:=b.Ik;rw[q,LQ (Fm.cx 2 .z [] _),dT];exact .ef f
def Tk.Ko{F:Fm}{a:Pf}{y:Fm}(hF:eY g F)(f:Tk L g (hs++[F]) a y):Tk L g hs (.mk 6 0 .z [] [F] [a]) (.mk 3 .z [] [F,y]):=.of λc hw=>by
 obtain⟨_,wf,wp⟩:=hw.parts;have b:Hg g F:=⟨wf _ th,hF⟩;have:=b.acJ;have h:g.length<=16:=c.nv;rw[Pf.iT,KS,eX (rX b.ty c.ctx cw)]
 by_cases d:16<hs.length+1
 ·rw[iy d];exact .yX Pt
 rw[jd d];rcases f (c.with b (by show hs.length+1<=16;omega)) (wp _ th)with⟨e,he,q⟩|⟨j,k,q,i,t1⟩
 ·rw[q];exact .yX he
 rw[q,dT];exact .ef (.two (.refl hF) i)
def Tk.JJ{a b:Pf}{x y:Fm}(j:Tk L g hs a (.mk 3 .z [] [x,y]))(l:Tk L g hs b x):Tk L g hs (.mk 7 0 .z [] [] [a,b]) y:=.of λc hw=>by
 obtain⟨_,_,wp⟩:=hw.parts;have m:g.length<=16:=c.nv;rw[Pf.iT,Mj];rcases j c (wp _ th)with⟨e,he,q⟩|⟨t,n,q,d,t1⟩
 ·rw[q];exact .yX he
 obtain⟨i,o,rfl,d,p⟩:=d.Ik;rw[q,LQ (Fm.cx 3 .z [] _),dT];rcases l c (wp _ th)with⟨e,he,f⟩|⟨r,n',f,c3,t2⟩
 ·rw[f];exact .yX he
 rw[f,dT]
 have h:Hg g i:=by
  obtain⟨u,v,e,s,w⟩:=t1.ty.E1 (k:=3) (Fm.cx _ _ _ _) (.inr rfl);simp at e;obtain⟨rfl,rfl⟩:=e;exact t1.sub th s
 show Mm (zc (jc (vB i r) (.inl (o,n|||n')))) y;rcases M5 h t2 cw cw (d.trans c3.symm)with e|e
 ·rw[eX e];exact .ef p
 ·rw[gj (QM e)];exact .yX e
def Tk.allI{s:Ty}{a:Pf}{f:Fm}(b:s.err=0)(d:Tk L (g++[s]) (hs.map (Fm.up 0 1)) a f):Tk L g hs (.mk 8 0 s [] [] [a]) (.mk 4 s [] [f]):=.of λh hw=>by
 obtain⟨_,_,wp⟩:=hw.parts;rw[Pf.iT]
 by_cases c:16<g.length+1
 ·rw[EB,iy c];exact .yX Pt
 rcases d (h.BG b cw) (wp _ th)with⟨e,he,q⟩|⟨j,k,q,i,t1⟩
 ·rw[EB,jd c,q];exact .yX he
 rw[EB,jd c,q,dT];exact .ef (.q i)
def Tk.exI{t:Tm}{s:Ty}{a:Pf}{x:Fm}(f:cQ g t s)(hF:eY g (.mk 5 s [] [x]))(h:eY (g++[s]) x)(i:Tk L g hs a (Fm.e_ 0 x t)):Tk L g hs (.mk 10 0 .z [t] [.mk 5 s [] [x]] [a]) (.mk 5 s [] [x]):=.of λc hw=>by
 obtain⟨wt,wf,wp⟩:=hw.parts;have j:g.length<=16:=c.nv;have d:t.err=0:=wt _ th;obtain⟨p,k⟩:=pk d;have b:Hg g (.mk 5 s [] [x]):=⟨wf _ th,hF⟩;have:=b.acJ;rw[Pf.iT,Mz,eX (rX b.ty c.ctx cw),jd th,Cv f c.ctx cw,eX rfl,jd (by show¬s.iY s=false;rw[L'];decide)];rcases i c (wp _ th)with⟨e,he,q⟩|⟨l,n,q,o,t1⟩
 ·rw[q];exact .yX he
 rw[q];show Mm (zc (pbind (Be (.inl (l,n)) x t) λ_ m=>.inl (.mk 5 s [] [x],m|||pQ t))) _;rcases QH h f t1 cw o.symm with⟨e,he,q2⟩|q2
 ·rw[q2];exact .yX he
 ·rw[q2,dT];exact .ef (.refl hF)
end
end Go.dF
namespace Go.dF
open Go
def J6:∀(t:Tm) (n:Int),t.ok=true->0<=n->Tm.e_ n (t.up (n+1) 1) v0=t:=by
 intro t
 induction t using Tm.ind with
 |h k i s l j=>
  intro n b hn;have hi:=Tm.jg b;rw[Tm.fx,Tm.fB]
  by_cases a:k=1
  ·subst a;obtain⟨rfl,rfl⟩:=Tm.Ls b;rw[bX rfl]
   by_cases c:n+1<=i
   ·have e:(if(1:Int)=1/\n+1<=i then i+1 else i)=i+1:=bX ⟨rfl,c⟩;rw[e];unfold Tm.mW;rw[bV cw,bX cw,show i+1-1=i by omega]
   ·have e:(if(1:Int)=1/\n+1<=i then i+1 else i)=i:=bV (λh=>c h.2);rw[e];unfold Tm.mW
    by_cases d:i=n
    ·rw[bX d];unfold v0;rw[Tm.fx]
     have m:(if(1:Int)=1/\(0:Int)<=0 then 0+n else 0)=i:=by rw[bX ⟨rfl,cw⟩];omega
     rw[m];rfl
    ·rw[bV d,bV cw];rfl
  ·rw[bV a,bV (λh=>a h.1)];have o:=gi k
   congr 1
   rw[CW];refine qg (g:=id) (λx f=>?_)|>.trans th;show Tm.e_ (n+dD k) (x.up (n+1+dD k) 1) v0=x;rw[show n+1+dD k=n+dD k+1 by omega];exact j x f (n+dD k) (hi.2.2.2.1 x f) cw
end Go.dF
set_option maxRecDepth 20000
namespace Go.dF
open Go
def vp(x y:Fm):Fm:=.mk 3 .z [] [x,y]
def rb(i:Int):Pf:=.mk 1 i .z [] [] []
def Uy(F:Fm)(p:Pf):Pf:=.mk 6 0 .z [] [F] [p]
def T'(p q:Pf):Pf:=.mk 7 0 .z [] [] [p,q]
inductive KO:List Ty->Fm->Prop
 |eq {g a b}:cQ g a .nat->cQ g b .nat->KO g (.mk 1 .z [a,b] [])|two {g k a b}:k=2\/k=3->KO g a->KO g b->KO g (.mk k .z [] [a,b])|q {g k s a}:k=4\/k=5->s.err=0->KO (g++[s]) a->KO g (.mk k s [] [a])
def KO.ty{g:List Ty}{f:Fm}(h:KO g f):eY g f:=by
 induction h with
 |eq d e=>exact .eq d e|two c _ _ a b=>exact .two c a b|q c hs _ i=>exact .q cw hs i
mutual
def zN(a:Fm):Fm->Nat->Fm
 |.mk k s ts l,n=>if k=1 then vp (vp (.mk k s ts l) (a.up 0 n)) (a.up 0 n)else if k=5 then vp (.mk 4 s [] [vp ((L0 a l (n+1)).getD 0 eG) (a.up 0 ((n+1:Nat):Int))]) (a.up 0 n)
  else if k=4 then .mk 4 s [] (L0 a l (n+1))else .mk k .z [] (L0 a l n)
def L0(a:Fm):List Fm->Nat->List Fm
 |[],_=>[]|x::l,n=>zN a x n::L0 a l n
end
def Fj(a:Fm)(s:Ty)(ts:List Tm)(l:List Fm)(n:Nat):zN a (.mk 1 s ts l) n=vp (vp (.mk 1 s ts l) (a.up 0 n)) (a.up 0 n):=by rw[zN,bX rfl]
def Ap{a:Fm}{k:Int}(b:k=2\/k=3)(x y:Fm)(n:Nat):zN a (.mk k .z [] [x,y]) n=.mk k .z [] [zN a x n,zN a y n]:=by
 rw[zN,bV cw,bV cw,bV cw];simp[L0]
def Nt(a:Fm)(s:Ty)(x:Fm)(n:Nat):zN a (.mk 4 s [] [x]) n=.mk 4 s [] [zN a x (n+1)]:=by
 rw[zN,bV gw,bV gw,bX rfl];simp[L0]
def Mw(a:Fm)(s:Ty)(x:Fm)(n:Nat):zN a (.mk 5 s [] [x]) n=vp (.mk 4 s [] [vp (zN a x (n+1)) (a.up 0 ((n+1:Nat):Int))]) (a.up 0 n):=by
 rw[zN,bV gw,bX rfl];simp[L0]
section
variable{a:Fm} {g:List Ty}
def EN{g:List Ty}{x y:Fm}(a:eY g x)(hy:eY g y):eY g (vp x y):=.two (.inr rfl) a hy
def IL(b:eY g a)(e:List Ty):eY (g++e) (a.up 0 e.length):=b.lift e
def Rw(d:eY g a){g0:List Ty}{f:Fm}(h:KO g0 f):∀e,g0=g++e->eY g0 (zN a f e.length):=by
 induction h with
 |eq b c=>
  rintro e rfl;rw[Fj];exact EN (EN (.eq b c) (IL d e)) (IL d e)
 |two i _ _ j l=>
  rintro e rfl;rw[Ap i];exact .two i (j e rfl) (l e rfl)
 |@q g0 k s x i hs _ m=>
  rintro e rfl;have b:=m (e++[s]) th;have c:=IL d (e++[s]);rw[nd] at b c;rw[<-mI] at c;rcases i with rfl|rfl
  ·rw[Nt];exact .q (.inl rfl) hs b
  ·rw[Mw];exact EN (.q (.inl rfl) hs (EN b c)) (IL d e)
def TB{g:List Ty}{f:Fm}(h:eY g f):∀n:Int,0<=n->Fm.e_ n (f.up (n+1) 1) v0=f:=by
 induction h with
 |eq e i=>
  intro n hn;rw[Fm.fx,Fm.fB];simp[J6 _ n e.ok hn,J6 _ n i.ok hn]
 |@two g k x y a _ _ b c=>
  intro n hn
  have d:qB k=0:=by rcases a with rfl|rfl<;>rfl
  rw[Fm.fx,Fm.fB,d];simp[b n hn,c n hn]
 |@q g k s x a _ _ j=>
  intro n hn
  have d:qB k=1:=by rcases a with rfl|rfl|rfl|rfl<;>rfl
  rw[Fm.fx,Fm.fB,d];simp[j (n+1) cw]
section
variable{L:List Fm} {g:List Ty} {hs:List Fm} {F G K:Fm}
def Tk.aaU(hF:eY g F):Tk L g (hs++[F]) (rb 0) F:=Tk.hyp (i:=0) th (.refl hF)
end
end
end Go.dF
set_option maxRecDepth 20000
namespace Go.dF
open Go
end Go.dF
namespace Go.dF
open Go
def V2{L:List Fm}{q:Sq}{P:Pf}(h:zO L q)(a:P.wt<=1000000000)(he:P.err≠0):j_ L q P=some (⟨eG,[]⟩,P.err):=by
 have e:KQ L q P=.inr P.err:=by unfold KQ;rw[eX h.zero,gj he]
 rcases zo h.b a with⟨d,_,q1,_,c⟩|⟨f,m,l,q1,_⟩
 ·rw[e] at q1;rw[c,Sum.inr.inj q1]
 ·rw[e] at q1;cases q1
def ZS{L:List Fm}{q:Sq}{P:Pf}(h:zO L q)(a:P.wt<=1000000000)(he:P.err=0){e:Int}(hi:P.inf L q.acL q.acO=.inr e):j_ L q P=some (⟨eG,[]⟩,e):=by
 rcases zo h.b a with⟨d,_,q1,_,c⟩|⟨f,m,l,q1,_⟩
 ·rw[DH h he,hi] at q1;rw[c,Sum.inr.inj q1]
 ·rw[DH h he,hi] at q1;cases q1
def V4{L:List Fm}{q:Sq}{P:Pf}(h:zO L q)(c:P.wt<=1000000000)(he:P.err=0){f:Fm}{m:Nat}(hi:P.inf L q.acL q.acO=.inl (f,m)):∃l,j_ L q P=some (⟨f,l⟩,0)/\Us l m/\Hg q.acL f:=by
 rcases zo h.b c with⟨e,_,q1,_,a⟩|⟨g,i,l,q1,_,a,hu,d,_⟩
 ·rw[DH h he,hi] at q1;cases q1
 ·rw[DH h he,hi] at q1;obtain⟨rfl,rfl⟩:=fH (vo q1);exact⟨l,a,hu,d⟩
def Fm.Sc{f:Fm}(h:f.ok=true):f.err=0\/f.err=4:=by
 unfold Fm.err;rw[bX h]
 split
 ·exact .inr rfl
 ·exact .inl rfl
def Tk.acc{L:List Fm}{q:Sq}(c:zO L q){P:Pf}(hw:P.wt<=1000000000)(n:P.ok=true){b:Fm}(i:eY q.acL b)(d:b.wt<=1000000000)(h:Tk L q.acL q.acO P b):∃e,lp L q P b=some e/\(e=0\/rh e):=by
 have no:∀e,rh e->j_ L q P=some (⟨eG,[]⟩,e)->∃e,lp L q P b=some e/\(e=0\/rh e):=by
  intro e he p;refine⟨e,?_,.inr he⟩;unfold lp;rw[p,bW,bX (by rw[cg];exact QM he)]
 by_cases he:P.err=0
 ·obtain⟨_,r,_⟩:=hB he;rcases h c ⟨n,r⟩with⟨e,j,k⟩|⟨o,z,j,k,A⟩
  ·exact no e j (ZS c hw he k)
  ·obtain⟨l,s,_,g1⟩:=V4 c hw he j;have f:=c.nv;have u:=g1.wt;unfold lp;rw[s,bW,bV nz,pT d cw (λt v=>by have:=df (c.ctx t v);omega),bT];rcases Fm.Sc i.ok with hbe|hbe
   ·have g:Hg q.acL b:=⟨hbe,i⟩
    have w:Cq b q.acL=0:=by
     unfold Cq;rw[yb c.ctx f,bV gw,bV (λh=>h hbe)];exact rX i c.ctx (by have:=g.acJ;omega)
    rw[w,bV nz];show∃e,(bU (ki o b) λm=>some m)=some e/\_;rw[(IS (a:=o) (b:=b) cw d).2,Eh g1 g cw cw];exact⟨_,rfl,k.A_⟩
   ·have x:Cq b q.acL=4:=by
     unfold Cq;rw[yb c.ctx f,bV gw,bX (by rw[hbe];decide),hbe]
    rw[x,bX gw];exact⟨4,rfl,.inr HW⟩
 ·have y:P.err=4:=by
   unfold Pf.err at he|-;rw[bX n] at he|-
   split
   ·rename_i h;rw[bX h] at he;exact absurd rfl he
   ·rfl
  exact no 4 HW (by rw[<-y];exact V2 c hw he)
end Go.dF
set_option maxRecDepth 20000
namespace Go.dF
open Go
inductive Cj where
 |eq (a b:Tm)|and (x y:Cj)
def Cj.fm:Cj->Fm
 |.eq a b=>.mk 1 .z [a,b] []|.and x y=>.mk 2 .z [] [x.fm,y.fm]
def Cj.Ty(g:List Ty):Cj->Prop
 |.eq a b=>cQ g a .nat/\cQ g b .nat|.and x y=>x.Ty g/\y.Ty g
def Cj.pu{g:List dF.Ty}:∀{c:Cj},c.Ty g->KO g c.fm
 |.eq a b,h=>.eq h.1 h.2|.and x y,h=>.two (.inl rfl) (Cj.pu h.1) (Cj.pu h.2)
def yT:Cj->(Nat->Pf)->Nat->((Nat->Pf)->Nat->Pf)->Pf
 |.eq a b,p,h,c=>T' (p h) (Uy (.mk 1 .z [a,b] []) (c (λm=>rb ((m:Int)-1-h)) (h+1)))|.and x y,p,h,c=>yT x (λm=>.mk 4 0 .z [] [] [p m]) h λq e=>yT y (λm=>.mk 5 0 .z [] [] [p m]) e λr d=>c (λm=>.mk 3 0 .z [] [] [q m,r m]) d
section
variable{L:List Fm} {g:List Ty}
def Tk.X9{hs ext:List Fm}{F:Fm}(hF:eY g F){i:Int}(hi:i=ext.length):Tk L g (hs++[F]++ext) (rb i) F:=by
 subst hi;refine Tk.hyp (i:=ext.length) ?_ (.refl hF);rw[mI,ZW,ZW,mI,n7 th];simp
def EC{a:Fm}{n:Nat}{A:Fm}(o:A=a.up 0 n)(f:eY g A):∀(c:Cj),c.Ty g->∀(p:Nat->Pf) (h:Nat) (k:(Nat->Pf)->Nat->Pf) (hs:List Fm),(∀ext:List Fm,Tk L g (hs++ext) (p (h+ext.length)) (zN a c.fm n))->(∀(q:Nat->Pf) (b:List Fm),(∀ext:List Fm,Tk L g (hs++b++ext) (q (h+b.length+ext.length)) c.fm)->Tk L g (hs++b) (k q (h+b.length)) A)->Tk L g hs (yT c p h k) A
 |.eq x y,i,p,h,k,hs,d,l=>by
  have s:eY g (.mk 1 .z [x,y] []):=.eq i.1 i.2;have j:=d [];rw[wB,uo,AK,show(Cj.eq x y).fm=.mk 1 .z [x,y] [] from rfl,Fj,<-o] at j;refine .JJ j (.Ko s (l _ [.mk 1 .z [x,y] []] λext=>?_));exact Tk.X9 s (by simp only[VC];omega)
 |.and x y,i,p,h,k,hs,d,l=>by
  have e:(Cj.and x y).fm=.mk 2 .z [] [x.fm,y.fm]:=rfl;rw[e] at d l;rw[Ap (.inl rfl)] at d;refine EC o f x i.1 _ h _ hs (λext=>.abg (d ext)) λq b w=>?_;refine EC o f y i.2 _ (h+b.length) _ (hs++b) (λext=>?_) λr t B=>?_
  ·have:=d (b++ext);rw[nd,<-mI,<-GC] at this;exact .aaB this
  ·have u:=l (λm=>.mk 3 0 .z [] [] [q m,r m]) (b++t) λext=>?_
   ·rw[nd,<-mI,<-GC] at u;exact u
   ·rw[nd,<-mI,<-GC];have v:=w (t++ext);rw[nd,<-mI,<-GC] at v;exact .Mh v (B ext)
def LY(f:Fm)(s:Ty)(c:Cj)(p:Pf):Pf:=
 T' p (.mk 8 0 s [] [] [Uy (zN (f.up 0 1) c.fm 0) (yT c (λm=>rb ((m:Int)-1)) 1 λb h=>.mk 10 0 .z [v0] [f.up 0 1] [b h])])
def KX{a:Fm}:∀(c:Cj),zN (a.up 0 1) c.fm 0=zN a c.fm 1
 |.eq x y=>by
  rw[show(Cj.eq x y).fm=.mk 1 .z [x,y] [] from rfl,Fj,Fj,Fm.HK _ cw];rfl
 |.and x y=>by
  rw[show(Cj.and x y).fm=.mk 2 .z [] [x.fm,y.fm] from rfl,Ap (.inl rfl),Ap (.inl rfl),KX x,KX y]
def Tg{s:Ty}{c:Cj}(b:s.err=0)(d:c.Ty (g++[s])){hs:List Fm}{p:Pf}(e:Tk L g hs p (zN (.mk 5 s [] [c.fm]) (.mk 5 s [] [c.fm]) 0))(m:(Fm.mk 5 s [] [c.fm]).up 0 0=.mk 5 s [] [c.fm]):Tk L g hs (LY (.mk 5 s [] [c.fm]) s c p) (.mk 5 s [] [c.fm]):=by
 have f:eY (g++[s]) c.fm:=(Cj.pu d).ty;have i:eY g (.mk 5 s [] [c.fm]):=.q cw b f;rw[Mw] at e;rw[show((0:Nat):Int)=0 from rfl,m,show((0+1:Nat):Int)=1 from rfl] at e
 have h:eY (g++[s]) ((Fm.mk 5 s [] [c.fm]).up 0 1):=by have:=i.lift [s];exact this
 have o:(Fm.mk 5 s [] [c.fm]).up 0 1=.mk 5 s [] [c.fm.up 1 1]:=by rw[Fm.fx,show qB 5=1 from rfl];rfl
 have j:eY (g++[s]) (zN (.mk 5 s [] [c.fm]) c.fm 1):=by
  have:=Rw i (Cj.pu d) [s] rfl;exact this
 unfold LY;refine .JJ e (.allI b ?_);rw[KX];refine .Ko j (EC (a:=.mk 5 s [] [c.fm]) (n:=1) rfl h c d _ 1 _ _ (λext=>?_) λq r t=>?_)
 ·exact Tk.X9 j cw
 ·have k:=t [];rw[wB,uo,AK] at k;show Tk L (g++[s]) _ (.mk 10 0 .z [v0] [(Fm.mk 5 s [] [c.fm]).up 0 1] [q (1+r.length)]) ((Fm.mk 5 s [] [c.fm]).up 0 1);rw[o] at h|-
  have u:eY (g++[s]++[s]) (c.fm.up 1 1):=by
   have:=f.up g [s] [s] rfl;exact this
  refine .exI wL h u ?_;have l:=TB f 0 (RE 0);rw[show(0:Int)+1=1 from rfl] at l;rw[l];exact k
end
end Go.dF
set_option maxRecDepth 20000
namespace Go.dF
open Go
def Rp(i b:Int)(s:Bool):ke i b s=some (s&&decide (i<=536870912)):=by
 unfold ke Dh;cases s<;>simp
def N0:∀(n:Nat) (t:Tm) (b:Int) (s:Bool),t.acJ<=n->t.acJ<=10000000->t.ok=true->fD n t b (λ(s:Bool) (e:Int) (f:Int)=>ke e f s) s=some (s&&t.acN 536870912):=by
 intro n
 induction n with
 |zero=>intro t b s h;have:=t.cu;omega
 |succ n w=>
  intro t b s hn x d;cases t with
  |mk k i ty l=>
   rw[Tm.bY] at hn x;have y:=eB Tm.acJ l λt _=>t.cu;rw[Tm.eo] at d;simp only[ed,ie] at d
   have loop:∀(us:List Tm) (g:Int) (j:Nat) (v:Bool),(∀t∈us,t∈l)->cY (λ(z:Int) (m:Tm)=>(λ(v28:Bool)=>
      bU (fD n m g (λ(s:Bool) (e:Int) (f:Int)=>ke e f s) v28) λo=>
      some ((.next o):dJ Bool Bool))) us j v=some (.inl (v&&us.all (Tm.acN 536870912))):=by
    intro us g
    induction us with
    |nil=>intro j v _;simp|cons t us p=>
     intro j v hm;have c:=hm t th;have A:=cy Tm.acJ c;rw[cM,w t g v cw cw (d.2 t c)];simp only[bT,cS];rw[p (j+1) _ (λu hu=>hm u (by simp[hu])),we,Mp]
   rw[fD,Tm.dn];have hinv:=Tm.jg (k:=k) (i:=i) (s:=ty) (l:=l) (by rw[Tm.eo];simp only[ed,ie];exact d);simp only[Tm.ck,Tm.cx,Tm.dK,cc,ch (l:=l) cw,b6,bT];have a:=loop l (dq (cr k 2) (da .i64 b 1) b) 0
   by_cases q:k=1
   ·have r:cr k 1=true:=by rw[q];rfl
    simp only[r,if_true];rw[Rp];simp only[bT];rw[a _ (λt h=>h)];simp[Mp]
   ·have r:cr k 1=false:=by simpa[cr] using q
    have hi:=hinv.2.2.1 q;simp only[r,hZ,fG];rw[a _ (λt h=>h)];simp[hi]
def SN{t:Tm}(a:t.ok=true)(hn:t.acJ<=10000000):py t=some (t.acN 536870912):=by
 unfold py og;rw[N0 FU t 0 true (by rw[cV];omega) hn a];simp
def Gd:∀(n:Nat) (f:Fm) (b:Int) (s:Bool),f.acJ<=n->f.acJ<=10000000->f.ok=true->gA n f b (λ(s:Bool) (i:Tm) (m:Int)=>gy i m s) s=some (s&&f.acN 536870912):=by
 intro n
 induction n with
 |zero=>intro f b s h;have:=f.cu;omega
 |succ n C=>
  intro f b s hn D E;cases f with
  |mk k ty ts l=>
   rw[Fm.bY] at hn D;have F:=eB Tm.acJ ts λt _=>t.cu;have G:=eB Fm.acJ l λt _=>t.cu;obtain⟨_,o,p⟩:=Fm.mz E
   have one:∀t∈ts,∀(e:Int) (v:Bool),gy t e v=some (v&&t.acN 536870912):=by
    intro t A e v;have q:=cy Tm.acJ A;unfold gy;cases v with
    |true=>simp[SN (o t A) cw]|false=>simp
   have c:∀(us:List Tm) (j:Nat) (v:Bool),(∀t∈us,t∈ts)->cY (λ(H:Int) (r:Tm)=>(λ(w:Bool)=>
      bU (gy r b w) λx=>
      some ((.next x):dJ Bool Bool))) us j v=some (.inl (v&&us.all (Tm.acN 536870912))):=by
    intro us
    induction us with
    |nil=>intro j v _;simp|cons t us d=>
     intro j v hm;rw[cM,one t (hm t th)];simp only[bT,cS];rw[d (j+1) _ (λu hu=>hm u (by simp[hu])),we,Mp]
   have a:∀(e:Int) (us:List Fm) (j:Nat) (v:Bool),(∀t∈us,t∈l)->cY (λ(I:Int) (y:Fm)=>(λ(v72:Bool)=>
      bU (gA n y e (λ(s:Bool) (i:Tm) (m:Int)=>gy i m s) v72) λz=>
      some ((.next z):dJ Bool Bool))) us j v=some (.inl (v&&us.all (Fm.acN 536870912))):=by
    intro e us
    induction us with
    |nil=>intro j v _;simp|cons t us d=>
     intro j v hm;have g:=hm t th;have q:=cy Fm.acJ g;rw[cM,C t e v cw cw (p t g)];simp only[bT,cS];rw[d (j+1) _ (λu hu=>hm u (by simp[hu])),we,Mp]
   rw[gA,Fm.dn];simp only[Fm.ck,Fm.cx,Fm.eI,cc];rw[ch cw,b6,c ts 0 s (λt h=>h)];simp only[bT,b9];rw[jh,bT]
   by_cases B:gL k=true
   ·rw[bX B,ch cw,b6,a _ l 0 _ (λt h=>h)];simp[Mp]
   ·rw[bV B,ch cw,b6,a _ l 0 _ (λt h=>h)];simp[Mp]
def QG{f:Fm}(a:f.ok=true)(hn:f.acJ<=10000000):lU f=some (f.acN 536870912):=by
 unfold lU;rw[Gd FU f 0 true (by rw[cV];omega) hn a];simp
def zzUp{M b:Int}(d:0<=b)(t:Tm):∀f,t.acN M=true->(t.up f b).acN (M+b)=true:=xc d t
def Fm.xc{M b:Int}(d:0<=b)(t:Fm):∀f,t.acN M=true->(t.up f b).acN (M+b)=true:=by
 induction t using Fm.ind with
 |h k s ts l e=>
  intro f h;rw[Fm.dn] at h;simp only[ed,ie] at h;rw[Fm.fx,Fm.dn];simp only[ed,ie,kI,forall_exists_index,and_imp];refine⟨?_,?_⟩
  ·rintro _ x a rfl;exact zzUp d x f (h.1 x a)
  ·rintro _ x a rfl;exact e x a _ (h.2 x a)
def IV:∀n,jF n=jm n:=by
 intro n
 induction n with
 |zero=>funext a;rfl|succ n b=>funext a;rw[jF,jm,b]
structure Q6 (a:Fm):Prop where
 ok:a.ok=true
 acJ:a.acJ<=4096
 acN:a.acN 536870912=true
def Q6.up{a:Fm}(h:Q6 a){k:Nat}:(a.up 0 k).ok=true/\(a.up 0 k).acJ=a.acJ/\(a.up 0 k).acN (536870912+k)=true:=⟨by rw[Fm.EZ _ _ _ cw cw];exact h.ok,Fm.nN _ _ _,Fm.xc cw a 0 h.acN⟩
def zi{a:Fm}(h:Q6 a):∀(k:Nat),k<=10000000->mi k a=some (a.up 0 k)
 |0,_=>by rw[mi];exact congrArg some (Fm.q_ a).symm|k+1,d=>by
  obtain⟨b,e,c⟩:=h.up (k:=k);rw[mi,zi h k cw];simp only[bT];rw[jU b (by have:=h.acJ;omega) (Fm.iB _ cw c) cw cw cw cw,Fm.HK a cw];rfl
def OS{a:Fm}(h:Q6 a){k:Nat}(c:k<=10000000):sS (a.up 0 k)=some (a.up 0 ((k+1:Nat):Int)):=by
 obtain⟨d,e,b⟩:=h.up (k:=k);have:=h.acJ;unfold sS;rw[w9 FU (a.up 0 k) 0 1 (by rw[cV];omega) cw cw cw cw cw (Fm.iB _ cw b),Fm.HK a cw];rfl
mutual
def Fm.tr(c:Nat):Fm->Nat
 |.mk k _ ts l=>if k=1 then 3+cn Tm.acJ ts+2*c else if k=5 then 3+2*c+Fm.SO c l else 1+Fm.SO c l
def Fm.SO(c:Nat):List Fm->Nat
 |[]=>0|x::l=>Fm.tr c x+Fm.SO c l
end
def Fm.yS(c:Nat)(k:Int)(s:Ty)(ts:List Tm)(l:List Fm):(Fm.mk k s ts l).tr c=if k=1 then 3+cn Tm.acJ ts+2*c else if k=5 then 3+2*c+Fm.SO c l else 1+Fm.SO c l:=by rw[Fm.tr]
def Fm.Du(c:Nat)(x:Fm):Fm.SO c [x]=x.tr c:=by simp[Fm.SO]
def Fm.M4(c:Nat)(x y:Fm):Fm.SO c [x,y]=x.tr c+y.tr c:=by simp[Fm.SO]
mutual
def Fm.Db:Fm->Bool
 |.mk k _ _ l=>decide (k=6\/k=7)||Fm.BJ l
def Fm.BJ:List Fm->Bool
 |[]=>false|x::l=>Fm.Db x||Fm.BJ l
end
def Fm.vC(k:Int)(s:Ty)(ts:List Tm)(l:List Fm):(Fm.mk k s ts l).Db=(decide (k=6\/k=7)||Fm.BJ l):=by rw[Fm.Db]
def ve{k:Int}{x y:Fm}(a:k=2\/k=3)(b:x.ok=true)(hy:y.ok=true):(Fm.mk k (Ty.mk 0 []) [] [x,y]).ok=true:=by
 rw[Fm.eo];rcases a with rfl|rfl<;>simp[b,hy,Fm.node,Ty.iI]
def Mu{s:Ty}{x:Fm}(hs:s.err=0)(a:x.ok=true):(Fm.mk 4 s [] [x]).ok=true:=by
 rw[Fm.eo];simp[a,hs,Fm.node,gL]
def fW{k:Int}{s:Ty}{x y:Fm}:(Fm.mk k s [] [x,y]).acJ=1+x.acJ+y.acJ:=by rw[Fm.bY];simp[cn];omega
def lN{k:Int}{s:Ty}{x:Fm}:(Fm.mk k s [] [x]).acJ=1+x.acJ:=by rw[Fm.bY];simp[cn]
def oU{x:Fm}(a:x.ok=true)(hn:x.acJ<=10000000):x.wt<=1000000000:=by have:=Fm.eO x a;omega
def vM{x y:Fm}(c:x.ok=true)(hy:y.ok=true)(a:x.acJ<=10000000)(b:y.acJ<=10000000):jr x y=some (Fm.mk 3 (Ty.mk 0 []) [] [x,y])/\pc x y=some (Fm.mk 3 (Ty.mk 0 []) [] [x,y]):=by
 refine⟨rfl,?_⟩;unfold pc;rw[sX (oU c a) (oU hy b)];rfl
def JI{s:Ty}{x:Fm}(hs:s.err=0)(b:x.ok=true)(a:x.acJ<=10000000):eW 4 s x=some (Fm.mk 4 s [] [x])/\ic 4 s x=some (Fm.mk 4 s [] [x]):=by
 refine⟨rfl,?_⟩;have:=(Ty.hB hs).2;unfold ic;rw[gx cw,nj (oU b a)];rfl
def TEq(a f:Fm):Prop:=f.Db=false->∀(k b c:Nat),k+f.acJ<=1000000->f.acJ<=b->2*f.acJ<=c->f.tr a.acJ<=10000000->∃r,fg b a f k=some r/\m5 c (a.up 0 k) f=some r/\r.ok=true/\r.acJ=f.tr a.acJ
def Yv{a:Fm}(g:Q6 a)(f:Fm)(C:f.ok=true):TEq a f:=by
 have D:=g.acJ;refine Fm.kV (p:=TEq a) ?_ ?_ ?_ f C
 ·intro x y z hy _ k c d t u v l;obtain⟨u1,u2,u3⟩:=g.up (k:=k)
  have q:(Fm.mk 1 (Ty.mk 0 []) [x,y] []).ok=true:=by rw[Fm.eo];simp[z,hy,Fm.node,Ty.iI]
  have hn:(Fm.mk 1 (Ty.mk 0 []) [x,y] []).acJ=1+cn Tm.acJ [x,y]:=by rw[Fm.bY];simp[cn]
  have b:(Fm.mk 1 (Ty.mk 0 []) [x,y] []).tr a.acJ=3+cn Tm.acJ [x,y]+2*a.acJ:=by rw[Fm.yS];simp
  rw[b] at l;obtain⟨c,rfl⟩:∃m,c=m+1:=⟨c-1,cw⟩;obtain⟨d,rfl⟩:∃m,d=m+1:=⟨d-1,cw⟩;obtain⟨i1,i2⟩:=vM q u1 cw cw;have o1:=ve (.inr rfl) q u1
  have n1:(Fm.mk 3 (Ty.mk 0 []) [] [Fm.mk 1 (Ty.mk 0 []) [x,y] [],a.up 0 k]).acJ=2+cn Tm.acJ [x,y]+a.acJ:=by rw[fW,hn,u2];omega
  obtain⟨i3,i4⟩:=vM o1 u1 cw cw;refine⟨_,?_,?_,ve (.inr rfl) o1 u1,?_⟩
  ·rw[fg];simp only[Fm.cx,dX,if_true];rw[zi g k cw];simp only[bT];rw[i1];simp only[bT];rw[i3];rfl
  ·rw[m5];simp only[Fm.cx,dX,if_true];rw[i2];simp only[bT];rw[i4];rfl
  ·rw[fW,n1,u2,b];omega
 ·intro n x y o z hy w E hu k c d t u v l
  have e:x.Db=false/\y.Db=false:=by
   rw[Fm.vC] at hu;simpa[Fm.BJ] using(Ma.1 hu).2
  have b:(Fm.mk n (Ty.mk 0 []) [] [x,y]).tr a.acJ=1+(x.tr a.acJ+y.tr a.acJ):=by
   rw[Fm.yS,Fm.M4];rcases o with rfl|rfl<;>simp
  rw[b] at l;rw[fW] at t u v;have:=x.cu;have:=y.cu;obtain⟨c,rfl⟩:∃m,c=m+1:=⟨c-1,cw⟩;obtain⟨d,rfl⟩:∃m,d=m+1:=⟨d-1,cw⟩;obtain⟨F,a1,a2,a3,a4⟩:=w e.1 k c d cw cw cw cw;obtain⟨G,H,I,B,J⟩:=E e.2 k c d cw cw cw cw
  have h:dq (cr n 2) true (cr n 3)=true:=by rcases o with rfl|rfl<;>rfl
  have i:cr n 1=false:=by rcases o with rfl|rfl<;>rfl
  refine⟨Fm.mk n (Ty.mk 0 []) [] [F,G],?_,?_,ve o a3 B,?_⟩
  ·rw[fg];simp only[Fm.cx,Fm.ck,i,h,hZ,fG,if_true];simp only[cD,dQ,fM,kx,bT];rw[a1];simp only[bT];rw[H];rfl
  ·rw[m5];simp only[Fm.cx,Fm.ck,i,h,hZ,fG,if_true];simp only[cD,dQ,fM,kx,bT];rw[a2];simp only[bT];rw[I];simp only[bT];rw[sX (oU a3 cw) (oU B cw)];rfl
  ·rw[fW,a4,J,b];omega
 ·intro n s x o hs z w hu k c d t u v l;rw[Fm.vC] at hu;have j:=(Ma.1 hu).1
  have e:x.Db=false:=by simpa[Fm.BJ] using(Ma.1 hu).2
  simp only[N9] at j;rw[lN] at t u v;have:=x.cu;obtain⟨u1,u2,u3⟩:=g.up (k:=k);obtain⟨v1,v2,v3⟩:=g.up (k:=k+1);have up:=OS g (k:=k) cw;obtain⟨c,rfl⟩:∃m,c=m+1:=⟨c-1,cw⟩;obtain⟨d,rfl⟩:∃m,d=m+1+1:=⟨d-2,cw⟩;rcases o with rfl|rfl|rfl|rfl
  ·have b:(Fm.mk 4 s [] [x]).tr a.acJ=1+x.tr a.acJ:=by rw[Fm.yS,Fm.Du];simp
   rw[b] at l;obtain⟨r,a1,a2,a3,a4⟩:=w e (k+1) c (d+1) cw cw cw cw;obtain⟨q1,A⟩:=JI hs a3 cw;refine⟨_,?_,?_,Mu hs a3,?_⟩
   ·rw[fg];simp only[Fm.cx,Fm.ck,Fm.cT,show cr 4 1=false from rfl,show dq (cr 4 2) true (cr 4 3)=false from rfl,show cr 4 4=true from rfl,hZ,fG,if_true];simp only[cD,fM,bT];rw[a1];simp only[bT];rw[q1];rfl
   ·rw[m5];simp only[Fm.cx,Fm.ck,Fm.cT,show cr 4 1=false from rfl,show dq (cr 4 2) true (cr 4 3)=false from rfl,show cr 4 4=true from rfl,hZ,fG,if_true];rw[up];simp only[cD,fM,bT];rw[a2];simp only[bT];rw[A];rfl
   ·rw[lN,a4,b]
  ·have b:(Fm.mk 5 s [] [x]).tr a.acJ=3+2*a.acJ+x.tr a.acJ:=by rw[Fm.yS,Fm.Du];simp
   rw[b] at l;obtain⟨r,a1,a2,a3,a4⟩:=w e (k+1) c d cw cw cw cw;obtain⟨i1,i2⟩:=vM a3 v1 cw cw;have o1:=ve (.inr rfl) a3 v1
   have n1:(Fm.mk 3 (Ty.mk 0 []) [] [r,a.up 0 ((k+1:Nat):Int)]).acJ=1+r.acJ+a.acJ:=by rw[fW,v2]
   obtain⟨q1,A⟩:=JI hs o1 cw;have o2:=Mu hs o1
   have n2:(Fm.mk 4 s [] [Fm.mk 3 (Ty.mk 0 []) [] [r,a.up 0 ((k+1:Nat):Int)]]).acJ=2+r.acJ+a.acJ:=by rw[lN,n1];omega
   obtain⟨i3,i4⟩:=vM o2 u1 cw cw;refine⟨_,?_,?_,ve (.inr rfl) o2 u1,?_⟩
   ·rw[fg];simp only[Fm.cx,Fm.ck,Fm.cT,show cr 5 1=false from rfl,show dq (cr 5 2) true (cr 5 3)=false from rfl,show cr 5 4=false from rfl,hZ,fG,if_true];simp only[cD,fM,bT];rw[a1];simp only[bT];rw[zi g (k+1) cw];simp only[bT];rw[i1];simp only[bT];rw[q1];simp only[bT];rw[zi g k cw];simp only[bT];rw[i3];rfl
   ·rw[m5];simp only[Fm.cx,show cr 5 1=false from rfl,show dq (cr 5 2) true (cr 5 3)=false from rfl,show cr 5 4=false from rfl,hZ,fG,if_true];rw[qQ,up];simp only[Fm.ck,Fm.cT,cD,fM,bT];rw[a2];simp only[bT];rw[i2];simp only[bT];rw[A];simp only[bT];rw[i4];rfl
   ·rw[fW,n2,u2,a4,b];omega
  ·exact(j (.inl rfl)).elim
  ·exact(j (.inr rfl)).elim
def Ps{h:Tm->Int->Option Tm}{ψ:Tm->Int->Tm}(I:∀t b,t.ok=true->t.acJ<=10000000->h t b=some (ψ t b)):∀(n:Nat) (f:Fm) (b:Int),f.acJ<=n->f.acJ<=10000000->f.ok=true->0<=b->b+f.acJ<=1000000000->cL n f b (λ(s:Unit) (q:Tm) (w:Int)=>mK (h q w) s) ()=some (f.A8 ψ b,()):=by
 intro n
 induction n with
 |zero=>intro f b h;have:=f.cu;omega
 |succ n J=>
  intro f b hn K L R A;cases f with
  |mk k s ts l=>
   rw[Fm.bY] at hn K A;have M:=eB Tm.acJ ts λt _=>t.cu;have N:=eB Fm.acJ l λt _=>t.cu;obtain⟨O,B,C⟩:=Fm.mz L;rw[cL,Fm.wC];simp only[Fm.cT,Fm.ck,Fm.cx,Fm.eI,cc];rw[kj cw,bT,ch cw,b6];have P:=yP k
   have m:∀(us:List Tm) (j:Nat) (v:List Tm),(∀t∈us,t∈ts)->v.length+us.length<=50000000->cY (λ(Q:Int) (D:Tm)=>(rD λ(v91:List Tm) (E:Unit)=>
      b8 (mK (h D b) E) λi x=>
      ef (dP v91 [i])<|some ((.next ((dN v91 [i]),x)):dJ ((List Tm)×Unit) (Fm×Unit)))) us j (v,())=some (.inl (v++us.map (λt=>ψ t b),())):=by
    intro us
    induction us with
    |nil=>intro j v _ _;simp|cons t us o=>
     intro j v hm F;simp only[jK] at F;have d:=hm t th;have G:=cy Tm.acJ d;rw[cM];simp only[rD];rw[I t b (B t d) cw,w5,bW,dc aae,b6];simp only[bT,cS];rw[ei];have:=o (j+1) (v++[ψ t b]) (λu hu=>hm u (by simp[hu])) aae;rw[this];simp
   rw[m ts 0 [] (λt h=>h) aae,bT];simp only[b9,rD];rw[jh,bT]
   have p:∀(us:List Fm) (j:Nat) (v:List Fm),(∀t∈us,t∈l)->v.length+us.length<=50000000->cY (λ(y:Int) (e:Fm)=>(rD λ(a:List Fm) (v212:Unit)=>
      b8 (cL n e (b+qB k) (λ(s:Unit) (q:Tm) (w:Int)=>mK (h q w) s) v212) λc g=>
      ef (dP a [c])<|some ((.next ((dN a [c]),g)):dJ ((List Fm)×Unit) (Fm×Unit)))) us j (v,())=some (.inl (v++us.map (Fm.A8 ψ (b+qB k)),())):=by
    intro us
    induction us with
    |nil=>intro j v _ _;simp|cons t us o=>
     intro j v hm F;simp only[jK] at F;have d:=hm t th;have G:=cy Fm.acJ d;rw[cM];simp only[rD];rw[J t (b+qB k) cw cw (C t d) cw cw,bW,dc aae,b6];simp only[bT,cS];rw[ei];have:=o (j+1) (v++[t.A8 ψ (b+qB k)]) (λu hu=>hm u (by simp[hu])) aae;rw[this];simp
   have fin:(ef (c0 l)<|bU (cY (λ(y:Int) (e:Fm)=>(rD λ(a:List Fm) (v212:Unit)=>
      b8 (cL n e (b+qB k) (λ(s:Unit) (q:Tm) (w:Int)=>mK (h q w) s) v212) λc g=>
      ef (dP a [c])<|some ((.next ((dN a [c]),g)):dJ ((List Fm)×Unit) (Fm×Unit)))) l 0 ([],())) (dI (rD λ(a:List Fm) (v212:Unit)=>some ((Fm.mk k s ([]++ts.map λt=>ψ t b) a),v212)) (λr=>some r)))=some (Fm.mk k s (ts.map λt=>ψ t b) (l.map (Fm.A8 ψ (b+qB k))),()):=by
    rw[ch cw,b6,p l 0 [] (λt h=>h) aae,bT];simp
   by_cases z:gL k=true
   ·rw[bX z]
    have H:b+qB k=b+1:=by unfold qB;rw[bX z]
    rw[H] at fin|-;rw[cX cw cw];exact fin
   ·rw[bV z]
    have H:b+qB k=b:=by unfold qB;rw[bV z];omega
    rw[H] at fin|-;exact fin
def PI{f:Fm}(a:f.ok=true)(hn:f.acJ<=10000000):hH f=some f:=by
 unfold hH;rw[Ps (h:=iD) (ψ:=λt _=>t) (λt b h c=>?_) FU f 0 (by have:=cV;omega) hn a cw cw]
 ·rw[bW,Fm.RB]
 ·unfold iD;have:=Tm.eO t h;rw[xL FU t (by rw[cV];omega) cw h];rfl
def QD{c:Nat}(a:c<=1000000):y9 .i64 2 (c:Int)=((2*c:Nat):Int):=by unfold y9;rw[IntKind.wrap_i64];omega
def GP{a b c:Int}(g:0<=a)(d:a<=1000000000000)(h:0<=b)(e:b<=1000000000000)(i:0<=c)(f:c<=1000000000000):da .i64 (da .i64 a b) c=a+b+c:=by
 rw[cX (a:=a) (b:=b) cw cw,cX cw cw]
def FX(n:Nat):Int:=if n<=4097 then(n:Int)else 4097
def Px(n:Nat):O' (n:Int) 4097=FX n:=by unfold O' FX;split<;>split<;>omega
def Ac(n:Nat):0<=FX n/\FX n<=4097/\(FX n=n/\n<=4097\/FX n=4097/\4097<n):=by unfold FX;split<;>omega
def D6{n:Nat}{v:Int}(a:v<=n)(b:v=n\/4097<=v):O' v 4097=FX n:=by unfold O' FX;split<;>split<;>omega
def YE(c:Nat)(f:Fm):Prop:=f.Db=false->f.acJ<=4096->∀n,f.acJ<=n->fL n f c=some (f.tr c:Int)/\kf n f c=some (FX (f.tr c))/\f.tr c<=10000*f.acJ
def size_eq{c:Nat}(H:c<=4096)(f:Fm)(B:f.ok=true):YE c f:=by
 have h:=QD (c:=c) cw
 have e:∀{g:Fm},g.ok=true->g.acJ<=4096->g.err=0:=λ{g} C I=>by unfold Fm.err;rw[bX C,bV cw]
 refine Fm.kV (p:=YE c) ?_ ?_ ?_ f B
 ·intro x y k hy _ q n hn
  have b:(Fm.mk 1 (Ty.mk 0 []) [x,y] []).ok=true:=by rw[Fm.eo];simp[k,hy,Fm.node,Ty.iI]
  have d:(Fm.mk 1 (Ty.mk 0 []) [x,y] []).acJ=1+cn Tm.acJ [x,y]:=by rw[Fm.bY];simp[cn]
  have a:(Fm.mk 1 (Ty.mk 0 []) [x,y] []).tr c=3+cn Tm.acJ [x,y]+2*c:=by rw[Fm.yS];simp
  have hw:=Fm.eO _ b;have he:=e b q;have J:=(Fm.mk 1 (Ty.mk 0 []) [x,y] []).cu;obtain⟨n,rfl⟩:∃m,n=m+1:=⟨n-1,cw⟩;refine⟨?_,?_,by rw[a];omega⟩
  ·rw[fL,e9 cw,he];simp only[bW,if_true,Fm.cx,show cr 1 1=true from rfl];rw[h,a,d,GP cw cw cw cw cw cw];exact congrArg some cw
  ·rw[kf];simp only[cc,Fm.cx,show cr 1 1=true from rfl,if_true];rw[lI FU _ (by rw[cV];omega) cw];simp only[bT];rw[h,d,GP cw cw cw cw cw cw,a];rw[show((1+cn Tm.acJ [x,y]:Nat):Int)+((2*c:Nat):Int)+2=((3+cn Tm.acJ [x,y]+2*c:Nat):Int) by omega,Px]
 ·intro r x y o k hy t D hu q n hn;have b:=ve o k hy;rw[fW] at q hn
  have i:x.Db=false/\y.Db=false:=by
   rw[Fm.vC] at hu;simpa[Fm.BJ] using(Ma.1 hu).2
  have a:(Fm.mk r (Ty.mk 0 []) [] [x,y]).tr c=1+(x.tr c+y.tr c):=by
   rw[Fm.yS,Fm.M4];rcases o with rfl|rfl<;>simp
  have u:=x.cu;have E:=y.cu;have d:(Fm.mk r (Ty.mk 0 []) [] [x,y]).acJ=1+x.acJ+y.acJ:=fW;have hw:=Fm.eO _ b;have he:=e b cw;obtain⟨n,rfl⟩:∃m,n=m+1:=⟨n-1,cw⟩;obtain⟨a1,a2,a3⟩:=t i.1 cw n cw;obtain⟨F,G,K⟩:=D i.2 cw n cw
  have v:cr r 1=false:=by rcases o with rfl|rfl<;>rfl
  have w:cr r 5=false:=by rcases o with rfl|rfl<;>rfl
  refine⟨?_,?_,by rw[a,d];omega⟩
  ·rw[fL,e9 cw,he];simp only[bW,if_true,Fm.cx,Fm.ck,v,w,hZ,fG,cc,ch (l:=[x,y]) th,b6];simp only[cM,k9,a1,F,bT,cS,b9];rw[a,GP cw cw cw cw cw cw];exact congrArg some cw
  ·rw[kf];simp only[cc,Fm.cx,Fm.ck,v,w,hZ,fG,ch (l:=[x,y]) th,b6];simp only[cM,k9,a2,G,bT,cS,b9];rw[a];obtain⟨z,A,c3⟩:=Ac (x.tr c);obtain⟨d1,d2,d3⟩:=Ac (y.tr c);rw[GP cw cw cw cw cw cw,D6 (n:=1+(x.tr c+y.tr c)) cw cw]
 ·intro r s x o hs k t hu q n hn;rw[lN] at q hn;have u:=x.cu;rw[Fm.vC] at hu;have j:=(Ma.1 hu).1
  have i:x.Db=false:=by simpa[Fm.BJ] using(Ma.1 hu).2
  simp only[N9] at j;obtain⟨n,rfl⟩:∃m,n=m+1:=⟨n-1,cw⟩;obtain⟨a1,a2,a3⟩:=t i cw n cw;rcases o with rfl|rfl|rfl|rfl
  ·have a:(Fm.mk 4 s [] [x]).tr c=1+x.tr c:=by rw[Fm.yS,Fm.Du];simp
   have d:(Fm.mk 4 s [] [x]).acJ=1+x.acJ:=lN;have b:=Mu hs k;have hw:=Fm.eO _ b;have he:=e b cw;refine⟨?_,?_,by rw[a,d];omega⟩
   ·rw[fL,e9 cw,he];simp only[bW,if_true,Fm.cx,Fm.ck,show cr 4 1=false from rfl,show cr 4 5=false from rfl,hZ,fG,cc,ch (l:=[x]) th,b6];simp only[cM,k9,a1,bT,cS,b9];rw[a,cX cw cw];exact congrArg some cw
   ·rw[kf];simp only[cc,Fm.cx,Fm.ck,show cr 4 1=false from rfl,show cr 4 5=false from rfl,hZ,fG,ch (l:=[x]) th,b6];simp only[cM,k9,a2,bT,cS,b9];obtain⟨z,A,c3⟩:=Ac (x.tr c);rw[a,cX cw cw,D6 (n:=1+x.tr c) cw cw]
  ·have a:(Fm.mk 5 s [] [x]).tr c=3+2*c+x.tr c:=by rw[Fm.yS,Fm.Du];simp
   have d:(Fm.mk 5 s [] [x]).acJ=1+x.acJ:=lN
   have b:(Fm.mk 5 s [] [x]).ok=true:=by rw[Fm.eo];simp[k,hs,Fm.node,gL]
   have hw:=Fm.eO _ b;have he:=e b cw;refine⟨?_,?_,by rw[a,d];omega⟩
   ·rw[fL,e9 cw,he];simp only[bW,if_true,Fm.cx,Fm.ck,show cr 5 1=false from rfl,show cr 5 5=true from rfl,hZ,fG,cD,fM,bT,a1];rw[h,a,GP cw cw cw cw cw cw];exact congrArg some cw
   ·rw[kf];simp only[cc,Fm.cx,Fm.ck,show cr 5 1=false from rfl,show cr 5 5=true from rfl,hZ,fG,if_true,cD,fM,bT,a2];obtain⟨z,A,c3⟩:=Ac (x.tr c);rw[h,a,GP cw cw cw cw cw cw,D6 (n:=3+2*c+x.tr c) cw cw]
  ·exact(j (.inl rfl)).elim
  ·exact(j (.inr rfl)).elim
def Vs:∀(n:Nat) (f:Fm),f.acJ<=n->f.acJ<=10000000->jm n f=some f.Db:=by
 intro n
 induction n with
 |zero=>intro f h;have:=f.cu;omega
 |succ n a=>
  intro f h g;cases f with
  |mk k s ts l=>
   rw[Fm.bY] at h g;have c:=eB Fm.acJ l λt _=>t.cu
   have d:∀us:List Fm,Fm.BJ us=us.any Fm.Db:=by
    intro us
    induction us with
    |nil=>rfl|cons x us a=>rw[Fm.BJ,List.any_cons,a]
   rw[jm,Fm.vC,d]
   have hs:dq (cr k 6) true (cr k 7)=decide (k=6\/k=7):=by
    by_cases m:k=6<;>by_cases o:k=7<;>simp[dq,cr,m,o]
   simp only[Fm.ck,Fm.cx,cc,hs]
   have key:=n8 (ρ:=Bool) (F:=λ(j:Int) (x:Fm) (_:Unit)=>bU (jm n x) λb=>if b then some (.ret true)else some (.next ())) (λx=>!x.Db) true l 0 (by
    intro j x p;have:=cy Fm.acJ p;rw[a x cw cw];simp only[bT]
    cases x.Db<;>rfl)
   cases q:decide (k=6\/k=7)with
   |true=>simp|false=>
    simp only[hZ,fG,ch (l:=l) cw,b6,PK];rw[key]
    have:l.all (λx=>!x.Db)=!(l.any Fm.Db):=by
     clear key c h g
     induction l with
     |nil=>rfl|cons x l e=>rw[we,List.any_cons,e,Bool.not_or]
    cases i:l.any Fm.Db with
    |true=>rw[this,i];rfl|false=>rw[this,i];rfl
def rP(a f:Fm):Int:=
 if a.err=0 then if f.err=0 then if f.Db then 10 else if a.acN 536870912 then if 4096<f.tr a.acJ then 4 else 0 else 1 else f.err else a.err
def Wt{a:Fm}(he:a.err=0)(hw:a.wt<=1000000000):∃x,pZ a 0 1=some (x,if a.acN 536870912 then 0 else 1):=by
 obtain⟨b,hn⟩:=Fm.ea he;unfold pZ;rw[er hw,bT,he];simp only[show cG (0:Int) 0=false from rfl,hZ,fG,cc];rw[show lS 0=some true from rfl,show lS 1=some true from rfl];simp only[bT,if_true];rw[QG b cw,bT];cases c:a.acN 536870912 with
 |true=>
  simp only[show mq true=false from rfl,hZ,fG,if_true];rw[jU b cw (Fm.iB _ cw c) cw cw cw cw];exact⟨_,rfl⟩
 |false=>exact⟨_,rfl⟩
def BR{e:Int}(h:¬e=0):cG e 0=true:=by simpa[cG] using h
def GL{a f:Fm}(e:a.wt<=1000000000)(j:f.wt<=1000000000):nG a f=some (rP a f)/\oA a f=some (rP a f):=by
 unfold nG oA rP;rw[er e,er j,iA e,iA j];simp only[bT]
 by_cases b:a.err=0
 ·by_cases d:f.err=0
  ·obtain⟨k,g⟩:=Fm.ea b;obtain⟨h,i⟩:=Fm.ea d;rw[IV,Vs FU f (by rw[cV];omega) cw];simp only[b,d,show cG (0:Int) 0=false from rfl,hZ,fG,if_true,bT];cases hu:f.Db with
   |true=>exact⟨rfl,rfl⟩|false=>
    simp only[hZ,fG];obtain⟨x,l⟩:=Wt b e;rw[l,xI FU a 536870912 (by rw[cV];omega) cw];simp only[bW,bT];cases m:a.acN 536870912 with
    |false=>exact⟨rfl,rfl⟩|true=>
     simp only[if_true,show cG (0:Int) 0=false from rfl,hZ,fG];rw[e9 e,bX b,lI FU a (by rw[cV];omega) cw];simp only[bW,bT];obtain⟨s1,s2,n⟩:=size_eq (c:=a.acJ) g f h hu i FU (by rw[cV];omega);rw[s1,s2];simp only[bT,ep];have o:=Ac (f.tr a.acJ)
     by_cases hs:4096<f.tr a.acJ
     ·rw[bX hs,bX cw,bX cw];exact⟨rfl,rfl⟩
     ·rw[bV hs,bV cw,bV cw];exact⟨rfl,rfl⟩
  ·simp only[b,show cG (0:Int) 0=false from rfl,hZ,fG,if_true,BR d,d];exact⟨trivial,trivial⟩
 ·simp only[BR b,b,if_true,fG];exact⟨trivial,trivial⟩
def zH{a f:Fm}(h:rP a f=0):Q6 a/\f.err=0/\f.Db=false/\f.tr a.acJ<=4096:=by
 unfold rP at h
 split at h
 ·rename_i b
  split at h
  ·rename_i c
   split at h
   ·cases h
   ·rename_i hu
    split at h
    ·rename_i d
     split at h
     ·cases h
     ·exact⟨⟨(Fm.ea b).1,(Fm.ea b).2,d⟩,c,by simpa using hu,cw⟩
    ·cases h
  ·exact absurd h (by assumption)
 ·exact absurd h (by assumption)
def PQ{a f:Fm}(b:Q6 a)(c:f.err=0)(hu:f.Db=false)(d:f.tr a.acJ<=4096):rP a f=0:=by
 unfold rP;rw[bX (Fm.oo b.ok b.acJ),bX c,bV (by simp[hu]),bX b.acN,bV cw]
def CH{a f:Fm}(g:a.wt<=1000000000)(i:f.wt<=1000000000)(h:rP a f=0):∃r,fg FU a f 0=some r/\m5 FU a f=some r/\iF a f=some (r,0)/\kb a f=some (r,0)/\r.ok=true/\r.acJ=f.tr a.acJ:=by
 obtain⟨j,k,l,q⟩:=zH h;obtain⟨b,m⟩:=Fm.ea k;obtain⟨n,o⟩:=GL g i;obtain⟨r,e,c,d,p⟩:=Yv j f b l 0 FU FU cw (by rw[cV];omega) (by rw[cV];omega) cw;rw[show((0:Nat):Int)=0 from rfl,Fm.q_] at c;refine⟨r,e,c,?_,?_,d,p⟩
 ·unfold iF;rw[n,h,e];simp only[bT,show cG (0:Int) 0=false from rfl,hZ,fG];rw[PI d cw];rfl
 ·unfold kb;rw[o,h,c];simp only[bT,show cG (0:Int) 0=false from rfl,hZ,fG];rw[nj (oU d cw)];rfl
def Lk{a f:Fm}(b:a.wt<=1000000000)(c:f.wt<=1000000000)(h:¬rP a f=0):iF a f=some (Fm.mk 0 (Ty.mk 0 []) [] [],rP a f)/\kb a f=some (Fm.mk 0 (Ty.mk 0 []) [] [],rP a f):=by
 obtain⟨d,e⟩:=GL b c;unfold iF kb;rw[d,e];simp only[bT,BR h,if_true];exact⟨trivial,trivial⟩
def KB{x:Fm}(h:x.wt<=1000000000):nF FU x x=some true:=by
 obtain⟨r,a,b⟩:=Gz FU x x (by rw[cV];omega) h;rw[a,b.2 rfl]
def FO:sR=some true:=by
 obtain⟨n0,a1,a2⟩:=se 0 cw cw;obtain⟨n1,g,a⟩:=se 1 cw cw;obtain⟨n2,h,b⟩:=se 2 cw cw;have w0:=n0.eO (a2 []).1.ok;have l:=n1.eO (a []).1.ok;have n:=n2.eO (b []).1.ok;have o:=(a2 []).2;have p:=(a []).2;have q:=(b []).2;unfold sR;rw[a1,g,h];simp only[bT,cc];rw[I0 cw cw,I0 cw cw];simp only[bT];have t0:eY [] (.mk 1 .z [n0,n0] []):=.eq (a2 []).1 (a2 []).1;have t1:eY [] (.mk 1 .z [n1,n2] []):=.eq (a []).1 (b []).1
 have s:(Fm.mk 1 .z [n0,n0] []).acJ=3:=by rw[Fm.bY];simp only[cn];omega
 have c:(Fm.mk 1 .z [n1,n2] []).acJ=6:=by rw[Fm.bY];simp only[cn];omega
 have q0:(Fm.mk 1 .z [n0,n0] []).wt<=1000000:=by have:=Fm.eO _ t0.ok;omega
 have q1:(Fm.mk 1 .z [n1,n2] []).wt<=1000000:=by have:=Fm.eO _ t1.ok;omega
 have i:rP (.mk 1 .z [n1,n2] []) (.mk 1 .z [n0,n0] [])=0:=by
  refine PQ ⟨t1.ok,cw,t1.acN _ (by rw[c];simp)⟩ (Fm.oo t0.ok cw) ?_ ?_
  ·rw[Fm.vC];simp[Fm.BJ]
  ·rw[Fm.yS,bX rfl,c];simp only[cn];omega
 obtain⟨r,d,t,j,u,k,f⟩:=CH cw cw i;rw[j];simp only[bW,show cr (0:Int) 0=true from rfl,if_true];obtain⟨m,hm⟩:∃m,FU=m+1:=⟨FU-1,by rw[cV]⟩
 have e:r=Fm.mk 3 .z [] [Fm.mk 3 .z [] [.mk 1 .z [n0,n0] [],.mk 1 .z [n1,n2] []],.mk 1 .z [n1,n2] []]:=by
  rw[hm,fg] at d;simp only[Fm.cx,show cr (1:Int) 1=true from rfl,if_true,mi,bT,jr,qL,uv] at d;exact d.symm
 rw[sX cw cw,bT];rw[sX (by rw[Fm.fo];simp only[cn];have:Ty.z.acJ=1:=rfl;omega) cw,bT,<-e,KB (oU k (by rw[e] at f;rw[e,f,Fm.yS,bX rfl,c];simp only[cn];omega))];rfl
def KO.nu{g:List Ty}{f:Fm}(h:KO g f):f.Db=false:=by
 induction h with
 |eq _ _=>rw[Fm.vC];simp[Fm.BJ]|two a _ _ b c=>rw[Fm.vC];rcases a with rfl|rfl<;>simp[Fm.BJ,b,c]
 |q a _ _ d=>rw[Fm.vC];rcases a with rfl|rfl<;>simp[Fm.BJ,d]
def Ew(s:Ty)(x y:Tm):(Fm.mk 1 s [x,y] []).acJ=1+x.acJ+y.acJ:=by rw[Fm.bY];simp only[cn];omega
def Ii{a:Fm}(i:Q6 a){g:List Ty}{f:Fm}(h:KO g f):∀(k n:Nat),k+f.acJ<=1000000->f.acJ<=n->fg n a f k=some (zN a f k):=by
 induction h with
 |@eq g x y t u=>
  intro k n c hn;have:=(Fm.mk 1 .z [x,y] []).cu;obtain⟨n,rfl⟩:∃m,n=m+1:=⟨n-1,cw⟩;rw[fg,Fj,zi i k cw];rfl
 |@two g e x y c _ _ j l=>
  intro k n b hn;rw[fW] at b hn;obtain⟨n,rfl⟩:∃m,n=m+1:=⟨n-1,cw⟩
  have o:cr e 1=false:=by rcases c with rfl|rfl<;>rfl
  have p:dq (cr e 2) true (cr e 3)=true:=by rcases c with rfl|rfl<;>rfl
  rw[fg,Ap c];simp only[Fm.cx,Fm.ck,o,p,hZ,fG,if_true];rw[show cq [x,y] 0=some x from rfl,show cq [x,y] 1=some y from rfl];simp only[bT];rw[j k n cw cw,l k n cw cw];rfl
 |@q g e s x c hs _ r=>
  intro k n b hn;rw[lN] at b hn;obtain⟨n,rfl⟩:∃m,n=m+1:=⟨n-1,cw⟩;have d:=r (k+1) n cw cw;rcases c with rfl|rfl
  ·rw[fg,Nt];simp only[Fm.cx,Fm.ck,Fm.cT,show cr (4:Int) 1=false from rfl,show dq (cr (4:Int) 2) true (cr (4:Int) 3)=false from rfl,show cr (4:Int) 4=true from rfl,hZ,fG,if_true];rw[show cq [x] 0=some x from rfl];simp only[bT];rw[d];rfl
  ·rw[fg,Mw];simp only[Fm.cx,Fm.ck,Fm.cT,show cr (5:Int) 1=false from rfl,show dq (cr (5:Int) 2) true (cr (5:Int) 3)=false from rfl,show cr (5:Int) 4=false from rfl,hZ,fG,if_true];rw[show cq [x] 0=some x from rfl];simp only[bT];rw[d,zi i (k+1) cw,zi i k cw];rfl
def GQ{a:Fm}(b:Q6 a){g:List Ty}{f:Fm}(h:KO g f){k:Nat}(c:k+f.acJ<=1000000)(e:f.tr a.acJ<=10000000):(zN a f k).ok=true/\(zN a f k).acJ=f.tr a.acJ:=by
 obtain⟨r,d,_,i,j⟩:=Yv b f h.ty.ok h.nu k f.acJ (2*f.acJ) c (fC _) (fC _) e;rw[Ii b h k f.acJ c (fC _)] at d;obtain rfl:=gv d;exact⟨i,j⟩
def SU{a f:Fm}(b:Q6 a)(d:f.ok=true)(hu:f.Db=false)(hn:f.acJ<=4096){rm:Int}(e:-1000000000000<=rm)(g:rm<=1048576):AL a f rm=some (decide (f.tr a.acJ<=4096/\(f.tr a.acJ:Int)<=rm),rm-f.tr a.acJ):=by
 have hw:=Fm.eO a b.ok;have h:=b.acJ;obtain⟨s1,_,i⟩:=size_eq (c:=a.acJ) b.acJ f d hu hn FU (by rw[cV];omega);unfold AL;rw[e9 cw,Fm.oo b.ok b.acJ,bX rfl,bW,s1,bT,dh cw cw,pW]
 have:(Dh (f.tr a.acJ:Int) 4096&&qf (rm-(f.tr a.acJ:Int)) 0)=decide (f.tr a.acJ<=4096/\(f.tr a.acJ:Int)<=rm):=by
  rw[AS];simp only[ed,Am,fF,mH];omega
 rw[this]
def wtI(F:Fm)(p:Pf):(Nl F p).wt=2+F.wt+p.wt:=by
 unfold Nl;rw[Pf.fo,show(Ty.mk 0 []).acJ=1 from rfl];simp only[cn];omega
def wtE(p q:Pf):(TM p q).wt=2+p.wt+q.wt:=by
 unfold TM DD;rw[Pf.fo,show(Ty.mk 0 []).acJ=1 from rfl];simp only[cn];omega
def wtH(i:Int):(Mf i).wt=2:=by
 unfold Mf;rw[Pf.fo,show(Ty.mk 0 []).acJ=1 from rfl];simp only[cn]
def abp(k:Int)(p:Pf):(DD k [p]).wt=2+p.wt:=by
 unfold DD;rw[Pf.fo,show(Ty.mk 0 []).acJ=1 from rfl];simp only[cn];omega
def aaT(k:Int)(p q:Pf):(DD k [p,q]).wt=2+p.wt+q.wt:=by
 unfold DD;rw[Pf.fo,show(Ty.mk 0 []).acJ=1 from rfl];simp only[cn];omega
end Go.dF
namespace Go.dF
open Go
end Go.dF
set_option maxRecDepth 20000
namespace Go.dF
open Go
def JL(k:Int):∃r b,kh k=some (r,b):=by
 unfold kh
 by_cases h:k<1\/21<=k
 ·rw[bX (by simp only[jY,pE,j6,fF];omega)];exact⟨_,_,rfl⟩
 ·rw[bV (by simp only[jY,pE,j6,fF];omega)];obtain⟨s,hs,_⟩:=Ba (l:=ll) (i:=k) cw (by show k<((21:Nat):Int);omega);rw[hs];exact⟨_,_,rfl⟩
def P5:∀(n:Nat) (P:Pf) (pl:c8),P.wt<=n->P.wt<=1000000000->P.acJ<=10000000->P.ok=true->im n P pl 0=some P
 |0,P,_,h,_,_,_=>by have:=P.gK;omega
 |n+1,.mk k i s ts fs l,pl,hn,e,hs,c=>by
  rw[Pf.fo] at hn e;rw[Pf.bY] at hs;rw[Pf.eo] at c;simp only[ed,ie] at c;obtain⟨r,b,f⟩:=JL k;have m:=Tm.mh ts;have o:=Fm.mh fs;have p:l.length<=cn Pf.wt l:=eB _ _ λt _=>t.gK;rw[im];simp only[Pf.cx,Pf.cT,Pf.eI,Pf.Ee,Pf.ck,Pf.dK,cc]
  rw[f,bW,kj cw,bT,ch cw,b6,gG id ts 0 [] aae (λj x v a d=>by
   have:=cy Tm.acJ a;rw[xL FU x (by rw[cV];omega) cw (c.1.1.2 x a),bT,dc (by simpa using d),b6,ei]
   rfl),bT,b9,ch cw,b6,gG id fs 0 [] aae (λj x v a d=>by
   have:=cy Fm.acJ a;rw[PI (c.1.2 x a) cw,bT,dc (by simpa using d),b6,ei]
   rfl),bT,b9,ch cw,b6,gG id l 0 [] aae (λj x v a d=>by
   have q:=cy Pf.wt a;have u:=cy Pf.acJ a;obtain⟨z,g⟩:∃z,nV pl r j=some z:=⟨_,rfl⟩;rw[g,bT,P5 n x _ cw cw cw (c.2 x a),bT,dc (by simpa using d),b6,ei]
   rfl),bT,b9]
  simp
def S8{P:Pf}{rm:Int}(h:0<=rm->P.wt<=1000000000):yp P rm=some (yK,4)\/(0<=rm/\P.err=0/\P.wt<=1000000000/\yp P rm=some (P,0)):=by
 unfold yp
 by_cases a:rm<0
 ·rw[bX (by rw[j6];exact a)];exact .inl rfl
 ·have hw:=h cw;rw[bV (by rw[j6];exact a),td hw,bT]
  by_cases he:P.err=0
  ·obtain⟨b,_,hn⟩:=hB he;refine .inr ⟨cw,he,hw,?_⟩;rw[he,bV nz];unfold q8;rw[P5 FU P _ (by rw[cV];omega) hw cw b];rfl
  ·rw[bX (by rw[cg];exact he)];exact .inl rfl
def OW{L:List Fm}{q:Sq}(c:zO L q){P:Pf}(hw:P.wt<=1000000000)(he:P.err=0){b:Fm}(d:eY q.acL b)(a:b.wt<=1000000000)(h:Tk L q.acL q.acO P b):rz L q P b=some true:=by
 obtain⟨e,f,g⟩:=Tk.acc c hw (hB he).1 d a h;unfold rz;rw[f,bT];rcases g with rfl|rfl|rfl|rfl<;>rfl
def N1{a f:Fm}(b:a.err=0)(c:f.err=0)(hu:f.Db=false)(d:a.acN 536870912=true):rP a f=0\/rP a f=4:=by
 unfold rP;rw[bX b,bX c,bV (by simp[hu]),bX d]
 split
 ·exact .inr rfl
 ·exact .inl rfl
def Tv{g:List Ty}{a f:Fm}(e:KO g f)(b:a.wt<=1000000000)(c:f.wt<=1000000000)(h:rP a f=0):kb a f=some (zN a f 0,0)/\(zN a f 0).wt<=300000:=by
 obtain⟨r,d,_,_,i,j,l⟩:=CH b c h;obtain⟨k,he,_,m⟩:=zH h;have hn:=(Fm.ea he).2;rw[Ii k e 0 FU cw (by rw[cV];omega)] at d;obtain rfl:=gv d;have:=Fm.eO _ j;exact⟨i,cw⟩
def Cj.cu(c:Cj):3<=c.fm.acJ:=by
 induction c with
 |eq a b=>
  show 3<=(Fm.mk 1 .z [a,b] []).acJ;have:=a.cu;have:=b.cu;rw[Ew];omega
 |and x y d e=>
  show 3<=(Fm.mk 2 .z [] [x.fm,y.fm]).acJ;rw[fW];omega
def Fl:∀(c:Cj) (n:Nat),c.fm.acJ<=n->fN n c.fm=some true
 |.eq a b,n,h=>by
  have:=Cj.cu (.eq a b);obtain⟨n,rfl⟩:∃m,n=m+1:=⟨n-1,cw⟩;rw[fN,cc,bX (show cr (Cj.eq a b).fm.acH 1=true from rfl)]
 |.and x y,n,h=>by
  have e:(Cj.and x y).fm.acJ=1+x.fm.acJ+y.fm.acJ:=fW;obtain⟨n,rfl⟩:∃m,n=m+1:=⟨n-1,cw⟩
  rw[fN,cc,bV (show¬cr (Cj.and x y).fm.acH 1=true from(by decide:¬cr (2:Int) 1=true)),bX (show cr (Cj.and x y).fm.acH 2=true from rfl),show cq (Cj.and x y).fm.acI 0=some x.fm from rfl,bT,Fl x n cw,bT,bX rfl,show cq (Cj.and x y).fm.acI 1=some y.fm from rfl,bT,Fl y n cw,bT]
def NP(x y:Fm)(n:Nat)(h:1<=n):fN n (vp x y)=some false:=by
 obtain⟨n,rfl⟩:∃m,n=m+1:=⟨n-1,cw⟩;rw[fN,cc,bV (show¬cr (vp x y).acH 1=true from(by decide:¬cr (3:Int) 1=true)),bV (show¬cr (vp x y).acH 2=true from(by decide:¬cr (3:Int) 2=true))]
def N6{f:Fm}(he:f.err=0)(c:f.acN 1000000000000=true):∃b,oW f=some (b,0):=by
 obtain⟨a,hn⟩:=Fm.ea he;have hw:=f.eO a;obtain⟨m,d,_⟩:=tP FU f (by rw[cV];omega) cw a c;unfold oW qq;rw[er cw,he,bT,bV nz,d,bT,bW];exact⟨_,rfl⟩
def TX{v w:Int}(a:∃x:Fin 8,v=((x:Nat):Int))(hw:∃x:Fin 8,w=((x:Nat):Int)):lX .u8 (tZ .u8 (lX .u8 v 1) (lX .u8 w 4)) 2=0/\lX .u8 (lX .u8 v 1) 2=0:=by
 obtain⟨x,rfl⟩:=a;obtain⟨y,rfl⟩:=hw
 revert x y
 decide
def Sn{s:Ty}{a:Fm}(he:(Fm.mk 5 s [] [a]).err=0)(g:a.acN 1000000000000=true)(c:a.ok=true):oW (.mk 5 s [] [a])=some (false,0):=by
 obtain⟨h,hn⟩:=Fm.ea he;have hw:=Fm.eO _ h;have i:(Fm.mk 5 s [] [a]).acJ=1+a.acJ:=lN;obtain⟨n,hF⟩:∃n,FU=n+1:=⟨FU-1,by rw[cV]⟩
 have j:100000<=n:=by have:=cV;omega
 obtain⟨d,k,l,o,_⟩:=tP n a cw cw c g;obtain⟨b,t,q,ok,p,r⟩:=xo h cw g c
 have u:cq [a] (di .i64 (cE [a]) 1)=some a:=by rw[dh th th];rfl
 have key:∃m,jt FU (.mk 5 s [] [a])=some m/\lX .u8 m 2=0:=by
  rw[hF,jt,bV (show¬cr (Fm.mk 5 s [] [a]).acH 1=true from(by decide:¬cr (5:Int) 1=true))];simp only[Fm.ck,u,bT,k,cc];rw[bV (show¬dq (cr (Fm.mk 5 s [] [a]).acH 2) true (cr (Fm.mk 5 s [] [a]).acH 3)=true from(by decide:¬dq (cr (5:Int) 2) true (cr (5:Int) 3)=true)),bX (show cr (Fm.mk 5 s [] [a]).acH 5=true from rfl),p]
  obtain⟨v1,e,_⟩:Mk true (tZ .u8 d 1):=by
   have:=(show Mk a.has d from⟨l,o,by assumption⟩).or Mk.one
   rwa [Bool.or_true] at this
  show∃m,(if ok then(bU (jt n q) λf=>some (tZ .u8 (lX .u8 (tZ .u8 d 1) 1) (lX .u8 f 4)))else(some (lX .u8 (tZ .u8 d 1) 1)))=some m/\lX .u8 m 2=0;cases ok with
  |false=>exact⟨_,rfl,(TX ⟨v1,e⟩ ⟨v1,e⟩).2⟩|true=>
   obtain⟨d1,d2,d3⟩:=r rfl;obtain⟨z,v,w,x,_⟩:=tP n q cw cw d1 d3;rw[bX rfl,v];exact⟨_,rfl,(TX ⟨v1,e⟩ ⟨w,x⟩).1⟩
 obtain⟨m,y,k2⟩:=key;unfold oW qq;rw[er cw,he,bT,bV nz,y,bT,bW,k2];rfl
def II:∀(c:Cj) (n:Nat),c.fm.acJ<=n->∀(p:Int->Option Pf) (i:Nat->Pf) (h:Nat) (j:(Int->Option Pf)->Int->Option Pf) (d:(Nat->Pf)->Nat->Pf),(∀m:Nat,m<=100000->p m=some (i m))->h+c.fm.acJ<=100000->(∀(q:Int->Option Pf) (l:Nat->Pf) (f:Nat),f<=h+c.fm.acJ->(∀m:Nat,m<=100000->q m=some (l m))->j q f=some (d l f))->p8 n c.fm p h j=some (yT c i h d)
 |.eq a b,n,hn,p,i,h,j,d,k,t,o=>by
  have D:=Cj.cu (.eq a b);obtain⟨n,rfl⟩:∃m,n=m+1:=⟨n-1,cw⟩
  rw[p8,bX (show cr (Cj.eq a b).fm.acH 1=true from rfl),k h cw,bT,cX cw cw,show(h:Int)+1=((h+1:Nat):Int) by omega,o (λm=>some (Mf (di .i64 (di .i64 m 1) h))) (λm=>rb ((m:Int)-1-h)) (h+1) cw (λm hm=>by
    show some (Mf (di .i64 (di .i64 (m:Int) 1) h))=_;rw[dh (a:=(m:Int)) (b:=1) cw cw,dh cw cw]
    rfl),bT]
  rfl
 |.and x y,n,hn,p,i,h,j,d,k,t,o=>by
  have e:(Cj.and x y).fm.acJ=1+x.fm.acJ+y.fm.acJ:=fW;obtain⟨n,rfl⟩:∃m,n=m+1:=⟨n-1,cw⟩;rw[p8,bV (show¬cr (Cj.and x y).fm.acH 1=true from(by decide:¬cr (2:Int) 1=true)),show cq (Cj.and x y).fm.acI 0=some x.fm from rfl,bT]
  rw[II x n cw (λm=>bU (p m) λy=>some (DD 4 [y])) (λm=>.mk 4 0 .z [] [] [i m]) h _ (λq f=>yT y (λm=>.mk 5 0 .z [] [] [i m]) f λr g=>d (λm=>.mk 3 0 .z [] [] [q m,r m]) g) (λm hm=>by
   show(bU (p m) λy=>some (DD 4 [y]))=_
   rw[k m hm];rfl) cw (λq l f w A=>?_)]
  ·rfl
  ·show(bU (cq (Cj.and x y).fm.acI 1) λy=>p8 n y (λm=>bU (p m) λz=>some (DD 5 [z])) f λr B=>j (λm=>bU (q m) λu=>bU (r m) λv=>some (DD 3 [u,v])) B)=_;rw[show cq (Cj.and x y).fm.acI 1=some y.fm from rfl,bT];refine II y n cw _ _ f _ _ (λm hm=>?_) cw (λr E g s C=>?_)
   ·show(bU (p m) λz=>some (DD 5 [z]))=_;rw[k m hm];rfl
   ·refine o _ _ g cw λm hm=>?_;show(bU (q m) λu=>bU (r m) λv=>some (DD 3 [u,v]))=_;rw[A m hm,bT,C m hm];rfl
def Ev{g:List Ty}:∀(c:Cj),c.Ty g->∀(f:Nat->Pf) (h:Nat) (d:(Nat->Pf)->Nat->Pf) (A K N:Nat),(∀m,(f m).wt<=A)->c.fm.acJ<=N->(∀(q:Nat->Pf) (h:Nat),(∀m,(q m).wt<=2*c.fm.acJ)->(d q h).wt<=K)->(yT c f h d).wt<=K+c.fm.acJ*(A+2*c.fm.acJ+70)
 |.eq a b,l,f,h,d,A,K,N,n,u,o=>by
  have D:=Cj.cu (.eq a b);have v:=(Cj.pu l).ty.ok;have hw:=Fm.eO _ v;show(TM (f h) (Nl (Cj.eq a b).fm (d (λm=>rb ((m:Int)-1-h)) (h+1)))).wt<=_;rw[wtE,wtI];have E:=n h
  have F:=o (λm=>rb ((m:Int)-1-h)) (h+1) (λm=>by
   have:=wtH ((m:Int)-1-h);show(Mf ((m:Int)-1-h)).wt<=_
   omega)
  have G:A+70*(Cj.eq a b).fm.acJ<=(Cj.eq a b).fm.acJ*(A+2*(Cj.eq a b).fm.acJ+70):=by
   have s:(Cj.eq a b).fm.acJ*(A+2*(Cj.eq a b).fm.acJ+70)=(Cj.eq a b).fm.acJ*A+(Cj.eq a b).fm.acJ*(2*(Cj.eq a b).fm.acJ)+(Cj.eq a b).fm.acJ*70:=by rw[LC,LC]
   have k2:1*A<=(Cj.eq a b).fm.acJ*A:=Ak A cw;rw[s];omega
  omega
 |.and x y,l,f,h,d,A,K,N,n,u,o=>by
  have e:(Cj.and x y).fm.acJ=1+x.fm.acJ+y.fm.acJ:=fW
  have j:∀(k:Int) (m:Nat),(Pf.mk k 0 .z [] [] [f m]).wt<=A+2:=λk m=>by
   have:=abp k (f m);have:=n m;show(DD k [f m]).wt<=_;omega
  have hy:=λ(q:Nat->Pf) (p:Nat) (w:∀m,(q m).wt<=2*x.fm.acJ)=>Ev (g:=g) y l.2 (λm=>.mk 5 0 .z [] [] [f m]) p (λr i=>d (λm=>.mk 3 0 .z [] [] [q m,r m]) i) (A+2) K N (j 5) cw (λr i B=>o _ i λm=>by
   have s:=aaT 3 (q m) (r m);have k2:=w m;have H:=B m;show(DD 3 [q m,r m]).wt<=_
   omega)
  have C:=Ev (g:=g) x l.1 (λm=>.mk 4 0 .z [] [] [f m]) h (λq p=>yT y (λm=>.mk 5 0 .z [] [] [f m]) p λr i=>d (λm=>.mk 3 0 .z [] [] [q m,r m]) i) (A+2) (K+y.fm.acJ*(A+2+2*y.fm.acJ+70)) N (j 4) cw hy;refine Bw C ?_;have I:x.fm.acJ*(A+2+2*x.fm.acJ+70)<=x.fm.acJ*(A+2*(Cj.and x y).fm.acJ+70):=Ys _ cw;have J:y.fm.acJ*(A+2+2*y.fm.acJ+70)<=y.fm.acJ*(A+2*(Cj.and x y).fm.acJ+70):=Ys _ cw
  have t:∀M,(Cj.and x y).fm.acJ*M=M+x.fm.acJ*M+y.fm.acJ*M:=λM=>by rw[e,vF,vF,Of]
  have t:=t (A+2*(Cj.and x y).fm.acJ+70);omega
def KU{g:List Ty}{s:Ty}{c:Cj}(hs:s.err=0)(d:c.Ty (g++[s]))(hg:g.length<=15)(hn:c.fm.acJ<=1000):(∃z,fy (.mk 5 s [] [c.fm]) (rb 0)=some (z,4))\/fy (.mk 5 s [] [c.fm]) (rb 0)=some (LY (.mk 5 s [] [c.fm]) s c (rb 0),0)/\(LY (.mk 5 s [] [c.fm]) s c (rb 0)).err=0/\(LY (.mk 5 s [] [c.fm]) s c (rb 0)).wt<=1000000000:=by
 have n:eY (g++[s]) c.fm:=(Cj.pu d).ty;have f:eY g (.mk 5 s [] [c.fm]):=.q cw hs n;have o:(Fm.mk 5 s [] [c.fm]).acJ=1+c.fm.acJ:=lN;have i:(Fm.mk 5 s [] [c.fm]).err=0:=Fm.oo f.ok cw;have hw:=Fm.eO _ f.ok;have x:=(Ty.hB hs).2;have a:eY (g++[s]) ((Fm.mk 5 s [] [c.fm]).up 0 1):=f.lift [s]
 have j:((Fm.mk 5 s [] [c.fm]).up 0 1).acJ=1+c.fm.acJ:=by rw[Fm.nN,o]
 have p:Q6 ((Fm.mk 5 s [] [c.fm]).up 0 1):=⟨a.ok,cw,a.acN _ (by rw[j];simp;omega)⟩
 have v:(rb 0).err=0:=gw
 have r:c.fm.acN 1000000000000=true:=n.acN _ aae;unfold fy
 rw[er cw,i,bT,bV nz,Sn i r n.ok,bW,cc,bV gw,bV (show¬cG (Fm.mk 5 s [] [c.fm]).acH 5=true from(by decide:¬cG (5:Int) 5=true)),show cq (Fm.mk 5 s [] [c.fm]).acI 0=some c.fm from rfl,bT,Fl c FU (by rw[cV];omega),bT]
 simp only[show mq true=false from rfl,hZ,fG]
 rw[td (by show(Mf 0).wt<=_;rw[wtH];omega),v,bT,bV nz,bT,jU f.ok cw (f.acN _ cw) cw cw cw cw,bT,SU p n.ok (Cj.pu d).nu cw cw cw,bW]
 by_cases l:c.fm.tr ((Fm.mk 5 s [] [c.fm]).up 0 1).acJ<=4096/\(c.fm.tr ((Fm.mk 5 s [] [c.fm]).up 0 1).acJ:Int)<=1048576
 ·rw[r9 l,bV gw,show p8 FU c.fm (λh=>some (Mf (di .i64 h 1))) 1 (λq h=>bU (q h) λy=>some (.mk 10 0 (Ty.mk 0 []) [.mk 1 0 (Ty.mk 0 []) []] [(Fm.mk 5 s [] [c.fm]).up 0 1] [y]))=some (yT c (λm=>rb ((m:Int)-1)) 1 λb h=>.mk 10 0 .z [v0] [(Fm.mk 5 s [] [c.fm]).up 0 1] [b h])from
    II c FU (by rw[cV];omega) _ (λm=>rb ((m:Int)-1)) 1 _ _ (λm hm=>by
     show some (Mf (di .i64 (m:Int) 1))=_
     rw[dh cw cw];rfl) cw (λq D w E t=>by
     show(bU (q w) λy=>some _)=_
     rw[t w cw];rfl),bT,Ii p (Cj.pu d) 0 FU cw (by rw[cV];omega),bT]
  obtain⟨t1,t2⟩:=GQ p (Cj.pu d) (k:=0) cw cw;have F:=Fm.eO _ t1;have lw:=Fm.eO _ a.ok
  have G:=Ev (g:=g++[s]) c d (λm=>rb ((m:Int)-1)) 1 (λb h=>.mk 10 0 .z [v0] [(Fm.mk 5 s [] [c.fm]).up 0 1] [b h]) 2 (100000+2*c.fm.acJ) c.fm.acJ (λm=>by
   have:=wtH ((m:Int)-1);show(Mf ((m:Int)-1)).wt<=_
   omega) (fC _) (λq h t=>by
   have:=t h;rw[Pf.fo];simp only[cn];rw[show Ty.z.acJ=1 from rfl,show v0.wt=2 by unfold v0;rw[Tm.fo];rfl]
   omega)
  have H:c.fm.acJ*(2+2*c.fm.acJ+70)<=1000*2072:=CP hn cw;have e:TM (rb 0) (.mk 8 0 (Fm.mk 5 s [] [c.fm]).b7 [] [] [Nl (zN ((Fm.mk 5 s [] [c.fm]).up 0 1) c.fm 0) (yT c (λm=>rb ((m:Int)-1)) 1 λb h=>.mk 10 0 .z [v0] [(Fm.mk 5 s [] [c.fm]).up 0 1] [b h])])=LY (.mk 5 s [] [c.fm]) s c (rb 0):=rfl;rw[e]
  rcases S8 (P:=LY (.mk 5 s [] [c.fm]) s c (rb 0)) (rm:=1048576-(c.fm.tr ((Fm.mk 5 s [] [c.fm]).up 0 1).acJ:Int)) (λv=>by
   rw[<-e,wtE,Pf.fo];simp only[cn];rw[wtI];have A:(rb 0).wt=2:=wtH 0;show 2+(rb 0).wt+(1+s.acJ+0+0+(2+_+_+0))<=_
   omega)with u|⟨_,B,C,u⟩
  ·exact .inl ⟨_,u⟩
  ·exact .inr ⟨u,B,C⟩
 ·rw[AN l,bX (show mq false=true from rfl)];exact .inl ⟨_,rfl⟩
def E3{f:Fm}(he:f.err=0)(e:f.acN 1000000000000=true)(c:f.acH≠5\/∃x l,f.acI=x::l/\fN FU x=some false)(p:Pf):fy f p=some (yK,10):=by
 obtain⟨g,hn⟩:=Fm.ea he;have hw:=f.eO g;obtain⟨b,h⟩:=N6 he e;unfold fy;rw[er cw,he,bT,bV nz,h,bW,cc]
 by_cases a:b=true
 ·rw[bX a];exact bX rfl
 ·rw[bV a]
  by_cases d:f.acH=5
  ·rw[bV (by rw[cg];simpa using d)];rcases c with c|⟨x,l,i,j⟩
   ·exact absurd d c
   ·rw[i,show cq (x::l) 0=some x from rfl,bT,j,bT];exact bX rfl
  ·rw[bX (by rw[cg];exact d)];exact bX rfl
def xG(a0:List Int):j4 a0=some true:=by
 unfold j4;rw[FO,bT,bX rfl,NY,bT]
 by_cases hl:a0.length<=500
 ·rw[bX (r9 hl),show La a0=some ⟨a0,0⟩from rfl,bT];obtain⟨g,d,c1,c2,c3,c4⟩:=F4 ⟨a0,0⟩ (UW a0 cw);rw[c1,bW];obtain⟨s,d1,s1,s2,s3,s4⟩:=DP d c2 1 cw;rw[show((1:Nat):Int)=1 from rfl] at s1
  have s3:s.acJ<=3:=by have:s.acJ+1<=4:=s3;omega
  rw[s1,bW,dc aae,b6,ei,mw,dc aae,b6,ei];have K:ug 3 (g++[s]):=c4.app (by intro u hu;rw[yC] at hu;subst hu;exact⟨s2,s3⟩)
  have ae:(g++[s]).length<=4:=aae
  have tm:∀(k:Nat) (d:cH),k<=5->d.wf->ij (g++[s]) .nat (tb 3 k) (eA FU d (g++[s]) .nat (k:Int)):=λk d hk hd=>Rl 3 cw cw k hk _ .nat d cw K Ty.fO (by rw[Ty.gh];omega) hd;obtain⟨a,d2,a1,a2,a3⟩:=tm 2 d1 cw s4;obtain⟨b,d3,b1,b2,b3⟩:=tm 1 d2 cw a2;rw[show((2:Nat):Int)=2 from rfl] at a1;rw[show((1:Nat):Int)=1 from rfl] at b1;have na:a.acJ<=201:=a3.acJ;have nb:b.acJ<=57:=b3.acJ;have wa:=a3.wt;have wb:=b3.wt;have t2:tb 3 2=201:=rfl;have t1:tb 3 1=57:=rfl;rw[show eA FU d1 (g++[s]) (Ty.mk 1 []) 2=some (a,d2)from a1,bW,show eA FU d2 (g++[s]) (Ty.mk 1 []) 1=some (b,d3)from b1,bW,I0 cw cw,bT];obtain⟨k,d4,k1,k2,k3,k4⟩:=oN d3 b2 4 cw cw;rw[k1,bW,cc]
  obtain⟨o,ho,hq⟩:=x5 (ρ:=Bool) (F:=Vp λ(p:Int) (t:Int) (v:Int) (w:List Ty) (A:List Tm) (B:List Fm) (D:cH)=>
    if(m8 p 0) then(
    cB (λ(L:Int) (M:Int) (N:List Ty) (O:List Tm) (P:List Fm) (Q:cH)=>
    some (.next ((di .i64 p 1),L,M,N,O,P,Q))) λE=>
    b8 (eA FU D (g++[s]) (Ty.mk 1 []) 1) λR S=>
    b8 (eQ S 3) λT U=>
    bU (rJ T) λV=>
    bU (nS R V) λG=>
    b8 (eQ U 2) λW H=>
    if(cr W 0) then(
    bU (gf 2 (Fm.mk t (Ty.mk v w) A B) G) λj=>
    E j.acH j.b7.acH j.b7.acI j.cv j.acI H)
    else(bU (gf 2 G (Fm.mk t (Ty.mk v w) A B)) λl=>
    E l.acH l.b7.acH l.b7.acI l.cv l.acI H))
    else(some (.Fy (p,t,v,w,A,B,D))))
   (λm=>0<=m.1/\m.1<=3/\m.2.2.2.2.2.2.wf/\∃c:Cj,c.Ty (g++[s])/\Fm.mk m.2.1 (Ty.mk m.2.2.1 m.2.2.2.1) m.2.2.2.2.1 m.2.2.2.2.2.1=c.fm/\(c.fm.acJ:Int)+100*m.1<=600) (λm=>m.1.toNat)
   (λo=>match o with|.inl m=>∃c:Cj,c.Ty (g++[s])/\Fm.mk m.2.1 (Ty.mk m.2.2.1 m.2.2.2.1) m.2.2.2.2.1 m.2.2.2.2.2.1=c.fm/\c.fm.acJ<=600|.inr _=>False)
   (by
    rintro⟨i,q1,q2,q3,q4,q5,e⟩ ⟨i1,i2,i3,c,i4,i5,i6⟩;simp only at i1 i2 i3 i5 i6
    by_cases hi:0<i
    ·left;obtain⟨x,X,x1,x2,x3⟩:=tm 1 e cw i3;rw[show((1:Nat):Int)=1 from rfl] at x1;have nx:x.acJ<=57:=x3.acJ;have wx:=x3.wt;obtain⟨n,e2,n1,n2,n3,n4⟩:=oN X x2 3 cw cw;obtain⟨y,y1,y2⟩:=se n n2 cw;obtain⟨y3,y4⟩:=y2 (g++[s]);have wy:=y.eO y3.ok;obtain⟨z,e3,z1,z2,z3,z4⟩:=oN e2 n4 2 cw cw;have af:=Fm.eO _ (Cj.pu i4).ty.ok;have hE:(Cj.eq x y).Ty (g++[s]):=⟨x3.ty,y3⟩;have ah:=Fm.eO _ (Cj.pu hE).ty.ok;have ai:(Cj.eq x y).fm.acJ=1+x.acJ+y.acJ:=Ew _ _ _;simp only[Vp,ep,hi,if_true];rw[show eA FU e (g++[s]) (Ty.mk 1 []) 1=some (x,X)from x1];simp only[cc,bW];rw[n1];simp only[bW];rw[y1,bT,I0 cw cw,bT,z1];simp only[bW]
     by_cases hz:z=0
     ·rw[bX (by rw[dX];exact hz),i5,show gf 2 c.fm (Fm.mk 1 .z [x,y] [])=some (Cj.and c (.eq x y)).fm from sX cw (by show(Cj.eq x y).fm.wt<=_;omega),bT,dh cw cw];have aa:(Cj.and c (.eq x y)).fm.acJ=1+c.fm.acJ+(Cj.eq x y).fm.acJ:=fW;exact⟨_,rfl,⟨by show 0<=i-1;omega,by show i-1<=3;omega,z4,.and c (.eq x y),⟨i4,hE⟩,rfl,by show((Cj.and c (.eq x y)).fm.acJ:Int)+100*(i-1)<=600;omega⟩,by show(i-1).toNat<i.toNat;omega⟩
     ·rw[bV (by rw[dX];exact hz),i5,show gf 2 (Fm.mk 1 .z [x,y] []) c.fm=some (Cj.and (.eq x y) c).fm from sX (by show(Cj.eq x y).fm.wt<=_;omega) cw,bT,dh cw cw];have aa:(Cj.and (.eq x y) c).fm.acJ=1+(Cj.eq x y).fm.acJ+c.fm.acJ:=fW;exact⟨_,rfl,⟨by show 0<=i-1;omega,by show i-1<=3;omega,z4,.and (.eq x y) c,⟨hE,i4⟩,rfl,by show((Cj.and (.eq x y) c).fm.acJ:Int)+100*(i-1)<=600;omega⟩,by show(i-1).toNat<i.toNat;omega⟩
    ·right;left
     exact⟨(i,q1,q2,q3,q4,q5,e),by simp only[Vp,ep,hi,fG],c,i4,i5,cw⟩)
   FU (k,(Fm.mk 1 .z [a,b] []).acH,(Fm.mk 1 .z [a,b] []).b7.acH,(Fm.mk 1 .z [a,b] []).b7.acI,(Fm.mk 1 .z [a,b] []).cv,(Fm.mk 1 .z [a,b] []).acI,d4) ⟨k2,by show k<=3;omega,k4,.eq a b,⟨a3.ty,b3.ty⟩,rfl,by
    have:=Ew .z a b;show((Fm.mk 1 .z [a,b] []).acJ:Int)+100*k<=600
    omega⟩ (by show k.toNat<FU;rw[cV];omega)
  rw[show mJ _ FU _=some o from ho];cases o with
  |inr r=>exact hq.elim|inl st=>
   obtain⟨i,q1,q2,q3,q4,q5,e⟩:=st;obtain⟨c,j1,j2,j3⟩:=hq;simp only at j2;simp only[bT,b9,Vp];rw[j2];have J:eY (g++[s]) c.fm:=(Cj.pu j1).ty;have Y:eY g (.mk 5 s [] [c.fm]):=.q cw s2 J;have C:KO g (.mk 5 s [] [c.fm]):=.q (.inr rfl) s2 (Cj.pu j1);have ak:=Fm.eO _ J.ok;have an:=Fm.eO _ Y.ok;have ao:(Fm.mk 5 s [] [c.fm]).acJ=1+c.fm.acJ:=lN;have ab:c.fm.err=0:=Fm.oo J.ok cw;have Z:(Fm.mk 5 s [] [c.fm]).err=0:=Fm.oo Y.ok cw;have hI:eY (g++[s]) (vp c.fm c.fm):=EN J J;have hIn:(vp c.fm c.fm).acJ=1+c.fm.acJ+c.fm.acJ:=fW;have aq:=Fm.eO _ hI.ok;have hJ:eY g (.mk 5 s [] [vp c.fm c.fm]):=.q cw s2 hI;have ar:(Fm.mk 5 s [] [vp c.fm c.fm]).acJ=1+(vp c.fm c.fm).acJ:=lN;rw[show ic 5 s c.fm=some (.mk 5 s [] [c.fm])from KL cw cw,bT];rw[show so 0=some (rb 0)from rfl];simp only[bT]
   rw[E3 ab (J.acN _ aae) (.inl (by
    cases c with
    |eq x y=>show(1:Int)≠5;decide|and x y=>show(2:Int)≠5;decide)) (rb 0)]
   rw[show gf 3 c.fm c.fm=some (vp c.fm c.fm)from sX cw cw];simp only[bT,bW];rw[show ic 5 s (vp c.fm c.fm)=some (.mk 5 s [] [vp c.fm c.fm])from KL cw cw];simp only[bT];rw[E3 (Fm.oo hJ.ok cw) (hJ.acN _ cw) (.inr ⟨_,_,rfl,NP _ _ _ (by rw[cV];omega)⟩) (rb 0)];have hW:=KU s2 j1 cw (by omega:c.fm.acJ<=1000);rcases N1 Z Z C.nu (Y.acN _ cw)with hk|hk
   ·obtain⟨x1,x2⟩:=Tv C cw cw hk;rw[x1];rcases hW with⟨z,I⟩|⟨I,w2,w3⟩
    ·rw[I];rfl
    ·rw[I];simp only[bW];rw[bV gw,cc,bX gw,bX gw];obtain⟨hA,_,_,ht⟩:=zH hk;obtain⟨r1,r2⟩:=GQ hA C (k:=0) cw cw;have hT:eY g (zN (.mk 5 s [] [c.fm]) (.mk 5 s [] [c.fm]) 0):=Rw Y C [] th
     have hS:zO [] ⟨g,[zN (.mk 5 s [] [c.fm]) (.mk 5 s [] [c.fm]) 0]⟩:=⟨th,λf h=>by simp at h,λu hu=>(c4.all u hu).1,by show g.length<=16;omega,th,λf h=>by
      rw[yC] at h;subst h
      exact⟨Fm.oo r1 cw,hT⟩⟩
     have ad:Tk [] g [zN (.mk 5 s [] [c.fm]) (.mk 5 s [] [c.fm]) 0] (rb 0) (zN (.mk 5 s [] [c.fm]) (.mk 5 s [] [c.fm]) 0):=Tk.aaU (hs:=[]) hT;rw[OW hS w3 w2 Y cw (Tg s2 j1 ad (Fm.q_ _)),bT]
   ·have X:=(Lk (a:=.mk 5 s [] [c.fm]) (f:=.mk 5 s [] [c.fm]) cw cw (by rw[hk];decide)).2;rw[hk] at X;rw[X];rcases hW with⟨z,I⟩|⟨I,_⟩
    ·rw[I];rfl
    ·rw[I];rfl
 ·rw[bV (by simpa using hl)]
end Go.dF
