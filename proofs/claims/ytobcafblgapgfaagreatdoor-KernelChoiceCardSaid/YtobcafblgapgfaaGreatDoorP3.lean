/- Part of the proof of KernelChoice: plain facts. -/
import Derived.Test.YtobcafblgapgfaaGreatDoorP2
set_option linter.all false
namespace Go.fg
open Go
def Tm.mh{t:Tm}(h:t.ok=true)(hn:t.abf<=4096):t.err=0:=by
 unfold Tm.err;rw[cG h,cB (by omega)]
def TJ(n:Nat)(c:cY)(t:Tm):c0 (n+1) c (.mk 18 0 .z [t] [] [])=cA (pT t t) λa=>cA (gG c t 1) λb=>some (a,[],b):=by rw[c0];rfl
def Pm(L:List Fm)(t:Tm)(g:List Ty)(hs:List Fm):m5 L 18 0 .z [t] [] (Pf.rl L []) g hs=kc (mP t g 1) (.inl (.mk 1 .z [t,t] [],0)):=rfl
def T4(n:Nat)(L:List Fm)(t:Tm)(p:cJ):nX n L (.mk 18 0 .z [t] [] []) p=cA (fY p.abh t) λa=>if(dr a 0)=true then some (⟨fx,0⟩,a)else some (⟨.mk 1 .z [t,t] [],0⟩,0):=rfl
def L0{L:List Fm}{t:Tm}(a:t.err=0):hJ L (.mk 18 0 .z [t] [] []) 5:=by
 refine hJ.of (N:=0) λn n' _ _ p c h=>?_;have e:=h.pl.nv;have f:=h.pl.ctx;obtain⟨a1,a2⟩:=Tm.fj a;have hw:=t.hZ a1;rw[show n'+4=n'+3+1 from rfl,TJ,Pm,T4,h.pl.abh,tK a1 f (by omega),(has_both f e rfl a 1).2,Lp (by omega) (by omega),cz,cz,cz]
 by_cases b:mP t c.abh 1=0
 ·have d:dF c.abh t .nat:=G7 f a (.inl rfl) b;rw[cB (by rw[cR];simpa using b),gg b,b];refine j8.yes rfl rfl rfl .nil (.eq d d) ?_;rw[Fm.cI];simp only[cX];omega
 ·rw[cG (by rw[cR];exact b),iP b];exact j8.no b rfl rfl rfl
def PT(n:Nat)(c:cY)(F:Fm)(a b:Pf):c0 (n+2) c (.mk 19 0 .z [] [F] [a,b])=gd (fh (eC c.abh [.nat])<|cA (jo (fp c.abh [.nat]) F) λh=>if(dr h 0)=true then some (fx,[],h)else cN (dd n c a) λg i=>if(dr i 0)=true then some (fx,[],i)else if(dr g.cK.abd 1)=true then some (fx,[],10)else cA (c_ g.cK.cU 0) λo=>cN (dU n c b F o) λp j=>if(dr j 0)=true then some (fx,[],j)else cA (c_ g.cK.cU 1) λk=>cN (jk F k) λl m=>some (l,p,m)) λd e f=>some (d,e,f):=by
 rw[c0];show gd (oe (n+1) c (.mk 19 0 .z [] [F] [a,b])) (λd e f=>some (d,e,f))=_;rw[oe,ed];rfl
def Q6(L:List Fm)(F:Fm)(a b:Pf)(g:List Ty)(hs:List Fm):m5 L 19 0 .z [] [F] (Pf.rl L [a,b]) g hs=kc (F.sD (g++[.nat])) (pbind (Ci (a.inf L g hs) 1) λa _=>pbind (E5 (b.inf L g hs) F (a.cU.getD 0 Tm.z)) λ_ n=>kc (kO F (a.cU.getD 1 Tm.z)).2 (.inl ((kO F (a.cU.getD 1 Tm.z)).1,n))):=rfl
def Q5(n:Nat)(L:List Fm)(F:Fm)(a b:Pf)(p:cJ):nX (n+1) L (.mk 19 0 .z [] [F] [a,b]) p=cA (eG p.abh [.nat]) λj=>cA (ds FU j F) λc=>if(dr c 0)=true then some (⟨fx,0⟩,c)else cN (dx n L a p 1) λd e=>if(dr e 0)=true then some (⟨fx,0⟩,e)else cA (c_ d.cK.cU 0) λk=>cN (dz n L b p F k) λl f=>if(dr f 0)=true then some (⟨fx,0⟩,f)else cA (c_ d.cK.cU 1) λg=>cN (gJ F g) λh i=>some (⟨h,l.eS⟩,i):=by
 show iH (n+1) L (.mk 19 0 .z [] [F] [a,b]) p=_;rw[iH,mX];rfl
def KF{L:List Fm}{F:Fm}(hF:F.err=0){a b:Pf}{N:Nat}(E:hJ L a N)(G:hJ L b N):hJ L (.mk 19 0 .z [] [F] [a,b]) (N+5):=by
 refine hJ.of λn n' hn H p c h=>?_;have r:=h.pl.nv;have B:=h.pl.ctx;have I:=(Fm.fj hF).2;obtain⟨t1,t2,_⟩:=qb B.nat (by simp;omega) hF;rw[show n'+4=n'+2+2 from rfl,PT,Q6,Q5,h.pl.abh,pM Ty.fZ (by omega),cz,t1,cz,dK (by simp;omega),cL,eW,t2,cz]
 by_cases i:F.sD (c.abh++[.nat])=0
 ·have s:=i;rw[<-wy (a:=_=_),<-ne_eq,<-cR] at s;rw[cB s,cB s,gg i];have g:=qa F (Fm.fj hF).1 _ B.nat i;rcases ll (E (n+2) (n'+2) (by omega) (by omega) p c h) 1 with⟨e,he,j,k,d⟩|⟨f,m,l,j,k,d,hu,C,t⟩
  ·rw[j,k,cF,cG (by rw[cR];exact he)];rcases d with d|⟨f,l,m,d,t,rfl,_⟩
   ·rw[d,cF,cG (by rw[cR];exact he)];exact j8.no he rfl rfl rfl
   ·rw[d,cF,cB nz,cG (by rw[cR];exact t)];exact j8.no he rfl rfl rfl
  ·obtain⟨x,y,rfl,D,hy⟩:=C.ty.Xq t;have q:=C.abf;rw[Fm.cI] at q;simp only[cX] at q;have u:x.err=0:=Tm.mh D.ok (by omega);have v:y.err=0:=Tm.mh hy.ok (by omega);have w:oC c.abh F x:=⟨hF,u,.nat,g,D⟩;have o:oC c.abh F y:=⟨hF,v,.nat,g,hy⟩;rw[j,k,d,cF,cF,cB nz,cB nz,cB (by simp),eR];simp only[Fm.fv,dk,eD,gz,kf,cz,JR,NW];rcases qf r (G (n+2) (n'+1) (by omega) (by omega) p c h) w with⟨e,z,l,m,he,j,k,d,hu⟩|⟨f,m,l,j,k,d,hu⟩
   ·rw[j,k,d,cF,cF,cG (by rw[cR];exact he),cG (by rw[cR];exact he)];exact j8.no he rfl rfl rfl
   ·rw[j,k,d,cF,cF,cB nz,cB nz,eR,(o.both (by omega)).1,(o.both (by omega)).2];rcases lD F y with A|⟨J,A⟩
    ·rw[A,cF,cF,iP (by decide)];exact j8.no (by decide) rfl rfl rfl
    ·rw[A,cF,cF,gg rfl];exact j8.yes (f:=Fm.ia 0 F y) rfl rfl rfl hu o.put (by omega)
 ·rw[cG (by rw[cR];exact i),cG (by rw[cR];exact i),iP i];exact j8.no i rfl rfl rfl
def VR(f:Fm)(l:List Int):Option (Fm×List Int×Int):=
 db (λ(d:Bool)=>if d=true then some (fx,[],10)else cA (c_ f.abe 0) λa=>cA (jg f.cD a.cD) λb=>cA (gW b) λe=>if(dr e 0)=true then some (fx,[],4)else cA (c_ a.abe 0) λg=>cA (gN FU g 2 1) λh=>cA (eF 3 [v1,v0]) λi=>cN (jk h i) λj k=>cA (js 4 f.cD j) λm=>cA (js 5 b m) λn=>some (n,l,k)) λc=>if(dr f.abd 4)=true then c true else cA (c_ f.abe 0) λo=>c (dr o.abd 5)
def QC{f:Fm}{l:List Int}(h:f.abd≠4):VR f l=some (fx,[],10):=by
 have a:dr f.abd 4=true:=by rw[cR];exact h
 unfold VR;rw[cT,cG a];rfl
def Q2{s:Ty}{x:Fm}{l:List Int}(h:x.abd≠5):VR (.mk 4 s [] [x]) l=some (fx,[],10):=by
 have o:dr x.abd 5=true:=by rw[cR];exact h
 have e:VR (.mk 4 s [] [x]) l=(λ(c:Bool)=>if c=true then some (fx,[],10)else cA (c_ [x] 0) λa=>cA (jg s a.cD) λb=>cA (gW b) λd=>if(dr d 0)=true then some (fx,[],4)else cA (c_ a.abe 0) λf=>cA (gN FU f 2 1) λg=>cA (eF 3 [v1,v0]) λi=>cN (jk g i) λj k=>cA (js 4 s j) λm=>cA (js 5 b m) λn=>some (n,l,k)) (dr x.abd 5):=rfl;rw[e,o];rfl
def W8{s u:Ty}{y:Fm}{l:List Int}:VR (.mk 4 s [] [.mk 5 u [] [y]]) l=cA (jg s u) λa=>cA (gW a) λb=>if(dr b 0)=true then some (fx,[],4)else cA (gN FU y 2 1) λc=>cA (eF 3 [v1,v0]) λd=>cN (jk c d) λe f=>cA (js 4 s e) λg=>cA (js 5 a g) λh=>some (h,l,f):=rfl
def O2(n:Nat)(c:cY)(a:Pf):c0 (n+2) c (.mk 20 0 .z [] [] [a])=gd (cN (dd n c a) λf g=>if(dr g 0)=true then some (fx,[],g)else VR f.cK f.eS) λb d e=>some (b,d,e):=by
 rw[c0];show gd (mW (n+1) c (.mk 20 0 .z [] [] [a])) (λb d e=>some (b,d,e))=_;rw[mW];rfl
def Im(L:List Fm)(a:Pf)(g:List Ty)(hs:List Fm):m5 L 20 0 .z [] [] (Pf.rl L [a]) g hs=pbind (Ci (a.inf L g hs) 4) λa m=>sq ((a.abe.getD 0 fx).abd≠5) 10 (sq ((Ty.fn a.cD (a.abe.getD 0 fx).cD).err≠0) 4 (sq ((kO (((a.abe.getD 0 fx).abe.getD 0 fx).up 2 1) (gv v1 v0)).2≠0) 4 (.inl (.mk 5 (Ty.fn a.cD (a.abe.getD 0 fx).cD) [] [.mk 4 a.cD [] [(kO (((a.abe.getD 0 fx).abe.getD 0 fx).up 2 1) (gv v1 v0)).1]],m)))):=rfl
def XJ(f:Fm)(u:Int):Option (cE×Int):=
 cA (c_ f.abe 0) λa=>if(dr a.abd 5)=true then some (⟨fx,0⟩,10)else cA (my a.cD [f.cD]) λb=>cA (c_ a.abe 0) λd=>cA (dY d 2 1) λe=>cA (gf 1) λg=>cA (gf 0) λh=>cA (pQ g [h]) λi=>cN (gJ e i) λj k=>db (λ(l:Bool)=>if l=true then some (⟨fx,0⟩,4)else cA (il 4 f.cD j) λm=>cA (il 5 b m) λn=>some (⟨n,u⟩,0)) λc=>if(dr k 0)=true then c true else cA (kq b) λo=>c (dr o 0)
def QI{s:Ty}{x:Fm}{u:Int}(h:x.abd≠5):XJ (.mk 4 s [] [x]) u=some (⟨fx,0⟩,10):=by
 have a:dr x.abd 5=true:=by rw[cR];exact h
 unfold XJ;simp only[Fm.cZ,dk,gz,cz];rw[cG a]
def Nl(n:Nat)(L:List Fm)(a:Pf)(p:cJ):nX (n+1) L (.mk 20 0 .z [] [] [a]) p=cN (dx n L a p 4) λb c=>if(dr c 0)=true then some (⟨fx,0⟩,c)else XJ b.cK b.eS:=by
 show ib (n+1) L (.mk 20 0 .z [] [] [a]) p=_;rw[ib];simp only[Pf.cZ,dk,gz,cz];rfl
def W6{s u:Ty}{y b:Fm}{m:Int}{q:Fm×Int}(v:dY y 2 1=some b)(x:gJ b (gv v1 v0)=some q)(z:kq (.fn s u)=some (Ty.fn s u).err):XJ (.mk 4 s [] [.mk 5 u [] [y]]) m=if q.2=0/\(Ty.fn s u).err=0 then some (⟨.mk 5 (.fn s u) [] [.mk 4 s [] [q.1]],m⟩,0)else some (⟨fx,0⟩,4):=by
 obtain⟨w,e⟩:=q
 have A:XJ (.mk 4 s [] [.mk 5 u [] [y]]) m=cA (my u [s]) λa=>cA (dY y 2 1) λf=>cA (gf 1) λg=>cA (gf 0) λi=>cA (pQ g [i]) λj=>cN (gJ f j) λk l=>db (λ(n:Bool)=>if n=true then some (⟨fx,0⟩,4)else cA (il 4 s k) λo=>cA (il 5 a o) λp=>some (⟨p,m⟩,0)) λc=>if(dr l 0)=true then c true else cA (kq a) λr=>c (dr r 0):=by
  rfl
 rw[A,MY,cz,v,cz,show gf 1=some v1 from rfl,cz,show gf 0=some v0 from rfl,cz,zh,cz,show Tm.mk 3 0 (.mk 0 []) [v1,v0]=gv v1 v0 from rfl,x,cF,cT,z,cz]
 by_cases he:e=0
 ·subst he;rw[cB nz]
  by_cases d:(Ty.fn s u).err=0
  ·have t:dr (Ty.fn s u).err 0=false:=by rw[d];rfl
   rw[t,cG ⟨rfl,d⟩];rfl
  ·have t:dr (Ty.fn s u).err 0=true:=by rw[cR];exact d
   rw[t,cB (λh=>d h.2)];rfl
 ·rw[cG (by rw[cR];exact he),cB (λh=>he h.1)];rfl
def H7{L:List Fm}{a:Pf}{N:Nat}(E:hJ L a N):hJ L (.mk 20 0 .z [] [] [a]) (N+5):=by
 refine hJ.of λn n' hn F p c h=>?_;have G:=h.pl.nv;rw[show n'+4=n'+2+2 from rfl,O2,Im,Nl];rcases ll (E (n+2) (n'+2) (by omega) (by omega) p c h) 4 with⟨e,he,k,o,i⟩|⟨f,m,l,k,o,i,hu,C,r⟩
 ·rw[k,o,cF,cG (by rw[cR];exact he)];rcases i with i|⟨f,l,m,i,r,rfl,_⟩
  ·rw[i,cF,cG (by rw[cR];exact he)];exact j8.no he rfl rfl rfl
  ·rw[i,cF,cB nz,QC r];exact j8.no he rfl rfl rfl
 ·obtain⟨s,x,rfl,hs,D⟩:=C.ty.BC r (.inl rfl);have t:=C.sub (x:=x) (by simp) D;rw[k,o,i,cF,cF,cB nz,cB nz,eR]
  by_cases d:x.abd=5
  ·obtain⟨u,y,rfl,v,hy⟩:=D.BC d (.inr (.inl rfl));have g:=t.sub (x:=y) (by simp) hy;have H:=dM hs;have I:=dM v;have J:=g.abf
   have K:(Ty.fn s u).abf<=1000:=by rw[Ty.hP];omega
   have j:y.abj 1000000000=true:=hy.abj _ (by simp;omega);have M:dY y 2 1=some (y.up 2 1):=(rk g.err j (f:=2) (c:=1) (by omega) (by omega)).1;have O:gN FU y 2 1=some (y.up 2 1):=(rk g.err j (f:=2) (c:=1) (by omega) (by omega)).2
   have w:oC (c.abh++[.fn s u]++[s]) (y.up 2 1) (gv v1 v0):=⟨GZ g.err (by omega) (by omega),by decide,u,by
    have:=hy.up c.abh [s,u] [.fn s u] (by simp)
    simpa using this,.app FD vB⟩
   obtain⟨P,Q⟩:=w.both (by simp;omega);have R:=Kr;have hw:=Fm.hZ _ w.put.ok;simp only[Fm.cZ,Fm.dI,Fm.df,JR];rw[jq (by decide),W6 M P (vL (by omega)),W8,gq (by omega) (by omega),cz,kF (by omega),cz]
   by_cases b:(Ty.fn s u).err=0
   ·have A:¬dr (Ty.fn s u).err 0=true:=by rw[cR];simpa using b
    rw[cB A,jq (by simpa using b),O,cz,show eF 3 [v1,v0]=some (gv v1 v0)from sH (by decide) (by decide),cz,Q];rcases lD (y.up 2 1) (gv v1 v0)with B|⟨S,B⟩
    ·rw[B,cB (λh=>by cases h.1),cF,jX (by decide),EK (by omega) (by omega),cz];rw[EK (by omega) (by rw[Fm.gh];simp only[cX];omega),cz];exact j8.no (by decide) rfl rfl rfl
    ·rw[B,cG ⟨rfl,b⟩,cF,jq (λh=>h rfl),EK (by omega) (by omega),cz];rw[EK (by omega) (by rw[Fm.gh];simp only[cX];omega),cz];refine j8.yes (f:=.mk 5 (.fn s u) [] [.mk 4 s [] [Fm.ia 0 (y.up 2 1) (gv v1 v0)]]) rfl rfl rfl hu (.q (.inr (.inl rfl)) b (.q (.inl rfl) hs w.put)) ?_;rw[Fm.cI];simp only[cX];rw[Fm.cI];simp only[cX];omega
   ·have A:dr (Ty.fn s u).err 0=true:=by rw[cR];exact b
    rw[cG A,jX b,cB (λh=>b h.2)];exact j8.no (by decide) rfl rfl rfl
  ·simp only[Fm.cZ,JR];rw[QI d,Q2 d,jX d];exact j8.no (by decide) rfl rfl rfl
inductive w6:Pf->Prop
 |hyp {i}:0<=i->w6 (.mk 1 i .z [] [] [])|L4 {i}:0<=i->w6 (.mk 2 i .z [] [] [])|XG {a b}:w6 a->w6 b->w6 (.mk 3 0 .z [] [] [a,b])|and {k a}:k=4\/k=5->w6 a->w6 (.mk k 0 .z [] [] [a])|W4 {F a}:F.err=0->w6 a->w6 (.mk 6 0 .z [] [F] [a])|W5 {a b}:w6 a->w6 b->w6 (.mk 7 0 .z [] [] [a,b])|all {k s a}:k=8\/k=12->s.err=0->w6 a->w6 (.mk k 0 s [] [] [a])|ZY {k t a}:k=9\/k=13->t.err=0->w6 a->w6 (.mk k 0 .z [t] [] [a])|ex {k t F a}:k=10\/k=14->t.err=0->F.err=0->w6 a->w6 (.mk k 0 .z [t] [F] [a])|opn {k a b}:k=11\/k=15->w6 a->w6 b->w6 (.mk k 0 .z [] [] [a,b])|ind {k t F a b}:k=16\/k=17->t.err=0->F.err=0->w6 a->w6 b->w6 (.mk k 0 .z [t] [F] [a,b])|refl {t}:t.err=0->w6 (.mk 18 0 .z [t] [] [])|subst {F a b}:F.err=0->w6 a->w6 b->w6 (.mk 19 0 .z [] [F] [a,b])|choice {a}:w6 a->w6 (.mk 20 0 .z [] [] [a])
mutual
def Pf.vn:Pf->Nat
 |.mk _ _ _ _ _ l=>1+Pf.sA l
def Pf.sA:List Pf->Nat
 |[]=>0|p::l=>p.vn+Pf.sA l
end
def hJ.mono{L:List Fm}{P:Pf}{N M:Nat}(h:hJ L P N)(a:N<=M):hJ L P M:=λn n' b c=>h n n' (by omega) (by omega)
def N5{L:List Fm}{P:Pf}(h:w6 P):hJ L P (5*P.vn):=by
 induction h with
 |hyp hi=>exact NP hi|L4 hi=>exact Ph hi|XG _ _ a b=>exact(LV (a.mono (W2 _ _)) (b.mono (WU _ _))).mono (by simp only[Pf.vn,Pf.sA];omega)|and c _ a=>
  rcases c with rfl|rfl
  ·exact(MQ a).mono (by simp only[Pf.vn,Pf.sA];omega)
  ·exact(L2 a).mono (by simp only[Pf.vn,Pf.sA];omega)
 |W4 hF _ a=>exact(MA hF a).mono (by simp only[Pf.vn,Pf.sA];omega)|W5 _ _ a b=>exact(LU (a.mono (W2 _ _)) (b.mono (WU _ _))).mono (by simp only[Pf.vn,Pf.sA];omega)|all c hs _ a=>
  rcases c with rfl|rfl
  ·exact(Mx hs a).mono (by simp only[Pf.vn,Pf.sA];omega)
  ·exact(JM hs a).mono (by simp only[Pf.vn,Pf.sA];omega)
 |ZY c d _ a=>
  rcases c with rfl|rfl
  ·exact(NJ d a).mono (by simp only[Pf.vn,Pf.sA];omega)
  ·exact(LS d a).mono (by simp only[Pf.vn,Pf.sA];omega)
 |ex c d hF _ a=>
  rcases c with rfl|rfl
  ·exact(MV d hF a).mono (by simp only[Pf.vn,Pf.sA];omega)
  ·exact(L1 d hF a).mono (by simp only[Pf.vn,Pf.sA];omega)
 |opn c _ _ a b=>
  rcases c with rfl|rfl
  ·exact(Jd (a.mono (W2 _ _)) (b.mono (WU _ _))).mono (by simp only[Pf.vn,Pf.sA];omega)
  ·exact(Jg (a.mono (W2 _ _)) (b.mono (WU _ _))).mono (by simp only[Pf.vn,Pf.sA];omega)
 |ind c d hF _ _ a b=>
  rcases c with rfl|rfl
  ·exact(KI d hF (a.mono (W2 _ _)) (b.mono (WU _ _))).mono (by simp only[Pf.vn,Pf.sA];omega)
  ·exact(JE d hF (a.mono (W2 _ _)) (b.mono (WU _ _))).mono (by simp only[Pf.vn,Pf.sA];omega)
 |refl d=>exact L0 d|subst hF _ _ a b=>exact(KF hF (a.mono (W2 _ _)) (b.mono (WU _ _))).mono (by simp only[Pf.vn,Pf.sA];omega)|choice _ a=>exact(H7 a).mono (by simp only[Pf.vn,Pf.sA];omega)
mutual
def Pf.abf:Pf->Nat
 |.mk _ _ _ ts a l=>1+cX Tm.abf ts+cX Fm.abf a+Pf.lP l
def Pf.lP:List Pf->Nat
 |[]=>0|p::l=>p.abf+Pf.lP l
end
def Pf.o0:∀l:List Pf,Pf.lP l=cX Pf.abf l
 |[]=>by rw[Pf.lP];rfl|p::l=>by rw[Pf.lP,Pf.o0 l];rfl
def Pf.cI(k i:Int)(s:Ty)(ts:List Tm)(a:List Fm)(l:List Pf):(Pf.mk k i s ts a l).abf=1+cX Tm.abf ts+cX Fm.abf a+cX Pf.abf l:=by rw[Pf.abf,Pf.o0]
mutual
def Pf.wt:Pf->Nat
 |.mk _ _ s ts a l=>1+s.abf+cX Tm.wt ts+cX Fm.wt a+Pf.JJ l
def Pf.JJ:List Pf->Nat
 |[]=>0|p::l=>p.wt+Pf.JJ l
end
def Pf.Ap:∀l:List Pf,Pf.JJ l=cX Pf.wt l
 |[]=>by rw[Pf.JJ];rfl|p::l=>by rw[Pf.JJ,Pf.Ap l];rfl
def Pf.gh(k i:Int)(s:Ty)(ts:List Tm)(a:List Fm)(l:List Pf):(Pf.mk k i s ts a l).wt=1+s.abf+cX Tm.wt ts+cX Fm.wt a+cX Pf.wt l:=by rw[Pf.wt,Pf.Ap]
def Pf.gU(p:Pf):1<=p.wt:=by cases p;rw[Pf.gh];omega
def Pf.ind{p:Pf->Prop}(h:∀k i s ts a l,(∀t∈l,p t)->p (.mk k i s ts a l))(t:Pf):p t:=by
 match t with
 |.mk k i s ts a l=>exact h k i s ts a l λx b=>Pf.ind h x
termination_by SizeOf.sizeOf t
decreasing_by
 have:=XL b;simp only[Pf.mk.sizeOf_spec];omega
def Pf.gj(p:Pf):p.abf<=p.wt:=by
 induction p using Pf.ind with
 |h k i s ts a l b=>
  rw[Pf.cI,Pf.gh];have c:=jc (l:=ts) (λx _=>Tm.gj x);have d:=jc (l:=a) (λx _=>Fm.gj x);have e:=jc (l:=l) b;omega
def Pf.sig(k:Int):Option (Bool×Bool×Nat×Nat×Nat):=
 if k=1\/k=2 then some (true,false,0,0,0)
 else if k=3\/k=7\/k=11\/k=15 then some (false,false,0,0,2)
 else if k=4\/k=5\/k=20 then some (false,false,0,0,1)
 else if k=6 then some (false,false,0,1,1)
 else if k=8\/k=12 then some (false,true,0,0,1)
 else if k=9\/k=13 then some (false,false,1,0,1)
 else if k=10\/k=14 then some (false,false,1,1,1)
 else if k=16\/k=17 then some (false,false,1,1,2)
 else if k=18 then some (false,false,1,0,0)
 else if k=19 then some (false,false,0,1,2)
 else none
def Pf.node(k i:Int)(s:Ty)(d nf e:Nat):Bool:=
 match Pf.sig k with
 |none=>false|some (f,ty,a,b,c)=>decide (d=a)&&decide (nf=b)&&decide (e=c)&&decide (0<=i)&&(f||decide (i=0))&&(if ty=true then decide (s.err=0)else s.nY)
mutual
def Pf.ok:Pf->Bool
 |.mk k i s ts a l=>Pf.node k i s ts.length a.length l.length&&ts.all Tm.ok&&a.all Fm.ok&&Pf.F7 l
def Pf.F7:List Pf->Bool
 |[]=>true|p::l=>p.ok&&Pf.F7 l
end
def Pf.wo:∀l:List Pf,Pf.F7 l=l.all Pf.ok
 |[]=>by rw[Pf.F7];rfl|p::l=>by rw[Pf.F7,Pf.wo l];rfl
def Pf.fa(k i:Int)(s:Ty)(ts:List Tm)(a:List Fm)(l:List Pf):(Pf.mk k i s ts a l).ok=(Pf.node k i s ts.length a.length l.length&&ts.all Tm.ok&&a.all Fm.ok&&l.all Pf.ok):=by rw[Pf.ok,Pf.wo]
def LM(t:Tm):Bool:=decide (t.abf<=4096)
def MF(f:Fm):Bool:=decide (f.abf<=4096)
mutual
def Pf.small:Pf->Bool
 |.mk _ _ _ ts a l=>ts.all LM&&a.all MF&&Pf.DU l
def Pf.DU:List Pf->Bool
 |[]=>true|p::l=>p.small&&Pf.DU l
end
def Pf.F1:∀l:List Pf,Pf.DU l=l.all Pf.small
 |[]=>by rw[Pf.DU];rfl|p::l=>by rw[Pf.DU,Pf.F1 l];rfl
def Pf.pY(k i:Int)(s:Ty)(ts:List Tm)(a:List Fm)(l:List Pf):(Pf.mk k i s ts a l).small=(ts.all LM&&a.all MF&&l.all Pf.small):=by rw[Pf.small,Pf.F1]
def Pf.err(p:Pf):Int:=if p.ok=true then(if p.small=true/\p.abf<=16384 then 0 else 4)else 2
def R9{k:Int}(h:Pf.sig k≠none):k=1\/k=2\/k=3\/k=4\/k=5\/k=6\/k=7\/k=8\/k=9\/k=10\/k=11\/k=12\/k=13\/k=14\/k=15\/k=16\/k=17\/k=18\/k=19\/k=20:=by
 refine Jz λhn=>h ?_;unfold Pf.sig;simp only[not_or] at hn;rw[cB (by omega),cB (by omega),cB (by omega),cB (by omega),cB (by omega),cB (by omega),cB (by omega),cB (by omega),cB (by omega),cB (by omega)]
def I7{k:Int}(h:k<1\/20<k):Pf.sig k=none:=by
 unfold Pf.sig;rw[cB (by omega),cB (by omega),cB (by omega),cB (by omega),cB (by omega),cB (by omega),cB (by omega),cB (by omega),cB (by omega),cB (by omega)]
def MK(k:Int):(Pf.sig k=none/\∃r,m7 k=some (r,false))\/∃d ty a b c r,Pf.sig k=some (d,ty,a,b,c)/\m7 k=some (r,true)/\r.abg=d/\r.typed=ty/\r.cU=((a:Nat):Int)/\r.ef=((b:Nat):Int)/\r.abe=((c:Nat):Int):=by
 by_cases h:k<1\/20<k
 ·refine .inl ⟨I7 h,?_⟩;unfold m7;rw[cG (by rw[jN,ni,lL,gP];omega)];exact⟨_,rfl⟩
 ·have e:k=1\/k=2\/k=3\/k=4\/k=5\/k=6\/k=7\/k=8\/k=9\/k=10\/k=11\/k=12\/k=13\/k=14\/k=15\/k=16\/k=17\/k=18\/k=19\/k=20:=by omega
  refine .inr ?_;rcases e with rfl|rfl|rfl|rfl|rfl|rfl|rfl|rfl|rfl|rfl|rfl|rfl|rfl|rfl|rfl|rfl|rfl|rfl|rfl|rfl<;>exact⟨_,_,_,_,_,_,rfl,rfl,rfl,rfl,rfl,rfl,rfl⟩
def J5(k:Int):(Pf.sig k=none/\∃r,qL k=some (r,false))\/∃d ty a b c r,Pf.sig k=some (d,ty,a,b,c)/\qL k=some (r,true)/\r.abg=d/\r.nU=ty/\r.cU=((a:Nat):Int)/\r.ef=((b:Nat):Int)/\r.abe=((c:Nat):Int):=by
 by_cases h:k<1\/20<k
 ·refine .inl ⟨I7 h,?_⟩;unfold qL;simp only[jN,ni,eH];rw[cB (by omega),cB (by omega),cB (by omega),cB (by omega),cB (by omega),cB (by omega),cB (by omega),cB (by omega),cB (by omega),cB (by omega),cB (by omega)];exact⟨_,rfl⟩
 ·have e:k=1\/k=2\/k=3\/k=4\/k=5\/k=6\/k=7\/k=8\/k=9\/k=10\/k=11\/k=12\/k=13\/k=14\/k=15\/k=16\/k=17\/k=18\/k=19\/k=20:=by omega
  refine .inr ?_;rcases e with rfl|rfl|rfl|rfl|rfl|rfl|rfl|rfl|rfl|rfl|rfl|rfl|rfl|rfl|rfl|rfl|rfl|rfl|rfl|rfl<;>exact⟨_,_,_,_,_,_,rfl,rfl,rfl,rfl,rfl,rfl,rfl⟩
def iL{k i:Int}{s:Ty}{f nf g:Nat}(h:Pf.node k i s f nf g=true){j ty:Bool}{a b c:Nat}(hs:Pf.sig k=some (j,ty,a,b,c)):(f:Int)=a/\(nf:Int)=b/\(g:Int)=c/\0<=i/\(j=false->i=0)/\(ty=true->s.err=0)/\(ty=false->s=.mk 0 []):=by
 unfold Pf.node at h;rw[hs] at h;simp only[eJ,kR,ni] at h;obtain⟨⟨⟨⟨⟨o,p⟩,q⟩,l⟩,m⟩,d⟩:=h;refine⟨by omega,by omega,by omega,l,λn=>m.resolve_left (by simp[n]),λe=>?_,λe=>?_⟩
 ·rw[cG e] at d;simpa using d
 ·rw[cB (by simp[e])] at d;exact(Ty.kv s).1 d
def Pf.w(p:Pf):p.ok=true->p.small=true->w6 p:=by
 induction p using Pf.ind with
 |h k i s ts D l y=>
  intro v hs;rw[Pf.fa] at v;rw[Pf.pY] at hs;simp only[eJ,jr] at v hs;obtain⟨⟨⟨m,z⟩,A⟩,B⟩:=v;obtain⟨⟨s1,s2⟩,C⟩:=hs;have r:∀t∈ts,t.err=0:=λt q=>Tm.mh (z t q) (by have:=s1 t q;simpa[LM] using this)
  have u:∀f∈D,f.err=0:=λf q=>by
   have:=s2 f q;simp only[MF,kR] at this;unfold Fm.err;rw[cG (A f q),cB (by omega)]
  have j:∀x∈l,w6 x:=λx q=>y x q (B x q) (C x q);clear y z A B s1 s2 C;have E:=R9 (k:=k) (λhn=>by unfold Pf.node at m;rw[hn] at m;cases m);rcases E with rfl|rfl|rfl|rfl|rfl|rfl|rfl|rfl|rfl|rfl|rfl|rfl|rfl|rfl|rfl|rfl|rfl|rfl|rfl|rfl
  ·obtain⟨q1,c,d,n,e,o,g⟩:=iL m rfl;obtain rfl:=e9.1 q1;obtain rfl:=e9.1 c;obtain rfl:=e9.1 d;obtain rfl:=g rfl;exact .hyp n
  ·obtain⟨q1,c,d,n,e,o,g⟩:=iL m rfl;obtain rfl:=e9.1 q1;obtain rfl:=e9.1 c;obtain rfl:=e9.1 d;obtain rfl:=g rfl;exact .L4 n
  ·obtain⟨q1,c,d,n,e,o,g⟩:=iL m rfl;obtain rfl:=e9.1 q1;obtain rfl:=e9.1 c;obtain⟨a,b,rfl⟩:=nW d;obtain rfl:=e rfl;obtain rfl:=g rfl;exact .XG (j a (by simp)) (j b (by simp))
  ·obtain⟨q1,c,d,n,e,o,g⟩:=iL m rfl;obtain rfl:=e9.1 q1;obtain rfl:=e9.1 c;obtain⟨a,rfl⟩:=h_ d;obtain rfl:=e rfl;obtain rfl:=g rfl;exact .and (.inl rfl) (j a (by simp))
  ·obtain⟨q1,c,d,n,e,o,g⟩:=iL m rfl;obtain rfl:=e9.1 q1;obtain rfl:=e9.1 c;obtain⟨a,rfl⟩:=h_ d;obtain rfl:=e rfl;obtain rfl:=g rfl;exact .and (.inr rfl) (j a (by simp))
  ·obtain⟨q1,c,d,n,e,o,g⟩:=iL m rfl;obtain rfl:=e9.1 q1;obtain⟨F,rfl⟩:=h_ c;obtain⟨a,rfl⟩:=h_ d;obtain rfl:=e rfl;obtain rfl:=g rfl;exact .W4 (u F (by simp)) (j a (by simp))
  ·obtain⟨q1,c,d,n,e,o,g⟩:=iL m rfl;obtain rfl:=e9.1 q1;obtain rfl:=e9.1 c;obtain⟨a,b,rfl⟩:=nW d;obtain rfl:=e rfl;obtain rfl:=g rfl;exact .W5 (j a (by simp)) (j b (by simp))
  ·obtain⟨q1,c,d,n,e,o,g⟩:=iL m rfl;obtain rfl:=e9.1 q1;obtain rfl:=e9.1 c;obtain⟨a,rfl⟩:=h_ d;obtain rfl:=e rfl;exact .all (.inl rfl) (o rfl) (j a (by simp))
  ·obtain⟨q1,c,d,n,e,o,g⟩:=iL m rfl;obtain⟨t,rfl⟩:=h_ q1;obtain rfl:=e9.1 c;obtain⟨a,rfl⟩:=h_ d;obtain rfl:=e rfl;obtain rfl:=g rfl;exact .ZY (.inl rfl) (r t (by simp)) (j a (by simp))
  ·obtain⟨q1,c,d,n,e,o,g⟩:=iL m rfl;obtain⟨t,rfl⟩:=h_ q1;obtain⟨F,rfl⟩:=h_ c;obtain⟨a,rfl⟩:=h_ d;obtain rfl:=e rfl;obtain rfl:=g rfl;exact .ex (.inl rfl) (r t (by simp)) (u F (by simp)) (j a (by simp))
  ·obtain⟨q1,c,d,n,e,o,g⟩:=iL m rfl;obtain rfl:=e9.1 q1;obtain rfl:=e9.1 c;obtain⟨a,b,rfl⟩:=nW d;obtain rfl:=e rfl;obtain rfl:=g rfl;exact .opn (.inl rfl) (j a (by simp)) (j b (by simp))
  ·obtain⟨q1,c,d,n,e,o,g⟩:=iL m rfl;obtain rfl:=e9.1 q1;obtain rfl:=e9.1 c;obtain⟨a,rfl⟩:=h_ d;obtain rfl:=e rfl;exact .all (.inr rfl) (o rfl) (j a (by simp))
  ·obtain⟨q1,c,d,n,e,o,g⟩:=iL m rfl;obtain⟨t,rfl⟩:=h_ q1;obtain rfl:=e9.1 c;obtain⟨a,rfl⟩:=h_ d;obtain rfl:=e rfl;obtain rfl:=g rfl;exact .ZY (.inr rfl) (r t (by simp)) (j a (by simp))
  ·obtain⟨q1,c,d,n,e,o,g⟩:=iL m rfl;obtain⟨t,rfl⟩:=h_ q1;obtain⟨F,rfl⟩:=h_ c;obtain⟨a,rfl⟩:=h_ d;obtain rfl:=e rfl;obtain rfl:=g rfl;exact .ex (.inr rfl) (r t (by simp)) (u F (by simp)) (j a (by simp))
  ·obtain⟨q1,c,d,n,e,o,g⟩:=iL m rfl;obtain rfl:=e9.1 q1;obtain rfl:=e9.1 c;obtain⟨a,b,rfl⟩:=nW d;obtain rfl:=e rfl;obtain rfl:=g rfl;exact .opn (.inr rfl) (j a (by simp)) (j b (by simp))
  ·obtain⟨q1,c,d,n,e,o,g⟩:=iL m rfl;obtain⟨t,rfl⟩:=h_ q1;obtain⟨F,rfl⟩:=h_ c;obtain⟨a,b,rfl⟩:=nW d;obtain rfl:=e rfl;obtain rfl:=g rfl;exact .ind (.inl rfl) (r t (by simp)) (u F (by simp)) (j a (by simp)) (j b (by simp))
  ·obtain⟨q1,c,d,n,e,o,g⟩:=iL m rfl;obtain⟨t,rfl⟩:=h_ q1;obtain⟨F,rfl⟩:=h_ c;obtain⟨a,b,rfl⟩:=nW d;obtain rfl:=e rfl;obtain rfl:=g rfl;exact .ind (.inr rfl) (r t (by simp)) (u F (by simp)) (j a (by simp)) (j b (by simp))
  ·obtain⟨q1,c,d,n,e,o,g⟩:=iL m rfl;obtain⟨t,rfl⟩:=h_ q1;obtain rfl:=e9.1 c;obtain rfl:=e9.1 d;obtain rfl:=e rfl;obtain rfl:=g rfl;exact .refl (r t (by simp))
  ·obtain⟨q1,c,d,n,e,o,g⟩:=iL m rfl;obtain rfl:=e9.1 q1;obtain⟨F,rfl⟩:=h_ c;obtain⟨a,b,rfl⟩:=nW d;obtain rfl:=e rfl;obtain rfl:=g rfl;exact .subst (u F (by simp)) (j a (by simp)) (j b (by simp))
  ·obtain⟨q1,c,d,n,e,o,g⟩:=iL m rfl;obtain rfl:=e9.1 q1;obtain rfl:=e9.1 c;obtain⟨a,rfl⟩:=h_ d;obtain rfl:=e rfl;obtain rfl:=g rfl;exact .choice (j a (by simp))
structure TR (d d':cO) (s:Bool) (n:Nat):Prop where
 lo:d.abf<=d'.abf
 hi:d'.abf<=d.abf+n
 eq:s=true->d'.abf=d.abf+n
 fP:d'.fP=(d.fP||!s)
def TR.trans{d c a:cO}{s e:Bool}{n n':Nat}(h:TR d c s n)(b:TR c a e n'):TR d a (s&&e) (n+n'):=by
 refine⟨by have:=h.lo;have:=b.lo;omega,by have:=h.hi;have:=b.hi;omega,λhs=>?_,?_⟩
 ·rw[eJ] at hs;have:=h.eq hs.1;have:=b.eq hs.2;omega
 ·rw[b.fP,h.fP,Bool.not_and,Bool.or_assoc]
def uV{α:Type}{F:Int->α->cO->Option (eA cO (Bool×cO))}(ok small:α->Bool)(sz:α->Nat):∀(l:List α) (i:Nat) (d:cO),0<=d.abf->d.abf+cX sz l<=4000000000->(∀(j:Int) (x:α) (d:cO),x∈l->0<=d.abf->d.abf+sz x<=4000000000->if ok x=true then∃a,F j x d=some (.next a)/\TR d a (small x) (sz x)else∃a,F j x d=some (.ret (false,a)))->if l.all ok=true then∃a,dH F l i d=some (.inl a)/\TR d a (l.all small) (cX sz l)else∃a,dH F l i d=some (.inr (false,a))
 |[],i,d,_,_,_=>⟨d,rfl,⟨by omega,by simp[cX],λ_=>by simp[cX],by simp⟩⟩|x::l,i,d,m,n,h=>by
  simp only[cX] at n;have b:=h i x d (by simp) m (by omega);rw[uw,uw]
  by_cases c:ok x=true
  ·rw[cG c] at b;obtain⟨d1,g,k⟩:=b;have e:=uV ok small sz l (i+1) d1 (by have:=k.lo;omega) (by have:=k.hi;omega) (λj y d hy=>h j y d (by simp[hy]));rw[dC,g];simp only[cz,dL,cX]
   by_cases f:l.all ok=true
   ·rw[cG f] at e;obtain⟨d2,o,p⟩:=e;rw[cG (by rw[eJ];exact⟨c,f⟩)];exact⟨d2,o,k.trans p⟩
   ·rw[cB f] at e;rw[cB (by rw[eJ];exactλh=>f h.2)];exact e
  ·rw[cB c] at b;obtain⟨d1,g⟩:=b;rw[cB (by rw[eJ];exactλh=>c h.1),dC,g];exact⟨d1,rfl⟩
def AO{d:cO}{n e:Int}(a:-1000000000000<=d.abf+n)(b:d.abf+n<=1000000000000):fJ d n e=some (dr e 2,⟨d.abf+n,d.fP||de e 4⟩):=by
 unfold fJ;rw[dJ (by omega) (by omega)];cases d.fP<;>rfl
def Tm.zW(t:Tm):t.err=2/\t.ok=false\/t.ok=true/\LM t=true/\t.err=0\/t.ok=true/\LM t=false/\t.err=4:=by
 unfold Tm.err LM;cases h:t.ok with
 |false=>exact .inl ⟨by simp,rfl⟩|true=>
  by_cases hn:4096<t.abf
  ·exact .inr (.inr ⟨rfl,by simpa using hn,by rw[cG rfl,cG hn]⟩)
  ·exact .inr (.inl ⟨rfl,by simp;omega,by rw[cG rfl,cB hn]⟩)
def Fm.zW(t:Fm):t.err=2/\t.ok=false\/t.ok=true/\MF t=true/\t.err=0\/t.ok=true/\MF t=false/\t.err=4:=by
 unfold Fm.err MF;cases h:t.ok with
 |false=>exact .inl ⟨by simp,rfl⟩|true=>
  by_cases hn:4096<t.abf
  ·exact .inr (.inr ⟨rfl,by simpa using hn,by rw[cG rfl,cG hn]⟩)
  ·exact .inr (.inl ⟨rfl,by simp;omega,by rw[cG rfl,cB hn]⟩)
def DO{sz:Nat}{e:Int}{ok small:Bool}(c:e=2/\ok=false\/ok=true/\small=true/\e=0\/ok=true/\small=false/\e=4)(hs:sz<=1000000000){d:cO}(f:0<=d.abf)(g:d.abf+sz<=4000000000):if ok=true then∃b,(cN (fJ d (if e=0 then(sz:Int)else 0) e) λa d179=>if a=true then some (.next d179)else some ((.ret (false,d179)):eA cO (Bool×cO)))=some (.next b)/\TR d b small sz else∃b,(cN (fJ d (if e=0 then(sz:Int)else 0) e) λa d179=>if a=true then some (.next d179)else some ((.ret (false,d179)):eA cO (Bool×cO)))=some (.ret (false,b)):=by
 rcases c with⟨rfl,rfl⟩|⟨rfl,rfl,rfl⟩|⟨rfl,rfl,rfl⟩
 ·rw[cB (by decide),cB (by decide),AO (by omega) (by omega),cF,cB (by decide)];exact⟨_,rfl⟩
 ·rw[cG rfl,cG rfl,AO (by omega) (by omega),cF,cG (by decide)];refine⟨_,rfl,⟨?_,?_,λ_=>rfl,?_⟩⟩
  ·show d.abf<=d.abf+sz;omega
  ·exact Ki _
  ·show(d.fP||de 0 4)=(d.fP||!true);rfl
 ·rw[cG rfl,cB (by decide),AO (by omega) (by omega),cF,cG (by decide)];refine⟨_,rfl,⟨?_,?_,λh=>by(cases h),?_⟩⟩
  ·show d.abf<=d.abf+0;omega
  ·show d.abf+0<=d.abf+sz;omega
  ·show(d.fP||de 4 4)=(d.fP||!false);rfl
def Dm{d:Bool}{i a b c e nf f:Int}:ew true (ew (rv i 0) true (ew (dr i 0) (ew d (ew (dr e a) true (ew (dr nf b) true (dr f c))) true) (ew (dr e a) true (ew (dr nf b) true (dr f c))))) true=true↔¬(e=a/\nf=b/\f=c/\0<=i/\(d=true\/i=0)):=by
 rw[tP,jN]
 by_cases g:i=0
 ·subst g;rw[show dr 0 0=false from rfl,uo];simp only[jN,ni,lL,cR,or_true,nC];omega
 ·rw[show dr i 0=true by rw[cR];exact g,tP];cases d with
  |true=>
   simp only[tP,jN,ni,lL,cR,true_or,nC];omega
  |false=>
   simp only[uo,Bool.or_true,Om];rintro⟨_,_,_,_,h|h⟩
   ·cases h
   ·exact g h
def Dn{d:Bool}{i a b c e nf f:Int}:ew true (ew (dr e a) true (ew (dr nf b) true (ew (dr f c) true (ew (rv i 0) true (ew d false (dr i 0)))))) true=true↔¬(e=a/\nf=b/\f=c/\0<=i/\(d=true\/i=0)):=by
 cases d with
 |true=>
  simp only[tP,jN,ni,lL,cR,true_or,nC,qJ,Oz];omega
 |false=>
  simp only[tP,uo,jN,ni,lL,cR,qJ,false_or];omega
def M5(ty:Bool)(s:Ty):Bool:=if ty=true then decide (s.err=0)else s.nY
def Cu{k i:Int}{s:Ty}{g nf h:Nat}{j ty:Bool}{a b c:Nat}(hs:Pf.sig k=some (j,ty,a,b,c)):Pf.node k i s g nf h=true↔((g:Int)=a/\(nf:Int)=b/\(h:Int)=c/\0<=i/\(j=true\/i=0))/\M5 ty s=true:=by
 unfold Pf.node M5;rw[hs];simp only[eJ,kR,ni];constructor
 ·rintro⟨⟨⟨⟨⟨l,m⟩,n⟩,d⟩,e⟩,f⟩;exact⟨⟨by omega,by omega,by omega,d,e⟩,f⟩
 ·rintro⟨⟨l,m,n,d,e⟩,f⟩;exact⟨⟨⟨⟨⟨by omega,by omega⟩,by omega⟩,d⟩,e⟩,f⟩
def TG(d:cO)(A s:Bool)(n:Nat)(o:Option (Bool×cO)):Prop:=(A=true->∃a,o=some (true,a)/\TR d a s n)/\(A=false->∃a,o=some (false,a))
def TG.no{d a:cO}{A s:Bool}{n:Nat}(h:A=false):TG d A s n (some (false,a)):=⟨λb=>(by rw[h] at b;cases b),λ_=>⟨a,rfl⟩⟩
def MP(n:Nat)(d:cO)(k i:Int)(s:Ty)(ts:List Tm)(g:List Fm)(l:List Pf):gy (n+1) d (.mk k i s ts g l)=(cN (m7 k) λe G=>
 if(ew G (ew (rv i 0) true (ew (dr i 0) (ew e.abg (ew (dr (dm ts) e.cU) true (ew (dr (dm g) e.ef) true (dr (dm l) e.abe))) true) (ew (dr (dm ts) e.cU) true (ew (dr (dm g) e.ef) true (dr (dm l) e.abe))))) true)=true then(
 some (false,d))
 else(db (λ(A:cO)=>
 fh (dG ts)<|db (λ(H:Int) (B:Tm)=>(λ(a:cO)=>
 cN (ja B) λh j=>
 cN (fJ a h j) λm d179=>
 if m=true then(
 some (.next d179))
 else(some (.ret (false,d179)))):Int->Tm->(cO)->(Option (eA (cO) (Bool×cO)))) λo=>
 cA (dH o ts 0 A) (ez (λ(a:cO)=>
 fh (dG g)<|db (λ(E:Int) (p:Fm)=>(λ(b:cO)=>
 cN (gO p) λq t=>
 cN (fJ b q t) λu d322=>
 if u=true then(
 some (.next d322))
 else(some (.ret (false,d322)))):Int->Fm->(cO)->(Option (eA (cO) (Bool×cO)))) λv=>
 cA (dH v g 0 a) (ez (λ(b:cO)=>
 fh (dG l)<|db (λ(F:Int) (w:Pf)=>(λ(c:cO)=>
 cN (gy n c w) λx f=>
 if x=true then(
 some (.next f))
 else(some (.ret (false,f)))):Int->Pf->(cO)->(Option (eA (cO) (Bool×cO)))) λy=>
 cA (dH y l 0 b) (ez (λ(c:cO)=>
 some (true,c)) (λr=>some r))) (λr=>some r))) (λr=>some r))) λz=>
 if e.typed=true then(
 cN (gX s) λI C=>
 if(dr C 0)=true then(
 some (false,(cO.mk (dB .i64 d.abf 1) d.fP)))
 else(z (cO.mk (dB .i64 d.abf 1) d.fP)))
 else(cA (l7 s) λD=>
 if D=true then(
 z (cO.mk (dB .i64 d.abf 1) d.fP))
 else(some (false,(cO.mk (dB .i64 d.abf 1) d.fP)))))):=by
 rw[gy];rfl
def OX:∀(n:Nat) (P:Pf) (d:cO),P.wt<=n->P.wt<=1000000000->0<=d.abf->d.abf+P.abf<=4000000000->TG d P.ok P.small P.abf (gy n d P):=by
 intro n
 induction n with
 |zero=>intro P d h;have:=P.gU;omega
 |succ n ih=>
  intro P d hn hb h0 hd;cases P with
  |mk k i s ts p l=>
   rw[Pf.gh] at hn hb;rw[Pf.cI] at hd|-;have aa:=fO Tm.wt ts λt _=>t.gU;have ab:=fO Fm.wt p λt _=>t.gU;have ad:=fO Pf.wt l λt _=>t.gU;have m1:=jc (l:=ts) (λx _=>Tm.gj x);have m2:=jc (l:=p) (λx _=>Fm.gj x);have m3:=jc (l:=l) (λx _=>Pf.gj x);rw[Pf.fa,Pf.pY,MP];rcases MK k with⟨J,r,L⟩|⟨ix,ty,a,b,c,r,J,L,g1,g2,g3,g4,g5⟩
   ·rw[L,cF,uo,cG rfl];exact TG.no (by simp[Pf.node,J])
   ·rw[L,cF,g1,g2,g3,g4,g5,et,et,et]
    by_cases K:(ts.length:Int)=a/\(p.length:Int)=b/\(l.length:Int)=c/\0<=i/\(ix=true\/i=0)
    ·rw[cB (λh=>Dm.1 h K)]
     have q:Pf.node k i s ts.length p.length l.length=M5 ty s:=by
      rw[yU,Cu J];exact⟨λh=>h.2,λh=>⟨K,h⟩⟩
     rw[q];cases f:M5 ty s with
     |false=>
      have e:∀j:cO->Option (Bool×cO),(if ty=true then cN (gX s) λae M=>if(dr M 0)=true then some (false,(cO.mk (dB .i64 d.abf 1) d.fP))else j (cO.mk (dB .i64 d.abf 1) d.fP)else cA (l7 s) λN=>if N=true then j (cO.mk (dB .i64 d.abf 1) d.fP)else some (false,(cO.mk (dB .i64 d.abf 1) d.fP)))=some (false,(cO.mk (dB .i64 d.abf 1) d.fP)):=by
       intro j;unfold M5 at f
       by_cases u:ty=true
       ·rw[cG u] at f|-
        have O:dr s.err 0=true:=by rw[cR];simpa using f
        rw[j0 (by omega),cF,cG O]
       ·rw[cB u] at f|-;rw[pX,cz,f,cB (by decide)]
      refine pg (λ_=>False) (λ_ h=>h.elim) (λj _=>?_);rw[e j];exact TG.no (by simp)
     |true=>
      refine pg (λd1=>d1.abf=d.abf+1/\d1.fP=d.fP) (λd1 g=>?_) (λj hj=>?_)
      ·have t1:=uV (F:=λ(af:Int) (Q:Tm)=>(λ(v:cO)=>cN (ja Q) λw y=>cN (fJ v w y) λz d179=>if z=true then some (.next d179)else some (.ret (false,d179)))) Tm.ok LM Tm.abf ts 0 d1 (by omega) (by omega) (λj x d m q0 q1=>by
        have:=da Tm.wt m;have:=x.gj;rw[pA (by omega),cF]
        exact DO x.zW (by omega) q0 q1)
       rw[cW (by omega),cL,cT];cases a1:ts.all Tm.ok with
       |false=>
        rw[a1,cB (by decide)] at t1;obtain⟨d2,R⟩:=t1;rw[R,cz,oi];exact TG.no (by simp)
       |true=>
        rw[a1,cG rfl] at t1;obtain⟨d2,R,S⟩:=t1;have u1:=S.lo;have u2:=S.hi;rw[R,cz,cQ,cW (by omega),cL,cT]
        have t2:=uV (F:=λ(Y:Int) (A:Fm)=>(λ(B:cO)=>cN (gO A) λC D=>cN (fJ B C D) λE d322=>if E=true then some (.next d322)else some (.ret (false,d322)))) Fm.ok MF Fm.abf p 0 d2 (by omega) (by omega) (λj x d m q0 q1=>by
         have:=da Fm.wt m;have:=x.gj;rw[m6 (by omega),cF]
         exact DO x.zW (by omega) q0 q1)
        cases a2:p.all Fm.ok with
        |false=>
         rw[a2,cB (by decide)] at t2;obtain⟨d3,T⟩:=t2;rw[T,cz,oi];exact TG.no (by simp)
        |true=>
         rw[a2,cG rfl] at t2;obtain⟨d3,T,U⟩:=t2;have u3:=U.lo;have u4:=U.hi;rw[T,cz,cQ,cW (by omega),cL,cT]
         have t3:=uV (F:=λ(Z:Int) (G:Pf)=>(λ(H:cO)=>cN (gy n H G) λI o=>if I=true then some (.next o)else some (.ret (false,o)))) Pf.ok Pf.small Pf.abf l 0 d3 (by omega) (by omega) (λj x d m q0 q1=>by
          have:=da Pf.wt m;have:=da Pf.abf m;have:=x.gj;have m:=ih x d (by omega) (by omega) q0 (by omega);cases ho:x.ok with
          |true=>
           obtain⟨V,W,w2⟩:=m.1 ho;rw[cG rfl,W,cF,cG rfl];exact⟨V,rfl,w2⟩
          |false=>
           obtain⟨V,W⟩:=m.2 ho;rw[cB (by decide),W,cF,cB (by decide)]
           exact⟨V,rfl⟩)
         cases a3:l.all Pf.ok with
         |false=>
          rw[a3,cB (by decide)] at t3;obtain⟨d4,X⟩:=t3;rw[X,cz,oi];exact TG.no (by simp)
         |true=>
          rw[a3,cG rfl] at t3;obtain⟨d4,X,r4⟩:=t3;rw[X,cz,cQ];refine⟨λ_=>⟨d4,rfl,?_⟩,λh=>by simp at h⟩;have r0:TR d d1 true 1:=⟨by omega,by omega,λ_=>by omega,by simp[g.2]⟩;have:=((r0.trans S).trans U).trans r4;rw[xe] at this;exact this
      ·have g:=hj (cO.mk (dB .i64 d.abf 1) d.fP) ⟨by show dB .i64 d.abf 1=_;rw[dJ (by omega) (by omega)],rfl⟩;unfold M5 at f
       by_cases u:ty=true
       ·rw[cG u] at f|-
        have O:¬dr s.err 0=true:=by rw[cR];simpa using f
        rw[j0 (by omega),cF,cB O];exact g
       ·rw[cB u] at f|-;rw[pX,cz,f,cG rfl];exact g
    ·rw[cG (Dm.2 K)];refine TG.no ?_
     have:Pf.node k i s ts.length p.length l.length=false:=by
      rw[Hu]
      exactλh=>K ((Cu J).1 h).1
     rw[this];simp
def Dz{P:Pf}(h:P.wt<=1000000000):qG P=some P.err:=by
 have hn:=P.gj;have c:=OX FU P (cO.mk 0 false) (by rw[dP];omega) h (by show(0:Int)<=0;omega) (by show(0:Int)+_<=_;omega);unfold qG oJ Pf.err;cases d:P.ok with
 |false=>
  obtain⟨b,e⟩:=c.2 d;rw[e,cF,cB (by decide),cF,cB (by decide)]
 |true=>
  obtain⟨b,e,r⟩:=c.1 d;rw[e,cF,cG rfl,cG rfl];have f:b.fP=!P.small:=r.fP;rw[f,jN];cases hs:P.small with
  |false=>rw[cG (by rfl),cF,cB (λh=>by cases h.1)]
  |true=>
   have g:b.abf=(0:Int)+P.abf:=r.eq hs
   by_cases a:P.abf<=16384
   ·rw[cB (by rw[Ul,X3,eO];omega),cF,cG ⟨rfl,a⟩]
   ·rw[cG (by rw[Ul,X3,eO];omega),cF,cB (λh=>a h.2)]
def MR(n:Nat)(k i:Int)(s:Ty)(ts:List Tm)(h:List Fm)(l:List Pf):oZ (n+1) (.mk k i s ts h l)=(cN (qL k) λb w=>
 if(ew w (ew (dr (dm ts) b.cU) true (ew (dr (dm h) b.ef) true (ew (dr (dm l) b.abe) true (ew (rv i 0) true (ew b.abg false (dr i 0)))))) true)=true then(
 some false)
 else(db (λ(j:Bool)=>
 if j=true then(
 some false)
 else(fh (dG ts)<|db (λ(x:Int) (m:Tm)=>(λ(_:Unit)=>
 cA (iK FU m) λo=>
 if o=true then(
 some (.next ()))
 else(some (.ret false))):Int->Tm->(Unit)->(Option (eA (Unit) (Bool)))) λp=>
 cA (dH p ts 0 ()) (ez (λ(_:Unit)=>
 fh (dG h)<|db (λ(y:Int) (q:Fm)=>(λ(_:Unit)=>
 cA (jO FU q) λc=>
 if c=true then(
 some (.next ()))
 else(some (.ret false))):Int->Fm->(Unit)->(Option (eA (Unit) (Bool)))) λd=>
 cA (dH d h 0 ()) (ez (λ(_:Unit)=>
 fh (dG l)<|db (λ(v:Int) (e:Pf)=>(λ(_:Unit)=>
 cA (oZ n e) λf=>
 if f=true then(
 some (.next ()))
 else(some (.ret false))):Int->Pf->(Unit)->(Option (eA (Unit) (Bool)))) λg=>
 cA (dH g l 0 ()) (ez (λ(_:Unit)=>
 some true) (λr=>some r))) (λr=>some r))) (λr=>some r)))) λa=>
 if b.nU=true then(
 cA (gW s) λt=>
 if(dr t 0)=true then(
 a true)
 else(a false))
 else(cA (np s) λu=>
 a (k4 u)))):=by
 rw[oZ];rfl
def CK:∀(n:Nat) (P:Pf),P.wt<=n->P.wt<=1000000000->oZ n P=some P.ok:=by
 intro n
 induction n with
 |zero=>intro P h;have:=P.gU;omega
 |succ n y=>
  intro P hn z;cases P with
  |mk k i s ts e l=>
   rw[Pf.gh] at hn z;have A:=fO Tm.wt ts λt _=>t.gU;have B:=fO Fm.wt e λt _=>t.gU;have C:=fO Pf.wt l λt _=>t.gU;rw[Pf.fa,MR];rcases J5 k with⟨p,r,u⟩|⟨D,ty,a,b,c,r,p,u,g1,g2,g3,g4,g5⟩
   ·rw[u,cF,uo,cG rfl];simp[Pf.node,p]
   ·rw[u,cF,g1,g2,g3,g4,g5,et,et,et]
    by_cases q:(ts.length:Int)=a/\(e.length:Int)=b/\(l.length:Int)=c/\0<=i/\(D=true\/i=0)
    ·rw[cB (λh=>Dn.1 h q)]
     have f:Pf.node k i s ts.length e.length l.length=M5 ty s:=by
      rw[yU,Cu p];exact⟨λh=>h.2,λh=>⟨q,h⟩⟩
     rw[f];refine pg (G:=λo=>o=some (M5 ty s&&ts.all Tm.ok&&e.all Fm.ok&&l.all Pf.ok)) (λv=>v=!M5 ty s) (λv E=>?_) (λj F=>?_)
     ·rw[E];cases M5 ty s with
      |false=>rfl|true=>
       rw[cB (by decide),cW (by omega),cL,cT,oI Tm.ok false ts 0 (λj x m=>by
        have:=da Tm.wt m
        rw[uF (by omega),cz]),xe]
       cases ts.all Tm.ok with
       |false=>rfl|true=>
        rw[cG rfl,cz,cQ,cW (by omega),cL,cT,oI Fm.ok false e 0 (λj x m=>by
         have:=da Fm.wt m
         rw[wB FU x (by rw[dP];omega) (by omega),cz]),xe]
        cases e.all Fm.ok with
        |false=>rfl|true=>
         rw[cG rfl,cz,cQ,cW (by omega),cL,cT,oI Pf.ok false l 0 (λj x m=>by
          have:=da Pf.wt m
          rw[y x (by omega) (by omega),cz]),xe]
         cases l.all Pf.ok with
         |false=>rfl|true=>rfl
     ·have d:=F (!M5 ty s) rfl;unfold M5 at d|-
      by_cases g:ty=true
      ·rw[cG g] at d;rw[cG g,cG g,kF (by omega),cz]
       by_cases he:s.err=0
       ·have w:¬dr s.err 0=true:=by rw[cR];simpa using he
        rw[cB w];rw[sw he] at d|-;exact d
       ·have w:dr s.err 0=true:=by rw[cR];exact he
        rw[cG w];rw[Ae he] at d|-;exact d
      ·rw[cB g] at d;rw[cB g,cB g,tA,cz,Lf];exact d
    ·rw[cG (Dn.2 q)]
     have:Pf.node k i s ts.length e.length l.length=false:=by
      rw[Hu]
      exactλh=>q ((Cu p).1 h).1
     rw[this];simp
def D0:∀(n:Nat) (P:Pf),P.wt<=n->P.wt<=1000000000->sZ n P=some P.small:=by
 intro n
 induction n with
 |zero=>intro P h;have:=P.gU;omega
 |succ n c=>
  intro P hn d;cases P with
  |mk k i s ts b l=>
   rw[Pf.gh] at hn d;have e:=fO Tm.wt ts λt _=>t.gU;have f:=fO Fm.wt b λt _=>t.gU;have g:=fO Pf.wt l λt _=>t.gU;rw[Pf.pY,sZ];simp only[Pf.fv,Pf.vr,Pf.cZ,cT]
   rw[cW (by omega),cL,oI LM false ts 0 (λj x a=>by
    have:=da Tm.wt a;have:=x.gj;rw[lR FU x (by rw[dP];omega) (by omega),cz]
    by_cases hs:x.abf<=4096
    ·rw[cB (by rw[eO];omega),cG (show LM x=true from sw hs)]
    ·rw[cG (by rw[eO];omega),cB (by simpa[LM] using hs)])]
   cases ts.all LM with
   |false=>rfl|true=>
    rw[cG rfl,cz,cQ,cW (by omega),cL,oI MF false b 0 (λj x a=>by
     have:=da Fm.wt a;have:=x.gj;rw[pF FU x (by rw[dP];omega) (by omega),cz]
     by_cases hs:x.abf<=4096
     ·rw[cB (by rw[eO];omega),cG (show MF x=true from sw hs)]
     ·rw[cG (by rw[eO];omega),cB (by simpa[MF] using hs)]),xe]
    cases b.all MF with
    |false=>rfl|true=>
     rw[cG rfl,cz,cQ,cW (by omega),cL,oI Pf.small false l 0 (λj x a=>by
      have:=da Pf.wt a
      rw[c x (by omega) (by omega),cz]),xe]
     cases l.all Pf.small with
     |false=>rfl|true=>rfl
def Dw:∀(n:Nat) (P:Pf),P.wt<=n->P.wt<=1000000000->sQ n P=some (P.abf:Int):=by
 intro n
 induction n with
 |zero=>intro P h;have:=P.gU;omega
 |succ n c=>
  intro P hn d;cases P with
  |mk k i s ts b l=>
   rw[Pf.gh] at hn d;have e:=fO Tm.wt ts λt _=>t.gU;have f:=fO Fm.wt b λt _=>t.gU;have g:=fO Pf.wt l λt _=>t.gU;have m:=jc (l:=ts) (λx _=>Tm.gj x);have o:=jc (l:=b) (λx _=>Fm.gj x);have p:=jc (l:=l) (λx _=>Pf.gj x);rw[Pf.cI,sQ];simp only[Pf.fv,Pf.vr,Pf.cZ,cT]
   rw[cW (by omega),cL,show(1:Int)=((1:Nat):Int)from rfl,nr Tm.abf ts 0 1 (by omega) (λj x v a=>by
    have:=da Tm.wt a;have:=x.gj
    rw[lR FU x (by rw[dP];omega) (by omega),cz]),cz,cQ,cW (by omega),cL,nr Fm.abf b 0 _ (by omega) (λj x v a=>by
    have:=da Fm.wt a;have:=x.gj
    rw[pF FU x (by rw[dP];omega) (by omega),cz]),cz,cQ,cW (by omega),cL,nr Pf.abf l 0 _ (by omega) (λj x v a=>by
    have:=da Pf.wt a
    rw[c x (by omega) (by omega),cz]),cz,cQ]
def D_{P:Pf}(h:P.wt<=1000000000):vD P=some P.err:=by
 unfold vD CH Pf.err;rw[CK FU P (by rw[dP];omega) h,cz];cases P.ok with
 |false=>rfl|true=>
  rw[cG rfl,cG rfl,cT,D0 FU P (by rw[dP];omega) h,cz];cases P.small with
  |false=>rfl|true=>
   rw[cG rfl,Dw FU P (by rw[dP];omega) h,cz,cz]
   by_cases a:P.abf<=16384
   ·rw[cG (by rw[zB];omega),cG ⟨rfl,a⟩]
   ·rw[cB (by rw[zB];omega),cB (λh=>a h.2)]
def Pf.XD{P:Pf}(h:P.err=0):w6 P/\P.abf<=16384:=by
 unfold Pf.err at h;cases a:P.ok with
 |false=>rw[a] at h;cases h
 |true=>
  rw[a,cG rfl] at h
  by_cases b:P.small=true/\P.abf<=16384
  ·exact⟨P.w a b.1,b.2⟩
  ·rw[cB b] at h;cases h
def Us.K0{l:List Int}{m:Nat}(h:Us l m)(x:Int):x∈l↔0<=x/\m.testBit x.toNat=true:=by
 constructor
 ·intro b;have a:=h.pos x b;refine⟨a,(h.mem x.toNat).1 ?_⟩
  rwa [J8 a]
 ·rintro⟨a,c⟩;have:=(h.mem x.toNat).2 c
  rwa [J8 a] at this
def Us.ext{l a:List Int}{m:Nat}(h:Us l m)(b:Us a m):l=a:=Ec.eq h.V2 b.V2 λx=>by rw[h.K0,b.K0]
def NV{k q m:Nat}(hm:m=2^(k+1)*q+2^k)(j:Nat):(m&&&(m-1)).testBit j=(m.testBit j&&!decide (j=k)):=by
 have c:2^k<2^(k+1):=QG (by decide) (by omega);have d:0<2^k:=Nat.two_pow_pos k
 have e:m-1=2^(k+1)*q+(2^k-1):=by omega
 rw[Nat.testBit_and,e,hm,WG _ c,WG _ (by omega)]
 by_cases a:j<k+1
 ·rw[cG a,cG a,XP,Nat.testBit_two_pow_sub_one]
  by_cases b:j=k
  ·simp[b]
  ·rw[Ae (show¬k=j by omega)];simp
 ·rw[cB a,cB a,Ae (show¬j=k by omega)];simp
def QY{a:Int}{l:List Int}{m:Nat}(h:Us (a::l) m):m≠0/\((Lib.ctz 32 m:Nat):Int)=a/\Us l (m&&&(m-1)):=by
 have s:=h.pos a (by simp);obtain⟨k,rfl⟩:∃k:Nat,a=k:=⟨a.toNat,by omega⟩;have d:m.testBit k=true:=(h.mem k).1 (by simp)
 have f:m≠0:=by rintro rfl;simp at d
 cases h.V2 with
 |cons s1 s2=>
  have g:∀i,i<k->m.testBit i=false:=λi hi=>by
   rw[Hu];intro t;rcases jz.1 ((h.mem i).2 t)with e|e
   ·omega
   ·have:=s1 _ e;omega
  have n:Lib.ctz 32 m=Lib.ctzFrom 32 m:=by unfold Lib.ctz;rw[cB f]
  obtain⟨q,p,_⟩:=Lib.ctzFrom_spec 32 m (by omega) (by have:=h.lt;omega);rw[<-n] at p
  have c:m=2^(Lib.ctz 32 m+1)*q+2^Lib.ctz 32 m:=by
   rw[BZ,Nat.mul_assoc,<-Nat.mul_succ];exact p
  have r:Lib.ctz 32 m=k:=by
   have b:∀j,j<=Lib.ctz 32 m->m.testBit j=decide (Lib.ctz 32 m=j):=λj y=>by
    have u:2^Lib.ctz 32 m<2^(Lib.ctz 32 m+1):=QG (by decide) (by omega)
    conv=>lhs;rw[c]
    rw[WG _ u,cG (by omega),XP]
   rcases My (Lib.ctz 32 m) k with o|heq|hgt
   ·have:=b _ (hO _);rw[g _ o] at this;simp at this
   ·exact heq
   ·have:=b k (by omega);rw[d,Ae (by omega)] at this;cases this
  rw[r] at c;refine⟨f,by rw[r],⟨R0 Nat.and_le_left h.lt,λx v=>h.pos x (by simp[v]),s2,λi=>?_⟩⟩;rw[NV c,eJ,<-h.mem i];simp only[WY,OQ];constructor
  ·intro hi;refine⟨by simp[hi],?_⟩;rintro rfl;have:=s1 _ hi;omega
  ·rintro⟨hi,w⟩;rcases jz.1 hi with e|e
   ·omega
   ·exact e
def Us.zero{m:Nat}(h:Us [] m):m=0:=by
 refine Q1 λi=>?_;rw[Nat.zero_testBit,Hu];intro a;have:=(h.mem i).2 a;simp at this
def BD:∀(l:List Int) (m:Nat) (v:List Int) (n:Nat),Us l m->l.length<n->v.length+l.length<=1000000->lu (p0 λ(v37:Int) (b:List Int)=>
   if(dr v37 0)=true then(
   cA (gm v37) λc=>
   fh (eC b [c])<|some ((.next ((nI .u32 v37 (dX .u32 v37 1)),(fp b [c]))):eA (Int×List Int) (List Int)))
   else(some (.zO (v37,b)))) n ((m:Int),v)=some (.inl (0,v++l))
 |l,m,v,0,_,hn,_=>by omega|[],m,v,n+1,h,_,_=>by
  rw[h.zero,lu];simp only[p0];rw[cB (show¬dr ((0:Nat):Int) 0=true by decide)];simp
 |a::l,m,v,n+1,h,hn,e=>by
  simp only[jW] at hn e;obtain⟨i,f,hu⟩:=QY h;have d:=h.lt
  have g:dr (m:Int) 0=true:=by rw[cR];omega
  rw[lu];simp only[p0];rw[cG g];rw[show gm (m:Int)=some a by unfold gm;rw[cG (by omega),BM,f],cz,dK (by simp;omega),cL,cz,dL,eW];rw[show dX .u32 (m:Int) 1=((m-1:Nat):Int) by unfold dX;rw[Cn (by omega) (by omega)];omega,IV d (by omega)];rw[BD l _ (v++[a]) n hu (by omega) (by simp;omega)];simp
def Mv{l:List Int}{m:Nat}(h:Us l m):iB (m:Int)=some l:=by
 have a:=h.len;unfold iB;rw[cT,BD l m [] FU h (by rw[dP];omega) (by simp;omega),cz];simp[p0]
def IK:∀(n:Nat) (t:Tm),t.abf<=n->t.abf<=50000000->t.ok=true->rN n t=some t:=by
 intro n
 induction n with
 |zero=>intro t h;have:=t.dg;omega
 |succ n c=>
  intro t hn d a;cases t with
  |mk k i s l=>
   rw[Tm.cI] at hn d;have g:=Tm.dT l;have hi:=Tm.jQ a;rw[Tm.fa,eJ] at a;have e:=Ty.tc a.1;rw[rN];simp only[Tm.df,Tm.eE,Tm.dI,Tm.cZ,cT]
   rw[mK (by omega),cz,cW (by omega),cL,gZ id l 0 [] (by simp;omega) (λj x v b f=>by
    have:=da Tm.abf b
    rw[c x (by omega) (by omega) (hi.2.2.2.1 x b),cz,dK (by simpa using f),cL,eW];rfl)]
   simp
def Fm.Sl:∀(f:Fm) (b:Int),f.Fg (λt _=>t) b=f:=by
 intro f
 induction f using Fm.ind with
 |h k s ts l a=>
  intro b;rw[Fm.vw,qo (g:=id) (λx c=>a x c _)];simp
def xQ{f:Fm}(h:f.err=0)(c:f.abj 1000000000000=true):mH f=some f:=by
 obtain⟨d,hn⟩:=Fm.fj h;unfold mH;rw[me (h:=λe g=>k5 e g) (ψ:=λt _=>t) (λt b a _ _=>?_) FU f 0 (by rw[dP];omega) (by omega) d c (by omega) (by omega)]
 ·rw[cF,Fm.Sl]
 ·have:=a.abf;unfold k5;rw[IK FU t (by rw[dP];omega) a.abf a.ok];rfl
noncomputable def EG (L:List Fm) (q:Sq):Int:=if 32<L.length then 3 else if dQ (L.map λf=>zQ f [])≠0 then dQ (L.map λf=>zQ f [])else if tz q.abh≠0 then tz q.abh else if 16<q.abk.length then 3 else dQ (q.abk.map λf=>zQ f q.abh)
structure SqB (L:List Fm) (q:Sq):Prop where
 L4:∀f∈L,f.wt<=1000000000
 JY:∀t∈q.abh,t.abf<=1000000000
 YW:q.abh.length<=1000000
 abk:∀f∈q.abk,f.wt<=1000000000
def DL{e:Int}:(cA (some e) λa=>if(dr a 0)=true then some (.ret a)else some ((.next ()):eA Unit Int))=if e≠0 then some (.ret e)else some (.next ()):=by
 rw[cz]
 by_cases h:e=0
 ·subst h;rfl
 ·rw[cG (by rw[cR];exact h),cG h]
def K4{C:List Ty->Option Int}{T:List Ty->Fm->Option Int}{L:List Fm}{q:Sq}(o:C q.abh=some (tz q.abh))(p:∀f∈L,T [] f=some (zQ f []))(s:∀f∈q.abk,T q.abh f=some (zQ f q.abh)):(if(mV (dm L) 32)=true then some 3 else fh (dG L)<|db (λ(t:Int) (e:Fm)=>(λ(_:Unit)=>cA (T [] e) λa=>if(dr a 0)=true then some (.ret a)else some ((.next ()):eA Unit Int))) λg=>
   cA (dH g L 0 ()) (ez (λ(_:Unit)=>cA (C q.abh) λb=>if(dr b 0)=true then some b else if(mV (dm q.abk) 16)=true then some 3 else fh (dG q.abk)<|db (λ(u:Int) (i:Fm)=>(λ(_:Unit)=>cA (T q.abh i) λc=>if(dr c 0)=true then some (.ret c)else some ((.next ()):eA Unit Int))) λk=>
    cA (dH k q.abk 0 ()) (ez (λ(_:Unit)=>some 0) (λr=>some r))) (λr=>some r)))=some (EG L q):=by
 unfold EG;rw[et]
 by_cases m:32<L.length
 ·rw[cG (by rw[eO];omega),cG m]
 ·have v:¬mV (L.length:Int) 32=true:=by rw[eO];omega
  rw[cB v,cB m,cW (by omega),cL,cT];rw[kE (λf=>zQ f []) L 0 (λj x l=>by rw[p x l];exact DL)]
  by_cases d:dQ (L.map λf=>zQ f [])=0
  ·rw[cG d,cB (show¬(dQ (L.map λf=>zQ f [])≠0)fromλh=>h d),cz,cQ,o,cz]
   by_cases c3:tz q.abh=0
   ·have z2:¬dr (tz q.abh) 0=true:=by rw[cR];simpa using c3
    rw[cB z2,cB (show¬(tz q.abh≠0)fromλh=>h c3),et]
    by_cases n:16<q.abk.length
    ·rw[cG (by rw[eO];omega),cG n]
    ·have z3:¬mV (q.abk.length:Int) 16=true:=by rw[eO];omega
     rw[cB z3,cB n,cW (by omega),cL,cT];rw[kE (λf=>zQ f q.abh) q.abk 0 (λj x l=>by rw[s x l];exact DL)]
     by_cases c5:dQ (q.abk.map λf=>zQ f q.abh)=0
     ·rw[cG c5,c5];rfl
     ·rw[cB c5];rfl
   ·have z2:dr (tz q.abh) 0=true:=by rw[cR];exact c3
    rw[cG z2,cG c3]
  ·rw[cB d,cG d];rfl
def zL{L:List Fm}{q:Sq}(h:SqB L q):pz L q=some (EG L q)/\xC L q=some (EG L q):=by
 have a:∀t∈([]:List Ty),t.abf<=1000000000:=λt c=>by simp at c
 exact⟨K4 (C:=lC) (T:=km) (tY q.abh h.YW h.JY) (λx b=>qh (h.L4 x b) (by simp) a) (λx b=>qh (h.abk x b) h.YW h.JY),K4 (C:=kl) (T:=hY) (ql q.abh h.YW h.JY) (λx b=>pC (h.L4 x b) (by simp) a) (λx b=>pC (h.abk x b) h.YW h.JY)⟩
def vt:∀{l:List Int},(∀e∈l,e=0)->dQ l=0
 |[],_=>rfl|a::l,h=>by
  rw[dQ,cG (h a (by simp))];exact vt λe he=>h e (by simp[he])
def vJ:∀{l:List Int},dQ l=0->∀e∈l,e=0
 |[],_,e,he=>by simp at he
 |a::l,h,e,he=>by
  rw[dQ] at h
  by_cases b:a=0
  ·rw[cG b] at h;rcases jz.1 he with rfl|he
   ·exact b
   ·exact vJ h e he
  ·rw[cB b] at h;exact absurd h b
def Pn{f:Fm}{g:List Ty}(h:zQ f g=0):Hg g f:=by
 unfold zQ at h
 by_cases b:tz g=0
 ·rw[cB (λh=>h b)] at h
  by_cases a:f.err=0
  ·rw[cB (λh=>h a)] at h;exact⟨a,qa f (Fm.fj a).1 g (iu.of b).1 h⟩
  ·rw[cG a] at h;exact absurd h a
 ·rw[cG b] at h;exact absurd h b
structure Mh (L:List Fm) (q:Sq):Prop where
 ln:L.length<=32
 L4:∀f∈L,Hg [] f
 ctx:iu q.abh
 nv:q.abh.length<=16
 nh:q.abk.length<=16
 abk:∀f∈q.abk,Hg q.abh f
def Mn{L:List Fm}{q:Sq}(h:EG L q=0):Mh L q:=by
 unfold EG at h
 by_cases d:32<L.length
 ·rw[cG d] at h;cases h
 ·rw[cB d] at h
  by_cases a:dQ (L.map λf=>zQ f [])=0
  ·rw[cB (λh=>h a)] at h
   by_cases b:tz q.abh=0
   ·rw[cB (λh=>h b)] at h
    by_cases e:16<q.abk.length
    ·rw[cG e] at h;cases h
    ·rw[cB e] at h;obtain⟨g,i⟩:=iu.of b;exact⟨by omega,λf c=>Pn (vJ a _ (mO.2 ⟨f,c,rfl⟩)),g,i,by omega,λf c=>Pn (vJ h _ (mO.2 ⟨f,c,rfl⟩))⟩
   ·rw[cG b] at h;exact absurd h b
  ·rw[cG a] at h;exact absurd h a
def Mh.zero{L:List Fm}{q:Sq}(h:Mh L q):EG L q=0:=by
 have c:∀{g:List Ty} {f:Fm},iu g->g.length<=16->Hg g f->zQ f g=0:=λhg b a=>by
  unfold zQ;rw[wX hg b,cB (by decide),cB (λh=>h a.err)];exact ri a.ty hg (by have:=a.abf;omega)
 have d:dQ (L.map λf=>zQ f [])=0:=vt λe he=>by
  obtain⟨f,a,rfl⟩:=mO.1 he;exact c (λ_ h=>by simp at h) (by simp) (h.L4 f a)
 have i:dQ (q.abk.map λf=>zQ f q.abh)=0:=vt λe he=>by
  obtain⟨f,a,rfl⟩:=mO.1 he;exact c h.ctx h.nv (h.abk f a)
 unfold EG;have:=h.ln;have:=h.nh;rw[cB (by omega),d,cB (by decide),wX h.ctx h.nv,cB (by decide),cB (by omega),i]
def CI{T:List cH}{N:Nat}(g:N<=1000000):∀(l:List Fm) (j:Nat) (k:List cP),k.length+l.length<=1000000->dH (λ(i:Int) (b:Fm)=>(Ve λ(c:Int) (v46:Int) (d:List cH) (e:List cP)=>
   cA (eo (cJ.mk (dw.mk c v46) d e) b) λa=>
   some ((.next (a.eu.vars,a.eu.abk,a.abh,a.known)):eA (Int×Int×(List cH)×(List cP)) (cJ)))) l j ((N:Int),(k.length:Int),T,k)=some (.inl ((N:Int),((k.length+l.length:Nat):Int),T,k++l.map λf=>cP.mk f N))
 |[],j,k,_=>by simp|f::l,j,k,h=>by
  simp only[jW] at h;rw[dC];simp only[Ve];unfold eo;rw[dK (by simp;omega),cL,cz];simp only[cz,dL,eW];rw[dJ (by omega) (by omega)];have:=CI (T:=T) g l (j+1) (k++[cP.mk f N]) (by simp;omega);rw[show(k.length:Int)+1=((k++[cP.mk f N]).length:Int) by simp];unfold eo at this;simp only[eW] at this;rw[this];simp;omega
def start_eq{L:List Fm}{q:Sq}(h:Mh L q):∃p,pB q=some p/\PG L p (cY.mk L q.abh q.abk):=by
 have d:=h.nh;have a:=h.nv;refine⟨cJ.mk (dw.mk (q.abh.length:Int) (q.abk.length:Int)) (q.abh.map qw) (q.abk.map λf=>cP.mk f q.abh.length),?_,⟨⟨rfl,rfl,rfl,h.ctx,a,d,by simp,?_⟩,rfl,h.L4,h.abk⟩⟩
 ·unfold pB;rw[rV h.ctx (by omega),cz,cW (by omega),cL,cT,et];have:=CI (T:=q.abh.map qw) (N:=q.abh.length) (by omega) q.abk 0 [] (by simp;omega);rw[show(([]:List cP).length:Int)=0 from rfl] at this;rw[this,cz];simp[Ve]
 ·intro i x g b c;have b:(q.abk.map λf=>cP.mk f q.abh.length)[i]?=some x:=b;have c:q.abk[i]?=some g:=c;rw[uZ,c] at b;obtain rfl:=gk b;have hg:=h.abk g (DP c);refine⟨hg.hy a,by show(0:Int)<=(q.abh.length:Int);omega,by show((q.abh.length:Nat):Int)<=(q.abh.length:Int);omega,?_⟩;show g=g.up 0 ((q.abh.length:Int)-(q.abh.length:Int));rw[Int.sub_self,Fm.oE]
def Pf.LF:∀(l:List Pf),(∀x∈l,x.vn<=x.abf)->Pf.sA l<=cX Pf.abf l
 |[],_=>by simp[Pf.sA]|a::l,b=>by
  have d:=b a (by simp);have e:=Pf.LF l (λx c=>b x (by simp[c]));simp only[Pf.sA,cX];omega
def Pf.LP(p:Pf):p.vn<=p.abf:=by
 induction p using Pf.ind with
 |h k i s ts b l a=>
  rw[Pf.cI,Pf.vn];have:=Pf.LF l a;omega
noncomputable def NY (L:List Fm) (q:Sq) (P:Pf):PR:=kc (EG L q) (kc P.err (P.inf L q.abh q.abk))
def DD{L:List Fm}{q:Sq}{P:Pf}(h:SqB L q)(j:P.wt<=1000000000):(∃e,e≠0/\NY L q P=.inr e/\jd L q P=some (⟨fx,[]⟩,e)/\vy L q P=some (⟨fx,[]⟩,e))\/∃(f:Fm) (m:Nat) (l:List Int),NY L q P=.inl (f,m)/\jd L q P=some (⟨f,l⟩,0)/\vy L q P=some (⟨f,l⟩,0)/\Us l m/\Hg q.abh f/\Mh L q/\P.err=0:=by
 unfold jd vy NY;rw[(zL h).1,(zL h).2,cz,cz]
 by_cases b:EG L q=0
 ·have d:=Mn b;rw[b,cB nz,cB nz,gg rfl,Dz j,D_ j,cz,cz]
  by_cases c:P.err=0
  ·obtain⟨hw,hn⟩:=Pf.XD c;obtain⟨p,k,n⟩:=start_eq d;have o:=P.LP;rw[c,cB nz,cB nz,gg rfl,show uU=some ()from rfl,cz,k,cz];rcases N5 hw FU FU (by rw[dP];omega) (by rw[dP];omega) p _ n with⟨e,he,q1,g,i⟩|⟨f,m,l,q1,g,i,hu,a⟩
   ·rw[g,i,cF,cF,cG (by rw[cR];exact he),cG (by rw[cR];exact he)];exact .inl ⟨e,he,q1,rfl,rfl⟩
   ·have a:Hg q.abh f:=a;have r:=hu.len;have s:=f.hZ a.ok;have t:=a.abf;rw[g,i,cF,cF,cB nz,cB nz];simp only[];rw[xQ a.err (a.abj d.nv (by omega)),cz,Mv hu,cz,nA (by omega),cz,dK (by simp;omega),cL,eW,mI];exact .inr ⟨f,m,l,q1,rfl,rfl,hu,a,d,by trivial⟩
  ·rw[cG (by rw[cR];exact c),cG (by rw[cR];exact c),iP c];exact .inl ⟨_,c,rfl,rfl,rfl⟩
 ·rw[cG (by rw[cR];exact b),cG (by rw[cR];exact b),iP b];exact .inl ⟨_,b,rfl,rfl,rfl⟩
def Pf.lQ(l:List Pf):l.length<=cX Pf.wt l:=fO Pf.wt l λt _=>t.gU
def Fb:∀(n:Nat) (P:Pf),P.wt<=n->P.wt<=1000000000->oT n P=some P:=by
 intro n
 induction n with
 |zero=>intro P h;have:=P.gU;omega
 |succ n d=>
  intro P hn e;cases P with
  |mk k i s ts c l=>
   rw[Pf.gh] at hn e;have f:=fO Tm.wt ts λt _=>t.gU;have g:=fO Fm.wt c λt _=>t.gU;have m:=Pf.lQ l;rw[oT];simp only[Pf.df,Pf.eE,Pf.dI,Pf.fv,Pf.vr,Pf.cZ,cT]
   rw[gI (by omega),cz,cW (by omega),cL,gZ id ts 0 [] (by simp;omega) (λj x v a b=>by
    have:=da Tm.wt a
    rw[k_ (by omega),cz,dK (by simpa using b),cL,eW];rfl),cz,cQ,cW (by omega),cL,gZ id c 0 [] (by simp;omega) (λj x v a b=>by
    have:=da Fm.wt a
    rw[nA (by omega),cz,dK (by simpa using b),cL,eW];rfl),cz,cQ,cW (by omega),cL,gZ id l 0 [] (by simp;omega) (λj x v a b=>by
    have:=da Pf.wt a
    rw[d x (by omega) (by omega),cz,dK (by simpa using b),cL,eW];rfl),cz,cQ]
   simp
def Zc{k:Int}{l:List Pf}(h:cX Pf.wt l<=1000000000):sG k l=some (.mk k 0 .z [] [] l):=by
 have c:=Pf.lQ l;unfold sG
 rw[cW (by omega),cL,cT,gZ id l 0 [] (by simp;omega) (λj x v a b=>by
  have:=da Pf.wt a
  rw[Fb FU x (by rw[dP];omega) (by omega),cz,dK (by simpa using b),cL,eW];rfl),cz,cQ]
 simp[Ty.z]
def NF{k:Int}{a:Pf}(h:a.wt<=500000000):sG k [a]=some (.mk k 0 .z [] [] [a]):=Zc (by simp[cX];omega)
def Kx{k:Int}{s:Ty}{a:Pf}(hs:s.abf<=1000000000)(h:a.wt<=500000000):qj k s a=some (.mk k 0 s [] [] [a]):=by
 unfold qj;rw[NF h,cz,gI hs];rfl
def WO{k:Int}{t:Tm}{a:Pf}(b:t.wt<=1000000000)(h:a.wt<=500000000):wq k t a=some (.mk k 0 .z [t] [] [a]):=by
 unfold wq;rw[NF h,cz,k_ b];rfl
def Xy{k:Int}{F:Fm}{t:Tm}{a:Pf}(hF:F.wt<=1000000000)(b:t.wt<=1000000000)(h:a.wt<=500000000):wz k F t a=some (.mk k 0 .z [t] [F] [a]):=by
 unfold wz;rw[WO b h,cz,nA hF];rfl
def LH{t:Tm}(a:t.wt<=1000000000):oN t=some (.mk 18 0 .z [t] [] []):=by
 unfold oN;rw[k_ a];rfl
def Hg.wt{g:List Ty}{f:Fm}(h:Hg g f):f.wt<=266240:=by
 have:=f.hZ h.ok;have:=h.abf;omega
def Mh.b{L:List Fm}{q:Sq}(h:Mh L q):SqB L q:=by
 refine⟨λf a=>by have:=(h.L4 f a).wt;omega,λt c=>by have:=dM (h.ctx t c);omega,by have:=h.nv;omega,λf a=>by have:=(h.abk f a).wt;omega⟩
def pb:Nat->Nat
 |0=>10000|k+1=>3*pb k+1000000
def Nw{d:c6}(b:d.wf):∃t a,iQ FU d 1=some (t,a)/\t.err=0/\t.abf<=3/\a.wf:=by
 obtain⟨t,a,c,e,g,f⟩:=wE d b 1 (by omega);exact⟨t,a,c,e,by omega,f⟩
def Ty.DA:Ty.z.abf=1:=by decide
def Lj:eN 0=some v0:=rfl
def AB.hg{g:List Ty}{f:Fm}{n:Nat}(h:AB g f n)(hn:n<=4096):Hg g f:=⟨h.err hn,h.ty⟩
def Fm.mh{f:Fm}(h:f.ok=true)(hn:f.abf<=4096):f.err=0:=by
 unfold Fm.err;rw[cG h,cB (by omega)]
def zr{P:Pf}(hw:P.ok=true)(hs:P.small=true):P.err=if P.abf<=16384 then 0 else 4:=by
 unfold Pf.err;rw[cG hw]
 by_cases h:P.abf<=16384
 ·rw[cG ⟨hs,h⟩,cG h]
 ·rw[cB (λa=>h a.2),cB h]
def jt{P:Pf}(h:P.err=0):P.ok=true/\P.small=true/\P.abf<=16384:=by
 unfold Pf.err at h;cases b:P.ok with
 |false=>rw[b] at h;cases h
 |true=>
  rw[b,cG rfl] at h
  by_cases a:P.small=true/\P.abf<=16384
  ·exact⟨rfl,a.1,a.2⟩
  ·rw[cB a] at h;cases h
def N'{t:Tm}(h:t.err=0):t.ok=true/\LM t=true:=by
 obtain⟨a,b⟩:=Tm.fj h;exact⟨a,by simpa[LM] using b⟩
def Tq{t:Fm}(h:t.err=0):t.ok=true/\MF t=true:=by
 obtain⟨a,b⟩:=Fm.fj h;exact⟨a,by simpa[MF] using b⟩
def GS{g:List Ty}{hs:List Fm}{L:List Fm}{t:Tm}(h:dF g t .nat)(c:iu g)(hg:g.length<=16)(hn:t.abf<=1000):(Pf.mk 18 0 .z [t] [] []).inf L g hs=.inl (.mk 1 .z [t,t] [],0)/\(Pf.mk 18 0 .z [t] [] []).err=0:=by
 have he:t.err=0:=Tm.mh h.ok (by omega);have d:(Fm.mk 1 .z [t,t] []).err=0:=Fm.mh (iy.eq h h).ok (by rw[Fm.cI];simp only[cX];omega);constructor
 ·rw[Pf.yq,Pm,gg (HE h c (by omega))];unfold G3;rw[eR,cG d];cases (Fm.mk 1 .z [t,t] []).has<;>rfl
 ·obtain⟨a,b⟩:=N' he;rw[zr (by rw[Pf.fa];simp[a,Pf.node,Pf.sig,Ty.mS]) (by rw[Pf.pY];simp[b]),cG (by rw[Pf.cI];simp only[cX];omega)]
def Cl{L:List Fm}{q:Sq}(h:Mh L q){P:Pf}(a:P.err=0):NY L q P=P.inf L q.abh q.abk:=by
 unfold NY;rw[gg h.zero,gg a]
def UK(g:List Ty)(s:Ty):dF (g++[s]) v0 s:=vB
def zx{f:Fm}{m:Nat}(h:f.err=0):G3 (.inl (f,m))=.inl (f,if f.has=true then m else 0):=by
 unfold G3;rw[eR,cG h]
def Se:Mh [] ⟨[],[]⟩:=⟨by simp,λf h=>by simp at h,λs h=>by simp at h,by simp,by simp,λf h=>by simp at h⟩
def PJ:sa=some true:=by
 have g:iu [Ty.nat]:=λs hs=>by rw[xn.1 hs];exact Ty.fZ
 obtain⟨a,d⟩:=GS (L:=[]) (hs:=[]) (UK [] .nat) g (by simp) (by decide)
 have he:(Pf.mk 8 0 .nat [] [] [.mk 18 0 .z [v0] [] []]).err=0:=by decide
 have hi:(Pf.mk 8 0 .nat [] [] [.mk 18 0 .z [v0] [] []]).inf [] [] []=.inl (.mk 4 .nat [] [.mk 1 .z [v0,v0] []],0):=by
  rw[Pf.yq,Gw,jq (by decide)];have a:(Pf.mk 18 0 .z [v0] [] []).inf [] ([]++[.nat]) (List.map (Fm.up 0 1) [])=.inl (.mk 1 .z [v0,v0] [],0):=a;rw[a,eR,zx (by decide)];rw[show(Fm.mk 4 .nat [] [.mk 1 .z [v0,v0] []]).has=false by decide];rfl
 have hw:(Pf.mk 8 0 .nat [] [] [.mk 18 0 .z [v0] [] []]).wt<=100:=by decide
 unfold sa;rw[ed,cz,Lj,cz,LH (by decide),cz,Kx (by decide) (by decide),cz];rcases DD Se.b (P:=.mk 8 0 .nat [] [] [.mk 18 0 .z [v0] [] []]) (by omega)with⟨e,c,q1,_,h⟩|⟨f,m,l,q1,i,h,hu,k,_,c⟩
 ·rw[Cl Se he] at q1;have q1:(Pf.mk 8 0 .nat [] [] [.mk 18 0 .z [v0] [] []]).inf [] [] []=.inr e:=q1;rw[hi] at q1;cases q1
 ·rw[Cl Se he] at q1;have q1:(Pf.mk 8 0 .nat [] [] [.mk 18 0 .z [v0] [] []]).inf [] [] []=.inl (f,m):=q1;rw[hi] at q1;obtain⟨rfl,rfl⟩:=gL (Sum.inl.inj q1);have j:=hu.ext .nil;subst j;rw[i,cF,cT,cG (by rfl),cG (by rfl),cz,cz,Lp (by decide) (by decide),cz,EK (by decide) (by decide),cz];obtain⟨r,a,d⟩:=Fp FU (.mk 4 .nat [] [.mk 1 .z [v0,v0] []]) (.mk 4 .nat [] [.mk 1 .z [v0,v0] []]) (by rw[dP];decide) (by decide);have:=d.2 rfl;subst this;simp only[];rw[a];rfl
noncomputable def qV (a b:Tm):Int:=@ite Int (a=b) (Classical.propDecidable _) 0 (if(a.norm 1000 0).2.2≠0 then(a.norm 1000 0).2.2 else if(b.norm 1000 0).2.2≠0 then(b.norm 1000 0).2.2 else@ite Int ((a.norm 1000 0).1=(b.norm 1000 0).1) (Classical.propDecidable _) 0 11)
def zS(a:Tm):qV a a=0:=cG rfl
def K_{a b:Tm}(h:a≠b):qV a b=if(a.norm 1000 0).2.2≠0 then(a.norm 1000 0).2.2 else if(b.norm 1000 0).2.2≠0 then(b.norm 1000 0).2.2 else@ite Int ((a.norm 1000 0).1=(b.norm 1000 0).1) (Classical.propDecidable _) 0 11:=cB h
def Nm.PX{a:Tm}(h:Nm a)(b:(a.norm 1000 0).2.2=0):(a.norm 1000 0).1.ok=true/\(a.norm 1000 0).1.abf<=4096:=by
 obtain⟨p,n,e,c⟩:∃p n e,a.norm 1000 0=(p,n,e):=⟨_,_,_,rfl⟩;rw[c] at b|-;have b:e=0:=b;subst b;have:=Cg 1000 536870912 0 a p n (by omega) (Sm.start h.err h.abj) (qd h.err).2 c;exact⟨this.1.ok,this.2⟩
def B_{a b:Tm}(f:Nm a)(g:Nm b):jF a b 1000=some (qV a b):=by
 have v:=a.hZ (qd f.err).1;have w:=b.hZ (qd g.err).1;have x:=(qd f.err).2;have y:=(qd g.err).2;unfold jF;rw[m0 (by omega),f.err,cz,cB nz,m0 (by omega),g.err,cz,cB nz];obtain⟨r,s,l⟩:=tI (a:=a) (b:=b) (by omega);rw[s,cz]
 by_cases c:a=b
 ·rw[cG (l.2 c),c,zS]
 ·rw[cB (λh=>c (l.1 h)),K_ c,f.both.1,g.both.1];obtain⟨p,n,e,t⟩:∃p n e,a.norm 1000 0=(p,n,e):=⟨_,_,_,rfl⟩;obtain⟨m,n',u,k⟩:∃p n e,b.norm 1000 0=(p,n,e):=⟨_,_,_,rfl⟩;have i:=f.PX;rw[t] at i|-;rw[k,mz];simp only[] at i|-
  by_cases he:e=0
  ·subst he;rw[cB nz,cB (by decide),mz]
   by_cases d:u=0
   ·subst d;rw[cB nz,cB (by decide)];have z:=p.hZ (i rfl).1;have A:=(i rfl).2;obtain⟨q,q1,o⟩:=tI (a:=p) (b:=m) (by omega);rw[q1,cz]
    by_cases j:p=m
    ·rw[cG (o.2 j),cG j]
    ·rw[cB (λh=>j (o.1 h)),cB j]
   ·rw[cG (by rw[cR];exact d),cG d]
  ·rw[cG (by rw[cR];exact he),cG he]
mutual
noncomputable def Fm.FO:Fm->Fm->Int
 |.mk k s ts l,b=>if k≠b.abd\/s.jA b.cD=false then 11 else if dQ (List.zipWith qV ts b.cU)≠0 then dQ (List.zipWith qV ts b.cU)else dQ (Fm.L6 l b.abe)
noncomputable def Fm.L6:List Fm->List Fm->List Int
 |a::l,b::m=>a.FO b::Fm.L6 l m|_,_=>[]
end
def Fm.KY:∀(l m:List Fm),Fm.L6 l m=List.zipWith Fm.FO l m
 |[],m=>by rw[Fm.L6];rfl;intros;simp_all|a::l,[]=>by rw[Fm.L6];rfl;intros;simp_all|a::l,b::m=>by rw[Fm.L6,Fm.KY l m];rfl
def Fm.CE(k k':Int)(s b:Ty)(ts a:List Tm)(l c:List Fm):(Fm.mk k s ts l).FO (.mk k' b a c)=if k≠k'\/s.jA b=false then 11 else if dQ (List.zipWith qV ts a)≠0 then dQ (List.zipWith qV ts a)else dQ (List.zipWith Fm.FO l c):=by rw[Fm.FO,Fm.KY];rfl
def D1{α:Type}{E:α->α->Option Int}{e:α->α->Int}{M:List α}:∀(l:List α) (i:Nat),l.length+i=M.length->(∀x∈l,∀y∈M,E x y=some (e x y))->dH (λ(d:Int) (f:α)=>(λ(_:Unit)=>cA (c_ M d) λb=>cA (E f b) λa=>if(dr a 0)=true then(some (.ret a))else(some ((.next ()):eA Unit Int)))) l i ()=some (if dQ (List.zipWith e l (M.drop i))=0 then .inl ()else .inr (dQ (List.zipWith e l (M.drop i))))
 |[],i,_,_=>by simp[dQ]|x::l,i,k,h=>by
  simp only[jW] at k
  have hi:i<M.length:=by omega
  have m:=D1 (E:=E) (e:=e) (M:=M) l (i+1) (by omega) (λy hy=>h y (by simp[hy]));have n:M.drop i=M[i]::M.drop (i+1):=(Kz hi)
  have o:List.zipWith e (x::l) (M.drop i)=e x M[i]::List.zipWith e l (M.drop (i+1)):=by rw[n];rfl
  rw[o,dC,hB,na hi,cz,h x (by simp) _ (BT hi),cz]
  by_cases c:e x M[i]=0
  ·have g:¬dr (e x M[i]) 0=true:=by rw[cR];simpa using c
   have j:dQ (e x M[i]::List.zipWith e l (M.drop (i+1)))=dQ (List.zipWith e l (M.drop (i+1))):=by rw[dQ,cG c]
   rw[cB g,cz,dL,j];exact m
  ·have g:dr (e x M[i]) 0=true:=by rw[cR];exact c
   have j:dQ (e x M[i]::List.zipWith e l (M.drop (i+1)))=e x M[i]:=by rw[dQ,cB c]
   rw[cG g,cz,yZ,j,cB c]
def Ar:∀(n:Nat) (a b:Fm),a.abf<=n->a.abf<=4096->b.abf<=4096->a.ok=true->b.ok=true->LK a->LK b->hE n a b=some (a.FO b):=by
 intro n
 induction n with
 |zero=>intro a b h;have:=a.dg;omega
 |succ n S=>
  intro a b hn z A O P T U;cases a with
  |mk k s ts l=>
  cases b with
  |mk k' t c B=>
   cases T with
   |mk C D=>
   cases U with
   |mk F H=>
   rw[Fm.cI] at hn z A;obtain⟨a1,a2,a3⟩:=Fm.oB O;obtain⟨W,X,V⟩:=Fm.oB P;have Y:=Tm.dT ts;have Z:=Fm.dT l;rw[hE,Fm.CE];refine pg (G:=λo=>o=some (if k≠k'\/s.jA t=false then 11 else if dQ (List.zipWith qV ts c)≠0 then dQ (List.zipWith qV ts c)else dQ (List.zipWith Fm.FO l B))) (λv=>v=true↔(k≠k'\/s.jA t=false)) (λv Q=>?_) (λj R=>?_)
   ·by_cases g:k≠k'\/s.jA t=false
    ·rw[cG (Q.2 g),cG g]
    ·rw[cB (λh=>g (Q.1 h)),cB g];have I:k=k':=Jz λh=>g (.inl h);subst I;obtain⟨e1,e2⟩:=Fm.shape O P;show(fh (dG ts) _:Option Int)=_;rw[cW (by omega),cL,cT];show cA (dH (λ(J:Int) (K:Tm)=>(λ(_:Unit)=>cA (c_ c J) λi=>cA (jF K i 1000) λd=>if(dr d 0)=true then(some (.ret d))else(some ((.next ()):eA Unit Int)))) ts 0 ()) _=_;rw[D1 (E:=λx y=>jF x y 1000) (e:=qV) ts 0 (by omega) (λx m y hy=>B_ (C x m) (F y hy)),B8]
     by_cases u:dQ (List.zipWith qV ts c)=0
     ·rw[cG u,cz,cQ,cB (λh=>h u)];show(fh (dG l) _:Option Int)=_;rw[cW (by omega),cL,cT];show cA (dH (λ(p:Int) (q:Fm)=>(λ(_:Unit)=>cA (c_ B p) λr=>cA (hE n q r) λf=>if(dr f 0)=true then(some (.ret f))else(some ((.next ()):eA Unit Int)))) l 0 ()) _=_
      rw[D1 (E:=λx y=>hE n x y) (e:=Fm.FO) l 0 (by omega) (λx m y hy=>by
       have m1:=da Fm.abf m;have m2:=da Fm.abf hy
       exact S x y (by omega) (by omega) (by omega) (a3 x m) (V y hy) (D x m) (H y hy)),B8]
      by_cases L:dQ (List.zipWith Fm.FO l B)=0
      ·rw[cG L,L];rfl
      ·rw[cB L];rfl
     ·rw[cB u,cG u];rfl
   ·show(if(dr k k')=true then j true else cA (eU FU s t) λM=>j (k4 M))=_
    by_cases w:k=k'
    ·have N:¬dr k k'=true:=by rw[cR];simpa using w
     rw[cB N,m4 (by omega),cz];exact R _ (by rw[Lf];simp[w])
    ·have N:dr k k'=true:=by rw[cR];exact w
     rw[cG N];exact R _ (by simp[w])
def Hg.nmF{g:List Ty}{f:Fm}(h:Hg g f)(hg:g.length<=1000000):LK f:=LK.of f h.abf h.ok (h.ty.abj _ (by have:=h.abf;omega))
def HR{g f:List Ty}{a b:Fm}(c:Hg g a)(d:Hg f b)(h:g.length<=1000000)(i:f.length<=1000000):yA a b=a.FO b:=by
 have j:=c.wt;have k:=d.wt
 have e:gB a b=some (a.FO b):=by
  unfold gB;rw[jy (by omega),c.err,cz,cB nz,jy (by omega),d.err,cz,cB nz,Ar FU a b (by rw[dP];have:=c.abf;omega) c.abf d.abf c.ok d.ok (c.nmF h) (d.nmF i)];rfl
 unfold yA;rw[e];rfl
def q4{α:Type}{e:α->α->Int}:∀(l:List α),(∀x∈l,e x x=0)->dQ (List.zipWith e l l)=0
 |[],_=>rfl|x::l,h=>by
  have a:=h x (by simp);show dQ (e x x::List.zipWith e l l)=0;rw[dQ,cG a];exact q4 l λy hy=>h y (by simp[hy])
def Fm.O'(f:Fm):f.FO f=0:=by
 induction f using Fm.ind with
 |h k s ts l a=>
  rw[Fm.CE,cB (by rintro(h|h);exact h rfl;rw[(Ty.jj s s).2 rfl] at h;cases h),q4 ts (λx _=>zS x),cB (by decide),q4 l a]
def Mt(a b:Tm):Prop:=a.ok=true/\b.ok=true/\∃c,rb a c/\rb b c
def Mt.refl{a:Tm}(h:a.ok=true):Mt a a:=⟨h,h,a,.refl a,.refl a⟩
def Mt.symm{a b:Tm}(h:Mt a b):Mt b a:=⟨h.2.1,h.1,let⟨c,p,q⟩:=h.2.2;⟨c,q,p⟩⟩
def Mt.star{a b:Tm}(c:a.ok=true)(h:rb a b):Mt a b:=⟨c,h.ok c,b,h,.refl b⟩
def FF(e:Int):Prop:=e=3\/e=4\/e=5
def Lx{a p:Tm}{n:Int}(h:a.norm 1000 0=(p,n,0))(b:a.ok=true):p.nf=true/\rb a p:=⟨(Ls 1000 0 a p n h).1,F4 1000 0 a p n b h⟩
def LD{a b:Tm}(h:Mt a b):qV a b=0\/FF (qV a b):=by
 by_cases g:a=b
 ·rw[g,zS];exact .inl rfl
 ·rw[K_ g];obtain⟨j,m,c,o,r⟩:=h;have s:=yC 1000 0 a;have t:=yC 1000 0 b
  by_cases d:(a.norm 1000 0).2.2=0
  ·rw[cB (λh=>h d)]
   by_cases f:(b.norm 1000 0).2.2=0
   ·rw[cB (λh=>h f)];obtain⟨p,n,e,q⟩:∃p n e,a.norm 1000 0=(p,n,e):=⟨_,_,_,rfl⟩;obtain⟨y,n',u,i⟩:∃p n e,b.norm 1000 0=(p,n,e):=⟨_,_,_,rfl⟩;rw[q] at d|-;rw[i] at f|-;have d:e=0:=d;have f:u=0:=f;subst d;subst f;obtain⟨n1,s1⟩:=Lx q j;obtain⟨n2,s2⟩:=Lx i m;obtain⟨w,v,x⟩:=s1.meet c j o;obtain⟨w',k,l⟩:=s2.meet c m r;have:=v.nf n1;subst this;have:=k.nf n2;subst this;have:w=w':=rb.unique (o.ok j) x l n1 n2;rw[cG this];exact .inl rfl
   ·rw[cG f];rcases t with h|h|h
    ·exact absurd h f
    ·exact .inr (.inr (.inl h))
    ·exact .inr (.inr (.inr h))
  ·rw[cG d];rcases s with h|h|h
   ·exact absurd h d
   ·exact .inr (.inr (.inl h))
   ·exact .inr (.inr (.inr h))
inductive Pz:Fm->Fm->Prop
 |eq {a a' b b'}:Mt a a'->Mt b b'->Pz (.mk 1 .z [a,b] []) (.mk 1 .z [a',b'] [])|two {k a a' b b'}:Pz a a'->Pz b b'->Pz (.mk k .z [] [a,b]) (.mk k .z [] [a',b'])|q {k s a a'}:Pz a a'->Pz (.mk k s [] [a]) (.mk k s [] [a'])
def uS:∀{l:List Int},(∀e∈l,e=0\/FF e)->dQ l=0\/FF (dQ l)
 |[],_=>.inl rfl|e::l,h=>by
  rw[dQ]
  by_cases he:e=0
  ·rw[cG he];exact uS λx a=>h x (by simp[a])
  ·rw[cB he];exact .inr ((h e (by simp)).resolve_left he)
def Pz.FO{a b:Fm}(h:Pz a b):a.FO b=0\/FF (a.FO b):=by
 have hs:∀(k:Int) (s:Ty),¬(k≠k\/s.jA s=false):=λk s h=>by
  rcases h with h|h
  ·exact h rfl
  ·rw[(Ty.jj s s).2 rfl] at h;cases h
 induction h with
 |@eq a c b d m n=>
  rw[Fm.CE,cB (hs _ _)]
  have f:=uS (l:=[qV a c,qV b d]) (λe he=>by
   simp only[jz,qc,Oz] at he;rcases he with rfl|rfl
   ·exact LD m
   ·exact LD n)
  show(if dQ [qV a c,qV b d]≠0 then dQ [qV a c,qV b d] else dQ [])=0\/_
  by_cases g:dQ [qV a c,qV b d]=0
  ·rw[cB (λh=>h g)];exact .inl rfl
  ·show _\/FF (if dQ [qV a c,qV b d]≠0 then dQ [qV a c,qV b d] else dQ []);rw[cG g];exact .inr (f.resolve_left g)
 |@two k a c b d _ _ i j=>
  have f:=uS (l:=[a.FO c,b.FO d]) (λe he=>by
   simp only[jz,qc,Oz] at he;rcases he with rfl|rfl
   ·exact i
   ·exact j)
  rw[Fm.CE,cB (hs _ _)];exact f
 |@q k s a c _ o=>
  have f:=uS (l:=[a.FO c]) (λe he=>by
   simp only[jz,qc,Oz] at he
   rw[he];exact o)
  rw[Fm.CE,cB (hs _ _)];exact f
def Kb{L:List Fm}{q:Sq}{P:Pf}(h:Mh L q)(c:P.wt<=1000000000)(he:P.err=0){f:Fm}{m:Nat}(hi:P.inf L q.abh q.abk=.inl (f,m)):∃l,jd L q P=some (⟨f,l⟩,0)/\Us l m/\Hg q.abh f:=by
 rcases DD h.b c with⟨e,_,q1,a,_⟩|⟨g,i,l,q1,a,_,hu,d,_⟩
 ·rw[Cl h he,hi] at q1;cases q1
 ·rw[Cl h he,hi] at q1;obtain⟨rfl,rfl⟩:=gL (Sum.inl.inj q1);exact⟨l,a,hu,d⟩
def T2{k:Int}(d:k=8\/k=12){s:Ty}(hs:s.err=0){P:Pf}(e:P.err=0):(Pf.mk k 0 s [] [] [P]).err=if 1+P.abf<=16384 then 0 else 4:=by
 obtain⟨a,b,c⟩:=jt e
 have hn:(Pf.mk k 0 s [] [] [P]).abf=1+P.abf:=by rw[Pf.cI];simp only[cX];omega
 rw[zr (by rw[Pf.fa];rcases d with rfl|rfl<;>simp[a,Pf.node,Pf.sig,hs]) (by rw[Pf.pY];simp[b]),hn]
def D4(s:Ty):s.jA s=true:=(Ty.jj s s).2 rfl
def Ns:∀(t:Tm) (n:Int),t.ok=true->0<=n->Tm.ia n (t.up (n+1) 1) v0=t:=by
 intro t
 induction t using Tm.ind with
 |h k i s l j=>
  intro n b hn;have hi:=Tm.jQ b;rw[Tm.fX,Tm.eZ]
  by_cases a:k=1
  ·subst a;obtain⟨rfl,rfl⟩:=Tm.Jo b;rw[cG rfl]
   by_cases c:n+1<=i
   ·have e:(if(1:Int)=1/\n+1<=i then i+1 else i)=i+1:=cG ⟨rfl,c⟩;rw[e];unfold Tm.jI;rw[cB (by omega),cG (by omega),show i+1-1=i by omega]
   ·have e:(if(1:Int)=1/\n+1<=i then i+1 else i)=i:=cB (λh=>c h.2);rw[e];unfold Tm.jI
    by_cases d:i=n
    ·rw[cG d];unfold v0;rw[Tm.fX]
     have m:(if(1:Int)=1/\(0:Int)<=0 then 0+n else 0)=i:=by rw[cG ⟨rfl,by omega⟩];omega
     rw[m];rfl
    ·rw[cB d,cB (by omega)];rfl
  ·rw[cB a,cB (λh=>a h.1)];have o:=fV k
   congr 1
   rw[BU];refine qo (g:=id) (λx f=>?_)|>.trans (by simp);show Tm.ia (n+d_ k) (x.up (n+1+d_ k) 1) v0=x;rw[show n+1+d_ k=n+d_ k+1 by omega];exact j x f (n+d_ k) (hi.2.2.2.1 x f) (by omega)
def oC.Wy{g:List Ty}{F:Fm}{t:Tm}(h:oC g F t)(hg:g.length<=100):qs F 0 t=some (kO F t):=by
 obtain⟨s,a,b⟩:=h.ty;obtain⟨_,a2⟩:=Fm.fj h.fe;obtain⟨_,c⟩:=Tm.fj h.te;exact vz h.fe h.te (a.abj _ (by simp;omega)) (b.abj _ (by omega)) h.put.ok
def JF{L:List Fm}{q:Sq}(d:Mh L q){P:Pf}{f b:Fm}{l:List Int}(k:jd L q P=some (⟨f,l⟩,0))(j:Hg q.abh f)(c:Hg q.abh b):nE L q P b=some (f.FO b):=by
 have hw:=j.wt;have m:=c.wt;have g:=d.nv
 have e:zQ b q.abh=0:=by
  unfold zQ;rw[wX d.ctx g,cB (by decide),cB (λh=>h c.err)];exact ri c.ty d.ctx (by have:=c.abf;omega)
 unfold nE;rw[k,cF,cB nz,qh (by omega) (by omega) (λt n=>by have:=dM (d.ctx t n);omega),e,cz,cB nz];show(cA (gB f b) λi=>some i)=_;rw[(Hx (a:=f) (b:=b) (by omega) (by omega)).1,HR j c (by omega) (by omega)];rfl
def Ff{t:Tm}{g:List Ty}{s:Ty}(h:dF g t s)(he:t.err=0)(hg:g.length<=100):sn t 0 1=some (t.up 0 1,0):=by
 obtain⟨a1,a2⟩:=Tm.fj he;have hw:=t.hZ a1;have hu:=Tm.RH t 0 1;unfold sn;rw[kz (by omega),he,cz,cB nz,cT,cB (by decide),cB (by decide),cB (by decide),cB (by decide)];show(cA (hW FU t 536870912) λ_=>_)=_;rw[rX FU t 536870912 (by rw[dP];omega) (by omega),h.abj _ (by omega),cz];show(cA (mJ FU t 0 1) λ_=>_)=_;rw[wD FU t 0 1 (by rw[dP];omega) (by omega) (by omega) (by omega) (by omega) (by omega) (h.abj _ (by omega)),cz,k_ (by omega)];rfl
def Ov{e:Int}(h:e=0\/FF e):o9 e=some true:=by
 rcases h with rfl|rfl|rfl|rfl<;>rfl
def AS(l:List Int):mr l=some true:=by
 unfold mr;rw[PJ,cz,cG rfl,Mr,cz]
 by_cases ai:500<l.length
 ·rw[cB (by simpa using ai)]
 have hl:l.length<=500:=by omega
 rw[cG (by simpa using hl),show JG l=some ⟨l,0⟩from rfl,cz];obtain⟨q,d2,g1,g2,g3,g4,g5,g6⟩:=xw ⟨l,0⟩ (Pj l (by omega))
 have aj:fb 2<=4096:=by decide
 have m:Mh [] q:=⟨by simp,λf hf=>by simp at hf,λs hs=>(g4.all s hs).1,by omega,by omega,λf hf=>(g6 f hf).hg aj⟩;obtain⟨s,d3,s1,s2,s3,s4⟩:=Nw g2;rw[g1,cF,ed,cz,s1,cF,dK (by simp;omega),cL,dK (by simp[eW];omega),cL,eW,eW,mI]
 have ak:om 3 (q.abh++[s]):=g4.app λx hx=>by rw[xn.1 hx];exact⟨s2,s3⟩
 obtain⟨u,d4,u1,u2,u3⟩:=De 3 (by omega) (by omega) 2 (by omega) (q.abh++[s]) .nat d3 (by simp;omega) ak Ty.fZ (by decide) s4;have u1:fI FU d3 (q.abh++[s]) .nat 2=some (u,d4):=u1
 have aM:tb 3 2=201:=by decide
 have aN:u.abf<=201:=by have:=u3.abf;omega
 have a:=u3.ty;have b:=a.ok;have M:u.err=0:=Tm.mh b (by omega);have aO:=u.hZ b;have aP:=Tm.RH u 0 1;have aQ:=Tm.mA u 0 1
 have wv:v0.wt<=10:=by decide
 have nv:v0.abf=1:=by decide
 rw[u1,cF,Ff a M (by simp;omega),cF,cB nz,Lj,cz,Lp (by omega) (by omega),cz]
 have al:dF (q.abh++[s]++[.nat]) (u.up 0 1) .nat:=by
  have:=a.up (q.abh++[s]) [] [.nat] (by simp);simpa using this
 have N:iy (q.abh++[s]++[.nat]) (.mk 1 .z [v0,u.up 0 1] []):=.eq vB al
 have aR:(Fm.mk 1 .z [v0,u.up 0 1] []).abf=u.abf+2:=by rw[Fm.cI];simp only[cX];omega
 have n:iy (q.abh++[s]) (.mk 5 .nat [] [.mk 1 .z [v0,u.up 0 1] []]):=.q (.inr (.inl rfl)) Ty.fZ N
 have aS:(Fm.mk 5 .nat [] [.mk 1 .z [v0,u.up 0 1] []]).abf=u.abf+3:=by rw[Fm.cI];simp only[cX];omega
 have O:(Fm.mk 5 .nat [] [.mk 1 .z [v0,u.up 0 1] []]).err=0:=Fm.mh n.ok (by omega);have aT:=Fm.hZ _ n.ok;have aU:=Fm.hZ _ N.ok
 have hR:(Pf.mk 18 0 .z [u] [] []).wt<=15000:=by rw[Pf.gh];simp only[cX,Ty.DA];omega
 have aV:(Pf.mk 10 0 .z [u] [.mk 5 .nat [] [.mk 1 .z [v0,u.up 0 1] []]] [.mk 18 0 .z [u] [] []]).wt<=60000:=by rw[Pf.gh];simp only[cX,Ty.DA];omega
 have aW:(Pf.mk 8 0 s [] [] [Pf.mk 10 0 .z [u] [.mk 5 .nat [] [.mk 1 .z [v0,u.up 0 1] []]] [.mk 18 0 .z [u] [] []]]).wt<=70000:=by rw[Pf.gh];simp only[cX];omega
 have aE:(Pf.mk 20 0 .z [] [] [Pf.mk 8 0 s [] [] [Pf.mk 10 0 .z [u] [.mk 5 .nat [] [.mk 1 .z [v0,u.up 0 1] []]] [.mk 18 0 .z [u] [] []]]]).wt<=80000:=by rw[Pf.gh];simp only[cX,Ty.DA];omega
 rw[EK (by decide) (by omega),cz,LH (by omega),cz,Xy (by omega) (by omega) (by omega),cz,Kx (by omega) (by omega),cz,NF (by omega)];simp only[cz];obtain⟨to,Q⟩:=N' M;obtain⟨fo,R⟩:=Tq O;have hz:Ty.z.nY=true:=Ty.mS
 have C:(Pf.mk 10 0 .z [u] [.mk 5 .nat [] [.mk 1 .z [v0,u.up 0 1] []]] [.mk 18 0 .z [u] [] []]).ok=true/\(Pf.mk 10 0 .z [u] [.mk 5 .nat [] [.mk 1 .z [v0,u.up 0 1] []]] [.mk 18 0 .z [u] [] []]).small=true/\(Pf.mk 10 0 .z [u] [.mk 5 .nat [] [.mk 1 .z [v0,u.up 0 1] []]] [.mk 18 0 .z [u] [] []]).abf<=2000:=by
  refine⟨by rw[Pf.fa];simp[to,fo,Pf.node,Pf.sig,hz,Pf.fa],by rw[Pf.pY];simp[Q,R,Pf.pY],?_⟩;rw[Pf.cI];simp only[cX];rw[Pf.cI];simp only[cX];omega
 have d:(Pf.mk 8 0 s [] [] [Pf.mk 10 0 .z [u] [.mk 5 .nat [] [.mk 1 .z [v0,u.up 0 1] []]] [.mk 18 0 .z [u] [] []]]).ok=true/\(Pf.mk 8 0 s [] [] [Pf.mk 10 0 .z [u] [.mk 5 .nat [] [.mk 1 .z [v0,u.up 0 1] []]] [.mk 18 0 .z [u] [] []]]).small=true/\(Pf.mk 8 0 s [] [] [Pf.mk 10 0 .z [u] [.mk 5 .nat [] [.mk 1 .z [v0,u.up 0 1] []]] [.mk 18 0 .z [u] [] []]]).abf<=2001:=by
  refine⟨by rw[Pf.fa];simp[C.1,Pf.node,Pf.sig,s2],by rw[Pf.pY];simp[C.2.1],?_⟩;have:=C.2.2;rw[Pf.cI];simp only[cX];omega
 generalize an:(Pf.mk 10 0 .z [u] [.mk 5 .nat [] [.mk 1 .z [v0,u.up 0 1] []]] [.mk 18 0 .z [u] [] []])=S at*
 have e8:(Pf.mk 8 0 s [] [] [S]).err=0:=by rw[zr d.1 d.2.1,cG (by omega)]
 have ao:(Pf.mk 20 0 .z [] [] [.mk 8 0 s [] [] [S]]).err=0:=by
  rw[zr (by rw[Pf.fa];simp[d.1,Pf.node,Pf.sig,hz]) (by rw[Pf.pY];simp[d.2.1]),cG];have:=d.2.2;rw[Pf.cI];simp only[cX];omega
 have p:iu (q.abh++[s]):=m.ctx.app s2
 have T:(q.abh++[s]).length<=16:=by simp;omega
 have U:Fm.ia 0 (.mk 1 .z [v0,u.up 0 1] []) u=.mk 1 .z [u,u] []:=by
  rw[Fm.eZ]
  have r:Tm.ia 0 v0 u=u:=by
   unfold v0;rw[Tm.eZ,cG rfl];unfold Tm.jI;rw[cG rfl,Tm.oE]
  have K:Tm.ia 0 (u.up 0 1) u=u:=by
   have:=Hr u u 0 0 0 b (by omega) (by omega) (by omega);rw[Tm.oE] at this;exact this
  simp[r,K]
 have D:iy (q.abh++[s]) (.mk 1 .z [u,u] []):=.eq a a
 have aF:(Fm.mk 1 .z [u,u] []).abf<=500:=by rw[Fm.cI];simp only[cX];omega
 have w:Hg (q.abh++[s]) (.mk 1 .z [u,u] []):=⟨Fm.mh D.ok (by omega),D⟩
 have iF:kO (.mk 1 .z [v0,u.up 0 1] []) u=(.mk 1 .z [u,u] [],0):=by
  rcases lD (.mk 1 .z [v0,u.up 0 1] []) u with c|⟨hn,c⟩
  ·unfold kO at c;rw[U,cB (by omega)] at c;cases c
  ·rw[c,U]
 have V:(Fm.mk 5 .nat [] [.mk 1 .z [v0,u.up 0 1] []]).has=true:=by rw[Fm.y5];rfl
 have aq:∀hs,S.inf [] (q.abh++[s]) hs=.inl (.mk 5 .nat [] [.mk 1 .z [v0,u.up 0 1] []],0|||q8 u):=by
  intro hs;rw[<-an,Pf.yq,N0,gg (ri n p (by omega)),jq (by simp),Bc a p (by omega),gg rfl,jq (by show¬Ty.nat.jA .nat=false;rw[D4];decide)];rw[(GS (L:=[]) (hs:=hs) a p T (by omega)).1];show G3 (pbind (E5 (.inl (.mk 1 .z [u,u] [],0)) (.mk 1 .z [v0,u.up 0 1] []) u) _)=_;unfold E5;rw[eR,iF,gg rfl,HR w w (by omega) (by omega),Fm.O',gg rfl,eR,zx O,V,cG rfl]
 have ar:iy q.abh (.mk 4 s [] [.mk 5 .nat [] [.mk 1 .z [v0,u.up 0 1] []]]):=.q (.inl rfl) s2 n;have au:(Fm.mk 4 s [] [.mk 5 .nat [] [.mk 1 .z [v0,u.up 0 1] []]]).err=0:=Fm.mh ar.ok (by rw[Fm.cI];simp only[cX];omega)
 have i8:(Pf.mk 8 0 s [] [] [S]).inf [] q.abh q.abk=.inl (.mk 4 s [] [.mk 5 .nat [] [.mk 1 .z [v0,u.up 0 1] []]],(0|||q8 u)/2):=by
  rw[Pf.yq,Gw,jq (by omega),aq,eR,zx au];rw[show(Fm.mk 4 s [] [.mk 5 .nat [] [.mk 1 .z [v0,u.up 0 1] []]]).has=true by rw[Fm.y5,V];rfl,cG rfl]
 have W:dF (q.abh++[.fn s .nat]++[s]) (u.up 1 1) .nat:=by
  have:=a.up q.abh [s] [.fn s .nat] (by simp);simpa using this
 have y:Fm.ia 0 ((Fm.mk 1 .z [v0,u.up 0 1] []).up 2 1) (gv v1 v0)=.mk 1 .z [gv v1 v0,u.up 1 1] []:=by
  rw[Fm.fX,Fm.eZ]
  have r:Tm.ia 0 (v0.up 2 1) (gv v1 v0)=gv v1 v0:=by
   unfold v0;rw[Tm.fX]
   have e2:(if(1:Int)=1/\(2:Int)<=0 then(0:Int)+1 else 0)=0:=by decide
   rw[e2,Tm.eZ,cG rfl];unfold Tm.jI;rw[cG rfl,Tm.oE]
  have K:Tm.ia 0 ((u.up 0 1).up 2 1) (gv v1 v0)=u.up 1 1:=by
   rw[RG u 0 2 1 1 (by omega) (by omega) (by omega) (by omega),show(2:Int)-1=1 by omega];have:=Hr (gv v1 v0) (u.up 1 1) 0 0 0 (by rw[Tm.BI u 1 1 (by omega) (by omega)];exact b) (by omega) (by omega) (by omega);rw[Tm.oE] at this;exact this
  simp[r,K]
 have aG:=Tm.mA u 1 1
 have aH:(gv v1 v0).abf=3:=by decide
 have E:(Ty.fn s .nat).err=0:=Ty.tF s2 Ty.fZ (by rw[Ty.ga];omega);have aw:iy (q.abh++[.fn s .nat]++[s]) (.mk 1 .z [gv v1 v0,u.up 1 1] []):=.eq (.app (s:=s) FD vB) W
 have aX:(Fm.mk 1 .z [gv v1 v0,u.up 1 1] []).abf<=300:=by rw[Fm.cI];simp only[cX];omega
 have g:iy (q.abh++[.fn s .nat]) (.mk 4 s [] [.mk 1 .z [gv v1 v0,u.up 1 1] []]):=.q (.inl rfl) s2 aw;have X:(Fm.mk 4 s [] [.mk 1 .z [gv v1 v0,u.up 1 1] []]).err=0:=Fm.mh g.ok (by rw[Fm.cI];simp only[cX];omega);have F:iy q.abh (.mk 5 (.fn s .nat) [] [.mk 4 s [] [.mk 1 .z [gv v1 v0,u.up 1 1] []]]):=.q (.inr (.inl rfl)) E g;have Y:(Fm.mk 5 (.fn s .nat) [] [.mk 4 s [] [.mk 1 .z [gv v1 v0,u.up 1 1] []]]).err=0:=Fm.mh F.ok (by rw[Fm.cI];simp only[cX];rw[Fm.cI];simp only[cX];omega)
 have H:kO ((Fm.mk 1 .z [v0,u.up 0 1] []).up 2 1) (gv v1 v0)=(.mk 1 .z [gv v1 v0,u.up 1 1] [],0):=by
  rcases lD ((Fm.mk 1 .z [v0,u.up 0 1] []).up 2 1) (gv v1 v0)with c|⟨hn,c⟩
  ·unfold kO at c;rw[y,cB (by omega)] at c;cases c
  ·rw[c,y]
 have i20:(Pf.mk 20 0 .z [] [] [.mk 8 0 s [] [] [S]]).inf [] q.abh q.abk=.inl (.mk 5 (.fn s .nat) [] [.mk 4 s [] [.mk 1 .z [gv v1 v0,u.up 1 1] []]],(0|||q8 u)/2):=by
  rw[Pf.yq,Im,i8,UA (k:=4) (Fm.df 4 s [] _),eR];show G3 (sq ((5:Int)≠5) 10 (sq ((Ty.fn s .nat).err≠0) 4 (sq ((kO ((Fm.mk 1 .z [v0,u.up 0 1] []).up 2 1) (gv v1 v0)).2≠0) 4 (.inl (.mk 5 (Ty.fn s .nat) [] [.mk 4 s [] [(kO ((Fm.mk 1 .z [v0,u.up 0 1] []).up 2 1) (gv v1 v0)).1]],(0|||q8 u)/2)))))=_;rw[jq (by decide),jq (λh=>h E),H,jq (λh=>h rfl),zx Y];rw[show(Fm.mk 5 (.fn s .nat) [] [.mk 4 s [] [.mk 1 .z [gv v1 v0,u.up 1 1] []]]).has=true by rw[Fm.y5];rfl,cG rfl]
 obtain⟨lx,k8,x8,y8⟩:=Kb m (by omega) e8 i8;obtain⟨ly,ax,ay,az⟩:=Kb m (by omega) ao i20;have aA:=x8.ext ay;subst aA;have aY:=Fm.hZ _ F.ok;have aZ:=az.abf
 have aI:(Ty.fn s .nat).abf<=10:=by rw[Ty.hP,Ty.ga];omega
 rw[k8,ax];simp only[cF];rw[cB nz,cB nz,gq (by omega) (by decide),cz];refine pg (G:=λo=>o=some true) (λv=>v=false) (λv aB=>?_) (λj hj=>?_)
 ·rw[aB,cB (by decide)];show(cA (c_ [Fm.mk 4 s [] [.mk 1 .z [gv v1 v0,u.up 1 1] []]] 0) λaJ=>_)=some true;rw[show c_ [Fm.mk 4 s [] [.mk 1 .z [gv v1 v0,u.up 1 1] []]] 0=some (Fm.mk 4 s [] [.mk 1 .z [gv v1 v0,u.up 1 1] []])from rfl,cz,xB (by omega) (by omega),cz,show Tm.mk 2 0 s [u]=jV s u from rfl];have Z:dF q.abh (jV s u) (.fn s .nat):=.lam E a
  have a1:(jV s u).abf<=300:=by unfold jV;rw[Tm.cI];simp only[cX];omega
  have hle:(jV s u).err=0:=Tm.mh Z.ok (by omega);have hp:oC q.abh (Fm.mk 4 s [] [.mk 1 .z [gv v1 v0,u.up 1 1] []]) (jV s u):=⟨X,hle,.fn s .nat,g,Z⟩
  have i:Fm.ia 0 (Fm.mk 4 s [] [.mk 1 .z [gv v1 v0,u.up 1 1] []]) (jV s u)=.mk 4 s [] [.mk 1 .z [gv ((jV s u).up 0 1) v0,u] []]:=by
   rw[Fm.eZ];simp only[TA,mi];rw[Fm.eZ]
   have r:Tm.ia (0+qB 4) (gv v1 v0) (jV s u)=gv ((jV s u).up 0 1) v0:=by
    rw[show(0:Int)+qB 4=1 by decide];unfold gv v1 v0;rw[Tm.eZ,cB (by decide)];simp only[TA,mi];rw[Tm.eZ,cG rfl,Tm.eZ,cG rfl];unfold Tm.jI;rw[cG (by decide),cB (by decide),cB (by decide)];rfl
   have K:Tm.ia (0+qB 4) (u.up 1 1) (jV s u)=u:=by
    rw[show(0:Int)+qB 4=1 by decide];have:=Hr (jV s u) u 1 1 0 b (by omega) (by omega) (by omega);rw[Tm.oE] at this;exact this
   rw[Xd] at r K;simp[r,K]
  have aK:=Tm.mA (jV s u) 0 1
  have a6:(Fm.mk 4 s [] [.mk 1 .z [gv ((jV s u).up 0 1) v0,u] []]).abf<=700:=by
   rw[Fm.cI];simp only[cX];rw[Fm.cI];simp only[cX];unfold gv;rw[Tm.cI];simp only[cX];omega
  have I:kO (Fm.mk 4 s [] [.mk 1 .z [gv v1 v0,u.up 1 1] []]) (jV s u)=(.mk 4 s [] [.mk 1 .z [gv ((jV s u).up 0 1) v0,u] []],0):=by
   rcases lD (Fm.mk 4 s [] [.mk 1 .z [gv v1 v0,u.up 1 1] []]) (jV s u)with c|⟨hn,c⟩
   ·unfold kO at c;rw[i,cB (by omega)] at c;cases c
   ·rw[c,i]
  have J:iy q.abh (.mk 4 s [] [.mk 1 .z [gv ((jV s u).up 0 1) v0,u] []]):=by rw[<-i];exact hp.put
  rw[hp.Wy (by omega),I,cF,Kx (by omega) (by omega),cz,cT,cG (by rfl)];obtain⟨aC,aa⟩:=GS (L:=[]) (hs:=q.abk.map (Fm.up 0 1)) a p T (by omega);have a7:=jt aa;have er:=T2 (.inl rfl) s2 aa
  have a8:(Pf.mk 18 0 .z [u] [] []).abf<=500:=by rw[Pf.cI];simp only[cX];omega
  rw[cG (by omega)] at er;have ab:iy q.abh (.mk 4 s [] [.mk 1 .z [u,u] []]):=.q (.inl rfl) s2 D;have ad:(Fm.mk 4 s [] [.mk 1 .z [u,u] []]).err=0:=Fm.mh ab.ok (by rw[Fm.cI];simp only[cX];omega)
  have ir:(Pf.mk 8 0 s [] [] [.mk 18 0 .z [u] [] []]).inf [] q.abh q.abk=.inl (.mk 4 s [] [.mk 1 .z [u,u] []],if(Fm.mk 4 s [] [.mk 1 .z [u,u] []]).has=true then 0/2 else 0):=by
   rw[Pf.yq,Gw,jq (by omega),aC,eR,zx ad]
  obtain⟨lr,kr,_,yr⟩:=Kb m (P:=.mk 8 0 s [] [] [.mk 18 0 .z [u] [] []]) (by rw[Pf.gh];simp only[cX];omega) er ir;rw[JF m kr yr ⟨Fm.mh J.ok (by omega),J⟩,cz]
  have ae:Mt u (gv ((jV s u).up 0 1) v0):=by
   have aD:(gv ((jV s u).up 0 1) v0).ok=true:=by
    cases J with
    |q _ _ hb=>cases hb with|eq r _=>exact r.ok
   have A:lp (gv ((jV s u).up 0 1) v0) (Tm.ia 0 (u.up 1 1) v0):=by
    have e:(jV s u).up 0 1=.mk 2 0 s [u.up 1 1]:=by
     unfold jV;rw[Tm.fX];rfl
    rw[e];exact .beta 0 .z 0 s (lp.refl _ (by rw[Tm.BI u 1 1 (by omega) (by omega)];exact b)) (lp.refl v0 (by decide))
   have B:=Ns u 0 b (by omega);rw[show(0:Int)+1=1 by omega] at B;rw[B] at A;exact(Mt.star aD (.step A (.refl u))).symm
  have af:=(Pz.q (k:=4) (s:=s) (Pz.eq ae (Mt.refl b))).FO;rw[Ov af,cz]
 ·show(if(dr 5 5)=true then j true else cA (dR FU (Ty.fn s .nat) (Ty.fn s .nat)) λaL=>_)=some true;rw[cB (show¬dr 5 5=true by decide),gl (by omega),D4,cz,cG rfl,cB (by rw[cR];simp),pC (by show Fm.wt _<=_;omega) (by omega) (λt ht=>by have:=dM (m.ctx t ht);omega)]
  have e:zQ (.mk 5 (.fn s .nat) [] [.mk 4 s [] [.mk 1 .z [gv v1 v0,u.up 1 1] []]]) q.abh=0:=by
   unfold zQ;rw[wX m.ctx m.nv,cB (by decide),cB (λh=>h Y)];exact ri F m.ctx (by omega)
  show(cA (some (zQ (.mk 5 (.fn s .nat) [] [.mk 4 s [] [.mk 1 .z [gv v1 v0,u.up 1 1] []]]) q.abh)) λah=>j (dr ah 0))=some true;rw[e,cz];exact hj _ rfl
end Go.fg
