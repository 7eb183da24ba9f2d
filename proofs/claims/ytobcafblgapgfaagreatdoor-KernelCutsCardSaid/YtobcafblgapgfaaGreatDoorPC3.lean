/- Part of the proof of KernelCuts: plain facts. -/
import Derived.Test.YtobcafblgapgfaaGreatDoorPC2
set_option linter.all false
namespace Go.eD
open Go
def Tm.kT{t:Tm}(h:t.ok=true)(hn:t.afq<=4096):t.err=0:=by grind[Tm.err]
def Ol(n:Nat)(c:cY)(t:Tm):c6 (n+1) c (.mk 18 0 .z [t] [] [])=cH (np t t) λa=>cH (gB c t 1) λb=>some (a,[],b):=by rw[c6];rfl
def Be(L:List Fm)(t:Tm)(g:List Ty)(hs:List Fm):ke L 18 0 .z [t] [] (Pf.nt L []) g hs=fW (jb t g 1) (.inl (.mk 1 .z [t,t] [],0)):=rfl
def PN(n:Nat)(L:List Fm)(t:Tm)(p:cS):kW n L (.mk 18 0 .z [t] [] []) p=cH (gV p.afs t) λa=>if(dI a 0) then some (⟨eA,0⟩,a)else some (⟨.mk 1 .z [t,t] [],0⟩,0):=rfl
def Gx{L:List Fm}{t:Tm}(a:t.err=0):fI L (.mk 18 0 .z [t] [] []) 5:=by
 refine fI.of (N:=0) λn n' _ _ p c h=>?_;have e:=h.pl.nv;have f:=h.pl.ctx;obtain⟨a1,a2⟩:=Tm.ey a;have hw:=t.eY a1;rw[show n'+4=n'+3+1 from rfl,Ol,Be,PN,h.pl.afs,pC a1 f Zb,(has_both f e rfl a 1).2,wN Zb Zb,cG,cG,cG]
 by_cases b:jb t c.afs 1=0
 ·have d:dd c.afs t .nat:=se f a (.inl rfl) b;rw[cJ (by rw[cP];simpa using b),ej b,b];refine hO.yes rfl rfl rfl .nil (.eq d d) ?_;rw[Fm.cK];simp only[cN];omega
 ·rw[cL (by rw[cP];exact b),fy b];exact hO.no b rfl rfl rfl
def Mi(n:Nat)(c:cY)(F:Fm)(a b:Pf):c6 (n+2) c (.mk 19 0 .z [] [F] [a,b])=iG (fU (eZ c.afs [.nat])<|cH (jY (fK c.afs [.nat]) F) λe=>if(dI e 0) then some (eA,[],e)else c0 (dg n c a) λd f=>if(dI f 0) then some (eA,[],f)else if(dI d.cZ.afo 1) then some (eA,[],10)else cH (du d.cZ.dy 0) λo=>c0 (dY n c b F o) λp g=>if(dI g 0) then some (eA,[],g)else cH (du d.cZ.dy 1) λh=>c0 (iF F h) λi j=>some (i,p,j)) λk l m=>some (k,l,m):=by
 rw[c6];rw[qE];rfl
def A0(L:List Fm)(F:Fm)(a b:Pf)(g:List Ty)(hs:List Fm):ke L 19 0 .z [] [F] (Pf.nt L [a,b]) g hs=fW (F.nI (g++[.nat])) (pbind (vt (a.inf L g hs) 1) λa _=>pbind (tK (b.inf L g hs) F (a.dy.getD 0 Tm.z)) λ_ n=>fW (gH F (a.dy.getD 1 Tm.z)).2 (.inl ((gH F (a.dy.getD 1 Tm.z)).1,n))):=rfl
def Lc(n:Nat)(L:List Fm)(F:Fm)(a b:Pf)(p:cS):kW (n+1) L (.mk 19 0 .z [] [F] [a,b]) p=cH (fi p.afs [.nat]) λj=>cH (dE FU j F) λc=>if(dI c 0) then some (⟨eA,0⟩,c)else c0 (dG n L a p 1) λd e=>if(dI e 0) then some (⟨eA,0⟩,e)else cH (du d.cZ.dy 0) λk=>c0 (dJ n L b p F k) λl f=>if(dI f 0) then some (⟨eA,0⟩,f)else cH (du d.cZ.dy 1) λg=>c0 (gP F g) λh i=>some (⟨h,l.fF⟩,i):=by
 show jK (n+1) L (.mk 19 0 .z [] [F] [a,b]) p=_;rw[jK];rfl
def Eu{L:List Fm}{F:Fm}(hF:F.err=0){a b:Pf}{N:Nat}(E:fI L a N)(G:fI L b N):fI L (.mk 19 0 .z [] [F] [a,b]) (N+5):=by
 refine fI.of λn n' hn H p c h=>?_;have r:=h.pl.nv;have B:=h.pl.ctx;have I:=(Fm.ey hF).2;obtain⟨t1,t2,_⟩:=mv B.nat aaV hF;rw[show n'+4=n'+2+2 from rfl,Mi,A0,Lc,h.pl.afs,lE Ty.ek Zb,cG,t1,cG,di aaV,cM,ec,t2,cG]
 by_cases i:F.nI (c.afs++[.nat])=0
 ·have s:=i;rw[<-nN (a:=_=_),<-ne_eq,<-cP] at s;rw[cJ s,cJ s,ej i];have g:=lx F (Fm.ey hF).1 _ B.nat i;rcases iN (E (n+2) (n'+2) Zb Zb p c h) 1 with⟨e,he,j,k,d⟩|⟨f,m,l,j,k,d,hu,C,t⟩
  ·rw[j,k,cI,cL (by rw[cP];exact he)];rcases d with d|⟨f,l,m,d,t,rfl,_⟩
   ·rw[d,cI,cL (by rw[cP];exact he)];exact hO.no he rfl rfl rfl
   ·rw[d,cI,cJ nz,cL (by rw[cP];exact t)];exact hO.no he rfl rfl rfl
  ·obtain⟨x,y,rfl,D,hy⟩:=C.ty.Ix t;have q:=C.afq;rw[Fm.cK] at q;simp only[cN] at q;have u:x.err=0:=Tm.kT D.ok Zb;have v:y.err=0:=Tm.kT hy.ok Zb;have w:lB c.afs F x:=⟨hF,u,.nat,g,D⟩;have o:lB c.afs F y:=⟨hF,v,.nat,g,hy⟩;rw[j,k,d,cI,cI,cJ nz,cJ nz,cJ aae,dA];simp only[Fm.eF,dc,ef,fL,iU,cG,rk,FV];rcases mj r (G (n+2) (n'+1) Zb Zb p c h) w with⟨e,z,l,m,he,j,k,d,hu⟩|⟨f,m,l,j,k,d,hu⟩
   ·rw[j,k,d,cI,cI,cL (by rw[cP];exact he),cL (by rw[cP];exact he)];exact hO.no he rfl rfl rfl
   ·rw[j,k,d,cI,cI,cJ nz,cJ nz,dA,(o.both Zb).1,(o.both Zb).2];rcases gO F y with A|⟨J,A⟩
    ·rw[A,cI,cI,fy Zk];exact hO.no Zk rfl rfl rfl
    ·rw[A,cI,cI,ej rfl];exact hO.yes (f:=Fm.ei 0 F y) rfl rfl rfl hu o.put Zb
 ·rw[cL (by rw[cP];exact i),cL (by rw[cP];exact i),fy i];exact hO.no i rfl rfl rfl
def Rv(f:Fm)(l:List Int):Option (Fm×List Int×Int):=
 dO (λ(d:Bool)=>if d then some (eA,[],10)else cH (du f.afp 0) λa=>cH (lC f.cW a.cW) λb=>cH (iQ b) λe=>if(dI e 0) then some (eA,[],4)else cH (du a.afp 0) λg=>cH (fl FU g 2 1) λh=>cH (fj 3 [v1,v0]) λi=>c0 (iF h i) λj k=>cH (js 4 f.cW j) λm=>cH (js 5 b m) λn=>some (n,l,k)) λc=>if(dI f.afo 4) then c true else cH (du f.afp 0) λo=>c (dI o.afo 5)
def L9{f:Fm}{l:List Int}(h:f.afo≠4):Rv f l=some (eA,[],10):=by grind[dI,cP,Rv,cO]
def LH{s:Ty}{x:Fm}{l:List Int}(h:x.afo≠5):Rv (.mk 4 s [] [x]) l=some (eA,[],10):=by
 have o:dI x.afo 5=true:=by rw[cP];exact h
 have e:Rv (.mk 4 s [] [x]) l=(λ(c:Bool)=>if c then some (eA,[],10)else cH (du [x] 0) λa=>cH (lC s a.cW) λb=>cH (iQ b) λd=>if(dI d 0) then some (eA,[],4)else cH (du a.afp 0) λf=>cH (fl FU f 2 1) λg=>cH (fj 3 [v1,v0]) λi=>c0 (iF g i) λj k=>cH (js 4 s j) λm=>cH (js 5 b m) λn=>some (n,l,k)) (dI x.afo 5):=rfl
 grind
def SE{s u:Ty}{y:Fm}{l:List Int}:Rv (.mk 4 s [] [.mk 5 u [] [y]]) l=cH (lC s u) λa=>cH (iQ a) λb=>if(dI b 0) then some (eA,[],4)else cH (fl FU y 2 1) λc=>cH (fj 3 [v1,v0]) λd=>c0 (iF c d) λe f=>cH (js 4 s e) λg=>cH (js 5 a g) λh=>some (h,l,f):=rfl
def Is(n:Nat)(c:cY)(a:Pf):c6 (n+2) c (.mk 20 0 .z [] [] [a])=iG (c0 (dg n c a) λb d=>if(dI d 0) then some (eA,[],d)else Rv b.cZ b.fF) λe f g=>some (e,f,g):=by
 rw[c6];rw[pR];rfl
def yo(L:List Fm)(a:Pf)(g:List Ty)(hs:List Fm):ke L 20 0 .z [] [] (Pf.nt L [a]) g hs=pbind (vt (a.inf L g hs) 4) λa m=>mX ((a.afp.getD 0 eA).afo≠5) 10 (mX ((Ty.fn a.cW (a.afp.getD 0 eA).cW).err≠0) 4 (mX ((gH (((a.afp.getD 0 eA).afp.getD 0 eA).up 2 1) (eS v1 v0)).2≠0) 4 (.inl (.mk 5 (Ty.fn a.cW (a.afp.getD 0 eA).cW) [] [.mk 4 a.cW [] [(gH (((a.afp.getD 0 eA).afp.getD 0 eA).up 2 1) (eS v1 v0)).1]],m)))):=rfl
def S9(f:Fm)(u:Int):Option (cT×Int):=
 cH (du f.afp 0) λa=>if(dI a.afo 5) then some (⟨eA,0⟩,10)else cH (mO a.cW [f.cW]) λb=>cH (du a.afp 0) λd=>cH (ee d 2 1) λe=>cH (hX 1) λg=>cH (hX 0) λh=>cH (rB g [h]) λi=>c0 (gP e i) λj k=>dO (λ(l:Bool)=>if l then some (⟨eA,0⟩,4)else cH (jH 4 f.cW j) λm=>cH (jH 5 b m) λn=>some (⟨n,u⟩,0)) λc=>if(dI k 0) then c true else cH (kJ b) λo=>c (dI o 0)
def LI{s:Ty}{x:Fm}{u:Int}(h:x.afo≠5):S9 (.mk 4 s [] [x]) u=some (⟨eA,0⟩,10):=by grind[dI,cP,S9,Fm.cX,dc,cG]
def IS(n:Nat)(L:List Fm)(a:Pf)(p:cS):kW (n+1) L (.mk 20 0 .z [] [] [a]) p=c0 (dG n L a p 4) λb c=>if(dI c 0) then some (⟨eA,0⟩,c)else S9 b.cZ b.fF:=by
 show ll (n+1) L (.mk 20 0 .z [] [] [a]) p=_;rfl
def SB{s u:Ty}{y b:Fm}{m:Int}{q:Fm×Int}(v:ee y 2 1=some b)(x:gP b (eS v1 v0)=some q)(z:kJ (.fn s u)=some (Ty.fn s u).err):S9 (.mk 4 s [] [.mk 5 u [] [y]]) m=if q.2=0/\(Ty.fn s u).err=0 then some (⟨.mk 5 (.fn s u) [] [.mk 4 s [] [q.1]],m⟩,0)else some (⟨eA,0⟩,4):=by
 obtain⟨w,e⟩:=q
 have A:S9 (.mk 4 s [] [.mk 5 u [] [y]]) m=cH (mO u [s]) λa=>cH (ee y 2 1) λf=>cH (hX 1) λg=>cH (hX 0) λi=>cH (rB g [i]) λj=>c0 (gP f j) λk l=>dO (λ(n:Bool)=>if n then some (⟨eA,0⟩,4)else cH (jH 4 s k) λo=>cH (jH 5 a o) λp=>some (⟨p,m⟩,0)) λc=>if(dI l 0) then c true else cH (kJ a) λr=>c (dI r 0):=by
  rfl
 rw[A,G2,cG,v,cG,show hX 1=some v1 from rfl,cG,show hX 0=some v0 from rfl,cG,uK,cG,show Tm.mk 3 0 (.mk 0 []) [v1,v0]=eS v1 v0 from rfl,x,cI,cO,z,cG]
 by_cases he:e=0
 ·subst he;rw[cJ nz]
  by_cases d:(Ty.fn s u).err=0
  ·have t:dI (Ty.fn s u).err 0=false:=by rw[d];rfl
   rw[t,cL ⟨rfl,d⟩];rfl
  ·have t:dI (Ty.fn s u).err 0=true:=by rw[cP];exact d
   rw[t,cJ (λh=>d h.2)];rfl
 ·rw[cL (by rw[cP];exact he),cJ (λh=>he h.1)];rfl
def CJ{L:List Fm}{a:Pf}{N:Nat}(E:fI L a N):fI L (.mk 20 0 .z [] [] [a]) (N+5):=by
 refine fI.of λn n' hn F p c h=>?_;have G:=h.pl.nv;rw[show n'+4=n'+2+2 from rfl,Is,yo,IS];rcases iN (E (n+2) (n'+2) Zb Zb p c h) 4 with⟨e,he,k,o,i⟩|⟨f,m,l,k,o,i,hu,C,r⟩
 ·rw[k,o,cI,cL (by rw[cP];exact he)];rcases i with i|⟨f,l,m,i,r,rfl,_⟩
  ·rw[i,cI,cL (by rw[cP];exact he)];exact hO.no he rfl rfl rfl
  ·rw[i,cI,cJ nz,L9 r];exact hO.no he rfl rfl rfl
 ·obtain⟨s,x,rfl,hs,D⟩:=C.ty.nV r (.inl rfl);have t:=C.sub (x:=x) aae D;rw[k,o,i,cI,cI,cJ nz,cJ nz,dA]
  by_cases d:x.afo=5
  ·obtain⟨u,y,rfl,v,hy⟩:=D.nV d (.inr (.inl rfl));have g:=t.sub (x:=y) aae hy;have H:=dx hs;have I:=dx v;have J:=g.afq
   have K:(Ty.fn s u).afq<=1000:=by rw[Ty.fR];omega
   have j:y.afu 1000000000=true:=hy.afu _ aaV;have M:ee y 2 1=some (y.up 2 1):=(ns g.err j (f:=2) (c:=1) Zb Zb).1;have O:fl FU y 2 1=some (y.up 2 1):=(ns g.err j (f:=2) (c:=1) Zb Zb).2
   have w:lB (c.afs++[.fn s u]++[s]) (y.up 2 1) (eS v1 v0):=⟨tG g.err Zb Zb,Zk,u,by
    have:=hy.up c.afs [s,u] [.fn s u] aae
    simpa using this,.app rP kK⟩
   obtain⟨P,Q⟩:=w.both aaV;have R:=EU;have hw:=Fm.eY _ w.put.ok;simp only[Fm.cX,Fm.ds,Fm.c8,rk];rw[eP Zk,SB M P (rI Zb),SE,fu Zb Zb,cG,iw Zb,cG]
   by_cases b:(Ty.fn s u).err=0
   ·have A:¬dI (Ty.fn s u).err 0=true:=by rw[cP];simpa using b
    rw[cJ A,eP (by simpa using b),O,cG,show fj 3 [v1,v0]=some (eS v1 v0)from mP Zk Zk,cG,Q];rcases gO (y.up 2 1) (eS v1 v0)with B|⟨S,B⟩
    ·rw[B,cJ (λh=>by cases h.1),cI,ft Zk,vO Zb Zb,cG];rw[vO Zb (by rw[Fm.dD];simp only[cN];omega),cG];exact hO.no Zk rfl rfl rfl
    ·rw[B,cL ⟨rfl,b⟩,cI,eP (λh=>h rfl),vO Zb Zb,cG];rw[vO Zb (by rw[Fm.dD];simp only[cN];omega),cG];refine hO.yes (f:=.mk 5 (.fn s u) [] [.mk 4 s [] [Fm.ei 0 (y.up 2 1) (eS v1 v0)]]) rfl rfl rfl hu (.q (.inr (.inl rfl)) b (.q (.inl rfl) hs w.put)) ?_;rw[Fm.cK];simp only[cN];rw[Fm.cK];simp only[cN];omega
   ·have A:dI (Ty.fn s u).err 0=true:=by rw[cP];exact b
    rw[cL A,ft b,cJ (λh=>b h.2)];exact hO.no Zk rfl rfl rfl
  ·simp only[Fm.cX,rk];rw[LI d,LH d,ft d];exact hO.no Zk rfl rfl rfl
inductive rN:Pf->Prop
 |hyp {i}:0<=i->rN (.mk 1 i .z [] [] [])|zl {i}:0<=i->rN (.mk 2 i .z [] [] [])|Dx {a b}:rN a->rN b->rN (.mk 3 0 .z [] [] [a,b])|and {k a}:k=4\/k=5->rN a->rN (.mk k 0 .z [] [] [a])|DF {F a}:F.err=0->rN a->rN (.mk 6 0 .z [] [F] [a])|DC {a b}:rN a->rN b->rN (.mk 7 0 .z [] [] [a,b])|all {k s a}:k=8\/k=12->s.err=0->rN a->rN (.mk k 0 s [] [] [a])|KX {k t a}:k=9\/k=13->t.err=0->rN a->rN (.mk k 0 .z [t] [] [a])|ex {k t F a}:k=10\/k=14->t.err=0->F.err=0->rN a->rN (.mk k 0 .z [t] [F] [a])|KW {k a b}:k=11\/k=15->rN a->rN b->rN (.mk k 0 .z [] [] [a,b])|ind {k t F a b}:k=16\/k=17->t.err=0->F.err=0->rN a->rN b->rN (.mk k 0 .z [t] [F] [a,b])|refl {t}:t.err=0->rN (.mk 18 0 .z [t] [] [])|subst {F a b}:F.err=0->rN a->rN b->rN (.mk 19 0 .z [] [F] [a,b])|choice {a}:rN a->rN (.mk 20 0 .z [] [] [a])
mutual
def Pf.rb:Pf->Nat
 |.mk _ _ _ _ _ l=>1+Pf.oF l
def Pf.oF:List Pf->Nat
 |[]=>0|p::l=>p.rb+Pf.oF l
end
theorem fI.mono{L:List Fm}{P:Pf}{N M:Nat}(h:fI L P N)(a:N<=M):fI L P M:=λn n' b c=>h n n' Zb Zb
def JK{L:List Fm}{P:Pf}(h:rN P):fI L P (5*P.rb):=by
 induction h with
 |hyp hi=>exact Iy hi|zl hi=>exact Jz hi|Dx _ _ a b=>exact(GA (a.mono (Gg _ _)) (b.mono (F1 _ _))).mono (by simp only[Pf.rb,Pf.oF];omega)|and c _ a=>
  rcases c with rfl|rfl
  ·exact(Gy a).mono (by simp only[Pf.rb,Pf.oF];omega)
  ·exact(Ha a).mono (by simp only[Pf.rb,Pf.oF];omega)
 |DF hF _ a=>exact(Hd hF a).mono (by simp only[Pf.rb,Pf.oF];omega)|DC _ _ a b=>exact(G9 (a.mono (Gg _ _)) (b.mono (F1 _ _))).mono (by simp only[Pf.rb,Pf.oF];omega)|all c hs _ a=>
  rcases c with rfl|rfl
  ·exact(Gv hs a).mono (by simp only[Pf.rb,Pf.oF];omega)
  ·exact(D2 hs a).mono (by simp only[Pf.rb,Pf.oF];omega)
 |KX c d _ a=>
  rcases c with rfl|rfl
  ·exact(JP d a).mono (by simp only[Pf.rb,Pf.oF];omega)
  ·exact(GP d a).mono (by simp only[Pf.rb,Pf.oF];omega)
 |ex c d hF _ a=>
  rcases c with rfl|rfl
  ·exact(Gz d hF a).mono (by simp only[Pf.rb,Pf.oF];omega)
  ·exact(GH d hF a).mono (by simp only[Pf.rb,Pf.oF];omega)
 |KW c _ _ a b=>
  rcases c with rfl|rfl
  ·exact(Cp (a.mono (Gg _ _)) (b.mono (F1 _ _))).mono (by simp only[Pf.rb,Pf.oF];omega)
  ·exact(Db (a.mono (Gg _ _)) (b.mono (F1 _ _))).mono (by simp only[Pf.rb,Pf.oF];omega)
 |ind c d hF _ _ a b=>
  rcases c with rfl|rfl
  ·exact(D3 d hF (a.mono (Gg _ _)) (b.mono (F1 _ _))).mono (by simp only[Pf.rb,Pf.oF];omega)
  ·exact(E1 d hF (a.mono (Gg _ _)) (b.mono (F1 _ _))).mono (by simp only[Pf.rb,Pf.oF];omega)
 |refl d=>exact Gx d|subst hF _ _ a b=>exact(Eu hF (a.mono (Gg _ _)) (b.mono (F1 _ _))).mono (by simp only[Pf.rb,Pf.oF];omega)|choice _ a=>exact(CJ a).mono (by simp only[Pf.rb,Pf.oF];omega)
mutual
def Pf.afq:Pf->Nat
 |.mk _ _ _ ts fs l=>1+cN Tm.afq ts+cN Fm.afq fs+Pf.je l
def Pf.je:List Pf->Nat
 |[]=>0|p::l=>p.afq+Pf.je l
end
def Pf.lr:∀l:List Pf,Pf.je l=cN Pf.afq l
 |[]=>by rw[Pf.je];rfl|p::l=>by rw[Pf.je,Pf.lr l];rfl
theorem Pf.cK(k i:Int)(s:Ty)(ts:List Tm)(fs:List Fm)(l:List Pf):(Pf.mk k i s ts fs l).afq=1+cN Tm.afq ts+cN Fm.afq fs+cN Pf.afq l:=by rw[Pf.afq,Pf.lr]
mutual
def Pf.wt:Pf->Nat
 |.mk _ _ s ts fs l=>1+s.afq+cN Tm.wt ts+cN Fm.wt fs+Pf.Ea l
def Pf.Ea:List Pf->Nat
 |[]=>0|p::l=>p.wt+Pf.Ea l
end
def Pf.vT:∀l:List Pf,Pf.Ea l=cN Pf.wt l
 |[]=>by rw[Pf.Ea];rfl|p::l=>by rw[Pf.Ea,Pf.vT l];rfl
theorem Pf.dD(k i:Int)(s:Ty)(ts:List Tm)(fs:List Fm)(l:List Pf):(Pf.mk k i s ts fs l).wt=1+s.afq+cN Tm.wt ts+cN Fm.wt fs+cN Pf.wt l:=by rw[Pf.wt,Pf.vT]
def Pf.eL(p:Pf):1<=p.wt:=by cases p;rw[Pf.dD];omega
def Pf.da(p:Pf):1<=p.afq:=by cases p;rw[Pf.cK];omega
def Pf.ind{p:Pf->Prop}(h:∀k i s ts fs l,(∀t∈l,p t)->p (.mk k i s ts fs l))(t:Pf):p t:=by
 match t with
 |.mk k i s ts fs l=>exact h k i s ts fs l λx a=>Pf.ind h x
termination_by SizeOf.sizeOf t
decreasing_by
 have:=R1 a;simp only[Pf.mk.sizeOf_spec];omega
def Pf.eJ(p:Pf):p.afq<=p.wt:=by
 induction p using Pf.ind with
 |h k i s ts fs l a=>
  rw[Pf.cK,Pf.dD];have b:=gn (l:=ts) (λx _=>Tm.eJ x);have c:=gn (l:=fs) (λx _=>Fm.eJ x);have d:=gn (l:=l) a;omega
def Pf.sig(k:Int):Option (Bool×Bool×Nat×Nat×Nat):=
 if k=1\/k=2 then some (true,false,0,0,0)
 else if k=3\/k=7\/k=11\/k=15 then some (false,false,0,0,2)
 else if k=4\/k=5\/k=20 then some (false,false,0,0,1)
 else if k=6 then some (false,false,0,1,1)
 else if k=8\/k=12 then some (false,true,0,0,1)
 else if k=9\/k=13 then some (false,false,1,0,1)
 else if k=10\/k=14 then some (false,false,1,1,1)
 else if k=16\/k=17 then some (false,false,1,1,2)
 else if k=18 then some (false,false,1,0,0)
 else if k=19 then some (false,false,0,1,2)
 else none
def Pf.node(k i:Int)(s:Ty)(d nf e:Nat):Bool:=
 match Pf.sig k with
 |none=>false|some (f,ty,a,b,c)=>decide (d=a)&&decide (nf=b)&&decide (e=c)&&decide (0<=i)&&(f||decide (i=0))&&(if ty then decide (s.err=0)else s.kV)
mutual
def Pf.ok:Pf->Bool
 |.mk k i s ts fs l=>Pf.node k i s ts.length fs.length l.length&&ts.all Tm.ok&&fs.all Fm.ok&&Pf.AL l
def Pf.AL:List Pf->Bool
 |[]=>true|p::l=>p.ok&&Pf.AL l
end
def Pf.rU:∀l:List Pf,Pf.AL l=l.all Pf.ok
 |[]=>by rw[Pf.AL];rfl|p::l=>by rw[Pf.AL,Pf.rU l];rfl
theorem Pf.eu(k i:Int)(s:Ty)(ts:List Tm)(fs:List Fm)(l:List Pf):(Pf.mk k i s ts fs l).ok=(Pf.node k i s ts.length fs.length l.length&&ts.all Tm.ok&&fs.all Fm.ok&&l.all Pf.ok):=by rw[Pf.ok,Pf.rU]
def E4(t:Tm):Bool:=decide (t.afq<=4096)
def Ho(f:Fm):Bool:=decide (f.afq<=4096)
mutual
def Pf.small:Pf->Bool
 |.mk _ _ _ ts fs l=>ts.all E4&&fs.all Ho&&Pf.yY l
def Pf.yY:List Pf->Bool
 |[]=>true|p::l=>p.small&&Pf.yY l
end
def Pf.AF:∀l:List Pf,Pf.yY l=l.all Pf.small
 |[]=>by rw[Pf.yY];rfl|p::l=>by rw[Pf.yY,Pf.AF l];rfl
def Pf.o_(k i:Int)(s:Ty)(ts:List Tm)(fs:List Fm)(l:List Pf):(Pf.mk k i s ts fs l).small=(ts.all E4&&fs.all Ho&&l.all Pf.small):=by rw[Pf.small,Pf.AF]
def Pf.err(p:Pf):Int:=if p.ok then(if p.small=true/\p.afq<=16384 then 0 else 4)else 2
def PU{k:Int}(h:Pf.sig k≠none):k=1\/k=2\/k=3\/k=4\/k=5\/k=6\/k=7\/k=8\/k=9\/k=10\/k=11\/k=12\/k=13\/k=14\/k=15\/k=16\/k=17\/k=18\/k=19\/k=20:=by
 refine LY λhn=>h ?_;unfold Pf.sig;simp only[not_or] at hn;rw[cJ Zb,cJ Zb,cJ Zb,cJ Zb,cJ Zb,cJ Zb,cJ Zb,cJ Zb,cJ Zb,cJ Zb]
def C9{k:Int}(h:k<1\/20<k):Pf.sig k=none:=by
 unfold Pf.sig;rw[cJ Zb,cJ Zb,cJ Zb,cJ Zb,cJ Zb,cJ Zb,cJ Zb,cJ Zb,cJ Zb,cJ Zb]
def GM(k:Int):(Pf.sig k=none/\∃r,nU k=some (r,false))\/∃d ty a b c r,Pf.sig k=some (d,ty,a,b,c)/\nU k=some (r,true)/\r.afr=d/\r.typed=ty/\r.dy=((a:Nat):Int)/\r.fP=((b:Nat):Int)/\r.afp=((c:Nat):Int):=by
 by_cases h:k<1\/20<k
 ·refine .inl ⟨C9 h,?_⟩;unfold nU;rw[cL (by rw[gY,mu,hW,fB];omega)];exact⟨_,rfl⟩
 ·have e:k=1\/k=2\/k=3\/k=4\/k=5\/k=6\/k=7\/k=8\/k=9\/k=10\/k=11\/k=12\/k=13\/k=14\/k=15\/k=16\/k=17\/k=18\/k=19\/k=20:=Zb
  refine .inr ?_;rcases e with rfl|rfl|rfl|rfl|rfl|rfl|rfl|rfl|rfl|rfl|rfl|rfl|rfl|rfl|rfl|rfl|rfl|rfl|rfl|rfl<;>exact⟨_,_,_,_,_,_,rfl,rfl,rfl,rfl,rfl,rfl,rfl⟩
def Ec(k:Int):(Pf.sig k=none/\∃r,n_ k=some (r,false))\/∃d ty a b c r,Pf.sig k=some (d,ty,a,b,c)/\n_ k=some (r,true)/\r.afr=d/\r.ta=ty/\r.dy=((a:Nat):Int)/\r.fP=((b:Nat):Int)/\r.afp=((c:Nat):Int):=by
 by_cases h:k<1\/20<k
 ·refine .inl ⟨C9 h,?_⟩;unfold n_;simp only[gY,mu,dS];rw[cJ Zb,cJ Zb,cJ Zb,cJ Zb,cJ Zb,cJ Zb,cJ Zb,cJ Zb,cJ Zb,cJ Zb,cJ Zb];exact⟨_,rfl⟩
 ·have e:k=1\/k=2\/k=3\/k=4\/k=5\/k=6\/k=7\/k=8\/k=9\/k=10\/k=11\/k=12\/k=13\/k=14\/k=15\/k=16\/k=17\/k=18\/k=19\/k=20:=Zb
  refine .inr ?_;rcases e with rfl|rfl|rfl|rfl|rfl|rfl|rfl|rfl|rfl|rfl|rfl|rfl|rfl|rfl|rfl|rfl|rfl|rfl|rfl|rfl<;>exact⟨_,_,_,_,_,_,rfl,rfl,rfl,rfl,rfl,rfl,rfl⟩
def fS{k i:Int}{s:Ty}{f nf g:Nat}(h:Pf.node k i s f nf g=true){j ty:Bool}{a b c:Nat}(hs:Pf.sig k=some (j,ty,a,b,c)):(f:Int)=a/\(nf:Int)=b/\(g:Int)=c/\0<=i/\(j=false->i=0)/\(ty=true->s.err=0)/\(ty=false->s=.mk 0 []):=by
 unfold Pf.node at h;rw[hs] at h;simp only[ew,j8,mu] at h;obtain⟨⟨⟨⟨⟨o,p⟩,q⟩,l⟩,m⟩,d⟩:=h;refine⟨Zb,Zb,Zb,l,λn=>m.resolve_left (by simp[n]),λe=>?_,λe=>?_⟩
 ·rw[cL e] at d;simpa using d
 ·rw[cJ aav] at d;exact(Ty.ik s).1 d
def Pf.w(p:Pf):p.ok=true->p.small=true->rN p:=by
 induction p using Pf.ind with
 |h k i s ts fs l y=>
  intro v hs;rw[Pf.eu] at v;rw[Pf.o_] at hs;simp only[ew,gR] at v hs;obtain⟨⟨⟨m,z⟩,A⟩,B⟩:=v;obtain⟨⟨s1,s2⟩,C⟩:=hs;have r:∀t∈ts,t.err=0:=λt q=>Tm.kT (z t q) (by have:=s1 t q;simpa[E4] using this)
  have u:∀f∈fs,f.err=0:=λf q=>by
   have:=s2 f q;simp only[Ho,j8] at this;unfold Fm.err;rw[cL (A f q),cJ Zb]
  have j:∀x∈l,rN x:=λx q=>y x q (B x q) (C x q);clear y z A B s1 s2 C;have D:=PU (k:=k) (λhn=>by unfold Pf.node at m;rw[hn] at m;cases m);rcases D with rfl|rfl|rfl|rfl|rfl|rfl|rfl|rfl|rfl|rfl|rfl|rfl|rfl|rfl|rfl|rfl|rfl|rfl|rfl|rfl
  ·obtain⟨q1,c,d,n,e,o,g⟩:=fS m rfl;obtain rfl:=eh.1 q1;obtain rfl:=eh.1 c;obtain rfl:=eh.1 d;obtain rfl:=g rfl;exact .hyp n
  ·obtain⟨q1,c,d,n,e,o,g⟩:=fS m rfl;obtain rfl:=eh.1 q1;obtain rfl:=eh.1 c;obtain rfl:=eh.1 d;obtain rfl:=g rfl;exact .zl n
  ·obtain⟨q1,c,d,n,e,o,g⟩:=fS m rfl;obtain rfl:=eh.1 q1;obtain rfl:=eh.1 c;obtain⟨a,b,rfl⟩:=kz d;obtain rfl:=e rfl;obtain rfl:=g rfl;exact .Dx (j a aae) (j b aae)
  ·obtain⟨q1,c,d,n,e,o,g⟩:=fS m rfl;obtain rfl:=eh.1 q1;obtain rfl:=eh.1 c;obtain⟨a,rfl⟩:=fO d;obtain rfl:=e rfl;obtain rfl:=g rfl;exact .and (.inl rfl) (j a aae)
  ·obtain⟨q1,c,d,n,e,o,g⟩:=fS m rfl;obtain rfl:=eh.1 q1;obtain rfl:=eh.1 c;obtain⟨a,rfl⟩:=fO d;obtain rfl:=e rfl;obtain rfl:=g rfl;exact .and (.inr rfl) (j a aae)
  ·obtain⟨q1,c,d,n,e,o,g⟩:=fS m rfl;obtain rfl:=eh.1 q1;obtain⟨F,rfl⟩:=fO c;obtain⟨a,rfl⟩:=fO d;obtain rfl:=e rfl;obtain rfl:=g rfl;exact .DF (u F aae) (j a aae)
  ·obtain⟨q1,c,d,n,e,o,g⟩:=fS m rfl;obtain rfl:=eh.1 q1;obtain rfl:=eh.1 c;obtain⟨a,b,rfl⟩:=kz d;obtain rfl:=e rfl;obtain rfl:=g rfl;exact .DC (j a aae) (j b aae)
  ·obtain⟨q1,c,d,n,e,o,g⟩:=fS m rfl;obtain rfl:=eh.1 q1;obtain rfl:=eh.1 c;obtain⟨a,rfl⟩:=fO d;obtain rfl:=e rfl;exact .all (.inl rfl) (o rfl) (j a aae)
  ·obtain⟨q1,c,d,n,e,o,g⟩:=fS m rfl;obtain⟨t,rfl⟩:=fO q1;obtain rfl:=eh.1 c;obtain⟨a,rfl⟩:=fO d;obtain rfl:=e rfl;obtain rfl:=g rfl;exact .KX (.inl rfl) (r t aae) (j a aae)
  ·obtain⟨q1,c,d,n,e,o,g⟩:=fS m rfl;obtain⟨t,rfl⟩:=fO q1;obtain⟨F,rfl⟩:=fO c;obtain⟨a,rfl⟩:=fO d;obtain rfl:=e rfl;obtain rfl:=g rfl;exact .ex (.inl rfl) (r t aae) (u F aae) (j a aae)
  ·obtain⟨q1,c,d,n,e,o,g⟩:=fS m rfl;obtain rfl:=eh.1 q1;obtain rfl:=eh.1 c;obtain⟨a,b,rfl⟩:=kz d;obtain rfl:=e rfl;obtain rfl:=g rfl;exact .KW (.inl rfl) (j a aae) (j b aae)
  ·obtain⟨q1,c,d,n,e,o,g⟩:=fS m rfl;obtain rfl:=eh.1 q1;obtain rfl:=eh.1 c;obtain⟨a,rfl⟩:=fO d;obtain rfl:=e rfl;exact .all (.inr rfl) (o rfl) (j a aae)
  ·obtain⟨q1,c,d,n,e,o,g⟩:=fS m rfl;obtain⟨t,rfl⟩:=fO q1;obtain rfl:=eh.1 c;obtain⟨a,rfl⟩:=fO d;obtain rfl:=e rfl;obtain rfl:=g rfl;exact .KX (.inr rfl) (r t aae) (j a aae)
  ·obtain⟨q1,c,d,n,e,o,g⟩:=fS m rfl;obtain⟨t,rfl⟩:=fO q1;obtain⟨F,rfl⟩:=fO c;obtain⟨a,rfl⟩:=fO d;obtain rfl:=e rfl;obtain rfl:=g rfl;exact .ex (.inr rfl) (r t aae) (u F aae) (j a aae)
  ·obtain⟨q1,c,d,n,e,o,g⟩:=fS m rfl;obtain rfl:=eh.1 q1;obtain rfl:=eh.1 c;obtain⟨a,b,rfl⟩:=kz d;obtain rfl:=e rfl;obtain rfl:=g rfl;exact .KW (.inr rfl) (j a aae) (j b aae)
  ·obtain⟨q1,c,d,n,e,o,g⟩:=fS m rfl;obtain⟨t,rfl⟩:=fO q1;obtain⟨F,rfl⟩:=fO c;obtain⟨a,b,rfl⟩:=kz d;obtain rfl:=e rfl;obtain rfl:=g rfl;exact .ind (.inl rfl) (r t aae) (u F aae) (j a aae) (j b aae)
  ·obtain⟨q1,c,d,n,e,o,g⟩:=fS m rfl;obtain⟨t,rfl⟩:=fO q1;obtain⟨F,rfl⟩:=fO c;obtain⟨a,b,rfl⟩:=kz d;obtain rfl:=e rfl;obtain rfl:=g rfl;exact .ind (.inr rfl) (r t aae) (u F aae) (j a aae) (j b aae)
  ·obtain⟨q1,c,d,n,e,o,g⟩:=fS m rfl;obtain⟨t,rfl⟩:=fO q1;obtain rfl:=eh.1 c;obtain rfl:=eh.1 d;obtain rfl:=e rfl;obtain rfl:=g rfl;exact .refl (r t aae)
  ·obtain⟨q1,c,d,n,e,o,g⟩:=fS m rfl;obtain rfl:=eh.1 q1;obtain⟨F,rfl⟩:=fO c;obtain⟨a,b,rfl⟩:=kz d;obtain rfl:=e rfl;obtain rfl:=g rfl;exact .subst (u F aae) (j a aae) (j b aae)
  ·obtain⟨q1,c,d,n,e,o,g⟩:=fS m rfl;obtain rfl:=eh.1 q1;obtain rfl:=eh.1 c;obtain⟨a,rfl⟩:=fO d;obtain rfl:=e rfl;obtain rfl:=g rfl;exact .choice (j a aae)
structure TR (d d':c7) (s:Bool) (n:Nat):Prop where
 lo:d.afq<=d'.afq
 hi:d'.afq<=d.afq+n
 eq:s=true->d'.afq=d.afq+n
 iz:d'.iz=(d.iz||!s)
def TR.trans{d c a:c7}{s e:Bool}{n n':Nat}(h:TR d c s n)(b:TR c a e n'):TR d a (s&&e) (n+n'):=by
 refine⟨by have:=h.lo;have:=b.lo;omega,by have:=h.hi;have:=b.hi;omega,λhs=>?_,?_⟩
 ·rw[ew] at hs;have:=h.eq hs.1;have:=b.eq hs.2;omega
 ·rw[b.iz,h.iz,aau,ZS]
def qe{α:Type}{F:Int->α->c7->Option (eK c7 (Bool×c7))}(ok small:α->Bool)(sz:α->Nat):∀(l:List α) (i:Nat) (d:c7),0<=d.afq->d.afq+cN sz l<=4000000000->(∀(j:Int) (x:α) (d:c7),x∈l->0<=d.afq->d.afq+sz x<=4000000000->if ok x then∃a,F j x d=some (.next a)/\TR d a (small x) (sz x)else∃a,F j x d=some (.ret (false,a)))->if l.all ok then∃a,eg F l i d=some (.inl a)/\TR d a (l.all small) (cN sz l)else∃a,eg F l i d=some (.inr (false,a))
 |[],i,d,_,_,_=>⟨d,rfl,⟨Zb,by simp[cN],λ_=>by simp[cN],aae⟩⟩|x::l,i,d,m,n,h=>by
  simp only[cN] at n;have b:=h i x d aae m Zb;rw[sb]
  by_cases c:ok x=true
  ·rw[cL c] at b;obtain⟨d1,e,f⟩:=b;have g:=qe ok small sz l (i+1) d1 (by have:=f.lo;omega) (by have:=f.hi;omega) (λj y d hy=>h j y d (by simp[hy]));rw[dq,e];simp only[cG,dt,cN]
   by_cases k:l.all ok=true
   ·rw[cL k] at g;obtain⟨d2,o,p⟩:=g;rw[cL (by rw[ew];exact⟨c,k⟩)];exact⟨d2,o,f.trans p⟩
   ·grind
  ·rw[cJ c] at b;obtain⟨d1,e⟩:=b;rw[cJ (by rw[ew];exactλh=>c h.1),dq,e];exact⟨d1,rfl⟩
def An{d:c7}{n e:Int}(a:-1000000000000<=d.afq+n)(b:d.afq+n<=1000000000000):fN d n e=some (dI e 2,⟨d.afq+n,d.iz||dC e 4⟩):=by
 unfold fN;rw[dk Zb Zb];cases d.iz<;>rfl
def Tm.wu(t:Tm):t.err=2/\t.ok=false\/t.ok=true/\E4 t=true/\t.err=0\/t.ok=true/\E4 t=false/\t.err=4:=by
 unfold Tm.err E4;cases h:t.ok with
 |false=>grind|true=>grind
def Fm.wu(t:Fm):t.err=2/\t.ok=false\/t.ok=true/\Ho t=true/\t.err=0\/t.ok=true/\Ho t=false/\t.err=4:=by
 unfold Fm.err Ho;cases h:t.ok with
 |false=>grind|true=>grind
def yd{sz:Nat}{e:Int}{ok small:Bool}(c:e=2/\ok=false\/ok=true/\small=true/\e=0\/ok=true/\small=false/\e=4)(hs:sz<=1000000000){d:c7}(f:0<=d.afq)(g:d.afq+sz<=4000000000):if ok then∃b,(c0 (fN d (if e=0 then(sz:Int)else 0) e) λa d179=>if a then some (.next d179)else some ((.ret (false,d179)):eK c7 (Bool×c7)))=some (.next b)/\TR d b small sz else∃b,(c0 (fN d (if e=0 then(sz:Int)else 0) e) λa d179=>if a then some (.next d179)else some ((.ret (false,d179)):eK c7 (Bool×c7)))=some (.ret (false,b)):=by
 rcases c with⟨rfl,rfl⟩|⟨rfl,rfl,rfl⟩|⟨rfl,rfl,rfl⟩
 ·exact⟨_,rfl⟩
 ·rw[cL rfl,cL rfl,An Zb Zb,cI,cL Zk];refine⟨_,rfl,⟨?_,?_,λ_=>rfl,?_⟩⟩
  all_goals grind[dC]
 ·rw[cL rfl,cJ Zk,An Zb Zb,cI,cL Zk];refine⟨_,rfl,⟨?_,?_,λh=>by(cases h),?_⟩⟩
  all_goals grind[dC]
def yx{f:Bool}{i a b c d nf e:Int}:fp true (fp (xT i 0) true (fp (dI i 0) (fp f (fp (dI d a) true (fp (dI nf b) true (dI e c))) true) (fp (dI d a) true (fp (dI nf b) true (dI e c))))) true=true↔¬(d=a/\nf=b/\e=c/\0<=i/\(f=true\/i=0)):=by
 grind[xd,gY,dI,uu,hW]
def yy{d:Bool}{i a b c e nf f:Int}:fp true (fp (dI e a) true (fp (dI nf b) true (fp (dI f c) true (fp (xT i 0) true (fp d false (dI i 0)))))) true=true↔¬(e=a/\nf=b/\f=c/\0<=i/\(d=true\/i=0)):=by
 cases d with
 |true=>
  grind[xd,gY,hW,cP]
 |false=>grind[xd,uu,gY,hW,cP]
def HX(ty:Bool)(s:Ty):Bool:=if ty then decide (s.err=0)else s.kV
theorem xK{k i:Int}{s:Ty}{d nf e:Nat}{f ty:Bool}{a b c:Nat}(hs:Pf.sig k=some (f,ty,a,b,c)):Pf.node k i s d nf e=true↔((d:Int)=a/\(nf:Int)=b/\(e:Int)=c/\0<=i/\(f=true\/i=0))/\HX ty s=true:=by
 grind[Pf.node,HX]
def TG(d:c7)(A s:Bool)(n:Nat)(o:Option (Bool×c7)):Prop:=(A=true->∃a,o=some (true,a)/\TR d a s n)/\(A=false->∃a,o=some (false,a))
theorem TG.no{d a:c7}{A s:Bool}{n:Nat}(h:A=false):TG d A s n (some (false,a)):=⟨λb=>(by rw[h] at b;cases b),λ_=>⟨a,rfl⟩⟩
def Gj(n:Nat)(d:c7)(k i:Int)(s:Ty)(ts:List Tm)(fs:List Fm)(l:List Pf):ij (n+1) d (.mk k i s ts fs l)=(c0 (nU k) λe F=>
 if(fp F (fp (xT i 0) true (fp (dI i 0) (fp e.afr (fp (dI (dT ts) e.dy) true (fp (dI (dT fs) e.fP) true (dI (dT l) e.afp))) true) (fp (dI (dT ts) e.dy) true (fp (dI (dT fs) e.fP) true (dI (dT l) e.afp))))) true) then(
 some (false,d))
 else(dO (λ(z:c7)=>
 fU (eQ ts)<|dO (λ(G:Int) (A:Tm)=>(λ(a:c7)=>
 c0 (kn A) λg h=>
 c0 (fN a g h) λj d179=>
 if j then(
 some (.next d179))
 else(some (.ret (false,d179)))):Int->Tm->(c7)->(Option (eK (c7) (Bool×c7)))) λm=>
 cH (eg m ts 0 z) (gC (λ(a:c7)=>
 fU (eQ fs)<|dO (λ(D:Int) (o:Fm)=>(λ(b:c7)=>
 c0 (iS o) λp q=>
 c0 (fN b p q) λt d322=>
 if t then(
 some (.next d322))
 else(some (.ret (false,d322)))):Int->Fm->(c7)->(Option (eK (c7) (Bool×c7)))) λu=>
 cH (eg u fs 0 a) (gC (λ(b:c7)=>
 fU (eQ l)<|dO (λ(E:Int) (v:Pf)=>(λ(c:c7)=>
 c0 (ij n c v) λw f=>
 if w then(
 some (.next f))
 else(some (.ret (false,f)))):Int->Pf->(c7)->(Option (eK (c7) (Bool×c7)))) λx=>
 cH (eg x l 0 b) (gC (λ(c:c7)=>
 some (true,c)) (λr=>some r))) (λr=>some r))) (λr=>some r))) λy=>
 if e.typed then(
 c0 (jx s) λH B=>
 if(dI B 0) then(
 some (false,(c7.mk (ep .i64 d.afq 1) d.iz)))
 else(y (c7.mk (ep .i64 d.afq 1) d.iz)))
 else(cH (oM s) λC=>
 if C then(
 y (c7.mk (ep .i64 d.afq 1) d.iz))
 else(some (false,(c7.mk (ep .i64 d.afq 1) d.iz)))))):=by
 rw[ij];rfl
def IX:∀(n:Nat) (P:Pf) (d:c7),P.wt<=n->P.wt<=1000000000->0<=d.afq->d.afq+P.afq<=4000000000->TG d P.ok P.small P.afq (ij n d P):=by
 intro n
 induction n with
 |zero=>intro P d h;have:=P.eL;omega
 |succ n Z=>
  intro P d hn hb h0 hd;cases P with
  |mk k i s ts fs l=>
   rw[Pf.dD] at hn hb;rw[Pf.cK] at hd|-;have aa:=er Tm.wt ts λt _=>t.eL;have ab:=er Fm.wt fs λt _=>t.eL;have ad:=er Pf.wt l λt _=>t.eL;have m1:=gn (l:=ts) (λx _=>Tm.eJ x);have m2:=gn (l:=fs) (λx _=>Fm.eJ x);have m3:=gn (l:=l) (λx _=>Pf.eJ x);rw[Pf.eu,Pf.o_,Gj];rcases GM k with⟨H,r,J⟩|⟨ix,ty,a,b,c,r,H,J,g1,g2,g3,g4,g5⟩
   ·rw[J,cI,uu,cL rfl];exact TG.no (by simp[Pf.node,H])
   ·rw[J,cI,g1,g2,g3,g4,g5,dK,dK,dK]
    by_cases I:(ts.length:Int)=a/\(fs.length:Int)=b/\(l.length:Int)=c/\0<=i/\(ix=true\/i=0)
    ·rw[cJ (λh=>yx.1 h I)]
     have p:Pf.node k i s ts.length fs.length l.length=HX ty s:=by
      rw[vR,xK H];exact⟨λh=>h.2,λh=>⟨I,h⟩⟩
     rw[p];cases f:HX ty s with
     |false=>
      have e:∀j:c7->Option (Bool×c7),(if ty then c0 (jx s) λae K=>if(dI K 0) then some (false,(c7.mk (ep .i64 d.afq 1) d.iz))else j (c7.mk (ep .i64 d.afq 1) d.iz)else cH (oM s) λL=>if L then j (c7.mk (ep .i64 d.afq 1) d.iz)else some (false,(c7.mk (ep .i64 d.afq 1) d.iz)))=some (false,(c7.mk (ep .i64 d.afq 1) d.iz)):=by grind[HX,dI,cP,hD,cI,lI,cG]
      refine kC (λ_=>False) (λ_ h=>h.elim) (λj _=>?_);rw[e j];exact TG.no aae
     |true=>
      refine kC (λd1=>d1.afq=d.afq+1/\d1.iz=d.iz) (λd1 g=>?_) (λj hj=>?_)
      ·have t1:=qe (F:=λ(af:Int) (M:Tm)=>(λ(q:c7)=>c0 (kn M) λu v=>c0 (fN q u v) λw d179=>if w then some (.next d179)else some (.ret (false,d179)))) Tm.ok E4 Tm.afq ts 0 d1 Zb Zb (λj x d m q0 q1=>by
        have:=cV Tm.wt m;have:=x.eJ;rw[lQ Zb,cI]
        exact yd x.wu Zb q0 q1)
       rw[cQ Zb,cM,cO];cases a1:ts.all Tm.ok with
       |false=>
        rw[a1,cJ Zk] at t1;obtain⟨d2,N⟩:=t1;rw[N,cG,mA];exact TG.no aae
       |true=>
        rw[a1,cL rfl] at t1;obtain⟨d2,N,O⟩:=t1;have u1:=O.lo;have u2:=O.hi;rw[N,cG,cR,cQ Zb,cM,cO]
        have t2:=qe (F:=λ(V:Int) (y:Fm)=>(λ(z:c7)=>c0 (iS y) λA B=>c0 (fN z A B) λC d322=>if C then some (.next d322)else some (.ret (false,d322)))) Fm.ok Ho Fm.afq fs 0 d2 Zb Zb (λj x d m q0 q1=>by
         have:=cV Fm.wt m;have:=x.eJ;rw[kg Zb,cI]
         exact yd x.wu Zb q0 q1)
        cases a2:fs.all Fm.ok with
        |false=>
         rw[a2,cJ Zk] at t2;obtain⟨d3,Q⟩:=t2;rw[Q,cG,mA];exact TG.no aae
        |true=>
         rw[a2,cL rfl] at t2;obtain⟨d3,Q,R⟩:=t2;have u3:=R.lo;have u4:=R.hi;rw[Q,cG,cR,cQ Zb,cM,cO]
         have t3:=qe (F:=λ(W:Int) (D:Pf)=>(λ(E:c7)=>c0 (ij n E D) λG o=>if G then some (.next o)else some (.ret (false,o)))) Pf.ok Pf.small Pf.afq l 0 d3 Zb Zb (λj x d m q0 q1=>by
          have:=cV Pf.wt m;have:=cV Pf.afq m;have:=x.eJ;have m:=Z x d Zb Zb q0 Zb;cases X:x.ok with
          |true=>
           obtain⟨S,T,w2⟩:=m.1 X;rw[cL rfl,T,cI,cL rfl];exact⟨S,rfl,w2⟩
          |false=>
           obtain⟨S,T⟩:=m.2 X;rw[cJ Zk,T,cI,cJ Zk]
           exact⟨S,rfl⟩)
         cases a3:l.all Pf.ok with
         |false=>
          rw[a3,cJ Zk] at t3;obtain⟨d4,U⟩:=t3;rw[U,cG,mA];exact TG.no aae
         |true=>
          rw[a3,cL rfl] at t3;obtain⟨d4,U,r4⟩:=t3;rw[U,cG,cR];refine⟨λ_=>⟨d4,rfl,?_⟩,λh=>by simp at h⟩;have r0:TR d d1 true 1:=⟨Zb,Zb,λ_=>by omega,by simp[g.2]⟩;have:=((r0.trans O).trans R).trans r4;rw[tx] at this;exact this
      ·have g:=hj (c7.mk (ep .i64 d.afq 1) d.iz) ⟨by show ep .i64 d.afq 1=_;rw[dk Zb Zb],rfl⟩;unfold HX at f
       by_cases Y:ty=true
       ·rw[cL Y] at f|-
        have hz:¬dI s.err 0=true:=by rw[cP];simpa using f
        rw[hD Zb,cI,cJ hz];exact g
       ·rw[cJ Y] at f|-;rw[lI,cG,f,cL rfl];exact g
    ·rw[cL (yx.2 I)];refine TG.no ?_
     have:Pf.node k i s ts.length fs.length l.length=false:=by
      rw[Ia]
      exactλh=>I ((xK H).1 h).1
     rw[this];simp
def yX{P:Pf}(h:P.wt<=1000000000):uN P=some P.err:=by
 have hn:=P.eJ;have b:=IX FU P (c7.mk 0 false) (by rw[dn];omega) h (by show(0:Int)<=0;omega) (by show(0:Int)+_<=_;omega);unfold uN uo Pf.err;cases c:P.ok with
 |false=>
  obtain⟨a,e⟩:=b.2 c
  grind[cI]
 |true=>
  obtain⟨a,e,r⟩:=b.1 c;rw[e,cI,cL rfl,cL rfl];have d:a.iz=!P.small:=r.iz;rw[d,gY];cases hs:P.small with
  |false=>grind[cI]|true=>
   have f:a.afq=(0:Int)+P.afq:=r.eq hs
   grind[eb,cI]
def G3(n:Nat)(k i:Int)(s:Ty)(ts:List Tm)(fs:List Fm)(l:List Pf):nb (n+1) (.mk k i s ts fs l)=(c0 (n_ k) λb v=>
 if(fp v (fp (dI (dT ts) b.dy) true (fp (dI (dT fs) b.fP) true (fp (dI (dT l) b.afp) true (fp (xT i 0) true (fp b.afr false (dI i 0)))))) true) then(
 some false)
 else(dO (λ(h:Bool)=>
 if h then(
 some false)
 else(fU (eQ ts)<|dO (λ(w:Int) (j:Tm)=>(λ(_:Unit)=>
 cH (kL FU j) λm=>
 if m then(
 some (.next ()))
 else(some (.ret false))):Int->Tm->(Unit)->(Option (eK (Unit) (Bool)))) λo=>
 cH (eg o ts 0 ()) (gC (λ(_:Unit)=>
 fU (eQ fs)<|dO (λ(x:Int) (p:Fm)=>(λ(_:Unit)=>
 cH (nd FU p) λc=>
 if c then(
 some (.next ()))
 else(some (.ret false))):Int->Fm->(Unit)->(Option (eK (Unit) (Bool)))) λd=>
 cH (eg d fs 0 ()) (gC (λ(_:Unit)=>
 fU (eQ l)<|dO (λ(u:Int) (e:Pf)=>(λ(_:Unit)=>
 cH (nb n e) λf=>
 if f then(
 some (.next ()))
 else(some (.ret false))):Int->Pf->(Unit)->(Option (eK (Unit) (Bool)))) λg=>
 cH (eg g l 0 ()) (gC (λ(_:Unit)=>
 some true) (λr=>some r))) (λr=>some r))) (λr=>some r)))) λa=>
 if b.ta then(
 cH (iQ s) λq=>
 if(dI q 0) then(
 a true)
 else(a false))
 else(cH (sO s) λt=>
 a (s_ t)))):=by
 rw[nb];rfl
def yT:∀(n:Nat) (P:Pf),P.wt<=n->P.wt<=1000000000->nb n P=some P.ok:=by
 intro n
 induction n with
 |zero=>intro P h;have:=P.eL;omega
 |succ n u=>
  intro P hn w;cases P with
  |mk k i s ts fs l=>
   rw[Pf.dD] at hn w;have y:=er Tm.wt ts λt _=>t.eL;have z:=er Fm.wt fs λt _=>t.eL;have A:=er Pf.wt l λt _=>t.eL;rw[Pf.eu,G3];rcases Ec k with⟨m,r,p⟩|⟨B,ty,a,b,c,r,m,p,g1,g2,g3,g4,g5⟩
   ·rw[p,cI,uu,cL rfl];simp[Pf.node,m]
   ·rw[p,cI,g1,g2,g3,g4,g5,dK,dK,dK]
    by_cases q:(ts.length:Int)=a/\(fs.length:Int)=b/\(l.length:Int)=c/\0<=i/\(B=true\/i=0)
    ·rw[cJ (λh=>yy.1 h q)]
     have e:Pf.node k i s ts.length fs.length l.length=HX ty s:=by
      rw[vR,xK m];exact⟨λh=>h.2,λh=>⟨q,h⟩⟩
     rw[e];refine kC (G:=λo=>o=some (HX ty s&&ts.all Tm.ok&&fs.all Fm.ok&&l.all Pf.ok)) (λv=>v=!HX ty s) (λv C=>?_) (λj D=>?_)
     ·rw[C];cases HX ty s with
      |false=>rfl|true=>
       rw[cJ Zk,cQ Zb,cM,cO,jU Tm.ok false ts 0 (λj x g=>by
        have:=cV Tm.wt g
        rw[qy Zb,cG]),tx]
       cases ts.all Tm.ok with
       |false=>rfl|true=>
        rw[cL rfl,cG,cR,cQ Zb,cM,cO,jU Fm.ok false fs 0 (λj x g=>by
         have:=cV Fm.wt g
         rw[r9 FU x (by rw[dn];omega) Zb,cG]),tx]
        cases fs.all Fm.ok with
        |false=>rfl|true=>
         rw[cL rfl,cG,cR,cQ Zb,cM,cO,jU Pf.ok false l 0 (λj x g=>by
          have:=cV Pf.wt g
          rw[u x Zb Zb,cG]),tx]
         cases l.all Pf.ok with
         |false=>rfl|true=>rfl
     ·have d:=D (!HX ty s) rfl;unfold HX at d|-
      by_cases f:ty=true
      ·rw[cL f] at d;rw[cL f,cL f,iw Zb,cG]
       grind[dI,cP]
      ·rw[cJ f] at d;rw[cJ f,cJ f,o0,cG,Fq];exact d
    ·rw[cL (yy.2 q)]
     grind[Pf.node,xK]
def qf:∀(n:Nat) (P:Pf),P.wt<=n->P.wt<=1000000000->tr n P=some P.small:=by
 intro n
 induction n with
 |zero=>intro P h;have:=P.eL;omega
 |succ n b=>
  intro P hn c;cases P with
  |mk k i s ts fs l=>
   rw[Pf.dD] at hn c;have d:=er Tm.wt ts λt _=>t.eL;have e:=er Fm.wt fs λt _=>t.eL;have f:=er Pf.wt l λt _=>t.eL;rw[Pf.o_,tr];simp only[Pf.eF,Pf.rJ,Pf.cX,cO]
   rw[cQ Zb,cM,jU E4 false ts 0 (λj x a=>by
    have:=cV Tm.wt a;have:=x.eJ;rw[iW FU x (by rw[dn];omega) Zb,cG]
    by_cases hs:x.afq<=4096
    ·grind[eb,E4]
    ·rw[cL (by rw[eb];omega),cJ (by simpa[E4] using hs)])]
   cases ts.all E4 with
   |false=>rfl|true=>
    rw[cL rfl,cG,cR,cQ Zb,cM,jU Ho false fs 0 (λj x a=>by
     have:=cV Fm.wt a;have:=x.eJ;rw[kN FU x (by rw[dn];omega) Zb,cG]
     by_cases hs:x.afq<=4096
     ·rw[cJ (by rw[eb];omega),cL (show Ho x=true from qb hs)]
     ·rw[cL (by rw[eb];omega),cJ (by simpa[Ho] using hs)]),tx]
    cases fs.all Ho with
    |false=>rfl|true=>
     rw[cL rfl,cG,cR,cQ Zb,cM,jU Pf.small false l 0 (λj x a=>by
      have:=cV Pf.wt a
      rw[b x Zb Zb,cG]),tx]
     cases l.all Pf.small with
     |false=>rfl|true=>rfl
theorem nR:∀(n:Nat) (P:Pf),P.wt<=n->P.wt<=1000000000->lH n P=some (P.afq:Int):=by
 intro n
 induction n with
 |zero=>intro P h;have:=P.eL;omega
 |succ n b=>
  intro P hn c;cases P with
  |mk k i s ts fs l=>
   rw[Pf.dD] at hn c;have d:=er Tm.wt ts λt _=>t.eL;have e:=er Fm.wt fs λt _=>t.eL;have f:=er Pf.wt l λt _=>t.eL;have g:=gn (l:=ts) (λx _=>Tm.eJ x);have m:=gn (l:=fs) (λx _=>Fm.eJ x);have o:=gn (l:=l) (λx _=>Pf.eJ x);rw[Pf.cK,lH];simp only[Pf.eF,Pf.rJ,Pf.cX,cO]
   rw[cQ Zb,cM,show(1:Int)=((1:Nat):Int)from rfl,kf Tm.afq ts 0 1 Zb (λj x v a=>by
    have:=cV Tm.wt a;have:=x.eJ
    rw[iW FU x (by rw[dn];omega) Zb,cG]),cG,cR,cQ Zb,cM,kf Fm.afq fs 0 _ Zb (λj x v a=>by
    have:=cV Fm.wt a;have:=x.eJ
    rw[kN FU x (by rw[dn];omega) Zb,cG]),cG,cR,cQ Zb,cM,kf Pf.afq l 0 _ Zb (λj x v a=>by
    have:=cV Pf.wt a
    rw[b x Zb Zb,cG]),cG,cR]
def nX{P:Pf}(h:P.wt<=1000000000):pH P=some P.err:=by
 unfold pH nW Pf.err;rw[yT FU P (by rw[dn];omega) h,cG];cases P.ok with
 |false=>rfl|true=>
  rw[cL rfl,cL rfl,cO,qf FU P (by rw[dn];omega) h,cG];cases P.small with
  |false=>rfl|true=>grind[nR,FU,dn,cG,xX]
def Pf.TH{P:Pf}(h:P.err=0):rN P/\P.afq<=16384:=by
 unfold Pf.err at h;cases b:P.ok with
 |false=>grind|true=>
  by_cases a:P.small=true/\P.afq<=16384
  ·exact⟨P.w b a.1,a.2⟩
  ·grind
def Us.Bx{l:List Int}{m:Nat}(h:Us l m)(x:Int):x∈l↔0<=x/\m.testBit x.toNat=true:=by
 constructor
 ·intro b;have a:=h.pos x b;refine⟨a,(h.mem x.toNat).1 ?_⟩
  rwa [Vw a]
 ·rintro⟨a,c⟩;have:=(h.mem x.toNat).2 c
  rwa [Vw a] at this
def Us.ext{l a:List Int}{m:Nat}(h:Us l m)(b:Us a m):l=a:=Dk.eq h.Qc b.Qc λx=>by rw[h.Bx,b.Bx]
def Jf{k q m:Nat}(hm:m=2^(k+1)*q+2^k)(j:Nat):(m&&&(m-1)).testBit j=(m.testBit j&&!decide (j=k)):=by
 have c:2^k<2^(k+1):=NO Zk Zb;have d:0<2^k:=aaJ k
 have e:m-1=2^(k+1)*q+(2^k-1):=Zb
 rw[aa8,e,hm,Rz _ c,Rz _ Zb]
 by_cases a:j<k+1
 ·rw[cL a,cL a,N6,abd]
  by_cases b:j=k
  ·simp[b]
  ·rw[xY (show¬k=j by omega)];simp
 ·rw[cJ a,cJ a,xY (show¬j=k by omega)];simp
def L8{a:Int}{l:List Int}{m:Nat}(h:Us (a::l) m):m≠0/\((Lib.ctz 32 m:Nat):Int)=a/\Us l (m&&&(m-1)):=by
 have s:=h.pos a aae;obtain⟨k,rfl⟩:∃k:Nat,a=k:=⟨a.toNat,Zb⟩;have d:m.testBit k=true:=(h.mem k).1 aae
 have f:m≠0:=by rintro rfl;simp at d
 cases h.Qc with
 |cons s1 s2=>
  have g:∀i,i<k->m.testBit i=false:=λi hi=>by
   rw[Ia];intro t;rcases gT.1 ((h.mem i).2 t)with e|e
   ·omega
   ·have:=s1 _ e;omega
  have n:Lib.ctz 32 m=Lib.ctzFrom 32 m:=by unfold Lib.ctz;rw[cJ f]
  obtain⟨q,p,_⟩:=Lib.ctzFrom_spec 32 m Zb (by have:=h.lt;omega);rw[<-n] at p
  have c:m=2^(Lib.ctz 32 m+1)*q+2^Lib.ctz 32 m:=by
   rw[V3,aa1,<-aaY];exact p
  have r:Lib.ctz 32 m=k:=by
   have b:∀j,j<=Lib.ctz 32 m->m.testBit j=decide (Lib.ctz 32 m=j):=λj y=>by
    have u:2^Lib.ctz 32 m<2^(Lib.ctz 32 m+1):=NO Zk Zb
    conv=>lhs;rw[c]
    rw[Rz _ u,cL Zb,N6]
   rcases YN (Lib.ctz 32 m) k with o|heq|hgt
   ·have:=b _ (jM _);rw[g _ o] at this;simp at this
   ·exact heq
   ·have:=b k Zb;rw[d,xY Zb] at this;cases this
  rw[r] at c;refine⟨f,by rw[r],⟨Vq ZE h.lt,λx v=>h.pos x (by simp[v]),s2,λi=>?_⟩⟩;rw[Jf c,ew,<-h.mem i];simp only[Sx,RQ];constructor
  ·intro hi;refine⟨by simp[hi],?_⟩;rintro rfl;have:=s1 _ hi;omega
  ·rintro⟨hi,w⟩;rcases gT.1 hi with e|e
   ·omega
   ·exact e
def Us.zero{m:Nat}(h:Us [] m):m=0:=by
 refine VM λi=>?_;rw[aap,Ia];intro a;have:=(h.mem i).2 a;simp at this
def wA:∀(l:List Int) (m:Nat) (v:List Int) (n:Nat),Us l m->l.length<n->v.length+l.length<=1000000->ow (qH λ(v37:Int) (b:List Int)=>
   if(dI v37 0) then(
   cH (h7 v37) λc=>
   fU (eZ b [c])<|some ((.next ((pz .u32 v37 (eH .u32 v37 1)),(fK b [c]))):eK (Int×List Int) (List Int)))
   else(some (.DN (v37,b)))) n ((m:Int),v)=some (.inl (0,v++l))
 |l,m,v,0,_,hn,_=>by omega|[],m,v,n+1,h,_,_=>by
  rw[h.zero,ow];simp only[qH];rw[cJ (show¬dI ((0:Nat):Int) 0=true by decide)];simp
 |a::l,m,v,n+1,h,hn,e=>by
  simp only[hQ] at hn e;obtain⟨i,f,hu⟩:=L8 h;have d:=h.lt
  have g:dI (m:Int) 0=true:=by rw[cP];omega
  rw[ow];simp only[qH];rw[cL g];rw[show h7 (m:Int)=some a by unfold h7;rw[cL Zb,AZ,f],cG,di aaV,cM,cG,dt,ec];rw[show eH .u32 (m:Int) 1=((m-1:Nat):Int) by unfold eH;rw[xQ Zb Zb];omega,CN d Zb];rw[wA l _ (v++[a]) n hu Zb aaV];simp
def Gt{l:List Int}{m:Nat}(h:Us l m):kA (m:Int)=some l:=by
 have a:=h.len;unfold kA;rw[cO,wA l m [] FU h (by rw[dn];omega) aaV,cG];simp[qH]
def CI:∀(n:Nat) (t:Tm),t.afq<=n->t.afq<=50000000->t.ok=true->zP n t=some t:=by
 intro n
 induction n with
 |zero=>intro t h;have:=t.da;omega
 |succ n c=>
  intro t hn d a;cases t with
  |mk k i s l=>
   rw[Tm.cK] at hn d;have g:=Tm.dH l;have hi:=Tm.hE a;rw[Tm.eu,ew] at a;have e:=Ty.pd a.1;rw[zP];simp only[Tm.c8,Tm.dX,Tm.ds,Tm.cX,cO]
   rw[jS Zb,cG,cQ Zb,cM,eW id l 0 [] aaV (λj x v b f=>by
    have:=cV Tm.afq b
    rw[c x Zb Zb (hi.2.2.2.1 x b),cG,di (by simpa using f),cM,ec];rfl)]
   simp
def Fm.B4:∀(f:Fm) (b:Int),f.h8 (λt _=>t) b=f:=by
 intro f
 induction f using Fm.ind with
 |h k s ts l a=>
  intro b;rw[Fm.eE,pg (g:=id) (λx c=>a x c _)];simp
def tL{f:Fm}(h:f.err=0)(c:f.afu 1000000000000=true):pt f=some f:=by
 obtain⟨d,hn⟩:=Fm.ey h;unfold pt;rw[jB (h:=λe g=>ny e g) (ψ:=λt _=>t) (λt b a _ _=>?_) FU f 0 (by rw[dn];omega) Zb d c Zb Zb]
 ·rw[cI,Fm.B4]
 ·have:=a.afq;unfold ny;rw[CI FU t (by rw[dn];omega) a.afq a.ok];rfl
noncomputable def z6 (L:List Fm) (q:Sq):Int:=if 32<L.length then 3 else if dB (L.map λf=>yb f [])≠0 then dB (L.map λf=>yb f [])else if pe q.afs≠0 then pe q.afs else if 16<q.afv.length then 3 else dB (q.afv.map λf=>yb f q.afs)
structure XX (L:List Fm) (q:Sq):Prop where
 zl:∀f∈L,f.wt<=1000000000
 QR:∀t∈q.afs,t.afq<=1000000000
 Ve:q.afs.length<=1000000
 afv:∀f∈q.afv,f.wt<=1000000000
def qv{e:Int}:(cH (some e) λa=>if(dI a 0) then some (.ret a)else some ((.next ()):eK Unit Int))=if e≠0 then some (.ret e)else some (.next ()):=by
 rw[cG]
 by_cases h:e=0
 ·subst h;rfl
 ·rw[cL (by rw[cP];exact h),cL h]
def Fu{C:List Ty->Option Int}{T:List Ty->Fm->Option Int}{L:List Fm}{q:Sq}(o:C q.afs=some (pe q.afs))(p:∀f∈L,T [] f=some (yb f []))(s:∀f∈q.afv,T q.afs f=some (yb f q.afs)):(if(pc (dT L) 32) then some 3 else fU (eQ L)<|dO (λ(t:Int) (e:Fm)=>(λ(_:Unit)=>cH (T [] e) λa=>if(dI a 0) then some (.ret a)else some ((.next ()):eK Unit Int))) λg=>
   cH (eg g L 0 ()) (gC (λ(_:Unit)=>cH (C q.afs) λb=>if(dI b 0) then some b else if(pc (dT q.afv) 16) then some 3 else fU (eQ q.afv)<|dO (λ(u:Int) (i:Fm)=>(λ(_:Unit)=>cH (T q.afs i) λc=>if(dI c 0) then some (.ret c)else some ((.next ()):eK Unit Int))) λk=>
    cH (eg k q.afv 0 ()) (gC (λ(_:Unit)=>some 0) (λr=>some r))) (λr=>some r)))=some (z6 L q):=by
 unfold z6;rw[dK]
 by_cases m:32<L.length
 ·rw[cL (by rw[eb];omega),cL m]
 ·have v:¬pc (L.length:Int) 32=true:=by rw[eb];omega
  rw[cJ v,cJ m,cQ Zb,cM,cO];rw[gI (λf=>yb f []) L 0 (λj x l=>by rw[p x l];exact qv)]
  by_cases d:dB (L.map λf=>yb f [])=0
  ·rw[cL d,cJ (show¬(dB (L.map λf=>yb f [])≠0)fromλh=>h d),cG,cR,o,cG]
   by_cases c3:pe q.afs=0
   ·have z2:¬dI (pe q.afs) 0=true:=by rw[cP];simpa using c3
    rw[cJ z2,cJ (show¬(pe q.afs≠0)fromλh=>h c3),dK]
    by_cases n:16<q.afv.length
    ·rw[cL (by rw[eb];omega),cL n]
    ·have z3:¬pc (q.afv.length:Int) 16=true:=by rw[eb];omega
     rw[cJ z3,cJ n,cQ Zb,cM,cO];rw[gI (λf=>yb f q.afs) q.afv 0 (λj x l=>by rw[s x l];exact qv)]
     by_cases c5:dB (q.afv.map λf=>yb f q.afs)=0
     ·rw[cL c5,c5];rfl
     ·rw[cJ c5];rfl
   ·have z2:dI (pe q.afs) 0=true:=by rw[cP];exact c3
    rw[cL z2,cL c3]
  ·rw[cJ d,cL d];rfl
def u9{L:List Fm}{q:Sq}(h:XX L q):wb L q=some (z6 L q)/\xA L q=some (z6 L q):=by
 have a:∀t∈([]:List Ty),t.afq<=1000000000:=λt c=>by simp at c
 exact⟨Fu (C:=m6) (T:=mE) (p0 q.afs h.Ve h.QR) (λx b=>m8 (h.zl x b) aae a) (λx b=>m8 (h.afv x b) h.Ve h.QR),Fu (C:=mK) (T:=jg) (mo q.afs h.Ve h.QR) (λx b=>oe (h.zl x b) aae a) (λx b=>oe (h.afv x b) h.Ve h.QR)⟩
def rS:∀{l:List Int},(∀e∈l,e=0)->dB l=0
 |[],_=>rfl|a::l,h=>by
  rw[dB,cL (h a aae)];exact rS λe he=>h e (by simp[he])
def lv:∀{l:List Int},dB l=0->∀e∈l,e=0
 |[],_,e,he=>by simp at he
 |a::l,h,e,he=>by
  rw[dB] at h
  by_cases b:a=0
  ·rw[cL b] at h;rcases gT.1 he with rfl|he
   ·exact b
   ·exact lv h e he
  ·rw[cJ b] at h;exact absurd h b
def IP{f:Fm}{g:List Ty}(h:yb f g=0):Hg g f:=by
 unfold yb at h
 by_cases b:pe g=0
 ·rw[cJ (λh=>h b)] at h
  by_cases a:f.err=0
  ·rw[cJ (λh=>h a)] at h;exact⟨a,lx f (Fm.ey a).1 g (fh.of b).1 h⟩
  ·rw[cL a] at h;exact absurd h a
 ·rw[cL b] at h;exact absurd h b
structure qY (L:List Fm) (q:Sq):Prop where
 ln:L.length<=32
 zl:∀f∈L,Hg [] f
 ctx:fh q.afs
 nv:q.afs.length<=16
 nh:q.afv.length<=16
 afv:∀f∈q.afv,Hg q.afs f
def GV{L:List Fm}{q:Sq}(h:z6 L q=0):qY L q:=by
 unfold z6 at h
 by_cases d:32<L.length
 ·rw[cL d] at h;cases h
 ·rw[cJ d] at h
  by_cases a:dB (L.map λf=>yb f [])=0
  ·rw[cJ (λh=>h a)] at h
   by_cases b:pe q.afs=0
   ·rw[cJ (λh=>h b)] at h
    by_cases e:16<q.afv.length
    ·rw[cL e] at h;cases h
    ·rw[cJ e] at h;obtain⟨g,i⟩:=fh.of b;exact⟨Zb,λf c=>IP (lv a _ (nj.2 ⟨f,c,rfl⟩)),g,i,Zb,λf c=>IP (lv h _ (nj.2 ⟨f,c,rfl⟩))⟩
   ·rw[cL b] at h;exact absurd h b
  ·rw[cL a] at h;exact absurd h a
def qY.zero{L:List Fm}{q:Sq}(h:qY L q):z6 L q=0:=by
 have c:∀{g:List Ty} {f:Fm},fh g->g.length<=16->Hg g f->yb f g=0:=λhg b a=>by
  unfold yb;rw[vy hg b,cJ Zk,cJ (λh=>h a.err)];exact jT a.ty hg (by have:=a.afq;omega)
 have d:dB (L.map λf=>yb f [])=0:=rS λe he=>by
  obtain⟨f,a,rfl⟩:=nj.1 he;exact c (λ_ h=>by simp at h) aae (h.zl f a)
 have i:dB (q.afv.map λf=>yb f q.afs)=0:=rS λe he=>by
  obtain⟨f,a,rfl⟩:=nj.1 he;exact c h.ctx h.nv (h.afv f a)
 unfold z6;have:=h.ln;have:=h.nh;rw[cJ Zb,d,cJ Zk,vy h.ctx h.nv,cJ Zk,cJ Zb,i]
def yD{T:List cU}{N:Nat}(g:N<=1000000):∀(l:List Fm) (j:Nat) (k:List de),k.length+l.length<=1000000->eg (λ(i:Int) (b:Fm)=>(Wg λ(c:Int) (v46:Int) (d:List cU) (e:List de)=>
   cH (eB (cS.mk (eU.mk c v46) d e) b) λa=>
   some ((.next (a.eI.vars,a.eI.afv,a.afs,a.known)):eK (Int×Int×(List cU)×(List de)) (cS)))) l j ((N:Int),(k.length:Int),T,k)=some (.inl ((N:Int),((k.length+l.length:Nat):Int),T,k++l.map λf=>de.mk f N))
 |[],j,k,_=>by simp|f::l,j,k,h=>by
  simp only[hQ] at h;rw[dq];simp only[Wg];unfold eB;rw[di aaV,cM,cG];simp only[cG,dt,ec];rw[dk Zb Zb];have:=yD (T:=T) g l (j+1) (k++[de.mk f N]) aaV;rw[show(k.length:Int)+1=((k++[de.mk f N]).length:Int) by simp];unfold eB at this;simp only[ec] at this;rw[this];simp;omega
def start_eq{L:List Fm}{q:Sq}(h:qY L q):∃p,td q=some p/\PG L p (cY.mk L q.afs q.afv):=by
 have d:=h.nh;have a:=h.nv;refine⟨cS.mk (eU.mk (q.afs.length:Int) (q.afv.length:Int)) (q.afs.map mi) (q.afv.map λf=>de.mk f q.afs.length),?_,⟨⟨rfl,rfl,rfl,h.ctx,a,d,aae,?_⟩,rfl,h.zl,h.afv⟩⟩
 ·unfold td;rw[n5 h.ctx Zb,cG,cQ Zb,cM,cO,dK];have:=yD (T:=q.afs.map mi) (N:=q.afs.length) Zb q.afv 0 [] aaV;rw[show(([]:List de).length:Int)=0 from rfl] at this;rw[this,cG];simp[Wg]
 ·intro i x g b c;have b:(q.afv.map λf=>de.mk f q.afs.length)[i]?=some x:=b;have c:q.afv[i]?=some g:=c;rw[x_,c] at b;obtain rfl:=hZ b;have hg:=h.afv g (AY c);refine⟨hg.hy a,by show(0:Int)<=(q.afs.length:Int);omega,by show((q.afs.length:Nat):Int)<=(q.afs.length:Int);omega,?_⟩;show g=g.up 0 ((q.afs.length:Int)-(q.afs.length:Int));rw[V1,Fm.oD]
def Pf.FH:∀(l:List Pf),(∀x∈l,x.rb<=x.afq)->Pf.oF l<=cN Pf.afq l
 |[],_=>by simp[Pf.oF]|a::l,b=>by
  have d:=b a aae;have e:=Pf.FH l (λx c=>b x (by simp[c]));simp only[Pf.oF,cN];omega
def Pf.GO(p:Pf):p.rb<=p.afq:=by
 induction p using Pf.ind with
 |h k i s ts fs l a=>
  rw[Pf.cK,Pf.rb];have:=Pf.FH l a;omega
noncomputable def FT (L:List Fm) (q:Sq) (P:Pf):PR:=fW (z6 L q) (fW P.err (P.inf L q.afs q.afv))
def lA{L:List Fm}{q:Sq}{P:Pf}(h:XX L q)(j:P.wt<=1000000000):(∃e,e≠0/\FT L q P=.inr e/\iK L q P=some (⟨eA,[]⟩,e)/\jq L q P=some (⟨eA,[]⟩,e))\/∃(f:Fm) (m:Nat) (l:List Int),FT L q P=.inl (f,m)/\iK L q P=some (⟨f,l⟩,0)/\jq L q P=some (⟨f,l⟩,0)/\Us l m/\Hg q.afs f/\qY L q/\P.err=0:=by
 unfold iK jq FT;rw[(u9 h).1,(u9 h).2,cG,cG]
 by_cases b:z6 L q=0
 ·have d:=GV b;rw[b,cJ nz,cJ nz,ej rfl,yX j,nX j,cG,cG]
  by_cases c:P.err=0
  ·obtain⟨hw,hn⟩:=Pf.TH c;obtain⟨p,k,n⟩:=start_eq d;have o:=P.GO;rw[c,cJ nz,cJ nz,ej rfl,show Br=some ()from rfl,cG,k,cG];rcases JK hw FU FU (by rw[dn];omega) (by rw[dn];omega) p _ n with⟨e,he,q1,g,i⟩|⟨f,m,l,q1,g,i,hu,a⟩
   ·rw[g,i,cI,cI,cL (by rw[cP];exact he),cL (by rw[cP];exact he)];exact .inl ⟨e,he,q1,rfl,rfl⟩
   ·have a:Hg q.afs f:=a;have r:=hu.len;have s:=f.eY a.ok;have t:=a.afq;rw[g,i,cI,cI,cJ nz,cJ nz];simp only[];rw[tL a.err (a.afu d.nv Zb),cG,Gt hu,cG,gU Zb,cG,di aaV,cM,ec,k9];exact .inr ⟨f,m,l,q1,rfl,rfl,hu,a,d,by trivial⟩
  ·rw[cL (by rw[cP];exact c),cL (by rw[cP];exact c),fy c];exact .inl ⟨_,c,rfl,rfl,rfl⟩
 ·rw[cL (by rw[cP];exact b),cL (by rw[cP];exact b),fy b];exact .inl ⟨_,b,rfl,rfl,rfl⟩
def Pf.jh(l:List Pf):l.length<=cN Pf.wt l:=er Pf.wt l λt _=>t.eL
theorem qc:∀(n:Nat) (P:Pf),P.wt<=n->P.wt<=1000000000->mU n P=some P:=by
 intro n
 induction n with
 |zero=>intro P h;have:=P.eL;omega
 |succ n c=>
  intro P hn d;cases P with
  |mk k i s ts fs l=>
   rw[Pf.dD] at hn d;have e:=er Tm.wt ts λt _=>t.eL;have f:=er Fm.wt fs λt _=>t.eL;have g:=Pf.jh l;rw[mU];simp only[Pf.c8,Pf.dX,Pf.ds,Pf.eF,Pf.rJ,Pf.cX,cO]
   rw[fo Zb,cG,cQ Zb,cM,eW id ts 0 [] aaV (λj x v a b=>by
    have:=cV Tm.wt a
    rw[iL Zb,cG,di (by simpa using b),cM,ec];rfl),cG,cR,cQ Zb,cM,eW id fs 0 [] aaV (λj x v a b=>by
    have:=cV Fm.wt a
    rw[gU Zb,cG,di (by simpa using b),cM,ec];rfl),cG,cR,cQ Zb,cM,eW id l 0 [] aaV (λj x v a b=>by
    have:=cV Pf.wt a
    rw[c x Zb Zb,cG,di (by simpa using b),cM,ec];rfl),cG,cR]
   simp
def TT{k:Int}{l:List Pf}(h:cN Pf.wt l<=1000000000):nO k l=some (.mk k 0 .z [] [] l):=by
 have c:=Pf.jh l;unfold nO
 rw[cQ Zb,cM,cO,eW id l 0 [] aaV (λj x v a b=>by
  have:=cV Pf.wt a
  rw[qc FU x (by rw[dn];omega) Zb,cG,di (by simpa using b),cM,ec];rfl),cG,cR]
 simp[Ty.z]
def CS{k:Int}{a:Pf}(h:a.wt<=500000000):nO k [a]=some (.mk k 0 .z [] [] [a]):=TT (by simp[cN];omega)
def AW{k:Int}{a b:Pf}(h:a.wt<=400000000)(c:b.wt<=400000000):nO k [a,b]=some (.mk k 0 .z [] [] [a,b]):=TT (by simp[cN];omega)
def Jm{F:Fm}{a:Pf}(hF:F.wt<=1000000000)(h:a.wt<=500000000):xu F a=some (.mk 6 0 .z [] [F] [a]):=by
 unfold xu;rw[CS h,cG,gU hF];rfl
def wo{k:Int}{s:Ty}{a:Pf}(hs:s.afq<=1000000000)(h:a.wt<=500000000):sj k s a=some (.mk k 0 s [] [] [a]):=by
 unfold sj;rw[CS h,cG,fo hs];rfl
def FN{k:Int}{t:Tm}{a:Pf}(b:t.wt<=1000000000)(h:a.wt<=500000000):xa k t a=some (.mk k 0 .z [t] [] [a]):=by
 unfold xa;rw[CS h,cG,iL b];rfl
def FM{k:Int}{F:Fm}{t:Tm}{a:Pf}(hF:F.wt<=1000000000)(b:t.wt<=1000000000)(h:a.wt<=500000000):xi k F t a=some (.mk k 0 .z [t] [F] [a]):=by
 unfold xi;rw[FN b h,cG,gU hF];rfl
def Hn{k:Int}{F:Fm}{t:Tm}{a:Pf}(hF:F.wt<=1000000000)(b:t.wt<=1000000000)(h:a.wt<=500000000):tg k F t a=some (.mk k 0 .z [t] [F] [a],F):=by
 unfold tg;rw[FN b h,cG,gU hF];rfl
def Eg{k:Int}{F:Fm}{t:Tm}{a b:Pf}(hF:F.wt<=1000000000)(c:t.wt<=1000000000)(h:a.wt<=400000000)(d:b.wt<=400000000):vX k F t a b=some (.mk k 0 .z [t] [F] [a,b]):=by
 unfold vX;rw[AW h d,cG,iL c,cG,gU hF];rfl
def CY{F:Fm}{a b:Pf}(hF:F.wt<=1000000000)(h:a.wt<=400000000)(c:b.wt<=400000000):tl F a b=some (.mk 19 0 .z [] [F] [a,b]):=by
 unfold tl;rw[AW h c,cG,gU hF];rfl
def mH{t:Tm}(a:t.wt<=1000000000):ni t=some (.mk 18 0 .z [t] [] []):=by
 unfold ni;rw[iL a];rfl
def r_{t:Tm}{g:List Ty}{s:Ty}(h:dd g t s)(hg:g.length<=1000)(hn:t.afq<=4096):kO t=some (t.up 0 1):=by
 have hw:=t.eY h.ok;have a:t.afu 1000000000000=true:=h.afu _ Zb;unfold kO;rw[wN Zb Zb,cG,lX FU _ 0 1 (by rw[dn,Fm.cK];simp only[cN];omega) (by rw[Fm.cK];simp only[cN];omega) Zb (by rw[Fm.cK];simp only[cN];omega) Zb Zb (by rw[Fm.dj];simp[a]),cG,Fm.dV];rfl
def tJ{q:Sq}{f:Fm}(h:q.afv.length<=1000):Bw q f=some ⟨q.afs,q.afv++[f]⟩:=by
 unfold Bw;rw[di aaV,cM,di (by simp[ec];omega),cM];simp[ec]
def C'{L:List Fm}{q:Sq}(h:qY L q){l:List Ty}(e:l.length<=1000):r5 q l=some ⟨q.afs++l,q.afv.map (Fm.up 0 l.length)⟩:=by
 have b:=h.nh;have a:=h.nv;unfold r5
 rw[jA _ _ Zb,cG,cQ Zb,cM,cO,eW (Fm.up 0 l.length) q.afv 0 [] aaV (λj x v c d=>by
  have hg:=h.afv x c;have hn:=hg.afq
  rw[dK,lX FU x 0 l.length (by rw[dn];omega) Zb Zb Zb Zb Zb (hg.afu a Zb),cG,di (by simpa using d),cM,ec]),cG,cR,k9]
def qY.below{L:List Fm}{q:Sq}(h:qY L q){l:List Ty}(b:fh l)(hn:q.afs.length+l.length<=16):qY L ⟨q.afs++l,q.afv.map (Fm.up 0 l.length)⟩:=by
 refine⟨h.ln,h.zl,h.ctx.append b,by simpa using hn,by simpa using h.nh,λf c=>?_⟩;obtain⟨f0,a,rfl⟩:=nj.1 c;exact(h.afv f0 a).up l
def qY.with{L:List Fm}{q:Sq}(h:qY L q){f:Fm}(a:Hg q.afs f)(hn:q.afv.length+1<=16):qY L ⟨q.afs,q.afv++[f]⟩:=by
 refine⟨h.ln,h.zl,h.ctx,h.nv,by simpa using hn,λx hx=>?_⟩;rcases tA.1 hx with hx|hx
 ·exact h.afv x hx
 ·rw[qn.1 hx];exact a
def Hg.wt{g:List Ty}{f:Fm}(h:Hg g f):f.wt<=266240:=by
 have:=f.eY h.ok;have:=h.afq;omega
def qY.b{L:List Fm}{q:Sq}(h:qY L q):XX L q:=by
 refine⟨λf a=>by have:=(h.zl f a).wt;omega,λt c=>by have:=dx (h.ctx t c);omega,by have:=h.nv;omega,λf a=>by have:=(h.afv f a).wt;omega⟩
def pb:Nat->Nat
 |0=>10000|k+1=>3*pb k+1000000
def FA:∀k,k<=4->10000<=pb k/\pb k<=50000000
 |0,_=>by decide|1,_=>by decide|2,_=>by decide|3,_=>by decide|4,_=>by decide|k+5,h=>by omega
def fq(b:Nat)(o:Option (Pf×db)):Prop:=∃x a,o=some (x,a)/\a.wf/\x.wt<=b
def fq.of{b:Nat}{x:Pf}{d:db}(a:d.wf)(h:x.wt<=b):fq b (some (x,d)):=⟨x,d,rfl,a,h⟩
def fC{β:Type}{G:Option β->Prop}{c:Bool}{a b:Option β}(d:c=true->G a)(e:c=false->G b):G (if c then a else b):=by
 cases c with
 |true=>exact d rfl|false=>exact e rfl
def jI{g:List Ty}{t:Ty}{d:db}(e:g.length<=600)(hg:j9 3 g)(f:t.err=0)(c:t.afq<=3)(h:d.wf):∃x a,gL FU d g t 1=some (x,a)/\a.wf/\dd g x t/\x.afq<=57/\x.wt<=3705/\x.err=0:=by
 obtain⟨x,a,i,j,b⟩:=xh 3 Zb Zb 1 Zb g t d e hg f c h;have hn:x.afq<=57:=b.afq;have hw:=x.eY b.ty.ok;exact⟨x,a,i,j,b.ty,hn,Zb,Tm.kT b.ty.ok Zb⟩
def qQ{d:db}(b:d.wf):∃t a,ja FU d 1=some (t,a)/\t.err=0/\t.afq<=3/\a.wf:=by
 obtain⟨t,a,c,e,g,f⟩:=p5 d b 1 Zb;exact⟨t,a,c,e,Zb,f⟩
def Jc{d:db}(b:d.wf):∃t a,ja FU d 0=some (t,a)/\t.err=0/\t.afq<=3/\a.wf:=by
 obtain⟨t,a,c,e,g,f⟩:=p5 d b 0 Zb;exact⟨t,a,c,e,Zb,f⟩
theorem Ty.d_:Ty.z.afq=1:=Zk
def uH:fv 0=some v0:=rfl
def IT{P:Pf}{e:Int}(h:P.wt<=1000000000):∃b c,uy P e=some (b,c)/\b.wt<=P.wt+1:=by
 have a:(Pf.mk 0 0 (Ty.mk 0 []) [] [] []).wt<=P.wt+1:=by have:=P.eL;rw[Pf.dD];simp[cN,Ty.cK];omega
 unfold uy
 by_cases he:e=0
 ·subst he;rw[cJ nz];unfold nW;rw[cO,qf FU P (by rw[dn];omega) h,cG,nR FU P (by rw[dn];omega) h];cases P.small with
  |false=>exact⟨_,_,rfl,a⟩|true=>
   rw[cL rfl,cG,cG];cases Mu (P.afq:Int) 16384 with
   |false=>exact⟨_,_,rfl,a⟩|true=>
    rw[cL rfl,qc FU P (by rw[dn];omega) h];exact⟨_,_,rfl,Zb⟩
 ·rw[cL (by rw[cP];exact he)];exact⟨_,_,rfl,a⟩
def GU{ts:List Tm}{ps:List Pf}(d:∀t∈ts,t.wt<=1000000000)(f:∀p∈ps,p.wt<=1000000000)(g:ts.length<=1000)(h:ps.length<=1000):∃e,th ts [] ps=some e:=by
 unfold th;rw[cQ Zb,cM,cO,gI Tm.err ts 0 (λj x a=>by rw[hY (d x a)];exact qv)]
 by_cases b:dB (ts.map Tm.err)=0
 ·rw[cL b,cG,cR,cQ aae,cM,cO,lz,cG,cR,cQ Zb,cM,cO,gI Pf.err ps 0 (λj x a=>by rw[nX (f x a)];exact qv)]
  by_cases c:dB (ps.map Pf.err)=0
  ·rw[cL c];exact⟨_,rfl⟩
  ·rw[cJ c];exact⟨_,rfl⟩
 ·rw[cJ b];exact⟨_,rfl⟩
def wB{t:Tm}{g:List Ty}{s:Ty}(h:dd g t s)(hg:g.length<=1000)(hn:t.afq<=4096):yJ t 1=some (t.up 0 1):=by
 unfold yJ;rw[p8 FU t 0 1 (by rw[dn];omega) Zb Zb Zb Zb Zb (h.afu _ Zb)];rfl
def CM{t:Tm}(a:t.wt<=3705):∃P,By t=some P/\P.wt<=20000:=by
 obtain⟨z,h,z2⟩:=sm 0 Zb Zb;have c:=(z2 [.nat]).1;have p:=(z2 [.nat]).2;have b:=uR;have i:dd [.nat] v0 .nat:=kK (g:=[]);have d:dd [.nat] (eS (eS iX z) v0) .nat:=.app (.app (vK _) c) i;have f:dd [] (im .nat (fA v0)) (.fn .nat .nat):=.lam rO (.succ kK)
 have q:(eS (eS iX z) v0).afq<=20:=by
  unfold eS v0;rw[Tm.cK,cN,cN,Tm.cK,cN,cN,Tm.cK];simp only[cN];omega
 have nL:(im .nat (fA v0)).afq=3:=Zk
 have r:=Tm.eY _ d.ok;have s:=Tm.eY _ f.ok;have u:=Tm.eY _ c.ok
 have v:v0.wt<=10:=Zk
 have wp:iX.wt<=585:=by have:=Tm.eY _ (vK []).ok;omega
 unfold By;rw[tm,cG,h,cG,uH,cG,Bq Zb Zb Zb,cG,show Tm.mk 3 0 .z [.mk 3 0 .z [iX,z],v0]=eS (eS iX z) v0 from rfl,cG,wN Zb Zb,cG,dL,cG,cG,zx Zb,cG,show Tm.mk 5 0 .z [v0]=fA v0 from rfl,tv Zk Zk,cG,show Tm.mk 2 0 .nat [fA v0]=im .nat (fA v0)from rfl,cG,show mQ 0=some (Pf.mk 1 0 .z [] [] [])from rfl,cG]
 have w:(Pf.mk 1 0 .z [] [] []).wt<=10:=Zk
 have j:∃P e,wQ (im .nat (fA v0)) (eS (eS iX z) v0) v0 (Pf.mk 1 0 .z [] [] [])=some (P,e)/\P.wt<=12000:=by
  have x:=Tm.yG (eS (eS iX z) v0) 0 1;have y:=Tm.yG (im .nat (fA v0)) 0 1
  have A:(Tm.mk 3 0 .z [im .nat (fA v0),eS (eS iX z) v0]).wt<=1600:=by rw[Tm.dD];simp only[cN,Ty.d_];omega
  have B:(Tm.mk 3 0 .z [(im .nat (fA v0)).up 0 1,(eS (eS iX z) v0).up 0 1]).wt<=1600:=by rw[Tm.dD];simp only[cN,Ty.d_];omega
  have C:(Tm.mk 3 0 .z [(im .nat (fA v0)).up 0 1,v0]).wt<=1600:=by rw[Tm.dD];simp only[cN,Ty.d_];omega
  have wf:(Fm.mk 1 .z [Tm.mk 3 0 .z [(im .nat (fA v0)).up 0 1,(eS (eS iX z) v0).up 0 1],Tm.mk 3 0 .z [(im .nat (fA v0)).up 0 1,v0]] []).wt<=4000:=by rw[Fm.dD];simp only[cN,Ty.d_];omega
  have wr:(Pf.mk 18 0 .z [Tm.mk 3 0 .z [im .nat (fA v0),eS (eS iX z) v0]] [] []).wt<=2000:=by rw[Pf.dD];simp only[cN,Ty.d_];omega
  have hg:wX (im .nat (fA v0)) (eS (eS iX z) v0) (Pf.mk 1 0 .z [] [] [])=some (.mk 19 0 .z [] [Fm.mk 1 .z [Tm.mk 3 0 .z [(im .nat (fA v0)).up 0 1,(eS (eS iX z) v0).up 0 1],Tm.mk 3 0 .z [(im .nat (fA v0)).up 0 1,v0]] []] [.mk 1 0 .z [] [] [],.mk 18 0 .z [Tm.mk 3 0 .z [im .nat (fA v0),eS (eS iX z) v0]] [] []]):=by
   unfold wX;rw[wB f aae Zb,cG,wB d aae Zb,cG,mP Zb Zb,cG,cG,uH,cG,mP Zb Zb,cG,wN Zb Zb,cG,mP Zb Zb,cG,mH Zb,cG,CY Zb Zb Zb];rfl
  unfold wQ
  obtain⟨e,he⟩:=GU (ts:=[im .nat (fA v0),eS (eS iX z) v0,v0]) (ps:=[Pf.mk 1 0 .z [] [] []]) (by
   intro t a;simp only[gT,lZ,kv] at a
   rcases a with rfl|rfl|rfl<;>omega) (by
   intro t a
   rw[qn.1 a];omega) aae aae
  have k:(Pf.mk 19 0 .z [] [Fm.mk 1 .z [Tm.mk 3 0 .z [(im .nat (fA v0)).up 0 1,(eS (eS iX z) v0).up 0 1],Tm.mk 3 0 .z [(im .nat (fA v0)).up 0 1,v0]] []] [.mk 1 0 .z [] [] [],.mk 18 0 .z [Tm.mk 3 0 .z [im .nat (fA v0),eS (eS iX z) v0]] [] []]).wt<=11000:=by rw[Pf.dD];simp only[cN,Ty.d_] at*;omega
  rw[hg,cG,he,cG];obtain⟨l,m,n,D⟩:=IT (e:=e) (show _<=1000000000 from DJ k Zb);rw[n,cI];exact⟨l,m,rfl,Zb⟩
 obtain⟨P,e,o,E⟩:=j
 have F:(Fm.mk 1 .z [eS (eS iX z) v0,v0] []).wt<=2000:=by rw[Fm.dD];simp only[cN,Ty.d_];omega
 have G:(Pf.mk 18 0 .z [z] [] []).wt<=200:=by rw[Pf.dD];simp only[cN,Ty.d_];omega
 rw[o,cI,cG,mH Zb,cG,Eg Zb Zb Zb Zb];refine⟨_,rfl,?_⟩;rw[Pf.dD];simp only[cN,Ty.d_] at*;omega
def dd.lift{g:List Ty}{x:Tm}{t:Ty}(h:dd g x t)(e:List Ty):dd (g++e) (x.up 0 e.length) t:=by
 have:=h.up g [] e aae
 grind
def eqv(t:Tm):Fm:=.mk 1 .z [t.up 0 1,v0] []
def Bb{g:List Ty}{t:Tm}(h:dd g t .nat)(hn:t.afq<=57):Hg (g++[.nat]) (eqv t)/\(eqv t).afq<=59/\(eqv t).wt<=3900:=by
 have hu:dd (g++[.nat]) (t.up 0 1) .nat:=by
  exact h.lift [.nat]
 have a:eX (g++[.nat]) (eqv t):=.eq hu kK
 have hm:(eqv t).afq<=59:=by
  unfold eqv;rw[Fm.cK];simp only[cN];rw[Tm.jo]
  have:v0.afq=1:=Zk
  omega
 have hw:=Fm.eY _ a.ok;refine⟨⟨?_,a⟩,hm,Zb⟩;unfold Fm.err;rw[cL a.ok,cJ Zb]
def yI{g:List Ty}{t:Tm}(h:dd g t .nat)(hg:g.length<=600)(hn:t.afq<=57){β:Type}(k:Fm->Option β):(cH (kO t) λa=>cH (fv 0) λb=>cH (np a b) λc=>k c)=k (eqv t):=by
 have hw:=t.eY h.ok;have hu:=Tm.yG t 0 1
 have d:v0.wt<=10:=Zk
 rw[r_ h Zb Zb,cG,uH,cG,wN Zb Zb];rfl
def O0{g:List Ty}{f:Fm}{k:Int}(b:k=5\/k=7)(h:Hg (g++[.nat]) f)(hn:f.afq<=4000):Hg g (.mk k .nat [] [f]):=by
 have a:eX g (.mk k .nat [] [f]):=.q Zb Ty.ek h.ty;refine⟨?_,a⟩;unfold Fm.err;rw[cL a.ok,cJ (by rw[Fm.cK];simp only[cN];omega)]
def Ek{q:Sq}{d:db}(a:q.afs.length<=600)(hg:j9 3 q.afs)(b:d.wf):fq 12000 (DM d q):=by
 obtain⟨t,d1,t1,t2,t3,t4,t5,t6⟩:=jI a hg Ty.ek Zk b;obtain⟨c,e,f⟩:=Bb t3 t4
 have g:(Pf.mk 18 0 .z [t] [] []).wt<=3800:=by grind[Pf.dD,cN,Ty.d_]
 have h:(Fm.mk 5 .nat [] [eqv t]).wt<=4000:=by rw[Fm.dD];simp only[cN,Ty.eM];omega
 unfold DM;rw[dL,cG,t1,cI,yI t3 a t4,vO Zk Zb,cG,mH Zb,cG,FM Zb Zb Zb,cG];refine fq.of t2 ?_;rw[Pf.dD];simp only[cN,Ty.d_];omega
def C8{q:Sq}{d:db}(a:q.afs.length<=600)(hg:j9 3 q.afs)(c:d.wf):∃t b,vg d q=some (.mk 10 0 .z [t] [.mk 5 .nat [] [eqv t]] [.mk 18 0 .z [t] [] []],.mk 5 .nat [] [eqv t],b)/\b.wf/\dd q.afs t .nat/\t.afq<=57/\t.wt<=3705:=by
 obtain⟨t,d1,t1,t2,t3,t4,t5,t6⟩:=jI a hg Ty.ek Zk c;obtain⟨e,f,g⟩:=Bb t3 t4
 have h:(Pf.mk 18 0 .z [t] [] []).wt<=3800:=by grind[Pf.dD,cN,Ty.d_]
 have i:(Fm.mk 5 .nat [] [eqv t]).wt<=4000:=by rw[Fm.dD];simp only[cN,Ty.eM];omega
 unfold vg;rw[dL,cG,t1,cI,yI t3 a t4,vO Zk Zb,cG,mH Zb,cG,Hn Zb Zb Zb,cI];exact⟨t,d1,rfl,t2,t3,t4,t5⟩
def qs{L:List Fm}{q:Sq}(h:qY L q){P:Pf}(a:P.wt<=1000000000):(∃e,e≠0/\jq L q P=some (⟨eA,[]⟩,e))\/∃f l,jq L q P=some (⟨f,l⟩,0)/\Hg q.afs f:=by
 rcases lA h.b a with⟨e,he,_,_,c⟩|⟨f,m,l,_,_,c,_,d,_⟩
 all_goals grind
def s9{g:List Ty}{f:Fm}(h:Hg g f)(hg:g.length<=16):fl FU f 0 1=some (f.up 0 1)/\(f.up 0 1).wt<=266240:=by
 have hn:=h.afq;refine⟨lX FU f 0 1 (by rw[dn];omega) Zb Zb Zb Zb Zb (h.afu hg Zb),?_⟩;have a:=h.wt
 grind[Fm.yG]
def FI{a b x:Int}(c:0<=x)(d:x<2):∃y,du [a,b] x=some y/\(x=0/\y=a\/x=1/\y=b):=by
 have:x=0\/x=1:=Zb
 rcases this with rfl|rfl
 ·exact⟨a,rfl,.inl ⟨rfl,rfl⟩⟩
 ·exact⟨b,rfl,.inr ⟨rfl,rfl⟩⟩
structure Mq (L:List Fm) (q:Sq):Prop where
 v:qY L q
 c:j9 3 q.afs
def Mq.below{L:List Fm}{q:Sq}(h:Mq L q){s:Ty}(hs:s.err=0)(a:s.afq<=3)(hn:q.afs.length+1<=16):Mq L ⟨q.afs++[s],q.afv.map (Fm.up 0 1)⟩:=
 ⟨h.v.below (l:=[s]) (λx b=>by rw[qn.1 b];exact hs) hn,h.c.app λx b=>by rw[qn.1 b];exact⟨hs,a⟩⟩
def Mq.with{L:List Fm}{q:Sq}(h:Mq L q){f:Fm}(a:Hg q.afs f)(hn:q.afv.length+1<=16):Mq L ⟨q.afs,q.afv++[f]⟩:=⟨h.v.with a hn,h.c⟩
def Mq.Rc{L:List Fm}{q:Sq}(h:Mq L q)(s:Ty):r5 q [s]=some ⟨q.afs++[s],q.afv.map (Fm.up 0 1)⟩:=C' h.v (l:=[s]) aae
def yp{κ β:Type}{G:Option β->Prop}(Q:κ->Prop){k:κ}{b:κ->Option β}(a:Q k)(c:∀j,Q j->G (b j)):G (dO k b):=c k a
def GC{n k:Nat}(S:k<=3){L:List Fm}(C:∀(d:db) (q:Sq),d.wf->Mq L q->fq (pb k) (kF n d L q (k:Int))){d:db}(D:d.wf){q:Sq}(h:Mq L q)(E:q.afs.length<10)(A:q.afv.length<10):fq (pb (k+1)) (zi (n+1) d L q ((k+1:Nat):Int)):=by
 have F:=FA k Zb;have H:pb (k+1)=3*pb k+1000000:=rfl;obtain⟨t,d1,s1,s2,I,K,T⟩:=C8 Zb h.c D;obtain⟨g1,g2,g3⟩:=Bb I K
 have U:(Pf.mk 18 0 .z [t] [] []).wt<=3800:=by rw[Pf.dD];simp only[cN,Ty.d_];omega
 have s:∀i:Int,(Fm.mk i .nat [] [eqv t]).wt<=4000:=λi=>by rw[Fm.dD];simp only[cN,Ty.eM];omega
 have u:∀i j:Int,(Pf.mk j 0 .z [t] [Fm.mk i .nat [] [eqv t]] [Pf.mk 18 0 .z [t] [] []]).wt<=20000:=λi j=>by have:=s i;rw[Pf.dD];simp only[cN,Ty.d_];omega
 rw[zi,s1,iY];refine yp (G:=fq (pb (k+1))) (λJ=>∀(v24 m:Int) (o:db) (a:Int),o.wf->(a=5\/a=7)->fq (pb (k+1)) (J v24 m o a)) ?_ ?_
 ·intro v24 m o a v M;have N:Hg q.afs (.mk a .nat [] [eqv t]):=O0 M g1 Zb;have hm:Mq L ⟨q.afs++[.nat],q.afv.map (Fm.up 0 1)++[eqv t]⟩:=(h.below Ty.ek Zk Zb).with g1 (by show(q.afv.map (Fm.up 0 1)).length+1<=16;simp;omega);obtain⟨Q,d3,q1,O,V⟩:=C o _ v hm;show fq _ (cH (du [eqv t] 0) λP=>_);rw[show du [eqv t] 0=some (eqv t)from rfl,cG,dL,cG,h.Rc .nat,cG,tJ (by show(q.afv.map (Fm.up 0 1)).length<=1000;simp;omega),cG,dF Zb Zb,show((k+1:Nat):Int)-1=(k:Int) by omega,q1,cI];refine yp (G:=fq (pb (k+1))) (λJ=>∀(b v145 v146:Int) (e:List Ty) (v148:List Tm) (f:List Fm) (g:List Pf) (l:db),l.wf->(Pf.mk b v145 (.mk v146 e) v148 f g).wt<=pb k+300000->fq (pb (k+1)) (J b v145 v146 e v148 f g l)) ?_ ?_
  ·intro b v145 v146 e v148 f g l w hw;have:=u a m;show fq _ (cH (nO v24 [Pf.mk m 0 .z [t] [Fm.mk a .nat [] [eqv t]] [Pf.mk 18 0 .z [t] [] []],Pf.mk b v145 (.mk v146 e) v148 f g]) λp=>some (p,l));rw[AW Zb Zb,cG];refine fq.of w ?_;rw[Pf.dD];simp only[cN,Ty.d_];omega
  ·intro J r;obtain⟨y,d4,x,R,y3,y4⟩:=gy d3 O 2 Zb Zb;rw[x,cI];refine fC (λ_=>?_) (λ_=>?_)
   ·obtain⟨u1,u2⟩:=s9 N Zb;show fq _ (cH (fl FU (.mk a .nat [] [eqv t]) 0 1) λB=>_)
    have W:v0.wt<=10:=Zk
    rw[u1,cG,uH,cG,show mQ 0=some (Pf.mk 1 0 .z [] [] [])from rfl,cG,FM Zb Zb Zk,cG];refine r _ _ _ _ _ _ _ _ y4 ?_;show(Pf.mk m 0 .z [v0] [(Fm.mk a .nat [] [eqv t]).up 0 1] [Pf.mk 1 0 .z [] [] []]).wt<=_;rw[Pf.dD];simp only[cN,Ty.d_];rw[Pf.dD];simp only[cN,Ty.d_];omega
   ·refine r _ _ _ _ _ _ _ _ y4 ?_;rw[Ty.ma,Pf.ma];omega
 ·intro J r;obtain⟨y,d4,x,R,y3,y4⟩:=gy d1 s2 3 Zb Zb;rw[x,cI];exact fC (λ_=>r _ _ _ _ y4 (.inr rfl)) (λ_=>r _ _ _ _ y4 (.inl rfl))
def Da:∀(n k:Nat) (L:List Fm) (d:db) (q:Sq),2*k<n->k<=4->d.wf->Mq L q->fq (pb k) (kF n d L q (k:Int)):=by
 intro n
 induction n using Nat.strongRecOn with
 |_ n S=>
 intro k L d q hn X D h;cases n with
 |zero=>omega|succ n=>
 have J:=h.v.nv;have Y:=h.v.nh;have Z:=h.v.ln;have aa:=FA k X;rw[kF,dL,cG];refine kC (G:=fq (pb k)) (λd=>d.wf) (λd D=>?_) (λj E=>?_)
 ·--a leaf
  refine kC (G:=fq (pb k)) (λd=>d.wf) (λd D=>?_) (λj E=>?_)
  ·obtain⟨t,d1,t1,t2,t3,t4,t5,t6⟩:=jI Zb h.c Ty.ek Zk D;rw[t1,cI,mH Zb,cG];refine fq.of t2 ?_;rw[Pf.dD];simp only[cN,Ty.d_];omega
  ·obtain⟨x,d1,N,x2,x3,p⟩:=gy d D 4 Zb Zb;rw[N,cI];refine fC (λ_=>fC (λK=>?_) (λ_=>E _ p)) (λ_=>fC (λ_=>fC (λK=>?_) (λ_=>E _ p)) (λ_=>E _ p))
   ·rw[eb,dK] at K;obtain⟨y,d2,H,I,y3,y4⟩:=gy d1 p q.afv.length Zb Zb;rw[dK,H,cI,show mQ y=some (Pf.mk 1 y .z [] [] [])from rfl,cG];refine fq.of y4 ?_;rw[Pf.dD];simp only[cN,Ty.d_];omega
   ·rw[eb,dK] at K;obtain⟨y,d2,H,I,y3,y4⟩:=gy d1 p L.length Zb Zb;rw[dK,H,cI];refine fq.of y4 ?_;show(Pf.mk 2 y .z [] [] []).wt<=_;rw[Pf.dD];simp only[cN,Ty.d_];omega
 ·refine fC (λK=>?_) (λ_=>E _ D);rw[ku,ku,ew,ew,eb,hW,hW,dK,dK] at K;obtain⟨ab,T,U⟩:=K;obtain⟨m,rfl⟩:∃m,k=m+1:=⟨k-1,Zb⟩;rw[dF Zb Zb,show((m+1:Nat):Int)-1=(m:Int) by omega];have ad:=FA m Zb;have ae:pb (m+1)=3*pb m+1000000:=rfl;have g:∀(d:db) (q:Sq),d.wf->Mq L q->fq (pb m) (kF n d L q (m:Int)):=λd q D h=>S n Zb m L d q Zb Zb D h;obtain⟨x,d1,N,x2,x3,p⟩:=gy d D 17 Zb Zb;rw[N,cI];refine fC (λ_=>?_) (λ_=>?_)
  ·--and
   obtain⟨P,d2,o,i,w⟩:=g d1 q p h;obtain⟨Q,d3,q1,M,V⟩:=g d2 q i h;rw[o,cI,q1,cI,AW Zb Zb,cG];refine fq.of M ?_;rw[Pf.dD];simp only[cN,Ty.d_];omega
  refine fC (λ_=>?_) (λ_=>?_)
  ·obtain⟨y,d2,H,I,y3,y4⟩:=gy d1 p 2 Zb Zb;obtain⟨P,d3,o,i,w⟩:=g d2 q y4 h;obtain⟨Q,d4,q1,M,V⟩:=g d3 q i h
   have hw:(Pf.mk 3 0 .z [] [] [P,Q]).wt<=200000000:=by rw[Pf.dD];simp only[cN,Ty.d_];omega
   rw[H,cI,o,cI,q1,cI,AW Zb Zb,cG,CS Zb,cG];refine fq.of M ?_;rw[Pf.dD];simp only[cN,Ty.d_];rw[Pf.dD];simp only[cN,Ty.d_];omega
  refine fC (λ_=>?_) (λ_=>?_)
  ·obtain⟨F,d2,f1,f2,f3⟩:=pM 1 Zb q.afs d1 Zb h.c p;have B:Hg q.afs F:=⟨f3.err Zk,f3.ty⟩;have O:=B.wt;obtain⟨P,d3,o,i,w⟩:=g d2 _ f2 (h.with B Zb);rw[show(1:Int)=((1:Nat):Int)from rfl,f1,cI,tJ Zb,cG,o,cI,Jm Zb Zb,cG];refine fq.of i ?_;rw[Pf.dD];simp only[cN,Ty.d_];omega
  refine fC (λ_=>?_) (λ_=>?_)
  ·obtain⟨P,d2,o,i,w⟩:=g d1 q p h;rw[o,cI];rcases qs h.v (P:=P) Zb with⟨e,he,r⟩|⟨f,l,r,B⟩
   ·rw[r,cI,cJ (by rw[dS];exact he)];exact E _ i
   ·have O:=B.wt;obtain⟨Q,d3,q1,M,V⟩:=g d2 _ i (h.with B Zb)
    have hw:(Pf.mk 6 0 .z [] [f] [Q]).wt<=200000000:=by rw[Pf.dD];simp only[cN,Ty.d_];omega
    rw[r,cI,cL abG];simp only[];rw[tJ Zb,cG,q1,cI,Jm Zb Zb,cG,AW Zb Zb,cG];refine fq.of M ?_;rw[Pf.dD];simp only[cN,Ty.d_];rw[Pf.dD];simp only[cN,Ty.d_];omega
  refine fC (λ_=>?_) (λ_=>?_)
  ·obtain⟨s,d2,s1,s2,A,C⟩:=qQ p;obtain⟨P,d3,o,i,w⟩:=g d2 _ C (h.below s2 A Zb);rw[s1,cI,h.Rc s,cG,o,cI,wo Zb Zb,cG];refine fq.of i ?_;rw[Pf.dD];simp only[cN];omega
  refine fC (λ_=>?_) (λ_=>?_)
  ·obtain⟨s,d2,s1,s2,A,C⟩:=qQ p;obtain⟨t,d3,t1,t2,t3,t4,t5,t6⟩:=jI Zb h.c s2 A C;obtain⟨P,d4,o,i,w⟩:=g d3 _ t2 (h.below s2 A Zb)
   have hw:(Pf.mk 8 0 s [] [] [P]).wt<=200000000:=by rw[Pf.dD];simp only[cN];omega
   rw[s1,cI,t1,cI,h.Rc s,cG,o,cI,wo Zb Zb,cG,FN Zb Zb,cG];refine fq.of i ?_;rw[Pf.dD];simp only[cN,Ty.d_];rw[Pf.dD];simp only[cN];omega
  refine fC (λ_=>?_) (λ_=>?_)
  ·--there is a number W is equal to a term
   obtain⟨t,d2,t1,t2,t3,t4,t5,t6⟩:=jI Zb h.c Ty.ek Zk p;obtain⟨y,d3,H,I,y3,y4⟩:=gy d2 t2 2 Zb Zb;obtain⟨a,a1,_⟩:=FI (a:=5) (b:=7) I y3;obtain⟨b,R,_⟩:=FI (a:=10) (b:=14) I y3;obtain⟨g1,g2,g3⟩:=Bb t3 t4
   have hr:(Pf.mk 18 0 .z [t] [] []).wt<=3800:=by rw[Pf.dD];simp only[cN,Ty.d_];omega
   have B:(Fm.mk a .nat [] [eqv t]).wt<=4000:=by rw[Fm.dD];simp only[cN,Ty.eM];omega
   rw[t1,cI,H,cI,cO,a1,cG,yI t3 Zb t4,vO Zk Zb,cG,cO,R,cG,mH Zb,cG,FM Zb Zb Zb,cG];refine fq.of y4 ?_;rw[Pf.dD];simp only[cN,Ty.d_];omega
  refine fC (λ_=>?_) (λ_=>?_)
  ·obtain⟨P,d2,o,i,w⟩:=g d1 q p h;rw[o,cI];rcases qs h.v (P:=P) Zb with⟨e,he,r⟩|⟨f,l,r,B⟩
   ·rw[r,cI,cJ (by rw[dS];exact he)];exact E _ i
   ·obtain⟨u1,u2⟩:=s9 B J;obtain⟨s,d3,s1,s2,A,C⟩:=qQ i;obtain⟨y,d4,H,I,y3,y4⟩:=gy d3 C 2 Zb Zb;obtain⟨a,a1,_⟩:=FI (a:=5) (b:=7) I y3;obtain⟨b,R,_⟩:=FI (a:=10) (b:=14) I y3;obtain⟨t,d5,t1,t2,t3,t4,t5,t6⟩:=jI Zb h.c s2 A y4
    have hw:(Fm.mk a s [] [f.up 0 1]).wt<=300000:=by rw[Fm.dD];simp only[cN];omega
    rw[r,cI,cL abG,s1,cI,H,cI,cO,a1,cG,u1,cG,vO Zb Zb,cG,cO,R,cG,t1,cI,FM Zb Zb Zb,cG];refine fq.of t2 ?_;rw[Pf.dD];simp only[cN,Ty.d_];omega
  refine fC (λ_=>?_) (λ_=>?_)
  ·obtain⟨n',rfl⟩:∃n',n=n'+1:=⟨n-1,Zb⟩;obtain⟨P,d2,o,i,w⟩:=GC (n:=n') (k:=m) Zb (λd q D h=>S n' Zb m L d q Zb Zb D h) p h Zb Zb;rw[o,cI];exact fq.of i w
  refine fC (λ_=>?_) (λ_=>?_)
  ·obtain⟨P,d2,o,i,w⟩:=g d1 q p h;rw[o,cI];rcases qs h.v (P:=P) Zb with⟨e,he,r⟩|⟨f,l,r,B⟩
   ·rw[r,cI,cJ (by rw[dS];exact he)];exact E _ i
   ·obtain⟨u1,u2⟩:=s9 B J;obtain⟨t,d5,t1,t2,t3,t4,t5,t6⟩:=jI Zb h.c Ty.ek Zk i
    have hH:(Pf.mk 1 0 .z [] [] []).wt<=10:=Zk
    rw[r,cI,cL abG,u1,cG,t1,cI,show mQ 0=some (Pf.mk 1 0 .z [] [] [])from rfl,cG,Eg Zb Zb Zb Zb,cG];refine fq.of t2 ?_;rw[Pf.dD];simp only[cN,Ty.d_];omega
  refine fC (λ_=>?_) (λ_=>?_)
  ·obtain⟨P,d2,o,i,w⟩:=g d1 q p h;rw[o,cI];rcases qs h.v (P:=P) Zb with⟨e,he,r⟩|⟨f,l,r,B⟩
   ·rw[r,cI,cJ (by rw[dS];exact he)];exact E _ i
   ·obtain⟨u1,u2⟩:=s9 B J;obtain⟨t,d5,t1,t2,t3,t4,t5,t6⟩:=jI Zb h.c Ty.jD Zk i
    have hH:(Pf.mk 1 0 .z [] [] []).wt<=10:=Zk
    rw[r,cI,cL abG,u1,cG,eo,cG,t1,cI,show mQ 0=some (Pf.mk 1 0 .z [] [] [])from rfl,cG,Eg Zb Zb Zb Zb,cG];refine fq.of t2 ?_;rw[Pf.dD];simp only[cN,Ty.d_];omega
  refine fC (λ_=>?_) (λ_=>?_)
  ·obtain⟨t,d2,t1,t2,t3,t4,t5,t6⟩:=jI Zb h.c Ty.ek Zk p;obtain⟨P,o,i⟩:=CM t5;rw[t1,cI,o,cG];exact fq.of t2 Zb
  refine fC (λ_=>?_) (λ_=>?_)
  ·obtain⟨t,d2,t1,t2,t3,t4,t5,t6⟩:=jI Zb h.c Ty.ek Zk p;obtain⟨u,d3,u1,u2,u3,u4,u5,u6⟩:=jI Zb h.c Ty.ek Zk t2;have af:=Tm.yG u 0 1
   have r1:(Pf.mk 18 0 .z [t] [] []).wt<=3800:=by rw[Pf.dD];simp only[cN,Ty.d_];omega
   have r2:(Pf.mk 18 0 .z [u] [] []).wt<=3800:=by rw[Pf.dD];simp only[cN,Ty.d_];omega
   have r3:(Fm.mk 1 .z [u.up 0 1,u.up 0 1] []).wt<=8000:=by rw[Fm.dD];simp only[cN,Ty.d_];omega
   rw[t1,cI,u1,cI,r_ u3 Zb Zb,cG,cG,wN Zb Zb,cG,mH Zb,cG,mH Zb,cG,CY Zb Zb Zb,cG];refine fq.of u2 ?_;rw[Pf.dD];simp only[cN,Ty.d_];omega
  refine fC (λ_=>?_) (λ_=>?_)
  ·obtain⟨s,d2,s1,s2,A,C⟩:=Jc p;have hb:=h.below s2 A Zb;obtain⟨P,d3,o,i,w⟩:=Ek (q:=⟨q.afs++[s],q.afv.map (Fm.up 0 1)⟩) (by show(q.afs++[s]).length<=600;simp;omega) hb.c C
   have hw:(Pf.mk 8 0 s [] [] [P]).wt<=13000:=by rw[Pf.dD];simp only[cN];omega
   rw[s1,cI,h.Rc s,cG,o,cI,wo Zb Zb,cG,CS Zb,cG];refine fq.of i ?_;rw[Pf.dD];simp only[cN,Ty.d_];omega
  refine fC (λ_=>?_) (λ_=>?_)
  ·obtain⟨s,d2,s1,s2,A,C⟩:=qQ p;obtain⟨P,d3,o,i,w⟩:=g d2 _ C (h.below s2 A Zb);rw[s1,cI,h.Rc s,cG,o,cI,wo Zb Zb,cG];refine fq.of i ?_;rw[Pf.dD];simp only[cN];omega
  refine fC (λ_=>?_) (λ_=>E _ p)
  ·obtain⟨s,d2,s1,s2,A,C⟩:=qQ p;obtain⟨t,d3,t1,t2,t3,t4,t5,t6⟩:=jI Zb h.c s2 A C;obtain⟨P,d4,o,i,w⟩:=g d3 _ t2 (h.below s2 A Zb)
   have hw:(Pf.mk 12 0 s [] [] [P]).wt<=200000000:=by rw[Pf.dD];simp only[cN];omega
   rw[s1,cI,t1,cI,h.Rc s,cG,o,cI,wo Zb Zb,cG,FN Zb Zb,cG];refine fq.of i ?_;rw[Pf.dD];simp only[cN,Ty.d_];rw[Pf.dD];simp only[cN];omega
def vI.hg{g:List Ty}{f:Fm}{n:Nat}(h:vI g f n)(hn:n<=4096):Hg g f:=⟨h.err hn,h.ty⟩
def A_(d:db)(n:d.wf):∃L m,sJ d=some (L,m)/\m.wf/\L.length<=2/\∀f∈L,vI [] f (fb 2):=by
 have p:j9 3 ([]:List Ty):=⟨λs hs=>by simp at hs⟩;unfold sJ;obtain⟨x,d1,q,t,y,u⟩:=gy d n 3 Zb Zb;rw[q];simp only[cI,cO]
 obtain⟨o,v,j⟩:=nG (ρ:=List Fm×db) (F:=J9 λ(a:List Fm) (b:Int) (c:db)=>
   if pc b 0 then c0 (gw FU c [] 2) λg d75=>fU (eZ a [g])<|some (eK.next (fK a [g],eH .i64 b 1,d75))else some (eK.DN (a,b,c)))
  (λs=>0<=s.2.1/\(s.1.length:Int)+s.2.1<=2/\(∀f∈s.1,vI [] f (fb 2))/\s.2.2.wf) (λs=>s.2.1.toNat)
  (λo=>match o with|.inl s=>s.1.length<=2/\(∀f∈s.1,vI [] f (fb 2))/\s.2.2.wf|.inr _=>False)
  (by
   rintro⟨l,i,e⟩ ⟨i1,i2,i3,i4⟩;simp only at i1 i2 i3 i4
   by_cases hi:0<i
   ·left;obtain⟨s,d3,s1,s2,w⟩:=pM 2 Zb [] e aae p i4;rw[show((2:Nat):Int)=2 from rfl] at s1;refine⟨(l++[s],i-1,d3),?_,⟨?_,?_,?_,s2⟩,?_⟩
    ·simp only[J9,eb,hi,if_true,s1,cI];rw[di aaV,cM,dF Zb Zb];rfl
    ·show 0<=i-1;omega
    ·simp;omega
    ·intro f k;rcases tA.1 k with h|h
     ·exact i3 f h
     ·rw[qn] at h;subst h;exact w
    ·show(i-1).toNat<i.toNat;omega
   ·right;left
    exact⟨(l,i,e),by simp only[J9,eb,hi,jm],by show l.length<=2;omega,i3,i4⟩)
  FU ([],x,d1) ⟨t,aaV,λf k=>by simp at k,u⟩ (by show x.toNat<FU;rw[dn];omega)
 rw[v];cases o with
 |inr r=>exact absurd j aae|inl s=>
  obtain⟨l,i,e⟩:=s;exact⟨l,e,rfl,j.2.2,j.1,j.2.1⟩
def made(l:List Int)(h:l.length<=500):∃L d1 q d2,sJ ⟨l,0⟩=some (L,d1)/\qp d1=some (q,d2)/\d2.wf/\Mq L q/\q.afs.length<=3/\q.afv.length<=2/\L.length<=2:=by
 obtain⟨L,d1,c,d,e,g⟩:=A_ ⟨l,0⟩ (OZ l Zb);obtain⟨q,d2,g1,g2,g3,g4,g5,g6⟩:=zX d1 d
 have b:fb 2<=4096:=Zk
 refine⟨L,d1,q,d2,c,g1,g2,⟨⟨Zb,λf a=>(g f a).hg b,λs hs=>(g4.all s hs).1,Zb,Zb,λf a=>(g6 f a).hg b⟩,g4⟩,g3,g5,e⟩
def Fm.kT{f:Fm}(h:f.ok=true)(hn:f.afq<=4096):f.err=0:=by
 unfold Fm.err;rw[cL h,cJ Zb]
def Gq{P:Pf}(hw:P.ok=true)(hs:P.small=true):P.err=if P.afq<=16384 then 0 else 4:=by
 unfold Pf.err;rw[cL hw]
 by_cases h:P.afq<=16384
 ·rw[cL ⟨hs,h⟩,cL h]
 ·rw[cJ (λa=>h a.2),cJ h]
theorem gq{P:Pf}(h:P.err=0):P.ok=true/\P.small=true/\P.afq<=16384:=by
 unfold Pf.err at h;cases b:P.ok with
 |false=>rw[b] at h;cases h
 |true=>
  rw[b,cL rfl] at h
  by_cases a:P.small=true/\P.afq<=16384
  ·exact⟨rfl,a.1,a.2⟩
  ·rw[cJ a] at h;cases h
def Oz{t:Tm}(h:t.err=0):t.ok=true/\E4 t=true:=by
 obtain⟨a,b⟩:=Tm.ey h;exact⟨a,by simpa[E4] using b⟩
def FL{g:List Ty}{hs L:List Fm}{t:Tm}(h:dd g t .nat)(c:fh g)(hg:g.length<=16)(hn:t.afq<=1000):(Pf.mk 18 0 .z [t] [] []).inf L g hs=.inl (.mk 1 .z [t,t] [],0)/\(Pf.mk 18 0 .z [t] [] []).err=0:=by
 have he:t.err=0:=Tm.kT h.ok Zb;have d:(Fm.mk 1 .z [t,t] []).err=0:=Fm.kT (eX.eq h h).ok (by rw[Fm.cK];simp only[cN];omega);constructor
 ·rw[Pf.fk,Be,ej (A4 h c Zb)];unfold lT;rw[dA,cL d];cases (Fm.mk 1 .z [t,t] []).has<;>rfl
 ·obtain⟨a,b⟩:=Oz he;rw[Gq (by rw[Pf.eu];simp[a,Pf.node,Pf.sig,Ty.jW]) (by rw[Pf.o_];simp[b]),cL (by rw[Pf.cK];simp only[cN];omega)]
def nB{L:List Fm}{q:Sq}(h:qY L q){P:Pf}(a:P.err=0):FT L q P=P.inf L q.afs q.afv:=by
 unfold FT;rw[ej h.zero,ej a]
structure Rt (L:List Fm) (q:Sq) (P:Pf) (f:Fm) (m:Nat):Prop where
 err:P.err=0
 inf:P.inf L q.afs q.afv=.inl (f,m)
 hg:Hg q.afs f
 wt:P.wt<=50000000
def AX{L:List Fm}{q:Sq}(h:Mq L q){d:db}(C:d.wf){k:Nat}(y:k<=4):∃P f l g m,sU d L q (k:Int)=some (P,⟨f,l⟩,g)/\g.wf/\Rt L q P f m/\Us l m:=by
 have D:=FA k y;unfold sU;rw[cO]
 obtain⟨o,E,A⟩:=nG (ρ:=Pf×xt×db) (F:=qH λ(v109:Int) (a:db)=>
   if(xT v109 4) then(
   c0 (kF FU a L q (k:Int)) λc d134=>
   c0 (jq L q c) λn p=>
   if(dC p 0) then(
   some (.ret (c,n,d134)))
   else(some (.next ((ep .i64 v109 1),d134))))
   else(some (.DN (v109,a))))
  (λs=>0<=s.1/\s.1<=4/\s.2.wf) (λs=>(4-s.1).toNat)
  (λo=>match o with|.inl s=>s.2.wf|.inr r=>∃P f l g m,r=(P,⟨f,l⟩,g)/\g.wf/\Rt L q P f m/\Us l m)
  (by
   rintro⟨i,e⟩ ⟨i1,i2,i3⟩;simp only at i1 i2 i3
   by_cases hi:i<4
   ·obtain⟨P,d1,G,B,S⟩:=Da FU k L e q (by rw[dn];omega) y i3 h;simp only[qH,hW,hi,if_true,G,cI];rcases lA h.v.b (P:=P) Zb with⟨e,he,_,_,j⟩|⟨f,m,l,q1,_,j,hu,w,_,he⟩
    ·left;refine⟨(i+1,d1),?_,⟨?_,?_,B⟩,?_⟩
     ·rw[j,cI,cJ (by rw[dS];exact he),dk Zb Zb]
     ·show 0<=i+1;omega
     ·show i+1<=4;omega
     ·show(4-(i+1)).toNat<(4-i).toNat;omega
    ·right;right;refine⟨(P,⟨f,l⟩,d1),?_,P,f,l,d1,m,rfl,B,⟨he,?_,w,Zb⟩,hu⟩
     ·rw[j,cI,cL abG]
     ·rw[<-nB h.v he];exact q1
   ·right;left
    exact⟨(i,e),by simp only[qH,hW,hi,jm],i3⟩)
  FU (0,d) ⟨by show(0:Int)<=0;omega,by show(0:Int)<=4;omega,C⟩ (by show(4-(0:Int)).toNat<FU;rw[dn];omega)
 rw[E];cases o with
 |inr r=>
  obtain⟨P,f,l,g,m,rfl,H,I,J⟩:=A;exact⟨P,f,l,g,m,rfl,H,I,J⟩
 |inl s=>
  obtain⟨i,e⟩:=s;have he:e.wf:=A;obtain⟨x,d1,K,M,T,N⟩:=gy e he 4 Zb Zb;obtain⟨t,t1,t2⟩:=sm x M Zb;obtain⟨u,hn⟩:=t2 q.afs;have hw:=t.eY u.ok;obtain⟨O,Q⟩:=FL (L:=L) (hs:=q.afv) u h.v.ctx h.v.nv Zb
  have R:(Pf.mk 18 0 .z [t] [] []).wt<=1000:=by rw[Pf.dD];simp only[cN,Ty.d_];omega
  rcases lA h.v.b (P:=Pf.mk 18 0 .z [t] [] []) Zb with⟨e,he,q1,_,j⟩|⟨f,m,l,q1,_,j,hu,w,_,he⟩
  ·rw[nB h.v Q,O] at q1;cases q1
  ·rw[cG,cR];simp only[qH];rw[K,cI,t1,cG,mH Zb,cG,j,cI];exact⟨_,f,l,d1,m,rfl,N,⟨he,by rw[<-nB h.v he];exact q1,w,Zb⟩,hu⟩
def OU(g:List Ty)(s:Ty):dd (g++[s]) v0 s:=kK
def xI{f:Fm}{m:Nat}(h:f.err=0):lT (.inl (f,m))=.inl (f,if f.has then m else 0):=by
 unfold lT;rw[dA,cL h]
theorem Fc{f:Fm}{m:Nat}(h:f.err≠0):lT (.inl (f,m))=.inr 4:=by
 unfold lT;rw[dA,cJ h]
def P2:qY [] ⟨[],[]⟩:=⟨aae,λf h=>by simp at h,λs h=>by simp at h,aae,aae,λf h=>by simp at h⟩
def LW:tX=some true:=by
 have g:fh [Ty.nat]:=λs hs=>by rw[qn.1 hs];exact Ty.ek
 obtain⟨a,d⟩:=FL (L:=[]) (hs:=[]) (OU [] .nat) g aae Zk
 have he:(Pf.mk 8 0 .nat [] [] [.mk 18 0 .z [v0] [] []]).err=0:=Zk
 have hi:(Pf.mk 8 0 .nat [] [] [.mk 18 0 .z [v0] [] []]).inf [] [] []=.inl (.mk 4 .nat [] [.mk 1 .z [v0,v0] []],0):=by
  rw[Pf.fk,v8,eP Zk];have a:(Pf.mk 18 0 .z [v0] [] []).inf [] ([]++[.nat]) (List.map (Fm.up 0 1) [])=.inl (.mk 1 .z [v0,v0] [],0):=a;rw[a,dA,xI Zk];rw[show(Fm.mk 4 .nat [] [.mk 1 .z [v0,v0] []]).has=false by decide];rfl
 have hw:(Pf.mk 8 0 .nat [] [] [.mk 18 0 .z [v0] [] []]).wt<=100:=Zk
 unfold tX;rw[dL,cG,uH,cG,mH Zk,cG,wo Zk Zk,cG];rcases lA P2.b (P:=.mk 8 0 .nat [] [] [.mk 18 0 .z [v0] [] []]) Zb with⟨e,c,q1,_,h⟩|⟨f,m,l,q1,i,h,hu,k,_,c⟩
 ·rw[nB P2 he] at q1;have q1:(Pf.mk 8 0 .nat [] [] [.mk 18 0 .z [v0] [] []]).inf [] [] []=.inr e:=q1;rw[hi] at q1;cases q1
 ·rw[nB P2 he] at q1;have q1:(Pf.mk 8 0 .nat [] [] [.mk 18 0 .z [v0] [] []]).inf [] [] []=.inl (f,m):=q1;rw[hi] at q1;obtain⟨rfl,rfl⟩:=fa (px q1);have j:=hu.ext .nil;subst j;rw[i,cI,cO,cL abG,cL abG,cG,cG,wN Zk Zk,cG,vO Zk Zk,cG];obtain⟨r,a,d⟩:=zv FU (.mk 4 .nat [] [.mk 1 .z [v0,v0] []]) (.mk 4 .nat [] [.mk 1 .z [v0,v0] []]) (by rw[dn];decide) Zk;have:=d.2 rfl;subst this;simp only[];rw[a];rfl
noncomputable def l8 (a b:Tm):Int:=@ite Int (a=b) (Classical.propDecidable _) 0 (if(a.norm 1000 0).2.2≠0 then(a.norm 1000 0).2.2 else if(b.norm 1000 0).2.2≠0 then(b.norm 1000 0).2.2 else@ite Int ((a.norm 1000 0).1=(b.norm 1000 0).1) (Classical.propDecidable _) 0 11)
def AK(a:Tm):l8 a a=0:=cL rfl
def BD{a b:Tm}(h:a≠b):l8 a b=if(a.norm 1000 0).2.2≠0 then(a.norm 1000 0).2.2 else if(b.norm 1000 0).2.2≠0 then(b.norm 1000 0).2.2 else@ite Int ((a.norm 1000 0).1=(b.norm 1000 0).1) (Classical.propDecidable _) 0 11:=cJ h
def Nm.LF{a:Tm}(h:Nm a)(b:(a.norm 1000 0).2.2=0):(a.norm 1000 0).1.ok=true/\(a.norm 1000 0).1.afq<=4096:=by
 obtain⟨p,n,e,c⟩:∃p n e,a.norm 1000 0=(p,n,e):=⟨_,_,_,rfl⟩;rw[c] at b|-;have b:e=0:=b;subst b;have:=xJ 1000 536870912 0 a p n Zb (Sm.start h.err h.afu) (iC h.err).2 c;exact⟨this.1.ok,this.2⟩
def w_{a b:Tm}(f:Nm a)(g:Nm b):jj a b 1000=some (l8 a b):=by
 have v:=a.eY (iC f.err).1;have w:=b.eY (iC g.err).1;have x:=(iC f.err).2;have y:=(iC g.err).2;unfold jj;rw[kr Zb,f.err,cG,cJ nz,kr Zb,g.err,cG,cJ nz];obtain⟨r,s,l⟩:=o6 (a:=a) (b:=b) Zb;rw[s,cG]
 by_cases c:a=b
 ·rw[cL (l.2 c),c,AK]
 ·rw[cJ (λh=>c (l.1 h)),BD c,f.both.1,g.both.1];obtain⟨p,n,e,t⟩:∃p n e,a.norm 1000 0=(p,n,e):=⟨_,_,_,rfl⟩;obtain⟨m,n',u,k⟩:∃p n e,b.norm 1000 0=(p,n,e):=⟨_,_,_,rfl⟩;have i:=f.LF;rw[t] at i|-;rw[k,iY];simp only[] at i|-
  by_cases he:e=0
  ·subst he;rw[cJ nz,cJ Zk,iY]
   by_cases d:u=0
   ·subst d;rw[cJ nz,cJ Zk];have z:=p.eY (i rfl).1;have A:=(i rfl).2;obtain⟨q,q1,o⟩:=o6 (a:=p) (b:=m) Zb;rw[q1,cG]
    by_cases j:p=m
    ·rw[cL (o.2 j),cL j]
    ·rw[cJ (λh=>j (o.1 h)),cJ j]
   ·rw[cL (by rw[cP];exact d),cL d]
  ·rw[cL (by rw[cP];exact he),cL he]
mutual
noncomputable def Fm.tC:Fm->Fm->Int
 |.mk k s ts l,b=>if k≠b.afo\/s.fX b.cW=false then 11 else if dB (List.zipWith l8 ts b.dy)≠0 then dB (List.zipWith l8 ts b.dy)else dB (Fm.G7 l b.afp)
noncomputable def Fm.G7:List Fm->List Fm->List Int
 |a::l,b::m=>a.tC b::Fm.G7 l m|_,_=>[]
end
def Fm.FQ:∀(l m:List Fm),Fm.G7 l m=List.zipWith Fm.tC l m
 |[],m=>by rw[Fm.G7];rfl;intros;simp_all|a::l,[]=>by rw[Fm.G7];rfl;intros;simp_all|a::l,b::m=>by rw[Fm.G7,Fm.FQ l m];rfl
def Fm.yu(k k':Int)(s b:Ty)(ts a:List Tm)(l c:List Fm):(Fm.mk k s ts l).tC (.mk k' b a c)=if k≠k'\/s.fX b=false then 11 else if dB (List.zipWith l8 ts a)≠0 then dB (List.zipWith l8 ts a)else dB (List.zipWith Fm.tC l c):=by rw[Fm.tC,Fm.FQ];rfl
def yA{α:Type}{E:α->α->Option Int}{e:α->α->Int}{M:List α}:∀(l:List α) (i:Nat),l.length+i=M.length->(∀x∈l,∀y∈M,E x y=some (e x y))->eg (λ(d:Int) (f:α)=>(λ(_:Unit)=>cH (du M d) λb=>cH (E f b) λa=>if(dI a 0) then(some (.ret a))else(some ((.next ()):eK Unit Int)))) l i ()=some (if dB (List.zipWith e l (M.drop i))=0 then .inl ()else .inr (dB (List.zipWith e l (M.drop i))))
 |[],i,_,_=>by simp[dB]|x::l,i,k,h=>by
  simp only[hQ] at k
  have hi:i<M.length:=Zb
  have m:=yA (E:=E) (e:=e) (M:=M) l (i+1) Zb (λy hy=>h y (by simp[hy]));have n:M.drop i=M[i]::M.drop (i+1):=(MC hi)
  have o:List.zipWith e (x::l) (M.drop i)=e x M[i]::List.zipWith e l (M.drop (i+1)):=by rw[n];rfl
  rw[o,dq,fw,mr hi,cG,h x aae _ (zf hi),cG]
  by_cases c:e x M[i]=0
  ·have g:¬dI (e x M[i]) 0=true:=by rw[cP];simpa using c
   have j:dB (e x M[i]::List.zipWith e l (M.drop (i+1)))=dB (List.zipWith e l (M.drop (i+1))):=by rw[dB,cL c]
   rw[cJ g,cG,dt,j];exact m
  ·have g:dI (e x M[i]) 0=true:=by rw[cP];exact c
   have j:dB (e x M[i]::List.zipWith e l (M.drop (i+1)))=e x M[i]:=by rw[dB,cJ c]
   rw[cL g,cG,BG,j,cJ c]
def vE:∀(n:Nat) (a b:Fm),a.afq<=n->a.afq<=4096->b.afq<=4096->a.ok=true->b.ok=true->GF a->GF b->ic n a b=some (a.tC b):=by
 intro n
 induction n with
 |zero=>intro a b h;have:=a.da;omega
 |succ n S=>
  intro a b hn z A O P T U;cases a with
  |mk k s ts l=>
  cases b with
  |mk k' t c B=>
   cases T with
   |mk C D=>
   cases U with
   |mk F H=>
   rw[Fm.cK] at hn z A;obtain⟨a1,a2,a3⟩:=Fm.kZ O;obtain⟨W,X,V⟩:=Fm.kZ P;have Y:=Tm.dH ts;have Z:=Fm.dH l;rw[ic,Fm.yu];refine kC (G:=λo=>o=some (if k≠k'\/s.fX t=false then 11 else if dB (List.zipWith l8 ts c)≠0 then dB (List.zipWith l8 ts c)else dB (List.zipWith Fm.tC l B))) (λv=>v=true↔(k≠k'\/s.fX t=false)) (λv Q=>?_) (λj R=>?_)
   ·by_cases g:k≠k'\/s.fX t=false
    ·rw[cL (Q.2 g),cL g]
    ·rw[cJ (λh=>g (Q.1 h)),cJ g];have I:k=k':=LY λh=>g (.inl h);subst I;obtain⟨e1,e2⟩:=Fm.shape O P;show(fU (eQ ts) _:Option Int)=_;rw[cQ Zb,cM,cO];show cH (eg (λ(J:Int) (K:Tm)=>(λ(_:Unit)=>cH (du c J) λi=>cH (jj K i 1000) λd=>if(dI d 0) then(some (.ret d))else(some ((.next ()):eK Unit Int)))) ts 0 ()) _=_;rw[yA (E:=λx y=>jj x y 1000) (e:=l8) ts 0 Zb (λx m y hy=>w_ (C x m) (F y hy)),Ts]
     by_cases u:dB (List.zipWith l8 ts c)=0
     ·rw[cL u,cG,cR,cJ (λh=>h u)];show(fU (eQ l) _:Option Int)=_;rw[cQ Zb,cM,cO];show cH (eg (λ(p:Int) (q:Fm)=>(λ(_:Unit)=>cH (du B p) λr=>cH (ic n q r) λf=>if(dI f 0) then(some (.ret f))else(some ((.next ()):eK Unit Int)))) l 0 ()) _=_
      rw[yA (E:=λx y=>ic n x y) (e:=Fm.tC) l 0 Zb (λx m y hy=>by
       have m1:=cV Fm.afq m;have m2:=cV Fm.afq hy
       exact S x y Zb Zb Zb (a3 x m) (V y hy) (D x m) (H y hy)),Ts]
      by_cases L:dB (List.zipWith Fm.tC l B)=0
      ·rw[cL L,L];rfl
      ·rw[cJ L];rfl
     ·rw[cJ u,cL u];rfl
   ·show(if(dI k k') then j true else cH (fG FU s t) λM=>j (s_ M))=_
    by_cases w:k=k'
    ·have N:¬dI k k'=true:=by rw[cP];simpa using w
     rw[cJ N,kh Zb,cG];exact R _ (by rw[Fq];simp[w])
    ·have N:dI k k'=true:=by rw[cP];exact w
     rw[cL N];exact R _ (by simp[w])
def Hg.Zc{g:List Ty}{f:Fm}(h:Hg g f)(hg:g.length<=1000000):GF f:=GF.of f h.afq h.ok (h.ty.afu _ (by have:=h.afq;omega))
theorem zF{g f:List Ty}{a b:Fm}(c:Hg g a)(d:Hg f b)(h:g.length<=1000000)(i:f.length<=1000000):p9 a b=a.tC b:=by
 have j:=c.wt;have k:=d.wt
 have e:gZ a b=some (a.tC b):=by
  unfold gZ;rw[gJ Zb,c.err,cG,cJ nz,gJ Zb,d.err,cG,cJ nz,vE FU a b (by rw[dn];have:=c.afq;omega) c.afq d.afq c.ok d.ok (c.Zc h) (d.Zc i)];rfl
 unfold p9;rw[e];rfl
def ug(a b:Tm):Prop:=a.ok=true/\b.ok=true/\∃c,jn a c/\jn b c
def ug.refl{a:Tm}(h:a.ok=true):ug a a:=⟨h,h,a,.refl a,.refl a⟩
def ug.symm{a b:Tm}(h:ug a b):ug b a:=⟨h.2.1,h.1,let⟨c,p,q⟩:=h.2.2;⟨c,q,p⟩⟩
def ug.trans{a b c:Tm}(h:ug a b)(d:ug b c):ug a c:=by
 obtain⟨e,f,x,g,i⟩:=h;obtain⟨_,j,y,k,l⟩:=d;obtain⟨w,m,n⟩:=i.meet y f k;exact⟨e,j,w,g.trans m,l.trans n⟩
def ug.star{a b:Tm}(c:a.ok=true)(h:jn a b):ug a b:=⟨c,h.ok c,b,h,.refl b⟩
def jn.up{t u:Tm}(h:jn t u):t.ok=true->∀f c:Int,0<=f->0<=c->jn (t.up f c) (u.up f c):=by
 induction h with
 |refl t=>intro _ f c _ _;exact .refl _|step a _ g=>intro b f c d e;exact .step (a.up b f c d e) (g (a.ok b) f c d e)
def jn.xk{t u:Tm}(h:jn t u){x:Tm}(a:x.ok=true):t.ok=true->∀n:Int,0<=n->jn (Tm.ei n t x) (Tm.ei n u x):=by
 induction h with
 |refl t=>intro _ n _;exact .refl _|step b _ d=>intro c n hn;exact .step (b.ei (iB.refl x a) a c n hn) (d (b.ok c) n hn)
def jn.T5{x y:Tm}(h:jn x y){t:Tm}(a:t.ok=true):x.ok=true->∀n:Int,0<=n->jn (Tm.ei n t x) (Tm.ei n t y):=by
 induction h with
 |refl t=>intro _ n _;exact .refl _|step b _ d=>intro c n hn;exact .step ((iB.refl t a).ei b c a n hn) (d (b.ok c) n hn)
def ug.up{a b:Tm}(h:ug a b){f c:Int}(d:0<=f)(e:0<=c):ug (a.up f c) (b.up f c):=by
 obtain⟨g,i,x,j,k⟩:=h;exact⟨by rw[Tm.re a f c d e];exact g,by rw[Tm.re b f c d e];exact i,_,j.up g f c d e,k.up i f c d e⟩
theorem ug.ei{a b x y:Tm}(h:ug a b)(k:ug x y){n:Int}(hn:0<=n):ug (Tm.ei n a x) (Tm.ei n b y):=by
 obtain⟨e,f,c,i,j⟩:=h;obtain⟨g,hy,d,d1,d2⟩:=k;refine⟨Tm.vn x g a n hn e,Tm.vn y hy b n hn f,Tm.ei n c d,?_,?_⟩
 ·exact(i.xk g e n hn).trans (d1.T5 (i.ok e) g n hn)
 ·exact(j.xk hy f n hn).trans (d2.T5 (j.ok f) hy n hn)
def kx(e:Int):Prop:=e=3\/e=4\/e=5
def uF{a p:Tm}{n:Int}(h:a.norm 1000 0=(p,n,0))(b:a.ok=true):p.nf=true/\jn a p:=⟨(Fg 1000 0 a p n h).1,AQ 1000 0 a p n b h⟩
def FR{a b:Tm}(h:ug a b):l8 a b=0\/kx (l8 a b):=by
 by_cases g:a=b
 ·rw[g,AK];exact .inl rfl
 ·rw[BD g];obtain⟨j,m,c,o,r⟩:=h;have s:=rE 1000 0 a;have t:=rE 1000 0 b
  by_cases d:(a.norm 1000 0).2.2=0
  ·rw[cJ (λh=>h d)]
   by_cases f:(b.norm 1000 0).2.2=0
   ·rw[cJ (λh=>h f)];obtain⟨p,n,e,q⟩:∃p n e,a.norm 1000 0=(p,n,e):=⟨_,_,_,rfl⟩;obtain⟨y,n',u,i⟩:∃p n e,b.norm 1000 0=(p,n,e):=⟨_,_,_,rfl⟩;rw[q] at d|-;rw[i] at f|-;have d:e=0:=d;have f:u=0:=f;subst d;subst f;obtain⟨n1,s1⟩:=uF q j;obtain⟨n2,s2⟩:=uF i m;obtain⟨w,v,x⟩:=s1.meet c j o;obtain⟨w',k,l⟩:=s2.meet c m r;have:=v.nf n1;subst this;have:=k.nf n2;subst this;have:w=w':=jn.unique (o.ok j) x l n1 n2;rw[cL this];exact .inl rfl
   ·rw[cL f];rcases t with h|h|h
    ·exact absurd h f
    ·exact .inr (.inr (.inl h))
    ·exact .inr (.inr (.inr h))
  ·rw[cL d];rcases s with h|h|h
   ·exact absurd h d
   ·exact .inr (.inr (.inl h))
   ·exact .inr (.inr (.inr h))
def AA{a b:Tm}(j:a.ok=true)(i:b.ok=true)(h:l8 a b=0):ug a b:=by
 by_cases f:a=b
 ·rw[f];exact .refl i
 ·rw[BD f] at h
  by_cases c:(a.norm 1000 0).2.2=0
  ·rw[cJ (λh=>h c)] at h
   by_cases d:(b.norm 1000 0).2.2=0
   ·rw[cJ (λh=>h d)] at h;obtain⟨p,n,e,k⟩:∃p n e,a.norm 1000 0=(p,n,e):=⟨_,_,_,rfl⟩;obtain⟨m,n',o,g⟩:∃p n e,b.norm 1000 0=(p,n,e):=⟨_,_,_,rfl⟩;rw[k] at c h;rw[g] at d h;have c:e=0:=c;have d:o=0:=d;subst c;subst d
    by_cases l:p=m
    ·subst l;exact⟨j,i,p,(uF k j).2,(uF g i).2⟩
    ·rw[cJ l] at h;cases h
   ·rw[cL d] at h;exact absurd h d
  ·rw[cL c] at h;exact absurd h c
inductive kb:Fm->Fm->Prop
 |eq {a a' b b'}:ug a a'->ug b b'->kb (.mk 1 .z [a,b] []) (.mk 1 .z [a',b'] [])|two {k a a' b b'}:kb a a'->kb b b'->kb (.mk k .z [] [a,b]) (.mk k .z [] [a',b'])|q {k s a a'}:kb a a'->kb (.mk k s [] [a]) (.mk k s [] [a'])
def kb.refl{g:List Ty}{f:Fm}(h:eX g f):kb f f:=by
 induction h with
 |eq c d=>exact .eq (.refl c.ok) (.refl d.ok)|two _ _ _ a b=>exact .two a b|q _ _ _ e=>exact .q e
def kb.symm{a b:Fm}(h:kb a b):kb b a:=by
 induction h with
 |eq e f=>exact .eq e.symm f.symm|two _ _ c d=>exact .two c d|q _ g=>exact .q g
def kb.trans{a b:Fm}(h:kb a b):∀{c:Fm},kb b c->kb a c:=by
 induction h with
 |eq i j=>intro c h;cases h with|eq d e=>exact .eq (i.trans d) (j.trans e)
 |two _ _ f g=>intro c h;cases h with|two d e=>exact .two (f d) (g e)
 |q _ k=>intro c h;cases h with|q d=>exact .q (k d)
def kb.up{a b:Fm}(h:kb a b):∀{f c:Int},0<=f->0<=c->kb (a.up f c) (b.up f c):=by
 induction h with
 |eq j l=>intro f c e d;rw[Fm.dV,Fm.dV];exact .eq (j.up e d) (l.up e d)|@two k _ _ _ _ _ _ g i=>intro f c e d;have:=j_ k;rw[Fm.dV,Fm.dV];exact .two (g Zb d) (i Zb d)
 |@q k _ _ _ _ m=>intro f c e d;have:=j_ k;rw[Fm.dV,Fm.dV];exact .q (m Zb d)
theorem kb.ei{a b:Fm}(h:kb a b){x y:Tm}(c:ug x y):∀{n:Int},0<=n->kb (Fm.ei n a x) (Fm.ei n b y):=by
 induction h with
 |eq f g=>intro n hn;rw[Fm.dQ,Fm.dQ];exact .eq (f.ei c hn) (g.ei c hn)|@two k _ _ _ _ _ _ d e=>intro n hn;have:=j_ k;rw[Fm.dQ,Fm.dQ];exact .two (d Zb) (e Zb)
 |@q k _ _ _ _ i=>intro n hn;have:=j_ k;rw[Fm.dQ,Fm.dQ];exact .q (i Zb)
def kb.has{a b:Fm}(h:kb a b):a.has=b.has:=by
 induction h with
 |eq _ _=>rw[Fm.has_eq,Fm.has_eq]|@two k _ _ _ _ _ _ c d=>rw[Fm.sn,Fm.sn,c,d]|@q k _ _ _ _ e=>rw[Fm.sx,Fm.sx,e]
def qA:∀{l:List Int},(∀e∈l,e=0\/kx e)->dB l=0\/kx (dB l)
 |[],_=>.inl rfl|e::l,h=>by
  rw[dB]
  by_cases he:e=0
  ·rw[cL he];exact qA λx a=>h x (by simp[a])
  ·rw[cJ he];exact .inr ((h e aae).resolve_left he)
def kb.tC{a b:Fm}(h:kb a b):a.tC b=0\/kx (a.tC b):=by
 have hs:∀(k:Int) (s:Ty),¬(k≠k\/s.fX s=false):=λk s h=>by
  rcases h with h|h
  ·exact h rfl
  ·rw[(Ty.gi s s).2 rfl] at h;cases h
 induction h with
 |@eq a c b d m n=>
  rw[Fm.yu,cJ (hs _ _)]
  have f:=qA (l:=[l8 a c,l8 b d]) (λe he=>by
   simp only[gT,lZ,kv] at he;rcases he with rfl|rfl
   ·exact FR m
   ·exact FR n)
  show(if dB [l8 a c,l8 b d]≠0 then dB [l8 a c,l8 b d] else dB [])=0\/_
  by_cases g:dB [l8 a c,l8 b d]=0
  ·rw[cJ (λh=>h g)];exact .inl rfl
  ·show _\/kx (if dB [l8 a c,l8 b d]≠0 then dB [l8 a c,l8 b d] else dB []);rw[cL g];exact .inr (f.resolve_left g)
 |@two k a c b d _ _ i j=>
  have f:=qA (l:=[a.tC c,b.tC d]) (λe he=>by
   simp only[gT,lZ,kv] at he;rcases he with rfl|rfl
   ·exact i
   ·exact j)
  rw[Fm.yu,cJ (hs _ _)];exact f
 |@q k s a c _ o=>
  have f:=qA (l:=[a.tC c]) (λe he=>by
   simp only[gT,lZ,kv] at he
   rw[he];exact o)
  rw[Fm.yu,cJ (hs _ _)];exact f
def oi{g:List Ty}{a:Fm}(h:eX g a):∀{t:List Ty} {b:Fm},eX t b->a.tC b=0->kb a b:=by
 have key:∀{k k':Int} {s j:Ty} {ts f:List Tm} {l u:List Fm},(Fm.mk k s ts l).tC (.mk k' j f u)=0->k=k'/\s=j/\dB (List.zipWith l8 ts f)=0/\dB (List.zipWith Fm.tC l u)=0:=by
  intro k k' s j ts f l u h;rw[Fm.yu] at h
  by_cases d:k≠k'\/s.fX j=false
  ·rw[cL d] at h;cases h
  ·rw[cJ d] at h
   by_cases i:dB (List.zipWith l8 ts f)=0
   ·rw[cJ (λh=>h i)] at h;refine⟨LY λo=>d (.inl o),(Ty.gi s j).1 ?_,i,h⟩;cases v:s.fX j with
    |true=>rfl|false=>exact absurd (.inr v) d
   ·rw[cL i] at h;exact absurd h i
 induction h with
 |@eq g a b i z=>
  intro t c d hm;cases d with
  |@eq _ A B p w=>
   obtain⟨_,_,r,_⟩:=key hm;have m:=lv r;exact .eq (AA i.ok p.ok (m _ aae)) (AA z.ok w.ok (m _ aae))
  |two o _ _=>obtain⟨e,_⟩:=key hm;omega
  |q o _ _=>obtain⟨e,_⟩:=key hm;omega
 |@two g k a b o i z x y=>
  intro t c d hm;cases d with
  |eq _ _=>obtain⟨e,_⟩:=key hm;omega
  |@two _ k' A B n p w=>
   obtain⟨rfl,_,_,r⟩:=key hm;have m:=lv r;exact .two (x p (m _ aae)) (y w (m _ aae))
  |q n _ _=>obtain⟨e,_⟩:=key hm;omega
 |@q g k s a o hs i C=>
  intro t c d hm;cases d with
  |eq _ _=>obtain⟨e,_⟩:=key hm;omega
  |two n _ _=>obtain⟨e,_⟩:=key hm;omega
  |@q _ k' j A n D p=>
   obtain⟨rfl,rfl,_,r⟩:=key hm;have m:=lv r;exact .q (C p (m _ aae))
def fin(f:Fm)(m:Nat):Nat:=if f.has then m else 0
def gf{r:PR}{f:Fm}{m:Nat}(h:lT r=.inl (f,m)):∃a,r=.inl (f,a)/\f.err=0/\m=fin f a:=by
 cases r with
 |inr e=>cases h
 |inl p=>
  obtain⟨f0,a⟩:=p
  by_cases b:f0.err=0
  ·rw[xI b] at h;obtain⟨rfl,rfl⟩:=fa (px h);exact⟨a,rfl,b,rfl⟩
  ·grind[Fc]
def eR{r:PR}{k:Fm->Nat->PR}{p:Fm×Nat}(h:pbind r k=.inl p):∃f m,r=.inl (f,m)/\k f m=.inl p:=by
 cases r with
 |inr e=>cases h
 |inl q=>exact⟨q.1,q.2,rfl,h⟩
theorem gD{e:Int}{r:PR}{p:Fm×Nat}(h:fW e r=.inl p):e=0/\r=.inl p:=by grind[ej,fy]
def iT{c:Prop}[Decidable c]{e:Int}{r:PR}{p:Fm×Nat}(h:mX c e r=.inl p):¬c/\r=.inl p:=by grind[ft,eP]
def oW{r:PR}{k:Int}{f:Fm}{m:Nat}(h:vt r k=.inl (f,m)):r=.inl (f,m)/\f.afo=k:=by
 obtain⟨f0,a,rfl,b⟩:=eR h
 grind
theorem p6{F:Fm}{t:Tm}(h:(gH F t).2=0):gH F t=(Fm.ei 0 F t,0)/\(Fm.ei 0 F t).afq<=4096:=by grind[gO]
def sl{r:PR}{F:Fm}{t:Tm}{f:Fm}{m:Nat}(h:tK r F t=.inl (f,m)):r=.inl (f,m)/\(Fm.ei 0 F t).afq<=4096/\p9 (Fm.ei 0 F t) f=0:=by
 obtain⟨f0,a,rfl,b⟩:=eR h
 grind[gD,p6]
inductive Dv (L:List Fm):List Ty->List Fm->Pf->Fm->Nat->Prop
 |hyp {g hs i f}:0<=i->i<(hs.length:Int)->hs[hs.length-1-i.toNat]?=some f->Hg g f->Dv L g hs (.mk 1 i .z [] [] []) f 0|zl {g hs i f}:0<=i->L[i.toNat]?=some f->Hg [] f->Dv L g hs (.mk 2 i .z [] [] []) f 0|Dx {g hs a b x y m n}:Dv L g hs a x m->Dv L g hs b y n->Hg g (.mk 2 .z [] [x,y])->Dv L g hs (.mk 3 0 .z [] [] [a,b]) (.mk 2 .z [] [x,y]) (fin (.mk 2 .z [] [x,y]) (m|||n))|NY {g hs a x y m}:Dv L g hs a (.mk 2 .z [] [x,y]) m->Hg g x->Dv L g hs (.mk 4 0 .z [] [] [a]) x (fin x m)|N7 {g hs a x y m}:Dv L g hs a (.mk 2 .z [] [x,y]) m->Hg g y->Dv L g hs (.mk 5 0 .z [] [] [a]) y (fin y m)|DF {g hs F a y m}:Hg g F->hs.length+1<=16->Dv L g (hs++[F]) a y m->Hg g (.mk 3 .z [] [F,y])->Dv L g hs (.mk 6 0 .z [] [F] [a]) (.mk 3 .z [] [F,y]) (fin (.mk 3 .z [] [F,y]) m)|DC {g hs a b x y f m n}:Dv L g hs a (.mk 3 .z [] [x,y]) m->Dv L g hs b f n->Hg g x->Hg g f->x.tC f=0->Hg g y->Dv L g hs (.mk 7 0 .z [] [] [a,b]) y (fin y (m|||n))|all {g hs k k' s a f m}:(k=8/\k'=4\/k=12/\k'=6/\m.testBit 0=false)->s.err=0->g.length+1<=16->Dv L (g++[s]) (hs.map (Fm.up 0 1)) a f m->Hg g (.mk k' s [] [f])->Dv L g hs (.mk k 0 s [] [] [a]) (.mk k' s [] [f]) (fin (.mk k' s [] [f]) (m/2))|KX {g hs k k' t s a x m u}:(k=9/\k'=4/\u=m|||jZ t\/k=13/\k'=6/\u=m)->dd g t s->t.err=0->Dv L g hs a (.mk k' s [] [x]) m->Hg (g++[s]) x->(Fm.ei 0 x t).afq<=4096->Dv L g hs (.mk k 0 .z [t] [] [a]) (Fm.ei 0 x t) (fin (Fm.ei 0 x t) u)|ex {g hs k k' t s a x f m u}:(k=10/\k'=5/\u=m|||jZ t\/k=14/\k'=7/\u=m)->Hg g (.mk k' s [] [x])->dd g t s->t.err=0->Hg (g++[s]) x->Dv L g hs a f m->Hg g f->(Fm.ei 0 x t).afq<=4096->(Fm.ei 0 x t).tC f=0->Dv L g hs (.mk k 0 .z [t] [.mk k' s [] [x]] [a]) (.mk k' s [] [x]) (fin (.mk k' s [] [x]) u)|KW {g hs k k' s a b x f m n}:(k=11/\k'=5\/k=15/\k'=7/\n.testBit 0=false)->Dv L g hs a (.mk k' s [] [x]) m->s.err=0->g.length+1<=16->hs.length+1<=16->Hg (g++[s]) x->Dv L (g++[s]) (hs.map (Fm.up 0 1)++[x]) b f n->Hg (g++[s]) f->(ox f).2=0->Hg g (ox f).1->Dv L g hs (.mk k 0 .z [] [] [a,b]) (ox f).1 (fin (ox f).1 (m|||n/2))|ind {g hs t F a b x y m n}:Hg (g++[.nat]) F->dd g t .nat->t.err=0->Dv L g hs a x m->Hg g x->(Fm.ei 0 F k_).afq<=4096->(Fm.ei 0 F k_).tC x=0->g.length+1<=16->hs.length+1<=16->Dv L (g++[.nat]) (hs.map (Fm.up 0 1)++[F]) b y n->Hg (g++[.nat]) y->(Fm.ei 0 (F.up 1 1) (fA v0)).afq<=4096->(Fm.ei 0 (F.up 1 1) (fA v0)).tC y=0->(Fm.ei 0 F t).afq<=4096->Dv L g hs (.mk 16 0 .z [t] [F] [a,b]) (Fm.ei 0 F t) (fin (Fm.ei 0 F t) ((jZ t|||m)|||n/2))|lists {g hs t F a b x y m n}:Hg (g++[.hS]) F->dd g t .hS->t.err=0->Dv L g hs a x m->Hg g x->(Fm.ei 0 F (.mk 7 0 .z [])).afq<=4096->(Fm.ei 0 F (.mk 7 0 .z [])).tC x=0->g.length+2<=16->hs.length+1<=16->Dv L (g++[.nat]++[.hS]) (hs.map (Fm.up 0 2)++[F.up 1 1]) b y n->Hg (g++[.nat]++[.hS]) y->(Fm.ei 0 (F.up 1 2) (.mk 8 0 .z [v1,v0])).afq<=4096->(Fm.ei 0 (F.up 1 2) (.mk 8 0 .z [v1,v0])).tC y=0->(Fm.ei 0 F t).afq<=4096->Dv L g hs (.mk 17 0 .z [t] [F] [a,b]) (Fm.ei 0 F t) (fin (Fm.ei 0 F t) ((jZ t|||m)|||n/4))|refl {g hs t}:dd g t .nat->t.err=0->Hg g (.mk 1 .z [t,t] [])->Dv L g hs (.mk 18 0 .z [t] [] []) (.mk 1 .z [t,t] []) 0|subst {g hs F a b t u f m n}:Hg (g++[.nat]) F->Dv L g hs a (.mk 1 .z [t,u] []) m->dd g t .nat->dd g u .nat->t.err=0->u.err=0->Dv L g hs b f n->Hg g f->(Fm.ei 0 F t).afq<=4096->(Fm.ei 0 F t).tC f=0->(Fm.ei 0 F u).afq<=4096->Dv L g hs (.mk 19 0 .z [] [F] [a,b]) (Fm.ei 0 F u) (fin (Fm.ei 0 F u) n)|choice {g hs a s u y m}:Dv L g hs a (.mk 4 s [] [.mk 5 u [] [y]]) m->s.err=0->u.err=0->Hg (g++[s]++[u]) y->(Ty.fn s u).err=0->(Fm.ei 0 (y.up 2 1) (eS v1 v0)).afq<=4096->Hg g (.mk 5 (.fn s u) [] [.mk 4 s [] [Fm.ei 0 (y.up 2 1) (eS v1 v0)]])->Dv L g hs (.mk 20 0 .z [] [] [a]) (.mk 5 (.fn s u) [] [.mk 4 s [] [Fm.ei 0 (y.up 2 1) (eS v1 v0)]]) (fin (.mk 5 (.fn s u) [] [.mk 4 s [] [Fm.ei 0 (y.up 2 1) (eS v1 v0)]]) m)
def rL(f:Fm):fin f 0=0:=by grind[fin]
def tS{g c:List Ty}{a b:Fm}(d:Hg g a)(e:Hg c b)(f:g.length<=1000000)(i:c.length<=1000000)(h:p9 a b=0):a.tC b=0:=by grind[zF]
def mL{g:List Ty}{s:Ty}{F:Fm}{t:Tm}(hF:eX (g++[s]) F)(a:dd g t s)(hn:(Fm.ei 0 F t).afq<=4096):Hg g (Fm.ei 0 F t):=⟨Fm.kT (hF.put a).ok hn,hF.put a⟩
def Hg.GQ{g:List Ty}{F:Fm}(h:Hg (g++[.nat]) F):Hg (g++[.nat]++[.nat]) (F.up 1 1):=⟨tG h.err Zb Zb,by have:=h.ty.up g [.nat] [.nat] rfl;simpa using this⟩
def Hg.G_{g:List Ty}{F:Fm}(h:Hg (g++[.hS]) F):Hg (g++[.nat]++[.hS]++[.hS]) (F.up 1 2):=⟨tG h.err Zb Zb,by have:=h.ty.up g [.hS] [.nat,.hS] rfl;simpa using this⟩
def Hg.U5{g:List Ty}{F:Fm}(h:Hg (g++[.hS]) F):Hg (g++[.nat]++[.hS]) (F.up 1 1):=⟨tG h.err Zb Zb,by have:=h.ty.up g [.hS] [.nat] rfl;simpa using this⟩
def qY.nC{L:List Fm}{g:List Ty}{hs:List Fm}(h:qY L ⟨g,hs⟩){s:Ty}(a:s.err=0)(hn:g.length+1<=16):qY L ⟨g++[s],hs.map (Fm.up 0 1)⟩:=h.below (l:=[s]) (λx b=>by rw[qn.1 b];exact a) hn
def qY.DZ{L:List Fm}{g:List Ty}{hs:List Fm}(h:qY L ⟨g,hs⟩)(hn:g.length+2<=16):qY L ⟨g++[.nat]++[.hS],hs.map (Fm.up 0 2)⟩:=by
 have:=h.below (l:=[.nat,.hS]) (λx hx=>by
  rcases gT.1 hx with rfl|hx
  ·exact Ty.ek
  ·rw[qn.1 hx];exact Ty.jD) hn
 grind
def rW{F:Fm}(hF:F.err=0){g:List Ty}(a:fh g)(h:F.nI g=0):Hg g F:=⟨hF,lx F (Fm.ey hF).1 g a h⟩
def Dv.of{L:List Fm}{P:Pf}(hP:rN P):∀(g:List Ty) (hs:List Fm) (f:Fm) (m:Nat),qY L ⟨g,hs⟩->P.inf L g hs=.inl (f,m)->Dv L g hs P f m/\Hg g f:=by
 induction hP with
 |@hyp i hi=>
  intro g hs f m d h;have D:fh g:=d.ctx;rw[Pf.fk,I8] at h;obtain⟨J,o,he,c⟩:=gf h;rw[c];clear h c;have h:=o;clear o;obtain⟨j,E⟩:=iT h;obtain⟨T,rfl⟩:=fa (px E)
  have N:hs.length-1-i.toNat<hs.length:=Zb
  rw[F3,mr N] at T;have T:hs[hs.length-1-i.toNat]=f:=T;have A:Hg g f:=d.afv f (by rw[<-T];exact zf N);rw[rL];exact⟨.hyp hi Zb (by rw[mr N,T]) A,A⟩
 |@zl i hi=>
  intro g hs f m d h;have D:fh g:=d.ctx;rw[Pf.fk,IB] at h;obtain⟨J,o,he,c⟩:=gf h;rw[c];clear h c;have h:=o;clear o;obtain⟨j,E⟩:=iT h;obtain⟨T,rfl⟩:=fa (px E)
  have N:i.toNat<L.length:=Zb
  rw[F3,mr N] at T;have T:L[i.toNat]=f:=T;have A:Hg [] f:=d.zl f (by rw[<-T];exact zf N);rw[rL];exact⟨.zl hi (by rw[mr N,T]) A,he,by simpa using A.ty.front g⟩
 |@Dx a b _ _ l G=>
  intro g hs f m d h;have D:fh g:=d.ctx;rw[Pf.fk,EF] at h;obtain⟨J,o,he,c⟩:=gf h;rw[c];clear h c;have h:=o;clear o;obtain⟨x,n1,j,h⟩:=eR h;obtain⟨y,n2,E,h⟩:=eR h;obtain⟨rfl,rfl⟩:=fa (px h);obtain⟨B,v⟩:=l g hs x n1 d j;obtain⟨R,tb⟩:=G g hs y n2 d E;have A:Hg g (.mk 2 .z [] [x,y]):=⟨he,.two (.inl rfl) v.ty tb.ty⟩;exact⟨.Dx B R A,A⟩
 |@and k a w _ l=>
  intro g hs f m d h;have D:fh g:=d.ctx;rcases w with rfl|rfl
  ·rw[Pf.fk,E0] at h;obtain⟨J,o,he,c⟩:=gf h;rw[c];clear h c;have h:=o;clear o;obtain⟨x,n1,j,h⟩:=eR h;obtain⟨j,w⟩:=oW j;obtain⟨rfl,rfl⟩:=fa (px h);obtain⟨B,v⟩:=l g hs x n1 d j;obtain⟨x,y,rfl,O,hy⟩:=v.ty.yk w (.inl rfl);exact⟨.NY B ⟨he,O⟩,he,O⟩
  ·rw[Pf.fk,Em] at h;obtain⟨J,o,he,c⟩:=gf h;rw[c];clear h c;have h:=o;clear o;obtain⟨x,n1,j,h⟩:=eR h;obtain⟨j,w⟩:=oW j;obtain⟨rfl,rfl⟩:=fa (px h);obtain⟨B,v⟩:=l g hs x n1 d j;obtain⟨x,y,rfl,O,hy⟩:=v.ty.yk w (.inl rfl);exact⟨.N7 B ⟨he,hy⟩,he,hy⟩
 |@DF F a hF _ l=>
  intro g hs f m d h;have D:fh g:=d.ctx;rw[Pf.fk,ED] at h;obtain⟨J,o,he,c⟩:=gf h;rw[c];clear h c;have h:=o;clear o;obtain⟨I,h⟩:=gD h;obtain⟨hn,h⟩:=iT h;obtain⟨y,n1,j,h⟩:=eR h;obtain⟨rfl,rfl⟩:=fa (px h);have p:=rW hF D I;obtain⟨B,v⟩:=l g _ y n1 (d.with p (by show hs.length+1<=16;omega)) j;have A:Hg g (.mk 3 .z [] [F,y]):=⟨he,.two (.inr rfl) p.ty v.ty⟩;exact⟨.DF p Zb B A,A⟩
 |@DC a b _ _ l G=>
  intro g hs f m d h;have D:fh g:=d.ctx;have S:=d.nv;have S:g.length<=16:=S;rw[Pf.fk,DT] at h;obtain⟨J,o,he,c⟩:=gf h;rw[c];clear h c;have h:=o;clear o;obtain⟨x,n1,j,h⟩:=eR h;obtain⟨j,w⟩:=oW j;obtain⟨z,n2,E,h⟩:=eR h;obtain⟨hm,h⟩:=gD h;obtain⟨rfl,rfl⟩:=fa (px h);obtain⟨B,v⟩:=l g hs x n1 d j;obtain⟨R,tb⟩:=G g hs z n2 d E;obtain⟨x,y,rfl,O,hy⟩:=v.ty.yk w (.inr rfl);have C:=v.sub (x:=x) aae O;exact⟨.DC B R C tb (tS C tb Zb Zb hm) ⟨he,hy⟩,he,hy⟩
 |@all k s a w r _ l=>
  intro g hs f m d h;have D:fh g:=d.ctx;rcases w with rfl|rfl
  ·rw[Pf.fk,v8] at h;obtain⟨J,o,he,c⟩:=gf h;rw[c];clear h c;have h:=o;clear o;obtain⟨hn,h⟩:=iT h;obtain⟨x,n1,j,h⟩:=eR h;obtain⟨rfl,rfl⟩:=fa (px h);obtain⟨B,v⟩:=l _ _ x n1 (d.nC r Zb) j;have A:Hg g (.mk 4 s [] [x]):=⟨he,.q (.inl rfl) r v.ty⟩;exact⟨.all (.inl ⟨rfl,rfl⟩) r Zb B A,A⟩
  ·rw[Pf.fk,uZ] at h;obtain⟨J,o,he,c⟩:=gf h;rw[c];clear h c;have h:=o;clear o;obtain⟨hn,h⟩:=iT h;obtain⟨x,n1,j,h⟩:=eR h;obtain⟨hb,h⟩:=iT h;obtain⟨rfl,rfl⟩:=fa (px h);obtain⟨B,v⟩:=l _ _ x n1 (d.nC r Zb) j;have A:Hg g (.mk 6 s [] [x]):=⟨he,.q (.inr (.inr (.inl rfl))) r v.ty⟩;exact⟨.all (.inr ⟨rfl,rfl,by simpa using hb⟩) r Zb B A,A⟩
 |@KX k t a w I _ l=>
  intro g hs f m d h;have D:fh g:=d.ctx
  have key:∀(k':Int) (f:Fm) (m:Nat),(k'=4\/k'=6)->∀u:Nat->Nat,(fW (t.ty g).2 (pbind (vt (a.inf L g hs) k') λa m=>mX ((t.ty g).1.fX a.cW=false) 7 (fW (gH (a.afp.getD 0 eA) t).2 (.inl ((gH (a.afp.getD 0 eA) t).1,u m)))))=.inl (f,m)->∃s x n,dd g t s/\Dv L g hs a (.mk k' s [] [x]) n/\Hg (g++[s]) x/\(Fm.ei 0 x t).afq<=4096/\f=Fm.ei 0 x t/\m=u n:=by
   intro k' f m ah u h;obtain⟨ad,h⟩:=gD h;obtain⟨x,n1,j,h⟩:=eR h;obtain⟨j,w⟩:=oW j;obtain⟨U,h⟩:=iT h;obtain⟨X,h⟩:=gD h;obtain⟨rfl,rfl⟩:=fa (px h);obtain⟨B,v⟩:=l g hs x n1 d j;obtain⟨s,y,rfl,r,hy⟩:=v.ty.nV w Zb;have ae:=v.sub (x:=y) aae hy;obtain⟨V,K⟩:=p6 X;rcases n9 I D with⟨e,he,q1,_⟩|⟨s1,q1,M,ai⟩
   ·exact absurd (q1.symm.trans ad) he
   ·have q1:t.ty g=(s1,0):=q1;rw[q1] at U;have:s1=s:=(Ty.gi _ _).1 (by simpa using U);subst this;have V:gH y t=(Fm.ei 0 y t,0):=V;refine⟨s1,y,n1,M,B,ae,K,?_,rfl⟩;show(gH y t).1=_;rw[V]
  rcases w with rfl|rfl
  ·rw[Pf.fk,JO] at h;obtain⟨J,o,he,c⟩:=gf h;rw[c];clear h c;have h:=o;clear o;obtain⟨s,x,n,q1,q2,Y,Z,rfl,rfl⟩:=key 4 _ _ (.inl rfl) (λm=>m|||jZ t) h;exact⟨.KX (.inl ⟨rfl,rfl,rfl⟩) q1 I q2 Y Z,mL Y.ty q1 Z⟩
  ·rw[Pf.fk,EM] at h;obtain⟨J,o,he,c⟩:=gf h;rw[c];obtain⟨s,x,n,q1,q2,Y,Z,rfl,rfl⟩:=key 6 _ _ (.inr rfl) (λm=>m) o;exact⟨.KX (.inr ⟨rfl,rfl,rfl⟩) q1 I q2 Y Z,mL Y.ty q1 Z⟩
 |@ex k t F a w I hF _ l=>
  intro g hs f m d h;have D:fh g:=d.ctx;have S:g.length<=16:=d.nv
  have key:∀(k':Int) (f:Fm) (m:Nat),(k'=5\/k'=7)->∀u:Nat->Nat,(fW (F.nI g) (mX (F.afo≠k') 10 (fW (t.ty g).2 (mX ((t.ty g).1.fX F.cW=false) 7 (pbind (tK (a.inf L g hs) (F.afp.getD 0 eA) t) λ_ m=>.inl (F,u m))))))=.inl (f,m)->∃s x y n,F=.mk k' s [] [x]/\Hg g F/\dd g t s/\Hg (g++[s]) x/\Dv L g hs a y n/\Hg g y/\(Fm.ei 0 x t).afq<=4096/\(Fm.ei 0 x t).tC y=0/\f=F/\m=u n:=by
   intro k' f m ah u h;obtain⟨M,h⟩:=gD h;obtain⟨w,h⟩:=iT h;obtain⟨ad,h⟩:=gD h;obtain⟨U,h⟩:=iT h;obtain⟨y,n,j,h⟩:=eR h;obtain⟨rfl,rfl⟩:=fa (px h);have p:=rW hF D M;obtain⟨s,x,rfl,r,O⟩:=p.ty.nV (nN.1 w) Zb;have C:=p.sub (x:=x) aae O;obtain⟨j,K,hm⟩:=sl j;obtain⟨B,v⟩:=l g hs y n d j;rcases n9 I D with⟨e,he,q1,_⟩|⟨s1,q1,ab,ai⟩
   ·exact absurd (q1.symm.trans ad) he
   ·rw[q1] at U;have:s1=s:=(Ty.gi _ _).1 (by simpa using U);subst this;exact⟨s1,x,y,n,rfl,p,ab,C,B,v,K,tS (mL O ab K) v Zb Zb hm,rfl,rfl⟩
  rcases w with rfl|rfl
  ·rw[Pf.fk,Eo] at h;obtain⟨J,o,he,c⟩:=gf h;rw[c];obtain⟨s,x,y,n,rfl,q1,q2,Y,Z,q5,q6,q7,rfl,rfl⟩:=key 5 _ _ (.inl rfl) (λm=>m|||jZ t) o;exact⟨.ex (.inl ⟨rfl,rfl,rfl⟩) q1 q2 I Y Z q5 q6 q7,q1⟩
  ·rw[Pf.fk,Er] at h;obtain⟨J,o,he,c⟩:=gf h;rw[c];obtain⟨s,x,y,n,rfl,q1,q2,Y,Z,q5,q6,q7,rfl,rfl⟩:=key 7 _ _ (.inr rfl) (λm=>m) o;exact⟨.ex (.inr ⟨rfl,rfl,rfl⟩) q1 q2 I Y Z q5 q6 q7,q1⟩
 |@KW k a b w _ _ l G=>
  intro g hs f m d h;have D:fh g:=d.ctx;have S:g.length<=16:=d.nv;rcases w with rfl|rfl
  ·rw[Pf.fk,pK] at h;obtain⟨J,o,he,c⟩:=gf h;rw[c];clear h c;obtain⟨x,n1,j,h⟩:=eR o;obtain⟨j,w⟩:=oW j;obtain⟨hn,h⟩:=iT h;obtain⟨y,n2,E,h⟩:=eR h;obtain⟨hw,h⟩:=gD h;obtain⟨rfl,rfl⟩:=fa (px h);obtain⟨B,v⟩:=l g hs x n1 d j;obtain⟨s,x,rfl,r,O⟩:=v.ty.nV w (.inr (.inl rfl));have C:=v.sub (x:=x) aae O;have Q:=(d.nC r Zb).with (f:=x) C (by show(hs.map (Fm.up 0 1)).length+1<=16;simp;omega);obtain⟨R,tb⟩:=G _ _ y n2 Q E;have A:Hg g (ox y).1:=⟨he,(yR tb Zb r hw).1⟩;exact⟨.KW (.inl ⟨rfl,rfl⟩) B r Zb Zb C R tb hw A,A⟩
  ·rw[Pf.fk,pI] at h;obtain⟨J,o,he,c⟩:=gf h;rw[c];clear h c;obtain⟨x,n1,j,h⟩:=eR o;obtain⟨j,w⟩:=oW j;obtain⟨hn,h⟩:=iT h;obtain⟨y,n2,E,h⟩:=eR h;obtain⟨hw,h⟩:=gD h;obtain⟨hb,h⟩:=iT h;obtain⟨rfl,rfl⟩:=fa (px h);obtain⟨B,v⟩:=l g hs x n1 d j;obtain⟨s,x,rfl,r,O⟩:=v.ty.nV w (.inr (.inr (.inr rfl)));have C:=v.sub (x:=x) aae O;have Q:=(d.nC r Zb).with (f:=x) C (by show(hs.map (Fm.up 0 1)).length+1<=16;simp;omega);obtain⟨R,tb⟩:=G _ _ y n2 Q E;have A:Hg g (ox y).1:=⟨he,(yR tb Zb r hw).1⟩;exact⟨.KW (.inr ⟨rfl,rfl,by simpa using hb⟩) B r Zb Zb C R tb hw A,A⟩
 |@ind k t F a b w I hF _ _ l G=>
  intro g hs f m d h;have D:fh g:=d.ctx;have S:g.length<=16:=d.nv;rcases w with rfl|rfl
  ·rw[Pf.fk,Bk] at h;obtain⟨J,o,he,c⟩:=gf h;rw[c];clear h c;obtain⟨M,h⟩:=gD o;obtain⟨w,h⟩:=gD h;obtain⟨x,n1,j,h⟩:=eR h;obtain⟨hn,h⟩:=iT h;obtain⟨y,n2,E,h⟩:=eR h;obtain⟨X,h⟩:=gD h;obtain⟨V,K⟩:=p6 X;rw[V] at h;obtain⟨rfl,rfl⟩:=fa (px h);have p:=rW hF D.nat M;have H:dd g t .nat:=se D I (.inl rfl) w;obtain⟨j,a2,a3⟩:=sl j;obtain⟨E,W,b3⟩:=sl E;obtain⟨B,v⟩:=l g hs x n1 d j;have Q:=(d.nC Ty.ek Zb).with (f:=F) p (by show(hs.map (Fm.up 0 1)).length+1<=16;simp;omega);obtain⟨R,tb⟩:=G _ _ y n2 Q E;have hz:=mL p.ty (t:=k_) .zero a2;have af:=mL (Hg.GQ p).ty (t:=fA v0) (.succ kK) W;have A:Hg g (Fm.ei 0 F t):=mL p.ty H K;exact⟨.ind p H I B v a2 (tS hz v Zb Zb a3) Zb Zb R tb W (tS af tb aaV aaV b3) K,A⟩
  ·rw[Pf.fk,Bv] at h;obtain⟨J,o,he,c⟩:=gf h;rw[c];clear h c;obtain⟨M,h⟩:=gD o;obtain⟨w,h⟩:=gD h;obtain⟨x,n1,j,h⟩:=eR h;obtain⟨hn,h⟩:=iT h;obtain⟨y,n2,E,h⟩:=eR h;obtain⟨X,h⟩:=gD h;obtain⟨V,K⟩:=p6 X;rw[V] at h;obtain⟨rfl,rfl⟩:=fa (px h);have p:=rW hF D.hS M;have H:dd g t .hS:=se D I (.inr rfl) w;obtain⟨j,a2,a3⟩:=sl j;obtain⟨E,W,b3⟩:=sl E;obtain⟨B,v⟩:=l g hs x n1 d j;have Q:=(d.DZ Zb).with (f:=F.up 1 1) (Hg.U5 p) (by show(hs.map (Fm.up 0 2)).length+1<=16;simp;omega);obtain⟨R,tb⟩:=G _ _ y n2 Q E;have hz:=mL p.ty (t:=.mk 7 0 .z []) .nil a2;have af:=mL (Hg.G_ p).ty (t:=.mk 8 0 .z [v1,v0]) (.cons rP kK) W;have A:Hg g (Fm.ei 0 F t):=mL p.ty H K;exact⟨.lists p H I B v a2 (tS hz v Zb Zb a3) Zb Zb R tb W (tS af tb aaV aaV b3) K,A⟩
 |@refl t I=>
  intro g hs f m d h;have D:fh g:=d.ctx;rw[Pf.fk,Be] at h;obtain⟨J,o,he,c⟩:=gf h;rw[c];clear h c;obtain⟨w,h⟩:=gD o;obtain⟨rfl,rfl⟩:=fa (px h);have H:dd g t .nat:=se D I (.inl rfl) w;rw[rL];exact⟨.refl H I ⟨he,.eq H H⟩,he,.eq H H⟩
 |@subst F a b hF _ _ l G=>
  intro g hs f m d h;have D:fh g:=d.ctx;have S:g.length<=16:=d.nv;rw[Pf.fk,A0] at h;obtain⟨J,o,he,c⟩:=gf h;rw[c];clear h c;obtain⟨M,h⟩:=gD o;obtain⟨x,n1,j,h⟩:=eR h;obtain⟨j,w⟩:=oW j;obtain⟨y,n2,E,h⟩:=eR h;obtain⟨X,h⟩:=gD h;obtain⟨V,K⟩:=p6 X;rw[V] at h;obtain⟨rfl,rfl⟩:=fa (px h);have p:=rW hF D.nat M;obtain⟨B,v⟩:=l g hs x n1 d j;obtain⟨t,u,rfl,I,hu⟩:=v.ty.Ix w;have hn:=v.afq;rw[Fm.cK] at hn;simp only[cN] at hn;obtain⟨E,W,b3⟩:=sl E;obtain⟨R,tb⟩:=G g hs y n2 d E;have W:(Fm.ei 0 F t).afq<=4096:=W;have b3:p9 (Fm.ei 0 F t) y=0:=b3;have K:(Fm.ei 0 F u).afq<=4096:=K;have A:Hg g (Fm.ei 0 F u):=mL p.ty hu K;show Dv L g hs _ (Fm.ei 0 F u) (fin (Fm.ei 0 F u) n2)/\Hg g (Fm.ei 0 F u);exact⟨.subst p B I hu (Tm.kT I.ok Zb) (Tm.kT hu.ok Zb) R tb W (tS (mL p.ty I W) tb Zb Zb b3) K,A⟩
 |@choice a _ l=>
  intro g hs f m d h;have D:fh g:=d.ctx;rw[Pf.fk,yo] at h;obtain⟨J,o,he,c⟩:=gf h;rw[c];clear h c;obtain⟨x,n1,j,h⟩:=eR o;obtain⟨j,w⟩:=oW j;obtain⟨h5,h⟩:=iT h;obtain⟨aa,h⟩:=iT h;obtain⟨X,h⟩:=iT h;obtain⟨V,K⟩:=p6 (nN.1 X);rw[V] at h;obtain⟨rfl,rfl⟩:=fa (px h);obtain⟨B,v⟩:=l g hs x n1 d j;obtain⟨s,x,rfl,r,O⟩:=v.ty.nV w (.inl rfl);have C:=v.sub (x:=x) aae O;obtain⟨u,y,rfl,ak,hy⟩:=O.nV (nN.1 h5) (.inr (.inl rfl));have ae:=C.sub (x:=y) aae hy;have K:(Fm.ei 0 (y.up 2 1) (eS v1 v0)).afq<=4096:=K;have aa:(Ty.fn s u).err=0:=nN.1 aa
  have an:eX (g++[.fn s u]++[s]++[u]) (y.up 2 1):=by
   have:=hy.up g [s,u] [.fn s u] aae;simpa using this
  have ao:dd (g++[.fn s u]++[s]) (eS v1 v0) u:=.app rP kK;have A:Hg g (.mk 5 (.fn s u) [] [.mk 4 s [] [Fm.ei 0 (y.up 2 1) (eS v1 v0)]]):=⟨he,.q (.inr (.inl rfl)) aa (.q (.inl rfl) r (an.put ao))⟩;exact⟨.choice B r ak ae aa K A,A⟩
def EV(t:Tm):∀f b v:Int,0<=f->0<=b->f+b<=v->(t.up f b).afw v=t.afw (v-b):=by
 induction t using Tm.ind with
 |h k i s l e=>
  intro f b v m g n;have o:=eN k;rw[Tm.dV,Tm.dp,Tm.dp,gx]
  congr 1
  ·by_cases a:k=1
   ·subst a;simp only[ry]
    by_cases c:f<=i
    ·rw[cL c]
     by_cases d:i+b=v
     ·rw[cL d,cL Zb]
     ·rw[cJ d,cJ Zb]
    ·rw[cJ c,cJ Zb,cJ Zb]
   ·simp only[a,xZ,jm]
  ·refine ig λx j=>?_;rw[e x j (f+dr k) b (v+dr k) Zb g Zb,show v+dr k-b=v-b+dr k by omega]
def CQ{α:Type}(f g:α->Nat)(c:Nat):∀l:List α,cN (λx=>f x+g x*c) l=cN f l+cN g l*c
 |[]=>by simp[cN]|x::l=>by
  simp only[cN];rw[CQ f g c l,zy];omega
def Gl(a t:Tm):∀n v:Int,t.ok=true->0<=n->n<=v->(Tm.ei n t a).afw v=t.afw (v+1)+t.afw n*a.afw (v-n):=by
 induction t using Tm.ind with
 |h k i s l j=>
  intro n v d hn m;have o:=eN k
  by_cases c:k=1
  ·subst c;obtain⟨rfl,rfl⟩:=xF d;rw[Tm.dQ,cL rfl];unfold Tm.jO;rw[Tm.dp,Tm.dp];simp only[ry,cN,oH]
   by_cases b:i=n
   ·rw[cL b,cJ (show¬i=v+1 by omega),cL b,EV a 0 n v Zb hn Zb];omega
   ·rw[cJ b,cJ b]
    by_cases e:n<i
    ·rw[cL e,Tm.dp];simp only[ry,cN,oH]
     by_cases f:i=v+1
     ·rw[cL f,cL Zb];omega
     ·rw[cJ f,cJ Zb];omega
    ·rw[cJ e,Tm.dp];simp only[ry,cN,oH];rw[cJ Zb,cJ Zb];omega
  ·rw[Tm.dQ,cJ c,Tm.dp,Tm.dp,Tm.dp,gx];simp only[c,xZ,jm,sZ];rw[<-CQ];refine ig λx g=>?_;rw[j x g (n+dr k) (v+dr k) (Tm.c9 d x g) Zb Zb,show v+dr k-(n+dr k)=v-n by omega,show v+dr k+1=v+1+dr k by omega]
def CT{α:Type}{f:α->Nat}:∀{l:List α},0<cN f l->∃x∈l,0<f x
 |[],h=>by simp[cN] at h
 |x::l,h=>by
  simp only[cN] at h
  by_cases a:0<f x
  ·exact⟨x,aae,a⟩
  ·obtain⟨y,hy,b⟩:=CT (f:=f) (l:=l) Zb;exact⟨y,by simp[hy],b⟩
def Tm.In(t:Tm)(v:Int):Prop:=0<t.afw v
def hV{k i:Int}{s:Ty}{l:List Tm}{x:Tm}{v:Int}(a:dr k=0)(b:x∈l)(h:x.In v):(Tm.mk k i s l).In v:=by
 unfold Tm.In at*;rw[Tm.dp,a,ka];have:=cV (Tm.afw v) b;omega
def tD{k i:Int}{s:Ty}{l:List Tm}{v:Int}(a:k≠1)(b:dr k=0)(h:(Tm.mk k i s l).In v):∃x∈l,x.In v:=by
 unfold Tm.In at*;rw[Tm.dp,b,ka,cJ (λh=>a h.1),sZ] at h;exact CT h
def yn{t:Tm}{v:Int}(l:t.ok=true)(o:t.root=true)(q:0<=v)(h:t.dm.In v):t.In v:=by
 cases Tm.wE l o with
 |@app i s j u b a=>
  rw[show(Tm.mk 3 i s [.mk 2 j u [b],a]).dm=Tm.ei 0 b a by simp[Tm.dm]] at h;unfold Tm.In at h;rw[Gl a b 0 v (Tm.c9 (Tm.c9 l (.mk 2 j u [b]) aae) b aae) Zb q,RR] at h
  by_cases f:0<b.afw (v+1)
  ·refine hV rfl (x:=.mk 2 j u [b]) aae ?_;unfold Tm.In;rw[Tm.dp];simp only[cN,show dr 2=1 from rfl];omega
  ·have d:0<a.afw v:=by
    rcases Yc (a.afw v)with h0|h0
    ·rw[h0,Z9] at h;omega
    ·exact h0
   exact hV rfl (x:=a) aae d
 |@zero k r i s j u b st g=>
  rcases g with⟨rfl,rfl⟩|⟨rfl,rfl⟩
  ·rw[show(Tm.mk 6 i s [b,st,.mk 4 j u []]).dm=b by simp[Tm.dm]] at h;exact hV rfl aae h
  ·rw[show(Tm.mk 9 i s [b,st,.mk 7 j u []]).dm=b by simp[Tm.dm]] at h;exact hV rfl aae h
 |@succ i s j u b st n=>
  rw[show(Tm.mk 6 i s [b,st,.mk 5 j u [n]]).dm=.mk 3 0 (.mk 0 []) [.mk 3 0 (.mk 0 []) [st,n],.mk 6 i s [b,st,n]] by simp[Tm.dm,gA]] at h
  have key:∀x,(x=b\/x=st\/x=n)->x.In v->(Tm.mk 6 i s [b,st,.mk 5 j u [n]]).In v:=by
   intro x c e;rcases c with rfl|rfl|rfl
   ·exact hV rfl (x:=x) aae e
   ·exact hV rfl (x:=x) aae e
   ·exact hV rfl (x:=.mk 5 j u [x]) aae (hV rfl aae e)
  obtain⟨x,c,f⟩:=tD Zk rfl h;simp only[gT,lZ,kv] at c;rcases c with rfl|rfl
  ·obtain⟨x,c,d⟩:=tD Zk rfl f;simp only[gT,lZ,kv] at c;exact key x (.inr c) d
  ·obtain⟨x,c,d⟩:=tD Zk rfl f;simp only[gT,lZ,kv] at c;exact key x c d
 |@cons i s j u b st p n=>
  rw[show(Tm.mk 9 i s [b,st,.mk 8 j u [p,n]]).dm=.mk 3 0 (.mk 0 []) [.mk 3 0 (.mk 0 []) [.mk 3 0 (.mk 0 []) [st,p],n],.mk 9 i s [b,st,n]] by simp[Tm.dm,gA]] at h
  have key:∀x,(x=b\/x=st\/x=p\/x=n)->x.In v->(Tm.mk 9 i s [b,st,.mk 8 j u [p,n]]).In v:=by
   intro x c e;rcases c with rfl|rfl|rfl|rfl
   ·exact hV rfl (x:=x) aae e
   ·exact hV rfl (x:=x) aae e
   ·exact hV rfl (x:=.mk 8 j u [x,n]) aae (hV rfl aae e)
   ·exact hV rfl (x:=.mk 8 j u [p,x]) aae (hV rfl aae e)
  obtain⟨x,c,f⟩:=tD Zk rfl h;simp only[gT,lZ,kv] at c;rcases c with rfl|rfl
  ·obtain⟨x,c,d⟩:=tD Zk rfl f;simp only[gT,lZ,kv] at c;rcases c with rfl|rfl
   ·obtain⟨x,c,m⟩:=tD Zk rfl d;simp only[gT,lZ,kv] at c;rcases c with rfl|rfl
    ·exact key _ (.inr (.inl rfl)) m
    ·exact key _ (.inr (.inr (.inl rfl))) m
   ·exact key _ (.inr (.inr (.inr rfl))) d
  ·obtain⟨x,c,d⟩:=tD Zk rfl f;simp only[gT,lZ,kv] at c;rcases c with rfl|rfl|rfl
   ·exact key _ (.inl rfl) d
   ·exact key _ (.inr (.inl rfl)) d
   ·exact key _ (.inr (.inr (.inr rfl))) d
 |@proj k i s j u a b g=>
  rcases g with rfl|rfl
  ·rw[show(Tm.mk 11 i s [.mk 10 j u [a,b]]).dm=a by simp[Tm.dm]] at h;exact hV rfl (x:=.mk 10 j u [a,b]) aae (hV rfl aae h)
  ·rw[show(Tm.mk 12 i s [.mk 10 j u [a,b]]).dm=b by simp[Tm.dm]] at h;exact hV rfl (x:=.mk 10 j u [a,b]) aae (hV rfl aae h)
def MH(t:Tm):∀f b v:Int,0<=b->v<f->(t.up f b).afw v=t.afw v:=by
 induction t using Tm.ind with
 |h k i s l d=>
  intro f b v e j;rw[Tm.dV,Tm.dp,Tm.dp,gx]
  congr 1
  ·by_cases a:k=1
   ·subst a;simp only[ry]
    by_cases c:f<=i
    ·rw[cL c,cJ Zb,cJ Zb]
    ·rw[cJ c]
   ·simp only[a,xZ,jm]
  ·exact ig λx g=>d x g (f+dr k) b (v+dr k) e Zb
def sC(t:Tm):∀f b v:Int,f<=v->v<f+b->(t.up f b).afw v=0:=by
 induction t using Tm.ind with
 |h k i s l d=>
  intro f b v g j;rw[Tm.dV,Tm.dp,gx,su λx e=>d x e (f+dr k) b (v+dr k) Zb Zb]
  by_cases a:k=1
  ·subst a;simp only[ry]
   by_cases c:f<=i
   ·rw[cL c,cJ Zb]
   ·rw[cJ c,cJ Zb]
  ·simp only[a,xZ,jm]
def sA{k i:Int}{s:Ty}{l m:List Tm}(v:Int)(h:0<cN (Tm.afw (v+dr k)) m->0<cN (Tm.afw (v+dr k)) l)(a:(Tm.mk k i s m).In v):(Tm.mk k i s l).In v:=by
 unfold Tm.In at*;rw[Tm.dp] at a|-
 by_cases b:0<cN (Tm.afw (v+dr k)) m
 ·have:=h b;omega
 ·omega
def iB.In{t u:Tm}(h:iB t u):t.ok=true->∀v:Int,0<=v->u.In v->t.In v:=by
 induction h with
 |n0=>intro _ _ _ h;exact h|@n1 k i s a y z g=>
  intro d v f h;refine sA v (λl=>?_) h;have:=g (Tm.c9 d _ aae) (v+dr k) (by have:=eN k;omega);unfold Tm.In at this;simp only[cN] at l|-;omega
 |@n2 k i s a y b o z p g e=>
  intro d v f h;refine sA v (λl=>?_) h;have D:=g (Tm.c9 d _ aae) (v+dr k) (by have:=eN k;omega);have q:=e (Tm.c9 d _ aae) (v+dr k) (by have:=eN k;omega);unfold Tm.In at D q;simp only[cN] at l|-;omega
 |@n3 k i s a y b o c B z p C g e m=>
  intro d v f h;refine sA v (λl=>?_) h;have D:=g (Tm.c9 d _ aae) (v+dr k) (by have:=eN k;omega);have q:=e (Tm.c9 d _ aae) (v+dr k) (by have:=eN k;omega);have r:=m (Tm.c9 d _ aae) (v+dr k) (by have:=eN k;omega);unfold Tm.In at D q r;simp only[cN] at l|-;omega
 |@beta i s j u b o a y p z e g=>
  intro d v f h;have G:=Tm.c9 (Tm.c9 d (.mk 2 j u [b]) aae) b aae;have q:(Tm.mk 3 i s [.mk 2 j u [o],y]).In v:=yn ((iB.n2 3 i s (.n1 2 j u p) z).ok d) (by simp[Tm.root,Tm.kd]) f (by simpa[Tm.dm] using h);have r:=e G (v+1) Zb;have A:=g (Tm.c9 d a aae) v f;refine sA v (λl=>?_) q;unfold Tm.In at r A;simp only[cN,show dr 3=0 from rfl,ka] at l|-;rw[Tm.dp] at l|-;simp only[cN,show dr 2=1 from rfl] at l|-;omega
 |@Bg i s j u c b o p e=>intro d v f h;exact hV rfl (x:=b) aae (e (Tm.c9 d b aae) v f h)|@uW i s j u c b o p e=>intro d v f h;exact hV rfl (x:=b) aae (e (Tm.c9 d b aae) v f h)|@Bz i s j u b o c B n n' p C hn e m w=>
  intro d v f h;have q:(Tm.mk 6 i s [o,B,.mk 5 j u [n']]).In v:=yn ((iB.n3 6 i s p C (.n1 5 j u hn)).ok d) (by simp[Tm.root,Tm.kd]) f (by simpa[Tm.dm] using h);have r:=e (Tm.c9 d b aae) v f;have A:=m (Tm.c9 d c aae) v f;have E:=w (Tm.c9 (Tm.c9 d (.mk 5 j u [n]) aae) n aae) v f;refine sA v (λl=>?_) q;unfold Tm.In at r A E;simp only[cN,show dr 6=0 from rfl,ka] at l|-;rw[Tm.dp] at l|-;simp only[cN,show dr 5=0 from rfl,ka] at l|-;omega
 |@uz i s j u b o c B n n' t H p C hn I e m w F=>
  intro d v f h;have q:(Tm.mk 9 i s [o,B,.mk 8 j u [n',H]]).In v:=yn ((iB.n3 9 i s p C (.n2 8 j u hn I)).ok d) (by simp[Tm.root,Tm.kd]) f (by simpa[Tm.dm] using h);have r:=e (Tm.c9 d b aae) v f;have A:=m (Tm.c9 d c aae) v f;have E:=w (Tm.c9 (Tm.c9 d (.mk 8 j u [n,t]) aae) n aae) v f;have J:=F (Tm.c9 (Tm.c9 d (.mk 8 j u [n,t]) aae) t aae) v f;refine sA v (λl=>?_) q;unfold Tm.In at r A E J;simp only[cN,show dr 9=0 from rfl,ka] at l|-;rw[Tm.dp] at l|-;simp only[cN,show dr 8=0 from rfl,ka] at l|-;omega
 |@fst i s j u b a y z g=>intro d v f h;exact hV rfl (x:=.mk 10 j u [a,b]) aae (hV rfl (x:=a) aae (g (Tm.c9 (Tm.c9 d (.mk 10 j u [a,b]) aae) a aae) v f h))|@snd i s j u a b o p e=>intro d v f h;exact hV rfl (x:=.mk 10 j u [a,b]) aae (hV rfl (x:=b) aae (e (Tm.c9 (Tm.c9 d (.mk 10 j u [a,b]) aae) b aae) v f h))
def jn.In{t u:Tm}(h:jn t u):t.ok=true->∀v:Int,0<=v->u.In v->t.In v:=by
 induction h with
 |refl t=>intro _ _ _ h;exact h|step a _ d=>intro b v c h;exact a.In b v c (d (a.ok b) v c h)
def ug.nf{a x p:Tm}{n:Int}(h:ug a x)(d:x.norm 1000 0=(p,n,0)):jn a p:=by
 obtain⟨j,b,c,e,f⟩:=h;obtain⟨n1,s1⟩:=uF d b;obtain⟨w,g,i⟩:=s1.meet c b f;have:=g.nf n1;subst this;exact e.trans i
def CA{x:Tm}{e:Int}(h:(s6 x e).2=0):e=0/\∃n,x.norm 1000 0=((s6 x e).1,n,0):=by
 by_cases he:e=0
 ·subst he;refine⟨rfl,?_⟩;unfold s6 at h|-;simp only[if_true] at h|-;refine⟨(x.norm 1000 0).2.1,?_⟩;obtain⟨p,n,e,a⟩:∃p n e,x.norm 1000 0=(p,n,e):=⟨_,_,_,rfl⟩;rw[a] at h|-;simp only at h|-;rw[h]
 ·rw[rV he] at h;exact absurd h he
def kb.nr{a f:Fm}(h:kb a f):∀e:Int,(f.l0 e).2=0->kb a (f.l0 e).1/\∀v:Int,0<=v->a.afw v=0->(f.l0 e).1.afw v=0:=by
 induction h with
 |@eq a d b i j l=>
  intro e he;rw[Ff] at he|-;obtain⟨r,n1,q1⟩:=CA he;obtain⟨x,n2,t⟩:=CA r;have s1:=j.nf t;have s2:=l.nf q1;refine⟨.eq (.star j.1 s1) (.star l.1 s2),λv g c=>?_⟩;rw[Fm.dp] at c|-;simp only[cN] at c|-;have t1:=s1.In j.1 v g;have t2:=s2.In l.1 v g;unfold Tm.In at t1 t2;omega
 |@two k a d b i _ _ m n=>
  intro e he;rw[Fk] at he|-;have he:(i.l0 (d.l0 e).2).2=0:=he;obtain⟨u,t2⟩:=n _ he;have o:(d.l0 e).2=0:=LY λh=>h (by rw[Fm.yO i _ h] at he;exact he);obtain⟨p,t1⟩:=m e o;refine⟨.two p u,λv g c=>?_⟩;have:=j_ k;rw[Fm.dp] at c|-;simp only[cN] at c|-;have:=t1 (v+qB k) Zb Zb;have:=t2 (v+qB k) Zb Zb;omega
 |@q k s a d _ w=>
  intro e he;rw[Nt] at he|-;obtain⟨p,t1⟩:=w e he;refine⟨.q p,λv g c=>?_⟩;have:=j_ k;rw[Fm.dp] at c|-;simp only[cN] at c|-;have:=t1 (v+qB k) Zb Zb;omega
def Tm.KY(t:Tm):∀n:Int,t.afw n=0->(t.up (n+1) (-1)).up n 1=t:=by
 induction t using Tm.ind with
 |h k i s l e=>
  intro n a;rw[Tm.dp] at a;rw[Tm.dV,Tm.dV,wR]
  congr 1
  ·by_cases b:k=1
   ·subst b;simp only[ry] at a|-
    have:¬i=n:=λh=>by rw[cL h] at a;omega
    by_cases c:n+1<=i
    ·rw[cL c,cL Zb];omega
    ·rw[cJ c,cJ Zb]
   ·simp only[b,xZ,jm]
  ·refine map_id' λx d=>?_;have:=cV (Tm.afw (n+dr k)) d;have:=e x d (n+dr k) Zb;rw[show n+dr k+1=n+1+dr k by omega] at this;exact this
def Fm.KY(f:Fm):∀n:Int,f.afw n=0->(f.up (n+1) (-1)).up n 1=f:=by
 induction f using Fm.ind with
 |h k s ts l b=>
  intro n c;rw[Fm.dp] at c;rw[Fm.dV,Fm.dV,wR,wR]
  congr 1
  ·refine map_id' λx a=>?_;have:=cV (Tm.afw n) a;exact x.KY n Zb
  ·refine map_id' λx a=>?_;have:=cV (Fm.afw (n+qB k)) a;have:=b x a (n+qB k) Zb;rw[show n+qB k+1=n+1+qB k by omega] at this;exact this
def Fm.sC(t:Fm):∀f b v:Int,f<=v->v<f+b->(t.up f b).afw v=0:=by
 induction t using Fm.ind with
 |h k s ts l a=>
  intro f b v c d;rw[Fm.dV,Fm.dp,gx,gx,su λx _=>Go.eD.sC x f b v c d,su λx e=>a x e (f+qB k) b (v+qB k) Zb Zb]
def Fm.FB{g:List Ty}{f:Fm}(h:eX g f)(x:Tm):∀n:Int,0<=n->Fm.ei n (f.up n 1) x=f:=by
 have key:∀{g:List Ty} {t:Tm} {s:Ty},dd g t s->∀n:Int,0<=n->Tm.ei n (t.up n 1) x=t:=by
  intro g t s h n hn;have:=Jp x t n n 0 h.ok hn Zb Zb;rw[Tm.oD] at this;exact this
 induction h with
 |eq c d=>intro n hn;rw[Fm.dV,Fm.dQ];simp[key c n hn,key d n hn]|@two _ k _ _ _ _ _ a b=>intro n hn;have:=j_ k;rw[Fm.dV,Fm.dQ];simp[a (n+qB k) Zb,b (n+qB k) Zb]
 |@q _ k _ _ _ _ _ e=>intro n hn;have:=j_ k;rw[Fm.dV,Fm.dQ];simp[e (n+qB k) Zb]
def kb.down{g c:List Ty}{a b:Fm}(d:eX g a)(e:eX c b)(h:kb (a.up 0 1) (b.up 0 1)):kb a b:=by
 have:=h.ei (ug.refl (a:=k_) Zk) (n:=0) Zb
 rwa [Fm.FB d _ 0 Zb,Fm.FB e _ 0 Zb] at this
def Iw{g:List Ty}{s:Ty}{f:Fm}(h:Hg (g++[s]) f)(hg:g.length<=1000)(a:(ox f).2=0):kb f ((ox f).1.up 0 1):=by
 unfold ox at a|-
 by_cases c:f.afw 0=0
 ·rw[cL c];show kb f ((f.up 1 (-1)).up 0 1);rw[show(f.up 1 (-1)).up 0 1=f from f.KY 0 c];exact .refl h.ty
 ·rw[cJ c] at a|-
  by_cases b:(f.l0 0).2≠0
  ·rw[cL b] at a;exact absurd a b
  ·rw[cJ b] at a|-;have b:(f.l0 0).2=0:=nN.1 b
   by_cases d:(f.l0 0).1.afw 0≠0
   ·rw[cL d] at a;cases a
   ·rw[cJ d];show kb f (((f.l0 0).1.up 1 (-1)).up 0 1);rw[show((f.l0 0).1.up 1 (-1)).up 0 1=(f.l0 0).1 from Fm.KY _ 0 (nN.1 d)];exact((kb.refl h.ty).nr 0 b).1
def yS{α:Type}{f:α->Int->α×Int}:∀(l:List α) (e:Int),(∀x∈l,∀e,e=0\/kx e->(f x e).2=0\/kx (f x e).2)->e=0\/kx e->(j2 f l e).2=0\/kx (j2 f l e).2
 |[],e,_,he=>he|x::l,e,h,he=>yS l _ (λy hy=>h y (by simp[hy])) (h x aae e he)
def L3(f:Fm):∀e:Int,e=0\/kx e->(f.l0 e).2=0\/kx (f.l0 e).2:=by
 induction f using Fm.ind with
 |h k s ts l b=>
  intro e he;rw[Fm.t_];refine yS l _ b (yS ts e (λx _ e he=>?_) he)
  by_cases a:e=0
  ·unfold s6;rw[cL a];rcases rE 1000 0 x with h|h|h
   ·exact .inl h
   ·exact .inr (.inr (.inl h))
   ·exact .inr (.inr (.inr h))
  ·rw[rV a];exact he
def Mh{g:List Ty}{s:Ty}{f y:Fm}(h:Hg (g++[s]) f)(hg:g.length<=1000)(hs:s.err=0)(hy:eX g y)(c:kb f (y.up 0 1)):kx (ox f).2\/(ox f).2=0/\kb (ox f).1 y:=by
 have key:(ox f).2=0->kb (ox f).1 y:=λa=>kb.down (yR h hg hs a).1 hy ((Iw h hg a).symm.trans c)
 by_cases a:(ox f).2=0
 ·exact .inr ⟨a,key a⟩
 ·left;unfold ox at a|-
  by_cases d:f.afw 0=0
  ·rw[cL d] at a;exact absurd rfl a
  ·rw[cJ d] at a|-
   by_cases b:(f.l0 0).2≠0
   ·rw[cL b];exact(L3 f 0 (.inl rfl)).resolve_left b
   ·rw[cJ b] at a;have b:(f.l0 0).2=0:=nN.1 b
    by_cases e:(f.l0 0).1.afw 0≠0
    ·exact absurd ((c.symm.nr 0 b).2 0 Zb (y.sC 0 1 0 Zb Zb)) e
    ·rw[cJ e] at a;exact absurd rfl a
def UC{L:List Fm}{q:Sq}{P:Pf}(h:qY L q)(a:P.wt<=1000000000)(he:P.err≠0):iK L q P=some (⟨eA,[]⟩,P.err):=by
 have e:FT L q P=.inr P.err:=by unfold FT;rw[ej h.zero,fy he]
 rcases lA h.b a with⟨d,_,q1,c,_⟩|⟨f,m,l,q1,_⟩
 ·rw[e] at q1;rw[c,W0 q1]
 ·rw[e] at q1;cases q1
def Tu{L:List Fm}{q:Sq}{P:Pf}(h:qY L q)(a:P.wt<=1000000000)(he:P.err=0){e:Int}(hi:P.inf L q.afs q.afv=.inr e):iK L q P=some (⟨eA,[]⟩,e):=by
 rcases lA h.b a with⟨d,_,q1,c,_⟩|⟨f,m,l,q1,_⟩
 ·rw[nB h he,hi] at q1;rw[c,W0 q1]
 ·rw[nB h he,hi] at q1;cases q1
def P0{L:List Fm}{q:Sq}{P:Pf}(h:qY L q)(c:P.wt<=1000000000)(he:P.err=0){f:Fm}{m:Nat}(hi:P.inf L q.afs q.afv=.inl (f,m)):∃l,iK L q P=some (⟨f,l⟩,0)/\Us l m/\Hg q.afs f:=by
 rcases lA h.b c with⟨e,_,q1,a,_⟩|⟨f',g,l,q1,a,_,hu,d,_⟩
 ·rw[nB h he,hi] at q1;cases q1
 ·rw[nB h he,hi] at q1;obtain⟨rfl,rfl⟩:=fa (px q1);exact⟨l,a,hu,d⟩
def ym(s:Ty):s.fX s=true:=(Ty.gi s s).2 rfl
def qU(k:Int)(i:Nat):Nat:=if k=8\/k=12 then 1 else if k=11\/k=15\/k=16 then i else if k=17 then 2*i else 0
def EP(k:Int):Nat:=if k=16\/k=17\/k=19 then 1 else 0
def vj(k:Int)(i:Nat)(hi:i<=1000):qX k (i:Int)=some ((qU k i:Nat):Int):=by
 grind[qX,qU,gY,dS,p_]
def um(k:Int):pq k=some ((EP k:Nat):Int):=by
 grind[pq,EP,gY,dS]
mutual
def Pf.afu(m:Int):Pf->Bool
 |.mk _ _ _ ts fs l=>ts.all (Tm.afu m)&&fs.all (Fm.afu m)&&Pf.lj m l
def Pf.lj(m:Int):List Pf->Bool
 |[]=>true|p::l=>p.afu m&&Pf.lj m l
end
def Pf.nH(m:Int):∀l:List Pf,Pf.lj m l=l.all (Pf.afu m)
 |[]=>by rw[Pf.lj];rfl|p::l=>by rw[Pf.lj,Pf.nH m l];rfl
theorem Pf.dj(m k i:Int)(s:Ty)(ts:List Tm)(fs:List Fm)(l:List Pf):(Pf.mk k i s ts fs l).afu m=(ts.all (Tm.afu m)&&fs.all (Fm.afu m)&&l.all (Pf.afu m)):=by rw[Pf.afu,Pf.nH]
def KG(k:Int)(i:Nat):qU k i<=2*i+1:=by
 grind[qU]
theorem rT{M:Int}(a:5000<=M){g:List Ty}{t:Tm}{s:Ty}(h:dd g t s)(he:t.err=0)(hg:g.length<=100):t.afu M=true:=h.afu _ (by have:=(Tm.ey he).2;omega)
theorem rz{M:Int}(a:5000<=M){g:List Ty}{f:Fm}(h:Hg g f)(hg:g.length<=100):f.afu M=true:=h.ty.afu _ (by have:=h.afq;omega)
def Dv.Xf{M:Int}(d:5000<=M){L:List Fm}{g:List Ty}{hs:List Fm}{P:Pf}{f:Fm}{m:Nat}(h:Dv L g hs P f m):g.length<=16->P.afu M=true:=by
 induction h with
 |hyp _ _ _ _=>intro _;rfl|zl _ _ _=>intro _;rfl|Dx _ _ _ a b=>intro h;rw[Pf.dj];simp[a h,b h]|NY _ _ a=>intro h;rw[Pf.dj];simp[a h]|N7 _ _ a=>intro h;rw[Pf.dj];simp[a h]|DF hF _ _ _ a=>intro h;rw[Pf.dj];simp[a h,rz d hF Zb]|DC _ _ _ _ _ _ a b=>intro h;rw[Pf.dj];simp[a h,b h]|all e _ hn _ _ a=>intro h;rw[Pf.dj];simp[a (by simpa using hn)]|KX e c he _ _ _ a=>grind[Pf.dj,rT]|ex e hF c he _ _ _ _ _ a=>grind[Pf.dj,rT,rz]|KW e _ _ hn _ _ _ _ _ _ a b=>grind[Pf.dj]|ind hF c he _ _ _ _ hn _ _ _ _ _ _ a b=>grind[Pf.dj,rT,rz]|lists hF c he _ _ _ _ hn _ _ _ _ _ _ a b=>grind[Pf.dj,rT,rz]|refl c he _=>intro h;rw[Pf.dj];simp[rT d c he Zb]|subst hF _ _ _ _ _ _ _ _ _ _ a b=>intro h;rw[Pf.dj];simp[a h,b h,rz d hF aaV]|choice _ _ _ _ _ _ _ a=>intro h;rw[Pf.dj];simp[a h]
end Go.eD
namespace Go.eD
open Go
structure E7 (G G':List Ty) (ψ:Tm->Int->Tm):Prop where
 ty:∀{g:List Ty} {t:Tm} {s:Ty},dd (G++g) t s->dd (G'++g) (ψ t g.length) s
 cv:∀{a b:Tm} {d:Int},0<=d->ug a b->ug (ψ a d) (ψ b d)
 ei:∀{t a:Tm} {n d:Int},t.ok=true->a.ok=true->0<=n->0<=d->ψ (Tm.ei n t a) (d+n)=Tm.ei n (ψ t (d+n+1)) (ψ a d)
 up:∀{t:Tm} {n c d:Int},t.ok=true->0<=n->0<=c->0<=d->ψ (t.up n c) (d+n+c)=(ψ t (d+n)).up n c
 cl:∀{g:List Ty} {t:Tm} {s:Ty} {d:Int},dd g t s->(g.length:Int)<=d->ψ t d=t
section
variable{G G':List Ty} {ψ:Tm->Int->Tm}
def tY(a b:Tm)(d:Int):(Fm.mk 1 .z [a,b] []).h8 ψ d=.mk 1 .z [ψ a d,ψ b d] []:=by rw[Fm.eE];rfl
def oL{k:Int}(c:k=2\/k=3)(a b:Fm)(d:Int):(Fm.mk k .z [] [a,b]).h8 ψ d=.mk k .z [] [a.h8 ψ d,b.h8 ψ d]:=by
 have:qB k=0:=by rcases c with rfl|rfl<;>decide
 rw[Fm.eE,this,ka];rfl
def pG{k:Int}(b:k=4\/k=5\/k=6\/k=7)(s:Ty)(a:Fm)(d:Int):(Fm.mk k s [] [a]).h8 ψ d=.mk k s [] [a.h8 ψ (d+1)]:=by
 have:qB k=1:=by rcases b with rfl|rfl|rfl|rfl<;>decide
 rw[Fm.eE,this];rfl
def E7.OV(O:E7 G G' ψ){g0:List Ty}{f:Fm}(h:eX g0 f):∀g d,g0=G++g->d=(g.length:Int)->eX (G'++g) (f.h8 ψ d):=by
 induction h with
 |eq i j=>rintro g d rfl rfl;rw[tY];exact .eq (O.ty i) (O.ty j)
 |two b _ _ c e=>rintro g d rfl rfl;rw[oL b];exact .two b (c g _ rfl rfl) (e g _ rfl rfl)
 |@q g0 k s a b hs _ l=>
  rintro g d rfl rfl;rw[pG b];refine .q b hs ?_;have:=l (g++[s]) ((g.length:Int)+1) aae aae
  rwa [<-ml] at this
def E7.Ns(O:E7 G G' ψ){a b:Fm}(h:kb a b):∀d:Int,0<=d->kb (a.h8 ψ d) (b.h8 ψ d):=by
 induction h with
 |eq g i=>intro d c;rw[tY,tY];exact .eq (O.cv c g) (O.cv c i)|@two k _ _ _ _ _ _ e f=>intro d c;have:=j_ k;rw[Fm.eE,Fm.eE];exact .two (e _ Zb) (f _ Zb)
 |@q k _ _ _ _ j=>intro d c;have:=j_ k;rw[Fm.eE,Fm.eE];exact .q (j _ Zb)
def E7.CD(O:E7 G G' ψ){g:List Ty}{f:Fm}(h:eX g f){a:Tm}(i:a.ok=true){d:Int}(j:0<=d):∀n:Int,0<=n->(Fm.ei n f a).h8 ψ (d+n)=Fm.ei n (f.h8 ψ (d+n+1)) (ψ a d):=by
 induction h with
 |eq m o=>intro n hn;rw[Fm.dQ,Fm.eE,Fm.eE,Fm.dQ];simp[O.ei m.ok i hn j,O.ei o.ok i hn j]|@two _ k _ _ _ _ _ c e=>
  intro n hn;have:=j_ k;have b:=c (n+qB k) Zb;have l:=e (n+qB k) Zb;rw[show d+(n+qB k)=d+n+qB k by omega] at b l;rw[Fm.dQ,Fm.eE,Fm.eE,Fm.dQ];simp only[jc,h9];rw[b,l,show d+n+qB k+1=d+n+1+qB k by omega]
 |@q _ k _ _ _ _ _ p=>
  intro n hn;have:=j_ k;have b:=p (n+qB k) Zb;rw[show d+(n+qB k)=d+n+qB k by omega] at b;rw[Fm.dQ,Fm.eE,Fm.eE,Fm.dQ];simp only[jc,h9];rw[b,show d+n+qB k+1=d+n+1+qB k by omega]
def E7.Re(O:E7 G G' ψ){g:List Ty}{f:Fm}(h:eX g f){c d:Int}(i:0<=c)(j:0<=d):∀n:Int,0<=n->(f.up n c).h8 ψ (d+n+c)=(f.h8 ψ (d+n)).up n c:=by
 induction h with
 |eq m o=>intro n hn;rw[Fm.dV,Fm.eE,Fm.eE,Fm.dV];simp[O.up m.ok hn i j,O.up o.ok hn i j]|@two _ k _ _ _ _ _ b e=>
  intro n hn;have:=j_ k;have a:=b (n+qB k) Zb;have l:=e (n+qB k) Zb;rw[show d+(n+qB k)+c=d+n+c+qB k by omega,show d+(n+qB k)=d+n+qB k by omega] at a l;rw[Fm.dV,Fm.eE,Fm.eE,Fm.dV];simp only[jc,h9];rw[a,l]
 |@q _ k _ _ _ _ _ p=>
  intro n hn;have:=j_ k;have a:=p (n+qB k) Zb;rw[show d+(n+qB k)+c=d+n+c+qB k by omega,show d+(n+qB k)=d+n+qB k by omega] at a;rw[Fm.dV,Fm.eE,Fm.eE,Fm.dV];simp only[jc,h9];rw[a]
def E7.fcl(O:E7 G G' ψ){g:List Ty}{f:Fm}(h:eX g f):∀d:Int,(g.length:Int)<=d->f.h8 ψ d=f:=by
 induction h with
 |eq i j=>intro d a;rw[tY,O.cl i a,O.cl j a]|two b _ _ c e=>intro d a;rw[oL b,c d a,e d a]|q b _ _ k=>intro d a;rw[pG b,k (d+1) aaV]
def LV{g:List Ty}{f:Fm}(h:eX g f):∀d:Int,(f.h8 ψ d).has=f.has:=by
 induction h with
 |eq _ _=>intro d;rw[tY,Fm.has_eq,Fm.has_eq]|two a _ _ b c=>intro d;rw[oL a,Fm.sn,Fm.sn,b,c]|q a _ _ e=>intro d;rw[pG a,Fm.sx,Fm.sx,e]
def pA(k:Int)(i:Nat):Nat:=if k=6 then 1 else if k=11\/k=15\/k=16\/k=17 then i else 0
mutual
def Pf.h8(ψ:Tm->Int->Tm)(η:Nat->Nat->Int->Pf):Nat->Nat->Pf->Pf
 |d,h,.mk k i s ts fs l=>if k=1 then η d h i else .mk k i s (ts.map λt=>ψ t d) (fs.map λf=>f.h8 ψ ((d+EP k:Nat):Int)) (Pf.o9 ψ η k 0 d h l)
def Pf.o9(ψ:Tm->Int->Tm)(η:Nat->Nat->Int->Pf)(k:Int):Nat->Nat->Nat->List Pf->List Pf
 |_,_,_,[]=>[]|i,d,h,p::l=>p.h8 ψ η (d+qU k i) (h+pA k i)::Pf.o9 ψ η k (i+1) d h l
end
theorem Pf.eE(η:Nat->Nat->Int->Pf)(d h:Nat){k i:Int}(a:k≠1)(s:Ty)(ts:List Tm)(fs:List Fm)(l:List Pf):(Pf.mk k i s ts fs l).h8 ψ η d h=.mk k i s (ts.map λt=>ψ t d) (fs.map λf=>f.h8 ψ ((d+EP k:Nat):Int)) (Pf.o9 ψ η k 0 d h l):=by rw[Pf.h8,cJ a]
theorem Pf.tj(η:Nat->Nat->Int->Pf)(d h:Nat)(i:Int)(s:Ty)(ts:List Tm)(fs:List Fm)(l:List Pf):(Pf.mk 1 i s ts fs l).h8 ψ η d h=η d h i:=by rw[Pf.h8,cL rfl]
structure Rl (G G':List Ty) (ψ:Tm->Int->Tm) (R:Nat->Nat->Nat->Prop):Prop where
 zero:∀d,R d 0 0
 or:∀{d a a' b b'},R d a a'->R d b b'->R d (a|||b) (a'|||b')
 half:∀{d a a'},R (d+1) a a'->R d (a/2) (a'/2)
 low:∀{d a a'},R (d+1) a a'->a.testBit 0=false->a'.testBit 0=false
 free:∀{g:List Ty} {t:Tm} {s:Ty},dd (G++g) t s->(G++g).length<=16->(G'++g).length<=16->R g.length (jZ t) (jZ (ψ t g.length))
def qq(ψ:Tm->Int->Tm)(R:Nat->Nat->Nat->Prop)(d:Nat)(r:PR)(f:Fm)(m:Nat):Prop:=
 (∃e,kx e/\r=.inr e)\/∃f' a,r=.inl (f',a)/\kb f' (f.h8 ψ d)/\R d m a
def T_(ψ:Tm->Int->Tm)(R:Nat->Nat->Nat->Prop)(b:List Ty)(d:Nat)(r:PR)(f:Fm)(m:Nat):Prop:=
 (∃e,kx e/\r=.inr e)\/∃f' a,r=.inl (f',a)/\kb f' (f.h8 ψ d)/\R d m a/\Hg b f'
def Pf.Ws(P:Pf):Prop:=P.ok=true/\P.small=true
def qq.hg{R:Nat->Nat->Nat->Prop}{d:Nat}{L':List Fm}{b:List Ty}{a:List Fm}{P:Pf}{f:Fm}{m:Nat}(hw:P.Ws)(g:qY L' ⟨b,a⟩)(h:qq ψ R d (P.inf L' b a) f m):T_ ψ R b d (P.inf L' b a) f m:=by
 rcases h with h|⟨f',c,e,i,j⟩
 ·exact .inl h
 ·exact .inr ⟨f',c,e,i,j,(Dv.of (P.w hw.1 hw.2) b a f' c g e).2⟩
def tN:kx 3:=.inl rfl
def sP:kx 4:=.inr (.inl rfl)
def qq.m0{R:Nat->Nat->Nat->Prop}{d:Nat}{f:Fm}{m:Nat}{e:Int}(h:kx e):qq ψ R d (lT (.inr e)) f m:=.inl ⟨e,h,rfl⟩
def qq.fU{R:Nat->Nat->Nat->Prop}{d:Nat}{g:List Ty}{f f':Fm}{m a:Nat}(c:R d 0 0)(e:eX g f)(b:kb f' (f.h8 ψ d))(h:R d m a):qq ψ R d (lT (.inl (f',a))) f (fin f m):=by
 by_cases he:f'.err=0
 ·rw[xI he,b.has,LV e];refine .inr ⟨_,_,rfl,b,?_⟩;unfold fin
  split
  ·exact h
  ·exact c
 ·rw[Fc he];exact .inl ⟨4,sP,rfl⟩
def kb.eq_inv{f':Fm}{a b:Tm}(h:kb f' (.mk 1 .z [a,b] [])):∃c d,f'=.mk 1 .z [c,d] []/\ug c a/\ug d b:=by
 generalize hy:Fm.mk 1 .z [a,b] []=y at h;cases h with
 |eq e f=>simp at hy;obtain⟨rfl,rfl⟩:=hy;exact⟨_,_,rfl,e,f⟩
 |two=>simp at hy
 |q=>simp at hy
def kb.Bo{k:Int}{f' a b:Fm}(h:kb f' (.mk k .z [] [a,b])):∃c d,f'=.mk k .z [] [c,d]/\kb c a/\kb d b:=by
 generalize hy:Fm.mk k .z [] [a,b]=y at h;cases h with
 |eq=>simp at hy
 |two e f=>simp at hy;obtain⟨rfl,rfl,rfl⟩:=hy;exact⟨_,_,rfl,e,f⟩
 |q=>simp at hy
def kb.E9{k:Int}{s:Ty}{f' a:Fm}(h:kb f' (.mk k s [] [a])):∃b,f'=.mk k s [] [b]/\kb b a:=by
 generalize hy:Fm.mk k s [] [a]=y at h;cases h with
 |eq=>simp at hy
 |two=>simp at hy
 |q c=>simp at hy;obtain⟨rfl,rfl,rfl⟩:=hy;exact⟨_,rfl,c⟩
structure Sk (L':List Fm) (G G':List Ty) (ψ:Tm->Int->Tm) (η:Nat->Nat->Int->Pf) (R:Nat->Nat->Nat->Prop) (H:List Ty->Nat->List Fm->List Fm->Prop):Prop where
 leaf:∀{g:List Ty} {k:Nat} {hs hs':List Fm} {i:Int} {f:Fm},H g k hs hs'->qY L' ⟨G'++g,hs'⟩->0<=i->i<(hs.length:Int)->hs[hs.length-1-i.toNat]?=some f->Hg (G++g) f->(η g.length k i).Ws->qq ψ R g.length ((η g.length k i).inf L' (G'++g) hs') f 0
 below:∀{g:List Ty} {k:Nat} {hs hs':List Fm} (l:List Ty),H g k hs hs'->(∀f∈hs,eX (G++g) f)->H (g++l) k (hs.map (Fm.up 0 l.length)) (hs'.map (Fm.up 0 l.length))
 Sz:∀{g:List Ty} {k:Nat} {hs hs':List Fm} {x x':Fm},H g k hs hs'->kb x' (x.h8 ψ g.length)->H g (k+1) (hs++[x]) (hs'++[x'])
end
def wa{g:List Ty}{x:Tm}{s:Ty}(h:dd g x s)(hg:fh g)(a:g.length+x.afq<=1000000):jb x g s.afo=0:=by
 unfold jb;rw[oQ h hg a,cJ (λh=>h.2 rfl)]
def DH{g c:List Ty}{a b:Fm}(d:Hg g a)(e:Hg c b)(f:g.length<=1000000)(i:c.length<=1000000)(h:kb a b):p9 a b=0\/kx (p9 a b):=by rw[zF d e f i];exact h.tC
end Go.eD
namespace Go.eD
open Go
def Pf.Ws.parts{k i:Int}{s:Ty}{ts:List Tm}{fs:List Fm}{l:List Pf}(h:(Pf.mk k i s ts fs l).Ws):(∀t∈ts,t.err=0)/\(∀f∈fs,f.err=0)/\∀p∈l,p.Ws:=by
 obtain⟨a,b⟩:=h;rw[Pf.eu] at a;rw[Pf.o_] at b;simp only[ew,gR] at a b;refine⟨λt d=>Tm.kT (a.1.1.2 t d) ?_,λf e=>Fm.kT (a.1.2 f e) ?_,λp c=>⟨a.2 p c,b.2 p c⟩⟩
 ·grind[E4]
 ·grind[Ho]
def sE{g:List Ty}{s:Ty}{F f:Fm}{t:Tm}{m:Nat}(hF:eX (g++[s]) F)(b:dd g t s)(c:Hg g f)(hg:g.length<=1000000)(d:kb (Fm.ei 0 F t) f):(∃e,kx e/\tK (.inl (f,m)) F t=.inr e)\/tK (.inl (f,m)) F t=.inl (f,m):=by
 unfold tK;rw[dA];rcases gO F t with a|⟨hn,a⟩
 ·rw[a];exact .inl ⟨4,sP,rfl⟩
 ·rw[a,ej rfl];rcases DH (mL hF b hn) c hg hg d with e|e
  ·grind[ej]
  ·rw[fy (by rcases e with e|e|e<;>rw[e]<;>decide)];exact .inl ⟨_,e,rfl⟩
def Bm(F:Fm)(t:Tm)(u:Nat):fW (gH F t).2 (.inl ((gH F t).1,u))=.inr 4\/fW (gH F t).2 (.inl ((gH F t).1,u))=.inl (Fm.ei 0 F t,u):=by
 rcases gO F t with a|⟨_,a⟩
 ·rw[a];exact .inl rfl
 ·rw[a];exact .inr rfl
def Dv.sim{L L':List Fm}{G G':List Ty}{ψ:Tm->Int->Tm}{η:Nat->Nat->Int->Pf}{R:Nat->Nat->Nat->Prop}{H:List Ty->Nat->List Fm->List Fm->Prop}(O:E7 G G' ψ)(Q:Rl G G' ψ R)(HH:Sk L' G G' ψ η R H)(hL:∀(i:Nat) (f:Fm),L[i]?=some f->L'[i]?=some f){g0:List Ty}{hs:List Fm}{P:Pf}{f:Fm}{m:Nat}(h:Dv L g0 hs P f m):∀(g:List Ty) (d k:Nat) (l:List Fm),g0=G++g->d=g.length->qY L ⟨g0,hs⟩->qY L' ⟨G'++g,l⟩->H g k hs l->(P.h8 ψ η d k).Ws->T_ ψ R (G'++g) d ((P.h8 ψ η d k).inf L' (G'++g) l) f m:=by
 induction h with
 |hyp h1 h2 h3 h4=>
  rintro g d k l rfl rfl A j C hw;rw[Pf.tj] at hw|-;exact(HH.leaf C j h1 h2 h3 h4 hw).hg hw j
 |@zl g0 hs i f h1 h2 h3=>
  rintro g d k l rfl rfl A j C hw;refine qq.hg hw j ?_;rw[Pf.eE η _ _ Zk,Pf.fk];simp only[h9,Pf.o9];rw[IB];have h4:=hL _ _ h2;have aP:i.toNat<L'.length:=(qR.1 h4).1;rw[eP Zb,F3,h4];have:=qq.fU (ψ:=ψ) (f':=f) (Q.zero g.length) h3.ty (by rw[O.fcl h3.ty _ aae];exact .refl h3.ty) (Q.zero g.length);rw[rL] at this;exact this
 |@Dx g0 hs a b x y m n ha hb J p S=>
  rintro g d k l rfl rfl A j C hw;refine qq.hg hw j ?_;rw[Pf.eE η _ _ Zk] at hw|-;rw[Pf.fk];simp only[h9,Pf.o9,show qU 3 0=0 from rfl,show pA 3 0=0 from rfl,show qU 3 (0+1)=0 from rfl,show pA 3 (0+1)=0 from rfl,oH] at hw|-;obtain⟨_,_,wp⟩:=hw.parts;rw[EF];rcases p g _ _ l rfl rfl A j C (wp _ aae)with⟨e,he,q⟩|⟨V,m',q,B,K,t1⟩
  ·rw[q];exact .m0 he
  rcases S g _ _ l rfl rfl A j C (wp _ aae)with⟨e,he,q'⟩|⟨y',n',q',c2,r2,t2⟩
  ·rw[q,q'];exact .m0 he
  rw[q,q'];exact .fU (Q.zero _) J.ty (by rw[oL (.inl rfl)];exact .two B c2) (Q.or K r2)
 |@NY g0 hs a x y m ha J p=>
  rintro g d k l rfl rfl A j C hw;refine qq.hg hw j ?_;rw[Pf.eE η _ _ Zk] at hw|-;rw[Pf.fk];simp only[h9,Pf.o9,show qU 4 0=0 from rfl,show pA 4 0=0 from rfl,oH] at hw|-;obtain⟨_,_,wp⟩:=hw.parts;rw[E0];rcases p g _ _ l rfl rfl A j C (wp _ aae)with⟨e,he,q⟩|⟨z',m',q,B,K,t1⟩
  ·rw[q];exact .m0 he
  rw[oL (.inl rfl)] at B;obtain⟨V,y',rfl,B,c2⟩:=B.Bo;rw[q,tE (Fm.c8 2 .z [] _),dA];exact .fU (Q.zero _) J.ty B K
 |@N7 g0 hs a x y m ha J p=>
  rintro g d k l rfl rfl A j C hw;refine qq.hg hw j ?_;rw[Pf.eE η _ _ Zk] at hw|-;rw[Pf.fk];simp only[h9,Pf.o9,show qU 5 0=0 from rfl,show pA 5 0=0 from rfl,oH] at hw|-;obtain⟨_,_,wp⟩:=hw.parts;rw[Em];rcases p g _ _ l rfl rfl A j C (wp _ aae)with⟨e,he,q⟩|⟨z',m',q,B,K,t1⟩
  ·rw[q];exact .m0 he
  rw[oL (.inl rfl)] at B;obtain⟨V,y',rfl,B,c2⟩:=B.Bo;rw[q,tE (Fm.c8 2 .z [] _),dA];exact .fU (Q.zero _) J.ty c2 K
 |@DF g0 hs F a y m hF hn ha J p=>
  rintro g d k l rfl rfl A j C hw;refine qq.hg hw j ?_;rw[Pf.eE η _ _ Zk] at hw|-;rw[Pf.fk];simp only[h9,jc,Pf.o9,show qU 6 0=0 from rfl,show pA 6 0=1 from rfl,show EP 6=0 from rfl,oH] at hw|-;obtain⟨_,wf,wp⟩:=hw.parts;have o:Hg (G'++g) (F.h8 ψ g.length):=⟨wf _ aae,O.OV hF.ty g _ rfl rfl⟩;have:=o.afq;have D:(G'++g).length<=16:=j.nv;rw[ED,ej (jT o.ty j.ctx Zb)]
  by_cases T:16<l.length+1
  ·rw[ft T];exact .m0 tN
  rw[eP T];rcases p g _ _ _ rfl rfl (A.with hF (by show hs.length+1<=16;omega)) (j.with o (by show l.length+1<=16;omega)) (HH.Sz C (.refl o.ty)) (wp _ aae)with⟨e,he,q⟩|⟨y',m',q,B,K,t1⟩
  ·rw[show(⟨G'++g,l⟩:Sq).afv=l from rfl] at q;rw[q];exact .m0 he
  rw[show(⟨G'++g,l⟩:Sq).afv=l from rfl] at q;rw[q,dA];exact .fU (Q.zero _) J.ty (by rw[oL (.inr rfl)];exact .two (.refl o.ty) B) K
 |@DC g0 hs a b x y f m n ha hb hx Z hm J p S=>
  rintro g d k l rfl rfl A j C hw;refine qq.hg hw j ?_;rw[Pf.eE η _ _ Zk] at hw|-;rw[Pf.fk];simp only[h9,Pf.o9,show qU 7 0=0 from rfl,show pA 7 0=0 from rfl,show qU 7 (0+1)=0 from rfl,show pA 7 (0+1)=0 from rfl,oH] at hw|-;obtain⟨_,_,wp⟩:=hw.parts;have D:(G'++g).length<=16:=j.nv;rw[DT];rcases p g _ _ l rfl rfl A j C (wp _ aae)with⟨e,he,q⟩|⟨z',m',q,B,K,t1⟩
  ·rw[q];exact .m0 he
  rw[oL (.inr rfl)] at B;obtain⟨V,y',rfl,B,c2⟩:=B.Bo;rw[q,tE (Fm.c8 3 .z [] _),dA];rcases S g _ _ l rfl rfl A j C (wp _ aae)with⟨e,he,q'⟩|⟨f',n',q',c3,r2,t2⟩
  ·rw[q'];exact .m0 he
  rw[q',dA]
  have ao:Hg (G'++g) V:=by
   obtain⟨u,v,e,h1,h2⟩:=t1.ty.yk (k:=3) (Fm.c8 _ _ _ _) (.inr rfl);simp at e;obtain⟨rfl,rfl⟩:=e;exact t1.sub aae h1
  have hc:kb V f':=B.trans ((O.Ns (oi hx.ty Z.ty hm) _ Zb).trans c3.symm);show qq ψ R g.length (lT (fW (p9 V f') (.inl (y',m'|||n')))) y _;rcases DH ao t2 Zb Zb hc with e|e
  ·rw[ej e];exact .fU (Q.zero _) J.ty c2 (Q.or K r2)
  ·rw[fy (by rcases e with e|e|e<;>rw[e]<;>decide)];exact .m0 e
 |@all g0 hs U k' s a f m hk l hn ha J p=>
  rintro g d k W rfl rfl A j C hw;refine qq.hg hw j ?_
  have I:U=8\/U=12:=by rcases hk with⟨h,_⟩|⟨h,_⟩<;>simp[h]
  rw[Pf.eE η _ _ Zb] at hw|-
  have e1:qU U 0=1:=by rcases I with rfl|rfl<;>rfl
  have e2:pA U 0=0:=by rcases I with rfl|rfl<;>rfl
  rw[Pf.fk];simp only[h9,Pf.o9,e1,e2,oH] at hw|-;obtain⟨_,_,wp⟩:=hw.parts
  by_cases T:16<(G'++g).length+1
  ·rcases hk with⟨rfl,_⟩|⟨rfl,_⟩
   ·rw[v8,ft T];exact .m0 tN
   ·rw[uZ,ft T];exact .m0 tN
  have hb:=HH.below [s] C (λf J=>(A.afv f J).ty);have ab:=j.nC l Zb;rw[ml] at ab;have ih:=p (g++[s]) (g.length+1) k _ aae aae (A.nC l Zb) ab hb (wp _ aae);rw[<-ml] at ih;rcases ih with⟨e,he,q⟩|⟨f',m',q,B,K,t1⟩
  ·rcases hk with⟨rfl,_⟩|⟨rfl,_⟩
   ·rw[v8,eP T,q];exact .m0 he
   ·rw[uZ,eP T,q];exact .m0 he
  rcases hk with⟨rfl,rfl⟩|⟨rfl,rfl,aq⟩
  ·rw[v8,eP T,q,dA];exact .fU (Q.zero _) J.ty (by rw[pG (.inl rfl)];exact .q B) (Q.half K)
  ·rw[uZ,eP T,q,dA,eP (by rw[Q.low K aq];decide)];exact .fU (Q.zero _) J.ty (by rw[pG (.inr (.inr (.inl rfl)))];exact .q B) (Q.half K)
 |@KX g0 hs U k' t s a x m u hk N ai ha hx ar p=>
  rintro g d k l rfl rfl A j C hw;refine qq.hg hw j ?_
  have I:U=9\/U=13:=by rcases hk with⟨h,_⟩|⟨h,_⟩<;>simp[h]
  have af:k'=4\/k'=5\/k'=6\/k'=7:=by rcases hk with⟨_,h,_⟩|⟨_,h,_⟩<;>simp[h]
  have e1:qU U 0=0:=by rcases I with rfl|rfl<;>rfl
  have e2:pA U 0=0:=by rcases I with rfl|rfl<;>rfl
  rw[Pf.eE η _ _ Zb] at hw|-;rw[Pf.fk];simp only[h9,jc,Pf.o9,e1,e2,oH] at hw|-;obtain⟨wt,_,wp⟩:=hw.parts;have D:(G'++g).length<=16:=j.nv;have ah:(G++g).length<=16:=A.nv;have E:=O.ty N;have ak:(ψ t g.length).err=0:=wt _ aae;obtain⟨ho,an⟩:=iC ak;have aw:=oQ E j.ctx Zb;have Z:eX (G++g) (Fm.ei 0 x t):=hx.ty.put N
  have key:∀(u':Nat->Nat),(∀m',R g.length m m'->R g.length u (u' m'))->qq ψ R g.length (lT (fW ((ψ t g.length).ty (G'++g)).2 (pbind (vt ((a.h8 ψ η g.length k).inf L' (G'++g) l) k') λa m=>mX (((ψ t g.length).ty (G'++g)).1.fX a.cW=false) 7 (fW (gH (a.afp.getD 0 eA) (ψ t g.length)).2 (.inl ((gH (a.afp.getD 0 eA) (ψ t g.length)).1,u' m)))))) (Fm.ei 0 x t) (fin (Fm.ei 0 x t) u):=by
   intro u' hu;rw[aw,ej rfl];rcases p g _ _ l rfl rfl A j C (wp _ aae)with⟨e,he,q⟩|⟨z',m',q,B,K,t1⟩
   ·rw[q];exact .m0 he
   rw[pG af] at B;obtain⟨V,hz,cx⟩:=B.E9;clear B;subst hz;rw[q,tE (Fm.c8 k' s [] _),dA,eP (by show¬s.fX s=false;rw[ym];decide)];show qq ψ R g.length (lT (fW (gH V (ψ t g.length)).2 (.inl ((gH V (ψ t g.length)).1,u' m')))) _ _;rcases gO V (ψ t g.length)with hq|⟨_,hq⟩
   ·rw[hq];exact .m0 sP
   rw[hq,ej rfl];refine .fU (Q.zero _) Z ?_ (hu m' K);have e3:=O.CD hx.ty N.ok (d:=(g.length:Int)) Zb 0 Zb;rw[ka] at e3;rw[e3];exact cx.ei (n:=0) (.refl ho) (NJ 0)
  rcases hk with⟨rfl,rfl,rfl⟩|⟨rfl,rfl,rfl⟩
  ·rw[JO];exact key (λm=>m|||jZ (ψ t g.length)) λm' h=>Q.or h (Q.free N ah D)
  ·rw[EM];exact key (λm=>m) λm' h=>h
 |@ex g0 hs U k' t s a x f m u hk hF N ai hx ha Z ar hm p=>
  rintro g d k l rfl rfl A j C hw;refine qq.hg hw j ?_
  have I:U=10\/U=14:=by rcases hk with⟨h,_⟩|⟨h,_⟩<;>simp[h]
  have af:k'=4\/k'=5\/k'=6\/k'=7:=by rcases hk with⟨_,h,_⟩|⟨_,h,_⟩<;>simp[h]
  have e1:qU U 0=0:=by rcases I with rfl|rfl<;>rfl
  have e2:pA U 0=0:=by rcases I with rfl|rfl<;>rfl
  have e4:EP U=0:=by rcases I with rfl|rfl<;>rfl
  rw[Pf.eE η _ _ Zb] at hw|-;rw[Pf.fk];simp only[h9,jc,Pf.o9,e1,e2,e4,oH] at hw|-;obtain⟨wt,wf,wp⟩:=hw.parts;have D:(G'++g).length<=16:=j.nv;have ah:(G++g).length<=16:=A.nv;have E:=O.ty N;have ak:(ψ t g.length).err=0:=wt _ aae;obtain⟨ho,an⟩:=iC ak;have aw:=oQ E j.ctx Zb;have o:Hg (G'++g) ((Fm.mk k' s [] [x]).h8 ψ g.length):=⟨wf _ aae,O.OV hF.ty g _ rfl rfl⟩;rw[pG af] at o|-;have ax:=o.afq
  have aD:eX (G'++g++[s]) (x.h8 ψ ((g.length:Int)+1)):=by
   have:=O.OV hx.ty (g++[s]) ((g.length:Int)+1) aae aae
   rwa [<-ml] at this
  have key:∀(u':Nat->Nat),(∀m',R g.length m m'->R g.length u (u' m'))->qq ψ R g.length (lT (fW ((Fm.mk k' s [] [x.h8 ψ ((g.length:Int)+1)]).nI (G'++g)) (mX ((Fm.mk k' s [] [x.h8 ψ ((g.length:Int)+1)]).afo≠k') 10 (fW ((ψ t g.length).ty (G'++g)).2 (mX (((ψ t g.length).ty (G'++g)).1.fX (Fm.mk k' s [] [x.h8 ψ ((g.length:Int)+1)]).cW=false) 7 (pbind (tK ((a.h8 ψ η g.length k).inf L' (G'++g) l) ((Fm.mk k' s [] [x.h8 ψ ((g.length:Int)+1)]).afp.getD 0 eA) (ψ t g.length)) λ_ m=>.inl ((Fm.mk k' s [] [x.h8 ψ ((g.length:Int)+1)]),u' m))))))) (.mk k' s [] [x]) (fin (.mk k' s [] [x]) u):=by
   intro u' hu;rw[ej (jT o.ty j.ctx Zb),eP (λh=>h (Fm.c8 _ _ _ _)),aw,ej rfl,eP (by show¬s.fX s=false;rw[ym];decide)];rcases p g _ _ l rfl rfl A j C (wp _ aae)with⟨e,he,q⟩|⟨f',m',q,B,K,t1⟩
   ·rw[q];exact .m0 he
   rw[q];have e3:=O.CD hx.ty N.ok (d:=(g.length:Int)) Zb 0 Zb;rw[ka] at e3
   have hc:kb (Fm.ei 0 (x.h8 ψ ((g.length:Int)+1)) (ψ t g.length)) f':=by
    rw[<-e3];exact(O.Ns (oi (hx.ty.put N) Z.ty hm) _ Zb).trans B.symm
   show qq ψ R g.length (lT (pbind (tK (.inl (f',m')) (x.h8 ψ ((g.length:Int)+1)) (ψ t g.length)) _)) _ _;rcases sE (m:=m') aD E t1 Zb hc with⟨e,he,q2⟩|q2
   ·rw[q2];exact .m0 he
   rw[q2,dA];exact .fU (Q.zero _) hF.ty (by rw[pG af];exact .refl o.ty) (hu m' K)
  rcases hk with⟨rfl,rfl,rfl⟩|⟨rfl,rfl,rfl⟩
  ·rw[Eo];exact key (λm=>m|||jZ (ψ t g.length)) λm' h=>Q.or h (Q.free N ah D)
  ·rw[Er];exact key (λm=>m) λm' h=>h
 |@KW g0 hs U k' s a b x f m n hk ha l hn aQ hx hb Z aE J p S=>
  rintro g d k W rfl rfl A j C hw;refine qq.hg hw j ?_
  have I:U=11\/U=15:=by rcases hk with⟨h,_⟩|⟨h,_⟩<;>simp[h]
  have af:k'=4\/k'=5\/k'=6\/k'=7:=by rcases hk with⟨_,h⟩|⟨_,h,_⟩<;>simp[h]
  have e1:qU U 0=0:=by rcases I with rfl|rfl<;>rfl
  have e2:pA U 0=0:=by rcases I with rfl|rfl<;>rfl
  have e3:qU U (0+1)=1:=by rcases I with rfl|rfl<;>rfl
  have e4:pA U (0+1)=1:=by rcases I with rfl|rfl<;>rfl
  rw[Pf.eE η _ _ Zb] at hw|-;rw[Pf.fk];simp only[h9,Pf.o9,e1,e2,e3,e4,oH] at hw|-;obtain⟨_,_,wp⟩:=hw.parts;have D:(G'++g).length<=16:=j.nv;rcases p g _ _ W rfl rfl A j C (wp _ aae)with⟨e,he,q⟩|⟨z',m',q,B,K,t1⟩
  ·rcases hk with⟨rfl,rfl⟩|⟨rfl,rfl,_⟩
   ·rw[pK,q];exact .m0 he
   ·rw[pI,q];exact .m0 he
  rw[pG af] at B;obtain⟨V,hz,cx⟩:=B.E9;clear B;subst hz
  have ao:Hg (G'++g++[s]) V:=by
   obtain⟨u,v,e,h1,h2⟩:=t1.ty.nV (Fm.c8 _ _ _ _) af;simp at e;obtain⟨rfl,rfl⟩:=e;exact t1.sub aae h2
  have Y:vt (.inl (Fm.mk k' s [] [V],m')) k'=.inl (Fm.mk k' s [] [V],m'):=tE (Fm.c8 _ _ _ _)
  by_cases T:16<(G'++g).length+1\/16<W.length+1
  ·rcases hk with⟨rfl,rfl⟩|⟨rfl,rfl,_⟩
   ·rw[pK,q,Y,dA,ft T];exact .m0 tN
   ·rw[pI,q,Y,dA,ft T];exact .m0 tN
  have ab:=(A.nC l Zb).with (f:=x) hx (by show(hs.map (Fm.up 0 1)).length+1<=16;simp;omega);have ad:=(j.nC l Zb).with (f:=V) ao (by show(W.map (Fm.up 0 1)).length+1<=16;simp;omega);rw[ml G' g [s]] at ad;have ih:=S (g++[s]) (g.length+1) (k+1) _ aae aae ab ad (HH.Sz (HH.below [s] C (λf J=>(A.afv f J).ty)) (by rw[show((g++[s]).length:Int)=(g.length:Int)+1 by simp];exact cx)) (wp _ aae);rw[<-ml G' g [s]] at ih;have q0:((G'++g)++[(Fm.mk k' s [] [V]).cW])=G'++g++[s]:=rfl;rcases ih with⟨e,he,q2⟩|⟨f',n',q2,c2,r2,t2⟩
  ·rcases hk with⟨rfl,rfl⟩|⟨rfl,rfl,_⟩
   ·rw[pK,q,Y,dA,eP T];exact(congrArg (λr=>qq ψ R g.length (lT (pbind r _)) _ _) q2).mpr (.m0 he)
   ·rw[pI,q,Y,dA,eP T];exact(congrArg (λr=>qq ψ R g.length (lT (pbind r _)) _ _) q2).mpr (.m0 he)
  have aF:=Iw Z (by have:=A.nv;have:(G++g).length<=16:=this;omega) aE;have aG:eX (G'++g) ((ox f).1.h8 ψ g.length):=O.OV J.ty g _ rfl rfl
  have c3:kb f' (((ox f).1.h8 ψ g.length).up 0 1):=by
   have:=O.Re J.ty (c:=1) (d:=(g.length:Int)) Zb Zb 0 Zb;rw[ka] at this;rw[<-this];exact c2.trans (O.Ns aF _ Zb)
  have key:∀w:PR,((ox f').2=0->w=.inl ((ox f').1,m'|||n'/2))->qq ψ R g.length (lT (fW (ox f').2 w)) (ox f).1 (fin (ox f).1 (m|||n/2)):=by
   intro w hw;rcases Mh t2 Zb l aG c3 with e|⟨e,c4⟩
   ·rw[fy (by rcases e with e|e|e<;>rw[e]<;>decide)];exact .m0 e
   ·rw[ej e,hw e];exact .fU (Q.zero _) J.ty c4 (Q.or K (Q.half r2))
  rcases hk with⟨rfl,rfl⟩|⟨rfl,rfl,aq⟩
  ·rw[pK,q,Y,dA,eP T];refine(congrArg (λr=>qq ψ R g.length (lT (pbind r _)) _ _) q2).mpr ?_;exact key _ λ_=>rfl
  ·rw[pI,q,Y,dA,eP T];refine(congrArg (λr=>qq ψ R g.length (lT (pbind r _)) _ _) q2).mpr ?_;exact key _ λ_=>eP (by rw[Q.low r2 aq];decide)
 |@ind g0 hs t F a b x y m n hF N ai ha hx aH ay aI aJ hb hy aK az ar p S=>
  rintro g d k l rfl rfl A j C hw;refine qq.hg hw j ?_;rw[Pf.eE η _ _ Zk] at hw|-;rw[Pf.fk];simp only[h9,jc,Pf.o9,show qU 16 0=0 from rfl,show pA 16 0=0 from rfl,show qU 16 (0+1)=1 from rfl,show pA 16 (0+1)=1 from rfl,show EP 16=1 from rfl,oH] at hw|-;obtain⟨wt,wf,wp⟩:=hw.parts;have D:(G'++g).length<=16:=j.nv;have ah:(G++g).length<=16:=A.nv;have E:=O.ty N;have ae:(ψ t g.length).err=0:=wt _ aae;obtain⟨ho,an⟩:=iC ae
  have o:Hg (G'++g++[.nat]) (F.h8 ψ ((g.length+1:Nat):Int)):=⟨wf _ aae,by
   have:=O.OV hF.ty (g++[.nat]) ((g.length+1:Nat):Int) aae aae
   rwa [<-ml] at this⟩
  generalize aa:F.h8 ψ ((g.length+1:Nat):Int)=F' at*;have ax:=o.afq;rw[Bk,ej (jT o.ty j.ctx.nat (by have:=D;simp only[oG,hQ,o7] at this|-;omega)),ej (show jb _ _ 1=0 from wa E j.ctx Zb)];rcases p g _ _ l rfl rfl A j C (wp _ aae)with⟨e,he,q⟩|⟨V,m',q,B,K,t1⟩
  ·rw[q];exact .m0 he
  have M:∀{u:Tm},u.ok=true->(Fm.ei 0 F u).h8 ψ g.length=Fm.ei 0 F' (ψ u g.length):=by
   intro u hu;have:=O.CD hF.ty hu (d:=(g.length:Int)) Zb 0 Zb;rw[ka] at this;rw[this,<-aa];rfl
  have cz:ψ k_ g.length=k_:=O.cl (g:=[]) (s:=.nat) .zero aae
  have hc:kb (Fm.ei 0 F' k_) V:=by
   rw[<-cz,<-M Zk];exact(O.Ns (oi (hF.ty.put .zero) hx.ty ay) _ Zb).trans B.symm
  rw[q];rcases sE (m:=m') o.ty (t:=k_) .zero t1 Zb hc with⟨e,he,q2⟩|q2
  ·rw[q2];exact .m0 he
  rw[q2,dA]
  by_cases T:16<(G'++g).length+1\/16<l.length+1
  ·rw[ft T];exact .m0 tN
  rw[eP T];have ab:=(A.nC Ty.ek Zb).with (f:=F) hF (by show(hs.map (Fm.up 0 1)).length+1<=16;simp;omega);have ad:=(j.nC Ty.ek Zb).with (f:=F') o (by show(l.map (Fm.up 0 1)).length+1<=16;simp;omega);rw[ml G' g [_]] at ad;have ih:=S (g++[.nat]) (g.length+1) (k+1) _ aae aae ab ad (HH.Sz (HH.below [.nat] C (λf J=>(A.afv f J).ty)) (by rw[show((g++[Ty.nat]).length:Int)=((g.length+1:Nat):Int) by simp,aa];exact .refl o.ty)) (wp _ aae);rw[<-ml G' g [_]] at ih;rcases ih with⟨e,he,q3⟩|⟨y',n',q3,c2,r2,t2⟩
  ·refine(congrArg (λr=>qq ψ R g.length (lT (pbind (tK r _ _) _)) _ _) q3).mpr (.m0 he)
  refine(congrArg (λr=>qq ψ R g.length (lT (pbind (tK r _ _) _)) _ _) q3).mpr ?_;have cs:ψ (fA v0) ((g.length+1:Nat):Int)=fA v0:=O.cl (g:=[.nat]) (s:=.nat) (.succ (kK (g:=[]))) aaV;have aA:eX (G'++g++[.nat]++[.nat]) (F'.up 1 1):=o.GQ.ty
  have aB:kb (Fm.ei 0 (F'.up 1 1) (fA v0)) y':=by
   have e1:=O.CD (hF.GQ).ty (a:=fA v0) Zk (d:=((g.length+1:Nat):Int)) Zb 0 Zb;rw[ka,cs] at e1;have e2:=O.Re hF.ty (c:=1) (d:=(g.length:Int)) Zb Zb 1 Zb;rw[show(g.length:Int)+1+1=((g.length+1:Nat):Int)+1 by omega,show(g.length:Int)+1=((g.length+1:Nat):Int) by omega,aa] at e2;rw[e2] at e1;rw[<-e1];exact(O.Ns (oi (hF.GQ.ty.put (.succ kK)) hy.ty az) _ Zb).trans c2.symm
  rcases sE (m:=n') aA (t:=fA v0) (.succ kK) t2 (by have:=D;simp only[oG,hQ,o7] at this|-;omega) aB with⟨e,he,q4⟩|q4
  ·rw[q4];exact .m0 he
  rw[q4,dA];rcases Bm F' (ψ t g.length) ((jZ (ψ t g.length)|||m')|||n'/2)with e|e
  ·rw[e];exact .m0 sP
  rw[e];exact .fU (Q.zero _) (hF.ty.put N) (by rw[M N.ok];exact .refl (o.ty.put E)) (Q.or (Q.or (Q.free N ah D) K) (Q.half r2))
 |@lists g0 hs t F a b x y m n hF N ai ha hx aH ay aI aJ hb hy aK az ar p S=>
  rintro g d k l rfl rfl A j C hw;refine qq.hg hw j ?_;rw[Pf.eE η _ _ Zk] at hw|-;rw[Pf.fk];simp only[h9,jc,Pf.o9,show qU 17 0=0 from rfl,show pA 17 0=0 from rfl,show qU 17 (0+1)=2 from rfl,show pA 17 (0+1)=1 from rfl,show EP 17=1 from rfl,oH] at hw|-;obtain⟨wt,wf,wp⟩:=hw.parts;have D:(G'++g).length<=16:=j.nv;have ah:(G++g).length<=16:=A.nv;have E:=O.ty N;have ae:(ψ t g.length).err=0:=wt _ aae;obtain⟨ho,an⟩:=iC ae
  have o:Hg (G'++g++[.hS]) (F.h8 ψ ((g.length+1:Nat):Int)):=⟨wf _ aae,by
   have:=O.OV hF.ty (g++[.hS]) ((g.length+1:Nat):Int) aae aae
   rwa [<-ml] at this⟩
  generalize aa:F.h8 ψ ((g.length+1:Nat):Int)=F' at*;have ax:=o.afq;rw[Bv,ej (jT o.ty j.ctx.hS (by have:=D;simp only[oG,hQ,o7] at this|-;omega)),ej (show jb _ _ 2=0 from wa E j.ctx Zb)];rcases p g _ _ l rfl rfl A j C (wp _ aae)with⟨e,he,q⟩|⟨V,m',q,B,K,t1⟩
  ·rw[q];exact .m0 he
  have M:∀{u:Tm},u.ok=true->(Fm.ei 0 F u).h8 ψ g.length=Fm.ei 0 F' (ψ u g.length):=by
   intro u hu;have:=O.CD hF.ty hu (d:=(g.length:Int)) Zb 0 Zb;rw[ka] at this;rw[this,<-aa];rfl
  have cz:ψ (.mk 7 0 .z []) g.length=.mk 7 0 .z []:=O.cl (g:=[]) (s:=.hS) .nil aae
  have hc:kb (Fm.ei 0 F' (.mk 7 0 .z [])) V:=by
   rw[<-cz,<-M Zk];exact(O.Ns (oi (hF.ty.put .nil) hx.ty ay) _ Zb).trans B.symm
  rw[q];rcases sE (m:=m') o.ty (t:=.mk 7 0 .z []) .nil t1 Zb hc with⟨e,he,q2⟩|q2
  ·rw[q2];exact .m0 he
  rw[q2,dA]
  by_cases T:16<(G'++g).length+2\/16<l.length+1
  ·rw[ft T];exact .m0 tN
  rw[eP T];have aL:=O.Re hF.ty (c:=1) (d:=(g.length:Int)) Zb Zb 1 Zb;have ab:=(A.DZ Zb).with (f:=F.up 1 1) (Hg.U5 hF) (by show(hs.map (Fm.up 0 2)).length+1<=16;simp;omega);have ad:=(j.DZ Zb).with (f:=F'.up 1 1) (Hg.U5 o) (by show(l.map (Fm.up 0 2)).length+1<=16;simp;omega)
  have aC:∀X:List Ty,X++g++[Ty.nat]++[Ty.hS]=X++(g++[.nat,.hS]):=by intro X;simp
  rw[aC G'] at ad
  have ih:=S (g++[.nat,.hS]) (g.length+2) (k+1) _ (aC G) aae ab ad (HH.Sz (HH.below [.nat,.hS] C (λf J=>(A.afv f J).ty)) (by
   rw[show((g++[Ty.nat,.hS]).length:Int)=(g.length:Int)+1+1 by simp;omega,aL,show(g.length:Int)+1=((g.length+1:Nat):Int) by omega,aa]
   exact .refl (Hg.U5 o).ty)) (wp _ aae)
  rw[<-aC G'] at ih;rcases ih with⟨e,he,q3⟩|⟨y',n',q3,c2,r2,t2⟩
  ·refine(congrArg (λr=>qq ψ R g.length (lT (pbind (tK r _ _) _)) _ _) q3).mpr (.m0 he)
  refine(congrArg (λr=>qq ψ R g.length (lT (pbind (tK r _ _) _)) _ _) q3).mpr ?_;have cs:ψ (.mk 8 0 .z [v1,v0]) ((g.length+2:Nat):Int)=.mk 8 0 .z [v1,v0]:=O.cl (g:=[.nat,.hS]) (s:=.hS) (.cons (rP (g:=[])) (kK (g:=[.nat]))) aaV;have aA:eX (G'++g++[.nat]++[.hS]++[.hS]) (F'.up 1 2):=o.G_.ty
  have aB:kb (Fm.ei 0 (F'.up 1 2) (.mk 8 0 .z [v1,v0])) y':=by
   have e1:=O.CD (hF.G_).ty (a:=.mk 8 0 .z [v1,v0]) Zk (d:=((g.length+2:Nat):Int)) Zb 0 Zb;rw[ka,cs] at e1;have e2:=O.Re hF.ty (c:=2) (d:=(g.length:Int)) Zb Zb 1 Zb;rw[show(g.length:Int)+1+2=((g.length+2:Nat):Int)+1 by omega,show(g.length:Int)+1=((g.length+1:Nat):Int) by omega,aa] at e2;rw[e2] at e1;rw[<-e1];exact(O.Ns (oi (hF.G_.ty.put (.cons rP kK)) hy.ty az) _ Zb).trans c2.symm
  rcases sE (m:=n') aA (t:=.mk 8 0 .z [v1,v0]) (.cons rP kK) t2 (by have:=D;simp only[oG,hQ,o7] at this|-;omega) aB with⟨e,he,q4⟩|q4
  ·rw[q4];exact .m0 he
  rw[q4,dA];rcases Bm F' (ψ t g.length) ((jZ (ψ t g.length)|||m')|||n'/4)with e|e
  ·rw[e];exact .m0 sP
  rw[e]
  exact .fU (Q.zero _) (hF.ty.put N) (by rw[M N.ok];exact .refl (o.ty.put E)) (Q.or (Q.or (Q.free N ah D) K) (by
   have:=Q.half (Q.half r2);rw[VK,VK] at this
   exact this))
 |@refl g0 hs t N ai J=>
  rintro g d k l rfl rfl A j C hw;refine qq.hg hw j ?_;rw[Pf.eE η _ _ Zk] at hw|-;rw[Pf.fk];simp only[h9,jc,Pf.o9] at hw|-;obtain⟨wt,_,_⟩:=hw.parts;have D:(G'++g).length<=16:=j.nv;have E:=O.ty N;have ae:(ψ t g.length).err=0:=wt _ aae;obtain⟨ho,an⟩:=iC ae;rw[Be,ej (show jb _ _ 1=0 from wa E j.ctx Zb),<-rL (.mk 1 .z [t,t] [])];exact .fU (Q.zero _) J.ty (by rw[tY];exact .refl (.eq E E)) (Q.zero _)
 |@subst g0 hs F a b t u f m n hF ha N hu ai aR hb Z aS hm aT p S=>
  rintro g d k l rfl rfl A j C hw;refine qq.hg hw j ?_;rw[Pf.eE η _ _ Zk] at hw|-;rw[Pf.fk];simp only[h9,jc,Pf.o9,show qU 19 0=0 from rfl,show pA 19 0=0 from rfl,show qU 19 (0+1)=0 from rfl,show pA 19 (0+1)=0 from rfl,show EP 19=1 from rfl,oH] at hw|-;obtain⟨_,wf,wp⟩:=hw.parts;have D:(G'++g).length<=16:=j.nv
  have o:Hg (G'++g++[.nat]) (F.h8 ψ ((g.length+1:Nat):Int)):=⟨wf _ aae,by
   have:=O.OV hF.ty (g++[.nat]) ((g.length+1:Nat):Int) aae aae
   rwa [<-ml] at this⟩
  generalize aa:F.h8 ψ ((g.length+1:Nat):Int)=F' at*;have ax:=o.afq;rw[A0,ej (jT o.ty j.ctx.nat (by have:=D;simp only[oG,hQ,o7] at this|-;omega))];rcases p g _ _ l rfl rfl A j C (wp _ aae)with⟨e,he,q⟩|⟨z',m',q,B,K,t1⟩
  ·rw[q];exact .m0 he
  rw[tY] at B;obtain⟨t',u',rfl,ct,cu⟩:=B.eq_inv
  obtain⟨E,aM⟩:dd (G'++g) t' .nat/\dd (G'++g) u' .nat:=by
   obtain⟨x,y,e,h1,h2⟩:=t1.ty.Ix (Fm.c8 _ _ _ _);simp at e;obtain⟨rfl,rfl⟩:=e;exact⟨h1,h2⟩
  rw[q,tE (Fm.c8 1 .z _ _),dA];show qq ψ R g.length (lT (pbind (tK ((b.h8 ψ η g.length k).inf L' (G'++g) l) F' t') λ_ n=>fW (gH F' u').2 (.inl ((gH F' u').1,n)))) _ _;rcases S g _ _ l rfl rfl A j C (wp _ aae)with⟨e,he,q2⟩|⟨f',n',q2,c2,r2,t2⟩
  ·rw[q2];exact .m0 he
  have M:∀{w:Tm},w.ok=true->(Fm.ei 0 F w).h8 ψ g.length=Fm.ei 0 F' (ψ w g.length):=by
   intro w hw;have:=O.CD hF.ty hw (d:=(g.length:Int)) Zb 0 Zb;rw[ka] at this;rw[this,<-aa];rfl
  have hc:kb (Fm.ei 0 F' t') f':=by
   refine((kb.refl o.ty).ei ct Zb).trans ?_;rw[<-M N.ok];exact(O.Ns (oi (hF.ty.put N) Z.ty hm) _ Zb).trans c2.symm
  rw[q2];rcases sE (m:=n') o.ty E t2 Zb hc with⟨e,he,q3⟩|q3
  ·rw[q3];exact .m0 he
  rw[q3,dA];rcases Bm F' u' n' with e|e
  ·rw[e];exact .m0 sP
  rw[e];exact .fU (Q.zero _) (hF.ty.put hu) (by rw[M hu.ok];exact(kb.refl o.ty).ei cu Zb) r2
 |@choice g0 hs a s u y m ha l aM hy aN aU J p=>
  rintro g d k W rfl rfl A j C hw;refine qq.hg hw j ?_;rw[Pf.eE η _ _ Zk] at hw|-;rw[Pf.fk];simp only[h9,Pf.o9,show qU 20 0=0 from rfl,show pA 20 0=0 from rfl,oH] at hw|-;obtain⟨_,_,wp⟩:=hw.parts;rw[yo];rcases p g _ _ W rfl rfl A j C (wp _ aae)with⟨e,he,q⟩|⟨z',m',q,B,K,t1⟩
  ·rw[q];exact .m0 he
  rw[pG (.inl rfl),pG (.inr (.inl rfl))] at B;obtain⟨w',hz,c2⟩:=B.E9;clear B;subst hz;obtain⟨y',hz,B⟩:=c2.E9;clear c2;subst hz;rw[q,tE (Fm.c8 4 s [] _),dA];show qq ψ R g.length (lT (mX ((5:Int)≠5) 10 (mX ((Ty.fn s u).err≠0) 4 (mX ((gH (y'.up 2 1) (eS v1 v0)).2≠0) 4 (.inl (.mk 5 (Ty.fn s u) [] [.mk 4 s [] [(gH (y'.up 2 1) (eS v1 v0)).1]],m')))))) _ _;rw[eP Zk,eP (λh=>h aN)];rcases gO (y'.up 2 1) (eS v1 v0)with hq|⟨_,hq⟩
  ·rw[hq,ft Zk];exact .m0 sP
  rw[hq,eP (λh=>h rfl)];refine .fU (Q.zero _) J.ty ?_ K;rw[pG (.inr (.inl rfl)),pG (.inl rfl)];refine .q (.q ?_);have cs:ψ (eS v1 v0) ((g.length:Int)+1+1)=eS v1 v0:=O.cl (g:=[.fn s u,s]) (s:=u) (.app (rP (g:=[])) (kK (g:=[.fn s u]))) aaV
  have aO:eX (G++g++[.fn s u]++[s]++[u]) (y.up 2 1):=by
   have:=hy.ty.up (G++g) [s,u] [.fn s u] aae;simpa using this
  have e1:=O.CD aO (a:=eS v1 v0) Zk (d:=(g.length:Int)+1+1) Zb 0 Zb;rw[ka,cs] at e1;have e2:=O.Re hy.ty (c:=1) (d:=(g.length:Int)) Zb Zb 2 Zb;rw[show(g.length:Int)+2+1=(g.length:Int)+1+1+1 by omega,show(g.length:Int)+2=(g.length:Int)+1+1 by omega] at e2;rw[e1,e2];exact(B.up Zb Zb).ei (.refl Zk) Zb
def dd.fix{g:List Ty}{t:Tm}{s:Ty}(h:dd g t s):∀d:Int,(g.length:Int)<=d->(∀c,t.up d c=t)/\∀a,Tm.ei d t a=t:=by
 induction h with
 |@var g s i hi hs=>
  intro d b;refine⟨λc=>by rw[Tm.dV,cJ Zb];rfl,λa=>?_⟩;rw[Tm.dQ,cL rfl];unfold Tm.jO;rw[cJ Zb,cJ Zb]
 |lam hs _ k=>
  intro d b;have:=k (d+1) aaV;exact⟨λc=>by rw[Tm.dV];simp[show dr 2=1 from rfl,this.1],λa=>by rw[Tm.dQ];simp[show dr 2=1 from rfl,this.2]⟩
 |app _ _ e f=>intro d b;exact⟨λc=>by rw[Tm.dV];simp[show dr 3=0 from rfl,(e d b).1,(f d b).1],λa=>by rw[Tm.dQ];simp[show dr 3=0 from rfl,(e d b).2,(f d b).2]⟩|zero=>intro d b;exact⟨λc=>by rw[Tm.dV];simp,λa=>by rw[Tm.dQ];simp⟩|succ _ k=>intro d b;exact⟨λc=>by rw[Tm.dV];simp[show dr 5=0 from rfl,(k d b).1],λa=>by rw[Tm.dQ];simp[show dr 5=0 from rfl,(k d b).2]⟩|m4 _ _ _ _ e f j=>intro d b;exact⟨λc=>by rw[Tm.dV];simp[show dr 6=0 from rfl,(e d b).1,(f d b).1,(j d b).1],λa=>by rw[Tm.dQ];simp[show dr 6=0 from rfl,(e d b).2,(f d b).2,(j d b).2]⟩|nil=>intro d b;exact⟨λc=>by rw[Tm.dV];simp,λa=>by rw[Tm.dQ];simp⟩|cons _ _ e f=>intro d b;exact⟨λc=>by rw[Tm.dV];simp[show dr 8=0 from rfl,(e d b).1,(f d b).1],λa=>by rw[Tm.dQ];simp[show dr 8=0 from rfl,(e d b).2,(f d b).2]⟩|fold _ _ _ _ e f j=>intro d b;exact⟨λc=>by rw[Tm.dV];simp[show dr 9=0 from rfl,(e d b).1,(f d b).1,(j d b).1],λa=>by rw[Tm.dQ];simp[show dr 9=0 from rfl,(e d b).2,(f d b).2,(j d b).2]⟩|pair _ _ _ e f=>intro d b;exact⟨λc=>by rw[Tm.dV];simp[show dr 10=0 from rfl,(e d b).1,(f d b).1],λa=>by rw[Tm.dQ];simp[show dr 10=0 from rfl,(e d b).2,(f d b).2]⟩|fst _ k=>intro d b;exact⟨λc=>by rw[Tm.dV];simp[show dr 11=0 from rfl,(k d b).1],λa=>by rw[Tm.dQ];simp[show dr 11=0 from rfl,(k d b).2]⟩|snd _ k=>intro d b;exact⟨λc=>by rw[Tm.dV];simp[show dr 12=0 from rfl,(k d b).1],λa=>by rw[Tm.dQ];simp[show dr 12=0 from rfl,(k d b).2]⟩|unit=>intro d b;exact⟨λc=>by rw[Tm.dV];simp,λa=>by rw[Tm.dQ];simp⟩
def aad(G:List Ty):E7 G G (λt _=>t):=⟨λh=>h,λ_ h=>h,λ_ _ _ _=>rfl,λ_ _ _ _=>rfl,λ_ _=>rfl⟩
def PB(G e:List Ty):E7 G (G++e) (λt d=>t.up d e.length) where
 ty h:=h.up G _ e rfl
 cv b h:=h.up b Zb
 ei:=by
  intro t a n d f i hn b;have:=Kv a t n (d+n) e.length f hn Zb Zb;rw[show d+n-n=d by omega] at this;exact this
 up:=by
  intro t n c d f hn g b;have:=P9 t n (d+n+c) c e.length hn g Zb Zb;rw[show d+n+c-c=d+n by omega] at this;exact this
 cl h b:=(h.fix _ b).1 _
def Rx(c d m a:Nat):Prop:=∀i,a.testBit i=if i<d then m.testBit i else if i<d+c then false else m.testBit (i-c)
def xB(m i:Nat):(m/2).testBit i=m.testBit (i+1):=by rw[aat]
def SN(G e:List Ty):Rl G (G++e) (λt d=>t.up d e.length) (Rx e.length) where
 zero d i:=aae
 or {d a l b u} h o i:=by
  rw[IW,IW,IW,h i,o i]
  by_cases f:i<d
  ·rw[cL f,cL f,cL f]
  ·rw[cJ f,cJ f,cJ f]
   by_cases c:i<d+e.length
   ·rw[cL c,cL c,cL c];rfl
   ·rw[cJ c,cJ c,cJ c]
 half {d a l} h i:=by
  rw[xB,h (i+1),xB,xB]
  by_cases f:i<d
  ·rw[cL f,cL Zb]
  ·rw[cJ f,cJ Zb]
   by_cases c:i<d+e.length
   ·rw[cL c,cL Zb]
   ·rw[cJ c,cJ Zb,show i+1-e.length=i-e.length+1 by omega]
 low {d a l} h p:=by rw[h 0,cL Zb];exact p
 free {g t s} h f c i:=by
  have q:(G++e++g).length<=16:=c;simp only[oG] at q f;have m:∀j:Int,((G++g).length:Int)<=j->t.afw j=0:=λj r=>h.Ai j r;simp only[oG] at m;rw[vR,tz]
  by_cases n:i<g.length
  ·rw[cL n,tz,MH t _ _ i Zb Zb]
  ·rw[cJ n]
   by_cases c:i<g.length+e.length
   ·rw[cL c,sC t _ _ i Zb Zb];simp
   ·rw[cJ c,tz,EV t _ _ i Zb Zb Zb,show(i:Int)-e.length=((i-e.length:Nat):Int) by omega];constructor
    ·rintro⟨_,k⟩;exact⟨Zb,k⟩
    ·rintro⟨_,k⟩;refine⟨LY λv=>?_,k⟩;rw[m _ Zb] at k;omega
def Rw(d m a:Nat):Prop:=∀i,i<d->a.testBit i=true->m.testBit i=true
def R9{G G':List Ty}{ψ:Tm->Int->Tm}(e:∀{g:List Ty} {t:Tm} {s:Ty},dd (G++g) t s->∀v:Int,0<=v->v<g.length->(ψ t g.length).afw v=t.afw v):Rl G G' ψ Rw where
 zero d i:=aae
 or h f i hi b:=by
  rw[IW,mu] at b|-;exact b.imp (h i hi) (f i hi)
 half h i hi b:=by rw[xB] at b|-;exact h (i+1) Zb b
 low {d a j} h c:=by
  cases b:j.testBit 0 with
  |false=>rfl|true=>rw[h 0 Zb b] at c;exact c
 free h k l i hi b:=by
  rw[tz] at b|-;rw[e h i Zb Zb] at b;exact b
def adh(G:List Ty):Rl G G (λt _=>t) Rw:=R9 λ_ _ _ _=>rfl
def ηs(K:Nat):Nat->Nat->Int->Pf:=λ_ k i=>.mk 1 (if i<(k:Int)then i else i+K) .z [] [] []
def Hs(ψ:Tm->Int->Tm)(K:Nat)(g:List Ty)(k:Nat)(hs a:List Fm):Prop:=∀(i:Nat) (f:Fm),hs.reverse[i]?=some f->∃f',a.reverse[if i<k then i else i+K]?=some f'/\kb f' (f.h8 ψ g.length)
def Hr{L:List Fm}{g:List Ty}{hs:List Fm}(a:qY L ⟨g,hs⟩){i:Nat}{f:Fm}(h:hs.reverse[i]?=some f):(Pf.mk 1 (i:Int) .z [] [] []).inf L g hs=.inl (f,0):=by
 have hi:i<hs.length:=by simpa using(qR.1 h).1
 rw[VU hi] at h;have b:Hg g f:=a.afv f (AY h);rw[Pf.fk,I8,eP Zb,show((i:Nat):Int).toNat=i from rfl,F3,h];show lT (.inl (f,0))=_;rw[xI b.err]
 split<;>rfl
def JX{hs:List Fm}{i:Int}{f:Fm}(a:i<(hs.length:Int))(h:hs[hs.length-1-i.toNat]?=some f)(b:0<=i):hs.reverse[i.toNat]?=some f:=by
 rw[VU Zb];exact h
def Pu{ψ:Tm->Int->Tm}{G G':List Ty}(O:E7 G G' ψ){g:List Ty}{f f':Fm}(l:List Ty)(a:eX (G++g) f)(b:kb f' (f.h8 ψ g.length)):kb (f'.up 0 l.length) ((f.up 0 l.length).h8 ψ ((g++l).length:Nat)):=by
 have:=O.Re a (c:=l.length) (d:=(g.length:Int)) Zb Zb 0 Zb;rw[ka] at this;rw[show(((g++l).length:Nat):Int)=(g.length:Int)+l.length by simp,this];exact b.up Zb Zb
def PH{L':List Fm}{G G':List Ty}{ψ:Tm->Int->Tm}{R:Nat->Nat->Nat->Prop}(O:E7 G G' ψ)(Q:Rl G G' ψ R)(K:Nat):Sk L' G G' ψ (ηs K) R (Hs ψ K) where
 leaf:=by
  intro g k hs h i f j n d hi hg a hw;obtain⟨f',c,m⟩:=j i.toNat f (JX hi hg d)
  have e:ηs K g.length k i=.mk 1 (((if i.toNat<k then i.toNat else i.toNat+K:Nat)):Int) .z [] [] []:=by
   unfold ηs
   congr 1
   by_cases b:i<(k:Int)
   ·rw[cL b,cL Zb];omega
   ·rw[cJ b,cJ Zb];omega
  rw[e];exact .inr ⟨f',0,Hr n c,m,Q.zero _⟩
 below:=by
  intro g k hs h l j o i f a;rw[<-Pn,x_] at a;cases d:hs.reverse[i]?with
  |none=>rw[d] at a;cases a
  |some f0=>
   rw[d] at a;have a:f0.up 0 l.length=f:=hZ a;subst a;obtain⟨f',c,m⟩:=j i f0 d;refine⟨f'.up 0 l.length,by rw[<-Pn,x_,c];rfl,Pu O l (o f0 ?_) m⟩;exact Wd.1 (AY d)
 Sz:=by
  intro g k hs h x p j q i f a;rw[Sv,Xp,WA] at a|-;cases i with
  |zero=>
   have a:x=f:=hZ a;subst a;exact⟨p,by rw[cL Zb];rfl,q⟩
  |succ i=>
   obtain⟨f',c,m⟩:=j i f a;refine⟨f',?_,m⟩
   by_cases b:i<k
   ·rw[cL b] at c;rw[cL Zb];exact c
   ·rw[cJ b] at c;rw[cJ Zb,show i+1+K=i+K+1 by omega];exact c
def Fm.y8(c:Int)(f:Fm)(d:Int):f.h8 (λt d=>t.up d c) d=f.up d c:=by
 have:=Fm.BZ 0 c f d;simp only[NN] at this;exact this
def ηp(r:Pf):Nat->Nat->Int->Pf:=λd k i=>if i=(k:Int)then r.h8 (λt e=>t.up e d) (ηs k) 0 0 else .mk 1 (if(k:Int)<i then i-1 else i) .z [] [] []
structure Hp (hs0:List Fm) (y:Fm) (g:List Ty) (k:Nat) (hs hs':List Fm):Prop where
 ex:∃X Y:List Fm,hs=hs0.map (Fm.up 0 g.length)++[y.up 0 g.length]++X/\hs'=hs0.map (Fm.up 0 g.length)++Y/\X.length=k/\Y.length=k/\∀(i:Nat) (f:Fm),X.reverse[i]?=some f->∃f',Y.reverse[i]?=some f'/\kb f' f
def aaE{L:List Fm}{G:List Ty}{a:List Fm}{r:Pf}{y:Fm}{N:Nat}(O:Dv L G a r y N)(F:qY L ⟨G,a⟩):Sk L G G (λt _=>t) (ηp r) Rw (Hp a y) where
 leaf:=by
  intro g k hs v i f w p A hi hg b hw;obtain⟨X,Y,rfl,rfl,n,o,d⟩:=w.ex;have m:=JX hi hg A;rw[Sv,Sv,Xp,WA] at m;have s:f.h8 (λt _=>t) (g.length:Int)=f:=Fm.B4 f _
  by_cases H:i=(k:Int)
  ·subst H;rw[show ηp r g.length k (k:Int)=r.h8 (λt e=>t.up e g.length) (ηs k) 0 0 from cL rfl] at hw|-;rw[xo (by simp[n]),show((k:Nat):Int).toNat-X.reverse.length=0 by simp[n]] at m;have m:y.up 0 g.length=f:=hZ m
   have D:Hs (λt e=>t.up e g.length) k [] 0 a (a.map (Fm.up 0 g.length)++Y):=by
    intro j x I;refine⟨x.up 0 g.length,?_,?_⟩
    ·rw[cJ Zb,Sv,xo (by simp[o]),show j+k-Y.reverse.length=j by simp[o],<-Pn,x_,I];rfl
    ·rw[Fm.y8];exact .refl ((F.afv x (Wd.1 (AY I))).ty.lift g)
   have E:qY L ⟨G++g++[],a.map (Fm.up 0 g.length)++Y⟩:=by rw[Dn];exact p
   have:=O.sim (PB G g) (SN G g) (PH (L':=L) (PB G g) (SN G g) k) (λ_ _ h=>h) [] 0 0 _ aae rfl F E D hw;rw[Dn] at this;rcases this with h|⟨f',P,q,c,rr,_⟩
   ·exact .inl h
   ·refine .inr ⟨f',P,q,?_,λj S u=>?_⟩
    ·rw[s,<-m,<-Fm.y8];exact c
    ·rw[rr j,cJ Zb,cL Zb] at u;cases u
  ·rw[show ηp r g.length k i=.mk 1 (if(k:Int)<i then i-1 else i) .z [] [] [] from cJ H]
   by_cases B:(k:Int)<i
   ·rw[cL B];rw[xo (by simp[n];omega),show i.toNat-X.reverse.length=(i.toNat-1-k)+1 by simp[n];omega,iU] at m
    have C:(a.map (Fm.up 0 g.length)++Y).reverse[i.toNat-1]?=some f:=by
     rw[Sv,xo (by simp[o];omega),show i.toNat-1-Y.reverse.length=i.toNat-1-k by simp[o]];exact m
    have:=Hr p C;rw[show((i.toNat-1:Nat):Int)=i-1 by omega] at this;exact .inr ⟨f,0,this,by rw[s];exact .refl b.ty,λj _ u=>u⟩
   ·rw[cJ B];rw[uj (by simp[n];omega)] at m;obtain⟨f',C,Q⟩:=d _ _ m
    have R:(a.map (Fm.up 0 g.length)++Y).reverse[i.toNat]?=some f':=by
     rw[Sv,uj (by simp[o];omega)];exact C
    have:=Hr p R;rw[show((i.toNat:Nat):Int)=i by omega] at this;exact .inr ⟨f',0,this,by rw[s];exact Q,λj _ u=>u⟩
 below:=by
  intro g k hs v l w T;obtain⟨X,Y,rfl,rfl,n,o,d⟩:=w.ex
  have e:∀f:Fm,(f.up 0 g.length).up 0 l.length=f.up 0 (g++l).length:=λf=>by
   rw[Fm.Mz f Zb]
   congr 1
   simp
  have J:(a.map (Fm.up 0 g.length)).map (Fm.up 0 l.length)=a.map (Fm.up 0 (g++l).length):=by
   rw[wR];exact pg λf _=>e f
  refine⟨X.map (Fm.up 0 l.length),Y.map (Fm.up 0 l.length),?_,?_,by simpa using n,by simpa using o,λi f b=>?_⟩
  ·rw[SW,SW,J];simp only[jc,h9];rw[e]
  ·rw[SW,J]
  ·rw[<-Pn,x_] at b;cases A:X.reverse[i]?with
   |none=>rw[A] at b;cases b
   |some f0=>
    rw[A] at b;have b:f0.up 0 l.length=f:=hZ b;subst b;obtain⟨f',m,C⟩:=d i f0 A;exact⟨f'.up 0 l.length,by rw[<-Pn,x_,m];rfl,C.up Zb Zb⟩
 Sz:=by
  intro g k hs v x K w M;obtain⟨X,Y,rfl,rfl,n,o,d⟩:=w.ex;rw[Fm.B4] at M;refine⟨X++[x],Y++[K],aae,aae,by simp[n],by simp[o],λi f b=>?_⟩;rw[Sv,Xp,WA] at b|-;cases i with
  |zero=>
   have b:x=f:=hZ b;subst b;exact⟨K,rfl,M⟩
  |succ i=>exact d i f b
def pE{α β:Type}(g:Nat->α->β):Nat->List α->List β
 |_,[]=>[]|i,x::l=>g i x::pE g (i+1) l
def xD{α β ρ:Type}{F:Int->α->List β->Option (eK (List β) ρ)}(g:Nat->α->β):∀(l:List α) (i:Nat) (v:List β),v.length+l.length<=1000000000->(∀(j:Nat) (x:α) (v:List β),x∈l->j<i+l.length->v.length+1<=1000000000->F (j:Int) x v=some (.next (v++[g j x])))->eg F l i v=some (.inl (v++pE g i l))
 |[],i,v,_,_=>by simp[pE]|x::l,i,v,a,h=>by
  simp only[hQ] at a;rw[dq,h i x v aae aae Zb];simp only[cG,dt];rw[xD g l (i+1) (v++[g i x]) aaV λj y w hy b=>h j y w (by simp[hy]) aaV];simp[pE]
theorem ri(ψ:Tm->Int->Tm)(η:Nat->Nat->Int->Pf)(k:Int)(d h:Nat):∀(l:List Pf) (i:Nat),Pf.o9 ψ η k i d h l=pE (λj p=>p.h8 ψ η (d+qU k j) (h+pA k j)) i l
 |[],i=>by rw[Pf.o9,pE]|p::l,i=>by rw[Pf.o9,pE,ri ψ η k d h l]
def Dc{α β:Type}{g:Nat->α->β}{p:β->Bool}:∀(l:List α) (i:Nat),(∀j x,x∈l->p (g j x)=true)->(pE g i l).all p=true
 |[],i,_=>rfl|x::l,i,h=>by rw[pE,sb,h i x aae,Dc l (i+1) λj y hy=>h j y (by simp[hy])];rfl
def Cn{α β:Type}{g:Nat->α->β}:∀(l:List α) (i:Nat),(pE g i l).length=l.length
 |[],_=>rfl|x::l,i=>by rw[pE,hQ,Cn l,hQ]
def PZ{α β:Type}{g a:Nat->α->β}:∀(l:List α) (i:Nat),(∀j x,x∈l->g j x=a j x)->pE g i l=pE a i l
 |[],_,_=>rfl|x::l,i,h=>by rw[pE,pE,h i x aae,PZ l (i+1) λj y hy=>h j y (by simp[hy])]
def Rq{α β γ:Type}{g:Nat->α->β}{a:Nat->β->γ}:∀(l:List α) (i:Nat),pE a i (pE g i l)=pE (λj x=>a j (g j x)) i l
 |[],_=>rfl|x::l,i=>by rw[pE,pE,pE,Rq l (i+1)]
structure PfP (k j:Int) (u:Ty) (us:List Tm) (gs:List Fm) (ps:List Pf):Prop where
 s:u.afq<=64
 n:ps.length<=2
 i:0<=j
 ts:∀t∈us,t.ok=true
 fs:∀f∈gs,f.ok=true
 l:∀p∈ps,p.ok=true
 hyp:k=1->u=.z/\us=[]/\gs=[]/\ps=[]
def Pf.Qz{k i:Int}{s:Ty}{ts:List Tm}{fs:List Fm}{l:List Pf}(h:(Pf.mk k i s ts fs l).ok=true):PfP k i s ts fs l:=by
 rw[Pf.eu] at h;simp only[ew,gR] at h;obtain⟨⟨⟨e,j⟩,m⟩,n⟩:=h;cases d:Pf.sig k with
 |none=>unfold Pf.node at e;rw[d] at e;cases e
 |some r=>
  obtain⟨v,ty,a,b,c⟩:=r;obtain⟨q1,o,p,q,w,t,f⟩:=fS e d
  have u:c<=2/\(k=1->a=0/\b=0/\c=0/\ty=false):=by
   unfold Pf.sig at d
   repeat' split at d
   all_goals first
    |(cases d;done)
    |(simp only[zq,Ln] at d
      obtain⟨rfl,rfl,rfl,rfl,rfl⟩:=d;refine⟨Zb,λg=>?_⟩
      first|(refine⟨rfl,rfl,rfl,rfl⟩;done)|omega)
  refine⟨?_,Zb,q,j,m,n,λg=>?_⟩
  ·cases ty with
   |true=>exact dx (t rfl)|false=>rw[f rfl];decide
  ·obtain⟨rfl,rfl,rfl,rfl⟩:=u.2 g;exact⟨f rfl,eh.1 q1,eh.1 o,eh.1 p⟩
def Pf.eY(P:Pf):P.ok=true->P.wt<=65*P.afq:=by
 induction P using Pf.ind with
 |h k i s ts fs l d=>
  intro e;have b:=Pf.Qz e;rw[Pf.dD,Pf.cK];have j:=pV (f:=Tm.wt) (g:=Tm.afq) (c:=65) (l:=ts) λx a=>x.eY (b.ts x a);have m:=pV (f:=Fm.wt) (g:=Fm.afq) (c:=65) (l:=fs) λx a=>x.eY (b.fs x a);have n:=pV (f:=Pf.wt) (g:=Pf.afq) (c:=65) (l:=l) λx a=>d x a (b.l x a);have:=b.s;omega
def Pf.M5{ψ:Tm->Int->Tm}{η:Nat->Nat->Int->Pf}(m:∀(t:Tm) (d:Nat),t.ok=true->(ψ t d).ok=true)(n:∀(f:Fm) (d:Nat),f.ok=true->(f.h8 ψ d).ok=true)(o:∀d k i,0<=i->(η d k i).ok=true)(P:Pf):∀d h:Nat,P.ok=true->(P.h8 ψ η d h).ok=true:=by
 induction P using Pf.ind with
 |h k i s ts fs l p=>
  intro d h b;have c:=Pf.Qz b
  by_cases g:k=1
  ·subst g;rw[Pf.tj];exact o _ _ _ c.i
  ·rw[Pf.eE η _ _ g,Pf.eu,ri];rw[Pf.eu] at b;simp only[ew] at b;simp only[ew,EB,Cn];refine⟨⟨⟨b.1.1.1,?_⟩,?_⟩,Dc l 0 λj x a=>p x a _ _ (c.l x a)⟩
   ·rw[gR];intro x a;obtain⟨t,e,rfl⟩:=nj.1 a;exact m t d (c.ts t e)
   ·rw[gR];intro x a;obtain⟨t,e,rfl⟩:=nj.1 a;exact n t _ (c.fs t e)
theorem M0{i:Int}(h:0<=i):(Pf.mk 1 i .z [] [] []).ok=true:=by rw[Pf.eu];simp[Pf.node,Pf.sig,h,Ty.jW]
def I0:∀(n:Nat) (P:Pf) (f b h:Nat),P.wt<=n->P.wt<=100000000->P.ok=true->P.afu 1000000000000=true->f+10*P.wt<=2000000000->b<=1000000000->zW n P f b=some (P.h8 (λt d=>t.up d b) (ηs 0) f h):=by
 intro n
 induction n with
 |zero=>intro P f b h hn;have:=P.eL;omega
 |succ n o=>
  intro P f b h hn hw q c r u;cases P with
  |mk k i s ts fs l=>
   have g:=Pf.Qz q;rw[Pf.dD] at hn hw r;rw[Pf.dj] at c;simp only[ew,gR] at c;have w:=er Tm.wt ts λt _=>t.eL;have y:=er Fm.wt fs λt _=>t.eL
   have z:EP k<=1:=by unfold EP;split<;>omega
   have A:=g.n;rw[zW];simp only[Pf.eF,Pf.rJ,Pf.cX,Pf.c8,Pf.dX,Pf.ds,cO]
   rw[cQ Zb,cM,eW (Tm.up f b) ts 0 [] aaV (λj x v a e=>by
    have:=cV Tm.wt a;have:=x.eJ
    rw[p8 FU x f b (by rw[dn];omega) Zb Zb Zb Zb Zb (c.1.1 x a),cG,di (by simpa using e),cM,ec]),cG,cR,cQ Zb,cM,eW (λF=>F.up ((f+EP k:Nat):Int) b) fs 0 [] aaV (λj x v a e=>by
    have:=cV Fm.wt a;have:=x.eJ
    rw[um,cG,dk Zb Zb,lX FU x ((f:Int)+(EP k:Nat)) b (by rw[dn];omega) Zb Zb Zb Zb Zb (c.1.2 x a),cG,di (by simpa using e),cM,ec];rfl),cG,cR,cQ Zb,cM,xD (λj p=>p.h8 (λt d=>t.up d b) (ηs 0) (f+qU k j) (h+pA k j)) l 0 [] aaV (λj x v a C e=>by
    have:=cV Pf.wt a;have B:=KG k j
    rw[vj k j Zb,cG,dk Zb Zb,show(f:Int)+((qU k j:Nat):Int)=((f+qU k j:Nat):Int) by omega,o x (f+qU k j) b (h+pA k j) Zb Zb (g.l x a) (c.2 x a) Zb u,cG,di (by simpa using e),cM,ec]),cG,cR]
   by_cases m:k=1
   ·subst m;obtain⟨rfl,rfl,rfl,rfl⟩:=g.hyp rfl;rw[Pf.tj];unfold ηs;simp[pE]
   ·rw[Pf.eE _ _ _ m,ri];simp[Fm.y8]
def EO(m:Int):∀(n:Nat) (P:Pf),P.wt<=n->P.wt<=1000000000->u7 n P m=some (P.afu m):=by
 intro n
 induction n with
 |zero=>intro P h;have:=P.eL;omega
 |succ n b=>
  intro P hn c;cases P with
  |mk k i s ts fs l=>
   rw[Pf.dD] at hn c;have d:=er Tm.wt ts λt _=>t.eL;have e:=er Fm.wt fs λt _=>t.eL;have f:=er Pf.wt l λt _=>t.eL;rw[Pf.dj,u7];simp only[Pf.eF,Pf.rJ,Pf.cX,cO]
   rw[cQ Zb,cM,jU (Tm.afu m) false ts 0 (λj x a=>by
    have:=cV Tm.wt a;have:=x.eJ
    rw[oh FU x m (by rw[dn];omega) Zb,cG])]
   cases ts.all (Tm.afu m)with
   |false=>rfl|true=>
    rw[cL rfl,cG,cR,cQ Zb,cM,jU (Fm.afu m) false fs 0 (λj x a=>by
     have:=cV Fm.wt a;have:=x.eJ
     rw[tF FU x m (by rw[dn];omega) Zb,cG])]
    cases fs.all (Fm.afu m)with
    |false=>rfl|true=>
     rw[cL rfl,cG,cR,cQ Zb,cM,jU (Pf.afu m) false l 0 (λj x a=>by
      have:=cV Pf.wt a
      rw[b x Zb Zb,cG])]
     cases l.all (Pf.afu m)with
     |false=>rfl|true=>rfl
def KO{L:List Fm}{q:Sq}(d:qY L q){P:Pf}{f b:Fm}{l:List Int}(k:iK L q P=some (⟨f,l⟩,0))(j:Hg q.afs f)(c:Hg q.afs b):lK L q P b=some (f.tC b):=by
 have hw:=j.wt;have m:=c.wt;have g:=d.nv
 have e:yb b q.afs=0:=by
  unfold yb;rw[vy d.ctx g,cJ Zk,cJ (λh=>h c.err)];exact jT c.ty d.ctx (by have:=c.afq;omega)
 unfold lK;rw[k,cI,cJ nz,m8 Zb Zb (λt n=>by have:=dx (d.ctx t n);omega),e,cG,cJ nz];show(cH (gZ f b) λi=>some i)=_;rw[(BE (a:=f) (b:=b) Zb Zb).1,zF j c Zb Zb];rfl
def Gh{e:Int}(h:e=0\/kx e):ux e=some true:=by
 rcases h with rfl|rfl|rfl|rfl<;>rfl
def Rt.dv{L:List Fm}{q:Sq}{P:Pf}{f:Fm}{m:Nat}(h:Rt L q P f m)(c:qY L q):Dv L q.afs q.afv P f m:=by
 obtain⟨a,b,_⟩:=gq h.err;exact(Dv.of (P.w a b) q.afs q.afv f m c h.inf).1
def Pf.LN(b K:Nat)(P:Pf):∀d h:Nat,P.ok=true->(P.h8 (λt d=>t.up d b) (ηs K) d h).afq=P.afq/\(P.small=true->(P.h8 (λt d=>t.up d b) (ηs K) d h).small=true):=by
 induction P using Pf.ind with
 |h k i s ts fs l u=>
  intro d h v;have c:=Pf.Qz v
  by_cases n:k=1
  ·subst n;obtain⟨rfl,rfl,rfl,rfl⟩:=c.hyp rfl;rw[Pf.tj];unfold ηs;rw[Pf.cK,Pf.cK];exact⟨rfl,λ_=>by rw[Pf.o_];rfl⟩
  ·have key:∀(m:List Pf) (i:Nat),(∀p∈m,p∈l)->cN Pf.afq (pE (λj p=>p.h8 (λt d=>t.up d b) (ηs K) (d+qU k j) (h+pA k j)) i m)=cN Pf.afq m/\(m.all Pf.small=true->(pE (λj p=>p.h8 (λt d=>t.up d b) (ηs K) (d+qU k j) (h+pA k j)) i m).all Pf.small=true):=by
    intro m
    induction m with
    |nil=>intro i _;exact⟨rfl,λh=>h⟩|cons p m e=>
     intro i hm;have o:=u p (hm p aae) (d+qU k i) (h+pA k i) (c.l p (hm p aae));have q:=e (i+1) λx a=>hm x (by simp[a]);rw[pE];simp only[cN,sb,ew];exact⟨by rw[o.1,q.1],λhs=>⟨o.2 hs.1,q.2 hs.2⟩⟩
   have r:=key l 0 λp c=>c;rw[Pf.eE _ _ _ n,Pf.cK,Pf.cK,ri,gx,gx,r.1];refine⟨?_,λhs=>?_⟩
   ·rw[ig (l:=ts) (λx _=>x.jo d b),ig (l:=fs) (g:=Fm.afq) (λx _=>by rw[Fm.y8];exact x.jo _ _)]
   ·rw[Pf.o_] at hs|-;simp only[ew,gR] at hs|-;refine⟨⟨λx a=>?_,λx a=>?_⟩,λx a=>?_⟩
    ·obtain⟨t,f,rfl⟩:=nj.1 a;have:=hs.1.1 t f;unfold E4 at this|-;rw[t.jo];exact this
    ·obtain⟨t,f,rfl⟩:=nj.1 a;have:=hs.1.2 t f;unfold Ho at this|-;rw[Fm.y8,t.jo];exact this
    ·exact gR.1 (r.2 (gR.2 hs.2)) x a
def ηs_ok(K:Nat):∀(d k:Nat) (i:Int),0<=i->(ηs K d k i).ok=true:=λd k i hi=>M0 (by split<;>omega)
theorem Pf.re(b K:Nat)(P:Pf)(d h:Nat)(a:P.ok=true):(P.h8 (λt d=>t.up d b) (ηs K) d h).ok=true:=
 P.M5 (λt d c=>by rw[Tm.re t d b Zb Zb];exact c) (λf d e=>by rw[Fm.y8,Fm.re f d b Zb Zb];exact e) (ηs_ok K) d h a
def Un{L:List Fm}{q:Sq}(a:qY L q){P:Pf}(hw:P.wt<=1000000000)(f:P.ok=true){b:Fm}(i:Hg q.afs b)(h:P.Ws->(∃e,kx e/\P.inf L q.afs q.afv=.inr e)\/∃f' g,P.inf L q.afs q.afv=.inl (f',g)/\kb f' b):∃e,lK L q P b=some e/\(e=0\/kx e):=by
 have no:∀e,kx e->iK L q P=some (⟨eA,[]⟩,e)->∃e,lK L q P b=some e/\(e=0\/kx e):=by
  intro e he j;refine⟨e,?_,.inr he⟩;unfold lK;rw[j,cI,cL (by rw[cP];rcases he with h|h|h<;>rw[h]<;>decide)]
 by_cases he:P.err=0
 ·obtain⟨_,k,_⟩:=gq he;rcases h ⟨f,k⟩with⟨e,c,d⟩|⟨f',g,c,d⟩
  ·exact no e c (Tu a hw he d)
  ·obtain⟨l,m,_,g1⟩:=P0 a hw he c;exact⟨_,KO a m g1 i,d.tC⟩
 ·have n:P.err=4:=by
   unfold Pf.err at he|-;rw[cL f] at he|-
   split
   ·rename_i h;rw[cL h] at he;exact absurd rfl he
   ·rfl
  exact no 4 sP (by rw[<-n];exact UC a hw he)
mutual
def Pf.lh(m:Int):Pf->Bool
 |.mk k i _ _ _ l=>!(decide (k=1)&&decide (m<i))&&Pf.lhL m l
def Pf.lhL(m:Int):List Pf->Bool
 |[]=>true|p::l=>p.lh m&&Pf.lhL m l
end
def Pf.Wp(m:Int):∀l:List Pf,Pf.lhL m l=l.all (Pf.lh m)
 |[]=>by rw[Pf.lhL];rfl|p::l=>by rw[Pf.lhL,Pf.Wp m l];rfl
theorem Pf.AJ(m k i:Int)(s:Ty)(ts:List Tm)(fs:List Fm)(l:List Pf):(Pf.mk k i s ts fs l).lh m=(!(decide (k=1)&&decide (m<i))&&l.all (Pf.lh m)):=by rw[Pf.lh,Pf.Wp]
def FP(m:Int):∀(n:Nat) (P:Pf),P.wt<=n->P.wt<=1000000000->ua n P 1 m=some (P.lh m):=by
 intro n
 induction n with
 |zero=>intro P h;have:=P.eL;omega
 |succ n a=>
  intro P hn b;cases P with
  |mk k i s ts fs l=>
   rw[Pf.dD] at hn b;have c:=er Pf.wt l λt _=>t.eL;rw[Pf.AJ,ua];simp only[Pf.cX,cO]
   by_cases d:k=1/\m<i
   ·simp_all
   ·rw[cJ (by rw[ku,ew,dS,eb];exact d),cQ Zb,cM,jU (Pf.lh m) false l 0 (λj x f=>by
     have:=cV Pf.wt f
     rw[a x Zb Zb,cG])]
    have e:(!(decide (k=1)&&decide (m<i)))=true:=aaV
    rw[e];cases l.all (Pf.lh m)with
    |false=>rfl|true=>rfl
def Dv.lh{M:Int}(e:16<=M){L:List Fm}{g:List Ty}{hs:List Fm}{P:Pf}{f:Fm}{m:Nat}(h:Dv L g hs P f m):hs.length<=16->P.lh M=true:=by
 induction h with
 |hyp _ i _ _=>intro h;rw[Pf.AJ];simp;omega|zl _ _ _=>intro h;rw[Pf.AJ];simp|Dx _ _ _ a b=>grind[Pf.AJ]|NY _ _ a=>intro h;rw[Pf.AJ];simp[a h]|N7 _ _ a=>intro h;rw[Pf.AJ];simp[a h]|DF hF hn _ _ a=>grind[Pf.AJ]|DC _ _ _ _ _ _ a b=>intro h;rw[Pf.AJ];simp[a h,b h]|all d _ hn _ _ a=>grind[Pf.AJ]|KX d c he _ _ _ a=>intro h;rw[Pf.AJ];simp[a h];omega|ex d hF c he _ _ _ _ _ a=>intro h;rw[Pf.AJ];simp[a h];omega|KW d _ _ _ hn _ _ _ _ _ a b=>grind[Pf.AJ]|ind hF c he _ _ _ _ _ hn _ _ _ _ _ a b=>grind[Pf.AJ]|lists hF c he _ _ _ _ _ hn _ _ _ _ _ a b=>grind[Pf.AJ]|refl c he _=>intro h;rw[Pf.AJ];simp|subst hF _ _ _ _ _ _ _ _ _ _ a b=>intro h;rw[Pf.AJ];simp[a h,b h]|choice _ _ _ _ _ _ _ a=>intro h;rw[Pf.AJ];simp[a h]
mutual
def Pf.SA(a:Nat):Pf->Nat
 |.mk k i _ _ _ l=>(if k=1/\i=(a:Int)then 1 else 0)+Pf.MS k 0 a l
def Pf.MS(k:Int):Nat->Nat->List Pf->Nat
 |_,_,[]=>0|j,a,p::l=>p.SA (a+pA k j)+Pf.MS k (j+1) a l
end
def D1(k:Int)(i:Nat):wK k (i:Int)=some ((pA k i:Nat):Int):=by grind[wK,pA,gY,dS]
def RD(k:Int)(i:Nat):pA k i<=i+1:=by grind[pA]
def Pf.Rn(P:Pf):∀a:Nat,P.SA a<=P.afq:=by
 induction P using Pf.ind with
 |h k i s ts fs l c=>
  intro a
  have key:∀(m:List Pf) (j:Nat),(∀p∈m,p∈l)->Pf.MS k j a m<=cN Pf.afq m:=by
   intro m
   induction m with
   |nil=>grind[Pf.MS]|cons p m b=>grind[pA,Pf.MS,cN]
  grind[Pf.SA,Pf.cK]
def S3{n:Nat}{k:Int}(a:Nat):∀(l:List Pf) (j v:Nat),j+l.length<=1000->v+cN Pf.afq l<=1000000000->(∀(x:Pf) (i:Nat),x∈l->i<j+l.length->qg n x ((a+pA k i:Nat):Int)=some ((x.SA (a+pA k i):Nat):Int))->a<=1000000000->eg (λ(d:Int) (e:Pf)=>(λ(f:Int)=>cH (wK k d) λb=>cH (qg n e (ep .i64 a b)) λc=>some ((.next (ep .i64 f c)):eK Int Int))) l j (v:Int)=some (.inl ((v+Pf.MS k j a l:Nat):Int))
 |[],j,v,_,_,_,_=>by rw[Pf.MS];rfl|x::l,j,v,g,m,h,o=>by
  simp only[hQ,cN] at g m;have p:=RD k j;have q:=x.Rn (a+pA k j);rw[dq,D1,cG,dk Zb Zb,show(a:Int)+((pA k j:Nat):Int)=((a+pA k j:Nat):Int) by omega,h x j aae aae,cG,dk Zb Zb];simp only[cG,dt];rw[show(v:Int)+((x.SA (a+pA k j):Nat):Int)=((v+x.SA (a+pA k j):Nat):Int) by omega,S3 a l (j+1) _ Zb Zb (λy i hy hi=>h y i (by simp[hy]) aaV) o,Pf.MS,Ml]
theorem LO:∀(n:Nat) (P:Pf) (a:Nat),P.wt<=n->P.wt<=100000000->P.ok=true->a+10*P.wt<=1000000000->qg n P a=some ((P.SA a:Nat):Int):=by
 intro n
 induction n with
 |zero=>intro P a h;have:=P.eL;omega
 |succ n f=>
  intro P a hn hw g m;cases P with
  |mk k i s ts fs l=>
   have c:=Pf.Qz g;have o:=c.n;rw[Pf.dD] at hn hw m;have p:=er Pf.wt l λt _=>t.eL;have r:=gn (l:=l) (λx _=>Pf.eJ x);rw[qg,Pf.SA];simp only[Pf.cX,Pf.c8,Pf.dX,cO];rw[cQ Zb,cM]
   have e:fp (fp (dC k 1) (dC i a) false) (ep .i64 0 1) 0=((if k=1/\i=(a:Int)then 1 else 0:Nat):Int):=by
    by_cases h:k=1/\i=(a:Int)
    ·rw[cL h,show fp (dC k 1) (dC i a) false=true by rw[ku,ew,dS,dS];exact h];rfl
    ·grind[fp,dC,ku,dS]
   rw[e]
   have b:=S3 (n:=n) (k:=k) a l 0 (if k=1/\i=(a:Int)then 1 else 0) Zb (by split<;>omega) (λx j d u=>by
    have:=cV Pf.wt d;have q:=RD k j
    exact f x (a+pA k j) Zb Zb (c.l x d) Zb) Zb
   rw[b,cG,cR]
def Pf.acB(m:Int)(b:Nat)(P:Pf):∀d h:Nat,P.ok=true->(P.h8 (λt d=>t.up d b) (ηs 0) d h).lh m=P.lh m:=by
 induction P using Pf.ind with
 |h k i s ts fs l e=>
  intro d h f;have c:=Pf.Qz f
  by_cases g:k=1
  ·subst g;obtain⟨rfl,rfl,rfl,rfl⟩:=c.hyp rfl;rw[Pf.tj];unfold ηs;simp
  ·have key:∀(us:List Pf) (i:Nat),(∀p∈us,p∈l)->(pE (λj p=>p.h8 (λt d=>t.up d b) (ηs 0) (d+qU k j) (h+pA k j)) i us).all (Pf.lh m)=us.all (Pf.lh m):=by
    intro us
    induction us with
    |nil=>intro i _;rfl|cons p us a=>
     intro i hm;rw[pE,sb,sb,e p (hm p aae) _ _ (c.l p (hm p aae)),a (i+1) λx n=>hm x (by simp[n])]
   grind[Pf.eE,Pf.AJ,ri]
def Pf.Ye(b K:Nat)(P:Pf):∀d c h e:Nat,P.ok=true->(P.h8 (λt d=>t.up d b) (ηs 0) d e).h8 (λt _=>t) (ηs K) c h=P.h8 (λt d=>t.up d b) (ηs K) d h:=by
 induction P using Pf.ind with
 |h k i s ts fs l g=>
  intro d c h e m;have n:=Pf.Qz m
  by_cases a:k=1
  ·subst a;unfold ηs
   grind[Pf.tj]
  ·rw[Pf.eE _ _ _ a,Pf.eE _ _ _ a,Pf.eE _ _ _ a,ri,ri,ri,Rq,PZ l 0 λj x f=>g x f (d+qU k j) (c+qU k j) (h+pA k j) (e+pA k j) (n.l x f)];simp[Fm.B4]
def N':∀(n:Nat) (P:Pf) (f K d:Nat),P.wt<=n->P.wt<=100000000->P.ok=true->P.lh 536870912=true->f+10*P.wt<=2000000000->K<=1000000000->ze n P f K=some (P.h8 (λt _=>t) (ηs K) d f):=by
 intro n
 induction n with
 |zero=>intro P f K d hn;have:=P.eL;omega
 |succ n o=>
  intro P f K d hn hw q a r u;cases P with
  |mk k i s ts fs l=>
   have b:=Pf.Qz q;have w:=b.n;rw[Pf.dD] at hn hw r;rw[Pf.AJ] at a;simp only[ew,gR,Sx,adx,RQ] at a;rw[ze];simp only[Pf.eF,Pf.rJ,Pf.cX,Pf.c8,Pf.dX,Pf.ds,cO]
   rw[cQ Zb,cM,xD (λj p=>p.h8 (λt _=>t) (ηs K) (d+qU k j) (f+pA k j)) l 0 [] aaV (λj x v c A y=>by
    have:=cV Pf.wt c;have z:=RD k j
    rw[D1,cG,dk Zb Zb,show(f:Int)+((pA k j:Nat):Int)=((f+pA k j:Nat):Int) by omega,o x (f+pA k j) K (d+qU k j) Zb Zb (b.l x c) (a.2 x c) Zb u,cG,di (by simpa using y),cM,ec]),cG,cR]
   by_cases g:k=1
   ·subst g;obtain⟨rfl,rfl,rfl,rfl⟩:=b.hyp rfl;have hi:i<=536870912:=a.1.elim (λh=>absurd rfl h) (λh=>by omega);have B:=b.i;rw[Pf.tj];unfold ηs
    have e:fp (fp (dC 1 1) (sS i f) false) (ep .i64 i K) i=if i<(f:Int)then i else i+K:=by grind[fp,dC,sS,ku,fB,dk]
    rw[e];rfl
   ·rw[Pf.eE _ _ _ g,ri,show fp (fp (dC k 1) (sS i f) false) (ep .i64 i K) i=i by
     rw[show dC k 1=false by
      cases m:dC k 1 with
      |false=>rfl|true=>rw[dS] at m;exact absurd m g]
     rfl]
    simp[Fm.B4]
def ηp_ok{r:Pf}(a:r.ok=true):∀(d k:Nat) (i:Int),0<=i->(ηp r d k i).ok=true:=by
 intro d k i hi;unfold ηp
 split
 ·exact r.re d k 0 0 a
 ·grind[M0]
theorem O3{r:Pf}(a:r.ok=true)(w:r.afq<=16384)(g:r.afu 1000000000000=true)(m:r.lh 536870912=true):∀(n:Nat) (P:Pf) (d h:Nat),P.wt<=n->P.wt<=10000000->P.ok=true->P.lh 536870912=true->d+10*P.wt<=200000000->h+10*P.wt<=200000000->uQ n P 0 d h r=some (P.h8 (λt _=>t) (ηp r) d h):=by
 have y:=r.eY a;intro n
 induction n with
 |zero=>intro P d h hn;have:=P.eL;omega
 |succ n z=>
  intro P d h hn hw A b B C;cases P with
  |mk k i s ts fs l=>
   have c:=Pf.Qz A;have D:=c.n;rw[Pf.dD] at hn hw B C;rw[Pf.AJ] at b;simp only[ew,gR,Sx,adx,RQ] at b;rw[uQ];show(if dC k 1 then(if dC i (ep .i64 0 h) then _ else if pc i (ep .i64 0 h) then some (Pf.mk 1 (eH .i64 i 1) _ _ _ _)else _)else _)=_;rw[show ep .i64 0 (h:Int)=h by rw[dk Zb Zb];omega]
   by_cases o:k=1
   ·subst o;obtain⟨rfl,rfl,rfl,rfl⟩:=c.hyp rfl;have hi:i<=536870912:=b.1.elim (λh=>absurd rfl h) (λh=>by omega);have H:=c.i;rw[cL Zk,Pf.tj];unfold ηp
    by_cases e:i=(h:Int)
    ·have u:=r.re d 0 0 0 a;have I:=(r.LN d 0 0 0 a).1;have J:=Pf.eY _ u;rw[cL (by rw[dS];exact e),cL e,show(0:Int)=((0:Nat):Int)from rfl,I0 FU r 0 d 0 (by rw[dn];omega) Zb a g Zb Zb,cG,N' FU _ 0 h 0 (by rw[dn];omega) Zb u (by rw[r.acB _ d 0 0 a];exact m) Zb Zb,cG,r.Ye d h 0 0 0 0 a]
    ·rw[cJ (by rw[dS];exact e),cJ e]
     by_cases f:(h:Int)<i
     ·rw[cL (by rw[eb];exact f),cL f,dF Zb Zb];rfl
     ·rw[cJ (by rw[eb];exact f),cJ f]
   ·rw[cJ (by rw[dS];exact o)];simp only[Pf.eF,Pf.rJ,Pf.cX,Pf.c8,Pf.dX,Pf.ds,cO]
    rw[cQ Zb,cM,xD (λj p=>p.h8 (λt _=>t) (ηp r) (d+qU k j) (h+pA k j)) l 0 [] aaV (λj x v q K E=>by
     have:=cV Pf.wt q;have F:=RD k j;have G:=KG k j
     rw[vj k j Zb,cG,D1,cG,dk Zb Zb,dk Zb Zb,show(d:Int)+((qU k j:Nat):Int)=((d+qU k j:Nat):Int) by omega,show(h:Int)+((pA k j:Nat):Int)=((h+pA k j:Nat):Int) by omega,z x (d+qU k j) (h+pA k j) Zb Zb (c.l x q) (b.2 x q) Zb Zb,cG,di (by simpa using E),cM,ec]),cG,cR,Pf.eE _ _ _ o,ri]
    simp[Fm.B4]
def Pf.Sh{r:Pf}(e:r.ok=true)(P:Pf):∀d h:Nat,P.ok=true->(P.h8 (λt _=>t) (ηp r) d h).afq+P.SA h=P.afq+P.SA h*r.afq:=by
 induction P using Pf.ind with
 |h k i s ts fs l f=>
  intro d h g;have a:=Pf.Qz g
  by_cases b:k=1
  ·subst b;obtain⟨rfl,rfl,rfl,rfl⟩:=a.hyp rfl;rw[Pf.tj,Pf.SA,Pf.MS];unfold ηp
   by_cases c:i=(h:Int)
   ·rw[cL c,cL ⟨rfl,c⟩,(r.LN d h 0 0 e).1,Pf.cK];simp only[cN];omega
   ·grind[Pf.cK,cN]
  ·have key:∀(us:List Pf) (i:Nat),(∀p∈us,p∈l)->cN Pf.afq (pE (λj p=>p.h8 (λt _=>t) (ηp r) (d+qU k j) (h+pA k j)) i us)+Pf.MS k i h us=cN Pf.afq us+Pf.MS k i h us*r.afq:=by
    intro us
    induction us with
    |nil=>intro i _;rw[pE,Pf.MS];simp[cN]|cons p us m=>
     intro i hm;have c:=f p (hm p aae) (d+qU k i) (h+pA k i) (a.l p (hm p aae))
     grind[pE,Pf.MS,cN]
   have o:=key l 0 λp a=>a;rw[Pf.eE _ _ _ b,Pf.cK,Pf.cK,ri,Pf.SA,cJ (λn=>b n.1),sZ,map_id' (l:=ts) λ_ _=>rfl,map_id' (l:=fs) λx _=>Fm.B4 x _];omega
def N5{P r:Pf}(he:P.err=0)(p:P.lh 536870912=true)(i:r.err=0)(l:r.lh 536870912=true)(m:∀M:Int,5000<=M->r.afu M=true):(∃x,wW P 0 r=some (x,4))\/wW P 0 r=some (P.h8 (λt _=>t) (ηp r) 0 0,0)/\(P.h8 (λt _=>t) (ηp r) 0 0).wt<=1100000/\(P.h8 (λt _=>t) (ηp r) 0 0).ok=true:=by
 obtain⟨a,b,c⟩:=gq he;obtain⟨n,w,rc⟩:=gq i;have hw:=P.eY a;have q:=r.eY n;have y:=P.Rn 0;have s:(P.h8 (λt _=>t) (ηp r) 0 0).ok=true:=P.M5 (λt d h=>h) (λf d h=>by rw[Fm.B4];exact h) (ηp_ok n) 0 0 a;have z:=Pf.Sh n P 0 0 a;have A:=Pf.eY _ s;have hmul:P.SA 0*r.afq<=16384*16384:=BA Zb Zb;have u:=r.da
 have v:((P.SA 0:Nat):Int)*((r.afq:Int)-1)=((P.SA 0*r.afq:Nat):Int)-(P.SA 0:Nat):=by grind
 have key:wW P 0 r=(if pc (((P.afq:Nat):Int)+(((P.SA 0*r.afq:Nat):Int)-(P.SA 0:Nat))) 16384 then some ((Pf.mk 0 0 (Ty.mk 0 []) [] [] []),(4:Int))else cH (uQ FU P 0 0 0 r) λe=>cH (mU FU e) λg=>some (g,0)):=by
  unfold wW;rw[nX Zb,he,cG,cJ nz,cJ Zk,nX Zb,i,cG,cJ nz,cO,FP _ FU P (by rw[dn];omega) Zb,p,cG,cL rfl,FP _ FU r (by rw[dn];omega) Zb,l,cG,cL rfl,EO _ FU r (by rw[dn];omega) Zb,m _ Zb,cG];show(cH (lH FU P) λo=>cH (qg FU P ((0:Nat):Int)) λj=>cH (lH FU r) λk=>if(pc (ep .i64 o (HM .i64 j (eH .i64 k 1))) 16384) then some ((Pf.mk 0 0 (Ty.mk 0 []) [] [] []),(4:Int))else cH (uQ FU P 0 0 0 r) λe=>cH (mU FU e) λg=>some (g,0))=_
  grind[nR,FU,dn,cG,LO,dF,p_,dk]
 grind[eb,O3,FU,dn,cH,uQ,cG,qc]
def Oy(l:List Int):zg l=some true:=by
 unfold zg;rw[LW,cG,cL rfl,G4,cG]
 by_cases j:500<l.length
 ·rw[cJ (by simpa using j)]
 have w:l.length<=500:=Zb
 rw[cL (by simpa using w),show KF l=some ⟨l,0⟩from rfl,cG];obtain⟨L,d1,q,d2,a1,a2,a3,hm,n1,n2,n3⟩:=made l w;have g:=hm.v;obtain⟨r,y,A,d4,J,n,B,o,_⟩:=AX hm a3 (k:=2) Zb;have n:sU d2 L q 2=some (r,⟨y,A⟩,d4):=n;have b:=hm.with o.hg Zb;obtain⟨P,f,C,d5,m,s1,s2,p,_⟩:=AX b B (k:=3) Zb;have s1:sU d4 L ⟨q.afs,q.afv++[y]⟩ 3=some (P,⟨f,C⟩,d5):=s1;rw[a1,cI,a2,cI,n,iY,di aaV,cM];simp only[ec,k9];rw[di aaV,cM,s1,iY];have d:=p.dv b.v;have c:=o.dv g;have s:Hg q.afs f:=p.hg;rcases N5 p.err (d.lh Zb (by show(q.afv++[y]).length<=16;simp;omega)) o.err (c.lh Zb Zb) (λM D=>c.Xf D Zb)with⟨x,q1⟩|⟨q1,K,E⟩
 ·rw[q1,cI,cL Zk];rfl
 rw[q1,cI,cJ nz]
 have t:Hp q.afv y [] 0 (q.afv++[y]) q.afv:=by
  have e:∀f:Fm,f.up 0 ((([]:List Ty).length:Nat):Int)=f:=λf=>f.oD;refine⟨[],[],?_,?_,rfl,rfl,λi f h=>by simp at h⟩
  ·rw[map_id' λx _=>e x,e,Dn]
  ·rw[map_id' λx _=>e x,Dn]
 obtain⟨e,F,G⟩:=Un g Zb E s λu=>by
  have a:=d.sim (aad q.afs) (adh q.afs) (aaE c g) (λi f h=>h) [] 0 0 q.afv aae rfl b.v (by simpa using g) t u;rw[Dn] at a;rcases a with h|⟨f',H,I,z,_,_⟩
  ·exact .inl h
  ·rw[Fm.B4] at z;exact .inr ⟨f',H,I,z⟩
 rw[F,cG,Gh G];rfl
end Go.eD
