/- Part of the proof of TheoryNeeds: plain facts. -/
import Derived.Test.YtjgjcpnoaeljkaaGreatDoorNPN1
set_option linter.all false
namespace Go.eU
open Go
mutual
noncomputable def Fm.uk:Fm->List Ty->Int
 |.mk k s ts l,g=>if eH (ts.map λt=>oh t g 1)=0 then Fm.Vg l (if jJ k then g++[s] else g)else eH (ts.map λt=>oh t g 1)
noncomputable def Fm.Vg:List Fm->List Ty->Int
 |[],_=>0|f::l,g=>if f.uk g=0 then Fm.Vg l g else f.uk g
end
def Fm.Ri(g:List Ty):∀l:List Fm,Fm.Vg l g=eH (l.map λf=>f.uk g)
 |[]=>by rw[Fm.Vg];rfl|f::l=>by rw[Fm.Vg,Fm.Ri g l];rfl
def Fm.tg(k:Int)(s:Ty)(ts:List Tm)(l:List Fm)(g:List Ty):(Fm.mk k s ts l).uk g=if eH (ts.map λt=>oh t g 1)=0 then eH (l.map λf=>f.uk (if jJ k then g++[s] else g))else eH (ts.map λt=>oh t g 1):=by
 rw[Fm.uk,Fm.Ri]
def y5{t:Tm}{g:List Ty}(a:t.ok=true)(hn:t.ain<=4096)(hg:gN g)(b:g.length<=900000):oS g t=some (t.ty g):=by
 unfold oS;have hw:=t.hS a;rw[lv VW]
 have he:t.err=0:=by unfold Tm.err;rw[cS a,cO VW]
 rw[he];simp only[cv];rw[cO aaB,yX FU t (by have:=d_;omega) a g hg VW];rfl
def Jr{t:Tm}{g:List Ty}(f:t.ok=true)(hn:t.ain<=4096)(hg:gN g)(i:g.length<=900000):(cW (oS g t) λd a=>if(dx a 0) then(some (.ret a))else(if(dx d.ail 1) then(some (.ret 7))else(some (.next ()))):Option (dW Unit Int))=
   if oh t g 1≠0 then some (.ret (oh t g 1))else some (.next ()):=by
 rw[y5 f hn hg i];unfold oh;generalize t.ty g=q;obtain⟨r,e⟩:=q;simp only[cN,c_]
 by_cases b:e=0
 .subst b
  by_cases c:r.ail=1
  .rw[cO aaL,cO (by simp[c]),cO (show¬((0:Int)=0/\r.ail≠1)fromλh=>h.2 c),cO aaL]
  .rw[cO aaL,cS c,cS (show(0:Int)=0/\r.ail≠1 from⟨rfl,c⟩),cS aaB]
 .rw[cS b,cO (show¬(e=0/\r.ail≠1)fromλh=>b h.1),cS b]
def rZ{e:Int}:(cM (some e) λa=>if(dx a 0) then(some (.ret a))else(some (.next ())):Option (dW Unit Int))=if e≠0 then some (.ret e)else some (.next ()):=by
 rw[cv]
 by_cases h:e=0
 .subst h;rfl
 .rw[cS (by simpa[dx] using h),cS h]
def uK{l:List Int}{k:Unit⊕Int->Option Int}(h:k=eB (λ_=>some 0) (λr=>some r)):cM (if eH l=0 then some (.inl ())else some (.inr (eH l))) k=some (eH l):=by
 subst h
 by_cases h:eH l=0
 .rw[cS h,h];rfl
 .rw[cO h];rfl
def yB(f:Fm)(w:f.ok=true):∀n,f.ain<=n->∀g,gN g->g.length+f.ain<=900000->f.ain<=4096->lY n g f=some (f.uk g):=by
 refine Fm.nU (p:=λf=>∀n,f.ain<=n->∀g,gN g->g.length+f.ain<=900000->f.ain<=4096->lY n g f=some (f.uk g)) ?_ ?_ ?_ f w
 .intro a b o v n hn g hg c d;rw[Fm.cQ] at hn c d;simp only[db] at hn c d;obtain⟨n,rfl⟩:∃m,n=m+1:=⟨n-1,VW⟩;rw[lY,Fm.tg];simp only[c6,Fm.gl,Fm.di,Fm.dq,kT,cv]
  rw[c8 aaL,cY,j3 (λt=>oh t g 1) [a,b] 0 (λj x i=>by
   simp only[jr,Sv,ta] at i;rcases i with rfl|rfl
   .exact Jr o VW hg VW
   .exact Jr v VW hg VW)]
  rw[show jJ 1=false from rfl]
  by_cases h:eH ([a,b].map λt=>oh t g 1)=0
  .rw[cS h,cS h];rfl
  .rw[cO h,cO h];rfl
 .intro k a b q o v l r n hn g hg c d;rw[Fm.cQ] at hn c d;simp only[db] at hn c d;obtain⟨n,rfl⟩:∃m,n=m+1:=⟨n-1,VW⟩
  have u:jJ k=false:=by rcases q with rfl|rfl<;>rfl
  rw[lY,Fm.tg];simp only[c6,Fm.gl,Fm.di,Fm.dq,kT,cv,u,NM,eH]
  rw[c8 aaL,cY,nT,cv,dh,cO aaB,cS trivial,c8 aaL,cY,j3 (λf=>f.uk g) [a,b] 0 (λj x i=>by
   simp only[jr,Sv,ta] at i;rcases i with rfl|rfl
   .rw[l n VW g hg VW VW];exact rZ
   .rw[r n VW g hg VW VW];exact rZ)]
  exact uK rfl
 .intro k s a q hs o l n hn g hg c d;rw[Fm.cQ] at hn c d;simp only[db] at hn c d;obtain⟨n,rfl⟩:∃m,n=m+1:=⟨n-1,VW⟩
  have u:jJ k=true:=by rcases q with rfl|rfl|rfl|rfl<;>rfl
  rw[lY,Fm.tg];simp only[c6,Fm.gl,Fm.di,Fm.dq,Fm.dV,kT,cv,u,NM,eH];rw[c8 aaL,cY,nT,cv,dh];simp only[if_true]
  rw[dT acz,cY,fu,c8 aaL,cY,j3 (λf=>f.uk (g++[s])) [a] 0 (λj x i=>by
   simp only[jr,Sv,ta] at i;subst i
   rw[l n VW (g++[s]) (hg.app hs) acz VW];exact rZ)]
  exact uK rfl
def re{g:List Ty}{s:Ty}(hs:s.err=0)(a:g.length<=900000):fi (g.map r9) [s]=some ((g++[s]).map r9):=by
 unfold fi nj;simp only[c6];rw[c8 aaL,cY,dB,kq hs];simp only[cv];rw[dT aaL,cY];simp only[cv,dR,nT,dh,fu,od];rw[dT acz,cY,yh]
def DV{t:Tm}{g:List Ty}(b:t.ok=true)(hn:t.ain<=4096)(hg:gN g)(c:g.length<=900000):(cM (gz (g.map r9) t) λa=>if(dx a 0) then(some (.ret a))else(some (.next ())):Option (dW Unit Int))=if oh t g 1≠0 then some (.ret (oh t g 1))else some (.next ()):=by
 rw[wP b hg VW];exact rZ
def vd(f:Fm)(C:f.ok=true):∀n,f.ain<=n->∀g,gN g->g.length+f.ain<=900000->f.ain<=4096->dC n (g.map r9) f=some (f.uk g):=by
 refine Fm.nU (p:=λf=>∀n,f.ain<=n->∀g,gN g->g.length+f.ain<=900000->f.ain<=4096->dC n (g.map r9) f=some (f.uk g)) ?_ ?_ ?_ f C
 .intro a b v A n hn g hg c d;rw[Fm.cQ] at hn c d;simp only[db] at hn c d;obtain⟨n,rfl⟩:∃m,n=m+1:=⟨n-1,VW⟩;rw[dC,Fm.tg];simp only[c6,Fm.gl,Fm.di]
  rw[cO aaL,cO aaL,cO aaL,c8 aaL,cY,j3 (λt=>oh t g 1) [a,b] 0 (λj x i=>by
   simp only[jr,Sv,ta] at i;rcases i with rfl|rfl
   .exact DV v VW hg VW
   .exact DV A VW hg VW)]
  rw[uK rfl]
  by_cases h:eH ([a,b].map λt=>oh t g 1)=0
  .rw[cS h,h];rfl
  .rw[cO h]
 .intro k a b o v A q w n hn g hg c d;rw[Fm.cQ] at hn c d;simp only[db] at hn c d;obtain⟨n,rfl⟩:∃m,n=m+1:=⟨n-1,VW⟩
  have y:jJ k=false:=by rcases o with rfl|rfl<;>rfl
  have D:en (dj k 4) true (dj k 5)=false:=by rcases o with rfl|rfl<;>rfl
  have k2:en (dj k 6) true (dj k 7)=false:=by rcases o with rfl|rfl<;>rfl
  have F:en (dj k 2) true (dj k 3)=true:=by rcases o with rfl|rfl<;>rfl
  rw[dC,Fm.tg];simp only[c6,Fm.gl,Fm.di,y,NM,eH];rw[cO (by simp only[Fm.dq,D];decide),cO (by simp only[Fm.dq,k2];decide),cS (by simp only[Fm.dq,F])];simp only[if_true,pc,lL]
  rw[c8 aaL,cY,j3 (λf=>f.uk g) [a,b] 0 (λj x i=>by
   simp only[jr,Sv,ta] at i;rcases i with rfl|rfl
   .rw[q n VW g hg VW VW];exact rZ
   .rw[w n VW g hg VW VW];exact rZ)]
  exact uK rfl
 .intro k s a o hs v q n hn g hg c d;rw[Fm.cQ] at hn c d;simp only[db] at hn c d;obtain⟨n,rfl⟩:∃m,n=m+1:=⟨n-1,VW⟩
  have y:jJ k=true:=by rcases o with rfl|rfl|rfl|rfl<;>rfl
  rw[dC,Fm.tg];simp only[c6,Fm.gl,Fm.di,Fm.dV,y,NM,eH,re hs (show g.length<=900000 by omega),cv,if_true]
  have fin:(e_ (dE [a])<|cM (dF (λ(B:Int) (u:Fm)=>(λ(_:Unit)=>
    cM (dC n ((g++[s]).map r9) u) λl=>
    if(dx l 0) then(
    some (.ret l))
    else(some (.next ()))):Int->Fm->(Unit)->(Option (dW (Unit) (Int)))) [a] 0 ()) (eB (λ(_:Unit)=>some 0) (λr=>some r)))=some (eH ([a].map λf=>f.uk (g++[s]))):=by
   rw[c8 aaL,cY,j3 (λf=>f.uk (g++[s])) [a] 0 (λj x i=>by
    simp only[jr,Sv,ta] at i;subst i
    rw[q n VW (g++[s]) (hg.app hs) acz VW];exact rZ)]
   exact uK rfl
  rcases o with rfl|rfl|rfl|rfl
  .rw[cS aaL];exact fin
  .rw[cS aaL];exact fin
  .rw[cO aaL,cS aaL];exact fin
  .rw[cO aaL,cS aaL];exact fin
mutual
def Fm.up(f b:Int):Fm->Fm
 |.mk k s ts l=>.mk k s (ts.map (Tm.up f b)) (Fm.Zo (f+qB k) b l)
def Fm.Zo(f b:Int):List Fm->List Fm
 |[]=>[]|t::l=>t.up f b::Fm.Zo f b l
end
def Fm.Qe(f b:Int)(l:List Fm):Fm.Zo f b l=l.map (Fm.up f b):=by
 induction l with
 |nil=>rfl|cons t l ih=>simp[Fm.Zo,ih]
def Fm.kI(f b k:Int)(s:Ty)(ts:List Tm)(l:List Fm):(Fm.mk k s ts l).up f b=.mk k s (ts.map (Tm.up f b)) (l.map (Fm.up (f+qB k) b)):=by rw[Fm.up,Fm.Qe]
mutual
def Fm.air(m:Int):Fm->Bool
 |.mk _ _ ts l=>ts.all (Tm.air m)&&Fm.s9 m l
def Fm.s9(m:Int):List Fm->Bool
 |[]=>true|t::l=>t.air m&&Fm.s9 m l
end
def Fm.DF(m:Int)(l:List Fm):Fm.s9 m l=l.all (Fm.air m):=by
 induction l with
 |nil=>rfl|cons t l ih=>simp[Fm.s9,ih]
theorem Fm.ey(m k:Int)(s:Ty)(ts:List Tm)(l:List Fm):(Fm.mk k s ts l).air m=(ts.all (Tm.air m)&&l.all (Fm.air m)):=by rw[Fm.air,Fm.DF]
mutual
def Fm.ait(a:Int):Fm->Nat
 |.mk k _ ts l=>db (Tm.ait a) ts+Fm.xq (a+qB k) l
def Fm.xq(a:Int):List Fm->Nat
 |[]=>0|t::l=>t.ait a+Fm.xq a l
end
def Fm.CI(a:Int)(l:List Fm):Fm.xq a l=db (Fm.ait a) l:=by
 induction l with
 |nil=>rfl|cons t l ih=>simp[Fm.xq,db,ih]
def Fm.fB(a k:Int)(s:Ty)(ts:List Tm)(l:List Fm):(Fm.mk k s ts l).ait a=db (Tm.ait a) ts+db (Fm.ait (a+qB k)) l:=by rw[Fm.ait,Fm.CI]
mutual
def Fm.iI:Int->Fm->Tm->Fm
 |n,.mk k ty ts l,s=>.mk k ty (ts.map λx=>Tm.iI n x s) (Fm.Ls (n+qB k) l s)
def Fm.Ls:Int->List Fm->Tm->List Fm
 |_,[],_=>[]|n,t::l,s=>Fm.iI n t s::Fm.Ls n l s
end
def Fm.Kl(n:Int)(s:Tm)(l:List Fm):Fm.Ls n l s=l.map (λx=>Fm.iI n x s):=by
 induction l with
 |nil=>rfl|cons t l ih=>simp[Fm.Ls,ih]
def Fm.mY(n:Int)(s:Tm)(k:Int)(ty:Ty)(ts:List Tm)(l:List Fm):Fm.iI n (Fm.mk k ty ts l) s=.mk k ty (ts.map λx=>Tm.iI n x s) (l.map λx=>Fm.iI (n+qB k) x s):=by rw[Fm.iI,Fm.Kl]
def Fm.gW(t:Fm):∀a,t.ait a<=t.ain:=by
 induction t using Fm.ind with
 |h k s ts l ih=>
  intro a;rw[Fm.fB,Fm.cQ];have:=jB (f:=Fm.ait (a+qB k)) (g:=Fm.ain) (l:=l) λx b=>ih x b _;have:=jB (f:=Tm.ait a) (g:=Tm.ain) (l:=ts) λx _=>x.gW _;omega
theorem Fm.pV(t:Fm):∀f b,(t.up f b).ain=t.ain:=by
 induction t using Fm.ind with
 |h k s ts l ih=>
  intro f b;rw[Fm.kI,Fm.cQ,Fm.cQ,pk,pk,qe λx a=>ih x a _ _,qe λx _=>Tm.pV x f b]
theorem Fm.FJ(t:Fm):∀f b,(t.up f b).wt=t.wt:=by
 induction t using Fm.ind with
 |h k s ts l ih=>
  intro f b;rw[Fm.kI,Fm.ef,Fm.ef,pk,pk,qe λx a=>ih x a _ _,qe λx _=>Tm.FJ x f b]
theorem Fm.I5(t:Fm):∀f b,0<=f->0<=b->(t.up f b).ok=t.ok:=by
 induction t using Fm.ind with
 |h k s ts l ih=>
  intro f b c a;have:=B2 k;rw[Fm.kI,Fm.fX,Fm.fX,yA,yA,vE λx d=>ih x d (f+qB k) b VW a,vE λx _=>Tm.I5 x f b c a]
def L7{α:Type}{a b c:α->Nat}{m:Nat}{l:List α}(h:∀x∈l,a x+b x=c x+b x*m):db a l+db b l=db c l+db b l*m:=by
 induction l with
 |nil=>simp[db]|cons y l ih=>
  have f:=h y aaL;have i:=ih λx d=>h x (by simp[d]);simp only[db,AO];omega
def Fm.qL(s:Tm)(t:Fm):∀n,t.ok=true->(Fm.iI n t s).ain+t.ait n=t.ain+t.ait n*s.ain:=by
 induction t using Fm.ind with
 |h k ty ts l ih=>
  intro n d;rw[Fm.fX] at d;simp only[fI,jY] at d;rw[Fm.mY,Fm.fB,Fm.cQ,Fm.cQ,pk,pk,AO];have i:=L7 (l:=ts) (a:=λx=>(Tm.iI n x s).ain) (b:=Tm.ait n) (c:=Tm.ain) (m:=s.ain) λx f=>Tm.qL s x n (d.1.2 x f);have j:=L7 (l:=l) (a:=λx=>(Fm.iI (n+qB k) x s).ain) (b:=Fm.ait (n+qB k)) (c:=Fm.ain) (m:=s.ain) λx f=>ih x f _ (d.2 x f);omega
def Cj{t:Tm}(m:Int)(h:t.ain<=1000000000):kE FU t m=some (t.air m):=yU FU t m (by rw[d_];exact h) h
def FT:∀(n:Nat) (t:Fm) (m:Int),t.ain<=n->t.ain<=1000000000->o9 n t m=some (t.air m):=by
 intro n
 induction n with
 |zero=>intro t m h;have:=t.dr;omega
 |succ n ih=>
  intro t m h c;cases t with
  |mk k s ts l=>
   rw[Fm.cQ] at h c;have i:=Fm.ek l;have d:=Tm.ek ts
   have f:dF (ρ:=Bool) (λ(_:Int) (x:Tm) (_:Unit)=>cM (kE FU x m) λa=>if a then some (dW.next ())else some (dW.ret false)) ts 0 ()=if ts.all (Tm.air m) then some (.inl ())else some (.inr false):=by
    refine p8 (Tm.air m) _ ts 0 ?_;intro j x b;have:=dk Tm.ain b;rw[Cj m VW];rfl
   have k2:dF (ρ:=Bool) (λ(_:Int) (x:Fm) (_:Unit)=>cM (o9 n x m) λa=>if a then some (dW.next ())else some (dW.ret false)) l 0 ()=if l.all (Fm.air m) then some (.inl ())else some (.inr false):=by
    refine p8 (Fm.air m) _ l 0 ?_;intro j x b;have:=dk Fm.ain b;rw[ih x m VW VW];rfl
   rw[o9];simp only[Fm.di,Fm.gl,c6,c8 (l:=l) VW,c8 (l:=ts) VW,cY,f,k2,Fm.ey];cases o:ts.all (Tm.air m)<;>cases q:l.all (Fm.air m)<;>simp
def sO:∀(n:Nat) (t:Fm) (f b:Int),t.ain<=n->t.ain<=1000000000->0<=f->f+t.ain<=10000000000->0<=b->b<=10000000000->t.air 1000000000000=true->fL n t f b=some (t.up f b):=by
 intro n
 induction n with
 |zero=>intro t f b h;have:=t.dr;omega
 |succ n ih=>
  intro t f b h d r i q a hi;cases t with
  |mk k s ts l=>
   rw[Fm.cQ] at h d i;rw[Fm.ey] at hi;simp only[fI,jY] at hi;have w:=Fm.ek l;have u:=Tm.ek ts;have y:=B2 k;rw[fL];simp only[Fm.di,Fm.gl,Fm.dq,Fm.dV,c6,c8 (l:=l) VW,c8 (l:=ts) VW,cY];rw[gP (Tm.up f b) ts 0 [] acz]
   .simp only[cv,dh];rw[gP (Fm.up (f+qB k) b) l 0 [] acz]
    .simp[Fm.kI]
    .intro j x v c o;have:=dk Fm.ain c;rw[oT];simp only[cv,Fm.dq];rw[dP VW VW,ih x (f+qB k) b VW VW VW VW q a (hi.2 x c)];simp[dT (l:=v) (m:=[x.up (f+qB k) b]) (by simpa using o)]
   .intro j x v c o;have:=dk Tm.ain c;rw[za FU x f b (by rw[d_];omega) VW r VW q a (hi.1 x c)];simp[dT (l:=v) (m:=[x.up f b]) (by simpa using o)]
def GL:∀(n:Nat) (t:Fm) (a:Int),t.ain<=n->t.ain<=1000000000->0<=a->a+t.ain<=10000000000->oW n t a=some (t.ait a:Int):=by
 intro n
 induction n with
 |zero=>intro t a h;have:=t.dr;omega
 |succ n ih=>
  intro t a h c o d;cases t with
  |mk k s ts l=>
   rw[Fm.cQ] at h c d;have w:=Fm.ek l;have q:=Tm.ek ts;have A:=B2 k;have r:db (Fm.ait (a+qB k)) l<=db Fm.ain l:=jB λx _=>x.gW _;have i:db (Tm.ait a) ts<=db Tm.ain ts:=jB λx _=>x.gW _;rw[oW];simp only[Fm.di,Fm.gl,Fm.dq,c6,c8 (l:=l) VW,c8 (l:=ts) VW,cY]
   have u:=oC (ρ:=Int) (F:=λ(_:Int) (x:Tm) (v:Int)=>cM (mo FU x a) λy=>some (dW.next (dJ .i64 v y))) (Tm.ait a) ts 0 0 VW (by
    intro j x v f;have:=dk Tm.ain f;rw[y9 FU x a (by rw[d_];omega) VW o VW]
    rfl)
   have k2:=oC (ρ:=Int) (F:=λ(_:Int) (x:Fm) (v:Int)=>cM (me (Fm.mk k s ts l)) λb=>cM (oW n x (dJ .i64 a b)) λy=>some (dW.next (dJ .i64 v y))) (Fm.ait (a+qB k)) l 0 (0+db (Tm.ait a) ts) VW (by
    intro j x v f;have:=dk Fm.ain f;rw[oT];simp only[cv,Fm.dq];rw[dP VW VW,ih x _ VW VW VW VW]
    rfl)
   rw[show(0:Int)=((0:Nat):Int)from rfl,u];simp only[cv,dh];rw[k2];simp[Fm.fB]
def L0:∀(n:Nat) (t:Fm) (a b:Int) (s:Tm),t.ain<=n->t.ain<=1000000000->0<=a->0<=b->a+b+t.ain<=5000000000->t.air 1000000000000=true->t.ok=true->s.ain<=1000000000->s.air 1000000000000=true->vX n t a b s=some (Fm.iI (a+b) t s):=by
 intro n
 induction n with
 |zero=>intro t a b s h;have:=t.dr;omega
 |succ n ih=>
  intro t a b s h i r u o hi c hs f;cases t with
  |mk k ty ts l=>
   rw[Fm.cQ] at h i o;rw[Fm.ey] at hi;rw[Fm.fX] at c;simp only[fI,jY] at hi c;have y:=Fm.ek l;have w:=Tm.ek ts;have A:=B2 k;rw[vX];simp only[Fm.di,Fm.gl,Fm.dq,Fm.dV,c6,c8 (l:=l) VW,c8 (l:=ts) VW,cY];rw[gP (λx=>Tm.iI (a+b) x s) ts 0 [] acz]
   .simp only[cv,dh];rw[gP (λx=>Fm.iI (a+b+qB k) x s) l 0 [] acz]
    .simp[Fm.mY]
    .intro j x v d q;have:=dk Fm.ain d;rw[oT];simp only[cv,Fm.dq];rw[dP VW VW,ih x a (b+qB k) s VW VW r VW VW (hi.2 x d) (c.2 x d) hs f];rw[show a+(b+qB k)=a+b+qB k by omega];simp[dT (l:=v) (m:=[Fm.iI (a+b+qB k) x s]) (by simpa using q)]
   .intro j x v d q;have:=dk Tm.ain d;rw[DJ FU x a b s (by rw[d_];omega) VW r u VW (hi.1 x d) (c.1.2 x d) hs f];simp[dT (l:=v) (m:=[Tm.iI (a+b) x s]) (by simpa using q)]
def Fm.lE(t:Fm):∀{m n:Int},m<=n->t.air m=true->t.air n=true:=by
 induction t using Fm.ind with
 |h k s ts l ih=>
  intro m n a h;rw[Fm.ey] at*;simp only[fI,jY] at*;exact⟨λx b=>Tm.lE x a (h.1 x b),λx b=>ih x b a (h.2 x b)⟩
def jP.air{g:List Ty}{f:Fm}(h:jP g f):∀m:Int,((g.length+f.ain:Nat):Int)<=m->f.air m=true:=by
 induction h with
 |eq c d=>
  intro m hm;simp only[Fm.cQ,db] at hm;simp only[Fm.ey,AX,RS,Hq,fI];exact⟨c.air m VW,d.air m VW⟩
 |two _ _ _ a b=>
  intro m hm;simp only[Fm.cQ,db] at hm;simp only[Fm.ey,AX,RS,Hq,fI,yg];exact⟨a m VW,b m VW⟩
 |q _ _ _ ih=>
  intro m hm;simp only[Fm.cQ,db] at hm;simp only[Fm.ey,AX,RS,Hq,yg];exact ih m acz
def Tm.E6(φ:Int->Int->Tm)(b:Int):Tm->Tm
 |.mk k i s l=>if k=1 then φ i b else .mk k i s (l.attach.map λx=>Tm.E6 φ (b+eZ k) x.1)
decreasing_by
 have:=aco x.2;simp only[Tm.mk.sizeOf_spec];omega
def Tm.yp(φ:Int->Int->Tm)(b k i:Int)(s:Ty)(l:List Tm):(Tm.mk k i s l).E6 φ b=if k=1 then φ i b else .mk k i s (l.map (Tm.E6 φ (b+eZ k))):=by
 rw[Tm.E6]
 congr 2
 exact aeM
def vV(k b:Int)(a:-1000000000000<=b)(c:b<=1000000000000):en (dj k 2) (dJ .i64 b 1) b=b+eZ k:=by
 unfold eZ
 by_cases h:k=2
 .subst h;rw[show dj 2 2=true from rfl,cS rfl];exact dP VW VW
 .rw[show dj k 2=false by simpa[dj] using h,cO h];show b=b+0;omega
def vh{h:Int->Int->Option Tm}{φ:Int->Int->Tm}{M:Int}(D:∀i b,0<=i->i<=M->0<=b->b<=10000000000->h i b=some (φ i b)):∀(n:Nat) (t:Tm) (b:Int),t.ain<=n->t.ain<=50000000->t.ok=true->t.air M=true->0<=b->b+t.ain<=10000000000->gm n t b (λ(s:Unit) (q:Int) (r:Int)=>oQ (h q r) s) ()=some (t.E6 φ b,()):=by
 intro n
 induction n with
 |zero=>intro t b h;have:=t.dr;omega
 |succ n ih=>
  intro t b hn F w x G y;cases t with
  |mk k i s l=>
   rw[Tm.cQ] at hn F y;have hlen:=Tm.ek l;have f:=w;rw[Tm.fX,fI] at w;have H:=Ty.vx w.1;rw[Tm.ey,fI,PD,jY] at x;rw[gm,Tm.yp]
   by_cases A:k=1
   .subst A;have hi:=(Tm.kN f).2.1;rw[cS adr,cS rfl];simp only[Tm.eY];rw[D i b hi x.1 G VW,DL,cN]
   .rw[cO (by simpa[dj] using A),cO A];simp only[Tm.dV,Tm.di,Tm.dq,Tm.eY,c6];rw[nV VW,cv,c8 VW,cY,vV k b VW VW];have I:=kg k
    have loop:∀(ts:List Tm) (j:Nat) (v:List Tm),(∀t∈ts,t∈l)->v.length+ts.length<=50000000->dF (λ(J:Int) (B:Tm)=>(rI λ(a:List Tm) (v107:Unit)=>
       cW (gm n B (b+eZ k) (λ(s:Unit) (q:Int) (r:Int)=>oQ (h q r) s) v107) λc o=>
       e_ (eI a [c])<|some ((.next ((fk a [c]),o)):dW ((List Tm)×Unit) (Tm×Unit)))) ts j (v,())=some (.inl (v++ts.map (Tm.E6 φ (b+eZ k)),())):=by
     intro ts
     induction ts with
     |nil=>intro j v _ _;simp|cons t ts C=>
      intro j v hm K;simp only[kY] at K;have d:=hm t aaL;have L:=dk Tm.ain d;rw[dB];simp only[rI];rw[ih t (b+eZ k) VW VW ((Tm.kN f).2.2.2.1 t d) (x.2 t d) VW VW,cN,dT acz,cY];simp only[cv,dR];rw[fu];have:=C (j+1) (v++[t.E6 φ (b+eZ k)]) (λu hu=>hm u (by simp[hu])) acz;rw[this];simp
    rw[loop l 0 [] (λt h=>h) acz,cv];simp
structure Bd (t:Tm):Prop where
 ok:t.ok=true
 air:t.air 1000000000000=true
 ain:t.ain<=50000000
def Tm.OU(f c:Int)(q:0<=f):∀(t:Tm) (b:Int),0<=b->t.ok=true->t.E6 (λi b=>.mk 1 (if f<=i-b then i+c else i) (.mk 0 []) []) b=t.up (f+b) c:=by
 intro t
 induction t using Tm.ind with
 |h k i s l ih=>
  intro b r a;have hi:=Tm.kN a;rw[Tm.yp,Tm.kI]
  by_cases d:k=1
  .subst d;rw[cS rfl]
   have n:l=[]:=by
    have:=hi.2.2.2.2;unfold gD at this;rw[cS (.inl rfl)] at this;exact z8 VW
   have hs:s=.mk 0 []:=by
    rw[Tm.fX] at a;simp only[Tm.node,fI] at a;have:=a.1.2;rw[cO aaB] at this;exact(Ty.lj s).1 this
   subst n;subst hs;simp only[NM,N1]
   congr 1
   by_cases h:f+b<=i
   .rw[cS h,cS VW]
   .rw[cO h,cO VW]
  .rw[cO d,cO (λh=>d h.1)];have o:=kg k
   congr 1
   exact uy λx j=>by rw[ih x j (b+eZ k) VW (hi.2.2.2.1 x j),show f+(b+eZ k)=f+b+eZ k by omega]
def Ct{t:Tm}{f c:Int}(h:Bd t)(d:0<=f)(j:f<=10000000000)(q:0<=c)(k:c<=10000000000):qy t f c=some (t.up f c):=by
 unfold qy nB;rw[vh (h:=λl n=>sR l n f c) (φ:=λi b=>.mk 1 (if f<=i-b then i+c else i) (.mk 0 []) []) (M:=1000000000000) (λi b r s u v=>?_) FU t 0 (by have:=d_;have:=h.ain;omega) h.ain h.ok h.air VW (by have:=h.ain;omega)]
 .rw[cN,cN,Tm.OU f c d t 0 VW h.ok,show f+0=f by omega]
 .unfold sR gC;simp only[cv];rw[ep VW VW,dP VW VW]
  by_cases a:f<=i-b
  .rw[cS a,show og (i-b) f=true by rw[gK];exact a];rfl
  .rw[cO a,show og (i-b) f=false by
    cases o:og (i-b) f with
    |false=>rfl|true=>exact absurd ((gK _ _).1 o) a];rfl
def nK(k:Int):lW k=some (jJ k):=by
 unfold lW jJ;rw[p_];simp only[og,Hl,uV];rw[<-Bool.decide_and];exact Dr.2 (by simp only[PD];omega)
def Fm.pd{k:Int}{s:Ty}{ts:List Tm}{l:List Fm}(h:(Fm.mk k s ts l).ok=true):s.ain<=64/\(∀t∈ts,t.ok=true)/\(∀f∈l,f.ok=true):=by
 rw[Fm.fX] at h;simp only[fI,jY] at h;refine⟨?_,h.1.2,h.2⟩;have hn:=h.1.1;unfold Fm.node at hn
 split at hn
 .simp only[fI] at hn;rw[(Ty.lj s).1 hn.1.1,Ty.cQ];simp[db]
 .split at hn
  .simp only[fI] at hn;rw[(Ty.lj s).1 hn.1.1,Ty.cQ];simp[db]
  .simp only[fI,oc] at hn;exact ed hn.1.1.2
def Fm.E6(ψ:Tm->Int->Tm)(b:Int):Fm->Fm
 |.mk k s ts l=>.mk k s (ts.map λt=>ψ t b) (l.attach.map λx=>Fm.E6 ψ (b+qB k) x.1)
decreasing_by
 have:=aco x.2;simp only[Fm.mk.sizeOf_spec];omega
def Fm.yp(ψ:Tm->Int->Tm)(b k:Int)(s:Ty)(ts:List Tm)(l:List Fm):(Fm.mk k s ts l).E6 ψ b=.mk k s (ts.map λt=>ψ t b) (l.map (Fm.E6 ψ (b+qB k))):=by
 rw[Fm.E6]
 congr 1
 exact aeM
def nC{h:Tm->Int->Option Tm}{ψ:Tm->Int->Tm}(P:∀t b,Bd t->0<=b->b<=1000000000->h t b=some (ψ t b)):∀(n:Nat) (f:Fm) (b:Int),f.ain<=n->f.ain<=50000000->f.ok=true->f.air 1000000000000=true->0<=b->b+f.ain<=1000000000->dX n f b (λ(s:Unit) (A:Tm) (B:Int)=>oQ (h A B) s) ()=some (f.E6 ψ b,()):=by
 intro n
 induction n with
 |zero=>intro f b h;have:=f.dr;omega
 |succ n ih=>
  intro f b hn Q R G S H;cases f with
  |mk k s ts l=>
   rw[Fm.cQ] at hn Q H;have T:=fR Tm.ain ts λt _=>t.dr;have U:=fR Fm.ain l λt _=>t.dr;obtain⟨V,I,J⟩:=Fm.pd R;rw[Fm.ey,fI,jY,jY] at G;rw[dX,Fm.yp];simp only[Fm.dV,Fm.di,Fm.dq,Fm.gl,c6];rw[nV VW,cv,c8 VW,cY];have W:=B2 k
   have w:∀(us:List Tm) (j:Nat) (v:List Tm),(∀t∈us,t∈ts)->v.length+us.length<=50000000->dF (λ(X:Int) (K:Tm)=>(rI λ(v91:List Tm) (L:Unit)=>
      cW (oQ (h K b) L) λq C=>
      e_ (eI v91 [q])<|some ((.next ((fk v91 [q]),C)):dW ((List Tm)×Unit) (Fm×Unit)))) us j (v,())=some (.inl (v++us.map (λt=>ψ t b),())):=by
    intro us
    induction us with
    |nil=>intro j v _ _;simp|cons t us x=>
     intro j v hm M;simp only[kY] at M;have d:=hm t aaL;have N:=dk Tm.ain d;rw[dB];simp only[rI];rw[P t b ⟨I t d,G.1 t d,VW⟩ S VW,DL,cN,dT acz,cY];simp only[cv,dR];rw[fu];have:=x (j+1) (v++[ψ t b]) (λu hu=>hm u (by simp[hu])) acz;rw[this];simp
   rw[w ts 0 [] (λt h=>h) acz,cv];simp only[dh,rI];rw[nK,cv]
   have y:∀(us:List Fm) (j:Nat) (v:List Fm),(∀t∈us,t∈l)->v.length+us.length<=50000000->dF (λ(D:Int) (i:Fm)=>(rI λ(a:List Fm) (v212:Unit)=>
      cW (dX n i (b+qB k) (λ(s:Unit) (A:Tm) (B:Int)=>oQ (h A B) s) v212) λc o=>
      e_ (eI a [c])<|some ((.next ((fk a [c]),o)):dW ((List Fm)×Unit) (Fm×Unit)))) us j (v,())=some (.inl (v++us.map (Fm.E6 ψ (b+qB k)),())):=by
    intro us
    induction us with
    |nil=>intro j v _ _;simp|cons t us x=>
     intro j v hm M;simp only[kY] at M;have d:=hm t aaL;have N:=dk Fm.ain d;rw[dB];simp only[rI];rw[ih t (b+qB k) VW VW (J t d) (G.2 t d) VW VW,cN,dT acz,cY];simp only[cv,dR];rw[fu];have:=x (j+1) (v++[t.E6 ψ (b+qB k)]) (λu hu=>hm u (by simp[hu])) acz;rw[this];simp
   have fin:(e_ (dE l)<|cM (dF (λ(D:Int) (i:Fm)=>(rI λ(a:List Fm) (v212:Unit)=>
      cW (dX n i (b+qB k) (λ(s:Unit) (A:Tm) (B:Int)=>oQ (h A B) s) v212) λc o=>
      e_ (eI a [c])<|some ((.next ((fk a [c]),o)):dW ((List Fm)×Unit) (Fm×Unit)))) l 0 ([],())) (eB (rI λ(a:List Fm) (v212:Unit)=>some ((Fm.mk k s ([]++ts.map λt=>ψ t b) a),v212)) (λr=>some r)))=some (Fm.mk k s (ts.map λt=>ψ t b) (l.map (Fm.E6 ψ (b+qB k))),()):=by
    rw[c8 VW,cY,y l 0 [] (λt h=>h) acz,cv];simp
   by_cases F:jJ k=true
   .rw[cS F]
    have O:b+qB k=b+1:=by unfold qB;rw[cS F]
    rw[O] at fin|-;rw[dP VW VW];exact fin
   .rw[cO F]
    have O:b+qB k=b:=by unfold qB;rw[cO F];omega
    rw[O] at fin|-;exact fin
def Fm.OU(f c:Int):∀(g:Fm) (b:Int),g.E6 (λt b=>t.up (f+b) c) b=g.up (f+b) c:=by
 intro g
 induction g using Fm.ind with
 |h k s ts l ih=>
  intro b;rw[Fm.yp,Fm.kI]
  congr 1
  exact uy λx a=>by rw[ih x a (b+qB k),show f+(b+qB k)=f+b+qB k by omega]
def ti{g:Fm}{f c:Int}(d:g.ok=true)(hn:g.ain<=50000000)(i:g.air 1000000000000=true)(o:0<=f)(j:f<=1000000000)(k:0<=c)(a:c<=10000000000):eu g f c=some (g.up f c):=by
 unfold eu;rw[nC (h:=λl n=>lD l n f c) (ψ:=λt b=>t.up (f+b) c) (λt b h q r=>?_) FU g 0 (by have:=d_;omega) hn d i VW VW]
 .rw[cN,Fm.OU f c g 0,show f+0=f by omega]
 .unfold lD;rw[dP VW VW,Ct h VW VW k a];rfl
def Tm.VJ{i:Int}{s:Ty}{l:List Tm}(a:(Tm.mk 1 i s l).ok=true):l=[]/\s=.mk 0 []:=by
 have hi:=Tm.kN a;constructor
 .have:=hi.2.2.2.2;unfold gD at this;rw[cS (.inl rfl)] at this;exact z8 VW
 .rw[Tm.fX] at a;simp only[Tm.node,fI] at a;have:=a.1.2;rw[cO aaB] at this;exact(Ty.lj s).1 this
def OC(a:Int)(s:Tm)(i b:Int):Tm:=if i-b=a then s.up 0 (a+b)else if a<i-b then .mk 1 (i-1) (.mk 0 []) [] else .mk 1 i (.mk 0 []) []
def Tm.J8(a:Int)(s:Tm):∀(t:Tm) (b:Int),t.ok=true->t.E6 (OC a s) b=Tm.iI (a+b) t s:=by
 intro t
 induction t using Tm.ind with
 |h k i ty l ih=>
  intro b d;have hi:=Tm.kN d;rw[Tm.yp,Tm.mY]
  by_cases c:k=1
  .subst c;obtain⟨rfl,rfl⟩:=Tm.VJ d;rw[cS rfl,cS rfl];unfold OC Tm.tV
   by_cases f:i-b=a
   .rw[cS f,cS VW]
   .rw[cO f,cO (show¬i=a+b by omega)]
    by_cases j:a<i-b
    .rw[cS j,cS VW]
    .rw[cO j,cO VW]
  .rw[cO c,cO c]
   congr 1
   exact uy λx n=>by rw[ih x n (b+eZ k) (hi.2.2.2.1 x n),show a+(b+eZ k)=a+b+eZ k by omega]
def Hf(s:Tm):Prop:=∀c,0<=c->c<=10000000000->qy s 0 c=some (s.up 0 c)
def Bd.lift{s:Tm}(h:Bd s):Hf s:=λc a b=>Ct h VW VW a b
def LQ{t s:Tm}{a:Int}(h:Bd t)(hs:Hf s)(Q:0<=a)(J:a<=1000000000):zg t a s=some (Tm.iI a t s):=by
 unfold zg nB;have hn:=h.ain
 have key:∀(n:Nat) (t:Tm) (b:Int),t.ain<=n->t.ain<=50000000->t.ok=true->t.air 1000000000000=true->0<=b->b+t.ain<=1000000000->gm n t b (λ(o:Unit) (r:Int) (q:Int)=>oQ (nt r q a s) o) ()=gm n t b (λ(o:Unit) (r:Int) (q:Int)=>oQ (if q<=1000000000 then nt r q a s else some (OC a s r q)) o) ():=by
  intro n
  induction n with
  |zero=>intro t b h;have:=t.dr;omega
  |succ n ih=>
   intro t b hn A K I L D;cases t with
   |mk k i ty l=>
    rw[Tm.cQ] at hn A D;rw[Tm.ey,fI,PD,jY] at I;have hi:=Tm.kN K;have N:=kg k;rw[gm,gm]
    by_cases F:k=1
    .subst F;rw[cS adr,cS adr,cS VW]
    .rw[cO (by simpa[dj] using F),cO (by simpa[dj] using F)];simp only[Tm.dV,Tm.di,Tm.dq,Tm.eY,c6];rw[vV k b VW VW]
     have loop:∀(ts:List Tm) (j:Nat) (v:List Tm),(∀t∈ts,t∈l)->dF (λ(G:Int) (x:Tm)=>(rI λ(d:List Tm) (v107:Unit)=>
        cW (gm n x (b+eZ k) (λ(o:Unit) (r:Int) (q:Int)=>oQ (nt r q a s) o) v107) λf w=>
        e_ (eI d [f])<|some ((.next ((fk d [f]),w)):dW ((List Tm)×Unit) (Tm×Unit)))) ts j (v,())=dF (λ(G:Int) (x:Tm)=>(rI λ(d:List Tm) (v107:Unit)=>
        cW (gm n x (b+eZ k) (λ(o:Unit) (r:Int) (q:Int)=>oQ (if q<=1000000000 then nt r q a s else some (OC a s r q)) o) v107) λf w=>
        e_ (eI d [f])<|some ((.next ((fk d [f]),w)):dW ((List Tm)×Unit) (Tm×Unit)))) ts j (v,()):=by
      intro ts
      induction ts with
      |nil=>intro j v _;rfl|cons t ts H=>
       intro j v hm;have y:=hm t aaL;have O:=dk Tm.ain y;rw[dB,dB];simp only[rI];rw[ih t (b+eZ k) VW VW (hi.2.2.2.1 t y) (I.2 t y) VW VW]
       congr 1
       funext c
       cases c with
       |next st=>
        obtain⟨P,u⟩:=st;exact H (j+1) P (λu hu=>hm u (by simp[hu]))
       |_=>rfl
     rw[loop l 0 [] (λt h=>h)]
 rw[key FU t 0 (by have:=d_;omega) hn h.ok h.air VW VW];rw[vh (h:=λr q=>if q<=1000000000 then nt r q a s else some (OC a s r q)) (φ:=OC a s) (M:=1000000000000) (λi b L R S T=>?_) FU t 0 (by have:=d_;omega) h.ain h.ok h.air VW VW]
 .rw[cN,cN,Tm.J8 a s t 0 h.ok,show a+0=a by omega]
 .by_cases A:b<=1000000000
  .rw[cS A];unfold nt gC OC;rw[ep VW VW,dP VW VW]
   by_cases B:i-b=a
   .rw[cS (by simpa[dj] using B),cS B,hs _ VW VW];rfl
   .rw[cO (by simpa[dj] using B),cO B]
    by_cases C:a<i-b
    .rw[cS (by rw[fx];exact C),cS C,ep VW VW];rfl
    .rw[cO (by rw[fx];exact C),cO C];rfl
  .rw[cO A]
def Fm.J8(a:Int)(s:Tm):∀(g:Fm) (b:Int),g.E6 (λt b=>Tm.iI (a+b) t s) b=Fm.iI (a+b) g s:=by
 intro g
 induction g using Fm.ind with
 |h k ty ts l ih=>
  intro b;rw[Fm.yp,Fm.mY]
  congr 1
  exact uy λx c=>by rw[ih x c (b+qB k),show a+(b+qB k)=a+b+qB k by omega]
def ui{g:Fm}{s:Tm}{a:Int}(G:g.ok=true)(hn:g.ain<=50000000)(N:g.air 1000000000000=true)(hs:Hf s)(T:0<=a)(O:a<=100000000):jS g a s=some (Fm.iI a g s):=by
 unfold jS
 have key:∀(n:Nat) (f:Fm) (b:Int),f.ain<=n->f.ain<=50000000->f.ok=true->0<=b->b+f.ain<=100000000->dX n f b (λ(q:Unit) (x:Tm) (w:Int)=>oQ (hB x w a s) q) ()=dX n f b (λ(q:Unit) (x:Tm) (w:Int)=>oQ (if w<=100000000 then hB x w a s else some (Tm.iI (a+w) x s)) q) ():=by
  intro n
  induction n with
  |zero=>intro f b h;have:=f.dr;omega
  |succ n ih=>
   intro f b hn H G P J;cases f with
   |mk k ty ts l=>
    rw[Fm.cQ] at hn H J;obtain⟨_,_,K⟩:=Fm.pd G;have Q:=B2 k;rw[dX,dX];simp only[Fm.dV,Fm.di,Fm.dq,Fm.gl,c6,cS (show b<=100000000 by omega),nK,cv]
    have loop:∀(us:List Fm) (j:Nat) (v:List Fm) (B:Int),0<=B->B+db Fm.ain l<=100000000->(∀t∈us,t∈l)->dF (λ(C:Int) (y:Fm)=>(rI λ(d:List Fm) (v212:Unit)=>
       cW (dX n y B (λ(q:Unit) (x:Tm) (w:Int)=>oQ (hB x w a s) q) v212) λi A=>
       e_ (eI d [i])<|some ((.next ((fk d [i]),A)):dW ((List Fm)×Unit) (Fm×Unit)))) us j (v,())=dF (λ(C:Int) (y:Fm)=>(rI λ(d:List Fm) (v212:Unit)=>
       cW (dX n y B (λ(q:Unit) (x:Tm) (w:Int)=>oQ (if w<=100000000 then hB x w a s else some (Tm.iI (a+w) x s)) q) v212) λi A=>
       e_ (eI d [i])<|some ((.next ((fk d [i]),A)):dW ((List Fm)×Unit) (Fm×Unit)))) us j (v,()):=by
     intro us
     induction us with
     |nil=>intro j v B _ _ _;rfl|cons t us L=>
      intro j v B D M hm;have F:=hm t aaL;have R:=dk Fm.ain F;rw[dB,dB];simp only[rI];rw[ih t B VW VW (K t F) D VW]
      congr 1
      funext c
      cases c with
      |next st=>
       obtain⟨S,u⟩:=st;exact L (j+1) S B D M (λu hu=>hm u (by simp[hu]))
      |_=>rfl
    congr 1
    funext U
    congr 1
    congr 1
    funext o
    cases o with
    |inr r=>rfl|inl st=>
     obtain⟨v,u⟩:=st;simp only[dh,rI]
     by_cases I:jJ k=true
     .rw[cS I,cS I,dP VW VW];rw[show(([]:List Fm),u)=([],())from rfl,loop l 0 [] (b+1) VW VW (λt h=>h)]
     .rw[cO I,cO I];rw[show(([]:List Fm),u)=([],())from rfl,loop l 0 [] b VW VW (λt h=>h)]
 rw[key FU g 0 (by have:=d_;omega) hn G VW VW];rw[nC (h:=λx w=>if w<=100000000 then hB x w a s else some (Tm.iI (a+w) x s)) (ψ:=λt b=>Tm.iI (a+b) t s) (λt b h P V=>?_) FU g 0 (by have:=d_;omega) hn G N VW VW]
 .rw[cN,Fm.J8 a s g 0,show a+0=a by omega]
 .by_cases H:b<=100000000
  .rw[cS H];unfold hB;rw[dP VW VW,LQ h hs VW VW];rfl
  .rw[cO H]
def EJ{a i b c:Int}(d:-1000000000000000<=i)(f:i<=1000000000000000)(j:0<=b)(k:b<=10000000000)(l:0<=c)(n:c<=10000000000):nM i b a c=some (c+if i-b=a then 1 else 0):=by
 unfold nM;rw[ep VW VW]
 by_cases h:i-b=a
 .rw[cS (by simpa[dj] using h),cS h,dP VW VW]
 .rw[cO (by simpa[dj] using h),cO h,xZ]
def EI(a:Int):∀(n:Nat) (t:Tm) (b c:Int),t.ain<=n->t.ain<=50000000->t.ok=true->t.air 1000000000000=true->0<=b->b+t.ain<=1000000000->0<=c->c+t.ain<=1000000000->jh n t b (λ(s:Int) (f:Int) (o:Int)=>nM f o a s) c=some (c+(t.ait (a+b):Int)):=by
 intro n
 induction n with
 |zero=>intro t b c h;have:=t.dr;omega
 |succ n ih=>
  intro t b c hn C D A F q B G;cases t with
  |mk k i s l=>
   rw[Tm.cQ] at hn C q G;have hlen:=Tm.ek l;have hi:=Tm.kN D;rw[Tm.ey,fI,PD,jY] at A;have H:=kg k;rw[jh,Tm.fB];simp only[c6]
   have loop:∀(ts:List Tm) (j:Nat) (v:Int),(∀t∈ts,t∈l)->0<=v->v+db Tm.ain ts<=1000000000->dF (λ(I:Int) (r:Tm)=>(λ(v28:Int)=>
      cM (jh n r (b+eZ k) (λ(s:Int) (f:Int) (o:Int)=>nM f o a s) v28) λw=>
      some ((.next w):dW Int Int))) ts j v=some (.inl (v+(db (Tm.ait (a+b+eZ k)) ts:Int))):=by
    intro ts
    induction ts with
    |nil=>intro j v _ _ _;simp[db]|cons t ts x=>
     intro j v hm v0 v1;simp only[db] at v1|-;have d:=hm t aaL;have J:=dk Tm.ain d;have K:=t.gW (a+b+eZ k);rw[dB,ih t (b+eZ k) v VW VW (hi.2.2.2.1 t d) (A.2 t d) VW VW v0 VW,show a+(b+eZ k)=a+b+eZ k by omega];simp only[cv,dR];rw[x (j+1) _ (λu hu=>hm u (by simp[hu])) VW VW]
     congr 2
     push_cast
     omega
   by_cases y:k=1
   .subst y;rw[cS (show dj (Tm.mk 1 i s l).ail 1=true from rfl)];simp only[Tm.di,Tm.dq,Tm.eY];rw[EJ VW VW F VW B VW,cv,vV 1 b VW VW,c8 VW,cY];rw[loop l 0 _ (λt h=>h) (by split<;>omega) (by split<;>omega)];simp only[cv,dh]
    congr 1
    by_cases e:i-b=a
    .rw[cS e,cS (show True/\i=a+b from⟨trivial,VW⟩)];omega
    .rw[cO e,cO (show¬(True/\i=a+b)fromλh=>e VW)];omega
   .rw[cO (show¬dj (Tm.mk k i s l).ail 1=true by simpa[dj] using y),cO (show¬(k=1/\i=a+b)fromλh=>y h.1)];simp only[Tm.di,Tm.dq,Tm.eY];rw[vV k b VW VW,c8 VW,cY];rw[loop l 0 c (λt h=>h) B VW];simp only[cv,dh]
    congr 1
    push_cast
    omega
def Aw{t:Tm}(a:Int)(h:Bd t):rU t a=some (t.ait a:Int):=by
 unfold rU qz;have hn:=h.ain;rw[EI a FU t 0 0 (by have:=d_;omega) hn h.ok h.air VW VW VW VW];simp only[cv];rw[show a+0=a by omega,Int.zero_add]
def zN{a:Int}(X:0<=a)(L:a<=100000000):∀(n:Nat) (f:Fm) (b c:Int),f.ain<=n->f.ain<=50000000->f.ok=true->f.air 1000000000000=true->0<=b->b+f.ain<=100000000->0<=c->c+f.ain<=1000000000->mJ n f b (λ(s:Int) (w:Tm) (y:Int)=>iy w y s a) c=some (c+(f.ait (a+b):Int)):=by
 intro n
 induction n with
 |zero=>intro f b c h;have:=f.dr;omega
 |succ n ih=>
  intro f b c hn M N A Y B O P;cases f with
  |mk k s ts l=>
   rw[Fm.cQ] at hn M B P;have Q:=fR Tm.ain ts λt _=>t.dr;have R:=fR Fm.ain l λt _=>t.dr;obtain⟨_,C,D⟩:=Fm.pd N;rw[Fm.ey,fI,jY,jY] at A;have S:=B2 k;rw[mJ,Fm.fB];simp only[Fm.di,Fm.dq,Fm.gl,c6];rw[c8 VW,cY]
   have o:∀(us:List Tm) (j:Nat) (v:Int),(∀t∈us,t∈ts)->0<=v->v+db Tm.ain us<=1000000000->dF (λ(T:Int) (F:Tm)=>(λ(v32:Int)=>
      cM (iy F b v32 a) λG=>
      some ((.next G):dW Int Int))) us j v=some (.inl (v+(db (Tm.ait (a+b)) us:Int))):=by
    intro us
    induction us with
    |nil=>intro j v _ _ _;simp[db]|cons t us i=>
     intro j v hm v0 v1;simp only[db] at v1|-;have d:=hm t aaL;have H:=dk Tm.ain d;have U:=t.gW (a+b);rw[dB];unfold iy at i|-;rw[dP (a:=a) VW VW,Aw (a+b) ⟨C t d,A.1 t d,VW⟩];simp only[cv,dR];rw[dP VW VW];have:=i (j+1) (v+(t.ait (a+b):Int)) (λu hu=>hm u (by simp[hu])) VW VW;rw[dP (a:=a) VW VW] at this;rw[this]
     congr 2
     push_cast
     omega
   rw[o ts 0 c (λt h=>h) O VW];have V:=jB (f:=Tm.ait (a+b)) (g:=Tm.ain) (l:=ts) λx _=>x.gW _;simp only[cv,dh];rw[nK,cv]
   have q:∀(us:List Fm) (j:Nat) (v:Int),(∀t∈us,t∈l)->0<=v->v+db Fm.ain us<=1000000000->dF (λ(W:Int) (I:Fm)=>(λ(v72:Int)=>
      cM (mJ n I (b+qB k) (λ(s:Int) (w:Tm) (y:Int)=>iy w y s a) v72) λJ=>
      some ((.next J):dW Int Int))) us j v=some (.inl (v+(db (Fm.ait (a+b+qB k)) us:Int))):=by
    intro us
    induction us with
    |nil=>intro j v _ _ _;simp[db]|cons t us i=>
     intro j v hm v0 v1;simp only[db] at v1|-;have d:=hm t aaL;have H:=dk Fm.ain d;have U:=t.gW (a+b+qB k);rw[dB,ih t (b+qB k) v VW VW (D t d) (A.2 t d) VW VW v0 VW,show a+(b+qB k)=a+b+qB k by omega];simp only[cv,dR];rw[i (j+1) _ (λu hu=>hm u (by simp[hu])) VW VW]
     congr 2
     push_cast
     omega
   have fin:=q l 0 (c+(db (Tm.ait (a+b)) ts:Int)) (λt h=>h) VW VW
   by_cases r:jJ k=true
   .rw[cS r]
    have K:qB k=1:=by unfold qB;rw[cS r]
    rw[K] at fin|-;rw[dP VW VW,c8 VW,cY,fin];simp only[cv,dh]
    congr 1
    push_cast
    omega
   .rw[cO r]
    have K:qB k=0:=by unfold qB;rw[cO r]
    rw[K] at fin|-;rw[xZ b] at fin;rw[c8 VW,cY,fin];simp only[cv,dh]
    congr 1
    push_cast
    omega
def oZ{f:Fm}{a:Int}(c:f.ok=true)(hn:f.ain<=50000000)(d:f.air 1000000000000=true)(h:0<=a)(b:a<=100000000):jI f a=some (f.ait a:Int):=by
 unfold jI;rw[zN h b FU f 0 0 (by have:=d_;omega) hn c d VW VW VW VW];simp only[cv];rw[show a+0=a by omega,Int.zero_add]
noncomputable def mE (f:Fm) (t:Tm):Fm×Int:=if 4096<(Fm.iI 0 f t).ain then(.mk 0 (.mk 0 []) [] [],4)else(Fm.iI 0 f t,0)
noncomputable def Fh (f:Fm) (g:List Ty):Int:=if vM g≠0 then vM g else if f.err≠0 then f.err else f.uk g
def gN.of{g:List Ty}(h:vM g=0):gN g/\g.length<=16:=by
 unfold vM at h
 split at h
 .cases h
 .rename_i c;refine⟨λs hs=>?_,VW⟩
  have key:∀l:List Ty,eH (l.map Ty.err)=0->∀s∈l,s.err=0:=by
   intro l
   induction l with
   |nil=>intro _ s hs;cases hs
   |cons a l ih=>
    intro h s hs;simp only[CN,eH] at h
    by_cases b:a.err=0
    .rw[cS b] at h;rcases jr.1 hs with rfl|hs
     .exact b
     .exact ih h s hs
    .rw[cO b] at h;exact absurd h b
  exact key g h s hs
def tT{g:List Ty}(hg:gN g)(c:g.length<=1000000):nj g=some (g.map r9):=by
 unfold nj;simp only[c6]
 rw[c8 VW,cY,gP r9 g 0 [] acz (λj x v a b=>by
  rw[kq (hg x a),cv,dT (by simpa using b),cY,fu])]
 simp
def r5{f:Fm}{g:List Ty}(hw:f.wt<=1000000000)(c:g.length<=1000000)(h:∀t∈g,t.ain<=1000000000):kr g f=some (Fh f g):=by
 unfold kr Fh;rw[wx g c h,cv]
 by_cases a:vM g=0
 .rw[cO (by rw[c_];simpa using a),cO (by simpa using a),kc hw,cv]
  by_cases he:f.err=0
  .obtain⟨hg,d⟩:=gN.of a;obtain⟨b,hn⟩:=Fm.fP he;rw[cO (by rw[c_];simpa using he),cO (by simpa using he),tT hg c,cv,vd f b FU (by have:=d_;omega) g hg VW hn];rfl
  .rw[cS (by rw[c_];exact he),cS he]
 .rw[cS (by rw[c_];exact a),cS a]
def uH{f:Fm}{g:List Ty}(hw:f.wt<=1000000000)(c:g.length<=1000000)(h:∀t∈g,t.ain<=1000000000):ji g f=some (Fh f g):=by
 unfold ji jT Fh;rw[rV g c h,cv]
 by_cases a:vM g=0
 .rw[cO (by rw[c_];simpa using a),cO (by simpa using a),ky hw,cv]
  by_cases he:f.err=0
  .obtain⟨hg,d⟩:=gN.of a;obtain⟨b,hn⟩:=Fm.fP he;rw[cO (by rw[c_];simpa using he),cO (by simpa using he),yB f b FU (by have:=d_;omega) g hg VW hn];rfl
  .rw[cS (by rw[c_];exact he),cS he];rfl
 .rw[cS (by rw[c_];exact a),cS a]
def IG{f:Fm}{t:Tm}(he:f.err=0)(b:t.err=0)(i:f.air 1000000000000=true)(d:t.air 1000000000000=true):gY f t=some (mE f t):=by
 obtain⟨a,hn⟩:=Fm.fP he;obtain⟨c,h⟩:=Tm.fP b;have hw:=f.hS a;have l:=t.hS c;have r:=t.dr;have n:=f.gW 0;have o:=Fm.qL t f 0 a;unfold gY mE;rw[oN VW,cN,rz VW,cN,oZ a VW i VW VW,cv,cS he,cS b];rw[ep VW VW]
 have hmul:(f.ait 0:Int)*((t.ain:Int)-1)=((f.ait 0*t.ain:Nat):Int)-(f.ait 0:Int):=by rw[YH,YT];push_cast;rfl
 have q:f.ait 0*t.ain<=4096*4096:=Gf VW h;have j:f.ait 0<=f.ait 0*t.ain:=abS _ VW;rw[zJ (by rw[hmul];omega) (by rw[hmul];omega),hmul,dP VW VW]
 by_cases k:4096<(Fm.iI 0 f t).ain
 .rw[cS (by rw[fx];omega),cS k]
 .rw[cO (by rw[fx];omega),cO k,ui a VW i (Bd.lift ⟨c,d,VW⟩) VW VW];rfl
def Gz{f:Fm}{s:Tm}(he:f.err=0)(b:s.err=0)(j:f.air 536870912=true)(c:s.air 536870912=true)(d:(Fm.iI 0 f s).ok=true):vU f 0 s=some (mE f s):=by
 obtain⟨a,hn⟩:=Fm.fP he;obtain⟨h,i⟩:=Tm.fP b;have hw:=f.hS a;have n:=s.hS h;have o:=s.dr;have q:=f.gW 0;have r:=Fm.qL s f 0 a;unfold vU mE;rw[ky VW,he];simp only[cv,c_,ne_eq,Xx,lL,c6,km,fx,kP,rl];rw[cO VW,lv VW,b,FT FU f _ (by rw[d_];omega) VW,j,Cj _ VW,c];simp only[cv,Xx,lL,if_true,SK,pc];rw[rn FU f (by rw[d_];omega) VW,GL FU f 0 (by rw[d_];omega) VW VW VW,mR FU s (by rw[d_];omega) VW];simp only[cv];rw[ep VW VW]
 have hmul:(f.ait 0:Int)*((s.ain:Int)-1)=((f.ait 0*s.ain:Nat):Int)-(f.ait 0:Int):=by rw[YH,YT];push_cast;rfl
 have t:f.ait 0*s.ain<=4096*4096:=Gf VW i;have k:f.ait 0<=f.ait 0*s.ain:=abS _ VW;rw[zJ (by rw[hmul];omega) (by rw[hmul];omega),hmul,dP VW VW]
 by_cases l:4096<(Fm.iI 0 f s).ain
 .rw[cS VW,cS l]
 .rw[cO VW,cO l,L0 FU f 0 0 s (by rw[d_];omega) VW VW VW VW (Fm.lE f VW j) a VW (Tm.lE s VW c)];simp only[cv,xZ];have u:=Fm.hS _ d;rw[je VW];rfl
def I8{α:Type}{E:α->α->Option Bool}{m l:List α}(hlen:l.length=m.length)(h:∀x∈l,∀y,∃r,E x y=some r/\(r=true↔x=y)):∃o:Unit⊕Bool,dF (λ(j:Int) (x:α) (_:Unit)=>cM (dg m j) λy=>cM (E x y) λz=>if z then(some (dW.next ()):Option (dW Unit Bool))else some (dW.ret false)) l 0 ()=some o/\(o=.inl ()/\l=m\/o=.inr false/\l≠m):=by
 let p:α->α->Bool:=λx y=>(E x y).getD false
 have c:∀x∈l,∀y,E x y=some (p x y)/\(p x y=true↔x=y):=by
  intro x a y;obtain⟨r,d,b⟩:=h x a y
  have e:p x y=r:=by show(E x y).getD false=r;rw[d];rfl
  rw[e];exact⟨d,b⟩
 have key:=wc (F:=λ(j:Int) (x:α) (_:Unit)=>cM (dg m j) λy=>cM (E x y) λz=>if z then some (dW.next ())else some (dW.ret false)) p m l 0 m rfl hlen (by
  intro k x y a hy;rw[fV,hy];simp only[cv];rw[(c x a y).1]
  rfl)
 have he:=wv p l m λx a y=>(c x a y).2;rw[key];cases b:uE p l m with
 |false=>rw[b] at he;exact⟨_,rfl,.inr ⟨rfl,λe=>absurd (he.2 e) aaL⟩⟩
 |true=>rw[b] at he;exact⟨_,rfl,.inl ⟨rfl,he.1 rfl⟩⟩
def zR:∀(n:Nat) (a b:Fm),a.wt<=n->a.wt<=1000000000->∃r,j5 n a b=some r/\(r=true↔a=b):=by
 intro n
 induction n with
 |zero=>intro t b h;have:=t.gM;omega
 |succ n ih=>
  intro a b h w;cases a with
  |mk k s ts l=>
  cases b with
  |mk k' i us m=>
   rw[Fm.ef] at h w;have D:=Fm.oe l;have A:=Tm.oe ts;rw[j5];simp only[Fm.di,Fm.dq,Fm.gl,Fm.dV,c6,c8 (l:=l) VW,c8 (l:=ts) VW,cY,c_,ee]
   have no:¬(k=k'/\s=i/\ts=us/\l=m)->∃r,some false=some r/\(r=true↔Fm.mk k s ts l=Fm.mk k' i us m):=by
    intro hn;refine⟨false,rfl,?_⟩;simp only[pc,OS,Fm.mk.injEq];exact hn
   by_cases d:k≠k'
   .rw[cS d,cS trivial];exact no λh=>d h.1
   .rw[cO d];obtain⟨r,B,v⟩:=wM FU s i (by rw[d_];omega) VW;rw[B];simp only[cv]
    by_cases f:r=true
    .have hs:=v.1 f;rw[cS f]
     by_cases j:(ts.length:Int)≠us.length
     .rw[cS j,cS trivial];exact no λh=>j (by rw[h.2.2.1])
     .rw[cO j]
      by_cases hm:(l.length:Int)≠m.length
      .rw[cS hm];exact no λh=>hm (by rw[h.2.2.2])
      .rw[cO hm];obtain⟨o,C,k2⟩:=I8 (E:=λx y=>ic FU x y) (l:=ts) (m:=us) VW (λx c y=>wL FU x y (by have:=dk Tm.wt c;rw[d_];omega) (by have:=dk Tm.wt c;omega));rw[C];rcases k2 with⟨rfl,q⟩|⟨rfl,q⟩
       .simp only[cv,dh];obtain⟨o,q1,q2⟩:=I8 (E:=λx y=>j5 n x y) (l:=l) (m:=m) VW (λx c y=>ih x y (by have:=dk Fm.wt c;omega) (by have:=dk Fm.wt c;omega));rw[q1];rcases q2 with⟨rfl,u⟩|⟨rfl,u⟩
        .exact⟨true,rfl,by simp only[true_iff,Fm.mk.injEq];exact⟨wK.1 d,hs,q,u⟩⟩
        .exact no λh=>u h.2.2.2
       .exact no λh=>q h.2.2.1
    .rw[cO f,cS trivial];exact no λh=>f (v.2 h.2.1)
def EC(l:List Ty)(t:Tm):Tm:=l.foldr (λs b=>.mk 2 0 s [b]) t
def Vi{l:List Ty}(f:l.length<=1000):∀(i m:Nat) (t:Tm),i<=l.length->i<m->nk ((Tf λ(v57:Int) (v58:Int) (v59:Int) (v60:Int) (b:List Ty) (c:List Tm)=>
   if(og v57 0) then(
   cM (dg l v57) λd=>
   some (.next ((ea .i64 v57 1),2,0,d.ail,d.aim,[(Tm.mk v58 v59 (Ty.mk v60 b) c)])))
   else(some (.brk (v57,v58,v59,v60,b,c)))):(Int×Int×Int×Int×(List Ty)×(List Tm))->(Option (dW (Int×Int×Int×Int×(List Ty)×(List Tm)) (Tm)))) m ((i:Int)-1,t.ail,t.aio,t.cT.ail,t.cT.aim,t.aim)=some (.inl (-1,(EC (l.take i) t).ail,(EC (l.take i) t).aio,(EC (l.take i) t).cT.ail,(EC (l.take i) t).cT.aim,(EC (l.take i) t).aim))
 |0,m+1,t,_,_=>by
  rw[j2];simp only[Tf];rw[cO (by rw[gK];omega)];rfl
 |i+1,m+1,t,hi,hm=>by
  rw[j2];simp only[Tf];rw[cS (by rw[gK];omega),show((i+1:Nat):Int)-1=(i:Int) by omega,fV,l5 VW];simp only[cv,dR];rw[ep VW VW]
  have o:Ty.mk (l[i]).ail (l[i]).aim=l[i]:=by cases l[i];rfl
  have n:Tm.mk t.ail t.aio (Ty.mk t.cT.ail t.cT.aim) t.aim=t:=by cases t with|mk k j s a=>cases s;rfl
  have h:=Vi f i m (.mk 2 0 l[i] [t]) VW VW;rw[n];refine h.trans ?_;rw[aby,l5 VW];simp only[EC,aeJ,afc,List.foldr_cons,List.foldr_nil]
def zj(t:Tm)(l:List Ty)(b:l.length<=1000):uJ t l=some (EC l t):=by
 unfold uJ;simp only[c6];rw[ee,ep VW VW];have h:=Vi b l.length FU t (gO _) (ZR VW);rw[h,cv,abt];generalize EC l t=r;cases r with|mk k j s a=>cases s;rfl
def Bj(t a:Tm):qW t [a]=some (.mk 3 0 (.mk 0 []) [t,a]):=by cases t with|mk k j s l=>cases s;rfl
def J'(t a b:Tm):qW t [a,b]=some (.mk 3 0 (.mk 0 []) [.mk 3 0 (.mk 0 []) [t,a],b]):=by cases t with|mk k j s l=>cases s;rfl
def aax:Tm:=EC [.nat] (.mk 6 0 .nat [.mk 4 0 (.mk 0 []) [],EC [.nat,.nat] (.mk 1 1 (.mk 0 []) []),.mk 1 0 (.mk 0 []) []])
def I0:uQ=some aax:=by
 unfold uQ lV p5 gC ym;simp only[vr,cv,zj _ _ (show[Ty.nat,Ty.nat].length<=1000 by decide),zj _ _ (show[Ty.nat].length<=1000 by decide)];rfl
def afL:Tm:=EC [.nat,.nat] (.mk 6 0 .nat [.mk 1 1 (.mk 0 []) [],EC [.nat,.nat] (.mk 3 0 (.mk 0 []) [aax,.mk 1 0 (.mk 0 []) []]),.mk 1 0 (.mk 0 []) []])
def Kr:wm=some afL:=by
 unfold wm lV zv gC ym;simp only[I0,vr,cv,Bj,zj _ _ (show[Ty.nat,Ty.nat].length<=1000 by decide)];rfl
def Zr(a b:Tm):Fm:=.mk 1 (.mk 0 []) [.mk 3 0 (.mk 0 []) [.mk 3 0 (.mk 0 []) [afL,.mk 5 0 (.mk 0 []) [a]],b],.mk 4 0 (.mk 0 []) []] []
def IY(a b:Tm):uc a b=some (Zr a b):=by
 unfold uc p5 pX;simp only[Kr,cv,J'];rfl
def T8:∀x y:Fin 8,∃z:Fin 8,qn .u8 (x:Nat) (y:Nat)=(z:Nat)/\((z:Nat)%2=1↔(x:Nat)%2=1/\(y:Nat)%2=1):=aaB
def Yf:∀x y:Fin 8,∃z:Fin 8,w4 .u8 (x:Nat) (y:Nat)=(z:Nat)/\((z:Nat)%2=1↔(x:Nat)%2=1\/(y:Nat)%2=1):=aaB
def Mk(b:Bool)(m:Int):Prop:=∃x:Fin 8,m=((x:Nat):Int)/\((x:Nat)%2=1↔b=true)
def Mk.and{a b:Bool}{x y:Int}(c:Mk a x)(hy:Mk b y):Mk (a&&b) (qn .u8 x y):=by
 obtain⟨x,rfl,d⟩:=c;obtain⟨y,rfl,f⟩:=hy;obtain⟨z,h,i⟩:=T8 x y;exact⟨z,h,by rw[i,d,f,fI]⟩
def Mk.or{a b:Bool}{x y:Int}(c:Mk a x)(hy:Mk b y):Mk (a||b) (w4 .u8 x y):=by
 obtain⟨x,rfl,d⟩:=c;obtain⟨y,rfl,f⟩:=hy;obtain⟨z,h,i⟩:=Yf x y;exact⟨z,h,by rw[i,d,f,rl]⟩
def Mk.one:Mk true 1:=⟨1,rfl,aaB⟩
def Mk.six:Mk false 6:=⟨6,rfl,aaB⟩
def Mk.four:Mk false 4:=⟨4,rfl,aaB⟩
def Mk.bit{b:Bool}{m:Int}(h:Mk b m):dx (qn .u8 m 1) 0=b:=by
 obtain⟨x,rfl,a⟩:=h
 have key:∀x:Fin 8,dx (qn .u8 ((x:Nat):Int) 1) 0=decide ((x:Nat)%2=1):=aaB
 rw[key x];cases b with
 |false=>exact Et (λh=>by have:=a.1 h;cases this)
 |true=>exact vF (a.2 rfl)
def Fm.acb{a:Fm}(d:a.ok=true)(c:a.ail=2\/a.ail=3):∃p q,a=.mk a.ail (.mk 0 []) [] [p,q]/\p.ok=true/\q.ok=true:=by
 refine Fm.nU (p:=λa=>a.ail=2\/a.ail=3->∃p q,a=.mk a.ail (.mk 0 []) [] [p,q]/\p.ok=true/\q.ok=true) ?_ ?_ ?_ a d c
 .intro a b _ _ h;rcases h with h|h<;>cases h
 .intro k a b _ f i _ _ _;exact⟨a,b,rfl,f,i⟩
 .intro k s a c _ _ _ h;have h:k=2\/k=3:=h;omega
def Fm.aeR{a:Fm}(d:a.ok=true)(f:a.ail=1):∃u v,a=.mk 1 (.mk 0 []) [u,v] []/\u.ok=true/\v.ok=true:=by
 refine Fm.nU (p:=λa=>a.ail=1->∃u v,a=.mk 1 (.mk 0 []) [u,v] []/\u.ok=true/\v.ok=true) ?_ ?_ ?_ a d f
 .intro a b i j _;exact⟨a,b,rfl,i,j⟩
 .intro k a b c _ _ _ _ h;have h:k=1:=h;omega
 .intro k s a c _ _ _ h;have h:k=1:=h;omega
def Tm.abZ{a:Tm}(f:a.ok=true)(i:a.ail=3):∃c d,a=.mk 3 0 .z [c,d]/\c.ok=true/\d.ok=true:=by
 refine Tm.nU (p:=λa=>a.ail=3->∃c d,a=.mk 3 0 .z [c,d]/\c.ok=true/\d.ok=true) ?_ ?_ ?_ ?_ ?_ ?_ ?_ ?_ ?_ ?_ ?_ ?_ ?_ a f i
 case refine_3=>intro a b j k _;exact⟨a,b,rfl,j,k⟩
 all_goals(intros;rename_i h;cases h)
def Hb{k:Int}{s:Ty}{a:Fm}(W:(Fm.mk k s [] [a]).ok=true)(hn:(Fm.mk k s [] [a]).ain<=1000000)(N:a.air 1000000000000=true)(x:a.ok=true):∃b t q ok,su (.mk k s [] [a])=some (b,t,q,ok)/\(ok=true->q.ok=true/\q.ain<a.ain/\q.air 1000000000000=true):=by
 rw[Fm.cQ] at hn;simp only[db] at hn;have no:∃b t q ok,(some (false,(Tm.mk 0 0 (Ty.mk 0 []) []),(Fm.mk 0 (Ty.mk 0 []) [] []),false):Option (Bool×Tm×Fm×Bool))=some (b,t,q,ok)/\(ok=true->q.ok=true/\q.ain<a.ain/\q.air 1000000000000=true):=⟨_,_,_,_,rfl,aaL⟩;unfold su
 obtain⟨y,n,O,X⟩:∃y n,sE (dj (Fm.mk k s [] [a]).ail 4)=some (y,n)/\(n=2\/n=3):=by
  unfold sE
  split
  .exact⟨_,_,rfl,.inr rfl⟩
  .exact⟨_,_,rfl,.inl rfl⟩
 rw[O,cN];simp only[c6]
 by_cases J:dx (Fm.mk k s [] [a]).ail y=true
 .rw[cS J,cS trivial];exact no
 rw[cO J]
 by_cases K:dx (Fm.mk k s [] [a]).cT.ail 1=true
 .rw[cS K,cS trivial];exact no
 rw[cO K];simp only[Fm.di,dA,iq,cv]
 by_cases c3:dx a.ail n=true
 .rw[cS c3,cS trivial];exact no
 rw[cO c3]
 have A:a.ail=2\/a.ail=3:=by
  have:a.ail=n:=by simpa[dx] using c3
  omega
 obtain⟨p,q,f,L,P⟩:=Fm.acb x A;have B:a.aim=[p,q]:=(congrArg Fm.aim f).trans rfl
 have Q:a.ain=1+p.ain+q.ain:=by rw[f,Fm.cQ];simp[db];omega
 have o:p.air 1000000000000=true/\q.air 1000000000000=true:=by
  have h:=N;rw[f,Fm.ey] at h;simp only[RS,AX,Hq,yg,fI] at h;exact h
 have R:=p.dr;rw[B];simp only[dA,fg,iq,lQ,cv]
 by_cases C:dx p.ail 1=true
 .rw[cS C];exact no
 rw[cO C]
 have D:p.ail=1:=by simpa[dx] using C
 obtain⟨u,v,i,hu,Y⟩:=Fm.aeR L D;have F:p.dc=[u,v]:=(congrArg Fm.dc i).trans rfl
 have j:u.air 1000000000000=true:=by
  have:=o.1;rw[i,Fm.ey] at this;simp only[AX,fI] at this;exact this.1.1
 have S:p.ain=1+u.ain+v.ain:=by rw[i,Fm.cQ];simp[db];omega
 rw[F];simp only[dA,iq,cv]
 by_cases c5:dx u.ail 3=true
 .rw[cS c5,cS trivial];exact no
 rw[cO c5]
 have G:u.ail=3:=by simpa[dx] using c5
 obtain⟨c,d,l,Z,T⟩:=Tm.abZ hu G;have H:u.aim=[c,d]:=(congrArg Tm.aim l).trans rfl
 have U:u.ain=1+c.ain+d.ain:=by rw[l,Tm.cQ];simp[db];omega
 have I:d.air 1000000000000=true:=by
  rw[l,Tm.ey] at j;simp only[AX,fI] at j;exact j.2.2.1
 rw[H];simp only[fg,lQ,iq,cv];rw[Aw 0 ⟨T,I,VW⟩,cv];have yes:∃b t w ok,(some (dj (Fm.mk k s [] [a]).ail 4,d,q,true):Option (Bool×Tm×Fm×Bool))=some (b,t,w,ok)/\(ok=true->w.ok=true/\w.ain<a.ain/\w.air 1000000000000=true):=⟨_,_,_,_,rfl,λ_=>⟨P,VW,o.2⟩⟩
 by_cases M:ly (d.ait 0:Int) 0=true
 .rw[cS M,cS trivial];exact no
 rw[cO M];have hw:=p.hS L;obtain⟨r,V,_⟩:=zR FU p (Zr (.mk 1 0 (.mk 0 []) []) d) (by rw[d_];omega) VW;rw[show gC 0=some (Tm.mk 1 0 (.mk 0 []) [])from rfl,cv,IY,cv,V,cv];cases r with
 |true=>rw[show pL true=false from rfl,cO aaB];exact yes|false=>rw[show pL false=true from rfl,cS rfl];exact no
def MK:∀(n:Nat) (f:Fm),f.ain<=n->f.ain<=1000000->f.ok=true->f.air 1000000000000=true->∃m,mU n f=some m/\Mk f.has m:=by
 intro n
 induction n with
 |zero=>intro f h;have:=f.dr;omega
 |succ n ih=>
  intro f hn i x c;refine Fm.nU (p:=λf=>f.ain<=n+1->f.ain<=1000000->f.ok=true->f.air 1000000000000=true->∃m,mU (n+1) f=some m/\Mk f.has m) ?_ ?_ ?_ f x hn i x c
  .intro a b _ _ _ _ _ _;rw[mU,cS adr];exact⟨6,rfl,by rw[Fm.has_eq];exact Mk.six⟩
  .intro k a b y A B _ _ hn i _ c;rw[Fm.cQ] at hn i;simp only[db] at hn i;rw[Fm.ey] at c;simp only[RS,AX,Hq,yg,fI] at c;obtain⟨m1,C,u⟩:=ih a VW VW A c.1;obtain⟨m2,D,w⟩:=ih b VW VW B c.2
   have d:k≠1:=VW
   have F:en (dj k 2) true (dj k 3)=true:=by rcases y with rfl|rfl<;>rfl
   rw[mU,cO (show¬dj (Fm.mk k (.mk 0 []) [] [a,b]).ail 1=true by simpa[dj] using d)]
   have G:dg [a,b] (ea .i64 (dp [a,b]) 1)=some b:=by rw[ep aaL aaL];rfl
   simp only[Fm.di,G,cv,D,c6];rw[cS (show en (dj (Fm.mk k (.mk 0 []) [] [a,b]).ail 2) true (dj (Fm.mk k (.mk 0 []) [] [a,b]).ail 3)=true from F)];simp only[dA,iq,cv,C,Fm.dq];refine⟨_,rfl,?_⟩;rw[Fm.QA,cO d];have o:=(u.and w).and Mk.six;rw[Bool.and_false] at o;rcases y with rfl|rfl
   .rw[show en (dj 2 2) (w4 .u8 m2 m1) m2=w4 .u8 m2 m1 from rfl];have j:=(w.or u).and Mk.one;rw[Hq] at j;have:=o.or j;rw[SM,Bool.or_comm] at this;simpa using this
   .rw[show en (dj 3 2) (w4 .u8 m2 m1) m2=m2 from rfl];have j:=w.and Mk.one;rw[Hq] at j;have:=o.or j;rw[SM] at this;simpa using this
  .intro k s a y hs A _ hn i x c;have H:=i;rw[Fm.cQ] at hn i;simp only[db] at hn i;rw[Fm.ey] at c;simp only[RS,AX,Hq,yg] at c;obtain⟨m1,C,u⟩:=ih a VW VW A c
   have d:k≠1:=VW
   have F:en (dj k 2) true (dj k 3)=false:=by rcases y with rfl|rfl|rfl|rfl<;>rfl
   rw[mU,cO (show¬dj (Fm.mk k s [] [a]).ail 1=true by simpa[dj] using d)]
   have G:dg [a] (ea .i64 (dp [a]) 1)=some a:=by rw[ep aaL aaL];rfl
   simp only[Fm.di,G,cv,C,c6];rw[cO (show¬en (dj (Fm.mk k s [] [a]).ail 2) true (dj (Fm.mk k s [] [a]).ail 3)=true by rw[show en (dj (Fm.mk k s [] [a]).ail 2) true (dj (Fm.mk k s [] [a]).ail 3)=false from F];decide)];obtain⟨b,t,q,ok,M,N⟩:=Hb x H c A;rw[M]
   have fin:∀(v:Int) (L:Mk (Fm.mk k s [] [a]).has v),∃m,(QE (some (b,t,q,ok)) λO P I J=>if J then(cM (mU n I) λr=>some (w4 .u8 (qn .u8 v 1) (qn .u8 r 4)))else(some (qn .u8 v 1)))=some m/\Mk (Fm.mk k s [] [a]).has m:=by
    intro v L;show∃m,(if ok then(cM (mU n q) λr=>some (w4 .u8 (qn .u8 v 1) (qn .u8 r 4)))else(some (qn .u8 v 1)))=some m/\Mk (Fm.mk k s [] [a]).has m;have o:=L.and Mk.one;rw[Hq] at o;cases ok with
    |false=>exact⟨_,rfl,o⟩|true=>
     obtain⟨d1,d2,d3⟩:=N rfl;obtain⟨m2,D,w⟩:=ih q VW VW d1 d3;rw[cS rfl,D];refine⟨_,rfl,?_⟩;have j:=w.and Mk.four;rw[Bool.and_false] at j;have:=o.or j
     rwa [Bool.or_false] at this
   have l:(Fm.mk k s [] [a]).has=if k=5 then true else a.has:=by
    rw[Fm.QM,cO d]
   by_cases K:k=5
   .subst K;rw[cS adr];refine fin _ ?_;rw[l,cS rfl];have:=u.or Mk.one
    rwa [Bool.or_true] at this
   .rw[cO (show¬dj (Fm.mk k s [] [a]).ail 5=true by simpa[dj] using K)];refine fin _ ?_;rw[l,cO K];exact u
def C_{f:Fm}(hw:f.wt<=1000000000)(b:f.air 1000000000000=true):nX f=some (if f.err≠0 then(false,f.err)else(f.has,0)):=by
 unfold nX zm;rw[kc hw,cv]
 by_cases he:f.err=0
 .obtain⟨a,hn⟩:=Fm.fP he;obtain⟨m,c,d⟩:=MK FU f (by have:=d_;omega) VW a b;rw[cO (by rw[c_];simpa using he),c,cv,d.bit,cN,cO (by simpa using he)]
 .rw[cS (by rw[c_];exact he),cN,cS he]
def gG{α:Type}(m:List (Int×α)):List Int:=m.map (·.1)
def wN{α:Type}(k:Int)(v:α):∀(m:List (Int×α)) (x:Int),x∈gG (nN m k v)↔x=k\/x∈gG m
 |[],x=>by simp[nN,gG]|p::m,x=>by
  unfold nN
  by_cases h:p.1=k
  .rw[cS h];subst h;simp[gG]
  .rw[cO h];have ih:=wN k v m x;simp only[gG,CN,jr] at ih|-;rw[ih];constructor
   .rintro(h|h|h)
    .exact .inr (.inl h)
    .exact .inl h
    .exact .inr (.inr h)
   .rintro(h|h|h)
    .exact .inr (.inl h)
    .exact .inl h
    .exact .inr (.inr h)
def xc{α:Type}(k:Int)(v:α):∀(m:List (Int×α)),(gG m).Nodup->(gG (nN m k v)).Nodup
 |[],_=>by simp[nN,gG]|p::m,h=>by
  have b:p.1∉gG m/\(gG m).Nodup:=UO.1 h;unfold nN
  by_cases a:p.1=k
  .rw[cS a];subst a;exact h
  .rw[cO a];refine UO.2 ⟨λhm=>?_,xc k v m b.2⟩;rcases(wN k v m p.1).1 hm with e|e
   .exact a e
   .exact b.1 e
def Cb{α:Type}(k:Int)(v:α):∀(m:List (Int×α)),(nN m k v).length<=m.length+1
 |[]=>by simp[nN]|p::m=>by
  unfold nN
  split
  .simp
  .have:=Cb k v m;simp only[kY];omega
def NT(n:Int):∀l:List Int,(AY n l).length=l.length+1
 |[]=>rfl|a::l=>by
  unfold AY
  split
  .rfl
  .simp[NT n l]
def Jq:∀(l acc:List Int),(xP acc l).length=acc.length+l.length
 |[],acc=>by simp[xP]|a::l,acc=>by rw[xP,Jq l,NT];simp only[kY];omega
def Ia:∀(n:Nat) (t:Tm) (d:Int) (m:List (Int×Bool)),t.ain<=n->t.ain<=100000000->0<=d->d+t.ain<=1000000000->t.air 4611686018427387904=true->(gG m).Nodup->∃y,qm n t d m=some y/\(gG y).Nodup/\y.length<=m.length+t.ain/\∀x,x∈gG y↔x∈gG m\/(0<=x/\0<t.ait (x+d)):=by
 intro n
 induction n with
 |zero=>intro t d m h;have:=t.dr;omega
 |succ n ih=>
  intro t d m hn B O P I hm;cases t with
  |mk k i s l=>
   have J:=kg k;rw[Tm.cQ] at hn B P;have hlen:=fR Tm.ain l λt _=>t.dr;rw[Tm.ey,fI,oc,jY] at I
   have aim:∀(F:Int->Tm->List (Int×Bool)->Option (dW (List (Int×Bool)) (List (Int×Bool)))),(∀j x v,F j x v=cM (kv (Tm.mk k i s l)) λb=>cM (qm n x (dJ .i64 d b) v) λr=>some (.next r))->∀(as:List Tm) (j:Nat) (v:List (Int×Bool)),(∀a∈as,a∈l)->(gG v).Nodup->∃f,dF F as j v=some (.inl f)/\(gG f).Nodup/\f.length<=v.length+db Tm.ain as/\∀x,x∈gG f↔x∈gG v\/(0<=x/\0<db (Tm.ait (x+d+eZ k)) as):=by
    intro F hF as
    induction as with
    |nil=>intro j v _ C;exact⟨v,rfl,C,by simp[db],λx=>by simp[db]⟩|cons a as D=>
     intro j v has C;have K:=has a aaL;have Q:=dk Tm.ain K;have G:=I.2 a K;obtain⟨v1,o,q,L,u⟩:=ih a (d+eZ k) v VW VW VW VW G C;obtain⟨v2,g1,g2,g3,g4⟩:=D (j+1) v1 (λb B=>has b (by simp[B])) q;refine⟨v2,?_,g2,by simp only[db];omega,λx=>?_⟩
     .rw[dB,hF,mZ];simp only[cv,Tm.dq];rw[dP VW VW,o];simp only[cv,dR];exact g1
     .rw[g4,u];simp only[db];rw[<-Int.add_assoc];constructor
      .rintro((h|h)|h)
       .exact .inl h
       .exact .inr ⟨h.1,VW⟩
       .exact .inr ⟨h.1,VW⟩
      .rintro(h|⟨h,A⟩)
       .exact .inl (.inl h)
       .by_cases R:0<a.ait (x+d+eZ k)
        .exact .inl (.inr ⟨h,R⟩)
        .exact .inr ⟨h,VW⟩
   unfold qm;simp only[c6,Tm.di,c8 (l:=l) VW,cY,Tm.dq,Tm.eY];rw[Tm.cQ]
   by_cases w:k=1/\d<=i
   .have c:en (dj k 1) (og i d) false=true:=by simp[en,w.1,w.2]
    simp only[c,if_true];rw[ep VW VW];obtain⟨f,o,q,L,u⟩:=aim _ (λ_ _ _=>rfl) l 0 (nN m (i-d) true) (λa h=>h) (xc _ _ _ hm);refine⟨f,by rw[o];rfl,q,by have:=Cb (i-d) true m;omega,λx=>?_⟩;rw[u,wN,Tm.fB];constructor
    .rintro((h|h)|h)
     .exact .inr ⟨VW,by rw[cS ⟨w.1,VW⟩];omega⟩
     .exact .inl h
     .exact .inr ⟨h.1,VW⟩
    .rintro(h|⟨h,A⟩)
     .exact .inl (.inr h)
     .by_cases M:x=i-d
      .exact .inl (.inl M)
      .rw[cO (λN=>M VW)] at A;exact .inr ⟨h,VW⟩
   .have c:en (dj k 1) (og i d) false=false:=by
     unfold en
     split
     .rename_i S
      have H:k=1:=by simpa using S
      simp only[og,ab9]
      exactλh=>w ⟨H,h⟩
     .rfl
    simp only[c,pc,lL];obtain⟨f,o,q,L,u⟩:=aim _ (λ_ _ _=>rfl) l 0 m (λa h=>h) hm;refine⟨f,by rw[o];rfl,q,VW,λx=>?_⟩;rw[u,Tm.fB];constructor
    .rintro(h|h)
     .exact .inl h
     .exact .inr ⟨h.1,VW⟩
    .rintro(h|⟨h,A⟩)
     .exact .inl h
     .rw[cO (λN=>w ⟨N.1,VW⟩)] at A;exact .inr ⟨h,VW⟩
def H_{t:Tm}(hw:t.wt<=1000000000)(d:t.air 4611686018427387904=true)(he:t.err=0):∃l,uD t=some (l,0)/\Fb l/\l.length<=4096/\∀x,x∈l↔0<=x/\0<t.ait x:=by
 have hn:t.ain<=4096:=by
  unfold Tm.err at he
  split at he
  .split at he
   .cases he
   .omega
  .cases he
 obtain⟨m,f,c,h,i⟩:=Ia FU t 0 [] (by rw[d_];omega) VW VW VW d (by simp[gG])
 have a:(m.map (·.1)).Nodup:=c
 have b:m.length<=4096:=by simpa using zS h (by simpa using hn)
 refine⟨xP [] (gG m),?_,zE _ [] .nil c aaL,?_,λx=>?_⟩
 .unfold uD;rw[lv hw,he];simp only[cv];rw[cO aaB,f];simp only[cv];unfold pA
  rw[c8 VW,cY,show vS (m.map (·.1))=true from by simp[vS,a],cY]
  rfl
 .rw[Jq];simp[gG,b]
 .rw[zH,i];simp[gG]
def Fg{n:Int}(a:0<=n)(b:n<4294967296):IntKind.u32.wrap n=n:=by
 unfold IntKind.wrap;simp only[show IntKind.u32.bits=32 from rfl,show IntKind.u32.signed=false from rfl,ab5,pc,lL,show((2:Int)^32)=4294967296 from rfl];omega
def KF(a:Nat):BitVec.ofInt 32 (a:Int)=BitVec.ofNat 32 a:=aaL
def Li{a b:Nat}(d:a<4294967296)(f:b<4294967296):w4 .u32 (a:Int) (b:Int)=((a|||b:Nat):Int):=by
 unfold w4;have c:a|||b<2^32:=aaW VW VW;rw[show IntKind.u32.bits=32 from rfl,KF,KF,BitVec.toNat_or,XS,XS,Ud VW,Ud VW];exact Fg VW VW
def Mz{a b:Nat}(d:a<4294967296)(f:b<4294967296):qn .u32 (a:Int) (b:Int)=((a&&&b:Nat):Int):=by
 unfold qn;have c:a&&&b<2^32:=afb _ VW;rw[show IntKind.u32.bits=32 from rfl,KF,KF,BitVec.toNat_and,XS,XS,Ud VW,Ud VW];exact Fg VW VW
def U7{k:Nat}(b:k<32):Wp .u32 1 (k:Int)=((2^k:Nat):Int):=by
 unfold Wp;rw[show IntKind.u32.bits=32 from rfl,zP,T1 VW,Int.one_mul];have a:2^k<2^32:=XZ aaB b;rw[show((2:Int)^k)=((2^k:Nat):Int) by push_cast;rfl];exact Fg (aeq _) (Int.ofNat_lt.2 (aez a rfl))
def Ua{a k:Nat}(b:k<=32):TQ .u32 (a:Int) (k:Int)=((a/2^k:Nat):Int):=by
 unfold TQ;rw[show IntKind.u32.bits=32 from rfl,zP,T1 b];rw[show((2:Int)^k)=((2^k:Nat):Int) by push_cast;rfl];rw[Int.fdiv_eq_ediv_of_nonneg _ (aeq _)];rfl
structure Us (l:List Int) (m:Nat):Prop where
 lt:m<4294967296
 pos:∀x∈l,0<=x
 srt:Fb l
 mem:∀i:Nat,(i:Int)∈l↔m.testBit i=true
def Us.nil:Us [] 0:=⟨aaB,aaL,by first|exact .nil|trivial|simp[Fb],aaL⟩
def CL{i b:Int}{m:Nat}(hm:m<4294967296)(o:0<=i)(q:i<=1000000000000)(r:0<=b)(s:b<=1000000000)(t:i-b<32):∃c:Nat,mA i b (m:Int)=some (c:Int)/\c<4294967296/\∀j:Nat,c.testBit j=true↔m.testBit j=true\/i=j+b:=by
 unfold mA
 by_cases h:b<=i
 .rw[cS (by rw[gK];exact h),ep VW VW,show IE (i-b)=true by simp[IE];omega,cY];obtain⟨k,l⟩:∃k:Nat,i-b=(k:Int):=⟨(i-b).toNat,VW⟩
  have a:k<32:=VW
  have d:2^k<4294967296:=aez (XZ aaB a) rfl;rw[l,U7 a,Li hm d];refine⟨m|||2^k,rfl,aaW (n:=32) VW VW,λj=>?_⟩;rw[abw,rl,Ys,PD];constructor
  .rintro(h|h)
   .exact .inl h
   .exact .inr VW
  .rintro(h|h)
   .exact .inl h
   .exact .inr VW
 .rw[cO (by rw[gK];exact h)];exact⟨m,rfl,hm,λj=>⟨.inl,λf=>f.elim id λf=>absurd f VW⟩⟩
def FI:∀(n:Nat) (t:Tm) (b:Int) (m:Nat),t.ain<=n->t.ain<=1000000->t.ok=true->t.air 1000000000000=true->0<=b->b+t.ain<=1000000000->m<4294967296->(∀j:Int,32<=j->t.ait (j+b)=0)->∃r:Nat,jh n t b (λ(s:Int) (w:Int) (x:Int)=>mA w x s) (m:Int)=some (r:Int)/\r<4294967296/\∀j:Nat,r.testBit j=true↔m.testBit j=true\/0<t.ait (j+b):=by
 intro n
 induction n with
 |zero=>intro t b m h;have:=t.dr;omega
 |succ n ih=>
  intro t b m hn P Q y R A hm c;cases t with
  |mk k i s l=>
   rw[Tm.cQ] at hn P A;have hlen:=Tm.ek l;have hi:=Tm.kN Q;rw[Tm.ey,fI,PD,jY] at y;have S:=kg k;rw[jh];simp only[c6]
   have B:∀j:Int,32<=j->∀t∈l,t.ait (j+(b+eZ k))=0:=by
    intro j C t T;have D:=c j C;rw[Tm.fB] at D;have X:=dk (Tm.ait (j+b+eZ k)) T;rw[show j+(b+eZ k)=j+b+eZ k by omega];omega
   have loop:∀(ts:List Tm) (j:Nat) (v:Nat),(∀t∈ts,t∈l)->v<4294967296->∃F:Nat,dF (λ(U:Int) (G:Tm)=>(λ(v28:Int)=>
      cM (jh n G (b+eZ k) (λ(s:Int) (w:Int) (x:Int)=>mA w x s) v28) λH=>
      some ((.next H):dW Int Int))) ts j (v:Int)=some (.inl (F:Int))/\F<4294967296/\∀q:Nat,F.testBit q=true↔v.testBit q=true\/0<db (Tm.ait (q+b+eZ k)) ts:=by
    intro ts
    induction ts with
    |nil=>intro j v _ I;exact⟨v,aaL,I,λq=>by simp[db]⟩|cons t ts J=>
     intro j v d I;have a:=d t aaL;have V:=dk Tm.ain a;obtain⟨v1,K,L,M⟩:=ih t (b+eZ k) v VW VW (hi.2.2.2.1 t a) (y.2 t a) VW VW I (λj C=>B j C t a);obtain⟨v2,f1,f2,f3⟩:=J (j+1) v1 (λu hu=>d u (by simp[hu])) L;refine⟨v2,?_,f2,λq=>?_⟩
     .rw[dB,K];simp only[cv,dR];exact f1
     .rw[f3,M];simp only[db];rw[show(q:Int)+(b+eZ k)=q+b+eZ k by omega];constructor
      .rintro((h|h)|h)
       .exact .inl h
       .exact .inr VW
       .exact .inr VW
      .rintro(h|h)
       .exact .inl (.inl h)
       .by_cases W:0<t.ait (q+b+eZ k)
        .exact .inl (.inr W)
        .exact .inr VW
   by_cases N:k=1
   .subst N;rw[cS (show dj (Tm.mk 1 i s l).ail 1=true from rfl)];simp only[Tm.di,Tm.dq,Tm.eY]
    have O:i-b<32:=by
     rcases Int.lt_or_le (i-b) 32 with h|h
     .exact h
     .have D:=c (i-b) h;rw[Tm.fB,cS ⟨rfl,VW⟩] at D;omega
    obtain⟨m1,K,L,M⟩:=CL hm hi.2.1 y.1 R VW O;rw[K,cv,vV 1 b VW VW,c8 VW,cY];obtain⟨m2,f1,f2,f3⟩:=loop l 0 m1 (λt h=>h) L;refine⟨m2,?_,f2,λq=>?_⟩
    .have f:=f1;rw[show((0:Nat))=0 from rfl] at f;rw[f,cv];rfl
    .rw[f3,M,Tm.fB]
     by_cases o:i=q+b
     .rw[cS ⟨rfl,o⟩];exact⟨λ_=>.inr VW,λ_=>.inl (.inr o)⟩
     .rw[cO (λh=>o h.2),tH];exact⟨λh=>h.elim (λh=>h.elim .inl λh=>absurd h o) .inr,λh=>h.elim (λh=>.inl (.inl h)) .inr⟩
   .rw[cO (show¬dj (Tm.mk k i s l).ail 1=true by simpa[dj] using N)];simp only[Tm.di,Tm.dq,Tm.eY];rw[vV k b VW VW,c8 VW,cY];obtain⟨m2,f1,f2,f3⟩:=loop l 0 m (λt h=>h) hm;refine⟨m2,by rw[f1,cv];rfl,f2,λq=>?_⟩;rw[f3,Tm.fB,cO (λh=>N h.1),tH]
def Ya{t:Tm}(he:t.err=0)(b:t.air 1000000000000=true)(c:∀j:Int,32<=j->t.ait j=0):∃(l:List Int) (m:Nat),jc t=some (m:Int)/\jA t=some l/\Us l m/\∀x,x∈l↔0<=x/\0<t.ait x:=by
 obtain⟨a,hn⟩:=Tm.fP he;have hw:=t.hS a;obtain⟨m,d,f,h⟩:=FI FU t 0 0 (by have:=d_;omega) VW a b VW VW aaB (λj k=>by rw[xZ];exact c j k);obtain⟨l,g1,g2,_,g4⟩:=H_ (t:=t) VW (Tm.lE t VW b) he;refine⟨l,m,?_,by unfold jA;rw[g1];rfl,⟨f,λx n=>((g4 x).1 n).1,g2,λi=>?_⟩,g4⟩
 .unfold jc qz;rw[show(0:Int)=((0:Nat):Int)from rfl] at*;rw[d];rfl
 .rw[g4,h,xZ];simp
def r6(v:List (Int×Bool))(l:List Int):List (Int×Bool):=l.foldl (λv x=>nN v x true) v
def xz:∀(l:List Int) (v:List (Int×Bool)),(gG v).Nodup->(gG (r6 v l)).Nodup/\(r6 v l).length<=v.length+l.length/\∀x,x∈gG (r6 v l)↔x∈gG v\/x∈l
 |[],v,h=>⟨h,by simp[r6],λx=>by simp[r6]⟩|y::l,v,h=>by
  obtain⟨a,c,b⟩:=xz l (nN v y true) (xc y true v h);refine⟨a,?_,λx=>?_⟩
  .have:=Cb y true v;show(r6 (nN v y true) l).length<=_;rw[kY];omega
  .show x∈gG (r6 (nN v y true) l)↔_;rw[b,wN,jr];constructor
   .rintro((h|h)|h)
    .exact .inr (.inl h)
    .exact .inl h
    .exact .inr (.inr h)
   .rintro(h|h|h)
    .exact .inl (.inr h)
    .exact .inl (.inl h)
    .exact .inr h
def Gj{ρ:Type}:∀(l:List Int) (j:Nat) (v:List (Int×Bool)),dF (λ(c:Int) (a:Int)=>(λ(b:(List (Int×Bool)))=>some ((.next (nN b a true)):dW (List (Int×Bool)) ρ))) l j v=some (.inl (r6 v l))
 |[],j,v=>by rw[nT];rfl|x::l,j,v=>by
  rw[dB];simp only[cv,dR];exact Gj l (j+1) (nN v x true)
def Gs{a b:List Int}(h:a.length<=1000000)(i:b.length<=1000000):∃l,fo a b=some l/\Fb l/\∀x,x∈l↔x∈a\/x∈b:=by
 obtain⟨c,d,f⟩:=xz a [] (by simp[gG]);obtain⟨g1,g2,g3⟩:=xz b (r6 [] a) c;refine⟨xP [] (gG (r6 (r6 [] a) b)),?_,zE _ _ .nil g1 aaL,λx=>?_⟩
 .unfold fo;simp only[c6];rw[c8 VW,cY];rw[Gj a 0 [],cv,dh,c8 VW,cY,Gj b 0 _,cv,dh];unfold pA;simp only[wC] at d;rw[c8 VW,cY,show vS (List.map (λx=>x.1) (r6 (r6 [] a) b))=true from vF g1,cY];rfl
 .rw[zH,g3,f];simp[gG]
def Us.union{a b:List Int}{m n:Nat}(c:Us a m)(d:Us b n)(f:a.length<=1000000)(j:b.length<=1000000):∃l,fo a b=some l/\w4 .u32 (m:Int) (n:Int)=((m|||n:Nat):Int)/\Us l (m|||n)/\∀x,x∈l↔x∈a\/x∈b:=by
 obtain⟨l,o,q,k⟩:=Gs f j;refine⟨l,o,Li c.lt d.lt,⟨aaW (n:=32) (by have:=c.lt;omega) (by have:=d.lt;omega),λx r=>?_,q,λi=>?_⟩,k⟩
 .rcases(k x).1 r with h|h
  .exact c.pos x h
  .exact d.pos x h
 .rw[k,c.mem,d.mem,abw,rl]
def Us.bound{l:List Int}{m:Nat}(h:Us l m):∀x∈l,x<32:=by
 intro x a;have b:=h.pos x a;obtain⟨k,rfl⟩:=aa3 b;have:=(h.mem k).1 a;rcases sH k 32 with h1|h1
 .omega
 .exfalso;have c:m<2^k:=SX h.lt (zS (by decide:4294967296<=2^32) (Nat.pow_le_pow_right aaB h1));rw[Nat.testBit_lt_two_pow c] at this;cases this
def wO(k:Int)(l:List Int):List Int:=(l.filter λx=>decide (k<=x)).map λx=>x-k
def GZ{k:Int}(d:0<=k)(b:k<=1000):∀(l:List Int) (j:Nat) (v:List Int),(∀x∈l,0<=x/\x<32)->v.length+l.length<=1000000->dF (λ(f:Int) (a:Int)=>(λ(v44:List Int)=>
   if(og a k) then(
   e_ (eI v44 [(ea .i64 a k)])<|some ((.next (fk v44 [(ea .i64 a k)])):dW (List Int) (List Int)))
   else(some (.next v44)))) l j v=some (.inl (v++wO k l))
 |[],j,v,_,_=>by simp[wO]|x::l,j,v,h,i=>by
  simp only[kY] at i;have n:=h x aaL;rw[dB]
  by_cases c:k<=x
  .rw[cS (by rw[gK];exact c),dT acz,cY,ep VW VW];simp only[cv,dR];rw[fu,GZ d b l (j+1) _ (λy hy=>h y (by simp[hy])) acz];simp[wO,c]
  .rw[cO (by rw[gK];exact c)];simp only[cv,dR];rw[GZ d b l (j+1) v (λy hy=>h y (by simp[hy])) VW];simp[wO,c]
def CR{l:List Int}{m:Nat}(h:Us l m)(d:l.length<=1000000){k:Int}(c:0<=k)(a:k<=1000):fq l k=some (wO k l):=by
 unfold fq;simp only[c6];rw[c8 VW,cY,GZ c a l 0 [] (λx b=>⟨h.pos x b,h.bound x b⟩) acz,cv,dh,od]
def G3(k:Int)(l:List Int)(x:Int):x∈wO k l↔x+k∈l/\0<=x:=by
 unfold wO;simp only[nw,YM,PD];constructor
 .rintro⟨y,⟨a,b⟩,rfl⟩;exact⟨by rw[Int.sub_add_cancel];exact a,VW⟩
 .rintro⟨a,b⟩;exact⟨x+k,⟨a,VW⟩,VW⟩
def Nt(k:Int):∀{l:List Int},Fb l->Fb (wO k l)
 |[],_=>.nil|a::l,.cons d f=>by
  have ih:=Nt k f
  by_cases c:k<=a
  .have e:wO k (a::l)=(a-k)::wO k l:=by simp[wO,c]
   rw[e];refine .cons (λb h=>?_) ih;have:=d _ ((G3 k l b).1 h).1;omega
  .have e:wO k (a::l)=wO k l:=by simp[wO,c]
   rw[e];exact ih
def Us.out{l:List Int}{m:Nat}(h:Us l m)(a:l.length<=1000000){k:Nat}(b:k<=32):fq l (k:Int)=some (wO k l)/\ei (m:Int) (k:Int)=some ((m/2^k:Nat):Int)/\Us (wO k l) (m/2^k):=by
 refine⟨CR h a VW VW,?_,⟨afr (Nat.div_le_self _ _) h.lt,λx c=>((G3 _ _ _).1 c).2,Nt _ h.srt,λi=>?_⟩⟩
 .unfold ei;rw[show IE (k:Int)=true by simp[IE],cY,Ua b]
 .rw[G3,show(i:Int)+(k:Int)=((i+k:Nat):Int) by omega,h.mem]
  have e:(m/2^k).testBit i=m.testBit (i+k):=by rw[Nat.testBit_div_two_pow]
  rw[e];exact⟨λh=>h.1,λh=>⟨h,VW⟩⟩
def Tm.up_add(f b c:Int)(n:0<=b):∀(t:Tm) (d:Int),(t.up (f+d) b).up (f+d) c=t.up (f+d) (b+c):=by
 intro t
 induction t using Tm.ind with
 |h k i s l ih=>
  intro d;rw[Tm.kI,Tm.kI,Tm.kI]
  congr 1
  .by_cases a:k=1/\f+d<=i
   .rw[cS a,cS ⟨a.1,VW⟩];omega
   .rw[cO a,cO a,cO a]
  .rw[PX]
   exact uy λx j=>by
    have:=ih x j (d+eZ k);rw[show f+(d+eZ k)=f+d+eZ k by omega] at this;exact this
def Fm.up_add(f b c:Int)(a:0<=b):∀(t:Fm) (d:Int),(t.up (f+d) b).up (f+d) c=t.up (f+d) (b+c):=by
 intro t
 induction t using Fm.ind with
 |h k s ts l ih=>
  intro d;rw[Fm.kI,Fm.kI,Fm.kI]
  congr 1
  .rw[PX];exact uy λx _=>Tm.up_add f b c a x d
  .rw[PX]
   exact uy λx i=>by
    have:=ih x i (d+qB k);rw[show f+(d+qB k)=f+d+qB k by omega] at this;exact this
def Fm.acL(t:Fm){b c:Int}(a:0<=b):(t.up 0 b).up 0 c=t.up 0 (b+c):=by
 have:=Fm.up_add 0 b c a t 0
 rwa [xZ] at this
def Fm.M1(t:Fm):∀f,t.up f 0=t:=by
 induction t using Fm.ind with
 |h k s ts l ih=>
  intro f;rw[Fm.kI]
  congr 1
  .rw[uy (g:=id) λx _=>Tm.xu x _];simp
  .rw[uy (g:=id) λx a=>ih x a _];simp
def Fm.xu(t:Fm):t.up 0 0=t:=Fm.M1 t 0
structure Hy (f:Fm):Prop where
 err:f.err=0
 air:f.air 536870912=true
structure Yo (p:cV) (c:cX):Prop where
 aip:p.aip=c.aip.map r9
 vars:p.eX.vars=(c.aip.length:Int)
 ais:p.eX.ais=(c.ais.length:Int)
 ctx:gN c.aip
 nv:c.aip.length<=16
 nh:c.ais.length<=16
 known:p.known.length=c.ais.length
 hyp:∀(i:Nat) (x:c7) (h:Fm),p.known[i]?=some x->c.ais[i]?=some h->Hy x.cU/\0<=x.vars/\x.vars<=c.aip.length/\h=x.cU.up 0 (c.aip.length-x.vars)
def Yo.with{p:cV}{c:cX}(h:Yo p c){f:Fm}(o:Hy f)(hn:c.ais.length+1<=16):∃k d,eM p f=some k/\fh c f=some d/\Yo k d/\d.lemmas=c.lemmas/\d.aip=c.aip/\d.ais=c.ais++[f]:=by
 unfold eM fh;have l:=h.known;rw[dT acz,cY,dT acz,cY];refine⟨_,_,rfl,rfl,⟨h.aip,h.vars,?_,h.ctx,h.nv,?_,?_,?_⟩,rfl,rfl,by simp only[fu]⟩
 .show dJ .i64 p.eX.ais 1=_;rw[h.ais,dP (by have:=h.nh;omega) (by have:=h.nh;omega),fu];simp
 .show(fk c.ais [f]).length<=16;rw[fu];simpa using hn
 .show(fk p.known _).length=(fk c.ais [f]).length;simp[fu,l]
 .intro i x g b a
  have b:(p.known++[c7.mk f p.eX.vars])[i]?=some x:=by rw[<-fu];exact b
  have a:(c.ais++[f])[i]?=some g:=by rw[<-fu];exact a
  rcases sH i c.ais.length with j|hge
  .rw[tz VW] at b;rw[tz j] at a;exact h.hyp i x g b a
  .have hi:i=c.ais.length:=by
    have:=(mI.1 a).1;simp at this;omega
   subst hi;rw[xT VW,l,X7] at b;rw[xT VW,X7] at a;have q:c7.mk f p.eX.vars=x:=fQ b;have r:f=g:=fQ a;subst q;subst r;have n:=h.vars;refine⟨o,by show 0<=p.eX.vars;omega,by show p.eX.vars<=_;exact Int.le_of_eq n,?_⟩;show f=f.up 0 (c.aip.length-p.eX.vars);rw[n,Int.sub_self];exact(Fm.xu f).symm
def gN.append{g l:List Ty}(h:gN g)(a:gN l):gN (g++l):=λs hs=>(rA.1 hs).elim (h s) (a s)
def CT{g l:List Ty}(a:gN l)(b:g.length+l.length<=900000):fi (g.map r9) l=some ((g++l).map r9):=by
 unfold fi;rw[tT a VW,cv,dT acz,cY,fu,List.map_append]
def Yo.below{p:cV}{c:cX}(h:Yo p c){l:List Ty}(n:gN l)(hn:c.aip.length+l.length<=16)(q:∀f∈c.ais,f.err=0/\f.air 1000000000=true):∃o b,eF p l=some o/\ej c l=some b/\Yo o b/\b.lemmas=c.lemmas/\b.aip=c.aip++l/\b.ais=c.ais.map (Fm.up 0 l.length):=by
 have r:=h.nh
 have s:eF p l=some (cV.mk (dU.mk (p.eX.vars+l.length) p.eX.ais) ((c.aip++l).map r9) p.known):=by
  unfold eF;rw[h.aip,CT n VW,cv];have:=h.vars;rw[ee,dP VW VW]
 have t:ej c l=some (cX.mk c.lemmas (c.aip++l) (c.ais.map (Fm.up 0 l.length))):=by
  unfold ej;simp only[c6]
  rw[dT VW,cY,c8 VW,cY,gP (Fm.up 0 l.length) c.ais 0 [] acz (λj x v u w=>by
   obtain⟨q1,q2⟩:=q x u;obtain⟨q3,y⟩:=Fm.fP q1
   rw[ee,sO FU x 0 l.length (by rw[d_];omega) VW VW VW VW VW (Fm.lE x VW q2),cv,dT (by simpa using w),cY,fu])]
  rw[cv,dh,fu,od]
 refine⟨_,_,s,t,⟨rfl,?_,?_,h.ctx.append n,?_,?_,?_,?_⟩,rfl,rfl,rfl⟩
 .show p.eX.vars+l.length=((c.aip++l).length:Int);rw[h.vars];simp
 .show p.eX.ais=((c.ais.map (Fm.up 0 l.length)).length:Int);rw[h.ais];simp
 .show(c.aip++l).length<=16;simpa using hn
 .show(c.ais.map (Fm.up 0 l.length)).length<=16;simpa using h.nh
 .show p.known.length=(c.ais.map (Fm.up 0 l.length)).length;simpa using h.known
 .intro i x g d a;have d:p.known[i]?=some x:=d;have a:(c.ais.map (Fm.up 0 l.length))[i]?=some g:=a;rw[yq] at a;cases k:c.ais[i]?with
  |none=>rw[k] at a;cases a
  |some g0=>
   rw[k] at a;have a:g0.up 0 l.length=g:=fQ a;obtain⟨a1,a2,a3,a4⟩:=h.hyp i x g0 d k;refine⟨a1,a2,?_,?_⟩
   .show x.vars<=((c.aip++l).length:Int);simp;omega
   .show g=x.cU.up 0 (((c.aip++l).length:Int)-x.vars);rw[<-a,a4,Fm.acL _ VW]
    congr 1
    simp;omega
def Yo.PO{p:cV}{c:cX}(h:Yo p c){i:Int}(hi:0<=i):if(c.ais.length:Int)<=i then j8 p i=some (.mk 0 (.mk 0 []) [] [],false)else∃f,dg c.ais (ea .i64 (ea .i64 (dp c.ais) 1) i)=some f/\j8 p i=some (f,true):=by
 have j:=h.nh;have k:=h.known;unfold j8;rw[ee,k]
 split
 .rename_i d;rw[cS (by rw[gK];exact d)]
 .rename_i d;rw[cO (by rw[gK];exact d),ee,ep (a:=(c.ais.length:Int)) VW VW,ep VW VW]
  have b:(((c.ais.length:Int)-1-i).toNat)<c.ais.length:=VW
  have e:(c.ais.length:Int)-1-i=((((c.ais.length:Int)-1-i).toNat:Nat):Int):=VW
  rw[e,fV,fV,l5 b,l5 VW];obtain⟨a1,a2,a3,a4⟩:=h.hyp _ _ _ (l5 VW) (l5 b);refine⟨_,rfl,?_⟩;obtain⟨q3,n⟩:=Fm.fP a1.err;have l:=h.nv;rw[cv,h.vars,ep VW VW,ti q3 VW (Fm.lE _ VW a1.air) VW VW VW VW,cv,<-a4]
def XP{t:Tm}(q:t.ok=true):ux t=some t.root:=by
 unfold ux;simp only[c6];cases t with
 |mk k i s l=>
  show(if(dj k 3) then(cM (dg l 0) λj=>some (dj j.ail 2))else(
   if(dj k 6) then(cM (dg l 2) λf=>if(dj f.ail 4) then some true else some (dj f.ail 5))else(
   if(dj k 9) then(cM (dg l 2) λh=>if(dj h.ail 7) then some true else some (dj h.ail 8))else(
   if(en (dj k 11) true (dj k 12)) then(cM (dg l 0) λn=>some (dj n.ail 10))else some false))))=_
  unfold Tm.root
  by_cases r:k=3
  .subst r;obtain⟨a,b,rfl⟩:=Tm.ok3 q;rw[cS aaB];simp[dA,Tm.kd,tw]
  .rw[cO (by simpa using r)]
   by_cases u:k=6
   .subst u;obtain⟨a,b,c,rfl⟩:=Tm.ok6 q;rw[cS aaB];simp only[hQ,lQ,iq,cv,Tm.kd,eN]
    by_cases o:c.ail=4
    .simp[o]
    .simp[o,tw]<;>exact Pt.2 Iff.rfl
   .rw[cO (by simpa using u)]
    by_cases v:k=9
    .subst v;obtain⟨a,b,c,rfl⟩:=Tm.ok9 q;rw[cS aaB];simp only[hQ,lQ,iq,cv,Tm.kd,eN]
     by_cases o:c.ail=7
     .simp[o]
     .simp[o,tw]<;>exact Pt.2 Iff.rfl
    .rw[cO (by simpa using v)]
     by_cases d:k=11\/k=12
     .obtain⟨a,rfl⟩:=Tm.ab8 d q;rw[cS (by rcases d with rfl|rfl<;>rfl)];simp only[dA,iq,cv,Tm.kd];rcases d with rfl|rfl<;>simp[tw]<;>exact Pt.2 Iff.rfl
     .rw[cO (by simp only[kP,rl,eN];exact d)];simp only[not_or] at d;simp[r,u,v,d.1,d.2]
def x_{t:Tm}(h:t.ain<=1000000000):eQ FU t=some (t.ain:Int):=mR FU t (by rw[d_];exact h) h
def Sh{t:Tm}(r:t.ok=true)(hn:t.ain<=8192)(f:t.root=true):qY t=some ((t.eT.ain:Int)-(t.ain:Int)):=by
 have l:=Tm.Jx r f;have u:=hn;unfold qY;rw[x_ VW];simp only[cv];cases l with
 |app=>
  rename_i i s c d b a;have o:=Tm.Dt (Tm.Dt r (.mk 2 c d [b]) aaL) b aaL;rw[Tm.cQ] at hn;simp only[db,Tm.cQ] at hn;rw[cS adr];simp only[Tm.di,dA,fg,iq,lQ,cv];rw[x_ (t:=b) VW,x_ (t:=a) VW,y9 FU b 0 (by rw[d_];omega) VW VW VW];simp only[cv];have v:=Tm.gW b 0;have hmul:b.ait 0*a.ain<=8192*8192:=Gf VW VW;have w:=Tm.qL a b 0 o;have x:=a.dr
  have e:(Tm.mk 3 i s [.mk 2 c d [b],a]).eT=Tm.iI 0 b a:=by simp[Tm.eT]
  rw[e]
  have hint:(b.ait 0:Int)*((a.ain:Int)-1)=((b.ait 0*a.ain:Nat):Int)-(b.ait 0:Int):=by rw[YH,YT];simp
  rw[ep (a:=(a.ain:Int)) VW VW,zJ (by rw[hint];omega) (by rw[hint];omega),hint,dP VW VW,ep VW VW]
  congr 1
  omega
 |proj q=>
  rename_i k i s c d a b;rw[Tm.cQ] at hn;simp only[db,Tm.cQ] at hn;rcases q with rfl|rfl
  .rw[cO aaL,cO aaL,cO aaL,cS adr];simp only[Tm.di,dA,fg,iq,lQ,cv];rw[x_ (t:=a) VW];simp only[cv];rw[ep VW VW];simp[Tm.eT]
  .rw[cO aaL,cO aaL,cO aaL,cO aaL];simp only[Tm.di,dA,fg,iq,lQ,cv];rw[x_ (t:=b) VW];simp only[cv];rw[ep VW VW];simp[Tm.eT]
 |zero q=>
  rename_i k y i s c d b st;rw[Tm.cQ] at hn;simp only[db,Tm.cQ] at hn
  have j:k≠3/\k≠11/\k≠12:=VW
  have:(Tm.mk k i s [b,st,.mk y c d []]).eT=b:=by simp[Tm.eT,j.1,j.2.1,j.2.2]
  rw[this];rcases q with⟨rfl,rfl⟩|⟨rfl,rfl⟩
  .rw[cO aaL,cS adr];simp only[Tm.di,dA,fg,hQ,iq,lQ,cv];rw[cS adr,x_ (t:=b) VW];simp only[cv];rw[ep VW VW]
  .rw[cO aaL,cO aaL,cS adr];simp only[Tm.di,dA,fg,hQ,iq,lQ,cv];rw[cS adr,x_ (t:=b) VW];simp only[cv];rw[ep VW VW]
 |succ=>
  rename_i i s c d b st n
  have e:(Tm.mk 6 i s [b,st,.mk 5 c d [n]]).eT=lh st [n,.mk 6 i s [b,st,n]]:=by simp[Tm.eT,lh]
  rw[e,ns];rw[Tm.cQ] at hn|-;simp only[db,Tm.cQ,kY,wC] at hn|-;rw[cO aaL,cS adr];simp only[Tm.di,dA,fg,hQ,iq,lQ,cv];rw[cO aaL,x_ (t:=st) VW,x_ (t:=n) VW];simp only[cv];rw[dP (a:=2) VW VW,dP (b:=(n.ain:Int)) VW VW,dP VW VW,ep (b:=1) VW VW,ep VW VW]
  congr 1
  omega
 |cons=>
  rename_i i s c d b st h n
  have e:(Tm.mk 9 i s [b,st,.mk 8 c d [h,n]]).eT=lh st [h,n,.mk 9 i s [b,st,n]]:=by simp[Tm.eT,lh]
  rw[e,ns];rw[Tm.cQ] at hn|-;simp only[db,Tm.cQ,kY,wC] at hn|-;rw[cO aaL,cO aaL,cS adr];simp only[Tm.di,dA,fg,hQ,iq,lQ,cv];rw[cO aaL,x_ (t:=st) VW,x_ (t:=h) VW,x_ (t:=n) VW];simp only[cv];rw[dP (a:=3) VW VW,dP (b:=(h.ain:Int)) VW VW,dP (b:=(n.ain:Int)) VW VW,dP VW VW,ep (b:=1) VW VW,ep (b:=(h.ain:Int)) VW VW,ep VW VW]
  congr 1
  omega
def PC{M:Int}(u:0<=M/\M<=1000000000000){t:Tm}(hs:Sm M t)(hn:t.ain<=8192)(c:t.root=true):p4 t=some t.eT:=by
 have o:=hs.ok;have q:=Tm.Jx o c;have hw:=Tm.hS t o;unfold p4;cases q with
 |app=>
  rename_i i s f j b a;have d:=(hs.arg (.mk 2 f j [b]) aaL).arg b aaL;have l:=hs.arg a aaL;have v:=d.ain;have w:=l.ain;rw[cS adr];simp only[Tm.di,dA,fg,iq,lQ,cv];rw[DJ FU b 0 0 a (by rw[d_];omega) VW VW VW VW (d.mono u.2).air d.ok VW (l.mono u.2).air];simp[Tm.eT]
 |proj r=>
  rename_i k i s f j a b;rcases r with rfl|rfl
  .rw[cO aaL,cO aaL,cO aaL,cS adr];simp[Tm.eT,dA]
  .rw[cO aaL,cO aaL,cO aaL,cO aaL];simp[Tm.eT,dA,fg]
 |zero r=>
  rename_i k x i s f j b st;rcases r with⟨rfl,rfl⟩|⟨rfl,rfl⟩
  .rw[cO aaL,cS adr];simp[Tm.eT,dA,hQ,dj]
  .rw[cO aaL,cO aaL,cS adr];simp[Tm.eT,dA,hQ,dj]
 |succ=>
  rename_i i s f j b st n;have hi:i=0:=(Tm.kN o).2.2.1 aaB;subst hi;rw[Tm.ef] at hw;simp only[db,Tm.ef] at hw;rw[cO aaL,cS adr];simp only[Tm.di,dA,fg,hQ,iq,lQ,cv,Tm.dV];rw[cO aaL,sN VW VW];simp only[cv];rw[B5 VW VW VW VW];simp only[cv];rw[oP _ _ (by simp only[db,Tm.ef,Ty.z,Ty.cQ];omega)];simp[Tm.eT,lh,Ty.z]
 |cons=>
  rename_i i s f j b st h n;have hi:i=0:=(Tm.kN o).2.2.1 aaB;subst hi;rw[Tm.ef] at hw;simp only[db,Tm.ef] at hw;rw[cO aaL,cO aaL,cS adr];simp only[Tm.di,dA,fg,hQ,iq,lQ,cv,Tm.dV];rw[cO aaL,sN VW VW];simp only[cv];rw[oP _ _ (by simp only[db,Tm.ef,Ty.z,Ty.cQ];omega)];simp only[cv];rw[B5 VW VW VW VW];simp only[cv];rw[oP _ _ (by simp only[db,Tm.ef,Ty.z,Ty.cQ];omega)];simp[Tm.eT,lh,Ty.z]
def abh(t:Tm)(o:Option (Option Tm))(r:Tm×Bool×Bool):Prop:=
 match o with
 |none=>r.2.1=true/\r.2.2=false|some none=>r=(t,false,true)|some (some a)=>r=(a,true,true)
def QN{M:Int}(G:0<=M/\M<=1000000000000)(room:Int):∀(n:Nat) (t:Tm),t.ain<=n->Sm M t->t.ain<=8192->∃r,oY n t room=some r/\abh t (t.JM room) r
 |0,t,hn,_,_=>by have:=t.dr;omega
 |n+1,.mk k i s l,hn,hs,F=>by
  rw[oY,XP hs.ok];simp only[cv];rw[Tm.Ay]
  by_cases x:(Tm.mk k i s l).root=true
  .rw[cS x,cS x,Sh hs.ok F x];simp only[cv,fx]
   by_cases hg:((Tm.mk k i s l).eT.ain:Int)-((Tm.mk k i s l).ain:Int)>room
   .rw[cS hg,cS hg];exact⟨_,rfl,rfl,rfl⟩
   .rw[cO hg,cO hg,PC G hs F x];exact⟨_,rfl,rfl⟩
  .rw[cO x,cO x];rw[Tm.cQ] at hn F;have hlen:=Tm.afQ hs.ok;simp only[Tm.di,c6,c8 (l:=l) VW,cY,Tm.dq,Tm.eY,Tm.dV]
   have key:∀(ts pre:List Tm),l=pre++ts->∃o,dF (λ(a:Int) (y:Tm)=>(λ(_:Unit)=>
     gX (oY n y room) λA B C=>
     if B then(
     e_ (xN l)<|cM (dg l a) λH=>
     some (dW.ret ((Tm.mk k i s (wy l a A)),true,C)))
     else(some (.next ())))) ts pre.length ()=some o/\(match Tm.rD room ts with
      |none=>∃r:Tm×Bool×Bool,o=.inr r/\r.2.1=true/\r.2.2=false|some none=>o=.inl ()|some (some h)=>o=.inr (Tm.mk k i s (pre++h),true,true)):=by
    intro ts
    induction ts with
    |nil=>intro pre _;exact⟨_,rfl,by rw[Tm.rD]⟩|cons t ts ih=>
     intro pre D
     have j:t∈l:=by rw[D];simp
     have I:=dk Tm.ain j;obtain⟨⟨u,b,c⟩,J,v⟩:=QN G room n t VW (hs.arg t j) VW;rw[dB];simp only[J,l7]
     have d:dg l ((pre.length:Nat):Int)=some t:=by
      unfold dg;rw[cS VW];rw[D];simp
     have eO:wy l ((pre.length:Nat):Int) u=pre++u::ts:=by
      unfold wy;rw[D,zP,FK]
     have f:xN l=true:=by
      unfold xN lim;have:0<l.length:=List.length_pos_of_mem j;exact vF VW
     rw[Tm.rD];unfold abh at v;cases e:t.JM room with
     |none=>
      rw[e] at v;obtain⟨q1,q2⟩:=v;simp only at q1 q2;rw[cS q1,f,cY,d];exact⟨_,rfl,_,rfl,rfl,q2⟩
     |some o=>
      cases o with
      |none=>
       rw[e] at v;obtain⟨rfl,q⟩:=gy v;obtain⟨rfl,rfl⟩:=gy q;rw[cO aaB];simp only[cv,dR];obtain⟨o,o1,o2⟩:=ih (pre++[u]) (by rw[D];simp);rw[rF] at o1;refine⟨o,o1,?_⟩;cases w:Tm.rD room ts with
       |none=>rw[w] at o2;exact o2
       |some q=>
        cases q with
        |none=>rw[w] at o2;exact o2
        |some h=>rw[w] at o2;simpa using o2
      |some K=>
       rw[e] at v;obtain⟨rfl,q⟩:=gy v;obtain⟨rfl,rfl⟩:=gy q;rw[cS rfl,f,cY,d];simp only[cv,eO];exact⟨_,rfl,rfl⟩
   obtain⟨o,o1,o2⟩:=key l [] rfl;rw[show(([]:List Tm).length)=0 from rfl] at o1;rw[o1];cases w:Tm.rD room l with
   |none=>
    rw[w] at o2;obtain⟨r,rfl,q1,q2⟩:=o2;exact⟨r,rfl,q1,q2⟩
   |some q=>
    cases q with
    |none=>rw[w] at o2;subst o2;exact⟨_,rfl,rfl⟩
    |some h=>rw[w] at o2;subst o2;exact⟨_,rfl,rfl⟩
def rQ{t:Tm}(h:t.err=0):t.ok=true/\t.ain<=4096:=Tm.fP h
def Bl(steps:Int)(B:0<=steps/\steps<=65536):∀(k:Nat) (m:Int) (t:Tm) (N:Nat),(k:Int)=steps-m->0<=m->Sm (536870912+8192*m) t->t.ain<=4096->k<N->nk ((Tf λ(d:Int) (f:Int) (i:Int) (j:Int) (l:List Ty) (n:List Tm)=>
   cM (eQ FU (Tm.mk f i (Ty.mk j l) n)) λv=>
   gX (oY FU (Tm.mk f i (Ty.mk j l) n) (ea .i64 4096 v)) λa w x=>
   if w then(
   if(dj d steps) then(
   some (.ret ((Tm.mk 0 0 (Ty.mk 0 []) []),0,5)))
   else(if x then(
   some (.next ((dJ .i64 d 1),a.ail,a.aio,a.cT.ail,a.cT.aim,a.aim)))
   else(some (.ret ((Tm.mk 0 0 (Ty.mk 0 []) []),0,4)))))
   else(cM (iA FU (Tm.mk f i (Ty.mk j l) n)) λy=>
   some (.ret (y,d,0)))):(Int×Int×Int×Int×(List Ty)×(List Tm))->(Option (dW (Int×Int×Int×Int×(List Ty)×(List Tm)) (Tm×Int×Int)))) N (m,t.ail,t.aio,t.cT.ail,t.cT.aim,t.aim)=some (.inr (t.norm k m))
 |k,m,t,0,_,_,_,_,C=>by omega|k,m,t,N+1,F,hm,hs,hn,C=>by
  rw[j2];simp only[yN,abL];have hw:=Tm.hS t hs.ok;rw[x_ VW];simp only[cv];rw[ep VW VW];obtain⟨⟨u,b,c⟩,D,r⟩:=QN (M:=536870912+8192*m) VW (4096-t.ain) FU t (by rw[d_];omega) hs VW;rw[D];simp only[l7];unfold abh at r;cases e:t.JM (4096-t.ain)with
  |none=>
   rw[e] at r;obtain⟨q1,q2⟩:=r;simp only at q1 q2;rw[cS q1];cases k with
   |zero=>
    have s:¬t.nf=true:=by
     intro h;rw[(FX _ t).1 h] at e;cases e
    rw[cS (by simp[dj];omega),Tm.norm,cO s];rfl
   |succ k=>
    rw[cO (by simp[dj];omega),cO (by rw[q2];decide),NW e];rfl
  |some o=>
   cases o with
   |none=>
    rw[e] at r;obtain⟨rfl,q⟩:=gy r;obtain⟨rfl,rfl⟩:=gy q;rw[cO aaB,mj VW];cases k with
    |zero=>rw[Tm.norm,cS ((FX _ _).2 e)];rfl|succ k=>rw[JG e];rfl
   |some G=>
    rw[e] at r;obtain⟨rfl,q⟩:=gy r;obtain⟨rfl,rfl⟩:=gy q;rw[cS rfl];cases k with
    |zero=>
     have s:¬t.nf=true:=by
      intro h;rw[(FX _ t).1 h] at e;cases e
     rw[cS (by simp[dj];omega),Tm.norm,cO s];rfl
    |succ k=>
     obtain⟨s1,s2,H⟩:=J6 (M:=536870912+8192*m) VW t hs VW _ e;rw[cO (by simp[dj];omega),cS rfl,JU e,dP VW VW];have A:Sm (536870912+8192*(m+1)) u:=⟨s1,by rw[show 536870912+8192*(m+1)=536870912+8192*m+8192 by omega];exact s2,VW⟩;exact Bl steps B k (m+1) u N VW VW A VW VW
def Jn:∀(k:Nat) (m:Int) (t p:Tm) (n e:Int),t.norm k m=(p,n,e)->e≠0->p=Tm.z
 |0,m,t,p,n,e,h,he=>by
  rw[Tm.norm] at h
  split at h
  .obtain⟨_,h⟩:=gy h;obtain⟨_,h⟩:=gy h;exact absurd h.symm he
  .exact(gy h).1.symm
 |k+1,m,t,p,n,e,h,he=>by
  rw[Tm.norm] at h
  split at h
  .exact(gy h).1.symm
  .obtain⟨_,h⟩:=gy h;obtain⟨_,h⟩:=gy h;exact absurd h.symm he
  .exact Jn k _ _ _ _ _ h he
def yJ{t:Tm}(hw:t.wt<=1000000)(steps:Int):∃p m e,ju t steps=some (p,m,e)/\k1 t steps=some (p,m,e)/\p.wt<=1000000000:=by
 have j:=t.gH
 have c:Tm.z.wt<=1000000000:=aaB
 have a:=wE (t:=t) VW steps;unfold k1;rw[lv VW];simp only[cv]
 by_cases he:t.err=0
 .obtain⟨k,hn⟩:=rQ he;rw[cS he] at a;rw[cO (by simp[dx,he])];simp only[c6,km,fx]
  by_cases a1:steps<0
  .rw[cO VW] at a;rw[cS a1,cS trivial];exact⟨_,_,_,a,rfl,c⟩
  .rw[cO a1]
   by_cases a2:steps>65536
   .rw[cO VW] at a;rw[cS a2,cS trivial];exact⟨_,_,_,a,rfl,c⟩
   .rw[cO a2,yU FU t 536870912 (by rw[d_];omega) VW];simp only[cv]
    by_cases b:t.air 536870912=true
    .rw[cS ⟨VW,VW,b⟩] at a;have hs:Sm 536870912 t:=⟨k,b,VW⟩;rw[b,cO aaB,Bl steps VW steps.toNat 0 t FU VW VW hs VW (by rw[d_];omega)];generalize d:t.norm steps.toNat 0=o at a;obtain⟨p,m,e⟩:=o;refine⟨p,m,e,a,rfl,?_⟩;have f:=MB steps.toNat 0 t
     by_cases i:e=0
     .subst i;obtain⟨q1,q2⟩:=Fl _ 536870912 _ _ _ _ VW hs hn d;have:=Tm.hS p q1.ok;omega
     .rw[Jn _ _ _ _ _ _ d i];exact c
    .rw[cO (λh=>b h.2.2)] at a;rw[cS (by rw[Bool.not_eq_true] at b;rw[b];rfl)];exact⟨_,_,_,a,rfl,c⟩
 .rw[cO he] at a;rw[cS (by simp[dx,he])];exact⟨_,_,_,a,rfl,c⟩
def I1{a b:Tm}(c:a.wt<=1000000000):∃r,qg a b=some r/\kR FU a b=some r:=by
 obtain⟨r,d,f⟩:=vB (b:=b) c;obtain⟨q,q1,q2⟩:=HG FU a b (by rw[d_];exact c) c
 have:r=q:=by rw[Dr,f,q2]
 subst this;exact⟨r,d,q1⟩
def P5{a b:Tm}(o:a.wt<=1000000)(u:b.wt<=1000000)(steps:Int):∃c,kn a b steps=some c/\qI a b steps=some c:=by
 unfold kn qI;rw[oK VW,oK (t:=b) VW,lv VW,lv (t:=b) VW];simp only[cv]
 by_cases d:dx a.err 0=true
 .rw[cS d,cS d];exact⟨_,rfl,rfl⟩
 .rw[cO d,cO d]
  by_cases h:dx b.err 0=true
  .rw[cS h,cS h];exact⟨_,rfl,rfl⟩
  .rw[cO h,cO h];obtain⟨r,v,w⟩:=I1 (a:=a) (b:=b) VW;rw[v,w];simp only[cv]
   by_cases i:r=true
   .rw[cS i,cS i];exact⟨_,rfl,rfl⟩
   .rw[cO i,cO i];obtain⟨p,m,e,x,y,A⟩:=yJ o steps;obtain⟨q,n,f,q1,q2,q3⟩:=yJ u steps;rw[x,y,q1,q2];simp only[l7]
    by_cases j:dx e 0=true
    .rw[cS j,cS j];exact⟨_,rfl,rfl⟩
    .rw[cO j,cO j]
     by_cases k:dx f 0=true
     .rw[cS k,cS k];exact⟨_,rfl,rfl⟩
     .rw[cO k,cO k];obtain⟨s,s1,s2⟩:=I1 (a:=p) (b:=q) A;rw[s1,s2];simp only[cv]
      by_cases l:s=true
      .rw[cS l];exact⟨_,rfl,rfl⟩
      .rw[cO l];exact⟨_,rfl,rfl⟩
def CU{α:Type}{E E':α->α->Option Int}{M:List α}:∀(l:List α) (i:Nat),(∀x∈l,∀y∈M,∃c,E x y=some c/\E' x y=some c)->i+l.length<=M.length->∃o,dF (λ(d:Int) (f:α)=>(λ(_:Unit)=>cM (dg M d) λb=>cM (E f b) λa=>if(dx a 0) then(some (.ret a))else(some ((.next ()):dW Unit Int)))) l i ()=some o/\dF (λ(d:Int) (f:α)=>(λ(_:Unit)=>cM (dg M d) λb=>cM (E' f b) λa=>if(dx a 0) then(some (.ret a))else(some ((.next ()):dW Unit Int)))) l i ()=some o
 |[],i,_,_=>⟨.inl (),aaL,aaL⟩|x::l,i,h,k=>by
  simp only[kY] at k;obtain⟨c,n,q⟩:=h x aaL M[i] (Cy VW);rw[dB,dB,fV,l5 VW];simp only[cv,n,q]
  by_cases j:dx c 0=true
  .rw[cS j];exact⟨.inr c,rfl,rfl⟩
  .rw[cO j];simp only[cv,dR];exact CU l (i+1) (λy hy=>h y (by simp[hy])) VW
def Fm.shape{k:Int}{s i:Ty}{ts us:List Tm}{l m:List Fm}(h:(Fm.mk k s ts l).ok=true)(d:(Fm.mk k i us m).ok=true):ts.length=us.length/\l.length=m.length:=by
 rw[Fm.fX] at h d;simp only[fI] at h d;have c:=h.1.1;have a:=d.1.1;unfold Fm.node at c a
 split at c
 .rename_i f;rw[cS f] at a;simp only[fI,oc] at c a;omega
 .rename_i f;rw[cO f] at a
  split at c
  .rename_i b;rw[cS b] at a;simp only[fI,oc] at c a;omega
  .rename_i b;rw[cO b] at a;simp only[fI,oc] at c a;omega
def PM:∀(n:Nat) (a b:Fm),a.wt<=n->a.wt<=1000000->b.wt<=1000000->a.ok=true->b.ok=true->∃c,iL n a b=some c/\oF n a b=some c:=by
 intro n
 induction n with
 |zero=>intro t b h;have:=t.gM;omega
 |succ n ih=>
  intro a b h B j w d;cases a with
  |mk k s ts l=>
  cases b with
  |mk k' C us m=>
   rw[Fm.ef] at h B j;have G:=Fm.oe l;have D:=Tm.oe ts;rw[iL,oF];simp only[Fm.di,Fm.dq,Fm.gl,Fm.dV,c6,c8 (l:=l) VW,c8 (l:=ts) VW,cY,c_]
   by_cases f:k≠k'
   .rw[cS f,cS f];exact⟨11,rfl,rfl⟩
   .rw[cO f,cO f,o6 VW,hV VW];simp only[cv];have q:k=k':=wK.1 f;subst q;obtain⟨s1,s2⟩:=Fm.shape w d;obtain⟨_,H,ol⟩:=Fm.pd w;obtain⟨_,F,v⟩:=Fm.pd d;cases s.kW C with
    |false=>exact⟨11,rfl,rfl⟩|true=>
     obtain⟨o,A,k2⟩:=CU (E:=λx y=>kn x y 1000) (E':=λx y=>qI x y 1000) (M:=us) ts 0 (λx i y hy=>P5 (by have:=dk Tm.wt i;omega) (by have:=dk Tm.wt hy;omega) 1000) VW;simp only[c_] at A k2;rw[cO aaB,cO aaB,A,k2];cases o with
     |inr r=>exact⟨r,rfl,rfl⟩|inl u=>
      simp only[cv,dh];obtain⟨o,q1,q2⟩:=CU (E:=λx y=>iL n x y) (E':=λx y=>oF n x y) (M:=m) l 0 (λx i y hy=>ih x y (by have:=dk Fm.wt i;omega) (by have:=dk Fm.wt i;omega) (by have:=dk Fm.wt hy;omega) (ol x i) (v y hy)) VW;simp only[c_] at q1 q2;rw[q1,q2];cases o with
      |inr r=>exact⟨r,rfl,rfl⟩|inl u=>exact⟨0,rfl,rfl⟩
def A'{a b:Fm}(h:a.wt<=1000000000)(i:b.wt<=1000000000):∃c,ia a b=some c/\nr a b=some c:=by
 unfold ia nr;rw[kc h,kc i,ky h,ky i];simp only[cv,c_]
 by_cases d:a.err≠0
 .rw[cS d,cS d];exact⟨_,rfl,rfl⟩
 .rw[cO d,cO d]
  by_cases f:b.err≠0
  .rw[cS f,cS f];exact⟨_,rfl,rfl⟩
  .rw[cO f,cO f];obtain⟨o1,n1⟩:=Fm.fP (wK.1 d);obtain⟨o2,n2⟩:=Fm.fP (wK.1 f);have l:=a.hS o1;have n:=b.hS o2;obtain⟨c,j,k⟩:=PM FU a b (by rw[d_];omega) VW VW o1 o2;rw[j,k];exact⟨c,rfl,rfl⟩
def Nx{g:List Ty}{x:Tm}{t:Ty}(h:dH g x t)(hg:gN g)(a:g.length+x.ain<=1000000):x.ty g=(t,0):=by
 have b:=(VU h hg).2 x.ain (gO _) a;rw[yX x.ain x (gO _) h.ok g hg a] at b;exact fQ b
def MN{g:List Ty}{x:Tm}(c:x.ok=true)(hg:gN g)(h:oh x g 1=0):dH g x .nat:=by
 unfold oh at h
 split at h
 .cases h
 .rename_i d
  have f:(x.ty g).1.ail=1:=by
   rcases Int.emod_two_eq (x.ty g).1.ail with _|_<;>
   .by_cases a:(x.ty g).1.ail=1
    .exact a
    .exact absurd ⟨h,a⟩ d
  obtain⟨b,i⟩:=pR _ x (gO _) c g hg _ (xL h);rw[(uG i).1 f] at b;exact b
def Ln{g:List Ty}{x:Tm}(h:dH g x .nat)(hg:gN g)(a:g.length+x.ain<=1000000):oh x g 1=0:=by
 unfold oh;rw[Nx h hg a];exact cO (λh=>h.2 rfl)
def qC(f:Fm)(t:f.ok=true):∀g,gN g->f.uk g=0->jP g f:=by
 refine Fm.nU (p:=λf=>∀g,gN g->f.uk g=0->jP g f) ?_ ?_ ?_ f t
 .intro a b l r g hg h;rw[Fm.tg] at h
  by_cases c:oh a g 1=0
  .by_cases i:oh b g 1=0
   .exact .eq (MN l hg c) (MN r hg i)
   .simp[eH,c,i] at h
  .simp[eH,c] at h
 .intro k a b j l r d n g hg h
  have o:jJ k=false:=by rcases j with rfl|rfl<;>rfl
  rw[Fm.tg,o] at h;simp only[NM,eH,CN,if_true,pc,lL] at h
  by_cases c:a.uk g=0
  .rw[cS c] at h
   by_cases i:b.uk g=0
   .exact .two j (d g hg c) (n g hg i)
   .rw[cO i] at h;exact absurd h i
  .rw[cO c] at h;exact absurd h c
 .intro k s a j hs l d g hg h
  have o:jJ k=true:=by rcases j with rfl|rfl|rfl|rfl<;>rfl
  rw[Fm.tg,o] at h;simp only[NM,eH,CN,if_true] at h
  by_cases c:a.uk (g++[s])=0
  .exact .q j hs (d _ (hg.app hs) c)
  .rw[cO c] at h;exact absurd h c
def Bp{g:List Ty}{f:Fm}(h:jP g f):gN g->g.length+f.ain<=1000000->f.uk g=0:=by
 induction h with
 |eq n o=>
  intro hg c;rw[Fm.cQ] at c;simp only[db] at c;rw[Fm.tg];simp[eH,Ln n hg VW,Ln o hg VW]
 |two d _ _ i j=>
  intro hg c;rw[Fm.cQ] at c;simp only[db] at c;rename_i k a b _ _
  have l:jJ k=false:=by rcases d with rfl|rfl<;>rfl
  rw[Fm.tg,l];simp[eH,i hg VW,j hg VW]
 |q d hs _ ih=>
  intro hg c;rw[Fm.cQ] at c;simp only[db] at c;rename_i k s a _
  have l:jJ k=true:=by rcases d with rfl|rfl|rfl|rfl<;>rfl
  rw[Fm.tg,l];simp[eH,ih (hg.app hs) acz]
def jP.up{g:List Ty}{f:Fm}(h:jP g f):∀g1 g2 e:List Ty,g=g1++g2->jP (g1++e++g2) (f.up g2.length e.length):=by
 induction h with
 |eq l n=>
  intro g1 g2 e hg;rw[Fm.kI];exact .eq (l.up g1 g2 e hg) (n.up g1 g2 e hg)
 |two c _ _ d i=>
  intro g1 g2 e hg;rename_i k a b _ _
  have j:qB k=0:=by rcases c with rfl|rfl<;>rfl
  rw[Fm.kI,j,xZ];exact .two c (d g1 g2 e hg) (i g1 g2 e hg)
 |q c hs _ ih=>
  intro g1 g2 e hg;rename_i k s a _
  have j:qB k=1:=by rcases c with rfl|rfl|rfl|rfl<;>rfl
  subst hg;have:=ih g1 (g2++[s]) e (by rw[s6]);rw[Fm.kI,j];rw[rF,<-s6] at this;exact .q c hs this
def jP.lift{g:List Ty}{f:Fm}(h:jP g f)(e:List Ty):jP (g++e) (f.up 0 e.length):=by
 have:=h.up g [] e aaL;simpa using this
theorem jP.iI{g:List Ty}{f:Fm}(h:jP g f):∀(g1:List Ty) (s:Ty) (g2:List Ty) (a:Tm),g=g1++[s]++g2->dH g1 a s->jP (g1++g2) (Fm.iI g2.length f a):=by
 induction h with
 |eq l n=>
  intro g1 s g2 a hg b;rw[Fm.mY];exact .eq (l.iI g1 s g2 a hg b) (n.iI g1 s g2 a hg b)
 |two c _ _ d i=>
  intro g1 s g2 a hg b;rename_i k x y _ _
  have j:qB k=0:=by rcases c with rfl|rfl<;>rfl
  rw[Fm.mY,j,xZ];exact .two c (d g1 s g2 a hg b) (i g1 s g2 a hg b)
 |q c hs _ ih=>
  intro g1 s g2 a hg b;rename_i k o x _
  have j:qB k=1:=by rcases c with rfl|rfl|rfl|rfl<;>rfl
  subst hg;have:=ih g1 s (g2++[o]) a aaL b;rw[Fm.mY,j];rw[rF,<-s6] at this;exact .q c hs this
theorem jP.put{g:List Ty}{s:Ty}{f:Fm}(h:jP (g++[s]) f){a:Tm}(b:dH g a s):jP g (Fm.iI 0 f a):=by
 have:=h.iI g s [] a aaL b;simpa using this
def dH.front{g:List Ty}{x:Tm}{t:Ty}(h:dH g x t)(e:List Ty):dH (e++g) x t:=by
 induction h with
 |@var g t i c f=>
  refine .var i acz ?_;rw[xT acz,<-f]
  congr 1
  simp;omega
 |lam c _ ih=>exact .lam c (by rw[s6];exact ih)|app _ _ a b=>exact .app a b|zero=>exact .zero|succ _ ih=>exact .succ ih|tn c _ _ _ a b d=>exact .tn c a b d|nil=>exact .nil|cons _ _ a b=>exact .cons a b|fold c _ _ _ a b d=>exact .fold c a b d|pair c _ _ a b=>exact .pair c a b|fst _ ih=>exact .fst ih|snd _ ih=>exact .snd ih|unit=>exact .unit
def jP.front{g:List Ty}{f:Fm}(h:jP g f)(e:List Ty):jP (e++g) f:=by
 induction h with
 |eq d i=>exact .eq (d.front e) (i.front e)|two a _ _ b c=>exact .two a b c|q a hs _ ih=>exact .q a hs (by rw[s6];exact ih)
structure Hg (g:List Ty) (f:Fm):Prop where
 err:f.err=0
 ty:jP g f
def Hg.ain{g:List Ty}{f:Fm}(h:Hg g f):f.ain<=4096:=(Fm.fP h.err).2
def Hg.ok{g:List Ty}{f:Fm}(h:Hg g f):f.ok=true:=(Fm.fP h.err).1
def Hg.air{g:List Ty}{f:Fm}(h:Hg g f)(hg:g.length<=16){m:Int}(hm:5000<=m):f.air m=true:=h.ty.air m (by have:=h.ain;omega)
def Hg.hy{g:List Ty}{f:Fm}(h:Hg g f)(hg:g.length<=16):Hy f:=⟨h.err,h.air hg VW⟩
def Hg.up{g:List Ty}{f:Fm}(h:Hg g f)(l:List Ty):Hg (g++l) (f.up 0 l.length):=by
 have hn:=Fm.pV f 0 l.length;obtain⟨a,b⟩:=Fm.fP h.err;refine⟨?_,h.ty.lift l⟩;unfold Fm.err;rw[Fm.I5 f 0 l.length VW VW,a,cS rfl,hn,cO VW]
structure PG (L:List Fm) (p:cV) (c:cX):Prop where
 pl:Yo p c
 E0:c.lemmas=L
 abi:∀f∈L,Hg [] f
 ais:∀f∈c.ais,Hg c.aip f
def PG.T_{L:List Fm}{p:cV}{c:cX}(h:PG L p c){l:List Ty}(n:gN l)(hn:c.aip.length+l.length<=16):∃d a,eF p l=some d/\ej c l=some a/\PG L d a/\a.aip=c.aip++l/\a.ais=c.ais.map (Fm.up 0 l.length):=by
 obtain⟨d,a,o,q,r,s,j,k⟩:=h.pl.below n hn (λf b=>⟨(h.ais f b).err,(h.ais f b).air h.pl.nv VW⟩);refine⟨d,a,o,q,⟨r,s.trans h.E0,h.abi,λf b=>?_⟩,j,k⟩;rw[k] at b;obtain⟨f0,i,rfl⟩:=nw.1 b;rw[j];exact(h.ais f0 i).up l
def PG.below{L:List Fm}{p:cV}{c:cX}(h:PG L p c){s:Ty}(hs:s.err=0)(hn:c.aip.length+1<=16):∃b a,eF p [s]=some b/\ej c [s]=some a/\PG L b a/\a.aip=c.aip++[s]/\a.ais=c.ais.map (Fm.up 0 1):=
 h.T_ (l:=[s]) (λx d=>by rw[xV.1 d];exact hs) hn
def PG.with{L:List Fm}{p:cV}{c:cX}(h:PG L p c){f:Fm}(d:Hg c.aip f)(hn:c.ais.length+1<=16):∃b a,eM p f=some b/\fh c f=some a/\PG L b a/\a.aip=c.aip/\a.ais=c.ais++[f]:=by
 obtain⟨b,a,k,l,n,o,i,j⟩:=h.pl.with (d.hy h.pl.nv) hn;refine⟨b,a,k,l,⟨n,o.trans h.E0,h.abi,λx hx=>?_⟩,i,j⟩;rw[j] at hx;rw[i];rcases rA.1 hx with hx|hx
 .exact h.ais x hx
 .rw[xV.1 hx];exact d
def PG.room{L:List Fm}{p:cV}{c:cX}(h:PG L p c){v k:Nat}(f:v<=100)(i:k<=100):(dy p.eX v k=some 0/\du c v k=some 0/\c.aip.length+v<=16/\c.ais.length+k<=16)\/(dy p.eX v k=some 3/\du c v k=some 3/\(16<c.aip.length+v\/16<c.ais.length+k)):=by
 unfold dy du;have b:=h.pl.vars;have d:=h.pl.ais;have j:=h.pl.nv;have l:=h.pl.nh;rw[b,d,ee,ee,dP VW VW,dP VW VW,kP]
 by_cases a:(ly ((c.aip.length:Int)+v) 16||ly ((c.ais.length:Int)+k) 16)=true
 .rw[cS a];simp only[rl,fx] at a;exact .inr ⟨rfl,rfl,VW⟩
 .rw[cO a];simp only[rl,fx,not_or] at a;exact .inl ⟨rfl,rfl,VW,VW⟩
def Fb.len{N:Int}:∀{l:List Int} {lo:Int},Fb l->(∀x∈l,lo<=x/\x<N)->(l.length:Int)<=max 0 (N-lo)
 |[],lo,_,_=>by simp;omega|a::l,lo,.cons c d,h=>by
  have f:=h a aaL;have ih:=Fb.len (lo:=a+1) d (λx b=>⟨by have:=c x b;omega,(h x (by simp[b])).2⟩);simp only[kY];omega
def Us.len{l:List Int}{m:Nat}(h:Us l m):l.length<=32:=by
 have:=Fb.len (N:=32) (lo:=0) h.srt (λx a=>⟨h.pos x a,h.bound x a⟩);omega
def dH.Ol{g:List Ty}{x:Tm}{t:Ty}(h:dH g x t):∀j:Int,(g.length:Int)<=j->x.ait j=0:=by
 induction h with
 |@var g t i k l=>
  intro j a;rw[Tm.fB,cO (λh=>by have:=h.2;omega)];rfl
 |@lam g s b t k _ ih=>
  intro j a;rw[Tm.fB,cO (λh=>by cases h.1)];simp only[db];rw[ih (j+eZ 2) (by show _<=j+1;simp;omega)]
 |app _ _ c d=>intro j a;rw[Tm.fB,cO (λh=>by cases h.1)];simp only[db,show eZ 3=0 from rfl,xZ,c j a,d j a]
 |zero=>intro j a;rw[Tm.fB,cO (λh=>by cases h.1)];rfl
 |succ _ ih=>intro j a;rw[Tm.fB,cO (λh=>by cases h.1)];simp only[db,show eZ 5=0 from rfl,xZ,ih j a]
 |tn k _ _ _ c d f=>intro j a;rw[Tm.fB,cO (λh=>by cases h.1)];simp only[db,show eZ 6=0 from rfl,xZ,c j a,d j a,f j a]
 |nil=>intro j a;rw[Tm.fB,cO (λh=>by cases h.1)];rfl
 |cons _ _ c d=>intro j a;rw[Tm.fB,cO (λh=>by cases h.1)];simp only[db,show eZ 8=0 from rfl,xZ,c j a,d j a]
 |fold k _ _ _ c d f=>intro j a;rw[Tm.fB,cO (λh=>by cases h.1)];simp only[db,show eZ 9=0 from rfl,xZ,c j a,d j a,f j a]
 |pair k _ _ c d=>intro j a;rw[Tm.fB,cO (λh=>by cases h.1)];simp only[db,show eZ 10=0 from rfl,xZ,c j a,d j a]
 |fst _ ih=>intro j a;rw[Tm.fB,cO (λh=>by cases h.1)];simp only[db,show eZ 11=0 from rfl,xZ,ih j a]
 |snd _ ih=>intro j a;rw[Tm.fB,cO (λh=>by cases h.1)];simp only[db,show eZ 12=0 from rfl,xZ,ih j a]
 |unit=>intro j a;rw[Tm.fB,cO (λh=>by cases h.1)];rfl
def fS:Fm:=.mk 0 (.mk 0 []) [] []
def Qk(k:Option (cP×Int)):Option (cP×Int):=
 cW k λa b=>
 if(dx b 0) then(
 some ((cP.mk (Fm.mk 0 (Ty.mk 0 []) [] []) 0),b))
 else(cM (jt a.cU) λd=>
 if(dx d 0) then(
 some ((cP.mk (Fm.mk 0 (Ty.mk 0 []) [] []) 0),4))
 else(de (λ(v30:Int)=>
 some ((cP.mk a.cU v30),0)) λc=>
 cW (nX a.cU) λf h=>
 if f then(
 c a.uses)
 else(c 0)))
def Pa(r:Option (Fm×List Int×Int)):Option (qV×Int):=
 gX r λb h f=>
 if(dx f 0) then(
 some ((qV.mk (Fm.mk 0 (Ty.mk 0 []) [] []) []),f))
 else(cM (iH b) λc=>
 if(dx c 0) then(
 some ((qV.mk (Fm.mk 0 (Ty.mk 0 []) [] []) []),4))
 else(de (λ(v26:List Int)=>
 some ((qV.mk b v26),0)) λa=>
 cW (n_ b) λd i=>
 if d then(
 a h)
 else(a [])))
def BC{α:Type}{F:Int->α->Unit->Option (dW Unit Bool)}(w:α->Nat):∀(l:List α) (i:Nat),(∀j x,x∈l->F j x ()=if 0<w x then some (.ret true)else some (.next ()))->dF F l i ()=some (if 0<db w l then .inr true else .inl ())
 |[],i,_=>rfl|x::l,i,h=>by
  have ih:=BC w l (i+1) (λj y hy=>h j y (by simp[hy]));rw[dB,h i x aaL]
  by_cases a:0<w x
  .rw[cS a,cS (show 0<db w (x::l) by simp only[db];omega)];rfl
  .rw[cO a];show dF F l (i+1) ()=_;rw[ih]
   by_cases b:0<db w l
   .rw[cS b,cS (show 0<db w (x::l) by simp only[db];omega)]
   .rw[cO b,cO (show¬0<db w (x::l) by simp only[db];omega)]
def Ld:∀(n:Nat) (t:Tm) (a:Int),t.ain<=n->t.ain<=1000000000->0<=a->a+t.ain<=10000000000->tK n t a=some (decide (0<t.ait a)):=by
 intro n
 induction n with
 |zero=>intro t a h;have:=t.dr;omega
 |succ n ih=>
  intro t a h d r f;cases t with
  |mk k i s l=>
   rw[Tm.cQ] at h d f;have u:=Tm.ek l;have v:=kg k;rw[tK,Tm.fB];simp only[Tm.di,Tm.eY,Tm.dq,c6,p_,fI,eN]
   by_cases c:k=1/\i=a
   .rw[cS c,cS c]
    congr 1
    exact(vF VW).symm
   .rw[cO c,cO c,c8 VW,cY,BC (Tm.ait (a+eZ k)) l 0 (λj x o=>by
     have q:=dk Tm.ain o;rw[mZ,cv,Tm.dq,dP VW VW,ih x (a+eZ k) VW VW VW VW,cv]
     by_cases b:0<x.ait (a+eZ k)
     .rw[cS b,cS (vF b)]
     .rw[cO b,cO (by simpa using b)]),cv,tH]
    by_cases b:0<db (Tm.ait (a+eZ k)) l
    .rw[cS b,oG,vF b]
    .rw[cO b,dh,Et b]
def BN:∀(n:Nat) (t:Fm) (a:Int),t.ain<=n->t.ain<=1000000000->0<=a->a+t.ain<=10000000000->pC n t a=some (decide (0<t.ait a)):=by
 intro n
 induction n with
 |zero=>intro t a h;have:=t.dr;omega
 |succ n ih=>
  intro t a h c r d;cases t with
  |mk k s ts l=>
   rw[Fm.cQ] at h c d;have u:=Fm.ek l;have q:=Tm.ek ts;have v:=B2 k;rw[pC,Fm.fB];simp only[Fm.di,Fm.gl,c6]
   rw[c8 VW,cY,BC (Tm.ait a) ts 0 (λj x f=>by
    have i:=dk Tm.ain f;rw[Ld FU x a (by rw[d_];omega) VW VW VW,cv]
    by_cases b:0<x.ait a
    .rw[cS b,cS (vF b)]
    .rw[cO b,cO (by simpa using b)]),cv]
   by_cases o:0<db (Tm.ait a) ts
   .rw[cS o,oG,vF VW]
   .rw[cO o,dh,c8 VW,cY,BC (Fm.ait (a+qB k)) l 0 (λj x f=>by
     have i:=dk Fm.ain f;rw[oT,cv,Fm.dq,dP VW VW,ih x (a+qB k) VW VW VW VW,cv]
     by_cases b:0<x.ait (a+qB k)
     .rw[cS b,cS (vF b)]
     .rw[cO b,cO (by simpa using b)]),cv]
    by_cases b:0<db (Fm.ait (a+qB k)) l
    .rw[cS b,oG,vF VW]
    .rw[cO b,dh,Et VW]
def Tm.Cq(s:Tm):∀(t:Tm) (n:Int),t.ok=true->t.ait n=0->Tm.iI n t s=t.up (n+1) (-1):=by
 intro t
 induction t using Tm.ind with
 |h k i ty l ih=>
  intro n d f;have hi:=Tm.kN d;rw[Tm.fB] at f;rw[Tm.mY,Tm.kI]
  by_cases a:k=1
  .subst a;obtain⟨rfl,rfl⟩:=Tm.VJ d
   have b:i≠n:=λh=>by rw[cS ⟨rfl,h⟩] at f;omega
   rw[cS rfl];unfold Tm.tV;rw[cO b]
   by_cases j:n<i
   .rw[cS j,cS ⟨rfl,VW⟩];rfl
   .rw[cO j,cO (λh=>by omega)];rfl
  .rw[cO a,cO (λh=>a h.1)]
   congr 1
   refine uy λx c=>?_;have:=dk (Tm.ait (n+eZ k)) c;rw[ih x c (n+eZ k) (hi.2.2.2.1 x c) VW,show n+eZ k+1=n+1+eZ k by omega]
def Fm.Cq(s:Tm):∀(t:Fm) (n:Int),t.ok=true->t.ait n=0->Fm.iI n t s=t.up (n+1) (-1):=by
 intro t
 induction t using Fm.ind with
 |h k ty ts l ih=>
  intro n b c;obtain⟨_,d,f⟩:=Fm.pd b;rw[Fm.fB] at c;rw[Fm.mY,Fm.kI]
  congr 1
  .refine uy λx a=>?_;have:=dk (Tm.ait n) a;exact Tm.Cq s x n (d x a) VW
  .refine uy λx a=>?_;have:=dk (Fm.ait (n+qB k)) a;rw[ih x a (n+qB k) (f x a) VW,show n+qB k+1=n+1+qB k by omega]
def Lm:∀(n:Nat) (t:Tm) (f:Int),t.ain<=n->t.ain<=1000000000->0<=f->f+t.ain<=10000000000->t.air 1000000000000=true->pZ n t f (-1)=some (t.up f (-1)):=by
 intro n
 induction n with
 |zero=>intro t f h;have:=t.dr;omega
 |succ n ih=>
  intro t f h a w b hi;cases t with
  |mk k i s l=>
   rw[Tm.cQ] at h a b;rw[Tm.ey] at hi;simp only[fI,oc,jY] at hi;have y:=Tm.ek l;have A:=kg k;rw[pZ];simp only[Tm.di,Tm.eY,Tm.dq,Tm.dV,c6,c8 (l:=l) VW,cY];rw[gP (Tm.up (f+eZ k) (-1)) l 0 [] acz]
   .rw[Tm.kI];simp only[cv,dh,od,uV,Tm.mk.injEq,and_true,N1]
    by_cases c:k=1/\f<=i
    .obtain⟨rfl,d⟩:=c;rw[dP VW VW];have q:dj 1 1=true:=rfl
     have r:og i f=true:=by simp[d]
     simp[q,r,d]
    .rw[cO c]
     have e:en (dj k 1) (og i f) false=false:=by
      rw[p_,Nb];simp only[ne_eq,fI,eN,gK];exact c
     rw[e];rfl
   .intro j x v o u;have:=dk Tm.ain o;rw[mZ];simp only[cv,Tm.dq];rw[dP VW VW,ih x (f+eZ k) VW VW VW VW (hi.2 x o)];simp[dT (l:=v) (m:=[x.up (f+eZ k) (-1)]) (by simpa using u)]
def BP:∀(n:Nat) (t:Fm) (f:Int),t.ain<=n->t.ain<=1000000000->0<=f->f+t.ain<=10000000000->t.air 1000000000000=true->fL n t f (-1)=some (t.up f (-1)):=by
 intro n
 induction n with
 |zero=>intro t f h;have:=t.dr;omega
 |succ n ih=>
  intro t f h b i c hi;cases t with
  |mk k s ts l=>
   rw[Fm.cQ] at h b c;rw[Fm.ey] at hi;simp only[fI,jY] at hi;have q:=Fm.ek l;have o:=Tm.ek ts;have r:=B2 k;rw[fL];simp only[Fm.di,Fm.gl,Fm.dq,Fm.dV,c6,c8 (l:=l) VW,c8 (l:=ts) VW,cY];rw[gP (Tm.up f (-1)) ts 0 [] acz]
   .simp only[cv,dh];rw[gP (Fm.up (f+qB k) (-1)) l 0 [] acz]
    .simp[Fm.kI]
    .intro j x v a d;have:=dk Fm.ain a;rw[oT];simp only[cv,Fm.dq];rw[dP VW VW,ih x (f+qB k) VW VW VW VW (hi.2 x a)];simp[dT (l:=v) (m:=[x.up (f+qB k) (-1)]) (by simpa using d)]
   .intro j x v a d;have:=dk Tm.ain a;rw[Lm FU x f (by rw[d_];omega) VW i VW (hi.1 x a)];simp[dT (l:=v) (m:=[x.up f (-1)]) (by simpa using d)]
def R8:Hf Tm.z:=by
 show Hf (Tm.mk 0 0 (Ty.mk 0 []) []);intro c b d;have a:FU=999999999+1:=d_;unfold qy nB;rw[a,gm,cO (show¬(dj (Tm.mk 0 0 (Ty.mk 0 []) []).ail 1=true) by decide)];simp only[Tm.dq,Tm.dV,Tm.di,Tm.eY,c6];rw[nV aaB,cv,c8 aaB,cY];rfl
def sX{f:Fm}(a:f.ok=true)(hn:f.ain<=50000000)(b:f.air 1000000000000=true)(c:f.ait 0=0):jS f 0 (Tm.mk 0 0 (Ty.mk 0 []) [])=some (f.up 1 (-1)):=by
 rw[show Tm.mk 0 0 (Ty.mk 0 []) []=Tm.z from rfl,ui a hn b R8 VW VW,Fm.Cq _ f 0 a c];rfl
noncomputable def B8 (x:Tm) (e:Int):Tm×Int:=if e=0 then((x.norm 1000 0).1,(x.norm 1000 0).2.2)else(x,e)
def pI{α:Type}(f:α->Int->α×Int):List α->Int->List α×Int
 |[],e=>([],e)|x::l,e=>((f x e).1::(pI f l (f x e).2).1,(pI f l (f x e).2).2)
mutual
noncomputable def Fm.wJ:Fm->Int->Fm×Int
 |.mk k s ts l,e=>(.mk k s (pI B8 ts e).1 (Fm.Ot l (pI B8 ts e).2).1,(Fm.Ot l (pI B8 ts e).2).2)
noncomputable def Fm.Ot:List Fm->Int->List Fm×Int
 |[],e=>([],e)|f::l,e=>((f.wJ e).1::(Fm.Ot l (f.wJ e).2).1,(Fm.Ot l (f.wJ e).2).2)
end
def Fm.Qp:∀(l:List Fm) (e:Int),Fm.Ot l e=pI Fm.wJ l e
 |[],e=>by rw[Fm.Ot,pI]|f::l,e=>by rw[Fm.Ot,pI,Fm.Qp l]
def Fm.Di(k:Int)(s:Ty)(ts:List Tm)(l:List Fm)(e:Int):(Fm.mk k s ts l).wJ e=(.mk k s (pI B8 ts e).1 (pI Fm.wJ l (pI B8 ts e).2).1,(pI Fm.wJ l (pI B8 ts e).2).2):=by rw[Fm.wJ,Fm.Qp]
def tR{α:Type}{f:α->Int->α×Int}:∀(l:List α) (e:Int),(∀x∈l,∀e,e≠0->(f x e).2=e)->e≠0->(pI f l e).2=e
 |[],e,_,_=>rfl|x::l,e,h,he=>by
  have a:=h x aaL e he;simp only[pI];rw[a];exact tR l e (λy hy=>h y (by simp[hy])) he
def F8{x:Tm}{e:Int}(he:e≠0):(B8 x e).2=e:=by unfold B8;rw[cO he]
def Fm.Mr(f:Fm):∀e:Int,e≠0->(f.wJ e).2=e:=by
 induction f using Fm.ind with
 |h k s ts l ih=>
  intro e he;rw[Fm.Di];have a:=tR (f:=B8) ts e (λx _ e he=>F8 he) he;simp only[];rw[a];exact tR l e ih he
def CC{α ρ:Type}{E:α->Int->Option (α×Int)}{f:α->Int->α×Int}:∀(l:List α) (j:Nat) (v:List α) (e:Int),(∀x∈l,∀e,E x e=some (f x e))->v.length+l.length<=1000000000->dF (λ(n:Int) (c:α)=>(rI λ(v91:List α) (d:Int)=>
   cW (E c d) λa b=>
   e_ (eI v91 [a])<|some ((.next ((fk v91 [a]),b)):dW ((List α)×Int) ρ))) l j (v,e)=some (.inl (v++(pI f l e).1,(pI f l e).2))
 |[],j,v,e,_,_=>by simp[pI]|x::l,j,v,e,h,o=>by
  simp only[kY] at o;rw[dB];simp only[rI];rw[h x aaL e];obtain⟨y,i,k⟩:∃y i,f x e=(y,i):=⟨_,_,rfl⟩;rw[k];rw[cN,dT acz,cY];simp only[cv,dR];rw[fu];have:=CC (ρ:=ρ) l (j+1) (v++[y]) i (λz q=>h z (by simp[q])) acz;rw[this];simp only[pI,k];simp
structure Nm (x:Tm):Prop where
 err:x.err=0
 air:x.air 536870912=true
def Nm.both{x:Tm}(h:Nm x):ju x 1000=some (x.norm 1000 0)/\k1 x 1000=some (x.norm 1000 0):=by
 obtain⟨b,hn⟩:=rQ h.err;have hw:=x.hS b;have a:=wE (t:=x) VW 1000;rw[cS h.err,cS ⟨VW,VW,h.air⟩] at a;obtain⟨p,m,e,c,d,_⟩:=yJ (t:=x) VW 1000;have a:ju x 1000=some (x.norm 1000 0):=a;refine⟨a,?_⟩;rw[d,<-c,a]
def zY{x:Tm}(h:Nm x)(b e:Int):jk x b e=some (B8 x e):=by
 unfold jk B8
 by_cases he:e=0
 .rw[cS he,cO (by rw[c_];simpa using he),h.both.1];rfl
 .rw[cO he,cS (by rw[c_];exact he)]
inductive Ry:Fm->Prop
 |mk {k s ts l}:(∀x∈ts,Nm x)->(∀f∈l,Ry f)->Ry (.mk k s ts l)
def Ry.of(f:Fm):f.ain<=4096->f.ok=true->f.air 536870912=true->Ry f:=by
 induction f using Fm.ind with
 |h k s ts l ih=>
  intro hn d b;obtain⟨_,i,j⟩:=Fm.pd d;rw[Fm.cQ] at hn;rw[Fm.ey,fI,jY,jY] at b;refine .mk (λx c=>⟨?_,b.1 x c⟩) (λf a=>?_)
  .have:=dk Tm.ain c;unfold Tm.err;rw[cS (i x c),cO VW]
  .have:=dk Fm.ain a;exact ih f a VW (j f a) (b.2 f a)
def MA:∀(n:Nat) (f:Fm) (b e:Int),f.ain<=n->f.ain<=1000000->f.ok=true->Ry f->dX n f b (λ(s:Int) (c:Tm) (d:Int)=>jk c d s) e=some (f.wJ e):=by
 intro n
 induction n with
 |zero=>intro f b e h;have:=f.dr;omega
 |succ n ih=>
  intro f b e hn q r hm;cases f with
  |mk k s ts l=>
   cases hm with
   |mk m1 m2=>
    rw[Fm.cQ] at hn q;have u:=fR Tm.ain ts λt _=>t.dr;have v:=fR Fm.ain l λt _=>t.dr;obtain⟨w,A,i⟩:=Fm.pd r;rw[dX,Fm.Di];simp only[Fm.dV,Fm.di,Fm.dq,Fm.gl,c6];rw[nV VW,cv,c8 VW,cY];rw[CC (E:=λy s=>jk y b s) (f:=B8) ts 0 [] e (λx a e=>zY (m1 x a) b e) acz,cv];simp only[dh,rI,od];rw[nK,cv]
    have loop:=λj=>CC (ρ:=Fm×Int) (E:=λy s=>dX n y j (λ(s:Int) (c:Tm) (d:Int)=>jk c d s) s) (f:=Fm.wJ) l 0 [] (pI B8 ts e).2 (λx a e=>by
     have:=dk Fm.ain a
     exact ih x j e VW VW (i x a) (m2 x a)) acz
    by_cases o:jJ k=true
    .rw[cS o,c8 VW,cY,loop,cv];simp
    .rw[cO o,c8 VW,cY,loop,cv];simp
def Ew:∀(n:Nat) (f:Fm),f.ain<=n->f.ain<=1000000->Ry f->mc n f=some (if(f.wJ 0).2=0 then((f.wJ 0).1,0)else(fS,(f.wJ 0).2)):=by
 intro n
 induction n with
 |zero=>intro f h;have:=f.dr;omega
 |succ n ih=>
  intro f hn L hm;cases f with
  |mk k s ts l=>
   cases hm with
   |mk m1 m2=>
    rw[Fm.cQ] at hn L;have M:=fR Tm.ain ts λt _=>t.dr;have N:=fR Fm.ain l λt _=>t.dr;rw[mc,Fm.Di];simp only[Fm.dV,Fm.di,Fm.dq,Fm.gl,c6];rw[c8 VW,cY]
    have r:∀(us:List Tm) (j:Nat) (v:List Tm),(∀t∈us,Nm t)->v.length+us.length<=1000000000->dF (λ(O:Int) (F:Tm)=>(λ(B:List Tm)=>
       gX (k1 F 1000) λc I d=>
       if(dx d 0) then(
       some (.ret ((Fm.mk 0 (Ty.mk 0 []) [] []),d)))
       else(e_ (eI B [c])<|some ((.next (fk B [c])):dW (List Tm) (Fm×Int))))) us j v=some (if(pI B8 us 0).2=0 then .inl (v++(pI B8 us 0).1)else .inr (fS,(pI B8 us 0).2)):=by
     intro us
     induction us with
     |nil=>intro j v _ _;simp[pI]|cons t us w=>
      intro j v hm G;simp only[kY] at G;rw[dB,(hm t aaL).both.2]
      have H:B8 t 0=((t.norm 1000 0).1,(t.norm 1000 0).2.2):=by unfold B8;rw[cS rfl]
      obtain⟨y,m,a,C⟩:∃y m a,t.norm 1000 0=(y,m,a):=⟨_,_,_,rfl⟩;rw[C] at H|-;rw[l7]
      by_cases he:a=0
      .subst he;rw[cO aaB,dT acz,cY];simp only[cv,dR];rw[fu,w (j+1) (v++[y]) (λu hu=>hm u (by simp[hu])) acz];simp only[pI,H];simp
      .rw[cS (by rw[c_];exact he)];simp only[pI,H];rw[tR (f:=B8) us a (λx _ e he=>F8 he) he,cO he];rfl
    have A:∀(us:List Fm) (j:Nat) (v:List Fm),(∀t∈us,Ry t/\t.ain<=n/\t.ain<=1000000)->v.length+us.length<=1000000000->dF (λ(J:Int) (D:Fm)=>(λ(i:List Fm)=>
       cW (mc n D) λo q=>
       if(dx q 0) then(
       some (.ret ((Fm.mk 0 (Ty.mk 0 []) [] []),q)))
       else(e_ (eI i [o])<|some ((.next (fk i [o])):dW (List Fm) (Fm×Int))))) us j v=some (if(pI Fm.wJ us 0).2=0 then .inl (v++(pI Fm.wJ us 0).1)else .inr (fS,(pI Fm.wJ us 0).2)):=by
     intro us
     induction us with
     |nil=>intro j v _ _;simp[pI]|cons t us w=>
      intro j v hm G;simp only[kY] at G;obtain⟨a1,a2,a3⟩:=hm t aaL;rw[dB,ih t a2 a3 a1];obtain⟨y,a,C⟩:∃y a,t.wJ 0=(y,a):=⟨_,_,rfl⟩;rw[C]
      by_cases he:a=0
      .subst he;simp only[if_true];rw[cN,cO aaB,dT acz,cY];simp only[cv,dR];rw[fu,w (j+1) (v++[y]) (λu hu=>hm u (by simp[hu])) acz];simp only[pI,C];simp
      .simp only[cO he];rw[cN,cS (by rw[c_];exact he)];simp only[pI,C];rw[tR (f:=Fm.wJ) us a (λx _ e he=>Fm.Mr x e he) he,cO he];rfl
    rw[r ts 0 [] m1 acz,cv]
    by_cases he:(pI B8 ts 0).2=0
    .rw[cS he,dh,c8 VW,cY,A l 0 [] (λt K=>by
      have:=dk Fm.ain K
      exact⟨m2 t K,VW,VW⟩) acz,cv,he]
     by_cases b:(pI Fm.wJ l 0).2=0
     .rw[cS b,cS b,dh,od,od]
     .rw[cO b,cO b,oG]
    .rw[cO he,oG,tR (f:=Fm.wJ) l _ (λx _ e he=>Fm.Mr x e he) he,cO he]
def Ty.afo:∀(n:Nat) (s:Ty),s.ain<=n->s.err=0->∃a,dH [] a s:=by
 intro n
 induction n with
 |zero=>intro s h;have:=s.dr;omega
 |succ n ih=>
  intro s hn he;rcases Ty.qo he with rfl|rfl|rfl|⟨a,b,rfl,d,c⟩|⟨a,b,rfl,d,c⟩
  .exact⟨_,.zero⟩
  .exact⟨_,.nil⟩
  .exact⟨_,.unit⟩
  .rw[Ty.tW] at hn;obtain⟨x,f⟩:=ih a VW d;obtain⟨y,hy⟩:=ih b VW c;exact⟨_,.pair he f hy⟩
  .rw[Ty.iN] at hn;obtain⟨y,hy⟩:=ih b VW c;exact⟨_,.lam he (by have:=hy.front [a];simpa using this)⟩
def jP.down{g:List Ty}{s:Ty}{f:Fm}(h:jP (g++[s]) f)(hs:s.err=0)(c:f.ait 0=0):jP g (f.up 1 (-1)):=by
 obtain⟨a,d⟩:=Ty.afo _ s (gO _) hs
 have b:dH g a s:=by simpa using d.front g
 have:=h.put b
 rwa [Fm.Cq a f 0 h.ok c] at this
def dH.nm{g:List Ty}{x:Tm}{t:Ty}(h:dH g x t)(hg:g.length<=1000000)(a:x.ain<=4096):Nm x:=by
 refine⟨?_,h.air _ VW⟩;unfold Tm.err;rw[cS h.ok,cO VW]
def Vx{g:List Ty}{x:Tm}{t:Ty}(h:dH g x t)(hg:g.length<=1000000)(b:x.ain<=4096){e:Int}(he:(B8 x e).2=0):e=0/\dH g (B8 x e).1 t/\(B8 x e).1.ain<=4096:=by
 by_cases c:e=0
 .subst c;unfold B8 at he|-;simp only[if_true] at he|-;obtain⟨a,n,f,d⟩:∃a n f,x.norm 1000 0=(a,n,f):=⟨_,_,_,rfl⟩;rw[d] at he|-;simp only[] at he|-;subst he;exact⟨trivial,dH.norm _ _ _ _ _ h d,(Fl 1000 536870912 0 x a n VW (Sm.start (h.nm hg b).err (h.nm hg b).air) b d).2⟩
 .rw[F8 c] at he;exact absurd he c
def XU(a b:Tm)(e:Int):(Fm.mk 1 .z [a,b] []).wJ e=(.mk 1 .z [(B8 a e).1,(B8 b (B8 a e).2).1] [],(B8 b (B8 a e).2).2):=by rw[Fm.Di];rfl
def Zg(k:Int)(a b:Fm)(e:Int):(Fm.mk k .z [] [a,b]).wJ e=(.mk k .z [] [(a.wJ e).1,(b.wJ (a.wJ e).2).1],(b.wJ (a.wJ e).2).2):=by rw[Fm.Di];rfl
def afe(k:Int)(s:Ty)(a:Fm)(e:Int):(Fm.mk k s [] [a]).wJ e=(.mk k s [] [(a.wJ e).1],(a.wJ e).2):=by rw[Fm.Di];rfl
def Ox{g:List Ty}{f:Fm}(h:jP g f):∀(e:Int),g.length+f.ain<=1000000->f.ain<=4096->(f.wJ e).2=0->e=0/\jP g (f.wJ e).1/\(f.wJ e).1.ain<=3000*f.ain:=by
 induction h with
 |@eq g a b c o=>
  intro e hg hn he;rw[XU] at he|-;rw[Fm.cQ] at hn hg|-;simp only[db] at hn hg|-;obtain⟨d,i,r⟩:=Vx o VW VW he;obtain⟨a1,a2,a3⟩:=Vx c VW VW d;refine⟨a1,.eq a2 i,?_⟩;rw[Fm.cQ];simp only[db];have:=a.dr;have:=b.dr;omega
 |@two g k a b j c o l n=>
  intro e hg hn he;rw[Zg] at he|-;rw[Fm.cQ] at hn hg|-;simp only[db] at hn hg|-;obtain⟨d,i,r⟩:=n _ VW VW he;obtain⟨a1,a2,a3⟩:=l _ VW VW d;refine⟨a1,.two j a2 i,?_⟩;rw[Fm.cQ];simp only[db];omega
 |@q g k s a j hs c ih=>
  intro e hg hn he;rw[afe] at he|-;rw[Fm.cQ] at hn hg|-;simp only[db] at hn hg|-;obtain⟨a1,a2,a3⟩:=ih _ acz VW he;refine⟨a1,.q j hs a2,?_⟩;rw[Fm.cQ];simp only[db];omega
noncomputable def BI (f:Fm):Fm×Int:=if f.ait 0=0 then(f.up 1 (-1),0)else if(f.wJ 0).2≠0 then(fS,(f.wJ 0).2)else if(f.wJ 0).1.ait 0≠0 then(fS,6)else((f.wJ 0).1.up 1 (-1),0)
def K0{g:List Ty}{s:Ty}{f:Fm}(h:Hg (g++[s]) f)(hg:g.length<=1000)(hs:s.err=0)(a:(BI f).2=0):jP g (BI f).1/\(BI f).1.ain<=3000*4096:=by
 have hn:=h.ain;unfold BI at a|-
 split
 .rename_i c;refine⟨h.ty.down hs c,?_⟩;show(f.up 1 (-1)).ain<=_;rw[Fm.pV];omega
 .rename_i c;rw[cO c] at a
  split
  .rename_i b;rw[cS b] at a;exact absurd a b
  .rename_i b;rw[cO b] at a
   split
   .rename_i d;rw[cS d] at a;cases a
   .rename_i d;obtain⟨_,a2,a3⟩:=Ox h.ty 0 acz hn (wK.1 b);refine⟨a2.down hs VW,?_⟩;show((f.wJ 0).1.up 1 (-1)).ain<=_;rw[Fm.pV];omega
def vl{g:List Ty}{s:Ty}{f:Fm}(h:Hg (g++[s]) f)(hg:g.length<=1000):lA f=some (BI f):=by
 have hn:=h.ain;have l:f.air 1000000000000=true:=h.ty.air _ acz;unfold lA BI;rw[oZ h.ok VW l VW VW,cv]
 by_cases d:f.ait 0=0
 .rw[cS d,cS (by rw[eN];omega),sX h.ok VW l d];rfl
 .rw[cO d,cO (by rw[eN];omega),MA FU f 0 0 (by rw[d_];omega) VW h.ok (Ry.of f hn h.ok (h.ty.air _ acz))];obtain⟨a,i,j⟩:∃a i,f.wJ 0=(a,i):=⟨_,_,rfl⟩;rw[j,cN];simp only[]
  by_cases he:i=0
  .subst he;rw[cO aaB,cO aaB];have b:=Ox h.ty 0 acz hn (by rw[j]);rw[j] at b;obtain⟨_,a2,a3⟩:=b;have a2:jP (g++[s]) a:=a2;have a3:a.ain<=3000*f.ain:=a3;have c:a.air 1000000000000=true:=a2.air _ acz;rw[oZ a2.ok VW c VW VW,cv]
   by_cases k:a.ait 0=0
   .rw[cO (by rw[fx];omega),cO (by simpa using k),sX a2.ok VW c k];rfl
   .rw[cS (by rw[fx];omega),cS k];rfl
  .rw[cS (by rw[c_];exact he),cS he];rfl
abbrev PR:=(Fm×Nat)⊕Int
def pbind(r:PR)(k:Fm->Nat->PR):PR:=match r with|.inl p=>k p.1 p.2|.inr e=>.inr e
def uU(c:Prop)[Decidable c](e:Int)(r:PR):PR:=if c then .inr e else r
theorem ki{c:Prop}[Decidable c]{e:Int}{r:PR}(h:c):uU c e r=.inr e:=cS h
theorem mC{c:Prop}[Decidable c]{e:Int}{r:PR}(h:¬c):uU c e r=r:=cO h
def kh(e:Int)(r:PR):PR:=if e=0 then r else .inr e
@[simp] theorem gf(f:Fm)(m:Nat)(k:Fm->Nat->PR):pbind (.inl (f,m)) k=k f m:=rfl
theorem hI{e:Int}{r:PR}(h:e=0):kh e r=r:=cS h
theorem iY{e:Int}{r:PR}(h:e≠0):kh e r=.inr e:=cO h
noncomputable def H9 (r:PR):PR:=pbind r λf m=>if f.err=0 then .inl (f,if f.has then m else 0)else .inr 4
def E2(r:PR)(k:Int):PR:=pbind r λf m=>if f.ail=k then .inl (f,m)else .inr 10
noncomputable def yZ (a b:Fm):Int:=(ia a b).getD 0
noncomputable def prt (r:PR) (F:Fm) (t:Tm):PR:=pbind r λf m=>kh (mE F t).2 (kh (yZ (mE F t).1 f) (.inl (f,m)))
def JE(t:Tm):Nat->Nat
 |0=>0|j+1=>if 0<t.ait j then JE t j|||2^j else JE t j
def rP(t:Tm):Nat:=JE t 32
def JH(t:Tm):∀(n i:Nat),(JE t n).testBit i=true↔i<n/\0<t.ait i
 |0,i=>by simp[JE]|n+1,i=>by
  have ih:=JH t n i;rw[JE]
  by_cases h:0<t.ait n
  .rw[cS h,abw,rl,ih,Ys];simp only[oc];constructor
   .rintro(⟨a,b⟩|rfl)
    .exact⟨VW,b⟩
    .exact⟨VW,h⟩
   .rintro⟨a,b⟩
    by_cases hi:n=i
    .exact .inr hi
    .exact .inl ⟨VW,b⟩
  .rw[cO h,ih];constructor
   .rintro⟨a,b⟩;exact⟨VW,b⟩
   .rintro⟨a,b⟩;refine⟨?_,b⟩;rcases sH i n with hh|hh
    .exact hh
    .obtain rfl:i=n:=VW
     exact absurd b h
def RT(t:Tm)(i:Nat):(rP t).testBit i=true↔i<32/\0<t.ait i:=JH t 32 i
def v0:Tm:=.mk 1 0 (.mk 0 []) []
def v1:Tm:=.mk 1 1 (.mk 0 []) []
noncomputable def oI (L:List Fm) (k i:Int) (s:Ty) (ts:List Tm) (fs:List Fm) (sub:Nat->List Ty->List Fm->PR) (g:List Ty) (hs:List Fm):PR:=
 let t:=ts.getD 0 Tm.z
 let F:=fs.getD 0 fS
 if k=1 then uU ((hs.length:Int)<=i) 8 (.inl (hs.getD (hs.length-1-i.toNat) fS,0))
 else if k=2 then uU ((L.length:Int)<=i) 9 (.inl (L.getD i.toNat fS,0))
 else if k=3 then pbind (sub 0 g hs) λa m=>pbind (sub 1 g hs) λb n=>.inl (.mk 2 .z [] [a,b],m|||n)
 else if k=4 then pbind (E2 (sub 0 g hs) 2) λa m=>.inl (a.aim.getD 0 fS,m)
 else if k=5 then pbind (E2 (sub 0 g hs) 2) λa m=>.inl (a.aim.getD 1 fS,m)
 else if k=6 then kh (F.uk g) (uU (16<hs.length+1) 3 (pbind (sub 0 g (hs++[F])) λb m=>.inl (.mk 3 .z [] [F,b],m)))
 else if k=7 then pbind (E2 (sub 0 g hs) 3) λa m=>pbind (sub 1 g hs) λb n=>kh (yZ (a.aim.getD 0 fS) b) (.inl (a.aim.getD 1 fS,m|||n))
 else if k=8 then uU (16<g.length+1) 3 (pbind (sub 0 (g++[s]) (hs.map (Fm.up 0 1))) λb m=>.inl (.mk 4 s [] [b],m/2))
 else if k=12 then uU (16<g.length+1) 3 (pbind (sub 0 (g++[s]) (hs.map (Fm.up 0 1))) λb m=>uU (m.testBit 0=true) 12 (.inl (.mk 6 s [] [b],m/2)))
 else if k=9 then kh (t.ty g).2 (pbind (E2 (sub 0 g hs) 4) λa m=>uU ((t.ty g).1.kW a.cT=false) 7 (kh (mE (a.aim.getD 0 fS) t).2 (.inl ((mE (a.aim.getD 0 fS) t).1,m|||rP t))))
 else if k=13 then kh (t.ty g).2 (pbind (E2 (sub 0 g hs) 6) λa m=>uU ((t.ty g).1.kW a.cT=false) 7 (kh (mE (a.aim.getD 0 fS) t).2 (.inl ((mE (a.aim.getD 0 fS) t).1,m))))
 else if k=10 then kh (F.uk g) (uU (F.ail≠5) 10 (kh (t.ty g).2 (uU ((t.ty g).1.kW F.cT=false) 7 (pbind (prt (sub 0 g hs) (F.aim.getD 0 fS) t) λ_ m=>.inl (F,m|||rP t)))))
 else if k=14 then kh (F.uk g) (uU (F.ail≠7) 10 (kh (t.ty g).2 (uU ((t.ty g).1.kW F.cT=false) 7 (pbind (prt (sub 0 g hs) (F.aim.getD 0 fS) t) λ_ m=>.inl (F,m)))))
 else if k=11 then pbind (E2 (sub 0 g hs) 5) λa m=>uU (16<g.length+1\/16<hs.length+1) 3 (pbind (sub 1 (g++[a.cT]) (hs.map (Fm.up 0 1)++[a.aim.getD 0 fS])) λb n=>kh (BI b).2 (.inl ((BI b).1,m|||n/2)))
 else if k=15 then pbind (E2 (sub 0 g hs) 7) λa m=>uU (16<g.length+1\/16<hs.length+1) 3 (pbind (sub 1 (g++[a.cT]) (hs.map (Fm.up 0 1)++[a.aim.getD 0 fS])) λb n=>kh (BI b).2 (uU (n.testBit 0=true) 12 (.inl ((BI b).1,m|||n/2))))
 else if k=16 then kh (F.uk (g++[.nat])) (kh (oh t g 1) (pbind (prt (sub 0 g hs) F vy) λ_ m=>uU (16<g.length+1\/16<hs.length+1) 3 (
  pbind (prt (sub 1 (g++[.nat]) (hs.map (Fm.up 0 1)++[F])) (F.up 1 1) (i_ v0)) λ_ n=>kh (mE F t).2 (.inl ((mE F t).1,(rP t|||m)|||n/2)))))
 else if k=17 then kh (F.uk (g++[.mw])) (kh (oh t g 2) (pbind (prt (sub 0 g hs) F (.mk 7 0 .z [])) λ_ m=>uU (16<g.length+2\/16<hs.length+1) 3 (
  pbind (prt (sub 1 (g++[.nat]++[.mw]) (hs.map (Fm.up 0 2)++[F.up 1 1])) (F.up 1 2) (.mk 8 0 .z [v1,v0])) λ_ n=>kh (mE F t).2 (.inl ((mE F t).1,(rP t|||m)|||n/4)))))
 else if k=18 then kh (oh t g 1) (.inl (.mk 1 .z [t,t] [],0))
 else if k=19 then kh (F.uk (g++[.nat])) (pbind (E2 (sub 0 g hs) 1) λa _=>pbind (prt (sub 1 g hs) F (a.dc.getD 0 Tm.z)) λ_ n=>kh (mE F (a.dc.getD 1 Tm.z)).2 (.inl ((mE F (a.dc.getD 1 Tm.z)).1,n)))
 else pbind (E2 (sub 0 g hs) 4) λa m=>uU ((a.aim.getD 0 fS).ail≠5) 10 (uU ((Ty.fn a.cT (a.aim.getD 0 fS).cT).err≠0) 4 (uU ((mE (((a.aim.getD 0 fS).aim.getD 0 fS).up 2 1) (gQ v1 v0)).2≠0) 4 (.inl (.mk 5 (Ty.fn a.cT (a.aim.getD 0 fS).cT) [] [.mk 4 a.cT [] [(mE (((a.aim.getD 0 fS).aim.getD 0 fS).up 2 1) (gQ v1 v0)).1]],m))))
mutual
noncomputable def Pf.inf (L:List Fm):Pf->List Ty->List Fm->PR
 |.mk k i s ts fs l,g,hs=>H9 (oI L k i s ts fs (Pf.tD L l) g hs)
noncomputable def Pf.tD (L:List Fm):List Pf->Nat->List Ty->List Fm->PR
 |[],_,_,_=>.inr 2|p::_,0,g,hs=>p.inf L g hs|_::l,n+1,g,hs=>Pf.tD L l n g hs
end
def IRs(g:List Ty)(s:PR)(k:Option (cP×Int))(r:Option (qV×Int)):Prop:=
 (∃e,e≠0/\s=.inr e/\k=some (⟨fS,0⟩,e)/\r=some (⟨fS,[]⟩,e))\/∃(f:Fm) (m:Nat) (l:List Int),s=.inl (f,m)/\k=some (⟨f,(m:Int)⟩,0)/\r=some (⟨f,l⟩,0)/\Us l m/\Hg g f
def kS(g:List Ty)(s:PR)(k:Option (cP×Int))(r:Option (Fm×List Int×Int)):Prop:=
 (∃e x f l,e≠0/\s=.inr e/\k=some (x,e)/\r=some (f,l,e))\/∃(f:Fm) (m:Nat) (l:List Int),s=.inl (f,m)/\k=some (⟨f,(m:Int)⟩,0)/\r=some (f,l,0)/\Us l m/\jP g f/\f.ain<=15000000
theorem kS.no{g:List Ty}{s:PR}{k:Option (cP×Int)}{r:Option (Fm×List Int×Int)}{e:Int}{x:cP}{f:Fm}{l:List Int}(he:e≠0)(a:s=.inr e)(b:k=some (x,e))(c:r=some (f,l,e)):kS g s k r:=.inl ⟨e,x,f,l,he,a,b,c⟩
def kS.yes{g:List Ty}{s:PR}{k:Option (cP×Int)}{r:Option (Fm×List Int×Int)}{f:Fm}{m:Nat}{l:List Int}(a:s=.inl (f,m))(b:k=some (⟨f,(m:Int)⟩,0))(c:r=some (f,l,0))(d:Us l m)(h:jP g f)(i:f.ain<=15000000):kS g s k r:=.inr ⟨f,m,l,a,b,c,d,h,i⟩
def kS.infer{g:List Ty}(hg:g.length<=16){s:PR}{k:Option (cP×Int)}{r:Option (Fm×List Int×Int)}(h:kS g s k r):IRs g (H9 s) (Qk k) (Pa r):=by
 rcases h with⟨e,x,f,l,he,rfl,rfl,rfl⟩|⟨f,m,l,rfl,rfl,rfl,hu,b,hn⟩
 .refine .inl ⟨e,he,rfl,?_,?_⟩
  .unfold Qk;rw[cN,cS (by rw[c_];exact he)];rfl
  .unfold Pa;rw[l7,cS (by rw[c_];exact he)];rfl
 .have c:=b.ok;have hw:=f.hS c;have i:=b.air 1000000000000 VW;have d:H9 (.inl (f,m))=if f.err=0 then .inl (f,if f.has then m else 0)else .inr 4:=rfl;unfold Qk Pa;rw[cN,l7];simp only[c6];rw[cO aaB,cO aaB,kc VW,ky VW,cv,cv]
  by_cases a:f.err=0
  .rw[cO (by rw[c_];simp[a]),cO (by rw[c_];simp[a]),C_ VW i,CX _ VW,d,cS a];rw[cO (show¬(f.err≠0) by simpa using a),cN,cN];cases f.has with
   |true=>exact .inr ⟨f,m,l,rfl,rfl,rfl,hu,⟨a,b⟩⟩|false=>exact .inr ⟨f,0,[],rfl,rfl,rfl,.nil,⟨a,b⟩⟩
  .rw[cS (by rw[c_];exact a),cS (by rw[c_];exact a),d,cO a];exact .inl ⟨4,aaB,rfl,rfl,rfl⟩
def ie(L:List Fm)(P:Pf)(N:Nat):Prop:=∀n n',N<=n->N<=n'->∀p c,PG L p c->IRs c.aip (P.inf L c.aip c.ais) (dM n L P p) (dn n' c P)
def mq{g:List Ty}{s:PR}{n:Nat}{L:List Fm}{P:Pf}{p:cV}{r:Option (qV×Int)}(h:IRs g s (dM n L P p) r)(k:Int):(∃e,e≠0/\E2 s k=.inr e/\dG (n+1) L P p k=some (⟨fS,0⟩,e)/\((r=some (⟨fS,[]⟩,e))\/∃f l m,r=some (⟨f,l⟩,0)/\f.ail≠k/\e=10/\Us l m))\/∃(f:Fm) (m:Nat) (l:List Int),E2 s k=.inl (f,m)/\dG (n+1) L P p k=some (⟨f,(m:Int)⟩,0)/\r=some (⟨f,l⟩,0)/\Us l m/\Hg g f/\f.ail=k:=by
 rcases h with⟨e,he,a,d,b⟩|⟨f,m,l,a,d,b,hu,i⟩
 .refine .inl ⟨e,he,by rw[a];rfl,?_,.inl b⟩
  grind[dG,cN,p_,eN]
 .by_cases c:f.ail=k
  .grind[E2,gf,dG,cN,p_,c_]
  .refine .inl ⟨10,aaB,by rw[a];unfold E2;rw[gf,cO c],?_,.inr ⟨f,l,m,b,c,rfl,hu⟩⟩;rw[dG,d,cN,cS (by rw[p_,fI,c_,eN];exact⟨rfl,c⟩)];rfl
def Qw{a b:Fm}(d:a.wt<=1000000000)(f:b.wt<=1000000000):ia a b=some (yZ a b)/\nr a b=some (yZ a b):=by
 obtain⟨c,h,i⟩:=A' d f
 have:yZ a b=c:=by unfold yZ;rw[h];rfl
 grind
structure rL (g:List Ty) (F:Fm) (t:Tm):Prop where
 fe:F.err=0
 te:t.err=0
 ty:∃s,jP (g++[s]) F/\dH g t s
theorem rL.put{g:List Ty}{F:Fm}{t:Tm}(h:rL g F t):jP g (Fm.iI 0 F t):=by
 obtain⟨s,a,b⟩:=h.ty;exact a.put b
def rL.both{g:List Ty}{F:Fm}{t:Tm}(h:rL g F t)(hg:g.length<=100):gY F t=some (mE F t)/\iJ F t=some (mE F t):=by
 obtain⟨s,c,d⟩:=h.ty;obtain⟨_,a2⟩:=Fm.fP h.fe;obtain⟨_,f⟩:=Tm.fP h.te;have a:F.air 536870912=true:=c.air _ acz;have b:t.air 536870912=true:=d.air _ VW;refine⟨IG h.fe h.te (Fm.lE F VW a) (Tm.lE t VW b),?_⟩;unfold iJ;rw[Gz h.fe h.te a b h.put.ok];rfl
theorem oO(F:Fm)(t:Tm):mE F t=(fS,4)\/(Fm.iI 0 F t).ain<=4096/\mE F t=(Fm.iI 0 F t,0):=by
 unfold mE
 split
 .exact .inl rfl
 .grind
def rX{g:List Ty}(hg:g.length<=16){s:PR}{n n':Nat}{L:List Fm}{P:Pf}{p:cV}{c:cX}(h:IRs g s (dM n L P p) (dn n' c P)){F:Fm}{t:Tm}(q:rL g F t):(∃e x l m,e≠0/\prt s F t=.inr e/\dL (n+1) L P p F t=some (x,e)/\dY (n'+1) c P F t=some (l,e)/\Us l m)\/∃(f:Fm) (m:Nat) (l:List Int),prt s F t=.inl (f,m)/\dL (n+1) L P p F t=some (⟨f,(m:Int)⟩,0)/\dY (n'+1) c P F t=some (l,0)/\Us l m:=by
 obtain⟨i,k2⟩:=q.both VW;rcases h with⟨e,he,j,k,o⟩|⟨f,m,l,j,k,o,hu,r⟩
 .refine .inl ⟨e,⟨fS,0⟩,[],0,he,by rw[j];rfl,?_,?_,.nil⟩
  .rw[dL,k,cN,cS (by rw[c_];exact he)];rfl
  .rw[dY,o,cN,cS (by rw[c_];exact he)]
 .rcases oO F t with d|⟨hn,d⟩
  .rw[d] at i k2;refine .inl ⟨4,⟨fS,0⟩,[],0,aaB,?_,?_,?_,.nil⟩
   .rw[j];unfold prt;rw[gf,d];rfl
   .rw[dL,k,cN,cO aaB,i,cN,cS aaB];rfl
   .rw[dY,o,cN,cO aaB,k2,cN,cS aaB]
  .rw[d] at i k2;have A:=Fm.hS _ q.put.ok;have B:=Fm.hS _ r.ok;have u:=r.ain;obtain⟨m1,m2⟩:=Qw (a:=Fm.iI 0 F t) (b:=f) VW VW
   have v:prt s F t=kh (yZ (Fm.iI 0 F t) f) (.inl (f,m)):=by rw[j];unfold prt;rw[gf,d,hI rfl]
   have w:dL (n+1) L P p F t=some (⟨f,(m:Int)⟩,yZ (Fm.iI 0 F t) f):=by
    rw[dL,k,cN,cO aaB,i,cN,cO aaB,m1,cv]
   have y:dY (n'+1) c P F t=some (l,yZ (Fm.iI 0 F t) f):=by
    rw[dY,o,cN,cO aaB,k2,cN,cO aaB,m2,cv]
   rw[v,w,y]
   by_cases hm:yZ (Fm.iI 0 F t) f=0
   .rw[hI hm,hm];exact .inr ⟨f,m,l,rfl,rfl,rfl,hu⟩
   .rw[iY hm];exact .inl ⟨_,_,_,m,hm,rfl,rfl,rfl,hu⟩
theorem Bv{g:List Ty}(h:gN g)(hg:g.length<=16):vM g=0:=by
 unfold vM;rw[cO VW]
 induction g with
 |nil=>rfl|cons s g ih=>
  have a:=h s aaL;simp only[CN,eH];rw[cS a];exact ih (λx b=>h x (by simp[b])) (by simp at hg;omega)
def rS{g:List Ty}(a:gN g)(hg:g.length<=17){F:Fm}(hF:F.err=0):dC FU (g.map r9) F=some (F.uk g)/\jT g F=some (F.uk g)/\(g.length<=16->ji g F=some (F.uk g)):=by
 obtain⟨a1,a2⟩:=Fm.fP hF;have hw:=F.hS a1;refine⟨vd F a1 FU (by rw[d_];omega) g a VW a2,?_,λb=>?_⟩
 .unfold jT;rw[ky VW,hF,cv,cO aaB,yB F a1 FU (by rw[d_];omega) g a VW a2];rfl
 .rw[uH VW VW (λt c=>by have:=ed (a t c);omega)];unfold Fh
  grind[Bv]
def ml{g:List Ty}(a:gN g)(hg:g.length<=16){t:Tm}(b:t.err=0):dD FU (g.map r9) t=some (Hr (t.ty g))/\jy g t=some (t.ty g):=by
 obtain⟨a1,a2⟩:=Tm.fP b;refine⟨we a1 a VW,?_⟩;unfold jy;rw[rV g VW (λt b=>by have:=ed (a t b);omega),Bv a hg,y5 a1 a2 a VW];rfl
def has_both{g:List Ty}(b:gN g)(hg:g.length<=16){c:cX}(a:c.aip=g){t:Tm}(d:t.err=0)(k:Int):gL (g.map r9) t k=some (oh t g k)/\gd c t k=some (oh t g k):=by
 obtain⟨a1,a2⟩:=Tm.fP d;refine⟨Ae k a1 b VW,?_⟩;unfold gd oh;rw[a,(ml b hg d).2]
 grind[cN,c_]
def vR{g:List Ty}(hg:g.length<=16){t:Tm}{s:Ty}(h:dH g t s)(b:t.err=0):∃l,jc t=some (rP t:Int)/\jA t=some l/\Us l (rP t):=by
 obtain⟨a1,a2⟩:=Tm.fP b;have a:∀j:Int,32<=j->t.ait j=0:=λj f=>h.Ol j VW;obtain⟨l,m,k,n,c,d⟩:=Ya b (h.air _ VW) a
 have:m=rP t:=by
  refine af4 λi=>?_;rw[Dr,<-c.mem i,d,RT]
  grind
 grind
def nz:¬dx 0 0=true:=aaB
def pS(n:Nat)(a0:List Fm)(a1:Pf)(a2:cV):Option (cP×Int):=
 if dj a1.ail 1 then nG a0 a1 a2 else(if dj a1.ail 2 then mg a0 a1 a2 else(if dj a1.ail 3 then jO n a0 a1 a2 else(if dj a1.ail 4 then gq n a0 a1 a2 else(if dj a1.ail 5 then gq n a0 a1 a2 else(if dj a1.ail 6 then jK n a0 a1 a2 else(if dj a1.ail 7 then jM n a0 a1 a2 else(if dj a1.ail 8 then gb n a0 a1 a2 else(if dj a1.ail 12 then gb n a0 a1 a2 else(if dj a1.ail 9 then fZ n a0 a1 a2 else(if dj a1.ail 13 then fZ n a0 a1 a2 else(if dj a1.ail 10 then gr n a0 a1 a2 else(if dj a1.ail 14 then gr n a0 a1 a2 else(if dj a1.ail 11 then gp n a0 a1 a2 else(if dj a1.ail 15 then gp n a0 a1 a2 else(if dj a1.ail 16 then j_ n a0 a1 a2 else(if dj a1.ail 17 then j_ n a0 a1 a2 else(if dj a1.ail 18 then mO a0 a1 a2 else(if dj a1.ail 19 then jf n a0 a1 a2 else(if dj a1.ail 20 then jZ n a0 a1 a2 else none)))))))))))))))))))
def Pf.mD(L:List Fm)(k i:Int)(s:Ty)(ts:List Tm)(a:List Fm)(l:List Pf)(g:List Ty)(hs:List Fm):(Pf.mk k i s ts a l).inf L g hs=H9 (oI L k i s ts a (Pf.tD L l) g hs):=by rw[Pf.inf]
def ie.of{L:List Fm}{k i:Int}{s:Ty}{ts:List Tm}{a:List Fm}{l:List Pf}{N:Nat}
  (H:∀n n',N<=n->N<=n'->∀p c,PG L p c->kS c.aip (oI L k i s ts a (Pf.tD L l) c.aip c.ais) (pS (n+4) L (.mk k i s ts a l) p) (df (n'+4) c (.mk k i s ts a l))):ie L (.mk k i s ts a l) (N+5):=by
 intro n n' hn d p c h;obtain⟨m,rfl⟩:∃m,n=m+5:=⟨n-5,VW⟩;obtain⟨b,rfl⟩:∃b,n'=b+5:=⟨n'-5,VW⟩;exact kS.infer h.pl.nv (H m b VW VW p c h)
def afX(n:Nat)(c:cX)(i:Int):df (n+1) c (.mk 1 i .z [] [] [])=if(og i (dp c.ais)) then some (fS,[],8)else cM (dg c.ais (ea .i64 (ea .i64 (dp c.ais) 1) i)) λa=>some (a,[],0):=by rw[df];rfl
def Z5(L:List Fm)(i:Int)(g:List Ty)(hs:List Fm):oI L 1 i .z [] [] (Pf.tD L []) g hs=uU ((hs.length:Int)<=i) 8 (.inl (hs.getD (hs.length-1-i.toNat) fS,0)):=rfl
def aei(n:Nat)(L:List Fm)(i:Int)(p:cV):pS n L (.mk 1 i .z [] [] []) p=cW (j8 p i) λa b=>if b then some (⟨a,0⟩,0)else some (⟨fS,0⟩,8):=rfl
def Vq{L:List Fm}{i:Int}(hi:0<=i):ie L (.mk 1 i .z [] [] []) 5:=by
 refine ie.of (N:=0) λn n' _ _ p c h=>?_;rw[afX,Z5,aei];have k:=h.pl.PO hi
 by_cases j:(c.ais.length:Int)<=i
 .grind[ki,cN,og,dp,gK,ee,kS.no]
 .rw[cO j] at k;obtain⟨f,d,o⟩:=k;rw[mC j,o,cN,cS rfl,cO (show¬(og i (dp c.ais)=true) by rw[gK,ee];exact j),d,cv];have q:=h.pl.nh;rw[ee,ep (a:=(c.ais.length:Int)) VW VW,ep VW VW] at d
  have b:c.ais.length-1-i.toNat<c.ais.length:=VW
  rw[show(c.ais.length:Int)-1-i=((c.ais.length-1-i.toNat:Nat):Int) by omega,fV,l5 b] at d
  have r:c.ais.getD (c.ais.length-1-i.toNat) fS=f:=by grind
  have l:=h.ais f (by rw[<-fQ d];exact Cy b);exact kS.yes (by rw[r]) rfl rfl .nil l.ty (by have:=l.ain;omega)
def afG(n:Nat)(c:cX)(i:Int):df (n+1) c (.mk 2 i .z [] [] [])=if(og i (dp c.lemmas)) then some (fS,[],9)else cM (dg c.lemmas i) λa=>some (a,[],0):=by rw[df];rfl
def ZP(L:List Fm)(i:Int)(g:List Ty)(hs:List Fm):oI L 2 i .z [] [] (Pf.tD L []) g hs=uU ((L.length:Int)<=i) 9 (.inl (L.getD i.toNat fS,0)):=rfl
def afN(n:Nat)(L:List Fm)(i:Int)(p:cV):pS n L (.mk 2 i .z [] [] []) p=if(og i (dp L)) then some (⟨fS,0⟩,9)else cM (dg L i) λa=>some (⟨a,0⟩,0):=rfl
def V8{L:List Fm}{i:Int}(hi:0<=i):ie L (.mk 2 i .z [] [] []) 5:=by
 refine ie.of (N:=0) λn n' _ _ p c h=>?_;rw[afG,ZP,afN,h.E0]
 by_cases b:(L.length:Int)<=i
 .grind[ki,gK,ee,kS.no]
 .obtain⟨k,rfl⟩:∃k:Nat,i=k:=⟨i.toNat,VW⟩
  have a:k<L.length:=VW
  rw[mC b,cO (by rw[gK,ee];exact b),cO (by rw[gK,ee];exact b),fV,l5 a,cv,cv]
  have f:L.getD (k:Int).toNat fS=L[k]:=by grind
  have d:=h.abi _ (Cy a);exact kS.yes (by rw[f]) rfl rfl .nil (by simpa using d.ty.front c.aip) (by have:=d.ain;omega)
def acE(n:Nat)(c:cX)(a b:Pf):df (n+1) c (.mk 3 0 .z [] [] [a,b])=cW (dn n c a) λd f=>if(dx f 0) then some (fS,[],f)else cW (dn n c b) λh i=>cM (kb 2 d.cU h.cU) λj=>cM (fo d.uses h.uses) λk=>some (j,k,i):=by rw[df];rfl
def T2(L:List Fm)(a b:Pf)(g:List Ty)(hs:List Fm):oI L 3 0 .z [] [] (Pf.tD L [a,b]) g hs=pbind (a.inf L g hs) λf m=>pbind (b.inf L g hs) λc n=>.inl (.mk 2 .z [] [f,c],m|||n):=rfl
def acF(n:Nat)(L:List Fm)(a b:Pf)(p:cV):pS (n+1) L (.mk 3 0 .z [] [] [a,b]) p=cW (dM n L a p) λc d=>if(dx d 0) then some (⟨fS,0⟩,d)else cW (dM n L b p) λf h=>if(dx h 0) then some (⟨fS,0⟩,h)else some (⟨.mk 2 .z [] [c.cU,f.cU],w4 .u32 c.uses f.uses⟩,0):=by
 show jO (n+1) L (.mk 3 0 .z [] [] [a,b]) p=_;rw[jO];rfl
def OP:fS.wt<=1000000:=aaB
def Ro{L:List Fm}{a b:Pf}{N:Nat}(u:ie L a N)(v:ie L b N):ie L (.mk 3 0 .z [] [] [a,b]) (N+5):=by
 refine ie.of λn n' hn w p c h=>?_;rw[acE,T2,acF];rcases u (n+3) (n'+3) VW VW p c h with⟨e,he,d,i,j⟩|⟨f,m,l,d,i,j,hu,r⟩
 .rw[d,i,j,cN,cN,cS (by rw[c_];exact he),cS (by rw[c_];exact he)];exact kS.no he rfl rfl rfl
 .have x:=r.ain;have y:=f.hS r.ok;rw[d,i,j,cN,cN,cO aaB,cO aaB,gf];rcases v (n+3) (n'+3) VW VW p c h with⟨e,he,d,i,j⟩|⟨A,B,C,d,i,j,o,k⟩
  .obtain⟨q,q1,_⟩:=hu.union .nil (by have:=hu.len;omega) aaL;have:=OP;rw[d,i,j,cN,cN,cS (by rw[c_];exact he)];simp only[];rw[FW VW VW,cv,q1];exact kS.no he rfl rfl rfl
  .have s:=k.ain;have t:=A.hS k.ok;obtain⟨q,q1,q2,q3,_⟩:=hu.union o (by have:=hu.len;omega) (by have:=o.len;omega);rw[d,i,j,cN,cN,cO aaB,gf];simp only[];rw[FW VW VW,cv,q1,q2];refine kS.yes rfl rfl rfl q3 (.two (.inl rfl) r.ty k.ty) ?_;rw[Fm.cQ];simp only[db];omega
def jP.JI{g:List Ty}{f:Fm}(h:jP g f){k:Int}(d:f.ail=k)(i:k=2\/k=3):∃a b,f=.mk k .z [] [a,b]/\jP g a/\jP g b:=by
 cases h with
 |eq _ _=>grind[Fm.dq]|two c j l=>grind[Fm.dq]|q c _ _=>grind[Fm.dq]
def jP.vt{g:List Ty}{f:Fm}(h:jP g f){k:Int}(d:f.ail=k)(i:k=4\/k=5\/k=6\/k=7):∃s a,f=.mk k s [] [a]/\s.err=0/\jP (g++[s]) a:=by
 cases h with
 |eq _ _=>grind[Fm.dq]|two b c j=>grind[Fm.dq]|q b hs c=>grind[Fm.dq]
def jP.aae{g:List Ty}{f:Fm}(h:jP g f)(j:f.ail=1):∃a b,f=.mk 1 .z [a,b] []/\dH g a .nat/\dH g b .nat:=by
 cases h with
 |eq d i=>grind|two c d i=>simp_all|q c hs d=>simp_all
def Hg.sub{g a:List Ty}{k:Int}{s:Ty}{ts:List Tm}{l:List Fm}(h:Hg g (.mk k s ts l)){x:Fm}(c:x∈l)(b:jP a x):Hg a x:=by
 have d:=h.ain;rw[Fm.cQ] at d;have:=dk Fm.ain c;refine⟨?_,b⟩;unfold Fm.err;rw[cS b.ok,cO VW]
def ab_(n:Nat)(c:cX)(a:Pf):df (n+1) c (.mk 4 0 .z [] [] [a])=cW (dn n c a) λb d=>if(dx d 0) then some (fS,[],d)else if(dx b.cU.ail 2) then some (fS,[],10)else cM (dg b.cU.aim (ea .i64 4 4)) λf=>some (f,b.uses,0):=by rw[df];rfl
def acU(n:Nat)(c:cX)(a:Pf):df (n+1) c (.mk 5 0 .z [] [] [a])=cW (dn n c a) λb d=>if(dx d 0) then some (fS,[],d)else if(dx b.cU.ail 2) then some (fS,[],10)else cM (dg b.cU.aim (ea .i64 5 4)) λf=>some (f,b.uses,0):=by rw[df];rfl
def UX(L:List Fm)(a:Pf)(g:List Ty)(hs:List Fm):oI L 4 0 .z [] [] (Pf.tD L [a]) g hs=pbind (E2 (a.inf L g hs) 2) λf m=>.inl (f.aim.getD 0 fS,m):=rfl
def Wy(L:List Fm)(a:Pf)(g:List Ty)(hs:List Fm):oI L 5 0 .z [] [] (Pf.tD L [a]) g hs=pbind (E2 (a.inf L g hs) 2) λf m=>.inl (f.aim.getD 1 fS,m):=rfl
def ab1(n:Nat)(L:List Fm)(a:Pf)(p:cV):pS (n+1) L (.mk 4 0 .z [] [] [a]) p=cW (dG n L a p 2) λb c=>if(dx c 0) then some (⟨fS,0⟩,c)else cM (dg b.cU.aim 0) λd=>some (⟨d,b.uses⟩,0):=by
 show gq (n+1) L (.mk 4 0 .z [] [] [a]) p=_;rw[gq];rfl
def ace(n:Nat)(L:List Fm)(a:Pf)(p:cV):pS (n+1) L (.mk 5 0 .z [] [] [a]) p=cW (dG n L a p 2) λb c=>if(dx c 0) then some (⟨fS,0⟩,c)else cM (dg b.cU.aim 1) λd=>some (⟨d,b.uses⟩,0):=by
 show gq (n+1) L (.mk 5 0 .z [] [] [a]) p=_;rw[gq];rfl
def Ru{L:List Fm}{a:Pf}{N:Nat}(q:ie L a N):ie L (.mk 4 0 .z [] [] [a]) (N+5):=by
 refine ie.of λn n' hn r p c h=>?_;rw[ab_,UX,ab1];rcases mq (q (n+2) (n'+3) VW VW p c h) 2 with⟨e,he,d,i,b⟩|⟨f,m,l,d,i,b,hu,k,j⟩
 .rw[d,i,cN,cS (by rw[c_];exact he)];rcases b with b|⟨f,l,m,b,j,rfl,_⟩
  .rw[b,cN,cS (by rw[c_];exact he)];exact kS.no he rfl rfl rfl
  .rw[b,cN,cO aaB,cS (by rw[c_];exact j)];exact kS.no he rfl rfl rfl
 .obtain⟨x,y,rfl,o,hy⟩:=k.ty.JI j (.inl rfl);rw[d,i,b,cN,cN,cO aaB,cO aaL,gf];exact kS.yes (f:=x) rfl rfl rfl hu o (by have:=(k.sub aaL o).ain;omega)
def RH{L:List Fm}{a:Pf}{N:Nat}(o:ie L a N):ie L (.mk 5 0 .z [] [] [a]) (N+5):=by
 refine ie.of λn n' hn q p c h=>?_;rw[acU,Wy,ace];rcases mq (o (n+2) (n'+3) VW VW p c h) 2 with⟨e,he,d,i,b⟩|⟨f,m,l,d,i,b,hu,k,j⟩
 .rw[d,i,cN,cS (by rw[c_];exact he)];rcases b with b|⟨f,l,m,b,j,rfl,_⟩
  .rw[b,cN,cS (by rw[c_];exact he)];exact kS.no he rfl rfl rfl
  .rw[b,cN,cO aaB,cS (by rw[c_];exact j)];exact kS.no he rfl rfl rfl
 .obtain⟨x,y,rfl,r,hy⟩:=k.ty.JI j (.inl rfl);rw[d,i,b,cN,cN,cO aaB,cO aaL,gf];exact kS.yes (f:=y) rfl rfl rfl hu hy (by have:=(k.sub aaL hy).ain;omega)
def aaX(n:Nat)(c:cX)(F:Fm)(a:Pf):df (n+1) c (.mk 6 0 .z [] [F] [a])=cM (ji c.aip F) λb=>if(dx b 0) then some (fS,[],b)else cM (du c 0 1) λd=>if(dx d 0) then some (fS,[],d)else cM (fh c F) λh=>cW (dn n h a) λf i=>cM (kb 3 F f.cU) λj=>some (j,f.uses,i):=by rw[df];rfl
def Uw(L:List Fm)(F:Fm)(a:Pf)(g:List Ty)(hs:List Fm):oI L 6 0 .z [] [F] (Pf.tD L [a]) g hs=kh (F.uk g) (uU (16<hs.length+1) 3 (pbind (a.inf L g (hs++[F])) λb m=>.inl (.mk 3 .z [] [F,b],m))):=rfl
def acy(n:Nat)(L:List Fm)(F:Fm)(a:Pf)(p:cV):pS (n+1) L (.mk 6 0 .z [] [F] [a]) p=cM (dC FU p.aip F) λb=>if(dx b 0) then some (⟨fS,0⟩,b)else cM (dy p.eX 0 1) λc=>if(dx c 0) then some (⟨fS,0⟩,c)else cM (eM p F) λh=>cW (dM n L a h) λd f=>if(dx f 0) then some (⟨fS,0⟩,f)else some (⟨.mk 3 .z [] [F,d.cU],d.uses⟩,0):=by
 show jK (n+1) L (.mk 6 0 .z [] [F] [a]) p=_;rw[jK];rfl
def SW{L:List Fm}{F:Fm}(hF:F.err=0){a:Pf}{N:Nat}(w:ie L a N):ie L (.mk 6 0 .z [] [F] [a]) (N+5):=by
 refine ie.of λn n' hn x p c h=>?_;rw[aaX,Uw,acy];have o:=h.pl.nv;obtain⟨t1,_,t2⟩:=rS h.pl.ctx VW hF;have y:=(Fm.fP hF).2;have A:=F.hS (Fm.fP hF).1;rw[h.pl.aip,t1,t2 o,cv,cv]
 by_cases b:F.uk c.aip=0
 .rw[cO (by rw[c_];simpa using b),cO (by rw[c_];simpa using b),hI b];have j:=qC F (Fm.fP hF).1 c.aip h.pl.ctx b;rcases h.room (v:=0) (k:=1) VW VW with⟨d,i,_,u⟩|⟨d,i,u⟩
  .have d:dy p.eX 0 1=some 0:=d;have i:du c 0 1=some 0:=i;rw[d,i,cv,cv,cO aaB,cO aaB,mC VW];obtain⟨B,C,D,G,H,I,J⟩:=h.with ⟨hF,j⟩ u;rw[D,G,cv,cv];have hi:=w (n+3) (n'+3) VW VW B C H;rw[I,J] at hi;rcases hi with⟨e,he,q,r,s⟩|⟨f,m,l,q,r,s,hu,t⟩
   .have:=OP;rw[q,r,s,cN,cN,cS (by rw[c_];exact he)];simp only[];rw[FW VW VW];exact kS.no he rfl rfl rfl
   .have K:=t.ain;have M:=f.hS t.ok;rw[q,r,s,cN,cN,cO aaB];simp only[];rw[FW VW VW];refine kS.yes rfl rfl rfl hu (.two (.inr rfl) j t.ty) ?_;rw[Fm.cQ];simp only[db];omega
  .have d:dy p.eX 0 1=some 3:=d;have i:du c 0 1=some 3:=i;rw[d,i,cv,cv,cS aaB,cS aaB,ki VW];exact kS.no aaB rfl rfl rfl
 .rw[cS (by rw[c_];exact b),cS (by rw[c_];exact b),iY b];exact kS.no b rfl rfl rfl
def ab7(n:Nat)(c:cX)(a b:Pf):df (n+1) c (.mk 7 0 .z [] [] [a,b])=cW (dn n c a) λd f=>if(dx f 0) then some (fS,[],f)else if(dx d.cU.ail 3) then some (fS,[],10)else cW (dn n c b) λh i=>if(dx i 0) then some (fS,[],i)else cM (dg d.cU.aim 1) λj=>cM (fo d.uses h.uses) λk=>cM (dg d.cU.aim 0) λl=>cM (nr l h.cU) λo=>some (j,k,o):=by rw[df];rfl
def UN(L:List Fm)(a b:Pf)(g:List Ty)(hs:List Fm):oI L 7 0 .z [] [] (Pf.tD L [a,b]) g hs=pbind (E2 (a.inf L g hs) 3) λa m=>pbind (b.inf L g hs) λb n=>kh (yZ (a.aim.getD 0 fS) b) (.inl (a.aim.getD 1 fS,m|||n)):=rfl
def abq(n:Nat)(L:List Fm)(a b:Pf)(p:cV):pS (n+1) L (.mk 7 0 .z [] [] [a,b]) p=cW (dG n L a p 3) λc d=>if(dx d 0) then some (⟨fS,0⟩,d)else cW (dM n L b p) λf h=>if(dx h 0) then some (⟨fS,0⟩,h)else cM (dg c.cU.aim 0) λj=>cM (ia j f.cU) λi=>if(dx i 0) then some (⟨fS,0⟩,i)else cM (dg c.cU.aim 1) λk=>some (⟨k,w4 .u32 c.uses f.uses⟩,0):=by
 show jM (n+1) L (.mk 7 0 .z [] [] [a,b]) p=_;rw[jM];rfl
def Sk{L:List Fm}{a b:Pf}{N:Nat}(C:ie L a N)(D:ie L b N):ie L (.mk 7 0 .z [] [] [a,b]) (N+5):=by
 refine ie.of λn n' hn F p c h=>?_;rw[ab7,UN,abq];rcases mq (C (n+2) (n'+3) VW VW p c h) 3 with⟨e,he,i,j,d⟩|⟨f,m,l,i,j,d,hu,r,s⟩
 .rw[i,j,cN,cS (by rw[c_];exact he)];rcases d with d|⟨f,l,m,d,s,rfl,_⟩
  .rw[d,cN,cS (by rw[c_];exact he)];exact kS.no he rfl rfl rfl
  .rw[d,cN,cO aaB,cS (by rw[c_];exact s)];exact kS.no he rfl rfl rfl
 .obtain⟨x,y,rfl,w,hy⟩:=r.ty.JI s (.inr rfl);have t:=r.sub (x:=x) aaL w;have u:=r.sub (x:=y) aaL hy;have G:=x.hS w.ok;have H:=t.ain;rw[i,j,d,cN,cN,cO aaB,cO aaB,cO aaL,gf];rcases D (n+3) (n'+3) VW VW p c h with⟨e,he,i,j,d⟩|⟨v,I,J,i,j,d,k,o⟩
  .rw[i,j,d,cN,cN,cS (by rw[c_];exact he),cS (by rw[c_];exact he)];exact kS.no he rfl rfl rfl
  .have A:=o.ain;have B:=v.hS o.ok;obtain⟨q,q1,q2,q3,_⟩:=hu.union k (by have:=hu.len;omega) (by have:=k.len;omega);obtain⟨m1,m2⟩:=Qw (a:=x) (b:=v) VW VW;rw[i,j,d,cN,cN,cO aaB,cO aaB,gf];simp only[Fm.di,dA,fg,iq,lQ,cv,xY,O3];rw[q1,q2,m1,m2,cv,cv,cv]
   by_cases hm:yZ x v=0
   .rw[hI hm,hm,cO aaB];exact kS.yes rfl rfl rfl q3 hy (by have:=u.ain;omega)
   .rw[iY hm,cS (by rw[c_];exact hm)];exact kS.no hm rfl rfl rfl
def Us.has{l:List Int}{m:Nat}(h:Us l m):qM l=some (m.testBit 0)/\dx (qn .u32 (m:Int) 1) 0=m.testBit 0:=by
 have hm:=h.mem 0;constructor
 .unfold qM;simp only[c6];cases l with
  |nil=>simp_all|cons a l=>
   rw[cS aaL];simp only[dA,iq,cv]
   congr 1
   rw[Dr,eN,<-hm];constructor
   .rintro rfl;simp
   .intro hh;rcases jr.1 hh with hh|hh
    .exact hh.symm
    .cases h.srt with
     |cons s1 _=>
      have:=s1 0 (by simpa using hh);have:=h.pos a aaL;omega
 .rw[show(1:Int)=((1:Nat):Int)from rfl,Mz h.lt VW];rw[Dr,c_,Nat.testBit_zero,Nat.and_one_is_mod];simp only[oc];omega
def aa_(n:Nat)(c:cX)(s:Ty)(a:Pf):df (n+2) c (.mk 8 0 s [] [] [a])=gX (cM (du c 1 0) λo=>if(dx o 0) then some (fS,[],o)else cM (ej c [s]) λj=>cW (dn n j a) λb d=>if(dx d 0) then some (fS,[],d)else cM (jm 4 s b.cU) λk=>cM (fq b.uses 1) λl=>some (k,l,0)) λf h i=>some (f,h,i):=by
 rw[df];rw[mv];rfl
def YB(n:Nat)(c:cX)(s:Ty)(a:Pf):df (n+2) c (.mk 12 0 s [] [] [a])=gX (cM (du c 1 0) λq=>if(dx q 0) then some (fS,[],q)else cM (ej c [s]) λj=>cW (dn n j a) λb d=>if(dx d 0) then some (fS,[],d)else cM (qM b.uses) λk=>if k then some (fS,[],12)else cM (jm 6 s b.cU) λl=>cM (fq b.uses 1) λo=>some (l,o,0)) λf h i=>some (f,h,i):=by
 rw[df];rw[mv];rfl
def Vs(L:List Fm)(s:Ty)(a:Pf)(g:List Ty)(hs:List Fm):oI L 8 0 s [] [] (Pf.tD L [a]) g hs=uU (16<g.length+1) 3 (pbind (a.inf L (g++[s]) (hs.map (Fm.up 0 1))) λb m=>.inl (.mk 4 s [] [b],m/2)):=rfl
def Rm(L:List Fm)(s:Ty)(a:Pf)(g:List Ty)(hs:List Fm):oI L 12 0 s [] [] (Pf.tD L [a]) g hs=uU (16<g.length+1) 3 (pbind (a.inf L (g++[s]) (hs.map (Fm.up 0 1))) λb m=>uU (m.testBit 0=true) 12 (.inl (.mk 6 s [] [b],m/2))):=rfl
def abx(n:Nat)(L:List Fm)(s:Ty)(a:Pf)(p:cV):pS (n+1) L (.mk 8 0 s [] [] [a]) p=cM (dy p.eX 1 0) λh=>if(dx h 0) then some (⟨fS,0⟩,h)else cM (eF p [s]) λd=>cW (dM n L a d) λb c=>if(dx c 0) then some (⟨fS,0⟩,c)else cM (ei b.uses 1) λf=>some (⟨.mk 4 s [] [b.cU],f⟩,0):=by
 show gb (n+1) L (.mk 8 0 s [] [] [a]) p=_;rw[gb];rfl
def YL(n:Nat)(L:List Fm)(s:Ty)(a:Pf)(p:cV):pS (n+1) L (.mk 12 0 s [] [] [a]) p=cM (dy p.eX 1 0) λh=>if(dx h 0) then some (⟨fS,0⟩,h)else cM (eF p [s]) λd=>cW (dM n L a d) λb c=>if(dx c 0) then some (⟨fS,0⟩,c)else if(dx (qn .u32 b.uses 1) 0) then some (⟨fS,0⟩,12)else cM (ei b.uses 1) λf=>some (⟨.mk 6 s [] [b.cU],f⟩,0):=by
 show gb (n+1) L (.mk 12 0 s [] [] [a]) p=_;rw[gb];rfl
def Sj{L:List Fm}{s:Ty}(hs:s.err=0){a:Pf}{N:Nat}(u:ie L a N):ie L (.mk 8 0 s [] [] [a]) (N+5):=by
 refine ie.of λn n' hn w p c h=>?_;rw[show n'+4=n'+2+2 from rfl,aa_,Vs,abx];rcases h.room (v:=1) (k:=0) VW VW with⟨b,d,t,_⟩|⟨b,d,t⟩
 .have b:dy p.eX 1 0=some 0:=b;have d:du c 1 0=some 0:=d;rw[b,d,cv,cv,cO nz,cO nz,mC VW];obtain⟨x,y,A,B,C,D,F⟩:=h.below hs t;rw[A,B,cv,cv];have hi:=u (n+3) (n'+2) VW VW x y C;rw[D,F] at hi;rcases hi with⟨e,he,i,j,o⟩|⟨f,m,l,i,j,o,hu,r⟩
  .rw[i,j,o,cN,cN,cS (by rw[c_];exact he),cS (by rw[c_];exact he)];exact kS.no he rfl rfl rfl
  .have G:=r.ain;have H:=f.hS r.ok;have I:=ed hs;obtain⟨u1,u2,u3⟩:=hu.out (by have:=hu.len;omega) (k:=1) VW;rw[i,j,o,cN,cN,cO nz,cO nz,gf];simp only[];rw[EO VW VW,cv,show(1:Int)=((1:Nat):Int)from rfl,u1,u2];refine kS.yes rfl rfl rfl u3 (.q (.inl rfl) hs r.ty) ?_;rw[Fm.cQ];simp only[db];omega
 .have b:dy p.eX 1 0=some 3:=b;have d:du c 1 0=some 3:=d;have J:=h.pl.nh;rw[b,d,cv,cv,cS aaB,cS aaB,ki VW];exact kS.no aaB rfl rfl rfl
def Pk{L:List Fm}{s:Ty}(hs:s.err=0){a:Pf}{N:Nat}(w:ie L a N):ie L (.mk 12 0 s [] [] [a]) (N+5):=by
 refine ie.of λn n' hn x p c h=>?_;rw[show n'+4=n'+2+2 from rfl,YB,Rm,YL];rcases h.room (v:=1) (k:=0) VW VW with⟨b,d,u,_⟩|⟨b,d,u⟩
 .have b:dy p.eX 1 0=some 0:=b;have d:du c 1 0=some 0:=d;rw[b,d,cv,cv,cO nz,cO nz,mC VW];obtain⟨y,A,B,C,D,F,G⟩:=h.below hs u;rw[B,C,cv,cv];have hi:=w (n+3) (n'+2) VW VW y A D;rw[F,G] at hi;rcases hi with⟨e,he,j,o,r⟩|⟨f,m,l,j,o,r,hu,t⟩
  .rw[j,o,r,cN,cN,cS (by rw[c_];exact he),cS (by rw[c_];exact he)];exact kS.no he rfl rfl rfl
  .have H:=t.ain;have I:=f.hS t.ok;have J:=ed hs;obtain⟨u1,u2,u3⟩:=hu.out (by have:=hu.len;omega) (k:=1) VW;obtain⟨K,M⟩:=hu.has;rw[j,o,r,cN,cN,cO nz,cO nz,gf];simp only[];rw[K,M,cv]
   by_cases i:m.testBit 0=true
   .rw[ki i,cS i,cS i];exact kS.no aaB rfl rfl rfl
   .rw[mC i,cO i,cO i,EO VW VW,cv,show(1:Int)=((1:Nat):Int)from rfl,u1,u2];refine kS.yes rfl rfl rfl u3 (.q (.inr (.inr (.inl rfl))) hs t.ty) ?_;rw[Fm.cQ];simp only[db];omega
 .have b:dy p.eX 1 0=some 3:=b;have d:du c 1 0=some 3:=d;have O:=h.pl.nh;rw[b,d,cv,cv,cS aaB,cS aaB,ki VW];exact kS.no aaB rfl rfl rfl
theorem Ou(a b:Ty):a.kW b=b.kW a:=by grind[Ty.lS]
def oV{a b:Ty}(c:a.err=0)(d:b.err=0):gj (r9 a) b=some (a.kW b)/\eC FU b a=some (a.kW b):=by
 have f:=ed c;have h:=ed d
 grind[gj,kq,cv,ri,hV,Ou]
def afY(n:Nat)(c:cX)(t:Tm)(a:Pf):df (n+2) c (.mk 9 0 .z [t] [] [a])=gX (cW (jy c.aip t) λu s=>if(dx s 0) then some (fS,[],s)else cW (dn n c a) λb d=>if(dx d 0) then some (fS,[],d)else cM (jA t) λj=>cM (fo b.uses j) λk=>if(dx b.cU.ail 4) then some (fS,[],10)else cM (eC FU b.cU.cT u) λl=>if l then cM (dg b.cU.aim 0) λo=>cW (iJ o t) λq r=>some (q,k,r)else some (fS,[],7)) λf h i=>some (f,h,i):=by
 rw[df];rw[mQ];rfl
def acR(n:Nat)(c:cX)(t:Tm)(a:Pf):df (n+2) c (.mk 13 0 .z [t] [] [a])=gX (cW (jy c.aip t) λs r=>if(dx r 0) then some (fS,[],r)else cW (dn n c a) λb d=>if(dx d 0) then some (fS,[],d)else cM (jA t) λj=>cM (fo b.uses j) λu=>if(dx b.cU.ail 6) then some (fS,[],10)else cM (eC FU b.cU.cT s) λk=>if k then cM (dg b.cU.aim 0) λl=>cW (iJ l t) λo q=>some (o,b.uses,q)else some (fS,[],7)) λf h i=>some (f,h,i):=by
 rw[df];rw[mQ];rfl
def ZQ(L:List Fm)(t:Tm)(a:Pf)(g:List Ty)(hs:List Fm):oI L 9 0 .z [t] [] (Pf.tD L [a]) g hs=kh (t.ty g).2 (pbind (E2 (a.inf L g hs) 4) λa m=>uU ((t.ty g).1.kW a.cT=false) 7 (kh (mE (a.aim.getD 0 fS) t).2 (.inl ((mE (a.aim.getD 0 fS) t).1,m|||rP t)))):=rfl
def Ut(L:List Fm)(t:Tm)(a:Pf)(g:List Ty)(hs:List Fm):oI L 13 0 .z [t] [] (Pf.tD L [a]) g hs=kh (t.ty g).2 (pbind (E2 (a.inf L g hs) 6) λa m=>uU ((t.ty g).1.kW a.cT=false) 7 (kh (mE (a.aim.getD 0 fS) t).2 (.inl ((mE (a.aim.getD 0 fS) t).1,m)))):=rfl
def afV(n:Nat)(L:List Fm)(t:Tm)(a:Pf)(p:cV):pS (n+1) L (.mk 9 0 .z [t] [] [a]) p=cW (dD FU p.aip t) λl k=>if(dx k 0) then some (⟨fS,0⟩,k)else cM (jc t) λd=>cW (dG n L a p 4) λb c=>if(dx c 0) then some (⟨fS,0⟩,c)else cM (gj l b.cU.cT) λf=>if f then cM (dg b.cU.aim 0) λh=>cW (gY h t) λi j=>some (⟨i,w4 .u32 b.uses d⟩,j)else some (⟨fS,0⟩,7):=by
 show fZ (n+1) L (.mk 9 0 .z [t] [] [a]) p=_;rw[fZ];rfl
def aaV(n:Nat)(L:List Fm)(t:Tm)(a:Pf)(p:cV):pS (n+1) L (.mk 13 0 .z [t] [] [a]) p=cW (dD FU p.aip t) λk j=>if(dx j 0) then some (⟨fS,0⟩,j)else cM (jc t) λl=>cW (dG n L a p 6) λb c=>if(dx c 0) then some (⟨fS,0⟩,c)else cM (gj k b.cU.cT) λd=>if d then cM (dg b.cU.aim 0) λf=>cW (gY f t) λh i=>some (⟨h,w4 .u32 b.uses 0⟩,i)else some (⟨fS,0⟩,7):=by
 show fZ (n+1) L (.mk 13 0 .z [t] [] [a]) p=_;rw[fZ];rfl
def Ny{m:Nat}(h:m<4294967296):w4 .u32 (m:Int) 0=(m:Int):=by
 rw[show(0:Int)=((0:Nat):Int)from rfl,Li h VW,Nat.or_zero]
def uv{t:Tm}(a:t.err=0){g:List Ty}(b:gN g):(∃e,e≠0/\(t.ty g).2=e/\∃z,t.ty g=(z,e))\/∃s,t.ty g=(s,0)/\dH g t s/\s.err=0:=by
 obtain⟨s,e,c⟩:∃s e,t.ty g=(s,e):=⟨_,_,rfl⟩
 by_cases he:e=0
 .subst he;obtain⟨d,f⟩:=pR _ t (gO _) (Tm.fP a).1 g b s c
  grind
 .grind
def Wg{L:List Fm}{t:Tm}(d:t.err=0){a:Pf}{N:Nat}(F:ie L a N):ie L (.mk 9 0 .z [t] [] [a]) (N+5):=by
 refine ie.of λn n' hn G p c h=>?_;have i:=h.pl.nv;rw[show n'+4=n'+2+2 from rfl,afY,ZQ,afV,h.pl.aip,(ml h.pl.ctx i d).1,(ml h.pl.ctx i d).2];rcases uv d h.pl.ctx with⟨e,he,q1,z,q2⟩|⟨s,q1,k,hs⟩
 .rw[q2,kM he,cN,cN,cS (by rw[c_];exact he),cS (by rw[c_];exact he),iY he];exact kS.no he rfl rfl rfl
 .obtain⟨I,f1,f2,f3⟩:=vR i k d;rw[q1,oE,cN,cN,cO nz,cO nz,hI rfl,f1,cv];rcases mq (F (n+2) (n'+2) VW VW p c h) 4 with⟨e,he,r,u,j⟩|⟨f,m,l,r,u,j,hu,B,v⟩
  .rw[r,u,cN,cS (by rw[c_];exact he)];rcases j with j|⟨f,l,m,j,v,rfl,hu⟩
   .rw[j,cN,cS (by rw[c_];exact he)];exact kS.no he rfl rfl rfl
   .obtain⟨q,u1,_⟩:=hu.union f3 (by have:=hu.len;omega) (by have:=f3.len;omega);rw[j,cN,cO nz,f2,cv,u1,cv,cS (by rw[c_];exact v)];exact kS.no he rfl rfl rfl
  .obtain⟨C,x,rfl,o,D⟩:=B.ty.vt v (.inl rfl);have w:=B.sub (x:=x) aaL D;obtain⟨q,u1,u2,u3,_⟩:=hu.union f3 (by have:=hu.len;omega) (by have:=f3.len;omega);rw[r,u,j,cN,cN,cO nz,cO nz,f2,cv,gf];simp only[Fm.dq,Fm.dV,Fm.di,dA,iq,cv,xY];rw[u1,u2,cv,cO (show¬dx 4 4=true by decide),(oV hs o).1,(oV hs o).2,cv,cv]
   by_cases b:s.kW C=true
   .have:=(Ty.lS s C).1 b;subst this;have y:rL c.aip x t:=⟨w.err,d,s,D,k⟩;rw[mC (by rw[b];decide),cS b,cS b,(y.both VW).1,(y.both VW).2];rcases oO x t with A|⟨H,A⟩
    .rw[A,cN,cN,iY aaB];exact kS.no aaB rfl rfl rfl
    .rw[A,cN,cN,hI rfl];exact kS.yes (f:=Fm.iI 0 x t) rfl rfl rfl u3 y.put VW
   .rw[ki (by simpa using b),cO b,cO b];exact kS.no aaB rfl rfl rfl
def S1{L:List Fm}{t:Tm}(d:t.err=0){a:Pf}{N:Nat}(F:ie L a N):ie L (.mk 13 0 .z [t] [] [a]) (N+5):=by
 refine ie.of λn n' hn G p c h=>?_;have i:=h.pl.nv;rw[show n'+4=n'+2+2 from rfl,acR,Ut,aaV,h.pl.aip,(ml h.pl.ctx i d).1,(ml h.pl.ctx i d).2];rcases uv d h.pl.ctx with⟨e,he,q1,z,q2⟩|⟨s,q1,k,hs⟩
 .rw[q2,kM he,cN,cN,cS (by rw[c_];exact he),cS (by rw[c_];exact he),iY he];exact kS.no he rfl rfl rfl
 .obtain⟨I,f1,f2,f3⟩:=vR i k d;rw[q1,oE,cN,cN,cO nz,cO nz,hI rfl,f1,cv];rcases mq (F (n+2) (n'+2) VW VW p c h) 6 with⟨e,he,r,u,j⟩|⟨f,m,l,r,u,j,hu,B,v⟩
  .rw[r,u,cN,cS (by rw[c_];exact he)];rcases j with j|⟨f,l,m,j,v,rfl,hu⟩
   .rw[j,cN,cS (by rw[c_];exact he)];exact kS.no he rfl rfl rfl
   .obtain⟨q,u1,_⟩:=hu.union f3 (by have:=hu.len;omega) (by have:=f3.len;omega);rw[j,cN,cO nz,f2,cv,u1,cv,cS (by rw[c_];exact v)];exact kS.no he rfl rfl rfl
  .obtain⟨C,x,rfl,o,D⟩:=B.ty.vt v (.inr (.inr (.inl rfl)));have w:=B.sub (x:=x) aaL D;obtain⟨q,u1,_⟩:=hu.union f3 (by have:=hu.len;omega) (by have:=f3.len;omega);rw[r,u,j,cN,cN,cO nz,cO nz,f2,cv,gf];simp only[Fm.dq,Fm.dV,Fm.di,dA,iq,cv,xY];rw[u1,Ny hu.lt,cv,cO (show¬dx 6 6=true by decide),(oV hs o).1,(oV hs o).2,cv,cv]
   by_cases b:s.kW C=true
   .have:=(Ty.lS s C).1 b;subst this;have y:rL c.aip x t:=⟨w.err,d,s,D,k⟩;rw[mC (by rw[b];decide),cS b,cS b,(y.both VW).1,(y.both VW).2];rcases oO x t with A|⟨H,A⟩
    .rw[A,cN,cN,iY aaB];exact kS.no aaB rfl rfl rfl
    .rw[A,cN,cN,hI rfl];exact kS.yes (f:=Fm.iI 0 x t) rfl rfl rfl hu y.put VW
   .rw[ki (by simpa using b),cO b,cO b];exact kS.no aaB rfl rfl rfl
def aaY(n:Nat)(c:cX)(t:Tm)(F:Fm)(a:Pf):df (n+2) c (.mk 10 0 .z [t] [F] [a])=gX (cM (ji c.aip F) λb=>if(dx b 0) then some (fS,[],b)else if(dx F.ail 5) then some (fS,[],10)else cW (jy c.aip t) λj d=>if(dx d 0) then some (fS,[],d)else cM (eC FU F.cT j) λk=>if k then cM (dg F.aim 0) λl=>cW (dY n c a l t) λo q=>cM (jA t) λr=>cM (fo o r) λs=>some (F,s,q)else some (fS,[],7)) λf h i=>some (f,h,i):=by
 rw[df];rw[mS];rfl
def ac8(n:Nat)(c:cX)(t:Tm)(F:Fm)(a:Pf):df (n+2) c (.mk 14 0 .z [t] [F] [a])=gX (cM (ji c.aip F) λb=>if(dx b 0) then some (fS,[],b)else if(dx F.ail 7) then some (fS,[],10)else cW (jy c.aip t) λj d=>if(dx d 0) then some (fS,[],d)else cM (eC FU F.cT j) λk=>if k then cM (dg F.aim 0) λl=>cW (dY n c a l t) λo q=>some (F,o,q)else some (fS,[],7)) λf h i=>some (f,h,i):=by
 rw[df];rw[mS];rfl
def VL(L:List Fm)(t:Tm)(F:Fm)(a:Pf)(g:List Ty)(hs:List Fm):oI L 10 0 .z [t] [F] (Pf.tD L [a]) g hs=kh (F.uk g) (uU (F.ail≠5) 10 (kh (t.ty g).2 (uU ((t.ty g).1.kW F.cT=false) 7 (pbind (prt (a.inf L g hs) (F.aim.getD 0 fS) t) λ_ m=>.inl (F,m|||rP t))))):=rfl
def UM(L:List Fm)(t:Tm)(F:Fm)(a:Pf)(g:List Ty)(hs:List Fm):oI L 14 0 .z [t] [F] (Pf.tD L [a]) g hs=kh (F.uk g) (uU (F.ail≠7) 10 (kh (t.ty g).2 (uU ((t.ty g).1.kW F.cT=false) 7 (pbind (prt (a.inf L g hs) (F.aim.getD 0 fS) t) λ_ m=>.inl (F,m))))):=rfl
def ach(n:Nat)(L:List Fm)(t:Tm)(F:Fm)(a:Pf)(p:cV):pS (n+1) L (.mk 10 0 .z [t] [F] [a]) p=cM (dC FU p.aip F) λc=>if(dx c 0) then some (⟨fS,0⟩,c)else if(dx F.ail 5) then some (⟨fS,0⟩,10)else cW (dD FU p.aip t) λj d=>if(dx d 0) then some (⟨fS,0⟩,d)else cM (gj j F.cT) λk=>if k then cM (dg F.aim 0) λf=>cW (dL n L a p f t) λh b=>if(dx b 0) then some (⟨fS,0⟩,b)else cM (jc t) λi=>some (⟨F,w4 .u32 h.uses i⟩,0)else some (⟨fS,0⟩,7):=by
 show gr (n+1) L (.mk 10 0 .z [t] [F] [a]) p=_;rw[gr];rfl
def abT(n:Nat)(L:List Fm)(t:Tm)(F:Fm)(a:Pf)(p:cV):pS (n+1) L (.mk 14 0 .z [t] [F] [a]) p=cM (dC FU p.aip F) λc=>if(dx c 0) then some (⟨fS,0⟩,c)else if(dx F.ail 7) then some (⟨fS,0⟩,10)else cW (dD FU p.aip t) λi d=>if(dx d 0) then some (⟨fS,0⟩,d)else cM (gj i F.cT) λj=>if j then cM (dg F.aim 0) λf=>cW (dL n L a p f t) λh b=>if(dx b 0) then some (⟨fS,0⟩,b)else some (⟨F,w4 .u32 h.uses 0⟩,0)else some (⟨fS,0⟩,7):=by
 show gr (n+1) L (.mk 14 0 .z [t] [F] [a]) p=_;rw[gr];rfl
def Sl{L:List Fm}{t:Tm}(d:t.err=0){F:Fm}(hF:F.err=0){a:Pf}{N:Nat}(H:ie L a N):ie L (.mk 10 0 .z [t] [F] [a]) (N+5):=by
 refine ie.of λn n' hn I p c h=>?_;have i:=h.pl.nv;obtain⟨t1,_,t2⟩:=rS h.pl.ctx VW hF;have J:=(Fm.fP hF).2;rw[show n'+4=n'+2+2 from rfl,aaY,VL,ach,h.pl.aip,(ml h.pl.ctx i d).1,(ml h.pl.ctx i d).2,t1,t2 i,cv,cv]
 by_cases k:F.uk c.aip=0
 .have r:¬dx (F.uk c.aip) 0=true:=by rw[c_];simpa using k
  rw[cO r,cO r,hI k];have j:=qC F (Fm.fP hF).1 c.aip h.pl.ctx k
  by_cases o:F.ail=5
  .have r:¬dx F.ail 5=true:=by rw[c_];simpa using o
   rw[cO r,cO r,mC (by simpa using o)];rcases uv d h.pl.ctx with⟨e,he,q1,z,q2⟩|⟨s,q1,u,hs⟩
   .rw[q2,kM he,cN,cN,cS (by rw[c_];exact he),cS (by rw[c_];exact he),iY he];exact kS.no he rfl rfl rfl
   .obtain⟨w,x,rfl,v,G⟩:=j.vt o (.inr (.inl rfl));have y:Hg c.aip (.mk 5 w [] [x]):=⟨hF,j⟩;have A:=y.sub (x:=x) aaL G;obtain⟨M,f1,f2,f3⟩:=vR i u d;rw[q1,oE,cN,cN,cO nz,cO nz,hI rfl];simp only[Fm.dq,Fm.dV,Fm.di,dA,iq,cv,xY];rw[(oV hs v).1,(oV hs v).2,cv,cv]
    by_cases b:s.kW w=true
    .have:=(Ty.lS s w).1 b;subst this;have K:rL c.aip x t:=⟨A.err,d,s,G,u⟩;rw[mC (by rw[b];decide),cS b,cS b];rcases rX i (H (n+2) (n'+1) VW VW p c h) K with⟨e,z,l,m,he,B,C,D,hu⟩|⟨f,m,l,B,C,D,hu⟩
     .obtain⟨q,u1,_⟩:=hu.union f3 (by have:=hu.len;omega) (by have:=f3.len;omega);rw[B,C,D,cN,cN,cS (by rw[c_];exact he),f2,cv,u1];exact kS.no he rfl rfl rfl
     .obtain⟨q,u1,u2,u3,_⟩:=hu.union f3 (by have:=hu.len;omega) (by have:=f3.len;omega);rw[B,C,D,cN,cN,cO nz,f1,f2,cv,cv,gf];simp only[];rw[u1,u2];exact kS.yes rfl rfl rfl u3 j VW
    .rw[ki (by simpa using b),cO b,cO b];exact kS.no aaB rfl rfl rfl
  .rw[cS (by rw[c_];exact o),cS (by rw[c_];exact o),ki o];exact kS.no aaB rfl rfl rfl
 .rw[cS (by rw[c_];exact k),cS (by rw[c_];exact k),iY k];exact kS.no k rfl rfl rfl
def Sz{L:List Fm}{t:Tm}(i:t.err=0){F:Fm}(hF:F.err=0){a:Pf}{N:Nat}(G:ie L a N):ie L (.mk 14 0 .z [t] [F] [a]) (N+5):=by
 refine ie.of λn n' hn H p c h=>?_;have j:=h.pl.nv;obtain⟨t1,_,t2⟩:=rS h.pl.ctx VW hF;have I:=(Fm.fP hF).2;rw[show n'+4=n'+2+2 from rfl,ac8,UM,abT,h.pl.aip,(ml h.pl.ctx j i).1,(ml h.pl.ctx j i).2,t1,t2 j,cv,cv]
 by_cases k:F.uk c.aip=0
 .have q:¬dx (F.uk c.aip) 0=true:=by rw[c_];simpa using k
  rw[cO q,cO q,hI k];have d:=qC F (Fm.fP hF).1 c.aip h.pl.ctx k
  by_cases o:F.ail=7
  .have q:¬dx F.ail 7=true:=by rw[c_];simpa using o
   rw[cO q,cO q,mC (by simpa using o)];rcases uv i h.pl.ctx with⟨e,he,q1,z,q2⟩|⟨s,q1,u,hs⟩
   .rw[q2,kM he,cN,cN,cS (by rw[c_];exact he),cS (by rw[c_];exact he),iY he];exact kS.no he rfl rfl rfl
   .obtain⟨v,x,rfl,r,D⟩:=d.vt o (.inr (.inr (.inr rfl)));have w:Hg c.aip (.mk 7 v [] [x]):=⟨hF,d⟩;have y:=w.sub (x:=x) aaL D;rw[q1,oE,cN,cN,cO nz,cO nz,hI rfl];simp only[Fm.dq,Fm.dV,Fm.di,dA,iq,cv,xY];rw[(oV hs r).1,(oV hs r).2,cv,cv]
    by_cases b:s.kW v=true
    .have:=(Ty.lS s v).1 b;subst this;have J:rL c.aip x t:=⟨y.err,i,s,D,u⟩;rw[mC (by rw[b];decide),cS b,cS b];rcases rX j (G (n+2) (n'+1) VW VW p c h) J with⟨e,z,l,m,he,A,B,C,hu⟩|⟨f,m,l,A,B,C,hu⟩
     .rw[A,B,C,cN,cN,cS (by rw[c_];exact he)];exact kS.no he rfl rfl rfl
     .rw[A,B,C,cN,cN,cO nz,gf];simp only[];rw[Ny hu.lt];exact kS.yes rfl rfl rfl hu d VW
    .rw[ki (by simpa using b),cO b,cO b];exact kS.no aaB rfl rfl rfl
  .rw[cS (by rw[c_];exact o),cS (by rw[c_];exact o),ki o];exact kS.no aaB rfl rfl rfl
 .rw[cS (by rw[c_];exact k),cS (by rw[c_];exact k),iY k];exact kS.no k rfl rfl rfl
def QW(k:Fm->Option (Fm×List Int×Int))(f:Fm):Option (Fm×List Int×Int):=
 cM (pC FU f 0) λc=>if c then cW (mc FU f) λa b=>if(dx b 0) then some (fS,[],b)else cM (pC FU a 0) λd=>if d then some (fS,[],6)else k (.mk a.ail (.mk a.cT.ail a.cT.aim) a.dc a.aim)else k (.mk f.ail (.mk f.cT.ail f.cT.aim) f.dc f.aim)
def UZ(n:Nat)(c:cX)(a b:Pf):df (n+2) c (.mk 11 0 .z [] [] [a,b])=gX (cW (dn n c a) λd h=>if(dx h 0) then some (fS,[],h)else if(dx d.cU.ail 5) then some (fS,[],10)else cM (du c 1 1) λi=>if(dx i 0) then some (fS,[],i)else cM (ej c [d.cU.cT]) λu=>cM (dg d.cU.aim 0) λv=>cM (fh u v) λw=>cW (dn n w b) λj k=>if(dx k 0) then some (fS,[],k)else QW (λf=>cM (fL FU f 1 (-1)) λl=>cM (fq j.uses 1) λo=>cM (fo d.uses o) λq=>some (l,q,0)) j.cU) λr s t=>some (r,s,t):=by
 rw[df];rw[lG];rfl
def T9(n:Nat)(c:cX)(a b:Pf):df (n+2) c (.mk 15 0 .z [] [] [a,b])=gX (cW (dn n c a) λd i=>if(dx i 0) then some (fS,[],i)else if(dx d.cU.ail 7) then some (fS,[],10)else cM (du c 1 1) λj=>if(dx j 0) then some (fS,[],j)else cM (ej c [d.cU.cT]) λv=>cM (dg d.cU.aim 0) λw=>cM (fh v w) λx=>cW (dn n x b) λh k=>if(dx k 0) then some (fS,[],k)else QW (λf=>cM (qM h.uses) λl=>if l then some (fS,[],12)else cM (fL FU f 1 (-1)) λo=>cM (fq h.uses 1) λq=>cM (fo d.uses q) λr=>some (o,r,0)) h.cU) λs t u=>some (s,t,u):=by
 rw[df];rw[lG];rfl
def LR(L:List Fm)(a b:Pf)(g:List Ty)(hs:List Fm):oI L 11 0 .z [] [] (Pf.tD L [a,b]) g hs=pbind (E2 (a.inf L g hs) 5) λa m=>uU (16<g.length+1\/16<hs.length+1) 3 (pbind (b.inf L (g++[a.cT]) (hs.map (Fm.up 0 1)++[a.aim.getD 0 fS])) λb n=>kh (BI b).2 (.inl ((BI b).1,m|||n/2))):=rfl
def Nc(L:List Fm)(a b:Pf)(g:List Ty)(hs:List Fm):oI L 15 0 .z [] [] (Pf.tD L [a,b]) g hs=pbind (E2 (a.inf L g hs) 7) λa m=>uU (16<g.length+1\/16<hs.length+1) 3 (pbind (b.inf L (g++[a.cT]) (hs.map (Fm.up 0 1)++[a.aim.getD 0 fS])) λb n=>kh (BI b).2 (uU (n.testBit 0=true) 12 (.inl ((BI b).1,m|||n/2)))):=rfl
def Vv(n:Nat)(L:List Fm)(a b:Pf)(p:cV):pS (n+1) L (.mk 11 0 .z [] [] [a,b]) p=cW (dG n L a p 5) λc d=>if(dx d 0) then some (⟨fS,0⟩,d)else cM (dy p.eX 1 1) λf=>if(dx f 0) then some (⟨fS,0⟩,f)else cM (eF p [c.cU.cT]) λk=>cM (dg c.cU.aim 0) λl=>cM (eM k l) λo=>cW (dM n L b o) λh i=>if(dx i 0) then some (⟨fS,0⟩,i)else cW (lA h.cU) λq j=>if(dx j 0) then some (⟨fS,0⟩,j)else cM (ei h.uses 1) λr=>some (⟨q,w4 .u32 c.uses r⟩,0):=by
 show gp (n+1) L (.mk 11 0 .z [] [] [a,b]) p=_;rw[gp];rfl
def VF(n:Nat)(L:List Fm)(a b:Pf)(p:cV):pS (n+1) L (.mk 15 0 .z [] [] [a,b]) p=cW (dG n L a p 7) λc f=>if(dx f 0) then some (⟨fS,0⟩,f)else cM (dy p.eX 1 1) λh=>if(dx h 0) then some (⟨fS,0⟩,h)else cM (eF p [c.cU.cT]) λk=>cM (dg c.cU.aim 0) λl=>cM (eM k l) λo=>cW (dM n L b o) λd i=>if(dx i 0) then some (⟨fS,0⟩,i)else cW (lA d.cU) λq j=>if(dx j 0) then some (⟨fS,0⟩,j)else if(dx (qn .u32 d.uses 1) 0) then some (⟨fS,0⟩,12)else cM (ei d.uses 1) λr=>some (⟨q,w4 .u32 c.uses r⟩,0):=by
 show gp (n+1) L (.mk 15 0 .z [] [] [a,b]) p=_;rw[gp];rfl
def MF{g:List Ty}{s:Ty}{f:Fm}(h:Hg (g++[s]) f)(hg:g.length<=1000)(k:Fm->Option (Fm×List Int×Int))(k':Fm->Option (Fm×List Int×Int))(l:∀x,x.ait 0=0->x.ain<=4096*4096->x.air 1000000000000=true->k x=k' (x.up 1 (-1))):QW k f=if(BI f).2=0 then k' (BI f).1 else some (fS,[],(BI f).2):=by
 have hn:=h.ain;have o:f.air 1000000000000=true:=h.ty.air _ acz;unfold QW;rw[BN FU f 0 (by rw[d_];omega) VW VW VW,cv,Ty.hX,Fm.hX]
 by_cases j:f.ait 0=0
 .have hw:BI f=(f.up 1 (-1),0):=by unfold BI;rw[cS j]
  grind
 .rw[cS (show decide (0<f.ait 0)=true by simp;omega),Ew FU f (by rw[d_];omega) VW (Ry.of f hn h.ok (h.ty.air _ acz))];obtain⟨a,b,d⟩:∃a b,f.wJ 0=(a,b):=⟨_,_,rfl⟩
  have hw:BI f=if b≠0 then(fS,b)else if a.ait 0≠0 then(fS,6)else(a.up 1 (-1),0):=by unfold BI;rw[cO j,d]
  rw[d];simp only[]
  by_cases he:b=0
  .subst he;have c:=Ox h.ty 0 acz hn (by rw[d]);rw[d] at c;obtain⟨_,a2,a3⟩:=c;have a2:jP (g++[s]) a:=a2;have a3:a.ain<=3000*f.ain:=a3;rw[cO aaB] at hw;rw[cS rfl,cN,cO nz,BN FU a 0 (by rw[d_];omega) VW VW VW,cv,Ty.hX,Fm.hX]
   by_cases i:a.ait 0=0
   .rw[cO (by simpa using i)] at hw;rw[hw,cO (show¬(decide (0<a.ait 0)=true) by simp;omega)];exact(l a i VW (a2.air _ acz)).trans (cS rfl).symm
   .rw[cS i] at hw;rw[hw,cS (show decide (0<a.ait 0)=true by simp;omega)];rfl
  .rw[cS he] at hw
   have n:dx b 0=true:=by rw[c_];exact he
   rw[hw,cO he,cN,cS n,cO he]
def LS{L:List Fm}{a b:Pf}{N:Nat}(K:ie L a N)(M:ie L b N):ie L (.mk 11 0 .z [] [] [a,b]) (N+5):=by
 refine ie.of λn n' hn O p c h=>?_;have P:=h.pl.nv;rw[show n'+4=n'+2+2 from rfl,UZ,LR,Vv];rcases mq (K (n+2) (n'+2) VW VW p c h) 5 with⟨e,he,i,j,d⟩|⟨f,m,l,i,j,d,hu,D,B⟩
 .rw[i,j,cN,cS (by rw[c_];exact he)];rcases d with d|⟨f,l,m,d,B,rfl,_⟩
  .rw[d,cN,cS (by rw[c_];exact he)];exact kS.no he rfl rfl rfl
  .rw[d,cN,cO nz,cS (by rw[c_];exact B)];exact kS.no he rfl rfl rfl
 .obtain⟨s,x,rfl,hs,Q⟩:=D.ty.vt B (.inr (.inl rfl));have C:=D.sub (x:=x) aaL Q;rw[i,j,d,cN,cN,cO nz,cO nz,cO aaL,gf];simp only[Fm.dV,Fm.di,dA,iq,cv,xY];rcases h.room (v:=1) (k:=1) VW VW with⟨o,r,F,R⟩|⟨o,r,F⟩
  .have o:dy p.eX 1 1=some 0:=o;have r:du c 1 1=some 0:=r;rw[o,r,cv,cv,cO nz,cO nz,mC VW];obtain⟨p1,c1,S,T,U,G,H⟩:=h.below hs F;obtain⟨V,W,X,Y,Z,b4,b5⟩:=U.with (f:=x) (by rw[G];exact C) (by rw[H];simpa using R);rw[S,T,cv,cv,X,Y,cv,cv];have hi:=M (n+3) (n'+2) VW VW V W Z;rw[b4,b5,G,H] at hi;rcases hi with⟨e,he,i,j,d⟩|⟨f',I,J,i,j,d,A,t⟩
   .rw[i,j,d,cN,cN,cS (by rw[c_];exact he),cS (by rw[c_];exact he)];exact kS.no he rfl rfl rfl
   .obtain⟨u1,u2,u3⟩:=A.out (by have:=A.len;omega) (k:=1) VW;have u1:fq J 1=some (wO ((1:Nat):Int) J):=u1;have u2:ei (I:Int) 1=some ((I/2^1:Nat):Int):=u2;obtain⟨q,v1,v2,v3,_⟩:=hu.union u3 (by have:=hu.len;omega) (by have:=u3.len;omega);rw[i,j,d,cN,cN,cO nz,cO nz,gf];simp only[];rw[vl t VW]
    rw[MF t VW _ (λy=>some (y,q,0)) (λy y1 y2 y3=>by
     rw[BP FU y 1 (by rw[d_];omega) VW VW VW y3,cv,u1,cv,v1,cv])]
    obtain⟨w,e,hw⟩:∃w e,BI f'=(w,e):=⟨_,_,rfl⟩;rw[hw,cN]
    by_cases he:e=0
    .subst he;have u:=K0 t VW hs (by rw[hw]);rw[hw] at u;rw[cO nz,cS rfl,hI rfl,u2,cv,v2];exact kS.yes rfl rfl rfl v3 u.1 (by have:=u.2;omega)
    .rw[cS (by rw[c_];exact he),cO he,iY he];exact kS.no he rfl rfl rfl
  .have o:dy p.eX 1 1=some 3:=o;have r:du c 1 1=some 3:=r;rw[o,r,cv,cv,cS aaB,cS aaB,ki VW];exact kS.no aaB rfl rfl rfl
def Mx{L:List Fm}{a b:Pf}{N:Nat}(P:ie L a N)(i:ie L b N):ie L (.mk 15 0 .z [] [] [a,b]) (N+5):=by
 refine ie.of λn n' hn Q p c h=>?_;have R:=h.pl.nv;rw[show n'+4=n'+2+2 from rfl,T9,Nc,VF];rcases mq (P (n+2) (n'+2) VW VW p c h) 7 with⟨e,he,j,o,d⟩|⟨f,m,l,j,o,d,hu,H,D⟩
 .rw[j,o,cN,cS (by rw[c_];exact he)];rcases d with d|⟨f,l,m,d,D,rfl,_⟩
  .rw[d,cN,cS (by rw[c_];exact he)];exact kS.no he rfl rfl rfl
  .rw[d,cN,cO nz,cS (by rw[c_];exact D)];exact kS.no he rfl rfl rfl
 .obtain⟨s,x,rfl,hs,S⟩:=H.ty.vt D (.inr (.inr (.inr rfl)));have F:=H.sub (x:=x) aaL S;rw[j,o,d,cN,cN,cO nz,cO nz,cO aaL,gf];simp only[Fm.dV,Fm.di,dA,iq,cv,xY];rcases h.room (v:=1) (k:=1) VW VW with⟨r,t,I,T⟩|⟨r,t,I⟩
  .have r:dy p.eX 1 1=some 0:=r;have t:du c 1 1=some 0:=t;rw[r,t,cv,cv,cO nz,cO nz,mC VW];obtain⟨p1,J,U,V,W,K,M⟩:=h.below hs I;obtain⟨X,G,Y,Z,b3,b4,b5⟩:=W.with (f:=x) (by rw[K];exact F) (by rw[M];simpa using T);rw[U,V,cv,cv,Y,Z,cv,cv];have hi:=i (n+3) (n'+2) VW VW X G b3;rw[b4,b5,K,M] at hi;rcases hi with⟨e,he,j,o,d⟩|⟨f',C,O,j,o,d,u,A⟩
   .rw[j,o,d,cN,cN,cS (by rw[c_];exact he),cS (by rw[c_];exact he)];exact kS.no he rfl rfl rfl
   .obtain⟨u1,u2,u3⟩:=u.out (by have:=u.len;omega) (k:=1) VW;have u1:fq O 1=some (wO ((1:Nat):Int) O):=u1;have u2:ei (C:Int) 1=some ((C/2^1:Nat):Int):=u2;obtain⟨q,v1,v2,v3,_⟩:=hu.union u3 (by have:=hu.len;omega) (by have:=u3.len;omega);rw[j,o,d,cN,cN,cO nz,cO nz,gf];simp only[];rw[vl A VW];obtain⟨J,G⟩:=u.has
    rw[MF A VW _ (λy=>if C.testBit 0 then some (fS,[],12)else some (y,q,0)) (λy y1 y2 y3=>by
     rw[J,cv,BP FU y 1 (by rw[d_];omega) VW VW VW y3,cv,u1,cv,v1,cv])]
    obtain⟨w,e,hw⟩:∃w e,BI f'=(w,e):=⟨_,_,rfl⟩;rw[hw,cN]
    by_cases he:e=0
    .subst he;have B:=K0 A VW hs (by rw[hw]);rw[hw] at B;rw[cO nz,cS rfl,hI rfl,G]
     by_cases i:C.testBit 0=true
     .rw[ki i,cS i,cS i];exact kS.no aaB rfl rfl rfl
     .rw[mC i,cO i,cO i,u2,cv,v2];exact kS.yes rfl rfl rfl v3 B.1 (by have:=B.2;omega)
    .rw[cS (by rw[c_];exact he),cO he,iY he];exact kS.no he rfl rfl rfl
  .have r:dy p.eX 1 1=some 3:=r;have t:du c 1 1=some 3:=t;rw[r,t,cv,cv,cS aaB,cS aaB,ki VW];exact kS.no aaB rfl rfl rfl
def gN.nat{g:List Ty}(h:gN g):gN (g++[.nat]):=h.app Ty.fM
def gN.mw{g:List Ty}(h:gN g):gN (g++[.mw]):=h.app Ty.nx
def zx{g:List Ty}(d:gN g){t:Tm}(f:t.err=0){s:Ty}(hs:s=.nat\/s=.mw)(h:oh t g s.ail=0):dH g t s:=by
 rcases uv f d with⟨e,he,q1,z,q2⟩|⟨b,q1,i,a⟩
 .unfold oh at h
  grind
 .unfold oh at h;rw[q1] at h
  by_cases c:b.ail=s.ail
  .have:b=s:=by
    rcases hs with rfl|rfl
    .exact(uG a).1 c
    .exact(BU a).1 c
   rwa [<-this]
  .grind
def tF{F:Fm}(hF:F.err=0)(a:F.air 1000000000=true){f c:Nat}(b:f<=100)(d:c<=100):eu F (f:Int) (c:Int)=some (F.up f c)/\fL FU F (f:Int) (c:Int)=some (F.up f c):=by
 obtain⟨a1,a2⟩:=Fm.fP hF;exact⟨ti a1 VW (Fm.lE _ VW a) VW VW VW VW,sO FU F f c (by rw[d_];omega) VW VW VW VW VW (Fm.lE _ VW a)⟩
def Bc{F:Fm}(hF:F.err=0){f c:Int}(a:0<=f)(b:0<=c):(F.up f c).err=0:=by grind[Fm.fP,Fm.err,Fm.I5,Fm.pV]
def xu{F:Fm}{f:Int}:F.up f 0=F:=Fm.M1 F f
def aff:vy.err=0:=aaB
def YC:(Tm.mk 7 0 .z []).err=0:=aaB
def acY:(i_ v0).err=0:=aaB
def acg:(Tm.mk 8 0 .z [v1,v0]).err=0:=aaB
def R7{L:List Fm}{p:cV}{c:cX}(h:PG L p c)(hn:c.aip.length+2<=16):∃b a,eF p [.nat,.mw]=some b/\ej c [.nat,.mw]=some a/\PG L b a/\a.aip=c.aip++[.nat]++[.mw]/\a.ais=c.ais.map (Fm.up 0 2):=by
 obtain⟨b,a,d,f,i,j,k⟩:=h.T_ (l:=[.nat,.mw]) (λx hx=>by
  rcases jr.1 hx with rfl|hx
  .exact Ty.fM
  .rw[xV.1 hx];exact Ty.nx) hn
 grind
def YU(n:Nat)(c:cX)(t:Tm)(F:Fm)(a b:Pf):df (n+2) c (.mk 16 0 .z [t] [F] [a,b])=gX (e_ (eI c.aip [.nat])<|cM (jT (fk c.aip [.nat]) F) λf=>if(dx f 0) then some (fS,[],f)else cM (gd c t 1) λh=>if(dx h 0) then some (fS,[],h)else cM (eP 4 []) λD=>cW (dY n c a F D) λG i=>if(dx i 0) then some (fS,[],i)else cM (du c 1 1) λj=>if(dx j 0) then some (fS,[],j)else cM (ej c [.nat]) λk=>cM (fh k F) λl=>cM (fL FU F 1 1) λo=>cM (eP 5 [v0]) λq=>cW (dY n l b o q) λr d=>if(dx d 0) then some (fS,[],d)else cW (iJ F t) λs u=>cM (jA t) λv=>cM (fo v G) λw=>cM (fq r 1) λx=>cM (fo w x) λy=>some (s,y,u)) λA B C=>some (A,B,C):=by
 rw[df];rw[oy];rfl
def XH(n:Nat)(c:cX)(t:Tm)(F:Fm)(a b:Pf):df (n+2) c (.mk 17 0 .z [t] [F] [a,b])=gX (e_ (eI c.aip [.mw])<|cM (jT (fk c.aip [.mw]) F) λf=>if(dx f 0) then some (fS,[],f)else cM (gd c t 2) λh=>if(dx h 0) then some (fS,[],h)else cM (eP 7 []) λG=>cW (dY n c a F G) λH i=>if(dx i 0) then some (fS,[],i)else cM (du c 2 1) λj=>if(dx j 0) then some (fS,[],j)else cM (ej c [.nat,.mw]) λk=>cM (fL FU F 1 1) λl=>cM (fh k l) λo=>cM (fL FU F 1 2) λq=>cM (eP 8 [v1,v0]) λr=>cW (dY n o b q r) λs d=>if(dx d 0) then some (fS,[],d)else cW (iJ F t) λu v=>cM (jA t) λw=>cM (fo w H) λx=>cM (fq s 2) λy=>cM (fo x y) λA=>some (u,A,v)) λB C D=>some (B,C,D):=by
 rw[df];rw[mN];rfl
def QT(L:List Fm)(t:Tm)(F:Fm)(a b:Pf)(g:List Ty)(hs:List Fm):oI L 16 0 .z [t] [F] (Pf.tD L [a,b]) g hs=kh (F.uk (g++[.nat])) (kh (oh t g 1) (pbind (prt (a.inf L g hs) F vy) λ_ m=>uU (16<g.length+1\/16<hs.length+1) 3 (pbind (prt (b.inf L (g++[.nat]) (hs.map (Fm.up 0 1)++[F])) (F.up 1 1) (i_ v0)) λ_ n=>kh (mE F t).2 (.inl ((mE F t).1,(rP t|||m)|||n/2))))):=rfl
def Rn(L:List Fm)(t:Tm)(F:Fm)(a b:Pf)(g:List Ty)(hs:List Fm):oI L 17 0 .z [t] [F] (Pf.tD L [a,b]) g hs=kh (F.uk (g++[.mw])) (kh (oh t g 2) (pbind (prt (a.inf L g hs) F (.mk 7 0 .z [])) λ_ m=>uU (16<g.length+2\/16<hs.length+1) 3 (pbind (prt (b.inf L (g++[.nat]++[.mw]) (hs.map (Fm.up 0 2)++[F.up 1 1])) (F.up 1 2) (.mk 8 0 .z [v1,v0])) λ_ n=>kh (mE F t).2 (.inl ((mE F t).1,(rP t|||m)|||n/4))))):=rfl
def Za(n:Nat)(L:List Fm)(t:Tm)(F:Fm)(a b:Pf)(p:cV):pS (n+1) L (.mk 16 0 .z [t] [F] [a,b]) p=cM (fi p.aip [.nat]) λw=>cM (dC FU w F) λd=>if(dx d 0) then some (⟨fS,0⟩,d)else cM (gL p.aip t 1) λf=>if(dx f 0) then some (⟨fS,0⟩,f)else cW (dL n L a p F vy) λx h=>if(dx h 0) then some (⟨fS,0⟩,h)else cM (dy p.eX 1 1) λi=>if(dx i 0) then some (⟨fS,0⟩,i)else cM (eF p [.nat]) λj=>cM (eu F 1 (ea .i64 1 1)) λk=>cM (eM j k) λl=>cM (eu F 1 1) λo=>cW (dL n L b l o (i_ v0)) λq c=>if(dx c 0) then some (⟨fS,0⟩,c)else cW (gY F t) λr s=>cM (jc t) λu=>cM (ei q.uses 1) λv=>some (⟨r,w4 .u32 (w4 .u32 u x.uses) v⟩,s):=by
 rfl
def Yw(n:Nat)(L:List Fm)(t:Tm)(F:Fm)(a b:Pf)(p:cV):pS (n+1) L (.mk 17 0 .z [t] [F] [a,b]) p=cM (fi p.aip [.mw]) λw=>cM (dC FU w F) λd=>if(dx d 0) then some (⟨fS,0⟩,d)else cM (gL p.aip t 2) λf=>if(dx f 0) then some (⟨fS,0⟩,f)else cW (dL n L a p F (.mk 7 0 .z [])) λx h=>if(dx h 0) then some (⟨fS,0⟩,h)else cM (dy p.eX 2 1) λi=>if(dx i 0) then some (⟨fS,0⟩,i)else cM (eF p [.nat,.mw]) λj=>cM (eu F 1 (ea .i64 2 1)) λk=>cM (eM j k) λl=>cM (eu F 1 2) λo=>cW (dL n L b l o (.mk 8 0 .z [v1,v0])) λq c=>if(dx c 0) then some (⟨fS,0⟩,c)else cW (gY F t) λr s=>cM (jc t) λu=>cM (ei q.uses 2) λv=>some (⟨r,w4 .u32 (w4 .u32 u x.uses) v⟩,s):=by
 rfl
def O2{L:List Fm}{t:Tm}(i:t.err=0){F:Fm}(hF:F.err=0){a b:Pf}{N:Nat}(Z:ie L a N)(hb:ie L b N):ie L (.mk 16 0 .z [t] [F] [a,b]) (N+5):=by
 refine ie.of λn n' hn ad p c h=>?_;have o:=h.pl.nv;have J:=h.pl.ctx;have ae:=(Fm.fP hF).2;obtain⟨t1,t2,_⟩:=rS J.nat acz hF;obtain⟨s1,s2⟩:=has_both J o rfl i 1;rw[show n'+4=n'+2+2 from rfl,YU,QT,Za,h.pl.aip,re Ty.fM VW,cv,t1,cv,dT acz,cY,fu,t2,cv,s1,s2,cv,cv]
 by_cases r:F.uk (c.aip++[.nat])=0
 .have s:=r;rw[<-wK (a:=_=_),<-ne_eq,<-c_] at s;rw[cO s,cO s,hI r];have d:=qC F (Fm.fP hF).1 _ J.nat r;have u:F.air 1000000000=true:=d.air _ acz
  by_cases x:oh t c.aip 1=0
  .have s:=x;rw[<-wK (a:=_=_),<-ne_eq,<-c_] at s;rw[cO s,cO s,hI x];have H:dH c.aip t .nat:=zx J i (.inl rfl) x;have O:rL c.aip F vy:=⟨hF,aff,.nat,d,.zero⟩;rw[show eP 4 []=some vy from Gl,cv];rcases rX o (Z (n+2) (n'+1) VW VW p c h) O with⟨e,z,l,m,he,j,y,A,hu⟩|⟨f,m,l,j,y,A,hu⟩
   .rw[j,y,A,cN,cN,cS (by rw[c_];exact he),cS (by rw[c_];exact he)];exact kS.no he rfl rfl rfl
   .rw[j,y,A,cN,cN,cO nz,cO nz,gf];rcases h.room (v:=1) (k:=1) VW VW with⟨B,C,W,r4⟩|⟨B,C,W⟩
    .have B:dy p.eX 1 1=some 0:=B;have C:du c 1 1=some 0:=C;rw[B,C,cv,cv,cO nz,cO nz,mC VW];obtain⟨p1,c1,e1,e2,e3,K,P⟩:=h.below Ty.fM W;obtain⟨p2,M,b1,b2,X,Q,Y⟩:=e3.with (f:=F) (by rw[K];exact⟨hF,d⟩) (by rw[P];simpa using r4)
     have l1:eu F 1 (ea .i64 1 1)=some F:=by
      rw[ep VW VW];have:=(tF hF u (f:=1) (c:=0) VW VW).1;rw[show F.up ((1:Nat):Int) ((0:Nat):Int)=F from xu] at this;exact this
     have l2:eu F 1 1=some (F.up 1 1):=(tF hF u (f:=1) (c:=1) VW VW).1;have l3:fL FU F 1 1=some (F.up 1 1):=(tF hF u (f:=1) (c:=1) VW VW).2;rw[e1,e2,cv,cv,l1,cv,b1,b2,cv,cv,l2,l3,cv,cv];rw[show eP 5 [v0]=some (i_ v0)from JL aaB,cv];have hi:=hb (n+2) (n'+1) VW VW p2 M X;have R:M.aip.length<=16:=X.pl.nv
     have I:M.aip=c.aip++[.nat]:=by rw[Q,K]
     have S:rL M.aip (F.up 1 1) (i_ v0):=⟨Bc hF VW VW,acY,.nat,by
      rw[I];have:=d.up c.aip [.nat] [.nat] rfl
      simpa using this,by rw[I];exact .succ va⟩
     rcases rX R hi S with⟨e,z,T,U,he,j,y,A,D⟩|⟨f',U,T,j,y,A,D⟩
     .rw[Q,Y,K,P] at j;rw[j,y,A,cN,cN,cS (by rw[c_];exact he),cS (by rw[c_];exact he)];exact kS.no he rfl rfl rfl
     .rw[Q,Y,K,P] at j;obtain⟨lf,f1,f2,f3⟩:=vR o H i;have G:rL c.aip F t:=⟨hF,i,.nat,d,H⟩;obtain⟨u1,u2,u3⟩:=D.out (by have:=D.len;omega) (k:=1) VW;have u1:fq T 1=some (wO ((1:Nat):Int) T):=u1;have u2:ei (U:Int) 1=some ((U/2^1:Nat):Int):=u2;obtain⟨q,v1,v2,v3,_⟩:=f3.union hu (by have:=f3.len;omega) (by have:=hu.len;omega);obtain⟨q',w1,w2,w3,_⟩:=v3.union u3 (by have:=v3.len;omega) (by have:=u3.len;omega);rw[j,y,A,cN,cN,cO nz,cO nz,gf,(G.both VW).1,(G.both VW).2];obtain⟨w,e,hw⟩:∃w e,mE F t=(w,e):=⟨_,_,rfl⟩;rw[hw,cN,cN,f1,f2,cv,cv,u2,v1,cv,cv,u1,cv,w1,cv];simp only[];rw[v2,w2];rcases oO F t with V|⟨af,V⟩
      .rw[V] at hw;obtain⟨rfl,rfl⟩:=gy hw;rw[iY aaB];exact kS.no aaB rfl rfl rfl
      .rw[V] at hw;obtain⟨rfl,rfl⟩:=gy hw;rw[hI rfl];exact kS.yes (f:=Fm.iI 0 F t) rfl rfl rfl w3 G.put VW
    .have B:dy p.eX 1 1=some 3:=B;have C:du c 1 1=some 3:=C;rw[B,C,cv,cv,cS aaB,cS aaB,ki VW];exact kS.no aaB rfl rfl rfl
  .rw[cS (by rw[c_];exact x),cS (by rw[c_];exact x),iY x];exact kS.no x rfl rfl rfl
 .rw[cS (by rw[c_];exact r),cS (by rw[c_];exact r),iY r];exact kS.no r rfl rfl rfl
def Qi{L:List Fm}{t:Tm}(i:t.err=0){F:Fm}(hF:F.err=0){a b:Pf}{N:Nat}(Z:ie L a N)(hb:ie L b N):ie L (.mk 17 0 .z [t] [F] [a,b]) (N+5):=by
 refine ie.of λn n' hn ad p c h=>?_;have r:=h.pl.nv;have J:=h.pl.ctx;have ae:=(Fm.fP hF).2;obtain⟨t1,t2,_⟩:=rS J.mw acz hF;obtain⟨s1,s2⟩:=has_both J r rfl i 2;rw[show n'+4=n'+2+2 from rfl,XH,Rn,Yw,h.pl.aip,re Ty.nx VW,cv,t1,cv,dT acz,cY,fu,t2,cv,s1,s2,cv,cv]
 by_cases s:F.uk (c.aip++[.mw])=0
 .have u:=s;rw[<-wK (a:=_=_),<-ne_eq,<-c_] at u;rw[cO u,cO u,hI s];have d:=qC F (Fm.fP hF).1 _ J.mw s;have j:F.air 1000000000=true:=d.air _ acz
  by_cases x:oh t c.aip 2=0
  .have u:=x;rw[<-wK (a:=_=_),<-ne_eq,<-c_] at u;rw[cO u,cO u,hI x];have H:dH c.aip t .mw:=zx J i (.inr rfl) x;have O:rL c.aip F (.mk 7 0 .z []):=⟨hF,YC,.mw,d,.nil⟩;rw[show eP 7 []=some (.mk 7 0 .z [])from Gl,cv];rcases rX r (Z (n+2) (n'+1) VW VW p c h) O with⟨e,z,l,m,he,o,y,A,hu⟩|⟨f,m,l,o,y,A,hu⟩
   .rw[o,y,A,cN,cN,cS (by rw[c_];exact he),cS (by rw[c_];exact he)];exact kS.no he rfl rfl rfl
   .rw[o,y,A,cN,cN,cO nz,cO nz,gf];rcases h.room (v:=2) (k:=1) VW VW with⟨B,C,W,r4⟩|⟨B,C,W⟩
    .have B:dy p.eX 2 1=some 0:=B;have C:du c 2 1=some 0:=C;rw[B,C,cv,cv,cO nz,cO nz,mC VW];obtain⟨p1,c1,e1,e2,e3,K,P⟩:=R7 h W;obtain⟨p2,M,b1,b2,X,Q,Y⟩:=e3.with (f:=F.up 1 1) (by rw[K];exact⟨Bc hF VW VW,by have:=d.up c.aip [.mw] [.nat] rfl;simpa using this⟩) (by rw[P];simpa using r4)
     have l1:eu F 1 (ea .i64 2 1)=some (F.up 1 1):=by
      rw[ep VW VW];exact(tF hF j (f:=1) (c:=1) VW VW).1
     have l2:eu F 1 2=some (F.up 1 2):=(tF hF j (f:=1) (c:=2) VW VW).1;have l3:fL FU F 1 1=some (F.up 1 1):=(tF hF j (f:=1) (c:=1) VW VW).2;have l4:fL FU F 1 2=some (F.up 1 2):=(tF hF j (f:=1) (c:=2) VW VW).2;rw[e1,e2,cv,cv,l1,cv,l3,cv,b1,b2,cv,cv,l2,l4,cv,cv];rw[show eP 8 [v1,v0]=some (.mk 8 0 .z [v1,v0])from sN aaB aaB,cv];have hi:=hb (n+2) (n'+1) VW VW p2 M X;have R:M.aip.length<=16:=X.pl.nv
     have I:M.aip=c.aip++[.nat]++[.mw]:=by rw[Q,K]
     have S:rL M.aip (F.up 1 2) (.mk 8 0 .z [v1,v0]):=⟨Bc hF VW VW,acg,.mw,by
      rw[I];have:=d.up c.aip [.mw] [.nat,.mw] rfl
      simpa using this,by rw[I];exact .cons GS va⟩
     rcases rX R hi S with⟨e,z,T,U,he,o,y,A,D⟩|⟨f',U,T,o,y,A,D⟩
     .rw[Q,Y,K,P] at o;rw[o,y,A,cN,cN,cS (by rw[c_];exact he),cS (by rw[c_];exact he)];exact kS.no he rfl rfl rfl
     .rw[Q,Y,K,P] at o;obtain⟨lf,f1,f2,f3⟩:=vR r H i;have G:rL c.aip F t:=⟨hF,i,.mw,d,H⟩;obtain⟨u1,u2,u3⟩:=D.out (by have:=D.len;omega) (k:=2) VW;have u1:fq T 2=some (wO ((2:Nat):Int) T):=u1;have u2:ei (U:Int) 2=some ((U/2^2:Nat):Int):=u2;obtain⟨q,v1,v2,v3,_⟩:=f3.union hu (by have:=f3.len;omega) (by have:=hu.len;omega);obtain⟨q',w1,w2,w3,_⟩:=v3.union u3 (by have:=v3.len;omega) (by have:=u3.len;omega);rw[o,y,A,cN,cN,cO nz,cO nz,gf,(G.both VW).1,(G.both VW).2];obtain⟨w,e,hw⟩:∃w e,mE F t=(w,e):=⟨_,_,rfl⟩;rw[hw,cN,cN,f1,f2,cv,cv,u2,v1,cv,cv,u1,cv,w1,cv];simp only[];rw[v2,w2];rcases oO F t with V|⟨af,V⟩
      .rw[V] at hw;obtain⟨rfl,rfl⟩:=gy hw;rw[iY aaB];exact kS.no aaB rfl rfl rfl
      .rw[V] at hw;obtain⟨rfl,rfl⟩:=gy hw;rw[hI rfl];exact kS.yes (f:=Fm.iI 0 F t) rfl rfl rfl w3 G.put VW
    .have B:dy p.eX 2 1=some 3:=B;have C:du c 2 1=some 3:=C;rw[B,C,cv,cv,cS aaB,cS aaB,ki VW];exact kS.no aaB rfl rfl rfl
  .rw[cS (by rw[c_];exact x),cS (by rw[c_];exact x),iY x];exact kS.no x rfl rfl rfl
 .rw[cS (by rw[c_];exact s),cS (by rw[c_];exact s),iY s];exact kS.no s rfl rfl rfl
def Tm.pD{t:Tm}(h:t.ok=true)(hn:t.ain<=4096):t.err=0:=by grind[Tm.err]
def abc(n:Nat)(c:cX)(t:Tm):df (n+1) c (.mk 18 0 .z [t] [] [])=cM (kV t t) λa=>cM (gd c t 1) λb=>some (a,[],b):=by rw[df];rfl
def PZ(L:List Fm)(t:Tm)(g:List Ty)(hs:List Fm):oI L 18 0 .z [t] [] (Pf.tD L []) g hs=kh (oh t g 1) (.inl (.mk 1 .z [t,t] [],0)):=rfl
def abU(n:Nat)(L:List Fm)(t:Tm)(p:cV):pS n L (.mk 18 0 .z [t] [] []) p=cM (gz p.aip t) λa=>if(dx a 0) then some (⟨fS,0⟩,a)else some (⟨.mk 1 .z [t,t] [],0⟩,0):=rfl
def Se{L:List Fm}{t:Tm}(a:t.err=0):ie L (.mk 18 0 .z [t] [] []) 5:=by
 refine ie.of (N:=0) λn n' _ _ p c h=>?_;have f:=h.pl.nv;have i:=h.pl.ctx;obtain⟨a1,a2⟩:=Tm.fP a;have hw:=t.hS a1;rw[show n'+4=n'+3+1 from rfl,abc,PZ,abU,h.pl.aip,wP a1 i VW,(has_both i f rfl a 1).2,F1 VW VW,cv,cv,cv]
 by_cases b:oh t c.aip 1=0
 .have d:dH c.aip t .nat:=zx i a (.inl rfl) b;rw[cO (by rw[c_];simpa using b),hI b,b];refine kS.yes rfl rfl rfl .nil (.eq d d) ?_;rw[Fm.cQ];simp only[db];omega
 .rw[cS (by rw[c_];exact b),iY b];exact kS.no b rfl rfl rfl
def Ze(n:Nat)(c:cX)(F:Fm)(a b:Pf):df (n+2) c (.mk 19 0 .z [] [F] [a,b])=gX (e_ (eI c.aip [.nat])<|cM (jT (fk c.aip [.nat]) F) λf=>if(dx f 0) then some (fS,[],f)else cW (dn n c a) λd h=>if(dx h 0) then some (fS,[],h)else if(dx d.cU.ail 1) then some (fS,[],10)else cM (dg d.cU.dc 0) λs=>cW (dY n c b F s) λt i=>if(dx i 0) then some (fS,[],i)else cM (dg d.cU.dc 1) λj=>cW (iJ F j) λk l=>some (k,t,l)) λo q r=>some (o,q,r):=by
 rw[df];rw[mP];rfl
def Qy(L:List Fm)(F:Fm)(a b:Pf)(g:List Ty)(hs:List Fm):oI L 19 0 .z [] [F] (Pf.tD L [a,b]) g hs=kh (F.uk (g++[.nat])) (pbind (E2 (a.inf L g hs) 1) λa _=>pbind (prt (b.inf L g hs) F (a.dc.getD 0 Tm.z)) λ_ n=>kh (mE F (a.dc.getD 1 Tm.z)).2 (.inl ((mE F (a.dc.getD 1 Tm.z)).1,n))):=rfl
def XJ(n:Nat)(L:List Fm)(F:Fm)(a b:Pf)(p:cV):pS (n+1) L (.mk 19 0 .z [] [F] [a,b]) p=cM (fi p.aip [.nat]) λl=>cM (dC FU l F) λc=>if(dx c 0) then some (⟨fS,0⟩,c)else cW (dG n L a p 1) λd f=>if(dx f 0) then some (⟨fS,0⟩,f)else cM (dg d.cU.dc 0) λo=>cW (dL n L b p F o) λq h=>if(dx h 0) then some (⟨fS,0⟩,h)else cM (dg d.cU.dc 1) λi=>cW (gY F i) λj k=>some (⟨j,q.uses⟩,k):=by
 show jf (n+1) L (.mk 19 0 .z [] [F] [a,b]) p=_;rw[jf];rfl
def OQ{L:List Fm}{F:Fm}(hF:F.err=0){a b:Pf}{N:Nat}(H:ie L a N)(I:ie L b N):ie L (.mk 19 0 .z [] [F] [a,b]) (N+5):=by
 refine ie.of λn n' hn J p c h=>?_;have s:=h.pl.nv;have C:=h.pl.ctx;have K:=(Fm.fP hF).2;obtain⟨t1,t2,_⟩:=rS C.nat acz hF;rw[show n'+4=n'+2+2 from rfl,Ze,Qy,XJ,h.pl.aip,re Ty.fM VW,cv,t1,cv,dT acz,cY,fu,t2,cv]
 by_cases j:F.uk (c.aip++[.nat])=0
 .have t:=j;rw[<-wK (a:=_=_),<-ne_eq,<-c_] at t;rw[cO t,cO t,hI j];have i:=qC F (Fm.fP hF).1 _ C.nat j;rcases mq (H (n+2) (n'+2) VW VW p c h) 1 with⟨e,he,k,o,d⟩|⟨f,m,l,k,o,d,hu,D,u⟩
  .rw[k,o,cN,cS (by rw[c_];exact he)];rcases d with d|⟨f,l,m,d,u,rfl,_⟩
   .rw[d,cN,cS (by rw[c_];exact he)];exact kS.no he rfl rfl rfl
   .rw[d,cN,cO nz,cS (by rw[c_];exact u)];exact kS.no he rfl rfl rfl
  .obtain⟨x,y,rfl,G,hy⟩:=D.ty.aae u;have r:=D.ain;rw[Fm.cQ] at r;simp only[db] at r;have v:x.err=0:=Tm.pD G.ok VW;have w:y.err=0:=Tm.pD hy.ok VW;have A:rL c.aip F x:=⟨hF,v,.nat,i,G⟩;have q:rL c.aip F y:=⟨hF,w,.nat,i,hy⟩;rw[k,o,d,cN,cN,cO nz,cO nz,cO aaL,gf];simp only[Fm.gl,dA,fg,iq,lQ,cv,xY,O3];rcases rX s (I (n+2) (n'+1) VW VW p c h) A with⟨e,z,l,m,he,k,o,d,hu⟩|⟨f,m,l,k,o,d,hu⟩
   .rw[k,o,d,cN,cN,cS (by rw[c_];exact he),cS (by rw[c_];exact he)];exact kS.no he rfl rfl rfl
   .rw[k,o,d,cN,cN,cO nz,cO nz,gf,(q.both VW).1,(q.both VW).2];rcases oO F y with B|⟨M,B⟩
    .rw[B,cN,cN,iY aaB];exact kS.no aaB rfl rfl rfl
    .rw[B,cN,cN,hI rfl];exact kS.yes (f:=Fm.iI 0 F y) rfl rfl rfl hu q.put VW
 .rw[cS (by rw[c_];exact j),cS (by rw[c_];exact j),iY j];exact kS.no j rfl rfl rfl
def chR(f:Fm)(l:List Int):Option (Fm×List Int×Int):=
 de (λ(v35:Bool)=>if v35 then some (fS,[],10)else cM (dg f.aim 0) λa=>cM (j1 f.cT a.cT) λb=>cM (hU b) λd=>if(dx d 0) then some (fS,[],4)else cM (dg a.aim 0) λh=>cM (fL FU h 2 1) λi=>cM (eP 3 [v1,v0]) λj=>cW (iJ i j) λk n=>cM (jm 4 f.cT k) λo=>cM (jm 5 b o) λq=>some (q,l,n)) λc=>if(dx f.ail 4) then c true else cM (dg f.aim 0) λr=>c (dx r.ail 5)
def Xu{f:Fm}{l:List Int}(h:f.ail≠4):chR f l=some (fS,[],10):=by grind[dx,c_,chR,c6]
def XE{s:Ty}{x:Fm}{l:List Int}(h:x.ail≠5):chR (.mk 4 s [] [x]) l=some (fS,[],10):=by
 have q:dx x.ail 5=true:=by rw[c_];exact h
 have e:chR (.mk 4 s [] [x]) l=(λ(v35:Bool)=>if v35 then some (fS,[],10)else cM (dg [x] 0) λa=>cM (j1 s a.cT) λb=>cM (hU b) λc=>if(dx c 0) then some (fS,[],4)else cM (dg a.aim 0) λd=>cM (fL FU d 2 1) λf=>cM (eP 3 [v1,v0]) λi=>cW (iJ f i) λj k=>cM (jm 4 s j) λn=>cM (jm 5 b n) λo=>some (o,l,k)) (dx x.ail 5):=rfl
 grind
def aet{s u:Ty}{y:Fm}{l:List Int}:chR (.mk 4 s [] [.mk 5 u [] [y]]) l=cM (j1 s u) λa=>cM (hU a) λb=>if(dx b 0) then some (fS,[],4)else cM (fL FU y 2 1) λc=>cM (eP 3 [v1,v0]) λd=>cW (iJ c d) λf h=>cM (jm 4 s f) λi=>cM (jm 5 a i) λj=>some (j,l,h):=rfl
def T6(n:Nat)(c:cX)(a:Pf):df (n+2) c (.mk 20 0 .z [] [] [a])=gX (cW (dn n c a) λb d=>if(dx d 0) then some (fS,[],d)else chR b.cU b.uses) λf h i=>some (f,h,i):=by
 rw[df];rw[mb];rfl
def Mg(L:List Fm)(a:Pf)(g:List Ty)(hs:List Fm):oI L 20 0 .z [] [] (Pf.tD L [a]) g hs=pbind (E2 (a.inf L g hs) 4) λa m=>uU ((a.aim.getD 0 fS).ail≠5) 10 (uU ((Ty.fn a.cT (a.aim.getD 0 fS).cT).err≠0) 4 (uU ((mE (((a.aim.getD 0 fS).aim.getD 0 fS).up 2 1) (gQ v1 v0)).2≠0) 4 (.inl (.mk 5 (Ty.fn a.cT (a.aim.getD 0 fS).cT) [] [.mk 4 a.cT [] [(mE (((a.aim.getD 0 fS).aim.getD 0 fS).up 2 1) (gQ v1 v0)).1]],m)))):=rfl
def chK(f:Fm)(u:Int):Option (cP×Int):=
 cM (dg f.aim 0) λa=>if(dx a.ail 5) then some (⟨fS,0⟩,10)else cM (nQ a.cT [f.cT]) λb=>cM (dg a.aim 0) λd=>cM (eu d 2 1) λh=>cM (gC 1) λi=>cM (gC 0) λj=>cM (qW i [j]) λk=>cW (gY h k) λl n=>de (λ(o:Bool)=>if o then some (⟨fS,0⟩,4)else cM (iT 4 f.cT l) λq=>cM (iT 5 b q) λr=>some (⟨r,u⟩,0)) λc=>if(dx n 0) then c true else cM (k5 b) λs=>c (dx s 0)
def Y7{s:Ty}{x:Fm}{u:Int}(h:x.ail≠5):chK (.mk 4 s [] [x]) u=some (⟨fS,0⟩,10):=by grind[dx,c_,chK,Fm.di,dA,cv]
def U4(n:Nat)(L:List Fm)(a:Pf)(p:cV):pS (n+1) L (.mk 20 0 .z [] [] [a]) p=cW (dG n L a p 4) λb c=>if(dx c 0) then some (⟨fS,0⟩,c)else chK b.cU b.uses:=by
 show jZ (n+1) L (.mk 20 0 .z [] [] [a]) p=_;rfl
def ae6{s u:Ty}{y b:Fm}{m:Int}{q:Fm×Int}(A:eu y 2 1=some b)(B:gY b (gQ v1 v0)=some q)(C:k5 (.fn s u)=some (Ty.fn s u).err):chK (.mk 4 s [] [.mk 5 u [] [y]]) m=if q.2=0/\(Ty.fn s u).err=0 then some (⟨.mk 5 (.fn s u) [] [.mk 4 s [] [q.1]],m⟩,0)else some (⟨fS,0⟩,4):=by
 obtain⟨w,e⟩:=q
 have D:chK (.mk 4 s [] [.mk 5 u [] [y]]) m=cM (nQ u [s]) λa=>cM (eu y 2 1) λf=>cM (gC 1) λi=>cM (gC 0) λj=>cM (qW i [j]) λk=>cW (gY f k) λl n=>de (λ(o:Bool)=>if o then some (⟨fS,0⟩,4)else cM (iT 4 s l) λr=>cM (iT 5 a r) λt=>some (⟨t,m⟩,0)) λc=>if(dx n 0) then c true else cM (k5 a) λv=>c (dx v 0):=by
  rfl
 rw[D,SE,cv,A,cv,show gC 1=some v1 from rfl,cv,show gC 0=some v0 from rfl,cv,Bj,cv,show Tm.mk 3 0 (.mk 0 []) [v1,v0]=gQ v1 v0 from rfl,B,cN,c6,C,cv]
 by_cases he:e=0
 .subst he;rw[cO nz]
  by_cases d:(Ty.fn s u).err=0
  .have x:dx (Ty.fn s u).err 0=false:=by rw[d];rfl
   rw[x,cS ⟨rfl,d⟩];rfl
  .have x:dx (Ty.fn s u).err 0=true:=by rw[c_];exact d
   rw[x,cO (λh=>d h.2)];rfl
 .rw[cS (by rw[c_];exact he),cO (λh=>he h.1)];rfl
def N0{L:List Fm}{a:Pf}{N:Nat}(G:ie L a N):ie L (.mk 20 0 .z [] [] [a]) (N+5):=by
 refine ie.of λn n' hn H p c h=>?_;have I:=h.pl.nv;rw[show n'+4=n'+2+2 from rfl,T6,Mg,U4];rcases mq (G (n+2) (n'+2) VW VW p c h) 4 with⟨e,he,o,r,j⟩|⟨f,m,l,o,r,j,hu,D,t⟩
 .rw[o,r,cN,cS (by rw[c_];exact he)];rcases j with j|⟨f,l,m,j,t,rfl,_⟩
  .rw[j,cN,cS (by rw[c_];exact he)];exact kS.no he rfl rfl rfl
  .rw[j,cN,cO nz,Xu t];exact kS.no he rfl rfl rfl
 .obtain⟨s,x,rfl,hs,F⟩:=D.ty.vt t (.inl rfl);have v:=D.sub (x:=x) aaL F;rw[o,r,j,cN,cN,cO nz,cO nz,gf]
  by_cases d:x.ail=5
  .obtain⟨u,y,rfl,w,hy⟩:=F.vt d (.inr (.inl rfl));have i:=v.sub (x:=y) aaL hy;have J:=ed hs;have K:=ed w;have M:=i.ain
   have O:(Ty.fn s u).ain<=1000:=by rw[Ty.iN];omega
   have k:y.air 1000000000=true:=hy.air _ acz;have P:eu y 2 1=some (y.up 2 1):=(tF i.err k (f:=2) (c:=1) VW VW).1;have Q:fL FU y 2 1=some (y.up 2 1):=(tF i.err k (f:=2) (c:=1) VW VW).2
   have A:rL (c.aip++[.fn s u]++[s]) (y.up 2 1) (gQ v1 v0):=⟨Bc i.err VW VW,aaB,u,by
    have:=hy.up c.aip [s,u] [.fn s u] aaL
    simpa using this,.app GS va⟩
   obtain⟨R,S⟩:=A.both acz;have T:=OP;have hw:=Fm.hS _ A.put.ok;simp only[Fm.di,Fm.dV,Fm.dq,xY];rw[mC aaB,ae6 P R (yl VW),aet,hE VW VW,cv,lC VW,cv]
   by_cases b:(Ty.fn s u).err=0
   .have B:¬dx (Ty.fn s u).err 0=true:=by rw[c_];simpa using b
    rw[cO B,mC (by simpa using b),Q,cv,show eP 3 [v1,v0]=some (gQ v1 v0)from sN aaB aaB,cv,S];rcases oO (y.up 2 1) (gQ v1 v0)with C|⟨U,C⟩
    .rw[C,cO (λh=>by cases h.1),cN,ki aaB,EO VW VW,cv];rw[EO VW (by rw[Fm.ef];simp only[db];omega),cv];exact kS.no aaB rfl rfl rfl
    .rw[C,cS ⟨rfl,b⟩,cN,mC (λh=>h rfl),EO VW VW,cv];rw[EO VW (by rw[Fm.ef];simp only[db];omega),cv];refine kS.yes (f:=.mk 5 (.fn s u) [] [.mk 4 s [] [Fm.iI 0 (y.up 2 1) (gQ v1 v0)]]) rfl rfl rfl hu (.q (.inr (.inl rfl)) b (.q (.inl rfl) hs A.put)) ?_;rw[Fm.cQ];simp only[db];rw[Fm.cQ];simp only[db];omega
   .have B:dx (Ty.fn s u).err 0=true:=by rw[c_];exact b
    rw[cS B,ki b,cO (λh=>b h.2)];exact kS.no aaB rfl rfl rfl
  .simp only[Fm.di,xY];rw[Y7 d,XE d,ki d];exact kS.no aaB rfl rfl rfl
inductive yQ:Pf->Prop
 |hyp {i}:0<=i->yQ (.mk 1 i .z [] [] [])|E0 {i}:0<=i->yQ (.mk 2 i .z [] [] [])|HM {a b}:yQ a->yQ b->yQ (.mk 3 0 .z [] [] [a,b])|and {k a}:k=4\/k=5->yQ a->yQ (.mk k 0 .z [] [] [a])|KA {F a}:F.err=0->yQ a->yQ (.mk 6 0 .z [] [F] [a])|JX {a b}:yQ a->yQ b->yQ (.mk 7 0 .z [] [] [a,b])|all {k s a}:k=8\/k=12->s.err=0->yQ a->yQ (.mk k 0 s [] [] [a])|Vz {k t a}:k=9\/k=13->t.err=0->yQ a->yQ (.mk k 0 .z [t] [] [a])|ex {k t F a}:k=10\/k=14->t.err=0->F.err=0->yQ a->yQ (.mk k 0 .z [t] [F] [a])|Vu {k a b}:k=11\/k=15->yQ a->yQ b->yQ (.mk k 0 .z [] [] [a,b])|ind {k t F a b}:k=16\/k=17->t.err=0->F.err=0->yQ a->yQ b->yQ (.mk k 0 .z [t] [F] [a,b])|refl {t}:t.err=0->yQ (.mk 18 0 .z [t] [] [])|subst {F a b}:F.err=0->yQ a->yQ b->yQ (.mk 19 0 .z [] [F] [a,b])|choice {a}:yQ a->yQ (.mk 20 0 .z [] [] [a])
mutual
def Pf.x_:Pf->Nat
 |.mk _ _ _ _ _ l=>1+Pf.uW l
def Pf.uW:List Pf->Nat
 |[]=>0|p::l=>p.x_+Pf.uW l
end
theorem ie.mono{L:List Fm}{P:Pf}{N M:Nat}(h:ie L P N)(a:N<=M):ie L P M:=λn n' b c=>h n n' VW VW
def Ww{L:List Fm}{P:Pf}(h:yQ P):ie L P (5*P.x_):=by
 induction h with
 |hyp hi=>exact Vq hi|E0 hi=>exact V8 hi|HM _ _ a b=>exact(Ro (a.mono (OI _ _)) (b.mono (PB _ _))).mono (by simp only[Pf.x_,Pf.uW];omega)|and c _ a=>
  rcases c with rfl|rfl
  .exact(Ru a).mono (by simp only[Pf.x_,Pf.uW];omega)
  .exact(RH a).mono (by simp only[Pf.x_,Pf.uW];omega)
 |KA hF _ a=>exact(SW hF a).mono (by simp only[Pf.x_,Pf.uW];omega)|JX _ _ a b=>exact(Sk (a.mono (OI _ _)) (b.mono (PB _ _))).mono (by simp only[Pf.x_,Pf.uW];omega)|all c hs _ a=>
  rcases c with rfl|rfl
  .exact(Sj hs a).mono (by simp only[Pf.x_,Pf.uW];omega)
  .exact(Pk hs a).mono (by simp only[Pf.x_,Pf.uW];omega)
 |Vz c d _ a=>
  rcases c with rfl|rfl
  .exact(Wg d a).mono (by simp only[Pf.x_,Pf.uW];omega)
  .exact(S1 d a).mono (by simp only[Pf.x_,Pf.uW];omega)
 |ex c d hF _ a=>
  rcases c with rfl|rfl
  .exact(Sl d hF a).mono (by simp only[Pf.x_,Pf.uW];omega)
  .exact(Sz d hF a).mono (by simp only[Pf.x_,Pf.uW];omega)
 |Vu c _ _ a b=>
  rcases c with rfl|rfl
  .exact(LS (a.mono (OI _ _)) (b.mono (PB _ _))).mono (by simp only[Pf.x_,Pf.uW];omega)
  .exact(Mx (a.mono (OI _ _)) (b.mono (PB _ _))).mono (by simp only[Pf.x_,Pf.uW];omega)
 |ind c d hF _ _ a b=>
  rcases c with rfl|rfl
  .exact(O2 d hF (a.mono (OI _ _)) (b.mono (PB _ _))).mono (by simp only[Pf.x_,Pf.uW];omega)
  .exact(Qi d hF (a.mono (OI _ _)) (b.mono (PB _ _))).mono (by simp only[Pf.x_,Pf.uW];omega)
 |refl d=>exact Se d|subst hF _ _ a b=>exact(OQ hF (a.mono (OI _ _)) (b.mono (PB _ _))).mono (by simp only[Pf.x_,Pf.uW];omega)|choice _ a=>exact(N0 a).mono (by simp only[Pf.x_,Pf.uW];omega)
mutual
def Pf.ain:Pf->Nat
 |.mk _ _ _ ts a l=>1+db Tm.ain ts+db Fm.ain a+Pf.mW l
def Pf.mW:List Pf->Nat
 |[]=>0|p::l=>p.ain+Pf.mW l
end
def Pf.qH:∀l:List Pf,Pf.mW l=db Pf.ain l
 |[]=>by rw[Pf.mW];rfl|p::l=>by rw[Pf.mW,Pf.qH l];rfl
theorem Pf.cQ(k i:Int)(s:Ty)(ts:List Tm)(a:List Fm)(l:List Pf):(Pf.mk k i s ts a l).ain=1+db Tm.ain ts+db Fm.ain a+db Pf.ain l:=by rw[Pf.ain,Pf.qH]
mutual
def Pf.wt:Pf->Nat
 |.mk _ _ s ts a l=>1+s.ain+db Tm.wt ts+db Fm.wt a+Pf.OO l
def Pf.OO:List Pf->Nat
 |[]=>0|p::l=>p.wt+Pf.OO l
end
def Pf.CS:∀l:List Pf,Pf.OO l=db Pf.wt l
 |[]=>by rw[Pf.OO];rfl|p::l=>by rw[Pf.OO,Pf.CS l];rfl
theorem Pf.ef(k i:Int)(s:Ty)(ts:List Tm)(a:List Fm)(l:List Pf):(Pf.mk k i s ts a l).wt=1+s.ain+db Tm.wt ts+db Fm.wt a+db Pf.wt l:=by rw[Pf.wt,Pf.CS]
def Pf.gM(p:Pf):1<=p.wt:=by cases p;rw[Pf.ef];omega
def Pf.ind{p:Pf->Prop}(h:∀k i s ts a l,(∀t∈l,p t)->p (.mk k i s ts a l))(t:Pf):p t:=by
 match t with
 |.mk k i s ts a l=>exact h k i s ts a l λx b=>Pf.ind h x
termination_by SizeOf.sizeOf t
decreasing_by
 have:=aco b;simp only[Pf.mk.sizeOf_spec];omega
def Pf.gH(p:Pf):p.ain<=p.wt:=by
 induction p using Pf.ind with
 |h k i s ts a l ih=>
  rw[Pf.cQ,Pf.ef];have b:=jB (l:=ts) (λx _=>Tm.gH x);have c:=jB (l:=a) (λx _=>Fm.gH x);have d:=jB (l:=l) ih;omega
def Pf.sig(k:Int):Option (Bool×Bool×Nat×Nat×Nat):=
 if k=1\/k=2 then some (true,false,0,0,0)
 else if k=3\/k=7\/k=11\/k=15 then some (false,false,0,0,2)
 else if k=4\/k=5\/k=20 then some (false,false,0,0,1)
 else if k=6 then some (false,false,0,1,1)
 else if k=8\/k=12 then some (false,true,0,0,1)
 else if k=9\/k=13 then some (false,false,1,0,1)
 else if k=10\/k=14 then some (false,false,1,1,1)
 else if k=16\/k=17 then some (false,false,1,1,2)
 else if k=18 then some (false,false,1,0,0)
 else if k=19 then some (false,false,0,1,2)
 else none
def Pf.node(k i:Int)(s:Ty)(d nf f:Nat):Bool:=
 match Pf.sig k with
 |none=>false|some (h,ty,a,b,c)=>decide (d=a)&&decide (nf=b)&&decide (f=c)&&decide (0<=i)&&(h||decide (i=0))&&(if ty then decide (s.err=0)else s.qE)
mutual
def Pf.ok:Pf->Bool
 |.mk k i s ts a l=>Pf.node k i s ts.length a.length l.length&&ts.all Tm.ok&&a.all Fm.ok&&Pf.Jt l
def Pf.Jt:List Pf->Bool
 |[]=>true|p::l=>p.ok&&Pf.Jt l
end
def Pf.yS:∀l:List Pf,Pf.Jt l=l.all Pf.ok
 |[]=>by rw[Pf.Jt];rfl|p::l=>by rw[Pf.Jt,Pf.yS l];rfl
theorem Pf.fX(k i:Int)(s:Ty)(ts:List Tm)(a:List Fm)(l:List Pf):(Pf.mk k i s ts a l).ok=(Pf.node k i s ts.length a.length l.length&&ts.all Tm.ok&&a.all Fm.ok&&l.all Pf.ok):=by rw[Pf.ok,Pf.yS]
def Qn(t:Tm):Bool:=decide (t.ain<=4096)
def TC(f:Fm):Bool:=decide (f.ain<=4096)
mutual
def Pf.small:Pf->Bool
 |.mk _ _ _ ts a l=>ts.all Qn&&a.all TC&&Pf.Gr l
def Pf.Gr:List Pf->Bool
 |[]=>true|p::l=>p.small&&Pf.Gr l
end
def Pf.JT:∀l:List Pf,Pf.Gr l=l.all Pf.small
 |[]=>by rw[Pf.Gr];rfl|p::l=>by rw[Pf.Gr,Pf.JT l];rfl
def Pf.yv(k i:Int)(s:Ty)(ts:List Tm)(a:List Fm)(l:List Pf):(Pf.mk k i s ts a l).small=(ts.all Qn&&a.all TC&&l.all Pf.small):=by rw[Pf.small,Pf.JT]
def Pf.err(p:Pf):Int:=if p.ok then(if p.small=true/\p.ain<=16384 then 0 else 4)else 2
def abP{k:Int}(h:Pf.sig k≠none):k=1\/k=2\/k=3\/k=4\/k=5\/k=6\/k=7\/k=8\/k=9\/k=10\/k=11\/k=12\/k=13\/k=14\/k=15\/k=16\/k=17\/k=18\/k=19\/k=20:=by
 refine aeU λhn=>h ?_;unfold Pf.sig;simp only[not_or] at hn;rw[cO VW,cO VW,cO VW,cO VW,cO VW,cO VW,cO VW,cO VW,cO VW,cO VW]
def L2{k:Int}(h:k<1\/20<k):Pf.sig k=none:=by
 unfold Pf.sig;rw[cO VW,cO VW,cO VW,cO VW,cO VW,cO VW,cO VW,cO VW,cO VW,cO VW]
def JP(k:Int):(Pf.sig k=none/\∃r,lb k=some (r,false))\/∃d ty a b c r,Pf.sig k=some (d,ty,a,b,c)/\lb k=some (r,true)/\r.aio=d/\r.typed=ty/\r.dc=((a:Nat):Int)/\r.eh=((b:Nat):Int)/\r.aim=((c:Nat):Int):=by
 by_cases h:k<1\/20<k
 .refine .inl ⟨L2 h,?_⟩;unfold lb;rw[cS (by rw[kP,rl,km,gK];omega)];exact⟨_,rfl⟩
 .have f:k=1\/k=2\/k=3\/k=4\/k=5\/k=6\/k=7\/k=8\/k=9\/k=10\/k=11\/k=12\/k=13\/k=14\/k=15\/k=16\/k=17\/k=18\/k=19\/k=20:=VW
  refine .inr ?_;rcases f with rfl|rfl|rfl|rfl|rfl|rfl|rfl|rfl|rfl|rfl|rfl|rfl|rfl|rfl|rfl|rfl|rfl|rfl|rfl|rfl<;>exact⟨_,_,_,_,_,_,rfl,rfl,rfl,rfl,rfl,rfl,rfl⟩
def OM(k:Int):(Pf.sig k=none/\∃r,pj k=some (r,false))\/∃d ty a b c r,Pf.sig k=some (d,ty,a,b,c)/\pj k=some (r,true)/\r.aio=d/\r.oB=ty/\r.dc=((a:Nat):Int)/\r.eh=((b:Nat):Int)/\r.aim=((c:Nat):Int):=by
 by_cases h:k<1\/20<k
 .refine .inl ⟨L2 h,?_⟩;unfold pj;simp only[kP,rl,eN];rw[cO VW,cO VW,cO VW,cO VW,cO VW,cO VW,cO VW,cO VW,cO VW,cO VW,cO VW];exact⟨_,rfl⟩
 .have f:k=1\/k=2\/k=3\/k=4\/k=5\/k=6\/k=7\/k=8\/k=9\/k=10\/k=11\/k=12\/k=13\/k=14\/k=15\/k=16\/k=17\/k=18\/k=19\/k=20:=VW
  refine .inr ?_;rcases f with rfl|rfl|rfl|rfl|rfl|rfl|rfl|rfl|rfl|rfl|rfl|rfl|rfl|rfl|rfl|rfl|rfl|rfl|rfl|rfl<;>exact⟨_,_,_,_,_,_,rfl,rfl,rfl,rfl,rfl,rfl,rfl⟩
def jg{k i:Int}{s:Ty}{j nf l:Nat}(h:Pf.node k i s j nf l=true){n ty:Bool}{a b c:Nat}(hs:Pf.sig k=some (n,ty,a,b,c)):(j:Int)=a/\(nf:Int)=b/\(l:Int)=c/\0<=i/\(n=false->i=0)/\(ty=true->s.err=0)/\(ty=false->s=.mk 0 []):=by
 unfold Pf.node at h;rw[hs] at h;simp only[fI,oc,rl] at h;obtain⟨⟨⟨⟨⟨t,u⟩,v⟩,o⟩,q⟩,d⟩:=h;refine⟨VW,VW,VW,o,λr=>q.resolve_left (by simp[r]),λf=>?_,λf=>?_⟩
 .rw[cS f] at d;simpa using d
 .rw[cO (by simp[f])] at d;exact(Ty.lj s).1 d
def Pf.w(p:Pf):p.ok=true->p.small=true->yQ p:=by
 induction p using Pf.ind with
 |h k i s ts G l ih=>
  intro y hs;rw[Pf.fX] at y;rw[Pf.yv] at hs;simp only[fI,jY] at y hs;obtain⟨⟨⟨n,A⟩,B⟩,C⟩:=y;obtain⟨⟨s1,s2⟩,D⟩:=hs;have u:∀t∈ts,t.err=0:=λt r=>Tm.pD (A t r) (by have:=s1 t r;simpa[Qn] using this)
  have v:∀f∈G,f.err=0:=λf r=>by
   have:=s2 f r;simp only[TC,oc] at this;unfold Fm.err;rw[cS (B f r),cO VW]
  have j:∀x∈l,yQ x:=λx r=>ih x r (C x r) (D x r);clear ih A B C s1 s2 D;have H:=abP (k:=k) (λhn=>by unfold Pf.node at n;rw[hn] at n;cases n);rcases H with rfl|rfl|rfl|rfl|rfl|rfl|rfl|rfl|rfl|rfl|rfl|rfl|rfl|rfl|rfl|rfl|rfl|rfl|rfl|rfl
  .obtain⟨q1,q2,q3,o,c,q,d⟩:=jg n rfl;obtain rfl:=fH.1 q1;obtain rfl:=fH.1 q2;obtain rfl:=fH.1 q3;obtain rfl:=d rfl;exact .hyp o
  .obtain⟨q1,q2,q3,o,c,q,d⟩:=jg n rfl;obtain rfl:=fH.1 q1;obtain rfl:=fH.1 q2;obtain rfl:=fH.1 q3;obtain rfl:=d rfl;exact .E0 o
  .obtain⟨q1,q2,q3,o,c,q,d⟩:=jg n rfl;obtain rfl:=fH.1 q1;obtain rfl:=fH.1 q2;obtain⟨a,b,rfl⟩:=pt q3;obtain rfl:=c rfl;obtain rfl:=d rfl;exact .HM (j a aaL) (j b aaL)
  .obtain⟨q1,q2,q3,o,c,q,d⟩:=jg n rfl;obtain rfl:=fH.1 q1;obtain rfl:=fH.1 q2;obtain⟨a,rfl⟩:=iB q3;obtain rfl:=c rfl;obtain rfl:=d rfl;exact .and (.inl rfl) (j a aaL)
  .obtain⟨q1,q2,q3,o,c,q,d⟩:=jg n rfl;obtain rfl:=fH.1 q1;obtain rfl:=fH.1 q2;obtain⟨a,rfl⟩:=iB q3;obtain rfl:=c rfl;obtain rfl:=d rfl;exact .and (.inr rfl) (j a aaL)
  .obtain⟨q1,q2,q3,o,c,q,d⟩:=jg n rfl;obtain rfl:=fH.1 q1;obtain⟨F,rfl⟩:=iB q2;obtain⟨a,rfl⟩:=iB q3;obtain rfl:=c rfl;obtain rfl:=d rfl;exact .KA (v F aaL) (j a aaL)
  .obtain⟨q1,q2,q3,o,c,q,d⟩:=jg n rfl;obtain rfl:=fH.1 q1;obtain rfl:=fH.1 q2;obtain⟨a,b,rfl⟩:=pt q3;obtain rfl:=c rfl;obtain rfl:=d rfl;exact .JX (j a aaL) (j b aaL)
  .obtain⟨q1,q2,q3,o,c,q,d⟩:=jg n rfl;obtain rfl:=fH.1 q1;obtain rfl:=fH.1 q2;obtain⟨a,rfl⟩:=iB q3;obtain rfl:=c rfl;exact .all (.inl rfl) (q rfl) (j a aaL)
  .obtain⟨q1,q2,q3,o,c,q,d⟩:=jg n rfl;obtain⟨t,rfl⟩:=iB q1;obtain rfl:=fH.1 q2;obtain⟨a,rfl⟩:=iB q3;obtain rfl:=c rfl;obtain rfl:=d rfl;exact .Vz (.inl rfl) (u t aaL) (j a aaL)
  .obtain⟨q1,q2,q3,o,c,q,d⟩:=jg n rfl;obtain⟨t,rfl⟩:=iB q1;obtain⟨F,rfl⟩:=iB q2;obtain⟨a,rfl⟩:=iB q3;obtain rfl:=c rfl;obtain rfl:=d rfl;exact .ex (.inl rfl) (u t aaL) (v F aaL) (j a aaL)
  .obtain⟨q1,q2,q3,o,c,q,d⟩:=jg n rfl;obtain rfl:=fH.1 q1;obtain rfl:=fH.1 q2;obtain⟨a,b,rfl⟩:=pt q3;obtain rfl:=c rfl;obtain rfl:=d rfl;exact .Vu (.inl rfl) (j a aaL) (j b aaL)
  .obtain⟨q1,q2,q3,o,c,q,d⟩:=jg n rfl;obtain rfl:=fH.1 q1;obtain rfl:=fH.1 q2;obtain⟨a,rfl⟩:=iB q3;obtain rfl:=c rfl;exact .all (.inr rfl) (q rfl) (j a aaL)
  .obtain⟨q1,q2,q3,o,c,q,d⟩:=jg n rfl;obtain⟨t,rfl⟩:=iB q1;obtain rfl:=fH.1 q2;obtain⟨a,rfl⟩:=iB q3;obtain rfl:=c rfl;obtain rfl:=d rfl;exact .Vz (.inr rfl) (u t aaL) (j a aaL)
  .obtain⟨q1,q2,q3,o,c,q,d⟩:=jg n rfl;obtain⟨t,rfl⟩:=iB q1;obtain⟨F,rfl⟩:=iB q2;obtain⟨a,rfl⟩:=iB q3;obtain rfl:=c rfl;obtain rfl:=d rfl;exact .ex (.inr rfl) (u t aaL) (v F aaL) (j a aaL)
  .obtain⟨q1,q2,q3,o,c,q,d⟩:=jg n rfl;obtain rfl:=fH.1 q1;obtain rfl:=fH.1 q2;obtain⟨a,b,rfl⟩:=pt q3;obtain rfl:=c rfl;obtain rfl:=d rfl;exact .Vu (.inr rfl) (j a aaL) (j b aaL)
  .obtain⟨q1,q2,q3,o,c,q,d⟩:=jg n rfl;obtain⟨t,rfl⟩:=iB q1;obtain⟨F,rfl⟩:=iB q2;obtain⟨a,b,rfl⟩:=pt q3;obtain rfl:=c rfl;obtain rfl:=d rfl;exact .ind (.inl rfl) (u t aaL) (v F aaL) (j a aaL) (j b aaL)
  .obtain⟨q1,q2,q3,o,c,q,d⟩:=jg n rfl;obtain⟨t,rfl⟩:=iB q1;obtain⟨F,rfl⟩:=iB q2;obtain⟨a,b,rfl⟩:=pt q3;obtain rfl:=c rfl;obtain rfl:=d rfl;exact .ind (.inr rfl) (u t aaL) (v F aaL) (j a aaL) (j b aaL)
  .obtain⟨q1,q2,q3,o,c,q,d⟩:=jg n rfl;obtain⟨t,rfl⟩:=iB q1;obtain rfl:=fH.1 q2;obtain rfl:=fH.1 q3;obtain rfl:=c rfl;obtain rfl:=d rfl;exact .refl (u t aaL)
  .obtain⟨q1,q2,q3,o,c,q,d⟩:=jg n rfl;obtain rfl:=fH.1 q1;obtain⟨F,rfl⟩:=iB q2;obtain⟨a,b,rfl⟩:=pt q3;obtain rfl:=c rfl;obtain rfl:=d rfl;exact .subst (v F aaL) (j a aaL) (j b aaL)
  .obtain⟨q1,q2,q3,o,c,q,d⟩:=jg n rfl;obtain rfl:=fH.1 q1;obtain rfl:=fH.1 q2;obtain⟨a,rfl⟩:=iB q3;obtain rfl:=c rfl;obtain rfl:=d rfl;exact .choice (j a aaL)
structure TR (d d':da) (s:Bool) (n:Nat):Prop where
 lo:d.ain<=d'.ain
 hi:d'.ain<=d.ain+n
 eq:s=true->d'.ain=d.ain+n
 ik:d'.ik=(d.ik||!s)
def TR.trans{d c a:da}{s f:Bool}{n n':Nat}(h:TR d c s n)(b:TR c a f n'):TR d a (s&&f) (n+n'):=by
 refine⟨by have:=h.lo;have:=b.lo;omega,by have:=h.hi;have:=b.hi;omega,λhs=>?_,?_⟩
 .rw[fI] at hs;have:=h.eq hs.1;have:=b.eq hs.2;omega
 .rw[b.ik,h.ik,Bool.not_and,Bool.or_assoc]
def wZ{α:Type}{F:Int->α->da->Option (dW da (Bool×da))}(ok small:α->Bool)(sz:α->Nat):∀(l:List α) (i:Nat) (d:da),0<=d.ain->d.ain+db sz l<=4000000000->(∀(j:Int) (x:α) (d:da),x∈l->0<=d.ain->d.ain+sz x<=4000000000->if ok x then∃a,F j x d=some (.next a)/\TR d a (small x) (sz x)else∃a,F j x d=some (.ret (false,a)))->if l.all ok then∃a,dF F l i d=some (.inl a)/\TR d a (l.all small) (db sz l)else∃a,dF F l i d=some (.inr (false,a))
 |[],i,d,_,_,_=>⟨d,rfl,⟨VW,by simp[db],λ_=>by simp[db],aaL⟩⟩|x::l,i,d,o,q,h=>by
  simp only[db] at q;have b:=h i x d aaL o VW;rw[AX]
  by_cases c:ok x=true
  .rw[cS c] at b;obtain⟨d1,f,k⟩:=b;have ih:=wZ ok small sz l (i+1) d1 (by have:=k.lo;omega) (by have:=k.hi;omega) (λj y d hy=>h j y d (by simp[hy]));rw[dB,f];simp only[cv,dR,db]
   by_cases n:l.all ok=true
   .rw[cS n] at ih;obtain⟨d2,r,s⟩:=ih;rw[cS (by rw[fI];exact⟨c,n⟩)];exact⟨d2,r,k.trans s⟩
   .grind
  .rw[cO c] at b;obtain⟨d1,f⟩:=b;rw[cO (by rw[fI];exactλh=>c h.1),dB,f];exact⟨d1,rfl⟩
def I2{d:da}{n e:Int}(a:-1000000000000<=d.ain+n)(b:d.ain+n<=1000000000000):gi d n e=some (dx e 2,⟨d.ain+n,d.ik||dj e 4⟩):=by
 unfold gi;rw[dP VW VW];cases d.ik<;>rfl
def Tm.C8(t:Tm):t.err=2/\t.ok=false\/t.ok=true/\Qn t=true/\t.err=0\/t.ok=true/\Qn t=false/\t.err=4:=by
 unfold Tm.err Qn;cases h:t.ok with
 |false=>grind|true=>grind
def Fm.C8(t:Fm):t.err=2/\t.ok=false\/t.ok=true/\TC t=true/\t.err=0\/t.ok=true/\TC t=false/\t.err=4:=by
 unfold Fm.err TC;cases h:t.ok with
 |false=>grind|true=>grind
def Gi{sz:Nat}{e:Int}{ok small:Bool}(c:e=2/\ok=false\/ok=true/\small=true/\e=0\/ok=true/\small=false/\e=4)(hs:sz<=1000000000){d:da}(f:0<=d.ain)(i:d.ain+sz<=4000000000):if ok then∃b,(cW (gi d (if e=0 then(sz:Int)else 0) e) λa d179=>if a then some (.next d179)else some ((.ret (false,d179)):dW da (Bool×da)))=some (.next b)/\TR d b small sz else∃b,(cW (gi d (if e=0 then(sz:Int)else 0) e) λa d179=>if a then some (.next d179)else some ((.ret (false,d179)):dW da (Bool×da)))=some (.ret (false,b)):=by
 rcases c with⟨rfl,rfl⟩|⟨rfl,rfl,rfl⟩|⟨rfl,rfl,rfl⟩
 .exact⟨_,rfl⟩
 .rw[cS rfl,cS rfl,I2 VW VW,cN,cS aaB];refine⟨_,rfl,⟨?_,?_,λ_=>rfl,?_⟩⟩
  all_goals grind[dj]
 .rw[cS rfl,cO aaB,I2 VW VW,cN,cS aaB];refine⟨_,rfl,⟨?_,?_,λh=>by(cases h),?_⟩⟩
  all_goals grind[dj]
def GK{h:Bool}{i a b c d nf f:Int}:en true (en (qT i 0) true (en (dx i 0) (en h (en (dx d a) true (en (dx nf b) true (dx f c))) true) (en (dx d a) true (en (dx nf b) true (dx f c))))) true=true↔¬(d=a/\nf=b/\f=c/\0<=i/\(h=true\/i=0)):=by
 grind[BH,kP,dx,zt,km]
def Gd{d:Bool}{i a b c f nf h:Int}:en true (en (dx f a) true (en (dx nf b) true (en (dx h c) true (en (qT i 0) true (en d false (dx i 0)))))) true=true↔¬(f=a/\nf=b/\h=c/\0<=i/\(d=true\/i=0)):=by
 cases d with
 |true=>
  grind[BH,kP,km,c_]
 |false=>grind[BH,zt,kP,km,c_]
def TB(ty:Bool)(s:Ty):Bool:=if ty then decide (s.err=0)else s.qE
theorem Fi{k i:Int}{s:Ty}{d nf f:Nat}{h ty:Bool}{a b c:Nat}(hs:Pf.sig k=some (h,ty,a,b,c)):Pf.node k i s d nf f=true↔((d:Int)=a/\(nf:Int)=b/\(f:Int)=c/\0<=i/\(h=true\/i=0))/\TB ty s=true:=by
 grind[Pf.node,TB]
def TG(d:da)(A s:Bool)(n:Nat)(o:Option (Bool×da)):Prop:=(A=true->∃a,o=some (true,a)/\TR d a s n)/\(A=false->∃a,o=some (false,a))
theorem TG.no{d a:da}{A s:Bool}{n:Nat}(h:A=false):TG d A s n (some (false,a)):=⟨λb=>(by rw[h] at b;cases b),λ_=>⟨a,rfl⟩⟩
def RW(n:Nat)(d:da)(k i:Int)(s:Ty)(ts:List Tm)(j:List Fm)(l:List Pf):ir (n+1) d (.mk k i s ts j l)=(cW (lb k) λf L=>
 if(en L (en (qT i 0) true (en (dx i 0) (en f.aio (en (dx (dp ts) f.dc) true (en (dx (dp j) f.eh) true (dx (dp l) f.aim))) true) (en (dx (dp ts) f.dc) true (en (dx (dp j) f.eh) true (dx (dp l) f.aim))))) true) then(
 some (false,d))
 else(de (λ(v26:da)=>
 e_ (dE ts)<|de (λ(M:Int) (G:Tm)=>(λ(a:da)=>
 cW (jH G) λo q=>
 cW (gi a o q) λt d179=>
 if t then(
 some (.next d179))
 else(some (.ret (false,d179)))):Int->Tm->(da)->(Option (dW (da) (Bool×da)))) λu=>
 cM (dF u ts 0 v26) (eB (λ(a:da)=>
 e_ (dE j)<|de (λ(J:Int) (v:Fm)=>(λ(b:da)=>
 cW (hD v) λw x=>
 cW (gi b w x) λy d322=>
 if y then(
 some (.next d322))
 else(some (.ret (false,d322)))):Int->Fm->(da)->(Option (dW (da) (Bool×da)))) λA=>
 cM (dF A j 0 a) (eB (λ(b:da)=>
 e_ (dE l)<|de (λ(K:Int) (B:Pf)=>(λ(c:da)=>
 cW (ir n c B) λC h=>
 if C then(
 some (.next h))
 else(some (.ret (false,h)))):Int->Pf->(da)->(Option (dW (da) (Bool×da)))) λD=>
 cM (dF D l 0 b) (eB (λ(c:da)=>
 some (true,c)) (λr=>some r))) (λr=>some r))) (λr=>some r))) λF=>
 if f.typed then(
 cW (hY s) λN H=>
 if(dx H 0) then(
 some (false,(da.mk (dJ .i64 d.ain 1) d.ik)))
 else(F (da.mk (dJ .i64 d.ain 1) d.ik)))
 else(cM (nq s) λI=>
 if I then(
 F (da.mk (dJ .i64 d.ain 1) d.ik))
 else(some (false,(da.mk (dJ .i64 d.ain 1) d.ik)))))):=by
 rw[ir];rfl
def UW:∀(n:Nat) (P:Pf) (d:da),P.wt<=n->P.wt<=1000000000->0<=d.ain->d.ain+P.ain<=4000000000->TG d P.ok P.small P.ain (ir n d P):=by
 intro n
 induction n with
 |zero=>intro P d h;have:=P.gM;omega
 |succ n ih=>
  intro P d hn hb h0 hd;cases P with
  |mk k i s ts v l=>
   rw[Pf.ef] at hn hb;rw[Pf.cQ] at hd|-;have af:=fR Tm.wt ts λt _=>t.gM;have ah:=fR Fm.wt v λt _=>t.gM;have ai:=fR Pf.wt l λt _=>t.gM;have m1:=jB (l:=ts) (λx _=>Tm.gH x);have m2:=jB (l:=v) (λx _=>Fm.gH x);have m3:=jB (l:=l) (λx _=>Pf.gH x);rw[Pf.fX,Pf.yv,RW];rcases JP k with⟨N,r,Q⟩|⟨ix,ty,a,b,c,r,N,Q,g1,g2,g3,g4,g5⟩
   .rw[Q,cN,zt,cS rfl];exact TG.no (by simp[Pf.node,N])
   .rw[Q,cN,g1,g2,g3,g4,g5,ee,ee,ee]
    by_cases O:(ts.length:Int)=a/\(v.length:Int)=b/\(l.length:Int)=c/\0<=i/\(ix=true\/i=0)
    .rw[cO (λh=>GK.1 h O)]
     have w:Pf.node k i s ts.length v.length l.length=TB ty s:=by
      rw[Dr,Fi N];exact⟨λh=>h.2,λh=>⟨O,h⟩⟩
     rw[w];cases f:TB ty s with
     |false=>
      have e:∀j:da->Option (Bool×da),(if ty then cW (hY s) λak R=>if(dx R 0) then some (false,(da.mk (dJ .i64 d.ain 1) d.ik))else j (da.mk (dJ .i64 d.ain 1) d.ik)else cM (nq s) λS=>if S then j (da.mk (dJ .i64 d.ain 1) d.ik)else some (false,(da.mk (dJ .i64 d.ain 1) d.ik)))=some (false,(da.mk (dJ .i64 d.ain 1) d.ik)):=by grind[TB,dx,c_,kH,cN,rB,cv]
      refine pz (λ_=>False) (λ_ h=>h.elim) (λj _=>?_);rw[e j];exact TG.no aaL
     |true=>
      refine pz (λd1=>d1.ain=d.ain+1/\d1.ik=d.ik) (λd1 o=>?_) (λj hj=>?_)
      .have t1:=wZ (F:=λ(an:Int) (T:Tm)=>(λ(y:da)=>cW (jH T) λA B=>cW (gi y A B) λC d179=>if C then some (.next d179)else some (.ret (false,d179)))) Tm.ok Qn Tm.ain ts 0 d1 VW VW (λj x d q q0 q1=>by
        have:=dk Tm.wt q;have:=x.gH;rw[rz VW,cN]
        exact Gi x.C8 VW q0 q1)
       rw[c8 VW,cY,c6];cases a1:ts.all Tm.ok with
       |false=>
        rw[a1,cO aaB] at t1;obtain⟨d2,U⟩:=t1;rw[U,cv,oG];exact TG.no aaL
       |true=>
        rw[a1,cS rfl] at t1;obtain⟨d2,U,V⟩:=t1;have u1:=V.lo;have u2:=V.hi;rw[U,cv,dh,c8 VW,cY,c6]
        have t2:=wZ (F:=λ(ad:Int) (D:Fm)=>(λ(G:da)=>cW (hD D) λH I=>cW (gi G H I) λJ d322=>if J then some (.next d322)else some (.ret (false,d322)))) Fm.ok TC Fm.ain v 0 d2 VW VW (λj x d q q0 q1=>by
         have:=dk Fm.wt q;have:=x.gH;rw[oN VW,cN]
         exact Gi x.C8 VW q0 q1)
        cases a2:v.all Fm.ok with
        |false=>
         rw[a2,cO aaB] at t2;obtain⟨d3,W⟩:=t2;rw[W,cv,oG];exact TG.no aaL
        |true=>
         rw[a2,cS rfl] at t2;obtain⟨d3,W,X⟩:=t2;have u3:=X.lo;have u4:=X.hi;rw[W,cv,dh,c8 VW,cY,c6]
         have t3:=wZ (F:=λ(ae:Int) (K:Pf)=>(λ(L:da)=>cW (ir n L K) λM u=>if M then some (.next u)else some (.ret (false,u)))) Pf.ok Pf.small Pf.ain l 0 d3 VW VW (λj x d q q0 q1=>by
          have:=dk Pf.wt q;have:=dk Pf.ain q;have:=x.gH;have q:=ih x d VW VW q0 VW;cases ho:x.ok with
          |true=>
           obtain⟨Y,Z,w2⟩:=q.1 ho;rw[cS rfl,Z,cN,cS rfl];exact⟨Y,rfl,w2⟩
          |false=>
           obtain⟨Y,Z⟩:=q.2 ho;rw[cO aaB,Z,cN,cO aaB]
           exact⟨Y,rfl⟩)
         cases a3:l.all Pf.ok with
         |false=>
          rw[a3,cO aaB] at t3;obtain⟨d4,e4⟩:=t3;rw[e4,cv,oG];exact TG.no aaL
         |true=>
          rw[a3,cS rfl] at t3;obtain⟨d4,e4,r4⟩:=t3;rw[e4,cv,dh];refine⟨λ_=>⟨d4,rfl,?_⟩,λh=>by simp at h⟩;have r0:TR d d1 true 1:=⟨VW,VW,λ_=>by omega,by simp[o.2]⟩;have:=((r0.trans V).trans X).trans r4;rw[yg] at this;exact this
      .have o:=hj (da.mk (dJ .i64 d.ain 1) d.ik) ⟨by show dJ .i64 d.ain 1=_;rw[dP VW VW],rfl⟩;unfold TB at f
       by_cases ht:ty=true
       .rw[cS ht] at f|-
        have hz:¬dx s.err 0=true:=by rw[c_];simpa using f
        rw[kH VW,cN,cO hz];exact o
       .rw[cO ht] at f|-;rw[rB,cv,f,cS rfl];exact o
    .rw[cS (GK.2 O)];refine TG.no ?_
     have:Pf.node k i s ts.length v.length l.length=false:=by
      rw[Nb]
      exactλh=>O ((Fi N).1 h).1
     rw[this];simp
def yn{P:Pf}(h:P.wt<=1000000000):qv P=some P.err:=by
 have hn:=P.gH;have b:=UW FU P (da.mk 0 false) (by rw[d_];omega) h (by show(0:Int)<=0;omega) (by show(0:Int)+_<=_;omega);unfold qv p9 Pf.err;cases c:P.ok with
 |false=>
  obtain⟨a,e⟩:=b.2 c
  grind[cN]
 |true=>
  obtain⟨a,e,r⟩:=b.1 c;rw[e,cN,cS rfl,cS rfl];have d:a.ik=!P.small:=r.ik;rw[d,kP];cases hs:P.small with
  |false=>grind[cN]|true=>
   have f:a.ain=(0:Int)+P.ain:=r.eq hs
   grind[fx,cN]
def Rp(n:Nat)(k i:Int)(s:Ty)(ts:List Tm)(o:List Fm)(l:List Pf):ng (n+1) (.mk k i s ts o l)=(cW (pj k) λb A=>
 if(en A (en (dx (dp ts) b.dc) true (en (dx (dp o) b.eh) true (en (dx (dp l) b.aim) true (en (qT i 0) true (en b.aio false (dx i 0)))))) true) then(
 some false)
 else(de (λ(v33:Bool)=>
 if v33 then(
 some false)
 else(e_ (dE ts)<|de (λ(B:Int) (q:Tm)=>(λ(_:Unit)=>
 cM (jQ FU q) λt=>
 if t then(
 some (.next ()))
 else(some (.ret false))):Int->Tm->(Unit)->(Option (dW (Unit) (Bool)))) λu=>
 cM (dF u ts 0 ()) (eB (λ(_:Unit)=>
 e_ (dE o)<|de (λ(C:Int) (v:Fm)=>(λ(_:Unit)=>
 cM (k_ FU v) λc=>
 if c then(
 some (.next ()))
 else(some (.ret false))):Int->Fm->(Unit)->(Option (dW (Unit) (Bool)))) λd=>
 cM (dF d o 0 ()) (eB (λ(_:Unit)=>
 e_ (dE l)<|de (λ(y:Int) (f:Pf)=>(λ(_:Unit)=>
 cM (ng n f) λh=>
 if h then(
 some (.next ()))
 else(some (.ret false))):Int->Pf->(Unit)->(Option (dW (Unit) (Bool)))) λj=>
 cM (dF j l 0 ()) (eB (λ(_:Unit)=>
 some true) (λr=>some r))) (λr=>some r))) (λr=>some r)))) λa=>
 if b.oB then(
 cM (hU s) λw=>
 if(dx w 0) then(
 a true)
 else(a false))
 else(cM (oU s) λx=>
 a (pL x)))):=by
 rw[ng];rfl
def FD:∀(n:Nat) (P:Pf),P.wt<=n->P.wt<=1000000000->ng n P=some P.ok:=by
 intro n
 induction n with
 |zero=>intro P h;have:=P.gM;omega
 |succ n ih=>
  intro P hn C;cases P with
  |mk k i s ts q l=>
   rw[Pf.ef] at hn C;have D:=fR Tm.wt ts λt _=>t.gM;have F:=fR Fm.wt q λt _=>t.gM;have H:=fR Pf.wt l λt _=>t.gM;rw[Pf.fX,Rp];rcases OM k with⟨y,r,A⟩|⟨I,ty,a,b,c,r,y,A,g1,g2,g3,g4,g5⟩
   .rw[A,cN,zt,cS rfl];simp[Pf.node,y]
   .rw[A,cN,g1,g2,g3,g4,g5,ee,ee,ee]
    by_cases B:(ts.length:Int)=a/\(q.length:Int)=b/\(l.length:Int)=c/\0<=i/\(I=true\/i=0)
    .rw[cO (λh=>Gd.1 h B)]
     have f:Pf.node k i s ts.length q.length l.length=TB ty s:=by
      rw[Dr,Fi y];exact⟨λh=>h.2,λh=>⟨B,h⟩⟩
     rw[f];refine pz (G:=λo=>o=some (TB ty s&&ts.all Tm.ok&&q.all Fm.ok&&l.all Pf.ok)) (λv=>v=!TB ty s) (λv J=>?_) (λj K=>?_)
     .rw[J];cases TB ty s with
      |false=>rfl|true=>
       rw[cO aaB,c8 VW,cY,c6,p8 Tm.ok false ts 0 (λj x w=>by
        have:=dk Tm.wt w
        rw[w9 VW,cv]),yg]
       cases ts.all Tm.ok with
       |false=>rfl|true=>
        rw[cS rfl,cv,dh,c8 VW,cY,c6,p8 Fm.ok false q 0 (λj x w=>by
         have:=dk Fm.wt w
         rw[zd FU x (by rw[d_];omega) VW,cv]),yg]
        cases q.all Fm.ok with
        |false=>rfl|true=>
         rw[cS rfl,cv,dh,c8 VW,cY,c6,p8 Pf.ok false l 0 (λj x w=>by
          have:=dk Pf.wt w
          rw[ih x VW VW,cv]),yg]
         cases l.all Pf.ok with
         |false=>rfl|true=>rfl
     .have d:=K (!TB ty s) rfl;unfold TB at d|-
      by_cases u:ty=true
      .rw[cS u] at d;rw[cS u,cS u,lC VW,cv]
       grind[dx,c_]
      .rw[cO u] at d;rw[cO u,cO u,vw,cv,QP];exact d
    .rw[cS (Gd.2 B)]
     grind[Pf.node,Fi]
def yj:∀(n:Nat) (P:Pf),P.wt<=n->P.wt<=1000000000->qR n P=some P.small:=by
 intro n
 induction n with
 |zero=>intro P h;have:=P.gM;omega
 |succ n ih=>
  intro P hn c;cases P with
  |mk k i s ts b l=>
   rw[Pf.ef] at hn c;have d:=fR Tm.wt ts λt _=>t.gM;have f:=fR Fm.wt b λt _=>t.gM;have o:=fR Pf.wt l λt _=>t.gM;rw[Pf.yv,qR];simp only[Pf.gl,Pf.Fy,Pf.di,c6]
   rw[c8 VW,cY,p8 Qn false ts 0 (λj x a=>by
    have:=dk Tm.wt a;have:=x.gH;rw[mR FU x (by rw[d_];omega) VW,cv]
    by_cases hs:x.ain<=4096
    .grind[fx,Qn]
    .rw[cS (by rw[fx];omega),cO (by simpa[Qn] using hs)])]
   cases ts.all Qn with
   |false=>rfl|true=>
    rw[cS rfl,cv,dh,c8 VW,cY,p8 TC false b 0 (λj x a=>by
     have:=dk Fm.wt a;have:=x.gH;rw[rn FU x (by rw[d_];omega) VW,cv]
     by_cases hs:x.ain<=4096
     .rw[cO (by rw[fx];omega),cS (show TC x=true from vF hs)]
     .rw[cS (by rw[fx];omega),cO (by simpa[TC] using hs)]),yg]
    cases b.all TC with
    |false=>rfl|true=>
     rw[cS rfl,cv,dh,c8 VW,cY,p8 Pf.small false l 0 (λj x a=>by
      have:=dk Pf.wt a
      rw[ih x VW VW,cv]),yg]
     cases l.all Pf.small with
     |false=>rfl|true=>rfl
theorem yG:∀(n:Nat) (P:Pf),P.wt<=n->P.wt<=1000000000->qw n P=some (P.ain:Int):=by
 intro n
 induction n with
 |zero=>intro P h;have:=P.gM;omega
 |succ n ih=>
  intro P hn c;cases P with
  |mk k i s ts b l=>
   rw[Pf.ef] at hn c;have d:=fR Tm.wt ts λt _=>t.gM;have f:=fR Fm.wt b λt _=>t.gM;have o:=fR Pf.wt l λt _=>t.gM;have m1:=jB (l:=ts) (λx _=>Tm.gH x);have m2:=jB (l:=b) (λx _=>Fm.gH x);have m3:=jB (l:=l) (λx _=>Pf.gH x);rw[Pf.cQ,qw];simp only[Pf.gl,Pf.Fy,Pf.di,c6]
   rw[c8 VW,cY,show(1:Int)=((1:Nat):Int)from rfl,oC Tm.ain ts 0 1 VW (λj x v a=>by
    have:=dk Tm.wt a;have:=x.gH
    rw[mR FU x (by rw[d_];omega) VW,cv]),cv,dh,c8 VW,cY,oC Fm.ain b 0 _ VW (λj x v a=>by
    have:=dk Fm.wt a;have:=x.gH
    rw[rn FU x (by rw[d_];omega) VW,cv]),cv,dh,c8 VW,cY,oC Pf.ain l 0 _ VW (λj x v a=>by
    have:=dk Pf.wt a
    rw[ih x VW VW,cv]),cv,dh]
def uf{P:Pf}(h:P.wt<=1000000000):np P=some P.err:=by
 unfold np sh Pf.err;rw[FD FU P (by rw[d_];omega) h,cv];cases P.ok with
 |false=>rfl|true=>
  rw[cS rfl,cS rfl,c6,yj FU P (by rw[d_];omega) h,cv];cases P.small with
  |false=>rfl|true=>grind[yG,FU,d_,cv,E7]
def Pf.aav{P:Pf}(h:P.err=0):yQ P/\P.ain<=16384:=by
 unfold Pf.err at h;cases b:P.ok with
 |false=>grind|true=>
  by_cases a:P.small=true/\P.ain<=16384
  .exact⟨P.w b a.1,a.2⟩
  .grind
end Go.eU
