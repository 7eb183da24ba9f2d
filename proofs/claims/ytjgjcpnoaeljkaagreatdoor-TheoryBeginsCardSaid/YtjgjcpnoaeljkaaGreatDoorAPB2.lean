/- Part of the proof of TheoryBegins: plain facts. -/
import Derived.Test.YtjgjcpnoaeljkaaGreatDoorAPB1
set_option linter.all false
namespace Go.eZ
open Go
mutual
noncomputable def Fm.uJ:Fm->List Ty->Int
 |.mk k s ts l,g=>if eD (ts.map λt=>nQ t g 1)=0 then Fm.U3 l (if jB k then g++[s] else g)else eD (ts.map λt=>nQ t g 1)
noncomputable def Fm.U3:List Fm->List Ty->Int
 |[],_=>0|f::l,g=>if f.uJ g=0 then Fm.U3 l g else f.uJ g
end
def Fm.Rr(g:List Ty):∀l:List Fm,Fm.U3 l g=eD (l.map λf=>f.uJ g)
 |[]=>by rw[Fm.U3];rfl|f::l=>by rw[Fm.U3,Fm.Rr g l];rfl
def Fm.th(k:Int)(s:Ty)(ts:List Tm)(l:List Fm)(g:List Ty):(Fm.mk k s ts l).uJ g=if eD (ts.map λt=>nQ t g 1)=0 then eD (l.map λf=>f.uJ (if jB k then g++[s] else g))else eD (ts.map λt=>nQ t g 1):=by
 rw[Fm.uJ,Fm.Rr]
def yp{t:Tm}{g:List Ty}(a:t.ok=true)(hn:t.aiw<=4096)(hg:gR g)(b:g.length<=900000):oM g t=some (t.ty g):=by
 unfold oM;have hw:=t.hI a;rw[lK VW]
 have he:t.err=0:=by unfold Tm.err;rw[cS a,cO VW]
 rw[he];simp only[cv];rw[cO ab9,zl FU t (by have:=dY;omega) a g hg VW];rfl
def JJ{t:Tm}{g:List Ty}(f:t.ok=true)(hn:t.aiw<=4096)(hg:gR g)(i:g.length<=900000):(cW (oM g t) λd a=>if(dw a 0) then(some (.ret a))else(if(dw d.aiu 1) then(some (.ret 7))else(some (.next ()))):Option (dV Unit Int))=
   if nQ t g 1≠0 then some (.ret (nQ t g 1))else some (.next ()):=by
 rw[yp f hn hg i];unfold nQ;generalize t.ty g=q;obtain⟨r,e⟩:=q;simp only[cN,c9]
 by_cases b:e=0
 .subst b
  by_cases c:r.aiu=1
  .rw[cO acZ,cO (by simp[c]),cO (show¬((0:Int)=0/\r.aiu≠1)fromλh=>h.2 c),cO acZ]
  .rw[cO acZ,cS c,cS (show(0:Int)=0/\r.aiu≠1 from⟨rfl,c⟩),cS ab9]
 .rw[cS b,cO (show¬(e=0/\r.aiu≠1)fromλh=>b h.1),cS b]
def rW{e:Int}:(cM (some e) λa=>if(dw a 0) then(some (.ret a))else(some (.next ())):Option (dV Unit Int))=if e≠0 then some (.ret e)else some (.next ()):=by
 rw[cv]
 by_cases h:e=0
 .subst h;rfl
 .rw[cS (by simpa[dw] using h),cS h]
def ub{l:List Int}{k:Unit⊕Int->Option Int}(h:k=eE (λ_=>some 0) (λr=>some r)):cM (if eD l=0 then some (.inl ())else some (.inr (eD l))) k=some (eD l):=by
 subst h
 by_cases h:eD l=0
 .rw[cS h,h];rfl
 .rw[cO h];rfl
def yY(f:Fm)(w:f.ok=true):∀n,f.aiw<=n->∀g,gR g->g.length+f.aiw<=900000->f.aiw<=4096->mg n g f=some (f.uJ g):=by
 refine Fm.nW (p:=λf=>∀n,f.aiw<=n->∀g,gR g->g.length+f.aiw<=900000->f.aiw<=4096->mg n g f=some (f.uJ g)) ?_ ?_ ?_ f w
 .intro a b o v n hn g hg c d;rw[Fm.cQ] at hn c d;simp only[db] at hn c d;obtain⟨n,rfl⟩:∃m,n=m+1:=⟨n-1,VW⟩;rw[mg,Fm.th];simp only[c6,Fm.gf,Fm.dh,Fm.dn,k4,cv]
  rw[c8 acZ,cY,kh (λt=>nQ t g 1) [a,b] 0 (λj x i=>by
   simp only[j8,SG,s9] at i;rcases i with rfl|rfl
   .exact JJ o VW hg VW
   .exact JJ v VW hg VW)]
  rw[show jB 1=false from rfl]
  by_cases h:eD ([a,b].map λt=>nQ t g 1)=0
  .rw[cS h,cS h];rfl
  .rw[cO h,cO h];rfl
 .intro k a b q o v l r n hn g hg c d;rw[Fm.cQ] at hn c d;simp only[db] at hn c d;obtain⟨n,rfl⟩:∃m,n=m+1:=⟨n-1,VW⟩
  have u:jB k=false:=by rcases q with rfl|rfl<;>rfl
  rw[mg,Fm.th];simp only[c6,Fm.gf,Fm.dh,Fm.dn,k4,cv,u,Na,eD]
  rw[c8 acZ,cY,nY,cv,dk,cO ab9,cS trivial,c8 acZ,cY,kh (λf=>f.uJ g) [a,b] 0 (λj x i=>by
   simp only[j8,SG,s9] at i;rcases i with rfl|rfl
   .rw[l n VW g hg VW VW];exact rW
   .rw[r n VW g hg VW VW];exact rW)]
  exact ub rfl
 .intro k s a q hs o l n hn g hg c d;rw[Fm.cQ] at hn c d;simp only[db] at hn c d;obtain⟨n,rfl⟩:∃m,n=m+1:=⟨n-1,VW⟩
  have u:jB k=true:=by rcases q with rfl|rfl|rfl|rfl<;>rfl
  rw[mg,Fm.th];simp only[c6,Fm.gf,Fm.dh,Fm.dn,Fm.dU,k4,cv,u,Na,eD];rw[c8 acZ,cY,nY,cv,dk];simp only[if_true]
  rw[dS ado,cY,fj,c8 acZ,cY,kh (λf=>f.uJ (g++[s])) [a] 0 (λj x i=>by
   simp only[j8,SG,s9] at i;subst i
   rw[l n VW (g++[s]) (hg.app hs) ado VW];exact rW)]
  exact ub rfl
def rm{g:List Ty}{s:Ty}(hs:s.err=0)(a:g.length<=900000):fk (g.map rT) [s]=some ((g++[s]).map rT):=by
 unfold fk nr;simp only[c6];rw[c8 acZ,cY,dJ,kq hs];simp only[cv];rw[dS acZ,cY];simp only[cv,dQ,nY,dk,fj,oE];rw[dS ado,cY,yv]
def D2{t:Tm}{g:List Ty}(b:t.ok=true)(hn:t.aiw<=4096)(hg:gR g)(c:g.length<=900000):(cM (gw (g.map rT) t) λa=>if(dw a 0) then(some (.ret a))else(some (.next ())):Option (dV Unit Int))=if nQ t g 1≠0 then some (.ret (nQ t g 1))else some (.next ()):=by
 rw[wE b hg VW];exact rW
def vj(f:Fm)(C:f.ok=true):∀n,f.aiw<=n->∀g,gR g->g.length+f.aiw<=900000->f.aiw<=4096->dC n (g.map rT) f=some (f.uJ g):=by
 refine Fm.nW (p:=λf=>∀n,f.aiw<=n->∀g,gR g->g.length+f.aiw<=900000->f.aiw<=4096->dC n (g.map rT) f=some (f.uJ g)) ?_ ?_ ?_ f C
 .intro a b v A n hn g hg c d;rw[Fm.cQ] at hn c d;simp only[db] at hn c d;obtain⟨n,rfl⟩:∃m,n=m+1:=⟨n-1,VW⟩;rw[dC,Fm.th];simp only[c6,Fm.gf,Fm.dh]
  rw[cO acZ,cO acZ,cO acZ,c8 acZ,cY,kh (λt=>nQ t g 1) [a,b] 0 (λj x i=>by
   simp only[j8,SG,s9] at i;rcases i with rfl|rfl
   .exact D2 v VW hg VW
   .exact D2 A VW hg VW)]
  rw[ub rfl]
  by_cases h:eD ([a,b].map λt=>nQ t g 1)=0
  .rw[cS h,h];rfl
  .rw[cO h]
 .intro k a b o v A q w n hn g hg c d;rw[Fm.cQ] at hn c d;simp only[db] at hn c d;obtain⟨n,rfl⟩:∃m,n=m+1:=⟨n-1,VW⟩
  have y:jB k=false:=by rcases o with rfl|rfl<;>rfl
  have D:ep (dj k 4) true (dj k 5)=false:=by rcases o with rfl|rfl<;>rfl
  have k2:ep (dj k 6) true (dj k 7)=false:=by rcases o with rfl|rfl<;>rfl
  have F:ep (dj k 2) true (dj k 3)=true:=by rcases o with rfl|rfl<;>rfl
  rw[dC,Fm.th];simp only[c6,Fm.gf,Fm.dh,y,Na,eD];rw[cO (by simp only[Fm.dn,D];decide),cO (by simp only[Fm.dn,k2];decide),cS (by simp only[Fm.dn,F])];simp only[if_true,oo,lS]
  rw[c8 acZ,cY,kh (λf=>f.uJ g) [a,b] 0 (λj x i=>by
   simp only[j8,SG,s9] at i;rcases i with rfl|rfl
   .rw[q n VW g hg VW VW];exact rW
   .rw[w n VW g hg VW VW];exact rW)]
  exact ub rfl
 .intro k s a o hs v q n hn g hg c d;rw[Fm.cQ] at hn c d;simp only[db] at hn c d;obtain⟨n,rfl⟩:∃m,n=m+1:=⟨n-1,VW⟩
  have y:jB k=true:=by rcases o with rfl|rfl|rfl|rfl<;>rfl
  rw[dC,Fm.th];simp only[c6,Fm.gf,Fm.dh,Fm.dU,y,Na,eD,rm hs (show g.length<=900000 by omega),cv,if_true]
  have fin:(fa (dE [a])<|cM (dH (λ(B:Int) (u:Fm)=>(λ(_:Unit)=>
    cM (dC n ((g++[s]).map rT) u) λl=>
    if(dw l 0) then(
    some (.ret l))
    else(some (.next ()))):Int->Fm->(Unit)->(Option (dV (Unit) (Int)))) [a] 0 ()) (eE (λ(_:Unit)=>some 0) (λr=>some r)))=some (eD ([a].map λf=>f.uJ (g++[s]))):=by
   rw[c8 acZ,cY,kh (λf=>f.uJ (g++[s])) [a] 0 (λj x i=>by
    simp only[j8,SG,s9] at i;subst i
    rw[q n VW (g++[s]) (hg.app hs) ado VW];exact rW)]
   exact ub rfl
  rcases o with rfl|rfl|rfl|rfl
  .rw[cS acZ];exact fin
  .rw[cS acZ];exact fin
  .rw[cO acZ,cS acZ];exact fin
  .rw[cO acZ,cS acZ];exact fin
mutual
def Fm.up(f b:Int):Fm->Fm
 |.mk k s ts l=>.mk k s (ts.map (Tm.up f b)) (Fm.YW (f+qB k) b l)
def Fm.YW(f b:Int):List Fm->List Fm
 |[]=>[]|t::l=>t.up f b::Fm.YW f b l
end
def Fm.Ql(f b:Int)(l:List Fm):Fm.YW f b l=l.map (Fm.up f b):=by
 induction l with
 |nil=>rfl|cons t l ih=>simp[Fm.YW,ih]
def Fm.kO(f b k:Int)(s:Ty)(ts:List Tm)(l:List Fm):(Fm.mk k s ts l).up f b=.mk k s (ts.map (Tm.up f b)) (l.map (Fm.up (f+qB k) b)):=by rw[Fm.up,Fm.Ql]
mutual
def Fm.aiA(m:Int):Fm->Bool
 |.mk _ _ ts l=>ts.all (Tm.aiA m)&&Fm.tj m l
def Fm.tj(m:Int):List Fm->Bool
 |[]=>true|t::l=>t.aiA m&&Fm.tj m l
end
def Fm.Dg(m:Int)(l:List Fm):Fm.tj m l=l.all (Fm.aiA m):=by
 induction l with
 |nil=>rfl|cons t l ih=>simp[Fm.tj,ih]
theorem Fm.ez(m k:Int)(s:Ty)(ts:List Tm)(l:List Fm):(Fm.mk k s ts l).aiA m=(ts.all (Tm.aiA m)&&l.all (Fm.aiA m)):=by rw[Fm.aiA,Fm.Dg]
mutual
def Fm.aiC(a:Int):Fm->Nat
 |.mk k _ ts l=>db (Tm.aiC a) ts+Fm.xF (a+qB k) l
def Fm.xF(a:Int):List Fm->Nat
 |[]=>0|t::l=>t.aiC a+Fm.xF a l
end
def Fm.Dt(a:Int)(l:List Fm):Fm.xF a l=db (Fm.aiC a) l:=by
 induction l with
 |nil=>rfl|cons t l ih=>simp[Fm.xF,db,ih]
def Fm.fB(a k:Int)(s:Ty)(ts:List Tm)(l:List Fm):(Fm.mk k s ts l).aiC a=db (Tm.aiC a) ts+db (Fm.aiC (a+qB k)) l:=by rw[Fm.aiC,Fm.Dt]
mutual
def Fm.iu:Int->Fm->Tm->Fm
 |n,.mk k ty ts l,s=>.mk k ty (ts.map λx=>Tm.iu n x s) (Fm.LI (n+qB k) l s)
def Fm.LI:Int->List Fm->Tm->List Fm
 |_,[],_=>[]|n,t::l,s=>Fm.iu n t s::Fm.LI n l s
end
def Fm.KI(n:Int)(s:Tm)(l:List Fm):Fm.LI n l s=l.map (λx=>Fm.iu n x s):=by
 induction l with
 |nil=>rfl|cons t l ih=>simp[Fm.LI,ih]
def Fm.mV(n:Int)(s:Tm)(k:Int)(ty:Ty)(ts:List Tm)(l:List Fm):Fm.iu n (Fm.mk k ty ts l) s=.mk k ty (ts.map λx=>Tm.iu n x s) (l.map λx=>Fm.iu (n+qB k) x s):=by rw[Fm.iu,Fm.KI]
def Fm.gZ(t:Fm):∀a,t.aiC a<=t.aiw:=by
 induction t using Fm.ind with
 |h k s ts l ih=>
  intro a;rw[Fm.fB,Fm.cQ];have:=jy (f:=Fm.aiC (a+qB k)) (g:=Fm.aiw) (l:=l) λx b=>ih x b _;have:=jy (f:=Tm.aiC a) (g:=Tm.aiw) (l:=ts) λx _=>x.gZ _;omega
theorem Fm.pX(t:Fm):∀f b,(t.up f b).aiw=t.aiw:=by
 induction t using Fm.ind with
 |h k s ts l ih=>
  intro f b;rw[Fm.kO,Fm.cQ,Fm.cQ,oU,oU,qk λx a=>ih x a _ _,qk λx _=>Tm.pX x f b]
theorem Fm.Gu(t:Fm):∀f b,(t.up f b).wt=t.wt:=by
 induction t using Fm.ind with
 |h k s ts l ih=>
  intro f b;rw[Fm.kO,Fm.ee,Fm.ee,oU,oU,qk λx a=>ih x a _ _,qk λx _=>Tm.Gu x f b]
theorem Fm.JW(t:Fm):∀f b,0<=f->0<=b->(t.up f b).ok=t.ok:=by
 induction t using Fm.ind with
 |h k s ts l ih=>
  intro f b c a;have:=Cl k;rw[Fm.kO,Fm.fX,Fm.fX,A1,A1,vK λx d=>ih x d (f+qB k) b VW a,vK λx _=>Tm.JW x f b c a]
def Ng{α:Type}{a b c:α->Nat}{m:Nat}{l:List α}(h:∀x∈l,a x+b x=c x+b x*m):db a l+db b l=db c l+db b l*m:=by
 induction l with
 |nil=>simp[db]|cons y l ih=>
  have f:=h y acZ;have i:=ih λx d=>h x (by simp[d]);simp only[db,AQ];omega
def Fm.qV(s:Tm)(t:Fm):∀n,t.ok=true->(Fm.iu n t s).aiw+t.aiC n=t.aiw+t.aiC n*s.aiw:=by
 induction t using Fm.ind with
 |h k ty ts l ih=>
  intro n d;rw[Fm.fX] at d;simp only[fK,j3] at d;rw[Fm.mV,Fm.fB,Fm.cQ,Fm.cQ,oU,oU,AQ];have i:=Ng (l:=ts) (a:=λx=>(Tm.iu n x s).aiw) (b:=Tm.aiC n) (c:=Tm.aiw) (m:=s.aiw) λx f=>Tm.qV s x n (d.1.2 x f);have j:=Ng (l:=l) (a:=λx=>(Fm.iu (n+qB k) x s).aiw) (b:=Fm.aiC (n+qB k)) (c:=Fm.aiw) (m:=s.aiw) λx f=>ih x f _ (d.2 x f);omega
def CN{t:Tm}(m:Int)(h:t.aiw<=1000000000):kB FU t m=some (t.aiA m):=yM FU t m (by rw[dY];exact h) h
def Gv:∀(n:Nat) (t:Fm) (m:Int),t.aiw<=n->t.aiw<=1000000000->oJ n t m=some (t.aiA m):=by
 intro n
 induction n with
 |zero=>intro t m h;have:=t.dr;omega
 |succ n ih=>
  intro t m h c;cases t with
  |mk k s ts l=>
   rw[Fm.cQ] at h c;have i:=Fm.ek l;have d:=Tm.ek ts
   have f:dH (ρ:=Bool) (λ(_:Int) (x:Tm) (_:Unit)=>cM (kB FU x m) λa=>if a then some (dV.next ())else some (dV.ret false)) ts 0 ()=if ts.all (Tm.aiA m) then some (.inl ())else some (.inr false):=by
    refine qe (Tm.aiA m) _ ts 0 ?_;intro j x b;have:=di Tm.aiw b;rw[CN m VW];rfl
   have k2:dH (ρ:=Bool) (λ(_:Int) (x:Fm) (_:Unit)=>cM (oJ n x m) λa=>if a then some (dV.next ())else some (dV.ret false)) l 0 ()=if l.all (Fm.aiA m) then some (.inl ())else some (.inr false):=by
    refine qe (Fm.aiA m) _ l 0 ?_;intro j x b;have:=di Fm.aiw b;rw[ih x m VW VW];rfl
   rw[oJ];simp only[Fm.dh,Fm.gf,c6,c8 (l:=l) VW,c8 (l:=ts) VW,cY,f,k2,Fm.ez];cases o:ts.all (Tm.aiA m)<;>cases q:l.all (Fm.aiA m)<;>simp
def sR:∀(n:Nat) (t:Fm) (f b:Int),t.aiw<=n->t.aiw<=1000000000->0<=f->f+t.aiw<=10000000000->0<=b->b<=10000000000->t.aiA 1000000000000=true->fN n t f b=some (t.up f b):=by
 intro n
 induction n with
 |zero=>intro t f b h;have:=t.dr;omega
 |succ n ih=>
  intro t f b h d r i q a hi;cases t with
  |mk k s ts l=>
   rw[Fm.cQ] at h d i;rw[Fm.ez] at hi;simp only[fK,j3] at hi;have w:=Fm.ek l;have u:=Tm.ek ts;have y:=Cl k;rw[fN];simp only[Fm.dh,Fm.gf,Fm.dn,Fm.dU,c6,c8 (l:=l) VW,c8 (l:=ts) VW,cY];rw[gE (Tm.up f b) ts 0 [] ado]
   .simp only[cv,dk];rw[gE (Fm.up (f+qB k) b) l 0 [] ado]
    .simp[Fm.kO]
    .intro j x v c o;have:=di Fm.aiw c;rw[oT];simp only[cv,Fm.dn];rw[dP VW VW,ih x (f+qB k) b VW VW VW VW q a (hi.2 x c)];simp[dS (l:=v) (m:=[x.up (f+qB k) b]) (by simpa using o)]
   .intro j x v c o;have:=di Tm.aiw c;rw[zk FU x f b (by rw[dY];omega) VW r VW q a (hi.1 x c)];simp[dS (l:=v) (m:=[x.up f b]) (by simpa using o)]
def Hb:∀(n:Nat) (t:Fm) (a:Int),t.aiw<=n->t.aiw<=1000000000->0<=a->a+t.aiw<=10000000000->pg n t a=some (t.aiC a:Int):=by
 intro n
 induction n with
 |zero=>intro t a h;have:=t.dr;omega
 |succ n ih=>
  intro t a h c o d;cases t with
  |mk k s ts l=>
   rw[Fm.cQ] at h c d;have w:=Fm.ek l;have q:=Tm.ek ts;have A:=Cl k;have r:db (Fm.aiC (a+qB k)) l<=db Fm.aiw l:=jy λx _=>x.gZ _;have i:db (Tm.aiC a) ts<=db Tm.aiw ts:=jy λx _=>x.gZ _;rw[pg];simp only[Fm.dh,Fm.gf,Fm.dn,c6,c8 (l:=l) VW,c8 (l:=ts) VW,cY]
   have u:=pc (ρ:=Int) (F:=λ(_:Int) (x:Tm) (v:Int)=>cM (mo FU x a) λy=>some (dV.next (dF .i64 v y))) (Tm.aiC a) ts 0 0 VW (by
    intro j x v f;have:=di Tm.aiw f;rw[zg FU x a (by rw[dY];omega) VW o VW]
    rfl)
   have k2:=pc (ρ:=Int) (F:=λ(_:Int) (x:Fm) (v:Int)=>cM (mj (Fm.mk k s ts l)) λb=>cM (pg n x (dF .i64 a b)) λy=>some (dV.next (dF .i64 v y))) (Fm.aiC (a+qB k)) l 0 (0+db (Tm.aiC a) ts) VW (by
    intro j x v f;have:=di Fm.aiw f;rw[oT];simp only[cv,Fm.dn];rw[dP VW VW,ih x _ VW VW VW VW]
    rfl)
   rw[show(0:Int)=((0:Nat):Int)from rfl,u];simp only[cv,dk];rw[k2];simp[Fm.fB]
def Og:∀(n:Nat) (t:Fm) (a b:Int) (s:Tm),t.aiw<=n->t.aiw<=1000000000->0<=a->0<=b->a+b+t.aiw<=5000000000->t.aiA 1000000000000=true->t.ok=true->s.aiw<=1000000000->s.aiA 1000000000000=true->wh n t a b s=some (Fm.iu (a+b) t s):=by
 intro n
 induction n with
 |zero=>intro t a b s h;have:=t.dr;omega
 |succ n ih=>
  intro t a b s h i r u o hi c hs f;cases t with
  |mk k ty ts l=>
   rw[Fm.cQ] at h i o;rw[Fm.ez] at hi;rw[Fm.fX] at c;simp only[fK,j3] at hi c;have y:=Fm.ek l;have w:=Tm.ek ts;have A:=Cl k;rw[wh];simp only[Fm.dh,Fm.gf,Fm.dn,Fm.dU,c6,c8 (l:=l) VW,c8 (l:=ts) VW,cY];rw[gE (λx=>Tm.iu (a+b) x s) ts 0 [] ado]
   .simp only[cv,dk];rw[gE (λx=>Fm.iu (a+b+qB k) x s) l 0 [] ado]
    .simp[Fm.mV]
    .intro j x v d q;have:=di Fm.aiw d;rw[oT];simp only[cv,Fm.dn];rw[dP VW VW,ih x a (b+qB k) s VW VW r VW VW (hi.2 x d) (c.2 x d) hs f];rw[show a+(b+qB k)=a+b+qB k by omega];simp[dS (l:=v) (m:=[Fm.iu (a+b+qB k) x s]) (by simpa using q)]
   .intro j x v d q;have:=di Tm.aiw d;rw[DY FU x a b s (by rw[dY];omega) VW r u VW (hi.1 x d) (c.1.2 x d) hs f];simp[dS (l:=v) (m:=[Tm.iu (a+b) x s]) (by simpa using q)]
def Fm.lG(t:Fm):∀{m n:Int},m<=n->t.aiA m=true->t.aiA n=true:=by
 induction t using Fm.ind with
 |h k s ts l ih=>
  intro m n a h;rw[Fm.ez] at*;simp only[fK,j3] at*;exact⟨λx b=>Tm.lG x a (h.1 x b),λx b=>ih x b a (h.2 x b)⟩
def jS.aiA{g:List Ty}{f:Fm}(h:jS g f):∀m:Int,((g.length+f.aiw:Nat):Int)<=m->f.aiA m=true:=by
 induction h with
 |eq c d=>
  intro m hm;simp only[Fm.cQ,db] at hm;simp only[Fm.ez,AZ,SU,HR,fK];exact⟨c.aiA m VW,d.aiA m VW⟩
 |two _ _ _ a b=>
  intro m hm;simp only[Fm.cQ,db] at hm;simp only[Fm.ez,AZ,SU,HR,fK,zj];exact⟨a m VW,b m VW⟩
 |q _ _ _ ih=>
  intro m hm;simp only[Fm.cQ,db] at hm;simp only[Fm.ez,AZ,SU,HR,zj];exact ih m ado
def Tm.FC(φ:Int->Int->Tm)(b:Int):Tm->Tm
 |.mk k i s l=>if k=1 then φ i b else .mk k i s (l.attach.map λx=>Tm.FC φ (b+e9 k) x.1)
decreasing_by
 have:=aaO x.2;simp only[Tm.mk.sizeOf_spec];omega
def Tm.zo(φ:Int->Int->Tm)(b k i:Int)(s:Ty)(l:List Tm):(Tm.mk k i s l).FC φ b=if k=1 then φ i b else .mk k i s (l.map (Tm.FC φ (b+e9 k))):=by
 rw[Tm.FC]
 congr 2
 exact aeN
def w4(k b:Int)(a:-1000000000000<=b)(c:b<=1000000000000):ep (dj k 2) (dF .i64 b 1) b=b+e9 k:=by
 unfold e9
 by_cases h:k=2
 .subst h;rw[show dj 2 2=true from rfl,cS rfl];exact dP VW VW
 .rw[show dj k 2=false by simpa[dj] using h,cO h];show b=b+0;omega
def vk{h:Int->Int->Option Tm}{φ:Int->Int->Tm}{M:Int}(D:∀i b,0<=i->i<=M->0<=b->b<=10000000000->h i b=some (φ i b)):∀(n:Nat) (t:Tm) (b:Int),t.aiw<=n->t.aiw<=50000000->t.ok=true->t.aiA M=true->0<=b->b+t.aiw<=10000000000->gj n t b (λ(s:Unit) (q:Int) (r:Int)=>nX (h q r) s) ()=some (t.FC φ b,()):=by
 intro n
 induction n with
 |zero=>intro t b h;have:=t.dr;omega
 |succ n ih=>
  intro t b hn F w x G y;cases t with
  |mk k i s l=>
   rw[Tm.cQ] at hn F y;have hlen:=Tm.ek l;have f:=w;rw[Tm.fX,fK] at w;have H:=Ty.vI w.1;rw[Tm.ez,fK,OW,j3] at x;rw[gj,Tm.zo]
   by_cases A:k=1
   .subst A;have hi:=(Tm.kU f).2.1;rw[cS adL,cS rfl];simp only[Tm.eW];rw[D i b hi x.1 G VW,Et,cN]
   .rw[cO (by simpa[dj] using A),cO A];simp only[Tm.dU,Tm.dh,Tm.dn,Tm.eW,c6];rw[og VW,cv,c8 VW,cY,w4 k b VW VW];have I:=kr k
    have loop:∀(ts:List Tm) (j:Nat) (v:List Tm),(∀t∈ts,t∈l)->v.length+ts.length<=50000000->dH (λ(J:Int) (B:Tm)=>(rM λ(a:List Tm) (v107:Unit)=>
       cW (gj n B (b+e9 k) (λ(s:Unit) (q:Int) (r:Int)=>nX (h q r) s) v107) λc o=>
       fa (eO a [c])<|some ((.next ((fu a [c]),o)):dV ((List Tm)×Unit) (Tm×Unit)))) ts j (v,())=some (.inl (v++ts.map (Tm.FC φ (b+e9 k)),())):=by
     intro ts
     induction ts with
     |nil=>intro j v _ _;simp|cons t ts C=>
      intro j v hm K;simp only[kL] at K;have d:=hm t acZ;have L:=di Tm.aiw d;rw[dJ];simp only[rM];rw[ih t (b+e9 k) VW VW ((Tm.kU f).2.2.2.1 t d) (x.2 t d) VW VW,cN,dS ado,cY];simp only[cv,dQ];rw[fj];have:=C (j+1) (v++[t.FC φ (b+e9 k)]) (λu hu=>hm u (by simp[hu])) ado;rw[this];simp
    rw[loop l 0 [] (λt h=>h) ado,cv];simp
structure Bd (t:Tm):Prop where
 ok:t.ok=true
 aiA:t.aiA 1000000000000=true
 aiw:t.aiw<=50000000
def Tm.OF(f c:Int)(q:0<=f):∀(t:Tm) (b:Int),0<=b->t.ok=true->t.FC (λi b=>.mk 1 (if f<=i-b then i+c else i) (.mk 0 []) []) b=t.up (f+b) c:=by
 intro t
 induction t using Tm.ind with
 |h k i s l ih=>
  intro b r a;have hi:=Tm.kU a;rw[Tm.zo,Tm.kO]
  by_cases d:k=1
  .subst d;rw[cS rfl]
   have n:l=[]:=by
    have:=hi.2.2.2.2;unfold gG at this;rw[cS (.inl rfl)] at this;exact Ar VW
   have hs:s=.mk 0 []:=by
    rw[Tm.fX] at a;simp only[Tm.node,fK] at a;have:=a.1.2;rw[cO ab9] at this;exact(Ty.lx s).1 this
   subst n;subst hs;simp only[Na,N6]
   congr 1
   by_cases h:f+b<=i
   .rw[cS h,cS VW]
   .rw[cO h,cO VW]
  .rw[cO d,cO (λh=>d h.1)];have o:=kr k
   congr 1
   exact ui λx j=>by rw[ih x j (b+e9 k) VW (hi.2.2.2.1 x j),show f+(b+e9 k)=f+b+e9 k by omega]
def BD{t:Tm}{f c:Int}(h:Bd t)(d:0<=f)(j:f<=10000000000)(q:0<=c)(k:c<=10000000000):qX t f c=some (t.up f c):=by
 unfold qX nP;rw[vk (h:=λl n=>sN l n f c) (φ:=λi b=>.mk 1 (if f<=i-b then i+c else i) (.mk 0 []) []) (M:=1000000000000) (λi b r s u v=>?_) FU t 0 (by have:=dY;have:=h.aiw;omega) h.aiw h.ok h.aiA VW (by have:=h.aiw;omega)]
 .rw[cN,cN,Tm.OF f c d t 0 VW h.ok,show f+0=f by omega]
 .unfold sN gz;simp only[cv];rw[et VW VW,dP VW VW]
  by_cases a:f<=i-b
  .rw[cS a,show pH (i-b) f=true by rw[gI];exact a];rfl
  .rw[cO a,show pH (i-b) f=false by
    cases o:pH (i-b) f with
    |false=>rfl|true=>exact absurd ((gI _ _).1 o) a];rfl
def nT(k:Int):l0 k=some (jB k):=by
 unfold l0 jB;rw[qc];simp only[pH,HB,u9];rw[<-Bool.decide_and];exact CY.2 (by simp only[OW];omega)
def Fm.oW{k:Int}{s:Ty}{ts:List Tm}{l:List Fm}(h:(Fm.mk k s ts l).ok=true):s.aiw<=64/\(∀t∈ts,t.ok=true)/\(∀f∈l,f.ok=true):=by
 rw[Fm.fX] at h;simp only[fK,j3] at h;refine⟨?_,h.1.2,h.2⟩;have hn:=h.1.1;unfold Fm.node at hn
 split at hn
 .simp only[fK] at hn;rw[(Ty.lx s).1 hn.1.1,Ty.cQ];simp[db]
 .split at hn
  .simp only[fK] at hn;rw[(Ty.lx s).1 hn.1.1,Ty.cQ];simp[db]
  .simp only[fK,oq] at hn;exact ec hn.1.1.2
def Fm.FC(ψ:Tm->Int->Tm)(b:Int):Fm->Fm
 |.mk k s ts l=>.mk k s (ts.map λt=>ψ t b) (l.attach.map λx=>Fm.FC ψ (b+qB k) x.1)
decreasing_by
 have:=aaO x.2;simp only[Fm.mk.sizeOf_spec];omega
def Fm.zo(ψ:Tm->Int->Tm)(b k:Int)(s:Ty)(ts:List Tm)(l:List Fm):(Fm.mk k s ts l).FC ψ b=.mk k s (ts.map λt=>ψ t b) (l.map (Fm.FC ψ (b+qB k))):=by
 rw[Fm.FC]
 congr 1
 exact aeN
def nK{h:Tm->Int->Option Tm}{ψ:Tm->Int->Tm}(P:∀t b,Bd t->0<=b->b<=1000000000->h t b=some (ψ t b)):∀(n:Nat) (f:Fm) (b:Int),f.aiw<=n->f.aiw<=50000000->f.ok=true->f.aiA 1000000000000=true->0<=b->b+f.aiw<=1000000000->dX n f b (λ(s:Unit) (A:Tm) (B:Int)=>nX (h A B) s) ()=some (f.FC ψ b,()):=by
 intro n
 induction n with
 |zero=>intro f b h;have:=f.dr;omega
 |succ n ih=>
  intro f b hn Q R G S H;cases f with
  |mk k s ts l=>
   rw[Fm.cQ] at hn Q H;have T:=fR Tm.aiw ts λt _=>t.dr;have U:=fR Fm.aiw l λt _=>t.dr;obtain⟨V,I,J⟩:=Fm.oW R;rw[Fm.ez,fK,j3,j3] at G;rw[dX,Fm.zo];simp only[Fm.dU,Fm.dh,Fm.dn,Fm.gf,c6];rw[og VW,cv,c8 VW,cY];have W:=Cl k
   have w:∀(us:List Tm) (j:Nat) (v:List Tm),(∀t∈us,t∈ts)->v.length+us.length<=50000000->dH (λ(X:Int) (K:Tm)=>(rM λ(v91:List Tm) (L:Unit)=>
      cW (nX (h K b) L) λq C=>
      fa (eO v91 [q])<|some ((.next ((fu v91 [q]),C)):dV ((List Tm)×Unit) (Fm×Unit)))) us j (v,())=some (.inl (v++us.map (λt=>ψ t b),())):=by
    intro us
    induction us with
    |nil=>intro j v _ _;simp|cons t us x=>
     intro j v hm M;simp only[kL] at M;have d:=hm t acZ;have N:=di Tm.aiw d;rw[dJ];simp only[rM];rw[P t b ⟨I t d,G.1 t d,VW⟩ S VW,Et,cN,dS ado,cY];simp only[cv,dQ];rw[fj];have:=x (j+1) (v++[ψ t b]) (λu hu=>hm u (by simp[hu])) ado;rw[this];simp
   rw[w ts 0 [] (λt h=>h) ado,cv];simp only[dk,rM];rw[nT,cv]
   have y:∀(us:List Fm) (j:Nat) (v:List Fm),(∀t∈us,t∈l)->v.length+us.length<=50000000->dH (λ(D:Int) (i:Fm)=>(rM λ(a:List Fm) (v212:Unit)=>
      cW (dX n i (b+qB k) (λ(s:Unit) (A:Tm) (B:Int)=>nX (h A B) s) v212) λc o=>
      fa (eO a [c])<|some ((.next ((fu a [c]),o)):dV ((List Fm)×Unit) (Fm×Unit)))) us j (v,())=some (.inl (v++us.map (Fm.FC ψ (b+qB k)),())):=by
    intro us
    induction us with
    |nil=>intro j v _ _;simp|cons t us x=>
     intro j v hm M;simp only[kL] at M;have d:=hm t acZ;have N:=di Fm.aiw d;rw[dJ];simp only[rM];rw[ih t (b+qB k) VW VW (J t d) (G.2 t d) VW VW,cN,dS ado,cY];simp only[cv,dQ];rw[fj];have:=x (j+1) (v++[t.FC ψ (b+qB k)]) (λu hu=>hm u (by simp[hu])) ado;rw[this];simp
   have fin:(fa (dE l)<|cM (dH (λ(D:Int) (i:Fm)=>(rM λ(a:List Fm) (v212:Unit)=>
      cW (dX n i (b+qB k) (λ(s:Unit) (A:Tm) (B:Int)=>nX (h A B) s) v212) λc o=>
      fa (eO a [c])<|some ((.next ((fu a [c]),o)):dV ((List Fm)×Unit) (Fm×Unit)))) l 0 ([],())) (eE (rM λ(a:List Fm) (v212:Unit)=>some ((Fm.mk k s ([]++ts.map λt=>ψ t b) a),v212)) (λr=>some r)))=some (Fm.mk k s (ts.map λt=>ψ t b) (l.map (Fm.FC ψ (b+qB k))),()):=by
    rw[c8 VW,cY,y l 0 [] (λt h=>h) ado,cv];simp
   by_cases F:jB k=true
   .rw[cS F]
    have O:b+qB k=b+1:=by unfold qB;rw[cS F]
    rw[O] at fin|-;rw[dP VW VW];exact fin
   .rw[cO F]
    have O:b+qB k=b:=by unfold qB;rw[cO F];omega
    rw[O] at fin|-;exact fin
def Fm.OF(f c:Int):∀(g:Fm) (b:Int),g.FC (λt b=>t.up (f+b) c) b=g.up (f+b) c:=by
 intro g
 induction g using Fm.ind with
 |h k s ts l ih=>
  intro b;rw[Fm.zo,Fm.kO]
  congr 1
  exact ui λx a=>by rw[ih x a (b+qB k),show f+(b+qB k)=f+b+qB k by omega]
def tr{g:Fm}{f c:Int}(d:g.ok=true)(hn:g.aiw<=50000000)(i:g.aiA 1000000000000=true)(o:0<=f)(j:f<=1000000000)(k:0<=c)(a:c<=10000000000):ew g f c=some (g.up f c):=by
 unfold ew;rw[nK (h:=λl n=>lO l n f c) (ψ:=λt b=>t.up (f+b) c) (λt b h q r=>?_) FU g 0 (by have:=dY;omega) hn d i VW VW]
 .rw[cN,Fm.OF f c g 0,show f+0=f by omega]
 .unfold lO;rw[dP VW VW,BD h VW VW k a];rfl
def Tm.UW{i:Int}{s:Ty}{l:List Tm}(a:(Tm.mk 1 i s l).ok=true):l=[]/\s=.mk 0 []:=by
 have hi:=Tm.kU a;constructor
 .have:=hi.2.2.2.2;unfold gG at this;rw[cS (.inl rfl)] at this;exact Ar VW
 .rw[Tm.fX] at a;simp only[Tm.node,fK] at a;have:=a.1.2;rw[cO ab9] at this;exact(Ty.lx s).1 this
def OB(a:Int)(s:Tm)(i b:Int):Tm:=if i-b=a then s.up 0 (a+b)else if a<i-b then .mk 1 (i-1) (.mk 0 []) [] else .mk 1 i (.mk 0 []) []
def Tm.LC(a:Int)(s:Tm):∀(t:Tm) (b:Int),t.ok=true->t.FC (OB a s) b=Tm.iu (a+b) t s:=by
 intro t
 induction t using Tm.ind with
 |h k i ty l ih=>
  intro b d;have hi:=Tm.kU d;rw[Tm.zo,Tm.mV]
  by_cases c:k=1
  .subst c;obtain⟨rfl,rfl⟩:=Tm.UW d;rw[cS rfl,cS rfl];unfold OB Tm.ue
   by_cases f:i-b=a
   .rw[cS f,cS VW]
   .rw[cO f,cO (show¬i=a+b by omega)]
    by_cases j:a<i-b
    .rw[cS j,cS VW]
    .rw[cO j,cO VW]
  .rw[cO c,cO c]
   congr 1
   exact ui λx n=>by rw[ih x n (b+e9 k) (hi.2.2.2.1 x n),show a+(b+e9 k)=a+b+e9 k by omega]
def GU(s:Tm):Prop:=∀c,0<=c->c<=10000000000->qX s 0 c=some (s.up 0 c)
def Bd.lift{s:Tm}(h:Bd s):GU s:=λc a b=>BD h VW VW a b
def Nd{t s:Tm}{a:Int}(h:Bd t)(hs:GU s)(Q:0<=a)(J:a<=1000000000):yS t a s=some (Tm.iu a t s):=by
 unfold yS nP;have hn:=h.aiw
 have key:∀(n:Nat) (t:Tm) (b:Int),t.aiw<=n->t.aiw<=50000000->t.ok=true->t.aiA 1000000000000=true->0<=b->b+t.aiw<=1000000000->gj n t b (λ(o:Unit) (r:Int) (q:Int)=>nX (nD r q a s) o) ()=gj n t b (λ(o:Unit) (r:Int) (q:Int)=>nX (if q<=1000000000 then nD r q a s else some (OB a s r q)) o) ():=by
  intro n
  induction n with
  |zero=>intro t b h;have:=t.dr;omega
  |succ n ih=>
   intro t b hn A K I L D;cases t with
   |mk k i ty l=>
    rw[Tm.cQ] at hn A D;rw[Tm.ez,fK,OW,j3] at I;have hi:=Tm.kU K;have N:=kr k;rw[gj,gj]
    by_cases F:k=1
    .subst F;rw[cS adL,cS adL,cS VW]
    .rw[cO (by simpa[dj] using F),cO (by simpa[dj] using F)];simp only[Tm.dU,Tm.dh,Tm.dn,Tm.eW,c6];rw[w4 k b VW VW]
     have loop:∀(ts:List Tm) (j:Nat) (v:List Tm),(∀t∈ts,t∈l)->dH (λ(G:Int) (x:Tm)=>(rM λ(d:List Tm) (v107:Unit)=>
        cW (gj n x (b+e9 k) (λ(o:Unit) (r:Int) (q:Int)=>nX (nD r q a s) o) v107) λf w=>
        fa (eO d [f])<|some ((.next ((fu d [f]),w)):dV ((List Tm)×Unit) (Tm×Unit)))) ts j (v,())=dH (λ(G:Int) (x:Tm)=>(rM λ(d:List Tm) (v107:Unit)=>
        cW (gj n x (b+e9 k) (λ(o:Unit) (r:Int) (q:Int)=>nX (if q<=1000000000 then nD r q a s else some (OB a s r q)) o) v107) λf w=>
        fa (eO d [f])<|some ((.next ((fu d [f]),w)):dV ((List Tm)×Unit) (Tm×Unit)))) ts j (v,()):=by
      intro ts
      induction ts with
      |nil=>intro j v _;rfl|cons t ts H=>
       intro j v hm;have y:=hm t acZ;have O:=di Tm.aiw y;rw[dJ,dJ];simp only[rM];rw[ih t (b+e9 k) VW VW (hi.2.2.2.1 t y) (I.2 t y) VW VW]
       congr 1
       funext c
       cases c with
       |next st=>
        obtain⟨P,u⟩:=st;exact H (j+1) P (λu hu=>hm u (by simp[hu]))
       |_=>rfl
     rw[loop l 0 [] (λt h=>h)]
 rw[key FU t 0 (by have:=dY;omega) hn h.ok h.aiA VW VW];rw[vk (h:=λr q=>if q<=1000000000 then nD r q a s else some (OB a s r q)) (φ:=OB a s) (M:=1000000000000) (λi b L R S T=>?_) FU t 0 (by have:=dY;omega) h.aiw h.ok h.aiA VW VW]
 .rw[cN,cN,Tm.LC a s t 0 h.ok,show a+0=a by omega]
 .by_cases A:b<=1000000000
  .rw[cS A];unfold nD gz OB;rw[et VW VW,dP VW VW]
   by_cases B:i-b=a
   .rw[cS (by simpa[dj] using B),cS B,hs _ VW VW];rfl
   .rw[cO (by simpa[dj] using B),cO B]
    by_cases C:a<i-b
    .rw[cS (by rw[fy];exact C),cS C,et VW VW];rfl
    .rw[cO (by rw[fy];exact C),cO C];rfl
  .rw[cO A]
def Fm.LC(a:Int)(s:Tm):∀(g:Fm) (b:Int),g.FC (λt b=>Tm.iu (a+b) t s) b=Fm.iu (a+b) g s:=by
 intro g
 induction g using Fm.ind with
 |h k ty ts l ih=>
  intro b;rw[Fm.zo,Fm.mV]
  congr 1
  exact ui λx c=>by rw[ih x c (b+qB k),show a+(b+qB k)=a+b+qB k by omega]
def uR{g:Fm}{s:Tm}{a:Int}(G:g.ok=true)(hn:g.aiw<=50000000)(N:g.aiA 1000000000000=true)(hs:GU s)(T:0<=a)(O:a<=100000000):jU g a s=some (Fm.iu a g s):=by
 unfold jU
 have key:∀(n:Nat) (f:Fm) (b:Int),f.aiw<=n->f.aiw<=50000000->f.ok=true->0<=b->b+f.aiw<=100000000->dX n f b (λ(q:Unit) (x:Tm) (w:Int)=>nX (hE x w a s) q) ()=dX n f b (λ(q:Unit) (x:Tm) (w:Int)=>nX (if w<=100000000 then hE x w a s else some (Tm.iu (a+w) x s)) q) ():=by
  intro n
  induction n with
  |zero=>intro f b h;have:=f.dr;omega
  |succ n ih=>
   intro f b hn H G P J;cases f with
   |mk k ty ts l=>
    rw[Fm.cQ] at hn H J;obtain⟨_,_,K⟩:=Fm.oW G;have Q:=Cl k;rw[dX,dX];simp only[Fm.dU,Fm.dh,Fm.dn,Fm.gf,c6,cS (show b<=100000000 by omega),nT,cv]
    have loop:∀(us:List Fm) (j:Nat) (v:List Fm) (B:Int),0<=B->B+db Fm.aiw l<=100000000->(∀t∈us,t∈l)->dH (λ(C:Int) (y:Fm)=>(rM λ(d:List Fm) (v212:Unit)=>
       cW (dX n y B (λ(q:Unit) (x:Tm) (w:Int)=>nX (hE x w a s) q) v212) λi A=>
       fa (eO d [i])<|some ((.next ((fu d [i]),A)):dV ((List Fm)×Unit) (Fm×Unit)))) us j (v,())=dH (λ(C:Int) (y:Fm)=>(rM λ(d:List Fm) (v212:Unit)=>
       cW (dX n y B (λ(q:Unit) (x:Tm) (w:Int)=>nX (if w<=100000000 then hE x w a s else some (Tm.iu (a+w) x s)) q) v212) λi A=>
       fa (eO d [i])<|some ((.next ((fu d [i]),A)):dV ((List Fm)×Unit) (Fm×Unit)))) us j (v,()):=by
     intro us
     induction us with
     |nil=>intro j v B _ _ _;rfl|cons t us L=>
      intro j v B D M hm;have F:=hm t acZ;have R:=di Fm.aiw F;rw[dJ,dJ];simp only[rM];rw[ih t B VW VW (K t F) D VW]
      congr 1
      funext c
      cases c with
      |next st=>
       obtain⟨S,u⟩:=st;exact L (j+1) S B D M (λu hu=>hm u (by simp[hu]))
      |_=>rfl
    congr 1
    funext U
    congr 1
    congr 1
    funext o
    cases o with
    |inr r=>rfl|inl st=>
     obtain⟨v,u⟩:=st;simp only[dk,rM]
     by_cases I:jB k=true
     .rw[cS I,cS I,dP VW VW];rw[show(([]:List Fm),u)=([],())from rfl,loop l 0 [] (b+1) VW VW (λt h=>h)]
     .rw[cO I,cO I];rw[show(([]:List Fm),u)=([],())from rfl,loop l 0 [] b VW VW (λt h=>h)]
 rw[key FU g 0 (by have:=dY;omega) hn G VW VW];rw[nK (h:=λx w=>if w<=100000000 then hE x w a s else some (Tm.iu (a+w) x s)) (ψ:=λt b=>Tm.iu (a+b) t s) (λt b h P V=>?_) FU g 0 (by have:=dY;omega) hn G N VW VW]
 .rw[cN,Fm.LC a s g 0,show a+0=a by omega]
 .by_cases H:b<=100000000
  .rw[cS H];unfold hE;rw[dP VW VW,Nd h hs VW VW];rfl
  .rw[cO H]
def Fb{a i b c:Int}(d:-1000000000000000<=i)(f:i<=1000000000000000)(j:0<=b)(k:b<=10000000000)(l:0<=c)(n:c<=10000000000):nM i b a c=some (c+if i-b=a then 1 else 0):=by
 unfold nM;rw[et VW VW]
 by_cases h:i-b=a
 .rw[cS (by simpa[dj] using h),cS h,dP VW VW]
 .rw[cO (by simpa[dj] using h),cO h,yd]
def EY(a:Int):∀(n:Nat) (t:Tm) (b c:Int),t.aiw<=n->t.aiw<=50000000->t.ok=true->t.aiA 1000000000000=true->0<=b->b+t.aiw<=1000000000->0<=c->c+t.aiw<=1000000000->ja n t b (λ(s:Int) (f:Int) (o:Int)=>nM f o a s) c=some (c+(t.aiC (a+b):Int)):=by
 intro n
 induction n with
 |zero=>intro t b c h;have:=t.dr;omega
 |succ n ih=>
  intro t b c hn C D A F q B G;cases t with
  |mk k i s l=>
   rw[Tm.cQ] at hn C q G;have hlen:=Tm.ek l;have hi:=Tm.kU D;rw[Tm.ez,fK,OW,j3] at A;have H:=kr k;rw[ja,Tm.fB];simp only[c6]
   have loop:∀(ts:List Tm) (j:Nat) (v:Int),(∀t∈ts,t∈l)->0<=v->v+db Tm.aiw ts<=1000000000->dH (λ(I:Int) (r:Tm)=>(λ(v28:Int)=>
      cM (ja n r (b+e9 k) (λ(s:Int) (f:Int) (o:Int)=>nM f o a s) v28) λw=>
      some ((.next w):dV Int Int))) ts j v=some (.inl (v+(db (Tm.aiC (a+b+e9 k)) ts:Int))):=by
    intro ts
    induction ts with
    |nil=>intro j v _ _ _;simp[db]|cons t ts x=>
     intro j v hm v0 v1;simp only[db] at v1|-;have d:=hm t acZ;have J:=di Tm.aiw d;have K:=t.gZ (a+b+e9 k);rw[dJ,ih t (b+e9 k) v VW VW (hi.2.2.2.1 t d) (A.2 t d) VW VW v0 VW,show a+(b+e9 k)=a+b+e9 k by omega];simp only[cv,dQ];rw[x (j+1) _ (λu hu=>hm u (by simp[hu])) VW VW]
     congr 2
     push_cast
     omega
   by_cases y:k=1
   .subst y;rw[cS (show dj (Tm.mk 1 i s l).aiu 1=true from rfl)];simp only[Tm.dh,Tm.dn,Tm.eW];rw[Fb VW VW F VW B VW,cv,w4 1 b VW VW,c8 VW,cY];rw[loop l 0 _ (λt h=>h) (by split<;>omega) (by split<;>omega)];simp only[cv,dk]
    congr 1
    by_cases e:i-b=a
    .rw[cS e,cS (show True/\i=a+b from⟨trivial,VW⟩)];omega
    .rw[cO e,cO (show¬(True/\i=a+b)fromλh=>e VW)];omega
   .rw[cO (show¬dj (Tm.mk k i s l).aiu 1=true by simpa[dj] using y),cO (show¬(k=1/\i=a+b)fromλh=>y h.1)];simp only[Tm.dh,Tm.dn,Tm.eW];rw[w4 k b VW VW,c8 VW,cY];rw[loop l 0 c (λt h=>h) B VW];simp only[cv,dk]
    congr 1
    push_cast
    omega
def As{t:Tm}(a:Int)(h:Bd t):r8 t a=some (t.aiC a:Int):=by
 unfold r8 qJ;have hn:=h.aiw;rw[EY a FU t 0 0 (by have:=dY;omega) hn h.ok h.aiA VW VW VW VW];simp only[cv];rw[show a+0=a by omega,Int.zero_add]
def Ab{a:Int}(X:0<=a)(L:a<=100000000):∀(n:Nat) (f:Fm) (b c:Int),f.aiw<=n->f.aiw<=50000000->f.ok=true->f.aiA 1000000000000=true->0<=b->b+f.aiw<=100000000->0<=c->c+f.aiw<=1000000000->mI n f b (λ(s:Int) (w:Tm) (y:Int)=>iD w y s a) c=some (c+(f.aiC (a+b):Int)):=by
 intro n
 induction n with
 |zero=>intro f b c h;have:=f.dr;omega
 |succ n ih=>
  intro f b c hn M N A Y B O P;cases f with
  |mk k s ts l=>
   rw[Fm.cQ] at hn M B P;have Q:=fR Tm.aiw ts λt _=>t.dr;have R:=fR Fm.aiw l λt _=>t.dr;obtain⟨_,C,D⟩:=Fm.oW N;rw[Fm.ez,fK,j3,j3] at A;have S:=Cl k;rw[mI,Fm.fB];simp only[Fm.dh,Fm.dn,Fm.gf,c6];rw[c8 VW,cY]
   have o:∀(us:List Tm) (j:Nat) (v:Int),(∀t∈us,t∈ts)->0<=v->v+db Tm.aiw us<=1000000000->dH (λ(T:Int) (F:Tm)=>(λ(v32:Int)=>
      cM (iD F b v32 a) λG=>
      some ((.next G):dV Int Int))) us j v=some (.inl (v+(db (Tm.aiC (a+b)) us:Int))):=by
    intro us
    induction us with
    |nil=>intro j v _ _ _;simp[db]|cons t us i=>
     intro j v hm v0 v1;simp only[db] at v1|-;have d:=hm t acZ;have H:=di Tm.aiw d;have U:=t.gZ (a+b);rw[dJ];unfold iD at i|-;rw[dP (a:=a) VW VW,As (a+b) ⟨C t d,A.1 t d,VW⟩];simp only[cv,dQ];rw[dP VW VW];have:=i (j+1) (v+(t.aiC (a+b):Int)) (λu hu=>hm u (by simp[hu])) VW VW;rw[dP (a:=a) VW VW] at this;rw[this]
     congr 2
     push_cast
     omega
   rw[o ts 0 c (λt h=>h) O VW];have V:=jy (f:=Tm.aiC (a+b)) (g:=Tm.aiw) (l:=ts) λx _=>x.gZ _;simp only[cv,dk];rw[nT,cv]
   have q:∀(us:List Fm) (j:Nat) (v:Int),(∀t∈us,t∈l)->0<=v->v+db Fm.aiw us<=1000000000->dH (λ(W:Int) (I:Fm)=>(λ(v72:Int)=>
      cM (mI n I (b+qB k) (λ(s:Int) (w:Tm) (y:Int)=>iD w y s a) v72) λJ=>
      some ((.next J):dV Int Int))) us j v=some (.inl (v+(db (Fm.aiC (a+b+qB k)) us:Int))):=by
    intro us
    induction us with
    |nil=>intro j v _ _ _;simp[db]|cons t us i=>
     intro j v hm v0 v1;simp only[db] at v1|-;have d:=hm t acZ;have H:=di Fm.aiw d;have U:=t.gZ (a+b+qB k);rw[dJ,ih t (b+qB k) v VW VW (D t d) (A.2 t d) VW VW v0 VW,show a+(b+qB k)=a+b+qB k by omega];simp only[cv,dQ];rw[i (j+1) _ (λu hu=>hm u (by simp[hu])) VW VW]
     congr 2
     push_cast
     omega
   have fin:=q l 0 (c+(db (Tm.aiC (a+b)) ts:Int)) (λt h=>h) VW VW
   by_cases r:jB k=true
   .rw[cS r]
    have K:qB k=1:=by unfold qB;rw[cS r]
    rw[K] at fin|-;rw[dP VW VW,c8 VW,cY,fin];simp only[cv,dk]
    congr 1
    push_cast
    omega
   .rw[cO r]
    have K:qB k=0:=by unfold qB;rw[cO r]
    rw[K] at fin|-;rw[yd b] at fin;rw[c8 VW,cY,fin];simp only[cv,dk]
    congr 1
    push_cast
    omega
def oQ{f:Fm}{a:Int}(c:f.ok=true)(hn:f.aiw<=50000000)(d:f.aiA 1000000000000=true)(h:0<=a)(b:a<=100000000):jw f a=some (f.aiC a:Int):=by
 unfold jw;rw[Ab h b FU f 0 0 (by have:=dY;omega) hn c d VW VW VW VW];simp only[cv];rw[show a+0=a by omega,Int.zero_add]
noncomputable def j4 (f:Fm) (t:Tm):Fm×Int:=if 4096<(Fm.iu 0 f t).aiw then(.mk 0 (.mk 0 []) [] [],4)else(Fm.iu 0 f t,0)
noncomputable def Fh (f:Fm) (g:List Ty):Int:=if vQ g≠0 then vQ g else if f.err≠0 then f.err else f.uJ g
def gR.of{g:List Ty}(h:vQ g=0):gR g/\g.length<=16:=by
 unfold vQ at h
 split at h
 .cases h
 .rename_i c;refine⟨λs hs=>?_,VW⟩
  have key:∀l:List Ty,eD (l.map Ty.err)=0->∀s∈l,s.err=0:=by
   intro l
   induction l with
   |nil=>intro _ s hs;cases hs
   |cons a l ih=>
    intro h s hs;simp only[Dk,eD] at h
    by_cases b:a.err=0
    .rw[cS b] at h;rcases j8.1 hs with rfl|hs
     .exact b
     .exact ih h s hs
    .rw[cO b] at h;exact absurd h b
  exact key g h s hs
def uq{g:List Ty}(hg:gR g)(c:g.length<=1000000):nr g=some (g.map rT):=by
 unfold nr;simp only[c6]
 rw[c8 VW,cY,gE rT g 0 [] ado (λj x v a b=>by
  rw[kq (hg x a),cv,dS (by simpa using b),cY,fj])]
 simp
def pC{f:Fm}{g:List Ty}(hw:f.wt<=1000000000)(c:g.length<=1000000)(h:∀t∈g,t.aiw<=1000000000):kx g f=some (Fh f g):=by
 unfold kx Fh;rw[wz g c h,cv]
 by_cases a:vQ g=0
 .rw[cO (by rw[c9];simpa using a),cO (by simpa using a),j9 hw,cv]
  by_cases he:f.err=0
  .obtain⟨hg,d⟩:=gR.of a;obtain⟨b,hn⟩:=Fm.fQ he;rw[cO (by rw[c9];simpa using he),cO (by simpa using he),uq hg c,cv,vj f b FU (by have:=dY;omega) g hg VW hn];rfl
  .rw[cS (by rw[c9];exact he),cS he]
 .rw[cS (by rw[c9];exact a),cS a]
def tX{f:Fm}{g:List Ty}(hw:f.wt<=1000000000)(c:g.length<=1000000)(h:∀t∈g,t.aiw<=1000000000):jk g f=some (Fh f g):=by
 unfold jk jV Fh;rw[r6 g c h,cv]
 by_cases a:vQ g=0
 .rw[cO (by rw[c9];simpa using a),cO (by simpa using a),kG hw,cv]
  by_cases he:f.err=0
  .obtain⟨hg,d⟩:=gR.of a;obtain⟨b,hn⟩:=Fm.fQ he;rw[cO (by rw[c9];simpa using he),cO (by simpa using he),yY f b FU (by have:=dY;omega) g hg VW hn];rfl
  .rw[cS (by rw[c9];exact he),cS he];rfl
 .rw[cS (by rw[c9];exact a),cS a]
def Iz{f:Fm}{t:Tm}(he:f.err=0)(b:t.err=0)(i:f.aiA 1000000000000=true)(d:t.aiA 1000000000000=true):hB f t=some (j4 f t):=by
 obtain⟨a,hn⟩:=Fm.fQ he;obtain⟨c,h⟩:=Tm.fQ b;have hw:=f.hI a;have l:=t.hI c;have r:=t.dr;have n:=f.gZ 0;have o:=Fm.qV t f 0 a;unfold hB j4;rw[oY VW,cN,rC VW,cN,oQ a VW i VW VW,cv,cS he,cS b];rw[et VW VW]
 have hmul:(f.aiC 0:Int)*((t.aiw:Int)-1)=((f.aiC 0*t.aiw:Nat):Int)-(f.aiC 0:Int):=by rw[X',YL];push_cast;rfl
 have q:f.aiC 0*t.aiw<=4096*4096:=GF VW h;have j:f.aiC 0<=f.aiC 0*t.aiw:=ac1 _ VW;rw[zM (by rw[hmul];omega) (by rw[hmul];omega),hmul,dP VW VW]
 by_cases k:4096<(Fm.iu 0 f t).aiw
 .rw[cS (by rw[fy];omega),cS k]
 .rw[cO (by rw[fy];omega),cO k,uR a VW i (Bd.lift ⟨c,d,VW⟩) VW VW];rfl
def G7{f:Fm}{s:Tm}(he:f.err=0)(b:s.err=0)(j:f.aiA 536870912=true)(c:s.aiA 536870912=true)(d:(Fm.iu 0 f s).ok=true):wT f 0 s=some (j4 f s):=by
 obtain⟨a,hn⟩:=Fm.fQ he;obtain⟨h,i⟩:=Tm.fQ b;have hw:=f.hI a;have n:=s.hI h;have o:=s.dr;have q:=f.gZ 0;have r:=Fm.qV s f 0 a;unfold wT j4;rw[kG VW,he];simp only[cv,c9,ne_eq,YP,lS,c6,kv,fy,kZ,rD];rw[cO VW,lK VW,b,Gv FU f _ (by rw[dY];omega) VW,j,CN _ VW,c];simp only[cv,YP,lS,if_true,RV,oo];rw[rk FU f (by rw[dY];omega) VW,Hb FU f 0 (by rw[dY];omega) VW VW VW,nb FU s (by rw[dY];omega) VW];simp only[cv];rw[et VW VW]
 have hmul:(f.aiC 0:Int)*((s.aiw:Int)-1)=((f.aiC 0*s.aiw:Nat):Int)-(f.aiC 0:Int):=by rw[X',YL];push_cast;rfl
 have t:f.aiC 0*s.aiw<=4096*4096:=GF VW i;have k:f.aiC 0<=f.aiC 0*s.aiw:=ac1 _ VW;rw[zM (by rw[hmul];omega) (by rw[hmul];omega),hmul,dP VW VW]
 by_cases l:4096<(Fm.iu 0 f s).aiw
 .rw[cS VW,cS l]
 .rw[cO VW,cO l,Og FU f 0 0 s (by rw[dY];omega) VW VW VW VW (Fm.lG f VW j) a VW (Tm.lG s VW c)];simp only[cv,yd];have u:=Fm.hI _ d;rw[jl VW];rfl
def zH{α:Type}{E:α->α->Option Bool}{m l:List α}(hlen:l.length=m.length)(h:∀x∈l,∀y,∃r,E x y=some r/\(r=true↔x=y)):∃o:Unit⊕Bool,dH (λ(j:Int) (x:α) (_:Unit)=>cM (dg m j) λy=>cM (E x y) λz=>if z then(some (dV.next ()):Option (dV Unit Bool))else some (dV.ret false)) l 0 ()=some o/\(o=.inl ()/\l=m\/o=.inr false/\l≠m):=by
 let p:α->α->Bool:=λx y=>(E x y).getD false
 have c:∀x∈l,∀y,E x y=some (p x y)/\(p x y=true↔x=y):=by
  intro x a y;obtain⟨r,d,b⟩:=h x a y
  have e:p x y=r:=by show(E x y).getD false=r;rw[d];rfl
  rw[e];exact⟨d,b⟩
 have key:=wV (F:=λ(j:Int) (x:α) (_:Unit)=>cM (dg m j) λy=>cM (E x y) λz=>if z then some (dV.next ())else some (dV.ret false)) p m l 0 m rfl hlen (by
  intro k x y a hy;rw[gP,hy];simp only[cv];rw[(c x a y).1]
  rfl)
 have he:=wN p l m λx a y=>(c x a y).2;rw[key];cases b:ur p l m with
 |false=>rw[b] at he;exact⟨_,rfl,.inr ⟨rfl,λe=>absurd (he.2 e) acZ⟩⟩
 |true=>rw[b] at he;exact⟨_,rfl,.inl ⟨rfl,he.1 rfl⟩⟩
def Aq:∀(n:Nat) (a b:Fm),a.wt<=n->a.wt<=1000000000->∃r,kf n a b=some r/\(r=true↔a=b):=by
 intro n
 induction n with
 |zero=>intro t b h;have:=t.gJ;omega
 |succ n ih=>
  intro a b h w;cases a with
  |mk k s ts l=>
  cases b with
  |mk k' i us m=>
   rw[Fm.ee] at h w;have D:=Fm.mY l;have A:=Tm.mY ts;rw[kf];simp only[Fm.dh,Fm.dn,Fm.gf,Fm.dU,c6,c8 (l:=l) VW,c8 (l:=ts) VW,cY,c9,eo]
   have no:¬(k=k'/\s=i/\ts=us/\l=m)->∃r,some false=some r/\(r=true↔Fm.mk k s ts l=Fm.mk k' i us m):=by
    intro hn;refine⟨false,rfl,?_⟩;simp only[oo,KN,Fm.mk.injEq];exact hn
   by_cases d:k≠k'
   .rw[cS d,cS trivial];exact no λh=>d h.1
   .rw[cO d];obtain⟨r,B,v⟩:=wm FU s i (by rw[dY];omega) VW;rw[B];simp only[cv]
    by_cases f:r=true
    .have hs:=v.1 f;rw[cS f]
     by_cases j:(ts.length:Int)≠us.length
     .rw[cS j,cS trivial];exact no λh=>j (by rw[h.2.2.1])
     .rw[cO j]
      by_cases hm:(l.length:Int)≠m.length
      .rw[cS hm];exact no λh=>hm (by rw[h.2.2.2])
      .rw[cO hm];obtain⟨o,C,k2⟩:=zH (E:=λx y=>ie FU x y) (l:=ts) (m:=us) VW (λx c y=>wI FU x y (by have:=di Tm.wt c;rw[dY];omega) (by have:=di Tm.wt c;omega));rw[C];rcases k2 with⟨rfl,q⟩|⟨rfl,q⟩
       .simp only[cv,dk];obtain⟨o,q1,q2⟩:=zH (E:=λx y=>kf n x y) (l:=l) (m:=m) VW (λx c y=>ih x y (by have:=di Fm.wt c;omega) (by have:=di Fm.wt c;omega));rw[q1];rcases q2 with⟨rfl,u⟩|⟨rfl,u⟩
        .exact⟨true,rfl,by simp only[YV,Fm.mk.injEq];exact⟨vS.1 d,hs,q,u⟩⟩
        .exact no λh=>u h.2.2.2
       .exact no λh=>q h.2.2.1
    .rw[cO f,cS trivial];exact no λh=>f (v.2 h.2.1)
def Ii:∀(n:Nat) (a b:Fm),a.wt<=n->a.wt<=1000000000->∃r,qh n a b=some r/\(r=true↔a=b):=by
 intro n
 induction n with
 |zero=>intro t b h;have:=t.gJ;omega
 |succ n ih=>
  intro a b h A;cases a with
  |mk k s ts l=>
  cases b with
  |mk k' q us m=>
   rw[Fm.ee] at h A;have F:=Fm.mY l;have B:=Tm.mY ts;rw[qh];simp only[Fm.dh,Fm.dn,Fm.gf,Fm.dU,c6,c8 (l:=l) VW,cY,c9,eo]
   have no:¬(k=k'/\s=q/\ts=us/\l=m)->∃r,some false=some r/\(r=true↔Fm.mk k s ts l=Fm.mk k' q us m):=by
    intro hn;refine⟨false,rfl,?_⟩;simp only[oo,KN,Fm.mk.injEq];exact hn
   have c:∃r,pW ts us=some r/\(r=true↔ts=us):=by
    unfold pW;simp only[c9,eo,c6,c8 (l:=ts) VW,cY]
    by_cases d:(ts.length:Int)≠us.length
    .rw[cS d];exact⟨false,rfl,by simp only[oo,KN];rintro rfl;exact d rfl⟩
    .rw[cO d];obtain⟨o,C,k2⟩:=zH (E:=λx y=>jD FU x y) (l:=ts) (m:=us) VW (λx f y=>Ax FU x y (by have:=di Tm.wt f;rw[dY];omega) (by have:=di Tm.wt f;omega));rw[C];rcases k2 with⟨rfl,u⟩|⟨rfl,u⟩
     .exact⟨true,rfl,by simpa using u⟩
     .exact⟨false,rfl,by simpa using u⟩
   by_cases i:k≠k'
   .rw[cS i,cS trivial];exact no λh=>i h.1
   .rw[cO i,gY VW];simp only[cv]
    by_cases j:s.jE q=true
    .have hs:=(Ty.jM _ _).1 j;obtain⟨r,D,w⟩:=c;rw[cS j,D];simp only[cv]
     by_cases d:r=true
     .rw[cS d]
      by_cases hm:(l.length:Int)≠m.length
      .rw[cS hm];exact no λh=>hm (by rw[h.2.2.2])
      .rw[cO hm];obtain⟨o,q1,q2⟩:=zH (E:=λx y=>qh n x y) (l:=l) (m:=m) VW (λx f y=>ih x y (by have:=di Fm.wt f;omega) (by have:=di Fm.wt f;omega));rw[q1];rcases q2 with⟨rfl,v⟩|⟨rfl,v⟩
       .exact⟨true,rfl,by simp only[YV,Fm.mk.injEq];exact⟨vS.1 i,hs,w.1 d,v⟩⟩
       .exact no λh=>v h.2.2.2
     .rw[cO d,cS trivial];exact no λh=>d (w.2 h.2.2.1)
    .rw[cO j,cS trivial];exact no λh=>j ((Ty.jM _ _).2 h.2.1)
def EW(l:List Ty)(t:Tm):Tm:=l.foldr (λs b=>.mk 2 0 s [b]) t
def Wk{l:List Ty}(f:l.length<=1000):∀(i m:Nat) (t:Tm),i<=l.length->i<m->nt ((TC λ(v57:Int) (v58:Int) (v59:Int) (v60:Int) (b:List Ty) (c:List Tm)=>
   if(pH v57 0) then(
   cM (dg l v57) λd=>
   some (.next ((ed .i64 v57 1),2,0,d.aiu,d.aiv,[(Tm.mk v58 v59 (Ty.mk v60 b) c)])))
   else(some (.brk (v57,v58,v59,v60,b,c)))):(Int×Int×Int×Int×(List Ty)×(List Tm))->(Option (dV (Int×Int×Int×Int×(List Ty)×(List Tm)) (Tm)))) m ((i:Int)-1,t.aiu,t.aix,t.cT.aiu,t.cT.aiv,t.aiv)=some (.inl (-1,(EW (l.take i) t).aiu,(EW (l.take i) t).aix,(EW (l.take i) t).cT.aiu,(EW (l.take i) t).cT.aiv,(EW (l.take i) t).aiv))
 |0,m+1,t,_,_=>by
  rw[kb];simp only[TC];rw[cO (by rw[gI];omega)];rfl
 |i+1,m+1,t,hi,hm=>by
  rw[kb];simp only[TC];rw[cS (by rw[gI];omega),show((i+1:Nat):Int)-1=(i:Int) by omega,gP,l9 VW];simp only[cv,dQ];rw[et VW VW]
  have o:Ty.mk (l[i]).aiu (l[i]).aiv=l[i]:=by cases l[i];rfl
  have n:Tm.mk t.aiu t.aix (Ty.mk t.cT.aiu t.cT.aiv) t.aiv=t:=by cases t with|mk k j s a=>cases s;rfl
  have h:=Wk f i m (.mk 2 0 l[i] [t]) VW VW;rw[n];refine h.trans ?_;rw[acj,l9 VW];simp only[EW,afm,afD,List.foldr_cons,List.foldr_nil]
def yE(t:Tm)(l:List Ty)(b:l.length<=1000):uk t l=some (EW l t):=by
 unfold uk;simp only[c6];rw[eo,et VW VW];have h:=Wk b l.length FU t (gV _) (aak VW);rw[h,cv,ac4];generalize EW l t=r;cases r with|mk k j s a=>cases s;rfl
def BT(t a:Tm):rE t [a]=some (.mk 3 0 (.mk 0 []) [t,a]):=by cases t with|mk k j s l=>cases s;rfl
def Le(t a b:Tm):rE t [a,b]=some (.mk 3 0 (.mk 0 []) [.mk 3 0 (.mk 0 []) [t,a],b]):=by cases t with|mk k j s l=>cases s;rfl
def aaB:Tm:=EW [.nat] (.mk 6 0 .nat [.mk 4 0 (.mk 0 []) [],EW [.nat,.nat] (.mk 1 1 (.mk 0 []) []),.mk 1 0 (.mk 0 []) []])
def I2:uf=some aaB:=by
 unfold uf l8 qf gz yQ;simp only[vz,cv,yE _ _ (show[Ty.nat,Ty.nat].length<=1000 by decide),yE _ _ (show[Ty.nat].length<=1000 by decide)];rfl
def aeJ:Tm:=EW [.nat,.nat] (.mk 6 0 .nat [.mk 1 1 (.mk 0 []) [],EW [.nat,.nat] (.mk 3 0 (.mk 0 []) [aaB,.mk 1 0 (.mk 0 []) []]),.mk 1 0 (.mk 0 []) []])
def KU:vZ=some aeJ:=by
 unfold vZ l8 zJ gz yQ;simp only[I2,vz,cv,BT,yE _ _ (show[Ty.nat,Ty.nat].length<=1000 by decide)];rfl
def ZO(a b:Tm):Fm:=.mk 1 (.mk 0 []) [.mk 3 0 (.mk 0 []) [.mk 3 0 (.mk 0 []) [aeJ,.mk 5 0 (.mk 0 []) [a]],b],.mk 4 0 (.mk 0 []) []] []
def HP(a b:Tm):uH a b=some (ZO a b):=by
 unfold uH qf p4;simp only[KU,cv,Le];rfl
def VU:∀x y:Fin 8,∃z:Fin 8,qi .u8 (x:Nat) (y:Nat)=(z:Nat)/\((z:Nat)%2=1↔(x:Nat)%2=1/\(y:Nat)%2=1):=ab9
def Zh:∀x y:Fin 8,∃z:Fin 8,xK .u8 (x:Nat) (y:Nat)=(z:Nat)/\((z:Nat)%2=1↔(x:Nat)%2=1\/(y:Nat)%2=1):=ab9
def Mk(b:Bool)(m:Int):Prop:=∃x:Fin 8,m=((x:Nat):Int)/\((x:Nat)%2=1↔b=true)
def Mk.and{a b:Bool}{x y:Int}(c:Mk a x)(hy:Mk b y):Mk (a&&b) (qi .u8 x y):=by
 obtain⟨x,rfl,d⟩:=c;obtain⟨y,rfl,f⟩:=hy;obtain⟨z,h,i⟩:=VU x y;exact⟨z,h,by rw[i,d,f,fK]⟩
def Mk.or{a b:Bool}{x y:Int}(c:Mk a x)(hy:Mk b y):Mk (a||b) (xK .u8 x y):=by
 obtain⟨x,rfl,d⟩:=c;obtain⟨y,rfl,f⟩:=hy;obtain⟨z,h,i⟩:=Zh x y;exact⟨z,h,by rw[i,d,f,rD]⟩
def Mk.one:Mk true 1:=⟨1,rfl,ab9⟩
def Mk.six:Mk false 6:=⟨6,rfl,ab9⟩
def Mk.four:Mk false 4:=⟨4,rfl,ab9⟩
def Mk.bit{b:Bool}{m:Int}(h:Mk b m):dw (qi .u8 m 1) 0=b:=by
 obtain⟨x,rfl,a⟩:=h
 have key:∀x:Fin 8,dw (qi .u8 ((x:Nat):Int) 1) 0=decide ((x:Nat)%2=1):=ab9
 rw[key x];cases b with
 |false=>exact Fa (λh=>by have:=a.1 h;cases this)
 |true=>exact vD (a.2 rfl)
def Fm.aaL{a:Fm}(d:a.ok=true)(c:a.aiu=2\/a.aiu=3):∃p q,a=.mk a.aiu (.mk 0 []) [] [p,q]/\p.ok=true/\q.ok=true:=by
 refine Fm.nW (p:=λa=>a.aiu=2\/a.aiu=3->∃p q,a=.mk a.aiu (.mk 0 []) [] [p,q]/\p.ok=true/\q.ok=true) ?_ ?_ ?_ a d c
 .intro a b _ _ h;rcases h with h|h<;>cases h
 .intro k a b _ f i _ _ _;exact⟨a,b,rfl,f,i⟩
 .intro k s a c _ _ _ h;have h:k=2\/k=3:=h;omega
def Fm.aff{a:Fm}(d:a.ok=true)(f:a.aiu=1):∃u v,a=.mk 1 (.mk 0 []) [u,v] []/\u.ok=true/\v.ok=true:=by
 refine Fm.nW (p:=λa=>a.aiu=1->∃u v,a=.mk 1 (.mk 0 []) [u,v] []/\u.ok=true/\v.ok=true) ?_ ?_ ?_ a d f
 .intro a b i j _;exact⟨a,b,rfl,i,j⟩
 .intro k a b c _ _ _ _ h;have h:k=1:=h;omega
 .intro k s a c _ _ _ h;have h:k=1:=h;omega
def Tm.ade{a:Tm}(f:a.ok=true)(i:a.aiu=3):∃c d,a=.mk 3 0 .z [c,d]/\c.ok=true/\d.ok=true:=by
 refine Tm.nW (p:=λa=>a.aiu=3->∃c d,a=.mk 3 0 .z [c,d]/\c.ok=true/\d.ok=true) ?_ ?_ ?_ ?_ ?_ ?_ ?_ ?_ ?_ ?_ ?_ ?_ ?_ a f i
 case refine_3=>intro a b j k _;exact⟨a,b,rfl,j,k⟩
 all_goals(intros;rename_i h;cases h)
def G1{k:Int}{s:Ty}{a:Fm}(W:(Fm.mk k s [] [a]).ok=true)(hn:(Fm.mk k s [] [a]).aiw<=1000000)(N:a.aiA 1000000000000=true)(x:a.ok=true):∃b t q ok,sA (.mk k s [] [a])=some (b,t,q,ok)/\(ok=true->q.ok=true/\q.aiw<a.aiw/\q.aiA 1000000000000=true):=by
 rw[Fm.cQ] at hn;simp only[db] at hn;have no:∃b t q ok,(some (false,(Tm.mk 0 0 (Ty.mk 0 []) []),(Fm.mk 0 (Ty.mk 0 []) [] []),false):Option (Bool×Tm×Fm×Bool))=some (b,t,q,ok)/\(ok=true->q.ok=true/\q.aiw<a.aiw/\q.aiA 1000000000000=true):=⟨_,_,_,_,rfl,acZ⟩;unfold sA
 obtain⟨y,n,O,X⟩:∃y n,s7 (dj (Fm.mk k s [] [a]).aiu 4)=some (y,n)/\(n=2\/n=3):=by
  unfold s7
  split
  .exact⟨_,_,rfl,.inr rfl⟩
  .exact⟨_,_,rfl,.inl rfl⟩
 rw[O,cN];simp only[c6]
 by_cases J:dw (Fm.mk k s [] [a]).aiu y=true
 .rw[cS J,cS trivial];exact no
 rw[cO J]
 by_cases K:dw (Fm.mk k s [] [a]).cT.aiu 1=true
 .rw[cS K,cS trivial];exact no
 rw[cO K];simp only[Fm.dh,dA,im,cv]
 by_cases c3:dw a.aiu n=true
 .rw[cS c3,cS trivial];exact no
 rw[cO c3]
 have A:a.aiu=2\/a.aiu=3:=by
  have:a.aiu=n:=by simpa[dw] using c3
  omega
 obtain⟨p,q,f,L,P⟩:=Fm.aaL x A;have B:a.aiv=[p,q]:=(congrArg Fm.aiv f).trans rfl
 have Q:a.aiw=1+p.aiw+q.aiw:=by rw[f,Fm.cQ];simp[db];omega
 have o:p.aiA 1000000000000=true/\q.aiA 1000000000000=true:=by
  have h:=N;rw[f,Fm.ez] at h;simp only[SU,AZ,HR,zj,fK] at h;exact h
 have R:=p.dr;rw[B];simp only[dA,fh,im,lY,cv]
 by_cases C:dw p.aiu 1=true
 .rw[cS C];exact no
 rw[cO C]
 have D:p.aiu=1:=by simpa[dw] using C
 obtain⟨u,v,i,hu,Y⟩:=Fm.aff L D;have F:p.dc=[u,v]:=(congrArg Fm.dc i).trans rfl
 have j:u.aiA 1000000000000=true:=by
  have:=o.1;rw[i,Fm.ez] at this;simp only[AZ,fK] at this;exact this.1.1
 have S:p.aiw=1+u.aiw+v.aiw:=by rw[i,Fm.cQ];simp[db];omega
 rw[F];simp only[dA,im,cv]
 by_cases c5:dw u.aiu 3=true
 .rw[cS c5,cS trivial];exact no
 rw[cO c5]
 have G:u.aiu=3:=by simpa[dw] using c5
 obtain⟨c,d,l,Z,T⟩:=Tm.ade hu G;have H:u.aiv=[c,d]:=(congrArg Tm.aiv l).trans rfl
 have U:u.aiw=1+c.aiw+d.aiw:=by rw[l,Tm.cQ];simp[db];omega
 have I:d.aiA 1000000000000=true:=by
  rw[l,Tm.ez] at j;simp only[AZ,fK] at j;exact j.2.2.1
 rw[H];simp only[fh,lY,im,cv];rw[As 0 ⟨T,I,VW⟩,cv];have yes:∃b t w ok,(some (dj (Fm.mk k s [] [a]).aiu 4,d,q,true):Option (Bool×Tm×Fm×Bool))=some (b,t,w,ok)/\(ok=true->w.ok=true/\w.aiw<a.aiw/\w.aiA 1000000000000=true):=⟨_,_,_,_,rfl,λ_=>⟨P,VW,o.2⟩⟩
 by_cases M:lQ (d.aiC 0:Int) 0=true
 .rw[cS M,cS trivial];exact no
 rw[cO M];have hw:=p.hI L;obtain⟨r,V,_⟩:=Aq FU p (ZO (.mk 1 0 (.mk 0 []) []) d) (by rw[dY];omega) VW;rw[show gz 0=some (Tm.mk 1 0 (.mk 0 []) [])from rfl,cv,HP,cv,V,cv];cases r with
 |true=>rw[show oF true=false from rfl,cO ab9];exact yes|false=>rw[show oF false=true from rfl,cS rfl];exact no
def MX:∀(n:Nat) (f:Fm),f.aiw<=n->f.aiw<=1000000->f.ok=true->f.aiA 1000000000000=true->∃m,mU n f=some m/\Mk f.has m:=by
 intro n
 induction n with
 |zero=>intro f h;have:=f.dr;omega
 |succ n ih=>
  intro f hn i x c;refine Fm.nW (p:=λf=>f.aiw<=n+1->f.aiw<=1000000->f.ok=true->f.aiA 1000000000000=true->∃m,mU (n+1) f=some m/\Mk f.has m) ?_ ?_ ?_ f x hn i x c
  .intro a b _ _ _ _ _ _;rw[mU,cS adL];exact⟨6,rfl,by rw[Fm.has_eq];exact Mk.six⟩
  .intro k a b y A B _ _ hn i _ c;rw[Fm.cQ] at hn i;simp only[db] at hn i;rw[Fm.ez] at c;simp only[SU,AZ,HR,zj,fK] at c;obtain⟨m1,C,u⟩:=ih a VW VW A c.1;obtain⟨m2,D,w⟩:=ih b VW VW B c.2
   have d:k≠1:=VW
   have F:ep (dj k 2) true (dj k 3)=true:=by rcases y with rfl|rfl<;>rfl
   rw[mU,cO (show¬dj (Fm.mk k (.mk 0 []) [] [a,b]).aiu 1=true by simpa[dj] using d)]
   have G:dg [a,b] (ed .i64 (dq [a,b]) 1)=some b:=by rw[et acZ acZ];rfl
   simp only[Fm.dh,G,cv,D,c6];rw[cS (show ep (dj (Fm.mk k (.mk 0 []) [] [a,b]).aiu 2) true (dj (Fm.mk k (.mk 0 []) [] [a,b]).aiu 3)=true from F)];simp only[dA,im,cv,C,Fm.dn];refine⟨_,rfl,?_⟩;rw[Fm.QM,cO d];have o:=(u.and w).and Mk.six;rw[Bool.and_false] at o;rcases y with rfl|rfl
   .rw[show ep (dj 2 2) (xK .u8 m2 m1) m2=xK .u8 m2 m1 from rfl];have j:=(w.or u).and Mk.one;rw[HR] at j;have:=o.or j;rw[RI,Bool.or_comm] at this;simpa using this
   .rw[show ep (dj 3 2) (xK .u8 m2 m1) m2=m2 from rfl];have j:=w.and Mk.one;rw[HR] at j;have:=o.or j;rw[RI] at this;simpa using this
  .intro k s a y hs A _ hn i x c;have H:=i;rw[Fm.cQ] at hn i;simp only[db] at hn i;rw[Fm.ez] at c;simp only[SU,AZ,HR,zj] at c;obtain⟨m1,C,u⟩:=ih a VW VW A c
   have d:k≠1:=VW
   have F:ep (dj k 2) true (dj k 3)=false:=by rcases y with rfl|rfl|rfl|rfl<;>rfl
   rw[mU,cO (show¬dj (Fm.mk k s [] [a]).aiu 1=true by simpa[dj] using d)]
   have G:dg [a] (ed .i64 (dq [a]) 1)=some a:=by rw[et acZ acZ];rfl
   simp only[Fm.dh,G,cv,C,c6];rw[cO (show¬ep (dj (Fm.mk k s [] [a]).aiu 2) true (dj (Fm.mk k s [] [a]).aiu 3)=true by rw[show ep (dj (Fm.mk k s [] [a]).aiu 2) true (dj (Fm.mk k s [] [a]).aiu 3)=false from F];decide)];obtain⟨b,t,q,ok,M,N⟩:=G1 x H c A;rw[M]
   have fin:∀(v:Int) (L:Mk (Fm.mk k s [] [a]).has v),∃m,(QU (some (b,t,q,ok)) λO P I J=>if J then(cM (mU n I) λr=>some (xK .u8 (qi .u8 v 1) (qi .u8 r 4)))else(some (qi .u8 v 1)))=some m/\Mk (Fm.mk k s [] [a]).has m:=by
    intro v L;show∃m,(if ok then(cM (mU n q) λr=>some (xK .u8 (qi .u8 v 1) (qi .u8 r 4)))else(some (qi .u8 v 1)))=some m/\Mk (Fm.mk k s [] [a]).has m;have o:=L.and Mk.one;rw[HR] at o;cases ok with
    |false=>exact⟨_,rfl,o⟩|true=>
     obtain⟨d1,d2,d3⟩:=N rfl;obtain⟨m2,D,w⟩:=ih q VW VW d1 d3;rw[cS rfl,D];refine⟨_,rfl,?_⟩;have j:=w.and Mk.four;rw[Bool.and_false] at j;have:=o.or j
     rwa [Bool.or_false] at this
   have l:(Fm.mk k s [] [a]).has=if k=5 then true else a.has:=by
    rw[Fm.Rh,cO d]
   by_cases K:k=5
   .subst K;rw[cS adL];refine fin _ ?_;rw[l,cS rfl];have:=u.or Mk.one
    rwa [Bool.or_true] at this
   .rw[cO (show¬dj (Fm.mk k s [] [a]).aiu 5=true by simpa[dj] using K)];refine fin _ ?_;rw[l,cO K];exact u
def Ds{f:Fm}(hw:f.wt<=1000000000)(b:f.aiA 1000000000000=true):oc f=some (if f.err≠0 then(false,f.err)else(f.has,0)):=by
 unfold oc zS;rw[j9 hw,cv]
 by_cases he:f.err=0
 .obtain⟨a,hn⟩:=Fm.fQ he;obtain⟨m,c,d⟩:=MX FU f (by have:=dY;omega) VW a b;rw[cO (by rw[c9];simpa using he),c,cv,d.bit,cN,cO (by simpa using he)]
 .rw[cS (by rw[c9];exact he),cN,cS he]
def iA{α:Type}(m:List (Int×α)):List Int:=m.map (·.1)
def yr{α:Type}(k:Int)(v:α):∀(m:List (Int×α)) (x:Int),x∈iA (tc m k v)↔x=k\/x∈iA m
 |[],x=>by simp[tc,iA]|p::m,x=>by
  unfold tc
  by_cases h:p.1=k
  .rw[cS h];subst h;simp[iA]
  .rw[cO h];have ih:=yr k v m x;simp only[iA,Dk,j8] at ih|-;rw[ih];constructor
   .rintro(h|h|h)
    .exact .inr (.inl h)
    .exact .inl h
    .exact .inr (.inr h)
   .rintro(h|h|h)
    .exact .inr (.inl h)
    .exact .inl h
    .exact .inr (.inr h)
def Bf{α:Type}(k:Int)(v:α):∀(m:List (Int×α)),(iA m).Nodup->(iA (tc m k v)).Nodup
 |[],_=>by simp[tc,iA]|p::m,h=>by
  have b:p.1∉iA m/\(iA m).Nodup:=Ux.1 h;unfold tc
  by_cases a:p.1=k
  .rw[cS a];subst a;exact h
  .rw[cO a];refine Ux.2 ⟨λhm=>?_,Bf k v m b.2⟩;rcases(yr k v m p.1).1 hm with e|e
   .exact a e
   .exact b.1 e
def BI{α:Type}(k:Int)(v:α):∀(m:List (Int×α)),(tc m k v).length<=m.length+1
 |[]=>by simp[tc]|p::m=>by
  unfold tc
  split
  .simp
  .have:=BI k v m;simp only[kL];omega
def Mw(n:Int):∀l:List Int,(AP n l).length=l.length+1
 |[]=>rfl|a::l=>by
  unfold AP
  split
  .rfl
  .simp[Mw n l]
def JS:∀(l acc:List Int),(xT acc l).length=acc.length+l.length
 |[],acc=>by simp[xT]|a::l,acc=>by rw[xT,JS l,Mw];simp only[kL];omega
def I_:∀(n:Nat) (t:Tm) (d:Int) (m:List (Int×Bool)),t.aiw<=n->t.aiw<=100000000->0<=d->d+t.aiw<=1000000000->t.aiA 4611686018427387904=true->(iA m).Nodup->∃y,qp n t d m=some y/\(iA y).Nodup/\y.length<=m.length+t.aiw/\∀x,x∈iA y↔x∈iA m\/(0<=x/\0<t.aiC (x+d)):=by
 intro n
 induction n with
 |zero=>intro t d m h;have:=t.dr;omega
 |succ n ih=>
  intro t d m hn B O P I hm;cases t with
  |mk k i s l=>
   have J:=kr k;rw[Tm.cQ] at hn B P;have hlen:=fR Tm.aiw l λt _=>t.dr;rw[Tm.ez,fK,oq,j3] at I
   have aiv:∀(F:Int->Tm->List (Int×Bool)->Option (dV (List (Int×Bool)) (List (Int×Bool)))),(∀j x v,F j x v=cM (kC (Tm.mk k i s l)) λb=>cM (qp n x (dF .i64 d b) v) λr=>some (.next r))->∀(as:List Tm) (j:Nat) (v:List (Int×Bool)),(∀a∈as,a∈l)->(iA v).Nodup->∃f,dH F as j v=some (.inl f)/\(iA f).Nodup/\f.length<=v.length+db Tm.aiw as/\∀x,x∈iA f↔x∈iA v\/(0<=x/\0<db (Tm.aiC (x+d+e9 k)) as):=by
    intro F hF as
    induction as with
    |nil=>intro j v _ C;exact⟨v,rfl,C,by simp[db],λx=>by simp[db]⟩|cons a as D=>
     intro j v has C;have K:=has a acZ;have Q:=di Tm.aiw K;have G:=I.2 a K;obtain⟨v1,o,q,L,u⟩:=ih a (d+e9 k) v VW VW VW VW G C;obtain⟨v2,g1,g2,g3,g4⟩:=D (j+1) v1 (λb B=>has b (by simp[B])) q;refine⟨v2,?_,g2,by simp only[db];omega,λx=>?_⟩
     .rw[dJ,hF,mX];simp only[cv,Tm.dn];rw[dP VW VW,o];simp only[cv,dQ];exact g1
     .rw[g4,u];simp only[db];rw[<-Int.add_assoc];constructor
      .rintro((h|h)|h)
       .exact .inl h
       .exact .inr ⟨h.1,VW⟩
       .exact .inr ⟨h.1,VW⟩
      .rintro(h|⟨h,A⟩)
       .exact .inl (.inl h)
       .by_cases R:0<a.aiC (x+d+e9 k)
        .exact .inl (.inr ⟨h,R⟩)
        .exact .inr ⟨h,VW⟩
   unfold qp;simp only[c6,Tm.dh,c8 (l:=l) VW,cY,Tm.dn,Tm.eW];rw[Tm.cQ]
   by_cases w:k=1/\d<=i
   .have c:ep (dj k 1) (pH i d) false=true:=by simp[ep,w.1,w.2]
    simp only[c,if_true];rw[et VW VW];obtain⟨f,o,q,L,u⟩:=aiv _ (λ_ _ _=>rfl) l 0 (tc m (i-d) true) (λa h=>h) (Bf _ _ _ hm);refine⟨f,by rw[o];rfl,q,by have:=BI (i-d) true m;omega,λx=>?_⟩;rw[u,yr,Tm.fB];constructor
    .rintro((h|h)|h)
     .exact .inr ⟨VW,by rw[cS ⟨w.1,VW⟩];omega⟩
     .exact .inl h
     .exact .inr ⟨h.1,VW⟩
    .rintro(h|⟨h,A⟩)
     .exact .inl (.inr h)
     .by_cases M:x=i-d
      .exact .inl (.inl M)
      .rw[cO (λN=>M VW)] at A;exact .inr ⟨h,VW⟩
   .have c:ep (dj k 1) (pH i d) false=false:=by
     unfold ep
     split
     .rename_i S
      have H:k=1:=by simpa using S
      simp only[pH,aby]
      exactλh=>w ⟨H,h⟩
     .rfl
    simp only[c,oo,lS];obtain⟨f,o,q,L,u⟩:=aiv _ (λ_ _ _=>rfl) l 0 m (λa h=>h) hm;refine⟨f,by rw[o];rfl,q,VW,λx=>?_⟩;rw[u,Tm.fB];constructor
    .rintro(h|h)
     .exact .inl h
     .exact .inr ⟨h.1,VW⟩
    .rintro(h|⟨h,A⟩)
     .exact .inl h
     .rw[cO (λN=>w ⟨N.1,VW⟩)] at A;exact .inr ⟨h,VW⟩
def H9{t:Tm}(hw:t.wt<=1000000000)(d:t.aiA 4611686018427387904=true)(he:t.err=0):∃l,uu t=some (l,0)/\FA l/\l.length<=4096/\∀x,x∈l↔0<=x/\0<t.aiC x:=by
 have hn:t.aiw<=4096:=by
  unfold Tm.err at he
  split at he
  .split at he
   .cases he
   .omega
  .cases he
 obtain⟨m,f,c,h,i⟩:=I_ FU t 0 [] (by rw[dY];omega) VW VW VW d (by simp[iA])
 have a:(m.map (·.1)).Nodup:=c
 have b:m.length<=4096:=by simpa using AK h (by simpa using hn)
 refine⟨xT [] (iA m),?_,zW _ [] .nil c acZ,?_,λx=>?_⟩
 .unfold uu;rw[lK hw,he];simp only[cv];rw[cO ab9,f];simp only[cv];unfold pA
  rw[c8 VW,cY,show w5 (m.map (·.1))=true from by simp[w5,a],cY]
  rfl
 .rw[JS];simp[iA,b]
 .rw[zC,i];simp[iA]
def Fo{n:Int}(a:0<=n)(b:n<4294967296):IntKind.u32.wrap n=n:=by
 unfold IntKind.wrap;simp only[show IntKind.u32.bits=32 from rfl,show IntKind.u32.signed=false from rfl,aaX,oo,lS,show((2:Int)^32)=4294967296 from rfl];omega
def Lq(a:Nat):BitVec.ofInt 32 (a:Int)=BitVec.ofNat 32 a:=acZ
def Ly{a b:Nat}(d:a<4294967296)(f:b<4294967296):xK .u32 (a:Int) (b:Int)=((a|||b:Nat):Int):=by
 unfold xK;have c:a|||b<2^32:=acA VW VW;rw[show IntKind.u32.bits=32 from rfl,Lq,Lq,BitVec.toNat_or,YR,YR,Uh VW,Uh VW];exact Fo VW VW
def LX{a b:Nat}(d:a<4294967296)(f:b<4294967296):qi .u32 (a:Int) (b:Int)=((a&&&b:Nat):Int):=by
 unfold qi;have c:a&&&b<2^32:=af1 _ VW;rw[show IntKind.u32.bits=32 from rfl,Lq,Lq,BitVec.toNat_and,YR,YR,Uh VW,Uh VW];exact Fo VW VW
def UO{k:Nat}(b:k<32):Uq .u32 1 (k:Int)=((2^k:Nat):Int):=by
 unfold Uq;rw[show IntKind.u32.bits=32 from rfl,z_,Ti VW,Int.one_mul];have a:2^k<2^32:=Zv ab9 b;rw[show((2:Int)^k)=((2^k:Nat):Int) by push_cast;rfl];exact Fo (aeo _) (Int.ofNat_lt.2 (agp a rfl))
def Vv{a k:Nat}(b:k<=32):T4 .u32 (a:Int) (k:Int)=((a/2^k:Nat):Int):=by
 unfold T4;rw[show IntKind.u32.bits=32 from rfl,z_,Ti b];rw[show((2:Int)^k)=((2^k:Nat):Int) by push_cast;rfl];rw[Int.fdiv_eq_ediv_of_nonneg _ (aeo _)];rfl
structure Us (l:List Int) (m:Nat):Prop where
 lt:m<4294967296
 pos:∀x∈l,0<=x
 srt:FA l
 mem:∀i:Nat,(i:Int)∈l↔m.testBit i=true
def Us.nil:Us [] 0:=⟨ab9,acZ,by first|exact .nil|trivial|simp[FA],acZ⟩
def DO{i b:Int}{m:Nat}(hm:m<4294967296)(o:0<=i)(q:i<=1000000000000)(r:0<=b)(s:b<=1000000000)(t:i-b<32):∃c:Nat,mL i b (m:Int)=some (c:Int)/\c<4294967296/\∀j:Nat,c.testBit j=true↔m.testBit j=true\/i=j+b:=by
 unfold mL
 by_cases h:b<=i
 .rw[cS (by rw[gI];exact h),et VW VW,show Jc (i-b)=true by simp[Jc];omega,cY];obtain⟨k,l⟩:∃k:Nat,i-b=(k:Int):=⟨(i-b).toNat,VW⟩
  have a:k<32:=VW
  have d:2^k<4294967296:=agp (Zv ab9 a) rfl;rw[l,UO a,Ly hm d];refine⟨m|||2^k,rfl,acA (n:=32) VW VW,λj=>?_⟩;rw[ab5,rD,Zc,OW];constructor
  .rintro(h|h)
   .exact .inl h
   .exact .inr VW
  .rintro(h|h)
   .exact .inl h
   .exact .inr VW
 .rw[cO (by rw[gI];exact h)];exact⟨m,rfl,hm,λj=>⟨.inl,λf=>f.elim id λf=>absurd f VW⟩⟩
def F1:∀(n:Nat) (t:Tm) (b:Int) (m:Nat),t.aiw<=n->t.aiw<=1000000->t.ok=true->t.aiA 1000000000000=true->0<=b->b+t.aiw<=1000000000->m<4294967296->(∀j:Int,32<=j->t.aiC (j+b)=0)->∃r:Nat,ja n t b (λ(s:Int) (w:Int) (x:Int)=>mL w x s) (m:Int)=some (r:Int)/\r<4294967296/\∀j:Nat,r.testBit j=true↔m.testBit j=true\/0<t.aiC (j+b):=by
 intro n
 induction n with
 |zero=>intro t b m h;have:=t.dr;omega
 |succ n ih=>
  intro t b m hn P Q y R A hm c;cases t with
  |mk k i s l=>
   rw[Tm.cQ] at hn P A;have hlen:=Tm.ek l;have hi:=Tm.kU Q;rw[Tm.ez,fK,OW,j3] at y;have S:=kr k;rw[ja];simp only[c6]
   have B:∀j:Int,32<=j->∀t∈l,t.aiC (j+(b+e9 k))=0:=by
    intro j C t T;have D:=c j C;rw[Tm.fB] at D;have X:=di (Tm.aiC (j+b+e9 k)) T;rw[show j+(b+e9 k)=j+b+e9 k by omega];omega
   have loop:∀(ts:List Tm) (j:Nat) (v:Nat),(∀t∈ts,t∈l)->v<4294967296->∃F:Nat,dH (λ(U:Int) (G:Tm)=>(λ(v28:Int)=>
      cM (ja n G (b+e9 k) (λ(s:Int) (w:Int) (x:Int)=>mL w x s) v28) λH=>
      some ((.next H):dV Int Int))) ts j (v:Int)=some (.inl (F:Int))/\F<4294967296/\∀q:Nat,F.testBit q=true↔v.testBit q=true\/0<db (Tm.aiC (q+b+e9 k)) ts:=by
    intro ts
    induction ts with
    |nil=>intro j v _ I;exact⟨v,acZ,I,λq=>by simp[db]⟩|cons t ts J=>
     intro j v d I;have a:=d t acZ;have V:=di Tm.aiw a;obtain⟨v1,K,L,M⟩:=ih t (b+e9 k) v VW VW (hi.2.2.2.1 t a) (y.2 t a) VW VW I (λj C=>B j C t a);obtain⟨v2,f1,f2,f3⟩:=J (j+1) v1 (λu hu=>d u (by simp[hu])) L;refine⟨v2,?_,f2,λq=>?_⟩
     .rw[dJ,K];simp only[cv,dQ];exact f1
     .rw[f3,M];simp only[db];rw[show(q:Int)+(b+e9 k)=q+b+e9 k by omega];constructor
      .rintro((h|h)|h)
       .exact .inl h
       .exact .inr VW
       .exact .inr VW
      .rintro(h|h)
       .exact .inl (.inl h)
       .by_cases W:0<t.aiC (q+b+e9 k)
        .exact .inl (.inr W)
        .exact .inr VW
   by_cases N:k=1
   .subst N;rw[cS (show dj (Tm.mk 1 i s l).aiu 1=true from rfl)];simp only[Tm.dh,Tm.dn,Tm.eW]
    have O:i-b<32:=by
     rcases Int.lt_or_le (i-b) 32 with h|h
     .exact h
     .have D:=c (i-b) h;rw[Tm.fB,cS ⟨rfl,VW⟩] at D;omega
    obtain⟨m1,K,L,M⟩:=DO hm hi.2.1 y.1 R VW O;rw[K,cv,w4 1 b VW VW,c8 VW,cY];obtain⟨m2,f1,f2,f3⟩:=loop l 0 m1 (λt h=>h) L;refine⟨m2,?_,f2,λq=>?_⟩
    .have f:=f1;rw[show((0:Nat))=0 from rfl] at f;rw[f,cv];rfl
    .rw[f3,M,Tm.fB]
     by_cases o:i=q+b
     .rw[cS ⟨rfl,o⟩];exact⟨λ_=>.inr VW,λ_=>.inl (.inr o)⟩
     .rw[cO (λh=>o h.2),tg];exact⟨λh=>h.elim (λh=>h.elim .inl λh=>absurd h o) .inr,λh=>h.elim (λh=>.inl (.inl h)) .inr⟩
   .rw[cO (show¬dj (Tm.mk k i s l).aiu 1=true by simpa[dj] using N)];simp only[Tm.dh,Tm.dn,Tm.eW];rw[w4 k b VW VW,c8 VW,cY];obtain⟨m2,f1,f2,f3⟩:=loop l 0 m (λt h=>h) hm;refine⟨m2,by rw[f1,cv];rfl,f2,λq=>?_⟩;rw[f3,Tm.fB,cO (λh=>N h.1),tg]
def XE{t:Tm}(he:t.err=0)(b:t.aiA 1000000000000=true)(c:∀j:Int,32<=j->t.aiC j=0):∃(l:List Int) (m:Nat),jc t=some (m:Int)/\jJ t=some l/\Us l m/\∀x,x∈l↔0<=x/\0<t.aiC x:=by
 obtain⟨a,hn⟩:=Tm.fQ he;have hw:=t.hI a;obtain⟨m,d,f,h⟩:=F1 FU t 0 0 (by have:=dY;omega) VW a b VW VW ab9 (λj k=>by rw[yd];exact c j k);obtain⟨l,g1,g2,_,g4⟩:=H9 (t:=t) VW (Tm.lG t VW b) he;refine⟨l,m,?_,by unfold jJ;rw[g1];rfl,⟨f,λx n=>((g4 x).1 n).1,g2,λi=>?_⟩,g4⟩
 .unfold jc qJ;rw[show(0:Int)=((0:Nat):Int)from rfl] at*;rw[d];rfl
 .rw[g4,h,yd];simp
def sd(v:List (Int×Bool))(l:List Int):List (Int×Bool):=l.foldl (λv x=>tc v x true) v
def xN:∀(l:List Int) (v:List (Int×Bool)),(iA v).Nodup->(iA (sd v l)).Nodup/\(sd v l).length<=v.length+l.length/\∀x,x∈iA (sd v l)↔x∈iA v\/x∈l
 |[],v,h=>⟨h,by simp[sd],λx=>by simp[sd]⟩|y::l,v,h=>by
  obtain⟨a,c,b⟩:=xN l (tc v y true) (Bf y true v h);refine⟨a,?_,λx=>?_⟩
  .have:=BI y true v;show(sd (tc v y true) l).length<=_;rw[kL];omega
  .show x∈iA (sd (tc v y true) l)↔_;rw[b,yr,j8];constructor
   .rintro((h|h)|h)
    .exact .inr (.inl h)
    .exact .inl h
    .exact .inr (.inr h)
   .rintro(h|h|h)
    .exact .inl (.inr h)
    .exact .inl (.inl h)
    .exact .inr h
def FY{ρ:Type}:∀(l:List Int) (j:Nat) (v:List (Int×Bool)),dH (λ(c:Int) (a:Int)=>(λ(b:(List (Int×Bool)))=>some ((.next (tc b a true)):dV (List (Int×Bool)) ρ))) l j v=some (.inl (sd v l))
 |[],j,v=>by rw[nY];rfl|x::l,j,v=>by
  rw[dJ];simp only[cv,dQ];exact FY l (j+1) (tc v x true)
def G3{a b:List Int}(h:a.length<=1000000)(i:b.length<=1000000):∃l,fq a b=some l/\FA l/\∀x,x∈l↔x∈a\/x∈b:=by
 obtain⟨c,d,f⟩:=xN a [] (by simp[iA]);obtain⟨g1,g2,g3⟩:=xN b (sd [] a) c;refine⟨xT [] (iA (sd (sd [] a) b)),?_,zW _ _ .nil g1 acZ,λx=>?_⟩
 .unfold fq;simp only[c6];rw[c8 VW,cY];rw[FY a 0 [],cv,dk,c8 VW,cY,FY b 0 _,cv,dk];unfold pA;simp only[uz] at d;rw[c8 VW,cY,show w5 (List.map (λx=>x.1) (sd (sd [] a) b))=true from vD g1,cY];rfl
 .rw[zC,g3,f];simp[iA]
def Us.union{a b:List Int}{m n:Nat}(c:Us a m)(d:Us b n)(f:a.length<=1000000)(j:b.length<=1000000):∃l,fq a b=some l/\xK .u32 (m:Int) (n:Int)=((m|||n:Nat):Int)/\Us l (m|||n)/\∀x,x∈l↔x∈a\/x∈b:=by
 obtain⟨l,o,q,k⟩:=G3 f j;refine⟨l,o,Ly c.lt d.lt,⟨acA (n:=32) (by have:=c.lt;omega) (by have:=d.lt;omega),λx r=>?_,q,λi=>?_⟩,k⟩
 .rcases(k x).1 r with h|h
  .exact c.pos x h
  .exact d.pos x h
 .rw[k,c.mem,d.mem,ab5,rD]
def Us.bound{l:List Int}{m:Nat}(h:Us l m):∀x∈l,x<32:=by
 intro x a;have b:=h.pos x a;obtain⟨k,rfl⟩:=acw b;have:=(h.mem k).1 a;rcases s8 k 32 with h1|h1
 .omega
 .exfalso;have c:m<2^k:=R0 h.lt (AK (by decide:4294967296<=2^32) (Nat.pow_le_pow_right ab9 h1));rw[Nat.testBit_lt_two_pow c] at this;cases this
def wc(k:Int)(l:List Int):List Int:=(l.filter λx=>decide (k<=x)).map λx=>x-k
def Ga{k:Int}(d:0<=k)(b:k<=1000):∀(l:List Int) (j:Nat) (v:List Int),(∀x∈l,0<=x/\x<32)->v.length+l.length<=1000000->dH (λ(f:Int) (a:Int)=>(λ(v44:List Int)=>
   if(pH a k) then(
   fa (eO v44 [(ed .i64 a k)])<|some ((.next (fu v44 [(ed .i64 a k)])):dV (List Int) (List Int)))
   else(some (.next v44)))) l j v=some (.inl (v++wc k l))
 |[],j,v,_,_=>by simp[wc]|x::l,j,v,h,i=>by
  simp only[kL] at i;have n:=h x acZ;rw[dJ]
  by_cases c:k<=x
  .rw[cS (by rw[gI];exact c),dS ado,cY,et VW VW];simp only[cv,dQ];rw[fj,Ga d b l (j+1) _ (λy hy=>h y (by simp[hy])) ado];simp[wc,c]
  .rw[cO (by rw[gI];exact c)];simp only[cv,dQ];rw[Ga d b l (j+1) v (λy hy=>h y (by simp[hy])) VW];simp[wc,c]
def DQ{l:List Int}{m:Nat}(h:Us l m)(d:l.length<=1000000){k:Int}(c:0<=k)(a:k<=1000):fv l k=some (wc k l):=by
 unfold fv;simp only[c6];rw[c8 VW,cY,Ga c a l 0 [] (λx b=>⟨h.pos x b,h.bound x b⟩) ado,cv,dk,oE]
def GM(k:Int)(l:List Int)(x:Int):x∈wc k l↔x+k∈l/\0<=x:=by
 unfold wc;simp only[nj,Yf,OW];constructor
 .rintro⟨y,⟨a,b⟩,rfl⟩;exact⟨by rw[Int.sub_add_cancel];exact a,VW⟩
 .rintro⟨a,b⟩;exact⟨x+k,⟨a,VW⟩,VW⟩
def MR(k:Int):∀{l:List Int},FA l->FA (wc k l)
 |[],_=>.nil|a::l,.cons d f=>by
  have ih:=MR k f
  by_cases c:k<=a
  .have e:wc k (a::l)=(a-k)::wc k l:=by simp[wc,c]
   rw[e];refine .cons (λb h=>?_) ih;have:=d _ ((GM k l b).1 h).1;omega
  .have e:wc k (a::l)=wc k l:=by simp[wc,c]
   rw[e];exact ih
def Us.out{l:List Int}{m:Nat}(h:Us l m)(a:l.length<=1000000){k:Nat}(b:k<=32):fv l (k:Int)=some (wc k l)/\eh (m:Int) (k:Int)=some ((m/2^k:Nat):Int)/\Us (wc k l) (m/2^k):=by
 refine⟨DQ h a VW VW,?_,⟨ae6 (Nat.div_le_self _ _) h.lt,λx c=>((GM _ _ _).1 c).2,MR _ h.srt,λi=>?_⟩⟩
 .unfold eh;rw[show Jc (k:Int)=true by simp[Jc],cY,Vv b]
 .rw[GM,show(i:Int)+(k:Int)=((i+k:Nat):Int) by omega,h.mem]
  have e:(m/2^k).testBit i=m.testBit (i+k):=by rw[Nat.testBit_div_two_pow]
  rw[e];exact⟨λh=>h.1,λh=>⟨h,VW⟩⟩
def Tm.up_add(f b c:Int)(n:0<=b):∀(t:Tm) (d:Int),(t.up (f+d) b).up (f+d) c=t.up (f+d) (b+c):=by
 intro t
 induction t using Tm.ind with
 |h k i s l ih=>
  intro d;rw[Tm.kO,Tm.kO,Tm.kO]
  congr 1
  .by_cases a:k=1/\f+d<=i
   .rw[cS a,cS ⟨a.1,VW⟩];omega
   .rw[cO a,cO a,cO a]
  .rw[Qy]
   exact ui λx j=>by
    have:=ih x j (d+e9 k);rw[show f+(d+e9 k)=f+d+e9 k by omega] at this;exact this
def Fm.up_add(f b c:Int)(a:0<=b):∀(t:Fm) (d:Int),(t.up (f+d) b).up (f+d) c=t.up (f+d) (b+c):=by
 intro t
 induction t using Fm.ind with
 |h k s ts l ih=>
  intro d;rw[Fm.kO,Fm.kO,Fm.kO]
  congr 1
  .rw[Qy];exact ui λx _=>Tm.up_add f b c a x d
  .rw[Qy]
   exact ui λx i=>by
    have:=ih x i (d+qB k);rw[show f+(d+qB k)=f+d+qB k by omega] at this;exact this
def Fm.ac'(t:Fm){b c:Int}(a:0<=b):(t.up 0 b).up 0 c=t.up 0 (b+c):=by
 have:=Fm.up_add 0 b c a t 0
 rwa [yd] at this
def Fm.Ny(t:Fm):∀f,t.up f 0=t:=by
 induction t using Fm.ind with
 |h k s ts l ih=>
  intro f;rw[Fm.kO]
  congr 1
  .rw[ui (g:=id) λx _=>Tm.xE x _];simp
  .rw[ui (g:=id) λx a=>ih x a _];simp
def Fm.xE(t:Fm):t.up 0 0=t:=Fm.Ny t 0
structure Hy (f:Fm):Prop where
 err:f.err=0
 aiA:f.aiA 536870912=true
structure Y6 (p:cV) (c:cX):Prop where
 aiy:p.aiy=c.aiy.map rT
 vars:p.eV.vars=(c.aiy.length:Int)
 aiB:p.eV.aiB=(c.aiB.length:Int)
 ctx:gR c.aiy
 nv:c.aiy.length<=16
 nh:c.aiB.length<=16
 known:p.known.length=c.aiB.length
 hyp:∀(i:Nat) (x:c7) (h:Fm),p.known[i]?=some x->c.aiB[i]?=some h->Hy x.cU/\0<=x.vars/\x.vars<=c.aiy.length/\h=x.cU.up 0 (c.aiy.length-x.vars)
def Y6.with{p:cV}{c:cX}(h:Y6 p c){f:Fm}(o:Hy f)(hn:c.aiB.length+1<=16):∃k d,eM p f=some k/\fg c f=some d/\Y6 k d/\d.lemmas=c.lemmas/\d.aiy=c.aiy/\d.aiB=c.aiB++[f]:=by
 unfold eM fg;have l:=h.known;rw[dS ado,cY,dS ado,cY];refine⟨_,_,rfl,rfl,⟨h.aiy,h.vars,?_,h.ctx,h.nv,?_,?_,?_⟩,rfl,rfl,by simp only[fj]⟩
 .show dF .i64 p.eV.aiB 1=_;rw[h.aiB,dP (by have:=h.nh;omega) (by have:=h.nh;omega),fj];simp
 .show(fu c.aiB [f]).length<=16;rw[fj];simpa using hn
 .show(fu p.known _).length=(fu c.aiB [f]).length;simp[fj,l]
 .intro i x g b a
  have b:(p.known++[c7.mk f p.eV.vars])[i]?=some x:=by rw[<-fj];exact b
  have a:(c.aiB++[f])[i]?=some g:=by rw[<-fj];exact a
  rcases s8 i c.aiB.length with j|hge
  .rw[tJ VW] at b;rw[tJ j] at a;exact h.hyp i x g b a
  .have hi:i=c.aiB.length:=by
    have:=(mH.1 a).1;simp at this;omega
   subst hi;rw[yf VW,l,Yg] at b;rw[yf VW,Yg] at a;have q:c7.mk f p.eV.vars=x:=fU b;have r:f=g:=fU a;subst q;subst r;have n:=h.vars;refine⟨o,by show 0<=p.eV.vars;omega,by show p.eV.vars<=_;exact Int.le_of_eq n,?_⟩;show f=f.up 0 (c.aiy.length-p.eV.vars);rw[n,Int.sub_self];exact(Fm.xE f).symm
def gR.append{g l:List Ty}(h:gR g)(a:gR l):gR (g++l):=λs hs=>(rl.1 hs).elim (h s) (a s)
def DA{g l:List Ty}(a:gR l)(b:g.length+l.length<=900000):fk (g.map rT) l=some ((g++l).map rT):=by
 unfold fk;rw[uq a VW,cv,dS ado,cY,fj,List.map_append]
def Y6.below{p:cV}{c:cX}(h:Y6 p c){l:List Ty}(n:gR l)(hn:c.aiy.length+l.length<=16)(q:∀f∈c.aiB,f.err=0/\f.aiA 1000000000=true):∃o b,eH p l=some o/\ei c l=some b/\Y6 o b/\b.lemmas=c.lemmas/\b.aiy=c.aiy++l/\b.aiB=c.aiB.map (Fm.up 0 l.length):=by
 have r:=h.nh
 have s:eH p l=some (cV.mk (dW.mk (p.eV.vars+l.length) p.eV.aiB) ((c.aiy++l).map rT) p.known):=by
  unfold eH;rw[h.aiy,DA n VW,cv];have:=h.vars;rw[eo,dP VW VW]
 have t:ei c l=some (cX.mk c.lemmas (c.aiy++l) (c.aiB.map (Fm.up 0 l.length))):=by
  unfold ei;simp only[c6]
  rw[dS VW,cY,c8 VW,cY,gE (Fm.up 0 l.length) c.aiB 0 [] ado (λj x v u w=>by
   obtain⟨q1,q2⟩:=q x u;obtain⟨q3,y⟩:=Fm.fQ q1
   rw[eo,sR FU x 0 l.length (by rw[dY];omega) VW VW VW VW VW (Fm.lG x VW q2),cv,dS (by simpa using w),cY,fj])]
  rw[cv,dk,fj,oE]
 refine⟨_,_,s,t,⟨rfl,?_,?_,h.ctx.append n,?_,?_,?_,?_⟩,rfl,rfl,rfl⟩
 .show p.eV.vars+l.length=((c.aiy++l).length:Int);rw[h.vars];simp
 .show p.eV.aiB=((c.aiB.map (Fm.up 0 l.length)).length:Int);rw[h.aiB];simp
 .show(c.aiy++l).length<=16;simpa using hn
 .show(c.aiB.map (Fm.up 0 l.length)).length<=16;simpa using h.nh
 .show p.known.length=(c.aiB.map (Fm.up 0 l.length)).length;simpa using h.known
 .intro i x g d a;have d:p.known[i]?=some x:=d;have a:(c.aiB.map (Fm.up 0 l.length))[i]?=some g:=a;rw[yA] at a;cases k:c.aiB[i]?with
  |none=>rw[k] at a;cases a
  |some g0=>
   rw[k] at a;have a:g0.up 0 l.length=g:=fU a;obtain⟨a1,a2,a3,a4⟩:=h.hyp i x g0 d k;refine⟨a1,a2,?_,?_⟩
   .show x.vars<=((c.aiy++l).length:Int);simp;omega
   .show g=x.cU.up 0 (((c.aiy++l).length:Int)-x.vars);rw[<-a,a4,Fm.ac' _ VW]
    congr 1
    simp;omega
def Y6.O5{p:cV}{c:cX}(h:Y6 p c){i:Int}(hi:0<=i):if(c.aiB.length:Int)<=i then kc p i=some (.mk 0 (.mk 0 []) [] [],false)else∃f,dg c.aiB (ed .i64 (ed .i64 (dq c.aiB) 1) i)=some f/\kc p i=some (f,true):=by
 have j:=h.nh;have k:=h.known;unfold kc;rw[eo,k]
 split
 .rename_i d;rw[cS (by rw[gI];exact d)]
 .rename_i d;rw[cO (by rw[gI];exact d),eo,et (a:=(c.aiB.length:Int)) VW VW,et VW VW]
  have b:(((c.aiB.length:Int)-1-i).toNat)<c.aiB.length:=VW
  have e:(c.aiB.length:Int)-1-i=((((c.aiB.length:Int)-1-i).toNat:Nat):Int):=VW
  rw[e,gP,gP,l9 b,l9 VW];obtain⟨a1,a2,a3,a4⟩:=h.hyp _ _ _ (l9 VW) (l9 b);refine⟨_,rfl,?_⟩;obtain⟨q3,n⟩:=Fm.fQ a1.err;have l:=h.nv;rw[cv,h.vars,et VW VW,tr q3 VW (Fm.lG _ VW a1.aiA) VW VW VW VW,cv,<-a4]
def XS{t:Tm}(q:t.ok=true):uF t=some t.root:=by
 unfold uF;simp only[c6];cases t with
 |mk k i s l=>
  show(if(dj k 3) then(cM (dg l 0) λj=>some (dj j.aiu 2))else(
   if(dj k 6) then(cM (dg l 2) λf=>if(dj f.aiu 4) then some true else some (dj f.aiu 5))else(
   if(dj k 9) then(cM (dg l 2) λh=>if(dj h.aiu 7) then some true else some (dj h.aiu 8))else(
   if(ep (dj k 11) true (dj k 12)) then(cM (dg l 0) λn=>some (dj n.aiu 10))else some false))))=_
  unfold Tm.root
  by_cases r:k=3
  .subst r;obtain⟨a,b,rfl⟩:=Tm.ok3 q;rw[cS ab9];simp[dA,Tm.kd,tC]
  .rw[cO (by simpa using r)]
   by_cases u:k=6
   .subst u;obtain⟨a,b,c,rfl⟩:=Tm.ok6 q;rw[cS ab9];simp only[hV,lY,im,cv,Tm.kd,eT]
    by_cases o:c.aiu=4
    .simp[o]
    .simp[o,tC]<;>exact P6.2 Iff.rfl
   .rw[cO (by simpa using u)]
    by_cases v:k=9
    .subst v;obtain⟨a,b,c,rfl⟩:=Tm.ok9 q;rw[cS ab9];simp only[hV,lY,im,cv,Tm.kd,eT]
     by_cases o:c.aiu=7
     .simp[o]
     .simp[o,tC]<;>exact P6.2 Iff.rfl
    .rw[cO (by simpa using v)]
     by_cases d:k=11\/k=12
     .obtain⟨a,rfl⟩:=Tm.adf d q;rw[cS (by rcases d with rfl|rfl<;>rfl)];simp only[dA,im,cv,Tm.kd];rcases d with rfl|rfl<;>simp[tC]<;>exact P6.2 Iff.rfl
     .rw[cO (by simp only[kZ,rD,eT];exact d)];simp only[not_or] at d;simp[r,u,v,d.1,d.2]
def yh{t:Tm}(h:t.aiw<=1000000000):eQ FU t=some (t.aiw:Int):=nb FU t (by rw[dY];exact h) h
def SW{t:Tm}(r:t.ok=true)(hn:t.aiw<=8192)(f:t.root=true):re t=some ((t.eU.aiw:Int)-(t.aiw:Int)):=by
 have l:=Tm.JO r f;have u:=hn;unfold re;rw[yh VW];simp only[cv];cases l with
 |app=>
  rename_i i s c d b a;have o:=Tm.Dl (Tm.Dl r (.mk 2 c d [b]) acZ) b acZ;rw[Tm.cQ] at hn;simp only[db,Tm.cQ] at hn;rw[cS adL];simp only[Tm.dh,dA,fh,im,lY,cv];rw[yh (t:=b) VW,yh (t:=a) VW,zg FU b 0 (by rw[dY];omega) VW VW VW];simp only[cv];have v:=Tm.gZ b 0;have hmul:b.aiC 0*a.aiw<=8192*8192:=GF VW VW;have w:=Tm.qV a b 0 o;have x:=a.dr
  have e:(Tm.mk 3 i s [.mk 2 c d [b],a]).eU=Tm.iu 0 b a:=by simp[Tm.eU]
  rw[e]
  have hint:(b.aiC 0:Int)*((a.aiw:Int)-1)=((b.aiC 0*a.aiw:Nat):Int)-(b.aiC 0:Int):=by rw[X',YL];simp
  rw[et (a:=(a.aiw:Int)) VW VW,zM (by rw[hint];omega) (by rw[hint];omega),hint,dP VW VW,et VW VW]
  congr 1
  omega
 |proj q=>
  rename_i k i s c d a b;rw[Tm.cQ] at hn;simp only[db,Tm.cQ] at hn;rcases q with rfl|rfl
  .rw[cO acZ,cO acZ,cO acZ,cS adL];simp only[Tm.dh,dA,fh,im,lY,cv];rw[yh (t:=a) VW];simp only[cv];rw[et VW VW];simp[Tm.eU]
  .rw[cO acZ,cO acZ,cO acZ,cO acZ];simp only[Tm.dh,dA,fh,im,lY,cv];rw[yh (t:=b) VW];simp only[cv];rw[et VW VW];simp[Tm.eU]
 |zero q=>
  rename_i k y i s c d b st;rw[Tm.cQ] at hn;simp only[db,Tm.cQ] at hn
  have j:k≠3/\k≠11/\k≠12:=VW
  have:(Tm.mk k i s [b,st,.mk y c d []]).eU=b:=by simp[Tm.eU,j.1,j.2.1,j.2.2]
  rw[this];rcases q with⟨rfl,rfl⟩|⟨rfl,rfl⟩
  .rw[cO acZ,cS adL];simp only[Tm.dh,dA,fh,hV,im,lY,cv];rw[cS adL,yh (t:=b) VW];simp only[cv];rw[et VW VW]
  .rw[cO acZ,cO acZ,cS adL];simp only[Tm.dh,dA,fh,hV,im,lY,cv];rw[cS adL,yh (t:=b) VW];simp only[cv];rw[et VW VW]
 |succ=>
  rename_i i s c d b st n
  have e:(Tm.mk 6 i s [b,st,.mk 5 c d [n]]).eU=lv st [n,.mk 6 i s [b,st,n]]:=by simp[Tm.eU,lv]
  rw[e,ny];rw[Tm.cQ] at hn|-;simp only[db,Tm.cQ,kL,uz] at hn|-;rw[cO acZ,cS adL];simp only[Tm.dh,dA,fh,hV,im,lY,cv];rw[cO acZ,yh (t:=st) VW,yh (t:=n) VW];simp only[cv];rw[dP (a:=2) VW VW,dP (b:=(n.aiw:Int)) VW VW,dP VW VW,et (b:=1) VW VW,et VW VW]
  congr 1
  omega
 |cons=>
  rename_i i s c d b st h n
  have e:(Tm.mk 9 i s [b,st,.mk 8 c d [h,n]]).eU=lv st [h,n,.mk 9 i s [b,st,n]]:=by simp[Tm.eU,lv]
  rw[e,ny];rw[Tm.cQ] at hn|-;simp only[db,Tm.cQ,kL,uz] at hn|-;rw[cO acZ,cO acZ,cS adL];simp only[Tm.dh,dA,fh,hV,im,lY,cv];rw[cO acZ,yh (t:=st) VW,yh (t:=h) VW,yh (t:=n) VW];simp only[cv];rw[dP (a:=3) VW VW,dP (b:=(h.aiw:Int)) VW VW,dP (b:=(n.aiw:Int)) VW VW,dP VW VW,et (b:=1) VW VW,et (b:=(h.aiw:Int)) VW VW,et VW VW]
  congr 1
  omega
def OE{M:Int}(u:0<=M/\M<=1000000000000){t:Tm}(hs:Sm M t)(hn:t.aiw<=8192)(c:t.root=true):p8 t=some t.eU:=by
 have o:=hs.ok;have q:=Tm.JO o c;have hw:=Tm.hI t o;unfold p8;cases q with
 |app=>
  rename_i i s f j b a;have d:=(hs.arg (.mk 2 f j [b]) acZ).arg b acZ;have l:=hs.arg a acZ;have v:=d.aiw;have w:=l.aiw;rw[cS adL];simp only[Tm.dh,dA,fh,im,lY,cv];rw[DY FU b 0 0 a (by rw[dY];omega) VW VW VW VW (d.mono u.2).aiA d.ok VW (l.mono u.2).aiA];simp[Tm.eU]
 |proj r=>
  rename_i k i s f j a b;rcases r with rfl|rfl
  .rw[cO acZ,cO acZ,cO acZ,cS adL];simp[Tm.eU,dA]
  .rw[cO acZ,cO acZ,cO acZ,cO acZ];simp[Tm.eU,dA,fh]
 |zero r=>
  rename_i k x i s f j b st;rcases r with⟨rfl,rfl⟩|⟨rfl,rfl⟩
  .rw[cO acZ,cS adL];simp[Tm.eU,dA,hV,dj]
  .rw[cO acZ,cO acZ,cS adL];simp[Tm.eU,dA,hV,dj]
 |succ=>
  rename_i i s f j b st n;have hi:i=0:=(Tm.kU o).2.2.1 ab9;subst hi;rw[Tm.ee] at hw;simp only[db,Tm.ee] at hw;rw[cO acZ,cS adL];simp only[Tm.dh,dA,fh,hV,im,lY,cv,Tm.dU];rw[cO acZ,sG VW VW];simp only[cv];rw[CG VW VW VW VW];simp only[cv];rw[oK _ _ (by simp only[db,Tm.ee,Ty.z,Ty.cQ];omega)];simp[Tm.eU,lv,Ty.z]
 |cons=>
  rename_i i s f j b st h n;have hi:i=0:=(Tm.kU o).2.2.1 ab9;subst hi;rw[Tm.ee] at hw;simp only[db,Tm.ee] at hw;rw[cO acZ,cO acZ,cS adL];simp only[Tm.dh,dA,fh,hV,im,lY,cv,Tm.dU];rw[cO acZ,sG VW VW];simp only[cv];rw[oK _ _ (by simp only[db,Tm.ee,Ty.z,Ty.cQ];omega)];simp only[cv];rw[CG VW VW VW VW];simp only[cv];rw[oK _ _ (by simp only[db,Tm.ee,Ty.z,Ty.cQ];omega)];simp[Tm.eU,lv,Ty.z]
def acI(t:Tm)(o:Option (Option Tm))(r:Tm×Bool×Bool):Prop:=
 match o with
 |none=>r.2.1=true/\r.2.2=false|some none=>r=(t,false,true)|some (some a)=>r=(a,true,true)
def Re{M:Int}(G:0<=M/\M<=1000000000000)(room:Int):∀(n:Nat) (t:Tm),t.aiw<=n->Sm M t->t.aiw<=8192->∃r,o0 n t room=some r/\acI t (t.Jy room) r
 |0,t,hn,_,_=>by have:=t.dr;omega
 |n+1,.mk k i s l,hn,hs,F=>by
  rw[o0,XS hs.ok];simp only[cv];rw[Tm.Bc]
  by_cases x:(Tm.mk k i s l).root=true
  .rw[cS x,cS x,SW hs.ok F x];simp only[cv,fy]
   by_cases hg:((Tm.mk k i s l).eU.aiw:Int)-((Tm.mk k i s l).aiw:Int)>room
   .rw[cS hg,cS hg];exact⟨_,rfl,rfl,rfl⟩
   .rw[cO hg,cO hg,OE G hs F x];exact⟨_,rfl,rfl⟩
  .rw[cO x,cO x];rw[Tm.cQ] at hn F;have hlen:=Tm.ae3 hs.ok;simp only[Tm.dh,c6,c8 (l:=l) VW,cY,Tm.dn,Tm.eW,Tm.dU]
   have key:∀(ts pre:List Tm),l=pre++ts->∃o,dH (λ(a:Int) (y:Tm)=>(λ(_:Unit)=>
     g_ (o0 n y room) λA B C=>
     if B then(
     fa (xW l)<|cM (dg l a) λH=>
     some (dV.ret ((Tm.mk k i s (wF l a A)),true,C)))
     else(some (.next ())))) ts pre.length ()=some o/\(match Tm.rI room ts with
      |none=>∃r:Tm×Bool×Bool,o=.inr r/\r.2.1=true/\r.2.2=false|some none=>o=.inl ()|some (some h)=>o=.inr (Tm.mk k i s (pre++h),true,true)):=by
    intro ts
    induction ts with
    |nil=>intro pre _;exact⟨_,rfl,by rw[Tm.rI]⟩|cons t ts ih=>
     intro pre D
     have j:t∈l:=by rw[D];simp
     have I:=di Tm.aiw j;obtain⟨⟨u,b,c⟩,J,v⟩:=Re G room n t VW (hs.arg t j) VW;rw[dJ];simp only[J,mh]
     have d:dg l ((pre.length:Nat):Int)=some t:=by
      unfold dg;rw[cS VW];rw[D];simp
     have eR:wF l ((pre.length:Nat):Int) u=pre++u::ts:=by
      unfold wF;rw[D,z_,Hv]
     have f:xW l=true:=by
      unfold xW lim;have:0<l.length:=List.length_pos_of_mem j;exact vD VW
     rw[Tm.rI];unfold acI at v;cases e:t.Jy room with
     |none=>
      rw[e] at v;obtain⟨q1,q2⟩:=v;simp only at q1 q2;rw[cS q1,f,cY,d];exact⟨_,rfl,_,rfl,rfl,q2⟩
     |some o=>
      cases o with
      |none=>
       rw[e] at v;obtain⟨rfl,q⟩:=gu v;obtain⟨rfl,rfl⟩:=gu q;rw[cO ab9];simp only[cv,dQ];obtain⟨o,o1,o2⟩:=ih (pre++[u]) (by rw[D];simp);rw[qj] at o1;refine⟨o,o1,?_⟩;cases w:Tm.rI room ts with
       |none=>rw[w] at o2;exact o2
       |some q=>
        cases q with
        |none=>rw[w] at o2;exact o2
        |some h=>rw[w] at o2;simpa using o2
      |some K=>
       rw[e] at v;obtain⟨rfl,q⟩:=gu v;obtain⟨rfl,rfl⟩:=gu q;rw[cS rfl,f,cY,d];simp only[cv,eR];exact⟨_,rfl,rfl⟩
   obtain⟨o,o1,o2⟩:=key l [] rfl;rw[show(([]:List Tm).length)=0 from rfl] at o1;rw[o1];cases w:Tm.rI room l with
   |none=>
    rw[w] at o2;obtain⟨r,rfl,q1,q2⟩:=o2;exact⟨r,rfl,q1,q2⟩
   |some q=>
    cases q with
    |none=>rw[w] at o2;subst o2;exact⟨_,rfl,rfl⟩
    |some h=>rw[w] at o2;subst o2;exact⟨_,rfl,rfl⟩
def l5{t:Tm}(h:t.err=0):t.ok=true/\t.aiw<=4096:=Tm.fQ h
def B9(steps:Int)(B:0<=steps/\steps<=65536):∀(k:Nat) (m:Int) (t:Tm) (N:Nat),(k:Int)=steps-m->0<=m->Sm (536870912+8192*m) t->t.aiw<=4096->k<N->nt ((TC λ(d:Int) (f:Int) (i:Int) (j:Int) (l:List Ty) (n:List Tm)=>
   cM (eQ FU (Tm.mk f i (Ty.mk j l) n)) λv=>
   g_ (o0 FU (Tm.mk f i (Ty.mk j l) n) (ed .i64 4096 v)) λa w x=>
   if w then(
   if(dj d steps) then(
   some (.ret ((Tm.mk 0 0 (Ty.mk 0 []) []),0,5)))
   else(if x then(
   some (.next ((dF .i64 d 1),a.aiu,a.aix,a.cT.aiu,a.cT.aiv,a.aiv)))
   else(some (.ret ((Tm.mk 0 0 (Ty.mk 0 []) []),0,4)))))
   else(cM (iC FU (Tm.mk f i (Ty.mk j l) n)) λy=>
   some (.ret (y,d,0)))):(Int×Int×Int×Int×(List Ty)×(List Tm))->(Option (dV (Int×Int×Int×Int×(List Ty)×(List Tm)) (Tm×Int×Int)))) N (m,t.aiu,t.aix,t.cT.aiu,t.cT.aiv,t.aiv)=some (.inr (t.norm k m))
 |k,m,t,0,_,_,_,_,C=>by omega|k,m,t,N+1,F,hm,hs,hn,C=>by
  rw[kb];simp only[yu,aba];have hw:=Tm.hI t hs.ok;rw[yh VW];simp only[cv];rw[et VW VW];obtain⟨⟨u,b,c⟩,D,r⟩:=Re (M:=536870912+8192*m) VW (4096-t.aiw) FU t (by rw[dY];omega) hs VW;rw[D];simp only[mh];unfold acI at r;cases e:t.Jy (4096-t.aiw)with
  |none=>
   rw[e] at r;obtain⟨q1,q2⟩:=r;simp only at q1 q2;rw[cS q1];cases k with
   |zero=>
    have s:¬t.nf=true:=by
     intro h;rw[(GL _ t).1 h] at e;cases e
    rw[cS (by simp[dj];omega),Tm.norm,cO s];rfl
   |succ k=>
    rw[cO (by simp[dj];omega),cO (by rw[q2];decide),MO e];rfl
  |some o=>
   cases o with
   |none=>
    rw[e] at r;obtain⟨rfl,q⟩:=gu r;obtain⟨rfl,rfl⟩:=gu q;rw[cO ab9,mq VW];cases k with
    |zero=>rw[Tm.norm,cS ((GL _ _).2 e)];rfl|succ k=>rw[Jo e];rfl
   |some G=>
    rw[e] at r;obtain⟨rfl,q⟩:=gu r;obtain⟨rfl,rfl⟩:=gu q;rw[cS rfl];cases k with
    |zero=>
     have s:¬t.nf=true:=by
      intro h;rw[(GL _ t).1 h] at e;cases e
     rw[cS (by simp[dj];omega),Tm.norm,cO s];rfl
    |succ k=>
     obtain⟨s1,s2,H⟩:=Kn (M:=536870912+8192*m) VW t hs VW _ e;rw[cO (by simp[dj];omega),cS rfl,Jk e,dP VW VW];have A:Sm (536870912+8192*(m+1)) u:=⟨s1,by rw[show 536870912+8192*(m+1)=536870912+8192*m+8192 by omega];exact s2,VW⟩;exact B9 steps B k (m+1) u N VW VW A VW VW
def Jq:∀(k:Nat) (m:Int) (t p:Tm) (n e:Int),t.norm k m=(p,n,e)->e≠0->p=Tm.z
 |0,m,t,p,n,e,h,he=>by
  rw[Tm.norm] at h
  split at h
  .obtain⟨_,h⟩:=gu h;obtain⟨_,h⟩:=gu h;exact absurd h.symm he
  .exact(gu h).1.symm
 |k+1,m,t,p,n,e,h,he=>by
  rw[Tm.norm] at h
  split at h
  .exact(gu h).1.symm
  .obtain⟨_,h⟩:=gu h;obtain⟨_,h⟩:=gu h;exact absurd h.symm he
  .exact Jq k _ _ _ _ _ h he
def zt{t:Tm}(hw:t.wt<=1000000)(steps:Int):∃p m e,jt t steps=some (p,m,e)/\k8 t steps=some (p,m,e)/\p.wt<=1000000000:=by
 have j:=t.gM
 have c:Tm.z.wt<=1000000000:=ab9
 have a:=wO (t:=t) VW steps;unfold k8;rw[lK VW];simp only[cv]
 by_cases he:t.err=0
 .obtain⟨k,hn⟩:=l5 he;rw[cS he] at a;rw[cO (by simp[dw,he])];simp only[c6,kv,fy]
  by_cases a1:steps<0
  .rw[cO VW] at a;rw[cS a1,cS trivial];exact⟨_,_,_,a,rfl,c⟩
  .rw[cO a1]
   by_cases a2:steps>65536
   .rw[cO VW] at a;rw[cS a2,cS trivial];exact⟨_,_,_,a,rfl,c⟩
   .rw[cO a2,yM FU t 536870912 (by rw[dY];omega) VW];simp only[cv]
    by_cases b:t.aiA 536870912=true
    .rw[cS ⟨VW,VW,b⟩] at a;have hs:Sm 536870912 t:=⟨k,b,VW⟩;rw[b,cO ab9,B9 steps VW steps.toNat 0 t FU VW VW hs VW (by rw[dY];omega)];generalize d:t.norm steps.toNat 0=o at a;obtain⟨p,m,e⟩:=o;refine⟨p,m,e,a,rfl,?_⟩;have f:=NM steps.toNat 0 t
     by_cases i:e=0
     .subst i;obtain⟨q1,q2⟩:=Fz _ 536870912 _ _ _ _ VW hs hn d;have:=Tm.hI p q1.ok;omega
     .rw[Jq _ _ _ _ _ _ d i];exact c
    .rw[cO (λh=>b h.2.2)] at a;rw[cS (by rw[Bool.not_eq_true] at b;rw[b];rfl)];exact⟨_,_,_,a,rfl,c⟩
 .rw[cO he] at a;rw[cS (by simp[dw,he])];exact⟨_,_,_,a,rfl,c⟩
def JT{a b:Tm}(c:a.wt<=1000000000):∃r,qw a b=some r/\jD FU a b=some r:=by
 obtain⟨r,d,f⟩:=vL (b:=b) c;obtain⟨q,q1,q2⟩:=Ax FU a b (by rw[dY];exact c) c
 have:r=q:=by rw[CY,f,q2]
 subst this;exact⟨r,d,q1⟩
def Pm{a b:Tm}(o:a.wt<=1000000)(u:b.wt<=1000000)(steps:Int):∃c,ky a b steps=some c/\qM a b steps=some c:=by
 unfold ky qM;rw[oP VW,oP (t:=b) VW,lK VW,lK (t:=b) VW];simp only[cv]
 by_cases d:dw a.err 0=true
 .rw[cS d,cS d];exact⟨_,rfl,rfl⟩
 .rw[cO d,cO d]
  by_cases h:dw b.err 0=true
  .rw[cS h,cS h];exact⟨_,rfl,rfl⟩
  .rw[cO h,cO h];obtain⟨r,v,w⟩:=JT (a:=a) (b:=b) VW;rw[v,w];simp only[cv]
   by_cases i:r=true
   .rw[cS i,cS i];exact⟨_,rfl,rfl⟩
   .rw[cO i,cO i];obtain⟨p,m,e,x,y,A⟩:=zt o steps;obtain⟨q,n,f,q1,q2,q3⟩:=zt u steps;rw[x,y,q1,q2];simp only[mh]
    by_cases j:dw e 0=true
    .rw[cS j,cS j];exact⟨_,rfl,rfl⟩
    .rw[cO j,cO j]
     by_cases k:dw f 0=true
     .rw[cS k,cS k];exact⟨_,rfl,rfl⟩
     .rw[cO k,cO k];obtain⟨s,s1,s2⟩:=JT (a:=p) (b:=q) A;rw[s1,s2];simp only[cv]
      by_cases l:s=true
      .rw[cS l];exact⟨_,rfl,rfl⟩
      .rw[cO l];exact⟨_,rfl,rfl⟩
def C8{α:Type}{E E':α->α->Option Int}{M:List α}:∀(l:List α) (i:Nat),(∀x∈l,∀y∈M,∃c,E x y=some c/\E' x y=some c)->i+l.length<=M.length->∃o,dH (λ(d:Int) (f:α)=>(λ(_:Unit)=>cM (dg M d) λb=>cM (E f b) λa=>if(dw a 0) then(some (.ret a))else(some ((.next ()):dV Unit Int)))) l i ()=some o/\dH (λ(d:Int) (f:α)=>(λ(_:Unit)=>cM (dg M d) λb=>cM (E' f b) λa=>if(dw a 0) then(some (.ret a))else(some ((.next ()):dV Unit Int)))) l i ()=some o
 |[],i,_,_=>⟨.inl (),acZ,acZ⟩|x::l,i,h,k=>by
  simp only[kL] at k;obtain⟨c,n,q⟩:=h x acZ M[i] (CC VW);rw[dJ,dJ,gP,l9 VW];simp only[cv,n,q]
  by_cases j:dw c 0=true
  .rw[cS j];exact⟨.inr c,rfl,rfl⟩
  .rw[cO j];simp only[cv,dQ];exact C8 l (i+1) (λy hy=>h y (by simp[hy])) VW
def Fm.shape{k:Int}{s i:Ty}{ts us:List Tm}{l m:List Fm}(h:(Fm.mk k s ts l).ok=true)(d:(Fm.mk k i us m).ok=true):ts.length=us.length/\l.length=m.length:=by
 rw[Fm.fX] at h d;simp only[fK] at h d;have c:=h.1.1;have a:=d.1.1;unfold Fm.node at c a
 split at c
 .rename_i f;rw[cS f] at a;simp only[fK,oq] at c a;omega
 .rename_i f;rw[cO f] at a
  split at c
  .rename_i b;rw[cS b] at a;simp only[fK,oq] at c a;omega
  .rename_i b;rw[cO b] at a;simp only[fK,oq] at c a;omega
def P7:∀(n:Nat) (a b:Fm),a.wt<=n->a.wt<=1000000->b.wt<=1000000->a.ok=true->b.ok=true->∃c,iP n a b=some c/\pk n a b=some c:=by
 intro n
 induction n with
 |zero=>intro t b h;have:=t.gJ;omega
 |succ n ih=>
  intro a b h B j w d;cases a with
  |mk k s ts l=>
  cases b with
  |mk k' C us m=>
   rw[Fm.ee] at h B j;have G:=Fm.mY l;have D:=Tm.mY ts;rw[iP,pk];simp only[Fm.dh,Fm.dn,Fm.gf,Fm.dU,c6,c8 (l:=l) VW,c8 (l:=ts) VW,cY,c9]
   by_cases f:k≠k'
   .rw[cS f,cS f];exact⟨11,rfl,rfl⟩
   .rw[cO f,cO f,pt VW,gY VW];simp only[cv];have q:k=k':=vS.1 f;subst q;obtain⟨s1,s2⟩:=Fm.shape w d;obtain⟨_,H,ol⟩:=Fm.oW w;obtain⟨_,F,v⟩:=Fm.oW d;cases s.jE C with
    |false=>exact⟨11,rfl,rfl⟩|true=>
     obtain⟨o,A,k2⟩:=C8 (E:=λx y=>ky x y 1000) (E':=λx y=>qM x y 1000) (M:=us) ts 0 (λx i y hy=>Pm (by have:=di Tm.wt i;omega) (by have:=di Tm.wt hy;omega) 1000) VW;simp only[c9] at A k2;rw[cO ab9,cO ab9,A,k2];cases o with
     |inr r=>exact⟨r,rfl,rfl⟩|inl u=>
      simp only[cv,dk];obtain⟨o,q1,q2⟩:=C8 (E:=λx y=>iP n x y) (E':=λx y=>pk n x y) (M:=m) l 0 (λx i y hy=>ih x y (by have:=di Fm.wt i;omega) (by have:=di Fm.wt i;omega) (by have:=di Fm.wt hy;omega) (ol x i) (v y hy)) VW;simp only[c9] at q1 q2;rw[q1,q2];cases o with
      |inr r=>exact⟨r,rfl,rfl⟩|inl u=>exact⟨0,rfl,rfl⟩
def A'{a b:Fm}(h:a.wt<=1000000000)(i:b.wt<=1000000000):∃c,ic a b=some c/\nu a b=some c:=by
 unfold ic nu;rw[j9 h,j9 i,kG h,kG i];simp only[cv,c9]
 by_cases d:a.err≠0
 .rw[cS d,cS d];exact⟨_,rfl,rfl⟩
 .rw[cO d,cO d]
  by_cases f:b.err≠0
  .rw[cS f,cS f];exact⟨_,rfl,rfl⟩
  .rw[cO f,cO f];obtain⟨o1,n1⟩:=Fm.fQ (vS.1 d);obtain⟨o2,n2⟩:=Fm.fQ (vS.1 f);have l:=a.hI o1;have n:=b.hI o2;obtain⟨c,j,k⟩:=P7 FU a b (by rw[dY];omega) VW VW o1 o2;rw[j,k];exact⟨c,rfl,rfl⟩
def qP{g:List Ty}{x:Tm}{t:Ty}(h:dG g x t)(hg:gR g)(a:g.length+x.aiw<=1000000):x.ty g=(t,0):=by
 have b:=(Vo h hg).2 x.aiw (gV _) a;rw[zl x.aiw x (gV _) h.ok g hg a] at b;exact fU b
def Ms{g:List Ty}{x:Tm}(c:x.ok=true)(hg:gR g)(h:nQ x g 1=0):dG g x .nat:=by
 unfold nQ at h
 split at h
 .cases h
 .rename_i d
  have f:(x.ty g).1.aiu=1:=by
   rcases Int.emod_two_eq (x.ty g).1.aiu with _|_<;>
   .by_cases a:(x.ty g).1.aiu=1
    .exact a
    .exact absurd ⟨h,a⟩ d
  obtain⟨b,i⟩:=p7 _ x (gV _) c g hg _ (xY h);rw[(uj i).1 f] at b;exact b
def LK{g:List Ty}{x:Tm}(h:dG g x .nat)(hg:gR g)(a:g.length+x.aiw<=1000000):nQ x g 1=0:=by
 unfold nQ;rw[qP h hg a];exact cO (λh=>h.2 rfl)
def qR(f:Fm)(t:f.ok=true):∀g,gR g->f.uJ g=0->jS g f:=by
 refine Fm.nW (p:=λf=>∀g,gR g->f.uJ g=0->jS g f) ?_ ?_ ?_ f t
 .intro a b l r g hg h;rw[Fm.th] at h
  by_cases c:nQ a g 1=0
  .by_cases i:nQ b g 1=0
   .exact .eq (Ms l hg c) (Ms r hg i)
   .simp[eD,c,i] at h
  .simp[eD,c] at h
 .intro k a b j l r d n g hg h
  have o:jB k=false:=by rcases j with rfl|rfl<;>rfl
  rw[Fm.th,o] at h;simp only[Na,eD,Dk,if_true,oo,lS] at h
  by_cases c:a.uJ g=0
  .rw[cS c] at h
   by_cases i:b.uJ g=0
   .exact .two j (d g hg c) (n g hg i)
   .rw[cO i] at h;exact absurd h i
  .rw[cO c] at h;exact absurd h c
 .intro k s a j hs l d g hg h
  have o:jB k=true:=by rcases j with rfl|rfl|rfl|rfl<;>rfl
  rw[Fm.th,o] at h;simp only[Na,eD,Dk,if_true] at h
  by_cases c:a.uJ (g++[s])=0
  .exact .q j hs (d _ (hg.app hs) c)
  .rw[cO c] at h;exact absurd h c
def l_{g:List Ty}{f:Fm}(h:jS g f):gR g->g.length+f.aiw<=1000000->f.uJ g=0:=by
 induction h with
 |eq n o=>
  intro hg c;rw[Fm.cQ] at c;simp only[db] at c;rw[Fm.th];simp[eD,LK n hg VW,LK o hg VW]
 |two d _ _ i j=>
  intro hg c;rw[Fm.cQ] at c;simp only[db] at c;rename_i k a b _ _
  have l:jB k=false:=by rcases d with rfl|rfl<;>rfl
  rw[Fm.th,l];simp[eD,i hg VW,j hg VW]
 |q d hs _ ih=>
  intro hg c;rw[Fm.cQ] at c;simp only[db] at c;rename_i k s a _
  have l:jB k=true:=by rcases d with rfl|rfl|rfl|rfl<;>rfl
  rw[Fm.th,l];simp[eD,ih (hg.app hs) ado]
def jS.up{g:List Ty}{f:Fm}(h:jS g f):∀g1 g2 e:List Ty,g=g1++g2->jS (g1++e++g2) (f.up g2.length e.length):=by
 induction h with
 |eq l n=>
  intro g1 g2 e hg;rw[Fm.kO];exact .eq (l.up g1 g2 e hg) (n.up g1 g2 e hg)
 |two c _ _ d i=>
  intro g1 g2 e hg;rename_i k a b _ _
  have j:qB k=0:=by rcases c with rfl|rfl<;>rfl
  rw[Fm.kO,j,yd];exact .two c (d g1 g2 e hg) (i g1 g2 e hg)
 |q c hs _ ih=>
  intro g1 g2 e hg;rename_i k s a _
  have j:qB k=1:=by rcases c with rfl|rfl|rfl|rfl<;>rfl
  subst hg;have:=ih g1 (g2++[s]) e (by rw[tD]);rw[Fm.kO,j];rw[qj,<-tD] at this;exact .q c hs this
def jS.lift{g:List Ty}{f:Fm}(h:jS g f)(e:List Ty):jS (g++e) (f.up 0 e.length):=by
 have:=h.up g [] e acZ;simpa using this
theorem jS.iu{g:List Ty}{f:Fm}(h:jS g f):∀(g1:List Ty) (s:Ty) (g2:List Ty) (a:Tm),g=g1++[s]++g2->dG g1 a s->jS (g1++g2) (Fm.iu g2.length f a):=by
 induction h with
 |eq l n=>
  intro g1 s g2 a hg b;rw[Fm.mV];exact .eq (l.iu g1 s g2 a hg b) (n.iu g1 s g2 a hg b)
 |two c _ _ d i=>
  intro g1 s g2 a hg b;rename_i k x y _ _
  have j:qB k=0:=by rcases c with rfl|rfl<;>rfl
  rw[Fm.mV,j,yd];exact .two c (d g1 s g2 a hg b) (i g1 s g2 a hg b)
 |q c hs _ ih=>
  intro g1 s g2 a hg b;rename_i k o x _
  have j:qB k=1:=by rcases c with rfl|rfl|rfl|rfl<;>rfl
  subst hg;have:=ih g1 s (g2++[o]) a acZ b;rw[Fm.mV,j];rw[qj,<-tD] at this;exact .q c hs this
theorem jS.put{g:List Ty}{s:Ty}{f:Fm}(h:jS (g++[s]) f){a:Tm}(b:dG g a s):jS g (Fm.iu 0 f a):=by
 have:=h.iu g s [] a acZ b;simpa using this
def dG.front{g:List Ty}{x:Tm}{t:Ty}(h:dG g x t)(e:List Ty):dG (e++g) x t:=by
 induction h with
 |@var g t i c f=>
  refine .var i ado ?_;rw[yf ado,<-f]
  congr 1
  simp;omega
 |lam c _ ih=>exact .lam c (by rw[tD];exact ih)|app _ _ a b=>exact .app a b|zero=>exact .zero|succ _ ih=>exact .succ ih|tI c _ _ _ a b d=>exact .tI c a b d|nil=>exact .nil|cons _ _ a b=>exact .cons a b|fold c _ _ _ a b d=>exact .fold c a b d|pair c _ _ a b=>exact .pair c a b|fst _ ih=>exact .fst ih|snd _ ih=>exact .snd ih|unit=>exact .unit
def jS.front{g:List Ty}{f:Fm}(h:jS g f)(e:List Ty):jS (e++g) f:=by
 induction h with
 |eq d i=>exact .eq (d.front e) (i.front e)|two a _ _ b c=>exact .two a b c|q a hs _ ih=>exact .q a hs (by rw[tD];exact ih)
structure Hg (g:List Ty) (f:Fm):Prop where
 err:f.err=0
 ty:jS g f
def Hg.aiw{g:List Ty}{f:Fm}(h:Hg g f):f.aiw<=4096:=(Fm.fQ h.err).2
def Hg.ok{g:List Ty}{f:Fm}(h:Hg g f):f.ok=true:=(Fm.fQ h.err).1
def Hg.aiA{g:List Ty}{f:Fm}(h:Hg g f)(hg:g.length<=16){m:Int}(hm:5000<=m):f.aiA m=true:=h.ty.aiA m (by have:=h.aiw;omega)
def Hg.hy{g:List Ty}{f:Fm}(h:Hg g f)(hg:g.length<=16):Hy f:=⟨h.err,h.aiA hg VW⟩
def Hg.up{g:List Ty}{f:Fm}(h:Hg g f)(l:List Ty):Hg (g++l) (f.up 0 l.length):=by
 have hn:=Fm.pX f 0 l.length;obtain⟨a,b⟩:=Fm.fQ h.err;refine⟨?_,h.ty.lift l⟩;unfold Fm.err;rw[Fm.JW f 0 l.length VW VW,a,cS rfl,hn,cO VW]
structure PG (L:List Fm) (p:cV) (c:cX):Prop where
 pl:Y6 p c
 Ev:c.lemmas=L
 adi:∀f∈L,Hg [] f
 aiB:∀f∈c.aiB,Hg c.aiy f
def PG.VE{L:List Fm}{p:cV}{c:cX}(h:PG L p c){l:List Ty}(n:gR l)(hn:c.aiy.length+l.length<=16):∃d a,eH p l=some d/\ei c l=some a/\PG L d a/\a.aiy=c.aiy++l/\a.aiB=c.aiB.map (Fm.up 0 l.length):=by
 obtain⟨d,a,o,q,r,s,j,k⟩:=h.pl.below n hn (λf b=>⟨(h.aiB f b).err,(h.aiB f b).aiA h.pl.nv VW⟩);refine⟨d,a,o,q,⟨r,s.trans h.Ev,h.adi,λf b=>?_⟩,j,k⟩;rw[k] at b;obtain⟨f0,i,rfl⟩:=nj.1 b;rw[j];exact(h.aiB f0 i).up l
def PG.below{L:List Fm}{p:cV}{c:cX}(h:PG L p c){s:Ty}(hs:s.err=0)(hn:c.aiy.length+1<=16):∃b a,eH p [s]=some b/\ei c [s]=some a/\PG L b a/\a.aiy=c.aiy++[s]/\a.aiB=c.aiB.map (Fm.up 0 1):=
 h.VE (l:=[s]) (λx d=>by rw[yy.1 d];exact hs) hn
def PG.with{L:List Fm}{p:cV}{c:cX}(h:PG L p c){f:Fm}(d:Hg c.aiy f)(hn:c.aiB.length+1<=16):∃b a,eM p f=some b/\fg c f=some a/\PG L b a/\a.aiy=c.aiy/\a.aiB=c.aiB++[f]:=by
 obtain⟨b,a,k,l,n,o,i,j⟩:=h.pl.with (d.hy h.pl.nv) hn;refine⟨b,a,k,l,⟨n,o.trans h.Ev,h.adi,λx hx=>?_⟩,i,j⟩;rw[j] at hx;rw[i];rcases rl.1 hx with hx|hx
 .exact h.aiB x hx
 .rw[yy.1 hx];exact d
def PG.room{L:List Fm}{p:cV}{c:cX}(h:PG L p c){v k:Nat}(f:v<=100)(i:k<=100):(dy p.eV v k=some 0/\du c v k=some 0/\c.aiy.length+v<=16/\c.aiB.length+k<=16)\/(dy p.eV v k=some 3/\du c v k=some 3/\(16<c.aiy.length+v\/16<c.aiB.length+k)):=by
 unfold dy du;have b:=h.pl.vars;have d:=h.pl.aiB;have j:=h.pl.nv;have l:=h.pl.nh;rw[b,d,eo,eo,dP VW VW,dP VW VW,kZ]
 by_cases a:(lQ ((c.aiy.length:Int)+v) 16||lQ ((c.aiB.length:Int)+k) 16)=true
 .rw[cS a];simp only[rD,fy] at a;exact .inr ⟨rfl,rfl,VW⟩
 .rw[cO a];simp only[rD,fy,not_or] at a;exact .inl ⟨rfl,rfl,VW,VW⟩
def FA.len{N:Int}:∀{l:List Int} {lo:Int},FA l->(∀x∈l,lo<=x/\x<N)->(l.length:Int)<=max 0 (N-lo)
 |[],lo,_,_=>by simp;omega|a::l,lo,.cons c d,h=>by
  have f:=h a acZ;have ih:=FA.len (lo:=a+1) d (λx b=>⟨by have:=c x b;omega,(h x (by simp[b])).2⟩);simp only[kL];omega
def Us.len{l:List Int}{m:Nat}(h:Us l m):l.length<=32:=by
 have:=FA.len (N:=32) (lo:=0) h.srt (λx a=>⟨h.pos x a,h.bound x a⟩);omega
def dG.O7{g:List Ty}{x:Tm}{t:Ty}(h:dG g x t):∀j:Int,(g.length:Int)<=j->x.aiC j=0:=by
 induction h with
 |@var g t i k l=>
  intro j a;rw[Tm.fB,cO (λh=>by have:=h.2;omega)];rfl
 |@lam g s b t k _ ih=>
  intro j a;rw[Tm.fB,cO (λh=>by cases h.1)];simp only[db];rw[ih (j+e9 2) (by show _<=j+1;simp;omega)]
 |app _ _ c d=>intro j a;rw[Tm.fB,cO (λh=>by cases h.1)];simp only[db,show e9 3=0 from rfl,yd,c j a,d j a]
 |zero=>intro j a;rw[Tm.fB,cO (λh=>by cases h.1)];rfl
 |succ _ ih=>intro j a;rw[Tm.fB,cO (λh=>by cases h.1)];simp only[db,show e9 5=0 from rfl,yd,ih j a]
 |tI k _ _ _ c d f=>intro j a;rw[Tm.fB,cO (λh=>by cases h.1)];simp only[db,show e9 6=0 from rfl,yd,c j a,d j a,f j a]
 |nil=>intro j a;rw[Tm.fB,cO (λh=>by cases h.1)];rfl
 |cons _ _ c d=>intro j a;rw[Tm.fB,cO (λh=>by cases h.1)];simp only[db,show e9 8=0 from rfl,yd,c j a,d j a]
 |fold k _ _ _ c d f=>intro j a;rw[Tm.fB,cO (λh=>by cases h.1)];simp only[db,show e9 9=0 from rfl,yd,c j a,d j a,f j a]
 |pair k _ _ c d=>intro j a;rw[Tm.fB,cO (λh=>by cases h.1)];simp only[db,show e9 10=0 from rfl,yd,c j a,d j a]
 |fst _ ih=>intro j a;rw[Tm.fB,cO (λh=>by cases h.1)];simp only[db,show e9 11=0 from rfl,yd,ih j a]
 |snd _ ih=>intro j a;rw[Tm.fB,cO (λh=>by cases h.1)];simp only[db,show e9 12=0 from rfl,yd,ih j a]
 |unit=>intro j a;rw[Tm.fB,cO (λh=>by cases h.1)];rfl
def fS:Fm:=.mk 0 (.mk 0 []) [] []
def OZ(k:Option (cP×Int)):Option (cP×Int):=
 cW k λa b=>
 if(dw b 0) then(
 some ((cP.mk (Fm.mk 0 (Ty.mk 0 []) [] []) 0),b))
 else(cM (ju a.cU) λd=>
 if(dw d 0) then(
 some ((cP.mk (Fm.mk 0 (Ty.mk 0 []) [] []) 0),4))
 else(de (λ(v30:Int)=>
 some ((cP.mk a.cU v30),0)) λc=>
 cW (oc a.cU) λf h=>
 if f then(
 c a.uses)
 else(c 0)))
def QF(r:Option (Fm×List Int×Int)):Option (qZ×Int):=
 g_ r λb h f=>
 if(dw f 0) then(
 some ((qZ.mk (Fm.mk 0 (Ty.mk 0 []) [] []) []),f))
 else(cM (iJ b) λc=>
 if(dw c 0) then(
 some ((qZ.mk (Fm.mk 0 (Ty.mk 0 []) [] []) []),4))
 else(de (λ(v26:List Int)=>
 some ((qZ.mk b v26),0)) λa=>
 cW (oe b) λd i=>
 if d then(
 a h)
 else(a [])))
def BY{α:Type}{F:Int->α->Unit->Option (dV Unit Bool)}(w:α->Nat):∀(l:List α) (i:Nat),(∀j x,x∈l->F j x ()=if 0<w x then some (.ret true)else some (.next ()))->dH F l i ()=some (if 0<db w l then .inr true else .inl ())
 |[],i,_=>rfl|x::l,i,h=>by
  have ih:=BY w l (i+1) (λj y hy=>h j y (by simp[hy]));rw[dJ,h i x acZ]
  by_cases a:0<w x
  .rw[cS a,cS (show 0<db w (x::l) by simp only[db];omega)];rfl
  .rw[cO a];show dH F l (i+1) ()=_;rw[ih]
   by_cases b:0<db w l
   .rw[cS b,cS (show 0<db w (x::l) by simp only[db];omega)]
   .rw[cO b,cO (show¬0<db w (x::l) by simp only[db];omega)]
def Kv:∀(n:Nat) (t:Tm) (a:Int),t.aiw<=n->t.aiw<=1000000000->0<=a->a+t.aiw<=10000000000->tU n t a=some (decide (0<t.aiC a)):=by
 intro n
 induction n with
 |zero=>intro t a h;have:=t.dr;omega
 |succ n ih=>
  intro t a h d r f;cases t with
  |mk k i s l=>
   rw[Tm.cQ] at h d f;have u:=Tm.ek l;have v:=kr k;rw[tU,Tm.fB];simp only[Tm.dh,Tm.eW,Tm.dn,c6,qc,fK,eT]
   by_cases c:k=1/\i=a
   .rw[cS c,cS c]
    congr 1
    exact(vD VW).symm
   .rw[cO c,cO c,c8 VW,cY,BY (Tm.aiC (a+e9 k)) l 0 (λj x o=>by
     have q:=di Tm.aiw o;rw[mX,cv,Tm.dn,dP VW VW,ih x (a+e9 k) VW VW VW VW,cv]
     by_cases b:0<x.aiC (a+e9 k)
     .rw[cS b,cS (vD b)]
     .rw[cO b,cO (by simpa using b)]),cv,tg]
    by_cases b:0<db (Tm.aiC (a+e9 k)) l
    .rw[cS b,pd,vD b]
    .rw[cO b,dk,Fa b]
def Cu:∀(n:Nat) (t:Fm) (a:Int),t.aiw<=n->t.aiw<=1000000000->0<=a->a+t.aiw<=10000000000->pG n t a=some (decide (0<t.aiC a)):=by
 intro n
 induction n with
 |zero=>intro t a h;have:=t.dr;omega
 |succ n ih=>
  intro t a h c r d;cases t with
  |mk k s ts l=>
   rw[Fm.cQ] at h c d;have u:=Fm.ek l;have q:=Tm.ek ts;have v:=Cl k;rw[pG,Fm.fB];simp only[Fm.dh,Fm.gf,c6]
   rw[c8 VW,cY,BY (Tm.aiC a) ts 0 (λj x f=>by
    have i:=di Tm.aiw f;rw[Kv FU x a (by rw[dY];omega) VW VW VW,cv]
    by_cases b:0<x.aiC a
    .rw[cS b,cS (vD b)]
    .rw[cO b,cO (by simpa using b)]),cv]
   by_cases o:0<db (Tm.aiC a) ts
   .rw[cS o,pd,vD VW]
   .rw[cO o,dk,c8 VW,cY,BY (Fm.aiC (a+qB k)) l 0 (λj x f=>by
     have i:=di Fm.aiw f;rw[oT,cv,Fm.dn,dP VW VW,ih x (a+qB k) VW VW VW VW,cv]
     by_cases b:0<x.aiC (a+qB k)
     .rw[cS b,cS (vD b)]
     .rw[cO b,cO (by simpa using b)]),cv]
    by_cases b:0<db (Fm.aiC (a+qB k)) l
    .rw[cS b,pd,vD VW]
    .rw[cO b,dk,Fa VW]
def Tm.Bw(s:Tm):∀(t:Tm) (n:Int),t.ok=true->t.aiC n=0->Tm.iu n t s=t.up (n+1) (-1):=by
 intro t
 induction t using Tm.ind with
 |h k i ty l ih=>
  intro n d f;have hi:=Tm.kU d;rw[Tm.fB] at f;rw[Tm.mV,Tm.kO]
  by_cases a:k=1
  .subst a;obtain⟨rfl,rfl⟩:=Tm.UW d
   have b:i≠n:=λh=>by rw[cS ⟨rfl,h⟩] at f;omega
   rw[cS rfl];unfold Tm.ue;rw[cO b]
   by_cases j:n<i
   .rw[cS j,cS ⟨rfl,VW⟩];rfl
   .rw[cO j,cO (λh=>by omega)];rfl
  .rw[cO a,cO (λh=>a h.1)]
   congr 1
   refine ui λx c=>?_;have:=di (Tm.aiC (n+e9 k)) c;rw[ih x c (n+e9 k) (hi.2.2.2.1 x c) VW,show n+e9 k+1=n+1+e9 k by omega]
def Fm.Bw(s:Tm):∀(t:Fm) (n:Int),t.ok=true->t.aiC n=0->Fm.iu n t s=t.up (n+1) (-1):=by
 intro t
 induction t using Fm.ind with
 |h k ty ts l ih=>
  intro n b c;obtain⟨_,d,f⟩:=Fm.oW b;rw[Fm.fB] at c;rw[Fm.mV,Fm.kO]
  congr 1
  .refine ui λx a=>?_;have:=di (Tm.aiC n) a;exact Tm.Bw s x n (d x a) VW
  .refine ui λx a=>?_;have:=di (Fm.aiC (n+qB k)) a;rw[ih x a (n+qB k) (f x a) VW,show n+qB k+1=n+1+qB k by omega]
def Lo:∀(n:Nat) (t:Tm) (f:Int),t.aiw<=n->t.aiw<=1000000000->0<=f->f+t.aiw<=10000000000->t.aiA 1000000000000=true->pY n t f (-1)=some (t.up f (-1)):=by
 intro n
 induction n with
 |zero=>intro t f h;have:=t.dr;omega
 |succ n ih=>
  intro t f h a w b hi;cases t with
  |mk k i s l=>
   rw[Tm.cQ] at h a b;rw[Tm.ez] at hi;simp only[fK,oq,j3] at hi;have y:=Tm.ek l;have A:=kr k;rw[pY];simp only[Tm.dh,Tm.eW,Tm.dn,Tm.dU,c6,c8 (l:=l) VW,cY];rw[gE (Tm.up (f+e9 k) (-1)) l 0 [] ado]
   .rw[Tm.kO];simp only[cv,dk,oE,u9,Tm.mk.injEq,and_true,N6]
    by_cases c:k=1/\f<=i
    .obtain⟨rfl,d⟩:=c;rw[dP VW VW];have q:dj 1 1=true:=rfl
     have r:pH i f=true:=by simp[d]
     simp[q,r,d]
    .rw[cO c]
     have e:ep (dj k 1) (pH i f) false=false:=by
      rw[qc,L5];simp only[ne_eq,fK,eT,gI];exact c
     rw[e];rfl
   .intro j x v o u;have:=di Tm.aiw o;rw[mX];simp only[cv,Tm.dn];rw[dP VW VW,ih x (f+e9 k) VW VW VW VW (hi.2 x o)];simp[dS (l:=v) (m:=[x.up (f+e9 k) (-1)]) (by simpa using u)]
def B5:∀(n:Nat) (t:Fm) (f:Int),t.aiw<=n->t.aiw<=1000000000->0<=f->f+t.aiw<=10000000000->t.aiA 1000000000000=true->fN n t f (-1)=some (t.up f (-1)):=by
 intro n
 induction n with
 |zero=>intro t f h;have:=t.dr;omega
 |succ n ih=>
  intro t f h b i c hi;cases t with
  |mk k s ts l=>
   rw[Fm.cQ] at h b c;rw[Fm.ez] at hi;simp only[fK,j3] at hi;have q:=Fm.ek l;have o:=Tm.ek ts;have r:=Cl k;rw[fN];simp only[Fm.dh,Fm.gf,Fm.dn,Fm.dU,c6,c8 (l:=l) VW,c8 (l:=ts) VW,cY];rw[gE (Tm.up f (-1)) ts 0 [] ado]
   .simp only[cv,dk];rw[gE (Fm.up (f+qB k) (-1)) l 0 [] ado]
    .simp[Fm.kO]
    .intro j x v a d;have:=di Fm.aiw a;rw[oT];simp only[cv,Fm.dn];rw[dP VW VW,ih x (f+qB k) VW VW VW VW (hi.2 x a)];simp[dS (l:=v) (m:=[x.up (f+qB k) (-1)]) (by simpa using d)]
   .intro j x v a d;have:=di Tm.aiw a;rw[Lo FU x f (by rw[dY];omega) VW i VW (hi.1 x a)];simp[dS (l:=v) (m:=[x.up f (-1)]) (by simpa using d)]
def RH:GU Tm.z:=by
 show GU (Tm.mk 0 0 (Ty.mk 0 []) []);intro c b d;have a:FU=999999999+1:=dY;unfold qX nP;rw[a,gj,cO (show¬(dj (Tm.mk 0 0 (Ty.mk 0 []) []).aiu 1=true) by decide)];simp only[Tm.dn,Tm.dU,Tm.dh,Tm.eW,c6];rw[og ab9,cv,c8 ab9,cY];rfl
def sZ{f:Fm}(a:f.ok=true)(hn:f.aiw<=50000000)(b:f.aiA 1000000000000=true)(c:f.aiC 0=0):jU f 0 (Tm.mk 0 0 (Ty.mk 0 []) [])=some (f.up 1 (-1)):=by
 rw[show Tm.mk 0 0 (Ty.mk 0 []) []=Tm.z from rfl,uR a hn b RH VW VW,Fm.Bw _ f 0 a c];rfl
noncomputable def BL (x:Tm) (e:Int):Tm×Int:=if e=0 then((x.norm 1000 0).1,(x.norm 1000 0).2.2)else(x,e)
def pF{α:Type}(f:α->Int->α×Int):List α->Int->List α×Int
 |[],e=>([],e)|x::l,e=>((f x e).1::(pF f l (f x e).2).1,(pF f l (f x e).2).2)
mutual
noncomputable def Fm.wW:Fm->Int->Fm×Int
 |.mk k s ts l,e=>(.mk k s (pF BL ts e).1 (Fm.Ps l (pF BL ts e).2).1,(Fm.Ps l (pF BL ts e).2).2)
noncomputable def Fm.Ps:List Fm->Int->List Fm×Int
 |[],e=>([],e)|f::l,e=>((f.wW e).1::(Fm.Ps l (f.wW e).2).1,(Fm.Ps l (f.wW e).2).2)
end
def Fm.Q9:∀(l:List Fm) (e:Int),Fm.Ps l e=pF Fm.wW l e
 |[],e=>by rw[Fm.Ps,pF]|f::l,e=>by rw[Fm.Ps,pF,Fm.Q9 l]
def Fm.C9(k:Int)(s:Ty)(ts:List Tm)(l:List Fm)(e:Int):(Fm.mk k s ts l).wW e=(.mk k s (pF BL ts e).1 (pF Fm.wW l (pF BL ts e).2).1,(pF Fm.wW l (pF BL ts e).2).2):=by rw[Fm.wW,Fm.Q9]
def tP{α:Type}{f:α->Int->α×Int}:∀(l:List α) (e:Int),(∀x∈l,∀e,e≠0->(f x e).2=e)->e≠0->(pF f l e).2=e
 |[],e,_,_=>rfl|x::l,e,h,he=>by
  have a:=h x acZ e he;simp only[pF];rw[a];exact tP l e (λy hy=>h y (by simp[hy])) he
def Ha{x:Tm}{e:Int}(he:e≠0):(BL x e).2=e:=by unfold BL;rw[cO he]
def Fm.LV(f:Fm):∀e:Int,e≠0->(f.wW e).2=e:=by
 induction f using Fm.ind with
 |h k s ts l ih=>
  intro e he;rw[Fm.C9];have a:=tP (f:=BL) ts e (λx _ e he=>Ha he) he;simp only[];rw[a];exact tP l e ih he
def Dc{α ρ:Type}{E:α->Int->Option (α×Int)}{f:α->Int->α×Int}:∀(l:List α) (j:Nat) (v:List α) (e:Int),(∀x∈l,∀e,E x e=some (f x e))->v.length+l.length<=1000000000->dH (λ(n:Int) (c:α)=>(rM λ(v91:List α) (d:Int)=>
   cW (E c d) λa b=>
   fa (eO v91 [a])<|some ((.next ((fu v91 [a]),b)):dV ((List α)×Int) ρ))) l j (v,e)=some (.inl (v++(pF f l e).1,(pF f l e).2))
 |[],j,v,e,_,_=>by simp[pF]|x::l,j,v,e,h,o=>by
  simp only[kL] at o;rw[dJ];simp only[rM];rw[h x acZ e];obtain⟨y,i,k⟩:∃y i,f x e=(y,i):=⟨_,_,rfl⟩;rw[k];rw[cN,dS ado,cY];simp only[cv,dQ];rw[fj];have:=Dc (ρ:=ρ) l (j+1) (v++[y]) i (λz q=>h z (by simp[q])) ado;rw[this];simp only[pF,k];simp
structure Nm (x:Tm):Prop where
 err:x.err=0
 aiA:x.aiA 536870912=true
def Nm.both{x:Tm}(h:Nm x):jt x 1000=some (x.norm 1000 0)/\k8 x 1000=some (x.norm 1000 0):=by
 obtain⟨b,hn⟩:=l5 h.err;have hw:=x.hI b;have a:=wO (t:=x) VW 1000;rw[cS h.err,cS ⟨VW,VW,h.aiA⟩] at a;obtain⟨p,m,e,c,d,_⟩:=zt (t:=x) VW 1000;have a:jt x 1000=some (x.norm 1000 0):=a;refine⟨a,?_⟩;rw[d,<-c,a]
def Ag{x:Tm}(h:Nm x)(b e:Int):jb x b e=some (BL x e):=by
 unfold jb BL
 by_cases he:e=0
 .rw[cS he,cO (by rw[c9];simpa using he),h.both.1];rfl
 .rw[cO he,cS (by rw[c9];exact he)]
inductive RU:Fm->Prop
 |mk {k s ts l}:(∀x∈ts,Nm x)->(∀f∈l,RU f)->RU (.mk k s ts l)
def RU.of(f:Fm):f.aiw<=4096->f.ok=true->f.aiA 536870912=true->RU f:=by
 induction f using Fm.ind with
 |h k s ts l ih=>
  intro hn d b;obtain⟨_,i,j⟩:=Fm.oW d;rw[Fm.cQ] at hn;rw[Fm.ez,fK,j3,j3] at b;refine .mk (λx c=>⟨?_,b.1 x c⟩) (λf a=>?_)
  .have:=di Tm.aiw c;unfold Tm.err;rw[cS (i x c),cO VW]
  .have:=di Fm.aiw a;exact ih f a VW (j f a) (b.2 f a)
def Md:∀(n:Nat) (f:Fm) (b e:Int),f.aiw<=n->f.aiw<=1000000->f.ok=true->RU f->dX n f b (λ(s:Int) (c:Tm) (d:Int)=>jb c d s) e=some (f.wW e):=by
 intro n
 induction n with
 |zero=>intro f b e h;have:=f.dr;omega
 |succ n ih=>
  intro f b e hn q r hm;cases f with
  |mk k s ts l=>
   cases hm with
   |mk m1 m2=>
    rw[Fm.cQ] at hn q;have u:=fR Tm.aiw ts λt _=>t.dr;have v:=fR Fm.aiw l λt _=>t.dr;obtain⟨w,A,i⟩:=Fm.oW r;rw[dX,Fm.C9];simp only[Fm.dU,Fm.dh,Fm.dn,Fm.gf,c6];rw[og VW,cv,c8 VW,cY];rw[Dc (E:=λy s=>jb y b s) (f:=BL) ts 0 [] e (λx a e=>Ag (m1 x a) b e) ado,cv];simp only[dk,rM,oE];rw[nT,cv]
    have loop:=λj=>Dc (ρ:=Fm×Int) (E:=λy s=>dX n y j (λ(s:Int) (c:Tm) (d:Int)=>jb c d s) s) (f:=Fm.wW) l 0 [] (pF BL ts e).2 (λx a e=>by
     have:=di Fm.aiw a
     exact ih x j e VW VW (i x a) (m2 x a)) ado
    by_cases o:jB k=true
    .rw[cS o,c8 VW,cY,loop,cv];simp
    .rw[cO o,c8 VW,cY,loop,cv];simp
def E1:∀(n:Nat) (f:Fm),f.aiw<=n->f.aiw<=1000000->RU f->ma n f=some (if(f.wW 0).2=0 then((f.wW 0).1,0)else(fS,(f.wW 0).2)):=by
 intro n
 induction n with
 |zero=>intro f h;have:=f.dr;omega
 |succ n ih=>
  intro f hn L hm;cases f with
  |mk k s ts l=>
   cases hm with
   |mk m1 m2=>
    rw[Fm.cQ] at hn L;have M:=fR Tm.aiw ts λt _=>t.dr;have N:=fR Fm.aiw l λt _=>t.dr;rw[ma,Fm.C9];simp only[Fm.dU,Fm.dh,Fm.dn,Fm.gf,c6];rw[c8 VW,cY]
    have r:∀(us:List Tm) (j:Nat) (v:List Tm),(∀t∈us,Nm t)->v.length+us.length<=1000000000->dH (λ(O:Int) (F:Tm)=>(λ(B:List Tm)=>
       g_ (k8 F 1000) λc I d=>
       if(dw d 0) then(
       some (.ret ((Fm.mk 0 (Ty.mk 0 []) [] []),d)))
       else(fa (eO B [c])<|some ((.next (fu B [c])):dV (List Tm) (Fm×Int))))) us j v=some (if(pF BL us 0).2=0 then .inl (v++(pF BL us 0).1)else .inr (fS,(pF BL us 0).2)):=by
     intro us
     induction us with
     |nil=>intro j v _ _;simp[pF]|cons t us w=>
      intro j v hm G;simp only[kL] at G;rw[dJ,(hm t acZ).both.2]
      have H:BL t 0=((t.norm 1000 0).1,(t.norm 1000 0).2.2):=by unfold BL;rw[cS rfl]
      obtain⟨y,m,a,C⟩:∃y m a,t.norm 1000 0=(y,m,a):=⟨_,_,_,rfl⟩;rw[C] at H|-;rw[mh]
      by_cases he:a=0
      .subst he;rw[cO ab9,dS ado,cY];simp only[cv,dQ];rw[fj,w (j+1) (v++[y]) (λu hu=>hm u (by simp[hu])) ado];simp only[pF,H];simp
      .rw[cS (by rw[c9];exact he)];simp only[pF,H];rw[tP (f:=BL) us a (λx _ e he=>Ha he) he,cO he];rfl
    have A:∀(us:List Fm) (j:Nat) (v:List Fm),(∀t∈us,RU t/\t.aiw<=n/\t.aiw<=1000000)->v.length+us.length<=1000000000->dH (λ(J:Int) (D:Fm)=>(λ(i:List Fm)=>
       cW (ma n D) λo q=>
       if(dw q 0) then(
       some (.ret ((Fm.mk 0 (Ty.mk 0 []) [] []),q)))
       else(fa (eO i [o])<|some ((.next (fu i [o])):dV (List Fm) (Fm×Int))))) us j v=some (if(pF Fm.wW us 0).2=0 then .inl (v++(pF Fm.wW us 0).1)else .inr (fS,(pF Fm.wW us 0).2)):=by
     intro us
     induction us with
     |nil=>intro j v _ _;simp[pF]|cons t us w=>
      intro j v hm G;simp only[kL] at G;obtain⟨a1,a2,a3⟩:=hm t acZ;rw[dJ,ih t a2 a3 a1];obtain⟨y,a,C⟩:∃y a,t.wW 0=(y,a):=⟨_,_,rfl⟩;rw[C]
      by_cases he:a=0
      .subst he;simp only[if_true];rw[cN,cO ab9,dS ado,cY];simp only[cv,dQ];rw[fj,w (j+1) (v++[y]) (λu hu=>hm u (by simp[hu])) ado];simp only[pF,C];simp
      .simp only[cO he];rw[cN,cS (by rw[c9];exact he)];simp only[pF,C];rw[tP (f:=Fm.wW) us a (λx _ e he=>Fm.LV x e he) he,cO he];rfl
    rw[r ts 0 [] m1 ado,cv]
    by_cases he:(pF BL ts 0).2=0
    .rw[cS he,dk,c8 VW,cY,A l 0 [] (λt K=>by
      have:=di Fm.aiw K
      exact⟨m2 t K,VW,VW⟩) ado,cv,he]
     by_cases b:(pF Fm.wW l 0).2=0
     .rw[cS b,cS b,dk,oE,oE]
     .rw[cO b,cO b,pd]
    .rw[cO he,pd,tP (f:=Fm.wW) l _ (λx _ e he=>Fm.LV x e he) he,cO he]
def Ty.aeq:∀(n:Nat) (s:Ty),s.aiw<=n->s.err=0->∃a,dG [] a s:=by
 intro n
 induction n with
 |zero=>intro s h;have:=s.dr;omega
 |succ n ih=>
  intro s hn he;rcases Ty.qs he with rfl|rfl|rfl|⟨a,b,rfl,d,c⟩|⟨a,b,rfl,d,c⟩
  .exact⟨_,.zero⟩
  .exact⟨_,.nil⟩
  .exact⟨_,.unit⟩
  .rw[Ty.uL] at hn;obtain⟨x,f⟩:=ih a VW d;obtain⟨y,hy⟩:=ih b VW c;exact⟨_,.pair he f hy⟩
  .rw[Ty.iN] at hn;obtain⟨y,hy⟩:=ih b VW c;exact⟨_,.lam he (by have:=hy.front [a];simpa using this)⟩
def jS.down{g:List Ty}{s:Ty}{f:Fm}(h:jS (g++[s]) f)(hs:s.err=0)(c:f.aiC 0=0):jS g (f.up 1 (-1)):=by
 obtain⟨a,d⟩:=Ty.aeq _ s (gV _) hs
 have b:dG g a s:=by simpa using d.front g
 have:=h.put b
 rwa [Fm.Bw a f 0 h.ok c] at this
def dG.nm{g:List Ty}{x:Tm}{t:Ty}(h:dG g x t)(hg:g.length<=1000000)(a:x.aiw<=4096):Nm x:=by
 refine⟨?_,h.aiA _ VW⟩;unfold Tm.err;rw[cS h.ok,cO VW]
def UY{g:List Ty}{x:Tm}{t:Ty}(h:dG g x t)(hg:g.length<=1000000)(b:x.aiw<=4096){e:Int}(he:(BL x e).2=0):e=0/\dG g (BL x e).1 t/\(BL x e).1.aiw<=4096:=by
 by_cases c:e=0
 .subst c;unfold BL at he|-;simp only[if_true] at he|-;obtain⟨a,n,f,d⟩:∃a n f,x.norm 1000 0=(a,n,f):=⟨_,_,_,rfl⟩;rw[d] at he|-;simp only[] at he|-;subst he;exact⟨trivial,dG.norm _ _ _ _ _ h d,(Fz 1000 536870912 0 x a n VW (Sm.start (h.nm hg b).err (h.nm hg b).aiA) b d).2⟩
 .rw[Ha c] at he;exact absurd he c
def Yr(a b:Tm)(e:Int):(Fm.mk 1 .z [a,b] []).wW e=(.mk 1 .z [(BL a e).1,(BL b (BL a e).2).1] [],(BL b (BL a e).2).2):=by rw[Fm.C9];rfl
def Y2(k:Int)(a b:Fm)(e:Int):(Fm.mk k .z [] [a,b]).wW e=(.mk k .z [] [(a.wW e).1,(b.wW (a.wW e).2).1],(b.wW (a.wW e).2).2):=by rw[Fm.C9];rfl
def aeY(k:Int)(s:Ty)(a:Fm)(e:Int):(Fm.mk k s [] [a]).wW e=(.mk k s [] [(a.wW e).1],(a.wW e).2):=by rw[Fm.C9];rfl
def OK{g:List Ty}{f:Fm}(h:jS g f):∀(e:Int),g.length+f.aiw<=1000000->f.aiw<=4096->(f.wW e).2=0->e=0/\jS g (f.wW e).1/\(f.wW e).1.aiw<=3000*f.aiw:=by
 induction h with
 |@eq g a b c o=>
  intro e hg hn he;rw[Yr] at he|-;rw[Fm.cQ] at hn hg|-;simp only[db] at hn hg|-;obtain⟨d,i,r⟩:=UY o VW VW he;obtain⟨a1,a2,a3⟩:=UY c VW VW d;refine⟨a1,.eq a2 i,?_⟩;rw[Fm.cQ];simp only[db];have:=a.dr;have:=b.dr;omega
 |@two g k a b j c o l n=>
  intro e hg hn he;rw[Y2] at he|-;rw[Fm.cQ] at hn hg|-;simp only[db] at hn hg|-;obtain⟨d,i,r⟩:=n _ VW VW he;obtain⟨a1,a2,a3⟩:=l _ VW VW d;refine⟨a1,.two j a2 i,?_⟩;rw[Fm.cQ];simp only[db];omega
 |@q g k s a j hs c ih=>
  intro e hg hn he;rw[aeY] at he|-;rw[Fm.cQ] at hn hg|-;simp only[db] at hn hg|-;obtain⟨a1,a2,a3⟩:=ih _ ado VW he;refine⟨a1,.q j hs a2,?_⟩;rw[Fm.cQ];simp only[db];omega
noncomputable def BZ (f:Fm):Fm×Int:=if f.aiC 0=0 then(f.up 1 (-1),0)else if(f.wW 0).2≠0 then(fS,(f.wW 0).2)else if(f.wW 0).1.aiC 0≠0 then(fS,6)else((f.wW 0).1.up 1 (-1),0)
def KX{g:List Ty}{s:Ty}{f:Fm}(h:Hg (g++[s]) f)(hg:g.length<=1000)(hs:s.err=0)(a:(BZ f).2=0):jS g (BZ f).1/\(BZ f).1.aiw<=3000*4096:=by
 have hn:=h.aiw;unfold BZ at a|-
 split
 .rename_i c;refine⟨h.ty.down hs c,?_⟩;show(f.up 1 (-1)).aiw<=_;rw[Fm.pX];omega
 .rename_i c;rw[cO c] at a
  split
  .rename_i b;rw[cS b] at a;exact absurd a b
  .rename_i b;rw[cO b] at a
   split
   .rename_i d;rw[cS d] at a;cases a
   .rename_i d;obtain⟨_,a2,a3⟩:=OK h.ty 0 ado hn (vS.1 b);refine⟨a2.down hs VW,?_⟩;show((f.wW 0).1.up 1 (-1)).aiw<=_;rw[Fm.pX];omega
def u_{g:List Ty}{s:Ty}{f:Fm}(h:Hg (g++[s]) f)(hg:g.length<=1000):lF f=some (BZ f):=by
 have hn:=h.aiw;have l:f.aiA 1000000000000=true:=h.ty.aiA _ ado;unfold lF BZ;rw[oQ h.ok VW l VW VW,cv]
 by_cases d:f.aiC 0=0
 .rw[cS d,cS (by rw[eT];omega),sZ h.ok VW l d];rfl
 .rw[cO d,cO (by rw[eT];omega),Md FU f 0 0 (by rw[dY];omega) VW h.ok (RU.of f hn h.ok (h.ty.aiA _ ado))];obtain⟨a,i,j⟩:∃a i,f.wW 0=(a,i):=⟨_,_,rfl⟩;rw[j,cN];simp only[]
  by_cases he:i=0
  .subst he;rw[cO ab9,cO ab9];have b:=OK h.ty 0 ado hn (by rw[j]);rw[j] at b;obtain⟨_,a2,a3⟩:=b;have a2:jS (g++[s]) a:=a2;have a3:a.aiw<=3000*f.aiw:=a3;have c:a.aiA 1000000000000=true:=a2.aiA _ ado;rw[oQ a2.ok VW c VW VW,cv]
   by_cases k:a.aiC 0=0
   .rw[cO (by rw[fy];omega),cO (by simpa using k),sZ a2.ok VW c k];rfl
   .rw[cS (by rw[fy];omega),cS k];rfl
  .rw[cS (by rw[c9];exact he),cS he];rfl
abbrev PR:=(Fm×Nat)⊕Int
def pbind(r:PR)(k:Fm->Nat->PR):PR:=match r with|.inl p=>k p.1 p.2|.inr e=>.inr e
def tV(c:Prop)[Decidable c](e:Int)(r:PR):PR:=if c then .inr e else r
theorem kl{c:Prop}[Decidable c]{e:Int}{r:PR}(h:c):tV c e r=.inr e:=cS h
theorem gA{c:Prop}[Decidable c]{e:Int}{r:PR}(h:¬c):tV c e r=r:=cO h
def jd(e:Int)(r:PR):PR:=if e=0 then r else .inr e
@[simp] theorem eI(f:Fm)(m:Nat)(k:Fm->Nat->PR):pbind (.inl (f,m)) k=k f m:=rfl
theorem fi{e:Int}{r:PR}(h:e=0):jd e r=r:=cS h
theorem iV{e:Int}{r:PR}(h:e≠0):jd e r=.inr e:=cO h
noncomputable def wH (r:PR):PR:=pbind r λf m=>if f.err=0 then .inl (f,if f.has then m else 0)else .inr 4
def DU(r:PR)(k:Int):PR:=pbind r λf m=>if f.aiu=k then .inl (f,m)else .inr 10
noncomputable def wG (a b:Fm):Int:=(ic a b).getD 0
noncomputable def prt (r:PR) (F:Fm) (t:Tm):PR:=pbind r λf m=>jd (j4 F t).2 (jd (wG (j4 F t).1 f) (.inl (f,m)))
def JN(t:Tm):Nat->Nat
 |0=>0|j+1=>if 0<t.aiC j then JN t j|||2^j else JN t j
def rL(t:Tm):Nat:=JN t 32
def Jh(t:Tm):∀(n i:Nat),(JN t n).testBit i=true↔i<n/\0<t.aiC i
 |0,i=>by simp[JN]|n+1,i=>by
  have ih:=Jh t n i;rw[JN]
  by_cases h:0<t.aiC n
  .rw[cS h,ab5,rD,ih,Zc];simp only[oq];constructor
   .rintro(⟨a,b⟩|rfl)
    .exact⟨VW,b⟩
    .exact⟨VW,h⟩
   .rintro⟨a,b⟩
    by_cases hi:n=i
    .exact .inr hi
    .exact .inl ⟨VW,b⟩
  .rw[cO h,ih];constructor
   .rintro⟨a,b⟩;exact⟨VW,b⟩
   .rintro⟨a,b⟩;refine⟨?_,b⟩;rcases s8 i n with hh|hh
    .exact hh
    .obtain rfl:i=n:=VW
     exact absurd b h
def R3(t:Tm)(i:Nat):(rL t).testBit i=true↔i<32/\0<t.aiC i:=Jh t 32 i
def v0:Tm:=.mk 1 0 (.mk 0 []) []
def v1:Tm:=.mk 1 1 (.mk 0 []) []
noncomputable def oX (L:List Fm) (k i:Int) (s:Ty) (ts:List Tm) (fs:List Fm) (sub:Nat->List Ty->List Fm->PR) (g:List Ty) (hs:List Fm):PR:=
 let t:=ts.getD 0 Tm.z
 let F:=fs.getD 0 fS
 if k=1 then tV ((hs.length:Int)<=i) 8 (.inl (hs.getD (hs.length-1-i.toNat) fS,0))
 else if k=2 then tV ((L.length:Int)<=i) 9 (.inl (L.getD i.toNat fS,0))
 else if k=3 then pbind (sub 0 g hs) λa m=>pbind (sub 1 g hs) λb n=>.inl (.mk 2 .z [] [a,b],m|||n)
 else if k=4 then pbind (DU (sub 0 g hs) 2) λa m=>.inl (a.aiv.getD 0 fS,m)
 else if k=5 then pbind (DU (sub 0 g hs) 2) λa m=>.inl (a.aiv.getD 1 fS,m)
 else if k=6 then jd (F.uJ g) (tV (16<hs.length+1) 3 (pbind (sub 0 g (hs++[F])) λb m=>.inl (.mk 3 .z [] [F,b],m)))
 else if k=7 then pbind (DU (sub 0 g hs) 3) λa m=>pbind (sub 1 g hs) λb n=>jd (wG (a.aiv.getD 0 fS) b) (.inl (a.aiv.getD 1 fS,m|||n))
 else if k=8 then tV (16<g.length+1) 3 (pbind (sub 0 (g++[s]) (hs.map (Fm.up 0 1))) λb m=>.inl (.mk 4 s [] [b],m/2))
 else if k=12 then tV (16<g.length+1) 3 (pbind (sub 0 (g++[s]) (hs.map (Fm.up 0 1))) λb m=>tV (m.testBit 0=true) 12 (.inl (.mk 6 s [] [b],m/2)))
 else if k=9 then jd (t.ty g).2 (pbind (DU (sub 0 g hs) 4) λa m=>tV ((t.ty g).1.jE a.cT=false) 7 (jd (j4 (a.aiv.getD 0 fS) t).2 (.inl ((j4 (a.aiv.getD 0 fS) t).1,m|||rL t))))
 else if k=13 then jd (t.ty g).2 (pbind (DU (sub 0 g hs) 6) λa m=>tV ((t.ty g).1.jE a.cT=false) 7 (jd (j4 (a.aiv.getD 0 fS) t).2 (.inl ((j4 (a.aiv.getD 0 fS) t).1,m))))
 else if k=10 then jd (F.uJ g) (tV (F.aiu≠5) 10 (jd (t.ty g).2 (tV ((t.ty g).1.jE F.cT=false) 7 (pbind (prt (sub 0 g hs) (F.aiv.getD 0 fS) t) λ_ m=>.inl (F,m|||rL t)))))
 else if k=14 then jd (F.uJ g) (tV (F.aiu≠7) 10 (jd (t.ty g).2 (tV ((t.ty g).1.jE F.cT=false) 7 (pbind (prt (sub 0 g hs) (F.aiv.getD 0 fS) t) λ_ m=>.inl (F,m)))))
 else if k=11 then pbind (DU (sub 0 g hs) 5) λa m=>tV (16<g.length+1\/16<hs.length+1) 3 (pbind (sub 1 (g++[a.cT]) (hs.map (Fm.up 0 1)++[a.aiv.getD 0 fS])) λb n=>jd (BZ b).2 (.inl ((BZ b).1,m|||n/2)))
 else if k=15 then pbind (DU (sub 0 g hs) 7) λa m=>tV (16<g.length+1\/16<hs.length+1) 3 (pbind (sub 1 (g++[a.cT]) (hs.map (Fm.up 0 1)++[a.aiv.getD 0 fS])) λb n=>jd (BZ b).2 (tV (n.testBit 0=true) 12 (.inl ((BZ b).1,m|||n/2))))
 else if k=16 then jd (F.uJ (g++[.nat])) (jd (nQ t g 1) (pbind (prt (sub 0 g hs) F vT) λ_ m=>tV (16<g.length+1\/16<hs.length+1) 3 (
  pbind (prt (sub 1 (g++[.nat]) (hs.map (Fm.up 0 1)++[F])) (F.up 1 1) (i_ v0)) λ_ n=>jd (j4 F t).2 (.inl ((j4 F t).1,(rL t|||m)|||n/2)))))
 else if k=17 then jd (F.uJ (g++[.lW])) (jd (nQ t g 2) (pbind (prt (sub 0 g hs) F (.mk 7 0 .z [])) λ_ m=>tV (16<g.length+2\/16<hs.length+1) 3 (
  pbind (prt (sub 1 (g++[.nat]++[.lW]) (hs.map (Fm.up 0 2)++[F.up 1 1])) (F.up 1 2) (.mk 8 0 .z [v1,v0])) λ_ n=>jd (j4 F t).2 (.inl ((j4 F t).1,(rL t|||m)|||n/4)))))
 else if k=18 then jd (nQ t g 1) (.inl (.mk 1 .z [t,t] [],0))
 else if k=19 then jd (F.uJ (g++[.nat])) (pbind (DU (sub 0 g hs) 1) λa _=>pbind (prt (sub 1 g hs) F (a.dc.getD 0 Tm.z)) λ_ n=>jd (j4 F (a.dc.getD 1 Tm.z)).2 (.inl ((j4 F (a.dc.getD 1 Tm.z)).1,n)))
 else pbind (DU (sub 0 g hs) 4) λa m=>tV ((a.aiv.getD 0 fS).aiu≠5) 10 (tV ((Ty.fn a.cT (a.aiv.getD 0 fS).cT).err≠0) 4 (tV ((j4 (((a.aiv.getD 0 fS).aiv.getD 0 fS).up 2 1) (gL v1 v0)).2≠0) 4 (.inl (.mk 5 (Ty.fn a.cT (a.aiv.getD 0 fS).cT) [] [.mk 4 a.cT [] [(j4 (((a.aiv.getD 0 fS).aiv.getD 0 fS).up 2 1) (gL v1 v0)).1]],m))))
mutual
noncomputable def Pf.inf (L:List Fm):Pf->List Ty->List Fm->PR
 |.mk k i s ts fs l,g,hs=>wH (oX L k i s ts fs (Pf.tN L l) g hs)
noncomputable def Pf.tN (L:List Fm):List Pf->Nat->List Ty->List Fm->PR
 |[],_,_,_=>.inr 2|p::_,0,g,hs=>p.inf L g hs|_::l,n+1,g,hs=>Pf.tN L l n g hs
end
def IRs(g:List Ty)(s:PR)(k:Option (cP×Int))(r:Option (qZ×Int)):Prop:=
 (∃e,e≠0/\s=.inr e/\k=some (⟨fS,0⟩,e)/\r=some (⟨fS,[]⟩,e))\/∃(f:Fm) (m:Nat) (l:List Int),s=.inl (f,m)/\k=some (⟨f,(m:Int)⟩,0)/\r=some (⟨f,l⟩,0)/\Us l m/\Hg g f
def k0(g:List Ty)(s:PR)(k:Option (cP×Int))(r:Option (Fm×List Int×Int)):Prop:=
 (∃e x f l,e≠0/\s=.inr e/\k=some (x,e)/\r=some (f,l,e))\/∃(f:Fm) (m:Nat) (l:List Int),s=.inl (f,m)/\k=some (⟨f,(m:Int)⟩,0)/\r=some (f,l,0)/\Us l m/\jS g f/\f.aiw<=15000000
theorem k0.no{g:List Ty}{s:PR}{k:Option (cP×Int)}{r:Option (Fm×List Int×Int)}{e:Int}{x:cP}{f:Fm}{l:List Int}(he:e≠0)(a:s=.inr e)(b:k=some (x,e))(c:r=some (f,l,e)):k0 g s k r:=.inl ⟨e,x,f,l,he,a,b,c⟩
def k0.yes{g:List Ty}{s:PR}{k:Option (cP×Int)}{r:Option (Fm×List Int×Int)}{f:Fm}{m:Nat}{l:List Int}(a:s=.inl (f,m))(b:k=some (⟨f,(m:Int)⟩,0))(c:r=some (f,l,0))(d:Us l m)(h:jS g f)(i:f.aiw<=15000000):k0 g s k r:=.inr ⟨f,m,l,a,b,c,d,h,i⟩
def k0.infer{g:List Ty}(hg:g.length<=16){s:PR}{k:Option (cP×Int)}{r:Option (Fm×List Int×Int)}(h:k0 g s k r):IRs g (wH s) (OZ k) (QF r):=by
 rcases h with⟨e,x,f,l,he,rfl,rfl,rfl⟩|⟨f,m,l,rfl,rfl,rfl,hu,b,hn⟩
 .refine .inl ⟨e,he,rfl,?_,?_⟩
  .unfold OZ;rw[cN,cS (by rw[c9];exact he)];rfl
  .unfold QF;rw[mh,cS (by rw[c9];exact he)];rfl
 .have c:=b.ok;have hw:=f.hI c;have i:=b.aiA 1000000000000 VW;have d:wH (.inl (f,m))=if f.err=0 then .inl (f,if f.has then m else 0)else .inr 4:=rfl;unfold OZ QF;rw[cN,mh];simp only[c6];rw[cO ab9,cO ab9,j9 VW,kG VW,cv,cv]
  by_cases a:f.err=0
  .rw[cO (by rw[c9];simp[a]),cO (by rw[c9];simp[a]),Ds VW i,DH _ VW,d,cS a];rw[cO (show¬(f.err≠0) by simpa using a),cN,cN];cases f.has with
   |true=>exact .inr ⟨f,m,l,rfl,rfl,rfl,hu,⟨a,b⟩⟩|false=>exact .inr ⟨f,0,[],rfl,rfl,rfl,.nil,⟨a,b⟩⟩
  .rw[cS (by rw[c9];exact a),cS (by rw[c9];exact a),d,cO a];exact .inl ⟨4,ab9,rfl,rfl,rfl⟩
def ij(L:List Fm)(P:Pf)(N:Nat):Prop:=∀n n',N<=n->N<=n'->∀p c,PG L p c->IRs c.aiy (P.inf L c.aiy c.aiB) (dN n L P p) (dp n' c P)
def xh{f:Fm}{m:Nat}{k:Int}(h:f.aiu=k):DU (.inl (f,m)) k=.inl (f,m):=by grind[DU,eI]
def mA{g:List Ty}{s:PR}{n:Nat}{L:List Fm}{P:Pf}{p:cV}{r:Option (qZ×Int)}(h:IRs g s (dN n L P p) r)(k:Int):(∃e,e≠0/\DU s k=.inr e/\dI (n+1) L P p k=some (⟨fS,0⟩,e)/\((r=some (⟨fS,[]⟩,e))\/∃f l m,r=some (⟨f,l⟩,0)/\f.aiu≠k/\e=10/\Us l m))\/∃(f:Fm) (m:Nat) (l:List Int),DU s k=.inl (f,m)/\dI (n+1) L P p k=some (⟨f,(m:Int)⟩,0)/\r=some (⟨f,l⟩,0)/\Us l m/\Hg g f/\f.aiu=k:=by
 rcases h with⟨e,he,a,d,b⟩|⟨f,m,l,a,d,b,hu,i⟩
 .refine .inl ⟨e,he,by rw[a];rfl,?_,.inl b⟩
  grind[dI,cN,qc,eT]
 .by_cases c:f.aiu=k
  .grind[DU,eI,dI,cN,qc,c9]
  .refine .inl ⟨10,ab9,by rw[a];unfold DU;rw[eI,cO c],?_,.inr ⟨f,l,m,b,c,rfl,hu⟩⟩;rw[dI,d,cN,cS (by rw[qc,fK,c9,eT];exact⟨rfl,c⟩)];rfl
def K0{a b:Fm}(d:a.wt<=1000000000)(f:b.wt<=1000000000):ic a b=some (wG a b)/\nu a b=some (wG a b):=by
 obtain⟨c,h,i⟩:=A' d f
 have:wG a b=c:=by unfold wG;rw[h];rfl
 grind
structure rN (g:List Ty) (F:Fm) (t:Tm):Prop where
 fe:F.err=0
 te:t.err=0
 ty:∃s,jS (g++[s]) F/\dG g t s
theorem rN.put{g:List Ty}{F:Fm}{t:Tm}(h:rN g F t):jS g (Fm.iu 0 F t):=by
 obtain⟨s,a,b⟩:=h.ty;exact a.put b
def rN.both{g:List Ty}{F:Fm}{t:Tm}(h:rN g F t)(hg:g.length<=100):hB F t=some (j4 F t)/\iL F t=some (j4 F t):=by
 obtain⟨s,c,d⟩:=h.ty;obtain⟨_,a2⟩:=Fm.fQ h.fe;obtain⟨_,f⟩:=Tm.fQ h.te;have a:F.aiA 536870912=true:=c.aiA _ ado;have b:t.aiA 536870912=true:=d.aiA _ VW;refine⟨Iz h.fe h.te (Fm.lG F VW a) (Tm.lG t VW b),?_⟩;unfold iL;rw[G7 h.fe h.te a b h.put.ok];rfl
theorem o9(F:Fm)(t:Tm):j4 F t=(fS,4)\/(Fm.iu 0 F t).aiw<=4096/\j4 F t=(Fm.iu 0 F t,0):=by
 unfold j4
 split
 .exact .inl rfl
 .grind
def sa{g:List Ty}(hg:g.length<=16){s:PR}{n n':Nat}{L:List Fm}{P:Pf}{p:cV}{c:cX}(h:IRs g s (dN n L P p) (dp n' c P)){F:Fm}{t:Tm}(q:rN g F t):(∃e x l m,e≠0/\prt s F t=.inr e/\dM (n+1) L P p F t=some (x,e)/\dZ (n'+1) c P F t=some (l,e)/\Us l m)\/∃(f:Fm) (m:Nat) (l:List Int),prt s F t=.inl (f,m)/\dM (n+1) L P p F t=some (⟨f,(m:Int)⟩,0)/\dZ (n'+1) c P F t=some (l,0)/\Us l m:=by
 obtain⟨i,k2⟩:=q.both VW;rcases h with⟨e,he,j,k,o⟩|⟨f,m,l,j,k,o,hu,r⟩
 .refine .inl ⟨e,⟨fS,0⟩,[],0,he,by rw[j];rfl,?_,?_,.nil⟩
  .rw[dM,k,cN,cS (by rw[c9];exact he)];rfl
  .rw[dZ,o,cN,cS (by rw[c9];exact he)]
 .rcases o9 F t with d|⟨hn,d⟩
  .rw[d] at i k2;refine .inl ⟨4,⟨fS,0⟩,[],0,ab9,?_,?_,?_,.nil⟩
   .rw[j];unfold prt;rw[eI,d];rfl
   .rw[dM,k,cN,cO ab9,i,cN,cS ab9];rfl
   .rw[dZ,o,cN,cO ab9,k2,cN,cS ab9]
  .rw[d] at i k2;have A:=Fm.hI _ q.put.ok;have B:=Fm.hI _ r.ok;have u:=r.aiw;obtain⟨m1,m2⟩:=K0 (a:=Fm.iu 0 F t) (b:=f) VW VW
   have v:prt s F t=jd (wG (Fm.iu 0 F t) f) (.inl (f,m)):=by rw[j];unfold prt;rw[eI,d,fi rfl]
   have w:dM (n+1) L P p F t=some (⟨f,(m:Int)⟩,wG (Fm.iu 0 F t) f):=by
    rw[dM,k,cN,cO ab9,i,cN,cO ab9,m1,cv]
   have y:dZ (n'+1) c P F t=some (l,wG (Fm.iu 0 F t) f):=by
    rw[dZ,o,cN,cO ab9,k2,cN,cO ab9,m2,cv]
   rw[v,w,y]
   by_cases hm:wG (Fm.iu 0 F t) f=0
   .rw[fi hm,hm];exact .inr ⟨f,m,l,rfl,rfl,rfl,hu⟩
   .rw[iV hm];exact .inl ⟨_,_,_,m,hm,rfl,rfl,rfl,hu⟩
theorem B_{g:List Ty}(h:gR g)(hg:g.length<=16):vQ g=0:=by
 unfold vQ;rw[cO VW]
 induction g with
 |nil=>rfl|cons s g ih=>
  have a:=h s acZ;simp only[Dk,eD];rw[cS a];exact ih (λx b=>h x (by simp[b])) (by simp at hg;omega)
def sb{g:List Ty}(a:gR g)(hg:g.length<=17){F:Fm}(hF:F.err=0):dC FU (g.map rT) F=some (F.uJ g)/\jV g F=some (F.uJ g)/\(g.length<=16->jk g F=some (F.uJ g)):=by
 obtain⟨a1,a2⟩:=Fm.fQ hF;have hw:=F.hI a1;refine⟨vj F a1 FU (by rw[dY];omega) g a VW a2,?_,λb=>?_⟩
 .unfold jV;rw[kG VW,hF,cv,cO ab9,yY F a1 FU (by rw[dY];omega) g a VW a2];rfl
 .rw[tX VW VW (λt c=>by have:=ec (a t c);omega)];unfold Fh
  grind[B_]
def mb{g:List Ty}(a:gR g)(hg:g.length<=16){t:Tm}(b:t.err=0):dD FU (g.map rT) t=some (IM (t.ty g))/\jz g t=some (t.ty g):=by
 obtain⟨a1,a2⟩:=Tm.fQ b;refine⟨wQ a1 a VW,?_⟩;unfold jz;rw[r6 g VW (λt b=>by have:=ec (a t b);omega),B_ a hg,yp a1 a2 a VW];rfl
def has_both{g:List Ty}(b:gR g)(hg:g.length<=16){c:cX}(a:c.aiy=g){t:Tm}(d:t.err=0)(k:Int):gO (g.map rT) t k=some (nQ t g k)/\fZ c t k=some (nQ t g k):=by
 obtain⟨a1,a2⟩:=Tm.fQ d;refine⟨AF k a1 b VW,?_⟩;unfold fZ nQ;rw[a,(mb b hg d).2]
 grind[cN,c9]
def wM{g:List Ty}(hg:g.length<=16){t:Tm}{s:Ty}(h:dG g t s)(b:t.err=0):∃l,jc t=some (rL t:Int)/\jJ t=some l/\Us l (rL t):=by
 obtain⟨a1,a2⟩:=Tm.fQ b;have a:∀j:Int,32<=j->t.aiC j=0:=λj f=>h.O7 j VW;obtain⟨l,m,k,n,c,d⟩:=XE b (h.aiA _ VW) a
 have:m=rL t:=by
  refine afA λi=>?_;rw[CY,<-c.mem i,d,R3]
  grind
 grind
def nz:¬dw 0 0=true:=ab9
def p9(n:Nat)(a0:List Fm)(a1:Pf)(a2:cV):Option (cP×Int):=
 if dj a1.aiu 1 then nS a0 a1 a2 else(if dj a1.aiu 2 then mr a0 a1 a2 else(if dj a1.aiu 3 then jP n a0 a1 a2 else(if dj a1.aiu 4 then gq n a0 a1 a2 else(if dj a1.aiu 5 then gq n a0 a1 a2 else(if dj a1.aiu 6 then jO n a0 a1 a2 else(if dj a1.aiu 7 then jR n a0 a1 a2 else(if dj a1.aiu 8 then gb n a0 a1 a2 else(if dj a1.aiu 12 then gb n a0 a1 a2 else(if dj a1.aiu 9 then gd n a0 a1 a2 else(if dj a1.aiu 13 then gd n a0 a1 a2 else(if dj a1.aiu 10 then gn n a0 a1 a2 else(if dj a1.aiu 14 then gn n a0 a1 a2 else(if dj a1.aiu 11 then gm n a0 a1 a2 else(if dj a1.aiu 15 then gm n a0 a1 a2 else(if dj a1.aiu 16 then j5 n a0 a1 a2 else(if dj a1.aiu 17 then j5 n a0 a1 a2 else(if dj a1.aiu 18 then mR a0 a1 a2 else(if dj a1.aiu 19 then jh n a0 a1 a2 else(if dj a1.aiu 20 then jZ n a0 a1 a2 else none)))))))))))))))))))
def Pf.gC(L:List Fm)(k i:Int)(s:Ty)(ts:List Tm)(a:List Fm)(l:List Pf)(g:List Ty)(hs:List Fm):(Pf.mk k i s ts a l).inf L g hs=wH (oX L k i s ts a (Pf.tN L l) g hs):=by rw[Pf.inf]
def ij.of{L:List Fm}{k i:Int}{s:Ty}{ts:List Tm}{a:List Fm}{l:List Pf}{N:Nat}
  (H:∀n n',N<=n->N<=n'->∀p c,PG L p c->k0 c.aiy (oX L k i s ts a (Pf.tN L l) c.aiy c.aiB) (p9 (n+4) L (.mk k i s ts a l) p) (df (n'+4) c (.mk k i s ts a l))):ij L (.mk k i s ts a l) (N+5):=by
 intro n n' hn d p c h;obtain⟨m,rfl⟩:∃m,n=m+5:=⟨n-5,VW⟩;obtain⟨b,rfl⟩:∃b,n'=b+5:=⟨n'-5,VW⟩;exact k0.infer h.pl.nv (H m b VW VW p c h)
def af9(n:Nat)(c:cX)(i:Int):df (n+1) c (.mk 1 i .z [] [] [])=if(pH i (dq c.aiB)) then some (fS,[],8)else cM (dg c.aiB (ed .i64 (ed .i64 (dq c.aiB) 1) i)) λa=>some (a,[],0):=by rw[df];rfl
def We(L:List Fm)(i:Int)(g:List Ty)(hs:List Fm):oX L 1 i .z [] [] (Pf.tN L []) g hs=tV ((hs.length:Int)<=i) 8 (.inl (hs.getD (hs.length-1-i.toNat) fS,0)):=rfl
def aeU(n:Nat)(L:List Fm)(i:Int)(p:cV):p9 n L (.mk 1 i .z [] [] []) p=cW (kc p i) λa b=>if b then some (⟨a,0⟩,0)else some (⟨fS,0⟩,8):=rfl
def Un{L:List Fm}{i:Int}(hi:0<=i):ij L (.mk 1 i .z [] [] []) 5:=by
 refine ij.of (N:=0) λn n' _ _ p c h=>?_;rw[af9,We,aeU];have k:=h.pl.O5 hi
 by_cases j:(c.aiB.length:Int)<=i
 .grind[kl,cN,pH,dq,gI,eo,k0.no]
 .rw[cO j] at k;obtain⟨f,d,o⟩:=k;rw[gA j,o,cN,cS rfl,cO (show¬(pH i (dq c.aiB)=true) by rw[gI,eo];exact j),d,cv];have q:=h.pl.nh;rw[eo,et (a:=(c.aiB.length:Int)) VW VW,et VW VW] at d
  have b:c.aiB.length-1-i.toNat<c.aiB.length:=VW
  rw[show(c.aiB.length:Int)-1-i=((c.aiB.length-1-i.toNat:Nat):Int) by omega,gP,l9 b] at d
  have r:c.aiB.getD (c.aiB.length-1-i.toNat) fS=f:=by grind
  have l:=h.aiB f (by rw[<-fU d];exact CC b);exact k0.yes (by rw[r]) rfl rfl .nil l.ty (by have:=l.aiw;omega)
def agi(n:Nat)(c:cX)(i:Int):df (n+1) c (.mk 2 i .z [] [] [])=if(pH i (dq c.lemmas)) then some (fS,[],9)else cM (dg c.lemmas i) λa=>some (a,[],0):=by rw[df];rfl
def V4(L:List Fm)(i:Int)(g:List Ty)(hs:List Fm):oX L 2 i .z [] [] (Pf.tN L []) g hs=tV ((L.length:Int)<=i) 9 (.inl (L.getD i.toNat fS,0)):=rfl
def afN(n:Nat)(L:List Fm)(i:Int)(p:cV):p9 n L (.mk 2 i .z [] [] []) p=if(pH i (dq L)) then some (⟨fS,0⟩,9)else cM (dg L i) λa=>some (⟨a,0⟩,0):=rfl
def Wv{L:List Fm}{i:Int}(hi:0<=i):ij L (.mk 2 i .z [] [] []) 5:=by
 refine ij.of (N:=0) λn n' _ _ p c h=>?_;rw[agi,V4,afN,h.Ev]
 by_cases b:(L.length:Int)<=i
 .grind[kl,gI,eo,k0.no]
 .obtain⟨k,rfl⟩:∃k:Nat,i=k:=⟨i.toNat,VW⟩
  have a:k<L.length:=VW
  rw[gA b,cO (by rw[gI,eo];exact b),cO (by rw[gI,eo];exact b),gP,l9 a,cv,cv]
  have f:L.getD (k:Int).toNat fS=L[k]:=by grind
  have d:=h.adi _ (CC a);exact k0.yes (by rw[f]) rfl rfl .nil (by simpa using d.ty.front c.aiy) (by have:=d.aiw;omega)
def aci(n:Nat)(c:cX)(a b:Pf):df (n+1) c (.mk 3 0 .z [] [] [a,b])=cW (dp n c a) λd f=>if(dw f 0) then some (fS,[],f)else cW (dp n c b) λh i=>cM (ke 2 d.cU h.cU) λj=>cM (fq d.uses h.uses) λk=>some (j,k,i):=by rw[df];rfl
def Pc(L:List Fm)(a b:Pf)(g:List Ty)(hs:List Fm):oX L 3 0 .z [] [] (Pf.tN L [a,b]) g hs=pbind (a.inf L g hs) λf m=>pbind (b.inf L g hs) λc n=>.inl (.mk 2 .z [] [f,c],m|||n):=rfl
def abr(n:Nat)(L:List Fm)(a b:Pf)(p:cV):p9 (n+1) L (.mk 3 0 .z [] [] [a,b]) p=cW (dN n L a p) λc d=>if(dw d 0) then some (⟨fS,0⟩,d)else cW (dN n L b p) λf h=>if(dw h 0) then some (⟨fS,0⟩,h)else some (⟨.mk 2 .z [] [c.cU,f.cU],xK .u32 c.uses f.uses⟩,0):=by
 show jP (n+1) L (.mk 3 0 .z [] [] [a,b]) p=_;rw[jP];rfl
def OV:fS.wt<=1000000:=ab9
def R7{L:List Fm}{a b:Pf}{N:Nat}(u:ij L a N)(v:ij L b N):ij L (.mk 3 0 .z [] [] [a,b]) (N+5):=by
 refine ij.of λn n' hn w p c h=>?_;rw[aci,Pc,abr];rcases u (n+3) (n'+3) VW VW p c h with⟨e,he,d,i,j⟩|⟨f,m,l,d,i,j,hu,r⟩
 .rw[d,i,j,cN,cN,cS (by rw[c9];exact he),cS (by rw[c9];exact he)];exact k0.no he rfl rfl rfl
 .have x:=r.aiw;have y:=f.hI r.ok;rw[d,i,j,cN,cN,cO ab9,cO ab9,eI];rcases v (n+3) (n'+3) VW VW p c h with⟨e,he,d,i,j⟩|⟨A,B,C,d,i,j,o,k⟩
  .obtain⟨q,q1,_⟩:=hu.union .nil (by have:=hu.len;omega) acZ;have:=OV;rw[d,i,j,cN,cN,cS (by rw[c9];exact he)];simp only[];rw[FX VW VW,cv,q1];exact k0.no he rfl rfl rfl
  .have s:=k.aiw;have t:=A.hI k.ok;obtain⟨q,q1,q2,q3,_⟩:=hu.union o (by have:=hu.len;omega) (by have:=o.len;omega);rw[d,i,j,cN,cN,cO ab9,eI];simp only[];rw[FX VW VW,cv,q1,q2];refine k0.yes rfl rfl rfl q3 (.two (.inl rfl) r.ty k.ty) ?_;rw[Fm.cQ];simp only[db];omega
def jS.JE{g:List Ty}{f:Fm}(h:jS g f){k:Int}(d:f.aiu=k)(i:k=2\/k=3):∃a b,f=.mk k .z [] [a,b]/\jS g a/\jS g b:=by
 cases h with
 |eq _ _=>grind[Fm.dn]|two c j l=>grind[Fm.dn]|q c _ _=>grind[Fm.dn]
def jS.vi{g:List Ty}{f:Fm}(h:jS g f){k:Int}(d:f.aiu=k)(i:k=4\/k=5\/k=6\/k=7):∃s a,f=.mk k s [] [a]/\s.err=0/\jS (g++[s]) a:=by
 cases h with
 |eq _ _=>grind[Fm.dn]|two b c j=>grind[Fm.dn]|q b hs c=>grind[Fm.dn]
def jS.aaH{g:List Ty}{f:Fm}(h:jS g f)(j:f.aiu=1):∃a b,f=.mk 1 .z [a,b] []/\dG g a .nat/\dG g b .nat:=by
 cases h with
 |eq d i=>grind|two c d i=>simp_all|q c hs d=>simp_all
def Hg.sub{g a:List Ty}{k:Int}{s:Ty}{ts:List Tm}{l:List Fm}(h:Hg g (.mk k s ts l)){x:Fm}(c:x∈l)(b:jS a x):Hg a x:=by
 have d:=h.aiw;rw[Fm.cQ] at d;have:=di Fm.aiw c;refine⟨?_,b⟩;unfold Fm.err;rw[cS b.ok,cO VW]
def abo(n:Nat)(c:cX)(a:Pf):df (n+1) c (.mk 4 0 .z [] [] [a])=cW (dp n c a) λb d=>if(dw d 0) then some (fS,[],d)else if(dw b.cU.aiu 2) then some (fS,[],10)else cM (dg b.cU.aiv (ed .i64 4 4)) λf=>some (f,b.uses,0):=by rw[df];rfl
def aaR(n:Nat)(c:cX)(a:Pf):df (n+1) c (.mk 5 0 .z [] [] [a])=cW (dp n c a) λb d=>if(dw d 0) then some (fS,[],d)else if(dw b.cU.aiu 2) then some (fS,[],10)else cM (dg b.cU.aiv (ed .i64 5 4)) λf=>some (f,b.uses,0):=by rw[df];rfl
def QI(L:List Fm)(a:Pf)(g:List Ty)(hs:List Fm):oX L 4 0 .z [] [] (Pf.tN L [a]) g hs=pbind (DU (a.inf L g hs) 2) λf m=>.inl (f.aiv.getD 0 fS,m):=rfl
def PL(L:List Fm)(a:Pf)(g:List Ty)(hs:List Fm):oX L 5 0 .z [] [] (Pf.tN L [a]) g hs=pbind (DU (a.inf L g hs) 2) λf m=>.inl (f.aiv.getD 1 fS,m):=rfl
def aaS(n:Nat)(L:List Fm)(a:Pf)(p:cV):p9 (n+1) L (.mk 4 0 .z [] [] [a]) p=cW (dI n L a p 2) λb c=>if(dw c 0) then some (⟨fS,0⟩,c)else cM (dg b.cU.aiv 0) λd=>some (⟨d,b.uses⟩,0):=by
 show gq (n+1) L (.mk 4 0 .z [] [] [a]) p=_;rw[gq];rfl
def ab6(n:Nat)(L:List Fm)(a:Pf)(p:cV):p9 (n+1) L (.mk 5 0 .z [] [] [a]) p=cW (dI n L a p 2) λb c=>if(dw c 0) then some (⟨fS,0⟩,c)else cM (dg b.cU.aiv 1) λd=>some (⟨d,b.uses⟩,0):=by
 show gq (n+1) L (.mk 5 0 .z [] [] [a]) p=_;rw[gq];rfl
def SB{L:List Fm}{a:Pf}{N:Nat}(q:ij L a N):ij L (.mk 4 0 .z [] [] [a]) (N+5):=by
 refine ij.of λn n' hn r p c h=>?_;rw[abo,QI,aaS];rcases mA (q (n+2) (n'+3) VW VW p c h) 2 with⟨e,he,d,i,b⟩|⟨f,m,l,d,i,b,hu,k,j⟩
 .rw[d,i,cN,cS (by rw[c9];exact he)];rcases b with b|⟨f,l,m,b,j,rfl,_⟩
  .rw[b,cN,cS (by rw[c9];exact he)];exact k0.no he rfl rfl rfl
  .rw[b,cN,cO ab9,cS (by rw[c9];exact j)];exact k0.no he rfl rfl rfl
 .obtain⟨x,y,rfl,o,hy⟩:=k.ty.JE j (.inl rfl);rw[d,i,b,cN,cN,cO ab9,cO acZ,eI];exact k0.yes (f:=x) rfl rfl rfl hu o (by have:=(k.sub acZ o).aiw;omega)
def Sn{L:List Fm}{a:Pf}{N:Nat}(o:ij L a N):ij L (.mk 5 0 .z [] [] [a]) (N+5):=by
 refine ij.of λn n' hn q p c h=>?_;rw[aaR,PL,ab6];rcases mA (o (n+2) (n'+3) VW VW p c h) 2 with⟨e,he,d,i,b⟩|⟨f,m,l,d,i,b,hu,k,j⟩
 .rw[d,i,cN,cS (by rw[c9];exact he)];rcases b with b|⟨f,l,m,b,j,rfl,_⟩
  .rw[b,cN,cS (by rw[c9];exact he)];exact k0.no he rfl rfl rfl
  .rw[b,cN,cO ab9,cS (by rw[c9];exact j)];exact k0.no he rfl rfl rfl
 .obtain⟨x,y,rfl,r,hy⟩:=k.ty.JE j (.inl rfl);rw[d,i,b,cN,cN,cO ab9,cO acZ,eI];exact k0.yes (f:=y) rfl rfl rfl hu hy (by have:=(k.sub acZ hy).aiw;omega)
def ab7(n:Nat)(c:cX)(F:Fm)(a:Pf):df (n+1) c (.mk 6 0 .z [] [F] [a])=cM (jk c.aiy F) λb=>if(dw b 0) then some (fS,[],b)else cM (du c 0 1) λd=>if(dw d 0) then some (fS,[],d)else cM (fg c F) λh=>cW (dp n h a) λf i=>cM (ke 3 F f.cU) λj=>some (j,f.uses,i):=by rw[df];rfl
def OI(L:List Fm)(F:Fm)(a:Pf)(g:List Ty)(hs:List Fm):oX L 6 0 .z [] [F] (Pf.tN L [a]) g hs=jd (F.uJ g) (tV (16<hs.length+1) 3 (pbind (a.inf L g (hs++[F])) λb m=>.inl (.mk 3 .z [] [F,b],m))):=rfl
def ac5(n:Nat)(L:List Fm)(F:Fm)(a:Pf)(p:cV):p9 (n+1) L (.mk 6 0 .z [] [F] [a]) p=cM (dC FU p.aiy F) λb=>if(dw b 0) then some (⟨fS,0⟩,b)else cM (dy p.eV 0 1) λc=>if(dw c 0) then some (⟨fS,0⟩,c)else cM (eM p F) λh=>cW (dN n L a h) λd f=>if(dw f 0) then some (⟨fS,0⟩,f)else some (⟨.mk 3 .z [] [F,d.cU],d.uses⟩,0):=by
 show jO (n+1) L (.mk 6 0 .z [] [F] [a]) p=_;rw[jO];rfl
def RN{L:List Fm}{F:Fm}(hF:F.err=0){a:Pf}{N:Nat}(w:ij L a N):ij L (.mk 6 0 .z [] [F] [a]) (N+5):=by
 refine ij.of λn n' hn x p c h=>?_;rw[ab7,OI,ac5];have o:=h.pl.nv;obtain⟨t1,_,t2⟩:=sb h.pl.ctx VW hF;have y:=(Fm.fQ hF).2;have A:=F.hI (Fm.fQ hF).1;rw[h.pl.aiy,t1,t2 o,cv,cv]
 by_cases b:F.uJ c.aiy=0
 .rw[cO (by rw[c9];simpa using b),cO (by rw[c9];simpa using b),fi b];have j:=qR F (Fm.fQ hF).1 c.aiy h.pl.ctx b;rcases h.room (v:=0) (k:=1) VW VW with⟨d,i,_,u⟩|⟨d,i,u⟩
  .have d:dy p.eV 0 1=some 0:=d;have i:du c 0 1=some 0:=i;rw[d,i,cv,cv,cO ab9,cO ab9,gA VW];obtain⟨B,C,D,G,H,I,J⟩:=h.with ⟨hF,j⟩ u;rw[D,G,cv,cv];have hi:=w (n+3) (n'+3) VW VW B C H;rw[I,J] at hi;rcases hi with⟨e,he,q,r,s⟩|⟨f,m,l,q,r,s,hu,t⟩
   .have:=OV;rw[q,r,s,cN,cN,cS (by rw[c9];exact he)];simp only[];rw[FX VW VW];exact k0.no he rfl rfl rfl
   .have K:=t.aiw;have M:=f.hI t.ok;rw[q,r,s,cN,cN,cO ab9];simp only[];rw[FX VW VW];refine k0.yes rfl rfl rfl hu (.two (.inr rfl) j t.ty) ?_;rw[Fm.cQ];simp only[db];omega
  .have d:dy p.eV 0 1=some 3:=d;have i:du c 0 1=some 3:=i;rw[d,i,cv,cv,cS ab9,cS ab9,kl VW];exact k0.no ab9 rfl rfl rfl
 .rw[cS (by rw[c9];exact b),cS (by rw[c9];exact b),iV b];exact k0.no b rfl rfl rfl
def abY(n:Nat)(c:cX)(a b:Pf):df (n+1) c (.mk 7 0 .z [] [] [a,b])=cW (dp n c a) λd f=>if(dw f 0) then some (fS,[],f)else if(dw d.cU.aiu 3) then some (fS,[],10)else cW (dp n c b) λh i=>if(dw i 0) then some (fS,[],i)else cM (dg d.cU.aiv 1) λj=>cM (fq d.uses h.uses) λk=>cM (dg d.cU.aiv 0) λl=>cM (nu l h.cU) λo=>some (j,k,o):=by rw[df];rfl
def OD(L:List Fm)(a b:Pf)(g:List Ty)(hs:List Fm):oX L 7 0 .z [] [] (Pf.tN L [a,b]) g hs=pbind (DU (a.inf L g hs) 3) λa m=>pbind (b.inf L g hs) λb n=>jd (wG (a.aiv.getD 0 fS) b) (.inl (a.aiv.getD 1 fS,m|||n)):=rfl
def aa1(n:Nat)(L:List Fm)(a b:Pf)(p:cV):p9 (n+1) L (.mk 7 0 .z [] [] [a,b]) p=cW (dI n L a p 3) λc d=>if(dw d 0) then some (⟨fS,0⟩,d)else cW (dN n L b p) λf h=>if(dw h 0) then some (⟨fS,0⟩,h)else cM (dg c.cU.aiv 0) λj=>cM (ic j f.cU) λi=>if(dw i 0) then some (⟨fS,0⟩,i)else cM (dg c.cU.aiv 1) λk=>some (⟨k,xK .u32 c.uses f.uses⟩,0):=by
 show jR (n+1) L (.mk 7 0 .z [] [] [a,b]) p=_;rw[jR];rfl
def Sj{L:List Fm}{a b:Pf}{N:Nat}(C:ij L a N)(D:ij L b N):ij L (.mk 7 0 .z [] [] [a,b]) (N+5):=by
 refine ij.of λn n' hn F p c h=>?_;rw[abY,OD,aa1];rcases mA (C (n+2) (n'+3) VW VW p c h) 3 with⟨e,he,i,j,d⟩|⟨f,m,l,i,j,d,hu,r,s⟩
 .rw[i,j,cN,cS (by rw[c9];exact he)];rcases d with d|⟨f,l,m,d,s,rfl,_⟩
  .rw[d,cN,cS (by rw[c9];exact he)];exact k0.no he rfl rfl rfl
  .rw[d,cN,cO ab9,cS (by rw[c9];exact s)];exact k0.no he rfl rfl rfl
 .obtain⟨x,y,rfl,w,hy⟩:=r.ty.JE s (.inr rfl);have t:=r.sub (x:=x) acZ w;have u:=r.sub (x:=y) acZ hy;have G:=x.hI w.ok;have H:=t.aiw;rw[i,j,d,cN,cN,cO ab9,cO ab9,cO acZ,eI];rcases D (n+3) (n'+3) VW VW p c h with⟨e,he,i,j,d⟩|⟨v,I,J,i,j,d,k,o⟩
  .rw[i,j,d,cN,cN,cS (by rw[c9];exact he),cS (by rw[c9];exact he)];exact k0.no he rfl rfl rfl
  .have A:=o.aiw;have B:=v.hI o.ok;obtain⟨q,q1,q2,q3,_⟩:=hu.union k (by have:=hu.len;omega) (by have:=k.len;omega);obtain⟨m1,m2⟩:=K0 (a:=x) (b:=v) VW VW;rw[i,j,d,cN,cN,cO ab9,cO ab9,eI];simp only[Fm.dh,dA,fh,im,lY,cv,yb,QH];rw[q1,q2,m1,m2,cv,cv,cv]
   by_cases hm:wG x v=0
   .rw[fi hm,hm,cO ab9];exact k0.yes rfl rfl rfl q3 hy (by have:=u.aiw;omega)
   .rw[iV hm,cS (by rw[c9];exact hm)];exact k0.no hm rfl rfl rfl
def Us.has{l:List Int}{m:Nat}(h:Us l m):qI l=some (m.testBit 0)/\dw (qi .u32 (m:Int) 1) 0=m.testBit 0:=by
 have hm:=h.mem 0;constructor
 .unfold qI;simp only[c6];cases l with
  |nil=>simp_all|cons a l=>
   rw[cS acZ];simp only[dA,im,cv]
   congr 1
   rw[CY,eT,<-hm];constructor
   .rintro rfl;simp
   .intro hh;rcases j8.1 hh with hh|hh
    .exact hh.symm
    .cases h.srt with
     |cons s1 _=>
      have:=s1 0 (by simpa using hh);have:=h.pos a acZ;omega
 .rw[show(1:Int)=((1:Nat):Int)from rfl,LX h.lt VW];rw[CY,c9,Nat.testBit_zero,Nat.and_one_is_mod];simp only[oq];omega
def aaY(n:Nat)(c:cX)(s:Ty)(a:Pf):df (n+2) c (.mk 8 0 s [] [] [a])=g_ (cM (du c 1 0) λo=>if(dw o 0) then some (fS,[],o)else cM (ei c [s]) λj=>cW (dp n j a) λb d=>if(dw d 0) then some (fS,[],d)else cM (jn 4 s b.cU) λk=>cM (fv b.uses 1) λl=>some (k,l,0)) λf h i=>some (f,h,i):=by
 rw[df];rw[mD];rfl
def Yp(n:Nat)(c:cX)(s:Ty)(a:Pf):df (n+2) c (.mk 12 0 s [] [] [a])=g_ (cM (du c 1 0) λq=>if(dw q 0) then some (fS,[],q)else cM (ei c [s]) λj=>cW (dp n j a) λb d=>if(dw d 0) then some (fS,[],d)else cM (qI b.uses) λk=>if k then some (fS,[],12)else cM (jn 6 s b.cU) λl=>cM (fv b.uses 1) λo=>some (l,o,0)) λf h i=>some (f,h,i):=by
 rw[df];rw[mD];rfl
def Qe(L:List Fm)(s:Ty)(a:Pf)(g:List Ty)(hs:List Fm):oX L 8 0 s [] [] (Pf.tN L [a]) g hs=tV (16<g.length+1) 3 (pbind (a.inf L (g++[s]) (hs.map (Fm.up 0 1))) λb m=>.inl (.mk 4 s [] [b],m/2)):=rfl
def Kh(L:List Fm)(s:Ty)(a:Pf)(g:List Ty)(hs:List Fm):oX L 12 0 s [] [] (Pf.tN L [a]) g hs=tV (16<g.length+1) 3 (pbind (a.inf L (g++[s]) (hs.map (Fm.up 0 1))) λb m=>tV (m.testBit 0=true) 12 (.inl (.mk 6 s [] [b],m/2))):=rfl
def acR(n:Nat)(L:List Fm)(s:Ty)(a:Pf)(p:cV):p9 (n+1) L (.mk 8 0 s [] [] [a]) p=cM (dy p.eV 1 0) λh=>if(dw h 0) then some (⟨fS,0⟩,h)else cM (eH p [s]) λd=>cW (dN n L a d) λb c=>if(dw c 0) then some (⟨fS,0⟩,c)else cM (eh b.uses 1) λf=>some (⟨.mk 4 s [] [b.cU],f⟩,0):=by
 show gb (n+1) L (.mk 8 0 s [] [] [a]) p=_;rw[gb];rfl
def Y_(n:Nat)(L:List Fm)(s:Ty)(a:Pf)(p:cV):p9 (n+1) L (.mk 12 0 s [] [] [a]) p=cM (dy p.eV 1 0) λh=>if(dw h 0) then some (⟨fS,0⟩,h)else cM (eH p [s]) λd=>cW (dN n L a d) λb c=>if(dw c 0) then some (⟨fS,0⟩,c)else if(dw (qi .u32 b.uses 1) 0) then some (⟨fS,0⟩,12)else cM (eh b.uses 1) λf=>some (⟨.mk 6 s [] [b.cU],f⟩,0):=by
 show gb (n+1) L (.mk 12 0 s [] [] [a]) p=_;rw[gb];rfl
def Sz{L:List Fm}{s:Ty}(hs:s.err=0){a:Pf}{N:Nat}(u:ij L a N):ij L (.mk 8 0 s [] [] [a]) (N+5):=by
 refine ij.of λn n' hn w p c h=>?_;rw[show n'+4=n'+2+2 from rfl,aaY,Qe,acR];rcases h.room (v:=1) (k:=0) VW VW with⟨b,d,t,_⟩|⟨b,d,t⟩
 .have b:dy p.eV 1 0=some 0:=b;have d:du c 1 0=some 0:=d;rw[b,d,cv,cv,cO nz,cO nz,gA VW];obtain⟨x,y,A,B,C,D,F⟩:=h.below hs t;rw[A,B,cv,cv];have hi:=u (n+3) (n'+2) VW VW x y C;rw[D,F] at hi;rcases hi with⟨e,he,i,j,o⟩|⟨f,m,l,i,j,o,hu,r⟩
  .rw[i,j,o,cN,cN,cS (by rw[c9];exact he),cS (by rw[c9];exact he)];exact k0.no he rfl rfl rfl
  .have G:=r.aiw;have H:=f.hI r.ok;have I:=ec hs;obtain⟨u1,u2,u3⟩:=hu.out (by have:=hu.len;omega) (k:=1) VW;rw[i,j,o,cN,cN,cO nz,cO nz,eI];simp only[];rw[ET VW VW,cv,show(1:Int)=((1:Nat):Int)from rfl,u1,u2];refine k0.yes rfl rfl rfl u3 (.q (.inl rfl) hs r.ty) ?_;rw[Fm.cQ];simp only[db];omega
 .have b:dy p.eV 1 0=some 3:=b;have d:du c 1 0=some 3:=d;have J:=h.pl.nh;rw[b,d,cv,cv,cS ab9,cS ab9,kl VW];exact k0.no ab9 rfl rfl rfl
def PV{L:List Fm}{s:Ty}(hs:s.err=0){a:Pf}{N:Nat}(w:ij L a N):ij L (.mk 12 0 s [] [] [a]) (N+5):=by
 refine ij.of λn n' hn x p c h=>?_;rw[show n'+4=n'+2+2 from rfl,Yp,Kh,Y_];rcases h.room (v:=1) (k:=0) VW VW with⟨b,d,u,_⟩|⟨b,d,u⟩
 .have b:dy p.eV 1 0=some 0:=b;have d:du c 1 0=some 0:=d;rw[b,d,cv,cv,cO nz,cO nz,gA VW];obtain⟨y,A,B,C,D,F,G⟩:=h.below hs u;rw[B,C,cv,cv];have hi:=w (n+3) (n'+2) VW VW y A D;rw[F,G] at hi;rcases hi with⟨e,he,j,o,r⟩|⟨f,m,l,j,o,r,hu,t⟩
  .rw[j,o,r,cN,cN,cS (by rw[c9];exact he),cS (by rw[c9];exact he)];exact k0.no he rfl rfl rfl
  .have H:=t.aiw;have I:=f.hI t.ok;have J:=ec hs;obtain⟨u1,u2,u3⟩:=hu.out (by have:=hu.len;omega) (k:=1) VW;obtain⟨K,M⟩:=hu.has;rw[j,o,r,cN,cN,cO nz,cO nz,eI];simp only[];rw[K,M,cv]
   by_cases i:m.testBit 0=true
   .rw[kl i,cS i,cS i];exact k0.no ab9 rfl rfl rfl
   .rw[gA i,cO i,cO i,ET VW VW,cv,show(1:Int)=((1:Nat):Int)from rfl,u1,u2];refine k0.yes rfl rfl rfl u3 (.q (.inr (.inr (.inl rfl))) hs t.ty) ?_;rw[Fm.cQ];simp only[db];omega
 .have b:dy p.eV 1 0=some 3:=b;have d:du c 1 0=some 3:=d;have O:=h.pl.nh;rw[b,d,cv,cv,cS ab9,cS ab9,kl VW];exact k0.no ab9 rfl rfl rfl
theorem Pa(a b:Ty):a.jE b=b.jE a:=by grind[Ty.jM]
def pj{a b:Ty}(c:a.err=0)(d:b.err=0):gk (rT a) b=some (a.jE b)/\ey FU b a=some (a.jE b):=by
 have f:=ec c;have h:=ec d
 grind[gk,kq,cv,rb,gY,Pa]
def aeB(n:Nat)(c:cX)(t:Tm)(a:Pf):df (n+2) c (.mk 9 0 .z [t] [] [a])=g_ (cW (jz c.aiy t) λu s=>if(dw s 0) then some (fS,[],s)else cW (dp n c a) λb d=>if(dw d 0) then some (fS,[],d)else cM (jJ t) λj=>cM (fq b.uses j) λk=>if(dw b.cU.aiu 4) then some (fS,[],10)else cM (ey FU b.cU.cT u) λl=>if l then cM (dg b.cU.aiv 0) λo=>cW (iL o t) λq r=>some (q,k,r)else some (fS,[],7)) λf h i=>some (f,h,i):=by
 rw[df];rw[na];rfl
def acu(n:Nat)(c:cX)(t:Tm)(a:Pf):df (n+2) c (.mk 13 0 .z [t] [] [a])=g_ (cW (jz c.aiy t) λs r=>if(dw r 0) then some (fS,[],r)else cW (dp n c a) λb d=>if(dw d 0) then some (fS,[],d)else cM (jJ t) λj=>cM (fq b.uses j) λu=>if(dw b.cU.aiu 6) then some (fS,[],10)else cM (ey FU b.cU.cT s) λk=>if k then cM (dg b.cU.aiv 0) λl=>cW (iL l t) λo q=>some (o,b.uses,q)else some (fS,[],7)) λf h i=>some (f,h,i):=by
 rw[df];rw[na];rfl
def Vi(L:List Fm)(t:Tm)(a:Pf)(g:List Ty)(hs:List Fm):oX L 9 0 .z [t] [] (Pf.tN L [a]) g hs=jd (t.ty g).2 (pbind (DU (a.inf L g hs) 4) λa m=>tV ((t.ty g).1.jE a.cT=false) 7 (jd (j4 (a.aiv.getD 0 fS) t).2 (.inl ((j4 (a.aiv.getD 0 fS) t).1,m|||rL t)))):=rfl
def OY(L:List Fm)(t:Tm)(a:Pf)(g:List Ty)(hs:List Fm):oX L 13 0 .z [t] [] (Pf.tN L [a]) g hs=jd (t.ty g).2 (pbind (DU (a.inf L g hs) 6) λa m=>tV ((t.ty g).1.jE a.cT=false) 7 (jd (j4 (a.aiv.getD 0 fS) t).2 (.inl ((j4 (a.aiv.getD 0 fS) t).1,m)))):=rfl
def aen(n:Nat)(L:List Fm)(t:Tm)(a:Pf)(p:cV):p9 (n+1) L (.mk 9 0 .z [t] [] [a]) p=cW (dD FU p.aiy t) λl k=>if(dw k 0) then some (⟨fS,0⟩,k)else cM (jc t) λd=>cW (dI n L a p 4) λb c=>if(dw c 0) then some (⟨fS,0⟩,c)else cM (gk l b.cU.cT) λf=>if f then cM (dg b.cU.aiv 0) λh=>cW (hB h t) λi j=>some (⟨i,xK .u32 b.uses d⟩,j)else some (⟨fS,0⟩,7):=by
 show gd (n+1) L (.mk 9 0 .z [t] [] [a]) p=_;rw[gd];rfl
def abl(n:Nat)(L:List Fm)(t:Tm)(a:Pf)(p:cV):p9 (n+1) L (.mk 13 0 .z [t] [] [a]) p=cW (dD FU p.aiy t) λk j=>if(dw j 0) then some (⟨fS,0⟩,j)else cM (jc t) λl=>cW (dI n L a p 6) λb c=>if(dw c 0) then some (⟨fS,0⟩,c)else cM (gk k b.cU.cT) λd=>if d then cM (dg b.cU.aiv 0) λf=>cW (hB f t) λh i=>some (⟨h,xK .u32 b.uses 0⟩,i)else some (⟨fS,0⟩,7):=by
 show gd (n+1) L (.mk 13 0 .z [t] [] [a]) p=_;rw[gd];rfl
def Nf{m:Nat}(h:m<4294967296):xK .u32 (m:Int) 0=(m:Int):=by
 rw[show(0:Int)=((0:Nat):Int)from rfl,Ly h VW,Nat.or_zero]
def ud{t:Tm}(a:t.err=0){g:List Ty}(b:gR g):(∃e,e≠0/\(t.ty g).2=e/\∃z,t.ty g=(z,e))\/∃s,t.ty g=(s,0)/\dG g t s/\s.err=0:=by
 obtain⟨s,e,c⟩:∃s e,t.ty g=(s,e):=⟨_,_,rfl⟩
 by_cases he:e=0
 .subst he;obtain⟨d,f⟩:=p7 _ t (gV _) (Tm.fQ a).1 g b s c
  grind
 .grind
def UG{L:List Fm}{t:Tm}(d:t.err=0){a:Pf}{N:Nat}(F:ij L a N):ij L (.mk 9 0 .z [t] [] [a]) (N+5):=by
 refine ij.of λn n' hn G p c h=>?_;have i:=h.pl.nv;rw[show n'+4=n'+2+2 from rfl,aeB,Vi,aen,h.pl.aiy,(mb h.pl.ctx i d).1,(mb h.pl.ctx i d).2];rcases ud d h.pl.ctx with⟨e,he,q1,z,q2⟩|⟨s,q1,k,hs⟩
 .rw[q2,kW he,cN,cN,cS (by rw[c9];exact he),cS (by rw[c9];exact he),iV he];exact k0.no he rfl rfl rfl
 .obtain⟨I,f1,f2,f3⟩:=wM i k d;rw[q1,o8,cN,cN,cO nz,cO nz,fi rfl,f1,cv];rcases mA (F (n+2) (n'+2) VW VW p c h) 4 with⟨e,he,r,u,j⟩|⟨f,m,l,r,u,j,hu,B,v⟩
  .rw[r,u,cN,cS (by rw[c9];exact he)];rcases j with j|⟨f,l,m,j,v,rfl,hu⟩
   .rw[j,cN,cS (by rw[c9];exact he)];exact k0.no he rfl rfl rfl
   .obtain⟨q,u1,_⟩:=hu.union f3 (by have:=hu.len;omega) (by have:=f3.len;omega);rw[j,cN,cO nz,f2,cv,u1,cv,cS (by rw[c9];exact v)];exact k0.no he rfl rfl rfl
  .obtain⟨C,x,rfl,o,D⟩:=B.ty.vi v (.inl rfl);have w:=B.sub (x:=x) acZ D;obtain⟨q,u1,u2,u3,_⟩:=hu.union f3 (by have:=hu.len;omega) (by have:=f3.len;omega);rw[r,u,j,cN,cN,cO nz,cO nz,f2,cv,eI];simp only[Fm.dn,Fm.dU,Fm.dh,dA,im,cv,yb];rw[u1,u2,cv,cO (show¬dw 4 4=true by decide),(pj hs o).1,(pj hs o).2,cv,cv]
   by_cases b:s.jE C=true
   .have:=(Ty.jM s C).1 b;subst this;have y:rN c.aiy x t:=⟨w.err,d,s,D,k⟩;rw[gA (by rw[b];decide),cS b,cS b,(y.both VW).1,(y.both VW).2];rcases o9 x t with A|⟨H,A⟩
    .rw[A,cN,cN,iV ab9];exact k0.no ab9 rfl rfl rfl
    .rw[A,cN,cN,fi rfl];exact k0.yes (f:=Fm.iu 0 x t) rfl rfl rfl u3 y.put VW
   .rw[kl (by simpa using b),cO b,cO b];exact k0.no ab9 rfl rfl rfl
def RP{L:List Fm}{t:Tm}(d:t.err=0){a:Pf}{N:Nat}(F:ij L a N):ij L (.mk 13 0 .z [t] [] [a]) (N+5):=by
 refine ij.of λn n' hn G p c h=>?_;have i:=h.pl.nv;rw[show n'+4=n'+2+2 from rfl,acu,OY,abl,h.pl.aiy,(mb h.pl.ctx i d).1,(mb h.pl.ctx i d).2];rcases ud d h.pl.ctx with⟨e,he,q1,z,q2⟩|⟨s,q1,k,hs⟩
 .rw[q2,kW he,cN,cN,cS (by rw[c9];exact he),cS (by rw[c9];exact he),iV he];exact k0.no he rfl rfl rfl
 .obtain⟨I,f1,f2,f3⟩:=wM i k d;rw[q1,o8,cN,cN,cO nz,cO nz,fi rfl,f1,cv];rcases mA (F (n+2) (n'+2) VW VW p c h) 6 with⟨e,he,r,u,j⟩|⟨f,m,l,r,u,j,hu,B,v⟩
  .rw[r,u,cN,cS (by rw[c9];exact he)];rcases j with j|⟨f,l,m,j,v,rfl,hu⟩
   .rw[j,cN,cS (by rw[c9];exact he)];exact k0.no he rfl rfl rfl
   .obtain⟨q,u1,_⟩:=hu.union f3 (by have:=hu.len;omega) (by have:=f3.len;omega);rw[j,cN,cO nz,f2,cv,u1,cv,cS (by rw[c9];exact v)];exact k0.no he rfl rfl rfl
  .obtain⟨C,x,rfl,o,D⟩:=B.ty.vi v (.inr (.inr (.inl rfl)));have w:=B.sub (x:=x) acZ D;obtain⟨q,u1,_⟩:=hu.union f3 (by have:=hu.len;omega) (by have:=f3.len;omega);rw[r,u,j,cN,cN,cO nz,cO nz,f2,cv,eI];simp only[Fm.dn,Fm.dU,Fm.dh,dA,im,cv,yb];rw[u1,Nf hu.lt,cv,cO (show¬dw 6 6=true by decide),(pj hs o).1,(pj hs o).2,cv,cv]
   by_cases b:s.jE C=true
   .have:=(Ty.jM s C).1 b;subst this;have y:rN c.aiy x t:=⟨w.err,d,s,D,k⟩;rw[gA (by rw[b];decide),cS b,cS b,(y.both VW).1,(y.both VW).2];rcases o9 x t with A|⟨H,A⟩
    .rw[A,cN,cN,iV ab9];exact k0.no ab9 rfl rfl rfl
    .rw[A,cN,cN,fi rfl];exact k0.yes (f:=Fm.iu 0 x t) rfl rfl rfl hu y.put VW
   .rw[kl (by simpa using b),cO b,cO b];exact k0.no ab9 rfl rfl rfl
def ab_(n:Nat)(c:cX)(t:Tm)(F:Fm)(a:Pf):df (n+2) c (.mk 10 0 .z [t] [F] [a])=g_ (cM (jk c.aiy F) λb=>if(dw b 0) then some (fS,[],b)else if(dw F.aiu 5) then some (fS,[],10)else cW (jz c.aiy t) λj d=>if(dw d 0) then some (fS,[],d)else cM (ey FU F.cT j) λk=>if k then cM (dg F.aiv 0) λl=>cW (dZ n c a l t) λo q=>cM (jJ t) λr=>cM (fq o r) λs=>some (F,s,q)else some (fS,[],7)) λf h i=>some (f,h,i):=by
 rw[df];rw[mT];rfl
def aaU(n:Nat)(c:cX)(t:Tm)(F:Fm)(a:Pf):df (n+2) c (.mk 14 0 .z [t] [F] [a])=g_ (cM (jk c.aiy F) λb=>if(dw b 0) then some (fS,[],b)else if(dw F.aiu 7) then some (fS,[],10)else cW (jz c.aiy t) λj d=>if(dw d 0) then some (fS,[],d)else cM (ey FU F.cT j) λk=>if k then cM (dg F.aiv 0) λl=>cW (dZ n c a l t) λo q=>some (F,o,q)else some (fS,[],7)) λf h i=>some (f,h,i):=by
 rw[df];rw[mT];rfl
def Qn(L:List Fm)(t:Tm)(F:Fm)(a:Pf)(g:List Ty)(hs:List Fm):oX L 10 0 .z [t] [F] (Pf.tN L [a]) g hs=jd (F.uJ g) (tV (F.aiu≠5) 10 (jd (t.ty g).2 (tV ((t.ty g).1.jE F.cT=false) 7 (pbind (prt (a.inf L g hs) (F.aiv.getD 0 fS) t) λ_ m=>.inl (F,m|||rL t))))):=rfl
def PK(L:List Fm)(t:Tm)(F:Fm)(a:Pf)(g:List Ty)(hs:List Fm):oX L 14 0 .z [t] [F] (Pf.tN L [a]) g hs=jd (F.uJ g) (tV (F.aiu≠7) 10 (jd (t.ty g).2 (tV ((t.ty g).1.jE F.cT=false) 7 (pbind (prt (a.inf L g hs) (F.aiv.getD 0 fS) t) λ_ m=>.inl (F,m))))):=rfl
def abh(n:Nat)(L:List Fm)(t:Tm)(F:Fm)(a:Pf)(p:cV):p9 (n+1) L (.mk 10 0 .z [t] [F] [a]) p=cM (dC FU p.aiy F) λc=>if(dw c 0) then some (⟨fS,0⟩,c)else if(dw F.aiu 5) then some (⟨fS,0⟩,10)else cW (dD FU p.aiy t) λj d=>if(dw d 0) then some (⟨fS,0⟩,d)else cM (gk j F.cT) λk=>if k then cM (dg F.aiv 0) λf=>cW (dM n L a p f t) λh b=>if(dw b 0) then some (⟨fS,0⟩,b)else cM (jc t) λi=>some (⟨F,xK .u32 h.uses i⟩,0)else some (⟨fS,0⟩,7):=by
 show gn (n+1) L (.mk 10 0 .z [t] [F] [a]) p=_;rw[gn];rfl
def aa0(n:Nat)(L:List Fm)(t:Tm)(F:Fm)(a:Pf)(p:cV):p9 (n+1) L (.mk 14 0 .z [t] [F] [a]) p=cM (dC FU p.aiy F) λc=>if(dw c 0) then some (⟨fS,0⟩,c)else if(dw F.aiu 7) then some (⟨fS,0⟩,10)else cW (dD FU p.aiy t) λi d=>if(dw d 0) then some (⟨fS,0⟩,d)else cM (gk i F.cT) λj=>if j then cM (dg F.aiv 0) λf=>cW (dM n L a p f t) λh b=>if(dw b 0) then some (⟨fS,0⟩,b)else some (⟨F,xK .u32 h.uses 0⟩,0)else some (⟨fS,0⟩,7):=by
 show gn (n+1) L (.mk 14 0 .z [t] [F] [a]) p=_;rw[gn];rfl
def R_{L:List Fm}{t:Tm}(d:t.err=0){F:Fm}(hF:F.err=0){a:Pf}{N:Nat}(H:ij L a N):ij L (.mk 10 0 .z [t] [F] [a]) (N+5):=by
 refine ij.of λn n' hn I p c h=>?_;have i:=h.pl.nv;obtain⟨t1,_,t2⟩:=sb h.pl.ctx VW hF;have J:=(Fm.fQ hF).2;rw[show n'+4=n'+2+2 from rfl,ab_,Qn,abh,h.pl.aiy,(mb h.pl.ctx i d).1,(mb h.pl.ctx i d).2,t1,t2 i,cv,cv]
 by_cases k:F.uJ c.aiy=0
 .have r:¬dw (F.uJ c.aiy) 0=true:=by rw[c9];simpa using k
  rw[cO r,cO r,fi k];have j:=qR F (Fm.fQ hF).1 c.aiy h.pl.ctx k
  by_cases o:F.aiu=5
  .have r:¬dw F.aiu 5=true:=by rw[c9];simpa using o
   rw[cO r,cO r,gA (by simpa using o)];rcases ud d h.pl.ctx with⟨e,he,q1,z,q2⟩|⟨s,q1,u,hs⟩
   .rw[q2,kW he,cN,cN,cS (by rw[c9];exact he),cS (by rw[c9];exact he),iV he];exact k0.no he rfl rfl rfl
   .obtain⟨w,x,rfl,v,G⟩:=j.vi o (.inr (.inl rfl));have y:Hg c.aiy (.mk 5 w [] [x]):=⟨hF,j⟩;have A:=y.sub (x:=x) acZ G;obtain⟨M,f1,f2,f3⟩:=wM i u d;rw[q1,o8,cN,cN,cO nz,cO nz,fi rfl];simp only[Fm.dn,Fm.dU,Fm.dh,dA,im,cv,yb];rw[(pj hs v).1,(pj hs v).2,cv,cv]
    by_cases b:s.jE w=true
    .have:=(Ty.jM s w).1 b;subst this;have K:rN c.aiy x t:=⟨A.err,d,s,G,u⟩;rw[gA (by rw[b];decide),cS b,cS b];rcases sa i (H (n+2) (n'+1) VW VW p c h) K with⟨e,z,l,m,he,B,C,D,hu⟩|⟨f,m,l,B,C,D,hu⟩
     .obtain⟨q,u1,_⟩:=hu.union f3 (by have:=hu.len;omega) (by have:=f3.len;omega);rw[B,C,D,cN,cN,cS (by rw[c9];exact he),f2,cv,u1];exact k0.no he rfl rfl rfl
     .obtain⟨q,u1,u2,u3,_⟩:=hu.union f3 (by have:=hu.len;omega) (by have:=f3.len;omega);rw[B,C,D,cN,cN,cO nz,f1,f2,cv,cv,eI];simp only[];rw[u1,u2];exact k0.yes rfl rfl rfl u3 j VW
    .rw[kl (by simpa using b),cO b,cO b];exact k0.no ab9 rfl rfl rfl
  .rw[cS (by rw[c9];exact o),cS (by rw[c9];exact o),kl o];exact k0.no ab9 rfl rfl rfl
 .rw[cS (by rw[c9];exact k),cS (by rw[c9];exact k),iV k];exact k0.no k rfl rfl rfl
def SJ{L:List Fm}{t:Tm}(i:t.err=0){F:Fm}(hF:F.err=0){a:Pf}{N:Nat}(G:ij L a N):ij L (.mk 14 0 .z [t] [F] [a]) (N+5):=by
 refine ij.of λn n' hn H p c h=>?_;have j:=h.pl.nv;obtain⟨t1,_,t2⟩:=sb h.pl.ctx VW hF;have I:=(Fm.fQ hF).2;rw[show n'+4=n'+2+2 from rfl,aaU,PK,aa0,h.pl.aiy,(mb h.pl.ctx j i).1,(mb h.pl.ctx j i).2,t1,t2 j,cv,cv]
 by_cases k:F.uJ c.aiy=0
 .have q:¬dw (F.uJ c.aiy) 0=true:=by rw[c9];simpa using k
  rw[cO q,cO q,fi k];have d:=qR F (Fm.fQ hF).1 c.aiy h.pl.ctx k
  by_cases o:F.aiu=7
  .have q:¬dw F.aiu 7=true:=by rw[c9];simpa using o
   rw[cO q,cO q,gA (by simpa using o)];rcases ud i h.pl.ctx with⟨e,he,q1,z,q2⟩|⟨s,q1,u,hs⟩
   .rw[q2,kW he,cN,cN,cS (by rw[c9];exact he),cS (by rw[c9];exact he),iV he];exact k0.no he rfl rfl rfl
   .obtain⟨v,x,rfl,r,D⟩:=d.vi o (.inr (.inr (.inr rfl)));have w:Hg c.aiy (.mk 7 v [] [x]):=⟨hF,d⟩;have y:=w.sub (x:=x) acZ D;rw[q1,o8,cN,cN,cO nz,cO nz,fi rfl];simp only[Fm.dn,Fm.dU,Fm.dh,dA,im,cv,yb];rw[(pj hs r).1,(pj hs r).2,cv,cv]
    by_cases b:s.jE v=true
    .have:=(Ty.jM s v).1 b;subst this;have J:rN c.aiy x t:=⟨y.err,i,s,D,u⟩;rw[gA (by rw[b];decide),cS b,cS b];rcases sa j (G (n+2) (n'+1) VW VW p c h) J with⟨e,z,l,m,he,A,B,C,hu⟩|⟨f,m,l,A,B,C,hu⟩
     .rw[A,B,C,cN,cN,cS (by rw[c9];exact he)];exact k0.no he rfl rfl rfl
     .rw[A,B,C,cN,cN,cO nz,eI];simp only[];rw[Nf hu.lt];exact k0.yes rfl rfl rfl hu d VW
    .rw[kl (by simpa using b),cO b,cO b];exact k0.no ab9 rfl rfl rfl
  .rw[cS (by rw[c9];exact o),cS (by rw[c9];exact o),kl o];exact k0.no ab9 rfl rfl rfl
 .rw[cS (by rw[c9];exact k),cS (by rw[c9];exact k),iV k];exact k0.no k rfl rfl rfl
def Rm(k:Fm->Option (Fm×List Int×Int))(f:Fm):Option (Fm×List Int×Int):=
 cM (pG FU f 0) λc=>if c then cW (ma FU f) λa b=>if(dw b 0) then some (fS,[],b)else cM (pG FU a 0) λd=>if d then some (fS,[],6)else k (.mk a.aiu (.mk a.cT.aiu a.cT.aiv) a.dc a.aiv)else k (.mk f.aiu (.mk f.cT.aiu f.cT.aiv) f.dc f.aiv)
def Wg(n:Nat)(c:cX)(a b:Pf):df (n+2) c (.mk 11 0 .z [] [] [a,b])=g_ (cW (dp n c a) λd h=>if(dw h 0) then some (fS,[],h)else if(dw d.cU.aiu 5) then some (fS,[],10)else cM (du c 1 1) λi=>if(dw i 0) then some (fS,[],i)else cM (ei c [d.cU.cT]) λu=>cM (dg d.cU.aiv 0) λv=>cM (fg u v) λw=>cW (dp n w b) λj k=>if(dw k 0) then some (fS,[],k)else Rm (λf=>cM (fN FU f 1 (-1)) λl=>cM (fv j.uses 1) λo=>cM (fq d.uses o) λq=>some (l,q,0)) j.cU) λr s t=>some (r,s,t):=by
 rw[df];rw[lM];rfl
def VP(n:Nat)(c:cX)(a b:Pf):df (n+2) c (.mk 15 0 .z [] [] [a,b])=g_ (cW (dp n c a) λd i=>if(dw i 0) then some (fS,[],i)else if(dw d.cU.aiu 7) then some (fS,[],10)else cM (du c 1 1) λj=>if(dw j 0) then some (fS,[],j)else cM (ei c [d.cU.cT]) λv=>cM (dg d.cU.aiv 0) λw=>cM (fg v w) λx=>cW (dp n x b) λh k=>if(dw k 0) then some (fS,[],k)else Rm (λf=>cM (qI h.uses) λl=>if l then some (fS,[],12)else cM (fN FU f 1 (-1)) λo=>cM (fv h.uses 1) λq=>cM (fq d.uses q) λr=>some (o,r,0)) h.cU) λs t u=>some (s,t,u):=by
 rw[df];rw[lM];rfl
def GB(L:List Fm)(a b:Pf)(g:List Ty)(hs:List Fm):oX L 11 0 .z [] [] (Pf.tN L [a,b]) g hs=pbind (DU (a.inf L g hs) 5) λa m=>tV (16<g.length+1\/16<hs.length+1) 3 (pbind (b.inf L (g++[a.cT]) (hs.map (Fm.up 0 1)++[a.aiv.getD 0 fS])) λb n=>jd (BZ b).2 (.inl ((BZ b).1,m|||n/2))):=rfl
def FJ(L:List Fm)(a b:Pf)(g:List Ty)(hs:List Fm):oX L 15 0 .z [] [] (Pf.tN L [a,b]) g hs=pbind (DU (a.inf L g hs) 7) λa m=>tV (16<g.length+1\/16<hs.length+1) 3 (pbind (b.inf L (g++[a.cT]) (hs.map (Fm.up 0 1)++[a.aiv.getD 0 fS])) λb n=>jd (BZ b).2 (tV (n.testBit 0=true) 12 (.inl ((BZ b).1,m|||n/2)))):=rfl
def VK(n:Nat)(L:List Fm)(a b:Pf)(p:cV):p9 (n+1) L (.mk 11 0 .z [] [] [a,b]) p=cW (dI n L a p 5) λc d=>if(dw d 0) then some (⟨fS,0⟩,d)else cM (dy p.eV 1 1) λf=>if(dw f 0) then some (⟨fS,0⟩,f)else cM (eH p [c.cU.cT]) λk=>cM (dg c.cU.aiv 0) λl=>cM (eM k l) λo=>cW (dN n L b o) λh i=>if(dw i 0) then some (⟨fS,0⟩,i)else cW (lF h.cU) λq j=>if(dw j 0) then some (⟨fS,0⟩,j)else cM (eh h.uses 1) λr=>some (⟨q,xK .u32 c.uses r⟩,0):=by
 show gm (n+1) L (.mk 11 0 .z [] [] [a,b]) p=_;rw[gm];rfl
def T7(n:Nat)(L:List Fm)(a b:Pf)(p:cV):p9 (n+1) L (.mk 15 0 .z [] [] [a,b]) p=cW (dI n L a p 7) λc f=>if(dw f 0) then some (⟨fS,0⟩,f)else cM (dy p.eV 1 1) λh=>if(dw h 0) then some (⟨fS,0⟩,h)else cM (eH p [c.cU.cT]) λk=>cM (dg c.cU.aiv 0) λl=>cM (eM k l) λo=>cW (dN n L b o) λd i=>if(dw i 0) then some (⟨fS,0⟩,i)else cW (lF d.cU) λq j=>if(dw j 0) then some (⟨fS,0⟩,j)else if(dw (qi .u32 d.uses 1) 0) then some (⟨fS,0⟩,12)else cM (eh d.uses 1) λr=>some (⟨q,xK .u32 c.uses r⟩,0):=by
 show gm (n+1) L (.mk 15 0 .z [] [] [a,b]) p=_;rw[gm];rfl
def N9{g:List Ty}{s:Ty}{f:Fm}(h:Hg (g++[s]) f)(hg:g.length<=1000)(k:Fm->Option (Fm×List Int×Int))(k':Fm->Option (Fm×List Int×Int))(l:∀x,x.aiC 0=0->x.aiw<=4096*4096->x.aiA 1000000000000=true->k x=k' (x.up 1 (-1))):Rm k f=if(BZ f).2=0 then k' (BZ f).1 else some (fS,[],(BZ f).2):=by
 have hn:=h.aiw;have o:f.aiA 1000000000000=true:=h.ty.aiA _ ado;unfold Rm;rw[Cu FU f 0 (by rw[dY];omega) VW VW VW,cv,Ty.h8,Fm.h8]
 by_cases j:f.aiC 0=0
 .have hw:BZ f=(f.up 1 (-1),0):=by unfold BZ;rw[cS j]
  grind
 .rw[cS (show decide (0<f.aiC 0)=true by simp;omega),E1 FU f (by rw[dY];omega) VW (RU.of f hn h.ok (h.ty.aiA _ ado))];obtain⟨a,b,d⟩:∃a b,f.wW 0=(a,b):=⟨_,_,rfl⟩
  have hw:BZ f=if b≠0 then(fS,b)else if a.aiC 0≠0 then(fS,6)else(a.up 1 (-1),0):=by unfold BZ;rw[cO j,d]
  rw[d];simp only[]
  by_cases he:b=0
  .subst he;have c:=OK h.ty 0 ado hn (by rw[d]);rw[d] at c;obtain⟨_,a2,a3⟩:=c;have a2:jS (g++[s]) a:=a2;have a3:a.aiw<=3000*f.aiw:=a3;rw[cO ab9] at hw;rw[cS rfl,cN,cO nz,Cu FU a 0 (by rw[dY];omega) VW VW VW,cv,Ty.h8,Fm.h8]
   by_cases i:a.aiC 0=0
   .rw[cO (by simpa using i)] at hw;rw[hw,cO (show¬(decide (0<a.aiC 0)=true) by simp;omega)];exact(l a i VW (a2.aiA _ ado)).trans (cS rfl).symm
   .rw[cS i] at hw;rw[hw,cS (show decide (0<a.aiC 0)=true by simp;omega)];rfl
  .rw[cS he] at hw
   have n:dw b 0=true:=by rw[c9];exact he
   rw[hw,cO he,cN,cS n,cO he]
def L9{L:List Fm}{a b:Pf}{N:Nat}(K:ij L a N)(M:ij L b N):ij L (.mk 11 0 .z [] [] [a,b]) (N+5):=by
 refine ij.of λn n' hn O p c h=>?_;have P:=h.pl.nv;rw[show n'+4=n'+2+2 from rfl,Wg,GB,VK];rcases mA (K (n+2) (n'+2) VW VW p c h) 5 with⟨e,he,i,j,d⟩|⟨f,m,l,i,j,d,hu,D,B⟩
 .rw[i,j,cN,cS (by rw[c9];exact he)];rcases d with d|⟨f,l,m,d,B,rfl,_⟩
  .rw[d,cN,cS (by rw[c9];exact he)];exact k0.no he rfl rfl rfl
  .rw[d,cN,cO nz,cS (by rw[c9];exact B)];exact k0.no he rfl rfl rfl
 .obtain⟨s,x,rfl,hs,Q⟩:=D.ty.vi B (.inr (.inl rfl));have C:=D.sub (x:=x) acZ Q;rw[i,j,d,cN,cN,cO nz,cO nz,cO acZ,eI];simp only[Fm.dU,Fm.dh,dA,im,cv,yb];rcases h.room (v:=1) (k:=1) VW VW with⟨o,r,F,R⟩|⟨o,r,F⟩
  .have o:dy p.eV 1 1=some 0:=o;have r:du c 1 1=some 0:=r;rw[o,r,cv,cv,cO nz,cO nz,gA VW];obtain⟨p1,c1,S,T,U,G,H⟩:=h.below hs F;obtain⟨V,W,X,Y,Z,b4,b5⟩:=U.with (f:=x) (by rw[G];exact C) (by rw[H];simpa using R);rw[S,T,cv,cv,X,Y,cv,cv];have hi:=M (n+3) (n'+2) VW VW V W Z;rw[b4,b5,G,H] at hi;rcases hi with⟨e,he,i,j,d⟩|⟨f',I,J,i,j,d,A,t⟩
   .rw[i,j,d,cN,cN,cS (by rw[c9];exact he),cS (by rw[c9];exact he)];exact k0.no he rfl rfl rfl
   .obtain⟨u1,u2,u3⟩:=A.out (by have:=A.len;omega) (k:=1) VW;have u1:fv J 1=some (wc ((1:Nat):Int) J):=u1;have u2:eh (I:Int) 1=some ((I/2^1:Nat):Int):=u2;obtain⟨q,v1,v2,v3,_⟩:=hu.union u3 (by have:=hu.len;omega) (by have:=u3.len;omega);rw[i,j,d,cN,cN,cO nz,cO nz,eI];simp only[];rw[u_ t VW]
    rw[N9 t VW _ (λy=>some (y,q,0)) (λy y1 y2 y3=>by
     rw[B5 FU y 1 (by rw[dY];omega) VW VW VW y3,cv,u1,cv,v1,cv])]
    obtain⟨w,e,hw⟩:∃w e,BZ f'=(w,e):=⟨_,_,rfl⟩;rw[hw,cN]
    by_cases he:e=0
    .subst he;have u:=KX t VW hs (by rw[hw]);rw[hw] at u;rw[cO nz,cS rfl,fi rfl,u2,cv,v2];exact k0.yes rfl rfl rfl v3 u.1 (by have:=u.2;omega)
    .rw[cS (by rw[c9];exact he),cO he,iV he];exact k0.no he rfl rfl rfl
  .have o:dy p.eV 1 1=some 3:=o;have r:du c 1 1=some 3:=r;rw[o,r,cv,cv,cS ab9,cS ab9,kl VW];exact k0.no ab9 rfl rfl rfl
def LZ{L:List Fm}{a b:Pf}{N:Nat}(P:ij L a N)(i:ij L b N):ij L (.mk 15 0 .z [] [] [a,b]) (N+5):=by
 refine ij.of λn n' hn Q p c h=>?_;have R:=h.pl.nv;rw[show n'+4=n'+2+2 from rfl,VP,FJ,T7];rcases mA (P (n+2) (n'+2) VW VW p c h) 7 with⟨e,he,j,o,d⟩|⟨f,m,l,j,o,d,hu,H,D⟩
 .rw[j,o,cN,cS (by rw[c9];exact he)];rcases d with d|⟨f,l,m,d,D,rfl,_⟩
  .rw[d,cN,cS (by rw[c9];exact he)];exact k0.no he rfl rfl rfl
  .rw[d,cN,cO nz,cS (by rw[c9];exact D)];exact k0.no he rfl rfl rfl
 .obtain⟨s,x,rfl,hs,S⟩:=H.ty.vi D (.inr (.inr (.inr rfl)));have F:=H.sub (x:=x) acZ S;rw[j,o,d,cN,cN,cO nz,cO nz,cO acZ,eI];simp only[Fm.dU,Fm.dh,dA,im,cv,yb];rcases h.room (v:=1) (k:=1) VW VW with⟨r,t,I,T⟩|⟨r,t,I⟩
  .have r:dy p.eV 1 1=some 0:=r;have t:du c 1 1=some 0:=t;rw[r,t,cv,cv,cO nz,cO nz,gA VW];obtain⟨p1,J,U,V,W,K,M⟩:=h.below hs I;obtain⟨X,G,Y,Z,b3,b4,b5⟩:=W.with (f:=x) (by rw[K];exact F) (by rw[M];simpa using T);rw[U,V,cv,cv,Y,Z,cv,cv];have hi:=i (n+3) (n'+2) VW VW X G b3;rw[b4,b5,K,M] at hi;rcases hi with⟨e,he,j,o,d⟩|⟨f',C,O,j,o,d,u,A⟩
   .rw[j,o,d,cN,cN,cS (by rw[c9];exact he),cS (by rw[c9];exact he)];exact k0.no he rfl rfl rfl
   .obtain⟨u1,u2,u3⟩:=u.out (by have:=u.len;omega) (k:=1) VW;have u1:fv O 1=some (wc ((1:Nat):Int) O):=u1;have u2:eh (C:Int) 1=some ((C/2^1:Nat):Int):=u2;obtain⟨q,v1,v2,v3,_⟩:=hu.union u3 (by have:=hu.len;omega) (by have:=u3.len;omega);rw[j,o,d,cN,cN,cO nz,cO nz,eI];simp only[];rw[u_ A VW];obtain⟨J,G⟩:=u.has
    rw[N9 A VW _ (λy=>if C.testBit 0 then some (fS,[],12)else some (y,q,0)) (λy y1 y2 y3=>by
     rw[J,cv,B5 FU y 1 (by rw[dY];omega) VW VW VW y3,cv,u1,cv,v1,cv])]
    obtain⟨w,e,hw⟩:∃w e,BZ f'=(w,e):=⟨_,_,rfl⟩;rw[hw,cN]
    by_cases he:e=0
    .subst he;have B:=KX A VW hs (by rw[hw]);rw[hw] at B;rw[cO nz,cS rfl,fi rfl,G]
     by_cases i:C.testBit 0=true
     .rw[kl i,cS i,cS i];exact k0.no ab9 rfl rfl rfl
     .rw[gA i,cO i,cO i,u2,cv,v2];exact k0.yes rfl rfl rfl v3 B.1 (by have:=B.2;omega)
    .rw[cS (by rw[c9];exact he),cO he,iV he];exact k0.no he rfl rfl rfl
  .have r:dy p.eV 1 1=some 3:=r;have t:du c 1 1=some 3:=t;rw[r,t,cv,cv,cS ab9,cS ab9,kl VW];exact k0.no ab9 rfl rfl rfl
def gR.nat{g:List Ty}(h:gR g):gR (g++[.nat]):=h.app Ty.fJ
def gR.lW{g:List Ty}(h:gR g):gR (g++[.lW]):=h.app Ty.nN
def zQ{g:List Ty}(d:gR g){t:Tm}(f:t.err=0){s:Ty}(hs:s=.nat\/s=.lW)(h:nQ t g s.aiu=0):dG g t s:=by
 rcases ud f d with⟨e,he,q1,z,q2⟩|⟨b,q1,i,a⟩
 .unfold nQ at h
  grind
 .unfold nQ at h;rw[q1] at h
  by_cases c:b.aiu=s.aiu
  .have:b=s:=by
    rcases hs with rfl|rfl
    .exact(uj a).1 c
    .exact(BN a).1 c
   rwa [<-this]
  .grind
def tA{F:Fm}(hF:F.err=0)(a:F.aiA 1000000000=true){f c:Nat}(b:f<=100)(d:c<=100):ew F (f:Int) (c:Int)=some (F.up f c)/\fN FU F (f:Int) (c:Int)=some (F.up f c):=by
 obtain⟨a1,a2⟩:=Fm.fQ hF;exact⟨tr a1 VW (Fm.lG _ VW a) VW VW VW VW,sR FU F f c (by rw[dY];omega) VW VW VW VW VW (Fm.lG _ VW a)⟩
def A7{F:Fm}(hF:F.err=0){f c:Int}(a:0<=f)(b:0<=c):(F.up f c).err=0:=by grind[Fm.fQ,Fm.err,Fm.JW,Fm.pX]
def xE{F:Fm}{f:Int}:F.up f 0=F:=Fm.Ny F f
def afH:vT.err=0:=ab9
def Ya:(Tm.mk 7 0 .z []).err=0:=ab9
def adm:(i_ v0).err=0:=ab9
def aaV:(Tm.mk 8 0 .z [v1,v0]).err=0:=ab9
def Tl{L:List Fm}{p:cV}{c:cX}(h:PG L p c)(hn:c.aiy.length+2<=16):∃b a,eH p [.nat,.lW]=some b/\ei c [.nat,.lW]=some a/\PG L b a/\a.aiy=c.aiy++[.nat]++[.lW]/\a.aiB=c.aiB.map (Fm.up 0 2):=by
 obtain⟨b,a,d,f,i,j,k⟩:=h.VE (l:=[.nat,.lW]) (λx hx=>by
  rcases j8.1 hx with rfl|hx
  .exact Ty.fJ
  .rw[yy.1 hx];exact Ty.nN) hn
 grind
def Y'(n:Nat)(c:cX)(t:Tm)(F:Fm)(a b:Pf):df (n+2) c (.mk 16 0 .z [t] [F] [a,b])=g_ (fa (eO c.aiy [.nat])<|cM (jV (fu c.aiy [.nat]) F) λf=>if(dw f 0) then some (fS,[],f)else cM (fZ c t 1) λh=>if(dw h 0) then some (fS,[],h)else cM (eN 4 []) λD=>cW (dZ n c a F D) λG i=>if(dw i 0) then some (fS,[],i)else cM (du c 1 1) λj=>if(dw j 0) then some (fS,[],j)else cM (ei c [.nat]) λk=>cM (fg k F) λl=>cM (fN FU F 1 1) λo=>cM (eN 5 [v0]) λq=>cW (dZ n l b o q) λr d=>if(dw d 0) then some (fS,[],d)else cW (iL F t) λs u=>cM (jJ t) λv=>cM (fq v G) λw=>cM (fv r 1) λx=>cM (fq w x) λy=>some (s,y,u)) λA B C=>some (A,B,C):=by
 rw[df];rw[oy];rfl
def Yw(n:Nat)(c:cX)(t:Tm)(F:Fm)(a b:Pf):df (n+2) c (.mk 17 0 .z [t] [F] [a,b])=g_ (fa (eO c.aiy [.lW])<|cM (jV (fu c.aiy [.lW]) F) λf=>if(dw f 0) then some (fS,[],f)else cM (fZ c t 2) λh=>if(dw h 0) then some (fS,[],h)else cM (eN 7 []) λG=>cW (dZ n c a F G) λH i=>if(dw i 0) then some (fS,[],i)else cM (du c 2 1) λj=>if(dw j 0) then some (fS,[],j)else cM (ei c [.nat,.lW]) λk=>cM (fN FU F 1 1) λl=>cM (fg k l) λo=>cM (fN FU F 1 2) λq=>cM (eN 8 [v1,v0]) λr=>cW (dZ n o b q r) λs d=>if(dw d 0) then some (fS,[],d)else cW (iL F t) λu v=>cM (jJ t) λw=>cM (fq w H) λx=>cM (fv s 2) λy=>cM (fq x y) λA=>some (u,A,v)) λB C D=>some (B,C,D):=by
 rw[df];rw[mP];rfl
def LB(L:List Fm)(t:Tm)(F:Fm)(a b:Pf)(g:List Ty)(hs:List Fm):oX L 16 0 .z [t] [F] (Pf.tN L [a,b]) g hs=jd (F.uJ (g++[.nat])) (jd (nQ t g 1) (pbind (prt (a.inf L g hs) F vT) λ_ m=>tV (16<g.length+1\/16<hs.length+1) 3 (pbind (prt (b.inf L (g++[.nat]) (hs.map (Fm.up 0 1)++[F])) (F.up 1 1) (i_ v0)) λ_ n=>jd (j4 F t).2 (.inl ((j4 F t).1,(rL t|||m)|||n/2))))):=rfl
def Lv(L:List Fm)(t:Tm)(F:Fm)(a b:Pf)(g:List Ty)(hs:List Fm):oX L 17 0 .z [t] [F] (Pf.tN L [a,b]) g hs=jd (F.uJ (g++[.lW])) (jd (nQ t g 2) (pbind (prt (a.inf L g hs) F (.mk 7 0 .z [])) λ_ m=>tV (16<g.length+2\/16<hs.length+1) 3 (pbind (prt (b.inf L (g++[.nat]++[.lW]) (hs.map (Fm.up 0 2)++[F.up 1 1])) (F.up 1 2) (.mk 8 0 .z [v1,v0])) λ_ n=>jd (j4 F t).2 (.inl ((j4 F t).1,(rL t|||m)|||n/4))))):=rfl
def Zb(n:Nat)(L:List Fm)(t:Tm)(F:Fm)(a b:Pf)(p:cV):p9 (n+1) L (.mk 16 0 .z [t] [F] [a,b]) p=cM (fk p.aiy [.nat]) λw=>cM (dC FU w F) λd=>if(dw d 0) then some (⟨fS,0⟩,d)else cM (gO p.aiy t 1) λf=>if(dw f 0) then some (⟨fS,0⟩,f)else cW (dM n L a p F vT) λx h=>if(dw h 0) then some (⟨fS,0⟩,h)else cM (dy p.eV 1 1) λi=>if(dw i 0) then some (⟨fS,0⟩,i)else cM (eH p [.nat]) λj=>cM (ew F 1 (ed .i64 1 1)) λk=>cM (eM j k) λl=>cM (ew F 1 1) λo=>cW (dM n L b l o (i_ v0)) λq c=>if(dw c 0) then some (⟨fS,0⟩,c)else cW (hB F t) λr s=>cM (jc t) λu=>cM (eh q.uses 1) λv=>some (⟨r,xK .u32 (xK .u32 u x.uses) v⟩,s):=by
 rfl
def XF(n:Nat)(L:List Fm)(t:Tm)(F:Fm)(a b:Pf)(p:cV):p9 (n+1) L (.mk 17 0 .z [t] [F] [a,b]) p=cM (fk p.aiy [.lW]) λw=>cM (dC FU w F) λd=>if(dw d 0) then some (⟨fS,0⟩,d)else cM (gO p.aiy t 2) λf=>if(dw f 0) then some (⟨fS,0⟩,f)else cW (dM n L a p F (.mk 7 0 .z [])) λx h=>if(dw h 0) then some (⟨fS,0⟩,h)else cM (dy p.eV 2 1) λi=>if(dw i 0) then some (⟨fS,0⟩,i)else cM (eH p [.nat,.lW]) λj=>cM (ew F 1 (ed .i64 2 1)) λk=>cM (eM j k) λl=>cM (ew F 1 2) λo=>cW (dM n L b l o (.mk 8 0 .z [v1,v0])) λq c=>if(dw c 0) then some (⟨fS,0⟩,c)else cW (hB F t) λr s=>cM (jc t) λu=>cM (eh q.uses 2) λv=>some (⟨r,xK .u32 (xK .u32 u x.uses) v⟩,s):=by
 rfl
def O6{L:List Fm}{t:Tm}(i:t.err=0){F:Fm}(hF:F.err=0){a b:Pf}{N:Nat}(Z:ij L a N)(hb:ij L b N):ij L (.mk 16 0 .z [t] [F] [a,b]) (N+5):=by
 refine ij.of λn n' hn ad p c h=>?_;have o:=h.pl.nv;have J:=h.pl.ctx;have ae:=(Fm.fQ hF).2;obtain⟨t1,t2,_⟩:=sb J.nat ado hF;obtain⟨s1,s2⟩:=has_both J o rfl i 1;rw[show n'+4=n'+2+2 from rfl,Y',LB,Zb,h.pl.aiy,rm Ty.fJ VW,cv,t1,cv,dS ado,cY,fj,t2,cv,s1,s2,cv,cv]
 by_cases r:F.uJ (c.aiy++[.nat])=0
 .have s:=r;rw[<-vS (a:=_=_),<-ne_eq,<-c9] at s;rw[cO s,cO s,fi r];have d:=qR F (Fm.fQ hF).1 _ J.nat r;have u:F.aiA 1000000000=true:=d.aiA _ ado
  by_cases x:nQ t c.aiy 1=0
  .have s:=x;rw[<-vS (a:=_=_),<-ne_eq,<-c9] at s;rw[cO s,cO s,fi x];have H:dG c.aiy t .nat:=zQ J i (.inl rfl) x;have O:rN c.aiy F vT:=⟨hF,afH,.nat,d,.zero⟩;rw[show eN 4 []=some vT from F6,cv];rcases sa o (Z (n+2) (n'+1) VW VW p c h) O with⟨e,z,l,m,he,j,y,A,hu⟩|⟨f,m,l,j,y,A,hu⟩
   .rw[j,y,A,cN,cN,cS (by rw[c9];exact he),cS (by rw[c9];exact he)];exact k0.no he rfl rfl rfl
   .rw[j,y,A,cN,cN,cO nz,cO nz,eI];rcases h.room (v:=1) (k:=1) VW VW with⟨B,C,W,r4⟩|⟨B,C,W⟩
    .have B:dy p.eV 1 1=some 0:=B;have C:du c 1 1=some 0:=C;rw[B,C,cv,cv,cO nz,cO nz,gA VW];obtain⟨p1,c1,e1,e2,e3,K,P⟩:=h.below Ty.fJ W;obtain⟨p2,M,b1,b2,X,Q,Y⟩:=e3.with (f:=F) (by rw[K];exact⟨hF,d⟩) (by rw[P];simpa using r4)
     have l1:ew F 1 (ed .i64 1 1)=some F:=by
      rw[et VW VW];have:=(tA hF u (f:=1) (c:=0) VW VW).1;rw[show F.up ((1:Nat):Int) ((0:Nat):Int)=F from xE] at this;exact this
     have l2:ew F 1 1=some (F.up 1 1):=(tA hF u (f:=1) (c:=1) VW VW).1;have l3:fN FU F 1 1=some (F.up 1 1):=(tA hF u (f:=1) (c:=1) VW VW).2;rw[e1,e2,cv,cv,l1,cv,b1,b2,cv,cv,l2,l3,cv,cv];rw[show eN 5 [v0]=some (i_ v0)from JA ab9,cv];have hi:=hb (n+2) (n'+1) VW VW p2 M X;have R:M.aiy.length<=16:=X.pl.nv
     have I:M.aiy=c.aiy++[.nat]:=by rw[Q,K]
     have S:rN M.aiy (F.up 1 1) (i_ v0):=⟨A7 hF VW VW,adm,.nat,by
      rw[I];have:=d.up c.aiy [.nat] [.nat] rfl
      simpa using this,by rw[I];exact .succ tn⟩
     rcases sa R hi S with⟨e,z,T,U,he,j,y,A,D⟩|⟨f',U,T,j,y,A,D⟩
     .rw[Q,Y,K,P] at j;rw[j,y,A,cN,cN,cS (by rw[c9];exact he),cS (by rw[c9];exact he)];exact k0.no he rfl rfl rfl
     .rw[Q,Y,K,P] at j;obtain⟨lf,f1,f2,f3⟩:=wM o H i;have G:rN c.aiy F t:=⟨hF,i,.nat,d,H⟩;obtain⟨u1,u2,u3⟩:=D.out (by have:=D.len;omega) (k:=1) VW;have u1:fv T 1=some (wc ((1:Nat):Int) T):=u1;have u2:eh (U:Int) 1=some ((U/2^1:Nat):Int):=u2;obtain⟨q,v1,v2,v3,_⟩:=f3.union hu (by have:=f3.len;omega) (by have:=hu.len;omega);obtain⟨q',w1,w2,w3,_⟩:=v3.union u3 (by have:=v3.len;omega) (by have:=u3.len;omega);rw[j,y,A,cN,cN,cO nz,cO nz,eI,(G.both VW).1,(G.both VW).2];obtain⟨w,e,hw⟩:∃w e,j4 F t=(w,e):=⟨_,_,rfl⟩;rw[hw,cN,cN,f1,f2,cv,cv,u2,v1,cv,cv,u1,cv,w1,cv];simp only[];rw[v2,w2];rcases o9 F t with V|⟨af,V⟩
      .rw[V] at hw;obtain⟨rfl,rfl⟩:=gu hw;rw[iV ab9];exact k0.no ab9 rfl rfl rfl
      .rw[V] at hw;obtain⟨rfl,rfl⟩:=gu hw;rw[fi rfl];exact k0.yes (f:=Fm.iu 0 F t) rfl rfl rfl w3 G.put VW
    .have B:dy p.eV 1 1=some 3:=B;have C:du c 1 1=some 3:=C;rw[B,C,cv,cv,cS ab9,cS ab9,kl VW];exact k0.no ab9 rfl rfl rfl
  .rw[cS (by rw[c9];exact x),cS (by rw[c9];exact x),iV x];exact k0.no x rfl rfl rfl
 .rw[cS (by rw[c9];exact r),cS (by rw[c9];exact r),iV r];exact k0.no r rfl rfl rfl
def Pp{L:List Fm}{t:Tm}(i:t.err=0){F:Fm}(hF:F.err=0){a b:Pf}{N:Nat}(Z:ij L a N)(hb:ij L b N):ij L (.mk 17 0 .z [t] [F] [a,b]) (N+5):=by
 refine ij.of λn n' hn ad p c h=>?_;have r:=h.pl.nv;have J:=h.pl.ctx;have ae:=(Fm.fQ hF).2;obtain⟨t1,t2,_⟩:=sb J.lW ado hF;obtain⟨s1,s2⟩:=has_both J r rfl i 2;rw[show n'+4=n'+2+2 from rfl,Yw,Lv,XF,h.pl.aiy,rm Ty.nN VW,cv,t1,cv,dS ado,cY,fj,t2,cv,s1,s2,cv,cv]
 by_cases s:F.uJ (c.aiy++[.lW])=0
 .have u:=s;rw[<-vS (a:=_=_),<-ne_eq,<-c9] at u;rw[cO u,cO u,fi s];have d:=qR F (Fm.fQ hF).1 _ J.lW s;have j:F.aiA 1000000000=true:=d.aiA _ ado
  by_cases x:nQ t c.aiy 2=0
  .have u:=x;rw[<-vS (a:=_=_),<-ne_eq,<-c9] at u;rw[cO u,cO u,fi x];have H:dG c.aiy t .lW:=zQ J i (.inr rfl) x;have O:rN c.aiy F (.mk 7 0 .z []):=⟨hF,Ya,.lW,d,.nil⟩;rw[show eN 7 []=some (.mk 7 0 .z [])from F6,cv];rcases sa r (Z (n+2) (n'+1) VW VW p c h) O with⟨e,z,l,m,he,o,y,A,hu⟩|⟨f,m,l,o,y,A,hu⟩
   .rw[o,y,A,cN,cN,cS (by rw[c9];exact he),cS (by rw[c9];exact he)];exact k0.no he rfl rfl rfl
   .rw[o,y,A,cN,cN,cO nz,cO nz,eI];rcases h.room (v:=2) (k:=1) VW VW with⟨B,C,W,r4⟩|⟨B,C,W⟩
    .have B:dy p.eV 2 1=some 0:=B;have C:du c 2 1=some 0:=C;rw[B,C,cv,cv,cO nz,cO nz,gA VW];obtain⟨p1,c1,e1,e2,e3,K,P⟩:=Tl h W;obtain⟨p2,M,b1,b2,X,Q,Y⟩:=e3.with (f:=F.up 1 1) (by rw[K];exact⟨A7 hF VW VW,by have:=d.up c.aiy [.lW] [.nat] rfl;simpa using this⟩) (by rw[P];simpa using r4)
     have l1:ew F 1 (ed .i64 2 1)=some (F.up 1 1):=by
      rw[et VW VW];exact(tA hF j (f:=1) (c:=1) VW VW).1
     have l2:ew F 1 2=some (F.up 1 2):=(tA hF j (f:=1) (c:=2) VW VW).1;have l3:fN FU F 1 1=some (F.up 1 1):=(tA hF j (f:=1) (c:=1) VW VW).2;have l4:fN FU F 1 2=some (F.up 1 2):=(tA hF j (f:=1) (c:=2) VW VW).2;rw[e1,e2,cv,cv,l1,cv,l3,cv,b1,b2,cv,cv,l2,l4,cv,cv];rw[show eN 8 [v1,v0]=some (.mk 8 0 .z [v1,v0])from sG ab9 ab9,cv];have hi:=hb (n+2) (n'+1) VW VW p2 M X;have R:M.aiy.length<=16:=X.pl.nv
     have I:M.aiy=c.aiy++[.nat]++[.lW]:=by rw[Q,K]
     have S:rN M.aiy (F.up 1 2) (.mk 8 0 .z [v1,v0]):=⟨A7 hF VW VW,aaV,.lW,by
      rw[I];have:=d.up c.aiy [.lW] [.nat,.lW] rfl
      simpa using this,by rw[I];exact .cons Ee tn⟩
     rcases sa R hi S with⟨e,z,T,U,he,o,y,A,D⟩|⟨f',U,T,o,y,A,D⟩
     .rw[Q,Y,K,P] at o;rw[o,y,A,cN,cN,cS (by rw[c9];exact he),cS (by rw[c9];exact he)];exact k0.no he rfl rfl rfl
     .rw[Q,Y,K,P] at o;obtain⟨lf,f1,f2,f3⟩:=wM r H i;have G:rN c.aiy F t:=⟨hF,i,.lW,d,H⟩;obtain⟨u1,u2,u3⟩:=D.out (by have:=D.len;omega) (k:=2) VW;have u1:fv T 2=some (wc ((2:Nat):Int) T):=u1;have u2:eh (U:Int) 2=some ((U/2^2:Nat):Int):=u2;obtain⟨q,v1,v2,v3,_⟩:=f3.union hu (by have:=f3.len;omega) (by have:=hu.len;omega);obtain⟨q',w1,w2,w3,_⟩:=v3.union u3 (by have:=v3.len;omega) (by have:=u3.len;omega);rw[o,y,A,cN,cN,cO nz,cO nz,eI,(G.both VW).1,(G.both VW).2];obtain⟨w,e,hw⟩:∃w e,j4 F t=(w,e):=⟨_,_,rfl⟩;rw[hw,cN,cN,f1,f2,cv,cv,u2,v1,cv,cv,u1,cv,w1,cv];simp only[];rw[v2,w2];rcases o9 F t with V|⟨af,V⟩
      .rw[V] at hw;obtain⟨rfl,rfl⟩:=gu hw;rw[iV ab9];exact k0.no ab9 rfl rfl rfl
      .rw[V] at hw;obtain⟨rfl,rfl⟩:=gu hw;rw[fi rfl];exact k0.yes (f:=Fm.iu 0 F t) rfl rfl rfl w3 G.put VW
    .have B:dy p.eV 2 1=some 3:=B;have C:du c 2 1=some 3:=C;rw[B,C,cv,cv,cS ab9,cS ab9,kl VW];exact k0.no ab9 rfl rfl rfl
  .rw[cS (by rw[c9];exact x),cS (by rw[c9];exact x),iV x];exact k0.no x rfl rfl rfl
 .rw[cS (by rw[c9];exact s),cS (by rw[c9];exact s),iV s];exact k0.no s rfl rfl rfl
def Tm.py{t:Tm}(h:t.ok=true)(hn:t.aiw<=4096):t.err=0:=by grind[Tm.err]
def ac6(n:Nat)(c:cX)(t:Tm):df (n+1) c (.mk 18 0 .z [t] [] [])=cM (k1 t t) λa=>cM (fZ c t 1) λb=>some (a,[],b):=by rw[df];rfl
def KB(L:List Fm)(t:Tm)(g:List Ty)(hs:List Fm):oX L 18 0 .z [t] [] (Pf.tN L []) g hs=jd (nQ t g 1) (.inl (.mk 1 .z [t,t] [],0)):=rfl
def aaW(n:Nat)(L:List Fm)(t:Tm)(p:cV):p9 n L (.mk 18 0 .z [t] [] []) p=cM (gw p.aiy t) λa=>if(dw a 0) then some (⟨fS,0⟩,a)else some (⟨.mk 1 .z [t,t] [],0⟩,0):=rfl
def R4{L:List Fm}{t:Tm}(a:t.err=0):ij L (.mk 18 0 .z [t] [] []) 5:=by
 refine ij.of (N:=0) λn n' _ _ p c h=>?_;have f:=h.pl.nv;have i:=h.pl.ctx;obtain⟨a1,a2⟩:=Tm.fQ a;have hw:=t.hI a1;rw[show n'+4=n'+3+1 from rfl,ac6,KB,aaW,h.pl.aiy,wE a1 i VW,(has_both i f rfl a 1).2,Gx VW VW,cv,cv,cv]
 by_cases b:nQ t c.aiy 1=0
 .have d:dG c.aiy t .nat:=zQ i a (.inl rfl) b;rw[cO (by rw[c9];simpa using b),fi b,b];refine k0.yes rfl rfl rfl .nil (.eq d d) ?_;rw[Fm.cQ];simp only[db];omega
 .rw[cS (by rw[c9];exact b),iV b];exact k0.no b rfl rfl rfl
def Yx(n:Nat)(c:cX)(F:Fm)(a b:Pf):df (n+2) c (.mk 19 0 .z [] [F] [a,b])=g_ (fa (eO c.aiy [.nat])<|cM (jV (fu c.aiy [.nat]) F) λf=>if(dw f 0) then some (fS,[],f)else cW (dp n c a) λd h=>if(dw h 0) then some (fS,[],h)else if(dw d.cU.aiu 1) then some (fS,[],10)else cM (dg d.cU.dc 0) λs=>cW (dZ n c b F s) λt i=>if(dw i 0) then some (fS,[],i)else cM (dg d.cU.dc 1) λj=>cW (iL F j) λk l=>some (k,t,l)) λo q r=>some (o,q,r):=by
 rw[df];rw[mQ];rfl
def Ki(L:List Fm)(F:Fm)(a b:Pf)(g:List Ty)(hs:List Fm):oX L 19 0 .z [] [F] (Pf.tN L [a,b]) g hs=jd (F.uJ (g++[.nat])) (pbind (DU (a.inf L g hs) 1) λa _=>pbind (prt (b.inf L g hs) F (a.dc.getD 0 Tm.z)) λ_ n=>jd (j4 F (a.dc.getD 1 Tm.z)).2 (.inl ((j4 F (a.dc.getD 1 Tm.z)).1,n))):=rfl
def Zg(n:Nat)(L:List Fm)(F:Fm)(a b:Pf)(p:cV):p9 (n+1) L (.mk 19 0 .z [] [F] [a,b]) p=cM (fk p.aiy [.nat]) λl=>cM (dC FU l F) λc=>if(dw c 0) then some (⟨fS,0⟩,c)else cW (dI n L a p 1) λd f=>if(dw f 0) then some (⟨fS,0⟩,f)else cM (dg d.cU.dc 0) λo=>cW (dM n L b p F o) λq h=>if(dw h 0) then some (⟨fS,0⟩,h)else cM (dg d.cU.dc 1) λi=>cW (hB F i) λj k=>some (⟨j,q.uses⟩,k):=by
 show jh (n+1) L (.mk 19 0 .z [] [F] [a,b]) p=_;rw[jh];rfl
def P5{L:List Fm}{F:Fm}(hF:F.err=0){a b:Pf}{N:Nat}(H:ij L a N)(I:ij L b N):ij L (.mk 19 0 .z [] [F] [a,b]) (N+5):=by
 refine ij.of λn n' hn J p c h=>?_;have s:=h.pl.nv;have C:=h.pl.ctx;have K:=(Fm.fQ hF).2;obtain⟨t1,t2,_⟩:=sb C.nat ado hF;rw[show n'+4=n'+2+2 from rfl,Yx,Ki,Zg,h.pl.aiy,rm Ty.fJ VW,cv,t1,cv,dS ado,cY,fj,t2,cv]
 by_cases j:F.uJ (c.aiy++[.nat])=0
 .have t:=j;rw[<-vS (a:=_=_),<-ne_eq,<-c9] at t;rw[cO t,cO t,fi j];have i:=qR F (Fm.fQ hF).1 _ C.nat j;rcases mA (H (n+2) (n'+2) VW VW p c h) 1 with⟨e,he,k,o,d⟩|⟨f,m,l,k,o,d,hu,D,u⟩
  .rw[k,o,cN,cS (by rw[c9];exact he)];rcases d with d|⟨f,l,m,d,u,rfl,_⟩
   .rw[d,cN,cS (by rw[c9];exact he)];exact k0.no he rfl rfl rfl
   .rw[d,cN,cO nz,cS (by rw[c9];exact u)];exact k0.no he rfl rfl rfl
  .obtain⟨x,y,rfl,G,hy⟩:=D.ty.aaH u;have r:=D.aiw;rw[Fm.cQ] at r;simp only[db] at r;have v:x.err=0:=Tm.py G.ok VW;have w:y.err=0:=Tm.py hy.ok VW;have A:rN c.aiy F x:=⟨hF,v,.nat,i,G⟩;have q:rN c.aiy F y:=⟨hF,w,.nat,i,hy⟩;rw[k,o,d,cN,cN,cO nz,cO nz,cO acZ,eI];simp only[Fm.gf,dA,fh,im,lY,cv,yb,QH];rcases sa s (I (n+2) (n'+1) VW VW p c h) A with⟨e,z,l,m,he,k,o,d,hu⟩|⟨f,m,l,k,o,d,hu⟩
   .rw[k,o,d,cN,cN,cS (by rw[c9];exact he),cS (by rw[c9];exact he)];exact k0.no he rfl rfl rfl
   .rw[k,o,d,cN,cN,cO nz,cO nz,eI,(q.both VW).1,(q.both VW).2];rcases o9 F y with B|⟨M,B⟩
    .rw[B,cN,cN,iV ab9];exact k0.no ab9 rfl rfl rfl
    .rw[B,cN,cN,fi rfl];exact k0.yes (f:=Fm.iu 0 F y) rfl rfl rfl hu q.put VW
 .rw[cS (by rw[c9];exact j),cS (by rw[c9];exact j),iV j];exact k0.no j rfl rfl rfl
def chR(f:Fm)(l:List Int):Option (Fm×List Int×Int):=
 de (λ(v35:Bool)=>if v35 then some (fS,[],10)else cM (dg f.aiv 0) λa=>cM (ka f.cT a.cT) λb=>cM (hY b) λd=>if(dw d 0) then some (fS,[],4)else cM (dg a.aiv 0) λh=>cM (fN FU h 2 1) λi=>cM (eN 3 [v1,v0]) λj=>cW (iL i j) λk n=>cM (jn 4 f.cT k) λo=>cM (jn 5 b o) λq=>some (q,l,n)) λc=>if(dw f.aiu 4) then c true else cM (dg f.aiv 0) λr=>c (dw r.aiu 5)
def Ze{f:Fm}{l:List Int}(h:f.aiu≠4):chR f l=some (fS,[],10):=by grind[dw,c9,chR,c6]
def YK{s:Ty}{x:Fm}{l:List Int}(h:x.aiu≠5):chR (.mk 4 s [] [x]) l=some (fS,[],10):=by
 have q:dw x.aiu 5=true:=by rw[c9];exact h
 have e:chR (.mk 4 s [] [x]) l=(λ(v35:Bool)=>if v35 then some (fS,[],10)else cM (dg [x] 0) λa=>cM (ka s a.cT) λb=>cM (hY b) λc=>if(dw c 0) then some (fS,[],4)else cM (dg a.aiv 0) λd=>cM (fN FU d 2 1) λf=>cM (eN 3 [v1,v0]) λi=>cW (iL f i) λj k=>cM (jn 4 s j) λn=>cM (jn 5 b n) λo=>some (o,l,k)) (dw x.aiu 5):=rfl
 grind
def agf{s u:Ty}{y:Fm}{l:List Int}:chR (.mk 4 s [] [.mk 5 u [] [y]]) l=cM (ka s u) λa=>cM (hY a) λb=>if(dw b 0) then some (fS,[],4)else cM (fN FU y 2 1) λc=>cM (eN 3 [v1,v0]) λd=>cW (iL c d) λf h=>cM (jn 4 s f) λi=>cM (jn 5 a i) λj=>some (j,l,h):=rfl
def Vs(n:Nat)(c:cX)(a:Pf):df (n+2) c (.mk 20 0 .z [] [] [a])=g_ (cW (dp n c a) λb d=>if(dw d 0) then some (fS,[],d)else chR b.cU b.uses) λf h i=>some (f,h,i):=by
 rw[df];rw[mz];rfl
def G5(L:List Fm)(a:Pf)(g:List Ty)(hs:List Fm):oX L 20 0 .z [] [] (Pf.tN L [a]) g hs=pbind (DU (a.inf L g hs) 4) λa m=>tV ((a.aiv.getD 0 fS).aiu≠5) 10 (tV ((Ty.fn a.cT (a.aiv.getD 0 fS).cT).err≠0) 4 (tV ((j4 (((a.aiv.getD 0 fS).aiv.getD 0 fS).up 2 1) (gL v1 v0)).2≠0) 4 (.inl (.mk 5 (Ty.fn a.cT (a.aiv.getD 0 fS).cT) [] [.mk 4 a.cT [] [(j4 (((a.aiv.getD 0 fS).aiv.getD 0 fS).up 2 1) (gL v1 v0)).1]],m)))):=rfl
def chK(f:Fm)(u:Int):Option (cP×Int):=
 cM (dg f.aiv 0) λa=>if(dw a.aiu 5) then some (⟨fS,0⟩,10)else cM (nU a.cT [f.cT]) λb=>cM (dg a.aiv 0) λd=>cM (ew d 2 1) λh=>cM (gz 1) λi=>cM (gz 0) λj=>cM (rE i [j]) λk=>cW (hB h k) λl n=>de (λ(o:Bool)=>if o then some (⟨fS,0⟩,4)else cM (iR 4 f.cT l) λq=>cM (iR 5 b q) λr=>some (⟨r,u⟩,0)) λc=>if(dw n 0) then c true else cM (lp b) λs=>c (dw s 0)
def YJ{s:Ty}{x:Fm}{u:Int}(h:x.aiu≠5):chK (.mk 4 s [] [x]) u=some (⟨fS,0⟩,10):=by grind[dw,c9,chK,Fm.dh,dA,cv]
def US(n:Nat)(L:List Fm)(a:Pf)(p:cV):p9 (n+1) L (.mk 20 0 .z [] [] [a]) p=cW (dI n L a p 4) λb c=>if(dw c 0) then some (⟨fS,0⟩,c)else chK b.cU b.uses:=by
 show jZ (n+1) L (.mk 20 0 .z [] [] [a]) p=_;rfl
def afa{s u:Ty}{y b:Fm}{m:Int}{q:Fm×Int}(A:ew y 2 1=some b)(B:hB b (gL v1 v0)=some q)(C:lp (.fn s u)=some (Ty.fn s u).err):chK (.mk 4 s [] [.mk 5 u [] [y]]) m=if q.2=0/\(Ty.fn s u).err=0 then some (⟨.mk 5 (.fn s u) [] [.mk 4 s [] [q.1]],m⟩,0)else some (⟨fS,0⟩,4):=by
 obtain⟨w,e⟩:=q
 have D:chK (.mk 4 s [] [.mk 5 u [] [y]]) m=cM (nU u [s]) λa=>cM (ew y 2 1) λf=>cM (gz 1) λi=>cM (gz 0) λj=>cM (rE i [j]) λk=>cW (hB f k) λl n=>de (λ(o:Bool)=>if o then some (⟨fS,0⟩,4)else cM (iR 4 s l) λr=>cM (iR 5 a r) λt=>some (⟨t,m⟩,0)) λc=>if(dw n 0) then c true else cM (lp a) λv=>c (dw v 0):=by
  rfl
 rw[D,RY,cv,A,cv,show gz 1=some v1 from rfl,cv,show gz 0=some v0 from rfl,cv,BT,cv,show Tm.mk 3 0 (.mk 0 []) [v1,v0]=gL v1 v0 from rfl,B,cN,c6,C,cv]
 by_cases he:e=0
 .subst he;rw[cO nz]
  by_cases d:(Ty.fn s u).err=0
  .have x:dw (Ty.fn s u).err 0=false:=by rw[d];rfl
   rw[x,cS ⟨rfl,d⟩];rfl
  .have x:dw (Ty.fn s u).err 0=true:=by rw[c9];exact d
   rw[x,cO (λh=>d h.2)];rfl
 .rw[cS (by rw[c9];exact he),cO (λh=>he h.1)];rfl
def Mh{L:List Fm}{a:Pf}{N:Nat}(G:ij L a N):ij L (.mk 20 0 .z [] [] [a]) (N+5):=by
 refine ij.of λn n' hn H p c h=>?_;have I:=h.pl.nv;rw[show n'+4=n'+2+2 from rfl,Vs,G5,US];rcases mA (G (n+2) (n'+2) VW VW p c h) 4 with⟨e,he,o,r,j⟩|⟨f,m,l,o,r,j,hu,D,t⟩
 .rw[o,r,cN,cS (by rw[c9];exact he)];rcases j with j|⟨f,l,m,j,t,rfl,_⟩
  .rw[j,cN,cS (by rw[c9];exact he)];exact k0.no he rfl rfl rfl
  .rw[j,cN,cO nz,Ze t];exact k0.no he rfl rfl rfl
 .obtain⟨s,x,rfl,hs,F⟩:=D.ty.vi t (.inl rfl);have v:=D.sub (x:=x) acZ F;rw[o,r,j,cN,cN,cO nz,cO nz,eI]
  by_cases d:x.aiu=5
  .obtain⟨u,y,rfl,w,hy⟩:=F.vi d (.inr (.inl rfl));have i:=v.sub (x:=y) acZ hy;have J:=ec hs;have K:=ec w;have M:=i.aiw
   have O:(Ty.fn s u).aiw<=1000:=by rw[Ty.iN];omega
   have k:y.aiA 1000000000=true:=hy.aiA _ ado;have P:ew y 2 1=some (y.up 2 1):=(tA i.err k (f:=2) (c:=1) VW VW).1;have Q:fN FU y 2 1=some (y.up 2 1):=(tA i.err k (f:=2) (c:=1) VW VW).2
   have A:rN (c.aiy++[.fn s u]++[s]) (y.up 2 1) (gL v1 v0):=⟨A7 i.err VW VW,ab9,u,by
    have:=hy.up c.aiy [s,u] [.fn s u] acZ
    simpa using this,.app Ee tn⟩
   obtain⟨R,S⟩:=A.both ado;have T:=OV;have hw:=Fm.hI _ A.put.ok;simp only[Fm.dh,Fm.dU,Fm.dn,yb];rw[gA ab9,afa P R (yZ VW),agf,hQ VW VW,cv,lJ VW,cv]
   by_cases b:(Ty.fn s u).err=0
   .have B:¬dw (Ty.fn s u).err 0=true:=by rw[c9];simpa using b
    rw[cO B,gA (by simpa using b),Q,cv,show eN 3 [v1,v0]=some (gL v1 v0)from sG ab9 ab9,cv,S];rcases o9 (y.up 2 1) (gL v1 v0)with C|⟨U,C⟩
    .rw[C,cO (λh=>by cases h.1),cN,kl ab9,ET VW VW,cv];rw[ET VW (by rw[Fm.ee];simp only[db];omega),cv];exact k0.no ab9 rfl rfl rfl
    .rw[C,cS ⟨rfl,b⟩,cN,gA (λh=>h rfl),ET VW VW,cv];rw[ET VW (by rw[Fm.ee];simp only[db];omega),cv];refine k0.yes (f:=.mk 5 (.fn s u) [] [.mk 4 s [] [Fm.iu 0 (y.up 2 1) (gL v1 v0)]]) rfl rfl rfl hu (.q (.inr (.inl rfl)) b (.q (.inl rfl) hs A.put)) ?_;rw[Fm.cQ];simp only[db];rw[Fm.cQ];simp only[db];omega
   .have B:dw (Ty.fn s u).err 0=true:=by rw[c9];exact b
    rw[cS B,kl b,cO (λh=>b h.2)];exact k0.no ab9 rfl rfl rfl
  .simp only[Fm.dh,yb];rw[YJ d,YK d,kl d];exact k0.no ab9 rfl rfl rfl
inductive y5:Pf->Prop
 |hyp {i}:0<=i->y5 (.mk 1 i .z [] [] [])|Ev {i}:0<=i->y5 (.mk 2 i .z [] [] [])|FZ {a b}:y5 a->y5 b->y5 (.mk 3 0 .z [] [] [a,b])|and {k a}:k=4\/k=5->y5 a->y5 (.mk k 0 .z [] [] [a])|IF {F a}:F.err=0->y5 a->y5 (.mk 6 0 .z [] [F] [a])|HI {a b}:y5 a->y5 b->y5 (.mk 7 0 .z [] [] [a,b])|all {k s a}:k=8\/k=12->s.err=0->y5 a->y5 (.mk k 0 s [] [] [a])|TY {k t a}:k=9\/k=13->t.err=0->y5 a->y5 (.mk k 0 .z [t] [] [a])|ex {k t F a}:k=10\/k=14->t.err=0->F.err=0->y5 a->y5 (.mk k 0 .z [t] [F] [a])|Tx {k a b}:k=11\/k=15->y5 a->y5 b->y5 (.mk k 0 .z [] [] [a,b])|ind {k t F a b}:k=16\/k=17->t.err=0->F.err=0->y5 a->y5 b->y5 (.mk k 0 .z [t] [F] [a,b])|refl {t}:t.err=0->y5 (.mk 18 0 .z [t] [] [])|subst {F a b}:F.err=0->y5 a->y5 b->y5 (.mk 19 0 .z [] [F] [a,b])|choice {a}:y5 a->y5 (.mk 20 0 .z [] [] [a])
mutual
def Pf.yh:Pf->Nat
 |.mk _ _ _ _ _ l=>1+Pf.uZ l
def Pf.uZ:List Pf->Nat
 |[]=>0|p::l=>p.yh+Pf.uZ l
end
theorem ij.mono{L:List Fm}{P:Pf}{N M:Nat}(h:ij L P N)(a:N<=M):ij L P M:=λn n' b c=>h n n' VW VW
def Uo{L:List Fm}{P:Pf}(h:y5 P):ij L P (5*P.yh):=by
 induction h with
 |hyp hi=>exact Un hi|Ev hi=>exact Wv hi|FZ _ _ a b=>exact(R7 (a.mono (Px _ _)) (b.mono (OA _ _))).mono (by simp only[Pf.yh,Pf.uZ];omega)|and c _ a=>
  rcases c with rfl|rfl
  .exact(SB a).mono (by simp only[Pf.yh,Pf.uZ];omega)
  .exact(Sn a).mono (by simp only[Pf.yh,Pf.uZ];omega)
 |IF hF _ a=>exact(RN hF a).mono (by simp only[Pf.yh,Pf.uZ];omega)|HI _ _ a b=>exact(Sj (a.mono (Px _ _)) (b.mono (OA _ _))).mono (by simp only[Pf.yh,Pf.uZ];omega)|all c hs _ a=>
  rcases c with rfl|rfl
  .exact(Sz hs a).mono (by simp only[Pf.yh,Pf.uZ];omega)
  .exact(PV hs a).mono (by simp only[Pf.yh,Pf.uZ];omega)
 |TY c d _ a=>
  rcases c with rfl|rfl
  .exact(UG d a).mono (by simp only[Pf.yh,Pf.uZ];omega)
  .exact(RP d a).mono (by simp only[Pf.yh,Pf.uZ];omega)
 |ex c d hF _ a=>
  rcases c with rfl|rfl
  .exact(R_ d hF a).mono (by simp only[Pf.yh,Pf.uZ];omega)
  .exact(SJ d hF a).mono (by simp only[Pf.yh,Pf.uZ];omega)
 |Tx c _ _ a b=>
  rcases c with rfl|rfl
  .exact(L9 (a.mono (Px _ _)) (b.mono (OA _ _))).mono (by simp only[Pf.yh,Pf.uZ];omega)
  .exact(LZ (a.mono (Px _ _)) (b.mono (OA _ _))).mono (by simp only[Pf.yh,Pf.uZ];omega)
 |ind c d hF _ _ a b=>
  rcases c with rfl|rfl
  .exact(O6 d hF (a.mono (Px _ _)) (b.mono (OA _ _))).mono (by simp only[Pf.yh,Pf.uZ];omega)
  .exact(Pp d hF (a.mono (Px _ _)) (b.mono (OA _ _))).mono (by simp only[Pf.yh,Pf.uZ];omega)
 |refl d=>exact R4 d|subst hF _ _ a b=>exact(P5 hF (a.mono (Px _ _)) (b.mono (OA _ _))).mono (by simp only[Pf.yh,Pf.uZ];omega)|choice _ a=>exact(Mh a).mono (by simp only[Pf.yh,Pf.uZ];omega)
mutual
def Pf.aiw:Pf->Nat
 |.mk _ _ _ ts a l=>1+db Tm.aiw ts+db Fm.aiw a+Pf.mW l
def Pf.mW:List Pf->Nat
 |[]=>0|p::l=>p.aiw+Pf.mW l
end
def Pf.qW:∀l:List Pf,Pf.mW l=db Pf.aiw l
 |[]=>by rw[Pf.mW];rfl|p::l=>by rw[Pf.mW,Pf.qW l];rfl
theorem Pf.cQ(k i:Int)(s:Ty)(ts:List Tm)(a:List Fm)(l:List Pf):(Pf.mk k i s ts a l).aiw=1+db Tm.aiw ts+db Fm.aiw a+db Pf.aiw l:=by rw[Pf.aiw,Pf.qW]
mutual
def Pf.wt:Pf->Nat
 |.mk _ _ s ts a l=>1+s.aiw+db Tm.wt ts+db Fm.wt a+Pf.Qf l
def Pf.Qf:List Pf->Nat
 |[]=>0|p::l=>p.wt+Pf.Qf l
end
def Pf.CP:∀l:List Pf,Pf.Qf l=db Pf.wt l
 |[]=>by rw[Pf.Qf];rfl|p::l=>by rw[Pf.Qf,Pf.CP l];rfl
theorem Pf.ee(k i:Int)(s:Ty)(ts:List Tm)(a:List Fm)(l:List Pf):(Pf.mk k i s ts a l).wt=1+s.aiw+db Tm.wt ts+db Fm.wt a+db Pf.wt l:=by rw[Pf.wt,Pf.CP]
def Pf.gJ(p:Pf):1<=p.wt:=by cases p;rw[Pf.ee];omega
def Pf.ind{p:Pf->Prop}(h:∀k i s ts a l,(∀t∈l,p t)->p (.mk k i s ts a l))(t:Pf):p t:=by
 match t with
 |.mk k i s ts a l=>exact h k i s ts a l λx b=>Pf.ind h x
termination_by SizeOf.sizeOf t
decreasing_by
 have:=aaO b;simp only[Pf.mk.sizeOf_spec];omega
def Pf.gM(p:Pf):p.aiw<=p.wt:=by
 induction p using Pf.ind with
 |h k i s ts a l ih=>
  rw[Pf.cQ,Pf.ee];have b:=jy (l:=ts) (λx _=>Tm.gM x);have c:=jy (l:=a) (λx _=>Fm.gM x);have d:=jy (l:=l) ih;omega
def Pf.sig(k:Int):Option (Bool×Bool×Nat×Nat×Nat):=
 if k=1\/k=2 then some (true,false,0,0,0)
 else if k=3\/k=7\/k=11\/k=15 then some (false,false,0,0,2)
 else if k=4\/k=5\/k=20 then some (false,false,0,0,1)
 else if k=6 then some (false,false,0,1,1)
 else if k=8\/k=12 then some (false,true,0,0,1)
 else if k=9\/k=13 then some (false,false,1,0,1)
 else if k=10\/k=14 then some (false,false,1,1,1)
 else if k=16\/k=17 then some (false,false,1,1,2)
 else if k=18 then some (false,false,1,0,0)
 else if k=19 then some (false,false,0,1,2)
 else none
def Pf.node(k i:Int)(s:Ty)(d nf f:Nat):Bool:=
 match Pf.sig k with
 |none=>false|some (h,ty,a,b,c)=>decide (d=a)&&decide (nf=b)&&decide (f=c)&&decide (0<=i)&&(h||decide (i=0))&&(if ty then decide (s.err=0)else s.qQ)
mutual
def Pf.ok:Pf->Bool
 |.mk k i s ts a l=>Pf.node k i s ts.length a.length l.length&&ts.all Tm.ok&&a.all Fm.ok&&Pf.J6 l
def Pf.J6:List Pf->Bool
 |[]=>true|p::l=>p.ok&&Pf.J6 l
end
def Pf.zm:∀l:List Pf,Pf.J6 l=l.all Pf.ok
 |[]=>by rw[Pf.J6];rfl|p::l=>by rw[Pf.J6,Pf.zm l];rfl
theorem Pf.fX(k i:Int)(s:Ty)(ts:List Tm)(a:List Fm)(l:List Pf):(Pf.mk k i s ts a l).ok=(Pf.node k i s ts.length a.length l.length&&ts.all Tm.ok&&a.all Fm.ok&&l.all Pf.ok):=by rw[Pf.ok,Pf.zm]
def Rk(t:Tm):Bool:=decide (t.aiw<=4096)
def TP(f:Fm):Bool:=decide (f.aiw<=4096)
mutual
def Pf.small:Pf->Bool
 |.mk _ _ _ ts a l=>ts.all Rk&&a.all TP&&Pf.Gi l
def Pf.Gi:List Pf->Bool
 |[]=>true|p::l=>p.small&&Pf.Gi l
end
def Pf.JQ:∀l:List Pf,Pf.Gi l=l.all Pf.small
 |[]=>by rw[Pf.Gi];rfl|p::l=>by rw[Pf.Gi,Pf.JQ l];rfl
def Pf.zx(k i:Int)(s:Ty)(ts:List Tm)(a:List Fm)(l:List Pf):(Pf.mk k i s ts a l).small=(ts.all Rk&&a.all TP&&l.all Pf.small):=by rw[Pf.small,Pf.JQ]
def Pf.err(p:Pf):Int:=if p.ok then(if p.small=true/\p.aiw<=16384 then 0 else 4)else 2
def acE{k:Int}(h:Pf.sig k≠none):k=1\/k=2\/k=3\/k=4\/k=5\/k=6\/k=7\/k=8\/k=9\/k=10\/k=11\/k=12\/k=13\/k=14\/k=15\/k=16\/k=17\/k=18\/k=19\/k=20:=by
 refine aeO λhn=>h ?_;unfold Pf.sig;simp only[not_or] at hn;rw[cO VW,cO VW,cO VW,cO VW,cO VW,cO VW,cO VW,cO VW,cO VW,cO VW]
def NG{k:Int}(h:k<1\/20<k):Pf.sig k=none:=by
 unfold Pf.sig;rw[cO VW,cO VW,cO VW,cO VW,cO VW,cO VW,cO VW,cO VW,cO VW,cO VW]
def JH(k:Int):(Pf.sig k=none/\∃r,lb k=some (r,false))\/∃d ty a b c r,Pf.sig k=some (d,ty,a,b,c)/\lb k=some (r,true)/\r.aix=d/\r.typed=ty/\r.dc=((a:Nat):Int)/\r.eg=((b:Nat):Int)/\r.aiv=((c:Nat):Int):=by
 by_cases h:k<1\/20<k
 .refine .inl ⟨NG h,?_⟩;unfold lb;rw[cS (by rw[kZ,rD,kv,gI];omega)];exact⟨_,rfl⟩
 .have f:k=1\/k=2\/k=3\/k=4\/k=5\/k=6\/k=7\/k=8\/k=9\/k=10\/k=11\/k=12\/k=13\/k=14\/k=15\/k=16\/k=17\/k=18\/k=19\/k=20:=VW
  refine .inr ?_;rcases f with rfl|rfl|rfl|rfl|rfl|rfl|rfl|rfl|rfl|rfl|rfl|rfl|rfl|rfl|rfl|rfl|rfl|rfl|rfl|rfl<;>exact⟨_,_,_,_,_,_,rfl,rfl,rfl,rfl,rfl,rfl,rfl⟩
def Qd(k:Int):(Pf.sig k=none/\∃r,o7 k=some (r,false))\/∃d ty a b c r,Pf.sig k=some (d,ty,a,b,c)/\o7 k=some (r,true)/\r.aix=d/\r.oG=ty/\r.dc=((a:Nat):Int)/\r.eg=((b:Nat):Int)/\r.aiv=((c:Nat):Int):=by
 by_cases h:k<1\/20<k
 .refine .inl ⟨NG h,?_⟩;unfold o7;simp only[kZ,rD,eT];rw[cO VW,cO VW,cO VW,cO VW,cO VW,cO VW,cO VW,cO VW,cO VW,cO VW,cO VW];exact⟨_,rfl⟩
 .have f:k=1\/k=2\/k=3\/k=4\/k=5\/k=6\/k=7\/k=8\/k=9\/k=10\/k=11\/k=12\/k=13\/k=14\/k=15\/k=16\/k=17\/k=18\/k=19\/k=20:=VW
  refine .inr ?_;rcases f with rfl|rfl|rfl|rfl|rfl|rfl|rfl|rfl|rfl|rfl|rfl|rfl|rfl|rfl|rfl|rfl|rfl|rfl|rfl|rfl<;>exact⟨_,_,_,_,_,_,rfl,rfl,rfl,rfl,rfl,rfl,rfl⟩
def jg{k i:Int}{s:Ty}{j nf l:Nat}(h:Pf.node k i s j nf l=true){n ty:Bool}{a b c:Nat}(hs:Pf.sig k=some (n,ty,a,b,c)):(j:Int)=a/\(nf:Int)=b/\(l:Int)=c/\0<=i/\(n=false->i=0)/\(ty=true->s.err=0)/\(ty=false->s=.mk 0 []):=by
 unfold Pf.node at h;rw[hs] at h;simp only[fK,oq,rD] at h;obtain⟨⟨⟨⟨⟨t,u⟩,v⟩,o⟩,q⟩,d⟩:=h;refine⟨VW,VW,VW,o,λr=>q.resolve_left (by simp[r]),λf=>?_,λf=>?_⟩
 .rw[cS f] at d;simpa using d
 .rw[cO (by simp[f])] at d;exact(Ty.lx s).1 d
def Pf.w(p:Pf):p.ok=true->p.small=true->y5 p:=by
 induction p using Pf.ind with
 |h k i s ts G l ih=>
  intro y hs;rw[Pf.fX] at y;rw[Pf.zx] at hs;simp only[fK,j3] at y hs;obtain⟨⟨⟨n,A⟩,B⟩,C⟩:=y;obtain⟨⟨s1,s2⟩,D⟩:=hs;have u:∀t∈ts,t.err=0:=λt r=>Tm.py (A t r) (by have:=s1 t r;simpa[Rk] using this)
  have v:∀f∈G,f.err=0:=λf r=>by
   have:=s2 f r;simp only[TP,oq] at this;unfold Fm.err;rw[cS (B f r),cO VW]
  have j:∀x∈l,y5 x:=λx r=>ih x r (C x r) (D x r);clear ih A B C s1 s2 D;have H:=acE (k:=k) (λhn=>by unfold Pf.node at n;rw[hn] at n;cases n);rcases H with rfl|rfl|rfl|rfl|rfl|rfl|rfl|rfl|rfl|rfl|rfl|rfl|rfl|rfl|rfl|rfl|rfl|rfl|rfl|rfl
  .obtain⟨q1,q2,q3,o,c,q,d⟩:=jg n rfl;obtain rfl:=fH.1 q1;obtain rfl:=fH.1 q2;obtain rfl:=fH.1 q3;obtain rfl:=d rfl;exact .hyp o
  .obtain⟨q1,q2,q3,o,c,q,d⟩:=jg n rfl;obtain rfl:=fH.1 q1;obtain rfl:=fH.1 q2;obtain rfl:=fH.1 q3;obtain rfl:=d rfl;exact .Ev o
  .obtain⟨q1,q2,q3,o,c,q,d⟩:=jg n rfl;obtain rfl:=fH.1 q1;obtain rfl:=fH.1 q2;obtain⟨a,b,rfl⟩:=pM q3;obtain rfl:=c rfl;obtain rfl:=d rfl;exact .FZ (j a acZ) (j b acZ)
  .obtain⟨q1,q2,q3,o,c,q,d⟩:=jg n rfl;obtain rfl:=fH.1 q1;obtain rfl:=fH.1 q2;obtain⟨a,rfl⟩:=iH q3;obtain rfl:=c rfl;obtain rfl:=d rfl;exact .and (.inl rfl) (j a acZ)
  .obtain⟨q1,q2,q3,o,c,q,d⟩:=jg n rfl;obtain rfl:=fH.1 q1;obtain rfl:=fH.1 q2;obtain⟨a,rfl⟩:=iH q3;obtain rfl:=c rfl;obtain rfl:=d rfl;exact .and (.inr rfl) (j a acZ)
  .obtain⟨q1,q2,q3,o,c,q,d⟩:=jg n rfl;obtain rfl:=fH.1 q1;obtain⟨F,rfl⟩:=iH q2;obtain⟨a,rfl⟩:=iH q3;obtain rfl:=c rfl;obtain rfl:=d rfl;exact .IF (v F acZ) (j a acZ)
  .obtain⟨q1,q2,q3,o,c,q,d⟩:=jg n rfl;obtain rfl:=fH.1 q1;obtain rfl:=fH.1 q2;obtain⟨a,b,rfl⟩:=pM q3;obtain rfl:=c rfl;obtain rfl:=d rfl;exact .HI (j a acZ) (j b acZ)
  .obtain⟨q1,q2,q3,o,c,q,d⟩:=jg n rfl;obtain rfl:=fH.1 q1;obtain rfl:=fH.1 q2;obtain⟨a,rfl⟩:=iH q3;obtain rfl:=c rfl;exact .all (.inl rfl) (q rfl) (j a acZ)
  .obtain⟨q1,q2,q3,o,c,q,d⟩:=jg n rfl;obtain⟨t,rfl⟩:=iH q1;obtain rfl:=fH.1 q2;obtain⟨a,rfl⟩:=iH q3;obtain rfl:=c rfl;obtain rfl:=d rfl;exact .TY (.inl rfl) (u t acZ) (j a acZ)
  .obtain⟨q1,q2,q3,o,c,q,d⟩:=jg n rfl;obtain⟨t,rfl⟩:=iH q1;obtain⟨F,rfl⟩:=iH q2;obtain⟨a,rfl⟩:=iH q3;obtain rfl:=c rfl;obtain rfl:=d rfl;exact .ex (.inl rfl) (u t acZ) (v F acZ) (j a acZ)
  .obtain⟨q1,q2,q3,o,c,q,d⟩:=jg n rfl;obtain rfl:=fH.1 q1;obtain rfl:=fH.1 q2;obtain⟨a,b,rfl⟩:=pM q3;obtain rfl:=c rfl;obtain rfl:=d rfl;exact .Tx (.inl rfl) (j a acZ) (j b acZ)
  .obtain⟨q1,q2,q3,o,c,q,d⟩:=jg n rfl;obtain rfl:=fH.1 q1;obtain rfl:=fH.1 q2;obtain⟨a,rfl⟩:=iH q3;obtain rfl:=c rfl;exact .all (.inr rfl) (q rfl) (j a acZ)
  .obtain⟨q1,q2,q3,o,c,q,d⟩:=jg n rfl;obtain⟨t,rfl⟩:=iH q1;obtain rfl:=fH.1 q2;obtain⟨a,rfl⟩:=iH q3;obtain rfl:=c rfl;obtain rfl:=d rfl;exact .TY (.inr rfl) (u t acZ) (j a acZ)
  .obtain⟨q1,q2,q3,o,c,q,d⟩:=jg n rfl;obtain⟨t,rfl⟩:=iH q1;obtain⟨F,rfl⟩:=iH q2;obtain⟨a,rfl⟩:=iH q3;obtain rfl:=c rfl;obtain rfl:=d rfl;exact .ex (.inr rfl) (u t acZ) (v F acZ) (j a acZ)
  .obtain⟨q1,q2,q3,o,c,q,d⟩:=jg n rfl;obtain rfl:=fH.1 q1;obtain rfl:=fH.1 q2;obtain⟨a,b,rfl⟩:=pM q3;obtain rfl:=c rfl;obtain rfl:=d rfl;exact .Tx (.inr rfl) (j a acZ) (j b acZ)
  .obtain⟨q1,q2,q3,o,c,q,d⟩:=jg n rfl;obtain⟨t,rfl⟩:=iH q1;obtain⟨F,rfl⟩:=iH q2;obtain⟨a,b,rfl⟩:=pM q3;obtain rfl:=c rfl;obtain rfl:=d rfl;exact .ind (.inl rfl) (u t acZ) (v F acZ) (j a acZ) (j b acZ)
  .obtain⟨q1,q2,q3,o,c,q,d⟩:=jg n rfl;obtain⟨t,rfl⟩:=iH q1;obtain⟨F,rfl⟩:=iH q2;obtain⟨a,b,rfl⟩:=pM q3;obtain rfl:=c rfl;obtain rfl:=d rfl;exact .ind (.inr rfl) (u t acZ) (v F acZ) (j a acZ) (j b acZ)
  .obtain⟨q1,q2,q3,o,c,q,d⟩:=jg n rfl;obtain⟨t,rfl⟩:=iH q1;obtain rfl:=fH.1 q2;obtain rfl:=fH.1 q3;obtain rfl:=c rfl;obtain rfl:=d rfl;exact .refl (u t acZ)
  .obtain⟨q1,q2,q3,o,c,q,d⟩:=jg n rfl;obtain rfl:=fH.1 q1;obtain⟨F,rfl⟩:=iH q2;obtain⟨a,b,rfl⟩:=pM q3;obtain rfl:=c rfl;obtain rfl:=d rfl;exact .subst (v F acZ) (j a acZ) (j b acZ)
  .obtain⟨q1,q2,q3,o,c,q,d⟩:=jg n rfl;obtain rfl:=fH.1 q1;obtain rfl:=fH.1 q2;obtain⟨a,rfl⟩:=iH q3;obtain rfl:=c rfl;obtain rfl:=d rfl;exact .choice (j a acZ)
structure TR (d d':da) (s:Bool) (n:Nat):Prop where
 lo:d.aiw<=d'.aiw
 hi:d'.aiw<=d.aiw+n
 eq:s=true->d'.aiw=d.aiw+n
 il:d'.il=(d.il||!s)
def TR.trans{d c a:da}{s f:Bool}{n n':Nat}(h:TR d c s n)(b:TR c a f n'):TR d a (s&&f) (n+n'):=by
 refine⟨by have:=h.lo;have:=b.lo;omega,by have:=h.hi;have:=b.hi;omega,λhs=>?_,?_⟩
 .rw[fK] at hs;have:=h.eq hs.1;have:=b.eq hs.2;omega
 .rw[b.il,h.il,Bool.not_and,Bool.or_assoc]
def xx{α:Type}{F:Int->α->da->Option (dV da (Bool×da))}(ok small:α->Bool)(sz:α->Nat):∀(l:List α) (i:Nat) (d:da),0<=d.aiw->d.aiw+db sz l<=4000000000->(∀(j:Int) (x:α) (d:da),x∈l->0<=d.aiw->d.aiw+sz x<=4000000000->if ok x then∃a,F j x d=some (.next a)/\TR d a (small x) (sz x)else∃a,F j x d=some (.ret (false,a)))->if l.all ok then∃a,dH F l i d=some (.inl a)/\TR d a (l.all small) (db sz l)else∃a,dH F l i d=some (.inr (false,a))
 |[],i,d,_,_,_=>⟨d,rfl,⟨VW,by simp[db],λ_=>by simp[db],acZ⟩⟩|x::l,i,d,o,q,h=>by
  simp only[db] at q;have b:=h i x d acZ o VW;rw[AZ]
  by_cases c:ok x=true
  .rw[cS c] at b;obtain⟨d1,f,k⟩:=b;have ih:=xx ok small sz l (i+1) d1 (by have:=k.lo;omega) (by have:=k.hi;omega) (λj y d hy=>h j y d (by simp[hy]));rw[dJ,f];simp only[cv,dQ,db]
   by_cases n:l.all ok=true
   .rw[cS n] at ih;obtain⟨d2,r,s⟩:=ih;rw[cS (by rw[fK];exact⟨c,n⟩)];exact⟨d2,r,k.trans s⟩
   .grind
  .rw[cO c] at b;obtain⟨d1,f⟩:=b;rw[cO (by rw[fK];exactλh=>c h.1),dJ,f];exact⟨d1,rfl⟩
def Jg{d:da}{n e:Int}(a:-1000000000000<=d.aiw+n)(b:d.aiw+n<=1000000000000):gh d n e=some (dw e 2,⟨d.aiw+n,d.il||dj e 4⟩):=by
 unfold gh;rw[dP VW VW];cases d.il<;>rfl
def Tm.CW(t:Tm):t.err=2/\t.ok=false\/t.ok=true/\Rk t=true/\t.err=0\/t.ok=true/\Rk t=false/\t.err=4:=by
 unfold Tm.err Rk;cases h:t.ok with
 |false=>grind|true=>grind
def Fm.CW(t:Fm):t.err=2/\t.ok=false\/t.ok=true/\TP t=true/\t.err=0\/t.ok=true/\TP t=false/\t.err=4:=by
 unfold Fm.err TP;cases h:t.ok with
 |false=>grind|true=>grind
def FW{sz:Nat}{e:Int}{ok small:Bool}(c:e=2/\ok=false\/ok=true/\small=true/\e=0\/ok=true/\small=false/\e=4)(hs:sz<=1000000000){d:da}(f:0<=d.aiw)(i:d.aiw+sz<=4000000000):if ok then∃b,(cW (gh d (if e=0 then(sz:Int)else 0) e) λa d179=>if a then some (.next d179)else some ((.ret (false,d179)):dV da (Bool×da)))=some (.next b)/\TR d b small sz else∃b,(cW (gh d (if e=0 then(sz:Int)else 0) e) λa d179=>if a then some (.next d179)else some ((.ret (false,d179)):dV da (Bool×da)))=some (.ret (false,b)):=by
 rcases c with⟨rfl,rfl⟩|⟨rfl,rfl,rfl⟩|⟨rfl,rfl,rfl⟩
 .exact⟨_,rfl⟩
 .rw[cS rfl,cS rfl,Jg VW VW,cN,cS ab9];refine⟨_,rfl,⟨?_,?_,λ_=>rfl,?_⟩⟩
  all_goals grind[dj]
 .rw[cS rfl,cO ab9,Jg VW VW,cN,cS ab9];refine⟨_,rfl,⟨?_,?_,λh=>by(cases h),?_⟩⟩
  all_goals grind[dj]
def Ge{h:Bool}{i a b c d nf f:Int}:ep true (ep (pR i 0) true (ep (dw i 0) (ep h (ep (dw d a) true (ep (dw nf b) true (dw f c))) true) (ep (dw d a) true (ep (dw nf b) true (dw f c))))) true=true↔¬(d=a/\nf=b/\f=c/\0<=i/\(h=true\/i=0)):=by
 grind[BJ,kZ,dw,zF,kv]
def Gc{d:Bool}{i a b c f nf h:Int}:ep true (ep (dw f a) true (ep (dw nf b) true (ep (dw h c) true (ep (pR i 0) true (ep d false (dw i 0)))))) true=true↔¬(f=a/\nf=b/\h=c/\0<=i/\(d=true\/i=0)):=by
 cases d with
 |true=>
  grind[BJ,kZ,kv,c9]
 |false=>grind[BJ,zF,kZ,kv,c9]
def Tz(ty:Bool)(s:Ty):Bool:=if ty then decide (s.err=0)else s.qQ
theorem Fi{k i:Int}{s:Ty}{d nf f:Nat}{h ty:Bool}{a b c:Nat}(hs:Pf.sig k=some (h,ty,a,b,c)):Pf.node k i s d nf f=true↔((d:Int)=a/\(nf:Int)=b/\(f:Int)=c/\0<=i/\(h=true\/i=0))/\Tz ty s=true:=by
 grind[Pf.node,Tz]
def TG(d:da)(A s:Bool)(n:Nat)(o:Option (Bool×da)):Prop:=(A=true->∃a,o=some (true,a)/\TR d a s n)/\(A=false->∃a,o=some (false,a))
theorem TG.no{d a:da}{A s:Bool}{n:Nat}(h:A=false):TG d A s n (some (false,a)):=⟨λb=>(by rw[h] at b;cases b),λ_=>⟨a,rfl⟩⟩
def S1(n:Nat)(d:da)(k i:Int)(s:Ty)(ts:List Tm)(j:List Fm)(l:List Pf):iv (n+1) d (.mk k i s ts j l)=(cW (lb k) λf L=>
 if(ep L (ep (pR i 0) true (ep (dw i 0) (ep f.aix (ep (dw (dq ts) f.dc) true (ep (dw (dq j) f.eg) true (dw (dq l) f.aiv))) true) (ep (dw (dq ts) f.dc) true (ep (dw (dq j) f.eg) true (dw (dq l) f.aiv))))) true) then(
 some (false,d))
 else(de (λ(v26:da)=>
 fa (dE ts)<|de (λ(M:Int) (G:Tm)=>(λ(a:da)=>
 cW (jC G) λo q=>
 cW (gh a o q) λt d179=>
 if t then(
 some (.next d179))
 else(some (.ret (false,d179)))):Int->Tm->(da)->(Option (dV (da) (Bool×da)))) λu=>
 cM (dH u ts 0 v26) (eE (λ(a:da)=>
 fa (dE j)<|de (λ(J:Int) (v:Fm)=>(λ(b:da)=>
 cW (hJ v) λw x=>
 cW (gh b w x) λy d322=>
 if y then(
 some (.next d322))
 else(some (.ret (false,d322)))):Int->Fm->(da)->(Option (dV (da) (Bool×da)))) λA=>
 cM (dH A j 0 a) (eE (λ(b:da)=>
 fa (dE l)<|de (λ(K:Int) (B:Pf)=>(λ(c:da)=>
 cW (iv n c B) λC h=>
 if C then(
 some (.next h))
 else(some (.ret (false,h)))):Int->Pf->(da)->(Option (dV (da) (Bool×da)))) λD=>
 cM (dH D l 0 b) (eE (λ(c:da)=>
 some (true,c)) (λr=>some r))) (λr=>some r))) (λr=>some r))) λF=>
 if f.typed then(
 cW (ia s) λN H=>
 if(dw H 0) then(
 some (false,(da.mk (dF .i64 d.aiw 1) d.il)))
 else(F (da.mk (dF .i64 d.aiw 1) d.il)))
 else(cM (nq s) λI=>
 if I then(
 F (da.mk (dF .i64 d.aiw 1) d.il))
 else(some (false,(da.mk (dF .i64 d.aiw 1) d.il)))))):=by
 rw[iv];rfl
def Vl:∀(n:Nat) (P:Pf) (d:da),P.wt<=n->P.wt<=1000000000->0<=d.aiw->d.aiw+P.aiw<=4000000000->TG d P.ok P.small P.aiw (iv n d P):=by
 intro n
 induction n with
 |zero=>intro P d h;have:=P.gJ;omega
 |succ n ih=>
  intro P d hn hb h0 hd;cases P with
  |mk k i s ts v l=>
   rw[Pf.ee] at hn hb;rw[Pf.cQ] at hd|-;have af:=fR Tm.wt ts λt _=>t.gJ;have ah:=fR Fm.wt v λt _=>t.gJ;have ai:=fR Pf.wt l λt _=>t.gJ;have m1:=jy (l:=ts) (λx _=>Tm.gM x);have m2:=jy (l:=v) (λx _=>Fm.gM x);have m3:=jy (l:=l) (λx _=>Pf.gM x);rw[Pf.fX,Pf.zx,S1];rcases JH k with⟨N,r,Q⟩|⟨ix,ty,a,b,c,r,N,Q,g1,g2,g3,g4,g5⟩
   .rw[Q,cN,zF,cS rfl];exact TG.no (by simp[Pf.node,N])
   .rw[Q,cN,g1,g2,g3,g4,g5,eo,eo,eo]
    by_cases O:(ts.length:Int)=a/\(v.length:Int)=b/\(l.length:Int)=c/\0<=i/\(ix=true\/i=0)
    .rw[cO (λh=>Ge.1 h O)]
     have w:Pf.node k i s ts.length v.length l.length=Tz ty s:=by
      rw[CY,Fi N];exact⟨λh=>h.2,λh=>⟨O,h⟩⟩
     rw[w];cases f:Tz ty s with
     |false=>
      have e:∀j:da->Option (Bool×da),(if ty then cW (ia s) λak R=>if(dw R 0) then some (false,(da.mk (dF .i64 d.aiw 1) d.il))else j (da.mk (dF .i64 d.aiw 1) d.il)else cM (nq s) λS=>if S then j (da.mk (dF .i64 d.aiw 1) d.il)else some (false,(da.mk (dF .i64 d.aiw 1) d.il)))=some (false,(da.mk (dF .i64 d.aiw 1) d.il)):=by grind[Tz,dw,c9,kM,cN,q8,cv]
      refine pD (λ_=>False) (λ_ h=>h.elim) (λj _=>?_);rw[e j];exact TG.no acZ
     |true=>
      refine pD (λd1=>d1.aiw=d.aiw+1/\d1.il=d.il) (λd1 o=>?_) (λj hj=>?_)
      .have t1:=xx (F:=λ(an:Int) (T:Tm)=>(λ(y:da)=>cW (jC T) λA B=>cW (gh y A B) λC d179=>if C then some (.next d179)else some (.ret (false,d179)))) Tm.ok Rk Tm.aiw ts 0 d1 VW VW (λj x d q q0 q1=>by
        have:=di Tm.wt q;have:=x.gM;rw[rC VW,cN]
        exact FW x.CW VW q0 q1)
       rw[c8 VW,cY,c6];cases a1:ts.all Tm.ok with
       |false=>
        rw[a1,cO ab9] at t1;obtain⟨d2,U⟩:=t1;rw[U,cv,pd];exact TG.no acZ
       |true=>
        rw[a1,cS rfl] at t1;obtain⟨d2,U,V⟩:=t1;have u1:=V.lo;have u2:=V.hi;rw[U,cv,dk,c8 VW,cY,c6]
        have t2:=xx (F:=λ(ad:Int) (D:Fm)=>(λ(G:da)=>cW (hJ D) λH I=>cW (gh G H I) λJ d322=>if J then some (.next d322)else some (.ret (false,d322)))) Fm.ok TP Fm.aiw v 0 d2 VW VW (λj x d q q0 q1=>by
         have:=di Fm.wt q;have:=x.gM;rw[oY VW,cN]
         exact FW x.CW VW q0 q1)
        cases a2:v.all Fm.ok with
        |false=>
         rw[a2,cO ab9] at t2;obtain⟨d3,W⟩:=t2;rw[W,cv,pd];exact TG.no acZ
        |true=>
         rw[a2,cS rfl] at t2;obtain⟨d3,W,X⟩:=t2;have u3:=X.lo;have u4:=X.hi;rw[W,cv,dk,c8 VW,cY,c6]
         have t3:=xx (F:=λ(ae:Int) (K:Pf)=>(λ(L:da)=>cW (iv n L K) λM u=>if M then some (.next u)else some (.ret (false,u)))) Pf.ok Pf.small Pf.aiw l 0 d3 VW VW (λj x d q q0 q1=>by
          have:=di Pf.wt q;have:=di Pf.aiw q;have:=x.gM;have q:=ih x d VW VW q0 VW;cases ho:x.ok with
          |true=>
           obtain⟨Y,Z,w2⟩:=q.1 ho;rw[cS rfl,Z,cN,cS rfl];exact⟨Y,rfl,w2⟩
          |false=>
           obtain⟨Y,Z⟩:=q.2 ho;rw[cO ab9,Z,cN,cO ab9]
           exact⟨Y,rfl⟩)
         cases a3:l.all Pf.ok with
         |false=>
          rw[a3,cO ab9] at t3;obtain⟨d4,e4⟩:=t3;rw[e4,cv,pd];exact TG.no acZ
         |true=>
          rw[a3,cS rfl] at t3;obtain⟨d4,e4,r4⟩:=t3;rw[e4,cv,dk];refine⟨λ_=>⟨d4,rfl,?_⟩,λh=>by simp at h⟩;have r0:TR d d1 true 1:=⟨VW,VW,λ_=>by omega,by simp[o.2]⟩;have:=((r0.trans V).trans X).trans r4;rw[zj] at this;exact this
      .have o:=hj (da.mk (dF .i64 d.aiw 1) d.il) ⟨by show dF .i64 d.aiw 1=_;rw[dP VW VW],rfl⟩;unfold Tz at f
       by_cases ht:ty=true
       .rw[cS ht] at f|-
        have hz:¬dw s.err 0=true:=by rw[c9];simpa using f
        rw[kM VW,cN,cO hz];exact o
       .rw[cO ht] at f|-;rw[q8,cv,f,cS rfl];exact o
    .rw[cS (Ge.2 O)];refine TG.no ?_
     have:Pf.node k i s ts.length v.length l.length=false:=by
      rw[L5]
      exactλh=>O ((Fi N).1 h).1
     rw[this];simp
def zs{P:Pf}(h:P.wt<=1000000000):qU P=some P.err:=by
 have hn:=P.gM;have b:=Vl FU P (da.mk 0 false) (by rw[dY];omega) h (by show(0:Int)<=0;omega) (by show(0:Int)+_<=_;omega);unfold qU qa Pf.err;cases c:P.ok with
 |false=>
  obtain⟨a,e⟩:=b.2 c
  grind[cN]
 |true=>
  obtain⟨a,e,r⟩:=b.1 c;rw[e,cN,cS rfl,cS rfl];have d:a.il=!P.small:=r.il;rw[d,kZ];cases hs:P.small with
  |false=>grind[cN]|true=>
   have f:a.aiw=(0:Int)+P.aiw:=r.eq hs
   grind[fy,cN]
def RS(n:Nat)(k i:Int)(s:Ty)(ts:List Tm)(o:List Fm)(l:List Pf):nw (n+1) (.mk k i s ts o l)=(cW (o7 k) λb A=>
 if(ep A (ep (dw (dq ts) b.dc) true (ep (dw (dq o) b.eg) true (ep (dw (dq l) b.aiv) true (ep (pR i 0) true (ep b.aix false (dw i 0)))))) true) then(
 some false)
 else(de (λ(v33:Bool)=>
 if v33 then(
 some false)
 else(fa (dE ts)<|de (λ(B:Int) (q:Tm)=>(λ(_:Unit)=>
 cM (jW FU q) λt=>
 if t then(
 some (.next ()))
 else(some (.ret false))):Int->Tm->(Unit)->(Option (dV (Unit) (Bool)))) λu=>
 cM (dH u ts 0 ()) (eE (λ(_:Unit)=>
 fa (dE o)<|de (λ(C:Int) (v:Fm)=>(λ(_:Unit)=>
 cM (ld FU v) λc=>
 if c then(
 some (.next ()))
 else(some (.ret false))):Int->Fm->(Unit)->(Option (dV (Unit) (Bool)))) λd=>
 cM (dH d o 0 ()) (eE (λ(_:Unit)=>
 fa (dE l)<|de (λ(y:Int) (f:Pf)=>(λ(_:Unit)=>
 cM (nw n f) λh=>
 if h then(
 some (.next ()))
 else(some (.ret false))):Int->Pf->(Unit)->(Option (dV (Unit) (Bool)))) λj=>
 cM (dH j l 0 ()) (eE (λ(_:Unit)=>
 some true) (λr=>some r))) (λr=>some r))) (λr=>some r)))) λa=>
 if b.oG then(
 cM (hY s) λw=>
 if(dw w 0) then(
 a true)
 else(a false))
 else(cM (oS s) λx=>
 a (oF x)))):=by
 rw[nw];rfl
def Hc:∀(n:Nat) (P:Pf),P.wt<=n->P.wt<=1000000000->nw n P=some P.ok:=by
 intro n
 induction n with
 |zero=>intro P h;have:=P.gJ;omega
 |succ n ih=>
  intro P hn C;cases P with
  |mk k i s ts q l=>
   rw[Pf.ee] at hn C;have D:=fR Tm.wt ts λt _=>t.gJ;have F:=fR Fm.wt q λt _=>t.gJ;have H:=fR Pf.wt l λt _=>t.gJ;rw[Pf.fX,RS];rcases Qd k with⟨y,r,A⟩|⟨I,ty,a,b,c,r,y,A,g1,g2,g3,g4,g5⟩
   .rw[A,cN,zF,cS rfl];simp[Pf.node,y]
   .rw[A,cN,g1,g2,g3,g4,g5,eo,eo,eo]
    by_cases B:(ts.length:Int)=a/\(q.length:Int)=b/\(l.length:Int)=c/\0<=i/\(I=true\/i=0)
    .rw[cO (λh=>Gc.1 h B)]
     have f:Pf.node k i s ts.length q.length l.length=Tz ty s:=by
      rw[CY,Fi y];exact⟨λh=>h.2,λh=>⟨B,h⟩⟩
     rw[f];refine pD (G:=λo=>o=some (Tz ty s&&ts.all Tm.ok&&q.all Fm.ok&&l.all Pf.ok)) (λv=>v=!Tz ty s) (λv J=>?_) (λj K=>?_)
     .rw[J];cases Tz ty s with
      |false=>rfl|true=>
       rw[cO ab9,c8 VW,cY,c6,qe Tm.ok false ts 0 (λj x w=>by
        have:=di Tm.wt w
        rw[xi VW,cv]),zj]
       cases ts.all Tm.ok with
       |false=>rfl|true=>
        rw[cS rfl,cv,dk,c8 VW,cY,c6,qe Fm.ok false q 0 (λj x w=>by
         have:=di Fm.wt w
         rw[yN FU x (by rw[dY];omega) VW,cv]),zj]
        cases q.all Fm.ok with
        |false=>rfl|true=>
         rw[cS rfl,cv,dk,c8 VW,cY,c6,qe Pf.ok false l 0 (λj x w=>by
          have:=di Pf.wt w
          rw[ih x VW VW,cv]),zj]
         cases l.all Pf.ok with
         |false=>rfl|true=>rfl
     .have d:=K (!Tz ty s) rfl;unfold Tz at d|-
      by_cases u:ty=true
      .rw[cS u] at d;rw[cS u,cS u,lJ VW,cv]
       grind[dw,c9]
      .rw[cO u] at d;rw[cO u,cO u,vB,cv,Q7];exact d
    .rw[cS (Gc.2 B)]
     grind[Pf.node,Fi]
def yj:∀(n:Nat) (P:Pf),P.wt<=n->P.wt<=1000000000->qG n P=some P.small:=by
 intro n
 induction n with
 |zero=>intro P h;have:=P.gJ;omega
 |succ n ih=>
  intro P hn c;cases P with
  |mk k i s ts b l=>
   rw[Pf.ee] at hn c;have d:=fR Tm.wt ts λt _=>t.gJ;have f:=fR Fm.wt b λt _=>t.gJ;have o:=fR Pf.wt l λt _=>t.gJ;rw[Pf.zx,qG];simp only[Pf.gf,Pf.Hn,Pf.dh,c6]
   rw[c8 VW,cY,qe Rk false ts 0 (λj x a=>by
    have:=di Tm.wt a;have:=x.gM;rw[nb FU x (by rw[dY];omega) VW,cv]
    by_cases hs:x.aiw<=4096
    .grind[fy,Rk]
    .rw[cS (by rw[fy];omega),cO (by simpa[Rk] using hs)])]
   cases ts.all Rk with
   |false=>rfl|true=>
    rw[cS rfl,cv,dk,c8 VW,cY,qe TP false b 0 (λj x a=>by
     have:=di Fm.wt a;have:=x.gM;rw[rk FU x (by rw[dY];omega) VW,cv]
     by_cases hs:x.aiw<=4096
     .rw[cO (by rw[fy];omega),cS (show TP x=true from vD hs)]
     .rw[cS (by rw[fy];omega),cO (by simpa[TP] using hs)]),zj]
    cases b.all TP with
    |false=>rfl|true=>
     rw[cS rfl,cv,dk,c8 VW,cY,qe Pf.small false l 0 (λj x a=>by
      have:=di Pf.wt a
      rw[ih x VW VW,cv]),zj]
     cases l.all Pf.small with
     |false=>rfl|true=>rfl
theorem zh:∀(n:Nat) (P:Pf),P.wt<=n->P.wt<=1000000000->qz n P=some (P.aiw:Int):=by
 intro n
 induction n with
 |zero=>intro P h;have:=P.gJ;omega
 |succ n ih=>
  intro P hn c;cases P with
  |mk k i s ts b l=>
   rw[Pf.ee] at hn c;have d:=fR Tm.wt ts λt _=>t.gJ;have f:=fR Fm.wt b λt _=>t.gJ;have o:=fR Pf.wt l λt _=>t.gJ;have m1:=jy (l:=ts) (λx _=>Tm.gM x);have m2:=jy (l:=b) (λx _=>Fm.gM x);have m3:=jy (l:=l) (λx _=>Pf.gM x);rw[Pf.cQ,qz];simp only[Pf.gf,Pf.Hn,Pf.dh,c6]
   rw[c8 VW,cY,show(1:Int)=((1:Nat):Int)from rfl,pc Tm.aiw ts 0 1 VW (λj x v a=>by
    have:=di Tm.wt a;have:=x.gM
    rw[nb FU x (by rw[dY];omega) VW,cv]),cv,dk,c8 VW,cY,pc Fm.aiw b 0 _ VW (λj x v a=>by
    have:=di Fm.wt a;have:=x.gM
    rw[rk FU x (by rw[dY];omega) VW,cv]),cv,dk,c8 VW,cY,pc Pf.aiw l 0 _ VW (λj x v a=>by
    have:=di Pf.wt a
    rw[ih x VW VW,cv]),cv,dk]
def uv{P:Pf}(h:P.wt<=1000000000):nx P=some P.err:=by
 unfold nx r_ Pf.err;rw[Hc FU P (by rw[dY];omega) h,cv];cases P.ok with
 |false=>rfl|true=>
  rw[cS rfl,cS rfl,c6,yj FU P (by rw[dY];omega) h,cv];cases P.small with
  |false=>rfl|true=>grind[zh,FU,dY,cv,Ff]
def Pf.aah{P:Pf}(h:P.err=0):y5 P/\P.aiw<=16384:=by
 unfold Pf.err at h;cases b:P.ok with
 |false=>grind|true=>
  by_cases a:P.small=true/\P.aiw<=16384
  .exact⟨P.w b a.1,a.2⟩
  .grind
end Go.eZ
